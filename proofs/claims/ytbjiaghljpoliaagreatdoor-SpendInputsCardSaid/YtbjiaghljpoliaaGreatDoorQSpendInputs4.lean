/- Texts of ours, joined: PlainX2, PlainX3, PlainY1, PlainX4, PlainX5, PlainH1, PlainH2, PlainX6, PlainR1, PlainY2, PlainU1, PlainU2, PlainU3, PlainU4, PlainV1, PlainV2, PlainV3, PlainN1, PlainC1, PlainN2, PlainV4, PlainV5, PlainV6, PlainVG, PlainC2, PlainC3, PlainVH, PlainVI, PlainC4. -/
import Derived.Test.YtbjiaghljpoliaaGreatDoorQSpendInputs3
open Option renaming bind_some → aVO,bind_eq_some_iff → aWk
open Bool renaming false_eq_true → aVP,true_and → aVX,not_true → aV0,not_false → aWi,and_eq_true → aW0,false_and → aW9
open Go.IntKind renaming i64 → aVQ,u64 → aV6,u32 → aV8,u8 → aWd,wrap_u64 → aXk,wrap_u8 → aXm
open List renaming replicate → aVR,length_append → aVS,nil_append → aVU,take_of_length_le → aVW,drop_zero → aVY,getElem_mem → aV1,append_assoc → aV2,length_set → aV5,getElem?_eq_getElem → aV9,length_cons → aWc,drop_eq_getElem_cons → aWh,drop_eq_nil_of_le → aWl,length_replicate → aWn,flatMap_cons → aWo,flatten_cons → aWp,mem_of_mem_take → aWr,range'_succ → aWt,getElem?_replicate → aWz,append_nil → aWA,getElem?_set_self → aWE,range → aWG,flatten_nil → aWK,mem_of_mem_drop → aWM,mem_cons → aWN,range_zero → aWO,range' → aWP,foldl_cons → aWQ,replicate_succ → aWR,getD_eq_getElem?_getD → aWV,mem_map → aWW,mem_singleton → aWX,mem_or_eq_of_mem_set → aWY,all_eq_true → aW1,cons_append → aW2,map_nil → aW3,mem_append → aW6,set_set → aXh,not_mem_nil → aXl,length_nil → aXn
open Int renaming toNat_natCast → aVT,toNat → aWe,toNat_of_nonneg → aWv,tmod → aW8,tdiv → aXg
open Nat renaming mod_eq_of_lt → aVV,mod_lt → aVZ,mul_comm → aV3,mul_le_mul_right → aV4,two_pow_add_eq_or_of_lt → aV7,lt_of_lt_of_le → aWa,le_refl → aWb,pow_succ → aWf,div_lt_iff_lt_mul → aWg,sub_zero → aWj,mod_eq_sub_mod → aWm,mul_left_comm → aWq,mul_le_mul → aWs,add_mul → aWu,pow_pos → aWw,pow_add → aWx,pow_zero → aWy,mul_assoc → aWB,lt_of_le_of_lt → aWC,testBit_eq_decide_div_mod_eq → aWD,div_div_eq_div_mul → aWF,zero_le → aWH,le_pred_of_lt → aWI,add_zero → aWJ,div_eq_of_lt → aWL,mul_add → aWS,div_add_mod → aWT,add_le_add_left → aWU,add_assoc → aWZ,zero_mul → aW4,zero_add → aW5,lt_trans → aW7,pred_eq_sub_one → aXa,add_mod → aXb,mul_mod → aXc,mul_one → aXd,div_one → aXe,mul_right_comm → aXf,add_comm → aXi,le_trans → aXj,mod_mod → aXp
open List.cons renaming injEq → aXo
set_option linter.unusedSimpArgs false
set_option linter.unusedVariables false
set_option linter.unusedSectionVars false
namespace Go.Proofs.YtbjiaghljpoliaaGreatDoor
open Go Go.Vm
structure aDx (ins:List aK)(outs:List aG):Prop where
 ni:ins.length≤70
 no:outs.length≤70
 wit: ∀x∈ins,x.Witness.length≤40∧ ∀w∈x.Witness,w.length≤600
 scr: ∀o∈outs,o.Script.length≤600
 tx: ∀x∈ins,x.Prev.Tx.length=32
def inB (x:aK):List Int:=(x.Prev.Tx++pG x.Prev.Index)++pG x.Sequence
def itB (w:List Int):List Int:=szB w.length++w
def wiB (x:aK):List Int:=szB x.Witness.length++x.Witness.flatMap itB
def aQn (v:Int)(ins:List aK)(outs:List aG)(lock:Int)(wit:Bool):List Int:=
 ((((pG v++szB ins.length)++ins.flatMap inB)++szB outs.length)++outs.flatMap oJ)++pG lock++(if wit then ins.flatMap wiB else [])
theorem yK {α:Type}{g:α→List Int}{c:Nat}: ∀(l:List α),(∀x∈l,(g x).length≤c)→(l.flatMap g).length≤l.length*c
 | [],_=>by simp
 |x::l,h=>by
  have h1:=h x (by simp)
  have h2:=yK l (fun y hy=>h y (by simp[hy]))
  rw[aWo,aVS,aWc,aWu,Nat.one_mul];omega
theorem aL3 {w:List Int}(h:w.length≤600):(itB w).length≤605:=by have:=pW w.length;simp only[itB,aVS];omega
theorem aTE {x:aK}(h:x.Witness.length≤40∧ ∀w∈x.Witness,w.length≤600):(wiB x).length≤24205:=by
 have h1:=pW x.Witness.length
 have h2:=yK (g:=itB) (c:=605) x.Witness (fun w hw=>aL3 (h.2 w hw))
 have h3:=aV4 605 h.1
 simp only[wiB,aVS];omega
theorem aJu {x:aK}(h:x.Prev.Tx.length=32):(inB x).length=40:=by simp[inB,cY,h]
theorem aGI {o:aG}(h:o.Script.length≤600):(oJ o).length≤613:=by
 have:=pW o.Script.length
 simp only[oJ,aVS,aDo];omega
theorem aGw {ins:List aK}{outs:List aG}(K:aDx ins outs):(ins.flatMap inB).length≤2800:=by
 have:=yK (g:=inB) (c:=40) ins (fun x hx=>Nat.le_of_eq (aJu (K.tx x hx)))
 have:=aV4 40 K.ni
 omega
theorem aAr {ins:List aK}{outs:List aG}(K:aDx ins outs):(outs.flatMap oJ).length≤42910:=by
 have:=yK (g:=oJ) (c:=613) outs (fun x hx=>aGI (K.scr x hx))
 have:=aV4 613 K.no
 omega
theorem aMY {ins:List aK}{outs:List aG}(K:aDx ins outs):(ins.flatMap wiB).length≤1694350:=by
 have:=yK (g:=wiB) (c:=24205) ins (fun x hx=>aTE (K.wit x hx))
 have:=aV4 24205 K.ni
 omega
section
variable (N:Nat)(hN:70000≤N){v:Int}{ins:List aK}{outs:List aG}{lock:Int}(K:aDx ins outs)
include hN K
theorem aL8 (b:Bool)(acc:List Int)(h:acc.length≤100000):mE N v ins outs lock b N 0 acc=some (acc++ins.flatMap inB):=by
 have hn:=K.ni
 have hl:=aGw K
 refine m9 (f:=mE N v ins outs lock b) (xs:=ins) (g:=inB) (B:=200000) (by omega) (fun m j acc hj hB=> ?_) (fun m j acc hj=> ?_) N 0 acc (by omega) (by omega) (by rw[aVY];omega)
 ·have ht:=K.tx _ (aV1 hj)
  rw[aJu ht]at hB
  rw[mE,dT hj,if_pos rfl,cL ins hj]
  simp only[aVO,aOS N hN _ _ ht]
  rw[iZ (by simp[cY];omega)]
  simp only[aVO,aJI N hN _ _ (show([]:List Int).length≤40000000 by simp),aVU]
  rw[iZ (by simp[cY];omega)]
  simp only[aVO,i1 (show j≤100000 by omega),inB,aV2]
 rw[mE,dF (by omega)];rfl
theorem aL7 (b:Bool)(acc:List Int)(h:acc.length≤100000):mA N v ins outs lock b N 0 acc=some (acc++outs.flatMap oJ):=by
 have hn:=K.no
 have hl:=aAr K
 refine m9 (f:=mA N v ins outs lock b) (xs:=outs) (g:=oJ) (B:=200000) (by omega) (fun m j acc hj hB=> ?_) (fun m j acc hj=> ?_) N 0 acc (by omega) (by omega) (by rw[aVY];omega)
 ·have ht:=K.scr _ (aV1 hj)
  have hs:=pW outs[j].Script.length
  rw[mA,dT hj,if_pos rfl,cL outs hj]
  simp only[aVO,aTe N hN _ _ (show([]:List Int).length≤40000000 by simp),aVU]
  rw[iZ (by rw[aDo];omega)]
  simp only[aVO,aLY N hN [] _ (show outs[j].Script.length≤1000000 by omega) (by simp),aVU]
  rw[iZ (by simp only[aVS,aDo];omega)]
  simp only[aVO,i1 (show j≤100000 by omega),oJ,aV2]
 rw[mA,dF (by omega)];rfl
theorem aL6 (x:Int)(w:aK)(hw:w.Witness.length≤40∧ ∀z∈w.Witness,z.length≤600)(acc:List Int)(h:acc.length≤5000000):lV N ins x w N 0 acc=some (acc++w.Witness.flatMap itB):=by
 have hl:=yK (g:=itB) (c:=605) w.Witness (fun z hz=>aL3 (hw.2 z hz))
 have:=aV4 605 hw.1
 refine m9 (f:=lV N ins x w) (xs:=w.Witness) (g:=itB) (B:=6000000) (by omega) (fun m j acc hj hB=> ?_) (fun m j acc hj=> ?_) N 0 acc (by omega) (by omega) (by rw[aVY];omega)
 ·have ht:=hw.2 _ (aV1 hj)
  rw[lV,dT hj,if_pos rfl,cL w.Witness hj]
  simp only[aVO,aLY N hN [] _ (show w.Witness[j].length≤1000000 by omega) (by simp),aVU]
  rw[iZ (by simp only[itB]at hB;omega)]
  simp only[aVO,i1 (show j≤100000 by omega),itB]
 rw[lV,dF (by omega)];rfl
theorem aL4 (acc:List Int)(h:acc.length≤1000000):kO N ins N 0 acc=some (acc++ins.flatMap wiB):=by
 have hn:=K.ni
 have hl:=aMY K
 refine m9 (f:=kO N ins) (xs:=ins) (g:=wiB) (B:=4000000) (by omega) (fun m j acc hj hB=> ?_) (fun m j acc hj=> ?_) N 0 acc (by omega) (by omega) (by rw[aVY];omega)
 ·have ht:=K.wit _ (aV1 hj)
  have hs:=pW ins[j].Witness.length
  rw[kO,dT hj,if_pos rfl,cL ins hj]
  simp only[aVO,aKK N hN [] _ (show ins[j].Witness.length≤1000000 by omega) (by simp),aVU]
  rw[iZ (by omega)]
  simp only[aVO]
  rw[aL6 N hN K _ _ ht _ (by rw[aVS];omega)]
  simp only[aVO,aBm,i1 (show j≤100000 by omega),wiB,aV2]
 rw[kO,dF (by omega)];rfl
theorem aJW :aAB N v ins outs lock true=some (aQn v ins outs lock true):=by
 have hn:=K.ni
 have ho:=K.no
 have h1:=pW ins.length
 have h2:=pW outs.length
 have h3:=aGw K
 have h4:=aAr K
 simp only[aAB,aJI N hN [] _ (by simp),aVO,aVU,aKK N hN [] _ (show ins.length≤1000000 by omega) (by simp)]
 rw[iZ (by rw[cY];omega)]
 simp only[aVO]
 rw[aL8 N hN K _ _ (by rw[aVS,cY];omega)]
 simp only[aVO,aAV,aKK N hN [] _ (show outs.length≤1000000 by omega) (by simp),aVU]
 rw[iZ (by simp only[aVS,cY];omega)]
 simp only[aVO]
 rw[aL7 N hN K _ _ (by simp only[aVS,cY];omega)]
 simp only[aVO,aAH,aJI N hN [] _ (show([]:List Int).length≤40000000 by simp),aVU]
 rw[iZ (by simp only[aVS,cY];omega)]
 simp only[aVO,aV0,aVP,if_false]
 rw[aL4 N hN K _ (by simp only[aVS,cY];omega)]
 rfl
end
end Go.Proofs.YtbjiaghljpoliaaGreatDoor
set_option maxRecDepth 4000
namespace Go.Proofs.YtbjiaghljpoliaaGreatDoor
open Go Go.Vm
theorem nle (a b:Nat):decide ((a:Int)<(b:Int))= !decide (b≤a):=by
 by_cases h:a<b
 ·rw[decide_eq_true (by omega),decide_eq_false (by omega)];rfl
 rw[decide_eq_false (by omega),decide_eq_true (by omega)];rfl
theorem dle (n:Nat):decide ((n:Int)≤20000)=decide (n≤20000):=by
 by_cases h:n≤20000
 ·rw[decide_eq_true h,decide_eq_true (by omega)]
 rw[decide_eq_false h,decide_eq_false (by omega)]
theorem aQh (N:Nat)(hN:70000≤N)(l:List (List Int))(n k:Nat)(hn:n≤1000):aAW N l (n:Int) (k:Int)=some (decide (l.length≤n)&&l.all fun w=>decide (w.length≤k)):=by
 unfold aAW
 rw[nle]
 by_cases h:l.length≤n
 ·rw[decide_eq_true h]
  simp only[aV0,aVP,if_false,aVX]
  have:=nF (f:=mW N l (k:Int)) (xs:=l) (p:=fun w=>decide (w.length≤k)) (r:=false) (fun m j hj=>by
    rw[mW,dT hj,if_pos rfl,cL l hj]
    simp only[aVO,nle,i1 (show j≤100000 by omega)]
    cases decide (l[j].length≤k)<;>rfl) (fun m j hj=>by rw[mW,dF (by omega)];rfl) N 0 (by omega) (by omega)
  rw[show((0:Nat):Int)=0 from rfl,aVY]at this
  rw[this]
  cases l.all fun w=>decide (w.length≤k)<;>rfl
 rw[decide_eq_false h];rfl
def aId (x:aK):Bool:=decide (x.Witness.length≤40)&&x.Witness.all fun w=>decide (w.length≤600)
def aH2 (ins:List aK)(outs:List aG):Bool:=decide (ins.length≤70)&&decide (outs.length≤70)&&ins.all aId&&outs.all fun o=>decide (o.Script.length≤600)
theorem aOU (N:Nat)(hN:70000≤N)(v:Int)(ins:List aK)(outs:List aG)(lock:Int):aEA N v ins outs lock=some (aH2 ins outs):=by
 unfold aEA aH2
 rw[show(70:Int)=((70:Nat):Int)from rfl,nle,nle]
 by_cases h:ins.length≤70
 ·rw[decide_eq_true h]
  simp only[aV0,aVP,if_false,aVX,aA8]
  by_cases h2:outs.length≤70
  ·rw[decide_eq_true h2]
   simp only[aV0,aVP,if_false,aVX]
   have l5:=nF (f:=r8 N v ins outs lock) (xs:=ins) (p:=aId) (r:=false) (fun m j hj=>by
     rw[r8,dT hj,if_pos rfl,cL ins hj]
     simp only[aVO,show(40:Int)=((40:Nat):Int)from rfl,show(600:Int)=((600:Nat):Int)from rfl,aQh N hN _ 40 600 (by omega),i1 (show j≤100000 by omega)]
     rw[show aId ins[j]=(decide (ins[j].Witness.length≤40)&&ins[j].Witness.all fun w=>decide (w.length≤600))from rfl]
     cases (decide (ins[j].Witness.length≤40)&&ins[j].Witness.all fun w=>decide (w.length≤600))<;>rfl) (fun m j hj=>by rw[r8,dF (by omega)];rfl) N 0 (by omega) (by omega)
   have l4:=nF (f:=sA N outs) (xs:=outs) (p:=fun o=>decide (o.Script.length≤600)) (r:=false) (fun m j hj=>by
     rw[sA,dT hj,if_pos rfl,cL outs hj]
     simp only[aVO,show(600:Int)=((600:Nat):Int)from rfl,nle,i1 (show j≤100000 by omega)]
     cases decide (outs[j].Script.length≤600)<;>rfl) (fun m j hj=>by rw[sA,dF (by omega)];rfl) N 0 (by omega) (by omega)
   rw[show((0:Nat):Int)=0 from rfl,aVY]at l5 l4
   rw[l5]
   cases ins.all aId
   ·rfl
   simp only[aVO,if_true,aCK,l4,aVX]
   cases outs.all fun o=>decide (o.Script.length≤600)<;>rfl
  rw[decide_eq_false h2];rfl
 rw[decide_eq_false h];rfl
theorem aQ9 {ins:List aK}{outs:List aG}(h:aH2 ins outs=true)(ht: ∀x∈ins,x.Prev.Tx.length=32):aDx ins outs:=by
 simp only[aH2,aW0,decide_eq_true_eq,aW1]at h
 obtain⟨⟨⟨h1,h2⟩,h3⟩,h4⟩:=h
 refine⟨h1,h2,fun x hx=> ?_,h4,ht⟩
 have:=h3 x hx
 simp only[aId,aW0,decide_eq_true_eq,aW1]at this
 exact this
def aHd (o:aG):Bool:= !decide (o.Value<0)&&decide (o.Script.length≤520)
def aHC (x:aK):Bool:=decide (x.Witness.length≤32)&&x.Witness.all fun w=>decide (w.length≤520)
def aE5 (v:Int)(ins:List aK)(outs:List aG)(lock:Int):Bool:=
 decide (ins.length≤64)&&decide (outs.length≤64)&&outs.all aHd&&ins.all aHC&&decide ((aQn v ins outs lock true).length≤20000)
theorem aRX (N:Nat)(hN:70000≤N){v:Int}{ins:List aK}{outs:List aG}{lock:Int}(K:aDx ins outs):aC4 N v ins outs lock=some (aE5 v ins outs lock):=by
 have k1:=K.ni
 have k2:=K.no
 unfold aC4 aE5
 rw[show(64:Int)=((64:Nat):Int)from rfl,nle,nle]
 by_cases h:ins.length≤64
 ·rw[decide_eq_true h]
  simp only[aV0,aVP,if_false,aVX,aA7]
  by_cases h2:outs.length≤64
  ·rw[decide_eq_true h2]
   simp only[aV0,aVP,if_false,aVX]
   have l7:=nF (f:=oD N v ins outs lock) (xs:=outs) (p:=aHd) (r:=false) (fun m j hj=>by
     rw[oD,dT hj,if_pos rfl,cL outs hj]
     simp only[aVO,show(520:Int)=((520:Nat):Int)from rfl,nle,i1 (show j≤100000 by omega),aAG]
     rw[show aHd outs[j]=(!decide (outs[j].Value<0)&&decide (outs[j].Script.length≤520))from rfl]
     cases decide (outs[j].Value<0)<;>cases decide (outs[j].Script.length≤520)<;>rfl) (fun m j hj=>by rw[oD,dF (by omega)];rfl) N 0 (by omega) (by omega)
   have l6: ∀(x:Int)(w:aK),w.Witness.length≤32→pK N v ins outs lock x w N 0=some (if(w.Witness.all fun w=>decide (w.length≤520))=true then .brk ()else .ret false):=fun x w hw=>by
    have:=nF (f:=pK N v ins outs lock x w) (xs:=w.Witness) (p:=fun w=>decide (w.length≤520)) (r:=false) (fun m j hj=>by
     rw[pK,dT hj,if_pos rfl,cL w.Witness hj]
     simp only[aVO,show(520:Int)=((520:Nat):Int)from rfl,nle,i1 (show j≤100000 by omega)]
     cases decide (w.Witness[j].length≤520)<;>rfl) (fun m j hj=>by rw[pK,dF (by omega)];rfl) N 0 (by omega) (by omega)
    rw[show((0:Nat):Int)=0 from rfl,aVY]at this
    exact this
   have l4:=nF (f:=pN N v ins outs lock) (xs:=ins) (p:=aHC) (r:=false) (fun m j hj=>by
     rw[pN,dT hj,if_pos rfl,cL ins hj]
     simp only[aVO,show(32:Int)=((32:Nat):Int)from rfl,nle,i1 (show j≤100000 by omega)]
     rw[show aHC ins[j]=(decide (ins[j].Witness.length≤32)&&ins[j].Witness.all fun w=>decide (w.length≤520))from rfl]
     by_cases hw:ins[j].Witness.length≤32
     ·rw[decide_eq_true hw]
      simp only[aV0,aVP,if_false,aVX,l6 _ _ hw,aVO,aCN]
      cases ins[j].Witness.all fun w=>decide (w.length≤520)
      ·rfl
      simp only[if_true,i1 (show j≤100000 by omega)]
     rw[decide_eq_false hw];rfl) (fun m j hj=>by rw[pN,dF (by omega)];rfl) N 0 (by omega) (by omega)
   rw[show((0:Nat):Int)=0 from rfl,aVY]at l7 l4
   rw[l7]
   cases outs.all aHd
   ·rfl
   simp only[aVO,if_true,aCI,l4,aVX]
   cases ins.all aHC
   ·rfl
   simp only[aVO,if_true,aCZ,aJW N hN K,aVX]
   rw[dle]
  rw[decide_eq_false h2];rfl
 rw[decide_eq_false h];rfl
theorem aCh (N:Nat)(hN:70000≤N)(v:Int)(w:Nat)(hw:w≤100):kN N v (w:Int)=some (aAq w v):=by
 have hmk:mks 1 (0:Int) (w:Int)=some (aVR w 0):=aEy (by have:=jT;omega)
 have hl0:(aVR w (0:Int)).length=w:=by simp
 have:=aG8 (f:=kG N v (aVR w 0)) w v hw (fun m j acc hj hl=>by
   obtain⟨y,h1,h2⟩:=aSZ v j (by omega)
   rw[kG,hl0,dT hj,if_pos rfl,h1,cL acc (by omega:j<acc.length)]
   simp only[aVO,aVT,h2,i1 (show j≤100000 by omega)])
  (fun m acc hl=>by rw[kG,hl0,dF (Nat.lt_irrefl w)];rfl) N 0 (by omega) (by omega)
 simp only[kN,hmk,aVO,v4]
 simp only[aWO,aW3,aVU,aWj]at this
 rw[show((0:Nat):Int)=0 from rfl]at this
 rw[this];rfl
theorem pQ (N:Nat)(b v:List Int)(h:b.length+v.length≤50000000):eJ N b v=some (b++v):=by
 have hmk:mks 1 (0:Int) (aVQ.wrap ((b.length:Int)+(v.length:Int)))=some (aVR (b.length+v.length) 0):=by
  rw[cR (by omega) (by omega),show(b.length:Int)+(v.length:Int)=((b.length+v.length:Nat):Int) by omega]
  exact aEy (by have:=jT;omega)
 simp only[eJ,hmk,aVO,List.take_zero]
 rw[iZ (by simp;omega)]
 simp only[aVO,aVU]
 rw[iZ (by omega)];rfl
section
variable (N:Nat)(hN:70000≤N)
include hN
theorem aGn (b:List Int)(v:Int)(h:b.length≤40000000):fI N b v=some (b++pG v):=by
 simp only[fI,show(4:Int)=((4:Nat):Int)from rfl,aCh N hN _ 4 (by omega),aVO]
 rw[pQ N _ _ (by rw[mH];omega)];rfl
theorem aUY (b:List Int)(v:Int)(h:b.length≤40000000):r7 N b v=some (b++aNi v):=by
 simp only[r7,show(8:Int)=((8:Nat):Int)from rfl,aCh N hN _ 8 (by omega),aVO]
 rw[pQ N _ _ (by rw[mH];omega)];rfl
theorem aKR (b:List Int)(n:Nat)(hn:n≤1000000)(h:b.length≤30000000):jN N b (aV6.wrap (n:Int))=some (b++szB n):=by
 rw[wu .u64 n rfl (by simp[IntKind.bits];omega)]
 unfold jN szB
 by_cases h1:n<253
 ·have e1:decide ((n:Int)<253)=true:=decide_eq_true (by omega)
  rw[e1,if_pos rfl,if_pos h1]
  simp only[show(1:Int)=((1:Nat):Int)from rfl,aCh N hN _ 1 (by omega),aVO]
  rw[pQ N _ _ (by rw[mH];omega)];rfl
 have e1:decide ((n:Int)<253)=false:=decide_eq_false (by omega)
 rw[e1,if_neg h1]
 by_cases h2:n<65536
 ·have e2:decide ((n:Int)<65536)=true:=decide_eq_true (by omega)
  simp only[e2,aVP,if_false,if_true,if_pos h2,show(2:Int)=((2:Nat):Int)from rfl,aCh N hN _ 2 (by omega),aVO]
  rw[pQ N _ _ (by simp[mH])]
  simp only[aVO]
  rw[pQ N _ _ (by simp[mH];omega)];rfl
 have e2:decide ((n:Int)<65536)=false:=decide_eq_false (by omega)
 have e3:decide ((n:Int)<4294967296)=true:=decide_eq_true (by omega)
 simp only[e2,e3,aVP,if_false,if_true,if_neg h2,show(4:Int)=((4:Nat):Int)from rfl,aCh N hN _ 4 (by omega),aVO]
 rw[pQ N _ _ (by simp[mH])]
 simp only[aVO]
 rw[pQ N _ _ (by simp[mH];omega)];rfl
theorem aOf (b s:List Int)(hs:s.length≤1000000)(h:b.length≤30000000):mO N b s=some (b++(szB s.length++s)):=by
 have:=pW s.length
 simp only[mO,aKR N hN b _ hs (by omega),aVO]
 rw[pQ N _ _ (by rw[aVS];omega),aVO,aV2]
theorem aOe (t:List Int)(i:Int)(ht:t.length=32):vH N t i=some (t++pG i):=by
 simp only[vH,iF,a9,if_pos ht,aVO]
 rw[pQ N _ _ (by simp;omega)]
 simp only[aVO,aVU]
 rw[aGn N hN _ _ (by omega)];rfl
theorem aPo (o:aG)(h:o.Script.length≤600):xY N o.Value o.Script=some (oJ o):=by
 simp only[xY,aUY N hN _ _ (show([]:List Int).length≤40000000 by simp),aVO,aVU]
 rw[aOf N hN _ _ (by omega) (by rw[aDo];omega)];rfl
end
section
variable (N:Nat)(hN:70000≤N){v:Int}{ins:List aK}{outs:List aG}{lock:Int}(K:aDx ins outs)
include hN K
theorem rL8 (b:Bool)(acc:List Int)(h:acc.length≤100000):g7 N v ins outs lock b N 0 acc=some (acc++ins.flatMap inB):=by
 have hn:=K.ni
 have hl:=aGw K
 refine m9 (f:=g7 N v ins outs lock b) (xs:=ins) (g:=inB) (B:=200000) (by omega) (fun m j acc hj hB=> ?_) (fun m j acc hj=> ?_) N 0 acc (by omega) (by omega) (by rw[aVY];omega)
 ·have ht:=K.tx _ (aV1 hj)
  rw[aJu ht]at hB
  rw[g7,dT hj,if_pos rfl,cL ins hj]
  simp only[aVO,aOe N hN _ _ ht]
  rw[iZ (by simp[cY];omega)]
  simp only[aVO]
  rw[aGn N hN (acc++(ins[j].Prev.Tx++pG ins[j].Prev.Index)) _ (by simp[cY];omega)]
  simp only[aVO,vQ,i1 (show j≤100000 by omega),inB,aV2]
 rw[g7,dF (by omega)];rfl
theorem rL7 (b:Bool)(acc:List Int)(h:acc.length≤100000):i0 N v ins outs lock b N 0 acc=some (acc++outs.flatMap oJ):=by
 have hn:=K.no
 have hl:=aAr K
 refine m9 (f:=i0 N v ins outs lock b) (xs:=outs) (g:=oJ) (B:=200000) (by omega) (fun m j acc hj hB=> ?_) (fun m j acc hj=> ?_) N 0 acc (by omega) (by omega) (by rw[aVY];omega)
 ·have ht:=K.scr _ (aV1 hj)
  rw[i0,dT hj,if_pos rfl,cL outs hj]
  simp only[aVO,aPo N hN _ ht]
  rw[iZ (by omega)]
  simp only[aVO,i1 (show j≤100000 by omega)]
 rw[i0,dF (by omega)];rfl
theorem rL6 (b:Bool)(x:Int)(w:aK)(hw:w.Witness.length≤40∧ ∀z∈w.Witness,z.length≤600)(acc:List Int)(h:acc.length≤5000000):i3 N ins b x w N 0 acc=some (acc++w.Witness.flatMap itB):=by
 have hl:=yK (g:=itB) (c:=605) w.Witness (fun z hz=>aL3 (hw.2 z hz))
 have:=aV4 605 hw.1
 refine m9 (f:=i3 N ins b x w) (xs:=w.Witness) (g:=itB) (B:=6000000) (by omega) (fun m j acc hj hB=> ?_) (fun m j acc hj=> ?_) N 0 acc (by omega) (by omega) (by rw[aVY];omega)
 ·have ht:=hw.2 _ (aV1 hj)
  rw[i3,dT hj,if_pos rfl,cL w.Witness hj]
  simp only[aVO]
  rw[aOf N hN acc _ (show w.Witness[j].length≤1000000 by omega) (by omega)]
  simp only[aVO,i1 (show j≤100000 by omega),itB]
 rw[i3,dF (by omega)];rfl
theorem rL4 (acc:List Int)(h:acc.length≤1000000):g9 N ins true N 0 acc=some (acc++ins.flatMap wiB):=by
 have hn:=K.ni
 have hl:=aMY K
 refine m9 (f:=g9 N ins true) (xs:=ins) (g:=wiB) (B:=4000000) (by omega) (fun m j acc hj hB=> ?_) (fun m j acc hj=> ?_) N 0 acc (by omega) (by omega) (by rw[aVY];omega)
 ·have ht:=K.wit _ (aV1 hj)
  have hs:=pW ins[j].Witness.length
  rw[g9,dT hj,if_pos rfl,cL ins hj]
  simp only[aVO,aV0,aVP,if_false]
  rw[aKR N hN acc _ (show ins[j].Witness.length≤1000000 by omega) (by omega)]
  simp only[aVO]
  rw[rL6 N hN K _ _ _ ht _ (by rw[aVS];omega)]
  simp only[aVO,vO,i1 (show j≤100000 by omega),wiB,aV2]
 rw[g9,dF (by omega)];rfl
theorem aND :xQ N v ins outs lock true=some (aQn v ins outs lock true):=by
 have hn:=K.ni
 have ho:=K.no
 have h1:=pW ins.length
 have h2:=pW outs.length
 have h3:=aGw K
 have h4:=aAr K
 simp only[xQ,aGn N hN [] _ (by simp),aVO,aVU]
 rw[aKR N hN (pG v) _ (show ins.length≤1000000 by omega) (by rw[cY];omega)]
 simp only[aVO]
 rw[rL8 N hN K _ _ (by rw[aVS,cY];omega)]
 simp only[aVO,vP]
 rw[aKR N hN _ _ (show outs.length≤1000000 by omega) (by simp only[aVS,cY];omega)]
 simp only[aVO]
 rw[rL7 N hN K _ _ (by simp only[aVS,cY];omega)]
 simp only[aVO,vZ]
 rw[aGn N hN _ _ (by simp only[aVS,cY];omega)]
 simp only[aVO]
 rw[rL4 N hN K _ (by simp only[aVS,cY];omega)]
 rfl
end
theorem aPf (N:Nat)(hN:70000≤N){v:Int}{ins:List aK}{outs:List aG}{lock:Int}(K:aDx ins outs):aAD N v ins outs lock=some (aE5 v ins outs lock):=by
 have k1:=K.ni
 have k2:=K.no
 unfold aAD aE5
 rw[show(64:Int)=((64:Nat):Int)from rfl,nle,nle]
 by_cases h:ins.length≤64
 ·rw[decide_eq_true h]
  simp only[aV0,aVP,if_false,aVX,u3]
  by_cases h2:outs.length≤64
  ·rw[decide_eq_true h2]
   simp only[aV0,aVP,if_false,aVX]
   have l7:=nF (f:=jW N v ins outs lock) (xs:=outs) (p:=aHd) (r:=false) (fun m j hj=>by
     rw[jW,dT hj,if_pos rfl,cL outs hj]
     simp only[aVO,show(520:Int)=((520:Nat):Int)from rfl,nle,i1 (show j≤100000 by omega),u2]
     rw[show aHd outs[j]=(!decide (outs[j].Value<0)&&decide (outs[j].Script.length≤520))from rfl]
     cases decide (outs[j].Value<0)<;>cases decide (outs[j].Script.length≤520)<;>rfl) (fun m j hj=>by rw[jW,dF (by omega)];rfl) N 0 (by omega) (by omega)
   have l6: ∀(x:Int)(w:aK),w.Witness.length≤32→kX N v ins outs lock x w N 0=some (if(w.Witness.all fun w=>decide (w.length≤520))=true then .brk ()else .ret false):=fun x w hw=>by
    have:=nF (f:=kX N v ins outs lock x w) (xs:=w.Witness) (p:=fun w=>decide (w.length≤520)) (r:=false) (fun m j hj=>by
     rw[kX,dT hj,if_pos rfl,cL w.Witness hj]
     simp only[aVO,show(520:Int)=((520:Nat):Int)from rfl,nle,i1 (show j≤100000 by omega)]
     cases decide (w.Witness[j].length≤520)<;>rfl) (fun m j hj=>by rw[kX,dF (by omega)];rfl) N 0 (by omega) (by omega)
    rw[show((0:Nat):Int)=0 from rfl,aVY]at this
    exact this
   have l4:=nF (f:=kV N v ins outs lock) (xs:=ins) (p:=aHC) (r:=false) (fun m j hj=>by
     rw[kV,dT hj,if_pos rfl,cL ins hj]
     simp only[aVO,show(32:Int)=((32:Nat):Int)from rfl,nle,i1 (show j≤100000 by omega)]
     rw[show aHC ins[j]=(decide (ins[j].Witness.length≤32)&&ins[j].Witness.all fun w=>decide (w.length≤520))from rfl]
     by_cases hw:ins[j].Witness.length≤32
     ·rw[decide_eq_true hw]
      simp only[aV0,aVP,if_false,aVX,l6 _ _ hw,aVO,aAb]
      cases ins[j].Witness.all fun w=>decide (w.length≤520)
      ·rfl
      simp only[if_true,i1 (show j≤100000 by omega)]
     rw[decide_eq_false hw];rfl) (fun m j hj=>by rw[kV,dF (by omega)];rfl) N 0 (by omega) (by omega)
   rw[show((0:Nat):Int)=0 from rfl,aVY]at l7 l4
   rw[l7]
   cases outs.all aHd
   ·rfl
   simp only[aVO,if_true,aAf,l4,aVX]
   cases ins.all aHC
   ·rfl
   simp only[aVO,if_true,aAe,aND N hN K,aVX]
   rw[dle]
  rw[decide_eq_false h2];rfl
 rw[decide_eq_false h];rfl
theorem dU {α:Type}{n:Nat}{l:List α}{i:Nat}(h:i<n)(hl:i<l.length):bV n l (i:Int)=some l[i]:=by
 unfold bV;rw[if_pos (by omega),cL l hl]
theorem dG {α:Type}{n:Nat}{l:List α}(h:l.length=n):a9 n l=some l:=by unfold a9;rw[if_pos h]
theorem y7 (N:Nat)(x n s:Int)(hs:bits .and .u64 (aV6.wrap (aVQ.wrap (0-n))) 31=s)(h0:0≤s)(h1:s≤32): ∃y,dS N x n=some y:=by
 unfold dS kS
 rw[hs,aAn (a:=32-s) (by omega) (by omega)]
 unfold shl shr
 rw[if_neg (by omega),if_neg (by omega)]
 exact⟨_,rfl⟩
def rv (N:Nat)(x n:Int):Int:=(dS N x n).getD 0
theorem aB5 {N:Nat}{x n:Int}(h: ∃y,dS N x n=some y):dS N x n=some (rv N x n):=by obtain⟨y,h⟩:=h;simp[rv,h]
theorem rv2 (N:Nat)(x:Int):dS N x 2=some (rv N x 2):=aB5 (y7 N x 2 30 (by decide +kernel) (by omega) (by omega))
theorem rv6 (N:Nat)(x:Int):dS N x 6=some (rv N x 6):=aB5 (y7 N x 6 26 (by decide +kernel) (by omega) (by omega))
theorem rv7 (N:Nat)(x:Int):dS N x 7=some (rv N x 7):=aB5 (y7 N x 7 25 (by decide +kernel) (by omega) (by omega))
theorem aVq (N:Nat)(x:Int):dS N x 11=some (rv N x 11):=aB5 (y7 N x 11 21 (by decide +kernel) (by omega) (by omega))
theorem aUO (N:Nat)(x:Int):dS N x 13=some (rv N x 13):=aB5 (y7 N x 13 19 (by decide +kernel) (by omega) (by omega))
theorem aVp (N:Nat)(x:Int):dS N x 17=some (rv N x 17):=aB5 (y7 N x 17 15 (by decide +kernel) (by omega) (by omega))
theorem aVk (N:Nat)(x:Int):dS N x 18=some (rv N x 18):=aB5 (y7 N x 18 14 (by decide +kernel) (by omega) (by omega))
theorem aUI (N:Nat)(x:Int):dS N x 19=some (rv N x 19):=aB5 (y7 N x 19 13 (by decide +kernel) (by omega) (by omega))
theorem aVB (N:Nat)(x:Int):dS N x 22=some (rv N x 22):=aB5 (y7 N x 22 10 (by decide +kernel) (by omega) (by omega))
theorem aUV (N:Nat)(x:Int):dS N x 25=some (rv N x 25):=aB5 (y7 N x 25 7 (by decide +kernel) (by omega) (by omega))
theorem aUM (x:Int):shr .u32 x 3=some (x.fdiv (2^(min (3:Int).toNat 32))):=by unfold shr;rw[if_neg (by omega)];rfl
theorem aUe (x:Int):shr .u32 x 10=some (x.fdiv (2^(min (10:Int).toNat 32))):=by unfold shr;rw[if_neg (by omega)];rfl
theorem sL3 (N:Nat): ∀(m j:Nat)(l:List Int),l.length=64→16≤j→j≤64→64-j<m→ ∃r,i4 N m (j:Int) l=some r∧r.length=64
 |0,j,l,_,_,_,hm=>by omega
 |m+1,j,l,hl,h1,h2,hm=>by
  rw[i4]
  by_cases h:j<64
  ·rw[show decide ((j:Int)<64)=true from decide_eq_true (by omega),if_pos rfl]
   rw[cR (a:=(j:Int)-15) (by omega) (by omega),show(j:Int)-15=((j-15:Nat):Int) by omega,dU (show j-15<64 by omega) (by omega)]
   rw[cR (a:=(j:Int)-2) (by omega) (by omega),show(j:Int)-2=((j-2:Nat):Int) by omega,dU (show j-2<64 by omega) (by omega)]
   rw[cR (a:=(j:Int)-16) (by omega) (by omega),show(j:Int)-16=((j-16:Nat):Int) by omega,dU (show j-16<64 by omega) (by omega)]
   rw[cR (a:=(j:Int)-7) (by omega) (by omega),show(j:Int)-7=((j-7:Nat):Int) by omega,dU (show j-7<64 by omega) (by omega)]
   rw[dU h (by omega)]
   simp only[aVO,rv7,aVk,aVp,aUI,aUM,aUe,i1 (show j≤100000 by omega)]
   exact sL3 N m (j+1) _ (by rw[aV5];exact hl) (by omega) (by omega) (by omega)
  rw[show decide ((j:Int)<64)=false from decide_eq_false (by omega)]
  exact⟨l,rfl,hl⟩
theorem cL2 (N:Nat)(st w:List Int)(hw:w.length=64): ∀(m j:Nat)(a b c d e f g h:Int),j≤64→64-j<m→ ∃r,i6 N st w m a b c d e f g h (j:Int)=some r
 |0,j,_,_,_,_,_,_,_,_,_,hm=>by omega
 |m+1,j,a,b,c,d,e,f,g,h,hj,hm=>by
  rw[i6]
  by_cases h1:j<64
  ·rw[show decide ((j:Int)<64)=true from decide_eq_true (by omega),if_pos rfl,dU h1 (show j<aD7.length from h1),dU h1 (by omega)]
   simp only[aVO,rv2,rv6,aVq,aUO,aVB,aUV,i1 (show j≤100000 by omega)]
   exact cL2 N st w hw m (j+1) _ _ _ _ _ _ _ _ (by omega) (by omega)
  rw[show decide ((j:Int)<64)=false from decide_eq_false (by omega)]
  exact⟨_,rfl⟩
def wd (b:List Nat)(i:Nat):Nat:=((b.getD (4*i) 0*256+b.getD (4*i+1) 0)*256+b.getD (4*i+2) 0)*256+b.getD (4*i+3) 0
theorem aAw {b:List Nat}(h: ∀x∈b,x<256)(i:Nat):b.getD i 0<256:=by
 rw[aWV]
 rcases Nat.lt_or_ge i b.length with hi|hi
 ·rw[aV9 hi];exact h _ (aV1 hi)
 rw[List.getElem?_eq_none hi];simp
theorem aHM (a b k:Nat)(h:b<2^k):a*2^k ||| b=a*2^k+b:=by
 rw[aV3,←aV7 h]
theorem orU (a b:Nat)(ha:a<4294967296)(hb:b<4294967296):bits .or .u32 (a:Int) (b:Int)=((a ||| b:Nat):Int):=z5 rfl a b ha hb
theorem aTo (a b:Nat):shl .u32 (a:Int) (b:Int)=some ((a*2^b%4294967296:Nat):Int):=aEm rfl a b
theorem aFP {b:List Nat}{i:Nat}(hl:b.length=64)(hi:i<64):bV 64 (iN b) (i:Int)=some ((b.getD i 0:Nat):Int):=by
 rw[dU hi (by rw[aHJ];omega)]
 have h1:i<b.length:=by omega
 simp[iN,h1]
theorem aGz (n:Nat)(h:n<4294967296):aV8.wrap (n:Int)=n:=aVa (by omega) (by omega)
def aER (b:List Nat)(j:Nat)(l:List Int):List Int:=(aWP j (16-j)).foldl (fun l i=>l.set i ((wd b i:Nat):Int)) l
theorem aO1 (b:List Nat)(j:Nat)(l:List Int):(aER b j l).length=l.length:=by
 unfold aER
 generalize aWP j (16-j)=r
 induction r generalizing l with
 |nil=>rfl
 |cons x r ih=>rw[aWQ,ih,aV5]
section
variable (N:Nat)(b:List Nat)(hl:b.length=64)(hb: ∀x∈b,x<256)
include hl hb
theorem sL6 (i:Nat)(hi:i<16)(m j:Nat)(hj:j<4)(l:List Int)(hll:l.length=64)(v:Nat)(hv:v<16777216)(hli:l[i]? =some (v:Int)):
  eP N (iN b) (i:Int) (m+1) (j:Int) l=eP N (iN b) (i:Int) m ((j+1:Nat):Int) (l.set i ((v*256+b.getD (4*i+j) 0:Nat):Int)):=by
 have hil:i<l.length:=by omega
 have hbl:=aAw hb (4*i+j)
 rw[eP,show decide ((j:Int)<4)=true from decide_eq_true (by omega),if_pos rfl,dU (show i<64 by omega) hil]
 rw[aV9 hil]at hli
 rw[Option.some.inj hli,cR (a:=4*(i:Int)) (by omega) (by omega),cR (a:=4*(i:Int)+(j:Int)) (by omega) (by omega),show 4*(i:Int)+(j:Int)=((4*i+j:Nat):Int) by omega,aFP hl (by omega)]
 rw[show(8:Int)=((8:Nat):Int)from rfl]
 simp only[aVO,aTo,aVT,i1 (show j≤100000 by omega)]
 rw[aGz _ (by omega),orU _ _ (aVZ _ (by omega)) (by omega),aVV (by omega),aHM _ _ 8 (by omega)]
theorem aRx (i:Nat)(hi:i<16)(l:List Int)(hll:l.length=64)(hli:l[i]? =some 0)(hN:10≤N):eP N (iN b) (i:Int) N 0 l=some (l.set i ((wd b i:Nat):Int)):=by
 have g0:=aAw hb (4*i)
 have g1:=aAw hb (4*i+1)
 have g2:=aAw hb (4*i+2)
 have hil:i<l.length:=by omega
 obtain⟨m,hm⟩: ∃m,N=m+5:=⟨N-5,by omega⟩
 have hfu: ∀k,eP N (iN b) (i:Int) N k l=eP N (iN b) (i:Int) (m+1+1+1+1+1) k l:=fun k=>by
  have:N=m+1+1+1+1+1:=by omega
  exact congrArg (fun q=>eP N (iN b) (i:Int) q k l) this
 rw[hfu,show(0:Int)=((0:Nat):Int)from rfl,sL6 N b hl hb i hi _ 0 (by omega) l hll 0 (by omega) hli]
 rw[sL6 N b hl hb i hi _ 1 (by omega) _ (by rw[aV5];exact hll) (0*256+b.getD (4*i+0) 0) (by simp only[aWJ];omega) (aWE hil),aXh]
 rw[sL6 N b hl hb i hi _ 2 (by omega) _ (by rw[aV5];exact hll) _ (by simp only[aWJ];omega) (aWE hil),aXh]
 rw[sL6 N b hl hb i hi _ 3 (by omega) _ (by rw[aV5];exact hll) _ (by simp only[aWJ];omega) (aWE hil),aXh]
 rw[eP]
 simp only[Nat.reduceAdd,show decide (((4:Nat):Int)<4)=false from rfl,aVP,if_false,wd,aW4,aW5,aWJ]
omit hl hb in
theorem aIO {f:Nat→Int→List Int→Option (List Int)}(hs: ∀(m j:Nat) (l:List Int),j<16→l.length=64→l[j]? =some 0→f (m+1) (j:Int) l=f m ((j+1:Nat):Int) (l.set j ((wd b j:Nat):Int)))(he: ∀m l,f (m+1) 16 l=some l):
  ∀(m j:Nat)(l:List Int),16-j<m→j≤16→l.length=64→(∀i,j≤i→i<64→l[i]? =some 0)→f m (j:Int) l=some (aER b j l)
 |0,j,l,hm,_,_,_=>by omega
 |m+1,j,l,hm,hj,hll,hz=>by
  by_cases h:j<16
  ·rw[hs m j l h hll (hz j (aWb _) (by omega)),aIO hs he m (j+1) _ (by omega) (by omega) (by rw[aV5];exact hll) (fun i h1 h2=>by rw[List.getElem?_set_ne (by omega)];exact hz i (by omega) h2)]
   unfold aER
   rw[show 16-j=(16-(j+1))+1 by omega,aWt,aWQ]
  obtain rfl:j=16:=by omega
  exact he m l
theorem sL4 (hN:70000≤N):gZ N (iN b) N 0 (aVR 64 0)=some (aER b 0 (aVR 64 0)):=by
 refine aIO b (f:=gZ N (iN b)) (fun m j l hj hll hz=> ?_) (fun m l=>by rw[gZ];rfl) N 0 _ (by omega) (by omega) (by simp) (fun i _ hi=>by rw[aWz,if_pos hi])
 rw[gZ,show decide ((j:Int)<16)=true from decide_eq_true (by omega),if_pos rfl,aRx N b hl hb j hj l hll hz (by omega)]
 simp only[aVO,wA,i1 (show j≤100000 by omega)]
end
section
variable (N:Nat)(hN:70000≤N)(b:List Nat)(hl:b.length=64)(hb: ∀x∈b,x<256)
include hN hl hb
theorem aQ7 : ∃w,qI N (iN b)=some w∧w.length=64:=by
 obtain⟨w,h1,h2⟩:=sL3 N N 16 (aER b 0 (aVR 64 0)) (by rw[aO1];simp) (by omega) (by omega) (by omega)
 rw[show((16:Nat):Int)=16 from rfl]at h1
 refine⟨w, ?_,h2⟩
 simp only[qI,sL4 N b hl hb hN,aVO,rM,h1,rX,dG h2]
theorem aPA (st:List Int)(hst:st.length=8): ∃r,lQ N st (iN b)=some r∧r.length=8:=by
 obtain⟨w,h1,h2⟩:=aQ7 N hN b hl hb
 have hbl:(iN b).length=64:=by rw[aHJ];exact hl
 have a0:bV 8 st 0=some st[0]:=dU (i:=0) (by omega) (by omega)
 have a1:bV 8 st 1=some st[1]:=dU (i:=1) (by omega) (by omega)
 have a2:bV 8 st 2=some st[2]:=dU (i:=2) (by omega) (by omega)
 have a3:bV 8 st 3=some st[3]:=dU (i:=3) (by omega) (by omega)
 have a4:bV 8 st 4=some st[4]:=dU (i:=4) (by omega) (by omega)
 have a5:bV 8 st 5=some st[5]:=dU (i:=5) (by omega) (by omega)
 have a6:bV 8 st 6=some st[6]:=dU (i:=6) (by omega) (by omega)
 have a7:bV 8 st 7=some st[7]:=dU (i:=7) (by omega) (by omega)
 obtain⟨r,hr⟩:=cL2 N st w h2 N 0 st[0] st[1] st[2] st[3] st[4] st[5] st[6] st[7] (by omega) (by omega)
 rw[show((0:Nat):Int)=0 from rfl]at hr
 refine⟨[aV8.wrap (st[0]+r.1),aV8.wrap (st[1]+r.2.1),aV8.wrap (st[2]+r.2.2.1),aV8.wrap (st[3]+r.2.2.2.1),aV8.wrap (st[4]+r.2.2.2.2.1),aV8.wrap (st[5]+r.2.2.2.2.2.1),aV8.wrap (st[6]+r.2.2.2.2.2.2.1),aV8.wrap (st[7]+r.2.2.2.2.2.2.2)], ?_,rfl⟩
 simp only[lQ,dG hbl,h1,dG h2,a0,a1,a2,a3,a4,a5,a6,a7,aVO,hr,rS]
end
def beG (n i:Nat):Int:=aWd.wrap ((aV6.wrap (8*(n:Int))).fdiv (2^(56-8*i)))
def zer (n:Nat):Nat:=(64-(n+9)%64)%64
def xD (n:Nat):List Int:=(128::aVR (zer n) 0)++(aWP 0 8).map (beG n)
theorem aL9 (n:Nat):(xD n).length=9+zer n:=by simp[xD];omega
theorem aFU (x:Int):0≤aWd.wrap x∧aWd.wrap x<256:=by rw[aXm];omega
theorem aLJ (n:Nat):Byt (xD n):=by
 intro x hx
 simp only[xD,aW6,aWN,List.mem_replicate,aWW]at hx
 rcases hx with(rfl|⟨_,rfl⟩)|⟨i,_,rfl⟩
 ·omega
 ·omega
 exact aFU _
theorem aN8 (a:Int)(s:Nat)(h:s≤64):shr .u64 a (s:Int)=some (a.fdiv (2^s)):=by
 unfold shr
 rw[if_neg (by omega),aVT,show min s aV6.bits=s from Nat.min_eq_left h]
theorem aMa (N n:Nat): ∀(k m:Nat)(acc:List Int),k≤8→k<m→acc.length+k≤1000→rU N (n:Int) m ((8-k:Nat):Int) acc=some (acc++(aWP (8-k) k).map (beG n))
 |0,m,acc,_,hm,_=>by
  obtain⟨m,rfl⟩: ∃q,m=q+1:=⟨m-1,by omega⟩
  rw[rU,show decide (((8-0:Nat):Int)<8)=false from rfl];simp
 |k+1,m,acc,hk,hm,ha=>by
  obtain⟨m,rfl⟩: ∃q,m=q+1:=⟨m-1,by omega⟩
  rw[rU,show decide (((8-(k+1):Nat):Int)<8)=true from decide_eq_true (by omega),if_pos rfl]
  rw[cR (a:=8*((8-(k+1):Nat):Int)) (by omega) (by omega),cR (a:=56-8*((8-(k+1):Nat):Int)) (by omega) (by omega),show 56-8*((8-(k+1):Nat):Int)=((56-8*(8-(k+1)):Nat):Int) by omega,aN8 _ _ (by omega)]
  simp only[aVO]
  rw[iZ (by simp;omega)]
  simp only[aVO,i1 (show 8-(k+1)≤100000 by omega)]
  rw[show 8-(k+1)+1=8-k by omega,aMa N n k m _ (by omega) (by omega) (by simp;omega),aWt,List.map_cons,show 8-(k+1)+1=8-k by omega,aV2]
  rfl
theorem aVC (z:Nat):(aVR (1+z) (0:Int)).set 0 128=128::aVR z 0:=by rw[aXi,aWR];rfl
theorem aVf (N:Nat)(hN:70000≤N)(n:Nat)(hn:n≤1000000000):aEu N (n:Int)=some (xD n):=by
 have hz:zer n<64:=aVZ _ (by omega)
 have hlim:=jT
 unfold aEu
 rw[aAn (a:=(n:Int)+9) (by omega) (by omega),show(n:Int)+9=((n+9:Nat):Int) by omega,show(64:Int)=((64:Nat):Int)from rfl,uX]
 have h1:(n+9)%64<64:=aVZ _ (by omega)
 rw[aAn (a:=((64:Nat):Int)-(((n+9)%64:Nat):Int)) (by omega) (by omega),show((64:Nat):Int)-(((n+9)%64:Nat):Int)=((64-(n+9)%64:Nat):Int) by omega,uX]
 rw[show((64-(n+9)%64)%64:Nat)=zer n from rfl,aAn (a:=1+((zer n:Nat):Int)) (by omega) (by omega),aAn (a:=9+((zer n:Nat):Int)) (by omega) (by omega)]
 have hm:mkl 1 (0:Int) (1+((zer n:Nat):Int)) (9+((zer n:Nat):Int))=some (aVR (1+zer n) 0):=by
  unfold mkl
  rw[if_pos ⟨by omega,by omega,by omega⟩,show(1+((zer n:Nat):Int)).toNat=1+zer n by omega]
 have h0:bY (aVR (1+zer n) (0:Int)) 0=some 0:=by
  rw[show(0:Int)=((0:Nat):Int)from rfl,aEr,aWz,if_pos (by omega)]
 simp only[hm,aVO,h0,Int.toNat_zero,aVC]
 have:=aMa N n 8 N (128::aVR (zer n) 0) (by omega) (by omega) (by simp;omega)
 rw[show((8-8:Nat):Int)=0 from rfl]at this
 rw[this];rfl
theorem aDJ {f:Nat→Int→List Int→Option (List Int)}(l:List (List Int))(hn:l.length≤1000)(ht:l.flatten.length≤50000000)
  (hs: ∀m j acc (hj:j<l.length),acc.length+l[j].length≤50000000→f (m+1) (j:Int) acc=f m ((j+1:Nat):Int) (acc++l[j])) (he: ∀m j acc,l.length≤j→f (m+1) (j:Int) acc=some acc) (N:Nat) (hN:70000≤N):
  f N 0 []=some l.flatten:=by
 have hfl:l.flatMap id=l.flatten:=by simp
 have:=m9 (f:=f) (xs:=l) (g:=id) (B:=50000000) (by omega) hs he N 0 [] (by omega) (by omega) (by rw[aVY,hfl];simpa using ht)
 rw[aVY,hfl]at this
 simpa using this
theorem aTv (N:Nat)(hN:70000≤N)(l:List (List Int))(hn:l.length≤1000)(ht:l.flatten.length≤50000000):aC3 N l=some l.flatten:=by
 have:=aDJ (f:=rQ N l) l hn ht (fun m j acc hj hB=>by
  rw[rQ,dT hj,if_pos rfl,cL l hj,aVO,iZ (by omega)]
  simp only[aVO,i1 (show j≤100000 by omega)]) (fun m j acc hj=>by rw[rQ,dF (by omega)];rfl) N hN
 unfold aC3
 rw[this];rfl
def cmp (N:Nat)(st blk:List Int):List Int:=(lQ N st blk).getD []
def vX (msg:List Int)(i:Nat):List Int:=(msg.drop (64*i)).take 64
theorem aE6 {l:List Int}(h:Byt l)(k:Nat):Byt (l.take k):=fun x hx=>h x (aWr hx)
theorem aEF {l:List Int}(h:Byt l)(k:Nat):Byt (l.drop k):=fun x hx=>h x (aWM hx)
theorem aO0 (N:Nat)(hN:70000≤N)(st blk:List Int)(hst:st.length=8)(hb:Byt blk)(hl:blk.length=64):lQ N st blk=some (cmp N st blk)∧(cmp N st blk).length=8:=by
 obtain⟨b,rfl,h2⟩:=aMS hb
 obtain⟨r,h3,h4⟩:=aPA N hN b (by rw[aHJ]at hl;exact hl) h2 st hst
 have:cmp N st (iN b)=r:=by simp[cmp,h3]
 rw[this];exact⟨h3,h4⟩
def zE (N:Nat)(msg st:List Int)(j k:Nat):List Int:=(aWP j k).foldl (fun s i=>cmp N s (vX msg i)) st
section
variable (N:Nat)(hN:70000≤N)(msg:List Int)(hb:Byt msg)(hl:msg.length≤2000000)
include hN hb hl
theorem aHn : ∀(m j:Nat)(st:List Int),msg.length/64-j<m→j≤msg.length/64→st.length=8→uG N msg m (j:Int) st=some (zE N msg st j (msg.length/64-j))∧(zE N msg st j (msg.length/64-j)).length=8
 |0,j,st,hm,_,_=>by omega
 |m+1,j,st,hm,hj,hst=>by
  rw[uG,show(64:Int)=((64:Nat):Int)from rfl,sN,cR (a:=((msg.length/64:Nat):Int)) (by omega) (by omega)]
  by_cases h:j<msg.length/64
  ·have hlen:(vX msg j).length=64:=by simp[vX];omega
   obtain⟨c1,c2⟩:=aO0 N hN st (vX msg j) hst (aE6 (aEF hb _) _) hlen
   rw[dT h,if_pos rfl,dG hst,cR (a:=((64:Nat):Int)*(j:Int)) (by omega) (by omega)]
   have e1:sub msg (((64:Nat):Int)*(j:Int)) (msg.length:Int)=some (msg.drop (64*j)):=by
    unfold sub
    rw[if_pos ⟨by omega,by omega,by omega⟩,show(((64:Nat):Int)*(j:Int)).toNat=64*j by omega,aVT,aVW (aWb _)]
   have e2:sY 64 (msg.drop (64*j))=some (vX msg j):=by unfold sY;rw[if_pos (by simp;omega)];rfl
   simp only[e1,e2,c1,dG c2,aVO,i1 (show j≤100000 by omega)]
   obtain⟨i1',i2'⟩:=aHn m (j+1) _ (by omega) (by omega) c2
   have er:zE N msg st j (msg.length/64-j)=zE N msg (cmp N st (vX msg j)) (j+1) (msg.length/64-(j+1)):=by
    unfold zE
    rw[show msg.length/64-j=(msg.length/64-(j+1))+1 by omega,aWt,aWQ]
   rw[er]
   exact⟨i1',i2'⟩
  rw[dF h,show msg.length/64-j=0 by omega]
  exact⟨rfl,hst⟩
end
def wV (st:List Int)(i:Nat):Int:=aWd.wrap ((st.getD (i/4) 0).fdiv (2^(24-8*(i%4))))
def aFe (st:List Int):List Int:=(aWG 32).map (wV st)
theorem aG4 (st:List Int):(aFe st).length=32:=by simp[aFe]
theorem aQy (st:List Int):Byt (aFe st):=by
 intro x hx
 simp only[aFe,aWW]at hx
 obtain⟨i,_,rfl⟩:=hx
 exact aFU _
theorem aAy (g:Nat→Int)(w j:Nat)(hj:j<w):((aWG j).map g++aVR (w-j) 0).set j (g j)=(aWG (j+1)).map g++aVR (w-(j+1)) 0:=by
 rw[List.set_append_right _ _ (by simp),show w-j=(w-(j+1))+1 by omega,aWR,List.range_succ,List.map_append,aV2]
 simp
theorem aKS (a:Int)(s:Nat)(h:s≤32):shr .u32 a (s:Int)=some (a.fdiv (2^s)):=by
 unfold shr
 rw[if_neg (by omega),aVT,show min s aV8.bits=s from Nat.min_eq_left h]
theorem aSN {st:List Int}(hst:st.length=8){i:Nat}(h:i<8):bV 8 st (i:Int)=some (st.getD i 0):=by
 have:i<st.length:=by omega
 rw[dU h this];simp[this]
section
variable (N:Nat)(hN:70000≤N)(st:List Int)(hst:st.length=8)
include hN hst
theorem aLZ : ∀(m j:Nat),32-j<m→j≤32→uV N st m (j:Int) ((aWG j).map (wV st)++aVR (32-j) 0)=some (aFe st)
 |0,j,hm,_=>by omega
 |m+1,j,hm,hj=>by
  rw[uV]
  by_cases h:j<32
  ·rw[show decide ((j:Int)<32)=true from decide_eq_true (by omega),if_pos rfl,show(4:Int)=((4:Nat):Int)from rfl,sN,uX,cR (a:=((j/4:Nat):Int)) (by omega) (by omega),aSN hst (by omega)]
   rw[cR (a:=((j%4:Nat):Int)*8) (by omega) (by omega),cR (a:=24-((j%4:Nat):Int)*8) (by omega) (by omega),show 24-((j%4:Nat):Int)*8=((24-8*(j%4):Nat):Int) by omega]
   simp only[aVO]
   rw[aKS _ _ (by omega),dU h (by simp;omega)]
   simp only[aVO,aVT,i1 (show j≤100000 by omega)]
   have:=aAy (wV st) 32 j h
   rw[show aWd.wrap ((st.getD (j/4) 0).fdiv (2^(24-8*(j%4))))=wV st j from rfl,this]
   exact aLZ m (j+1) (by omega) (by omega)
  obtain rfl:j=32:=by omega
  rw[show decide (((32:Nat):Int)<32)=false from rfl]
  simp[aFe]
end
def sha256 (N:Nat)(b:List Int):List Int:=aFe (zE N (b++xD b.length) yY 0 ((b++xD b.length).length/64))
theorem eY (N:Nat)(b:List Int):(sha256 N b).length=32:=aG4 _
theorem pI (N:Nat)(b:List Int):Byt (sha256 N b):=aQy _
theorem aHS (N:Nat)(hN:70000≤N)(b:List Int)(hb:Byt b)(hl:b.length≤1000000):aAA N b=some (sha256 N b):=by
 have hz:zer b.length<64:=aVZ _ (by omega)
 have hpl:=aL9 b.length
 have hmb:Byt (b++xD b.length):=hb.append (aLJ _)
 have hml:(b++xD b.length).length≤2000000:=by rw[aVS];omega
 obtain⟨s1,s2⟩:=aHn N hN _ hmb hml N 0 yY (by omega) (by omega) rfl
 rw[show((0:Nat):Int)=0 from rfl,aWj]at s1
 rw[aWj]at s2
 have hw:aV6.wrap (b.length:Int)=(b.length:Int):=aAn (by omega) (by omega)
 have o:=aLZ N hN (zE N (b++xD b.length) yY 0 ((b++xD b.length).length/64)) s2 N 0 (by omega) (by omega)
 simp only[aWO,aW3,aVU,aWj]at o
 rw[show((0:Nat):Int)=0 from rfl]at o
 simp only[aAA,hw,aVf N hN b.length (by omega),aVO]
 rw[aTv N hN [b,xD b.length] (by simp) (by simp;omega)]
 simp only[aVO,aWp,aWK,aWA,s1,aCT,o,aCX,dG (aG4 _)]
 rfl
theorem aGZ (s:ByteArray):Byt (fS s):=by
 intro x hx
 unfold fS at hx
 simp only[aWW]at hx
 obtain⟨b,_,rfl⟩:=hx
 have:=b.toNat_lt
 omega
def zC (N:Nat)(tag:ByteArray)(b:List Int):List Int:=sha256 N (sha256 N (fS tag)++(sha256 N (fS tag)++b))
theorem yR (N:Nat)(tag:ByteArray)(b:List Int):(zC N tag b).length=32:=eY _ _
theorem aEX (N:Nat)(tag:ByteArray)(b:List Int):Byt (zC N tag b):=pI _ _
theorem aGi (N:Nat)(hN:70000≤N)(tag:ByteArray)(ht:tag.size≤1000)(b:List Int)(hb:Byt b)(hl:b.length≤900000):yI N tag b=some (zC N tag b):=by
 have hlim:=jT
 have hs:stb tag=some (fS tag):=by unfold stb;rw[if_pos (by omega)]
 have s1:=aHS N hN (fS tag) (aGZ tag) (by rw[z4];omega)
 have l1:=eY N (fS tag)
 have t1:=aHS N hN (sha256 N (fS tag)++(sha256 N (fS tag)++b)) ((pI _ _).append ((pI _ _).append hb)) (by simp only[aVS,l1];omega)
 simp only[yI,hs,s1,aVO,dG l1]
 rw[aTv N hN _ (by simp) (by simp[l1];omega)]
 simp only[aVO,aWp,aWK,aWA,t1,dG (eY N _)]
 rfl
theorem uN (w:Nat)(v:Int):Byt (aAq w v):=by
 intro x hx
 simp only[aAq,aWW]at hx
 obtain⟨i,_,rfl⟩:=hx
 exact aFU _
theorem aSu (n:Nat):Byt (szB n):=by
 unfold szB
 split
 ·exact uN _ _
 split
 ·intro x hx
  rcases aWN.1 hx with rfl|hx
  ·omega
  exact uN _ _ x hx
 intro x hx
 rcases aWN.1 hx with rfl|hx
 ·omega
 exact uN _ _ x hx
theorem aHD {α:Type}{g:α→List Int}{l:List α}(h: ∀x∈l,Byt (g x)):Byt (l.flatMap g):=by
 intro y hy
 obtain⟨x,hx,hy⟩:=List.mem_flatMap.1 hy
 exact h x hx y hy
def ptB (x:aK):List Int:=x.Prev.Tx++pG x.Prev.Index
def sqB (x:aK):List Int:=pG x.Sequence
structure aN2 (ins:List aK)(outs:List aG):Prop where
 tx: ∀x∈ins,Byt x.Prev.Tx
 scr: ∀o∈outs,Byt o.Script
theorem aLC {o:aG}(h:Byt o.Script):Byt (oJ o):=(uN _ _).append ((aSu _).append h)
section
variable (N:Nat)(hN:70000≤N)
include hN
theorem aJU (v:Int):oK N v=some (pG v):=by
 simp only[oK,aJI N hN [] v (by simp),aVO,aVU]
theorem aS2 (l:List (List Int))(hn:l.length≤1000)(ht:l.flatten.length≤50000000):wY N l=some l.flatten:=by
 have:=aDJ (f:=oN N l) l hn ht (fun m j acc hj hB=>by
  rw[oN,dT hj,if_pos rfl,cL l hj,aVO,iZ (by omega)]
  simp only[aVO,i1 (show j≤100000 by omega)]) (fun m j acc hj=>by rw[oN,dF (by omega)];rfl) N hN
 unfold wY
 rw[this];rfl
theorem aJX (o:aG)(h:o.Script.length≤600):tM N o.Value o.Script=some (oJ o):=by
 have:=pW o.Script.length
 simp only[tM,aTe N hN [] _ (show([]:List Int).length≤40000000 by simp),aLY N hN [] _ (show o.Script.length≤1000000 by omega) (by simp),aVO,aVU]
 rw[aS2 N hN _ (by simp) (by simp[aDo];omega)]
 simp only[aVO,aWp,aWK,aWA,oJ]
theorem aGm (b:List Int)(hb:Byt b)(hl:b.length≤1000000):qG N b=some (sha256 N b):=by
 simp only[qG,aHS N hN b hb hl,aVO,dG (eY N b)]
variable {v:Int}{ins:List aK}{outs:List aG}{lock:Int}(K:aDx ins outs)
include K
theorem aQw :aBq N v ins outs lock=some (aE5 v ins outs lock):=by
 simp only[aBq,aD1,aRX N hN K,aVO]
 cases aE5 v ins outs lock
 ·rfl
 simp only[aV0,aVP,if_false,aJW N hN K,aVO];rfl
variable {i oV:Int}{oS:List Int}
theorem mL6 : ∀(m j:Nat)(a b:List Int),ins.length-j<m→j≤ins.length→a.length≤36*j→b.length≤4*j→k9 N v ins outs lock i oV oS m (j:Int) a b=some (a++(ins.drop j).flatMap ptB,b++(ins.drop j).flatMap sqB)
 |0,j,a,b,hm,_,_,_=>by omega
 |m+1,j,a,b,hm,hj,ha,hb=>by
  have hn:=K.ni
  rw[k9]
  by_cases h:j<ins.length
  ·have ht:=K.tx _ (aV1 h)
   rw[dT h,if_pos rfl,cL ins h]
   simp only[aVO,aOS N hN _ _ ht,aJU N hN]
   rw[iZ (by simp only[aVS,cY];omega)]
   simp only[aVO]
   rw[iZ (by rw[cY];omega)]
   simp only[aVO,i1 (show j≤100000 by omega)]
   rw[mL6 m (j+1) _ _ (by omega) (by omega) (by simp only[aVS,cY];omega) (by simp only[aVS,cY];omega),aWh h,aWo,aWo]
   simp only[ptB,sqB,aV2]
  rw[dF h,aWl (by omega)];simp
theorem mL5 (p q:List Int):iG N v ins outs lock i oV oS p q N 0 []=some (outs.flatMap oJ):=by
 have hn:=K.no
 have hl:=aAr K
 have:=m9 (f:=iG N v ins outs lock i oV oS p q) (xs:=outs) (g:=oJ) (B:=200000) (by omega) (fun m j acc hj hB=>by
  have ht:=K.scr _ (aV1 hj)
  rw[iG,dT hj,if_pos rfl,cL outs hj]
  simp only[aVO,aJX N hN _ ht]
  rw[iZ (by omega)]
  simp only[aVO,i1 (show j≤100000 by omega)]) (fun m j acc hj=>by rw[iG,dF (by omega)];rfl) N 0 [] (by omega) (by omega) (by rw[aVY,aXn];omega)
 simpa using this
def aE4 (N:Nat)(v:Int)(ins:List aK)(outs:List aG)(lock i oV:Int)(oS:List Int):List Int:=
 pG v++(sha256 N (ins.flatMap ptB)++(sha256 N (ins.flatMap sqB)++(sha256 N (outs.flatMap oJ)++(pG lock++(pG (aV8.wrap i)++oJ ⟨oV,oS⟩)))))
def aG9 :ByteArray:=⟨#[108,105,103,104,116,99,108,105,101,110,116,47,115,112,101,110,100]⟩
def aHP :List Int:=[0,0,0,0,0,0,0,0,0,0,0,0,0,0,0,0,0,0,0,0,0,0,0,0,0,0,0,0,0,0,0,0]
def aDF (N:Nat)(v:Int)(ins:List aK)(outs:List aG)(lock i oV:Int)(oS:List Int):List Int×Int:=
 if aE5 v ins outs lock&& !decide (oV<0)&& !decide (520<oS.length) then
  if decide (i<0) || decide ((ins.length:Int)≤i)then(aHP,5)else(zC N aG9 (aE4 N v ins outs lock i oV oS),0)
 else(aHP,4)
omit hN K in
theorem aPu :(aDF N v ins outs lock i oV oS).1.length=32:=by
 unfold aDF
 split
 ·split
  ·rfl
  exact yR _ _ _
 rfl
variable (B:aN2 ins outs)
include B
omit hN in
theorem aMi :Byt (ins.flatMap ptB)∧(ins.flatMap ptB).length≤2520∧Byt (ins.flatMap sqB)∧(ins.flatMap sqB).length≤280∧Byt (outs.flatMap oJ)∧(outs.flatMap oJ).length≤42910:=by
 have h1:=yK (g:=ptB) (c:=36) ins (fun x hx=>by simp[ptB,cY,K.tx x hx])
 have h2:=yK (g:=sqB) (c:=4) ins (fun x hx=>by simp[sqB,cY])
 have hn:=K.ni
 have:=aV4 36 hn
 have:=aV4 4 hn
 exact⟨aHD fun x hx=>(B.tx x hx).append (uN _ _),by omega,aHD fun x hx=>uN _ _,by omega,aHD fun o ho=>aLC (B.scr o ho),aAr K⟩
theorem aM6 (hoS:oS.length≤520)(hob:Byt oS):Byt (aE4 N v ins outs lock i oV oS)∧(aE4 N v ins outs lock i oV oS).length≤900000:=by
 have h2:=aGI (o:=⟨oV,oS⟩) (show oS.length≤600 by omega)
 refine⟨(uN _ _).append ((pI _ _).append ((pI _ _).append ((pI _ _).append ((uN _ _).append ((uN _ _).append (aLC hob)))))), ?_⟩
 simp only[aE4,aVS,cY,eY]
 omega
theorem aNG (hob:Byt oS):u5 N v ins outs lock i oV oS=some (aDF N v ins outs lock i oV oS):=by
 obtain⟨p1,p2,p3,p4,p5,p6⟩:=aMi K B
 unfold u5 aDF
 rw[aQw N hN K]
 cases hf:aE5 v ins outs lock with
 |false=>rfl
 |true=>
  simp only[aVO,aV0,aVP,if_false,aVX]
  cases h0:decide (oV<0) with
  |true=>rfl
  |false=>
   simp only[aVP,if_false,aWi,aVX]
   rw[show(520:Int)=((520:Nat):Int)from rfl,nle,show decide (520<oS.length)= !decide (oS.length≤520) by rw[←nle];congr 1;simp;omega]
   cases h1:decide (oS.length≤520) with
   |false=>rfl
   |true=>
    have hoS:oS.length≤520:=by simpa using h1
    obtain⟨q1,q2⟩:=aM6 N hN K B (v:=v) (lock:=lock) (i:=i) (oV:=oV) hoS hob
    simp only[aV0,aWi,if_true,nS,aVP,if_false]
    have main:nV N v ins outs lock i oV oS false=some (zC N aG9 (aE4 N v ins outs lock i oV oS),0):=by
     have e6:=mL6 N hN K (v:=v) (lock:=lock) (i:=i) (oV:=oV) (oS:=oS) N 0 [] [] (by have:=K.ni;omega) (by omega) (by simp) (by simp)
     rw[show((0:Nat):Int)=0 from rfl,aVY,aVU,aVU]at e6
     have e7:wY N [pG v,sha256 N (ins.flatMap ptB),sha256 N (ins.flatMap sqB),sha256 N (outs.flatMap oJ),pG lock,pG (aV8.wrap i),oJ ⟨oV,oS⟩]=some (aE4 N v ins outs lock i oV oS):=by
      have h2:=aGI (o:=⟨oV,oS⟩) (show oS.length≤600 by omega)
      rw[aS2 N hN _ (by simp) (by simp[cY,eY];omega)]
      simp only[aWp,aWK,aWA,aE4]
     have e8:=aGi N hN aG9 (by decide) _ q1 q2
     simp only[nV,aVP,if_false,e6,aVO,uH,mL5 N hN K,uJ,aJU N hN,aGm N hN _ p1 (by omega),aGm N hN _ p3 (by omega),aGm N hN _ p5 (by omega),aJX N hN ⟨oV,oS⟩ (show oS.length≤600 by omega),e7]
     rw[show(⟨#[108,105,103,104,116,99,108,105,101,110,116,47,115,112,101,110,100]⟩:ByteArray)=aG9 from rfl,e8]
     simp only[aVO,dG (yR N _ _)]
    cases hi:decide (i<0) with
    |true=>rfl
    |false=>
     simp only[aVP,if_false,Bool.false_or]
     cases hi2:decide ((ins.length:Int)≤i) with
     |true=>rfl
     |false=>simp only[aVP,if_false,main]
end
section
variable (N:Nat)(b:List Nat)(hl:b.length=64)(hb: ∀x∈b,x<256)
include hl hb
theorem aVt (hN:70000≤N):gR N (iN b) N 0 (aVR 64 0)=some (aER b 0 (aVR 64 0)):=by
 refine aIO b (f:=gR N (iN b)) (fun m j l hj hll hz=> ?_) (fun m l=>by rw[gR];rfl) N 0 _ (by omega) (by omega) (by simp) (fun i _ hi=>by rw[aWz,if_pos hi])
 have g0:=aAw hb (4*j)
 have g1:=aAw hb (4*j+1)
 have g2:=aAw hb (4*j+2)
 have g3:=aAw hb (4*j+3)
 rw[gR,show decide ((j:Int)<16)=true from decide_eq_true (by omega),if_pos rfl]
 rw[cR (a:=4*(j:Int)) (by omega) (by omega),cR (a:=4*(j:Int)+1) (by omega) (by omega),cR (a:=4*(j:Int)+2) (by omega) (by omega),cR (a:=4*(j:Int)+3) (by omega) (by omega)]
 rw[show 4*(j:Int)=((4*j:Nat):Int) by omega,show((4*j:Nat):Int)+1=((4*j+1:Nat):Int) by omega,show((4*j:Nat):Int)+2=((4*j+2:Nat):Int) by omega,show((4*j:Nat):Int)+3=((4*j+3:Nat):Int) by omega]
 rw[aFP hl (by omega),aFP hl (by omega),aFP hl (by omega),aFP hl (by omega),dU (show j<64 by omega) (by omega)]
 rw[show(24:Int)=((24:Nat):Int)from rfl,show(16:Int)=((16:Nat):Int)from rfl,show(8:Int)=((8:Nat):Int)from rfl]
 simp only[aVO,aVT,i1 (show j≤100000 by omega),aGz _ (show b.getD (4*j) 0<4294967296 by omega),aGz _ (show b.getD (4*j+1) 0<4294967296 by omega),aGz _ (show b.getD (4*j+2) 0<4294967296 by omega),aGz _ (show b.getD (4*j+3) 0<4294967296 by omega),aTo]
 congr 2
 unfold wd
 generalize b.getD (4*j) 0=a0 at *
 generalize b.getD (4*j+1) 0=a1 at *
 generalize b.getD (4*j+2) 0=a2 at *
 generalize b.getD (4*j+3) 0=a3 at *
 rw[aVV (show a0*2^24<4294967296 by omega),aVV (show a1*2^16<4294967296 by omega),aVV (show a2*2^8<4294967296 by omega)]
 rw[orU _ _ (by omega) (by omega),aHM a0 _ 24 (by omega)]
 rw[show a0*2^24+a1*2^16=(a0*2^8+a1)*2^16 by omega,orU _ _ (by omega) (by omega),aHM _ (a2*2^8) 16 (by omega)]
 rw[show(a0*2^8+a1)*2^16+a2*2^8=((a0*2^8+a1)*2^8+a2)*2^8 by omega,orU _ _ (by omega) (by omega),aHM _ a3 8 (by omega)]
end
theorem aKc (N:Nat)(x n:Int):j4 N x n=dS N x n:=rfl
theorem aNb (N:Nat): ∀(m:Nat)(i:Int)(l:List Int),kF N m i l=i4 N m i l
 |0,_,_=>rfl
 |m+1,i,l=>by simp only[kF,i4,aKc,aNb N m]
theorem aMb (N:Nat)(st w:List Int): ∀(m:Nat)(a b c d e f g h i:Int),kE N st w aD7 m a b c d e f g h i=i6 N st w m a b c d e f g h i
 |0,_,_,_,_,_,_,_,_,_=>rfl
 |m+1,a,b,c,d,e,f,g,h,i=>by simp only[kE,i6,aKc,aMb N st w m]
section
variable (N:Nat)(hN:70000≤N)(b:List Nat)(hl:b.length=64)(hb: ∀x∈b,x<256)
include hN hl hb
theorem aNq :tZ N (iN b)=qI N (iN b):=by
 simp only[tZ,qI,aVt N b hl hb hN,sL4 N b hl hb hN,aVO,s7,rM,aNb,tA,rX]
theorem aKB (st:List Int):qA N st (iN b)=lQ N st (iN b):=by
 obtain⟨w,h1,h2⟩:=aQ7 N hN b hl hb
 have hK:v6 N=some aD7:=rfl
 have hKl:a9 64 aD7=some aD7:=rfl
 simp only[qA,lQ,aNq N hN b hl hb,h1,hK,hKl,aVO,aMb,s6,rS]
end
theorem aJ3 (N n:Nat): ∀(k m:Nat)(acc:List Int),k≤8→k<m→acc.length+k≤1000→oE N (n:Int) m ((k:Int)-1) acc=some (acc++(aWP (8-k) k).map (beG n))
 |0,m,acc,_,hm,_=>by
  obtain⟨m,rfl⟩: ∃q,m=q+1:=⟨m-1,by omega⟩
  rw[oE,show decide ((0:Int)≤((0:Nat):Int)-1)=false from rfl];simp
 |k+1,m,acc,hk,hm,ha=>by
  obtain⟨m,rfl⟩: ∃q,m=q+1:=⟨m-1,by omega⟩
  rw[oE,show decide ((0:Int)≤((k+1:Nat):Int)-1)=true from decide_eq_true (by omega),if_pos rfl]
  rw[cR (a:=8*(((k+1:Nat):Int)-1)) (by omega) (by omega),show 8*(((k+1:Nat):Int)-1)=((56-8*(8-(k+1)):Nat):Int) by omega,aN8 _ _ (by omega)]
  simp only[aVO]
  rw[iZ (by simp;omega)]
  simp only[aVO]
  rw[cR (a:=((k+1:Nat):Int)-1-1) (by omega) (by omega),show((k+1:Nat):Int)-1-1=(k:Int)-1 by omega,aJ3 N n k m _ (by omega) (by omega) (by simp;omega),aWt,List.map_cons,show 8-(k+1)+1=8-k by omega,aV2]
  rfl
theorem aJV (N n:Nat)(hn:n≤1000000000): ∀(z m:Nat)(l:List Int),z<64→z<m→l.length+z≤1000→(n+l.length+8+z)%64=0→qL N (n:Int) m l=some (l++aVR z 0)
 |z,0,l,_,hm,_,_=>by omega
 |z,m+1,l,hz,hm,hl,he=>by
  rw[qL,aAn (a:=(l.length:Int)) (by omega) (by omega),aAn (a:=(n:Int)+(l.length:Int)) (by omega) (by omega),aAn (a:=(n:Int)+(l.length:Int)+8) (by omega) (by omega)]
  rw[show(n:Int)+(l.length:Int)+8=((n+l.length+8:Nat):Int) by omega,show(64:Int)=((64:Nat):Int)from rfl,uX]
  match z with
  |0=>
   rw[show(n+l.length+8)%64=0 by simpa using he]
   simp
  |z+1=>
   have hne:(n+l.length+8)%64≠0:=by omega
   rw[show((((n+l.length+8)%64:Nat):Int) != 0)=true by simp;omega,if_pos rfl,iZ (by simp;omega)]
   simp only[aVO]
   rw[aJV N n hn z m _ (by omega) (by omega) (by simp;omega) (by simp;omega),aWR,aV2]
   rfl
theorem aVl (N:Nat)(hN:70000≤N)(n:Nat)(hn:n≤1000000000):aCe N (n:Int)=some (xD n):=by
 have hz:zer n<64:=aVZ _ (by omega)
 have h2:(n+1+8+zer n)%64=0:=by unfold zer;omega
 unfold aCe
 rw[aJV N n hn (zer n) N [128] hz (by omega) (by simp;omega) (by simpa using h2)]
 simp only[aVO,aBe]
 have:=aJ3 N n 8 N ([128]++aVR (zer n) 0) (by omega) (by omega) (by simp;omega)
 rw[show((8:Nat):Int)-1=7 from rfl]at this
 rw[this];rfl
section
variable (N:Nat)(hN:70000≤N)(msg:List Int)(hb:Byt msg)(hl:msg.length≤2000000)
include hN hb hl
theorem aJM : ∀(m j:Nat)(st:List Int),msg.length/64-j<m→j≤msg.length/64→st.length=8→qK N msg m ((64*j:Nat):Int) st=some (zE N msg st j (msg.length/64-j))
 |0,j,st,hm,_,_=>by omega
 |m+1,j,st,hm,hj,hst=>by
  rw[qK,cR (a:=((64*j:Nat):Int)+64) (by omega) (by omega)]
  by_cases h:j<msg.length/64
  ·have hlen:(vX msg j).length=64:=by simp[vX];omega
   obtain⟨c1,c2⟩:=aO0 N hN st (vX msg j) hst (aE6 (aEF hb _) _) hlen
   have c3:qA N st (vX msg j)=some (cmp N st (vX msg j)):=by
    obtain⟨bn,e1,e2⟩:=aMS (aE6 (aEF hb (64*j)) 64)
    have e3:vX msg j=iN bn:=e1
    rw[e3]at c1 hlen⊢
    rw[aKB N hN bn (by rw[aHJ]at hlen;exact hlen) e2]
    exact c1
   rw[show decide (((64*j:Nat):Int)+64≤(msg.length:Int))=true from decide_eq_true (by omega),if_pos rfl]
   have e1:sub msg ((64*j:Nat):Int) (msg.length:Int)=some (msg.drop (64*j)):=by
    unfold sub
    rw[if_pos ⟨by omega,by omega,by omega⟩,aVT,aVT,aVW (aWb _)]
   have e2:nE (aVR 64 (0:Int)) (msg.drop (64*j))=vX msg j:=by
    unfold nE vX
    rw[aWn,show List.drop (msg.drop (64*j)).length (aVR 64 (0:Int))=[]from aWl (by simp;omega),aWA]
   simp only[e1,e2,aVO,dG hst,dG hlen,c3,dG c2]
   rw[show((64*j:Nat):Int)+64=((64*(j+1):Nat):Int) by omega,aJM m (j+1) _ (by omega) (by omega) c2]
   unfold zE
   rw[show msg.length/64-j=(msg.length/64-(j+1))+1 by omega,aWt,aWQ]
  rw[show decide (((64*j:Nat):Int)+64≤(msg.length:Int))=false from decide_eq_false (by omega),show msg.length/64-j=0 by omega]
  rfl
end
section
variable (N:Nat)(hN:70000≤N)(st:List Int)(hst:st.length=8)
include hN hst
theorem aJY : ∀(m j:Nat),8-j<m→j≤8→qU N st m (j:Int) ((aWG (4*j)).map (wV st)++aVR (32-4*j) 0)=some (aFe st)
 |0,j,hm,_=>by omega
 |m+1,j,hm,hj=>by
  rw[qU]
  by_cases h:j<8
  ·rw[show decide ((j:Int)<8)=true from decide_eq_true (by omega),if_pos rfl,aSN hst h]
   rw[cR (a:=4*(j:Int)) (by omega) (by omega),cR (a:=4*(j:Int)+1) (by omega) (by omega),cR (a:=4*(j:Int)+2) (by omega) (by omega),cR (a:=4*(j:Int)+3) (by omega) (by omega)]
   rw[show 4*(j:Int)=((4*j:Nat):Int) by omega,show((4*j:Nat):Int)+1=((4*j+1:Nat):Int) by omega,show((4*j:Nat):Int)+2=((4*j+2:Nat):Int) by omega,show((4*j:Nat):Int)+3=((4*j+3:Nat):Int) by omega]
   rw[show(24:Int)=((24:Nat):Int)from rfl,show(16:Int)=((16:Nat):Int)from rfl]
   simp only[aVO,aVT,i1 (show j≤100000 by omega)]
   rw[show(8:Int)=((8:Nat):Int)from rfl,aKS _ 24 (by omega),aKS _ 16 (by omega),aKS _ 8 (by omega)]
   simp only[aVO]
   have o0:aWd.wrap ((st.getD j 0).fdiv (2^24))=wV st (4*j):=by unfold wV;rw[show 4*j/4=j by omega,show 4*j%4=0 by omega]
   have o1:aWd.wrap ((st.getD j 0).fdiv (2^16))=wV st (4*j+1):=by unfold wV;rw[show(4*j+1)/4=j by omega,show(4*j+1)%4=1 by omega]
   have o2:aWd.wrap ((st.getD j 0).fdiv (2^8))=wV st (4*j+2):=by unfold wV;rw[show(4*j+2)/4=j by omega,show(4*j+2)%4=2 by omega]
   have o3:aWd.wrap (st.getD j 0)=wV st (4*j+3):=by
    unfold wV;rw[show(4*j+3)/4=j by omega,show(4*j+3)%4=3 by omega]
    congr 1
    generalize st.getD j 0=x
    simp
   rw[o0,o1,o2,o3,aAy (wV st) 32 (4*j) (by omega),aAy (wV st) 32 (4*j+1) (by omega),aAy (wV st) 32 (4*j+2) (by omega),aAy (wV st) 32 (4*j+3) (by omega)]
   rw[dU (show 4*j<32 by omega) (by simp;omega),dU (show 4*j+1<32 by omega) (by simp;omega),dU (show 4*j+2<32 by omega) (by simp;omega),dU (show 4*j+3<32 by omega) (by simp;omega)]
   simp only[aVO]
   exact aJY m (j+1) (by omega) (by omega)
  obtain rfl:j=8:=by omega
  rw[show decide (((8:Nat):Int)<8)=false from rfl]
  simp[aFe]
end
theorem aC6 (N:Nat)(hN:70000≤N)(b:List Int)(hb:Byt b)(hl:b.length≤1000000):pT N b=some (sha256 N b):=by
 have hz:zer b.length<64:=aVZ _ (by omega)
 have hpl:=aL9 b.length
 have hmb:Byt (b++xD b.length):=hb.append (aLJ _)
 have hml:(b++xD b.length).length≤2000000:=by rw[aVS];omega
 obtain⟨s1,s2⟩:=aHn N hN _ hmb hml N 0 yY (by omega) (by omega) rfl
 have s3:=aJM N hN _ hmb hml N 0 yY (by omega) (by omega) rfl
 rw[aWj]at s2
 rw[show((64*0:Nat):Int)=0 from rfl,aWj]at s3
 have hw:aV6.wrap (b.length:Int)=(b.length:Int):=aAn (by omega) (by omega)
 have o:=aJY N hN (zE N (b++xD b.length) yY 0 ((b++xD b.length).length/64)) s2 N 0 (by omega) (by omega)
 simp only[Nat.mul_zero,aWO,aW3,aVU,aWj]at o
 rw[show((0:Nat):Int)=0 from rfl]at o
 have hI:aAg N=some yY:=rfl
 have hIa:a9 8 yY=some yY:=rfl
 simp only[pT]
 rw[iZ (by simp;omega)]
 simp only[aVO,aVU,hw,aVl N hN b.length (by omega)]
 rw[iZ (by omega)]
 simp only[aVO,hI,hIa,s3,aAP,dG s2,o,aAT,dG (aG4 _)]
 rfl
theorem aHI (N:Nat)(hN:70000≤N)(tag:ByteArray)(ht:tag.size≤1000)(b:List Int)(hb:Byt b)(hl:b.length≤900000):t7 N tag b=some (zC N tag b):=by
 have hlim:=jT
 have hs:stb tag=some (fS tag):=by unfold stb;rw[if_pos (by omega)]
 have s2:=aC6 N hN (fS tag) (aGZ tag) (by rw[z4];omega)
 have l1:=eY N (fS tag)
 have t2:=aC6 N hN (sha256 N (fS tag)++(sha256 N (fS tag)++b)) ((pI _ _).append ((pI _ _).append hb)) (by simp only[aVS,l1];omega)
 simp only[t7,hs,s2,aVO,dG l1]
 rw[iZ (by simp[l1])]
 simp only[aVO,aVU]
 rw[iZ (by simp[l1])]
 simp only[aVO]
 rw[iZ (by simp[l1];omega)]
 simp only[aVO,aV2,t2,dG (eY N _)]
 rfl
section
variable (N:Nat)(hN:70000≤N){v:Int}{ins:List aK}{outs:List aG}{lock:Int}(K:aDx ins outs){i oV:Int}{oS:List Int}
include hN K
theorem aTi : ∀(m j:Nat)(a b:List Int),ins.length-j<m→j≤ins.length→a.length≤36*j→b.length≤4*j→k7 N v ins outs lock i oV oS m (j:Int) a b=some (a++(ins.drop j).flatMap ptB,b++(ins.drop j).flatMap sqB)
 |0,j,a,b,hm,_,_,_=>by omega
 |m+1,j,a,b,hm,hj,ha,hb=>by
  have hn:=K.ni
  rw[k7]
  by_cases h:j<ins.length
  ·have ht:=K.tx _ (aV1 h)
   rw[dT h,if_pos rfl,cL ins h]
   simp only[aVO,aOe N hN _ _ ht]
   rw[iZ (by simp only[aVS,cY];omega)]
   simp only[aVO]
   rw[aGn N hN _ _ (by omega)]
   simp only[aVO,i1 (show j≤100000 by omega)]
   rw[aTi m (j+1) _ _ (by omega) (by omega) (by simp only[aVS,cY];omega) (by simp only[aVS,cY];omega),aWh h,aWo,aWo]
   simp only[ptB,sqB,aV2]
  rw[dF h,aWl (by omega)];simp
theorem aVx (p q:List Int):iI N v ins outs lock i oV oS p q N 0 []=some (outs.flatMap oJ):=by
 have hn:=K.no
 have hl:=aAr K
 have:=m9 (f:=iI N v ins outs lock i oV oS p q) (xs:=outs) (g:=oJ) (B:=200000) (by omega) (fun m j acc hj hB=>by
  have ht:=K.scr _ (aV1 hj)
  rw[iI,dT hj,if_pos rfl,cL outs hj]
  simp only[aVO,aPo N hN _ ht]
  rw[iZ (by omega)]
  simp only[aVO,i1 (show j≤100000 by omega)]) (fun m j acc hj=>by rw[iI,dF (by omega)];rfl) N 0 [] (by omega) (by omega) (by rw[aVY,aXn];omega)
 simpa using this
theorem aN7 (b h:List Int)(hh:h.length=32)(hb:b.length≤30000000):iF N b h=some (b++h):=by
 simp only[iF,dG hh,aVO]
 rw[pQ N _ _ (by omega)];rfl
variable (B:aN2 ins outs)
include B
theorem aMx (hob:Byt oS):uY N v ins outs lock i oV oS=some (aDF N v ins outs lock i oV oS):=by
 obtain⟨p1,p2,p3,p4,p5,p6⟩:=aMi K B
 unfold uY aDF
 rw[aPf N hN K]
 cases hf:aE5 v ins outs lock with
 |false=>rfl
 |true=>
  simp only[aVO,aV0,aVP,if_false,aVX]
  cases h0:decide (oV<0) with
  |true=>rfl
  |false=>
   simp only[aVP,if_false,aWi,aVX]
   rw[show(520:Int)=((520:Nat):Int)from rfl,nle,show decide (520<oS.length)= !decide (oS.length≤520) by rw[←nle];congr 1;simp;omega]
   cases h1:decide (oS.length≤520) with
   |false=>rfl
   |true=>
    have hoS:oS.length≤520:=by simpa using h1
    obtain⟨q1,q2⟩:=aM6 N hN K B (v:=v) (lock:=lock) (i:=i) (oV:=oV) hoS hob
    simp only[aV0,aWi,if_true,nT,aVP,if_false]
    have main:nP N v ins outs lock i oV oS false=some (zC N aG9 (aE4 N v ins outs lock i oV oS),0):=by
     have e6:=aTi N hN K (v:=v) (lock:=lock) (i:=i) (oV:=oV) (oS:=oS) N 0 [] [] (by have:=K.ni;omega) (by omega) (by simp) (by simp)
     rw[show((0:Nat):Int)=0 from rfl,aVY,aVU,aVU]at e6
     have e8:=aHI N hN aG9 (by decide) _ q1 q2
     have h2:=aGI (o:=⟨oV,oS⟩) (show oS.length≤600 by omega)
     simp only[nP,aVP,if_false,e6,aVO,uQ,aVx N hN K,uC,aGn N hN [] _ (show([]:List Int).length≤40000000 by simp),aVU,aC6 N hN _ p1 (by omega),aC6 N hN _ p3 (by omega),aC6 N hN _ p5 (by omega),aPo N hN ⟨oV,oS⟩ (show oS.length≤600 by omega)]
     rw[aN7 N hN K _ _ (eY _ _) (by rw[cY];omega)]
     simp only[aVO]
     rw[aN7 N hN K _ _ (eY _ _) (by simp[cY,eY])]
     simp only[aVO]
     rw[aN7 N hN K _ _ (eY _ _) (by simp[cY,eY])]
     simp only[aVO]
     rw[aGn N hN _ lock (by simp[cY,eY])]
     simp only[aVO]
     rw[aGn N hN _ _ (by simp[cY,eY])]
     simp only[aVO]
     rw[iZ (by simp[cY,eY];omega)]
     simp only[aVO,aV2]
     rw[show(⟨#[108,105,103,104,116,99,108,105,101,110,116,47,115,112,101,110,100]⟩:ByteArray)=aG9 from rfl]
     rw[show pG v++(sha256 N (ins.flatMap ptB)++(sha256 N (ins.flatMap sqB)++(sha256 N (outs.flatMap oJ)++(pG lock++(pG (aV8.wrap i)++oJ ⟨oV,oS⟩)))))=aE4 N v ins outs lock i oV oS from rfl,e8]
     simp only[aVO,dG (yR N _ _)]
    cases hi:decide (i<0) with
    |true=>rfl
    |false=>
     simp only[aVP,if_false,Bool.false_or]
     cases hi2:decide ((ins.length:Int)≤i) with
     |true=>rfl
     |false=>simp only[aVP,if_false,main]
end
def w4 (a b c d:Nat):List Int:=[(a:Int),(b:Int),(c:Int),(d:Int)]
def vl (a b c d:Nat):Nat:=a+18446744073709551616*b+340282366920938463463374607431768211456*c+6277101735386680763835789423207666416102355444464034512896*d
def U (n:Nat):List Int:=w4 (n%18446744073709551616) (n/18446744073709551616%18446744073709551616) (n/340282366920938463463374607431768211456%18446744073709551616) (n/6277101735386680763835789423207666416102355444464034512896%18446744073709551616)
theorem aTX (n:Nat):(U n).length=4:=rfl
theorem aHb {a b c d:Nat}(ha:a<18446744073709551616)(hb:b<18446744073709551616)(hc:c<18446744073709551616)(hd:d<18446744073709551616):w4 a b c d=U (vl a b c d):=by
 unfold U vl
 have h0:(a+18446744073709551616*b+340282366920938463463374607431768211456*c+6277101735386680763835789423207666416102355444464034512896*d)%18446744073709551616=a:=by omega
 have h1:(a+18446744073709551616*b+340282366920938463463374607431768211456*c+6277101735386680763835789423207666416102355444464034512896*d)/18446744073709551616%18446744073709551616=b:=by omega
 have h2:(a+18446744073709551616*b+340282366920938463463374607431768211456*c+6277101735386680763835789423207666416102355444464034512896*d)/340282366920938463463374607431768211456%18446744073709551616=c:=by omega
 have h3:(a+18446744073709551616*b+340282366920938463463374607431768211456*c+6277101735386680763835789423207666416102355444464034512896*d)/6277101735386680763835789423207666416102355444464034512896%18446744073709551616=d:=by omega
 rw[h0,h1,h2,h3]
theorem aAX {n:Nat}(h:n<115792089237316195423570985008687907853269984665640564039457584007913129639936): ∃a b c d,a<18446744073709551616∧b<18446744073709551616∧c<18446744073709551616∧d<18446744073709551616∧U n=w4 a b c d∧n=vl a b c d:=by
 refine⟨n%18446744073709551616,n/18446744073709551616%18446744073709551616,n/340282366920938463463374607431768211456%18446744073709551616,n/6277101735386680763835789423207666416102355444464034512896%18446744073709551616,by omega,by omega,by omega,by omega,rfl, ?_⟩
 unfold vl
 omega
theorem aGE {a b c d:Nat}(ha:a<18446744073709551616)(hb:b<18446744073709551616)(hc:c<18446744073709551616)(hd:d<18446744073709551616):vl a b c d<115792089237316195423570985008687907853269984665640564039457584007913129639936:=by unfold vl;omega
def Wd (l:List Int):Prop:=l.length=4∧ ∀x∈l,0≤x∧x<18446744073709551616
theorem Wd.ex {l:List Int}(h:Wd l): ∃n,n<115792089237316195423570985008687907853269984665640564039457584007913129639936∧l=U n:=by
 obtain⟨hl,hx⟩:=h
 match l,hl,hx with
 | [a,b,c,d],_,hx=>
  have ha:=hx a (by simp)
  have hb:=hx b (by simp)
  have hc:=hx c (by simp)
  have hd:=hx d (by simp)
  refine⟨vl a.toNat b.toNat c.toNat d.toNat,aGE (by omega) (by omega) (by omega) (by omega), ?_⟩
  rw[←aHb (by omega) (by omega) (by omega) (by omega)]
  unfold w4
  rw[aWv ha.1,aWv hb.1,aWv hc.1,aWv hd.1]
theorem aUa {a b:Nat}(ha:a<115792089237316195423570985008687907853269984665640564039457584007913129639936)(hb:b<115792089237316195423570985008687907853269984665640564039457584007913129639936)(h:U a=U b):a=b:=by
 simp only[U,w4,aXo,and_true]at h
 omega
theorem aA0 {a b:Nat}(ha:a<115792089237316195423570985008687907853269984665640564039457584007913129639936)(hb:b<115792089237316195423570985008687907853269984665640564039457584007913129639936):(U a == U b)=decide (a=b):=by
 by_cases h:a=b
 ·subst h;simp
 rw[decide_eq_false h]
 apply beq_eq_false_iff_ne.2
 exact fun e=>h (aUa ha hb e)
theorem z8 :U 0=[0,0,0,0]:=rfl
theorem a40 (a b c d:Nat):bV 4 (w4 a b c d) 0=some (a:Int):=rfl
theorem a41 (a b c d:Nat):bV 4 (w4 a b c d) 1=some (b:Int):=rfl
theorem a42 (a b c d:Nat):bV 4 (w4 a b c d) 2=some (c:Int):=rfl
theorem a43 (a b c d:Nat):bV 4 (w4 a b c d) 3=some (d:Int):=rfl
theorem bU (n:Nat):a9 4 (U n)=some (U n):=rfl
theorem q40 (a b c d:Int):bV 4 [a,b,c,d] 0=some a:=rfl
theorem q41 (a b c d:Int):bV 4 [a,b,c,d] 1=some b:=rfl
theorem q42 (a b c d:Int):bV 4 [a,b,c,d] 2=some c:=rfl
theorem q43 (a b c d:Int):bV 4 [a,b,c,d] 3=some d:=rfl
theorem t40 (a b c d x:Int):[a,b,c,d].set (aWe 0) x=[x,b,c,d]:=rfl
theorem t41 (a b c d x:Int):[a,b,c,d].set (aWe 1) x=[a,x,c,d]:=rfl
theorem t42 (a b c d x:Int):[a,b,c,d].set (aWe 2) x=[a,b,x,d]:=rfl
theorem t43 (a b c d x:Int):[a,b,c,d].set (aWe 3) x=[a,b,c,x]:=rfl
theorem r40 :aVR 4 (0:Int)=[0,0,0,0]:=rfl
theorem aTb (a b c d:Nat):w4 a b c d=[(a:Int),(b:Int),(c:Int),(d:Int)]:=rfl
theorem d04 :decide ((0:Int)<4)=true:=rfl
theorem d14 :decide ((1:Int)<4)=true:=rfl
theorem d24 :decide ((2:Int)<4)=true:=rfl
theorem d34 :decide ((3:Int)<4)=true:=rfl
theorem d44 :decide ((4:Int)<4)=false:=rfl
theorem i01 :aVQ.wrap (0+1)=1:=by decide +kernel
theorem i12 :aVQ.wrap (1+1)=2:=by decide +kernel
theorem i23 :aVQ.wrap (2+1)=3:=by decide +kernel
theorem i34 :aVQ.wrap (3+1)=4:=by decide +kernel
theorem i32 :aVQ.wrap (3-1)=2:=by decide +kernel
theorem i21 :aVQ.wrap (2-1)=1:=by decide +kernel
theorem i10 :aVQ.wrap (1-1)=0:=by decide +kernel
theorem i0m :aVQ.wrap (0-1)= -1:=by decide +kernel
theorem vW {α:Type}(f:Nat→α){N:Nat}(h:70000≤N): ∃m,f N=f (m+1+1+1+1+1):=⟨N-5,by congr 1;omega⟩
theorem sO {x y c:Nat}(hx:x<18446744073709551616)(hy:y<18446744073709551616)(hc:c≤1): ∃s k:Nat,s8 (x:Int) (y:Int) (c:Int)=some ((s:Int),(k:Int))∧x+y+c=s+18446744073709551616*k∧s<18446744073709551616∧k≤1:=by
 refine⟨(x+y+c)%18446744073709551616,(x+y+c)/18446744073709551616, ?_,by omega,by omega,by omega⟩
 unfold s8
 simp only[aVT]
 rw[if_pos hc]
theorem wI {x y c:Nat}(hx:x<18446744073709551616)(hy:y<18446744073709551616)(hc:c≤1): ∃s k:Nat,aFj (x:Int) (y:Int) (c:Int)=some ((s:Int),(k:Int))∧x+18446744073709551616*k=y+c+s∧s<18446744073709551616∧k≤1:=by
 refine⟨(x+18446744073709551616-y-c)%18446744073709551616,if x<y+c then 1 else 0, ?_, ?_,by omega, ?_⟩
 ·unfold aFj
  simp only[aVT]
  rw[if_pos hc]
 ·split<;>omega
 split<;>omega
theorem aTj {N:Nat}(hN:70000≤N){a0 a1 a2 a3 b0 b1 b2 b3:Nat}(ha0:a0<18446744073709551616)(ha1:a1<18446744073709551616)(ha2:a2<18446744073709551616)(ha3:a3<18446744073709551616)(hb0:b0<18446744073709551616)(hb1:b1<18446744073709551616)(hb2:b2<18446744073709551616)(hb3:b3<18446744073709551616):
  ∃s0 s1 s2 s3 k:Nat,xW N (w4 a0 a1 a2 a3) (w4 b0 b1 b2 b3)=some (w4 s0 s1 s2 s3,((k:Int) != 0))∧vl a0 a1 a2 a3+vl b0 b1 b2 b3=vl s0 s1 s2 s3+115792089237316195423570985008687907853269984665640564039457584007913129639936*k∧s0<18446744073709551616∧s1<18446744073709551616∧s2<18446744073709551616∧s3<18446744073709551616∧k≤1:=by
 obtain⟨s0,k0,e0,f0,g0,l0⟩:=sO ha0 hb0 (aWH 1)
 obtain⟨s1,k1,e1,f1,g1,l1⟩:=sO ha1 hb1 l0
 obtain⟨s2,k2,e2,f2,g2,l2⟩:=sO ha2 hb2 l1
 obtain⟨s3,k3,e3,f3,g3,l3⟩:=sO ha3 hb3 l2
 refine⟨s0,s1,s2,s3,k3, ?_,by unfold vl;omega,g0,g1,g2,g3,l3⟩
 obtain⟨m,hm⟩:=vW (fun q=>kM N (w4 a0 a1 a2 a3) (w4 b0 b1 b2 b3) q 0 0 (aVR 4 0)) hN
 unfold xW
 rw[hm]
 have e0':s8 (a0:Int) (b0:Int) 0=some ((s0:Int),(k0:Int)):=e0
 simp only[kM,d8,a40,a41,a42,a43,q40,q41,q42,q43,t40,t41,t42,t43,r40,i01,i12,i23,i34,d04,d14,d24,d34,d44,if_true,aVP,if_false,aVO,e0',e1,e2,e3,zV]
 rfl
theorem aQ1 {N:Nat}(hN:70000≤N){a b:Nat}(ha:a<115792089237316195423570985008687907853269984665640564039457584007913129639936)(hb:b<115792089237316195423570985008687907853269984665640564039457584007913129639936):xW N (U a) (U b)=some (U ((a+b)%115792089237316195423570985008687907853269984665640564039457584007913129639936),decide (115792089237316195423570985008687907853269984665640564039457584007913129639936≤a+b)):=by
 obtain⟨a0,a1,a2,a3,x0,x1,x2,x3,ea,va⟩:=aAX ha
 obtain⟨b0,b1,b2,b3,y0,y1,y2,y3,eb,vb⟩:=aAX hb
 obtain⟨s0,s1,s2,s3,k,h1,h2,z0,z1,z2,z3,hk⟩:=aTj hN x0 x1 x2 x3 y0 y1 y2 y3
 have hv:=aGE z0 z1 z2 z3
 rw[ea,eb,h1,aHb z0 z1 z2 z3,show(a+b)%115792089237316195423570985008687907853269984665640564039457584007913129639936=vl s0 s1 s2 s3 by omega]
 congr 2
 by_cases h:115792089237316195423570985008687907853269984665640564039457584007913129639936≤a+b
 ·rw[decide_eq_true h,show k=1 by omega];rfl
 rw[decide_eq_false h,show k=0 by omega];rfl
theorem aSQ {N:Nat}(hN:70000≤N){a0 a1 a2 a3 b0 b1 b2 b3:Nat}(ha0:a0<18446744073709551616)(ha1:a1<18446744073709551616)(ha2:a2<18446744073709551616)(ha3:a3<18446744073709551616)(hb0:b0<18446744073709551616)(hb1:b1<18446744073709551616)(hb2:b2<18446744073709551616)(hb3:b3<18446744073709551616):
  ∃s0 s1 s2 s3 k:Nat,sV N (w4 a0 a1 a2 a3) (w4 b0 b1 b2 b3)=some (w4 s0 s1 s2 s3,((k:Int) != 0))∧vl a0 a1 a2 a3+115792089237316195423570985008687907853269984665640564039457584007913129639936*k=vl b0 b1 b2 b3+vl s0 s1 s2 s3∧s0<18446744073709551616∧s1<18446744073709551616∧s2<18446744073709551616∧s3<18446744073709551616∧k≤1:=by
 obtain⟨s0,k0,e0,f0,g0,l0⟩:=wI ha0 hb0 (aWH 1)
 obtain⟨s1,k1,e1,f1,g1,l1⟩:=wI ha1 hb1 l0
 obtain⟨s2,k2,e2,f2,g2,l2⟩:=wI ha2 hb2 l1
 obtain⟨s3,k3,e3,f3,g3,l3⟩:=wI ha3 hb3 l2
 refine⟨s0,s1,s2,s3,k3, ?_,by unfold vl;omega,g0,g1,g2,g3,l3⟩
 obtain⟨m,hm⟩:=vW (fun q=>kU N (w4 a0 a1 a2 a3) (w4 b0 b1 b2 b3) q 0 0 (aVR 4 0)) hN
 unfold sV
 rw[hm]
 have e0':aFj (a0:Int) (b0:Int) 0=some ((s0:Int),(k0:Int)):=e0
 simp only[kU,sD,a40,a41,a42,a43,q40,q41,q42,q43,t40,t41,t42,t43,r40,i01,i12,i23,i34,d04,d14,d24,d34,d44,if_true,aVP,if_false,aVO,e0',e1,e2,e3,zI]
 rfl
theorem aGF {N:Nat}(hN:70000≤N){a b:Nat}(ha:a<115792089237316195423570985008687907853269984665640564039457584007913129639936)(hb:b<115792089237316195423570985008687907853269984665640564039457584007913129639936):sV N (U a) (U b)=some (U ((a+115792089237316195423570985008687907853269984665640564039457584007913129639936-b)%115792089237316195423570985008687907853269984665640564039457584007913129639936),decide (a<b)):=by
 obtain⟨a0,a1,a2,a3,x0,x1,x2,x3,ea,va⟩:=aAX ha
 obtain⟨b0,b1,b2,b3,y0,y1,y2,y3,eb,vb⟩:=aAX hb
 obtain⟨s0,s1,s2,s3,k,h1,h2,z0,z1,z2,z3,hk⟩:=aSQ hN x0 x1 x2 x3 y0 y1 y2 y3
 have hv:=aGE z0 z1 z2 z3
 rw[ea,eb,h1,aHb z0 z1 z2 z3,show(a+115792089237316195423570985008687907853269984665640564039457584007913129639936-b)%115792089237316195423570985008687907853269984665640564039457584007913129639936=vl s0 s1 s2 s3 by omega]
 congr 2
 by_cases h:a<b
 ·rw[decide_eq_true h,show k=1 by omega];rfl
 rw[decide_eq_false h,show k=0 by omega];rfl
theorem aAk {N:Nat}(hN:70000≤N){a b:Nat}(ha:a<115792089237316195423570985008687907853269984665640564039457584007913129639936)(hb:b<115792089237316195423570985008687907853269984665640564039457584007913129639936):pC N (U a) (U b)=some (if a<b then -1 else if b<a then 1 else 0):=by
 obtain⟨a0,a1,a2,a3,x0,x1,x2,x3,ea,va⟩:=aAX ha
 obtain⟨b0,b1,b2,b3,y0,y1,y2,y3,eb,vb⟩:=aAX hb
 rw[ea,eb]
 obtain⟨m,hm⟩:=vW (fun q=>oA N (w4 a0 a1 a2 a3) (w4 b0 b1 b2 b3) q 3) hN
 unfold pC
 rw[hm]
 unfold vl at va vb
 simp only[oA,a40,a41,a42,a43,i32,i21,i10,i0m,show decide ((0:Int)≤3)=true from rfl,show decide ((0:Int)≤2)=true from rfl,show decide ((0:Int)≤1)=true from rfl,show decide ((0:Int)≤0)=true from rfl,show decide ((0:Int)≤ -1)=false from rfl,if_true,aVP,if_false,aVO,aB7,decide_eq_true_eq,Int.ofNat_lt]
 by_cases c3:a3<b3
 ·rw[if_pos c3,if_pos (by omega)];rfl
 rw[if_neg c3]
 by_cases d3:b3<a3
 ·rw[if_pos d3,if_neg (by omega),if_pos (by omega)];rfl
 rw[if_neg d3]
 by_cases c2:a2<b2
 ·rw[if_pos c2,if_pos (by omega)];rfl
 rw[if_neg c2]
 by_cases d2:b2<a2
 ·rw[if_pos d2,if_neg (by omega),if_pos (by omega)];rfl
 rw[if_neg d2]
 by_cases c1:a1<b1
 ·rw[if_pos c1,if_pos (by omega)];rfl
 rw[if_neg c1]
 by_cases d1:b1<a1
 ·rw[if_pos d1,if_neg (by omega),if_pos (by omega)];rfl
 rw[if_neg d1]
 by_cases c0:a0<b0
 ·rw[if_pos c0,if_pos (by omega)];rfl
 rw[if_neg c0]
 by_cases d0:b0<a0
 ·rw[if_pos d0,if_neg (by omega),if_pos (by omega)];rfl
 rw[if_neg d0,if_neg (by omega),if_neg (by omega)];rfl
theorem aIK {x l:Nat}(hx:x<18446744073709551616)(hl:l≤1): ∃y s k:Nat,shl .u64 (x:Int) 1=some (y:Int)∧shr .u64 (x:Int) 63=some (k:Int)∧bits .or .u64 (y:Int) (l:Int)=(s:Int)∧2*x+l=s+18446744073709551616*k∧s<18446744073709551616∧k≤1:=by
 have h1:x*2^1%18446744073709551616=(x%9223372036854775808)*2^1:=by omega
 refine⟨x*2^1%18446744073709551616,(x%9223372036854775808)*2^1+l,x/9223372036854775808,aEm rfl x 1,aAz x 63 hx, ?_,by omega,by omega,by omega⟩
 rw[z5 rfl _ _ (show x*2^1%18446744073709551616<2^64 by omega) (show l<2^64 by omega),h1]
 congr 1
 rw[aV3,←aV7 (show l<2^1 by omega)]
theorem aQW {N:Nat}(hN:70000≤N){a l:Nat}(ha:a<115792089237316195423570985008687907853269984665640564039457584007913129639936)(hl:l≤1): ∃k:Nat,sQ N (U a) (l:Int)=some (U ((2*a+l)%115792089237316195423570985008687907853269984665640564039457584007913129639936),(k:Int))∧k=(2*a+l)/115792089237316195423570985008687907853269984665640564039457584007913129639936:=by
 obtain⟨a0,a1,a2,a3,x0,x1,x2,x3,ea,va⟩:=aAX ha
 obtain⟨y0,s0,k0,e0,f0,g0,h0,j0,l0⟩:=aIK x0 hl
 obtain⟨y1,s1,k1,e1,f1,g1,h1,j1,l1⟩:=aIK x1 l0
 obtain⟨y2,s2,k2,e2,f2,g2,h2,j2,l2⟩:=aIK x2 l1
 obtain⟨y3,s3,k3,e3,f3,g3,h3,j3,l3⟩:=aIK x3 l2
 unfold vl at va
 have hv:=aGE j0 j1 j2 j3
 have hvv:2*a+l=vl s0 s1 s2 s3+115792089237316195423570985008687907853269984665640564039457584007913129639936*k3:=by unfold vl;omega
 refine⟨k3, ?_,by omega⟩
 rw[ea,show(2*a+l)%115792089237316195423570985008687907853269984665640564039457584007913129639936=vl s0 s1 s2 s3 by omega,←aHb j0 j1 j2 j3]
 obtain⟨m,hm⟩:=vW (fun q=>nN N q (l:Int) 0 (w4 a0 a1 a2 a3)) hN
 unfold sQ
 rw[hm]
 simp only[nN,aTb,q40,q41,q42,q43,t40,t41,t42,t43,i01,i12,i23,i34,d04,d14,d24,d34,d44,if_true,aVP,if_false,aVO,e0,f0,g0,e1,f1,g1,e2,f2,g2,e3,f3,g3,yU]
 rfl
theorem um {a b:Nat}(h:a*b<18446744073709551616):aV6.wrap ((a:Int)*(b:Int))=((a*b:Nat):Int):=by rw[←Int.natCast_mul,aAn (by omega) (by omega)]
theorem up {a b:Nat}(h:a+b<18446744073709551616):aV6.wrap ((a:Int)+(b:Int))=((a+b:Nat):Int):=by rw[←Int.natCast_add,aAn (by omega) (by omega)]
theorem aNl {x:Nat}(h:x<18446744073709551616):bits .and .u64 (x:Int) 4294967295=((x%4294967296:Nat):Int):=by
 rw[show(4294967295:Int)=((4294967295:Nat):Int)from rfl,aFH (k:= .u64) rfl x _ (show x<2^64 from h) (by decide),show 4294967295=2^32-1 from rfl,Nat.and_two_pow_sub_one_eq_mod]
theorem aGj {x:Nat}(h:x<18446744073709551616):shr .u64 (x:Int) 32=some ((x/4294967296:Nat):Int):=aAz x 32 h
theorem aQf {N x y:Nat}(hx:x<18446744073709551616)(hy:y<18446744073709551616): ∃h l:Nat,lU N (x:Int) (y:Int)=some ((h:Int),(l:Int))∧x*y=l+18446744073709551616*h∧l<18446744073709551616∧h<18446744073709551616:=by
 have x0:x%4294967296≤4294967295:=by omega
 have y0:y%4294967296≤4294967295:=by omega
 have x1:x/4294967296≤4294967295:=by omega
 have y1:y/4294967296≤4294967295:=by omega
 have ex:x=4294967296*(x/4294967296)+x%4294967296:=by omega
 have ey:y=4294967296*(y/4294967296)+y%4294967296:=by omega
 have lo:aV6.wrap ((x:Int)*(y:Int))=((x*y%18446744073709551616:Nat):Int):=by rw[←Int.natCast_mul,aXk];omega
 unfold lU
 rw[aNl hx,aNl hy,aGj hx,aGj hy,lo]
 simp only[aVO]
 generalize x/4294967296=u1 at *
 generalize x%4294967296=u0 at *
 generalize y/4294967296=v1 at *
 generalize y%4294967296=v0 at *
 have p00:=aWs x0 y0
 have p10:=aWs x1 y0
 have p01:=aWs x0 y1
 have p11:=aWs x1 y1
 have hxy:x*y=18446744073709551616*(u1*v1)+4294967296*(u1*v0)+4294967296*(u0*v1)+u0*v0:=by
  rw[ex,ey,aWu,aWS,aWS,Nat.mul_mul_mul_comm,aWB 4294967296 u1 v0,aWq u0 4294967296 v1]
  omega
 rw[um (a:=u0) (b:=v0) (by omega),um (a:=u1) (b:=v0) (by omega),um (a:=u0) (b:=v1) (by omega),um (a:=u1) (b:=v1) (by omega)]
 clear ex ey lo
 generalize u0*v0=q00 at *
 generalize u1*v0=q10 at *
 generalize u0*v1=q01 at *
 generalize u1*v1=q11 at *
 rw[aGj (x:=q00) (by omega)]
 simp only[aVO]
 rw[up (a:=q10) (by omega),aGj (x:=q10+q00/4294967296) (by omega),aNl (x:=q10+q00/4294967296) (by omega)]
 simp only[aVO]
 rw[up (a:=(q10+q00/4294967296)%4294967296) (by omega),aGj (x:=(q10+q00/4294967296)%4294967296+q01) (by omega)]
 simp only[aVO]
 rw[up (a:=q11) (by omega),up (a:=q11+(q10+q00/4294967296)/4294967296) (by omega)]
 exact⟨_,_,rfl,by omega,by omega,by omega⟩
theorem tB {N A b w c:Nat}(hA:A<18446744073709551616)(hb:b<18446744073709551616)(hw:w<18446744073709551616)(hc:c<18446744073709551616): ∃h l s k s' k' d:Nat,lU N (A:Int) (b:Int)=some ((h:Int),(l:Int))∧s8 (l:Int) (w:Int) 0=some ((s:Int),(k:Int))∧s8 (s:Int) (c:Int) 0=some ((s':Int),(k':Int))∧
  aV6.wrap (aV6.wrap ((h:Int)+(k:Int))+(k':Int))=(d:Int)∧A*b+w+c=s'+18446744073709551616*d∧s'<18446744073709551616∧d<18446744073709551616:=by
 obtain⟨h,l,e1,f1,l1,h1⟩:=aQf (N:=N) hA hb
 obtain⟨s,k,e2,f2,l2,h2⟩:=sO l1 hw (aWH 1)
 obtain⟨s',k',e3,f3,l3,h3⟩:=sO l2 hc (aWH 1)
 have hP:=aWs (aWI hA) (aWI hb)
 simp only[aXa,Nat.reduceSub,Nat.reduceMul]at hP
 have hd:h+k+k'<18446744073709551616:=by omega
 refine⟨h,l,s,k,s',k',h+k+k',e1,e2,e3, ?_,by omega,l3,hd⟩
 rw[up (by omega),up (by omega)]
theorem q80 (a b c d e f g h:Int):bV 8 [a,b,c,d,e,f,g,h] 0=some a:=rfl
theorem q81 (a b c d e f g h:Int):bV 8 [a,b,c,d,e,f,g,h] 1=some b:=rfl
theorem q82 (a b c d e f g h:Int):bV 8 [a,b,c,d,e,f,g,h] 2=some c:=rfl
theorem q83 (a b c d e f g h:Int):bV 8 [a,b,c,d,e,f,g,h] 3=some d:=rfl
theorem q84 (a b c d e f g h:Int):bV 8 [a,b,c,d,e,f,g,h] 4=some e:=rfl
theorem q85 (a b c d e f g h:Int):bV 8 [a,b,c,d,e,f,g,h] 5=some f:=rfl
theorem q86 (a b c d e f g h:Int):bV 8 [a,b,c,d,e,f,g,h] 6=some g:=rfl
theorem q87 (a b c d e f g h:Int):bV 8 [a,b,c,d,e,f,g,h] 7=some h:=rfl
theorem t80 (a b c d e f g h x:Int):[a,b,c,d,e,f,g,h].set (aWe 0) x=[x,b,c,d,e,f,g,h]:=rfl
theorem t81 (a b c d e f g h x:Int):[a,b,c,d,e,f,g,h].set (aWe 1) x=[a,x,c,d,e,f,g,h]:=rfl
theorem t82 (a b c d e f g h x:Int):[a,b,c,d,e,f,g,h].set (aWe 2) x=[a,b,x,d,e,f,g,h]:=rfl
theorem t83 (a b c d e f g h x:Int):[a,b,c,d,e,f,g,h].set (aWe 3) x=[a,b,c,x,e,f,g,h]:=rfl
theorem t84 (a b c d e f g h x:Int):[a,b,c,d,e,f,g,h].set (aWe 4) x=[a,b,c,d,x,f,g,h]:=rfl
theorem t85 (a b c d e f g h x:Int):[a,b,c,d,e,f,g,h].set (aWe 5) x=[a,b,c,d,e,x,g,h]:=rfl
theorem t86 (a b c d e f g h x:Int):[a,b,c,d,e,f,g,h].set (aWe 6) x=[a,b,c,d,e,f,x,h]:=rfl
theorem t87 (a b c d e f g h x:Int):[a,b,c,d,e,f,g,h].set (aWe 7) x=[a,b,c,d,e,f,g,x]:=rfl
theorem x00 :aVQ.wrap (0+0)=0:=by decide +kernel
theorem x01 :aVQ.wrap (0+1)=1:=by decide +kernel
theorem x02 :aVQ.wrap (0+2)=2:=by decide +kernel
theorem x03 :aVQ.wrap (0+3)=3:=by decide +kernel
theorem x04 :aVQ.wrap (0+4)=4:=by decide +kernel
theorem cD :aVQ.wrap (1+0)=1:=by decide +kernel
theorem b4 :aVQ.wrap (1+1)=2:=by decide +kernel
theorem fC :aVQ.wrap (1+2)=3:=by decide +kernel
theorem d5 :aVQ.wrap (1+3)=4:=by decide +kernel
theorem bR :aVQ.wrap (1+4)=5:=by decide +kernel
theorem bS :aVQ.wrap (2+0)=2:=by decide +kernel
theorem d9 :aVQ.wrap (2+1)=3:=by decide +kernel
theorem bX :aVQ.wrap (2+2)=4:=by decide +kernel
theorem iB :aVQ.wrap (2+3)=5:=by decide +kernel
theorem fG :aVQ.wrap (2+4)=6:=by decide +kernel
theorem lL :aVQ.wrap (3+0)=3:=by decide +kernel
theorem e9 :aVQ.wrap (3+1)=4:=by decide +kernel
theorem nW :aVQ.wrap (3+2)=5:=by decide +kernel
theorem jY :aVQ.wrap (3+3)=6:=by decide +kernel
theorem cV :aVQ.wrap (3+4)=7:=by decide +kernel
theorem aVu {N:Nat}(hN:70000≤N){va:List Int}{A b0 b1 b2 b3 w0 w1 w2 w3 w4' w5 w6 w7:Nat}(hA:bV 4 va 0=some (A:Int))(gA:A<18446744073709551616)(g0:b0<18446744073709551616)(g1:b1<18446744073709551616)(g2:b2<18446744073709551616)(g3:b3<18446744073709551616)(h0:w0<18446744073709551616)(h1:w1<18446744073709551616)(h2:w2<18446744073709551616)(h3:w3<18446744073709551616):
  ∃s0 s1 s2 s3 c:Nat,dJ N va (w4 b0 b1 b2 b3) 0 N 0 0 [(w0:Int),(w1:Int),(w2:Int),(w3:Int),(w4':Int),(w5:Int),(w6:Int),(w7:Int)]=some ((c:Int),[(s0:Int),(s1:Int),(s2:Int),(s3:Int),(w4':Int),(w5:Int),(w6:Int),(w7:Int)])∧vl w0 w1 w2 w3+(A*b0+18446744073709551616*(A*b1)+340282366920938463463374607431768211456*(A*b2)+6277101735386680763835789423207666416102355444464034512896*(A*b3))=vl s0 s1 s2 s3+115792089237316195423570985008687907853269984665640564039457584007913129639936*c∧s0<18446744073709551616∧s1<18446744073709551616∧s2<18446744073709551616∧s3<18446744073709551616∧c<18446744073709551616:=by
 obtain⟨hh0,ll0,ss0,kk0,s0,jj0,c0,e0,f0,m0,n0,v0,y0,z0⟩:=tB (N:=N) gA g0 h0 (show(0:Nat)<18446744073709551616 by omega)
 obtain⟨hh1,ll1,ss1,kk1,s1,jj1,c1,e1,f1,m1,n1,v1,y1,z1⟩:=tB (N:=N) gA g1 h1 z0
 obtain⟨hh2,ll2,ss2,kk2,s2,jj2,c2,e2,f2,m2,n2,v2,y2,z2⟩:=tB (N:=N) gA g2 h2 z1
 obtain⟨hh3,ll3,ss3,kk3,s3,jj3,c3,e3,f3,m3,n3,v3,y3,z3⟩:=tB (N:=N) gA g3 h3 z2
 refine⟨s0,s1,s2,s3,c3, ?_,by unfold vl;omega,y0,y1,y2,y3,z3⟩
 obtain⟨m,hm⟩:=vW (fun q=>dJ N va (w4 b0 b1 b2 b3) 0 q 0 0 [(w0:Int),(w1:Int),(w2:Int),(w3:Int),(w4':Int),(w5:Int),(w6:Int),(w7:Int)]) hN
 rw[hm]
 have m0':s8 (ss0:Int) 0 0=some ((s0:Int),(jj0:Int)):=m0
 simp only[dJ,d8,hA,a40,a41,a42,a43,q80,q81,q82,q83,q84,q85,q86,q87,t80,t81,t82,t83,t84,t85,t86,t87,i01,i12,i23,i34,d04,d14,d24,d34,d44,x00,x01,x02,x03,x04,cD,b4,fC,d5,bR,bS,d9,bX,iB,fG,lL,e9,nW,jY,cV,if_true,aVP,if_false,aVO,e0,e1,e2,e3,f0,f1,f2,f3,m0',m1,m2,m3,n0,n1,n2,n3]
theorem aU8 {N:Nat}(hN:70000≤N){va:List Int}{A b0 b1 b2 b3 w0 w1 w2 w3 w4' w5 w6 w7:Nat}(hA:bV 4 va 1=some (A:Int))(gA:A<18446744073709551616)(g0:b0<18446744073709551616)(g1:b1<18446744073709551616)(g2:b2<18446744073709551616)(g3:b3<18446744073709551616)(h0:w1<18446744073709551616)(h1:w2<18446744073709551616)(h2:w3<18446744073709551616)(h3:w4'<18446744073709551616):
  ∃s0 s1 s2 s3 c:Nat,dJ N va (w4 b0 b1 b2 b3) 1 N 0 0 [(w0:Int),(w1:Int),(w2:Int),(w3:Int),(w4':Int),(w5:Int),(w6:Int),(w7:Int)]=some ((c:Int),[(w0:Int),(s0:Int),(s1:Int),(s2:Int),(s3:Int),(w5:Int),(w6:Int),(w7:Int)])∧vl w1 w2 w3 w4'+(A*b0+18446744073709551616*(A*b1)+340282366920938463463374607431768211456*(A*b2)+6277101735386680763835789423207666416102355444464034512896*(A*b3))=vl s0 s1 s2 s3+115792089237316195423570985008687907853269984665640564039457584007913129639936*c∧s0<18446744073709551616∧s1<18446744073709551616∧s2<18446744073709551616∧s3<18446744073709551616∧c<18446744073709551616:=by
 obtain⟨hh0,ll0,ss0,kk0,s0,jj0,c0,e0,f0,m0,n0,v0,y0,z0⟩:=tB (N:=N) gA g0 h0 (show(0:Nat)<18446744073709551616 by omega)
 obtain⟨hh1,ll1,ss1,kk1,s1,jj1,c1,e1,f1,m1,n1,v1,y1,z1⟩:=tB (N:=N) gA g1 h1 z0
 obtain⟨hh2,ll2,ss2,kk2,s2,jj2,c2,e2,f2,m2,n2,v2,y2,z2⟩:=tB (N:=N) gA g2 h2 z1
 obtain⟨hh3,ll3,ss3,kk3,s3,jj3,c3,e3,f3,m3,n3,v3,y3,z3⟩:=tB (N:=N) gA g3 h3 z2
 refine⟨s0,s1,s2,s3,c3, ?_,by unfold vl;omega,y0,y1,y2,y3,z3⟩
 obtain⟨m,hm⟩:=vW (fun q=>dJ N va (w4 b0 b1 b2 b3) 1 q 0 0 [(w0:Int),(w1:Int),(w2:Int),(w3:Int),(w4':Int),(w5:Int),(w6:Int),(w7:Int)]) hN
 rw[hm]
 have m0':s8 (ss0:Int) 0 0=some ((s0:Int),(jj0:Int)):=m0
 simp only[dJ,d8,hA,a40,a41,a42,a43,q80,q81,q82,q83,q84,q85,q86,q87,t80,t81,t82,t83,t84,t85,t86,t87,i01,i12,i23,i34,d04,d14,d24,d34,d44,x00,x01,x02,x03,x04,cD,b4,fC,d5,bR,bS,d9,bX,iB,fG,lL,e9,nW,jY,cV,if_true,aVP,if_false,aVO,e0,e1,e2,e3,f0,f1,f2,f3,m0',m1,m2,m3,n0,n1,n2,n3]
theorem aUK {N:Nat}(hN:70000≤N){va:List Int}{A b0 b1 b2 b3 w0 w1 w2 w3 w4' w5 w6 w7:Nat}(hA:bV 4 va 2=some (A:Int))(gA:A<18446744073709551616)(g0:b0<18446744073709551616)(g1:b1<18446744073709551616)(g2:b2<18446744073709551616)(g3:b3<18446744073709551616)(h0:w2<18446744073709551616)(h1:w3<18446744073709551616)(h2:w4'<18446744073709551616)(h3:w5<18446744073709551616):
  ∃s0 s1 s2 s3 c:Nat,dJ N va (w4 b0 b1 b2 b3) 2 N 0 0 [(w0:Int),(w1:Int),(w2:Int),(w3:Int),(w4':Int),(w5:Int),(w6:Int),(w7:Int)]=some ((c:Int),[(w0:Int),(w1:Int),(s0:Int),(s1:Int),(s2:Int),(s3:Int),(w6:Int),(w7:Int)])∧vl w2 w3 w4' w5+(A*b0+18446744073709551616*(A*b1)+340282366920938463463374607431768211456*(A*b2)+6277101735386680763835789423207666416102355444464034512896*(A*b3))=vl s0 s1 s2 s3+115792089237316195423570985008687907853269984665640564039457584007913129639936*c∧s0<18446744073709551616∧s1<18446744073709551616∧s2<18446744073709551616∧s3<18446744073709551616∧c<18446744073709551616:=by
 obtain⟨hh0,ll0,ss0,kk0,s0,jj0,c0,e0,f0,m0,n0,v0,y0,z0⟩:=tB (N:=N) gA g0 h0 (show(0:Nat)<18446744073709551616 by omega)
 obtain⟨hh1,ll1,ss1,kk1,s1,jj1,c1,e1,f1,m1,n1,v1,y1,z1⟩:=tB (N:=N) gA g1 h1 z0
 obtain⟨hh2,ll2,ss2,kk2,s2,jj2,c2,e2,f2,m2,n2,v2,y2,z2⟩:=tB (N:=N) gA g2 h2 z1
 obtain⟨hh3,ll3,ss3,kk3,s3,jj3,c3,e3,f3,m3,n3,v3,y3,z3⟩:=tB (N:=N) gA g3 h3 z2
 refine⟨s0,s1,s2,s3,c3, ?_,by unfold vl;omega,y0,y1,y2,y3,z3⟩
 obtain⟨m,hm⟩:=vW (fun q=>dJ N va (w4 b0 b1 b2 b3) 2 q 0 0 [(w0:Int),(w1:Int),(w2:Int),(w3:Int),(w4':Int),(w5:Int),(w6:Int),(w7:Int)]) hN
 rw[hm]
 have m0':s8 (ss0:Int) 0 0=some ((s0:Int),(jj0:Int)):=m0
 simp only[dJ,d8,hA,a40,a41,a42,a43,q80,q81,q82,q83,q84,q85,q86,q87,t80,t81,t82,t83,t84,t85,t86,t87,i01,i12,i23,i34,d04,d14,d24,d34,d44,x00,x01,x02,x03,x04,cD,b4,fC,d5,bR,bS,d9,bX,iB,fG,lL,e9,nW,jY,cV,if_true,aVP,if_false,aVO,e0,e1,e2,e3,f0,f1,f2,f3,m0',m1,m2,m3,n0,n1,n2,n3]
theorem aU4 {N:Nat}(hN:70000≤N){va:List Int}{A b0 b1 b2 b3 w0 w1 w2 w3 w4' w5 w6 w7:Nat}(hA:bV 4 va 3=some (A:Int))(gA:A<18446744073709551616)(g0:b0<18446744073709551616)(g1:b1<18446744073709551616)(g2:b2<18446744073709551616)(g3:b3<18446744073709551616)(h0:w3<18446744073709551616)(h1:w4'<18446744073709551616)(h2:w5<18446744073709551616)(h3:w6<18446744073709551616):
  ∃s0 s1 s2 s3 c:Nat,dJ N va (w4 b0 b1 b2 b3) 3 N 0 0 [(w0:Int),(w1:Int),(w2:Int),(w3:Int),(w4':Int),(w5:Int),(w6:Int),(w7:Int)]=some ((c:Int),[(w0:Int),(w1:Int),(w2:Int),(s0:Int),(s1:Int),(s2:Int),(s3:Int),(w7:Int)])∧vl w3 w4' w5 w6+(A*b0+18446744073709551616*(A*b1)+340282366920938463463374607431768211456*(A*b2)+6277101735386680763835789423207666416102355444464034512896*(A*b3))=vl s0 s1 s2 s3+115792089237316195423570985008687907853269984665640564039457584007913129639936*c∧s0<18446744073709551616∧s1<18446744073709551616∧s2<18446744073709551616∧s3<18446744073709551616∧c<18446744073709551616:=by
 obtain⟨hh0,ll0,ss0,kk0,s0,jj0,c0,e0,f0,m0,n0,v0,y0,z0⟩:=tB (N:=N) gA g0 h0 (show(0:Nat)<18446744073709551616 by omega)
 obtain⟨hh1,ll1,ss1,kk1,s1,jj1,c1,e1,f1,m1,n1,v1,y1,z1⟩:=tB (N:=N) gA g1 h1 z0
 obtain⟨hh2,ll2,ss2,kk2,s2,jj2,c2,e2,f2,m2,n2,v2,y2,z2⟩:=tB (N:=N) gA g2 h2 z1
 obtain⟨hh3,ll3,ss3,kk3,s3,jj3,c3,e3,f3,m3,n3,v3,y3,z3⟩:=tB (N:=N) gA g3 h3 z2
 refine⟨s0,s1,s2,s3,c3, ?_,by unfold vl;omega,y0,y1,y2,y3,z3⟩
 obtain⟨m,hm⟩:=vW (fun q=>dJ N va (w4 b0 b1 b2 b3) 3 q 0 0 [(w0:Int),(w1:Int),(w2:Int),(w3:Int),(w4':Int),(w5:Int),(w6:Int),(w7:Int)]) hN
 rw[hm]
 have m0':s8 (ss0:Int) 0 0=some ((s0:Int),(jj0:Int)):=m0
 simp only[dJ,d8,hA,a40,a41,a42,a43,q80,q81,q82,q83,q84,q85,q86,q87,t80,t81,t82,t83,t84,t85,t86,t87,i01,i12,i23,i34,d04,d14,d24,d34,d44,x00,x01,x02,x03,x04,cD,b4,fC,d5,bR,bS,d9,bX,iB,fG,lL,e9,nW,jY,cV,if_true,aVP,if_false,aVO,e0,e1,e2,e3,f0,f1,f2,f3,m0',m1,m2,m3,n0,n1,n2,n3]
theorem aS7 (A b0 b1 b2 b3:Nat):A*vl b0 b1 b2 b3=A*b0+18446744073709551616*(A*b1)+340282366920938463463374607431768211456*(A*b2)+6277101735386680763835789423207666416102355444464034512896*(A*b3):=by
 unfold vl
 rw[aWS,aWS,aWS,aWq A 18446744073709551616 b1,aWq A 340282366920938463463374607431768211456 b2,aWq A 6277101735386680763835789423207666416102355444464034512896 b3]
theorem aQ2 {N:Nat}(hN:70000≤N){a b:Nat}(ha:a<115792089237316195423570985008687907853269984665640564039457584007913129639936)(hb:b<115792089237316195423570985008687907853269984665640564039457584007913129639936):aAs N (U a) (U b)=some (U (a*b/115792089237316195423570985008687907853269984665640564039457584007913129639936),U (a*b%115792089237316195423570985008687907853269984665640564039457584007913129639936)):=by
 obtain⟨a0,a1,a2,a3,x0,x1,x2,x3,ea,va⟩:=aAX ha
 obtain⟨b0,b1,b2,b3,y0,y1,y2,y3,eb,vb⟩:=aAX hb
 have zW:(0:Nat)<18446744073709551616:=by omega
 obtain⟨s00,s01,s02,s03,c0,e0,f0,g00,g01,g02,g03,h0⟩:=aVu (N:=N) hN (w0:=0) (w1:=0) (w2:=0) (w3:=0) (w4':=0) (w5:=0) (w6:=0) (w7:=0) (a40 a0 a1 a2 a3) x0 y0 y1 y2 y3 zW zW zW zW
 obtain⟨s10,s11,s12,s13,c1,e1,f1,g10,g11,g12,g13,h1⟩:=aU8 (N:=N) hN (w0:=s00) (w5:=0) (w6:=0) (w7:=0) (a41 a0 a1 a2 a3) x1 y0 y1 y2 y3 g01 g02 g03 h0
 obtain⟨s20,s21,s22,s23,c2,e2,f2,g20,g21,g22,g23,h2⟩:=aUK (N:=N) hN (w0:=s00) (w1:=s10) (w6:=0) (w7:=0) (a42 a0 a1 a2 a3) x2 y0 y1 y2 y3 g11 g12 g13 h1
 obtain⟨s30,s31,s32,s33,c3,e3,f3,g30,g31,g32,g33,h3⟩:=aU4 (N:=N) hN (w0:=s00) (w1:=s10) (w2:=s20) (w7:=0) (a43 a0 a1 a2 a3) x3 y0 y1 y2 y3 g21 g22 g23 h2
 rw[←aS7]at f0 f1 f2 f3
 rw[←vb]at f0 f1 f2 f3
 have hab:a*b=a0*b+18446744073709551616*(a1*b)+340282366920938463463374607431768211456*(a2*b)+6277101735386680763835789423207666416102355444464034512896*(a3*b):=by
  rw[va];unfold vl
  rw[aWu,aWu,aWu,aWB,aWB,aWB]
 have k1:=aGE g00 g10 g20 g30
 have hsum:a*b=vl s00 s10 s20 s30+115792089237316195423570985008687907853269984665640564039457584007913129639936*vl s31 s32 s33 c3:=by
  rw[hab]
  unfold vl at *
  omega
 rw[ea,eb,show a*b/115792089237316195423570985008687907853269984665640564039457584007913129639936=vl s31 s32 s33 c3 by omega,show a*b%115792089237316195423570985008687907853269984665640564039457584007913129639936=vl s00 s10 s20 s30 by omega,←aHb g00 g10 g20 g30,←aHb g31 g32 g33 h3]
 obtain⟨m,hm⟩:=vW (fun q=>kP N (w4 a0 a1 a2 a3) (w4 b0 b1 b2 b3) q 0 (aVR 8 0)) hN
 unfold aAs
 rw[hm]
 have e0':dJ N (w4 a0 a1 a2 a3) (w4 b0 b1 b2 b3) 0 N 0 0 [0,0,0,0,0,0,0,0]=some ((c0:Int),[(s00:Int),(s01:Int),(s02:Int),(s03:Int),0,0,0,0]):=e0
 have e1':dJ N (w4 a0 a1 a2 a3) (w4 b0 b1 b2 b3) 1 N 0 0 [(s00:Int),(s01:Int),(s02:Int),(s03:Int),(c0:Int),0,0,0]=some ((c1:Int),[(s00:Int),(s10:Int),(s11:Int),(s12:Int),(s13:Int),0,0,0]):=e1
 have e2':dJ N (w4 a0 a1 a2 a3) (w4 b0 b1 b2 b3) 2 N 0 0 [(s00:Int),(s10:Int),(s11:Int),(s12:Int),(s13:Int),(c1:Int),0,0]=some ((c2:Int),[(s00:Int),(s10:Int),(s20:Int),(s21:Int),(s22:Int),(s23:Int),0,0]):=e2
 have e3':dJ N (w4 a0 a1 a2 a3) (w4 b0 b1 b2 b3) 3 N 0 0 [(s00:Int),(s10:Int),(s20:Int),(s21:Int),(s22:Int),(s23:Int),(c2:Int),0]=some ((c3:Int),[(s00:Int),(s10:Int),(s20:Int),(s30:Int),(s31:Int),(s32:Int),(s33:Int),0]):=e3
 simp only[kP,zU,zX,show aVR 8 (0:Int)=[0,0,0,0,0,0,0,0]from rfl,e0',e1',e2',e3',q84,q85,q86,q87,t84,t85,t86,t87,i01,i12,i23,i34,d04,d14,d24,d34,d44,x04,bR,fG,cV,if_true,aVP,if_false,aVO]
 rfl
theorem aEB :(2:Nat)^256=115792089237316195423570985008687907853269984665640564039457584007913129639936:=by decide +kernel
theorem aTa {K v:Nat}(hK:K+1≤256)(hv:v<2^(K+1)): ∃t v',t≤1∧v'<2^K∧v=t*2^K+v'∧2*(v*2^(256-(K+1)))=t*115792089237316195423570985008687907853269984665640564039457584007913129639936+v'*2^(256-K)∧v'*2^(256-K)<115792089237316195423570985008687907853269984665640564039457584007913129639936:=by
 have hp:0<2^K:=aWw (by omega)
 rw[aWf]at hv
 have h256:2^K*2^(256-K)=115792089237316195423570985008687907853269984665640564039457584007913129639936:=by rw[←aWx,show K+(256-K)=256 by omega,aEB]
 have hlt:v%2^K<2^K:=aVZ _ hp
 refine⟨v/2^K,v%2^K, ?_,hlt, ?_, ?_, ?_⟩
 ·exact Nat.le_of_lt_succ ((aWg hp).2 (by rw[aV3];exact hv))
 ·rw[aV3];exact(aWT v (2^K)).symm
 ·have hx:2^(256-K)=2*2^(256-(K+1)):=by rw[show 256-K=(256-(K+1))+1 by omega,aWf,aV3]
  rw[aWq,←hx]
  conv=>lhs;rw[←aWT v (2^K),aWu,aXf,h256]
  rw[aV3]
 rw[←h256]
 exact Nat.mul_lt_mul_of_pos_right hlt (aWw (by omega))
theorem yG {α:Type}{n:Nat}{l:List α}(h:l.length=n):a9 n l=some l:=by unfold a9;rw[if_pos h]
theorem aHH (T b p v:Nat):((T%b)*p+v)%b=(T*p+v)%b:=by
 rw[aXb,aXc,aXp,←aXc,←aXb]
theorem aIG (a b:Nat):decide ((0:Int)≤if a<b then -1 else if b<a then 1 else 0)=decide (b≤a):=by
 by_cases h:a<b
 ·rw[if_pos h,decide_eq_false (show¬b≤a by omega)];rfl
 rw[if_neg h,decide_eq_true (show b≤a by omega)]
 split<;>rfl
theorem aKM (a b:Nat):decide ((if a<b then(-1:Int)else if b<a then 1 else 0)<0)=decide (a<b):=by
 by_cases h:a<b
 ·rw[if_pos h,decide_eq_true h];rfl
 rw[if_neg h,decide_eq_false h]
 split<;>rfl
theorem aQT (a b:Nat):decide ((if a<b then(-1:Int)else if b<a then 1 else 0)≤0)=decide (a≤b):=by
 by_cases h:a<b
 ·rw[if_pos h,decide_eq_true (show a≤b by omega)];rfl
 rw[if_neg h]
 by_cases h2:b<a
 ·rw[if_pos h2,decide_eq_false (show¬a≤b by omega)];rfl
 rw[if_neg h2,decide_eq_true (show a≤b by omega)];rfl
section
variable {N:Nat}(hN:70000≤N){b:Nat}(hb:b<115792089237316195423570985008687907853269984665640564039457584007913129639936)(hb0:0<b)
include hN hb hb0
theorem aRf {dB:Nat}(hw:dB<4){m c K v r:Nat}(hc:c<64)(hK:K=64*dB+c)(hv:v<2^(K+1))(hr:r<b){q:List Int}(hq:q.length=4)(hnz: ¬(r=0∧v=0)):
  ∃q' v' r',q'.length=4∧v'<2^K∧r'<b∧(r'*2^K+v')%b=(r*2^(K+1)+v)%b∧
   dV N (U b) (dB:Int) (m+1) (c:Int) (U (v*2^(256-(K+1)))) q (U r)=dV N (U b) (dB:Int) m ((c:Int)-1) (U (v'*2^(256-K))) q' (U r'):=by
 obtain⟨t,v',ht,hv',hvv,h2,h3⟩:=aTa (by omega:K+1≤256) hv
 have hlo:v*2^(256-(K+1))<115792089237316195423570985008687907853269984665640564039457584007913129639936:=by
  have h5:=(Nat.mul_lt_mul_right (aWw (n:=256-(K+1)) (show 0<2 by omega))).2 hv
  rw[←aWx,show K+1+(256-(K+1))=256 by omega,aEB]at h5
  exact h5
 generalize hlov:v*2^(256-(K+1))=lo at *
 generalize hlov':v'*2^(256-K)=lo' at *
 have hr4:r<115792089237316195423570985008687907853269984665640564039457584007913129639936:=by omega
 obtain⟨k,d1,d2⟩:=aQW hN hlo (aWH 1)
 rw[show(2*lo+0)%115792089237316195423570985008687907853269984665640564039457584007913129639936=lo' by omega,show(2*lo+0)/115792089237316195423570985008687907853269984665640564039457584007913129639936=t by omega]at *
 rw[d2]at d1
 clear d2
 obtain⟨k,d3,d4⟩:=aQW hN hr4 ht
 have d1':sQ N (U lo) 0=some (U lo',((t:Nat):Int)):=d1
 have hT:(2*r+t)%b<b:=aVZ _ hb0
 have hTv:((2*r+t)%b*2^K+v')%b=(r*2^(K+1)+v)%b:=by
  rw[aHH,hvv,aWu,aWf,aWZ,aXf 2 r,aV3 (2^K) 2,aV3 (2*2^K) r]
 have main: ∀(q:List Int),q.length=4→ ∃q',q'.length=4∧vC N (U b) (dB:Int) (c:Int) (U lo) q (U r) (dV N (U b) (dB:Int) m) false=dV N (U b) (dB:Int) m ((c:Int)-1) (U lo') q' (U ((2*r+t)%b)):=by
  intro q hq
  simp only[vC,aVP,if_false,bU,d1',d3,aVO]
  have hcw:aVQ.wrap ((c:Int)-1)=(c:Int)-1:=cR (by omega) (by omega)
  have hsub: ∀(x:Nat),x<115792089237316195423570985008687907853269984665640564039457584007913129639936→(x+115792089237316195423570985008687907853269984665640564039457584007913129639936-b)%115792089237316195423570985008687907853269984665640564039457584007913129639936=(2*r+t)%b→ ∃q',q'.length=4∧sT N (U b) (dB:Int) (c:Int) q (U lo',((t:Nat):Int)) (U x,(k:Int)) (dV N (U b) (dB:Int) m) true=dV N (U b) (dB:Int) m ((c:Int)-1) (U lo') q' (U ((2*r+t)%b)):=by
   intro x hx he
   have hs:shl .u64 1 (c:Int)=some ((1*2^c%2^aV6.bits:Nat):Int):=aEm rfl 1 c
   have ha:bV 4 q (dB:Int)=some (q[dB]'(by omega)):=by
    unfold bV
    rw[if_pos (by omega),cL q (by omega)]
   refine⟨q.set (aWe (dB:Int)) (bits .or .u64 (q[dB]'(by omega)) ((1*2^c%2^aV6.bits:Nat):Int)),by rw[aV5];exact hq, ?_⟩
   simp only[sT,if_true,aGF hN hx hb,aVO,bU,ha,hs,vD,hcw,he]
  by_cases h1:2*r+t<115792089237316195423570985008687907853269984665640564039457584007913129639936
  ·have hk0:k=0:=by omega
   subst hk0
   simp only[show(((0:Nat):Int) != 0)=false from rfl,aVP,if_false,aAk hN (show(2*r+t)%115792089237316195423570985008687907853269984665640564039457584007913129639936<115792089237316195423570985008687907853269984665640564039457584007913129639936 by omega) hb,aVO,aIG]
   rw[aVV h1]at *
   by_cases h4:b≤2*r+t
   ·rw[decide_eq_true h4]
    refine hsub _ h1 ?_
    rw[aWm h4,aVV (show 2*r+t-b<b by omega)]
    omega
   rw[decide_eq_false h4]
   refine⟨q,hq, ?_⟩
   simp only[sT,aVP,if_false,vD,hcw]
   rw[aVV (show 2*r+t<b by omega)]
  have hk1:k=1:=by omega
  subst hk1
  simp only[show(((1:Nat):Int) != 0)=true from rfl,if_true]
  refine hsub _ (by omega) ?_
  rw[aWm (show b≤2*r+t by omega),aVV (show 2*r+t-b<b by omega)]
  omega
 obtain⟨q',hq',he⟩:=main q hq
 refine⟨q',v',(2*r+t)%b,hq',hv',hT,hTv, ?_⟩
 rw[hlov']
 rw[dV,show decide ((0:Int)≤(c:Int))=true from decide_eq_true (by omega),if_pos rfl,bU,aVO,←z8]
 rw[aA0 hr4 (show 0<115792089237316195423570985008687907853269984665640564039457584007913129639936 by omega),bU,aVO,aA0 hlo (show 0<115792089237316195423570985008687907853269984665640564039457584007913129639936 by omega)]
 by_cases h0:r=0
 ·have hl0:lo≠0:=by
   intro h
   have:v=0:=by
    rcases Nat.mul_eq_zero.1 (hlov.trans h)with h|h
    ·exact h
    exact absurd h (Nat.ne_of_gt (aWw (by omega)))
   exact hnz ⟨h0,this⟩
  rw[decide_eq_true h0,if_pos rfl,decide_eq_false hl0]
  exact he
 rw[decide_eq_false h0]
 exact he
theorem aLv {dB:Nat}(hw:dB<4): ∀(c m v r:Nat)(q:List Int),c≤64→c<m→v<2^(64*dB+c)→r<b→q.length=4→
  (∃q',q'.length=4∧(r*2^(64*dB+c)+v)%b=0∧dV N (U b) (dB:Int) m ((c:Int)-1) (U (v*2^(256-(64*dB+c)))) q (U r)=some (.ret (q',U 0)))∨
  (∃q' v' r',q'.length=4∧v'<2^(64*dB)∧r'<b∧(r'*2^(64*dB)+v')%b=(r*2^(64*dB+c)+v)%b∧
   dV N (U b) (dB:Int) m ((c:Int)-1) (U (v*2^(256-(64*dB+c)))) q (U r)=some (.brk (U (v'*2^(256-64*dB)),q',U r')))
 |0,m,v,r,q,_,hm,hv,hr,hq=>by
  obtain⟨m,rfl⟩: ∃k,m=k+1:=⟨m-1,by omega⟩
  refine .inr ⟨q,v,r,hq,hv,hr,rfl, ?_⟩
  rw[dV,show decide ((0:Int)≤((0:Nat):Int)-1)=false from rfl]
  rfl
 |c+1,m,v,r,q,hc,hm,hv,hr,hq=>by
  obtain⟨m,rfl⟩: ∃k,m=k+1:=⟨m-1,by omega⟩
  rw[show((c+1:Nat):Int)-1=(c:Int) by omega]
  by_cases hz:r=0∧v=0
  ·obtain⟨rfl,rfl⟩:=hz
   refine .inl ⟨q,hq,by simp, ?_⟩
   rw[dV,show decide ((0:Int)≤(c:Int))=true from decide_eq_true (by omega),if_pos rfl,aW4]
   rfl
  obtain⟨q',v',r',h1,h2,h3,h4,h5⟩:=aRf hN hb hb0 hw (m:=m) (show c<64 by omega) rfl (show v<2^(64*dB+c+1)from hv) hr hq hz
  rw[show 64*dB+(c+1)=64*dB+c+1 from rfl,h5,←h4]
  exact aLv hw c m v' r' q' (by omega) (by omega) h2 h3 h1
theorem aM1 : ∀(w m v r:Nat)(q:List Int),w≤4→w<m→v<2^(64*w)→r<b→q.length=4→
  ∃q',q'.length=4∧oC N (U b) m ((w:Int)-1) (U (v*2^(256-64*w))) q (U r)=some (q',U ((r*2^(64*w)+v)%b))
 |0,m,v,r,q,_,hm,hv,hr,hq=>by
  obtain⟨m,rfl⟩: ∃k,m=k+1:=⟨m-1,by omega⟩
  refine⟨q,hq, ?_⟩
  have hv0:v=0:=by simpa using hv
  subst hv0
  rw[oC,show decide ((0:Int)≤((0:Nat):Int)-1)=false from rfl]
  simp[aVV hr]
 |w+1,m,v,r,q,hw,hm,hv,hr,hq=>by
  obtain⟨m,rfl⟩: ∃k,m=k+1:=⟨m-1,by omega⟩
  rw[oC,show((w+1:Nat):Int)-1=(w:Int) by omega,show decide ((0:Int)≤(w:Int))=true from decide_eq_true (by omega),if_pos rfl]
  have e63:(63:Int)=((64:Nat):Int)-1:=rfl
  have ek:64*(w+1)=64*w+64:=by omega
  rw[ek]at hv
  rw[e63,ek]
  rcases aLv hN hb hb0 (show w<4 by omega) 64 N v r q (aWb _) (by omega) hv hr hq with⟨q',h1,h2,h3⟩|⟨q',v',r',h1,h2,h3,h4,h5⟩
  ·rw[h3,h2]
   exact⟨q',h1,rfl⟩
  rw[h5,←h4]
  simp only[aVO,aBW]
  rw[cR (a:=(w:Int)-1) (by omega) (by omega)]
  exact aM1 w m v' r' q' (by omega) (by omega) h2 h3 h1
theorem aQ5 {hi lo:Nat}(hh:hi<b)(hl:lo<115792089237316195423570985008687907853269984665640564039457584007913129639936): ∃q',q'.length=4∧aBO N (U hi) (U lo) (U b)=some (q',U ((hi*115792089237316195423570985008687907853269984665640564039457584007913129639936+lo)%b),true):=by
 obtain⟨q',h1,h2⟩:=aM1 hN hb hb0 4 N lo hi (aVR 4 0) (aWb _) (by omega) (by rw[show 64*4=256 from rfl,aEB];exact hl) hh (by simp)
 rw[show((4:Nat):Int)-1=3 from rfl,show 256-64*4=0 from rfl,aWy,aXd,show 64*4=256 from rfl,aEB]at h2
 refine⟨q',h1, ?_⟩
 simp only[aBO,bU,aVO,aAk hN hb (show hi<115792089237316195423570985008687907853269984665640564039457584007913129639936 by omega),aQT]
 rw[decide_eq_false (show¬b≤hi by omega)]
 simp only[aVP,if_false,h2,aVO,aBV,yG h1,bU]
theorem aHB {a:Nat}(ha:a<115792089237316195423570985008687907853269984665640564039457584007913129639936):sW N (U a) (U b)=some (U (a%b)):=by
 simp only[sW,bU,aVO,aAk hN ha hb,aKM]
 by_cases h:a<b
 ·rw[decide_eq_true h,if_pos rfl,aVV h]
 rw[decide_eq_false h]
 obtain⟨q',h1,h2⟩:=aQ5 hN hb hb0 hb0 ha
 rw[z8,aW4,aW5]at h2
 simp only[aVP,if_false,h2,aVO,yG h1,bU]
theorem aTy :(U b == [0,0,0,0])=false:=by
 rw[←z8,aA0 hb (by omega)]
 exact decide_eq_false (by omega)
theorem aQL {x y:Nat}(hx:x<115792089237316195423570985008687907853269984665640564039457584007913129639936)(hy:y<115792089237316195423570985008687907853269984665640564039457584007913129639936):z7 N (U x) (U y) (U b)=some (U (x*y%b)):=by
 have hp:x*y/115792089237316195423570985008687907853269984665640564039457584007913129639936<115792089237316195423570985008687907853269984665640564039457584007913129639936:=by
  have h5:=aWs (aWI hx) (aWI hy)
  simp only[aXa,Nat.reduceSub,Nat.reduceMul]at h5
  omega
 obtain⟨q',h1,h2⟩:=aQ5 hN hb hb0 (aVZ (x*y/115792089237316195423570985008687907853269984665640564039457584007913129639936) hb0) (show x*y%115792089237316195423570985008687907853269984665640564039457584007913129639936<115792089237316195423570985008687907853269984665640564039457584007913129639936 by omega)
 rw[aHH,aV3 (x*y/115792089237316195423570985008687907853269984665640564039457584007913129639936) 115792089237316195423570985008687907853269984665640564039457584007913129639936,aWT]at h2
 simp only[z7,bU,aVO,aTy hN hb hb0,aVP,if_false,aQ2 hN hx hy,aHB hN hb hb0 hp,h2,yG h1]
theorem aLp {x y:Nat}(hx:x<115792089237316195423570985008687907853269984665640564039457584007913129639936)(hy:y<115792089237316195423570985008687907853269984665640564039457584007913129639936):zD N (U x) (U y) (U b)=some (U ((x+y)%b)):=by
 have h1:=aVZ x hb0
 have h2:=aVZ y hb0
 have key:(x+y)%b=if x%b+y%b<b then x%b+y%b else x%b+y%b-b:=by
  rw[aXb]
  split
  ·rename_i h;exact aVV h
  rename_i h;rw[aWm (by omega),aVV (by omega)]
 simp only[zD,bU,aVO,aTy hN hb hb0,aVP,if_false,aHB hN hb hb0 hx,aHB hN hb hb0 hy,aQ1 hN (show x%b<115792089237316195423570985008687907853269984665640564039457584007913129639936 by omega) (show y%b<115792089237316195423570985008687907853269984665640564039457584007913129639936 by omega)]
 rw[key]
 generalize x%b=u at *
 generalize y%b=v at *
 by_cases h:115792089237316195423570985008687907853269984665640564039457584007913129639936≤u+v
 ·rw[decide_eq_true h,if_neg (show¬u+v<b by omega)]
  simp only[if_true,nH,aGF hN (show(u+v)%115792089237316195423570985008687907853269984665640564039457584007913129639936<115792089237316195423570985008687907853269984665640564039457584007913129639936 by omega) hb,aVO,bU,nQ]
  rw[show((u+v)%115792089237316195423570985008687907853269984665640564039457584007913129639936+115792089237316195423570985008687907853269984665640564039457584007913129639936-b)%115792089237316195423570985008687907853269984665640564039457584007913129639936=u+v-b by omega]
 rw[decide_eq_false h]
 simp only[aVP,if_false,aAk hN (show(u+v)%115792089237316195423570985008687907853269984665640564039457584007913129639936<115792089237316195423570985008687907853269984665640564039457584007913129639936 by omega) hb,aVO,aIG]
 rw[aVV (show u+v<115792089237316195423570985008687907853269984665640564039457584007913129639936 by omega)]
 by_cases h3:b≤u+v
 ·rw[decide_eq_true h3,if_neg (show¬u+v<b by omega)]
  simp only[if_true,nH,aGF hN (show u+v<115792089237316195423570985008687907853269984665640564039457584007913129639936 by omega) hb,aVO,bU,nQ]
  rw[show(u+v+115792089237316195423570985008687907853269984665640564039457584007913129639936-b)%115792089237316195423570985008687907853269984665640564039457584007913129639936=u+v-b by omega]
 rw[decide_eq_false h3,if_pos (show u+v<b by omega)]
 simp only[aVP,if_false,nH,aVO,bU,nQ]
end
end Go.Proofs.YtbjiaghljpoliaaGreatDoor
set_option maxRecDepth 20000
namespace Go.Proofs.YtbjiaghljpoliaaGreatDoor
open Go Go.Vm
theorem aSq :((aWG 256).all fun y=>match jI 0 (y:Int) 0 with|some v=>decide (0≤v∧v≤8∧y<2^v.toNat)|none=>false)=true:=by decide +kernel
theorem aOD (z:Int):aVQ.wrap (0+aVQ.wrap z)=aVQ.wrap z:=by simp only[IntKind.wrap_i64];omega
theorem aTJ {N x:Nat}(hx:x<256){n:Nat}(hn:n≤1000): ∃t:Nat,t≤8∧x<2^t∧jI N (x:Int) (n:Int)=some ((n+t:Nat):Int):=by
 have h:=aW1.1 aSq x (by simpa using hx)
 unfold jI at h⊢
 generalize hs:aN5 _ (aWd.wrap (x:Int))=s at h⊢
 cases s with
 |none=>simp at h
 |some z=>
  simp only[aVO,aOD,decide_eq_true_eq]at h⊢
  generalize aVQ.wrap z=w at *
  obtain⟨h1,h2,h3⟩:=h
  clear hs
  refine⟨w.toNat, ?_,h3, ?_⟩<;>clear h3
  ·omega
  rw[cR (by omega) (by omega)]
  congr 1;omega
theorem aKZ {x k t:Nat}(h:x/2^k<2^t):x<2^(k+t):=by
 rw[aWx,aV3]
 exact(aWg (aWw (by omega))).1 h
theorem aQF (a b:Nat):decide ((a:Int)≤(b:Int))=decide (a≤b):=by
 by_cases h:a≤b
 ·rw[decide_eq_true h,decide_eq_true (by omega)]
 rw[decide_eq_false h,decide_eq_false (by omega)]
theorem aEQ {N x:Nat}(hx:x<18446744073709551616): ∃n:Nat,n≤64∧x<2^n∧rT N (x:Int)=some (n:Int):=by
 have j2: ∀(x n:Nat),x<65536→n≤100→ ∃t:Nat,t≤16∧x<2^t∧lC N (x:Int) (n:Int)=some ((n+t:Nat):Int):=by
  intro x n hx hn
  unfold lC
  rw[show(256:Int)=((256:Nat):Int)from rfl,aQF]
  by_cases h:256≤x
  ·rw[decide_eq_true h,if_pos rfl,show shr .u64 (x:Int) 8=some ((x/256:Nat):Int)from aAz x 8 (aWa hx (by decide)),aVO,cR (a:=(n:Int)+8) (by omega) (by omega),show(n:Int)+8=((n+8:Nat):Int) by omega]
   obtain⟨t,h1,h2,h3⟩:=aTJ (N:=N) (show x/256<256 by omega) (show n+8≤1000 by omega)
   exact⟨8+t,aWU h1 8,aKZ (k:=8) h2,by rw[h3,aWZ]⟩
  rw[decide_eq_false h]
  obtain⟨t,h1,h2,h3⟩:=aTJ (N:=N) (show x<256 by omega) (show n≤1000 by omega)
  exact⟨t,aXj h1 (by decide),h2,h3⟩
 have j1: ∀(x n:Nat),x<4294967296→n≤50→ ∃t:Nat,t≤32∧x<2^t∧lH N (x:Int) (n:Int)=some ((n+t:Nat):Int):=by
  intro x n hx hn
  unfold lH
  rw[show(65536:Int)=((65536:Nat):Int)from rfl,aQF]
  by_cases h:65536≤x
  ·rw[decide_eq_true h,if_pos rfl,show shr .u64 (x:Int) 16=some ((x/65536:Nat):Int)from aAz x 16 (aWa hx (by decide)),aVO,cR (a:=(n:Int)+16) (by omega) (by omega),show(n:Int)+16=((n+16:Nat):Int) by omega]
   obtain⟨t,h1,h2,h3⟩:=j2 (x/65536) (n+16) (by omega) (by omega)
   exact⟨16+t,aWU h1 16,aKZ (k:=16) h2,by rw[h3,aWZ]⟩
  rw[decide_eq_false h]
  obtain⟨t,h1,h2,h3⟩:=j2 x n (by omega) (by omega)
  exact⟨t,aXj h1 (by decide),h2,h3⟩
 unfold rT
 rw[show(4294967296:Int)=((4294967296:Nat):Int)from rfl,aQF]
 by_cases h:4294967296≤x
 ·rw[decide_eq_true h,if_pos rfl,show shr .u64 (x:Int) 32=some ((x/4294967296:Nat):Int)from aAz x 32 hx,aVO]
  obtain⟨t,h1,h2,h3⟩:=j1 (x/4294967296) 32 (by omega) (by omega)
  exact⟨32+t,aWU h1 32,aKZ (k:=32) h2,h3⟩
 rw[decide_eq_false h]
 obtain⟨t,h1,h2,h3⟩:=j1 x 0 (by omega) (by omega)
 exact⟨t,aXj h1 (by decide),h2,by rw[aW5]at h3;exact h3⟩
theorem aTS {N:Nat}(hN:70000≤N){e:Nat}(he:e<115792089237316195423570985008687907853269984665640564039457584007913129639936): ∃n:Nat,n≤256∧e<2^n∧aDd N (U e)=some (n:Int):=by
 obtain⟨a0,a1,a2,a3,x0,x1,x2,x3,ea,va⟩:=aAX he
 unfold vl at va
 obtain⟨n0,l0,p0,f0⟩:=aEQ (N:=N) x0
 obtain⟨n1,l1,p1,f1⟩:=aEQ (N:=N) x1
 obtain⟨n2,l2,p2,f2⟩:=aEQ (N:=N) x2
 obtain⟨n3,l3,p3,f3⟩:=aEQ (N:=N) x3
 rw[ea]
 obtain⟨m,hm⟩:=vW (fun q=>sS N (w4 a0 a1 a2 a3) q 3) hN
 unfold aDd
 rw[hm]
 simp only[sS,a40,a41,a42,a43,i32,i21,i10,i0m,show decide ((0:Int)≤3)=true from rfl,show decide ((0:Int)≤2)=true from rfl,show decide ((0:Int)≤1)=true from rfl,show decide ((0:Int)≤0)=true from rfl,show decide ((0:Int)≤ -1)=false from rfl,if_true,aVP,if_false,aVO,aB3,f0,f1,f2,f3]
 have nz: ∀x:Nat,(((x:Nat):Int) != 0)= !decide (x=0):=fun x=>by
  by_cases h:x=0
  ·subst h;rfl
  rw[decide_eq_false h];simp;omega
 rw[nz,nz,nz,nz]
 have wr: ∀(i n:Nat),i≤3→n≤64→aVQ.wrap (aVQ.wrap (64*(i:Int))+(n:Int))=((64*i+n:Nat):Int):=fun i n hi hn=>by
  rw[cR (a:=64*(i:Int)) (by omega) (by omega),cR (by omega) (by omega)];omega
 have q3:=wr 3 n3 (by omega) l3
 have q2:=wr 2 n2 (by omega) l2
 have q1:=wr 1 n1 (by omega) l1
 have q0:=wr 0 n0 (by omega) l0
 have pw: ∀i n:Nat,2^(64*i+n)=2^(64*i)*2^n:=fun i n=>aWx _ _ _
 by_cases h3:a3=0
 ·rw[decide_eq_true h3]
  by_cases h2:a2=0
  ·rw[decide_eq_true h2]
   by_cases h1:a1=0
   ·rw[decide_eq_true h1]
    by_cases h0:a0=0
    ·rw[decide_eq_true h0]
     exact⟨0,by omega,by simp;omega,rfl⟩
    rw[decide_eq_false h0]
    refine⟨64*0+n0,by omega, ?_, ?_⟩
    ·rw[show 64*0+n0=n0 by omega];omega
    rw[←q0];rfl
   rw[decide_eq_false h1]
   refine⟨64*1+n1,by omega, ?_, ?_⟩
   ·rw[pw,show 2^(64*1)=18446744073709551616 from rfl]
    generalize 2^n1=z at *
    omega
   rw[←q1];rfl
  rw[decide_eq_false h2]
  refine⟨64*2+n2,by omega, ?_, ?_⟩
  ·rw[pw,show 2^(64*2)=340282366920938463463374607431768211456 from rfl]
   generalize 2^n2=z at *
   omega
  rw[←q2];rfl
 rw[decide_eq_false h3]
 refine⟨64*3+n3,by omega, ?_, ?_⟩
 ·rw[pw,show 2^(64*3)=6277101735386680763835789423207666416102355444464034512896 from rfl]
  generalize 2^n3=z at *
  omega
 rw[←q3];rfl
theorem aLj (N:Nat):rI N=some (U 115792089237316195423570985008687907853269984665640564039457584007913129603823):=by unfold rI;decide +kernel
theorem aDe (N:Nat):pO N=some (U 57896044618658097711785492504343953926634992332820282019728792003956564801911):=by unfold pO;decide +kernel
theorem aNE {N:Nat}(hN:70000≤N){a b:Nat}(ha:a<115792089237316195423570985008687907853269984665640564039457584007913129639936)(hb:b<115792089237316195423570985008687907853269984665640564039457584007913129639936):wF N (U a) (U b)=some (U (a*b%115792089237316195423570985008687907853269984665640564039457584007913129603823)):=by
 simp only[wF,bU,aLj,aVO,aQL (b:=115792089237316195423570985008687907853269984665640564039457584007913129603823) hN (by decide) (by decide) ha hb]
theorem aQY {e:Nat}(he:e<115792089237316195423570985008687907853269984665640564039457584007913129639936){j:Nat}(hj:j<256): ∃x y:Nat,bV 4 (U e) ((j/64:Nat):Int)=some (x:Int)∧shr .u64 (x:Int) ((j%64:Nat):Int)=some (y:Int)∧(bits .and .u64 (y:Int) 1 == 1)=decide (e/2^j%2=1):=by
 have hx:bV 4 (U e) ((j/64:Nat):Int)=some ((e/2^(64*(j/64))%18446744073709551616:Nat):Int):=by
  have h4:j/64<4:=by omega
  unfold U
  generalize j/64=k at *
  match k,h4 with
  |0,_=>rw[show 2^(64*0)=1 from rfl,aXe];rfl
  |1,_=>rfl
  |2,_=>rfl
  |3,_=>rfl
 refine⟨_,_,hx,aAz _ _ (show e/2^(64*(j/64))%18446744073709551616<2^64 by omega), ?_⟩
 have hlt:e/2^(64*(j/64))%18446744073709551616/2^(j%64)<2^64:=aWC (Nat.div_le_self _ _) (show e/2^(64*(j/64))%18446744073709551616<2^64 by omega)
 rw[show(1:Int)=((1:Nat):Int)from rfl,aFH (k:= .u64) rfl _ 1 hlt (by decide),Nat.and_one_is_mod]
 have key:e/2^(64*(j/64))%18446744073709551616/2^(j%64)%2=e/2^j%2:=by
  have h1:(e/2^(64*(j/64))%2^64).testBit (j%64)=(e/2^(64*(j/64))).testBit (j%64):=by
   rw[Nat.testBit_mod_two_pow,decide_eq_true (aVZ _ (by omega)),aVX]
  rw[Nat.testBit_div_two_pow,show j%64+64*(j/64)=j by omega]at h1
  rw[aWD,aWD,decide_eq_decide]at h1
  have h2:e/2^(64*(j/64))%2^64/2^(j%64)%2=e/2^j%2:=by
   generalize e/2^(64*(j/64))%2^64/2^(j%64)=u at *
   generalize e/2^j=w at *
   omega
  exact h2
 rw[key]
 generalize e/2^j%2=u
 by_cases h:u=1
 ·subst h;rfl
 rw[decide_eq_false h];simp;omega
theorem aKU (a p e:Nat):(a^(e/2)%p)*(a^(e/2)%p)%p*(if e%2=1 then a else 1)%p=a^e%p:=by
 have h:a^e=a^(e/2)*a^(e/2)*(if e%2=1 then a else 1):=by
  rw[←aWx]
  split
  ·rename_i h1
   rw[←aWf];congr 1;omega
  rw[aXd];congr 1;omega
 rw[h,←aXc,Nat.mod_mul_mod]
section
variable {N:Nat}(hN:70000≤N)
include hN
theorem aHv {a e n:Nat}(ha:a<115792089237316195423570985008687907853269984665640564039457584007913129639936)(he:e<115792089237316195423570985008687907853269984665640564039457584007913129639936)(hn:n≤256): ∀(m j:Nat),n-j<m→j≤n→mJ N (U a) (U e) (n:Int) m (j:Int) (U (a^(e/2^(n-j))%115792089237316195423570985008687907853269984665640564039457584007913129603823))=some (U (a^e%115792089237316195423570985008687907853269984665640564039457584007913129603823))
 |0,j,hm,_=>by omega
 |m+1,j,hm,hj=>by
  rw[mJ]
  by_cases h:j<n
  ·rw[dT h,if_pos rfl]
   have hp:a^(e/2^(n-j))%115792089237316195423570985008687907853269984665640564039457584007913129603823<115792089237316195423570985008687907853269984665640564039457584007913129639936:=aWa (aVZ _ (by omega)) (by omega)
   obtain⟨x,y,b1,b2,b3⟩:=aQY he (show n-1-j<256 by omega)
   rw[cR (a:=(n:Int)-1) (by omega) (by omega),cR (a:=(n:Int)-1-(j:Int)) (by omega) (by omega),show(n:Int)-1-(j:Int)=((n-1-j:Nat):Int) by omega,show(64:Int)=((64:Nat):Int)from rfl,sN,uX,cR (a:=(((n-1-j)/64:Nat):Int)) (by omega) (by omega)]
   simp only[bU,aNE hN hp hp,aVO,b1,b2,b3]
   have hdiv:e/2^(n-(j+1))/2=e/2^(n-j):=by rw[aWF,show 2^(n-(j+1))*2=2^(n-j) by rw[←aWf];congr 1;omega]
   have key:=aKU a 115792089237316195423570985008687907853269984665640564039457584007913129603823 (e/2^(n-(j+1)))
   rw[hdiv]at key
   have hlt2:(a^(e/2^(n-j))%115792089237316195423570985008687907853269984665640564039457584007913129603823)*(a^(e/2^(n-j))%115792089237316195423570985008687907853269984665640564039457584007913129603823)%115792089237316195423570985008687907853269984665640564039457584007913129603823<115792089237316195423570985008687907853269984665640564039457584007913129639936:=aWa (aVZ _ (by omega)) (by omega)
   rw[show n-1-j=n-(j+1) by omega]
   by_cases hb:e/2^(n-(j+1))%2=1
   ·rw[decide_eq_true hb,if_pos rfl,aNE hN hlt2 ha]
    rw[if_pos hb]at key
    simp only[aVO,bU,tX,i1 (show j≤100000 by omega),key]
    exact aHv ha he hn m (j+1) (by omega) (by omega)
   rw[decide_eq_false hb]
   rw[if_neg hb,aXd,aXp]at key
   simp only[aVP,if_false,tX,i1 (show j≤100000 by omega),key]
   exact aHv ha he hn m (j+1) (by omega) (by omega)
  obtain rfl:j=n:=by omega
  rw[dF h,Nat.sub_self,aWy,aXe]
  rfl
theorem aGB {a e:Nat}(ha:a<115792089237316195423570985008687907853269984665640564039457584007913129639936)(he:e<115792089237316195423570985008687907853269984665640564039457584007913129639936):xF N (U a) (U e)=some (U (a^e%115792089237316195423570985008687907853269984665640564039457584007913129603823)):=by
 obtain⟨n,h1,h2,h3⟩:=aTS hN he
 have h4:=aHv hN ha he h1 N 0 (by omega) (by omega)
 rw[aWj,aWL h2,aWy,show 1%115792089237316195423570985008687907853269984665640564039457584007913129603823=1 from rfl,show((0:Nat):Int)=0 from rfl]at h4
 have hU1:([1,0,0,0]:List Int)=U 1:=by decide +kernel
 simp only[xF,fT,hU1,bU,h3,aVO,h4,aA1]
end
theorem aOu {k:Nat}(h:k≤1):((k:Int) == 1)=((k:Int) != 0):=by
 rcases(by omega:k=0∨k=1)with rfl|rfl<;>rfl
theorem aOx (N:Nat)(a b:List Int): ∀(m:Nat)(c x:Int)(l:List Int),qV N a b m c x l=kM N a b m c x l
 |0,_,_,_=>rfl
 |m+1,c,x,l=>by simp only[qV,kM,aOx N a b m]
theorem aOw (N:Nat)(a b:List Int): ∀(m:Nat)(c x:Int)(l:List Int),q8 N a b m c x l=kU N a b m c x l
 |0,_,_,_=>rfl
 |m+1,c,x,l=>by simp only[q8,kU,aOw N a b m]
theorem aOm (N:Nat)(a b:List Int): ∀(m:Nat)(x:Int),qR N a b m x=oA N a b m x
 |0,_=>rfl
 |m+1,x=>by simp only[qR,oA,aOm N a b m]
theorem aLq (N:Nat)(a b:List Int):sJ N a b=pC N a b:=by
 unfold sJ pC
 rw[aOm]
 rfl
theorem aRt {N:Nat}(hN:70000≤N){a0 a1 a2 a3 b0 b1 b2 b3:Nat}(ha0:a0<18446744073709551616)(ha1:a1<18446744073709551616)(ha2:a2<18446744073709551616)(ha3:a3<18446744073709551616)(hb0:b0<18446744073709551616)(hb1:b1<18446744073709551616)(hb2:b2<18446744073709551616)(hb3:b3<18446744073709551616):
  xJ N (w4 a0 a1 a2 a3) (w4 b0 b1 b2 b3)=xW N (w4 a0 a1 a2 a3) (w4 b0 b1 b2 b3):=by
 obtain⟨s0,k0,e0,f0,g0,l0⟩:=sO ha0 hb0 (aWH 1)
 obtain⟨s1,k1,e1,f1,g1,l1⟩:=sO ha1 hb1 l0
 obtain⟨s2,k2,e2,f2,g2,l2⟩:=sO ha2 hb2 l1
 obtain⟨s3,k3,e3,f3,g3,l3⟩:=sO ha3 hb3 l2
 obtain⟨m,hm⟩:=vW (fun q=>kM N (w4 a0 a1 a2 a3) (w4 b0 b1 b2 b3) q 0 0 (aVR 4 0)) hN
 unfold xJ xW
 rw[aOx,hm]
 have e0':s8 (a0:Int) (b0:Int) 0=some ((s0:Int),(k0:Int)):=e0
 simp only[kM,d8,a40,a41,a42,a43,q40,q41,q42,q43,t40,t41,t42,t43,r40,i01,i12,i23,i34,d04,d14,d24,d34,d44,if_true,aVP,if_false,aVO,e0',e1,e2,e3,zV,aAY,aOu l3]
theorem aOR {N:Nat}(hN:70000≤N){a b:Nat}(ha:a<115792089237316195423570985008687907853269984665640564039457584007913129639936)(hb:b<115792089237316195423570985008687907853269984665640564039457584007913129639936):xJ N (U a) (U b)=some (U ((a+b)%115792089237316195423570985008687907853269984665640564039457584007913129639936),decide (115792089237316195423570985008687907853269984665640564039457584007913129639936≤a+b)):=by
 obtain⟨a0,a1,a2,a3,x0,x1,x2,x3,ea,va⟩:=aAX ha
 obtain⟨b0,b1,b2,b3,y0,y1,y2,y3,eb,vb⟩:=aAX hb
 rw[←aQ1 hN ha hb,ea,eb]
 exact aRt hN x0 x1 x2 x3 y0 y1 y2 y3
theorem aRh {N:Nat}(hN:70000≤N){a0 a1 a2 a3 b0 b1 b2 b3:Nat}(ha0:a0<18446744073709551616)(ha1:a1<18446744073709551616)(ha2:a2<18446744073709551616)(ha3:a3<18446744073709551616)(hb0:b0<18446744073709551616)(hb1:b1<18446744073709551616)(hb2:b2<18446744073709551616)(hb3:b3<18446744073709551616):
  sM N (w4 a0 a1 a2 a3) (w4 b0 b1 b2 b3)=sV N (w4 a0 a1 a2 a3) (w4 b0 b1 b2 b3):=by
 obtain⟨s0,k0,e0,f0,g0,l0⟩:=wI ha0 hb0 (aWH 1)
 obtain⟨s1,k1,e1,f1,g1,l1⟩:=wI ha1 hb1 l0
 obtain⟨s2,k2,e2,f2,g2,l2⟩:=wI ha2 hb2 l1
 obtain⟨s3,k3,e3,f3,g3,l3⟩:=wI ha3 hb3 l2
 obtain⟨m,hm⟩:=vW (fun q=>kU N (w4 a0 a1 a2 a3) (w4 b0 b1 b2 b3) q 0 0 (aVR 4 0)) hN
 unfold sM sV
 rw[aOw,hm]
 have e0':aFj (a0:Int) (b0:Int) 0=some ((s0:Int),(k0:Int)):=e0
 simp only[kU,sD,a40,a41,a42,a43,q40,q41,q42,q43,t40,t41,t42,t43,r40,i01,i12,i23,i34,d04,d14,d24,d34,d44,if_true,aVP,if_false,aVO,e0',e1,e2,e3,zI,aA4,aOu l3]
theorem aHU {N:Nat}(hN:70000≤N){a b:Nat}(ha:a<115792089237316195423570985008687907853269984665640564039457584007913129639936)(hb:b<115792089237316195423570985008687907853269984665640564039457584007913129639936):sM N (U a) (U b)=some (U ((a+115792089237316195423570985008687907853269984665640564039457584007913129639936-b)%115792089237316195423570985008687907853269984665640564039457584007913129639936),decide (a<b)):=by
 obtain⟨a0,a1,a2,a3,x0,x1,x2,x3,ea,va⟩:=aAX ha
 obtain⟨b0,b1,b2,b3,y0,y1,y2,y3,eb,vb⟩:=aAX hb
 rw[←aGF hN ha hb,ea,eb]
 exact aRh hN x0 x1 x2 x3 y0 y1 y2 y3
theorem aHO {N e:Nat}(he:e<115792089237316195423570985008687907853269984665640564039457584007913129639936){j:Nat}(hj:j<256):oL N (U e) (j:Int)=some (decide (e/2^j%2=1)):=by
 obtain⟨x,y,h1,h2,h3⟩:=aQY he hj
 have hd:aXg (j:Int) 64=((j/64:Nat):Int):=sN j 64
 have hm:aW8 (j:Int) 64=((j%64:Nat):Int):=uX j 64
 unfold oL
 rw[hd,hm,cR (by omega) (by omega),h1]
 simp only[aVO,h2,h3]
theorem aGv {N n:Nat}(hn:n<115792089237316195423570985008687907853269984665640564039457584007913129639936):sI N (U n)=some (decide (n=0)):=by
 unfold sI
 rw[bU]
 simp only[aVO]
 rw[←z8,aA0 hn (by omega)]
theorem aJ9 {N e:Nat}(he:e<115792089237316195423570985008687907853269984665640564039457584007913129639936): ∀(f k:Nat),k<f→k≤256→e<2^k→ ∃n:Nat,n≤256∧e<2^n∧((qP N (U e) f ((k:Int)-1)).bind fun q=>match q with | .ret v=>some v | .brk _=>aAF N)=some (n:Int)
 |f+1,0,_,_,h=>by
  refine⟨0,by omega,h, ?_⟩
  rfl
 |f+1,k+1,hf,hk,h=>by
  unfold qP
  rw[show(((k+1:Nat):Int)-1)=(k:Int) by omega,if_pos (decide_eq_true (by omega)),bU]
  simp only[aVO]
  rw[aHO he (by omega)]
  simp only[aVO]
  by_cases hb:e/2^k%2=1
  ·rw[if_pos (decide_eq_true hb)]
   refine⟨k+1,by omega,h, ?_⟩
   simp only[aVO]
   rw[cR (by omega) (by omega)]
   rfl
  rw[if_neg (by simpa using hb),cR (by omega) (by omega)]
  refine aJ9 he f k (by omega) (by omega) ?_
  have h1:e/2^k<2:=by
   rw[aWg (aWw (by omega))]
   rw[aWf]at h
   omega
  have h2:e/2^k=0:=by revert h1 hb;generalize e/2^k=q;intro h1 hb;omega
  exact(Nat.div_eq_zero_iff.1 h2).resolve_left (by have:=aWw (n:=k) (show 0<2 by omega);omega)
theorem aSW {N e:Nat}(hN:70000≤N)(he:e<115792089237316195423570985008687907853269984665640564039457584007913129639936): ∃n:Nat,n≤256∧e<2^n∧aDY N (U e)=some (n:Int):=by
 obtain⟨n,h1,h2,h3⟩:=aJ9 (N:=N) he N 256 (by omega) (by omega) (by rw[aEB];exact he)
 exact⟨n,h1,h2,h3⟩
theorem aNF (x y c:Int):s8 x y c=s8 y x c:=by
 unfold s8
 rw[aXi x.toNat y.toNat]
theorem aM5 (N:Nat)(a b:List Int)(i:Int): ∀(m:Nat)(c x:Int)(l:List Int),qZ N a b i m c x l=dJ N a b i m c x l
 |0,_,_,_=>rfl
 |m+1,c,x,l=>by
  unfold qZ dJ
  simp only[aM5 N a b i m,d8]
  split
  ·refine congrArg _ (funext fun p=>congrArg _ (funext fun q=>congrArg _ (funext fun r=>congrArg _ (funext fun t=> ?_))))
   rw[aNF t r.2 0]
  rfl
theorem aM9 (N:Nat)(a b:List Int): ∀(m:Nat)(x:Int)(l:List Int),mL N a b m x l=kP N a b m x l
 |0,_,_=>rfl
 |m+1,x,l=>by
  unfold mL kP
  simp only[aM5,aAC,aBg,zU,zX,aM9 N a b m]
theorem aR6 (N:Nat)(l:List Int):wX N l=zQ N l:=by
 by_cases h:l.length=8
 ·match l,h with
  | [a,b,c,d,e,f,g,h],_=>rfl
 unfold wX zQ
 simp only[a9,if_neg h,Option.bind_none]
theorem aVb (N:Nat)(a b:List Int):aCn N a b=aAs N a b:=by
 unfold aCn aAs
 rw[aM9]
 exact congrArg _ (funext fun l=>aR6 N l)
theorem aTz {n:Nat}(h2:n%2=0)(hn:n<115792089237316195423570985008687907853269984665640564039457584007913129639936): ∃x:Int,bV 4 (U n) 0=some x∧(U n).set (aWe 0) (bits .or .u64 x 1)=U (n+1):=by
 refine⟨_,rfl, ?_⟩
 have h1:bits .or .u64 ((n%18446744073709551616:Nat):Int) 1=(((n+1)%18446744073709551616:Nat):Int):=by
  rw[show(1:Int)=((1:Nat):Int)from rfl,z5 (k:= .u64) rfl _ 1 (show n%18446744073709551616<2^64 by omega) (by decide)]
  congr 1
  have h3:n%18446744073709551616=2*(n%18446744073709551616/2):=by omega
  rw[h3,show 2*(n%18446744073709551616/2) ||| 1=2*(n%18446744073709551616/2)+1 from by
   have:=aV7 (i:=1) (b:=1) (by decide) (n%18446744073709551616/2)
   simpa using this.symm]
  omega
 show[bits .or .u64 ((n%18446744073709551616:Nat):Int) 1,((n/18446744073709551616%18446744073709551616:Nat):Int),((n/340282366920938463463374607431768211456%18446744073709551616:Nat):Int),((n/6277101735386680763835789423207666416102355444464034512896%18446744073709551616:Nat):Int)]=U (n+1)
 rw[h1]
 unfold U w4
 rw[show(n+1)/18446744073709551616=n/18446744073709551616 by omega,show(n+1)/340282366920938463463374607431768211456=n/340282366920938463463374607431768211456 by omega,show(n+1)/6277101735386680763835789423207666416102355444464034512896=n/6277101735386680763835789423207666416102355444464034512896 by omega]
section
variable {N:Nat}(hN:70000≤N){b:Nat}(hb:b<115792089237316195423570985008687907853269984665640564039457584007913129639936)(hb0:0<b)
include hN hb hb0
theorem aUT {q:List Int}(hq:q.length=4){k:Nat}(hk:k<256): ∃x y:Int,bV 4 q (aVQ.wrap (aXg (k:Int) 64))=some x∧shl .u64 1 (aW8 (k:Int) 64)=some y:=by
 have hd:aXg (k:Int) 64=((k/64:Nat):Int):=sN k 64
 have hm:aW8 (k:Int) 64=((k%64:Nat):Int):=uX k 64
 rw[hd,hm,cR (by omega) (by omega)]
 refine⟨q[k/64]'(by omega),_, ?_,aEm (k:= .u64) rfl 1 (k%64)⟩
 unfold bV
 rw[if_pos (show((k/64:Nat):Int)<((4:Nat):Int) by omega)]
 exact cL q (by omega)
theorem aJ2 {lo:Nat}(hlo:lo<115792089237316195423570985008687907853269984665640564039457584007913129639936): ∀(f k r:Nat)(q:List Int),k<f→k≤256→r<b→q.length=4→ ∃q',q'.length=4∧fL N (U lo) (U b) f ((k:Int)-1) q (U r)=some (q',U ((r*2^k+lo%2^k)%b))
 |f+1,0,r,q,_,_,hr,hq=>by
  refine⟨q,hq, ?_⟩
  rw[show(r*2^0+lo%2^0)%b=r by rw[aWy,Nat.mod_one];simpa using aVV hr]
  rfl
 |f+1,k+1,r,q,hf,hk,hr,hq=>by
  have key: ∀t:Nat,t≤1→lo/2^k%2=t→ ∀q1:List Int,q1.length=4→ ∃q',q'.length=4∧fL N (U lo) (U b) f ((k:Int)-1) q1 (U ((2*r+t)%b))=some (q',U ((r*2^(k+1)+lo%2^(k+1))%b)):=by
   intro t ht hbit q1 hq1
   obtain⟨q',h1,h2⟩:=aJ2 hlo f k ((2*r+t)%b) q1 (by omega) (by omega) (aVZ _ hb0) hq1
   refine⟨q',h1, ?_⟩
   rw[h2,aHH,show lo%2^(k+1)=t*2^k+lo%2^k from by rw[aWf,Nat.mod_mul,hbit,aXi,aV3],show r*2^(k+1)+(t*2^k+lo%2^k)=(2*r+t)*2^k+lo%2^k from by rw[aWf,aWu,aV3 (2^k) 2,←aWB,aV3 r 2,aWZ]]
  have hr4:r<115792089237316195423570985008687907853269984665640564039457584007913129639936:=by omega
  have fin: ∀t:Nat,t≤1→lo/2^k%2=t→ ∃q',q'.length=4∧tG N (U lo) (U b) (k:Int) q (decide (r/2^255%2=1)) (fL N (U lo) (U b) f) (U ((2*r+t)%115792089237316195423570985008687907853269984665640564039457584007913129639936))=some (q',U ((r*2^(k+1)+lo%2^(k+1))%b)):=by
   intro t ht hbit
   have hx:(2*r+t)%115792089237316195423570985008687907853269984665640564039457584007913129639936<115792089237316195423570985008687907853269984665640564039457584007913129639936:=aVZ _ (by omega)
   obtain⟨y,z,e1,e2⟩:=aUT hN hb hb0 hq (show k<256 by omega)
   have sub: ∀(h:115792089237316195423570985008687907853269984665640564039457584007913129639936≤2*r+t∨b≤2*r+t),∃q',q'.length=4∧qQ N (U lo) (U b) (k:Int) q (U ((2*r+t)%115792089237316195423570985008687907853269984665640564039457584007913129639936)) (fL N (U lo) (U b) f) true=some (q',U ((r*2^(k+1)+lo%2^(k+1))%b)):=by
    intro h
    have hb2:b≤2*r+t:=by omega
    have hm:(2*r+t)%b=2*r+t-b:=by rw[aWm hb2,aVV (by omega)]
    have hs:((2*r+t)%115792089237316195423570985008687907853269984665640564039457584007913129639936+115792089237316195423570985008687907853269984665640564039457584007913129639936-b)%115792089237316195423570985008687907853269984665640564039457584007913129639936=(2*r+t)%b:=by rw[hm];omega
    unfold qQ
    rw[if_pos rfl,bU,aVO,aHU hN hx hb,aVO,hs]
    simp only[bU,aVO,e1,e2,tU]
    rw[cR (by omega) (by omega)]
    exact key t ht hbit _ (by rw[aV5];exact hq)
   unfold tG
   by_cases ho:r/2^255%2=1
   ·rw[if_pos (decide_eq_true ho)]
    exact sub (.inl (by omega))
   rw[if_neg (by simpa using ho),bU,aVO,aLq,aAk hN hx hb,aVO,aIG]
   have hnw:2*r+t<115792089237316195423570985008687907853269984665640564039457584007913129639936:=by omega
   by_cases hc:b≤(2*r+t)%115792089237316195423570985008687907853269984665640564039457584007913129639936
   ·rw[decide_eq_true hc]
    exact sub (.inr (by omega))
   rw[decide_eq_false hc]
   rw[aVV hnw]at hc⊢
   unfold qQ
   simp only[aVP,if_false,tU]
   rw[cR (by omega) (by omega)]
   have:=key t ht hbit q hq
   rwa[aVV (show 2*r+t<b by omega)]at this
  have h255:oL N (U r) 255=some (decide (r/2^255%2=1)):=aHO (j:=255) hr4 (by omega)
  unfold fL
  rw[show(((k+1:Nat):Int)-1)=(k:Int) by omega,if_pos (decide_eq_true (by omega)),bU,aVO,h255,aVO,aOR hN hr4 hr4,aVO]
  simp only[bU,aVO]
  rw[aHO hlo (show k<256 by omega),aVO,show r+r=2*r by omega]
  by_cases hbit:lo/2^k%2=1
  ·rw[if_pos (decide_eq_true hbit)]
   obtain⟨x,h1,h2⟩:=aTz (n:=2*r%115792089237316195423570985008687907853269984665640564039457584007913129639936) (by omega) (by omega)
   rw[h1,aVO,h2,show 2*r%115792089237316195423570985008687907853269984665640564039457584007913129639936+1=(2*r+1)%115792089237316195423570985008687907853269984665640564039457584007913129639936 by omega]
   exact fin 1 (by omega) hbit
  rw[if_neg (by simpa using hbit)]
  exact fin 0 (by omega) (by omega)
theorem aOi {hi lo:Nat}(hh:hi<b)(hl:lo<115792089237316195423570985008687907853269984665640564039457584007913129639936): ∃q',q'.length=4∧aAv N (U hi) (U lo) (U b)=some (q',U ((hi*115792089237316195423570985008687907853269984665640564039457584007913129639936+lo)%b),true):=by
 obtain⟨q',h1,h2⟩:=aJ2 hN hb hb0 hl N 256 hi (aVR 4 0) (by omega) (by omega) hh rfl
 refine⟨q',h1, ?_⟩
 rw[aEB,aVV hl]at h2
 unfold aAv
 rw[bU,aVO,bU,aVO,aLq,aAk hN hb (by omega),aVO,aQT,decide_eq_false (by omega)]
 simp only[aVP,if_false]
 rw[show fL N (U lo) (U b) N 255 (aVR 4 0) (U hi)=_ from h2,aVO]
 simp only[aBn,yG h1,bU,aVO]
theorem aCo {a:Nat}(ha:a<115792089237316195423570985008687907853269984665640564039457584007913129639936):mB N (U a) (U b)=some (U (a%b)):=by
 obtain⟨q',h1,h2⟩:=aOi hN hb hb0 (hi:=0) hb0 ha
 rw[aW4,aW5]at h2
 unfold mB
 rw[bU,aVO,bU,aVO,←z8,h2,aVO]
 simp only[yG h1,bU,aVO]
theorem aFR {x y:Nat}(hx:x<115792089237316195423570985008687907853269984665640564039457584007913129639936)(hy:y<115792089237316195423570985008687907853269984665640564039457584007913129639936):q4 N (U x) (U y) (U b)=some (U (x*y%b)):=by
 have hxb:x%b<b:=aVZ _ hb0
 have hyb:y%b<b:=aVZ _ hb0
 have hp:x%b*(y%b)/115792089237316195423570985008687907853269984665640564039457584007913129639936<b:=by
  rw[aWg (by omega)]
  exact aWa (Nat.mul_lt_mul_of_lt_of_lt hxb hyb) (Nat.mul_le_mul_left _ (by omega))
 obtain⟨q',h1,h2⟩:=aOi hN hb hb0 hp (aVZ (x%b*(y%b)) (show 0<115792089237316195423570985008687907853269984665640564039457584007913129639936 by omega))
 rw[aV3 (x%b*(y%b)/_),aWT,←aXc]at h2
 unfold q4
 rw[bU,aVO,aGv hb,aVO,decide_eq_false (by omega)]
 simp only[aVP,if_false,bU,aVO,aCo hN hb hb0 hx,aCo hN hb hb0 hy,aVb,aQ2 hN (show x%b<115792089237316195423570985008687907853269984665640564039457584007913129639936 by omega) (show y%b<115792089237316195423570985008687907853269984665640564039457584007913129639936 by omega),h2,yG h1]
theorem aOA {x y:Nat}(hx:x<115792089237316195423570985008687907853269984665640564039457584007913129639936)(hy:y<115792089237316195423570985008687907853269984665640564039457584007913129639936):yF N (U x) (U y) (U b)=some (U ((x+y)%b)):=by
 have hxb:x%b<b:=aVZ _ hb0
 have hyb:y%b<b:=aVZ _ hb0
 have hs:=aXb x y b
 unfold yF
 rw[bU,aVO,aGv hb,aVO,decide_eq_false (by omega)]
 simp only[aVP,if_false,bU,aVO,aCo hN hb hb0 hx,aCo hN hb hb0 hy,aOR hN (show x%b<115792089237316195423570985008687907853269984665640564039457584007913129639936 by omega) (show y%b<115792089237316195423570985008687907853269984665640564039457584007913129639936 by omega)]
 have sub:b≤x%b+y%b→lP N (U b) (U ((x%b+y%b)%115792089237316195423570985008687907853269984665640564039457584007913129639936),decide (115792089237316195423570985008687907853269984665640564039457584007913129639936≤x%b+y%b)) true=some (U ((x+y)%b)):=by
  intro h
  have hm:(x+y)%b=x%b+y%b-b:=by rw[hs,aWm h,aVV (by omega)]
  unfold lP
  rw[if_pos rfl,aHU hN (aVZ _ (by omega)) hb,aVO]
  simp only[bU,aVO,oQ]
  rw[hm]
  congr 2
  omega
 by_cases ho:115792089237316195423570985008687907853269984665640564039457584007913129639936≤x%b+y%b
 ·rw[if_pos (decide_eq_true ho)]
  exact sub (by omega)
 rw[if_neg (by simpa using ho),aLq,aAk hN (aVZ _ (by omega)) hb,aVO,aIG]
 by_cases hc:b≤(x%b+y%b)%115792089237316195423570985008687907853269984665640564039457584007913129639936
 ·rw[decide_eq_true hc]
  exact sub (by omega)
 rw[decide_eq_false hc]
 unfold lP
 simp only[aVP,if_false,bU,aVO,oQ]
 rw[hs,aVV (show x%b+y%b<115792089237316195423570985008687907853269984665640564039457584007913129639936 by omega),aVV (show x%b+y%b<b by omega)]
end
section
variable {N:Nat}(hN:70000≤N){b:Nat}(hb:b<115792089237316195423570985008687907853269984665640564039457584007913129639936)(hb0:0<b)
include hN hb hb0
theorem aKn {a e:Nat}(ha:a<115792089237316195423570985008687907853269984665640564039457584007913129639936)(he:e<115792089237316195423570985008687907853269984665640564039457584007913129639936): ∀(f k:Nat),k<f→k≤256→i8 N (U a) (U e) (U b) f ((k:Int)-1) (U (a^(e/2^k)%b))=some (U (a^e%b))
 |f+1,0,_,_=>by rw[aWy,aXe];rfl
 |f+1,k+1,hf,hk=>by
  have ih:=aKn ha he f k (by omega) (by omega)
  have hs:=aKU a b (e/2^k)
  have hd:e/2^(k+1)=e/2^k/2:=by rw[aWf,aWF]
  rw[hd]
  generalize hT:a^(e/2^k/2)%b=T at *
  have hTb:T<b:=hT▸aVZ _ hb0
  have hTT:T*T%b<b:=aVZ _ hb0
  unfold i8
  rw[show(((k+1:Nat):Int)-1)=(k:Int) by omega,if_pos (decide_eq_true (by omega)),bU,aVO,aFR hN hb hb0 (show T<115792089237316195423570985008687907853269984665640564039457584007913129639936 by omega) (show T<115792089237316195423570985008687907853269984665640564039457584007913129639936 by omega),aVO,bU,aVO,aHO he (show k<256 by omega),aVO]
  by_cases hbit:e/2^k%2=1
  ·rw[if_pos hbit]at hs
   rw[if_pos (decide_eq_true hbit),bU,aVO,aFR hN hb hb0 (show T*T%b<115792089237316195423570985008687907853269984665640564039457584007913129639936 by omega) ha,aVO,bU,aVO,hs]
   unfold oR
   rw[cR (by omega) (by omega)]
   exact ih
  rw[if_neg hbit,aXd,aXp]at hs
  rw[if_neg (by simpa using hbit),hs]
  unfold oR
  rw[cR (by omega) (by omega)]
  exact ih
theorem aOE {a e:Nat}(ha:a<115792089237316195423570985008687907853269984665640564039457584007913129639936)(he:e<115792089237316195423570985008687907853269984665640564039457584007913129639936):xA N (U a) (U e) (U b)=some (U (a^e%b)):=by
 obtain⟨n,h1,h2,h3⟩:=aSW hN he
 have hl:=aKn hN hb hb0 ha he N n (by omega) h1
 rw[aWL h2,aWy]at hl
 unfold xA
 rw[bU,aVO,aGv hb,aVO,decide_eq_false (by omega)]
 simp only[aVP,if_false]
 rw[show gV N 1=some (U 1)from rfl,aVO,aCo hN hb hb0 (by omega),aVO,bU,aVO,bU,aVO,h3,aVO,cR (by omega) (by omega),hl,aVO]
 rfl
end
section
variable {N:Nat}(hN:70000≤N)
theorem aGJ (N:Nat)(hN:70000≤N):mX N=some (U 115792089237316195423570985008687907853269984665640564039457584007913129603823):=by
 unfold mX
 rw[show gV N 36113=some (U 36113)from rfl,aVO,←z8,aHU hN (by omega) (by omega),aVO,bU,aVO]
theorem aLl (N:Nat)(va:List Int)(n:Int): ∀(f f':Nat)(i:Int)(l r:List Int),f≤f'→jL 0 va n f i l=some r→jL N va n f' i l=some r
 |0,_,_,_,_,_,h=>by cases h
 |f+1,0,_,_,_,hf,_=>by omega
 |f+1,f'+1,i,l,r,hf,h=>by
  have ih:=aLl N va n f f'
  unfold jL at h⊢
  split at h
  ·rename_i hc
   rw[if_pos hc]
   obtain⟨q,h1,h⟩:=aWk.1 h
   obtain⟨x,h2,h⟩:=aWk.1 h
   rw[h1,aVO,show oL N va (aVQ.wrap (i+n))=some x from h2,aVO]
   split at h
   ·rename_i hx
    rw[if_pos hx]
    obtain⟨y,h3,h⟩:=aWk.1 h
    obtain⟨z,h4,h⟩:=aWk.1 h
    rw[h3,aVO,h4,aVO]
    exact ih _ _ _ (by omega) h
   rename_i hx
   rw[if_neg hx]
   exact ih _ _ _ (by omega) h
  rename_i hc
  rw[if_neg hc]
  exact h
theorem aTh :jL 0 (U 115792089237316195423570985008687907853269984665640564039457584007913129603823) 1 300 0 (aVR 4 0)=some (U 57896044618658097711785492504343953926634992332820282019728792003956564801911):=by decide +kernel
theorem aGA (N:Nat)(hN:70000≤N):pV N=some (U 57896044618658097711785492504343953926634992332820282019728792003956564801911):=by
 unfold pV
 rw[aGJ N hN,aVO]
 unfold aD2
 rw[if_neg (by decide),if_neg (by decide),aLl N _ 1 300 N 0 _ _ (by omega) aTh,aVO]
 rfl
include hN
theorem aLd {a e:Nat}(ha:a<115792089237316195423570985008687907853269984665640564039457584007913129639936)(he:e<115792089237316195423570985008687907853269984665640564039457584007913129639936):uA N (U a) (U e)=some (U (a^e%115792089237316195423570985008687907853269984665640564039457584007913129603823)):=by
 unfold uA
 rw[bU,aVO,bU,aVO,aGJ N hN,aVO,aOE hN (by omega) (by omega) ha he,aVO,bU,aVO]
theorem aQa {e:Nat}(he:e<115792089237316195423570985008687907853269984665640564039457584007913129639936):y6 N (U e)=some (U (4^e%115792089237316195423570985008687907853269984665640564039457584007913129603823)):=by
 unfold y6
 rw[show gV N 4=some (U 4)from rfl,aVO,bU,aVO,aLd hN (by omega) he,aVO,bU,aVO]
theorem aLP {a b:Nat}(ha:a<115792089237316195423570985008687907853269984665640564039457584007913129639936)(hb:b<115792089237316195423570985008687907853269984665640564039457584007913129639936):sK N (U a) (U b)=some (U ((a+b)%57896044618658097711785492504343953926634992332820282019728792003956564801911)):=by
 unfold sK
 rw[bU,aVO,bU,aVO,aGA N hN,aVO,aOA hN (by omega) (by omega) ha hb,aVO,bU,aVO]
end
abbrev gP :Nat:=115792089237316195423570985008687907853269984665640564039457584007913129603823
abbrev gQ :Nat:=57896044618658097711785492504343953926634992332820282019728792003956564801911
theorem aT1 (op:BinOp)(a b:Int):0≤bits op .u64 a b∧bits op .u64 a b<18446744073709551616:=by
 unfold bits
 rw[aXk]
 omega
theorem Wd.set {l:List Int}(h:Wd l)(i:Nat){x:Int}(hx:0≤x∧x<18446744073709551616):Wd (l.set i x):=
 ⟨by rw[aV5];exact h.1,fun y hy=>(aWY hy).elim (h.2 y) (fun e=>e▸hx)⟩
section
variable {N:Nat}(hN:70000≤N)
include hN
theorem aMP {h:List Int}(hl:h.length=32): ∀(m j:Nat)(l:List Int),32-j<m→j≤32→Wd l→ ∃r,gO N h m (j:Int) l=some r∧Wd r
 |0,j,l,hm,_,_=>by omega
 |m+1,j,l,hm,hj,hw=>by
  rw[gO]
  by_cases hh:j<32
  ·have h4:=hw.1
   rw[show decide ((j:Int)<32)=true from decide_eq_true (by omega),if_pos rfl,dU hh (by omega),show(8:Int)=((8:Nat):Int)from rfl,sN,cR (a:=((j/8:Nat):Int)) (by omega) (by omega),cR (a:=3-((j/8:Nat):Int)) (by omega) (by omega),show 3-((j/8:Nat):Int)=((3-j/8:Nat):Int) by omega,dU (show 3-j/8<4 by omega) (by omega)]
   obtain⟨y,hy⟩: ∃y,shl .u64 l[3-j/8] ((8:Nat):Int)=some y:=by unfold shl;rw[if_neg (by omega)];exact⟨_,rfl⟩
   simp only[aVO,hy,i1 (show j≤100000 by omega)]
   exact aMP hl m (j+1) _ (by omega) (by omega) (hw.set _ (aT1 _ _ _))
  rw[show decide ((j:Int)<32)=false from decide_eq_false (by omega)]
  exact⟨l,rfl,hw⟩
theorem aBo {h:List Int}(hl:h.length=32): ∃n,n<115792089237316195423570985008687907853269984665640564039457584007913129639936∧fU N h=some (U n):=by
 obtain⟨r,h1,h2⟩:=aMP hN hl N 0 (aVR 4 0) (by omega) (by omega) ⟨by simp,fun x hx=>by have:=List.eq_of_mem_replicate hx;omega⟩
 rw[show((0:Nat):Int)=0 from rfl]at h1
 obtain⟨n,hn,rfl⟩:=h2.ex
 exact⟨n,hn,by simp only[fU,dG hl,aVO,h1,pE,bU]⟩
def byG (n i:Nat):Int:=aWd.wrap (((U n).getD (3-i/8) 0).fdiv (2^(56-8*(i%8))))
def jC (n:Nat):List Int:=(aWG 32).map (byG n)
omit hN in
theorem jE (n:Nat):(jC n).length=32:=by simp[jC]
omit hN in
theorem aDa (n:Nat):Byt (jC n):=by
 intro x hx
 simp only[jC,aWW]at hx
 obtain⟨i,_,rfl⟩:=hx
 exact aFU _
theorem aM3 (n:Nat): ∀(m j:Nat),32-j<m→j≤32→kZ N (U n) m (j:Int) ((aWG j).map (byG n)++aVR (32-j) 0)=some (jC n)
 |0,j,hm,_=>by omega
 |m+1,j,hm,hj=>by
  rw[kZ]
  by_cases h:j<32
  ·have hg:bV 4 (U n) ((3-j/8:Nat):Int)=some ((U n).getD (3-j/8) 0):=by
    have:3-j/8<(U n).length:=by rw[aTX];omega
    rw[dU (show 3-j/8<4 by omega) this];simp[this]
   rw[show decide ((j:Int)<32)=true from decide_eq_true (by omega),if_pos rfl,show(8:Int)=((8:Nat):Int)from rfl,sN,uX,cR (a:=((j/8:Nat):Int)) (by omega) (by omega),cR (a:=3-((j/8:Nat):Int)) (by omega) (by omega),show 3-((j/8:Nat):Int)=((3-j/8:Nat):Int) by omega,hg]
   rw[cR (a:=((j%8:Nat):Int)*((8:Nat):Int)) (by omega) (by omega),cR (a:=56-((j%8:Nat):Int)*((8:Nat):Int)) (by omega) (by omega),show 56-((j%8:Nat):Int)*((8:Nat):Int)=((56-8*(j%8):Nat):Int) by omega]
   simp only[aVO]
   rw[aN8 _ _ (by omega),dU h (by simp;omega)]
   simp only[aVO,aVT,i1 (show j≤100000 by omega)]
   have:=aAy (byG n) 32 j h
   rw[show aWd.wrap (((U n).getD (3-j/8) 0).fdiv (2^(56-8*(j%8))))=byG n j from rfl,this]
   exact aM3 n m (j+1) (by omega) (by omega)
  obtain rfl:j=32:=by omega
  rw[show decide (((32:Nat):Int)<32)=false from rfl]
  simp[jC]
theorem aIW (n:Nat):uE N (U n)=some (jC n):=by
 have:=aM3 hN n N 0 (by omega) (by omega)
 simp only[aWO,aW3,aVU,aWj]at this
 rw[show((0:Nat):Int)=0 from rfl]at this
 simp only[uE,this,aVO,aAd,dG (jE n)]
theorem grow (l:List (List Int))(hn:l.length≤1000)(h32: ∀x∈l,x.length=32):aAt N l=some l.flatten:=by
 have hfl:l.flatten.length≤l.length*32:=by
  clear hn
  induction l with
  |nil=>simp
  |cons x l ih=>
   have h1:=h32 x (by simp)
   have h2:=ih (fun y hy=>h32 y (by simp[hy]))
   simp only[aWp,aVS,aWc];omega
 have:=aDJ (f:=pU N l) l hn (by omega) (fun m j acc hj hB=>by
  rw[pU,dT hj,if_pos rfl,cL l hj,aVO,dG (h32 _ (aV1 hj)),aVO,iZ (by omega)]
  simp only[aVO,i1 (show j≤100000 by omega)]) (fun m j acc hj=>by rw[pU,dF (by omega)];rfl) N hN
 unfold aAt
 rw[this];rfl
theorem aO3 {h:List Int}(hl:h.length=32): ∃n,n<57896044618658097711785492504343953926634992332820282019728792003956564801911∧qM N h=some (U n):=by
 obtain⟨n,h1,h2⟩:=aBo hN hl
 refine⟨(n+0)%57896044618658097711785492504343953926634992332820282019728792003956564801911,aVZ _ (by decide), ?_⟩
 rw[show qM N h=((a9 32 h).bind fun q=>(fU N h).bind fun x4=>(o5 N x4 [0,0,0,0]).bind fun x6=>(a9 4 x6).bind fun q_1=>some x6)from rfl]
 simp only[dG hl,aVO,h2,←z8,o5,bU,aDe,aLp (b:=57896044618658097711785492504343953926634992332820282019728792003956564801911) hN (by decide) (by decide) h1 (show(0:Nat)<115792089237316195423570985008687907853269984665640564039457584007913129639936 by decide)]
def aAE :ByteArray:=⟨#[108,105,103,104,116,99,108,105,101,110,116,47,99,104,97,108,108,101,110,103,101]⟩
theorem aLB {r p:Nat}{m:List Int}(hm:m.length=32)(hb:Byt m): ∃n,n<57896044618658097711785492504343953926634992332820282019728792003956564801911∧nI N (U r) (U p) m=some (U n):=by
 obtain⟨n,h1,h2⟩:=aO3 hN (yR N aAE (jC r++(jC p++m)))
 refine⟨n,h1, ?_⟩
 have hrow:aAt N [jC r,jC p,m]=some (jC r++(jC p++m)):=by
  rw[grow hN _ (by simp) (fun x hx=>by
   simp only[aWN,aXl,or_false]at hx
   rcases hx with rfl|rfl|rfl
   ·exact jE _
   ·exact jE _
   exact hm)]
  simp
 have ht:=aGi N hN aAE (by decide) (jC r++(jC p++m)) ((aDa _).append ((aDa _).append hb)) (by simp[jE,hm])
 simp only[nI,bU,aIW hN,dG hm,dG (jE _),hrow,aVO]
 rw[show(⟨#[108,105,103,104,116,99,108,105,101,110,116,47,99,104,97,108,108,101,110,103,101]⟩:ByteArray)=aAE from rfl,ht]
 simp only[aVO,h2,bU]
theorem xH {a:Nat}(ha:a<115792089237316195423570985008687907853269984665640564039457584007913129639936):pR N (U a)=some (decide (a<57896044618658097711785492504343953926634992332820282019728792003956564801911)):=by
 simp only[pR,bU,aDe,aVO,aAk hN ha (show(57896044618658097711785492504343953926634992332820282019728792003956564801911:Nat)<115792089237316195423570985008687907853269984665640564039457584007913129639936 by decide),aKM]
theorem aQU :([1,0,0,0]:List Int)=U 1:=by decide +kernel
theorem aOv {a:Nat}(ha:a<115792089237316195423570985008687907853269984665640564039457584007913129639936): ∃v,qO N (U a)=some v:=by
 have hJ: ∀t,∃v,l8 N (U a) t=some v:=by
  intro t
  cases t with
  |true=>exact⟨_,rfl⟩
  |false=>
   simp only[l8,aVP,if_false,bU,aDe,aVO,aGB hN ha (show(57896044618658097711785492504343953926634992332820282019728792003956564801911:Nat)<115792089237316195423570985008687907853269984665640564039457584007913129639936 by decide),fT,aQU hN]
   exact⟨_,rfl⟩
 simp only[qO,bU,aVO,aLj,aAk hN ha (show(115792089237316195423570985008687907853269984665640564039457584007913129603823:Nat)<115792089237316195423570985008687907853269984665640564039457584007913129639936 by decide)]
 split
 ·exact hJ _
 exact hJ _
theorem aKW {a:Nat}(ha:a<115792089237316195423570985008687907853269984665640564039457584007913129639936): ∃v,sF N (U a)=some v:=by
 obtain⟨v,hv⟩:=aOv hN ha
 simp only[sF,bU,fT,aQU hN,aVO,hv]
 split<;>exact⟨_,rfl⟩
theorem aOy {p e s:Nat}{m:List Int}(hp:p<115792089237316195423570985008687907853269984665640564039457584007913129639936)(he:e<115792089237316195423570985008687907853269984665640564039457584007913129639936)(hs:s<115792089237316195423570985008687907853269984665640564039457584007913129639936)(hm:m.length=32)(hb:Byt m): ∃v,sU N (U p) m (U e) (U s)=some v:=by
 obtain⟨v,hv⟩:=aKW hN hp
 have hq:(57896044618658097711785492504343953926634992332820282019728792003956564801911:Nat)<115792089237316195423570985008687907853269984665640564039457584007913129639936:=by decide
 have hJ: ∀t,∃v,j7 N (U p) m (U e) (U s) t=some v:=by
  intro t
  cases t with
  |true=>exact⟨_,rfl⟩
  |false=>
   have hd:(57896044618658097711785492504343953926634992332820282019728792003956564801911+115792089237316195423570985008687907853269984665640564039457584007913129639936-e)%115792089237316195423570985008687907853269984665640564039457584007913129639936<115792089237316195423570985008687907853269984665640564039457584007913129639936:=aVZ _ (by decide)
   have h4:([4,0,0,0]:List Int)=U 4:=by decide +kernel
   have hx: ∀z:Nat,z%115792089237316195423570985008687907853269984665640564039457584007913129603823<115792089237316195423570985008687907853269984665640564039457584007913129639936:=fun z=>aW7 (aVZ z (by decide)) (by decide)
   simp only[j7,aVP,if_false,bU,aDe,aVO,aGF hN hq he,vF,fT,h4,aGB hN (show(4:Nat)<115792089237316195423570985008687907853269984665640564039457584007913129639936 by decide) hs,aGB hN hp hd,aNE hN (hx _) (hx _),dG hm]
   obtain⟨n,_,hn⟩:=aLB hN (r:=4^s%115792089237316195423570985008687907853269984665640564039457584007913129603823*(p^((57896044618658097711785492504343953926634992332820282019728792003956564801911+115792089237316195423570985008687907853269984665640564039457584007913129639936-e)%115792089237316195423570985008687907853269984665640564039457584007913129639936)%115792089237316195423570985008687907853269984665640564039457584007913129603823)%115792089237316195423570985008687907853269984665640564039457584007913129603823) (p:=p) hm hb
   rw[hn]
   exact⟨_,rfl⟩
 simp only[sU,bU,aVO,xH hN he,xH hN hs,hv]
 split
 ·exact hJ _
 split
 ·exact hJ _
 exact hJ _
theorem aOM {b:List Int}: ∃e s r,e<115792089237316195423570985008687907853269984665640564039457584007913129639936∧s<115792089237316195423570985008687907853269984665640564039457584007913129639936∧sR N b=some (U e,U s,r):=by
 have h0:aVR 4 (0:Int)=U 0:=by decide +kernel
 unfold sR
 by_cases hl:b.length=64
 ·rw[show(((b.length:Nat):Int) != 64)=false by rw[hl];rfl]
  have e1:sub b 0 32=some (b.take 32):=by unfold sub;rw[if_pos ⟨by omega,by omega,by omega⟩];simp
  have e2:sub b 32 (b.length:Int)=some (b.drop 32):=by
   unfold sub;rw[if_pos ⟨by omega,by omega,by omega⟩,aVT,aVW (aWb _)];rfl
  have l1:(b.take 32).length=32:=by simp;omega
  have l2:(b.drop 32).length=32:=by simp;omega
  have a1:sY 32 (b.take 32)=some (b.take 32):=by unfold sY;rw[if_pos (by omega),aVW (by omega)]
  have a2:sY 32 (b.drop 32)=some (b.drop 32):=by unfold sY;rw[if_pos (by omega),aVW (by omega)]
  obtain⟨e,h1,h2⟩:=aBo hN l1
  obtain⟨s,h3,h4⟩:=aBo hN l2
  have hJ: ∀t,∃e' s' r,e'<115792089237316195423570985008687907853269984665640564039457584007913129639936∧s'<115792089237316195423570985008687907853269984665640564039457584007913129639936∧pZ N (U e) (U s) t=some (U e',U s',r):=by
   intro t
   cases t with
   |true=>exact⟨0,0,5,by decide,by decide,by unfold pZ;rw[h0];rfl⟩
   |false=>exact⟨e,s,0,h1,h3,rfl⟩
  simp only[aVP,if_false,e1,e2,a1,a2,h2,h4,aVO,bU,xH hN h1,xH hN h3]
  split
  ·exact hJ _
  exact hJ _
 rw[show(((b.length:Nat):Int) != 64)=true by simp;omega,if_pos rfl,h0]
 exact⟨0,0,8,by decide,by decide,rfl⟩
theorem aOk {m:List Int}(hm:m.length=32)(hb:Byt m)(h a:Int)(st:List (List Int))(br:List aM)(c:Int)(key sig:List Int): ∃e,dM N m h a st br c key sig=some e:=by
 have hJ: ∀t,∃e,gW N m h a st br c t=some e:=fun t=>by cases t<;>exact⟨_,rfl⟩
 unfold dM
 by_cases hl:key.length=32
 ·rw[show(((key.length:Nat):Int) != 32)=false by rw[hl];rfl]
  have a1:sY 32 key=some key:=by unfold sY;rw[if_pos (by omega),aVW (by omega)]
  obtain⟨p,h1,h2⟩:=aBo hN hl
  obtain⟨v,hv⟩:=aKW hN h1
  simp only[aVP,if_false,a1,h2,aVO,bU,hv]
  split
  ·exact⟨_,rfl⟩
  split
  ·exact⟨_,rfl⟩
  obtain⟨e,s,r,h3,h4,h5⟩:=aOM hN (b:=sig)
  simp only[h5,aVO]
  split
  ·exact hJ _
  obtain⟨w,hw⟩:=aOy hN h1 h3 h4 hm hb
  simp only[dG hm,aVO,hw]
  exact hJ _
 rw[show(((key.length:Nat):Int) != 32)=true by simp;omega]
 exact⟨_,rfl⟩
end
def vV (n w:Nat):Nat:=n/18446744073709551616^(3-w)%18446744073709551616
theorem aNh (n:Nat):U n=[(vV n 3:Int),(vV n 2:Int),(vV n 1:Int),(vV n 0:Int)]:=by
 simp only[U,w4,vV,Nat.sub_self,aWy,aXe]
theorem aIq (n w:Nat):vV n w<18446744073709551616:=aVZ _ (by decide)
def tF (n w j:Nat):Nat:=vV n w/2^(64-8*min 8 (j-8*w))
def stF (n j:Nat):List Int:=[(tF n 3 j:Int),(tF n 2 j:Int),(tF n 1 j:Int),(tF n 0 j:Int)]
theorem aSy (n j w:Nat)(hw:w<4):(stF n j)[3-w]? =some ((tF n w j:Nat):Int):=by
 match w,hw with
 |0,_=>rfl
 |1,_=>rfl
 |2,_=>rfl
 |3,_=>rfl
theorem aI9 (n i:Nat)(hi:i<32):byG n i=((vV n (i/8)/2^(56-8*(i%8))%256:Nat):Int):=by
 have h:(U n).getD (3-i/8) 0=((vV n (i/8):Nat):Int):=by
  rw[aNh]
  have:i/8<4:=by omega
  generalize i/8=w at this
  match w,this with
  |0,_=>rfl
  |1,_=>rfl
  |2,_=>rfl
  |3,_=>rfl
 unfold byG
 rw[h,show((2:Int)^(56-8*(i%8)))=((2^(56-8*(i%8)):Nat):Int) by simp,Int.fdiv_eq_ediv_of_nonneg _ (Int.natCast_nonneg _),←Int.natCast_ediv,aXm]
 generalize vV n (i/8)/2^(56-8*(i%8))=y
 omega
theorem aJe {n w r:Nat}(hr:r<8):tF n w (8*w+r+1)=2^8*tF n w (8*w+r)+vV n w/2^(56-8*r)%256∧tF n w (8*w+r)<2^56:=by
 have e1:64-8*min 8 (8*w+r+1-8*w)=56-8*r:=by omega
 have e2:64-8*min 8 (8*w+r-8*w)=(56-8*r)+8:=by omega
 unfold tF
 rw[e1,e2,aWx,←aWF]
 have hu:=aIq n w
 have hd:vV n w/2^(56-8*r)≤vV n w:=Nat.div_le_self _ _
 generalize vV n w/2^(56-8*r)=y at hd
 have:(2:Nat)^8=256:=rfl
 have h56:(2:Nat)^56=72057594037927936:=rfl
 rw[this,h56]
 omega
theorem nU {n w w' r:Nat}(hr:r<8)(hne:w'≠w):tF n w' (8*w+r+1)=tF n w' (8*w+r):=by
 unfold tF
 rw[show min 8 (8*w+r+1-8*w')=min 8 (8*w+r-8*w') by omega]
theorem aRu {n w r:Nat}(hw:w<4)(hr:r<8):(stF n (8*w+r)).set (3-w) ((2^8*tF n w (8*w+r)+vV n w/2^(56-8*r)%256:Nat):Int)=stF n (8*w+r+1):=by
 rw[←(aJe hr).1]
 match w,hw with
 |0,_=>simp only[stF];rw[nU (w':=1) hr (by decide),nU (w':=2) hr (by decide),nU (w':=3) hr (by decide)];rfl
 |1,_=>simp only[stF];rw[nU (w':=0) hr (by decide),nU (w':=2) hr (by decide),nU (w':=3) hr (by decide)];rfl
 |2,_=>simp only[stF];rw[nU (w':=1) hr (by decide),nU (w':=0) hr (by decide),nU (w':=3) hr (by decide)];rfl
 |3,_=>simp only[stF];rw[nU (w':=1) hr (by decide),nU (w':=2) hr (by decide),nU (w':=0) hr (by decide)];rfl
theorem aUE (n:Nat):stF n 0=[0,0,0,0]:=by
 have h: ∀w,tF n w 0=0:=fun w=>by
  unfold tF
  rw[show 64-8*min 8 (0-8*w)=64 by omega]
  exact aWL (by have:=aIq n w;exact this)
 simp only[stF,h];rfl
theorem aUj (n:Nat):stF n 32=U n:=by
 have h: ∀w,w<4→tF n w 32=vV n w:=fun w hw=>by
  unfold tF
  rw[show 64-8*min 8 (32-8*w)=0 by omega]
  simp
 rw[aNh];simp only[stF];rw[h 0 (by decide),h 1 (by decide),h 2 (by decide),h 3 (by decide)]
section
variable {N:Nat}(hN:70000≤N)
include hN
theorem aLh (n:Nat): ∀(m j:Nat),32-j<m→j≤32→gO N (jC n) m (j:Int) (stF n j)=some (U n)
 |0,j,hm,_=>by omega
 |m+1,j,hm,hj=>by
  rw[gO]
  by_cases hh:j<32
  ·have hb:bV 32 (jC n) (j:Int)=some (byG n j):=by
    rw[dU hh (by rw[jE];exact hh)];simp[jC]
   have hw:j/8<4:=by omega
   have hr:j%8<8:=by omega
   have hg:bV 4 (stF n j) ((3-j/8:Nat):Int)=some ((tF n (j/8) j:Nat):Int):=by
    rw[dU (show 3-j/8<4 by omega) (by simp[stF];omega)]
    have:=aSy n j (j/8) hw
    rw[aV9 (by simp[stF];omega)]at this
    exact this
   rw[show decide ((j:Int)<32)=true from decide_eq_true (by omega),if_pos rfl,hb,show(8:Int)=((8:Nat):Int)from rfl,sN,cR (a:=((j/8:Nat):Int)) (by omega) (by omega),cR (a:=3-((j/8:Nat):Int)) (by omega) (by omega),show 3-((j/8:Nat):Int)=((3-j/8:Nat):Int) by omega]
   simp only[aVO,hg]
   have ej:j=8*(j/8)+j%8:=by omega
   obtain⟨p1,p2⟩:=aJe (n:=n) (w:=j/8) hr
   rw[←ej]at p1 p2
   have hs:shl .u64 ((tF n (j/8) j:Nat):Int) ((8:Nat):Int)=some ((2^8*tF n (j/8) j:Nat):Int):=by
    unfold shl
    rw[if_neg (by omega),show min (aWe ((8:Nat):Int)) aV6.bits=8 from rfl,show((tF n (j/8) j:Nat):Int)*2^8=((2^8*tF n (j/8) j:Nat):Int) by rw[aV3];simp,aAn (by omega) (by omega)]
   rw[hs]
   simp only[aVO]
   have hbt:vV n (j/8)/2^(56-8*(j%8))%256<2^8:=aVZ _ (by decide)
   rw[aI9 n j hh,aAn (by omega) (by have:=hbt;omega),z5 rfl _ _ (by show _<2^64;omega) (by show _<2^64;omega),←aV7 hbt]
   have:=aRu (n:=n) hw hr
   rw[←ej]at this
   rw[aVT,this,i1 (show j≤100000 by omega)]
   exact aLh n m (j+1) (by omega) (by omega)
  obtain rfl:j=32:=by omega
  rw[show decide (((32:Nat):Int)<32)=false from rfl,aUj]
  rfl
theorem aGU (n:Nat):fU N (jC n)=some (U n):=by
 have:=aLh hN n N 0 (by omega) (by omega)
 rw[aUE,show((0:Nat):Int)=0 from rfl]at this
 simp only[fU,dG (jE n),aVO,r40,this,pE,bU]
end
theorem aQ4 : ∀j<32,aVQ.wrap (aXg (aVQ.wrap (31-((j:Nat):Int))) 8)=aVQ.wrap (3-aVQ.wrap (aXg ((j:Nat):Int) 8))∧aVQ.wrap (8*(aW8 (aVQ.wrap (31-((j:Nat):Int))) 8))=aVQ.wrap (56-aVQ.wrap (aW8 ((j:Nat):Int) 8*8)):=by decide +kernel
theorem aOG (N:Nat)(a:List Int): ∀(m j:Nat)(l:List Int),j≤32→lB N a m (j:Int) l=kZ N a m (j:Int) l
 |0,_,_,_=>rfl
 |m+1,j,l,hj=>by
  unfold lB kZ
  by_cases h:j<32
  ·have hw:aVQ.wrap ((j:Int)+1)=((j+1:Nat):Int):=by rw[cR (by omega) (by omega)];omega
   rw[(aQ4 j h).1,(aQ4 j h).2,hw]
   simp only[aOG N a m (j+1) _ (by omega)]
  rw[if_neg (by simp;omega),if_neg (by simp;omega)]
theorem aPB (N:Nat)(hN:70000≤N)(n:Nat):zF N (U n)=some (jC n):=by
 have h:=aIW hN n
 unfold uE at h
 unfold zF
 rw[show lB N (U n) N 0 (aVR 32 0)=_ from aOG N (U n) N 0 _ (by omega)]
 exact h
theorem aOj (N:Nat)(hN:70000≤N)(n:Nat):tL N (U n)=some (jC n):=by
 unfold tL
 rw[bU,aVO,aPB N hN,aVO,yG (jE n),aVO]
def qwN (n w j:Nat):Nat:=2^(64-8*min 8 (j-8*w))*tF n w j
def stQ (n j:Nat):List Int:=[(qwN n 3 j:Int),(qwN n 2 j:Int),(qwN n 1 j:Int),(qwN n 0 j:Int)]
theorem aRZ (n j w:Nat)(hw:w<4):(stQ n j)[3-w]? =some ((qwN n w j:Nat):Int):=by
 match w,hw with
 |0,_=>rfl
 |1,_=>rfl
 |2,_=>rfl
 |3,_=>rfl
theorem aTO (n w j:Nat):qwN n w j<2^64:=aWC (Nat.mul_div_le _ _) (aIq n w)
theorem aRb {n w r:Nat}(hr:r<8):qwN n w (8*w+r+1)=2^(64-8*r)*tF n w (8*w+r)+2^(56-8*r)*(vV n w/2^(56-8*r)%256)∧qwN n w (8*w+r)=2^(64-8*r)*tF n w (8*w+r):=by
 have e1:64-8*min 8 (8*w+r+1-8*w)=56-8*r:=by omega
 have e2:64-8*min 8 (8*w+r-8*w)=64-8*r:=by omega
 unfold qwN
 rw[e1,e2,(aJe hr).1,aWS,←aWB,←aWx,show 56-8*r+8=64-8*r by omega]
 exact⟨rfl,rfl⟩
theorem o9 {n w w' r:Nat}(hr:r<8)(hne:w'≠w):qwN n w' (8*w+r+1)=qwN n w' (8*w+r):=by
 unfold qwN
 rw[nU hr hne,show min 8 (8*w+r+1-8*w')=min 8 (8*w+r-8*w') by omega]
theorem aQk {n w r:Nat}(hw:w<4)(hr:r<8):(stQ n (8*w+r)).set (3-w) ((qwN n w (8*w+r+1):Nat):Int)=stQ n (8*w+r+1):=by
 match w,hw with
 |0,_=>simp only[stQ];rw[o9 (w':=1) hr (by decide),o9 (w':=2) hr (by decide),o9 (w':=3) hr (by decide)];rfl
 |1,_=>simp only[stQ];rw[o9 (w':=0) hr (by decide),o9 (w':=2) hr (by decide),o9 (w':=3) hr (by decide)];rfl
 |2,_=>simp only[stQ];rw[o9 (w':=1) hr (by decide),o9 (w':=0) hr (by decide),o9 (w':=3) hr (by decide)];rfl
 |3,_=>simp only[stQ];rw[o9 (w':=1) hr (by decide),o9 (w':=2) hr (by decide),o9 (w':=0) hr (by decide)];rfl
theorem aT4 (n:Nat):stQ n 0=[0,0,0,0]:=by
 have h: ∀w,qwN n w 0=0:=fun w=>by
  unfold qwN tF
  rw[show 64-8*min 8 (0-8*w)=64 by omega,aWL (by have:=aIq n w;exact this)]
 simp only[stQ,h];rfl
theorem aTr (n:Nat):stQ n 32=U n:=by
 have h: ∀w,w<4→qwN n w 32=vV n w:=fun w hw=>by
  unfold qwN tF
  rw[show 64-8*min 8 (32-8*w)=0 by omega]
  simp
 rw[aNh];simp only[stQ];rw[h 0 (by decide),h 1 (by decide),h 2 (by decide),h 3 (by decide)]
section
variable {N:Nat}(hN:70000≤N)
include hN
theorem aK0 (n:Nat): ∀(m j:Nat),32-j<m→j≤32→jP N (jC n) m (j:Int) (stQ n j)=some (U n)
 |0,j,hm,_=>by omega
 |m+1,j,hm,hj=>by
  rw[jP]
  by_cases hh:j<32
  ·have hb:bV 32 (jC n) (j:Int)=some (byG n j):=by
    rw[dU hh (by rw[jE];exact hh)];simp[jC]
   have hw:j/8<4:=by omega
   have hr:j%8<8:=by omega
   have hg:bV 4 (stQ n j) ((3-j/8:Nat):Int)=some ((qwN n (j/8) j:Nat):Int):=by
    rw[dU (show 3-j/8<4 by omega) (by simp[stQ];omega)]
    have:=aRZ n j (j/8) hw
    rw[aV9 (by simp[stQ];omega)]at this
    exact this
   have i1':aVQ.wrap (aXg (aVQ.wrap (31-(j:Int))) 8)=((3-j/8:Nat):Int):=by
    rw[show 31-(j:Int)=((31-j:Nat):Int) by omega,cR (a:=((31-j:Nat):Int)) (by omega) (by omega),show(8:Int)=((8:Nat):Int)from rfl,sN,cR (by omega) (by omega),show(31-j)/8=3-j/8 by omega]
   have i2':aVQ.wrap (8*(aW8 (aVQ.wrap (31-(j:Int))) 8))=((56-8*(j%8):Nat):Int):=by
    rw[show 31-(j:Int)=((31-j:Nat):Int) by omega,cR (a:=((31-j:Nat):Int)) (by omega) (by omega),show(aW8 ((31-j:Nat):Int) 8)=(((31-j)%8:Nat):Int)from uX _ 8,cR (by omega) (by omega)]
    omega
   rw[show decide ((j:Int)<32)=true from decide_eq_true (by omega),if_pos rfl,i1',i2',hg,aVO,hb,aVO]
   have ej:j=8*(j/8)+j%8:=by omega
   obtain⟨p1,p2⟩:=aRb (n:=n) (w:=j/8) hr
   rw[←ej]at p1 p2
   have hbt:vV n (j/8)/2^(56-8*(j%8))%256<256:=aVZ _ (by decide)
   rw[aI9 n j hh,aAn (by omega) (by omega),aEm (k:= .u64) rfl,aVO]
   have hlt:2^(56-8*(j%8))*(vV n (j/8)/2^(56-8*(j%8))%256)<2^(64-8*(j%8)):=by
    have h8:2^(64-8*(j%8))=2^(56-8*(j%8))*256:=by rw[show 64-8*(j%8)=56-8*(j%8)+8 by omega,aWx]
    rw[h8]
    exact(Nat.mul_lt_mul_left (aWw (by omega))).2 hbt
   have hle:2^(64-8*(j%8))≤2^64:=Nat.pow_le_pow_right (by omega) (by omega)
   have hval:vV n (j/8)/2^(56-8*(j%8))%256*2^(56-8*(j%8))%2^aV6.bits=2^(56-8*(j%8))*(vV n (j/8)/2^(56-8*(j%8))%256):=by
    rw[aV3]
    exact aVV (aWa hlt hle)
   rw[hval,z5 (k:= .u64) rfl _ _ (aTO n (j/8) j) (aWa hlt hle),p2,←aV7 hlt,←p1]
   have:=aQk (n:=n) hw hr
   rw[←ej]at this
   rw[aVT,this,i1 (show j≤100000 by omega)]
   exact aK0 n m (j+1) (by omega) (by omega)
  obtain rfl:j=32:=by omega
  rw[show decide (((32:Nat):Int)<32)=false from rfl,aTr]
  rfl
theorem aFW (n:Nat):i7 N (jC n)=some (U n):=by
 have:=aK0 hN n N 0 (by omega) (by omega)
 rw[aT4,show((0:Nat):Int)=0 from rfl]at this
 simp only[i7,aVO,r40,this,sH,bU]
theorem aOq {n:Nat}(hn:n<115792089237316195423570985008687907853269984665640564039457584007913129639936):wL N (jC n)=some (U (n%57896044618658097711785492504343953926634992332820282019728792003956564801911)):=by
 unfold wL
 rw[yG (jE n),aVO,aFW hN,aVO,←z8,aLP hN hn (by omega),aVO,bU,aVO,aWJ]
theorem aPx {n:Nat}(hn:n<115792089237316195423570985008687907853269984665640564039457584007913129639936):qM N (jC n)=some (U (n%57896044618658097711785492504343953926634992332820282019728792003956564801911)):=by
 unfold qM o5
 rw[yG (jE n),aVO,aGU hN,aVO,←z8,bU,aVO,bU,aVO,aDe,aVO,aLp hN (by omega) (by omega) hn (by omega),aVO,bU,aVO,aVO,bU,aVO,aWJ]
end
def z9 (f:Nat→Nat)(w:Nat):Nat:=f (8*w)*72057594037927936+f (8*w+1)*281474976710656+f (8*w+2)*1099511627776+f (8*w+3)*4294967296+f (8*w+4)*16777216+f (8*w+5)*65536+f (8*w+6)*256+f (8*w+7)
theorem uI {f:Nat→Nat}(hf: ∀i,f i<256)(w:Nat):z9 f w<18446744073709551616∧ ∀r,r<8→z9 f w/2^(56-8*r)%256=f (8*w+r):=by
 have h0:=hf (8*w)
 have h1:=hf (8*w+1)
 have h2:=hf (8*w+2)
 have h3:=hf (8*w+3)
 have h4:=hf (8*w+4)
 have h5:=hf (8*w+5)
 have h6:=hf (8*w+6)
 have h7:=hf (8*w+7)
 unfold z9
 refine⟨by omega,fun r hr=> ?_⟩
 match r,hr with
 |0,_=>show _/72057594037927936%256=f (8*w);omega
 |1,_=>show _/281474976710656%256=_;omega
 |2,_=>show _/1099511627776%256=_;omega
 |3,_=>show _/4294967296%256=_;omega
 |4,_=>show _/16777216%256=_;omega
 |5,_=>show _/65536%256=_;omega
 |6,_=>show _/256%256=_;omega
 |7,_=>show _/1%256=_;omega
def byF (h:List Int)(i:Nat):Nat:=((h.getD i 0).toNat)%256
def lI (h:List Int):Nat:=vl (z9 (byF h) 3) (z9 (byF h) 2) (z9 (byF h) 1) (z9 (byF h) 0)
theorem aAI (h:List Int)(i:Nat):byF h i<256:=aVZ _ (by decide)
theorem sP (h:List Int):lI h<115792089237316195423570985008687907853269984665640564039457584007913129639936:=
 aGE (uI (aAI h) 3).1 (uI (aAI h) 2).1 (uI (aAI h) 1).1 (uI (aAI h) 0).1
theorem aDQ {h:List Int}(hl:h.length=32)(hb:Byt h):jC (lI h)=h:=by
 have hw: ∀w,w<4→vV (lI h) w=z9 (byF h) w:=by
  have e:=aNh (lI h)
  rw[show U (lI h)=w4 (z9 (byF h) 3) (z9 (byF h) 2) (z9 (byF h) 1) (z9 (byF h) 0)from(aHb (uI (aAI h) 3).1 (uI (aAI h) 2).1 (uI (aAI h) 1).1 (uI (aAI h) 0).1).symm]at e
  simp only[w4,aXo,Int.natCast_inj,and_true]at e
  obtain⟨e3,e2,e1,e0⟩:=e
  intro w hw
  match w,hw with
  |0,_=>exact e0.symm
  |1,_=>exact e1.symm
  |2,_=>exact e2.symm
  |3,_=>exact e3.symm
 refine List.ext_getElem (by rw[jE,hl]) fun i h1 h2=> ?_
 rw[jE]at h1
 have hg:(jC (lI h))[i]'(by rw[jE];exact h1)=byG (lI h) i:=by simp[jC]
 rw[hg,aI9 _ i h1,hw (i/8) (by omega),(uI (aAI h) (i/8)).2 (i%8) (by omega),show 8*(i/8)+i%8=i by omega]
 have hx:=hb h[i] (aV1 h2)
 unfold byF
 rw[aWV,aV9 h2,Option.getD_some]
 omega
theorem aBU :gQ<115792089237316195423570985008687907853269984665640564039457584007913129639936:=by decide +kernel
theorem aGy (a:Nat):a%gP<115792089237316195423570985008687907853269984665640564039457584007913129639936:=aW7 (aVZ _ (by decide +kernel)) (by decide +kernel)
section
variable {N:Nat}(hN:70000≤N)
include hN
theorem aKJ (l:List (List Int))(hn:l.length≤1000)(ht:l.flatten.length≤40000000):pJ N l=some l.flatten:=by
 have:=aDJ (f:=mY N l) l hn (by omega) (fun m j acc hj hB=>by
  rw[mY,dT hj,if_pos rfl,cL l hj,aVO]
  unfold eJ
  rw[show((acc.length:Int)+(l[j].length:Int))=((acc.length+l[j].length:Nat):Int) by omega,cR (by omega) (by omega),aEy (by have:=jT;omega),aVO,List.take_zero,iZ (by simp;omega),aVO,aVU,iZ (by omega)]
  simp only[aVO,i1 (show j≤100000 by omega)]) (fun m j acc hj=>by rw[mY,dF (by omega)];rfl) N hN
 unfold pJ
 rw[this];rfl
def aNs (N r p:Nat)(m:List Int):Nat:=lI (zC N aAE (jC r++(jC p++m)))%gQ
omit hN in
theorem aMO (N r p:Nat)(m:List Int):aNs N r p m<gQ:=aVZ _ (by decide)
theorem aMp (r p:Nat){m:List Int}(hm:m.length=32)(hb:Byt m):nI N (U r) (U p) m=some (U (aNs N r p m)):=by
 have hs:=aPx hN (sP (zC N aAE (jC r++(jC p++m))))
 rw[aDQ (yR N aAE _) (aEX N aAE _)]at hs
 have hrow:aAt N [jC r,jC p,m]=some (jC r++(jC p++m)):=by
  rw[grow hN _ (by simp) (fun x hx=>by
   simp only[aWN,aXl,or_false]at hx
   rcases hx with rfl|rfl|rfl
   ·exact jE _
   ·exact jE _
   exact hm)]
  simp
 have ht:=aGi N hN aAE (by decide) (jC r++(jC p++m)) ((aDa _).append ((aDa _).append hb)) (by simp[jE,hm])
 simp only[nI,bU,aIW hN,dG hm,dG (jE _),hrow,aVO]
 rw[show(⟨#[108,105,103,104,116,99,108,105,101,110,116,47,99,104,97,108,108,101,110,103,101]⟩:ByteArray)=aAE from rfl,ht]
 simp only[aVO,hs,bU]
 rfl
theorem aLf (r p:Nat){m:List Int}(hm:m.length=32)(hb:Byt m):sE N (U r) (U p) m=some (U (aNs N r p m)):=by
 have hs:=aOq hN (sP (zC N aAE (jC r++(jC p++m))))
 rw[aDQ (yR N aAE _) (aEX N aAE _)]at hs
 have hrow:pJ N [jC r,jC p,m]=some (jC r++(jC p++m)):=by
  rw[aKJ hN _ (by simp) (by simp[jE,hm])]
  simp
 have ht:=aHI N hN aAE (by decide) (jC r++(jC p++m)) ((aDa _).append ((aDa _).append hb)) (by simp[jE,hm])
 simp only[sE,bU,aOj N hN,dG hm,hrow,aVO]
 rw[show(⟨#[108,105,103,104,116,99,108,105,101,110,116,47,99,104,97,108,108,101,110,103,101]⟩:ByteArray)=aAE from rfl,ht]
 simp only[aVO,hs,bU]
 rfl
end
def aLW (p:Nat):Bool:= !decide (p=0)&&(decide (p<gP)&&decide (p^gQ%gP=1))
def okN (p:Nat):Bool:= !decide (p=1)&&aLW p
def aHu (N p:Nat)(m:List Int)(e s:Nat):Bool:=decide (e<gQ)&&(decide (s<gQ)&&(okN p&&decide (e=aNs N (4^s%gP*(p^(gQ-e)%gP)%gP) p m)))
section
variable {N:Nat}(hN:70000≤N)
include hN
theorem aPt {p:Nat}(hp:p<115792089237316195423570985008687907853269984665640564039457584007913129639936):qO N (U p)=some (aLW p):=by
 have he:=aGB hN hp aBU
 have hz:(U p == [0,0,0,0])=decide (p=0):=by
  rw[←z8,aA0 hp (by decide +kernel)]
 unfold qO aLW
 rw[bU,aVO,hz]
 by_cases h0:p=0
 ·rw[decide_eq_true h0];rfl
 rw[decide_eq_false h0]
 simp only[aVP,if_false,aWi,aVX]
 rw[aLj,aVO,aAk hN hp (by decide +kernel),aVO,aIG]
 by_cases h1:p<gP
 ·rw[decide_eq_false (Nat.not_le.2 h1),decide_eq_true h1]
  unfold l8
  simp only[aVP,if_false,aVX]
  rw[bU,aVO,aDe,aVO,he,aVO,show fT N 1=some (U 1)from rfl]
  simp only[aVO,bU]
  rw[aA0 (aGy _) (by decide +kernel)]
 rw[decide_eq_true (Nat.not_lt.1 h1),decide_eq_false h1]
 rfl
theorem aNc {p:Nat}(hp:p<115792089237316195423570985008687907853269984665640564039457584007913129639936):sF N (U p)=some (okN p):=by
 unfold sF okN
 rw[bU,aVO,show fT N 1=some (U 1)from rfl,aVO,bU,aVO,aA0 hp (by decide +kernel)]
 by_cases h1:p=1
 ·rw[decide_eq_true h1];rfl
 rw[decide_eq_false h1]
 simp only[aWi,if_true,aVX]
 rw[aPt hN hp,aVO]
 rfl
theorem aPr {e:Nat}(he:e<115792089237316195423570985008687907853269984665640564039457584007913129639936):vF N (U e)=some (U (4^e%gP)):=by
 unfold vF
 rw[show fT N 4=some (U 4)from rfl,aVO,bU,aVO,aGB hN (by decide +kernel) he,aVO,bU,aVO]
theorem aQI {p e s:Nat}(hp:p<115792089237316195423570985008687907853269984665640564039457584007913129639936)(he4:e<115792089237316195423570985008687907853269984665640564039457584007913129639936)(hs4:s<115792089237316195423570985008687907853269984665640564039457584007913129639936){m:List Int}(hm:m.length=32)(hb:Byt m):
  sU N (U p) m (U e) (U s)=some (aHu N p m e s):=by
 have hJt:j7 N (U p) m (U e) (U s) true=some false:=rfl
 unfold sU aHu
 rw[bU,aVO,xH hN he4,aVO,show decide (e<57896044618658097711785492504343953926634992332820282019728792003956564801911)=decide (e<gQ)from rfl]
 by_cases h1:e<gQ
 ·rw[decide_eq_true h1]
  simp only[aV0,aVP,if_false,aVX]
  rw[bU,aVO,xH hN hs4,aVO,show decide (s<57896044618658097711785492504343953926634992332820282019728792003956564801911)=decide (s<gQ)from rfl]
  by_cases h2:s<gQ
  ·rw[decide_eq_true h2]
   simp only[aV0,aVP,if_false,aVX]
   rw[bU,aVO,aNc hN hp,aVO]
   cases okN p with
   |false=>exact hJt
   |true=>
    have hd:(gQ+115792089237316195423570985008687907853269984665640564039457584007913129639936-e)%115792089237316195423570985008687907853269984665640564039457584007913129639936=gQ-e:=by
     have:=aBU
     revert h1 this
     generalize gQ=Q
     intro h1 this
     omega
    have hd4:gQ-e<115792089237316195423570985008687907853269984665640564039457584007913129639936:=aWC (Nat.sub_le _ _) aBU
    have hch:=aMp hN (4^s%gP*(p^(gQ-e)%gP)%gP) p hm hb
    have hcl:=aMO N (4^s%gP*(p^(gQ-e)%gP)%gP) p m
    unfold j7
    simp only[aV0,aVP,if_false,aVX]
    rw[aDe,aVO,bU,aVO,aGF hN (show gQ<_ from aBU) he4,aVO,hd]
    simp only[bU,aVO]
    rw[aPr hN hs4,aVO,aGB hN hp hd4,aVO,aNE hN (aGy _) (aGy _),aVO,bU,aVO,dG hm,aVO,hch,aVO,bU,aVO,aA0 he4 (aW7 hcl aBU)]
  rw[decide_eq_false h2]
  exact hJt
 rw[decide_eq_false h1]
 exact hJt
end
theorem aTg {N:Nat}(hN:70000≤N)(l:List (List Int))(hn:l.length≤1000)(ht:l.flatten.length≤50000000):uL N l=some l.flatten:=by
 have:=aDJ (f:=mU N l) l hn ht (fun m j acc hj hB=>by
  rw[mU,dT hj,if_pos rfl,cL l hj,aVO,iZ (by omega)]
  simp only[aVO,i1 (show j≤100000 by omega)]) (fun m j acc hj=>by rw[mU,dF (by omega)];rfl) N hN
 unfold uL
 rw[this];rfl
def wG (m n:Int):Bool:=decide (1≤n)&&decide (n≤15)&&decide (1≤m)&&decide (m≤n)
theorem aPh (N:Nat)(m n:Int):tK N m n=some (wG m n):=by
 unfold tK wG kD
 cases decide (1≤n)<;>cases decide (n≤15)<;>cases decide (1≤m)<;>rfl
def eX (x:Int)(r:List Int):aX×List Int×Int:=
 if x<1∨17<x then(⟨0,[],0,0⟩,[],80)
 else if x=1 then
  match r with
  | []=>(⟨0,[],0,0⟩,[],1)
  |n::r'=>if(r'.length:Int)<n then(⟨0,[],0,0⟩,[],1)else(⟨1,r'.take n.toNat,0,0⟩,r'.drop n.toNat,0)
 else if x=11 then
  match r with
  |m::n::r'=>if wG m n=true then(⟨11,[],m,n⟩,r',0)else(⟨0,[],0,0⟩,[],5)
  |_=>(⟨0,[],0,0⟩,[],1)
 else(⟨x,[],0,0⟩,r,0)
theorem aEG {α:Type}(x:α)(l:List α):bY (x::l) 0=some x:=rfl
theorem aSY {α:Type}(x y:α)(l:List α):bY (x::y::l) 1=some y:=rfl
theorem aTK {α:Type}(x:α)(l:List α):sub (x::l) 1 (((x::l).length:Nat):Int)=some l:=by
 unfold sub
 rw[if_pos ⟨by omega,by simp;omega,by omega⟩,aVT,aVW (aWb _)];rfl
theorem aTf {α:Type}(x y:α)(l:List α):sub (x::y::l) 2 (((x::y::l).length:Nat):Int)=some l:=by
 unfold sub
 rw[if_pos ⟨by omega,by simp;omega,by omega⟩,aVT,aVW (aWb _)];rfl
theorem aRC {N:Nat}(hN:70000≤N){x:Int}{r:List Int}(hb:Byt (x::r))(hl:r.length≤100000):
  zO N (x::r)=some ((eX x r).1.Code,(eX x r).1.Data,(eX x r).1.M,(eX x r).1.N,(eX x r).2.1,(eX x r).2.2):=by
 have hx:=hb x (by simp)
 have wx:aVQ.wrap x=x:=cR (by omega) (by omega)
 have hk:w8 N x=some (decide (1≤x)&&decide (x≤17)):=by
  unfold w8 rR
  cases decide (1≤x)<;>rfl
 unfold zO eX
 simp only[aEG,aVO,wx,hk,aTK]
 by_cases h0:x<1∨17<x
 ·rw[if_pos h0]
  have:(decide (1≤x)&&decide (x≤17))=false:=by
   rcases h0 with h|h
   ·rw[decide_eq_false (by omega)];rfl
   rw[decide_eq_false (show¬x≤17 by omega),Bool.and_false]
  rw[this];rfl
 rw[if_neg h0,show(decide (1≤x)&&decide (x≤17))=true by rw[decide_eq_true (by omega),decide_eq_true (by omega)];rfl]
 simp only[aV0,aVP,if_false]
 by_cases h1:x=1
 ·subst h1
  rw[if_pos rfl,show((1:Int) == 1)=true from rfl,if_pos rfl]
  match r,hb,hl with
  | [],_,_=>rfl
  |n::r',hb,hl=>
   have hn:=hb n (by simp)
   have wn:aVQ.wrap n=n:=cR (by omega) (by omega)
   rw[show((((n::r').length:Nat):Int) == 0)=false by simp;omega]
   simp only[aVP,if_false,aEG,aVO,wn]
   have hl':r'.length+1≤100000:=by simpa using hl
   rw[show(((n::r').length:Nat):Int)-1=((r'.length:Nat):Int) by simp,cR (a:=((r'.length:Nat):Int)) (by omega) (by omega)]
   by_cases h2:(r'.length:Int)<n
   ·rw[decide_eq_true h2,if_pos h2];rfl
   rw[decide_eq_false h2,if_neg h2]
   have e1:sub (n::r') 1 (aVQ.wrap (1+n))=some (r'.take n.toNat):=by
    rw[cR (by omega) (by omega)]
    unfold sub
    rw[if_pos ⟨by omega,by omega,by simp;omega⟩,show(1+n).toNat=n.toNat+1 by omega];rfl
   have e2:sub (n::r') (aVQ.wrap (1+n)) (((n::r').length:Nat):Int)=some (r'.drop n.toNat):=by
    rw[cR (by omega) (by omega)]
    unfold sub
    rw[if_pos ⟨by omega,by simp;omega,by omega⟩,show(1+n).toNat=n.toNat+1 by omega,aVT,aVW (aWb _)];rfl
   have e3:uL N [r'.take n.toNat]=some (r'.take n.toNat):=by
    rw[aTg hN _ (by simp) (by simp;omega)];simp
   simp only[tR,aVP,if_false,aEG,aVO,wn,e1,e2,e3,nJ]
   rfl
 rw[if_neg h1,show(x == 1)=false by simpa using h1]
 simp only[aVP,if_false]
 by_cases h2:x=11
 ·subst h2
  rw[if_pos rfl,show((11:Int) == 11)=true from rfl,if_pos rfl]
  match r,hb,hl with
  | [],_,_=>rfl
  | [m],_,_=>rfl
  |m::n::r',hb,hl=>
   have hm:=hb m (by simp)
   have hn:=hb n (by simp)
   have wm:aVQ.wrap m=m:=cR (by omega) (by omega)
   have wn:aVQ.wrap n=n:=cR (by omega) (by omega)
   rw[show decide ((((m::n::r').length:Nat):Int)<2)=false from decide_eq_false (by simp;omega)]
   simp only[aVP,if_false,aEG,aSY,aVO,wm,wn,aTf,aPh]
   cases hr:wG m n with
   |false=>rfl
   |true=>rfl
 rw[if_neg h2,show(x == 11)=false by simpa using h2]
 simp only[aVP,if_false,nJ,wx]
structure VOp (o:aX):Prop where
 data:Byt o.Data∧o.Data.length≤255
 multi:o.Code=11→1≤o.M∧o.M≤o.N∧o.N≤15
theorem aE8 {x:Int}{r:List Int}(hb:Byt (x::r))(he:(eX x r).2.2=0):VOp (eX x r).1∧Byt (eX x r).2.1∧(eX x r).2.1.length≤r.length∧ ∀t,eX x (r++t)=((eX x r).1,(eX x r).2.1++t,0):=by
 have hr:Byt r:=fun y hy=>hb y (by simp[hy])
 unfold eX at he⊢
 by_cases h0:x<1∨17<x
 ·rw[if_pos h0]at he;cases he
 simp only[if_neg h0]at he⊢
 by_cases h1:x=1
 ·subst h1
  simp only[if_true]at he⊢
  match r,hr,he with
  | [],_,he=>cases he
  |n::r',hr,he=>
   simp only at he⊢
   by_cases h2:(r'.length:Int)<n
   ·rw[if_pos h2]at he;cases he
   simp only[if_neg h2]at he⊢
   have hn:=hr n (by simp)
   have hr':Byt r':=fun y hy=>hr y (by simp[hy])
   refine⟨⟨⟨aE6 hr' _,by simp;omega⟩,fun h=>by simp at h⟩,aEF hr' _,by simp;omega,fun t=> ?_⟩
   simp only[aW2]
   rw[if_neg (by simp;omega),List.take_append_of_le_length (by omega),List.drop_append_of_le_length (by omega)]
 simp only[if_neg h1]at he⊢
 by_cases h2:x=11
 ·subst h2
  simp only[if_true]at he⊢
  match r,hr,he with
  | [],_,he=>cases he
  | [_],_,he=>cases he
  |m::n::r',hr,he=>
   simp only[aW2]at he⊢
   by_cases h3:wG m n=true
   ·simp only[if_pos h3]at he⊢
    refine⟨⟨⟨fun y hy=>by simp at hy,by simp⟩,fun _=> ?_⟩,fun y hy=>hr y (by simp[hy]),by simp;omega,fun t=>trivial⟩
    simp only[wG,aW0,decide_eq_true_eq]at h3
    exact⟨h3.1.2,h3.2,h3.1.1.2⟩
   rw[if_neg h3]at he;cases he
 simp only[if_neg h2]at he⊢
 exact⟨⟨⟨fun y hy=>by simp at hy,by simp⟩,fun h=>absurd h h2⟩,hr,aWb _,fun t=>trivial⟩
def j9 :Nat→List Int→List aX→LR (List aX) (List aX×Int)
 |0,_,acc=> .brk acc
 |_+1,[],acc=> .brk acc
 |k+1,x::r,acc=>if(eX x r).2.2=0 then j9 k (eX x r).2.1 (acc++[(eX x r).1])else .ret ([],(eX x r).2.2)
theorem aID {N:Nat}(hN:70000≤N): ∀(m:Nat)(b:List Int)(acc:List aX),b.length<m→Byt b→b.length≤100000→acc.length+b.length≤200000→lT N m b acc=some (j9 m b acc)
 |0,b,acc,hm,_,_,_=>by omega
 |m+1,[],acc,_,_,_,_=>rfl
 |m+1,x::r,acc,hm,hb,hl,ha=>by
  simp only[aWc]at hm hl ha
  rw[lT,show decide ((0:Int)<(((x::r).length:Nat):Int))=true from decide_eq_true (by rw[aWc];omega),if_pos rfl,aRC hN hb (by omega)]
  simp only[aVO,j9]
  by_cases he:(eX x r).2.2=0
  ·obtain⟨h1,h2,h3,_⟩:=aE8 hb he
   rw[if_pos he,he,show((0:Int) != 0)=false from rfl]
   have hlim:=jT
   simp only[aVP,if_false]
   rw[aBt (by simp;omega)]
   simp only[aVO]
   exact aID hN m _ _ (by omega) h2 (by omega) (by simp;omega)
  rw[if_neg he,show((eX x r).2.2 != 0)=true by simpa using he]
  rfl
theorem aB2 : ∀(k k':Nat)(b:List Int)(acc:List aX),Byt b→b.length<k→b.length<k'→j9 k b acc=j9 k' b acc
 |0,_,b,_,_,hk,_=>by omega
 |k+1,0,b,_,_,_,hk=>by omega
 |k+1,k'+1,[],acc,_,_,_=>rfl
 |k+1,k'+1,x::r,acc,hb,h1,h2=>by
  simp only[aWc]at h1 h2
  simp only[j9]
  by_cases he:(eX x r).2.2=0
  ·obtain⟨_,h4,h3,_⟩:=aE8 hb he
   rw[if_pos he,if_pos he]
   exact aB2 k k' _ _ h4 (by omega) (by omega)
  rw[if_neg he,if_neg he]
theorem aKe : ∀(k:Nat)(b:List Int)(acc l:List aX),Byt b→b.length<k→(∀o∈acc,VOp o)→j9 k b acc= .brk l→(∀o∈l,VOp o)∧l.length≤acc.length+b.length∧ ∀(t:List Int)(k':Nat),Byt t→b.length+t.length<k'→j9 k' (b++t) acc=j9 (t.length+1) t l
 |0,b,_,_,_,hk,_,_=>by omega
 |k+1,[],acc,l,_,_,hv,h=>by
  injection h with h
  subst h
  refine⟨hv,by simp,fun t k' ht hk=> ?_⟩
  rw[aVU]
  exact aB2 _ _ _ _ ht (by simpa using hk) (by omega)
 |k+1,x::r,acc,l,hb,hk,hv,h=>by
  simp only[aWc]at hk
  simp only[j9]at h
  by_cases he:(eX x r).2.2=0
  ·obtain⟨h1,h4,h3,h5⟩:=aE8 hb he
   rw[if_pos he]at h
   obtain⟨g1,g2,g3⟩:=aKe k _ _ l h4 (by omega) (fun o ho=>(aW6.1 ho).elim (hv o) (fun hh=>by simp only[aWX]at hh;exact hh▸h1)) h
   refine⟨g1,by simp at g2 ⊢; omega,fun t k' ht hk'=> ?_⟩
   obtain⟨k',rfl⟩: ∃q,k'=q+1:=⟨k'-1,by omega⟩
   simp only[aWc]at hk'
   rw[aW2,j9,h5 t]
   simp only[if_true]
   exact g3 t k' ht (by omega)
  rw[if_neg he]at h;cases h
def cN (b:List Int):List aX×Int:=if 520<b.length then([],4)else match j9 (b.length+1) b []with | .ret v=>v | .brk l=>(l,0)
theorem aP6 {N:Nat}(hN:70000≤N){b:List Int}(hb:Byt b):wB N b=some (cN b):=by
 unfold wB cN
 by_cases h:520<b.length
 ·rw[show decide ((520:Int)<((b.length:Nat):Int))=true from decide_eq_true (by omega),if_pos rfl,if_pos h]
 rw[show decide ((520:Int)<((b.length:Nat):Int))=false from decide_eq_false (by omega),if_neg h,aID hN N b [] (by omega) hb (by omega) (by simp;omega),aB2 N (b.length+1) b [] hb (by omega) (by omega)]
 cases j9 (b.length+1) b []<;>rfl
theorem aHT : ∀(k:Nat)(b:List Int)(acc:List aX)(v:List aX×Int),j9 k b acc= .ret v→v.1=[]∧v.2≠0
 |0,_,_,_,h=>by cases h
 |k+1,[],_,_,h=>by cases h
 |k+1,x::r,acc,v,h=>by
  simp only[j9]at h
  by_cases he:(eX x r).2.2=0
  ·rw[if_pos he]at h;exact aHT k _ _ v h
  rw[if_neg he]at h;injection h with h;subst h;exact⟨rfl,he⟩
theorem aD3 {b:List Int}(hb:Byt b)(h:(cN b).2=0):(∀o∈(cN b).1,VOp o)∧(cN b).1.length≤520∧b.length≤520∧j9 (b.length+1) b []= .brk (cN b).1:=by
 unfold cN at h⊢
 by_cases hl:520<b.length
 ·rw[if_pos hl]at h;cases h
 simp only[if_neg hl]at h⊢
 cases hp:j9 (b.length+1) b [] with
 |ret v=>rw[hp]at h;exact absurd h (aHT _ _ _ _ hp).2
 |brk l=>
  obtain⟨g1,g2,_⟩:=aKe _ b [] l hb (by omega) (by simp) hp
  exact⟨g1,by simp at g2;show l.length≤520;omega,by omega,rfl⟩
def aCa (v:Bool):List Int:=if v then [1]else []
theorem aHh (v:Bool):Byt (aCa v)∧(aCa v).length≤520:=by
 cases v
 ·exact⟨fun x hx=>by simp[aCa]at hx,by decide⟩
 exact⟨fun x hx=>by simp[aCa]at hx;omega,by decide⟩
theorem aJ6 (N:Nat): ∀(m k n:Nat)(acc:List Int),n<256^k→k<m→k≤10→acc.length+k≤1000→Byt acc→n<4294967296→ ∃r,fF N m (n:Int) acc=some r∧Byt r∧r.length≤acc.length+k
 |0,k,n,acc,_,hm,_,_,_,_=>by omega
 |m+1,k,n,acc,hn,hm,hk,ha,hb,h32=>by
  rw[fF]
  by_cases h:0<n
  ·match k,hn with
   |0,hn=>simp at hn;omega
   |k+1,hn=>
    rw[show decide ((0:Int)<(n:Int))=true from decide_eq_true (by omega),if_pos rfl,iZ (by simp;omega)]
    simp only[aVO]
    rw[show shr .u32 (n:Int) 8=some ((n/256:Nat):Int)from aAz n 8 h32,aVO]
    rw[aWf]at hn
    obtain⟨r,h1,h2,h3⟩:=aJ6 N m k (n/256) (acc++[aWd.wrap (n:Int)]) ((aWg (by omega)).2 hn) (by omega) (by omega) (by simp;omega) (hb.append (fun x hx=>by simp only[aWX]at hx;exact hx▸aFU _)) (by omega)
    exact⟨r,h1,h2,by simp at h3;omega⟩
  rw[show decide ((0:Int)<(n:Int))=false from decide_eq_false (by omega)]
  exact⟨acc,rfl,hb,by omega⟩
def aE7 (N:Nat)(n:Int):List Int:=(iP N n).getD []
section
variable {N:Nat}(hN:70000≤N)
include hN
theorem aJD {n:Nat}(h:n<4294967296):iP N (n:Int)=some (aE7 N n)∧Byt (aE7 N n)∧(aE7 N n).length≤520:=by
 obtain⟨r,h1,h2,h3⟩:=aJ6 N N 4 n [] (by simpa using h) (by omega) (by omega) (by simp) (fun x hx=>by simp at hx) h
 have:iP N (n:Int)=some r:=by simp only[iP,h1,aVO,yT]
 rw[show aE7 N n=r by simp[aE7,this]]
 exact⟨this,h2,by simp at h3;omega⟩
theorem aGu (v:Bool):lN N v=some (aCa v):=by
 obtain⟨m,hm⟩:=vW (fun q=>fF N q 1 []) hN
 obtain⟨m',hm'⟩:=vW (fun q=>fF N q 0 []) hN
 cases v with
 |false=>
  simp only[lN,aVP,if_false,iP,hm']
  rfl
 |true=>
  simp only[lN,if_true,iP,hm]
  rw[fF,show decide ((0:Int)<1)=true from rfl,if_pos rfl,iZ (by simp)]
  simp only[aVO]
  rw[show shr .u32 1 8=some 0 from by decide +kernel,aVO,fF]
  rfl
def aLT (N:Nat)(b:List Int):Int×Int:=(kW N b).getD (0,0)
theorem aTF (b:List Int):kW N b=some (aLT N b):=by
 have hloop:b.length≤4→ ∀(m j:Nat)(v:Int),b.length-j<m→j≤b.length→ ∃r,iC N b m v (j:Int)=some r:=by
  intro hl m
  induction m with
  |zero=>intro j v hm _;omega
  |succ m ih=>
   intro j v hm hj
   rw[iC]
   by_cases h:j<b.length
   ·obtain⟨y,hy⟩: ∃y,shl .u32 (aV8.wrap b[j]) (aVQ.wrap (8*(j:Int)))=some y:=by
     rw[cR (by omega) (by omega)];unfold shl;rw[if_neg (by omega)];exact⟨_,rfl⟩
    rw[dT h,if_pos rfl,cL b h]
    simp only[aVO,hy,i1 (show j≤100000 by omega)]
    exact ih (j+1) _ (by omega) (by omega)
   rw[dF h];exact⟨v,rfl⟩
 have hJ:b.length≤4→ ∀t,∃r,gF N b t=some r:=by
  intro hl t
  cases t with
  |true=>exact⟨_,rfl⟩
  |false=>
   obtain⟨r,hr⟩:=hloop hl N 0 0 (by omega) (by omega)
   rw[show((0:Nat):Int)=0 from rfl]at hr
   simp only[gF,aVP,if_false,hr,aVO,uR]
   exact⟨_,rfl⟩
 have: ∃r,kW N b=some r:=by
  unfold kW
  by_cases h:4<b.length
  ·rw[show decide ((4:Int)<((b.length:Nat):Int))=true from decide_eq_true (by omega)]
   exact⟨_,rfl⟩
  rw[show decide ((4:Int)<((b.length:Nat):Int))=false from decide_eq_false (by omega)]
  simp only[aVP,if_false]
  by_cases h2:0<b.length
  ·rw[show decide ((0:Int)<((b.length:Nat):Int))=true from decide_eq_true (by omega),if_pos rfl,cR (by omega) (by omega),show((b.length:Nat):Int)-1=((b.length-1:Nat):Int) by omega,cL b (by omega)]
   exact hJ (by omega) _
  rw[show decide ((0:Int)<((b.length:Nat):Int))=false from decide_eq_false (by omega)]
  show∃r,gF N b false=some r
  exact hJ (by omega) _
 obtain⟨r,hr⟩:=this
 simp[aLT,hr]
def aNg (N:Nat)(gG:List Int)(now:Int):Int:=if(aLT N gG).2 != 0 then(aLT N gG).2 else if decide (now<aVQ.wrap (aLT N gG).1)then 85 else 0
theorem aIr (gG:List Int)(now:Int):mS N gG now=some (aNg N gG now):=by
 simp only[mS,aTF hN,aVO,aNg]
 split
 ·rfl
 split<;>rfl
def r4 (b:List Int):Bool:=b.any (· != 0)
theorem aBB {b:List Int}(hl:b.length≤60000):kR N b=some (r4 b):=by
 have:=nF (f:=g8 N b) (xs:=b) (p:=fun x=> !(x != 0)) (r:=true) (fun m j hj=>by
   rw[g8,dT hj,if_pos rfl,cL b hj]
   simp only[aVO,i1 (show j≤100000 by omega)]
   cases b[j] != 0<;>rfl) (fun m j hj=>by rw[g8,dF (by omega)];rfl) N 0 (by omega) (by omega)
 rw[show((0:Nat):Int)=0 from rfl,aVY]at this
 unfold kR r4
 rw[this,List.any_eq_not_all_not]
 cases b.all fun x=> !(x != 0)<;>rfl
end
structure WS (st:List (List Int)):Prop where
 len:st.length≤64
 it: ∀x∈st,Byt x∧x.length≤520
theorem WS.push {st:List (List Int)}(h:WS st)(hl:st.length<64){x:List Int}(hx:Byt x∧x.length≤520):WS (st++[x]):=
 ⟨by simp;omega,fun y hy=>(aW6.1 hy).elim (h.it y) (fun e=>by simp only[aWX]at e;exact e▸hx)⟩
theorem WS.take {st:List (List Int)}(h:WS st)(k:Nat):WS (st.take k):=⟨by have:=h.len;simp;omega,fun y hy=>h.it y (aWr hy)⟩
theorem WS.set {st:List (List Int)}(h:WS st)(i:Nat){x:List Int}(hx:Byt x∧x.length≤520):WS (st.set i x):=⟨by rw[aV5];exact h.len,fun y hy=>(aWY hy).elim (h.it y) (fun e=>e▸hx)⟩
def fW (st:List (List Int))(k:Nat):List Int:=st.getD (st.length-k) []
theorem t5 {st:List (List Int)}(h:WS st){k:Nat}(h1:1≤k)(hk:k≤st.length):Byt (fW st k)∧(fW st k).length≤520∧bY st (aVQ.wrap (((st.length:Nat):Int)-(k:Int)))=some (fW st k):=by
 have hl:=h.len
 have hlt:st.length-k<st.length:=by omega
 have e:fW st k=st[st.length-k]:=by simp[fW,hlt]
 rw[cR (by omega) (by omega),show((st.length:Nat):Int)-(k:Int)=((st.length-k:Nat):Int) by omega,cL st hlt,e]
 exact⟨(h.it _ (aV1 hlt)).1,(h.it _ (aV1 hlt)).2,rfl⟩
theorem aJb {N:Nat}{m:List Int}{h a:Int}{st:List (List Int)}{br:List aM}{c:Int}(hs:st.length≤64){k:Nat}(hk:k≤st.length):eQ N m h a st br c (k:Int)=some (m,h,a,st.take (st.length-k),br,c):=by
 unfold eQ
 rw[cR (by omega) (by omega),show((st.length:Nat):Int)-(k:Int)=((st.length-k:Nat):Int) by omega]
 have:sub st 0 ((st.length-k:Nat):Int)=some (st.take (st.length-k)):=by
  unfold sub;rw[if_pos ⟨by omega,by omega,by omega⟩];simp
 rw[this];rfl
theorem aBh {l m:List (List Int)}(h:l.length+m.length≤1000000):eE 24 l m=some (l++m):=by
 have:=jT
 exact aBt (by omega)
theorem aEK {N:Nat}{m:List Int}{h a:Int}{st:List (List Int)}{br:List aM}{c:Int}(hs:st.length≤64){k:Nat}(hk:k≤st.length)(x:List Int):dP N m h a st br c (k:Int) x=some (m,h,a,st.take (st.length-k)++[x],br,c):=by
 unfold dP
 rw[aJb hs hk,aVO,aBh (by simp;omega)];rfl
def aBX (st:List (List Int))(x:List Int):Int×List (List Int):=if 64≤st.length then(4,st)else(0,st++[x])
theorem aJy {N:Nat}{m:List Int}{h a:Int}{st:List (List Int)}{br:List aM}{c:Int}(x:List Int):iY N m h a st br c x=some ((aBX st x).1,m,h,a,(aBX st x).2,br,c):=by
 unfold iY aBX
 by_cases hl:64≤st.length
 ·rw[show decide ((64:Int)≤((st.length:Nat):Int))=true from decide_eq_true (by omega),if_pos rfl,if_pos hl]
 rw[show decide ((64:Int)≤((st.length:Nat):Int))=false from decide_eq_false (by omega),if_neg hl,aBh (by simp;omega)];rfl
def uW (N:Nat)(m key sig:List Int):Int:=(dM N m 0 0 [] [] 0 key sig).getD 0
theorem aTm {N:Nat}(hN:70000≤N){m:List Int}(hm:m.length=32)(hb:Byt m)(h a:Int)(st:List (List Int))(br:List aM)(c:Int)(key sig:List Int):dM N m h a st br c key sig=some (uW N m key sig):=by
 obtain⟨e,he⟩:=aOk hN hm hb 0 0 [] [] 0 key sig
 have h1:dM N m h a st br c key sig=dM N m 0 0 [] [] 0 key sig:=rfl
 rw[h1,show uW N m key sig=e by simp[uW,he],he]
def rA (N:Nat)(m:List Int):List (List Int)→List (List Int)→Int→Int×Int
 |k::ks,s::ss,c=>if uW N m k s != 0 then(uW N m k s,0)else rA N m ks ss (if decide (0<(s.length:Int))then c+1 else c)
 |_,_,c=>(0,c)
def vG (N:Nat)(m:List Int)(st:List (List Int))(fO:Int)(n:Nat):Int×List (List Int):=
 if(rA N m (st.drop (st.length-n)) ((st.take (st.length-n)).drop (st.length-2*n)) 0).1=0 then(0,st.take (st.length-2*n)++[aCa (decide (fO≤(rA N m (st.drop (st.length-n)) ((st.take (st.length-n)).drop (st.length-2*n)) 0).2))])
 else((rA N m (st.drop (st.length-n)) ((st.take (st.length-n)).drop (st.length-2*n)) 0).1,st)
section
variable {N:Nat}(hN:70000≤N){m:List Int}(hm:m.length=32)(hb:Byt m)
include hN hm hb
theorem aHm (h a:Int)(st:List (List Int))(br:List aM)(c fO:Int)(n:Nat)(hn:n≤100)(ks ss:List (List Int))(hk:ks.length=n)(hs:ss.length=n): ∀(f j:Nat)(cnt:Int),n-j<f→j≤n→0≤cnt→cnt≤j→
  dQ N m h a st br c fO (n:Int) ks ss f cnt (j:Int)=some (if(rA N m (ks.drop j) (ss.drop j) cnt).1=0 then .brk (rA N m (ks.drop j) (ss.drop j) cnt).2 else .ret ((rA N m (ks.drop j) (ss.drop j) cnt).1,m,h,a,st,br,c))
 |0,j,cnt,hf,_,_,_=>by omega
 |f+1,j,cnt,hf,hj,h0,h1=>by
  rw[dQ]
  by_cases hjn:j<n
  ·rw[dT hjn,if_pos rfl,cL ks (by omega),cL ss (by omega)]
   simp only[aVO,aTm hN hm hb]
   rw[aWh (show j<ks.length by omega),aWh (show j<ss.length by omega),rA]
   cases hv:uW N m ks[j] ss[j] != 0 with
   |true=>
    have hv':uW N m ks[j] ss[j]≠0:=by simpa using hv
    simp only[if_true,if_neg hv']
   |false=>
    simp only[aVP,if_false,jO,i1 (show j≤100000 by omega)]
    cases hl:decide (0<((ss[j].length:Nat):Int)) with
    |true=>
     simp only[if_true]
     rw[cR (a:=cnt+1) (by omega) (by omega)]
     exact aHm h a st br c fO n hn ks ss hk hs f (j+1) _ (by omega) (by omega) (by omega) (by omega)
    |false=>
     simp only[aVP,if_false]
     exact aHm h a st br c fO n hn ks ss hk hs f (j+1) _ (by omega) (by omega) (by omega) (by omega)
  rw[dF hjn,aWl (by omega)]
  rfl
theorem aKb {h a:Int}{st:List (List Int)}(hs:WS st){br:List aM}{c fO:Int}{n:Nat}(h1:1≤n)(hn:2*n≤st.length):jA N m h a st br c fO (n:Int)=some ((vG N m st fO n).1,m,h,a,(vG N m st fO n).2,br,c):=by
 have hl:=hs.len
 have e1:vM st (aVQ.wrap (((st.length:Nat):Int)-(n:Int))) ((st.length:Nat):Int)=some (st.drop (st.length-n)):=by
  rw[cR (by omega) (by omega),show((st.length:Nat):Int)-(n:Int)=((st.length-n:Nat):Int) by omega]
  unfold vM
  rw[if_pos ⟨by omega,by omega,by omega⟩,aVT,aVT,aVW (aWb _)]
 have e2:vM st (aVQ.wrap (((st.length:Nat):Int)-(aVQ.wrap (2*(n:Int))))) (aVQ.wrap (((st.length:Nat):Int)-(n:Int)))=some ((st.take (st.length-n)).drop (st.length-2*n)):=by
  rw[cR (a:=2*(n:Int)) (by omega) (by omega),cR (a:=((st.length:Nat):Int)-(n:Int)) (by omega) (by omega),cR (by omega) (by omega),show((st.length:Nat):Int)-(n:Int)=((st.length-n:Nat):Int) by omega,show((st.length:Nat):Int)-2*(n:Int)=((st.length-2*n:Nat):Int) by omega]
  unfold vM
  rw[if_pos ⟨by omega,by omega,by omega⟩,aVT,aVT]
 have lp:=aHm hN hm hb h a st br c fO n (by omega) (st.drop (st.length-n)) ((st.take (st.length-n)).drop (st.length-2*n)) (by simp;omega) (by simp;omega) N 0 0 (by omega) (by omega) (by omega) (by omega)
 rw[aVY,aVY,show((0:Nat):Int)=0 from rfl]at lp
 simp only[jA,e1,e2,lp,aVO]
 unfold vG
 by_cases hz:(rA N m (st.drop (st.length-n)) ((st.take (st.length-n)).drop (st.length-2*n)) 0).1=0
 ·rw[if_pos hz,if_pos hz]
  simp only[lW,aGu hN,aVO]
  rw[cR (a:=2*(n:Int)) (by omega) (by omega),show 2*(n:Int)=((2*n:Nat):Int) by omega,aEK hl hn]
  rfl
 rw[if_neg hz,if_neg hz]
end
def yZ (b:List Int):Nat×Nat×Int:=if b.length≠64 then(0,0,8)else if lI (b.take 32)<gQ∧lI (b.drop 32)<gQ then(lI (b.take 32),lI (b.drop 32),0)else(0,0,5)
def aJG (N:Nat)(m key sig:List Int):Int:=
 if key.length≠32 then 60 else if okN (lI key)=false then 60 else if sig.length=0 then 0 else
 if(yZ sig).2.2≠0 then 61 else if aHu N (lI key) m (yZ sig).1 (yZ sig).2.1=true then 0 else 61
theorem aMW (b:List Int):(yZ b).1<115792089237316195423570985008687907853269984665640564039457584007913129639936∧(yZ b).2.1<115792089237316195423570985008687907853269984665640564039457584007913129639936:=by
 unfold yZ
 split
 ·exact⟨by decide +kernel,by decide +kernel⟩
 split
 ·exact⟨sP _,sP _⟩
 exact⟨by decide +kernel,by decide +kernel⟩
theorem aJa :aVR 4 (0:Int)=U 0:=by decide +kernel
section
variable {N:Nat}(hN:70000≤N)
include hN
theorem aEd {h:List Int}(hl:h.length=32)(hb:Byt h):fU N h=some (U (lI h)):=by
 have:=aGU hN (lI h)
 rwa[aDQ hl hb]at this
theorem aPg {b:List Int}(hb:Byt b):sR N b=some (U (yZ b).1,U (yZ b).2.1,(yZ b).2.2):=by
 unfold sR yZ
 by_cases hl:b.length=64
 ·rw[show(((b.length:Nat):Int) != 64)=false by rw[hl];rfl,if_neg (show¬b.length≠64 from fun h=>h hl)]
  have e1:sub b 0 32=some (b.take 32):=by unfold sub;rw[if_pos ⟨by omega,by omega,by omega⟩];simp
  have e2:sub b 32 (b.length:Int)=some (b.drop 32):=by
   unfold sub;rw[if_pos ⟨by omega,by omega,by omega⟩,aVT,aVW (aWb _)];rfl
  have l1:(b.take 32).length=32:=by simp;omega
  have l2:(b.drop 32).length=32:=by simp;omega
  have a1:sY 32 (b.take 32)=some (b.take 32):=by unfold sY;rw[if_pos (by omega),aVW (by omega)]
  have a2:sY 32 (b.drop 32)=some (b.drop 32):=by unfold sY;rw[if_pos (by omega),aVW (by omega)]
  have b1:Byt (b.take 32):=fun x hx=>hb x (aWr hx)
  have b2:Byt (b.drop 32):=fun x hx=>hb x (aWM hx)
  have n1:=sP (b.take 32)
  have n2:=sP (b.drop 32)
  have f1:=aEd hN l1 b1
  have f2:=aEd hN l2 b2
  generalize lI (b.take 32)=e at *
  generalize lI (b.drop 32)=s at *
  rw[if_neg (show¬(false=true) by decide),e1,aVO,a1,aVO,f1,aVO,e2,aVO,a2,aVO,f2,aVO,bU,aVO,bU,aVO,xH hN n1,aVO,xH hN n2,aVO,
   show decide (e<57896044618658097711785492504343953926634992332820282019728792003956564801911)=decide (e<gQ)from rfl,show decide (s<57896044618658097711785492504343953926634992332820282019728792003956564801911)=decide (s<gQ)from rfl]
  by_cases h1:e<gQ
  ·by_cases h2:s<gQ
   ·rw[decide_eq_true h1,decide_eq_true h2,if_pos (show e<gQ∧s<gQ from⟨h1,h2⟩)];rfl
   rw[decide_eq_true h1,decide_eq_false h2,if_neg (show¬(e<gQ∧s<gQ)from fun h=>h2 h.2),←aJa];rfl
  rw[decide_eq_false h1,if_neg (show¬(e<gQ∧s<gQ)from fun h=>h1 h.1),←aJa];rfl
 rw[show(((b.length:Nat):Int) != 64)=true by simp;omega,if_pos rfl,if_pos (show b.length≠64 from hl),←aJa]
theorem aSS {m:List Int}(hm:m.length=32)(hmb:Byt m){key sig:List Int}(hk:Byt key)(hs:Byt sig):uW N m key sig=aJG N m key sig:=by
 have key0:dM N m 0 0 [] [] 0 key sig=some (aJG N m key sig):=by
  have hJ: ∀t,gW N m 0 0 [] [] 0 t=some (if t=true then 61 else 0):=fun t=>by cases t<;>rfl
  unfold dM aJG
  by_cases hl:key.length=32
  ·have a1:sY 32 key=some key:=by unfold sY;rw[if_pos (by omega),aVW (by omega)]
   have hd:=aMW sig
   have f1:=aEd hN hl hk
   have n1:=sP key
   have hdec:=aPg hN hs
   rw[show(((key.length:Nat):Int) != 32)=false by rw[hl];rfl,if_neg (show¬key.length≠32 from fun h=>h hl)]
   generalize yZ sig=D at *
   obtain⟨e,s,er⟩:=D
   generalize lI key=p at *
   have hval:=aNc hN n1
   have hver:=aQI hN n1 hd.1 hd.2 hm hmb
   dsimp only at hd hdec hver
   rw[if_neg (show¬(false=true) by decide),a1,aVO,f1,aVO,bU,aVO,hval,aVO]
   cases hv:okN p with
   |false=>rfl
   |true=>
    simp only[aV0,aVP,if_false,Bool.true_eq_false]
    by_cases h0:sig.length=0
    ·rw[if_pos h0,show(((sig.length:Nat):Int) == 0)=true by rw[h0];rfl]
     rfl
    rw[if_neg h0,show(((sig.length:Nat):Int) == 0)=false by simp;intro h;exact h0 (by rw[h];rfl),hdec]
    simp only[aVP,if_false,aVO]
    by_cases h1:er=0
    ·rw[if_neg (show¬er≠0 from fun h=>h h1),show(er != 0)=false by simpa using h1]
     simp only[aVP,if_false,dG hm,aVO,hver,hJ]
     cases aHu N p m e s<;>rfl
    rw[if_pos h1,show(er != 0)=true by simpa using h1]
    rfl
  rw[show(((key.length:Nat):Int) != 32)=true by simp;omega,if_pos rfl,if_pos (show key.length≠32 from hl)]
 unfold uW
 rw[key0]
 rfl
end
section
variable {N:Nat}(hN:70000≤N)
include hN
theorem aEH {a:Nat}(ha:a<115792089237316195423570985008687907853269984665640564039457584007913129639936):pS N (U a)=some (decide (a<gQ)):=by
 unfold pS
 rw[bU,aVO,aGA N hN,aVO,aLq,aAk hN ha (show(57896044618658097711785492504343953926634992332820282019728792003956564801911:Nat)<115792089237316195423570985008687907853269984665640564039457584007913129639936 by decide),aVO,aKM]
theorem aOC {p:Nat}(hp:p<115792089237316195423570985008687907853269984665640564039457584007913129639936):yD N (U p)=some (aLW p):=by
 have he:=aLd hN hp aBU
 unfold yD aLW
 rw[bU,aVO,aGv hp,aVO]
 by_cases h0:p=0
 ·rw[decide_eq_true h0,aV0,aW9,if_neg (show¬(false=true) by decide)];rfl
 rw[decide_eq_false h0,if_pos (show(!false)=true from rfl),aGJ N hN,aVO,aLq,aAk hN hp (show(115792089237316195423570985008687907853269984665640564039457584007913129603823:Nat)<115792089237316195423570985008687907853269984665640564039457584007913129639936 by decide),aVO,aKM]
 by_cases h1:p<gP
 ·rw[if_pos (decide_eq_true (show p<115792089237316195423570985008687907853269984665640564039457584007913129603823 from h1)),aGA N hN,aVO,show uA N (U p) (U 57896044618658097711785492504343953926634992332820282019728792003956564801911)=_ from he,aVO,show aDP N=some (U 1)from rfl,aVO,bU,aVO,bU,aVO,aA0 (aGy _) (by decide +kernel),decide_eq_true h1,aWi,aVX,aVX]
  rfl
 rw[if_neg (show¬decide (p<115792089237316195423570985008687907853269984665640564039457584007913129603823)=true from fun h=>h1 (of_decide_eq_true h)),decide_eq_false h1,aW9,Bool.and_false]
 rfl
theorem aLz {p:Nat}(hp:p<115792089237316195423570985008687907853269984665640564039457584007913129639936):u9 N (U p)=some (okN p):=by
 unfold u9 okN
 rw[bU,aVO,show gV N 1=some (U 1)from rfl,aVO,bU,aVO,aA0 hp (by decide +kernel)]
 by_cases h1:p=1
 ·rw[decide_eq_true h1,aV0,aW9,if_neg (show¬(false=true) by decide)];rfl
 rw[decide_eq_false h1,if_pos (show(!false)=true from rfl),aOC hN hp,aVO,aWi,aVX]
 rfl
theorem aTu {a b:Nat}(ha:a<115792089237316195423570985008687907853269984665640564039457584007913129639936)(hb:b<115792089237316195423570985008687907853269984665640564039457584007913129639936):aCd N (U a) (U b)=some (U (a*b%gP)):=by
 unfold aCd
 rw[bU,aVO,bU,aVO,aGJ N hN,aVO,aFR hN (show(115792089237316195423570985008687907853269984665640564039457584007913129603823:Nat)<115792089237316195423570985008687907853269984665640564039457584007913129639936 by decide) (by decide) ha hb,aVO,bU,aVO]
theorem aOz {p e s:Nat}(hp:p<115792089237316195423570985008687907853269984665640564039457584007913129639936)(he4:e<115792089237316195423570985008687907853269984665640564039457584007913129639936)(hs4:s<115792089237316195423570985008687907853269984665640564039457584007913129639936){m:List Int}(hm:m.length=32)(hb:Byt m):
  xP N (U p) m (U e) (U s)=some (aHu N p m e s):=by
 have hJt:mM N (U p) m (U e) (U s) true=some false:=rfl
 unfold xP aHu
 rw[bU,aVO,aLz hN hp,aVO]
 cases okN p with
 |false=>
  rw[if_pos (show(!false)=true from rfl),hJt]
  simp
 |true=>
  rw[if_neg (show¬(!true)=true by decide),bU,aVO,aEH hN he4,aVO]
  by_cases h1:e<gQ
  ·rw[decide_eq_true h1,if_neg (show¬(!true)=true by decide),bU,aVO,aEH hN hs4,aVO]
   by_cases h2:s<gQ
   ·have hd:(gQ+115792089237316195423570985008687907853269984665640564039457584007913129639936-e)%115792089237316195423570985008687907853269984665640564039457584007913129639936=gQ-e:=by
     have:=aBU
     revert h1 this
     generalize gQ=Q
     intro h1 this
     omega
    have hd4:gQ-e<115792089237316195423570985008687907853269984665640564039457584007913129639936:=aWC (Nat.sub_le _ _) aBU
    have hch:=aLf hN (4^s%gP*(p^(gQ-e)%gP)%gP) p hm hb
    have hcl:=aMO N (4^s%gP*(p^(gQ-e)%gP)%gP) p m
    rw[decide_eq_true h2]
    unfold mM
    rw[if_neg (show¬(!true)=true by decide),aGA N hN,aVO,bU,aVO,aHU hN (show gQ<_ from aBU) he4,aVO,hd]
    dsimp only
    rw[bU,aVO,bU,aVO,aQa hN hs4,aVO,bU,aVO,aLd hN hp hd4,aVO,aTu hN (aGy _) (aGy _),aVO,bU,aVO,dG hm,aVO,hch,aVO,bU,aVO,aA0 he4 (aW7 hcl aBU)]
    rfl
   rw[decide_eq_false h2]
   exact hJt
  rw[decide_eq_false h1]
  exact hJt
theorem aDD {h:List Int}(hl:h.length=32)(hb:Byt h):i7 N h=some (U (lI h)):=by
 have:=aFW hN (lI h)
 rwa[aDQ hl hb]at this
theorem aPb {b:List Int}(hb:Byt b):wM N b=some (U (yZ b).1,U (yZ b).2.1,(yZ b).2.2):=by
 unfold wM yZ
 by_cases hl:b.length=64
 ·rw[show(((b.length:Nat):Int) != 64)=false by rw[hl];rfl,if_neg (show¬b.length≠64 from fun h=>h hl)]
  have e1:sub b 0 32=some (b.take 32):=by unfold sub;rw[if_pos ⟨by omega,by omega,by omega⟩];simp
  have e2:sub b 32 (b.length:Int)=some (b.drop 32):=by
   unfold sub;rw[if_pos ⟨by omega,by omega,by omega⟩,aVT,aVW (aWb _)];rfl
  have l1:(b.take 32).length=32:=by simp;omega
  have l2:(b.drop 32).length=32:=by simp;omega
  have c1:nE (aVR 32 0) (b.take 32)=b.take 32:=aJB (by rw[aWn,l1])
  have c2:nE (aVR 32 0) (b.drop 32)=b.drop 32:=aJB (by rw[aWn,l2])
  have b1:Byt (b.take 32):=fun x hx=>hb x (aWr hx)
  have b2:Byt (b.drop 32):=fun x hx=>hb x (aWM hx)
  have n1:=sP (b.take 32)
  have n2:=sP (b.drop 32)
  have f1:=aDD hN l1 b1
  have f2:=aDD hN l2 b2
  have a1:=dG l1
  have a2:=dG l2
  generalize lI (b.take 32)=e at *
  generalize lI (b.drop 32)=s at *
  rw[if_neg (show¬(false=true) by decide),e1,aVO,e2,aVO,c1,c2,a1,aVO,f1,aVO,a2,aVO,f2,aVO,bU,aVO,bU,aVO,aEH hN n1,aVO,aEH hN n2,aVO]
  by_cases h1:e<gQ
  ·by_cases h2:s<gQ
   ·rw[decide_eq_true h1,decide_eq_true h2,if_pos (show e<gQ∧s<gQ from⟨h1,h2⟩)];rfl
   rw[decide_eq_true h1,decide_eq_false h2,if_neg (show¬(e<gQ∧s<gQ)from fun h=>h2 h.2),←aJa];rfl
  rw[decide_eq_false h1,if_neg (show¬(e<gQ∧s<gQ)from fun h=>h1 h.1),←aJa];rfl
 rw[show(((b.length:Nat):Int) != 64)=true by simp;omega,if_pos rfl,if_pos (show b.length≠64 from hl),←aJa]
theorem aO9 {m:List Int}(hm:m.length=32)(hmb:Byt m){key sig:List Int}(hk:Byt key)(hs:Byt sig):qE N sig key m=some (decide (0<sig.length)&&decide (aJG N m key sig=0),aJG N m key sig):=by
 unfold qE aJG
 by_cases hl:key.length=32
 ·have c1:nE (aVR 32 0) key=key:=aJB (by rw[aWn,hl])
  have hd:=aMW sig
  have f1:=aDD hN hl hk
  have n1:=sP key
  have hdec:=aPb hN hs
  have a1:=dG hl
  rw[show(((key.length:Nat):Int) != 32)=false by rw[hl];rfl,if_neg (show¬key.length≠32 from fun h=>h hl)]
  generalize yZ sig=D at *
  obtain⟨e,s,er⟩:=D
  generalize lI key=p at *
  have hval:=aLz hN n1
  have hver:=aOz hN n1 hd.1 hd.2 hm hmb
  dsimp only at hd hdec hver
  rw[if_neg (show¬(false=true) by decide),c1,a1,aVO,f1,aVO,bU,aVO,hval,aVO]
  cases hv:okN p with
  |false=>simp
  |true=>
   rw[if_neg (show¬(!true)=true by decide),if_neg (show¬(true=false) by decide)]
   by_cases h0:sig.length=0
   ·rw[if_pos h0,show(((sig.length:Nat):Int) == 0)=true by rw[h0];rfl]
    simp[h0]
   rw[if_neg h0,show(((sig.length:Nat):Int) == 0)=false by simp;intro h;exact h0 (by rw[h];rfl),hdec,if_neg (show¬(false=true) by decide),aVO]
   dsimp only
   by_cases h1:er=0
   ·rw[if_neg (show¬er≠0 from fun h=>h h1),show(er != 0)=false by simpa using h1,if_neg (show¬(false=true) by decide),dG hm,aVO,hver,aVO]
    rw[decide_eq_true (show 0<sig.length by omega)]
    cases aHu N p m e s<;>rfl
   rw[if_pos h1,show(er != 0)=true by simpa using h1,if_pos rfl]
   simp[rY]
 rw[show(((key.length:Nat):Int) != 32)=true by simp;omega,if_pos rfl,if_pos (show key.length≠32 from hl)]
 simp
end
def eqE (a b:List Int):Bool:=(rV a).toList == (rV b).toList
def xR (N:Nat)(m:List Int)(h a:Int)(o:aX)(st:List (List Int)):Int×List (List Int):=
 if o.Code=1 then aBX st o.Data
 else if o.Code=2 then aBX st (fW st 1)
 else if o.Code=3 then(0,st.take (st.length-1))
 else if o.Code=4 then(0,(st.set (st.length-1) (fW st 2)).set (st.length-2) (fW st 1))
 else if o.Code=5 then(0,st.take (st.length-2)++[aCa (eqE (fW st 1) (fW st 2))])
 else if o.Code=6 then(0,st.take (st.length-1)++[aCa (!r4 (fW st 1))])
 else if o.Code=7 then(if r4 (fW st 1)then(0,st.take (st.length-1))else(84,st))
 else if o.Code=8 then(0,st.take (st.length-1)++[sha256 N (fW st 1)])
 else if o.Code=9 then aBX st (aE7 N ((fW st 1).length:Nat))
 else if o.Code=10 then vG N m st 1 1
 else if o.Code=11 then vG N m st o.M o.N.toNat
 else if o.Code=12 then(aNg N (fW st 1) h,st)
 else if o.Code=13 then(aNg N (fW st 1) a,st)
 else if o.Code=17 then(84,st)
 else(0,st)
def nC (o:aX):Int:=
 if o.Code=1∨o.Code=15∨o.Code=16∨o.Code=17 then 0 else if o.Code=4∨o.Code=5∨o.Code=10 then 2 else if o.Code=11 then 2*o.N else 1
def oF (o:aX):Int:=if o.Code=8 then 6 else if o.Code=10 then 21 else if o.Code=11 then 1+20*o.N else 1
theorem kB {x y:Int}(h:x≠y):(x == y)=false:=by simpa using h
theorem aK6 (N:Nat){o:aX}(ho:VOp o):wJ N o.Code o.Data o.M o.N=some (oF o):=by
 unfold wJ oF
 by_cases h8:o.Code=8
 ·rw[h8];rfl
 rw[kB h8,if_neg h8]
 by_cases h10:o.Code=10
 ·rw[h10];rfl
 rw[kB h10,if_neg h10]
 by_cases h11:o.Code=11
 ·have:=ho.multi h11
  rw[if_pos h11,h11,cR (a:=20*o.N) (by omega) (by omega),cR (by omega) (by omega)];rfl
 rw[kB h11,if_neg h11];rfl
theorem aJ8 {o:aX}(ho:VOp o):1≤oF o∧oF o≤301:=by
 unfold oF
 by_cases h11:o.Code=11
 ·have:=ho.multi h11
  rw[if_neg (by omega),if_neg (by omega),if_pos h11];omega
 rw[if_neg h11]
 split
 ·omega
 split<;>omega
theorem aPN (N:Nat){o:aX}(ho:VOp o):wQ N o.Code o.Data o.M o.N=some (nC o):=by
 unfold wQ nC l9 oX
 by_cases h11:o.Code=11
 ·have:=ho.multi h11
  simp only[h11]
  rw[cR (a:=2*o.N) (by omega) (by omega)]
  simp
 by_cases h1:o.Code=1
 ·simp[h1]
 by_cases h15:o.Code=15
 ·simp[h15]
 by_cases h16:o.Code=16
 ·simp[h16]
 by_cases h17:o.Code=17
 ·simp[h17]
 by_cases h4:o.Code=4
 ·simp[h4]
 by_cases h5:o.Code=5
 ·simp[h5]
 by_cases h10:o.Code=10
 ·simp[h10]
 simp[h1,h15,h16,h17,h4,h5,h10,h11]
section
variable {N:Nat}(hN:70000≤N){m:List Int}(hm:m.length=32)(hb:Byt m)
include hN hm hb
theorem aHj {st:List (List Int)}(hs:WS st){x:List Int}(hx:Byt x∧x.length≤520):WS (aBX st x).2:=by
 unfold aBX
 by_cases h:64≤st.length
 ·rw[if_pos h];exact hs
 rw[if_neg h];exact hs.push (by omega) hx
theorem aIm {st:List (List Int)}(hs:WS st)(fO:Int){n:Nat}(h1:1≤n)(hn:2*n≤st.length):WS (vG N m st fO n).2:=by
 unfold vG
 split
 ·have:=hs.len
  exact(hs.take _).push (by simp;omega) (aHh _)
 exact hs
theorem aP0 {h a:Int}{o:aX}(ho:VOp o){st:List (List Int)}(hs:WS st)(hn:nC o≤(st.length:Int)):WS (xR N m h a o st).2:=by
 have hl:=hs.len
 have rep: ∀(k:Nat)(x:List Int),1≤k→k≤st.length→(Byt x∧x.length≤520)→WS (st.take (st.length-k)++[x]):=fun k x h1 hk hx=>(hs.take _).push (by simp;omega) hx
 unfold xR
 unfold nC at hn
 by_cases h1:o.Code=1
 ·rw[if_pos h1]
  exact aHj hN hm hb hs ⟨ho.data.1,by have:=ho.data.2;omega⟩
 rw[if_neg h1]
 by_cases h2:o.Code=2
 ·simp[h2]at hn
  have:=t5 hs (k:=1) (by omega) (by omega)
  rw[if_pos h2]
  exact aHj hN hm hb hs ⟨this.1,this.2.1⟩
 rw[if_neg h2]
 by_cases h3:o.Code=3
 ·rw[if_pos h3];exact hs.take _
 rw[if_neg h3]
 by_cases h4:o.Code=4
 ·simp[h4]at hn
  have q1:=t5 hs (k:=1) (by omega) (by omega)
  have q2:=t5 hs (k:=2) (by omega) (by omega)
  rw[if_pos h4]
  exact(hs.set _ ⟨q2.1,q2.2.1⟩).set _ ⟨q1.1,q1.2.1⟩
 rw[if_neg h4]
 by_cases h5:o.Code=5
 ·simp[h5]at hn
  rw[if_pos h5]
  exact rep 2 _ (by omega) (by omega) (aHh _)
 rw[if_neg h5]
 by_cases h6:o.Code=6
 ·simp[h6]at hn
  rw[if_pos h6]
  exact rep 1 _ (by omega) (by omega) (aHh _)
 rw[if_neg h6]
 by_cases h7:o.Code=7
 ·rw[if_pos h7]
  cases r4 (fW st 1)
  ·exact hs
  exact hs.take _
 rw[if_neg h7]
 by_cases h8:o.Code=8
 ·simp[h8]at hn
  rw[if_pos h8]
  exact rep 1 _ (by omega) (by omega) ⟨pI _ _,by rw[eY];omega⟩
 rw[if_neg h8]
 by_cases h9:o.Code=9
 ·simp[h9]at hn
  have:=t5 hs (k:=1) (by omega) (by omega)
  rw[if_pos h9]
  exact aHj hN hm hb hs (aJD hN (n:=(fW st 1).length) (by omega)).2
 rw[if_neg h9]
 by_cases h10:o.Code=10
 ·simp[h10]at hn
  rw[if_pos h10]
  exact aIm hN hm hb hs _ (by omega) (by omega)
 rw[if_neg h10]
 by_cases h11:o.Code=11
 ·have:=ho.multi h11
  simp[h11]at hn
  rw[if_pos h11]
  exact aIm hN hm hb hs _ (by omega) (by omega)
 rw[if_neg h11]
 by_cases h12:o.Code=12
 ·rw[if_pos h12];exact hs
 rw[if_neg h12]
 by_cases h13:o.Code=13
 ·rw[if_pos h13];exact hs
 rw[if_neg h13]
 by_cases h17:o.Code=17
 ·rw[if_pos h17];exact hs
 rw[if_neg h17];exact hs
theorem aQM {h a:Int}{o:aX}(ho:VOp o){st:List (List Int)}(hs:WS st)(hn:nC o≤(st.length:Int))(br:List aM)(c:Int):
  mF N m h a st br c o.Code o.Data o.M o.N=some ((xR N m h a o st).1,m,h,a,(xR N m h a o st).2,br,c):=by
 have hl:=hs.len
 have top:1≤st.length→cW N m h a st br c=some (fW st 1):=fun h1=>by
  unfold cW
  rw[show((st.length:Nat):Int)-1=((st.length:Nat):Int)-((1:Nat):Int)from rfl,(t5 hs (k:=1) (by omega) h1).2.2];rfl
 have len1:1≤st.length→(fW st 1).length≤520∧Byt (fW st 1):=fun h1=>⟨(t5 hs (k:=1) (by omega) h1).2.1,(t5 hs (k:=1) (by omega) h1).1⟩
 have rep1: ∀x,1≤st.length→dP N m h a st br c 1 x=some (m,h,a,st.take (st.length-1)++[x],br,c):=fun x h1=>aEK (k:=1) hl h1 x
 have rep2: ∀x,2≤st.length→dP N m h a st br c 2 x=some (m,h,a,st.take (st.length-2)++[x],br,c):=fun x h1=>aEK (k:=2) hl h1 x
 have drp:1≤st.length→eQ N m h a st br c 1=some (m,h,a,st.take (st.length-1),br,c):=fun h1=>aJb (k:=1) hl h1
 have i2:2≤st.length→bY st (aVQ.wrap (((st.length:Nat):Int)-2))=some (fW st 2):=fun h2=>(t5 hs (k:=2) (by omega) h2).2.2
 have i1':1≤st.length→bY st (aVQ.wrap (((st.length:Nat):Int)-1))=some (fW st 1):=fun h2=>(t5 hs (k:=1) (by omega) h2).2.2
 unfold xR mF
 unfold nC at hn
 by_cases h1:o.Code=1
 ·rw[if_pos h1,h1,aJy];rfl
 rw[if_neg h1,kB h1]
 by_cases h2:o.Code=2
 ·simp[h2]at hn
  rw[if_pos h2,h2,top (by omega)]
  simp only[aVO,aJy];rfl
 rw[if_neg h2,kB h2]
 by_cases h3:o.Code=3
 ·simp[h3]at hn
  rw[if_pos h3,h3,drp (by omega)];rfl
 rw[if_neg h3,kB h3]
 by_cases h4:o.Code=4
 ·simp[h4]at hn
  rw[if_pos h4,h4,i2 (by omega),i1' (by omega)]
  have e1:aVQ.wrap (((st.length:Nat):Int)-1)=((st.length-1:Nat):Int):=by rw[cR (by omega) (by omega)];omega
  have e2:aVQ.wrap (((st.length:Nat):Int)-2)=((st.length-2:Nat):Int):=by rw[cR (by omega) (by omega)];omega
  simp only[e1,e2,aVT,aVO]
  rw[cL _ (show st.length-2<(st.set (st.length-1) (fW st 2)).length by rw[aV5];omega)]
  rfl
 rw[if_neg h4,kB h4]
 by_cases h5:o.Code=5
 ·simp[h5]at hn
  rw[if_pos h5,h5,top (by omega),i2 (by omega)]
  simp only[aVO,aB4,aGu hN,rep2 _ (show 2≤st.length by omega)]
  rfl
 rw[if_neg h5,kB h5]
 by_cases h6:o.Code=6
 ·simp[h6]at hn
  rw[if_pos h6,h6,top (by omega)]
  simp only[aVO,aBB hN (show(fW st 1).length≤60000 by have:=(len1 (by omega)).1;omega),aGu hN,rep1 _ (show 1≤st.length by omega)]
  rfl
 rw[if_neg h6,kB h6]
 by_cases h7:o.Code=7
 ·simp[h7]at hn
  rw[if_pos h7,h7,top (by omega)]
  simp only[aVO,aBB hN (show(fW st 1).length≤60000 by have:=(len1 (by omega)).1;omega),drp (show 1≤st.length by omega)]
  cases r4 (fW st 1)<;>rfl
 rw[if_neg h7,kB h7]
 by_cases h8:o.Code=8
 ·simp[h8]at hn
  rw[if_pos h8,h8,top (by omega)]
  simp only[aVO,aHS N hN _ (len1 (by omega)).2 (show(fW st 1).length≤1000000 by have:=(len1 (by omega)).1;omega),dG (eY N (fW st 1)),rep1 _ (show 1≤st.length by omega)]
  rfl
 rw[if_neg h8,kB h8]
 by_cases h9:o.Code=9
 ·simp[h9]at hn
  have:=(len1 (by omega)).1
  rw[if_pos h9,h9,top (by omega)]
  simp only[aVO,aGz _ (show(fW st 1).length<4294967296 by omega),(aJD hN (show(fW st 1).length<4294967296 by omega)).1,aJy]
  rfl
 rw[if_neg h9,kB h9]
 by_cases h10:o.Code=10
 ·simp[h10]at hn
  have:=aKb hN hm hb (h:=h) (a:=a) hs (br:=br) (c:=c) (fO:=1) (n:=1) (by omega) (by omega)
  rw[show((1:Nat):Int)=1 from rfl]at this
  rw[if_pos h10,h10,this];rfl
 rw[if_neg h10,kB h10]
 by_cases h11:o.Code=11
 ·have hM:=ho.multi h11
  simp[h11]at hn
  have:=aKb hN hm hb (h:=h) (a:=a) hs (br:=br) (c:=c) (fO:=o.M) (n:=o.N.toNat) (by omega) (by omega)
  rw[show((o.N.toNat:Nat):Int)=o.N by omega]at this
  rw[if_pos h11,h11,this];rfl
 rw[if_neg h11,kB h11]
 by_cases h12:o.Code=12
 ·simp[h12]at hn
  rw[if_pos h12,h12,top (by omega)]
  simp only[aVO,aIr hN];rfl
 rw[if_neg h12,kB h12]
 by_cases h13:o.Code=13
 ·simp[h13]at hn
  rw[if_pos h13,h13,top (by omega)]
  simp only[aVO,aIr hN];rfl
 rw[if_neg h13,kB h13]
 by_cases h17:o.Code=17
 ·rw[if_pos h17,h17];rfl
 rw[if_neg h17,kB h17];rfl
end
end Go.Proofs.YtbjiaghljpoliaaGreatDoor
