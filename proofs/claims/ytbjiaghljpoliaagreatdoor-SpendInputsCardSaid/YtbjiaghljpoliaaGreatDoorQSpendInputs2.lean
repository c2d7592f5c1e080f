/- Texts of ours, joined: VmFrame, VmSym, VmGhost, VmRule, VmCtr, VmBrw, Plain0, Ty, Lift, Lift2, Open, Laid, VmDrawG, VmFrz, VmStr, VmArr, VmExt, VmStl, VmEq, VmAis, VmShort. -/
import Derived.Test.YtbjiaghljpoliaaGreatDoorQSpendInputs1
import Derived.Test.YtbjiaghljpoliaaGreatDoorRows
import Derived.Test.YtbjiaghljpoliaaGreatDoorCards
import Derived.Test.YtbjiaghljpoliaaGreatDoorTie
import Derived.WalkKit
import Derived.ProofKit
import Derived.OpenShut
import Derived.LaidSub
import Derived.Deep.DeepHandedRow
import Derived.Lib.LaidTab
import Derived.Laws.IdiomStrings
import Derived.ChangeKeysEq
open List renaming getElem?_eq_some_iff → aVO,getElem?_append_left → aVP,getElem?_eq_getElem → aVQ,take_of_length_le → aVR,getElem?_cons_succ → aVT,eq_nil_of_length_eq_zero → aVU,all_eq_true → aVV,getElem?_append_right → aVY,flatMap_cons → aVZ,mem_of_getElem? → aV1,drop_eq_nil_of_le → aV4,getElem?_cons_zero → aV5,getElem?_map → aV6,replicate → aV7,length_take → aV8,length_map → aV9,map_cons → aWa,length_cons → aWb,drop_eq_getElem_cons → aWc,length_append → aWd,take_append_of_le_length → aWe,mapM_cons → aWh,drop_zero → aWi,take_append_drop → aWn,drop_drop → aWp,take_succ_eq_append_getElem → aWq,length_drop → aWr,nodup_cons → aWu,getElem?_eq_none → aWw,append_nil → aWx,ext_getElem? → aWz,replicate_succ → aWB,mem_cons → aWC,map_take → aWD,all_cons → aWF,findIdx?_eq_some_iff_getElem → aWG,flatten_cons → aWH,append_assoc → aWI,mem_iff_getElem? → aWJ,range'_succ → aWK,take_append → aWM,drop_append_of_le_length → aWN,range → aWO,length_nil → aWP,nil_append → aWS,take_succ_cons → aWU,flatMap_append → aWW,getD_eq_getElem?_getD → aWX,getElem?_drop → aWY,take_prefix → aW3,getElem?_toArray → aW5,forIn_cons → aW7,headD_cons → aW8,getElem?_set_ne → aW9,take_zero → aXb,forIn_nil → aXc,getElem?_range → aXd,drop_succ_cons → aXe,getElem?_take → aXf,map_drop → aXh,getElem?_inj → aXm,mem_map → aXo,range'_zero → aXq,drop_append → aXu,flatMap_map → aXv,flatMap_nil → aXw,cons_append → aXx,length → aXy,length_set → aXz,range' → aXA,mem_filter → aXB
open Option.some renaming injEq → aVS,inj → aW6
open Bool renaming false_eq_true → aVW,and_eq_true → aV0,or_eq_true → aWT,and_true → aW2,false_or → aXi,true_and → aXj
open Option renaming map_some → aVX,map_eq_some_iff → aV3,bind_eq_bind → aWA,bind_some → aWL,pure_def → aWQ,bind_eq_some_iff → aW1
open Array renaming getElem?_eq_some_iff → aV2,forIn_toList → aXk,replicate → aXC
open Nat renaming add_mul → aWf,lt_or_ge → aWl,eq_of_beq_eq_true → aWm,le_refl → aWo,mod_eq_of_lt → aWs,lt_of_lt_of_le → aWt,le_of_ble_eq_true → aWv,one_mul → aWy,min_eq_left → aWE,add_one_sub_one → aWV,zero_add → aWZ,beq → aW0,add_comm → aW4,mul_le_mul_right → aXa,add_assoc → aXg,sub_add_cancel → aXl,le_total → aXn,sub_zero → aXp,min_eq_right → aXr,div_eq_of_lt → aXs,mul_mod_left → aXt,div_one → aXD,blt → aXE
open Prod.mk renaming injEq → aWg
open Int renaming toNat_natCast → aWj,natCast_emod → aWk,le_refl → aWR
set_option linter.unusedSimpArgs false
set_option linter.unusedVariables false
namespace Go.Vm
open Go
mutual
def V.rn (f:Nat→Nat):V→V
 | .ptr b off=> .ptr (f b) off
 | .sl b off n k ag=> .sl (f b) off n k ag
 | .mp b=> .mp (f b)
 | .agg cs=> .agg (V.rns f cs)
 | .tup cs=> .tup (V.rns f cs)
 | .sc v=> .sc v
 | .row nil k es=> .row nil k es
 | .eptr es i off=> .eptr es i off
 | .any=> .any
def V.rns (f:Nat→Nat):List V→List V
 | []=>[]
 |c::cs=>c.rn f::V.rns f cs
end
theorem V.rns_length (f:Nat→Nat): ∀cs:List V,(V.rns f cs).length=cs.length
 | []=>rfl
 |_::cs=>by simp[V.rns,V.rns_length f cs]
theorem V.rns_mem {f:Nat→Nat}{p:V→Bool}(hp: ∀c,p c=true→p (c.rn f)=true): ∀{cs:List V},(∀c∈cs,p c=true)→ ∀c∈V.rns f cs,p c=true
 | [],_,c,hc=>by simp[V.rns]at hc
 |d::cs,h,c,hc=>by
  simp only[V.rns,aWC]at hc
  rcases hc with rfl|hc
  ·exact hp d (h d (by simp))
  exact V.rns_mem hp (fun c hc=>h c (by simp[hc])) c hc
theorem V.rn_one (f:Nat→Nat)(c:V)(h:c.one=true):(c.rn f).one=true:=by
 cases c<;>first|exact h|rfl|(simp[V.one]at h)
theorem V.one_rn (f:Nat→Nat)(c:V)(h:(c.rn f).one=true):c.one=true:=by
 cases c<;>first|exact h|rfl|(simp[V.one,V.rn]at h)
theorem V.one_rns {f:Nat→Nat}: ∀{cs:List V},(∀c∈V.rns f cs,c.one=true)→ ∀c∈cs,c.one=true
 | [],_,c,hc=>by simp at hc
 |d::cs,h,c,hc=>by
  simp only[V.rns,aWC,forall_eq_or_imp]at h
  simp only[aWC]at hc
  rcases hc with rfl|hc
  ·exact V.one_rn f _ h.1
  exact V.one_rns h.2 c hc
section
variable {X:Nat→Prop}{M M':List (Option Nat)}{w:World}{f:Nat→Nat}
mutual
theorem VR.rn_to (hM: ∀b y,M[b]? =some y→M'[f b]? =some y): ∀(x:V)(v:Value),VR X M w x v→VR X M' w (x.rn f) v
 | .sc c,v,h=>by unfold V.rn;unfold VR at h ⊢; exact h
 | .any,v,h=>by unfold V.rn;unfold VR;trivial
 | .row nil k es,v,h=>by unfold V.rn;unfold VR at h ⊢; exact h
 | .eptr es i off,v,h=>by unfold V.rn;unfold VR at h ⊢; exact h
 | .ptr b off,v,h=>by
  unfold V.rn;unfold VR at h⊢
  obtain⟨g,sh,h1,h2⟩:=h
  exact⟨g,sh,hM _ _ h1,h2⟩
 | .mp b,v,h=>by
  unfold V.rn;unfold VR at h⊢
  obtain⟨g,h1,h2⟩:=h
  exact⟨g,hM _ _ h1,h2⟩
 | .sl b off n k ag,v,h=>by
  unfold V.rn;unfold VR at h⊢
  rcases h with⟨h1,h2⟩|⟨g,cap,e,sz,h1,h2⟩
  ·exact .inl ⟨hM _ _ h1,h2⟩
  exact .inr ⟨g,cap,e,sz,hM _ _ h1,h2⟩
 | .agg cs,v,h=>by
  unfold V.rn;unfold VR at h⊢
  obtain⟨vs,h1,h2⟩:=h
  exact⟨vs,h1,VCells.rn_to hM cs vs h2⟩
 | .tup cs,v,h=>by
  unfold V.rn;unfold VR at h⊢
  obtain⟨vs,h1,h2⟩:=h
  exact⟨vs,h1,VCells.rn_to hM cs vs h2⟩
theorem VCells.rn_to (hM: ∀b y,M[b]? =some y→M'[f b]? =some y): ∀(cs:List V)(vs:List Value),VCells X M w cs vs→VCells X M' w (V.rns f cs) vs
 | [],vs,h=>by unfold V.rns;unfold VCells at h ⊢; exact h
 |c::cs,vs,h=>by
  unfold V.rns;unfold VCells at h⊢
  obtain⟨v,rest,h1,h2,h3⟩:=h
  exact⟨v,rest,h1,VR.rn_to hM c v h2,VCells.rn_to hM cs rest h3⟩
end
mutual
theorem VR.rn_from (hM: ∀b y,M'[f b]? =some y→M[b]? =some y): ∀(x:V)(v:Value),VR X M' w (x.rn f) v→VR X M w x v
 | .sc c,v,h=>by unfold V.rn at h;unfold VR at h ⊢; exact h
 | .any,v,h=>by unfold VR;trivial
 | .row nil k es,v,h=>by unfold V.rn at h;unfold VR at h ⊢; exact h
 | .eptr es i off,v,h=>by unfold V.rn at h;unfold VR at h ⊢; exact h
 | .ptr b off,v,h=>by
  unfold V.rn at h;unfold VR at h⊢
  obtain⟨g,sh,h1,h2⟩:=h
  exact⟨g,sh,hM _ _ h1,h2⟩
 | .mp b,v,h=>by
  unfold V.rn at h;unfold VR at h⊢
  obtain⟨g,h1,h2⟩:=h
  exact⟨g,hM _ _ h1,h2⟩
 | .sl b off n k ag,v,h=>by
  unfold V.rn at h;unfold VR at h⊢
  rcases h with⟨h1,h2⟩|⟨g,cap,e,sz,h1,h2⟩
  ·exact .inl ⟨hM _ _ h1,h2⟩
  exact .inr ⟨g,cap,e,sz,hM _ _ h1,h2⟩
 | .agg cs,v,h=>by
  unfold V.rn at h;unfold VR at h⊢
  obtain⟨vs,h1,h2⟩:=h
  exact⟨vs,h1,VCells.rn_from hM cs vs h2⟩
 | .tup cs,v,h=>by
  unfold V.rn at h;unfold VR at h⊢
  obtain⟨vs,h1,h2⟩:=h
  exact⟨vs,h1,VCells.rn_from hM cs vs h2⟩
theorem VCells.rn_from (hM: ∀b y,M'[f b]? =some y→M[b]? =some y): ∀(cs:List V)(vs:List Value),VCells X M' w (V.rns f cs) vs→VCells X M w cs vs
 | [],vs,h=>by unfold V.rns at h;unfold VCells at h ⊢; exact h
 |c::cs,vs,h=>by
  unfold V.rns at h;unfold VCells at h⊢
  obtain⟨v,rest,h1,h2,h3⟩:=h
  exact⟨v,rest,h1,VR.rn_from hM c v h2,VCells.rn_from hM cs rest h3⟩
end
end
def Blk.rn (f:Nat→Nat)(B:Blk):Blk:=⟨B.e,V.rns f B.cells⟩
def rF (f:Nat→Nat)(h:Hp):Hp:=h.map (Option.map (Blk.rn f))
def sg (ρ:List Nat)(L i:Nat):Nat:=match ρ[i]? with
 |some b=>b
 |none=>L+(i-ρ.length)
def fE :Hp→List Nat→Hp→Hp
 |h,b::ρ,o::os=>fE (h.set b o) ρ os
 |h,_,_=>h
theorem aBK : ∀(h:Hp)(ρ:List Nat)(o:Hp),(fE h ρ o).length=h.length
 |h,b::ρ,x::o=>by rw[fE,aBK];simp
 |h,[],_=>by simp[fE]
 |h,_::_,[]=>by simp[fE]
theorem aBY : ∀{h:Hp}{ρ:List Nat}{o:Hp}{b:Nat},b∉ρ→(fE h ρ o)[b]? =h[b]?
 |h,c::ρ,x::o,b,hb=>by
  simp only[aWC,not_or]at hb
  rw[fE,aBY hb.2,aW9 (fun e=>hb.1 e.symm)]
 |h,[],_,b,_=>by simp[fE]
 |h,_::_,[],b,_=>by simp[fE]
theorem aE1 : ∀{h:Hp}{ρ:List Nat}{o:Hp}{i b:Nat},ρ.Nodup→(∀b∈ρ,b<h.length)→ρ.length≤o.length→ρ[i]? =some b→(fE h ρ o)[b]? =o[i]?
 |h,c::ρ,x::o,0,b,hn,hl,_,hi=>by
  simp only[aV5,aVS]at hi
  subst hi
  have hc:c<h.length:=hl c (by simp)
  rw[fE,aBY (aWu.1 hn).1]
  simp[hc]
 |h,c::ρ,x::o,i+1,b,hn,hl,hle,hi=>by
  simp only[aVT]at hi
  rw[fE,aE1 (aWu.1 hn).2 (fun b hb=>by simpa using hl b (by simp[hb])) (by simpa using hle) hi]
  simp
 |h,[],_,i,b,_,_,_,hi=>by simp at hi
 |h,_::_,[],i,b,_,_,hle,_=>by simp at hle
theorem aJd {f:Nat→Nat}{h:Hp}{i:Nat}:(rF f h)[i]? =(h[i]?).map (Option.map (Blk.rn f)):=by simp[rF]
theorem aDt {f:Nat→Nat}{h:Hp}{i:Nat}{B:Blk}(hb:(rF f h)[i]? =some (some B)): ∃C,h[i]? =some (some C)∧B=C.rn f:=by
 rw[aJd]at hb
 cases hi:h[i]? with
 |none=>rw[hi]at hb;cases hb
 |some o=>
  rw[hi]at hb
  cases o with
  |none=>simp at hb
  |some C=>simp at hb;exact⟨C,rfl,hb.symm⟩
def kL (hb:Hp)(ρ:List Nat)(hs':Hp):Hp:=fE hb ρ (rF (sg ρ hb.length) hs')++(rF (sg ρ hb.length) hs').drop ρ.length
theorem Fn.frame {P:Program}{f:FuncId}{hs hs' hb:Hp}{args:List V}{r:V}(hc:Fn P f hs args r hs')(ρ:List Nat)(hlen:ρ.length=hs.length)(hnd:ρ.Nodup)(hlt: ∀b∈ρ,b<hb.length)
  (hlend: ∀i b:Nat,ρ[i]? =some b→hb[b]? =(rF (sg ρ hb.length) hs)[i]?):Fn P f hb (V.rns (sg ρ hb.length) args) (r.rn (sg ρ hb.length)) (kL hb ρ hs'):=by
 intro A M w vs H hargs
 have hσ: ∀i b:Nat,ρ[i]? =some b→sg ρ hb.length i=b:=fun i b hi=>by simp[sg,hi]
 have hσ': ∀i,ρ.length≤i→sg ρ hb.length i=hb.length+(i-ρ.length):=fun i hi=>by simp[sg,hi]
 generalize hsg:sg ρ hb.length=σ at *
 let Ms:List (Option Nat):=ρ.map fun b=>(M[b]?).getD none
 have hMs: ∀i b:Nat,ρ[i]? =some b→Ms[i]? =M[b]? :=by
  intro i b hi
  have hb':b<M.length:=by rw[H.len];exact hlt b (aV1 hi)
  simp only[Ms,aV6,hi,aVX]
  rw[aVQ hb']
  rfl
 have hMslen:Ms.length=hs.length:=by simp[Ms,hlen]
 have hfrom: ∀b y,M[σ b]? =some y→Ms[b]? =some y:=by
  intro b y hy
  rcases aWl b ρ.length with hl|hl
  ·have hi:ρ[b]? =some ρ[b]:=aVQ hl
   rw[hMs b _ hi,←hσ b _ hi];exact hy
  rw[hσ' b hl]at hy
  have:=(aVO.1 hy).1
  rw[H.len]at this;omega
 let A':Nat→Prop:=fun g=>A g∨ ∃b B,b∉ρ∧hb[b]? =some (some B)∧M[b]? =some (some g)
 have hin: ∀{i:Nat}{B:Blk},hs[i]? =some (some B)→ ∃b,ρ[i]? =some b∧hb[b]? =some (some (B.rn σ))∧Ms[i]? =M[b]? :=by
  intro i B hi
  have hl:i<ρ.length:=by rw[hlen];exact(aVO.1 hi).1
  have hr:ρ[i]? =some ρ[i]:=aVQ hl
  refine⟨_,hr, ?_,hMs i _ hr⟩
  rw[hlend i _ hr,aJd,hi];rfl
 have hliveS: ∀g,eM Ms hs g→eM M hb g:=by
  rintro g ⟨i,B,hi,hm⟩
  obtain⟨b,_,hb1,hb2⟩:=hin hi
  exact⟨b,_,hb1,by rw[←hb2];exact hm⟩
 have hX1: ∀g,Xs A' Ms hs g→Xs A M hb g:=by
  rintro g ((ha|⟨b,B,_,hb1,hb2⟩)|hl)
  ·exact .inl ha
  ·exact .inr ⟨b,B,hb1,hb2⟩
  exact .inr (hliveS g hl)
 have hX2: ∀g,Xs A M hb g→Xs A' Ms hs g:=by
  rintro g (ha|⟨b,B,hb1,hb2⟩)
  ·exact .inl (.inl ha)
  by_cases hm:b∈ρ
  ·obtain⟨i,hi⟩:=aWJ.1 hm
   have he:=hlend i b hi
   rw[hb1]at he
   obtain⟨C,hC,_⟩:=aDt he.symm
   exact .inr ⟨i,C,hC,by rw[hMs i b hi];exact hb2⟩
  exact .inl (.inr ⟨b,B,hm,hb1,hb2⟩)
 have hout: ∀{b:Nat}{B:Blk}{g:Nat},b∉ρ→hb[b]? =some (some B)→M[b]? =some (some g)→ ¬eM Ms hs g:=by
  rintro b B g hb0 hb1 hb2 ⟨i,C,hi,hm⟩
  obtain⟨c,hc0,hc1,hc2⟩:=hin hi
  have:=H.inj b c B _ g hb1 hc1 hb2 (by rw[←hc2];exact hm)
  subst this
  exact hb0 (aV1 hc0)
 have HS:HR A' Ms hs w:=by
  refine⟨hMslen, ?_, ?_, ?_,H.glob.avoid fun g _ hx=>hX1 g hx⟩
  ·rintro g (ha|⟨b,B,_,hb1,hb2⟩)
   ·exact H.alt g ha
   exact H.lt (.inr ⟨b,B,hb1,hb2⟩)
  ·intro i B hi
   obtain⟨b,hb0,hb1,hb2⟩:=hin hi
   obtain⟨h1,h2⟩:=H.blk b _ hb1
   refine⟨V.one_rns h1, ?_⟩
   rcases h2 with⟨hn,hc0⟩|⟨g,cs,hg,hA,hh,hle,hcs⟩
   ·refine .inl ⟨by rw[hb2];exact hn, ?_⟩
    have:=congrArg aXy hc0
    simp only[Blk.rn,V.rns_length,aWP]at this
    exact aVU this
   refine .inr ⟨g,cs,by rw[hb2];exact hg, ?_,by simpa[Blk.rn,V.rns_length]using hh, ?_, ?_⟩
   ·rintro(ha|⟨c,C,hc0,hc1,hc2⟩)
    ·exact hA ha
    have:=H.inj b c _ C g hb1 hc1 hg hc2
    subst this
    exact hc0 (aV1 hb0)
   ·simpa[Blk.rn,V.rns_length]using hle
   have hcs':VCells (Xs A M hb) M w (V.rns σ B.cells) (cs.toList.take B.cells.length):=by simpa[Blk.rn,V.rns_length]using hcs
   exact(VCells.rn_from hfrom _ _ hcs').avoid (fun g _ hx=>hX1 g hx)
  intro i j B C g hi hj mi mj
  obtain⟨b,hb0,hb1,hb2⟩:=hin hi
  obtain⟨c,hc0,hc1,hc2⟩:=hin hj
  have:=H.inj b c _ _ g hb1 hc1 (by rw[←hb2];exact mi) (by rw[←hc2];exact mj)
  subst this
  have hil:=(aVO.1 hb0).1
  exact(aXm hil hnd).1 (hb0.trans hc0.symm)
 have hargsS:VCells (Xs A' Ms hs) Ms w args vs:=(VCells.rn_from hfrom _ _ hargs).avoid (fun g _ hx=>hX1 g hx)
 refine(hc A' Ms w vs HS hargsS).mono fun v w' ⟨Ms',G,hv⟩=> ?_
 obtain⟨Mn,rfl⟩:=G.pre
 have hMnlen:hs'.length=ρ.length+Mn.length:=by rw[←G.hr.len];simp[Ms]
 have hto: ∀b y,(Ms++Mn)[b]? =some y→(M++Mn)[σ b]? =some y:=by
  intro b y hy
  rcases aWl b ρ.length with hl|hl
  ·have hi:ρ[b]? =some ρ[b]:=aVQ hl
   rw[aVP (by rw[hMslen,←hlen];exact hl),hMs b _ hi]at hy
   rw[hσ b _ hi,aVP (by rw[H.len];exact hlt _ (aV1 hi))]
   exact hy
  rw[aVY (by rw[hMslen,←hlen];exact hl),hMslen,←hlen]at hy
  rw[hσ' b hl,aVY (by rw[H.len];omega),H.len,show hb.length+(b-ρ.length)-hb.length=b-ρ.length by omega]
  exact hy
 have hlentlen:(fE hb ρ (rF σ hs')).length=hb.length:=aBK _ _ _
 have hrnlen:(rF σ hs').length=hs'.length:=by simp[rF]
 have hcase: ∀{b:Nat}{B:Blk},(kL hb ρ hs')[b]? =some (some B)→(b∉ρ∧hb[b]? =some (some B))∨ ∃i C,hs'[i]? =some (some C)∧b=σ i∧B=C.rn σ∧(M++Mn)[b]? =(Ms++Mn)[i]? :=by
  intro b B hb1
  unfold kL at hb1
  rw[hsg]at hb1
  rcases aWl b hb.length with hl|hl
  ·rw[aVP (by rw[hlentlen];exact hl)]at hb1
   by_cases hm:b∈ρ
   ·obtain⟨i,hi⟩:=aWJ.1 hm
    rw[aE1 hnd hlt (by rw[hrnlen];omega) hi]at hb1
    obtain⟨C,hC,hB⟩:=aDt hb1
    have hil:=(aVO.1 hi).1
    refine .inr ⟨i,C,hC,(hσ i b hi).symm,hB, ?_⟩
    rw[aVP (by rw[H.len];exact hl),aVP (by rw[hMslen,←hlen];exact hil),hMs i b hi]
   rw[aBY hm]at hb1
   exact .inl ⟨hm,hb1⟩
  rw[aVY (by rw[hlentlen];exact hl),hlentlen,aWY]at hb1
  obtain⟨C,hC,hB⟩:=aDt hb1
  refine .inr ⟨_,C,hC, ?_,hB, ?_⟩
  ·rw[hσ' _ (by omega)];omega
  rw[aVY (by rw[H.len];exact hl),aVY (by rw[hMslen,←hlen];omega),H.len,hMslen,←hlen]
  congr 1;omega
 have hlive: ∀g,g<w.heap.size→eM (M++Mn) (kL hb ρ hs') g→eM M hb g:=by
  rintro g hg ⟨b,B,hb1,hb2⟩
  rcases hcase hb1 with⟨hb0,hb3⟩|⟨i,C,hC,rfl,rfl,he⟩
  ·refine⟨b,B,hb3, ?_⟩
   rw[aVP (by rw[H.len];exact(aVO.1 hb3).1)]at hb2
   exact hb2
  exact hliveS g (G.live g hg ⟨i,C,hC,by rw[←he];exact hb2⟩)
 have hX3: ∀g,Xs A (M++Mn) (kL hb ρ hs') g→Xs A' (Ms++Mn) hs' g:=by
  rintro g (ha|⟨b,B,hb1,hb2⟩)
  ·exact .inl (.inl ha)
  rcases hcase hb1 with⟨hb0,hb3⟩|⟨i,C,hC,rfl,rfl,he⟩
  ·rw[aVP (by rw[H.len];exact(aVO.1 hb3).1)]at hb2
   exact .inl (.inr ⟨b,B,hb0,hb3,hb2⟩)
  exact .inr ⟨i,C,hC,by rw[←he];exact hb2⟩
 refine⟨M++Mn,⟨⟨Mn,rfl⟩,⟨?_, ?_, ?_, ?_,G.hr.glob.avoid fun g _ hx=>hX3 g hx⟩,G.ext.mono (fun g _ hl=>hliveS g hl),hlive⟩,(VR.rn_to hto _ _ hv).avoid (fun g _ hx=>hX3 g hx)⟩
 ·unfold kL
  rw[hsg]
  simp only[aWd,aWr,hlentlen,hrnlen,H.len]
  omega
 ·exact fun g hg=>aWt (H.alt g hg) G.ext.size
 ·intro b B hb1
  rcases hcase hb1 with⟨hb0,hb3⟩|⟨i,C,hC,rfl,rfl,he⟩
  ·have hbl:b<M.length:=by rw[H.len];exact(aVO.1 hb3).1
   obtain⟨h1,⟨hn,hc0⟩|⟨g,cs,hg,hA,hh,hle,hcs⟩⟩:=H.blk b B hb3
   ·exact⟨h1,.inl ⟨by rw[aVP hbl];exact hn,hc0⟩⟩
   have hgs:g<w.heap.size:=H.lt (.inr ⟨b,B,hb3,hg⟩)
   refine⟨h1,.inr ⟨g,cs,by rw[aVP hbl];exact hg,hA, ?_,hle, ?_⟩⟩
   ·exact hh.to (G.ext.block g hgs (hout hb0 hb3 hg))
   exact VCells.ext G.ext ⟨Mn,rfl⟩ (fun g _ hl=> .inr (hliveS g hl)) (fun g hg hx=>hx.elim .inl (fun hl=> .inr (hlive g hg hl))) _ _ hcs
  obtain⟨h1,h2⟩:=G.hr.blk i C hC
  refine⟨V.rns_mem (V.rn_one σ) h1, ?_⟩
  rcases h2 with⟨hn,hc0⟩|⟨g,cs,hg,hA,hh,hle,hcs⟩
  ·refine .inl ⟨by rw[he];exact hn, ?_⟩
   simp[Blk.rn,hc0,V.rns]
  refine .inr ⟨g,cs,by rw[he];exact hg,fun ha=>hA (.inl ha),by simpa[Blk.rn,V.rns_length]using hh, ?_, ?_⟩
  ·simpa[Blk.rn,V.rns_length]using hle
  have:=(VCells.rn_to hto _ _ hcs).avoid (fun g _ hx=>hX3 g hx)
  simpa[Blk.rn,V.rns_length]using this
 intro b c B C g hb1 hc1 mb mc
 rcases hcase hb1 with⟨hb0,hb3⟩|⟨i,D,hD,rfl,rfl,he⟩<;>rcases hcase hc1 with⟨hc0,hc3⟩|⟨j,E,hE,rfl,rfl,he'⟩
 ·rw[aVP (by rw[H.len];exact(aVO.1 hb3).1)]at mb
  rw[aVP (by rw[H.len];exact(aVO.1 hc3).1)]at mc
  exact H.inj b c B C g hb3 hc3 mb mc
 ·rw[aVP (by rw[H.len];exact(aVO.1 hb3).1)]at mb
  rw[he']at mc
  obtain⟨_,⟨hn,_⟩|⟨g',cs,hg,hA,_⟩⟩:=G.hr.blk j E hE
  ·rw[mc]at hn;cases hn
  rw[mc]at hg;injection hg with hg;injection hg with hg;subst hg
  exact absurd (.inr ⟨b,B,hb0,hb3,mb⟩) hA
 ·rw[aVP (by rw[H.len];exact(aVO.1 hc3).1)]at mc
  rw[he]at mb
  obtain⟨_,⟨hn,_⟩|⟨g',cs,hg,hA,_⟩⟩:=G.hr.blk i D hD
  ·rw[mb]at hn;cases hn
  rw[mb]at hg;injection hg with hg;injection hg with hg;subst hg
  exact absurd (.inr ⟨c,C,hc0,hc3,mc⟩) hA
 rw[G.hr.inj i j D E g hD hE (by rw[←he];exact mb) (by rw[←he'];exact mc)]
def iW :List (Nat×V)→Nat→Option V
 | [],_=>none
 |(u,x)::r,t=>bif aW0 u t then some x else iW r t
def aI (n:Nat)(fr:List (Nat×V)):List V:=(aWO n).map fun t=>(iW fr t).getD .any
theorem yO (n:Nat)(fr:List (Nat×V)):(aI n fr).length=n:=by simp[aI]
theorem aC8 {n t:Nat}{fr:List (Nat×V)}(h:t<n):(aI n fr)[t]? =some ((iW fr t).getD .any):=by simp[aI,h]
def bZ (n:Nat)(fr:List (Nat×V)):Operand→Option V
 | .tmp t=>bif aXE t n then iW fr t else none
 | .const v=>some (ofValue v)
 | .func f=>some (.sc (.func (.func f) #[] #[]))
 | .global g=>(GT g).map fun e=> .eptr [e] 0 0
theorem dH {n:Nat}{fr:List (Nat×V)}{o:Operand}{x:V}(h:bZ n fr o=some x):ev (aI n fr) o=some x:=by
 cases o with
 |tmp t=>
  simp only[bZ]at h
  cases hb:aXE t n with
  |false=>rw[hb]at h;cases h
  |true=>
   rw[hb]at h
   simp only[cond_true]at h
   have ht:t<n:=by have h2:Nat.ble (t+1) n=true:=hb;exact aWv h2
   simp only[ev]
   rw[aC8 ht,h];rfl
 |const v=>exact h
 |func f=>exact h
 |global g=>exact h
theorem aG3 {n t:Nat}{fr:List (Nat×V)}{x:V}:mN (aI n fr) (some t) x=aI n ((t,x)::fr):=by
 simp only[mN]
 apply aWz
 intro i
 by_cases hi:i<n
 ·rw[aC8 hi]
  by_cases ht:t=i
  ·subst ht
   rw[List.getElem?_set_self (by rw[yO];exact hi)]
   simp[iW]
  rw[aW9 ht,aC8 hi]
  have:aW0 t i=false:=by cases hb:aW0 t i with
   |false=>rfl
   |true=>exact absurd (aWm hb) ht
  simp[iW,this]
 rw[aWw (by rw[aXz,yO];omega),aWw (by rw[yO];omega)]
def AB (P:Program)(N:Nat)(c:Code)(Q:Ex→List V→Hp→Prop)(s:List V)(h:Hp):Prop:=
 ∀(A:Nat→Prop)(M0 M:List (Option Nat))(h0:Hp)(w0:World)(a:Act)(w:World),h0.length=N→M0.length=N→Grow A M0 h0 w0 M h w→Rel A M s h a w→
  c.wp P (fun e a' w'=> ∃x s' h' M',e=Ex.toExit x∧Q x s' h'∧Grow A M0 h0 w0 M' h' w'∧Rel A M' s' h' a' w') a w
section
variable {P:Program}{N:Nat}{Q Q':Ex→List V→Hp→Prop}{s s':List V}{h h':Hp}
theorem AB.of {c:Code}(hh:AW P c Q s h):AB P N c Q s h:=fun A M0 M h0 w0 a w _ _ G R=>
 Code.wp_mono (fun e a' w' ⟨x,s',h',M',h1,h2,h3,h4⟩=>⟨x,s',h',M',h1,h2,G.trans h3,h4⟩) (hh A M a w R)
theorem AB.mono {c:Code}(hh:AB P N c Q s h)(hq: ∀x s h,Q x s h→Q' x s h):AB P N c Q' s h:=fun A M0 M h0 w0 a w hN hM G R=>
 Code.wp_mono (fun e a' w' ⟨x,s',h',M',h1,h2,h3,h4⟩=>⟨x,s',h',M',h1,hq _ _ _ h2,h3,h4⟩) (hh A M0 M h0 w0 a w hN hM G R)
theorem AB.skip (hq:Q .normal s h):AB P N .skip Q s h:=AB.of (AW.skip hq)
theorem AB.exit {id:Nat}(hq:Q (.exit id) s h):AB P N (.exit id) Q s h:=AB.of (AW.exit hq)
theorem AB.ret (hq:Q .ret s h):AB P N .ret Q s h:=AB.of (AW.ret hq)
theorem AB.seq {c d:Code}(hh:AB P N c (Ex.then (AB P N d Q) Q) s h):AB P N (.seq c d) Q s h:=by
 intro A M0 M h0 w0 a w hN hM G R
 refine wp_seq (Code.wp_mono (fun e a' w' ⟨x,s1,h1,M1,he,hq,G1,R1⟩=> ?_) (hh A M0 M h0 w0 a w hN hM G R))
 subst he
 cases x with
 |normal=>exact hq A M0 M1 h0 w0 a' w' hN hM G1 R1
 |exit id=>exact⟨.exit id,s1,h1,M1,rfl,hq,G1,R1⟩
 |ret=>exact⟨.ret,s1,h1,M1,rfl,hq,G1,R1⟩
theorem AB.cond {c:Operand}{x y:Code}{t:Bool}(hc:ev s c=some (.sc (.bool t)))(h1:t=true→AB P N x Q s h)(h2:t=false→AB P N y Q s h):AB P N (.cond c x y) Q s h:=by
 intro A M0 M h0 w0 a w hN hM G R
 have hv:=cK R.hr.glob R.sr hc
 unfold VR at hv
 refine wp_cond hv ?_
 cases t with
 |true=>exact h1 rfl A M0 M h0 w0 a w hN hM G R
 |false=>exact h2 rfl A M0 M h0 w0 a w hN hM G R
theorem AB.block {id:Nat}{c:Code}(hh:AB P N c (Ex.inBlock id Q) s h):AB P N (.block id c) Q s h:=by
 intro A M0 M h0 w0 a w hN hM G R
 refine wp_block (Code.wp_mono (fun e a' w' ⟨x,s1,h1,M1,he,hq,G,R1⟩=> ?_) (hh A M0 M h0 w0 a w hN hM G R))
 subst he
 cases x with
 |normal=>exact⟨.normal,s1,h1,M1,rfl,hq,G,R1⟩
 |exit i=>
  show Exit.inBlock id _ (.exit i) a' w'
  simp only[Exit.inBlock]
  simp only[Ex.inBlock]at hq
  split
  ·rename_i hi;rw[if_pos hi]at hq;exact⟨.normal,s1,h1,M1,rfl,hq,G,R1⟩
  rename_i hi;rw[if_neg hi]at hq;exact⟨.exit i,s1,h1,M1,rfl,hq,G,R1⟩
 |ret=>exact⟨.ret,s1,h1,M1,rfl,hq,G,R1⟩
theorem AB.loop {c:Code}(I:Nat→List V→Hp→Prop){n:Nat}(h0:I n s h)(round: ∀n s h,I n s h→AB P N c (Ex.then (fun s' h'=> ∃m,m<n∧I m s' h') Q) s h):AB P N (.loop c) Q s h:=by
 intro A M0 M hh0 w0 a w hN hM G R
 let p:Act→World→Nat→Prop:=fun a' w' k=> ∃s' h' M',I k s' h'∧Grow A M0 hh0 w0 M' h' w'∧Rel A M' s' h' a' w'
 let μ:Act→World→Nat:=fun a' w'=>Classical.epsilon fun k=>p a' w' k∧ ∀j,p a' w' j→k≤j
 have hμ: ∀a' w',(∃k,p a' w' k)→p a' w' (μ a' w')∧ ∀j,p a' w' j→μ a' w'≤j:=fun a' w' hh=>Classical.epsilon_spec (fO hh)
 refine wp_loop (fun a' w'=> ∃k,p a' w' k) μ ⟨n,s,h,M,h0,G,R⟩ ?_
 intro a1 w1 hI
 obtain⟨s1,h1,M1,hIk,G1,R1⟩:=(hμ a1 w1 hI).1
 refine Code.wp_mono (fun e a2 w2 ⟨x,s2,h2,M2,he,hq,G2,R2⟩=> ?_) (round _ s1 h1 hIk A M0 M1 hh0 w0 a1 w1 hN hM G1 R1)
 subst he
 cases x with
 |normal=>
  obtain⟨m,hm,hIm⟩:=hq
  have hex2:p a2 w2 m:=⟨s2,h2,M2,hIm,G2,R2⟩
  exact⟨⟨m,hex2⟩,Nat.lt_of_le_of_lt ((hμ a2 w2 ⟨m,hex2⟩).2 m hex2) hm⟩
 |exit id=>exact⟨.exit id,s2,h2,M2,rfl,hq,G2,R2⟩
 |ret=>exact⟨.ret,s2,h2,M2,rfl,hq,G2,R2⟩
theorem AB.loopN {c:Code}(I:Nat→List V→Hp→Prop){n:Nat}(h0:I n s h)(r0: ∀s h,¬I 0 s h)(round: ∀n s h,I (n+1) s h→AB P N c (Ex.then (I n) Q) s h):AB P N (.loop c) Q s h:=by
 refine AB.loop I h0 fun n s h hI=> ?_
 cases n with
 |zero=>exact absurd hI (r0 s h)
 |succ n=>
  refine(round n s h hI).mono fun x s h hq=> ?_
  cases x with
  |normal=>exact⟨n,Nat.lt_succ_self n,hq⟩
  |exit id=>exact hq
  |ret=>exact hq
end
mutual
def V.le (vn:Nat→Bool):V→V→Prop
 |x,.any=>True
 | .row a k es,.row b k' es'=>(b=none∨a=b)∧es=es'∧(k=k'∨es=[])
 | .row a _ es,.sl b off n _ _=>a=some true∧es=[]∧vn b=true∧off=0∧n=0
 | .agg cs,.agg ds=>V.les vn cs ds
 | .tup cs,.tup ds=>V.les vn cs ds
 |x,y=>x=y
def V.les (vn:Nat→Bool):List V→List V→Prop
 | [],[]=>True
 |c::cs,d::ds=>V.le vn c d∧V.les vn cs ds
 |_,_=>False
end
def noN :Nat→Bool:=fun _=>false
mutual
theorem V.le_refl (vn:Nat→Bool): ∀x:V,V.le vn x x
 | .any=>by unfold V.le;trivial
 | .row a k es=>by unfold V.le;exact⟨.inr rfl,rfl,.inl rfl⟩
 | .agg cs=>by unfold V.le;exact V.les_refl vn cs
 | .tup cs=>by unfold V.le;exact V.les_refl vn cs
 | .sc _=>by unfold V.le;rfl
 | .ptr _ _=>by unfold V.le;rfl
 | .sl _ _ _ _ _=>by unfold V.le;rfl
 | .eptr _ _ _=>by unfold V.le;rfl
 | .mp _=>by unfold V.le;rfl
theorem V.les_refl (vn:Nat→Bool): ∀cs:List V,V.les vn cs cs
 | []=>by unfold V.les;trivial
 |c::cs=>by unfold V.les;exact⟨V.le_refl vn c,V.les_refl vn cs⟩
end
theorem V.le_nil {vn:Nat→Bool}{a:Option Bool}{k k':Nat}:V.le vn (.row a k []) (.row none k' []):=by unfold V.le;exact⟨.inl rfl,rfl,.inr rfl⟩
theorem V.le_virt {vn:Nat→Bool}{k k' b:Nat}{ag:Bool}(hb:vn b=true):V.le vn (.row (some true) k []) (.sl b 0 0 k' ag):=by unfold V.le;exact⟨rfl,rfl,hb,rfl,rfl⟩
section
variable {X:Nat→Prop}{M:List (Option Nat)}{w:World}{vn:Nat→Bool}
mutual
theorem V.le_sound (hvn: ∀b,vn b=true→M[b]? =some none): ∀(x y:V)(v:Value),V.le vn x y→VR X M w x v→VR X M w y v
 |x,.any,v,_,_=>by unfold VR;trivial
 | .row a k es,.row b k' es',v,h,hv=>by
  unfold V.le at h
  obtain⟨h1,rfl,h3⟩:=h
  unfold VR at hv⊢
  obtain⟨ad,cap,e1,e2,e3,e4,e5,e6⟩:=hv
  refine⟨ad,cap,e1,e2,e3, ?_, ?_, ?_⟩
  ·rcases h1 with rfl|rfl
   ·intro b hb;cases hb
   exact e4
  ·rcases h3 with rfl|rfl
   ·exact e5
   simp
  rcases h3 with rfl|rfl
  ·exact e6
  exact fun hne=>absurd rfl hne
 | .row a k es,.sl b off n k' ag,v,h,hv=>by
  unfold V.le at h
  obtain⟨rfl,rfl,h3,rfl,rfl⟩:=h
  unfold VR at hv⊢
  obtain⟨ad,cap,e1,e2,e3,e4,e5,e6⟩:=hv
  have hn:ad=none:=e4 true rfl
  cases ad with
  |some ad=>simp at hn
  |none=>
   have:=e3 rfl
   subst this
   exact .inl ⟨hvn b h3,e1,rfl,rfl⟩
 | .agg cs,.agg ds,v,h,hv=>by
  unfold V.le at h
  unfold VR at hv⊢
  obtain⟨vs,e1,e2⟩:=hv
  exact⟨vs,e1,V.les_sound hvn cs ds vs h e2⟩
 | .tup cs,.tup ds,v,h,hv=>by
  unfold V.le at h
  unfold VR at hv⊢
  obtain⟨vs,e1,e2⟩:=hv
  exact⟨vs,e1,V.les_sound hvn cs ds vs h e2⟩
 | .sc c,y,v,h,hv=>by
  cases y<;>first|(unfold VR;trivial)|(unfold V.le at h;injection h with h;subst h;exact hv)|(unfold V.le at h;cases h)
 | .mp _,y,v,h,hv=>by
  cases y<;>first|(unfold VR;trivial)|(unfold V.le at h;injection h with h;subst h;exact hv)|(unfold V.le at h;cases h)
 | .ptr _ _,y,v,h,hv=>by
  cases y<;>first|(unfold VR;trivial)|(unfold V.le at h;injection h with h1 h2;subst h1 h2;exact hv)|(unfold V.le at h;cases h)
 | .sl _ _ _ _ _,y,v,h,hv=>by
  cases y<;>first|(unfold VR;trivial)|(unfold V.le at h;injection h with h1 h2 h3 h4 h5;subst h1 h2 h3 h4 h5;exact hv)|(unfold V.le at h;cases h)
 | .eptr _ _ _,y,v,h,hv=>by
  cases y<;>first|(unfold VR;trivial)|(unfold V.le at h;injection h with h1 h2 h3;subst h1 h2 h3;exact hv)|(unfold V.le at h;cases h)
theorem V.les_sound (hvn: ∀b,vn b=true→M[b]? =some none): ∀(cs ds:List V)(vs:List Value),V.les vn cs ds→VCells X M w cs vs→VCells X M w ds vs
 | [],[],vs,_,hv=>hv
 |c::cs,d::ds,vs,h,hv=>by
  unfold V.les at h
  unfold VCells at hv⊢
  obtain⟨v,rest,e1,e2,e3⟩:=hv
  exact⟨v,rest,e1,V.le_sound hvn c d v h.1 e2,V.les_sound hvn cs ds rest h.2 e3⟩
end
end
def Ghost (N:Nat)(s:List V)(h:Hp)(s':List V)(h':Hp):Prop:=
 ∀(A:Nat→Prop)(M:List (Option Nat))(a:Act)(w:World),N≤M.length→Rel A M s h a w→
  ∃M',M'.take N=M.take N∧Rel A M' s' h' a w∧ ∀g,eM M' h' g→eM M h g
theorem AB.ghost {P:Program}{N:Nat}{c:Code}{Q:Ex→List V→Hp→Prop}{s s':List V}{h h':Hp}(hg:Ghost N s h s' h')(hh:AB P N c Q s' h'):AB P N c Q s h:=by
 intro A M0 M h0 w0 a w hN hM G R
 obtain⟨t,ht⟩:=G.pre
 have hle:N≤M.length:=by rw[←ht];simp[hM]
 obtain⟨M',h1,h2,h3⟩:=hg A M a w hle R
 refine hh A M0 M' h0 w0 a w hN hM ⟨?_,h2.hr,G.ext,fun g hg hl=>G.live g hg (h3 g hl)⟩ h2
 have:M0=M'.take N:=by rw[h1,←ht,←hM];simp
 rw[this]
 exact aW3 _ _
def FLe (vn:Nat→Bool)(g:V→V)(fr:List (Nat×V)):List (Nat×V)→Prop
 | []=>True
 |(t,y)::r=>(∃x,iW fr t=some x∧V.le vn x (g y))∧FLe vn g fr r
theorem FLe.nil {vn:Nat→Bool}{g:V→V}{fr:List (Nat×V)}:FLe vn g fr []:=trivial
theorem FLe.same {vn:Nat→Bool}{g:V→V}{fr r:List (Nat×V)}{t:Nat}{y:V}(h:iW fr t=some (g y))(k:FLe vn g fr r):FLe vn g fr ((t,y)::r):=⟨⟨_,h,V.le_refl _ _⟩,k⟩
theorem FLe.le {vn:Nat→Bool}{g:V→V}{fr r:List (Nat×V)}{t:Nat}{x y:V}(h:iW fr t=some x)(hl:V.le vn x (g y))(k:FLe vn g fr r):FLe vn g fr ((t,y)::r):=⟨⟨_,h,hl⟩,k⟩
theorem FLe.get {vn:Nat→Bool}{g:V→V}{fr:List (Nat×V)}: ∀{fr':List (Nat×V)},FLe vn g fr fr'→ ∀{t:Nat}{y:V},iW fr' t=some y→ ∃x,iW fr t=some x∧V.le vn x (g y)
 | [],_,t,y,hy=>by cases hy
 |(u,z)::r,h,t,y,hy=>by
  simp only[iW]at hy
  cases hb:aW0 u t with
  |true=>
   rw[hb]at hy
   have:=aWm hb
   subst this
   simp only[cond_true,aVS]at hy
   subst hy
   exact h.1
  |false=>rw[hb]at hy;exact h.2.get hy
theorem aGx {X:Nat→Prop}{M M':List (Option Nat)}{w:World}{n:Nat}{fr fr':List (Nat×V)}{a:Act}{X':Nat→Prop}(S:SR X M w (aI n fr) a)
  (hh: ∀(t:Nat)(y:V),iW fr' t=some y→ ∃x,iW fr t=some x∧ ∀v,VR X M w x v→VR X' M' w y v):SR X' M' w (aI n fr') a:=by
 refine⟨by rw[yO,←S.len,yO],fun t y hy=> ?_⟩
 have ht:t<n:=by have:=(aVO.1 hy).1;rw[yO]at this;exact this
 rw[aC8 ht]at hy
 injection hy with hy
 cases hl:iW fr' t with
 |none=>rw[hl]at hy;subst hy;unfold VR;trivial
 |some z=>
  rw[hl]at hy
  subst hy
  obtain⟨x,hx,hv⟩:=hh t z hl
  exact hv _ (S.val t x (by rw[aC8 ht,hx];rfl))
def HLe (f:Nat→Nat)(h:Hp):List Nat→Hp→Prop
 | [],[]=>True
 |_::σ,none::h'=>HLe f h σ h'
 |b::σ,some B'::h'=>(∃B,h[b]? =some (some B)∧B.e=B'.e∧V.les noN B.cells (V.rns f B'.cells)∧B'.cells.all V.one=true)∧HLe f h σ h'
 |_,_=>False
theorem HLe.nil {f:Nat→Nat}{h:Hp}:HLe f h [] []:=trivial
theorem HLe.dead {f:Nat→Nat}{h h':Hp}{b:Nat}{σ:List Nat}(k:HLe f h σ h'):HLe f h (b::σ) (none::h'):=k
theorem HLe.live {f:Nat→Nat}{h h':Hp}{b:Nat}{σ:List Nat}{e:TypeId}{cs cs':List V}(hb:h[b]? =some (some ⟨e,cs⟩))(hc:V.les noN cs (V.rns f cs'))(ho:cs'.all V.one=true)(k:HLe f h σ h'):HLe f h (b::σ) (some ⟨e,cs'⟩::h'):=⟨⟨_,hb,rfl,hc,ho⟩,k⟩
theorem HLe.get {f:Nat→Nat}{h:Hp}: ∀{σ:List Nat}{h':Hp},HLe f h σ h'→ ∀{j:Nat}{B':Blk},h'[j]? =some (some B')→ ∃b B,σ[j]? =some b∧h[b]? =some (some B)∧B.e=B'.e∧V.les noN B.cells (V.rns f B'.cells)∧B'.cells.all V.one=true
 | [],[],_,j,B',hj=>by simp at hj
 |b::σ,none::h',hh,j,B',hj=>by
  cases j with
  |zero=>simp at hj
  |succ j=>simp only[aVT]at hj ⊢; exact HLe.get (σ:=σ) hh hj
 |b::σ,some B::h',hh,j,B',hj=>by
  cases j with
  |zero=>
   simp only[aV5,aVS]at hj
   subst hj
   obtain⟨C,h1,h2,h3,h4⟩:=hh.1
   exact⟨b,C,rfl,h1,h2,h3,h4⟩
  |succ j=>simp only[aVT]at hj ⊢; exact HLe.get (σ:=σ) hh.2 hj
 | [],_::_,hh,_,_,_=>hh.elim
 |_::_,[],hh,_,_,_=>hh.elim
theorem HLe.len {f:Nat→Nat}{h:Hp}: ∀{σ:List Nat}{h':Hp},HLe f h σ h'→σ.length=h'.length
 | [],[],_=>rfl
 |b::σ,none::h',hh=>by simp[HLe.len (σ:=σ) hh]
 |b::σ,some B::h',hh=>by simp[HLe.len (σ:=σ) hh.2]
 | [],_::_,hh=>hh.elim
 |_::_,[],hh=>hh.elim
def lvs :List Nat→Hp→List Nat
 |b::σ,some _::h'=>b::lvs σ h'
 |_::σ,none::h'=>lvs σ h'
 |_,_=>[]
theorem aGC : ∀{σ:List Nat}{h':Hp}{j b:Nat}{B:Blk},h'[j]? =some (some B)→σ[j]? =some b→b∈lvs σ h'
 | [],_,j,b,B,_,hb=>by simp at hb
 |_::_,[],j,b,B,hj,_=>by simp at hj
 |c::σ,some C::h',0,b,B,hj,hb=>by simp at hb;simp[lvs,hb]
 |c::σ,some C::h',j+1,b,B,hj,hb=>by
  simp only[aVT]at hj hb
  simp[lvs,aGC hj hb]
 |c::σ,none::h',0,b,B,hj,hb=>by simp at hj
 |c::σ,none::h',j+1,b,B,hj,hb=>by
  simp only[aVT]at hj hb
  simp[lvs,aGC hj hb]
theorem aI7 : ∀{σ:List Nat}{h':Hp},(lvs σ h').Nodup→ ∀{i j b:Nat}{B C:Blk},h'[i]? =some (some B)→h'[j]? =some (some C)→σ[i]? =some b→σ[j]? =some b→i=j
 | [],_,_,i,j,b,B,C,_,_,hb,_=>by simp at hb
 |_::_,[],_,i,j,b,B,C,hi,_,_,_=>by simp at hi
 |c::σ,some D::h',hn,0,0,b,B,C,_,_,_,_=>rfl
 |c::σ,some D::h',hn,0,j+1,b,B,C,hi,hj,bi,bj=>by
  simp only[aVT,aV5,aVS]at hj bi bj
  subst bi
  exact absurd (aGC hj bj) (aWu.1 hn).1
 |c::σ,some D::h',hn,i+1,0,b,B,C,hi,hj,bi,bj=>by
  simp only[aVT,aV5,aVS]at hi bi bj
  subst bj
  exact absurd (aGC hi bi) (aWu.1 hn).1
 |c::σ,some D::h',hn,i+1,j+1,b,B,C,hi,hj,bi,bj=>by
  simp only[aVT]at hi hj bi bj
  rw[aI7 (aWu.1 hn).2 hi hj bi bj]
 |c::σ,none::h',hn,0,_,b,B,C,hi,_,_,_=>by simp at hi
 |c::σ,none::h',hn,i+1,0,b,B,C,_,hj,_,_=>by simp at hj
 |c::σ,none::h',hn,i+1,j+1,b,B,C,hi,hj,bi,bj=>by
  simp only[aVT]at hi hj bi bj
  rw[aI7 (σ:=σ) hn hi hj bi bj]
def ndB :List Nat→Bool
 | []=>true
 |b::l=> !(l.elem b)&&ndB l
theorem aKo : ∀{l:List Nat},ndB l=true→l.Nodup
 | [],_=>List.nodup_nil
 |b::l,h=>by
  simp only[ndB,aV0,Bool.not_eq_true']at h
  refine aWu.2 ⟨fun hm=> ?_,aKo h.2⟩
  rw[List.elem_eq_true_of_mem hm]at h
  cases h.1
theorem aTZ {ρ:List Nat}{L i b:Nat}(h:ρ[i]? =some b):sg ρ L i=b:=by simp[sg,h]
theorem aUg {ρ:List Nat}{L i:Nat}(h:ρ.length≤i):sg ρ L i=L+(i-ρ.length):=by simp[sg,h]
theorem V.les_length {vn:Nat→Bool}: ∀{cs ds:List V},V.les vn cs ds→cs.length=ds.length
 | [],[],_=>rfl
 |c::cs,d::ds,h=>by unfold V.les at h;simp[V.les_length h.2]
 | [],_::_,h=>by unfold V.les at h;exact h.elim
 |_::_,[],h=>by unfold V.les at h;exact h.elim
theorem Ghost.rn {N n:Nat}{fr fr':List (Nat×V)}{h h':Hp}(σ:List Nat)(hσ:σ.take N=aWO N)(hlt:σ.all (fun b=>aXE b h.length)=true)(hf:FLe noN (V.rn (sg σ h.length)) fr fr')
  (hh:HLe (sg σ h.length) h σ h') (hnd:ndB (lvs σ h')=true):Ghost N (aI n fr) h (aI n fr') h':=by
 intro A M a w hN R
 have hM:M.length=h.length:=R.hr.len
 have hltb: ∀b∈σ,b<M.length:=fun b hb=>by
  have h2:=aVV.1 hlt b hb
  rw[hM];exact aWv (n:=b+1) h2
 let M':List (Option Nat):=σ.map fun b=>(M[b]?).getD none
 have hM': ∀{j b:Nat},σ[j]? =some b→M'[j]? =M[b]? :=by
  intro j b hj
  have hb:=hltb b (aV1 hj)
  simp only[M',aV6,hj,aVX]
  rw[aVQ hb];rfl
 have hfrom: ∀b y,M[sg σ h.length b]? =some y→M'[b]? =some y:=by
  intro b y hy
  rcases aWl b σ.length with hl|hl
  ·have hi:σ[b]? =some σ[b]:=aVQ hl
   rw[hM' hi];rw[aTZ hi]at hy;exact hy
  rw[aUg hl]at hy
  have:=(aVO.1 hy).1
  omega
 have hlive: ∀g,eM M' h' g→eM M h g:=by
  rintro g ⟨j,B',hj,hm⟩
  obtain⟨b,B,h1,h2,_⟩:=hh.get hj
  exact⟨b,B,h2,by rw[←hM' h1];exact hm⟩
 have hX: ∀g,Xs A M' h' g→Xs A M h g:=fun g hx=>hx.elim .inl (fun hl=> .inr (hlive g hl))
 refine⟨M', ?_,⟨⟨by simp[M',hh.len],R.hr.alt, ?_, ?_,R.hr.glob.avoid fun g _ hx=>hX g hx⟩, ?_,R.defers⟩,hlive⟩
 ·simp only[M',←aWD,hσ]
  apply aWz
  intro i
  rw[aV6,aXf]
  rcases aWl i N with hi|hi
  ·simp only[aXd hi,aVX,hi,if_true]
   rw[aVQ (aWt hi hN)];rfl
  have: ¬i<N:=by omega
  simp[this]
 ·intro j B' hj
  obtain⟨b,B,h1,h2,h3,h4,h5⟩:=hh.get hj
  refine⟨aVV.1 h5, ?_⟩
  have hlen:B.cells.length=B'.cells.length:=by rw[V.les_length h4,V.rns_length]
  rcases(R.hr.blk b B h2).2 with⟨hn,hc0⟩|⟨g,cs,hg,hA,hw,hle,hcs⟩
  ·refine .inl ⟨by rw[hM' h1];exact hn,aVU (by rw[←hlen,hc0];rfl)⟩
  refine .inr ⟨g,cs,by rw[hM' h1];exact hg,hA,by rw[←h3,←hlen];exact hw,by rw[←hlen];exact hle, ?_⟩
  rw[←hlen]
  exact(VCells.rn_from hfrom _ _ (V.les_sound (fun _ hb=>by cases hb) _ _ _ h4 hcs)).avoid (fun g _ hx=>hX g hx)
 ·intro i j B C g hi hj mi mj
  obtain⟨b,B1,h1,h2,_⟩:=hh.get hi
  obtain⟨c,C1,k1,k2,_⟩:=hh.get hj
  have:=R.hr.inj b c B1 C1 g h2 k2 (by rw[←hM' h1];exact mi) (by rw[←hM' k1];exact mj)
  subst this
  exact aI7 (aKo hnd) hi hj h1 k1
 exact aGx R.sr (fun t y hy=>by
  obtain⟨x,hx,hl⟩:=hf.get hy
  exact⟨x,hx,fun v hv=>(VR.rn_from hfrom _ _ (V.le_sound (fun _ hb=>by cases hb) _ _ _ hl hv)).avoid (fun g _ hx=>hX g hx)⟩)
def HLv (vn:Nat→Bool):Hp→Hp→Prop
 | [],[]=>True
 |none::h,none::h'=>HLv vn h h'
 |some B::h,some B'::h'=>(B.e=B'.e∧V.les vn B.cells B'.cells∧B'.cells.all V.one=true)∧HLv vn h h'
 |_,_=>False
theorem HLv.nil {vn:Nat→Bool}:HLv vn [] []:=trivial
theorem HLv.dead {vn:Nat→Bool}{h h':Hp}(k:HLv vn h h'):HLv vn (none::h) (none::h'):=k
theorem HLv.live {vn:Nat→Bool}{h h':Hp}{e:TypeId}{cs cs':List V}(hc:V.les vn cs cs')(ho:cs'.all V.one=true)(k:HLv vn h h'):HLv vn (some ⟨e,cs⟩::h) (some ⟨e,cs'⟩::h'):=⟨⟨rfl,hc,ho⟩,k⟩
theorem HLv.get {vn:Nat→Bool}: ∀{h h':Hp},HLv vn h h'→ ∀{j:Nat}{B':Blk},h'[j]? =some (some B')→ ∃B,h[j]? =some (some B)∧B.e=B'.e∧V.les vn B.cells B'.cells∧B'.cells.all V.one=true
 | [],[],_,j,B',hj=>by simp at hj
 |none::h,none::h',hh,j,B',hj=>by
  cases j with
  |zero=>simp at hj
  |succ j=>simp only[aVT]at hj ⊢; exact HLv.get (h:=h) hh hj
 |some B::h,some C::h',hh,j,B',hj=>by
  cases j with
  |zero=>
   simp only[aV5,aVS]at hj
   subst hj
   exact⟨B,rfl,hh.1.1,hh.1.2.1,hh.1.2.2⟩
  |succ j=>simp only[aVT]at hj ⊢; exact HLv.get (h:=h) hh.2 hj
 | [],_::_,hh,_,_,_=>hh.elim
 |none::_,[],hh,_,_,_=>hh.elim
 |some _::_,[],hh,_,_,_=>hh.elim
 |none::_,some _::_,hh,_,_,_=>hh.elim
 |some _::_,none::_,hh,_,_,_=>hh.elim
theorem HLv.len {vn:Nat→Bool}: ∀{h h':Hp},HLv vn h h'→h.length=h'.length
 | [],[],_=>rfl
 |none::h,none::h',hh=>by simp[HLv.len (h:=h) hh]
 |some B::h,some C::h',hh=>by simp[HLv.len (h:=h) hh.2]
 | [],_::_,hh=>hh.elim
 |none::_,[],hh=>hh.elim
 |some _::_,[],hh=>hh.elim
 |none::_,some _::_,hh=>hh.elim
 |some _::_,none::_,hh=>hh.elim
theorem Ghost.virt {N n:Nat}{fr fr':List (Nat×V)}{h h1:Hp}(e:TypeId)(hf:FLe (fun b=>aW0 b h.length) id fr fr')(hh:HLv (fun b=>aW0 b h.length) h h1)
  :Ghost N (aI n fr) h (aI n fr') (h1++[some ⟨e,[]⟩]):=by
 intro A M a w hN R
 have hM:M.length=h.length:=R.hr.len
 have G:=Grow.virt R.hr e
 have hvn: ∀b,aW0 b h.length=true→(M++[none])[b]? =some none:=fun b hb=>by
  have:=aWm hb
  subst this
  rw[←hM];simp
 have hlen:h1.length=h.length:=hh.len.symm
 have hcase: ∀{b:Nat}{B:Blk},(h1++[some ⟨e,[]⟩])[b]? =some (some B)→ ∃C,(h++[some ⟨e,[]⟩])[b]? =some (some C)∧C.e=B.e∧V.les (fun b=>aW0 b h.length) C.cells B.cells∧B.cells.all V.one=true:=by
  intro b B hb
  rcases fN hb with hb|⟨hbl,hB⟩
  ·obtain⟨C,c1,c2,c3,c4⟩:=hh.get hb
   exact⟨C,lO c1,c2,c3,c4⟩
  injection hB with hB
  subst hB
  exact⟨⟨e,[]⟩,by rw[hbl,hlen];simp,rfl,V.les_refl _ _,rfl⟩
 have hlive': ∀g,eM (M++[none]) (h1++[some ⟨e,[]⟩]) g→eM (M++[none]) (h++[some ⟨e,[]⟩]) g:=by
  rintro g ⟨b,B,hb,hm⟩
  obtain⟨C,c1,_⟩:=hcase hb
  exact⟨b,C,c1,hm⟩
 have hlive: ∀g,eM (M++[none]) (h1++[some ⟨e,[]⟩]) g→eM M h g:=by
  rintro g hl
  obtain⟨b,B,hb,hm⟩:=hlive' g hl
  rcases fN hm with hm'|⟨_,hm'⟩
  ·rcases fN hb with hb'|⟨rfl,_⟩
   ·exact⟨b,B,hb',hm'⟩
   have:=(aVO.1 hm').1;omega
  cases hm'
 refine⟨M++[none],by rw[aWe hN],⟨⟨by simp[hM,hlen],R.hr.alt, ?_, ?_,R.hr.glob.avoid fun g _ hx=>hx.elim .inl (fun hl=> .inr (hlive g hl))⟩, ?_,R.defers⟩,hlive⟩
 ·intro b B hb
  obtain⟨C,c1,c2,c3,c4⟩:=hcase hb
  refine⟨aVV.1 c4, ?_⟩
  have hl:=V.les_length c3
  rcases(G.hr.blk b C c1).2 with⟨hn,hc0⟩|⟨g,cs,hg,hA,hw,hle,hcs⟩
  ·exact .inl ⟨hn,aVU (by rw[←hl,hc0];rfl)⟩
  refine .inr ⟨g,cs,hg,hA,by rw[←c2,←hl];exact hw,by rw[←hl];exact hle, ?_⟩
  rw[←hl]
  exact(V.les_sound hvn _ _ _ c3 hcs).avoid (fun g _ hx=>hx.elim .inl (fun hl=> .inr (hlive' g hl)))
 ·intro b b' B B' g hb hb' hm hm'
  obtain⟨C,c1,_⟩:=hcase hb
  obtain⟨C',c1',_⟩:=hcase hb'
  exact G.hr.inj b b' C C' g c1 c1' hm hm'
 exact aGx R.sr (fun t y hy=>by
  obtain⟨x,hx,hl⟩:=hf.get hy
  exact⟨x,hx,fun v hv=>(V.le_sound hvn _ _ _ hl (G.keep hv)).avoid (fun g _ hx=>hx.elim .inl (fun hl=> .inr (hlive' g hl)))⟩)
theorem Ghost.trans {N:Nat}{s s1 s2:List V}{h h1 h2:Hp}(a:Ghost N s h s1 h1)(b:Ghost N s1 h1 s2 h2):Ghost N s h s2 h2:=by
 intro A M ac w hN R
 obtain⟨M1,e1,R1,l1⟩:=a A M ac w hN R
 have hN1:N≤M1.length:=by
  have:=congrArg aXy e1
  simp only[aV8]at this;omega
 obtain⟨M2,e2,R2,l2⟩:=b A M1 ac w hN1 R1
 exact⟨M2,e2.trans e1,R2,fun g hg=>l1 g (l2 g hg)⟩
abbrev eI (k:IntKind)(x:Int):V:= .sc (.int k x)
abbrev eB (x:Bool):V:= .sc (.bool x)
abbrev eS (x:ByteArray):V:= .sc (.string x)
abbrev eL {α:Type}(K:Nat)(E:α→V)(l:List α):V:= .row none K (l.map E)
def bY {α:Type}(l:List α)(i:Int):Option α:=if 0≤i then l[i.toNat]? else none
def sub {α:Type}(l:List α)(a b:Int):Option (List α):=if 0≤a∧a≤b∧b≤l.length then some ((l.take b.toNat).drop a.toNat)else none
def eE {α:Type}(by_:Nat)(l m:List α):Option (List α):=if(l.length+m.length)*by_≤oU then some (l++m)else none
def mks {α:Type}(by_:Nat)(z:α)(n:Int):Option (List α):=if 0≤n∧n.toNat*by_≤oU then some (aV7 n.toNat z)else none
def nE {α:Type}(l m:List α):List α:=m.take l.length++l.drop m.length
def quo (k:IntKind)(a b:Int):Option Int:=if b=0 then none else some (k.wrap (a.tdiv b))
def rem (a b:Int):Option Int:=if b=0 then none else some (a.tmod b)
def shl (k:IntKind)(a b:Int):Option Int:=if b<0 then none else some (k.wrap (a*2^(min b.toNat k.bits)))
def shr (k:IntKind)(a b:Int):Option Int:=if b<0 then none else some (a.fdiv (2^(min b.toNat k.bits)))
inductive LR (σ ρ:Type) where
 |brk (s:σ)
 |ret (r:ρ)
theorem aC {α β:Type}{o:Option α}{k:α→Option β}{r:β}(h:o.bind k=some r): ∃v,o=some v∧k v=some r:=by
 cases o with
 |none=>cases h
 |some v=>exact⟨v,rfl,h⟩
theorem dD {α:Type}{c:Bool}{a b:Option α}{r:α}(h:(if c=true then a else b)=some r)(hc:c=true):a=some r:=by subst hc;exact h
theorem dA {α:Type}{c:Bool}{a b:Option α}{r:α}(h:(if c=true then a else b)=some r)(hc:c=false):b=some r:=by subst hc;exact h
section
variable {P:Program}{O:wD}{ops:Array Oper}{l:List Oper}{n:Nat}{fr:List (Nat×V)}{h h':Hp}{K:List V→Hp→Prop}{op:Op}{ty:TypeId}{pos:String}{aft:Array Edge}{t:Nat}{v:V}{gd:Option (Nat×Bool)}
variable {o:Oper}
theorem aJ5 {j u:Nat}{want c:Bool}(hg:o.guard=some (j,want))(hj:(ops[j]?).bind (·.dst)=some u)(hl:bZ n fr (.tmp u)=some (.sc (.bool c))):mQ ops o (aI n fr)=some (c == want):=by
 have:=dH hl
 simp only[ev]at this
 unfold mQ
 rw[hg]
 simp only[hj,this,yV]
 cases c<;>cases want<;>rfl
variable {j u:Nat}{want c:Bool}{dd:Option Tmp}
theorem sv (hd:bW P O ⟨dd,op,ty,pos,aft,none⟩ (aI n fr) h=some (v,h')):dE P O ops ⟨dd,op,ty,pos,aft,none⟩ (aI n fr) h=some (v,h'):=by simp only[dE,mQ];exact hd
theorem svG (hj:(ops[j]?).bind (·.dst)=some u)(hl:bZ n fr (.tmp u)=some (.sc (.bool c)))(hc:c=want)(hd:bW P O ⟨dd,op,ty,pos,aft,some (j,want)⟩ (aI n fr) h=some (v,h')):dE P O ops ⟨dd,op,ty,pos,aft,some (j,want)⟩ (aI n fr) h=some (v,h'):=by
 subst hc
 simp only[dE,aJ5 (o:=⟨dd,op,ty,pos,aft,some (j,c)⟩) rfl hj hl,beq_self_eq_true]
 exact hd
theorem svX (hj:(ops[j]?).bind (·.dst)=some u)(hl:bZ n fr (.tmp u)=some (.sc (.bool c)))(hc:c= !want):dE P O ops ⟨dd,op,ty,pos,aft,some (j,want)⟩ (aI n fr) h=some (.sc undef,h):=by
 subst hc
 simp only[dE,aJ5 (o:=⟨dd,op,ty,pos,aft,some (j,want)⟩) rfl hj hl]
 cases want<;>rfl
theorem svU (hj:(ops[j]?).bind (·.dst)=some u)(hl:bZ n fr (.tmp u)=some (.sc undef)):dE P O ops ⟨dd,op,ty,pos,aft,some (j,want)⟩ (aI n fr) h=some (.sc undef,h):=by
 have:=dH hl
 simp only[ev]at this
 have hw:mQ ops ⟨dd,op,ty,pos,aft,some (j,want)⟩ (aI n fr)=some false:=by
  unfold mQ
  simp only[hj,this]
  cases want<;>rfl
 simp only[dE,hw]
def OpsW (P:Program)(N:Nat)(ops:Array Oper)(l:List Oper)(s:List V)(h:Hp)(K:List V→Hp→Prop):Prop:=
 ∀(k:Nat),(∀j,l[j]? =ops[k+j]?)→ ∀(A:Nat→Prop)(M0 M:List (Option Nat))(h0:Hp)(w0:World)(a:Act)(w:World)(Q:Exit→Act→World→Prop),h0.length=N→M0.length=N→Grow A M0 h0 w0 M h w→Rel A M s h a w→
  (∀s' h' M' a' w',K s' h'→Grow A M0 h0 w0 M' h' w'→Rel A M' s' h' a' w'→Q .normal a' w')→wpOps P ops Q (aXA k l.length) a w
variable {N:Nat}{s s':List V}
theorem OpsW.nil (hk:K s h):OpsW P N ops [] s h K:=fun k _ A M0 M h0 w0 a w Q _ _ G R hQ=>by
 simp only[aWP,aXq,wpOps]
 exact hQ s h M a w hk G R
theorem OpsW.cons (hO:aDW P O)(hs:dE P O ops o s h=some (v,h'))(hk:OpsW P N ops l (mN s o.dst v) h' K):OpsW P N ops (o::l) s h K:=fun k hl A M0 M h0 w0 a w Q hN hM G R hQ=>by
 have h0':ops[k]? =some o:=by simpa using (hl 0).symm
 simp only[aWb,aWK]
 rw[wpOps_cons]
 refine aEJ hO R h0' (s':=mN s o.dst v) (h':=h') (by rw[gB,hs];rfl) fun a' w' M' G' R'=> ?_
 exact hk (k+1) (fun j=>by have:=hl (j+1);simpa[aXg,aW4 1 j]using this) A M0 M' h0 w0 a' w' Q hN hM (G.trans G') R' hQ
theorem OpsW.ghost (hg:Ghost N s h s' h')(hk:OpsW P N ops l s' h' K):OpsW P N ops l s h K:=fun k hl A M0 M h0 w0 a w Q hN hM G R hQ=>by
 obtain⟨t,ht⟩:=G.pre
 have hle:N≤M.length:=by rw[←ht];simp[hM]
 obtain⟨M',h1,h2,h3⟩:=hg A M a w hle R
 refine hk k hl A M0 M' h0 w0 a w Q hN hM ⟨?_,h2.hr,G.ext,fun g hg hl=>G.live g hg (h3 g hl)⟩ h2 hQ
 have:M0=M'.take N:=by rw[h1,←ht,←hM];simp
 rw[this]
 exact aW3 _ _
theorem aKN :aDW P (fun _ _ _=>none):=fun _ _ _ _ _ hh=>by cases hh
abbrev O0 :wD:=fun _ _ _=>none
theorem wS (hs:dE P O0 ops ⟨some t,op,ty,pos,aft,gd⟩ (aI n fr) h=some (v,h'))(k:OpsW P N ops l (aI n ((t,v)::fr)) h' K):OpsW P N ops (⟨some t,op,ty,pos,aft,gd⟩::l) (aI n fr) h K:=
 OpsW.cons aKN hs (by dsimp only;rw[aG3];exact k)
theorem wN (hs:dE P O0 ops ⟨none,op,ty,pos,aft,gd⟩ (aI n fr) h=some (v,h'))(k:OpsW P N ops l (aI n fr) h' K):OpsW P N ops (⟨none,op,ty,pos,aft,gd⟩::l) (aI n fr) h K:=
 OpsW.cons aKN hs k
open Classical in
noncomputable def aFa (f:FuncId)(h:Hp)(xs:List V)(r:V)(h':Hp):wD:=fun k h1 xs1=>if k=f∧h1=h∧xs1=xs then some (r,h')else none
theorem aJk {f:FuncId}{xs:List V}{r:V}(hc:Fn P f h xs r h'):aDW P (aFa f h xs r h'):=fun k h1 xs1 r1 h2 hh=>by
 unfold aFa at hh
 split at hh
 ·rename_i he
  obtain⟨rfl,rfl,rfl⟩:=he
  simp only[aVS,aWg]at hh
  obtain⟨rfl,rfl⟩:=hh
  exact hc
 cases hh
theorem o7 {f:FuncId}{xs:List V}{r:V}:aFa f h xs r h' f h xs=some (r,h'):=by simp[aFa]
theorem AB.rw {Q:Ex→List V→Hp→Prop}{id:Nat}(hr:OpsW P N l.toArray l s h (Q .normal)):AB P N (.region id l.toArray false) Q s h:=by
 intro A M0 M h0 w0 a w hN hM G R
 refine wp_region ?_
 have:=hr 0 (fun j=>by simp) A M0 M h0 w0 a w (fun e a' w'=> ∃x s' h' M',e=Ex.toExit x∧Q x s' h'∧Grow A M0 h0 w0 M' h' w'∧Rel A M' s' h' a' w') hN hM G R (fun s' h' M' a' w' hk G' R'=>⟨.normal,s',h',M',rfl,hk,G',R'⟩)
 rw[List.range_eq_range']
 simpa using this
variable {d:Option Tmp}{g:Option (Nat×Bool)}{x y z:Operand}{a b:V}
theorem mI (hx:bZ n fr x=some a):bW P O ⟨d,.move x,ty,pos,aft,g⟩ (aI n fr) h=some (a,h):=by simp[bW,dH hx]
theorem pA (hx:bZ n fr x=some a):bW P O ⟨d,.assign x,ty,pos,aft,g⟩ (aI n fr) h=some (a,h):=by simp[bW,dH hx]
theorem aRU {c:Bool}(hz:bZ n fr z=some (.sc (.bool c)))(hc:c=true)(hx:bZ n fr x=some a):bW P O ⟨d,.pick z x y,ty,pos,aft,g⟩ (aI n fr) h=some (a,h):=by subst hc;simp[bW,dH hx,dH hz]
theorem aSv {c:Bool}(hz:bZ n fr z=some (.sc (.bool c)))(hc:c=false)(hy:bZ n fr y=some a):bW P O ⟨d,.pick z x y,ty,pos,aft,g⟩ (aI n fr) h=some (a,h):=by subst hc;simp[bW,dH hy,dH hz]
theorem v5 {bo:BinOp}{t u:TypeId}(hx:bZ n fr x=some a)(hy:bZ n fr y=some b)(hv:eT P bo t x y a b=some v):bW P O ⟨d,.binOp bo t x y u,ty,pos,aft,g⟩ (aI n fr) h=some (v,h):=by simp[bW,dH hx,dH hy,hv]
theorem aLO {uo:UnOp}{t:TypeId}(hx:bZ n fr x=some a)(hv:unV P uo a=some v):bW P O ⟨d,.unOp uo t x,ty,pos,aft,g⟩ (aI n fr) h=some (v,h):=by simp[bW,dH hx,hv]
theorem jQ {t u:TypeId}(hx:bZ n fr x=some a)(hv:aA2 P h t u a=some v):bW P O ⟨d,.convert t u x,ty,pos,aft,g⟩ (aI n fr) h=some (v,h):=by simp[bW,dH hx,hv]
theorem aUr {e:TypeId}{i:Nat}(hx:bZ n fr x=some a)(ho:a.flatOk=true)(hl:h.length=i)(hh:h++[some ⟨e,a.cells⟩]=h'):bW P O ⟨d,.box e x,ty,pos,aft,g⟩ (aI n fr) h=some (.ptr i 0,h'):=by
 subst hl hh;simp[bW,dH hx,aLN,ho]
theorem dR {e:TypeId}{i:Nat}{ti:TI}(ht:aU P e=some ti)(ho:(ti.zero.cells.toList.map fB).all V.one=true)(hl:h.length=i)(hh:h++[some ⟨e,ti.zero.cells.toList.map fB⟩]=h'):bW P O ⟨d,.alloc e,ty,pos,aft,g⟩ (aI n fr) h=some (.ptr i 0,h'):=by
 subst hl hh
 simp only[bW,aGq,ht]
 rw[if_pos ho]
theorem cA {t:TypeId}(hx:bZ n fr x=some a)(hv:fY P t h a=some v):bW P O ⟨d,.load t x,ty,pos,aft,g⟩ (aI n fr) h=some (v,h):=by simp[bW,dH hx,hv]
theorem bN {t:TypeId}(hx:bZ n fr x=some a)(hy:bZ n fr y=some b)(hv:u4 P t h a b=some h'):bW P O ⟨d,.store t x y,ty,pos,aft,g⟩ (aI n fr) h=some (.sc undef,h'):=by simp[bW,dH hx,dH hy,hv]
theorem aTp {i o:Nat}(hx:bZ n fr x=some (.ptr i o)):bW P O ⟨d,.nilCheck x,ty,pos,aft,g⟩ (aI n fr) h=some (.ptr i o,h):=by simp[bW,dH hx,t8]
theorem nL {t:TypeId}{f:Nat}(hx:bZ n fr x=some a)(hv:aR P t a f=some v):bW P O ⟨d,.fieldAddr t x f,ty,pos,aft,g⟩ (aI n fr) h=some (v,h):=by simp[bW,dH hx,hv]
theorem aCF {t:TypeId}(hx:bZ n fr x=some a)(hy:bZ n fr y=some b)(hv:jR P t a b=some v):bW P O ⟨d,.indexAddr t x y,ty,pos,aft,g⟩ (aI n fr) h=some (v,h):=by simp[bW,dH hx,dH hy,hv]
theorem aPG {t:TypeId}(hx:bZ n fr x=some a)(hy:bZ n fr y=some b)(hv:aBp P t a b=some v):bW P O ⟨d,.index t x y,ty,pos,aft,g⟩ (aI n fr) h=some (v,h):=by simp[bW,dH hx,dH hy,hv]
theorem aGH {i:Nat}{vs:List V}(hx:bZ n fr x=some (.tup vs))(hv:vs[i]? =some v):bW P O ⟨d,.extract x i,ty,pos,aft,g⟩ (aI n fr) h=some (v,h):=by simp[bW,dH hx,aFp,hv]
theorem aIR {t:TypeId}(hx:bZ n fr x=some a)(hy:bZ n fr y=some b)(hv:aBr P t a b h=some (v,h')):bW P O ⟨d,.makeSlice t x y,ty,pos,aft,g⟩ (aI n fr) h=some (v,h'):=by simp[bW,dH hx,dH hy,hv]
def tH (n:Nat)(fr:List (Nat×V)):List Operand→Option (List V)
 | []=>some []
 |o::os=>match bZ n fr o,tH n fr os with
  |some x,some xs=>some (x::xs)
  |_,_=>none
theorem aDz : ∀{os:List Operand}{xs:List V},tH n fr os=some xs→evs (aI n fr) os=some xs
 | [],xs,hh=>by simp only[tH,aVS]at hh;subst hh;rfl
 |o::os,xs,hh=>by
  simp only[tH]at hh
  split at hh
  ·rename_i x ys h1 h2
   injection hh with hh
   subst hh
   simp only[evs,aWh,dH h1,aWA,aWL,aWQ]
   have:=aDz h2
   unfold evs at this
   rw[this];rfl
  cases hh
def aEz (n:Nat)(fr:List (Nat×V)):List (Nat×Operand)→Option (List (Nat×V))
 | []=>some []
 |p::ps=>match bZ n fr p.2,aEz n fr ps with
  |some x,some xs=>some ((p.1,x)::xs)
  |_,_=>none
theorem aGe : ∀{ps:List (Nat×Operand)}{xs:List (Nat×V)},aEz n fr ps=some xs→zN (aI n fr) ps=some xs
 | [],xs,hh=>by simp only[aEz,aVS]at hh;subst hh;rfl
 |p::ps,xs,hh=>by
  simp only[aEz]at hh
  split at hh
  ·rename_i x ys h1 h2
   injection hh with hh
   subst hh
   simp only[zN,aWh,dH h1,aWA,aWL,aWQ,aVX]
   have:=aGe h2
   unfold zN at this
   rw[this];rfl
  cases hh
def aQc (n:Nat)(fr:List (Nat×V)):Operand→Option V
 | .const (.slice none 0 0)=>some (.row none 1 [])
 |o=>(bZ n fr o).map V.softA
theorem aSb {o:Operand}{x:V}(hh:aQc n fr o=some x):evB (aI n fr) o=some x:=by
 unfold aQc at hh
 split at hh
 ·exact hh
 rename_i hne
 simp only[aV3]at hh
 obtain⟨z,hz,rfl⟩:=hh
 have h2:=dH hz
 unfold evB
 split
 ·exact(hne rfl).elim
 rw[h2];rfl
def yP (n:Nat)(fr:List (Nat×V)):List (Nat×Operand)→Option (List (Nat×V))
 | []=>some []
 |p::ps=>match aQc n fr p.2,yP n fr ps with
  |some x,some xs=>some ((p.1,x)::xs)
  |_,_=>none
theorem aFt : ∀{ps:List (Nat×Operand)}{xs:List (Nat×V)},yP n fr ps=some xs→aA6 (aI n fr) ps=some xs
 | [],xs,hh=>by simp only[yP,aVS]at hh;subst hh;rfl
 |p::ps,xs,hh=>by
  simp only[yP]at hh
  split at hh
  ·rename_i x ys h1 h2
   injection hh with hh
   subst hh
   simp only[aA6,aWh,aSb h1,aWA,aWL,aWQ,aVX]
   have:=aFt h2
   unfold aA6 at this
   rw[this];rfl
  cases hh
theorem cE {t:TypeId}{ps:List (Nat×Operand)}{xs:List (Nat×V)}(hp:aEz n fr ps=some xs)(hv:wU P t xs=some v):bW P O ⟨d,.build t ps.toArray,ty,pos,aft,g⟩ (aI n fr) h=some (v,h):=by
 simp[bW,aGe hp,hv]
theorem pD {t:TypeId}{len:Nat}{ps:List (Nat×Operand)}{xs:List (Nat×V)}(hp:yP n fr ps=some xs)(hv:kQ P t len xs h=some (v,h')):bW P O ⟨d,.buildSlice t len ps.toArray,ty,pos,aft,g⟩ (aI n fr) h=some (v,h'):=by
 simp[bW,aFt hp,hv]
def aFT (n:Nat)(fr:List (Nat×V)):Option Operand→Option (Option V)
 |none=>some none
 |some o=>match bZ n fr o with
  |some x=>some (some x)
  |none=>none
theorem aG5 {o:Option Operand}{x:Option V}(hh:aFT n fr o=some x):tP (aI n fr) o=some x:=by
 cases o with
 |none=>exact hh
 |some o=>
  simp only[aFT]at hh
  split at hh
  ·rename_i y hy;injection hh with hh;subst hh;simp[tP,dH hy]
  cases hh
theorem cZ {t:TypeId}{lo hi:Option Operand}{vl vh:Option V}(hx:bZ n fr x=some a)(h1:aFT n fr lo=some vl)(h2:aFT n fr hi=some vh)(hv:lE P t h a vl vh=some v):bW P O ⟨d,.slice t x lo hi none,ty,pos,aft,g⟩ (aI n fr) h=some (v,h):=by
 simp[bW,dH hx,aG5 h1,aG5 h2,hv]
theorem aQG {t:TypeId}{lo:Option Operand}{hi mx:Operand}{vl:Option V}{vh vm:V}(hx:bZ n fr x=some a)(h1:aFT n fr lo=some vl)(h2:bZ n fr hi=some vh)(h3:bZ n fr mx=some vm)(hv:aBD P t a vl vh vm=some v):bW P O ⟨d,.slice t x lo (some hi) (some mx),ty,pos,aft,g⟩ (aI n fr) h=some (v,h):=by
 simp[bW,dH hx,aG5 h1,dH h2,dH h3,hv]
variable {ws:List Operand}{ts:List TypeId}{xs:List V}
theorem aQX {t:TypeId}(hx:bZ n fr x=some a)(hv:aGf P t a=some v):bW P O ⟨d,.call ⟨.builtin .len,#[x],#[t]⟩,ty,pos,aft,g⟩ (aI n fr) h=some (v,h):=by
 have:evs (aI n fr) [x]=some [a]:=aDz (by simp[tH,hx])
 simp[bW,yX,this,hv]
theorem yC {t t':TypeId}(hx:bZ n fr x=some a)(hy:bZ n fr y=some b)(hv:mP P t t' a b h=some (v,h')):bW P O ⟨d,.call ⟨.builtin .append,#[x,y],#[t,t']⟩,ty,pos,aft,g⟩ (aI n fr) h=some (v,h'):=by
 have:evs (aI n fr) [x,y]=some [a,b]:=aDz (by simp[tH,hx,hy])
 simp[bW,yX,this,hv]
theorem aEs {t t':TypeId}(hx:bZ n fr x=some a)(hy:bZ n fr y=some b)(hv:aGD P t a b h=some (v,h')):bW P O ⟨d,.call ⟨.builtin .copy,#[x,y],#[t,t']⟩,ty,pos,aft,g⟩ (aI n fr) h=some (v,h'):=by
 have:evs (aI n fr) [x,y]=some [a,b]:=aDz (by simp[tH,hx,hy])
 simp[bW,yX,this,hv]
theorem lS {f:FuncId}{ts:Array TypeId}(hx:tH n fr ws=some xs)(hv:O f h xs=some (v,h')):bW P O ⟨d,.call ⟨.value (.func f),ws.toArray,ts⟩,ty,pos,aft,g⟩ (aI n fr) h=some (v,h'):=by
 simp[bW,yX,aDz hx,hv]
theorem wC {N:Nat}{f:FuncId}{ts:Array TypeId}{K:List V→Hp→Prop}{l:List Oper}(hx:tH n fr ws=some xs)(hc:Fn P f h xs v h')(k:OpsW P N ops l (aI n ((t,v)::fr)) h' K):OpsW P N ops (⟨some t,.call ⟨.value (.func f),ws.toArray,ts⟩,ty,pos,aft,none⟩::l) (aI n fr) h K:=
 OpsW.cons (aJk hc) (sv (lS hx o7)) (by dsimp only;rw[aG3];exact k)
theorem wCG {N:Nat}{f:FuncId}{ts:Array TypeId}{K:List V→Hp→Prop}{l:List Oper}{j u:Nat}{want c:Bool}(hj:(ops[j]?).bind (·.dst)=some u)(hl:bZ n fr (.tmp u)=some (.sc (.bool c)))(hcw:c=want)(hx:tH n fr ws=some xs)(hc:Fn P f h xs v h')(k:OpsW P N ops l (aI n ((t,v)::fr)) h' K):OpsW P N ops (⟨some t,.call ⟨.value (.func f),ws.toArray,ts⟩,ty,pos,aft,some (j,want)⟩::l) (aI n fr) h K:=
 OpsW.cons (aJk hc) (svG hj hl hcw (lS hx o7)) (by dsimp only;rw[aG3];exact k)
end
section
variable {P:Program}{h h':Hp}{t e:TypeId}{ti:TI}{B:Blk}{i off:Nat}{v x:V}{cs:List V}
theorem pH (ht:aU P t=some ti)(hd:cI ti.desc=false)(hc:cs.head? =some v):jF P t cs=some v:=by simp[jF,ht,hd,hc]
theorem aCJ (ht:aU P t=some ti)(hd:cI ti.desc=true){ds:List V}(hl:ti.size≤cs.length)(hc:cs.take ti.size=ds):jF P t cs=some (.agg ds):=by simp[jF,ht,hd,hl,hc]
theorem ldP (hb:h[i]? =some (some ⟨e,cs⟩))(hp:jF P t (cs.drop off)=some v):fY P t h (.ptr i off)=some v:=by simp[fY,hb,hp]
theorem ldE {α:Type}{E:α→V}{l:List α}{y:α}(hi:l[i]? =some y)(hp:jF P t ((E y).cells.drop off)=some v):fY P t h (.eptr (l.map E) i off)=some v:=by simp[fY,hi,hp]
theorem jB (ht:aU P t=some ti)(hb:h[i]? =some (some ⟨e,cs⟩))(h1:x.flatOk=true)(h2:x.cells.length=ti.size)(h3:off+ti.size≤cs.length)(h4:h.set i (some ⟨e,splice cs off x.cells⟩)=h'):u4 P t h (.ptr i off) x=some h':=by
 subst h4
 simp only[u4,ht,hb]
 rw[if_pos ⟨h1,h2,h3⟩]
theorem tO {fs:Array Field}{sz by_:Nat}{z:Value}{pl:Array (Nat×Nat)}{ps:List (Nat×V)}(ht:aU P t=some ⟨.struct fs,sz,by_,z⟩)(hp:k5 P t=some pl)(hf:rE (fun i=>pl[i]?) (z.cells.toList.map fB) ps=some cs):wU P t ps=some (.agg cs):=by
 simp only[wU,ht,hp]
 rw[hf];rfl
theorem nB {m sz by_:Nat}{z:Value}{ps:List (Nat×V)}(ht:aU P t=some ⟨.array m e,sz,by_,z⟩)(he:aU P e=some ti)(hf:rE (fun i=>some (i*ti.size,ti.size)) (z.cells.toList.map fB) ps=some cs):wU P t ps=some (.agg cs):=by
 simp only[wU,ht,he]
 rw[hf];rfl
theorem aSO {sz by_ len:Nat}{z:Value}{ps:List (Nat×V)}{ag:Bool}(ht:aU P t=some ⟨.slice e,sz,by_,z⟩)(he:aU P e=some ti)(h1:len*ti.size≤2^24∧0<len∧0<ti.size)(hag:cI ti.desc=ag)
  (hf:rE (fun i=>some (i*ti.size,ti.size)) (((Array.range (len*ti.size)).map (ti.zero.cells[· % ti.zero.cells.size]!)).toList.map fB) ps=some cs) (h2:cs.all V.one=true∧cs.length=len*ti.size) (hl:h.length=i) (hh:h++[some ⟨e,cs⟩]=h'):
  kQ P t len ps h=some (.sl i 0 len ti.size ag,h'):=by
 subst hl hh hag
 simp only[kQ,ht,he]
 rw[if_pos h1]
 simp only[hf]
 rw[if_pos h2]
end
section
variable {P:Program}{h h':Hp}{t e:TypeId}{ti:TI}{i off b:Nat}{v:V}{α:Type}{E:α→V}{l m:List α}{y:α}{k:IntKind}{j:Int}{nl:Option Bool}{sz by_:Nat}{z:Value}{ag:Bool}
theorem k8 (hx:bY l j=some y):0≤j∧j<l.length∧l[j.toNat]? =some y:=by
 unfold bY at hx
 split at hx
 ·have:=(aVO.1 hx).1
  exact⟨by assumption,by omega,hx⟩
 cases hx
theorem iaR (ht:aU P t=some ⟨.slice e,sz,by_,z⟩)(he:aU P e=some ti)(hx:bY l j=some y):jR P t (.row nl ti.size (l.map E)) (.sc (.int k j))=some (.eptr (l.map E) j.toNat 0):=by
 obtain⟨h1,h2,_⟩:=k8 hx
 simp[jR,ht,rN,he,h1,h2]
theorem iaS {q:Nat}(hn:l.length=q)(ht:aU P t=some ⟨.slice e,sz,by_,z⟩)(he:aU P e=some ti)(h1:ti.size=1)(hx:bY l j=some y):jR P t (.sl b 0 q 1 ag) (.sc (.int k j))=some (.ptr b j.toNat):=by
 obtain⟨h2,h3,_⟩:=k8 hx
 subst hn
 simp[jR,ht,rN,he,h1,h2,h3]
theorem ldX (ht:aU P t=some ti)(hd:cI ti.desc=false)(hb:h[b]? =some (some ⟨e,l.map E⟩))(hx:bY l j=some y):fY P t h (.ptr b j.toNat)=some (E y):=by
 obtain⟨_,_,h3⟩:=k8 hx
 simp[fY,hb,jF,ht,hd,h3]
theorem ldR (hx:bY l j=some y)(hp:jF P t ((E y).cells.drop off)=some v):fY P t h (.eptr (l.map E) j.toNat off)=some v:=ldE (k8 hx).2.2 hp
theorem aHR (i:Nat)(hi:i<l.length)(y:α):splice (l.map E) i [E y]=(l.set i y).map E:=by
 rw[List.map_set]
 unfold splice
 apply aWz
 intro m
 rw[List.getElem?_set]
 by_cases hm:i=m
 ·subst hm
  simp[List.getElem?_append,hi,aWE (Nat.le_of_lt hi)]
 rcases aWl m i with h1|h1
 ·rw[aVP (by simp;omega),aVP (by simp;omega)]
  simp[hm,h1]
 rw[aVY (by simp;omega)]
 simp only[aWd,aV8,aV9,aWb,aWP,aWY,hm,if_false]
 congr 1;omega
theorem aVF {w:α}(ht:aU P t=some ti)(hs:ti.size=1)(hb:h[b]? =some (some ⟨e,l.map E⟩))(hx:bY l j=some w)(ho:(E y).one=true)(hc:(E y).cells=[E y])(hh:h.set b (some ⟨e,(l.set j.toNat y).map E⟩)=h'):u4 P t h (.ptr b j.toNat) (E y)=some h':=by
 obtain⟨_,h2,h3⟩:=k8 hx
 have h4:=(aVO.1 h3).1
 subst hh
 simp only[u4,ht,hb]
 rw[if_pos ⟨by simp[V.flatOk,hc,ho],by simp[hc,hs],by rw[hs];simp;omega⟩,hc,aHR _ h4]
theorem aFB : ∀ns:List Int,uD (ns.map (eI .u8))=some ns
 | []=>rfl
 |n::ns=>by simp only[aWa,eI,uD];rw[show uD (List.map (fun x=>V.sc (Value.int IntKind.u8 x)) ns)=some ns from aFB ns];rfl
theorem aKO {a b':TypeId}{ns:List Int}{x:V}{sz1 by1 sz2 by2 sz3 by3 q:Nat}{z1 z2 z3:Value}(ha:aU P a=some ⟨.slice e,sz1,by1,z1⟩)(hb:aU P b'=some ⟨.string,sz2,by2,z2⟩)(he:aU P e=some ⟨.int .u8,sz3,by3,z3⟩)(hs:iV h 1 x=some (ns.map (eI .u8),q)):aA2 P h a b' x=some (.sc (.string (rV ns))):=by
 simp only[aA2,sL,ha,hb,he,hs,aFB,aVX]
theorem aUC (ht:aU P t=some ⟨.slice e,sz,by_,z⟩){k:Nat}:aGf P t (.row nl k (l.map E))=some (.sc (.int .i64 l.length)):=by simp[aGf,ht]
theorem aUG (ht:aU P t=some ⟨.slice e,sz,by_,z⟩){k m:Nat}:aGf P t (.sl b off m k ag)=some (.sc (.int .i64 m)):=by simp[aGf,ht]
theorem aPd {q:Nat}(hn:l.length=q)(ht:aU P t=some ⟨.slice e,sz,by_,z⟩)(he:aU P e=some ti)(h1:ti.zero.cells.size=1∧ti.size=1∧1≤ti.bytes)(hb:h[b]? =some (some ⟨e,l.map E⟩)){s:V}(hs:iV h 1 s=some (m.map E,m.length))
  {r:List α} (ha:eE ti.bytes l m=some r) (hl:h.length=i) (hh:h.set b none++[some ⟨e,r.map E⟩]=h'):mP P t t (.sl b 0 q 1 ag) s h=some (.sl i 0 r.length 1 ag,h'):=by
 obtain⟨h2,h3,h4⟩:=h1
 subst hn
 unfold eE at ha
 split at ha
 ·rename_i hlim
  injection ha with ha
  subst ha hl hh
  have hx:iV h ti.size s=some (m.map E,m.length):=by rw[h3];exact hs
  simp only[mP,ne_eq,not_true,if_false,ht,he]
  rw[if_pos ⟨by rw[h2,h3],by omega,h4⟩]
  simp only[hx,hb]
  rw[if_pos ⟨h3.symm,trivial,by simp,hlim⟩]
  simp[aVR]
 cases ha
theorem aUB (ht:aU P t=some ⟨.slice e,sz,by_,z⟩)(he:aU P e=some ti)(h1:ti.zero.cells.size=1∧ti.size=1∧1≤ti.bytes){s:V}(hs:iV h 1 s=some (m.map E,m.length))(hag:cI ti.desc=ag){kk:Nat}
  {r:List α} (ha:eE ti.bytes [] m=some r) (hl:h.length+1=i) (hh:h++[none]++[some ⟨e,r.map E⟩]=h'):mP P t t (.row (some true) kk []) s h=some (.sl i 0 r.length 1 ag,h'):=by
 obtain⟨h2,h3,h4⟩:=h1
 unfold eE at ha
 split at ha
 ·rename_i hlim
  injection ha with ha
  subst ha hl hh hag
  have hx:iV h ti.size s=some (m.map E,m.length):=by rw[h3];exact hs
  simp only[mP,ne_eq,not_true,if_false,ht,he]
  rw[if_pos ⟨by rw[h2,h3],by omega,h4⟩]
  simp only[hx]
  rw[if_pos (by simpa using hlim)]
  simp[h3]
 cases ha
theorem aVc (ht:aU P t=some ⟨.slice e,sz,by_,z⟩)(he:aU P e=some ti)(h1:ti.zero.cells.size=1∧ti.size=1∧1≤ti.bytes)(hE: ∀x,(E x).cells=[E x]){s:V}(hs:iV h 1 s=some (m.map E,m.length))(hm:0<m.length)(hag:cI ti.desc=ag)
  {r:List α} (ha:eE ti.bytes l m=some r) (hl:h.length=i) (hh:h++[some ⟨e,r.map E⟩]=h'):mP P t t (.row (some false) 1 (l.map E)) s h=some (.sl i 0 r.length 1 ag,h'):=by
 obtain⟨h2,h3,h4⟩:=h1
 have hf:(l.map E).flatMap V.cells=l.map E:=by
  clear ha
  induction l with
  |nil=>rfl
  |cons x l ih=>simp only[aWa,aVZ,hE,ih];rfl
 unfold eE at ha
 split at ha
 ·rename_i hlim
  injection ha with ha
  subst ha hl hh hag
  have hx:iV h ti.size s=some (m.map E,m.length):=by rw[h3];exact hs
  simp only[mP,ne_eq,not_true,if_false,ht,he]
  rw[if_pos ⟨by rw[h2,h3],by omega,h4⟩]
  simp only[hx]
  rw[if_pos ⟨.inr h3.symm,hm,by simpa using hlim⟩]
  simp[h3,hf]
 cases ha
theorem aDH (hE: ∀x,(E x).cells=[E x]):iV h 1 (.row nl 1 (m.map E))=some (m.map E,m.length):=by
 have:(m.map E).flatMap V.cells=m.map E:=by
  induction m with
  |nil=>rfl
  |cons x m ih=>simp only[aWa,aVZ,hE,ih];rfl
 simp only[iV]
 rw[if_pos (.inl trivial),this];simp
theorem aQo {q:Nat}(hn:m.length=q)(hb:h[b]? =some (some ⟨e,m.map E⟩)):iV h 1 (.sl b 0 q 1 ag)=some (m.map E,m.length):=by
 subst hn
 simp only[iV,hb]
 rw[if_pos ⟨trivial,by simp⟩];simp[aVR]
theorem aUF {kk:Nat}:iV h 1 (.row nl kk [])=some (([]:List α).map E,([]:List α).length):=by simp[iV]
theorem mkS {k1 k2:IntKind}{y:α}(ht:aU P t=some ⟨.slice e,sz,by_,z⟩)(he:aU P e=some ti)(h1:1≤ti.bytes∧ti.size=1∧ti.zero.cells.size=1)(hz:ti.zero.cells.toList.map (V.soft∘fB)=[E y])(ho:(E y).one=true)(hag:cI ti.desc=ag){r:List α}
  (hm:mks ti.bytes y j=some r) (hl:h.length=i) (hh:h++[some ⟨e,r.map E⟩]=h'):aBr P t (.sc (.int k1 j)) (.sc (.int k2 j)) h=some (.sl i 0 r.length 1 ag,h'):=by
 obtain⟨h2,h3,h4⟩:=h1
 unfold mks at hm
 split at hm
 ·rename_i hlim
  injection hm with hm
  subst hm hl hh hag
  simp only[aBr,ht,he]
  rw[if_pos ⟨hlim.1,aWR _,hlim.2,h2,by omega,by rw[h4,h3],by rw[hz];simp[ho]⟩,hz]
  simp only[h3,ite_self]
  have: ∀n,(aV7 n [E y]).flatten=(aV7 n y).map E:=fun n=>by
   induction n with
   |zero=>rfl
   |succ n ih=>simp only[aWB,aWH,ih,aWa];rfl
  rw[this];simp
 cases hm
theorem aIT {q:Nat}{e2:TypeId}(hn:l.length=q)(ht:aU P t=some ⟨.slice e,sz,by_,z⟩)(he:aU P e=some ti)(h1:ti.size=1)(hb:h[b]? =some (some ⟨e2,l.map E⟩)){s:V}(hs:iV h 1 s=some (m.map E,m.length))(hh:h.set b (some ⟨e2,(nE l m).map E⟩)=h'):
  aGD P t (.sl b 0 q 1 ag) s h=some (.sc (.int .i64 (min m.length l.length:Nat)),h'):=by
 subst hh hn
 simp only[aGD,ht,he,h1,hs,hb]
 rw[if_pos ⟨trivial,by omega,by simp⟩]
 simp only[aVS,aWg,true_and]
 congr 3
 unfold splice nE
 simp only[List.map_append,aWD,aXh,aXb,aWS,aWZ,Nat.mul_one,aV8,aV9]
 congr 1
 ·rw[Nat.min_comm,←List.take_take,aVR (i:=m.length) (by simp)]
 rcases aXn m.length l.length with hle|hle
 ·congr 1;omega
 rw[aV4 (by simp;omega),aV4 (by simp;omega)]
theorem u6 (ht:aU P t=some ⟨.slice e,sz,by_,z⟩)(he:aU P e=some ti){lo hi:Option V}{a c:Int}{r:List α}(h1:pM lo=some a)(h2:yA hi l.length=some c)(hs:sub l a c=some r):lE P t h (.row nl ti.size (l.map E)) lo hi=some (.row (nlS nl) ti.size (r.map E)):=by
 unfold sub at hs
 split at hs
 ·rename_i hc
  injection hs with hs
  subst hs
  have h2':yA hi (l.map E).length=some c:=by simpa using h2
  simp only[lE,ht,he,h1,h2']
  rw[if_pos ⟨trivial,hc.1,hc.2.1,by simpa using hc.2.2⟩]
  simp[aWD,aXh]
 cases hs
end
section
variable {P:Program}{t e:TypeId}{ti:TI}{sz by_:Nat}{z:Value}{α:Type}{E:α→V}{l:List α}{nl:Option Bool}
theorem slM (ht:aU P t=some ⟨.slice e,sz,by_,z⟩)(he:aU P e=some ti){lo:Option V}{a c:Int}{k1 k2:IntKind}{r:List α}(h1:pM lo=some a)(hs:sub l a c=some r):aBD P t (.row nl ti.size (l.map E)) lo (.sc (.int k1 c)) (.sc (.int k2 c))=some (.row (some false) ti.size (r.map E)):=by
 unfold sub at hs
 split at hs
 ·rename_i hc
  injection hs with hs
  subst hs
  simp only[aBD,ht,h1,rN,he]
  rw[if_pos ⟨trivial,hc.1,hc.2.1,trivial,by simpa using hc.2.2⟩]
  simp[aWD,aXh]
 cases hs
end
section
variable (P:Program)(t:TypeId)(xo yo:Operand)
theorem aPc {k:IntKind}{a b r:Int}(h:quo k a b=some r):eT P .quo t xo yo (.sc (.int k a)) (.sc (.int k b))=some (.sc (.int k r)):=by
 rw[aSF];unfold quo at h;split at h
 ·cases h
 rename_i hb;injection h with h;rw[if_neg hb,h]
theorem aQP {k:IntKind}{a b r:Int}(h:rem a b=some r):eT P .rem t xo yo (.sc (.int k a)) (.sc (.int k b))=some (.sc (.int k r)):=by
 rw[aR0];unfold rem at h;split at h
 ·cases h
 rename_i hb;injection h with h;rw[if_neg hb,h]
theorem aPm {k k':IntKind}{a b r:Int}(h:shl k a b=some r):eT P .shl t xo yo (.sc (.int k a)) (.sc (.int k' b))=some (.sc (.int k r)):=by
 rw[aSo];unfold shl at h;split at h
 ·cases h
 rename_i hb;injection h with h;rw[if_neg hb,h]
theorem aPC {k k':IntKind}{a b r:Int}(h:shr k a b=some r):eT P .shr t xo yo (.sc (.int k a)) (.sc (.int k' b))=some (.sc (.int k r)):=by
 rw[aRQ];unfold shr at h;split at h
 ·cases h
 rename_i hb;injection h with h;rw[if_neg hb,h]
end
section
variable {P:Program}{N n:Nat}{Q:Ex→List V→Hp→Prop}{s:List V}{h h':Hp}{fr:List (Nat×V)}
theorem AB.cnd {c:Operand}{x y:Code}{t:Bool}(hc:bZ n fr c=some (.sc (.bool t)))(h1:t=true→AB P N x Q (aI n fr) h)(h2:t=false→AB P N y Q (aI n fr) h):AB P N (.cond c x y) Q (aI n fr) h:=AB.cond (dH hc) h1 h2
def num :Nat→List V→List (Nat×V)
 |_,[]=>[]
 |i,x::xs=>(i,x)::num (i+1) xs
theorem aLD : ∀{xs:List V}{i t:Nat}{y:V},iW (num i xs) t=some y→i≤t∧xs[t-i]? =some y
 | [],i,t,y,hy=>by cases hy
 |x::xs,i,t,y,hy=>by
  simp only[num,iW]at hy
  cases hb:aW0 i t with
  |true=>
   rw[hb]at hy
   have:=aWm hb
   subst this
   simp only[cond_true,aVS]at hy
   subst hy
   simp
  |false=>
   rw[hb]at hy
   obtain⟨h1,h2⟩:=aLD (xs:=xs) (i:=i+1) hy
   refine⟨by omega, ?_⟩
   rw[show t-i=(t-(i+1))+1 by omega]
   simpa using h2
def aDq (P:Program)(fn:Func)(N:Nat)(r:V)(h':Hp):Ex→List V→Hp→Prop:=fun x s h=>(∀id,x≠ .exit id)∧ ∃r1,aBI P fn s h=some r1∧Ghost N (aI 1 [(0,r1)]) h (aI 1 [(0,r)]) h'
theorem aUf {f:FuncId} {fn:Func} {c:Code} {args:List V} {r:V} (hf:P.funcs[f]? =some fn) (hb:fn.body=some c) (hn:(fn.name == "runtime.NumGoroutine")=false) (hnt:fn.ntmps=n) (hal:args.length≤n) (hN:h.length=N) (hfr:num 0 args=fr)
  (hh:AB P N c (aDq P fn N r h') (aI n fr) h):Fn P f h args r h':=by
 intro A M w vs H hargs
 refine .inl ⟨aKl hf (by rw[hb];rfl) hn _ _,calls_of_wp hf hb ?_⟩
 have R0:=aO6 (fn:=fn) H hargs
 have R1:Rel A M (aI n fr) h {tmps:=vs.toArray++Array.replicate (fn.ntmps-vs.toArray.size) undef,defers:=[]} w:=by
  refine⟨R0.hr,⟨?_,fun t x hx=> ?_⟩,R0.defers⟩
  ·rw[yO,←R0.sr.len]
   simp[aFK,hnt];omega
  have ht:t<n:=by have:=(List.getElem?_eq_some_iff.1 hx).1;rw[yO]at this;exact this
  rw[aC8 ht]at hx
  injection hx with hx
  cases hl:iW fr t with
  |none=>rw[hl]at hx;subst hx;unfold VR;trivial
  |some z=>
   rw[hl]at hx
   subst hx hfr
   obtain⟨_,h2⟩:=aLD hl
   refine R0.sr.val t z ?_
   unfold aFK
   rw[List.getElem?_append_left (by have:=(List.getElem?_eq_some_iff.1 h2).1;omega)]
   simpa using h2
 refine Code.wp_mono (fun e a' w' ⟨x,s1,h1,M1,he,⟨hx,r1,hres,hg⟩,G,R2⟩=> ?_) (hh A M M h w _ w hN (by rw[H.len];exact hN) (Grow.refl H) R1)
 subst he
 obtain⟨t,ht⟩:=G.pre
 have hMN:M.length=N:=by rw[H.len];exact hN
 obtain⟨v,hv,hr⟩:=aNB R2 hres
 have Rv:Rel A M1 (aI 1 [(0,r1)]) h1 {tmps:= #[v],defers:=[]} w':=⟨R2.hr,⟨rfl,fun t x hx=>by
  cases t with
  |zero=>simp[aI,iW]at hx;subst hx;exact hr
  |succ t=>rw[List.getElem?_eq_none (by rw[yO];omega)]at hx;cases hx⟩,rfl⟩
 obtain⟨M',e1,R3,l3⟩:=hg A M1 _ w' (by rw[←ht];simp[hMN]) Rv
 have hr':VR (Xs A M' h') M' w' r v:=R3.sr.val 0 r rfl
 have G':Grow A M h w M' h' w':=⟨by
  have:M=M'.take N:=by rw[e1,←ht,←hMN];simp
  rw[this]
  exact List.take_prefix _ _,R3.hr,G.ext,fun g hg hl=>G.live g hg (l3 g hl)⟩
 cases x with
 |normal=>exact⟨R2.defers,v,hv,v,rfl,M',G',hr'⟩
 |ret=>exact⟨R2.defers,v,hv,v,rfl,M',G',hr'⟩
 |exit id=>exact absurd rfl (hx id)
theorem aBH {fn:Func}{r r1:V}(hr:aBI P fn s h=some r1)(hg:Ghost N (aI 1 [(0,r1)]) h (aI 1 [(0,r)]) h'):aDq P fn N r h' .ret s h:=⟨fun id hh=>(by cases hh),r1,hr,hg⟩
theorem aOP {fn:Func}{r r1:V}(hr:aBI P fn s h=some r1)(hg:Ghost N (aI 1 [(0,r1)]) h (aI 1 [(0,r)]) h'):aDq P fn N r h' .normal s h:=⟨fun id hh=>(by cases hh),r1,hr,hg⟩
variable {fn:Func}
theorem rvT {t:Nat}{x:V}(hx:bZ n fr (.tmp t)=some x):nD P (aI n fr) h (.tmp t)=some x:=dH hx
theorem rvC {t:Nat}{ty:TypeId}{v:V}{i o:Nat}(hx:bZ n fr (.tmp t)=some (.ptr i o))(hv:fY P ty h (.ptr i o)=some v):nD P (aI n fr) h (.cell t ty)=some v:=by
 have:=dH hx
 simp only[ev]at this
 simp[nD,this,t8,hv]
theorem aUW (hr:fn.results= #[]):aBI P fn s h=some (.tup []):=by simp[aBI,hr]
theorem aSK {a:ResultVar}{x:V}(hr:fn.results= #[a])(h1:nD P s h a=some x):aBI P fn s h=some x:=by simp[aBI,hr,h1]
theorem bQ {a b:ResultVar}{x y:V}(hr:fn.results= #[a,b])(h1:nD P s h a=some x)(h2:nD P s h b=some y):aBI P fn s h=some (.tup [x,y]):=by simp[aBI,hr,h1,h2]
theorem vK {a b c:ResultVar}{x y z:V}(hr:fn.results= #[a,b,c])(h1:nD P s h a=some x)(h2:nD P s h b=some y)(h3:nD P s h c=some z):aBI P fn s h=some (.tup [x,y,z]):=by simp[aBI,hr,h1,h2,h3]
end
theorem pX {α:Type}{E:α→V}{f:Nat→Nat}(hE: ∀x,(E x).rn f=E x): ∀l:List α,V.rns f (l.map E)=l.map E
 | []=>rfl
 |x::l=>by simp[V.rns,hE,pX hE l]
theorem aEv {α:Type}{E:α→V}{f:Nat→Nat}{vn:Nat→Bool}(hE: ∀x,(E x).rn f=E x)(l:List α):V.les vn (l.map E) (V.rns f (l.map E)):=by rw[pX hE];exact V.les_refl _ _
theorem V.les_nil {vn:Nat→Bool}:V.les vn [] []:=by unfold V.les;trivial
theorem V.les_cons {vn:Nat→Bool}{c d:V}{cs ds:List V}(h:V.le vn c d)(k:V.les vn cs ds):V.les vn (c::cs) (d::ds):=by unfold V.les;exact⟨h,k⟩
theorem b7 {α:Type}(l:List α)(i:Nat)(x:α):(l.set i x).length=l.length:=aXz
theorem b6 {α:Type}(l m:List α):(nE l m).length=l.length:=by simp[nE];omega
section
variable {P:Program}{f:FuncId}{h hb hb' hs hs':Hp}{xs args:List V}{r v:V}
theorem jV (h o:Hp):fE h [] o=h:=by cases h<;>cases o<;>rfl
theorem Fn.pure (hc:Fn P f [] xs r [])(hx:V.rns (sg [] h.length) xs=xs)(hr:r.rn (sg [] h.length)=r):Fn P f h xs r h:=by
 have:=Fn.frame (hb:=h) hc [] rfl (by simp) (by simp) (fun i b hi=>by simp at hi)
 rw[hx,hr]at this
 simpa[kL,jV,rF]using this
def Lend (σ:Nat→Nat)(hb:Hp):List Nat→Hp→Prop
 | [],[]=>True
 |b::ρ,none::hs=>hb[b]? =some none∧Lend σ hb ρ hs
 |b::ρ,some B::hs=>(∃cs,hb[b]? =some (some ⟨B.e,cs⟩)∧V.rns σ B.cells=cs)∧Lend σ hb ρ hs
 |_,_=>False
theorem Lend.nil {σ:Nat→Nat}:Lend σ hb [] []:=trivial
theorem Lend.cons {σ:Nat→Nat}{b:Nat}{ρ:List Nat}{e:TypeId}{cs ds:List V}(h1:hb[b]? =some (some ⟨e,ds⟩))(h2:V.rns σ cs=ds)(k:Lend σ hb ρ hs):Lend σ hb (b::ρ) (some ⟨e,cs⟩::hs):=⟨⟨ds,h1,h2⟩,k⟩
theorem Lend.len {σ:Nat→Nat}: ∀{ρ:List Nat}{hs:Hp},Lend σ hb ρ hs→ρ.length=hs.length
 | [],[],_=>rfl
 |_::ρ,none::hs,hh=>by simp[Lend.len (ρ:=ρ) hh.2]
 |_::ρ,some B::hs,hh=>by simp[Lend.len (ρ:=ρ) hh.2]
 | [],_::_,hh=>hh.elim
 |_::_,[],hh=>hh.elim
theorem Lend.get {σ:Nat→Nat}: ∀{ρ:List Nat}{hs:Hp},Lend σ hb ρ hs→ ∀(i b:Nat),ρ[i]? =some b→hb[b]? =(rF σ hs)[i]?
 | [],[],_,i,b,hi=>by simp at hi
 |c::ρ,none::hs,hh,0,b,hi=>by simp at hi;subst hi;simpa[rF]using hh.1
 |c::ρ,none::hs,hh,i+1,b,hi=>by
  have:=Lend.get hh.2 i b (by simpa using hi)
  simpa[rF]using this
 |c::ρ,some B::hs,hh,0,b,hi=>by
  simp at hi;subst hi
  obtain⟨cs,h1,h2⟩:=hh.1
  rw[h1,←h2];simp[rF,Blk.rn]
 |c::ρ,some B::hs,hh,i+1,b,hi=>by
  have:=Lend.get hh.2 i b (by simpa using hi)
  simpa[rF]using this
 | [],_::_,hh,_,_,_=>hh.elim
 |_::_,[],hh,_,_,_=>hh.elim
theorem Fn.lendB (hc:Fn P f hs args r hs')(ρ:List Nat)(hnd:ρ.Nodup)(hlt:ρ.all (fun b=>aXE b hb.length)=true)(hl:Lend (sg ρ hb.length) hb ρ hs)(hx:V.rns (sg ρ hb.length) args=xs)(hr:r.rn (sg ρ hb.length)=v)(hh:kL hb ρ hs'=hb'):Fn P f hb xs v hb':=by
 have:=Fn.frame (hb:=hb) hc ρ hl.len hnd (fun b hb'=>by
  have h2:=aVV.1 hlt b hb'
  exact aWv (n:=b+1) h2) hl.get
 rw[hx,hr,hh]at this
 exact this
theorem aOX {X:Nat→Prop}{M:List (Option Nat)}{w:World}{vs:List Value}(hl:V.les noN xs args)(hv:VCells X M w xs vs):VCells X M w args vs:=V.les_sound (fun _ hb=>by cases hb) _ _ _ hl hv
theorem Fn.argsLe (hc:Fn P f h args r hb)(hl:V.les noN xs args):Fn P f h xs r hb:=fun A M w vs H hv=>hc A M w vs H (aOX hl hv)
end
@[simp] theorem kA {f:Nat→Nat}{k:IntKind}(l:List Int):V.rns f (l.map (eI k))=l.map (eI k):=pX (fun _=>rfl) l
@[simp] theorem j8 {f:Nat→Nat}(l:List Bool):V.rns f (l.map eB)=l.map eB:=pX (fun _=>rfl) l
@[simp] theorem xM {f:Nat→Nat}(l:List ByteArray):V.rns f (l.map eS)=l.map eS:=pX (fun _=>rfl) l
@[simp] theorem xT {α:Type}{f:Nat→Nat}{K:Nat}{E:α→V}(l:List (List α)):V.rns f (l.map (eL K E))=l.map (eL K E):=pX (fun _=>rfl) l
theorem all_map {α:Type}{E:α→V}(hE: ∀x,(E x).one=true)(l:List α):(l.map E).all V.one=true:=by simp[aVV,hE]
mutual
def V.rf :V→Bool
 | .sc _=>true
 | .row _ _ es=>es.isEmpty
 | .ptr _ _=>true
 | .mp _=>true
 | .sl _ _ _ _ _=>true
 | .agg cs=>V.rfs cs
 | .tup cs=>V.rfs cs
 | .eptr _ _ _=>false
 | .any=>true
def V.rfs :List V→Bool
 | []=>true
 |c::cs=>c.rf&&V.rfs cs
end
section
variable {X X':Nat→Prop}{M:List (Option Nat)}{w:World}
mutual
theorem VR.rf : ∀(x:V)(v:Value),x.rf=true→VR X M w x v→VR X' M w x v
 | .sc _,v,_,h=>by unfold VR at h ⊢; exact h
 | .any,v,_,_=>by unfold VR;trivial
 | .row nil k es,v,hr,h=>by
  unfold V.rf at hr
  have:es=[]:=by simpa using hr
  subst this
  unfold VR at h⊢
  obtain⟨a,cap,h1,h2,h3,h4,h5,h6⟩:=h
  exact⟨a,cap,h1,h2,h3,h4,h5,fun hne=>absurd rfl hne⟩
 | .ptr _ _,v,_,h=>by unfold VR at h ⊢; exact h
 | .mp _,v,_,h=>by unfold VR at h ⊢; exact h
 | .sl _ _ _ _ _,v,_,h=>by unfold VR at h ⊢; exact h
 | .agg cs,v,hr,h=>by
  unfold V.rf at hr
  unfold VR at h⊢
  obtain⟨vs,h1,h2⟩:=h
  exact⟨vs,h1,VCells.rf cs vs hr h2⟩
 | .tup cs,v,hr,h=>by
  unfold V.rf at hr
  unfold VR at h⊢
  obtain⟨vs,h1,h2⟩:=h
  exact⟨vs,h1,VCells.rf cs vs hr h2⟩
 | .eptr _ _ _,v,hr,_=>by unfold V.rf at hr;cases hr
theorem VCells.rf : ∀(cs:List V)(vs:List Value),V.rfs cs=true→VCells X M w cs vs→VCells X' M w cs vs
 | [],vs,_,h=>by unfold VCells at h ⊢; exact h
 |c::cs,vs,hr,h=>by
  unfold V.rfs at hr
  simp only[aV0]at hr
  unfold VCells at h⊢
  obtain⟨v,rest,h1,h2,h3⟩:=h
  exact⟨v,rest,h1,VR.rf c v hr.1 h2,VCells.rf cs rest hr.2 h3⟩
end
end
theorem aC7 {α:Type}{E:α→V}(hE: ∀x,(E x).rf=true): ∀l:List α,V.rfs (l.map E)=true
 | []=>by simp[V.rfs]
 |x::l=>by simp[V.rfs,hE,aC7 hE l]
mutual
theorem V.rf_rn (f:Nat→Nat): ∀x:V,(x.rn f).rf=x.rf
 | .sc _=>by unfold V.rn;rfl
 | .any=>by unfold V.rn;rfl
 | .row _ _ _=>by unfold V.rn;rfl
 | .ptr _ _=>by unfold V.rn;rfl
 | .mp _=>by unfold V.rn;rfl
 | .sl _ _ _ _ _=>by unfold V.rn;rfl
 | .eptr _ _ _=>by unfold V.rn;rfl
 | .agg cs=>by unfold V.rn;simp only[V.rf];exact V.rfs_rn f cs
 | .tup cs=>by unfold V.rn;simp only[V.rf];exact V.rfs_rn f cs
theorem V.rfs_rn (f:Nat→Nat): ∀cs:List V,V.rfs (V.rns f cs)=V.rfs cs
 | []=>by unfold V.rns;rfl
 |c::cs=>by unfold V.rns;simp only[V.rfs];rw[V.rf_rn f c,V.rfs_rn f cs]
end
def aDZ (β:List Nat):Nat→Hp→Hp
 |_,[]=>[]
 |i,o::h=>(bif β.elem i then o else none)::aDZ β (i+1) h
def only (β:List Nat)(h:Hp):Hp:=aDZ β 0 h
theorem aKm (β:List Nat): ∀(h:Hp)(i j:Nat),(aDZ β i h)[j]? =(h[j]?).map fun o=>bif β.elem (i+j)then o else none
 | [],i,j=>by simp[aDZ]
 |o::h,i,0=>by simp[aDZ]
 |o::h,i,j+1=>by
  simp only[aDZ,aVT]
  rw[aKm β h (i+1) j]
  simp[aXg,aW4 1 j]
theorem aCk {β:List Nat}{h:Hp}{j:Nat}{B:Blk}(hj:(only β h)[j]? =some (some B)):j∈β∧h[j]? =some (some B):=by
 unfold only at hj
 rw[aKm]at hj
 cases ho:h[j]? with
 |none=>rw[ho]at hj;cases hj
 |some o=>
  rw[ho]at hj
  simp only[aWZ,aVX,aVS]at hj
  cases he:β.elem j with
  |false=>rw[he]at hj;cases hj
  |true=>rw[he]at hj;simp only[cond_true]at hj;subst hj;exact⟨List.elem_iff.1 he,rfl⟩
theorem aPI (β:List Nat)(h:Hp):(only β h).length=h.length:=by
 have: ∀(h:Hp)(i:Nat),(aDZ β i h).length=h.length:=by
  intro h
  induction h with
  |nil=>intro i;rfl
  |cons o h ih=>intro i;simp[aDZ,ih]
 exact this h 0
theorem HR.only {A A2:Nat→Prop}{M:List (Option Nat)}{h:Hp}{w:World}(H:HR A M h w)(β:List Nat)(h1: ∀g,A2 g→g<w.heap.size)(h2: ∀(b:Nat) (B:Blk) (g:Nat),b∈β→h[b]? =some (some B)→M[b]? =some (some g)→ ¬A2 g)
  (h3: ∀g,Xs A2 M (Vm.only β h) g→Xs A M h g):HR A2 M (Vm.only β h) w:=by
 refine⟨by rw[aPI];exact H.len,h1,fun b B hb=> ?_,fun b b' B B' g hb hb'=>H.inj b b' B B' g (aCk hb).2 (aCk hb').2,H.glob.avoid fun g _ hx=>h3 g hx⟩
 obtain⟨hm,hb'⟩:=aCk hb
 obtain⟨k0,hn|⟨g,cs,hg,hA,hh,hle,hcs⟩⟩:=H.blk b B hb'
 ·exact⟨k0,.inl hn⟩
 exact⟨k0,.inr ⟨g,cs,hg,h2 b B g hm hb' hg,hh,hle,hcs.avoid (fun g _ hx=>h3 g hx)⟩⟩
def Brw (σ:Nat→Nat)(hE:Hp):List V→List V→Prop
 | [],[]=>True
 |x::xs,y::ys=>(V.le noN x (y.rn σ)∨ ∃z,zJ hE x=some z∧V.le noN z y)∧Brw σ hE xs ys
 |_,_=>False
theorem Brw.nil {σ:Nat→Nat}{hE:Hp}:Brw σ hE [] []:=trivial
theorem Brw.same {σ:Nat→Nat}{hE:Hp}{x y:V}{xs ys:List V}(h:y.rn σ=x)(k:Brw σ hE xs ys):Brw σ hE (x::xs) (y::ys):=⟨.inl (by rw[h];exact V.le_refl _ _),k⟩
theorem Brw.row {σ:Nat→Nat}{hE:Hp}{x y:V}{xs ys:List V}(h:zJ hE x=some y)(k:Brw σ hE xs ys):Brw σ hE (x::xs) (y::ys):=⟨.inr ⟨y,h,V.le_refl _ _⟩,k⟩
theorem aM4 {α:Type}{E:α→V}{F:V→Option V}(hE: ∀x,F (E x)=some (E x)): ∀l:List α,(l.map E).mapM F=some (l.map E)
 | []=>rfl
 |x::l=>by
  simp only[aWa,aWh,hE,aWA,aWL,aM4 hE l,aWQ]
theorem aOF {α:Type}{E:α→V}{l:List α}{hE:Hp}{b q d:Nat}{e:TypeId}(hn:l.length=q)(hb:hE[b]? =some (some ⟨e,l.map E⟩))(hx: ∀x,fP hE d (E x)=some (E x)):fP hE (d+1) (.sl b 0 q 1 false)=some (.row none 1 (l.map E)):=by
 subst hn
 simp only[fP,hb]
 rw[if_pos ⟨by simp,by omega,.inr trivial⟩]
 simp only[aWi,Nat.mul_one]
 rw[aVR (by simp),aM4 hx]
 simp[xZ]
theorem aIS {α:Type}{E:α→V}{l:List α}{hE:Hp}{b q:Nat}{e:TypeId}(hn:l.length=q)(hb:hE[b]? =some (some ⟨e,l.map E⟩))(hx: ∀x,fP hE 3 (E x)=some (E x)):zJ hE (.sl b 0 q 1 false)=some (.row none 1 (l.map E)):=aOF hn hb hx
theorem aJz {F:V→Option V}:([]:List V).mapM F=some []:=rfl
theorem pB {F:V→Option V}{c y:V}{cs ys:List V}(h:F c=some y)(k:cs.mapM F=some ys):(c::cs).mapM F=some (y::ys):=by simp[aWh,h,k]
theorem aI1 {hE:Hp}{cs ys:List V}(h:cs.mapM (fP hE 4)=some ys):zJ hE (.agg cs)=some (.agg ys):=by simp[zJ,h]
set_option maxHeartbeats 1000000 in
theorem Fn.borrow {P:Program}{f:FuncId}{hs hs' hb:Hp}{args xs:List V}{r:V}(hc:Fn P f hs args r hs')(ρ β:List Nat)(hlen:ρ.length=hs.length)(hnd:ρ.Nodup)(hlt: ∀b∈ρ,b<hb.length)(hdis: ∀b∈β,b∉ρ)
  (hlend: ∀i b:Nat,ρ[i]? =some b→hb[b]? =(rF (sg ρ hb.length) hs)[i]?) (hx:Brw (sg ρ hb.length) (only β hb) xs args) (hrf:r.rf=true) (hrb: ∀(i:Nat)(B:Blk),hs'[i]? =some (some B)→V.rfs B.cells=true):
  Fn P f hb xs (r.rn (sg ρ hb.length)) (kL hb ρ hs'):=by
 intro A M w vs H hargs
 have hσ: ∀i b:Nat,ρ[i]? =some b→sg ρ hb.length i=b:=fun i b hi=>by simp[sg,hi]
 have hσ': ∀i,ρ.length≤i→sg ρ hb.length i=hb.length+(i-ρ.length):=fun i hi=>by simp[sg,hi]
 generalize hsg:sg ρ hb.length=σ at *
 let Ms:List (Option Nat):=ρ.map fun b=>(M[b]?).getD none
 have hMs: ∀i b:Nat,ρ[i]? =some b→Ms[i]? =M[b]? :=by
  intro i b hi
  have hb':b<M.length:=by rw[H.len];exact hlt b (aV1 hi)
  simp only[Ms,aV6,hi,aVX]
  rw[aVQ hb']
  rfl
 have hMslen:Ms.length=hs.length:=by simp[Ms,hlen]
 have hfrom: ∀b y,M[σ b]? =some y→Ms[b]? =some y:=by
  intro b y hy
  rcases aWl b ρ.length with hl|hl
  ·have hi:ρ[b]? =some ρ[b]:=aVQ hl
   rw[hMs b _ hi,←hσ b _ hi];exact hy
  rw[hσ' b hl]at hy
  have:=(aVO.1 hy).1
  rw[H.len]at this;omega
 let A':Nat→Prop:=fun g=>A g∨ ∃b B,b∉ρ∧b∉β∧hb[b]? =some (some B)∧M[b]? =some (some g)
 have hin: ∀{i:Nat}{B:Blk},hs[i]? =some (some B)→ ∃b,ρ[i]? =some b∧hb[b]? =some (some (B.rn σ))∧Ms[i]? =M[b]? :=by
  intro i B hi
  have hl:i<ρ.length:=by rw[hlen];exact(aVO.1 hi).1
  have hr:ρ[i]? =some ρ[i]:=aVQ hl
  refine⟨_,hr, ?_,hMs i _ hr⟩
  rw[hlend i _ hr,aJd,hi];rfl
 have hliveS: ∀g,eM Ms hs g→eM M hb g:=by
  rintro g ⟨i,B,hi,hm⟩
  obtain⟨b,_,hb1,hb2⟩:=hin hi
  exact⟨b,_,hb1,by rw[←hb2];exact hm⟩
 have hX1: ∀g,Xs A' Ms hs g→Xs A M hb g:=by
  rintro g ((ha|⟨b,B,_,_,hb1,hb2⟩)|hl)
  ·exact .inl ha
  ·exact .inr ⟨b,B,hb1,hb2⟩
  exact .inr (hliveS g hl)
 have hout: ∀{b:Nat}{B:Blk}{g:Nat},b∉ρ→hb[b]? =some (some B)→M[b]? =some (some g)→ ¬eM Ms hs g:=by
  rintro b B g hb0 hb1 hb2 ⟨i,C,hi,hm⟩
  obtain⟨c,hc0,hc1,hc2⟩:=hin hi
  have:=H.inj b c B _ g hb1 hc1 hb2 (by rw[←hc2];exact hm)
  subst this
  exact hb0 (aV1 hc0)
 have hA': ∀{b:Nat}{B:Blk}{g:Nat},b∈β→hb[b]? =some (some B)→M[b]? =some (some g)→ ¬A' g:=by
  rintro b B g hbβ hb1 hb2 (ha|⟨c,C,hc0,hc3,hc1,hc2⟩)
  ·obtain⟨_,⟨hn,_⟩|⟨g',cs,hg',hA,_⟩⟩:=H.blk b B hb1
   ·rw[hb2]at hn;cases hn
   rw[hb2]at hg';injection hg' with hg';injection hg' with hg';subst hg';exact hA ha
  have:=H.inj b c B C g hb1 hc1 hb2 hc2
  subst this;exact hc3 hbβ
 have HS:HR A' Ms hs w:=by
  refine⟨hMslen, ?_, ?_, ?_,H.glob.avoid fun g _ hx=>hX1 g hx⟩
  ·rintro g (ha|⟨b,B,_,_,hb1,hb2⟩)
   ·exact H.alt g ha
   exact H.lt (.inr ⟨b,B,hb1,hb2⟩)
  ·intro i B hi
   obtain⟨b,hb0,hb1,hb2⟩:=hin hi
   obtain⟨h1,h2⟩:=H.blk b _ hb1
   refine⟨V.one_rns h1, ?_⟩
   rcases h2 with⟨hn,hc0⟩|⟨g,cs,hg,hA,hh,hle,hcs⟩
   ·refine .inl ⟨by rw[hb2];exact hn, ?_⟩
    have:=congrArg aXy hc0
    simp only[Blk.rn,V.rns_length,aWP]at this
    exact aVU this
   refine .inr ⟨g,cs,by rw[hb2];exact hg, ?_,by simpa[Blk.rn,V.rns_length]using hh, ?_, ?_⟩
   ·rintro(ha|⟨c,C,hc0,_,hc1,hc2⟩)
    ·exact hA ha
    have:=H.inj b c _ C g hb1 hc1 hg hc2
    subst this
    exact hc0 (aV1 hb0)
   ·simpa[Blk.rn,V.rns_length]using hle
   have hcs':VCells (Xs A M hb) M w (V.rns σ B.cells) (cs.toList.take B.cells.length):=by simpa[Blk.rn,V.rns_length]using hcs
   exact(VCells.rn_from hfrom _ _ hcs').avoid (fun g _ hx=>hX1 g hx)
  intro i j B C g hi hj mi mj
  obtain⟨b,hb0,hb1,hb2⟩:=hin hi
  obtain⟨c,hc0,hc1,hc2⟩:=hin hj
  have:=H.inj b c _ _ g hb1 hc1 (by rw[←hb2];exact mi) (by rw[←hc2];exact mj)
  subst this
  have hil:=(aVO.1 hb0).1
  exact(aXm hil hnd).1 (hb0.trans hc0.symm)
 have HB:HR (Xs A' Ms hs) M (only β hb) w:=by
  refine H.only β (fun g hg=>HS.lt hg) ?_ ?_
  ·rintro b B g hbβ hb1 hb2 (ha|hl)
   ·exact hA' hbβ hb1 hb2 ha
   exact hout (hdis b hbβ) hb1 hb2 hl
  rintro g (hx|⟨b,B,hb1,hb2⟩)
  ·exact hX1 g hx
  exact .inr ⟨b,B,(aCk hb1).2,hb2⟩
 have hargsS:VCells (Xs A' Ms hs) Ms w args vs:=by
  have key: ∀(xs args:List V)(vs:List Value),Brw σ (only β hb) xs args→VCells (Xs A M hb) M w xs vs→VCells (Xs A' Ms hs) Ms w args vs:=by
   intro xs
   induction xs with
   |nil=>
    intro args vs hx hv
    cases args with
    |nil=>unfold VCells at hv ⊢; exact hv
    |cons=>exact hx.elim
   |cons x xs ih=>
    intro args vs hx hv
    cases args with
    |nil=>exact hx.elim
    |cons y ys=>
     unfold VCells at hv⊢
     obtain⟨v,rest,e1,e2,e3⟩:=hv
     refine⟨v,rest,e1, ?_,ih ys rest hx.2 e3⟩
     rcases hx.1 with hl|⟨z,hz,hl⟩
     ·exact(VR.rn_from hfrom _ _ (V.le_sound (fun _ hb=>by cases hb) _ _ _ hl e2)).avoid (fun g _ hx=>hX1 g hx)
     have e2':VR (Xs (Xs A' Ms hs) M (only β hb)) M w x v:=e2.avoid (fun g _ hx=>by
      rcases hx with hx|⟨b,B,hb1,hb2⟩
      ·exact hX1 g hx
      exact .inr ⟨b,B,(aCk hb1).2,hb2⟩)
     exact V.le_sound (fun _ hb=>by cases hb) _ _ _ hl (aLr HB e2' hz).lift
  exact key xs args vs hx hargs
 refine(hc A' Ms w vs HS hargsS).mono fun v w' ⟨Ms',G,hv⟩=> ?_
 obtain⟨Mn,rfl⟩:=G.pre
 have hMnlen:hs'.length=ρ.length+Mn.length:=by rw[←G.hr.len];simp[Ms]
 have hto: ∀b y,(Ms++Mn)[b]? =some y→(M++Mn)[σ b]? =some y:=by
  intro b y hy
  rcases aWl b ρ.length with hl|hl
  ·have hi:ρ[b]? =some ρ[b]:=aVQ hl
   rw[aVP (by rw[hMslen,←hlen];exact hl),hMs b _ hi]at hy
   rw[hσ b _ hi,aVP (by rw[H.len];exact hlt _ (aV1 hi))]
   exact hy
  rw[aVY (by rw[hMslen,←hlen];exact hl),hMslen,←hlen]at hy
  rw[hσ' b hl,aVY (by rw[H.len];omega),H.len,show hb.length+(b-ρ.length)-hb.length=b-ρ.length by omega]
  exact hy
 have hlentlen:(fE hb ρ (rF σ hs')).length=hb.length:=aBK _ _ _
 have hrnlen:(rF σ hs').length=hs'.length:=by simp[rF]
 have hcase: ∀{b:Nat}{B:Blk},(kL hb ρ hs')[b]? =some (some B)→(b∉ρ∧hb[b]? =some (some B))∨ ∃i C,hs'[i]? =some (some C)∧b=σ i∧B=C.rn σ∧(M++Mn)[b]? =(Ms++Mn)[i]? :=by
  intro b B hb1
  unfold kL at hb1
  rw[hsg]at hb1
  rcases aWl b hb.length with hl|hl
  ·rw[aVP (by rw[hlentlen];exact hl)]at hb1
   by_cases hm:b∈ρ
   ·obtain⟨i,hi⟩:=aWJ.1 hm
    rw[aE1 hnd hlt (by rw[hrnlen];omega) hi]at hb1
    obtain⟨C,hC,hB⟩:=aDt hb1
    have hil:=(aVO.1 hi).1
    refine .inr ⟨i,C,hC,(hσ i b hi).symm,hB, ?_⟩
    rw[aVP (by rw[H.len];exact hl),aVP (by rw[hMslen,←hlen];exact hil),hMs i b hi]
   rw[aBY hm]at hb1
   exact .inl ⟨hm,hb1⟩
  rw[aVY (by rw[hlentlen];exact hl),hlentlen,aWY]at hb1
  obtain⟨C,hC,hB⟩:=aDt hb1
  refine .inr ⟨_,C,hC, ?_,hB, ?_⟩
  ·rw[hσ' _ (by omega)];omega
  rw[aVY (by rw[H.len];exact hl),aVY (by rw[hMslen,←hlen];omega),H.len,hMslen,←hlen]
  congr 1;omega
 have hlive: ∀g,g<w.heap.size→eM (M++Mn) (kL hb ρ hs') g→eM M hb g:=by
  rintro g hg ⟨b,B,hb1,hb2⟩
  rcases hcase hb1 with⟨hb0,hb3⟩|⟨i,C,hC,rfl,rfl,he⟩
  ·refine⟨b,B,hb3, ?_⟩
   rw[aVP (by rw[H.len];exact(aVO.1 hb3).1)]at hb2
   exact hb2
  exact hliveS g (G.live g hg ⟨i,C,hC,by rw[←he];exact hb2⟩)
 have hnew: ∀{i:Nat}{C:Blk}{b:Nat}{B:Blk}{g:Nat},hs'[i]? =some (some C)→(Ms++Mn)[i]? =some (some g)→b∉ρ→hb[b]? =some (some B)→M[b]? =some (some g)→False:=by
  intro i C b B g hi hm hb0 hb1 hb2
  have hgs:g<w.heap.size:=H.lt (.inr ⟨b,B,hb1,hb2⟩)
  exact hout hb0 hb1 hb2 (G.live g hgs ⟨i,C,hi,hm⟩)
 refine⟨M++Mn,⟨⟨Mn,rfl⟩,⟨?_, ?_, ?_, ?_,H.glob.ext G.ext (fun g _ hl=> .inr (hliveS g hl)) (fun g hg hx=>hx.elim .inl (fun hl=> .inr (hlive g hg hl)))⟩,G.ext.mono (fun g _ hl=>hliveS g hl),hlive⟩,VR.rf _ _ (by rw[V.rf_rn];exact hrf) (VR.rn_to hto _ _ hv)⟩
 ·unfold kL
  rw[hsg]
  simp only[aWd,aWr,hlentlen,hrnlen,H.len]
  omega
 ·exact fun g hg=>aWt (H.alt g hg) G.ext.size
 ·intro b B hb1
  rcases hcase hb1 with⟨hb0,hb3⟩|⟨i,C,hC,rfl,rfl,he⟩
  ·have hbl:b<M.length:=by rw[H.len];exact(aVO.1 hb3).1
   obtain⟨h1,⟨hn,hc0⟩|⟨g,cs,hg,hA,hh,hle,hcs⟩⟩:=H.blk b B hb3
   ·exact⟨h1,.inl ⟨by rw[aVP hbl];exact hn,hc0⟩⟩
   have hgs:g<w.heap.size:=H.lt (.inr ⟨b,B,hb3,hg⟩)
   refine⟨h1,.inr ⟨g,cs,by rw[aVP hbl];exact hg,hA, ?_,hle, ?_⟩⟩
   ·exact hh.to (G.ext.block g hgs (hout hb0 hb3 hg))
   exact VCells.ext G.ext ⟨Mn,rfl⟩ (fun g _ hl=> .inr (hliveS g hl)) (fun g hg hx=>hx.elim .inl (fun hl=> .inr (hlive g hg hl))) _ _ hcs
  obtain⟨h1,h2⟩:=G.hr.blk i C hC
  refine⟨V.rns_mem (V.rn_one σ) h1, ?_⟩
  rcases h2 with⟨hn,hc0⟩|⟨g,cs,hg,hA,hh,hle,hcs⟩
  ·refine .inl ⟨by rw[he];exact hn, ?_⟩
   simp[Blk.rn,hc0,V.rns]
  refine .inr ⟨g,cs,by rw[he];exact hg,fun ha=>hA (.inl ha),by simpa[Blk.rn,V.rns_length]using hh, ?_, ?_⟩
  ·simpa[Blk.rn,V.rns_length]using hle
  have h5:=VCells.rn_to hto _ _ hcs
  have h6:VCells (Xs A (M++Mn) (kL hb ρ hs')) (M++Mn) w' (V.rns σ C.cells) (cs.toList.take C.cells.length):=VCells.rf _ _ (by rw[V.rfs_rn];exact hrb i C hC) h5
  simpa[Blk.rn,V.rns_length]using h6
 intro b c B C g hb1 hc1 mb mc
 rcases hcase hb1 with⟨hb0,hb3⟩|⟨i,D,hD,rfl,rfl,he⟩<;>rcases hcase hc1 with⟨hc0,hc3⟩|⟨j,E,hE,rfl,rfl,he'⟩
 ·rw[aVP (by rw[H.len];exact(aVO.1 hb3).1)]at mb
  rw[aVP (by rw[H.len];exact(aVO.1 hc3).1)]at mc
  exact H.inj b c B C g hb3 hc3 mb mc
 ·rw[aVP (by rw[H.len];exact(aVO.1 hb3).1)]at mb
  rw[he']at mc
  exact(hnew hE mc hb0 hb3 mb).elim
 ·rw[aVP (by rw[H.len];exact(aVO.1 hc3).1)]at mc
  rw[he]at mb
  exact(hnew hD mb hc0 hc3 mc).elim
 rw[G.hr.inj i j D E g hD hE (by rw[←he];exact mb) (by rw[←he'];exact mc)]
def rfB :Hp→Prop
 | []=>True
 |none::h=>rfB h
 |some B::h=>V.rfs B.cells=true∧rfB h
theorem rfB.get : ∀{h:Hp},rfB h→ ∀(i:Nat)(B:Blk),h[i]? =some (some B)→V.rfs B.cells=true
 | [],_,i,B,hi=>by simp at hi
 |none::h,hh,0,B,hi=>by simp at hi
 |none::h,hh,i+1,B,hi=>rfB.get (h:=h) hh i B (by simpa using hi)
 |some C::h,hh,0,B,hi=>by simp at hi;subst hi;exact hh.1
 |some C::h,hh,i+1,B,hi=>rfB.get (h:=h) hh.2 i B (by simpa using hi)
theorem rfB.nil :rfB []:=trivial
theorem rfB.live {h:Hp}{e:TypeId}{cs:List V}(hc:V.rfs cs=true)(k:rfB h):rfB (some ⟨e,cs⟩::h):=⟨hc,k⟩
theorem Fn.lendR {P:Program}{f:FuncId}{hs hs' hb hb':Hp}{args xs:List V}{r v:V}(hc:Fn P f hs args r hs')(ρ β:List Nat)(hnd:ρ.Nodup)(hlt:ρ.all (fun b=>aXE b hb.length)=true)(hdis: ∀b∈β,b∉ρ)(hl:Lend (sg ρ hb.length) hb ρ hs)
  (hx:Brw (sg ρ hb.length) (only β hb) xs args) (hrf:r.rf=true) (hrb:rfB hs') (hr:r.rn (sg ρ hb.length)=v) (hh:kL hb ρ hs'=hb'):Fn P f hb xs v hb':=by
 have:=Fn.borrow (hb:=hb) hc ρ β hl.len hnd (fun b hb'=>by
  have h2:=aVV.1 hlt b hb'
  exact aWv (n:=b+1) h2) hdis hl.get hx hrf hrb.get
 rw[hr,hh]at this
 exact this
section
variable {P:Program}{N:Nat}{Q:Ex→List V→Hp→Prop}{s:List V}{h h':Hp}
theorem AB.seq_g {c d:Code}(hh: ∀K:List V→Hp→Prop,(∀s h,AB P N d Q s h→K s h)→(∀s h s' h',Ghost N s h s' h'→K s' h'→K s h)→AB P N c (Ex.then K Q) s h):AB P N (.seq c d) Q s h:=
 AB.seq (hh _ (fun _ _ hk=>hk) (fun _ _ _ _ hg hk=>AB.ghost hg hk))
variable {f:FuncId}{xs:List V}{r:V}
variable (t:TypeId)(xo yo:Operand)
theorem aAQ {α β:Type}(s:Sem α)(f:α→β){a:α}(h:bC P s=some a):bC P (Functor.map f s)=some (f a):=by
 show bC P (Sem.bind s _)=_
 induction s with
 |pure x=>simp only[bC,aVS]at h;subst h;rfl
 |program k ih=>exact ih P h
 |mark m k ih=>exact ih h
 |_=>simp[bC]at h
theorem aK8 (a b:ByteArray):eT P .eql t xo yo (.sc (.string a)) (.sc (.string b))=some (.sc (.bool (a.toList == b.toList))):=by
 simp only[eT,eV,eF,aK2,pureV];rfl
end
theorem aSX {P:Program}{h h':Hp}{t e:TypeId}{ti:TI}{i b:Nat}{α:Type}{E:α→V}{l m:List α}{sz by_:Nat}{z:Value}{ag:Bool}{q:Nat}(hn:q≤l.length)(ht:aU P t=some ⟨.slice e,sz,by_,z⟩)(he:aU P e=some ti)(h1:ti.zero.cells.size=1∧ti.size=1∧1≤ti.bytes)(hb:h[b]? =some (some ⟨e,l.map E⟩)){s:V}(hs:iV h 1 s=some (m.map E,m.length))
  {r:List α} (ha:eE ti.bytes (l.take q) m=some r) (hl:h.length=i) (hh:h.set b none++[some ⟨e,r.map E⟩]=h'):mP P t t (.sl b 0 q 1 ag) s h=some (.sl i 0 r.length 1 ag,h'):=by
 obtain⟨h2,h3,h4⟩:=h1
 unfold eE at ha
 split at ha
 ·rename_i hlim
  injection ha with ha
  have hql:(l.take q).length=q:=by simp;omega
  rw[hql]at hlim
  subst ha hl hh
  have hx:iV h ti.size s=some (m.map E,m.length):=by rw[h3];exact hs
  simp only[mP,ne_eq,not_true,if_false,ht,he]
  rw[if_pos ⟨by rw[h2,h3],by omega,h4⟩]
  simp only[hx,hb]
  rw[if_pos ⟨h3.symm,trivial,by simp;omega,hlim⟩]
  simp[aWD,aWE hn]
 cases ha
theorem mkC {k1 k2:IntKind}{P:Program}{h h':Hp}{t e:TypeId}{ti:TI}{i:Nat}{α:Type}{E:α→V}{sz by_:Nat}{z:Value}{ag:Bool}{j:Int}{y:α}(ht:aU P t=some ⟨.slice e,sz,by_,z⟩)(he:aU P e=some ti)(h1:1≤ti.bytes∧ti.size=1∧ti.zero.cells.size=1)(hz:ti.zero.cells.toList.map (V.soft∘fB)=[E y])(ho:(E y).one=true)(hag:cI ti.desc=ag){r:List α}
  (hm:mks ti.bytes y j=some r) (hl:h.length=i) (hh:h++[some ⟨e,r.map E⟩]=h'):aBr P t (.sc (.int k1 0)) (.sc (.int k2 j)) h=some (.sl i 0 0 1 ag,h'):=by
 obtain⟨h2,h3,h4⟩:=h1
 unfold mks at hm
 split at hm
 ·rename_i hlim
  injection hm with hm
  subst hm hl hh hag
  simp only[aBr,ht,he]
  rw[if_pos ⟨aWR _,hlim.1,hlim.2,h2,by omega,by rw[h4,h3],by rw[hz];simp[ho]⟩,hz]
  simp only[h3,if_true]
  have: ∀n,(aV7 n [E y]).flatten=(aV7 n y).map E:=fun n=>by
   induction n with
   |zero=>rfl
   |succ n ih=>simp only[aWB,aWH,ih,aWa];rfl
  rw[this];simp
 cases hm
def vI :Nat→List V→List (Nat×V)
 |_,[]=>[]
 |i,x::xs=>(i,x)::vI (i+1) xs
theorem aLQ : ∀(xs:List V)(i:Nat)(cells:List V),cells.length=i+xs.length→xs.all (fun x=>x.one&&(x.cells.length == 1))=true→rE (fun i=>some (i*1,1)) cells (vI i xs)=some (cells.take i++xs)
 | [],i,cells,hl,_=>by
  simp only[vI,rE,aWx]
  rw[aVR (by simp at hl;omega)]
 |x::xs,i,cells,hl,ho=>by
  simp only[aWF,aV0,beq_iff_eq]at ho
  obtain⟨⟨h1,h2⟩,h3⟩:=ho
  simp only[aWb]at hl
  have hc:x.cells=[x]:=by cases x<;>first|rfl|simp[V.one]at h1
  simp only[vI,rE]
  rw[if_pos ⟨by simp[V.flatOk,hc,h1],h2,by omega⟩,hc]
  have hs:splice cells (i*1) [x]=cells.set i x:=by
   have:=aHR (E:=fun v:V=>v) (l:=cells) i (by omega) x
   simpa using this
  rw[hs,aLQ xs (i+1) _ (by simp;omega) (by simpa[aVV,aV0]using h3)]
  congr 1
  rw[aWq (by simp;omega)]
  simp[List.take_set_of_le]
theorem aNH {P:Program}{h h':Hp}{t e:TypeId}{ti:TI}{i sz by_ len:Nat}{z:Value}{ps:List (Nat×V)}{xs:List V}{ag:Bool}(ht:aU P t=some ⟨.slice e,sz,by_,z⟩)(he:aU P e=some ti)(h1:len*1≤2^24)(h2:0<len)(hs:ti.size=1)(hag:cI ti.desc=ag)
  (hp:vI 0 xs=ps) (ho:xs.all (fun x=>x.one&&(x.cells.length == 1))=true) (hlen:xs.length=len) (hl:h.length=i) (hh:h++[some ⟨e,xs⟩]=h'):kQ P t len ps h=some (.sl i 0 len 1 ag,h'):=by
 have hones:xs.all V.one=true:=by
  rw[aVV]at ho⊢
  intro x hx
  have:=ho x hx
  simp only[aV0]at this
  exact this.1
 subst hp
 have:=aSO (h:=h) (len:=len) (cs:=xs) (ps:=vI 0 xs) (i:=i) (h':=h') ht he (by rw[hs];exact⟨h1,h2,by omega⟩) hag (by
  rw[hs]
  rw[aLQ xs 0 _ (by simp[hs,hlen]) ho]
  simp) ⟨hones,by rw[hs,hlen];omega⟩ hl hh
 rw[hs]at this
 exact this
theorem aIp {k:IntKind}(hk:k.signed=false)(n:Int):k.wrap n=n%2^k.bits:=by simp[IntKind.wrap,hk]
theorem aFH {k:IntKind}(hk:k.signed=false)(a b:Nat)(ha:a<2^k.bits)(hb:b<2^k.bits):bits .and k (a:Int) (b:Int)=((a &&& b:Nat):Int):=by
 have hab:a &&& b<2^k.bits:=Nat.and_lt_two_pow a hb
 simp only[bits,aIp hk,BitVec.toNat_and,BitVec.toNat_ofInt]
 have e1:((a:Int)%((2^k.bits:Nat):Int)).toNat=a:=by rw[←aWk,aWj,aWs ha]
 have e2:((b:Int)%((2^k.bits:Nat):Int)).toNat=b:=by rw[←aWk,aWj,aWs hb]
 rw[e1,e2]
 rw[show(2:Int)^k.bits=((2^k.bits:Nat):Int) by simp,←aWk,aWs hab]
theorem z5 {k:IntKind}(hk:k.signed=false)(a b:Nat)(ha:a<2^k.bits)(hb:b<2^k.bits):bits .or k (a:Int) (b:Int)=((a ||| b:Nat):Int):=by
 have hab:a ||| b<2^k.bits:=Nat.or_lt_two_pow ha hb
 simp only[bits,aIp hk,BitVec.toNat_or,BitVec.toNat_ofInt]
 have e1:((a:Int)%((2^k.bits:Nat):Int)).toNat=a:=by rw[←aWk,aWj,aWs ha]
 have e2:((b:Int)%((2^k.bits:Nat):Int)).toNat=b:=by rw[←aWk,aWj,aWs hb]
 rw[e1,e2]
 rw[show(2:Int)^k.bits=((2^k.bits:Nat):Int) by simp,←aWk,aWs hab]
theorem aAz {k:IntKind}(a b:Nat)(ha:a<2^k.bits):shr k (a:Int) (b:Int)=some ((a/2^b:Nat):Int):=by
 unfold shr
 rw[if_neg (by omega)]
 congr 1
 rw[aWj]
 have:(2:Int)^min b k.bits=((2^min b k.bits:Nat):Int):=by simp
 rw[this,Int.fdiv_eq_ediv_of_nonneg _ (Int.natCast_nonneg _),←Int.natCast_ediv]
 congr 1
 rcases aXn b k.bits with hb|hb
 ·rw[aWE hb]
 rw[aXr hb,aXs ha,aXs (aWt ha (Nat.pow_le_pow_right (by omega) hb))]
theorem aEm {k:IntKind}(hk:k.signed=false)(a b:Nat):shl k (a:Int) (b:Int)=some ((a*2^b%2^k.bits:Nat):Int):=by
 unfold shl
 rw[if_neg (by omega),aIp hk]
 congr 1
 rw[aWj]
 have e:(2:Int)^min b k.bits=((2^min b k.bits:Nat):Int):=by simp
 rw[e,show(2:Int)^k.bits=((2^k.bits:Nat):Int) by simp,←Int.natCast_mul,←aWk]
 congr 1
 rcases aXn b k.bits with hb|hb
 ·rw[aWE hb]
 rw[aXr hb,aXt]
 obtain⟨c,rfl⟩:=Nat.exists_eq_add_of_le hb
 rw[Nat.pow_add,←Nat.mul_assoc,Nat.mul_right_comm,aXt]
theorem aEr {α:Type}(l:List α)(i:Nat):bY l (i:Int)=l[i]? :=by simp[bY]
theorem cL {α:Type}(l:List α){i:Nat}(h:i<l.length):bY l (i:Int)=some l[i]:=by rw[aEr,aVQ h]
theorem aBt {α:Type}{by_:Nat}{l m:List α}(h:(l.length+m.length)*by_≤oU):eE by_ l m=some (l++m):=by simp[eE,h]
theorem aEy {α:Type}{by_:Nat}{z:α}{n:Nat}(h:n*by_≤oU):mks by_ z (n:Int)=some (aV7 n z):=by
 simp only[mks,aWj]
 rw[if_pos ⟨by omega,h⟩]
theorem aJB {α:Type}{l m:List α}(h:l.length=m.length):nE l m=m:=by
 unfold nE;rw[h,aVR (aWo _),aV4 (by omega)];simp
theorem sN (a b:Nat):Int.tdiv (a:Int) (b:Int)=((a/b:Nat):Int):=by rw[Int.tdiv_eq_ediv_of_nonneg (by omega)];simp
theorem uX (a b:Nat):Int.tmod (a:Int) (b:Int)=((a%b:Nat):Int):=by rw[Int.tmod_eq_emod_of_nonneg (by omega)];simp
def Byt (l:List Int):Prop:= ∀x∈l,0≤x∧x<256
theorem Byt.append {l m:List Int}(h:Byt l)(k:Byt m):Byt (l++m):=fun x hx=>(List.mem_append.1 hx).elim (h x) (k x)
theorem Byt.set {l:List Int}(h:Byt l)(i:Nat){x:Int}(hx:0≤x∧x<256):Byt (l.set i x):=fun y hy=>(List.mem_or_eq_of_mem_set hy).elim (h y) (fun e=>e▸hx)
theorem Fn.toP {P:Program}{f:FuncId}{xs:List V}{r:V}(hc:Fn P f [] xs r []):PFn P f xs r:=by
 intro A w vs hA hGl hv
 refine(hc A [] w vs (HR.nil hA hGl) (hv.avoid (fun g _ hx=>aLu.1 hx))).mono fun v w' ⟨M',G,hr⟩=> ?_
 have hM:M'=[]:=aVU G.hr.len
 subst hM
 exact⟨G.ext.mono fun g _ hl=>by obtain⟨b,B,hb,_⟩:=hl;simp at hb,hr.avoid (fun g _ hx=>aLu.2 hx)⟩
end Go.Vm
namespace Go.Proofs.YtbjiaghljpoliaaGreatDoor
open Go Go.Vm
@[simp] theorem ti2 :aU Tryz.prog 2=some ⟨.int .i64,1,8,.int .i64 0⟩:=by kernel_rfl
@[simp] theorem dW :aU Tryz.prog 3=some ⟨.int .i64,1,8,.int .i64 0⟩:=by kernel_rfl
@[simp] theorem ti4 :aU Tryz.prog 4=some ⟨.bool,1,1,.bool false⟩:=by kernel_rfl
@[simp] theorem dO :aU Tryz.prog 5=some ⟨.int .u8,1,1,.int .u8 0⟩:=by kernel_rfl
@[simp] theorem ti9 :aU Tryz.prog 9=some ⟨.string,1,16,.string .empty⟩:=by kernel_rfl
@[simp] theorem aU5 :aU Tryz.prog 12=some ⟨.int .u64,1,8,.int .u64 0⟩:=by kernel_rfl
@[simp] theorem aUD :aU Tryz.prog 21=some ⟨.int .i32,1,4,.int .i32 0⟩:=by kernel_rfl
@[simp] theorem vJ :aU Tryz.prog 22=some ⟨.int .u32,1,4,.int .u32 0⟩:=by kernel_rfl
@[simp] theorem aNr :aU Tryz.prog 23=some ⟨.slice 48,1,24,.slice none 0 0⟩:=by kernel_rfl
@[simp] theorem aNN :aU Tryz.prog 24=some ⟨.slice 33,1,24,.slice none 0 0⟩:=by kernel_rfl
@[simp] theorem aVe :aU Tryz.prog 25=some ⟨.struct #[{name:= "Version",type:=22,offset:=0,embedded:=false,tag:= "",pkgPath:= "",byteOffset:=0},{name:= "Inputs",type:=23,offset:=1,embedded:=false,tag:= "",pkgPath:= "",byteOffset:=8},{name:= "Outputs",type:=24,offset:=2,embedded:=false,tag:= "",pkgPath:= "",byteOffset:=32},{name:= "Lock",type:=22,offset:=3,embedded:=false,tag:= "",pkgPath:= "",byteOffset:=56}],4,64,.agg #[.int .u32 0,.slice none 0 0,.slice none 0 0,.int .u32 0]⟩:=by kernel_rfl
@[simp] theorem aEM :aU Tryz.prog 26=some ⟨.struct #[{name:= "Version",type:=22,offset:=0,embedded:=false,tag:= "",pkgPath:= "",byteOffset:=0},{name:= "Inputs",type:=23,offset:=1,embedded:=false,tag:= "",pkgPath:= "",byteOffset:=8},{name:= "Outputs",type:=24,offset:=2,embedded:=false,tag:= "",pkgPath:= "",byteOffset:=32},{name:= "Lock",type:=22,offset:=3,embedded:=false,tag:= "",pkgPath:= "",byteOffset:=56}],4,64,.agg #[.int .u32 0,.slice none 0 0,.slice none 0 0,.int .u32 0]⟩:=by kernel_rfl
@[simp] theorem aU6 :aU Tryz.prog 27=some ⟨.array 32 5,32,32,.agg #[.int .u8 0,.int .u8 0,.int .u8 0,.int .u8 0,.int .u8 0,.int .u8 0,.int .u8 0,.int .u8 0,.int .u8 0,.int .u8 0,.int .u8 0,.int .u8 0,.int .u8 0,.int .u8 0,.int .u8 0,.int .u8 0,.int .u8 0,.int .u8 0,.int .u8 0,.int .u8 0,.int .u8 0,.int .u8 0,.int .u8 0,.int .u8 0,.int .u8 0,.int .u8 0,.int .u8 0,.int .u8 0,.int .u8 0,.int .u8 0,.int .u8 0,.int .u8 0]⟩:=by kernel_rfl
@[simp] theorem vL :aU Tryz.prog 28=some ⟨.array 32 5,32,32,.agg #[.int .u8 0,.int .u8 0,.int .u8 0,.int .u8 0,.int .u8 0,.int .u8 0,.int .u8 0,.int .u8 0,.int .u8 0,.int .u8 0,.int .u8 0,.int .u8 0,.int .u8 0,.int .u8 0,.int .u8 0,.int .u8 0,.int .u8 0,.int .u8 0,.int .u8 0,.int .u8 0,.int .u8 0,.int .u8 0,.int .u8 0,.int .u8 0,.int .u8 0,.int .u8 0,.int .u8 0,.int .u8 0,.int .u8 0,.int .u8 0,.int .u8 0,.int .u8 0]⟩:=by kernel_rfl
@[simp] theorem aVG :aU Tryz.prog 29=some ⟨.struct #[{name:= "Tx",type:=28,offset:=0,embedded:=false,tag:= "",pkgPath:= "",byteOffset:=0},{name:= "Index",type:=22,offset:=32,embedded:=false,tag:= "",pkgPath:= "",byteOffset:=32}],33,36,.agg #[.int .u8 0,.int .u8 0,.int .u8 0,.int .u8 0,.int .u8 0,.int .u8 0,.int .u8 0,.int .u8 0,.int .u8 0,.int .u8 0,.int .u8 0,.int .u8 0,.int .u8 0,.int .u8 0,.int .u8 0,.int .u8 0,.int .u8 0,.int .u8 0,.int .u8 0,.int .u8 0,.int .u8 0,.int .u8 0,.int .u8 0,.int .u8 0,.int .u8 0,.int .u8 0,.int .u8 0,.int .u8 0,.int .u8 0,.int .u8 0,.int .u8 0,.int .u8 0,.int .u32 0]⟩:=by kernel_rfl
@[simp] theorem rG :aU Tryz.prog 30=some ⟨.struct #[{name:= "Tx",type:=28,offset:=0,embedded:=false,tag:= "",pkgPath:= "",byteOffset:=0},{name:= "Index",type:=22,offset:=32,embedded:=false,tag:= "",pkgPath:= "",byteOffset:=32}],33,36,.agg #[.int .u8 0,.int .u8 0,.int .u8 0,.int .u8 0,.int .u8 0,.int .u8 0,.int .u8 0,.int .u8 0,.int .u8 0,.int .u8 0,.int .u8 0,.int .u8 0,.int .u8 0,.int .u8 0,.int .u8 0,.int .u8 0,.int .u8 0,.int .u8 0,.int .u8 0,.int .u8 0,.int .u8 0,.int .u8 0,.int .u8 0,.int .u8 0,.int .u8 0,.int .u8 0,.int .u8 0,.int .u8 0,.int .u8 0,.int .u8 0,.int .u8 0,.int .u8 0,.int .u32 0]⟩:=by kernel_rfl
@[simp] theorem dC :aU Tryz.prog 31=some ⟨.slice 5,1,24,.slice none 0 0⟩:=by kernel_rfl
@[simp] theorem aVh :aU Tryz.prog 32=some ⟨.struct #[{name:= "Value",type:=2,offset:=0,embedded:=false,tag:= "",pkgPath:= "",byteOffset:=0},{name:= "Script",type:=31,offset:=1,embedded:=false,tag:= "",pkgPath:= "",byteOffset:=8}],2,32,.agg #[.int .i64 0,.slice none 0 0]⟩:=by kernel_rfl
@[simp] theorem aGr :aU Tryz.prog 33=some ⟨.struct #[{name:= "Value",type:=2,offset:=0,embedded:=false,tag:= "",pkgPath:= "",byteOffset:=0},{name:= "Script",type:=31,offset:=1,embedded:=false,tag:= "",pkgPath:= "",byteOffset:=8}],2,32,.agg #[.int .i64 0,.slice none 0 0]⟩:=by kernel_rfl
@[simp] theorem aVm :aU Tryz.prog 34=some ⟨.struct #[{name:= "Out",type:=30,offset:=0,embedded:=false,tag:= "",pkgPath:= "",byteOffset:=0},{name:= "Output",type:=33,offset:=33,embedded:=false,tag:= "",pkgPath:= "",byteOffset:=40},{name:= "Height",type:=3,offset:=35,embedded:=false,tag:= "",pkgPath:= "",byteOffset:=72},{name:= "Coinbase",type:=4,offset:=36,embedded:=false,tag:= "",pkgPath:= "",byteOffset:=80}],37,88,.agg #[.int .u8 0,.int .u8 0,.int .u8 0,.int .u8 0,.int .u8 0,.int .u8 0,.int .u8 0,.int .u8 0,.int .u8 0,.int .u8 0,.int .u8 0,.int .u8 0,.int .u8 0,.int .u8 0,.int .u8 0,.int .u8 0,.int .u8 0,.int .u8 0,.int .u8 0,.int .u8 0,.int .u8 0,.int .u8 0,.int .u8 0,.int .u8 0,.int .u8 0,.int .u8 0,.int .u8 0,.int .u8 0,.int .u8 0,.int .u8 0,.int .u8 0,.int .u8 0,.int .u32 0,.int .i64 0,.slice none 0 0,.int .i64 0,.bool false]⟩:=by kernel_rfl
@[simp] theorem aCv :aU Tryz.prog 35=some ⟨.struct #[{name:= "Out",type:=30,offset:=0,embedded:=false,tag:= "",pkgPath:= "",byteOffset:=0},{name:= "Output",type:=33,offset:=33,embedded:=false,tag:= "",pkgPath:= "",byteOffset:=40},{name:= "Height",type:=3,offset:=35,embedded:=false,tag:= "",pkgPath:= "",byteOffset:=72},{name:= "Coinbase",type:=4,offset:=36,embedded:=false,tag:= "",pkgPath:= "",byteOffset:=80}],37,88,.agg #[.int .u8 0,.int .u8 0,.int .u8 0,.int .u8 0,.int .u8 0,.int .u8 0,.int .u8 0,.int .u8 0,.int .u8 0,.int .u8 0,.int .u8 0,.int .u8 0,.int .u8 0,.int .u8 0,.int .u8 0,.int .u8 0,.int .u8 0,.int .u8 0,.int .u8 0,.int .u8 0,.int .u8 0,.int .u8 0,.int .u8 0,.int .u8 0,.int .u8 0,.int .u8 0,.int .u8 0,.int .u8 0,.int .u8 0,.int .u8 0,.int .u8 0,.int .u8 0,.int .u32 0,.int .i64 0,.slice none 0 0,.int .i64 0,.bool false]⟩:=by kernel_rfl
@[simp] theorem aVE :aU Tryz.prog 38=some ⟨.int .i64,1,8,.int .i64 0⟩:=by kernel_rfl
@[simp] theorem aS6 :aU Tryz.prog 41=some ⟨.slice 35,1,24,.slice none 0 0⟩:=by kernel_rfl
@[simp] theorem aAZ :aU Tryz.prog 46=some ⟨.slice 31,1,24,.slice none 0 0⟩:=by kernel_rfl
@[simp] theorem aUU :aU Tryz.prog 47=some ⟨.struct #[{name:= "Prev",type:=30,offset:=0,embedded:=false,tag:= "",pkgPath:= "",byteOffset:=0},{name:= "Sequence",type:=22,offset:=33,embedded:=false,tag:= "",pkgPath:= "",byteOffset:=36},{name:= "Witness",type:=46,offset:=34,embedded:=false,tag:= "",pkgPath:= "",byteOffset:=40}],35,64,.agg #[.int .u8 0,.int .u8 0,.int .u8 0,.int .u8 0,.int .u8 0,.int .u8 0,.int .u8 0,.int .u8 0,.int .u8 0,.int .u8 0,.int .u8 0,.int .u8 0,.int .u8 0,.int .u8 0,.int .u8 0,.int .u8 0,.int .u8 0,.int .u8 0,.int .u8 0,.int .u8 0,.int .u8 0,.int .u8 0,.int .u8 0,.int .u8 0,.int .u8 0,.int .u8 0,.int .u8 0,.int .u8 0,.int .u8 0,.int .u8 0,.int .u8 0,.int .u8 0,.int .u32 0,.int .u32 0,.slice none 0 0]⟩:=by kernel_rfl
@[simp] theorem tY :aU Tryz.prog 48=some ⟨.struct #[{name:= "Prev",type:=30,offset:=0,embedded:=false,tag:= "",pkgPath:= "",byteOffset:=0},{name:= "Sequence",type:=22,offset:=33,embedded:=false,tag:= "",pkgPath:= "",byteOffset:=36},{name:= "Witness",type:=46,offset:=34,embedded:=false,tag:= "",pkgPath:= "",byteOffset:=40}],35,64,.agg #[.int .u8 0,.int .u8 0,.int .u8 0,.int .u8 0,.int .u8 0,.int .u8 0,.int .u8 0,.int .u8 0,.int .u8 0,.int .u8 0,.int .u8 0,.int .u8 0,.int .u8 0,.int .u8 0,.int .u8 0,.int .u8 0,.int .u8 0,.int .u8 0,.int .u8 0,.int .u8 0,.int .u8 0,.int .u8 0,.int .u8 0,.int .u8 0,.int .u8 0,.int .u8 0,.int .u8 0,.int .u8 0,.int .u8 0,.int .u8 0,.int .u8 0,.int .u8 0,.int .u32 0,.int .u32 0,.slice none 0 0]⟩:=by kernel_rfl
@[simp] theorem aU0 :aU Tryz.prog 53=some ⟨.struct #[{name:= "Message",type:=28,offset:=0,embedded:=false,tag:= "",pkgPath:= "",byteOffset:=0},{name:= "Height",type:=3,offset:=32,embedded:=false,tag:= "",pkgPath:= "",byteOffset:=32},{name:= "Age",type:=3,offset:=33,embedded:=false,tag:= "",pkgPath:= "",byteOffset:=40}],34,48,.agg #[.int .u8 0,.int .u8 0,.int .u8 0,.int .u8 0,.int .u8 0,.int .u8 0,.int .u8 0,.int .u8 0,.int .u8 0,.int .u8 0,.int .u8 0,.int .u8 0,.int .u8 0,.int .u8 0,.int .u8 0,.int .u8 0,.int .u8 0,.int .u8 0,.int .u8 0,.int .u8 0,.int .u8 0,.int .u8 0,.int .u8 0,.int .u8 0,.int .u8 0,.int .u8 0,.int .u8 0,.int .u8 0,.int .u8 0,.int .u8 0,.int .u8 0,.int .u8 0,.int .i64 0,.int .i64 0]⟩:=by kernel_rfl
@[simp] theorem aBE :aU Tryz.prog 54=some ⟨.struct #[{name:= "Message",type:=28,offset:=0,embedded:=false,tag:= "",pkgPath:= "",byteOffset:=0},{name:= "Height",type:=3,offset:=32,embedded:=false,tag:= "",pkgPath:= "",byteOffset:=32},{name:= "Age",type:=3,offset:=33,embedded:=false,tag:= "",pkgPath:= "",byteOffset:=40}],34,48,.agg #[.int .u8 0,.int .u8 0,.int .u8 0,.int .u8 0,.int .u8 0,.int .u8 0,.int .u8 0,.int .u8 0,.int .u8 0,.int .u8 0,.int .u8 0,.int .u8 0,.int .u8 0,.int .u8 0,.int .u8 0,.int .u8 0,.int .u8 0,.int .u8 0,.int .u8 0,.int .u8 0,.int .u8 0,.int .u8 0,.int .u8 0,.int .u8 0,.int .u8 0,.int .u8 0,.int .u8 0,.int .u8 0,.int .u8 0,.int .u8 0,.int .u8 0,.int .u8 0,.int .i64 0,.int .i64 0]⟩:=by kernel_rfl
@[simp] theorem aUX :aU Tryz.prog 74=some ⟨.map 30 4,1,8,.map none⟩:=by kernel_rfl
@[simp] theorem nA :aU Tryz.prog 78=some ⟨.int .u64,1,8,.int .u64 0⟩:=by kernel_rfl
@[simp] theorem aQm :aU Tryz.prog 80=some ⟨.slice 90,1,24,.slice none 0 0⟩:=by kernel_rfl
@[simp] theorem aJE :aU Tryz.prog 86=some ⟨.slice 113,1,24,.slice none 0 0⟩:=by kernel_rfl
@[simp] theorem aUP :aU Tryz.prog 87=some ⟨.struct #[{name:= "Env",type:=54,offset:=0,embedded:=true,tag:= "",pkgPath:= "",byteOffset:=0},{name:= "stack",type:=46,offset:=34,embedded:=false,tag:= "",pkgPath:= "lightclient/script",byteOffset:=48},{name:= "branches",type:=86,offset:=35,embedded:=false,tag:= "",pkgPath:= "lightclient/script",byteOffset:=72},{name:= "cost",type:=3,offset:=36,embedded:=false,tag:= "",pkgPath:= "lightclient/script",byteOffset:=96}],37,104,.agg #[.int .u8 0,.int .u8 0,.int .u8 0,.int .u8 0,.int .u8 0,.int .u8 0,.int .u8 0,.int .u8 0,.int .u8 0,.int .u8 0,.int .u8 0,.int .u8 0,.int .u8 0,.int .u8 0,.int .u8 0,.int .u8 0,.int .u8 0,.int .u8 0,.int .u8 0,.int .u8 0,.int .u8 0,.int .u8 0,.int .u8 0,.int .u8 0,.int .u8 0,.int .u8 0,.int .u8 0,.int .u8 0,.int .u8 0,.int .u8 0,.int .u8 0,.int .u8 0,.int .i64 0,.int .i64 0,.slice none 0 0,.slice none 0 0,.int .i64 0]⟩:=by kernel_rfl
@[simp] theorem aBc :aU Tryz.prog 88=some ⟨.struct #[{name:= "Env",type:=54,offset:=0,embedded:=true,tag:= "",pkgPath:= "",byteOffset:=0},{name:= "stack",type:=46,offset:=34,embedded:=false,tag:= "",pkgPath:= "lightclient/script",byteOffset:=48},{name:= "branches",type:=86,offset:=35,embedded:=false,tag:= "",pkgPath:= "lightclient/script",byteOffset:=72},{name:= "cost",type:=3,offset:=36,embedded:=false,tag:= "",pkgPath:= "lightclient/script",byteOffset:=96}],37,104,.agg #[.int .u8 0,.int .u8 0,.int .u8 0,.int .u8 0,.int .u8 0,.int .u8 0,.int .u8 0,.int .u8 0,.int .u8 0,.int .u8 0,.int .u8 0,.int .u8 0,.int .u8 0,.int .u8 0,.int .u8 0,.int .u8 0,.int .u8 0,.int .u8 0,.int .u8 0,.int .u8 0,.int .u8 0,.int .u8 0,.int .u8 0,.int .u8 0,.int .u8 0,.int .u8 0,.int .u8 0,.int .u8 0,.int .u8 0,.int .u8 0,.int .u8 0,.int .u8 0,.int .i64 0,.int .i64 0,.slice none 0 0,.slice none 0 0,.int .i64 0]⟩:=by kernel_rfl
@[simp] theorem aUA :aU Tryz.prog 89=some ⟨.struct #[{name:= "Code",type:=3,offset:=0,embedded:=false,tag:= "",pkgPath:= "",byteOffset:=0},{name:= "Data",type:=31,offset:=1,embedded:=false,tag:= "",pkgPath:= "",byteOffset:=8},{name:= "M",type:=3,offset:=2,embedded:=false,tag:= "",pkgPath:= "",byteOffset:=32},{name:= "N",type:=3,offset:=3,embedded:=false,tag:= "",pkgPath:= "",byteOffset:=40}],4,48,.agg #[.int .i64 0,.slice none 0 0,.int .i64 0,.int .i64 0]⟩:=by kernel_rfl
@[simp] theorem aBM :aU Tryz.prog 90=some ⟨.struct #[{name:= "Code",type:=3,offset:=0,embedded:=false,tag:= "",pkgPath:= "",byteOffset:=0},{name:= "Data",type:=31,offset:=1,embedded:=false,tag:= "",pkgPath:= "",byteOffset:=8},{name:= "M",type:=3,offset:=2,embedded:=false,tag:= "",pkgPath:= "",byteOffset:=32},{name:= "N",type:=3,offset:=3,embedded:=false,tag:= "",pkgPath:= "",byteOffset:=40}],4,48,.agg #[.int .i64 0,.slice none 0 0,.int .i64 0,.int .i64 0]⟩:=by kernel_rfl
@[simp] theorem aJA :aU Tryz.prog 95=some ⟨.array 8 22,8,32,.agg #[.int .u32 0,.int .u32 0,.int .u32 0,.int .u32 0,.int .u32 0,.int .u32 0,.int .u32 0,.int .u32 0]⟩:=by kernel_rfl
@[simp] theorem aPl :aU Tryz.prog 97=some ⟨.array 64 5,64,64,.agg #[.int .u8 0,.int .u8 0,.int .u8 0,.int .u8 0,.int .u8 0,.int .u8 0,.int .u8 0,.int .u8 0,.int .u8 0,.int .u8 0,.int .u8 0,.int .u8 0,.int .u8 0,.int .u8 0,.int .u8 0,.int .u8 0,.int .u8 0,.int .u8 0,.int .u8 0,.int .u8 0,.int .u8 0,.int .u8 0,.int .u8 0,.int .u8 0,.int .u8 0,.int .u8 0,.int .u8 0,.int .u8 0,.int .u8 0,.int .u8 0,.int .u8 0,.int .u8 0,.int .u8 0,.int .u8 0,.int .u8 0,.int .u8 0,.int .u8 0,.int .u8 0,.int .u8 0,.int .u8 0,.int .u8 0,.int .u8 0,.int .u8 0,.int .u8 0,.int .u8 0,.int .u8 0,.int .u8 0,.int .u8 0,.int .u8 0,.int .u8 0,.int .u8 0,.int .u8 0,.int .u8 0,.int .u8 0,.int .u8 0,.int .u8 0,.int .u8 0,.int .u8 0,.int .u8 0,.int .u8 0,.int .u8 0,.int .u8 0,.int .u8 0,.int .u8 0]⟩:=by kernel_rfl
@[simp] theorem aU1 :aU Tryz.prog 99=some ⟨.int .u64,1,8,.int .u64 0⟩:=by kernel_rfl
@[simp] theorem aNU :aU Tryz.prog 100=some ⟨.slice 103,1,24,.slice none 0 0⟩:=by kernel_rfl
@[simp] theorem aUs :aU Tryz.prog 102=some ⟨.struct #[{name:= "reached",type:=4,offset:=0,embedded:=false,tag:= "",pkgPath:= "lightclient/lightclientref08",byteOffset:=0},{name:= "done",type:=4,offset:=1,embedded:=false,tag:= "",pkgPath:= "lightclient/lightclientref08",byteOffset:=1}],2,2,.agg #[.bool false,.bool false]⟩:=by kernel_rfl
@[simp] theorem aET :aU Tryz.prog 103=some ⟨.struct #[{name:= "reached",type:=4,offset:=0,embedded:=false,tag:= "",pkgPath:= "lightclient/lightclientref08",byteOffset:=0},{name:= "done",type:=4,offset:=1,embedded:=false,tag:= "",pkgPath:= "lightclient/lightclientref08",byteOffset:=1}],2,2,.agg #[.bool false,.bool false]⟩:=by kernel_rfl
@[simp] theorem aNZ :aU Tryz.prog 110=some ⟨.slice 4,1,24,.slice none 0 0⟩:=by kernel_rfl
@[simp] theorem aUv :aU Tryz.prog 111=some ⟨.pointer 88,1,8,.pointer none⟩:=by kernel_rfl
@[simp] theorem aUc :aU Tryz.prog 112=some ⟨.struct #[{name:= "outer",type:=4,offset:=0,embedded:=false,tag:= "",pkgPath:= "lightclient/script",byteOffset:=0},{name:= "taken",type:=4,offset:=1,embedded:=false,tag:= "",pkgPath:= "lightclient/script",byteOffset:=1}],2,2,.agg #[.bool false,.bool false]⟩:=by kernel_rfl
@[simp] theorem aCU :aU Tryz.prog 113=some ⟨.struct #[{name:= "outer",type:=4,offset:=0,embedded:=false,tag:= "",pkgPath:= "lightclient/script",byteOffset:=0},{name:= "taken",type:=4,offset:=1,embedded:=false,tag:= "",pkgPath:= "lightclient/script",byteOffset:=1}],2,2,.agg #[.bool false,.bool false]⟩:=by kernel_rfl
@[simp] theorem aNV :aU Tryz.prog 116=some ⟨.array 64 22,64,256,.agg #[.int .u32 0,.int .u32 0,.int .u32 0,.int .u32 0,.int .u32 0,.int .u32 0,.int .u32 0,.int .u32 0,.int .u32 0,.int .u32 0,.int .u32 0,.int .u32 0,.int .u32 0,.int .u32 0,.int .u32 0,.int .u32 0,.int .u32 0,.int .u32 0,.int .u32 0,.int .u32 0,.int .u32 0,.int .u32 0,.int .u32 0,.int .u32 0,.int .u32 0,.int .u32 0,.int .u32 0,.int .u32 0,.int .u32 0,.int .u32 0,.int .u32 0,.int .u32 0,.int .u32 0,.int .u32 0,.int .u32 0,.int .u32 0,.int .u32 0,.int .u32 0,.int .u32 0,.int .u32 0,.int .u32 0,.int .u32 0,.int .u32 0,.int .u32 0,.int .u32 0,.int .u32 0,.int .u32 0,.int .u32 0,.int .u32 0,.int .u32 0,.int .u32 0,.int .u32 0,.int .u32 0,.int .u32 0,.int .u32 0,.int .u32 0,.int .u32 0,.int .u32 0,.int .u32 0,.int .u32 0,.int .u32 0,.int .u32 0,.int .u32 0,.int .u32 0]⟩:=by kernel_rfl
@[simp] theorem aT7 :aU Tryz.prog 128=some ⟨.int .u16,1,2,.int .u16 0⟩:=by kernel_rfl
@[simp] theorem aUd :aU Tryz.prog 134=some ⟨.array 4 78,4,32,.agg #[.int .u64 0,.int .u64 0,.int .u64 0,.int .u64 0]⟩:=by kernel_rfl
@[simp] theorem b8 :aU Tryz.prog 135=some ⟨.array 4 78,4,32,.agg #[.int .u64 0,.int .u64 0,.int .u64 0,.int .u64 0]⟩:=by kernel_rfl
@[simp] theorem aT8 :aU Tryz.prog 138=some ⟨.struct #[{name:= "E",type:=135,offset:=0,embedded:=false,tag:= "",pkgPath:= "",byteOffset:=0},{name:= "S",type:=135,offset:=4,embedded:=false,tag:= "",pkgPath:= "",byteOffset:=32}],8,64,.agg #[.int .u64 0,.int .u64 0,.int .u64 0,.int .u64 0,.int .u64 0,.int .u64 0,.int .u64 0,.int .u64 0]⟩:=by kernel_rfl
@[simp] theorem rO :aU Tryz.prog 139=some ⟨.struct #[{name:= "E",type:=135,offset:=0,embedded:=false,tag:= "",pkgPath:= "",byteOffset:=0},{name:= "S",type:=135,offset:=4,embedded:=false,tag:= "",pkgPath:= "",byteOffset:=32}],8,64,.agg #[.int .u64 0,.int .u64 0,.int .u64 0,.int .u64 0,.int .u64 0,.int .u64 0,.int .u64 0,.int .u64 0]⟩:=by kernel_rfl
@[simp] theorem aGG :aU Tryz.prog 167=some ⟨.array 8 78,8,64,.agg #[.int .u64 0,.int .u64 0,.int .u64 0,.int .u64 0,.int .u64 0,.int .u64 0,.int .u64 0,.int .u64 0]⟩:=by kernel_rfl
@[simp] theorem aNw :aU Tryz.prog 169=some ⟨.slice 78,1,24,.slice none 0 0⟩:=by kernel_rfl
@[simp] theorem aQV :aU Tryz.prog 171=some ⟨.slice 28,1,24,.slice none 0 0⟩:=by kernel_rfl
@[simp] theorem aT2 :aU Tryz.prog 184=some ⟨.pointer 5,1,8,.pointer none⟩:=by kernel_rfl
end Go.Proofs.YtbjiaghljpoliaaGreatDoor
namespace Go.Vm
open Go Go.ChangeShapes Go.WideShapes Go.ChangeAt Go.RowKit
section
variable {X:Nat→Prop}{M:List (Option Nat)}{w:World}
theorem aNP (c:Value):VR X M w (.sc c) c:=by unfold VR;rfl
theorem sG :VCells X M w [] []:=by unfold VCells;rfl
theorem kJ {c:V}{v:Value}{cs:List V}{vs:List Value}(h:VR X M w c v)(k:VCells X M w cs vs):VCells X M w (c::cs) (v::vs):=by unfold VCells;exact⟨v,vs,rfl,h,k⟩
theorem aOc {cs:List V}{vs:List Value}(k:VCells X M w cs vs):VR X M w (.agg cs) (.agg vs.toArray):=by unfold VR;exact⟨vs,rfl,k⟩
theorem aLk {P:Program}{ts:List TypeId}(h:(ts.all fun t=>P.readableRec t&&decide (t<P.types.size))=true): ∀t∈ts,P.readableRec t=true∧t<P.types.size:=by
 intro t ht
 have:=aVV.1 h t ht
 simp only[aV0,decide_eq_true_eq]at this
 exact this
end
end Go.Vm
namespace Go.Proofs.YtbjiaghljpoliaaGreatDoor
open Go Go.Vm
open Go.ChangeShapes Go.WideShapes Go.ChangeAt Go.RowKit
theorem own :ownKnob Tryz.prog.godebug=none:=by kernel_rfl
theorem aSs :laidOutB Tryz.prog=true:=by kernel_rfl
end Go.Proofs.YtbjiaghljpoliaaGreatDoor
namespace Go.Proofs.YtbjiaghljpoliaaGreatDoor
open Go Go.Vm
end Go.Proofs.YtbjiaghljpoliaaGreatDoor
namespace Go.Vm
open Go Go.ChangeShapes Go.WideShapes Go.ChangeAt Go.RowKit
def aAi (P:Program)(t:TypeId){α:Type}(Q:α→Prop)(C:α→List V):Prop:=
 ∀{H:Type}{enc:TypeId×Value→H}{w:World}{spare:Nat→Bool}{held:Bool}{fuel:Nat}{cs:List Value}{x:DataW H×List MemPlace},DataW.trod enc P w 0 spare held fuel t cs=some x→ ∃a:α,Q a∧VCells w9 [] w (C a) cs
section
variable {P:Program}{t e:TypeId}
theorem pP {k:IntKind}(ht:P.underlying t=some (.int k)):aAi P t (fun x:Int=>(Lit.int k x).wf=true) (fun x=>[eI k x]):=by
 intro H enc w spare held fuel cs x h
 obtain⟨n,rfl,_,hw⟩:=DataW.trod_int ht h
 exact⟨n,hw,kJ (aNP _) sG⟩
theorem aNk (ht:P.underlying t=some .bool):aAi P t (fun _:Bool=>True) (fun x=>[eB x]):=by
 intro H enc w spare held fuel cs x h
 obtain⟨n,rfl,_⟩:=DataW.trod_bool ht h
 exact⟨n,trivial,kJ (aNP _) sG⟩
theorem aEb {α:Type}{R:Nat→α→Prop}: ∀(n:Nat),(∀i,i<n→ ∃x,R i x)→ ∃l:List α,l.length=n∧ ∀i x,l[i]? =some x→R i x
 |0,_=>⟨[],rfl,fun i x hx=>by simp at hx⟩
 |n+1,h=>by
  obtain⟨l,hl,hr⟩:=aEb n (fun i hi=>h i (by omega))
  obtain⟨x,hx⟩:=h n (by omega)
  refine⟨l++[x],by simp[hl],fun i y hy=> ?_⟩
  rcases fN hy with hy|⟨hi,hy⟩
  ·exact hr i y hy
  subst hy;rw[hi,hl];exact hx
theorem aM8 {X:Nat→Prop}{M:List (Option Nat)}{w:World}{K:Nat}: ∀(es:List V)(ad:Addr),(∀i e,es[i]? =some e→ ∃v,VR X M w e v∧v.cells.size=K∧LiesAt w (ad.add (i*K)) v.cells)→VRow X M w K es ad
 | [],ad,_=>by unfold VRow;trivial
 |e::es,ad,h=>by
  unfold VRow
  obtain⟨v,h1,h2,h3⟩:=h 0 e rfl
  refine⟨⟨v,h1,h2,by simpa[Addr.add]using h3⟩,aM8 es (ad.add K) fun i e' he=> ?_⟩
  obtain⟨v',k1,k2,k3⟩:=h (i+1) e' (by simpa using he)
  refine⟨v',k1,k2, ?_⟩
  rw[vE,show K+i*K=(i+1)*K by rw[aWf];omega]
  exact k3
def aQB {α:Type}(K:Nat)(C:α→List V)(E:α→V):Prop:= ∀x,(E x).okElem K=true∧ ∀(w:World)(vs:List Value),VCells w9 [] w (C x) vs→ ∃v,VR w9 [] w (E x) v∧v.cells=vs.toArray
theorem aHw {α:Type}{E:α→V}(h: ∀x,(E x).one=true):aQB 1 (fun x=>[E x]) E:=by
 intro x
 have hc:(E x).cells=[E x]:=by have:=h x;generalize E x=y at this ⊢; cases y<;>first|rfl|simp[V.one]at this
 refine⟨by simp[V.okElem,V.flatOk,hc,h x],fun w vs hv=> ?_⟩
 unfold VCells at hv
 obtain⟨v,rest,rfl,h1,h2⟩:=hv
 unfold VCells at h2
 subst h2
 exact⟨v,h1,by rw[eR (h1.oneCell (h x))]⟩
theorem aK1 {α:Type}{K:Nat}{C:α→List V}(hl: ∀x,(C x).length=K)(h: ∀x,(C x).all V.one=true):aQB K C (fun x=> .agg (C x)):=by
 intro x
 refine⟨by simp[V.okElem,V.flatOk,V.cells,h x,hl x],fun w vs hv=>⟨.agg vs.toArray,aOc hv,rfl⟩⟩
theorem zS {α:Type}{Q:α→Prop}{C:α→List V}{E:α→V}{K:Nat}(ht:P.underlying t=some (.slice e))(he:aAi P e Q C)(hK:P.cellsOf e=K)(h0:0<K)(hE:aQB K C E):
  aAi P t (fun l:List α=> ∀x∈l,Q x) (fun l=>[.row none K (l.map E)]):=by
 intro H enc w spare held fuel cs x h
 rcases DataW.trod_slice ht h with⟨rfl,_⟩|⟨a,len,cap,elems,rest,n,_,rfl,_,_,hl,hm,hlen,hel,_,_⟩
 ·refine⟨[],by simp,kJ ?_ sG⟩
  unfold VR
  exact⟨none,0,rfl,aWo _,fun _=>rfl,(fun b hb=>by cases hb),by simp,fun hne=>absurd rfl hne⟩
 have each: ∀i,i<len→ ∃x,Q x∧ ∃vs,w.cells? 0 (a.add (i*K)) K=some vs∧VCells w9 [] w (C x) vs:=by
  intro i hi
  have h1:=hel i hi
  rw[hK,aVQ (by omega)]at h1
  simp only[aW1]at h1
  obtain⟨vs,h2,h3⟩:=h1
  obtain⟨x,hq,hv⟩:=he h3
  exact⟨x,hq,vs,h2,hv⟩
 obtain⟨l,hll,hr⟩:=aEb len each
 have hlm:(l.map E).length=len:=by simp[hll]
 refine⟨l,fun x hx=> ?_,kJ ?_ sG⟩
 ·obtain⟨i,hi,rfl⟩:=List.mem_iff_getElem.1 hx
  exact(hr i _ (aVQ hi)).1
 unfold VR
 refine⟨some a,cap,by rw[hlm],by rw[hlm];exact hl,fun hh=>(by cases hh),(fun b hb=>by cases hb),fun y hy=> ?_,fun hne=> ?_⟩
 ·simp only[aXo]at hy
  obtain⟨x,_,rfl⟩:=hy
  exact(hE x).1
 have hpos:0<len:=by
  rcases Nat.eq_zero_or_pos len with h0|h0
  ·exact absurd (aVU (by rw[hlm];exact h0)) hne
  exact h0
 have lies: ∀(ad:Addr)(vs:List Value),w.cells? 0 ad K=some vs→vs.length=K∧LiesAt w ad vs.toArray:=by
  intro ad vs hvs
  obtain⟨h1,h2⟩:=World.cells?_some hvs
  have h3:vs.length=K∧ ∀i,i<K→w.cell? (ad.add i)=vs[i]? :=by
   unfold World.cells? at hvs
   rw[if_pos (Nat.zero_le _)]at hvs
   obtain⟨hl,hget⟩:=aEW hvs
   simp only[List.length_range]at hl
   refine⟨hl.symm,fun i hi=> ?_⟩
   have hv:i<vs.length:=by omega
   rw[aVQ hv]
   exact hget i i vs[i] (by simp[hi]) (aVQ hv)
  refine⟨h3.1,fun j u hu=> ?_⟩
  have hj:j<K:=by have:=(aV2.1 hu).1;simp at this;omega
  rw[h3.2 j hj];simpa using hu
 obtain⟨x0,_,vs0,hc0,_⟩:=each 0 hpos
 obtain⟨hl0,hlies0⟩:=lies _ _ hc0
 have hsp:a.spot=none:=by
  have hv:0<vs0.length:=by omega
  have:=World.cell?_spot (hlies0 0 vs0[0] (by simp[hv]))
  simpa[Addr.add]using this
 refine⟨a,rfl,h0,id,hsp,aM8 _ _ fun i y hy=> ?_⟩
 simp only[aV6,aV3]at hy
 obtain⟨x,hx,rfl⟩:=hy
 obtain⟨_,vs,hcs,hv⟩:=hr i x hx
 obtain⟨hl1,hlies⟩:=lies _ _ hcs
 obtain⟨v,hv1,hv2⟩:=(hE x).2 w vs hv
 exact⟨v,hv1,by rw[hv2];simp[hl1],by rw[hv2];exact hlies⟩
def aQZ (P:Program)(t:TypeId){α:Type}(Q:α→Prop)(E:α→V):Prop:=
 ∀{H:Type}{enc:TypeId×Value→H}{w:World}{base:Nat}{v:Value}{d:DataW H}{p:List MemPlace},Value.okWide P w .any base t v→DataW.Trod enc P w 0 (fun _=>true) true t v d p→ ∃a:α,Q a∧VR w9 [] w (E a) v
theorem aG0 {w:World}{c:V}{v:Value}(h:VCells w9 [] w [c] [v]):VR w9 [] w c v:=by
 unfold VCells at h
 obtain⟨u,rest,h1,h2,_⟩:=h
 injection h1 with h1 h3
 subst h1
 exact h2
theorem aKk {k:IntKind}(ht:P.underlying t=some (.int k)):aQZ P t (fun x:Int=>(Lit.int k x).wf=true) (eI k):=by
 intro H enc w base v d p hv ⟨fuel,h⟩
 obtain⟨n,rfl⟩:=okWide_int ht hv
 obtain⟨a,hq,hc⟩:=pP ht h
 exact⟨a,hq,aG0 hc⟩
theorem aFX {α:Type}{Q:α→Prop}{C:α→List V}{fs:Array Field}(ht:P.underlying t=some (.struct fs))(ho:aAi P t Q C):aQZ P t Q (fun x=> .agg (C x)):=by
 intro H enc w base v d p hv ⟨fuel,h⟩
 obtain⟨cs,rfl,_⟩:=okWide_struct ht hv
 obtain⟨a,hq,hc⟩:=ho h
 exact⟨a,hq,by have:=aOc hc;simpa[Value.cells]using this⟩
end
end Go.Vm
namespace Go.Proofs.YtbjiaghljpoliaaGreatDoor
open Go Go.Vm
open Go.ChangeShapes Go.WideShapes Go.ChangeAt Go.RowKit
theorem aNd {W:World}{g:Nat}{xs:List Int}(hne:0<xs.length)(hc: ∀i,i<xs.length→W.cell? ⟨g,i,none⟩=some (.int .u32 (xs.getD i 0))):VR w9 [] W (.eptr [.agg (xs.map fun x=> .sc (.int .u32 x))] 0 0) (.pointer (some ⟨g,0,none⟩)):=by
 unfold VR
 refine⟨⟨g,0,none⟩,xs.length,by simp[Addr.add],hne,fun _ hx=>hx,rfl, ?_, ?_⟩
 ·intro e he
  simp only[List.mem_singleton]at he
  subst he
  simp[V.okElem,V.flatOk,V.cells,V.one,List.all_map]
  exact fun _ _=>rfl
 unfold VRow
 refine⟨⟨.agg (xs.map fun x=>Value.int .u32 x).toArray, ?_,by simp[Value.cells], ?_⟩,by unfold VRow;trivial⟩
 ·unfold VR
  refine⟨xs.map fun x=>Value.int .u32 x,rfl, ?_⟩
  generalize xs=ys
  induction ys with
  |nil=>exact sG
  |cons y ys ih=>exact kJ (aNP _) ih
 intro j u hu
 simp only[Value.cells,aW5,aV6,aV3]at hu
 obtain⟨x,hx,rfl⟩:=hu
 have hj:=(aVO.1 hx).1
 have:=hc j hj
 simp only[aWX,hx,Option.getD_some]at this
 have e:(⟨g,0,none⟩:Addr).add j=⟨g,j,none⟩:=by simp only[Addr.add];split<;>simp_all
 rw[e];exact this
theorem gK :Tryz.prog.globalNamed "lightclient/sha.k" =some 1:=by kernel_rfl
theorem gKt :(Tryz.prog.globals[1]?).map (·.type)=some 116:=by kernel_rfl
theorem gI :Tryz.prog.globalNamed "lightclient/sha.initial" =some 0:=by kernel_rfl
theorem gIt :(Tryz.prog.globals[0]?).map (·.type)=some 95:=by kernel_rfl
theorem aRV :Tryz.prog.cellsOf 116=64:=by kernel_rfl
theorem aSR :Tryz.prog.cellsOf 95=8:=by kernel_rfl
theorem aOo :Tryz.prog.cellsOf 22=1:=by kernel_rfl
theorem aU9 {W:World} (h:laidMetH Tryz.prog [("lightclient/sha.k",Rows.laid_lightclient_sha_k),("lightclient/sha.initial",Rows.laid_lightclient_sha_initial)] W):Lib.TabIs Tryz.prog W "lightclient/sha.k" .u32 aD7:=
 Lib.tabIs_of_head (rest:=[("lightclient/sha.initial",Rows.laid_lightclient_sha_initial)]) gK gKt Tryz.underlying116 Tryz.underlying22 aOo aRV h
theorem aVr {W:World} (h:laidMetH Tryz.prog [("lightclient/sha.k",Rows.laid_lightclient_sha_k),("lightclient/sha.initial",Rows.laid_lightclient_sha_initial)] W):Lib.TabIs Tryz.prog W "lightclient/sha.initial" .u32 yY:=by
 have h2:=h.filter (fun x=>x.1 == "lightclient/sha.initial")
 exact Lib.tabIs_of_head (rest:=[]) gI gIt Tryz.underlying95 Tryz.underlying22 aOo aSR h2
theorem aUm {W:World} (h:laidMetH Tryz.prog [("lightclient/sha.k",Rows.laid_lightclient_sha_k),("lightclient/sha.initial",Rows.laid_lightclient_sha_initial)] W):Globs w9 W:=by
 intro g e hg
 unfold GT at hg
 split at hg
 ·injection hg with hg
  subst hg
  exact aNd (xs:=yY) (by decide) (fun i hi=>(aVr h).cell gI i hi)
 ·injection hg with hg
  subst hg
  exact aNd (xs:=aD7) (by decide) (fun i hi=>(aU9 h).cell gK i hi)
 cases hg
theorem aD4 {l:List Int}(hl: ∀x∈l,(Lit.int .u8 x).wf=true):Byt l:=by
 intro x hx
 have:=hl x hx
 simp[Lit.wf,IntKind.min,IntKind.max,IntKind.signed,IntKind.bits]at this;omega
def lay (i:Nat)(cs:Array Value)(h:Array Obj):Array Obj:=h.modify i fun
 | .cells _ t frozen=> .cells cs t frozen
 |o=>o
noncomputable def aFD (os:Os):World:=
 {World.holding Tryz.prog os ⟨#[],#[],[]⟩with heap:=lay 1 #[.int .u32 1116352408,.int .u32 1899447441,.int .u32 3049323471,.int .u32 3921009573,.int .u32 961987163,.int .u32 1508970993,.int .u32 2453635748,.int .u32 2870763221,.int .u32 3624381080,.int .u32 310598401,.int .u32 607225278,.int .u32 1426881987,.int .u32 1925078388,.int .u32 2162078206,.int .u32 2614888103,.int .u32 3248222580,.int .u32 3835390401,.int .u32 4022224774,.int .u32 264347078,.int .u32 604807628,.int .u32 770255983,.int .u32 1249150122,.int .u32 1555081692,.int .u32 1996064986,.int .u32 2554220882,.int .u32 2821834349,.int .u32 2952996808,.int .u32 3210313671,.int .u32 3336571891,.int .u32 3584528711,.int .u32 113926993,.int .u32 338241895,.int .u32 666307205,.int .u32 773529912,.int .u32 1294757372,.int .u32 1396182291,.int .u32 1695183700,.int .u32 1986661051,.int .u32 2177026350,.int .u32 2456956037,.int .u32 2730485921,.int .u32 2820302411,.int .u32 3259730800,.int .u32 3345764771,.int .u32 3516065817,.int .u32 3600352804,.int .u32 4094571909,.int .u32 275423344,.int .u32 430227734,.int .u32 506948616,.int .u32 659060556,.int .u32 883997877,.int .u32 958139571,.int .u32 1322822218,.int .u32 1537002063,.int .u32 1747873779,.int .u32 1955562222,.int .u32 2024104815,.int .u32 2227730452,.int .u32 2361852424,.int .u32 2428436474,.int .u32 2756734187,.int .u32 3204031479,.int .u32 3329325298] (lay 0 #[.int .u32 1779033703,.int .u32 3144134277,.int .u32 1013904242,.int .u32 2773480762,.int .u32 1359893119,.int .u32 2600822924,.int .u32 528734635,.int .u32 1541459225] (World.holding Tryz.prog os ⟨#[],#[],[]⟩).heap)}
end Go.Proofs.YtbjiaghljpoliaaGreatDoor
namespace Go.Vm
open Go
def aNT (O:wD)(G:FuncId→Bool):Prop:= ∀f h args r h',G f=true→O f h args=some (r,h')→ ∃news,h'=h++news
def aIo (G:FuncId→Bool)(o:Oper):Bool:=
 aEp o || (match o.op with
  | .call c=>match c.callee with
   | .value (.func f)=>G f
   | .builtin .append=>match c.args.toList with
    | [.const (.slice none 0 0),_]=>true
    |_=>false
   |_=>false
  |_=>false)
theorem aMu {P:Program}{t t':TypeId}{k:Nat}{y r:V}{h h':Hp}(hr:mP P t t' (.row (some true) k []) y h=some (r,h')): ∃news,h'=h++news:=by
 simp only[mP]at hr
 repeat' split at hr
 all_goals first|(cases hr;done)|(simp only[aVS,aWg]at hr;exact⟨_,by rw[←hr.2,aWI]⟩)
def aPZ (O:wD)(F:FuncId→Bool):Prop:= ∀f h args r h',F f=true→O f h args=some (r,h')→ ∀h2,O f h2 args=some (r,h2)
def aH1 (F:FuncId→Bool)(o:Oper):Bool:=
 match o.op with
 | .move _ | .assign _ | .nilCheck _ | .binOp _ _ _ _ _ | .unOp _ _ _ | .fieldAddr _ _ _ | .field _ _ _ | .indexAddr _ _ _ | .index _ _ _ | .extract _ _ | .sliceToArrayPointer _ _=>true
 | .call c=>match c.callee with
  | .value (.func f)=>F f
  |_=>false
 |_=>false
def aKL (F G:FuncId→Bool)(ops:Array Oper)(oj oi:Oper):Bool:=
 oj.apart ops oi&&(aH1 F oj || aH1 F oi || (yL F oj&&yL F oi) || (aIo G oj&&aCg oi) || (aCg oj&&aIo G oi))
section
variable {P:Program}{O O':wD}{F G:FuncId→Bool}{s:List V}{h h':Hp}{ops:Array Oper}
theorem inScope.mono {n m:Nat}(hnm:n≤m){z:V}(hz:inScope n z):inScope m z:=by
 cases z<;>first|trivial|exact aWt hz hnm
theorem Scoped.mono {n m:Nat}(hnm:n≤m){o:Oper}(hs:Scoped s o n):Scoped s o m:=fun y hy z hz=>(hs y hy z hz).mono hnm
theorem aDu {o:Oper}(hs:aCg o=true): ∀(news:Hp){h:Hp},Scoped s o h.length→dE P O ops o s (h++news)=(dE P O ops o s h).map fun p=>(p.1,h++news)
 | [],h,hsc=>by
  simp only[aWx]
  cases hv:dE P O ops o s h with
  |none=>rfl
  |some p=>
   obtain⟨v,g⟩:=p
   obtain rfl:g=h:=wR (F:=fun _=>false) (fun _ _ _ _ _ hf=>by cases hf) hs hv
   rfl
 |x::news,h,hsc=>by
  have e1:h++x::news=(h++[x])++news:=by simp
  rw[e1,aDu hs news (hsc.mono (by simp)),aMH hs hsc]
  cases dE P O ops o s h<;>rfl
theorem aGh (hG:aNT O G){o:Oper}(hg:aIo G o=true){r:V}(hr:dE P O ops o s h=some (r,h')): ∃news,h'=h++news:=by
 unfold dE at hr
 split at hr
 ·rename_i hw
  clear hw
  simp only[aIo,aWT]at hg
  rcases hg with hg|hg
  ·obtain⟨B,hB⟩:=aNJ hg hr;exact⟨_,hB⟩
  obtain⟨dst,op,type,pos,after,guard⟩:=o
  cases op<;>simp only[aVW]at hg
  case call c=>
   obtain⟨callee,args,argTypes⟩:=c
   cases callee<;>simp only[aVW]at hg
   case value f=>
    cases f<;>simp only[aVW]at hg
    case func f=>
     simp only[bW,yX]at hr
     split at hr
     ·cases hr
     exact hG _ _ _ _ _ hg hr
   case builtin b=>
    cases b<;>simp only[aVW]at hg
    case append=>
     split at hg
     ·rename_i y he
      simp only[bW,yX,he]at hr
      cases hy:ev s y with
      |none=>
       have h2:evs s [.const (.slice none 0 0),y]=none:=by simp only[evs,aWh,List.mapM_nil,hy,show ev s (.const (.slice none 0 0))=some (.row (some true) 1 [])from rfl];rfl
       rw[h2]at hr
       cases hr
      |some z=>
       have h2:evs s [.const (.slice none 0 0),y]=some [.row (some true) 1 [],z]:=by simp only[evs,aWh,List.mapM_nil,hy,show ev s (.const (.slice none 0 0))=some (.row (some true) 1 [])from rfl];rfl
       rw[h2]at hr
       revert hr
       rcases argTypes.toList with _|⟨t,_|⟨t',_|⟨t'',l⟩⟩⟩<;>intro hr
       ·cases hr
       ·cases hr
       ·exact aMu hr
       cases hr
     cases hg
 ·simp only[aVS,aWg]at hr;exact⟨[],by simp[hr.2]⟩
 cases hr
theorem aLF (hF:aEq O F)(hU:aPZ O F){o:Oper}(hf:aH1 F o=true){r:V}(hr:dE P O ops o s h=some (r,h')):h'=h∧ ∀h2,dE P O ops o s h2=some (r,h2):=by
 unfold dE at hr⊢
 cases hw:mQ ops o s with
 |none=>rw[hw]at hr;cases hr
 |some b=>
  rw[hw]at hr
  cases b with
  |false=>
   simp only[aVS,aWg]at hr⊢
   exact⟨hr.2.symm,fun h2=>⟨hr.1,trivial⟩⟩
  |true=>
   simp only at hr⊢
   clear hw
   obtain⟨dst,op,type,pos,after,guard⟩:=o
   cases op<;>simp only[aH1,aVW]at hf
   case call c=>
    obtain⟨callee,args,argTypes⟩:=c
    cases callee<;>simp only[aVW]at hf
    case value f=>
     cases f<;>simp only[aVW]at hf
     case func f=>
      simp only[bW,yX]at hr⊢
      cases hx:evs s args.toList with
      |none=>rw[hx]at hr;cases hr
      |some xs=>
       rw[hx]at hr
       simp only at hr⊢
       exact⟨hF _ _ _ _ _ hf hr,hU _ _ _ _ _ hf hr⟩
   all_goals
    simp only[bW,aW1,aV3,aWg]at hr
    first
     |(obtain⟨a,ha,rfl,rfl⟩:=hr;exact⟨rfl,fun h2=>by simp[bW,ha]⟩)
     |(obtain⟨a,ha,b,hb,rfl,rfl⟩:=hr;exact⟨rfl,fun h2=>by simp[bW,ha,hb]⟩)
     |(obtain⟨a,ha,b,hb,c,hc,rfl,rfl⟩:=hr;exact⟨rfl,fun h2=>by simp[bW,ha,hb,hc]⟩)
def StepR (P:Program)(F G:FuncId→Bool)(ops:Array Oper)(o:Oper)(s:List V)(h:Hp)(s1:List V)(h1:Hp):Prop:=
 ∃O,aDW P O∧aEq O F∧aNT O G∧aPZ O F∧aBy P O ops o s h=some (s1,h1)
theorem StepR.comm {oj oi:Oper}(hp:aKL F G ops oj oi=true)(hsi:Scoped s oi h.length)(hsj:Scoped s oj h.length){s1 s2:List V}{h1 h2:Hp}
  (e1:StepR P F G ops oj s h s1 h1) (e2:StepR P F G ops oi s1 h1 s2 h2): ∃s3 h3,StepR P F G ops oi s h s3 h3∧StepR P F G ops oj s3 h3 s2 h2:=by
 obtain⟨O1,ok1,hF1,hG1,hU1,e1⟩:=e1
 obtain⟨O2,ok2,hF2,hG2,hU2,e2⟩:=e2
 simp only[aKL,aV0,aWT]at hp
 obtain⟨hap,hp⟩:=hp
 obtain⟨a1,a2,a3⟩:=Oper.apart_spec hap
 rw[gB]at e1 e2
 simp only[aV3,aWg]at e1 e2
 obtain⟨⟨v1,g1⟩,f1,rfl,rfl⟩:=e1
 obtain⟨⟨v2,g2⟩,f2,rfl,rfl⟩:=e2
 simp only at f1 f2⊢
 rw[vB oi _ _ a1]at f2
 rcases hp with(((hj|hi)|⟨hj,hi⟩)|⟨hj,hi⟩)|⟨hj,hi⟩
 ·obtain⟨rfl,hall⟩:=aLF hF1 hU1 hj f1
  refine⟨mN s oi.dst v2,g2,⟨O2,ok2,hF2,hG2,hU2,by rw[gB,f2];rfl⟩,O1,ok1,hF1,hG1,hU1, ?_⟩
  rw[gB,vB oj _ _ a3,hall g2]
  simp only[aVX]
  rw[aCi s v1 v2 a2]
 ·obtain⟨rfl,hall⟩:=aLF hF2 hU2 hi f2
  refine⟨mN s oi.dst v2,h,⟨O2,ok2,hF2,hG2,hU2,by rw[gB,hall h];rfl⟩,O1,ok1,hF1,hG1,hU1, ?_⟩
  rw[gB,vB oj _ _ a3,f1]
  simp only[aVX]
  rw[aCi s v1 v2 a2]
 ·obtain rfl:=wR hF1 hj f1
  obtain rfl:=wR hF2 hi f2
  refine⟨mN s oi.dst v2,_,⟨O2,ok2,hF2,hG2,hU2,by rw[gB,f2];rfl⟩,O1,ok1,hF1,hG1,hU1, ?_⟩
  rw[gB,vB oj _ _ a3,f1]
  simp only[aVX]
  rw[aCi s v1 v2 a2]
 ·obtain⟨news,rfl⟩:=aGh hG1 hj f1
  rw[aDu hi news hsi]at f2
  simp only[aV3,aWg]at f2
  obtain⟨⟨v3,g3⟩,f3,rfl,rfl⟩:=f2
  obtain rfl:g3=h:=wR (F:=fun _=>false) (fun _ _ _ _ _ hf=>by cases hf) hi f3
  refine⟨mN s oi.dst v3,g3,⟨O2,ok2,hF2,hG2,hU2,by rw[gB,f3];rfl⟩,O1,ok1,hF1,hG1,hU1, ?_⟩
  rw[gB,vB oj _ _ a3,f1]
  simp only[aVX]
  rw[aCi s v1 v3 a2]
 obtain rfl:g1=h:=wR (F:=fun _=>false) (fun _ _ _ _ _ hf=>by cases hf) hj f1
 refine⟨mN s oi.dst v2,g2,⟨O2,ok2,hF2,hG2,hU2,by rw[gB,f2];rfl⟩,O1,ok1,hF1,hG1,hU1, ?_⟩
 obtain⟨news,rfl⟩:=aGh hG2 hi f2
 rw[gB,vB oj _ _ a3,aDu hj news hsj,f1]
 simp only[aVX]
 rw[aCi s v1 v2 a2]
def aNu (s:List V)(h:Hp):Prop:= ∃A M a w,Rel A M s h a w
theorem StepR.real {i:Nat}{o:Oper}(hi:ops[i]? =some o){s1:List V}{h1:Hp}(hr:aNu s h)(e:StepR P F G ops o s h s1 h1):aNu s1 h1:=by
 obtain⟨A,M,a,w,R⟩:=hr
 obtain⟨O,ok,_,_,_,e⟩:=e
 obtain⟨a',w',M',R'⟩:=aMw (aEJ (Q:=fun _ _ _=>False) ok R hi e (K:=fun a' w'=> ∃M',Rel A M' s1 h1 a' w') fun a' w' M' _ R'=>⟨M',R'⟩)
 exact⟨A,M',a',w',R'⟩
def aUo (P:Program)(N:Nat)(ops:Array Oper)(m:Nat)(listed:Array Bool)(s:List V)(h:Hp)(K:List V→Hp→Prop):Prop:=
 ∀(A:Nat→Prop)(M0 M:List (Option Nat))(h0:Hp)(w0:World)(a:Act)(w:World)(Q:Exit→Act→World→Prop),h0.length=N→M0.length=N→Grow A M0 h0 w0 M h w→Rel A M s h a w→
  (∀s' h' M' a' w',K s' h'→Grow A M0 h0 w0 M' h' w'→Rel A M' s' h' a' w'→Q .normal a' w')→wpAny P .any ops Q m listed a w
def aLR (ops:Array Oper)(listed:Array Bool):Bool:=
 (aWO ops.size).all fun j=>listed.getD j true || (aWO ops.size).all fun i=> !(listed.getD i false) || (aLa ops j j [j]).contains i
def Good (P:Program)(N:Nat)(F G:FuncId→Bool)(ops:Array Oper)(K:List V→Hp→Prop):Nat→Array Bool→List V→Hp→Prop
 |0,listed,s,h=>aDS ops.size listed=[]∧K s h
 |n+1,listed,s,h=>(aLR ops listed=true∧aUo P N ops (n+1) listed s h K)∨(aNu s h→Region.ready .any ops listed≠ []∧ ∀i∈Region.ready .any ops listed,∃o s1 h1,ops[i]? =some o∧StepR P F G ops o s h s1 h1∧Good P N F G ops K n (listed.setIfInBounds i true) s1 h1)
theorem aOn {listed:Array Bool}{i:Nat}(hi:i∈Region.ready .any ops listed):i∈aDS ops.size listed:=by
 obtain⟨h1,o,ho,_⟩:=mem_ready.1 hi
 simp only[aDS,aXB,List.mem_range]
 exact⟨(aV2.1 ho).1,by simp[h1]⟩
theorem Good.sound {N:Nat}{A:Nat→Prop}{M0:List (Option Nat)}{h0:Hp}(hN:h0.length=N)(hM:M0.length=N){w0:World}{K:List V→Hp→Prop}{Q:Exit→Act→World→Prop}:
  ∀(n:Nat)(listed:Array Bool){M:List (Option Nat)}{s:List V}{h:Hp}{a:Act}{w:World},Good P N F G ops K n listed s h→Grow A M0 h0 w0 M h w→Rel A M s h a w→
  (∀s' h' M' a' w',K s' h'→Grow A M0 h0 w0 M' h' w'→Rel A M' s' h' a' w'→Q .normal a' w')→wpAny P .any ops Q n listed a w
 |0,listed,M,s,h,a,w,hg,Gr,R,hQ=>by
  obtain⟨hnil,hk⟩:=hg
  refine⟨?_,hQ s h M a w hk Gr R⟩
  apply List.eq_nil_iff_forall_not_mem.2
  intro i hi
  have:=aOn hi
  rw[hnil]at this
  cases this
 |n+1,listed,M,s,h,a,w,hg,Gr,R,hQ=>by
  rcases hg with⟨_,hg⟩|hg
  ·exact hg A M0 M h0 w0 a w Q hN hM Gr R hQ
  obtain⟨hne,hall⟩:=hg ⟨A,M,a,w,R⟩
  refine⟨fun hn=>absurd hn hne,fun i hi=> ?_⟩
  obtain⟨o,s1,h1,ho,⟨O,ok,_,_,_,e⟩,hg'⟩:=hall i hi
  refine aEJ ok R ho e fun a' w' M' G' R'=> ?_
  exact Good.sound hN hM n _ hg' (Gr.trans G') R' hQ
def aEk (F G:FuncId→Bool)(ops:Array Oper)(listed:Array Bool)(i:Nat):Bool:=
 (Region.ready .any ops listed).contains i&&(match ops[i]? with
  |none=>false
  |some oi=>(aWO ops.size).all fun j=>(j == i) || listed.getD j true || (match ops[j]? with
   |none=>true
   |some oj=>aKL F G ops oi oj || (aLa ops j j [j]).contains i))
theorem aFy {listed:Array Bool}{i:Nat}(d:Bool)(hi:i<listed.size):(listed.setIfInBounds i true).getD i d=true:=by simp[hi]
theorem aKu (listed:Array Bool)(i j:Nat):(listed.setIfInBounds i true).setIfInBounds j true=(listed.setIfInBounds j true).setIfInBounds i true:=by
 by_cases hij:i=j
 ·subst hij;rfl
 apply Array.ext'
 apply aWz
 intro k
 simp only[Array.getElem?_toList,Array.getElem?_setIfInBounds]
 by_cases h1:i=k<;>by_cases h2:j=k<;>simp_all
theorem aOp {listed:Array Bool}{i j:Nat}{oj:Oper}(hi:i<ops.size)(hc:aFN ops listed)(hsz:listed.size=ops.size)(hcut:aLR ops (listed.setIfInBounds i true)=true)(hij:i≠j)(huni:listed.getD i true=false)(hunj:listed.getD j true=false)(hoj:ops[j]? =some oj)(hprej: ∀e∈oj.after,Region.binds .any e=true→listed.getD e.on false=true):False:=by
 have hjn:j<ops.size:=(aV2.1 hoj).1
 have h1:=aVV.1 hcut j (by simpa using hjn)
 rw[getD_set_ne true hij,hunj]at h1
 simp only[aXi]at h1
 have h2:=aVV.1 h1 i (by simpa using hi)
 rw[aFy false (by rw[hsz];exact hi)]at h2
 simp only[Bool.not_true,aXi]at h2
 rcases aD5 hc hoj hprej j [j] (by simp) i (by simpa using h2)with h4|h4
 ·exact hij h4
 have:=getD_both huni
 rw[h4]at this;cases this
theorem Good.pick {N:Nat}{K:List V→Hp→Prop}: ∀(n:Nat){listed:Array Bool}{s:List V}{h:Hp}{i:Nat}{oi:Oper}{s1:List V}{h1:Hp},listed.size=ops.size→aFN ops listed→aEk F G ops listed i=true→ops[i]? =some oi→StepR P F G ops oi s h s1 h1→
  Good P N F G ops K n (listed.setIfInBounds i true) s1 h1→Good P N F G ops K (n+1) listed s h
 |0,listed,s,h,i,oi,s1,h1,hsz,hc,hp,hoi,e,hg=>by
  refine .inr fun hr=> ?_
  simp only[aEk,aV0]at hp
  have hi:i∈Region.ready .any ops listed:=by simpa using hp.1
  refine⟨(fun hn=>by rw[hn]at hi;cases hi),fun j hj=> ?_⟩
  by_cases hij:i=j
  ·subst hij;exact⟨oi,s1,h1,hoi,e,hg⟩
  exfalso
  obtain⟨hun,oj,hoj,_⟩:=mem_ready.1 hj
  have:j∈aDS ops.size (listed.setIfInBounds i true):=by
   simp only[aDS,aXB,List.mem_range]
   exact⟨(aV2.1 hoj).1,by rw[getD_set_ne true hij,hun];rfl⟩
  rw[hg.1]at this
  cases this
 |n+1,listed,s,h,i,oi,s1,h1,hsz,hc,hp,hoi,e,hg=>by
  refine .inr fun hr=> ?_
  have hp0:=hp
  simp only[aEk,aV0]at hp
  have hi:i∈Region.ready .any ops listed:=by simpa using hp.1
  obtain⟨huni,_,hoi',hprei⟩:=mem_ready.1 hi
  obtain rfl:oi=_:=aW6 (hoi.symm.trans hoi')
  refine⟨(fun hn=>by rw[hn]at hi;cases hi),fun j hj=> ?_⟩
  by_cases hij:i=j
  ·subst hij;exact⟨oi,s1,h1,hoi,e,hg⟩
  obtain⟨hunj,oj,hoj,hprej⟩:=mem_ready.1 hj
  have hjn:j<ops.size:=(aV2.1 hoj).1
  have hin:i<ops.size:=(aV2.1 hoi).1
  have hj':j∈Region.ready .any ops (listed.setIfInBounds i true):=mem_ready.2 ⟨by rw[getD_set_ne true hij];exact hunj,oj,hoj,fun ed he hb=>getD_set_true (hprej ed he hb)⟩
  have hr1:aNu s1 h1:=e.real hoi hr
  rcases hg with⟨hcut,_⟩|hg
  ·exact(aOp hin hc hsz hcut hij huni hunj hoj hprej).elim
  obtain⟨_,hall⟩:=hg hr1
  obtain⟨oj',s2,h2,hoj',e2,hg2⟩:=hall j hj'
  obtain rfl:oj=oj':=aW6 (hoj.symm.trans hoj')
  have hpair:aKL F G ops oi oj=true:=by
   rw[hoi]at hp
   have h3:=aVV.1 hp.2 j (by simpa using hjn)
   simp only[hoj,aWT,beq_iff_eq]at h3
   rcases h3 with(h3|h3)|(h3|h3)
   ·exact absurd h3.symm hij
   ·rw[hunj]at h3;cases h3
   ·exact h3
   exfalso
   rcases aD5 hc hoj hprej j [j] (by simp) i (by simpa using h3)with h4|h4
   ·exact hij h4
   have:=getD_both huni
   rw[h4]at this;cases this
  obtain⟨A,M,a,w,R⟩:=hr
  have hsc:=R.scopeOk
  obtain⟨s3,h3,f1,f2⟩:=StepR.comm hpair (hsc.op oj) (hsc.op oi) e e2
  refine⟨oj,s3,h3,hoj,f1, ?_⟩
  have hc':aFN ops (listed.setIfInBounds j true):=by
   intro k ok hk hl ed he hb
   by_cases hjk:j=k
   ·subst hjk
    obtain rfl:ok=oj:=aW6 (hk.symm.trans hoj)
    exact getD_set_true (hprej ed he hb)
   rw[getD_set_ne false hjk]at hl
   exact getD_set_true (hc k ok hk hl ed he hb)
  have hp':aEk F G ops (listed.setIfInBounds j true) i=true:=by
   have hi2:i∈Region.ready .any ops (listed.setIfInBounds j true):=mem_ready.2 ⟨by rw[getD_set_ne true (Ne.symm hij)];exact huni,oi,hoi,fun ed he hb=>getD_set_true (hprei ed he hb)⟩
   simp only[aEk,aV0,hoi]
   refine⟨by simpa using hi2,aVV.2 fun k hk=> ?_⟩
   rw[hoi]at hp
   have h3:=aVV.1 hp.2 k hk
   simp only[aWT]at h3⊢
   rcases h3 with(h3|h3)|h3
   ·exact .inl (.inl h3)
   ·refine .inl (.inr ?_)
    by_cases hjk:j=k
    ·subst hjk;exact aFy true (by rw[hsz];exact hjn)
    rw[getD_set_ne true hjk];exact h3
   exact .inr h3
  refine Good.pick n (by simpa using hsz) hc' hp' hoi f2 ?_
  rw[aKu]
  exact hg2
def DrawG (P:Program)(N:Nat)(F G:FuncId→Bool)(ops:Array Oper)(n:Nat)(listed:Array Bool)(s:List V)(h:Hp)(K:List V→Hp→Prop):Prop:=Good P N F G ops K n listed s h
def aNe (ops:Array Oper)(listed:Array Bool):Bool:=
 (aWO ops.size).all fun j=>match ops[j]? with
  |none=>true
  |some oj=> !(listed.getD j false) || oj.after.all fun e=> !(Region.binds .any e) || listed.getD e.on false
theorem aLS {listed:Array Bool}(hb:aNe ops listed=true):aFN ops listed:=by
 intro j oj hj hl e he hbi
 have hjn:j<ops.size:=(aV2.1 hj).1
 have h1:=aVV.1 hb j (by simpa using hjn)
 simp only[hj,hl,Bool.not_true,aXi]at h1
 have h2:=Array.all_eq_true_iff_forall_mem.1 h1 e he
 simpa[hbi]using h2
variable {N n m t:Nat}{fr:List (Nat×V)}{K:List V→Hp→Prop}{op:Op}{ty:TypeId}{pos:String}{aft:Array Edge}{v:V}{gd:Option (Nat×Bool)}{listed:Array Bool}{i:Nat}
theorem DrawG.nil (hr:aDS ops.size listed=[])(hk:K s h):DrawG P N F G ops 0 listed s h K:=⟨hr,hk⟩
def aJn (F G:FuncId→Bool)(ops:Array Oper)(listed:Array Bool)(i:Nat):Bool:=(listed.size == ops.size)&&aNe ops listed&&aEk F G ops listed i
theorem DrawG.pick {o:Oper}{s1:List V}{h1:Hp}(hp:aJn F G ops listed i=true)(ho:ops[i]? =some o)(e:StepR P F G ops o s h s1 h1)(k:DrawG P N F G ops n (listed.setIfInBounds i true) s1 h1 K):DrawG P N F G ops (n+1) listed s h K:=by
 simp only[aJn,aV0,beq_iff_eq]at hp
 exact Good.pick n hp.1.1 (aLS hp.1.2) hp.2 ho e k
def Fork (P:Program)(N:Nat)(F G:FuncId→Bool)(ops:Array Oper)(n:Nat)(listed:Array Bool)(s:List V)(h:Hp)(K:List V→Hp→Prop):List Nat→Prop
 | []=>True
 |i::l=>(∃o s1 h1,ops[i]? =some o∧StepR P F G ops o s h s1 h1∧DrawG P N F G ops n (listed.setIfInBounds i true) s1 h1 K)∧Fork P N F G ops n listed s h K l
theorem Fork.all : ∀{l:List Nat},Fork P N F G ops n listed s h K l→ ∀i∈l,∃o s1 h1,ops[i]? =some o∧StepR P F G ops o s h s1 h1∧Good P N F G ops K n (listed.setIfInBounds i true) s1 h1
 | [],_,i,hi=>by cases hi
 |j::l,hf,i,hi=>by
  rcases aWC.1 hi with rfl|hi
  ·exact hf.1
  exact Fork.all hf.2 i hi
theorem DrawG.fork (l:List Nat)(hl:Region.ready .any ops listed=l)(hne:l≠ [])(hf:Fork P N F G ops n listed s h K l):DrawG P N F G ops (n+1) listed s h K:=by
 refine .inr fun _=> ?_
 rw[hl]
 exact⟨hne,hf.all⟩
theorem DrawG.gh {s':List V}(hc:aLR ops listed=true)(hg:Ghost N s h s' h')(k:DrawG P N F G ops (n+1) listed s' h' K):DrawG P N F G ops (n+1) listed s h K:=by
 refine .inl ⟨hc,fun A M0 M h0 w0 a w Q hN hM Gr R hQ=> ?_⟩
 obtain⟨t,ht⟩:=Gr.pre
 have hle:N≤M.length:=by rw[←ht];simp[hM]
 obtain⟨M',h1,h2,h3⟩:=hg A M a w hle R
 refine Good.sound hN hM _ _ k ⟨?_,h2.hr,Gr.ext,fun g hg hl=>Gr.live g hg (h3 g hl)⟩ h2 hQ
 have:M0=M'.take N:=by rw[h1,←ht,←hM];simp
 rw[this]
 exact aW3 _ _
theorem Fork.nil :Fork P N F G ops n listed s h K []:=trivial
theorem Fork.cons {l:List Nat}{o:Oper}{s1:List V}{h1:Hp}(ho:ops[i]? =some o)(e:StepR P F G ops o s h s1 h1)(k:DrawG P N F G ops n (listed.setIfInBounds i true) s1 h1 K)(r:Fork P N F G ops n listed s h K l):Fork P N F G ops n listed s h K (i::l):=⟨⟨o,s1,h1,ho,e,k⟩,r⟩
def lst (l:List Nat)(n:Nat):Array Bool:=l.foldl (fun a i=>a.setIfInBounds i true) (aXC n false)
theorem DrawG.jn {L:Array Bool}{m:Nat}{s1:List V}{h1:Hp}(k:DrawG P N F G ops m L s1 h1 K)(q:DrawG P N F G ops m L s1 h1 K→DrawG P N F G ops n listed s h K):DrawG P N F G ops n listed s h K:=q k
theorem DrawG.jg {L:Array Bool}{s':List V}(hL:listed=L)(hc:aLR ops L=true)(hg:Ghost N s h s' h')(k:DrawG P N F G ops (n+1) L s' h' K):DrawG P N F G ops (n+1) listed s h K:=by
 subst hL
 exact DrawG.gh hc hg k
theorem aMV :aEq O0 F:=fun _ _ _ _ _ _ hh=>by cases hh
theorem aOs :aNT O0 G:=fun _ _ _ _ _ _ hh=>by cases hh
theorem aQ3 :aPZ O0 F:=fun _ _ _ _ _ _ hh=>by cases hh
theorem gS (hs:dE P O0 ops ⟨some t,op,ty,pos,aft,gd⟩ (aI m fr) h=some (v,h')):StepR P F G ops ⟨some t,op,ty,pos,aft,gd⟩ (aI m fr) h (aI m ((t,v)::fr)) h':=
 ⟨O0,aKN,aMV,aOs,aQ3,by rw[gB,hs];simp only[aVX];rw[aG3]⟩
theorem gN (hs:dE P O0 ops ⟨none,op,ty,pos,aft,gd⟩ (aI m fr) h=some (v,h')):StepR P F G ops ⟨none,op,ty,pos,aft,gd⟩ (aI m fr) h (aI m fr) h':=
 ⟨O0,aKN,aMV,aOs,aQ3,by rw[gB,hs];rfl⟩
theorem gC {f:FuncId}{xs:List V}(hc:Fn P f h xs v h')(hF:F f=false)(hG:G f=true→ ∃news,h'=h++news)(hs:dE P (aFa f h xs v h') ops ⟨some t,op,ty,pos,aft,gd⟩ (aI m fr) h=some (v,h')):
  StepR P F G ops ⟨some t,op,ty,pos,aft,gd⟩ (aI m fr) h (aI m ((t,v)::fr)) h':=by
 refine⟨aFa f h xs v h',aJk hc, ?_, ?_, ?_,by rw[gB,hs];simp only[aVX];rw[aG3]⟩
 ·intro k h1 args r1 h2 hk hh
  unfold aFa at hh
  split at hh
  ·rename_i he
   rw[he.1,hF]at hk;cases hk
  cases hh
 ·intro k h1 args r1 h2 hk hh
  unfold aFa at hh
  split at hh
  ·rename_i he
   obtain⟨rfl,rfl,rfl⟩:=he
   simp only[aVS,aWg]at hh
   rw[←hh.2];exact hG hk
  cases hh
 intro k h1 args r1 h2 hk hh
 unfold aFa at hh
 split at hh
 ·rename_i he
  rw[he.1,hF]at hk;cases hk
 cases hh
open Classical in
noncomputable def aJf (f:FuncId)(xs:List V)(r:V):wD:=fun k h1 xs1=>if k=f∧xs1=xs then some (r,h1)else none
theorem xO {f:FuncId}{xs:List V}{r:V}:aJf f xs r f h xs=some (r,h):=by simp[aJf]
theorem gU {f:FuncId}{xs:List V}(hc: ∀h,Fn P f h xs v h)(hG:G f=false)(hs:dE P (aJf f xs v) ops ⟨some t,op,ty,pos,aft,gd⟩ (aI m fr) h=some (v,h)):
  StepR P F G ops ⟨some t,op,ty,pos,aft,gd⟩ (aI m fr) h (aI m ((t,v)::fr)) h:=by
 have key: ∀{k h1 args r1 h2},aJf f xs v k h1 args=some (r1,h2)→k=f∧args=xs∧r1=v∧h2=h1:=by
  intro k h1 args r1 h2 hh
  unfold aJf at hh
  split at hh
  ·rename_i he
   simp only[aVS,aWg]at hh
   exact⟨he.1,he.2,hh.1.symm,hh.2.symm⟩
  cases hh
 refine⟨aJf f xs v, ?_, ?_, ?_, ?_,by rw[gB,hs];simp only[aVX];rw[aG3]⟩
 ·intro k h1 args r1 h2 hh
  obtain⟨rfl,rfl,rfl,rfl⟩:=key hh
  exact hc _
 ·intro k h1 args r1 h2 _ hh
  exact(key hh).2.2.2
 ·intro k h1 args r1 h2 hk hh
  rw[(key hh).1,hG]at hk;cases hk
 intro k h1 args r1 h2 _ hh h3
 obtain⟨rfl,rfl,rfl,_⟩:=key hh
 exact xO
def fQ (l:List Nat):FuncId→Bool:=fun f=>l.elem f
end
theorem AB.rd {P:Program}{N:Nat}{Q:Ex→List V→Hp→Prop}{s:List V}{h:Hp}(F G:FuncId→Bool)(hm:P.follows .mixedOrders=true){id:Nat}{l:List Oper}(hr:DrawG P N F G l.toArray l.toArray.size (aXC l.toArray.size false) s h (Q .normal)):AB P N (.region id l.toArray true) Q s h:=by
 intro A M0 M h0 w0 a w hN hM Gr R
 refine wp_region_any hm ?_
 have R':Rel A M s h a w.drew:=⟨R.hr.drew,SR.keep (Grow.drew R.hr) R.sr,R.defers⟩
 exact Good.sound hN hM _ _ hr (Gr.trans (Grow.drew R.hr)) R' (fun s' h' M' a' w' hk G' R''=>⟨.normal,s',h',M',rfl,hk,G',R''⟩)
def Conv (h h':Hp)(x y:V):Prop:= ∀(A:Nat→Prop)(M:List (Option Nat))(w:World)(v:Value),HR A M h w→VR (Xs A M h) M w x v→VR (Xs A M h') M w y v
def Convs (h h':Hp):List V→List V→Prop
 | [],[]=>True
 |x::xs,y::ys=>Conv h h' x y∧Convs h h' xs ys
 |_,_=>False
def Sub (h h':Hp):Prop:= ∀(b:Nat)(B':Blk),h'[b]? =some (some B')→ ∃B,h[b]? =some (some B)
theorem Sub.live {h h':Hp}(hs:Sub h h'){M:List (Option Nat)}{g:Nat}(hl:eM M h' g):eM M h g:=by
 obtain⟨b,B,hb,hm⟩:=hl
 obtain⟨C,hc⟩:=hs b B hb
 exact⟨b,C,hc,hm⟩
theorem Sub.xs {h h':Hp}(hs:Sub h h'){A:Nat→Prop}{M:List (Option Nat)}{g:Nat}(hl:Xs A M h' g):Xs A M h g:=hl.elim .inl (fun k=> .inr (hs.live k))
theorem Conv.same {h h':Hp}(hs:Sub h h'){x:V}:Conv h h' x x:=fun _ _ _ _ _ hv=>hv.avoid (fun _ _ hx=>hs.xs hx)
theorem Convs.len {h h':Hp}: ∀{xs ys:List V},Convs h h' xs ys→xs.length=ys.length
 | [],[],_=>rfl
 |_::_,_::_,k=>by simp[Convs.len k.2]
 | [],_::_,k=>k.elim
 |_::_,[],k=>k.elim
theorem Convs.sound {h h':Hp}{A:Nat→Prop}{M:List (Option Nat)}{w:World}(H:HR A M h w): ∀{xs ys:List V}{vs:List Value},Convs h h' xs ys→VCells (Xs A M h) M w xs vs→VCells (Xs A M h') M w ys vs
 | [],[],vs,_,hv=>by unfold VCells at *; exact hv
 |x::xs,y::ys,vs,k,hv=>by
  unfold VCells at *
  obtain⟨v,rest,e1,e2,e3⟩:=hv
  exact⟨v,rest,e1,k.1 A M w v H e2,Convs.sound H k.2 e3⟩
 | [],_::_,_,k,_=>k.elim
 |_::_,[],_,k,_=>k.elim
theorem Convs.same {h h':Hp}(hs:Sub h h'): ∀{xs:List V},Convs h h' xs xs
 | []=>trivial
 |_::_=>⟨Conv.same hs,Convs.same hs⟩
theorem Convs.nil {h h':Hp}:Convs h h' [] []:=trivial
theorem Convs.cons {h h':Hp}{x y:V}{xs ys:List V}(a:Conv h h' x y)(k:Convs h h' xs ys):Convs h h' (x::xs) (y::ys):=⟨a,k⟩
theorem Conv.agg {h h':Hp}{xs ys:List V}(k:Convs h h' xs ys):Conv h h' (.agg xs) (.agg ys):=fun A M w v H hv=>by
 unfold VR at *
 obtain⟨vs,e,hc⟩:=hv
 exact⟨vs,e,Convs.sound H k hc⟩
theorem Conv.tup {h h':Hp}{xs ys:List V}(k:Convs h h' xs ys):Conv h h' (.tup xs) (.tup ys):=fun A M w v H hv=>by
 unfold VR at *
 obtain⟨vs,e,hc⟩:=hv
 exact⟨vs,e,Convs.sound H k hc⟩
def V.shut :V→Bool
 | .sc _ | .row _ _ _ | .eptr _ _ _=>true
 |_=>false
theorem VR.shut {X:Nat→Prop}{M:List (Option Nat)}{w:World}{x:V}{v:Value}(hx:x.shut=true)(h:VR X M w x v):VR X [] w x v:=by
 cases x<;>first|(unfold VR at *; exact h)|(simp[V.shut]at hx)
theorem gL {α:Type}{p:V→Bool}{E:α→V}{l:List α}(h: ∀x,p (E x)=true):(l.map E).all p=true:=by
 rw[aVV];intro y hy
 simp only[aXo]at hy
 obtain⟨x,_,rfl⟩:=hy
 exact h x
theorem aNR {x:V}(h:x.one=true):x.okElem 1=true:=by
 have hc:x.cells=[x]:=by cases x<;>first|rfl|simp[V.one]at h
 simp[V.okElem,V.flatOk,hc,h]
theorem aH7 {X:Nat→Prop}{w:World}{g:Nat}{cs:Array Value}{e:TypeId}{f:Nat×Nat}(hw:w.heap[g]? =some (.cells cs e f)): ∀(xs:List V)(i:Nat),(∀c∈xs,c.one=true∧c.shut=true)→VCells X [] w xs ((cs.toList.drop i).take xs.length)→VRow X [] w 1 xs ⟨g,i,none⟩
 | [],i,_,_=>by unfold VRow;trivial
 |x::xs,i,ho,hv=>by
  unfold VCells at hv
  obtain⟨v,rest,e1,e2,e3⟩:=hv
  have hi:i<cs.toList.length:=by
   rcases aWl i cs.toList.length with hl|hl
   ·exact hl
   rw[aV4 hl]at e1;simp at e1
  rw[aWc hi]at e1
  simp only[aWb,aWU,List.cons.injEq]at e1
  obtain⟨ev,er⟩:=e1
  have h1:=(ho x (by simp)).1
  have hcell:v.cells= #[v]:=eR (e2.oneCell h1)
  unfold VRow
  refine⟨⟨v,e2,by rw[hcell];rfl, ?_⟩, ?_⟩
  ·rw[hcell]
   intro j u hu
   have hj:j=0:=by have:=(aV2.1 hu).1;simp at this;exact this
   subst hj
   simp at hu
   subst hu
   simp only[Addr.add,if_true]
   unfold World.cell?
   rw[hw]
   subst ev
   simp at hi
   simp[hi]
  have:(⟨g,i,none⟩:Addr).add 1=⟨g,i+1,none⟩:=by simp[Addr.add]
  rw[this]
  exact aH7 hw xs (i+1) (fun c hc=>ho c (by simp[hc])) (by rw[er];exact e3)
theorem Conv.row {h h':Hp}(hs:Sub h h'){b n:Nat}{e:TypeId}{cs:List V}{ag:Bool}(hb:h[b]? =some (some ⟨e,cs⟩))(hb':h'[b]? =some none)(hsh:cs.all V.shut=true)(hn:n=cs.length):Conv h h' (.sl b 0 n 1 ag) (.row none 1 cs):=by
 intro A M w v H hv
 obtain⟨hone,hcase⟩:=H.blk b _ hb
 unfold VR at hv⊢
 rcases hv with⟨hm,rfl,h0,_⟩|⟨g,cap,e',sz,hm,rfl,h1,_,h3,hshp,_⟩
 ·have:cs=[]:=aVU (by omega)
  subst this
  exact⟨none,0,rfl,aWo _,fun _=>rfl,(fun b hb=>by cases hb),by simp,fun hne=>absurd rfl hne⟩
 rcases hcase with⟨hm',_⟩|⟨g',a9,hm',hA,hw,hle,hcs⟩
 ·rw[hm]at hm';cases hm'
 rw[hm]at hm'
 injection hm' with hm'
 injection hm' with hm'
 subst hm'
 obtain⟨f,_,hw⟩:=hw.inCells hshp
 refine⟨some ⟨g,0,none⟩,cap,by rw[hn],by omega,fun hh=>(by cases hh),(fun b hb=>by cases hb),fun c hc=>aNR (hone c hc),fun _=>⟨⟨g,0,none⟩,rfl,h3, ?_,rfl, ?_⟩⟩
 ·rintro(ha|⟨c,C,hc,hmc⟩)
  ·exact hA ha
  obtain⟨C',hc'⟩:=hs c C hc
  have:=H.inj c b C' _ g hc' hb hmc hm
  subst this
  rw[hb']at hc;cases hc
 refine aH7 hw cs 0 (fun c hc=>⟨hone c hc,aVV.1 hsh c hc⟩) ?_
 rw[aWi]
 refine VCells.mk (by rw[aV8];simp only[Array.length_toList];dsimp only at hle;omega) (fun i c u hc hu=> ?_)
 obtain⟨u',hu',hr⟩:=hcs.get hc
 dsimp only at hu'
 rw[hu]at hu'
 injection hu' with hu'
 subst hu'
 exact(hr.shut (aVV.1 hsh c (aV1 hc))).avoid (fun _ _ hx=>hs.xs hx)
def FCv (h h':Hp)(fr:List (Nat×V)):List (Nat×V)→Prop
 | []=>True
 |(t,y)::r=>(∃x,iW fr t=some x∧Conv h h' x y)∧FCv h h' fr r
theorem FCv.nil {h h':Hp}{fr:List (Nat×V)}:FCv h h' fr []:=trivial
theorem FCv.cons {h h':Hp}{fr r:List (Nat×V)}{t:Nat}{x y:V}(hl:iW fr t=some x)(hc:Conv h h' x y)(k:FCv h h' fr r):FCv h h' fr ((t,y)::r):=⟨⟨x,hl,hc⟩,k⟩
theorem FCv.get {h h':Hp}{fr:List (Nat×V)}: ∀{fr':List (Nat×V)},FCv h h' fr fr'→ ∀{t:Nat}{y:V},iW fr' t=some y→ ∃x,iW fr t=some x∧Conv h h' x y
 | [],_,t,y,hy=>by cases hy
 |(u,z)::r,k,t,y,hy=>by
  simp only[iW]at hy
  cases hb:aW0 u t with
  |true=>
   rw[hb]at hy
   have:=aWm hb
   subst this
   simp only[cond_true,aVS]at hy
   subst hy
   exact k.1
  |false=>rw[hb]at hy;exact k.2.get hy
def HCv (H H':Hp):Hp→Hp→Prop
 | [],[]=>True
 |_::h,none::h'=>HCv H H' h h'
 |some B::h,some B'::h'=>(B.e=B'.e∧Convs H H' B.cells B'.cells∧B'.cells.all V.one=true)∧HCv H H' h h'
 |_,_=>False
theorem HCv.get {H H':Hp}: ∀{h h':Hp},HCv H H' h h'→ ∀{j:Nat}{B':Blk},h'[j]? =some (some B')→ ∃B,h[j]? =some (some B)∧B.e=B'.e∧Convs H H' B.cells B'.cells∧B'.cells.all V.one=true
 | [],[],_,j,B',hj=>by simp at hj
 |_::h,none::h',hh,j,B',hj=>by
  cases j with
  |zero=>simp at hj
  |succ j=>simp only[aVT]at hj ⊢; exact HCv.get (h:=h) hh hj
 |some B::h,some C::h',hh,j,B',hj=>by
  cases j with
  |zero=>
   simp only[aV5,aVS]at hj
   subst hj
   exact⟨B,rfl,hh.1.1,hh.1.2.1,hh.1.2.2⟩
  |succ j=>simp only[aVT]at hj ⊢; exact HCv.get (h:=h) hh.2 hj
 | [],_::_,hh,_,_,_=>hh.elim
 |_::_,[],hh,_,_,_=>by unfold HCv at hh;exact hh.elim
 |none::_,some _::_,hh,_,_,_=>hh.elim
theorem HCv.len {H H':Hp}: ∀{h h':Hp},HCv H H' h h'→h.length=h'.length
 | [],[],_=>rfl
 |_::h,none::h',hh=>by simp[HCv.len (h:=h) hh]
 |some B::h,some C::h',hh=>by simp[HCv.len (h:=h) hh.2]
 | [],_::_,hh=>hh.elim
 |_::_,[],hh=>by unfold HCv at hh;exact hh.elim
 |none::_,some _::_,hh=>hh.elim
theorem HCv.nil {H H':Hp}:HCv H H' [] []:=trivial
theorem HCv.dead {H H' h h':Hp}{o:Option Blk}(k:HCv H H' h h'):HCv H H' (o::h) (none::h'):=by cases o<;>exact k
theorem HCv.live {H H' h h':Hp}{e:TypeId}{cs cs':List V}(hc:Convs H H' cs cs')(ho:cs'.all V.one=true)(k:HCv H H' h h'):HCv H H' (some ⟨e,cs⟩::h) (some ⟨e,cs'⟩::h'):=⟨⟨rfl,hc,ho⟩,k⟩
theorem Ghost.conv {N n:Nat}{fr fr':List (Nat×V)}{h h':Hp}(hf:FCv h h' fr fr')(hh:HCv h h' h h'):Ghost N (aI n fr) h (aI n fr') h':=by
 intro A M a w hN R
 have hs:Sub h h':=fun b B' hb=>by obtain⟨B,hB,_⟩:=hh.get hb;exact⟨B,hB⟩
 refine⟨M,rfl,⟨⟨by rw[←hh.len];exact R.hr.len,R.hr.alt, ?_, ?_,R.hr.glob.avoid fun g _ hx=>hx.elim .inl (fun hl=> .inr (hs.live hl))⟩, ?_,R.defers⟩,fun g hl=>hs.live hl⟩
 ·intro b B' hb
  obtain⟨B,hB,he,hc,ho⟩:=hh.get hb
  refine⟨aVV.1 ho, ?_⟩
  have hl:=hc.len
  rcases(R.hr.blk b B hB).2 with⟨hn,hc0⟩|⟨g,cs,hg,hA,hw,hle,hcs⟩
  ·exact .inl ⟨hn,aVU (by rw[←hl,hc0];rfl)⟩
  refine .inr ⟨g,cs,hg,hA,by rw[←he,←hl];exact hw,by rw[←hl];exact hle, ?_⟩
  rw[←hl]
  exact Convs.sound R.hr hc hcs
 ·intro b b' B B' g hb hb' hm hm'
  obtain⟨C,hC,_⟩:=hh.get hb
  obtain⟨C',hC',_⟩:=hh.get hb'
  exact R.hr.inj b b' C C' g hC hC' hm hm'
 exact aGx R.sr (fun t y hy=>by
  obtain⟨x,hx,hl⟩:=hf.get hy
  exact⟨x,hx,fun v hv=>hl A M w v R.hr hv⟩)
def aQz :Hp→Hp→Bool
 |_,[]=>true
 |some _::h,some _::h'=>aQz h h'
 |_::h,none::h'=>aQz h h'
 |_,_=>false
theorem aQ : ∀{h h':Hp},aQz h h'=true→Sub h h'
 |h,[],_,b,B',hb=>by simp at hb
 |some B::h,some C::h',k,b,B',hb=>by
  cases b with
  |zero=>exact⟨B,rfl⟩
  |succ b=>simp only[aVT]at hb ⊢; exact aQ (h:=h) k b B' hb
 |o::h,none::h',k,b,B',hb=>by
  cases b with
  |zero=>simp at hb
  |succ b=>
   simp only[aVT]at hb⊢
   refine aQ (h:=h) (h':=h') ?_ b B' hb
   cases o<;>exact k
 |none::_,some _::_,k,_,_,_=>by cases k
 | [],o::_,k,_,_,_=>by cases o<;>cases k
def fS (s:ByteArray):List Int:=s.data.toList.map fun b=>(b.toNat:Int)
def stb (s:ByteArray):Option (List Int):=if s.size≤oU then some (fS s)else none
theorem z4 (s:ByteArray):(fS s).length=s.size:=by unfold fS;rw[aV9];rfl
def aN5 (s:ByteArray)(i:Int):Option Int:=if 0≤i then(s[i.toNat]?).map (fun b=>(b.toNat:Int))else none
section
variable {P:Program}{N n:Nat}{ops:Array Oper}{l:List Oper}{fr:List (Nat×V)}{h h':Hp}{K:List V→Hp→Prop}
theorem ixT {t:TypeId}{s:ByteArray}{k:IntKind}{j v:Int}{sz by_:Nat}{z:Value}(ht:aU P t=some ⟨.string,sz,by_,z⟩)(hx:aN5 s j=some v):aBp P t (.sc (.string s)) (.sc (.int k j))=some (.sc (.int .u8 v)):=by
 unfold aN5 at hx
 split at hx
 ·rename_i h0
  simp only[aV3]at hx
  obtain⟨b,hb,rfl⟩:=hx
  simp[aBp,ht,rN,h0,hb]
 cases hx
theorem OpsW.does {o:Oper}{v:V}{s:List V}(hw:mQ ops o s=some true)(hD: ∀(A:Nat→Prop) (M:List (Option Nat)) (a:Act) (w:World),HR A M h w→SR (Xs A M h) M w s a→Does P o a w A M h v h')
  (hk:OpsW P N ops l (mN s o.dst v) h' K):OpsW P N ops (o::l) s h K:=fun k hl A M0 M h0 w0 a w Q hN hM G R hQ=>by
 have h0':ops[k]? =some o:=by simpa using (hl 0).symm
 simp only[aWb,aWK]
 rw[wpOps_cons]
 unfold wpOp
 rw[h0']
 simp only
 rw[aDI R.sr hw,if_pos rfl]
 refine .inl (hD A M a w R.hr R.sr _ _ fun v' w' M' G' hv=> ?_)
 exact hk (k+1) (fun j=>by have:=hl (j+1);simpa[aXg,aW4 1 j]using this) A M0 M' h0 w0 _ w' Q hN hM (G.trans G') ⟨G'.hr,(SR.keep G' R.sr).put o.dst hv,by rw[aED];exact R.defers⟩ hQ
theorem aKt {X:Nat→Prop}{M:List (Option Nat)}{w:World}(s:ByteArray):VCells X M w ((fS s).map (eI .u8)) (s.data.toList.map fun b=>Value.int .u8 b.toNat):=by
 refine VCells.mk (by simp[fS]) (fun i c v hc hv=> ?_)
 simp only[fS,List.map_map,aV6,aV3]at hc hv
 obtain⟨b,hb,rfl⟩:=hc
 obtain⟨b',hb',rfl⟩:=hv
 rw[hb]at hb'
 injection hb' with hb'
 subst hb'
 unfold VR;rfl
theorem aTs {t:Nat}{a b e:TypeId}{x:Operand}{s:ByteArray}{r:List Int}{i s1 b1 s2 b2 s3 b3:Nat}{z1 z2 z3:Value}{ty:TypeId}{pos:String}{aft:Array Edge}(hx:bZ n fr x=some (.sc (.string s)))
  (ha:aU P a=some ⟨.string,s1,b1,z1⟩) (hb:aU P b=some ⟨.slice e,s2,b2,z2⟩) (he:aU P e=some ⟨.int .u8,s3,b3,z3⟩) (hs:stb s=some r) (hl:h.length=i) (hh:h++[some ⟨e,r.map (eI .u8)⟩]=h')
  (k:OpsW P N ops l (aI n ((t,.sl i 0 r.length 1 false)::fr)) h' K):OpsW P N ops (⟨some t,.convert a b x,ty,pos,aft,none⟩::l) (aI n fr) h K:=by
 subst hl hh
 unfold stb at hs
 split at hs
 ·rename_i hsz
  injection hs with hs
  subst hs
  refine OpsW.does (v:= .sl h.length 0 (fS s).length 1 false) rfl ?_ (by dsimp only;rw[aG3];exact k)
  intro A M ac w H S
  have hev:ac.eval x= .string s:=by have:=cK H.glob S (dH hx);unfold VR at this;exact this
  have hge:=grownCap_ge w s.size 0 e
  have hcm:grownCap w s.size 0 e≤maxLen:=grownCap_le_maxLen w s.size 0 e (by unfold oU at hsz;simp only[maxLen];omega)
  have hrow:(bytesRow s (grownCap w s.size 0 e)).size=grownCap w s.size 0 e:=by
   simp only[bytesRow,Array.size_append,Array.size_map,Array.size_replicate]
   show s.size+_=_
   omega
  have Gd:=Grow.drew H
  have G:=Gd.trans (Grow.allocF Gd.hr e ((fS s).map (eI .u8)) (bytesRow s (grownCap w s.size 0 e)) (by rw[hrow,List.length_map,z4];exact hge) (by
   have:(bytesRow s (grownCap w s.size 0 e)).toList.take ((fS s).map (eI .u8)).length=s.data.toList.map fun b=>Value.int .u8 b.toNat:=by
    simp only[bytesRow,Array.toList_append,Array.toList_map]
    rw[show((fS s).map (eI .u8)).length=(s.data.toList.map fun b=>Value.int .u8 b.toNat).length by simp[fS]]
    exact List.take_left
   rw[this]
   exact aKt s) (fun c hc=>by
    simp only[List.mem_map]at hc
    obtain⟨y,_,rfl⟩:=hc
    rfl) _ (.inr rfl))
  refine Does.value (sem:=convert a b (.string s)) (by simp[execOp,hev]) ⟨_,_,_,run_bytes_of_string w a b e s (dN ha).1 (dN hb).1 (dN he).1,G, ?_⟩
  unfold VR
  refine .inr ⟨w.heap.size,grownCap w s.size 0 e,e,grownCap w s.size 0 e,by rw[←H.len];simp,by rw[z4],by rw[z4];exact hge,hcm,by omega, ?_,by omega⟩
  unfold World.shape?
  rw[show(w.drew.alloc (.cells (bytesRow s (grownCap w s.size 0 e)) e ((bytesRow s (grownCap w s.size 0 e)).size,(bytesRow s (grownCap w s.size 0 e)).size+1))).heap[w.heap.size]? =some (.cells (bytesRow s (grownCap w s.size 0 e)) e ((bytesRow s (grownCap w s.size 0 e)).size,(bytesRow s (grownCap w s.size 0 e)).size+1))from heap_alloc_new w.drew _]
  simp only[hrow]
 cases hs
end
def a9 {α:Type}(n:Nat)(l:List α):Option (List α):=if l.length=n then some l else none
def bV {α:Type}(n:Nat)(l:List α)(i:Int):Option α:=if i<n then bY l i else none
def sY {α:Type}(n:Nat)(l:List α):Option (List α):=if n≤l.length then some (l.take n)else none
theorem bE {α:Type}{n:Nat}{l m:List α}(h:a9 n l=some m):l.length=n:=by
 unfold a9 at h;split at h
 ·assumption
 cases h
theorem aSI {α:Type}{n:Nat}{l m:List α}(h:a9 n l=some m)(hn:Nat.ble 1 n=true):Nat.ble 1 l.length=true:=by rw[bE h];exact hn
theorem cQ {α:Type}{n:Nat}{l m:List α}(h:sY n l=some m):m.length=n:=by
 unfold sY at h;split at h
 ·injection h with h;subst h;simp;omega
 cases h
theorem rL {α:Type}{n:Nat}{l:List α}{i:Int}{y:α}(h:bV n l i=some y):bY l i=some y:=by
 unfold bV at h;split at h
 ·exact h
 cases h
theorem aMh {α:Type}{n:Nat}{l:List α}{i:Int}{y:α}(h:bV n l i=some y):i<n:=by
 unfold bV at h;split at h
 ·assumption
 cases h
section
variable {P:Program}{h h':Hp}{t e:TypeId}{ti:TI}{i off b N:Nat}{v:V}{α:Type}{E:α→V}{l m:List α}{y:α}{k:IntKind}{j:Int}{sz by_:Nat}{z:Value}{ag:Bool}
theorem iaB (ht:aU P t=some ⟨.array N e,sz,by_,z⟩)(he:aU P e=some ti)(h1:ti.size=1)(hx:bV N l j=some y):jR P t (.ptr b 0) (.sc (.int k j))=some (.ptr b j.toNat):=by
 obtain⟨h2,h3,_⟩:=k8 (rL hx)
 simp[jR,ht,rN,he,h1,h2,aMh hx]
theorem iaG {es:List V}(ht:aU P t=some ⟨.array N e,sz,by_,z⟩)(he:aU P e=some ti)(h1:ti.size=1)(hx:bV N l j=some y):jR P t (.eptr es 0 0) (.sc (.int k j))=some (.eptr es 0 j.toNat):=by
 obtain⟨h2,h3,_⟩:=k8 (rL hx)
 simp[jR,ht,rN,he,h1,h2,aMh hx]
theorem ixA (ht:aU P t=some ⟨.array N e,sz,by_,z⟩)(he:aU P e=some ti)(h1:ti.size=1)(hd:cI ti.desc=false)(hx:bV N l j=some y):aBp P t (.agg (l.map E)) (.sc (.int k j))=some (E y):=by
 obtain⟨h2,h3,h4⟩:=k8 (rL hx)
 simp[aBp,ht,rN,he,h1,h2,aMh hx,jF,hd,h4]
theorem ldG (ht:aU P t=some ti)(hd:cI ti.desc=false)(hx:bY l j=some y):fY P t h (.eptr [.agg (l.map E)] 0 j.toNat)=some (E y):=by
 obtain⟨_,_,h3⟩:=k8 hx
 simp[fY,V.cells,jF,ht,hd,h3]
theorem ldA (ht:aU P t=some ⟨.array N e,sz,by_,z⟩)(hsz:sz=N)(hb:h[b]? =some (some ⟨i,l.map E⟩))(hl:l.length=N):fY P t h (.ptr b 0)=some (.agg (l.map E)):=by
 subst hsz
 simp only[fY,hb,jF,ht,cI,if_true,aWi,aV9]
 rw[if_pos (by omega),aVR (by simp;omega)]
theorem aLK (ht:aU P t=some ⟨.array N e,sz,by_,z⟩)(hsz:sz=N)(hl:l.length=N):fY P t h (.eptr [.agg (l.map E)] 0 0)=some (.agg (l.map E)):=by
 subst hsz
 simp only[fY,aV5,V.cells,jF,ht,cI,if_true,aWi,aV9]
 rw[if_pos (by omega),aVR (by simp;omega)]
theorem zA (ht:aU P t=some ⟨.array N e,sz,by_,z⟩)(hsz:sz=N)(hb:h[b]? =some (some ⟨i,l.map E⟩))(hE: ∀x,(E x).one=true)(hl:l.length=N)(hm:m.length=N)(hh:h.set b (some ⟨i,m.map E⟩)=h'):u4 P t h (.ptr b 0) (.agg (m.map E))=some h':=by
 subst hh hsz
 simp only[u4,ht,hb]
 rw[if_pos ⟨by simp[V.flatOk,V.cells,hE],by simp[V.cells,hm],by simp[hl]⟩]
 congr 4
 unfold splice
 simp only[V.cells,aXb,aWS,aWZ,aV9]
 rw[aV4 (by simp;omega),aWx]
theorem slA (ht:aU P t=some ⟨.array N e,sz,by_,z⟩)(he:aU P e=some ti)(h1:ti.size=1)(hag:cI ti.desc=ag)(hb:h[b]? =some (some ⟨i,l.map E⟩))(hl:l.length=N)(hN:0<N∧N≤oU):lE P t h (.ptr b 0) none none=some (.sl b 0 N 1 ag):=by
 subst hag
 simp only[lE,ht,he,pM,yA,hb]
 rw[if_pos ⟨by omega,hN.2,aWR _,by omega,aWR _,by simp[h1,hl]⟩]
 simp[h1]
theorem slE (ht:aU P t=some ⟨.array N e,sz,by_,z⟩)(he:aU P e=some ti)(h1:ti.size=1)(hag:cI ti.desc=false)(hl:l.length=N)(hN:0<N):lE P t h (.eptr [.agg (l.map E)] 0 0) none none=some (.row none 1 (l.map E)):=by
 simp only[lE,ht,he,pM,yA,aV5]
 rw[if_pos ⟨h1,hag,aWR _,by omega,aWR _,by simp[V.cells,hl]⟩]
 simp[V.cells,hl,aVR]
theorem apR {nl:Option Bool}(ht:aU P t=some ⟨.array N e,sz,by_,z⟩)(hE: ∀x,(E x).one=true)(hN:0<N)(hx:sY N l=some m):aCM P t (.row nl 1 (l.map E))=some (.eptr [.agg (m.map E)] 0 0):=by
 unfold sY at hx
 split at hx
 ·injection hx with hx
  subst hx
  simp only[aCM,ht]
  rw[if_pos ⟨trivial,hN,by simpa using by assumption,by simp[hE]⟩,aWD]
 cases hx
end
section
variable {P:Program}{O:wD}{n:Nat}{fr:List (Nat×V)}{h h':Hp}{ty:TypeId}{pos:String}{aft:Array Edge}{d:Option Tmp}{g:Option (Nat×Bool)}{x:Operand}{a v:V}
theorem aFm {t:TypeId}(hx:bZ n fr x=some a)(hv:aCM P t a=some v):bW P O ⟨d,.sliceToArrayPointer t x,ty,pos,aft,g⟩ (aI n fr) h=some (v,h):=by simp[bW,dH hx,hv]
end
theorem V.le_arr {α:Type}{E:α→V}{f:Nat→Nat}{vn:Nat→Bool}{l:List α}(hE: ∀x,(E x).rn f=E x):V.le vn (.agg (l.map E)) ((V.agg (l.map E)).rn f):=by
 have:(V.agg (l.map E)).rn f=V.agg (l.map E):=by simp only[V.rn,pX hE]
 rw[this];exact V.le_refl _ _
theorem aLH {k:IntKind}(l:List Int):V.rfs (l.map (eI k))=true:=aC7 (fun _=>rfl) l
theorem aLA (l:List Bool):V.rfs (l.map eB)=true:=aC7 (fun _=>rfl) l
abbrev eA {α:Type}(E:α→V)(l:List α):V:= .agg (l.map E)
theorem aUn {α:Type}{E:α→V}{l:List α}(h: ∀x,(E x).one=true):(V.agg (l.map E)).flatOk=true:=by simp[V.flatOk,V.cells,h]
theorem aVz {P:Program}{h:Hp}{t e:TypeId}{N sz by_:Nat}{z:Value}{α:Type}{E:α→V}{l:List (List α)}{y:List α}{j:Int}(ht:aU P t=some ⟨.array N e,sz,by_,z⟩)(hsz:sz=N)(hx:bY l j=some y)(hl:y.length=N):fY P t h (.eptr (l.map (eA E)) j.toNat 0)=some (.agg (y.map E)):=by
 subst hsz
 obtain⟨_,_,h3⟩:=k8 hx
 simp only[fY,aV6,h3,aVX,V.cells,jF,ht,cI,if_true,aWi,aV9]
 rw[if_pos (by omega),aVR (by simp;omega)]
section
variable {P:Program}(t:TypeId)(xo yo:Operand)
theorem bL {α β:Type}(s:Sem α)(f:α→Sem β){a:α}(h:bC P s=some a):bC P (s >>= f)=bC P (f a):=by
 show bC P (Sem.bind s f)=_
 induction s with
 |pure x=>simp only[bC,aVS]at h;subst h;rfl
 |program k ih=>exact ih P h
 |mark m k ih=>exact ih h
 |_=>simp[bC]at h
theorem dI {t:TypeId}{ti:TI}(ht:aU P t=some ti):bC P (underlying t)=some ti.desc:=by
 have h1:=(dN ht).1
 show bC P (match P.underlying t with|some d=>pure d|none=>stuck "no such type")=_
 rw[h1];rfl
end
section
variable {P:Program}
theorem v7 {t:TypeId}{ti:TI}(ht:aU P t=some ti):bC P (sizeOf t)=some ti.size:=by
 obtain⟨_,i,h1,h2,_⟩:=dN ht
 have:bC P (typeInfo t)=some i:=by
  show bC P (match P.info? t with|some i=>pure i|none=>stuck "no such type")=_
  rw[h1];rfl
 unfold sizeOf
 rw[bL _ _ this,←h2];rfl
theorem aCG {t:TypeId}{ti:TI}(ht:aU P t=some ti)(hd:cI ti.desc=false){cs:Array Value}{off:Nat}{v:Value}(hv:cs[off]? =some v):bC P (part t cs off)=some v:=by
 unfold part
 have hu:=dI ht
 have h1:bC P (isAgg t)=some false:=by
  unfold isAgg
  rw[bL _ _ hu]
  cases hh:ti.desc<;>first|rfl|(rw[hh]at hd;simp[cI]at hd)
 rw[bL _ _ h1]
 simp only[aVW,if_false,hv]
 rfl
theorem aKr {t:TypeId}{k k':IntKind}{sz by_:Nat}{z:Value}(ht:aU P t=some ⟨.int k',sz,by_,z⟩)(d:Nat)(a b:Int):bC P (Op.equalIn (d+1) t (.int k a) (.int k b))=some (a == b):=by
 rw[Op.equalIn,bL _ _ (dI ht)]
 simp only[if_true]
 rfl
theorem aJ0 {t e:TypeId}{k k':IntKind}{N sz by_ sz' by':Nat}{z z':Value}(ht:aU P t=some ⟨.array N e,sz,by_,z⟩)(he:aU P e=some ⟨.int k',sz',by',z'⟩)(h1:sz'=1){l m:List Int}(hl:l.length=N)(hm:m.length=N)(d:Nat):
  bC P (Op.equalIn (d+2) t (.agg (l.map (Value.int k)).toArray) (.agg (m.map (Value.int k)).toArray))=some (l == m):=by
 subst h1
 rw[Op.equalIn,bL _ _ (dI ht)]
 simp only
 rw[bL _ _ (v7 he)]
 simp only[Std.Legacy.Range.forIn_eq_forIn_range',Std.Legacy.Range.size,aXp,aWV,aXD]
 have key: ∀(c i:Nat),i+c=N→l.take i=m.take i→bC P (do
   let r←forIn (aXA i c 1) ((none,()):Option Bool×Unit) fun i r=>do
    let a←part e (l.map (Value.int k)).toArray (i*1)
    let b←part e (m.map (Value.int k)).toArray (i*1)
    let q←Op.equalIn (d+1) e a b
    if(!q)=true then pure (ForInStep.done (some false,()))else pure (ForInStep.yield (none,()))
   match r.fst with
   |some a=>pure a
   |none=>pure true)=some (l == m):=by
  intro c
  induction c with
  |zero=>
   intro i hi hp
   have:l=m:=by
    rw[aVR (by omega),aVR (by omega)]at hp
    exact hp
   subst this
   simp only[aXq,aXc]
   show some true=_
   simp
  |succ c ih=>
   intro i hi hp
   have hil:i<l.length:=by omega
   have him:i<m.length:=by omega
   simp only[aWK,aW7,bind_assoc]
   rw[bL _ _ (aCG he rfl (v:= .int k l[i]) (by simp[hil])),bL _ _ (aCG he rfl (v:= .int k m[i]) (by simp[him])),bL _ _ (aKr he d _ _)]
   by_cases hq:l[i]=m[i]
   ·have:=ih (i+1) (by omega) (by rw[aWq hil,aWq him,hp,hq])
    simpa[hq]using this
   have hne:l≠m:=by rintro rfl;exact hq rfl
   have:(l == m)=false:=by simpa using hne
   rw[this]
   have hq':(l[i] == m[i])=false:=by simpa using hq
   rw[hq']
   rfl
 refine Eq.trans (congrArg (bC P) ?_) (key N 0 (by omega) (by simp))
 refine congr (congrArg bind ?_) (funext fun r=> ?_)
 ·rfl
 obtain⟨r,_⟩:=r
 cases r<;>rfl
variable (t:TypeId)(xo yo:Operand)
theorem aH6 (k:IntKind)(l:List Int):eV (.agg (l.map (eI k)))=some (.agg (l.map (Value.int k)).toArray):=by
 have:(l.map (eI k)).mapM eF=some (l.map (Value.int k)):=by
  induction l with
  |nil=>rfl
  |cons x l ih=>simp only[aWa,aWh,ih];rfl
 simp only[eV,this,aVX]
theorem aJ7 {e:TypeId}{k':IntKind}{N sz by_ sz' by':Nat}{z z':Value}{t:TypeId}(ht:aU P t=some ⟨.array N e,sz,by_,z⟩)(he:aU P e=some ⟨.int k',sz',by',z'⟩)(hd:2≤P.depth){bo:BinOp}(hbo:bo= .eql∨bo= .neq)(a b:Array Value):bC P (eqGuard bo t xo yo (.agg a) (.agg b))=some ():=by
 unfold eqGuard
 have hg:P.eqGuardType P.depth t=false:=by
  obtain⟨q,hq⟩: ∃q,P.depth=q+2:=⟨P.depth-2,by omega⟩
  rw[hq]
  simp only[Program.eqGuardType,(dN ht).1,(dN he).1]
 rcases hbo with rfl|rfl<;>
 ·show bC P (if(!P.eqGuardType P.depth t)=true then pure ()else _)=some ()
  rw[hg];rfl
theorem aPw {e:TypeId}{k k':IntKind}{N sz by_ sz' by':Nat}{z z':Value}{t:TypeId}(ht:aU P t=some ⟨.array N e,sz,by_,z⟩)(he:aU P e=some ⟨.int k',sz',by',z'⟩)(h1:sz'=1)(hd:2≤P.depth){l m:List Int}(hl:l.length=N)(hm:m.length=N):
  eT P .eql t xo yo (.agg (l.map (eI k))) (.agg (m.map (eI k)))=some (.sc (.bool (l == m))):=by
 simp only[eT,aH6,pureV]
 rw[bL _ _ (aJ7 xo yo ht he hd (.inl rfl) _ _)]
 have:bC P (binOp .eql t (.agg (l.map (Value.int k)).toArray) (.agg (m.map (Value.int k)).toArray))=some (.bool (l == m)):=aAQ _ _ (aJ0 ht he h1 hl hm 9998)
 rw[this];rfl
theorem aQb {e:TypeId}{k k':IntKind}{N sz by_ sz' by':Nat}{z z':Value}{t:TypeId}(ht:aU P t=some ⟨.array N e,sz,by_,z⟩)(he:aU P e=some ⟨.int k',sz',by',z'⟩)(h1:sz'=1)(hd:2≤P.depth){l m:List Int}(hl:l.length=N)(hm:m.length=N):
  eT P .neq t xo yo (.agg (l.map (eI k))) (.agg (m.map (eI k)))=some (.sc (.bool (!(l == m)))):=by
 simp only[eT,aH6,pureV]
 rw[bL _ _ (aJ7 xo yo ht he hd (.inr rfl) _ _)]
 have:bC P (binOp .neq t (.agg (l.map (Value.int k)).toArray) (.agg (m.map (Value.int k)).toArray))=some (.bool (!(l == m))):=aAQ _ (fun b=>Value.bool !b) (aJ0 ht he h1 hl hm 9998)
 rw[this];rfl
end
theorem aOT {P:Program} {f:FuncId} {fn:Func} {args:List V} {r:V} {h:Hp} {e:Array Value→Sem Value} (hf:P.funcs[f]? =some fn) (hn:(fn.name == "runtime.NumGoroutine")=false) (hb:fn.body.isNone=true) (h1:Extern.findNext fn=none) (h2:Extern.find fn=some e)
  (he: ∀(X:Nat→Prop)(M:List (Option Nat))(w:World)(vs:List Value),VCells X M w args vs→ ∃v,(e vs.toArray).run P w= .ok v w∧VR X M w r v):Fn P f h args r h:=by
 intro A M w vs H hargs
 obtain⟨v,hv,hr⟩:=he _ _ _ _ hargs
 refine .inr ⟨v,w, ?_,M,Grow.refl H,hr⟩
 have e1:(callFunc f vs.toArray).run P w=((e vs.toArray).run P w).andThen fun v w=> .ok (.value v) w:=by
  unfold callFunc
  show Sem.run P (match P.funcs[f]? with|none=>_|some fn=>_) w=_
  rw[hf]
  simp only[hn,aVW,if_false,hb,if_true,h1,h2]
  show Sem.run P (Sem.bind (e vs.toArray) _) w=_
  exact Sem.run_bind ..
 rw[e1,hv]
 rfl
section
variable {α:Type}{C:α→List V}{K:Nat}
theorem qX (hC: ∀x,(C x).length=K): ∀l:List α,(l.flatMap C).length=l.length*K
 | []=>by simp
 |x::l=>by simp only[aVZ,aWd,hC,qX hC l,aWb,aWf,aWy];omega
theorem aFJ (hC: ∀x,(C x).length=K): ∀(l:List α)(i:Nat),(l.flatMap C).drop (i*K)=(l.drop i).flatMap C
 |l,0=>by simp
 | [],i+1=>by simp
 |x::l,i+1=>by
  rw[aVZ,aXe,←aFJ hC l i,aWf,aWy,aXu,aV4 (by rw[hC];omega),aWS,hC]
  congr 1;omega
theorem aJQ (hC: ∀x,(C x).length=K): ∀(l:List α)(i:Nat),(l.flatMap C).take (i*K)=(l.take i).flatMap C
 |l,0=>by simp
 | [],i+1=>by simp
 |x::l,i+1=>by
  rw[aVZ,aWU,aVZ,←aJQ hC l i,aWf,aWy,aWM,aVR (by rw[hC];omega),hC]
  congr 2;omega
theorem aGT (hC: ∀x,(C x).length=K)(l:List α):xZ true K l.length (l.flatMap C)=l.map fun x=>V.agg (C x):=by
 unfold xZ
 rw[if_pos rfl]
 apply List.ext_getElem
 ·simp
 intro i h1 h2
 simp only[aV9]at h2
 simp only[List.getElem_map,List.getElem_range]
 rw[aFJ hC,aWc h2,aVZ,aWM,aVR (by rw[hC];exact aWo _),hC,Nat.sub_self,aXb,aWx]
theorem q7 {p:V→Bool}(h: ∀x,(C x).all p=true)(l:List α):(l.flatMap C).all p=true:=by
 rw[aVV];intro y hy
 simp only[List.mem_flatMap]at hy
 obtain⟨x,_,hy⟩:=hy
 exact aVV.1 (h x) y hy
theorem aM7 {f:Nat→Nat}: ∀(a b:List V),V.rns f (a++b)=V.rns f a++V.rns f b
 | [],b=>by simp[V.rns]
 |x::a,b=>by simp[V.rns,aM7 a b]
theorem iE {f:Nat→Nat}(h: ∀x,V.rns f (C x)=C x): ∀l:List α,V.rns f (l.flatMap C)=l.flatMap C
 | []=>by simp[V.rns]
 |x::l=>by rw[aVZ,aM7,h,iE h l]
theorem aDp {f:Nat→Nat}{vn:Nat→Bool}(h: ∀x,V.rns f (C x)=C x)(l:List α):V.les vn (l.flatMap C) (V.rns f (l.flatMap C)):=by rw[iE h];exact V.les_refl _ _
theorem aQS {F:V→Option V}{a b a' b':List V}(h1:a.mapM F=some a')(h2:b.mapM F=some b'):(a++b).mapM F=some (a'++b'):=by
 rw[List.mapM_append,h1,h2];rfl
theorem aKd {F:V→Option V}(h: ∀x,(C x).mapM F=some (C x)): ∀l:List α,(l.flatMap C).mapM F=some (l.flatMap C)
 | []=>rfl
 |x::l=>by rw[aVZ];exact aQS (h x) (aKd h l)
variable {P:Program}{h h':Hp}{t e:TypeId}{ti:TI}{b i off:Nat}{l m:List α}{y:α}{kk:IntKind}{j:Int}{nl:Option Bool}{sz by_:Nat}{z:Value}{v:V}
theorem aEn {hE:Hp}{q d:Nat}(hC: ∀x,(C x).length=K)(hK:0<K)(hn:l.length=q)(hb:hE[b]? =some (some ⟨e,l.flatMap C⟩))(hx: ∀x,(C x).mapM (fP hE d)=some (C x)):fP hE (d+1) (.sl b 0 q K true)=some (.row none K (l.map fun x=>V.agg (C x))):=by
 subst hn
 simp only[fP,hb]
 rw[if_pos ⟨by rw[qX hC];omega,hK,.inl trivial⟩]
 simp only[aWi]
 rw[aVR (by rw[qX hC];exact aWo _),aKd hx]
 simp only[aVX,aGT hC]
theorem aEI {hE:Hp}{q:Nat}(hC: ∀x,(C x).length=K)(hK:0<K)(hn:l.length=q)(hb:hE[b]? =some (some ⟨e,l.flatMap C⟩))(hx: ∀x,(C x).mapM (fP hE 3)=some (C x)):zJ hE (.sl b 0 q K true)=some (.row none K (l.map fun x=>V.agg (C x))):=aEn hC hK hn hb hx
theorem aUq :iV h K (.row nl K (m.map fun x=>V.agg (C x)))=some (m.flatMap C,m.length):=by
 have:(m.map fun x=>V.agg (C x)).flatMap V.cells=m.flatMap C:=by rw[aXv];rfl
 simp only[iV]
 rw[if_pos (.inl trivial),this];simp
theorem aT5 {q:Nat}(hC: ∀x,(C x).length=K)(hn:m.length=q)(hb:h[b]? =some (some ⟨e,m.flatMap C⟩)):iV h K (.sl b 0 q K true)=some (m.flatMap C,m.length):=by
 subst hn
 simp only[iV,hb]
 rw[if_pos ⟨trivial,by rw[qX hC];omega⟩,aWi,aVR (by rw[qX hC];exact aWo _)]
theorem aTP {k:Nat}:iV h K (.row nl k [])=some (([]:List α).flatMap C,([]:List α).length):=by simp[iV]
theorem aUu {q:Nat}(hC: ∀x,(C x).length=K)(hn:l.length=q)(ht:aU P t=some ⟨.slice e,sz,by_,z⟩)(he:aU P e=some ti)(h1:ti.zero.cells.size=K∧ti.size=K∧1≤ti.bytes∧0<K)(hb:h[b]? =some (some ⟨e,l.flatMap C⟩)){s:V}(hs:iV h K s=some (m.flatMap C,m.length))
  {r:List α} (ha:eE ti.bytes l m=some r) (hl:h.length=i) (hh:h.set b none++[some ⟨e,r.flatMap C⟩]=h'):mP P t t (.sl b 0 q K true) s h=some (.sl i 0 r.length K true,h'):=by
 obtain⟨h2,h3,h4,h5⟩:=h1
 subst hn
 unfold eE at ha
 split at ha
 ·rename_i hlim
  injection ha with ha
  subst ha hl hh
  have hx:iV h ti.size s=some (m.flatMap C,m.length):=by rw[h3];exact hs
  simp only[mP,ne_eq,not_true,if_false,ht,he]
  rw[if_pos ⟨by rw[h2,h3],by omega,h4⟩]
  simp only[hx,hb]
  rw[if_pos ⟨h3.symm,trivial,by rw[qX hC];exact aWo _,hlim⟩,aVR (by rw[qX hC];exact aWo _)]
  simp
 cases ha
theorem aVH {q:Nat}(hn:l.length=q)(ht:aU P t=some ⟨.slice e,sz,by_,z⟩)(he:aU P e=some ti)(h1:ti.size=K)(hx:bY l j=some y):jR P t (.sl b 0 q K true) (.sc (.int kk j))=some (.ptr b (0+j.toNat*K)):=by
 obtain⟨h2,h3,_⟩:=k8 hx
 subst hn
 simp[jR,ht,rN,he,h1,h2,h3]
theorem aOW {cs r:List V}(h:jF P t cs=some v):jF P t (cs++r)=some v:=by
 unfold jF at *
 split at h
 ·cases h
 split at h
 ·rename_i hag
  split at h
  ·rename_i hs
   rw[if_pos hag,if_pos (by rw[aWd];omega),aWe hs];exact h
  cases h
 rename_i hag
 rw[if_neg hag]
 cases cs with
 |nil=>cases h
 |cons c cs=>exact h
theorem aRv (hC: ∀x,(C x).length=K){i:Nat}(hi:l[i]? =some y)(ho:off≤K):(l.flatMap C).drop (0+i*K+off)=(C y).drop off++(l.drop (i+1)).flatMap C:=by
 obtain⟨h1,h2⟩:=aVO.1 hi
 rw[aWZ,←aWp,aFJ hC,aWc h1,h2,aVZ,aWN (by rw[hC];exact ho)]
theorem aK7 (hC: ∀x,(C x).length=K)(hb:h[b]? =some (some ⟨e,l.flatMap C⟩))(hx:bY l j=some y)(ho:off≤K)(hp:jF P t ((C y).drop off)=some v):fY P t h (.ptr b (0+j.toNat*K+off))=some v:=by
 obtain⟨_,_,h3⟩:=k8 hx
 simp only[fY,hb]
 rw[aRv hC h3 ho]
 exact aOW hp
theorem aNz (hC: ∀x,(C x).length=K)(hb:h[b]? =some (some ⟨e,l.flatMap C⟩))(hx:bY l j=some y)(hp:jF P t (C y)=some v):fY P t h (.ptr b (0+j.toNat*K))=some v:=aK7 (off:=0) hC hb hx (Nat.zero_le _) (by simpa using hp)
theorem aMy (hC: ∀x,(C x).length=K){i:Nat}(hi:l[i]? =some y){x:V}{y':α}(ho:off+x.cells.length≤K)(hy:splice (C y) off x.cells=C y'):splice (l.flatMap C) (0+i*K+off) x.cells=(l.set i y').flatMap C:=by
 obtain⟨h1,h2⟩:=aVO.1 hi
 have hl:l=l.take i++y::l.drop (i+1):=by rw[←h2,←aWc h1,aWn]
 have hset:l.set i y'=l.take i++y'::l.drop (i+1):=by
  rw[List.set_eq_take_append_cons_drop,if_pos h1]
 have hti:(l.take i).length=i:=by rw[aV8];omega
 rw[hset,aWW,aVZ,←hy]
 conv=>lhs;rw[hl,aWW,aVZ]
 have hA:((l.take i).flatMap C).length=i*K:=by rw[qX hC,hti]
 unfold splice
 rw[aWZ,aWM,aVR (by rw[hA];omega),hA,show i*K+off-i*K=off by omega,aWe (by rw[hC];omega)]
 rw[show i*K+off+x.cells.length=i*K+(off+x.cells.length) by omega,aXu,aV4 (by rw[hA];omega),hA,show i*K+(off+x.cells.length)-i*K=off+x.cells.length by omega,aWS,aWN (by rw[hC];omega)]
 simp[aWI]
theorem aPq (hC: ∀x,(C x).length=K)(ht:aU P t=some ti)(hb:h[b]? =some (some ⟨e,l.flatMap C⟩))(hx:bY l j=some y){x:V}{y':α}(hf:x.flatOk=true)(hs:x.cells.length=ti.size)(ho:off+ti.size≤K)(hy:splice (C y) off x.cells=C y')(hh:h.set b (some ⟨e,(l.set j.toNat y').flatMap C⟩)=h'):u4 P t h (.ptr b (0+j.toNat*K+off)) x=some h':=by
 obtain⟨_,_,h3⟩:=k8 hx
 have h4:=(aVO.1 h3).1
 subst hh
 simp only[u4,ht,hb]
 have hle:(j.toNat+1)*K≤l.length*K:=aXa K h4
 rw[if_pos ⟨hf,hs,by rw[qX hC];rw[aWf,aWy]at hle;omega⟩,aMy hC h3 (by rw[hs];exact ho) hy]
theorem Conv.rowK (hC: ∀x,(C x).length=K)(h1K: ∀x,(C x).all V.one=true)(hsh: ∀x,(C x).all V.shut=true){h h':Hp}(hs:Sub h h'){b n:Nat}{e:TypeId}(hb:h[b]? =some (some ⟨e,l.flatMap C⟩))(hb':h'[b]? =some none)(hn:n=l.length):Conv h h' (.sl b 0 n K true) (.row none K (l.map fun x=>V.agg (C x))):=by
 intro A M w v H hv
 obtain⟨hone,hcase⟩:=H.blk b _ hb
 have hok: ∀e∈l.map (fun x=>V.agg (C x)),e.okElem K=true:=by
  intro e he
  simp only[aXo]at he
  obtain⟨x,_,rfl⟩:=he
  simp only[V.okElem,V.flatOk,V.cells,h1K x,hC x,beq_self_eq_true,Bool.and_self]
 unfold VR at hv⊢
 rcases hv with⟨hm,rfl,h0,_⟩|⟨g,cap,e',sz,hm,rfl,h1,_,h3,hshp,_⟩
 ·have:l=[]:=aVU (by omega)
  subst this
  exact⟨none,0,rfl,aWo _,fun _=>rfl,(fun b hb=>by cases hb),by simp,fun hne=>absurd rfl hne⟩
 rcases hcase with⟨hm',_⟩|⟨g',a9,hm',hA,hw,hle,hcs⟩
 ·rw[hm]at hm';cases hm'
 rw[hm]at hm'
 injection hm' with hm'
 injection hm' with hm'
 subst hm'
 refine⟨some ⟨g,0,none⟩,cap,by rw[aV9,hn],by rw[aV9];omega,fun hh=>(by cases hh),(fun b hb=>by cases hb),hok,fun _=>⟨⟨g,0,none⟩,rfl,h3, ?_,rfl, ?_⟩⟩
 ·rintro(ha|⟨c,C',hc,hmc⟩)
  ·exact hA ha
  obtain⟨C'',hc'⟩:=hs c C' hc
  have:=H.inj c b C'' _ g hc' hb hmc hm
  subst this
  rw[hb']at hc;cases hc
 rw[←aGT hC l]
 unfold xZ
 rw[if_pos rfl]
 dsimp only at hle hcs
 have hall:=q7 hsh l
 refine aEh h3 l.length (vs:=a9.toList.take (l.flatMap C).length) (qX hC l) (VCells.mk hcs.len (fun i c u hc hu=> ?_)) ?_
 ·obtain⟨u',hu',hr⟩:=hcs.get hc
  rw[hu]at hu'
  injection hu' with hu'
  subst hu'
  exact(hr.shut (aVV.1 hall c (aV1 hc))).avoid (fun _ _ hx=>hs.xs hx)
 intro i u hu
 have hu2:a9[i]? =some u:=by
  simp only[aW5,aXf]at hu
  split at hu
  ·simpa using hu
  cases hu
 have:=hw.cell hshp i
 rw[hu2]at this
 unfold Addr.add
 split
 ·rename_i h0;subst h0;exact this
 simpa using this
theorem aKj (hC: ∀x,(C x).length=K)(h1: ∀x,(C x).all V.one=true): ∀(xs:List α)(i:Nat)(cells:List V),cells.length=(i+xs.length)*K→rE (fun i=>some (i*K,K)) cells (vI i (xs.map fun x=>V.agg (C x)))=some (cells.take (i*K)++xs.flatMap C)
 | [],i,cells,hl=>by
  simp only[List.map_nil,vI,rE,aXw,aWx]
  rw[aVR (by rw[hl];simp)]
 |x::xs,i,cells,hl=>by
  simp only[aWb]at hl
  have hl':cells.length=i*K+K+xs.length*K:=by rw[hl,aWf,aWf,aWy];omega
  simp only[aWa,vI,rE]
  rw[if_pos ⟨by simp[V.flatOk,V.cells,h1 x],by simp[V.cells,hC x],by omega⟩]
  have hsl:(splice cells (i*K) (V.agg (C x)).cells).length=cells.length:=aAc _ _ _ (by simp only[V.cells,hC];omega)
  rw[aKj hC h1 xs (i+1) _ (by rw[hsl,hl];congr 1;omega)]
  congr 1
  rw[aVZ,←aWI]
  congr 1
  unfold splice
  simp only[V.cells]
  rw[aWf,aWy,aWI,aWM,aVR (by rw[aV8];omega),aV8,aWE (by omega),show i*K+K-i*K=K by omega,aWe (by rw[hC];exact aWo _),show(C x).take K=C x from aVR (by rw[hC];exact aWo _)]
theorem aCL {len:Nat}{ps:List (Nat×V)}{xs:List α}(hC: ∀x,(C x).length=K)(h1C: ∀x,(C x).all V.one=true)(ht:aU P t=some ⟨.slice e,sz,by_,z⟩)(he:aU P e=some ti)(h1:len*K≤2^24∧0<len∧0<K)(hK:ti.size=K)(hag:cI ti.desc=true)
  (hp:vI 0 (xs.map fun x=>V.agg (C x))=ps) (hlen:xs.length=len) (hl:h.length=i) (hh:h++[some ⟨e,xs.flatMap C⟩]=h'):
  kQ P t len ps h=some (.sl i 0 len K true,h'):=by
 subst hK hp
 refine aSO ht he h1 hag ?_ ⟨q7 h1C xs,by rw[qX hC,hlen]⟩ hl hh
 rw[aKj hC h1C xs 0 _ (by simp[hlen])]
 simp
end
def aGd (P:Program)(g:TypeId→Option (List TypeDesc)):List Field→Nat→Option (List TypeDesc)
 | [],_=>some []
 |f::fs,off=>if f.name= "_" ∨f.offset≠off then none else match aU P f.type,g f.type with
  |some d,some l=>if d.size=l.length∧0<d.size then(aGd P g fs (off+l.length)).map (l++ ·)else none
  |_,_=>none
def zT (P:Program):Nat→TypeId→Option (List TypeDesc)
 |0,_=>none
 |d+1,t=>match aU P t with
  |some ⟨.int k,sz,_,_⟩=>if sz=1 then some [.int k]else none
  |some ⟨.bool,sz,_,_⟩=>if sz=1 then some [.bool]else none
  |some ⟨.string,sz,_,_⟩=>if sz=1 then some [.string]else none
  |some ⟨.array n e,sz,_,_⟩=>match aU P e,zT P d e with
   |some de,some l=>if de.size=l.length∧sz=n*l.length then some (aV7 n l).flatten else none
   |_,_=>none
  |some ⟨.struct fs,sz,_,_⟩=>if P.stoodInHeld t=true then none else match aGd P (zT P d) fs.toList 0 with
   |some l=>if sz=l.length then some l else none
   |none=>none
  |_=>none
def mkT (ti:TI)(vs:List Value):Value:=if cI ti.desc then .agg vs.toArray else vs.headD default
def gH :List TypeDesc→List Value→Bool
 | [],[]=>true
 | .int k::ds,.int k' _::vs=>decide (k=k')&&gH ds vs
 | .bool::ds,.bool _::vs=>gH ds vs
 | .string::ds,.string _::vs=>gH ds vs
 |_,_=>false
def aHV :Value→Value→Bool
 | .int _ a,.int _ b=>a == b
 | .bool a,.bool b=>a == b
 | .string a,.string b=>a == b
 |_,_=>false
def hZ :List Value→List Value→Bool
 | [],[]=>true
 |x::xs,y::ys=>aHV x y&&hZ xs ys
 |_,_=>false
theorem aFg : ∀{a c b d:List Value},a.length=c.length→hZ (a++b) (c++d)=(hZ a c&&hZ b d)
 | [],[],_,_,_=>by simp[hZ]
 |x::a,y::c,b,d,h=>by
  simp only[aXx,hZ]
  rw[aFg (by simpa using h),Bool.and_assoc]
 | [],_::_,_,_,h=>by simp at h
 |_::_,[],_,_,h=>by simp at h
theorem lY : ∀{ds:List TypeDesc}{vs:List Value},gH ds vs=true→vs.length=ds.length
 | [],[],_=>rfl
 | [],_::_,h=>by simp[gH]at h
 |d::ds,[],h=>by cases d<;>simp[gH]at h
 |d::ds,v::vs,h=>by
  have:gH ds vs=true:=by
   cases d<;>cases v<;>simp only[gH,aVW,aV0]at h<;>first|exact h|exact h.2
  simp[lY this]
theorem uK : ∀{l m:List TypeDesc}{vs:List Value},gH (l++m) vs=true→gH l (vs.take l.length)=true∧gH m (vs.drop l.length)=true
 | [],m,vs,h=>by simpa[gH]using h
 |d::l,m,[],h=>by cases d<;>simp[gH]at h
 |d::l,m,v::vs,h=>by
  cases d<;>cases v<;>simp only[aXx,gH,aVW,aV0]at h<;>simp only[aWb,aWU,aXe,gH,aV0]
  ·exact uK h
  ·exact⟨⟨h.1,(uK h.2).1⟩,(uK h.2).2⟩
  exact uK h
section
variable {P:Program}
theorem tQ {t:TypeId}{ti:TI}(ht:aU P t=some ti){vs:List Value}{off:Nat}(h1:cI ti.desc=true∨ti.size=1)(hl:off+ti.size≤vs.length):bC P (part t vs.toArray off)=some (mkT ti ((vs.drop off).take ti.size)):=by
 have hu:=dI ht
 cases hag:cI ti.desc with
 |false=>
  have hs:=h1.resolve_left (by rw[hag];simp)
  have hlt:off<vs.length:=by omega
  have:=aCG (P:=P) ht hag (cs:=vs.toArray) (off:=off) (v:=vs[off]) (by simp[hlt])
  rw[this]
  simp only[mkT,hag,aVW,if_false,hs]
  rw[aWc hlt];rfl
 |true=>
  unfold part
  have h1:bC P (isAgg t)=some true:=by
   unfold isAgg
   rw[bL _ _ hu]
   cases hh:ti.desc<;>first|rfl|(rw[hh]at hag;simp[cI]at hag)
  rw[bL _ _ h1]
  simp only[if_true]
  rw[bL _ _ (v7 ht)]
  simp only[mkT,hag,if_true,List.extract_toArray,List.extract_eq_drop_take']
  show some _=_
  congr 2
  simp[List.take_drop]
theorem aQO {α:Type}{p:α→Bool}{body:α→Option Bool×Unit→Sem (ForInStep (Option Bool×Unit))}{k:Option Bool×Unit→Sem Bool}(h1: ∀r u,k (some r,u)=pure r)(h2: ∀u,k (none,u)=pure true): ∀(l:List α),(∀a∈l,∀s,bC P (body a s)=some (if p a=true then .yield (none,())else .done (some false,())))→
  bC P (forIn l ((none,()):Option Bool×Unit) body >>= k)=some (l.all p)
 | [],_=>by
  simp only[aXc,pure_bind,h2]
  rfl
 |a::l,h=>by
  simp only[aW7,bind_assoc]
  rw[bL _ _ (h a (by simp) _)]
  cases hp:p a with
  |true=>
   simp only[if_true,aWF,hp,aXj]
   exact aQO h1 h2 l (fun b hb=>h b (by simp[hb]))
  |false=>
   simp only[aVW,if_false,aWF,hp,Bool.false_and,pure_bind,h1]
   rfl
theorem aQx {α:Type}{body:α→PUnit→Sem (ForInStep PUnit)}: ∀(l:List α),(∀a∈l,∀s,bC P (body a s)=some (.yield PUnit.unit))→
  bC P (do
   forIn l PUnit.unit body
   pure ())=some ()
 | [],_=>by simp only[aXc];rfl
 |a::l,h=>by
  simp only[aW7,bind_assoc]
  rw[bL _ _ (h a (by simp) _)]
  exact aQx l (fun b hb=>h b (by simp[hb]))
theorem aFu {m:Nat}{xs ys:List Value}: ∀(c i:Nat),xs.length=(i+c)*m→ys.length=(i+c)*m→hZ (xs.drop (i*m)) (ys.drop (i*m))=(aXA i c).all fun i=>hZ ((xs.drop (i*m)).take m) ((ys.drop (i*m)).take m)
 |0,i,hx,hy=>by
  rw[aV4 (by rw[hx];simp),aV4 (by rw[hy];simp)]
  simp[hZ]
 |c+1,i,hx,hy=>by
  have ih:=aFu (m:=m) (xs:=xs) (ys:=ys) c (i+1) (by rw[hx];congr 1;omega) (by rw[hy];congr 1;omega)
  simp only[aWK,aWF]
  rw[←ih]
  have e:(i+1)*m=i*m+m:=by rw[aWf,aWy]
  have hm:m≤(c+1)*m:=Nat.le_mul_of_pos_left m (by omega)
  have h2:(i+(c+1))*m=i*m+(c+1)*m:=aWf _ _ _
  rw[e,←aWp,←aWp,←aFg (by simp only[aV8,aWr,hx,hy]),aWn,aWn]
theorem aHi {l:List TypeDesc}: ∀(c:Nat){xs:List Value},gH (aV7 c l).flatten xs=true→ ∀i,i<c→gH l ((xs.drop (i*l.length)).take l.length)=true
 |0,_,_,i,hi=>by omega
 |c+1,xs,h,i,hi=>by
  simp only[aWB,aWH]at h
  obtain⟨h1,h2⟩:=uK h
  cases i with
  |zero=>simpa using h1
  |succ i=>
   have:=aHi c h2 i (by omega)
   rw[aWp]at this
   rw[aWf,aWy,aW4]
   exact this
def aIQ (P:Program)(xs ys:List Value)(f:Field):Bool:=match aU P f.type with
 |some d=>hZ ((xs.drop f.offset).take d.size) ((ys.drop f.offset).take d.size)
 |none=>false
theorem aEO {g:TypeId→Option (List TypeDesc)}{xs ys:List Value}: ∀(fs:List Field)(off:Nat){l:List TypeDesc},aGd P g fs off=some l→gH l (xs.drop off)=true→gH l (ys.drop off)=true→
  fs.all (aIQ P xs ys)=hZ (xs.drop off) (ys.drop off)∧ ∀f∈fs,f.name≠ "_" ∧ ∃df lf,aU P f.type=some df∧g f.type=some lf∧df.size=lf.length∧f.offset+df.size≤xs.length∧f.offset+df.size≤ys.length∧
   gH lf ((xs.drop f.offset).take df.size)=true∧gH lf ((ys.drop f.offset).take df.size)=true
 | [],off,l,h,hx,hy=>by
  simp only[aGd,aVS]at h
  subst h
  have e1:=lY hx
  have e2:=lY hy
  rw[aVU e1,aVU e2]
  simp[hZ]
 |f::fs,off,l,h,hx,hy=>by
  simp only[aGd]at h
  split at h
  ·cases h
  rename_i hno
  have hname:f.name≠ "_" :=fun e=>hno (.inl e)
  have hoff:f.offset=off:=Classical.byContradiction fun e=>hno (.inr e)
  split at h
  ·rename_i df lf hd hg
   split at h
   ·rename_i hsz
    obtain⟨hsz,h0⟩:=hsz
    simp only[aV3]at h
    obtain⟨l',hl',rfl⟩:=h
    obtain⟨x1,x2⟩:=uK hx
    obtain⟨y1,y2⟩:=uK hy
    rw[aWp]at x2 y2
    obtain⟨i1,i2⟩:=aEO fs (off+lf.length) hl' x2 y2
    have lx:=lY hx
    have ly:=lY hy
    simp only[aWr,aWd]at lx ly
    have hxl:off≤xs.length∨lf.length+l'.length=0:=by omega
    have x1l:=lY x1
    have y1l:=lY y1
    simp only[aV8,aWr]at x1l y1l
    refine⟨?_, ?_⟩
    ·simp only[aWF,i1,aIQ,hd,hoff,hsz]
     rw[←aWp,←aWp,←aFg (by simp only[aV8,aWr];omega),aWn,aWn]
    intro f' hf'
    rcases aWC.1 hf' with rfl|hf'
    ·exact⟨hname,df,lf,hd,hg,hsz,by omega,by omega,by rw[hoff,hsz];exact x1,by rw[hoff,hsz];exact y1⟩
    exact i2 f' hf'
   cases h
  cases h
theorem aBi : ∀(d:Nat){t:TypeId}{L:List TypeDesc}{ti:TI},aU P t=some ti→zT P d t=some L→(L.length=ti.size∧(cI ti.desc=true∨ti.size=1))∧
  ∀(n:Nat){xs:List Value},gH L xs=true→(∀{ys:List Value},gH L ys=true→bC P (Op.equalIn (n+d) t (mkT ti xs) (mkT ti ys))=some (hZ xs ys))∧ ∀b,bC P (Instr.checkKey b (n+d) t (mkT ti xs))=some ()
 |0,t,L,ti,_,h=>by simp[zT]at h
 |d+1,t,L,ti,ht,h=>by
  simp only[zT]at h
  rw[ht]at h
  split at h
  ·rename_i k sz _ _ he
   injection he with he;subst he
   split at h
   ·rename_i h1
    injection h with h;subst h
    refine⟨⟨by simp[h1],.inr h1⟩,fun n xs hx=>⟨fun{ys} hy=> ?_,fun b=> ?_⟩⟩
    ·match xs,ys,lY hx,lY hy,hx,hy with
     | [.int k1 a],[.int k2 c],_,_,hx,hy=>
      simp only[gH,aW2,decide_eq_true_eq]at hx hy
      subst hx;subst hy
      simp only[mkT,cI,aVW,if_false,aW8,hZ,aHV,aW2]
      exact aKr ht _ a c
    match xs,lY hx,hx with
    | [.int k1 a],_,hx=>
     show bC P (Instr.checkKey b (n+d+1) t _)=_
     rw[Instr.checkKey,bL _ _ (dI ht)]
     rfl
   cases h
  ·rename_i sz _ _ he
   injection he with he;subst he
   split at h
   ·rename_i h1
    injection h with h;subst h
    refine⟨⟨by simp[h1],.inr h1⟩,fun n xs hx=>⟨fun{ys} hy=> ?_,fun b=> ?_⟩⟩
    ·match xs,ys,hx,hy with
     | [.bool a],[.bool c],hx,hy=>
      show bC P (Op.equalIn (n+d+1) t _ _)=_
      rw[Op.equalIn,bL _ _ (dI ht)]
      simp only[mkT,cI,aVW,if_false,aW8,hZ,aHV,aW2]
      rfl
    match xs,hx with
    | [.bool a],hx=>
     show bC P (Instr.checkKey b (n+d+1) t _)=_
     rw[Instr.checkKey,bL _ _ (dI ht)]
     rfl
   cases h
  ·rename_i sz _ _ he
   injection he with he;subst he
   split at h
   ·rename_i h1
    injection h with h;subst h
    refine⟨⟨by simp[h1],.inr h1⟩,fun n xs hx=>⟨fun{ys} hy=> ?_,fun b=> ?_⟩⟩
    ·match xs,ys,hx,hy with
     | [.string a],[.string c],hx,hy=>
      show bC P (Op.equalIn (n+d+1) t _ _)=_
      rw[Op.equalIn,bL _ _ (dI ht)]
      simp only[mkT,cI,aVW,if_false,aW8,hZ,aHV,aW2]
      rfl
    match xs,hx with
    | [.string a],hx=>
     show bC P (Instr.checkKey b (n+d+1) t _)=_
     rw[Instr.checkKey,bL _ _ (dI ht)]
     rfl
   cases h
  ·rename_i len e sz _ _ he
   injection he with he;subst he
   split at h
   ·rename_i de l hde hle
    split at h
    ·rename_i hc
     obtain⟨hc1,hc2⟩:=hc
     injection h with h;subst h
     obtain⟨⟨_,ag⟩,ih⟩:=aBi d hde hle
     have hL:(aV7 len l).flatten.length=len*l.length:=by simp
     refine⟨⟨by rw[hL];exact hc2.symm,.inl rfl⟩,fun n xs hx=> ?_⟩
     have lx:=lY hx
     rw[hL]at lx
     have hxo:=aHi len hx
     have slot: ∀i,i<len→i*l.length+l.length≤len*l.length:=fun i hi=>by
      have:=aXa l.length (show i+1≤len from hi)
      rw[aWf,aWy]at this;exact this
     have px: ∀i,i<len→bC P (part e xs.toArray (i*l.length))=some (mkT de ((xs.drop (i*l.length)).take l.length)):=fun i hi=>by
      have:=tQ (P:=P) hde ag (vs:=xs) (off:=i*l.length) (by rw[hc1,lx];exact slot i hi)
      rw[hc1]at this;exact this
     refine⟨fun{ys} hy=> ?_,fun b=> ?_⟩
     ·have ly:=lY hy
      rw[hL]at ly
      have hyo:=aHi len hy
      have py: ∀i,i<len→bC P (part e ys.toArray (i*l.length))=some (mkT de ((ys.drop (i*l.length)).take l.length)):=fun i hi=>by
       have:=tQ (P:=P) hde ag (vs:=ys) (off:=i*l.length) (by rw[hc1,ly];exact slot i hi)
       rw[hc1]at this;exact this
      show bC P (Op.equalIn (n+d+1) t (.agg xs.toArray) (.agg ys.toArray))=_
      rw[Op.equalIn,bL _ _ (dI ht)]
      simp only
      rw[bL _ _ (v7 hde),hc1]
      simp only[Std.Legacy.Range.forIn_eq_forIn_range',Std.Legacy.Range.size,aXp,aWV,aXD]
      have hch:=aFu (m:=l.length) (xs:=xs) (ys:=ys) len 0 (by simpa using lx) (by simpa using ly)
      simp only[Nat.zero_mul,aWi]at hch
      rw[hch]
      refine aQO (fun _ _=>rfl) (fun _=>rfl) _ fun i hi s=> ?_
      have hil:i<len:=by simp at hi;omega
      rw[bL _ _ (px i hil),bL _ _ (py i hil),bL _ _ ((ih n (hxo i hil)).1 (hyo i hil))]
      cases hZ ((xs.drop (i*l.length)).take l.length) ((ys.drop (i*l.length)).take l.length)<;>rfl
     show bC P (Instr.checkKey b (n+d+1) t (.agg xs.toArray))=_
     rw[Instr.checkKey,bL _ _ (dI ht)]
     simp only[Std.Legacy.Range.forIn_eq_forIn_range',Std.Legacy.Range.size,aXp,aWV,aXD]
     refine aQx _ fun i hi s=> ?_
     have hil:i<len:=by simp at hi;omega
     rw[bL _ _ (v7 hde),hc1,bL _ _ (px i hil),bL _ _ ((ih n (hxo i hil)).2 b)]
     rfl
    cases h
   cases h
  ·rename_i fs sz _ _ he
   injection he with he;subst he
   split at h
   ·cases h
   rename_i hst
   have hst':P.stoodInHeld t=false:=by simpa using hst
   split at h
   ·rename_i l hl
    split at h
    ·rename_i hsz
     injection h with h;subst h
     refine⟨⟨hsz.symm,.inl rfl⟩,fun n xs hx=> ?_⟩
     have hx0:gH l (xs.drop 0)=true:=by simpa using hx
     refine⟨fun{ys} hy=> ?_,fun b=> ?_⟩
     ·have hy0:gH l (ys.drop 0)=true:=by simpa using hy
      obtain⟨a1,a2⟩:=aEO (P:=P) _ 0 hl hx0 hy0
      simp only[aWi]at a1
      show bC P (Op.equalIn (n+d+1) t (.agg xs.toArray) (.agg ys.toArray))=_
      rw[Op.equalIn,bL _ _ (dI ht)]
      simp only
      have hp:bC P (program)=some P:=rfl
      rw[bL _ _ hp]
      simp only[hst',aVW,if_false]
      rw[←a1]
      simp only[←aXk]
      refine aQO (fun _ _=>rfl) (fun _=>rfl) _ fun f hf s=> ?_
      obtain⟨f1,df,lf,f2,f3,f4,f5,f6,f7,f8⟩:=a2 f hf
      obtain⟨⟨_,ag⟩,ih⟩:=aBi d f2 f3
      simp only[f1,ne_eq,not_false_eq_true,if_true]
      rw[bL _ _ (tQ f2 ag f5),bL _ _ (tQ f2 ag f6),bL _ _ ((ih n f7).1 f8)]
      simp only[aIQ,f2]
      cases hZ ((xs.drop f.offset).take df.size) ((ys.drop f.offset).take df.size)<;>rfl
     obtain⟨_,a2⟩:=aEO (P:=P) _ 0 hl hx0 hx0
     show bC P (Instr.checkKey b (n+d+1) t (.agg xs.toArray))=_
     rw[Instr.checkKey,bL _ _ (dI ht)]
     simp only
     simp only[←aXk]
     refine aQx _ fun f hf s=> ?_
     obtain⟨f1,df,lf,f2,f3,f4,f5,f6,f7,f8⟩:=a2 f hf
     obtain⟨⟨_,ag⟩,ih⟩:=aBi d f2 f3
     simp only[f1,ne_eq,not_false_eq_true,if_true]
     rw[bL _ _ (tQ f2 ag f5),bL _ _ ((ih n f7).2 b)]
     rfl
    cases h
   cases h
  cases h
end
instance :Inhabited MT:=⟨⟨0,0,⟨.bool,0,0,default⟩,⟨.bool,0,0,default⟩⟩⟩
section
variable {P:Program}{t:TypeId}{L:List TypeDesc}{ti:TI}{xo yo:Operand}{d:Nat}
theorem aH8 (hg:P.eqGuardType P.depth t=false){bo:BinOp}(hbo:bo= .eql∨bo= .neq)(a b:Array Value):bC P (eqGuard bo t xo yo (.agg a) (.agg b))=some ():=by
 unfold eqGuard
 rcases hbo with rfl|rfl<;>
 ·show bC P (if(!P.eqGuardType P.depth t)=true then pure ()else _)=some ()
  rw[hg];rfl
theorem aF7 (ht:aU P t=some ti)(hag:cI ti.desc=true)(hf:zT P d t=some L)(hd:d≤10000){xs ys:List Value}(ox:gH L xs=true)(oy:gH L ys=true):bC P (Op.equal t (.agg xs.toArray) (.agg ys.toArray))=some (hZ xs ys):=by
 have:=((aBi d ht hf).2 (10000-d) ox).1 oy
 simp only[mkT,hag,if_true]at this
 rw[aXl hd]at this
 exact this
theorem aPM (ht:aU P t=some ti)(hag:cI ti.desc=true)(hf:zT P d t=some L)(hd:d≤10000)(hg:P.eqGuardType P.depth t=false){cs ds:List V}{xs ys:List Value}{r:Bool}(hx:cs.mapM eF=some xs)(hy:ds.mapM eF=some ys)(ox:gH L xs=true)(oy:gH L ys=true)(hr:hZ xs ys=r):
  eT P .eql t xo yo (.agg cs) (.agg ds)=some (.sc (.bool r)):=by
 simp only[eT,eV,hx,hy,aVX,pureV]
 rw[bL _ _ (aH8 hg (.inl rfl) _ _)]
 have:bC P (binOp .eql t (.agg xs.toArray) (.agg ys.toArray))=some (.bool (hZ xs ys)):=aAQ _ _ (aF7 ht hag hf hd ox oy)
 rw[this,hr];rfl
theorem aHz (ht:aU P t=some ti)(hag:cI ti.desc=true)(hf:zT P d t=some L)(hd:d≤10000)(hg:P.eqGuardType P.depth t=false){cs ds:List V}{xs ys:List Value}{r:Bool}(hx:cs.mapM eF=some xs)(hy:ds.mapM eF=some ys)(ox:gH L xs=true)(oy:gH L ys=true)(hr:hZ xs ys=r):
  eT P .neq t xo yo (.agg cs) (.agg ds)=some (.sc (.bool (!r))):=by
 simp only[eT,eV,hx,hy,aVX,pureV]
 rw[bL _ _ (aH8 hg (.inr rfl) _ _)]
 have:bC P (binOp .neq t (.agg xs.toArray) (.agg ys.toArray))=some (.bool (!(hZ xs ys))):=aAQ _ (fun b=>Value.bool !b) (aF7 ht hag hf hd ox oy)
 rw[this,hr];rfl
end
structure aDT (P:Program)(kt:TypeId){α:Type}(VK:α→Value)(eq:α→α→Bool):Prop where
 equal: ∀a b,bC P (Op.equal kt (VK a) (VK b))=some (eq a b)
 check: ∀e a,bC P (Instr.checkKey e 10000 kt (VK a))=some ()
 stays: ∀a b,eq a b=true→Instr.sameBits 10000 (VK b) (VK a)=true
theorem aTT {a b:ByteArray}(h:(a == b)=true):a=b:=by
 obtain⟨a⟩:=a
 obtain⟨b⟩:=b
 have h':(a == b)=true:=h
 rw[eq_of_beq h']
theorem aMX : ∀(n:Nat){L:List TypeDesc}{xs ys:List Value},gH L xs=true→gH L ys=true→hZ xs ys=true→(ys.zip xs).all (fun(x,y)=>Instr.sameBits n x y)=true
 |n,[],[],[],_,_,_=>rfl
 |n,d::L,x::xs,y::ys,hx,hy,h=>by
  simp only[hZ,aV0]at h
  have key:gH L xs=true∧gH L ys=true∧Instr.sameBits n y x=true:=by
   cases d<;>cases x<;>simp only[gH,aVW,aV0,decide_eq_true_eq]at hx<;>cases y<;>simp only[gH,aVW,aV0,decide_eq_true_eq]at hy<;>simp only[aHV,beq_iff_eq]at h
   ·exact⟨hx,hy,by cases n<;>simp[Instr.sameBits,h.1]⟩
   ·refine⟨hx.2,hy.2, ?_⟩
    have h1:=hx.1.symm.trans hy.1
    cases n<;>simp[Instr.sameBits,h.1,h1]
   refine⟨hx,hy, ?_⟩
   have h1:=aTT h.1
   subst h1
   cases n<;>exact h.1
  simp only[List.zip_cons_cons,aWF,key.2.2,aXj]
  exact aMX n key.1 key.2.1 h.2
 |n,[],_::_,_,hx,_,_=>by simp[gH]at hx
 |n,[],[],_::_,_,hy,_=>by simp[gH]at hy
 |n,d::L,[],_,hx,_,_=>by cases d<;>simp[gH]at hx
 |n,d::L,_::_,[],_,hy,_=>by cases d<;>simp[gH]at hy
theorem aNj {P:Program}{kt:TypeId}{L:List TypeDesc}{ti:TI}{d:Nat}{α:Type}{xs:α→List Value}{eq:α→α→Bool}(ht:aU P kt=some ti)(hag:cI ti.desc=true)(hf:zT P d kt=some L)(hd:d≤10000)(ok: ∀a,gH L (xs a)=true)(heq: ∀a b,hZ (xs a) (xs b)=eq a b):
  aDT P kt (fun a=> .agg (xs a).toArray) eq:=by
 refine⟨fun a b=>by rw[←heq];exact aF7 ht hag hf hd (ok a) (ok b),fun e a=> ?_,fun a b h=> ?_⟩
 ·have:=((aBi d ht hf).2 (10000-d) (ok a)).2 e
  simp only[mkT,hag,if_true]at this
  rw[aXl hd]at this
  exact this
 have h1:=aMX 9999 (ok a) (ok b) (by rw[heq];exact h)
 have hl:(xs b).length=(xs a).length:=by rw[lY (ok a),lY (ok b)]
 show Instr.sameBits (9999+1) _ _=true
 simp only[Instr.sameBits,List.size_toArray,hl,beq_self_eq_true,aXj]
 exact h1
def aDR {α β:Type}(eq:α→α→Bool)(l:List (α×β))(k:α):Option Nat:=l.findIdx? fun e=>eq k e.1
def aFi {α β:Type}(eq:α→α→Bool)(l:List (α×β))(k:α)(z:β):β:=match aDR eq l k with
 |some i=>((l[i]?).map (·.2)).getD z
 |none=>z
def aIX {α β:Type}(eq:α→α→Bool)(l:List (α×β))(k:α)(v:β):List (α×β):=match aDR eq l k with
 |some i=>l.set i (k,v)
 |none=>l++[(k,v)]
section
variable {P:Program}{kt:TypeId}{α β:Type}{VK:α→Value}{eq:α→α→Bool}{CK:α→List V}{E:β→V}{C:α×β→List V}{K:Nat}{l:List (α×β)}{k:α}{v:β}
theorem aLX (hC: ∀e,C e=CK e.1++[E e.2])(hl: ∀a,(CK a).length=K)(h0:0<K): ∀l:List (α×β),aDs K 0 l.length (l.flatMap C)=l.map fun e=>(V.agg (CK e.1),E e.2)
 | []=>rfl
 |e::l=>by
  have w1:d7 K=K:=by unfold d7;rw[if_neg (by omega)]
  have w0:d7 0=1:=rfl
  have e1:(e::l).flatMap C=CK e.1++(E e.2::l.flatMap C):=by rw[aVZ,hC];simp
  simp only[aWb,aDs,e1,w1,w0]
  have d1:(CK e.1++E e.2::l.flatMap C).drop K=E e.2::l.flatMap C:=List.drop_left' (hl _)
  have d2:(CK e.1++E e.2::l.flatMap C).drop (K+1)=l.flatMap C:=by rw[←aWp,d1];rfl
  rw[List.take_left' (hl _),d1,d2,aLX hC hl h0 l,aWa]
  have hK:K≠0:=by omega
  simp[aHk,hK]
theorem aN1 (hC: ∀e,C e=CK e.1++[E e.2])(hE: ∀b,(E b).one=true)(l:List (α×β)):aCY (l.map fun e=>(V.agg (CK e.1),E e.2))=l.flatMap C:=by
 have hc: ∀b,(E b).cells=[E b]:=fun b=>by have:=hE b;generalize E b=y at this ⊢; cases y<;>first|rfl|simp[V.one]at this
 have ha: ∀cs:List V,(V.agg cs).cells=cs:=fun _=>rfl
 simp only[aCY,aXv,ha,hc]
 exact congrArg (fun f=>List.flatMap f l) (funext fun e=>(hC e).symm)
theorem aJO (hC: ∀e,C e=CK e.1++[E e.2])(hl: ∀a,(CK a).length=K): ∀l:List (α×β),(l.flatMap C).length=l.length*(K+1)
 | []=>by simp
 |e::l=>by rw[aVZ,aWd,aJO hC hl l,hC];simp[hl,aWf];omega
theorem aKh (hv: ∀a,eV (.agg (CK a))=some (VK a)): ∀l:List (α×β),(l.map fun e=>(V.agg (CK e.1),E e.2)).mapM (fun e=>eV e.1)=some (l.map fun e=>VK e.1)
 | []=>rfl
 |e::l=>by simp only[aWa,aWh,hv,aKh hv l];rfl
theorem aJP (hk:aDT P kt VK eq)(k:α): ∀l:List (α×β),qJ P kt (VK k) (l.map fun e=>VK e.1)=some (aDR eq l k)
 | []=>rfl
 |e::l=>by
  simp only[aWa,qJ,hk.equal,aDR,List.findIdx?_cons]
  cases eq k e.1 with
  |true=>rfl
  |false=>
   have:=aJP hk k l
   simp only[aDR]at this
   simp[this]
variable {t:TypeId}{m:MT}{h h':Hp}{b:Nat}
theorem aIg (hC: ∀e,C e=CK e.1++[E e.2])(hl: ∀a,(CK a).length=K)(h0:0<K)(hm:v9 P t=some m)(hK:nY m.dk=K)(hL:nY m.de=0)(hb:h[b]? =some (some ⟨m.code,l.flatMap C⟩)):
  aBv P t h (.mp b)=some ⟨m,b,⟨m.code,l.flatMap C⟩,l.map fun e=>(V.agg (CK e.1),E e.2)⟩:=by
 have w1:d7 K=K:=by unfold d7;rw[if_neg (by omega)]
 have w0:d7 0=1:=rfl
 simp only[aBv,hm,hb,if_true,hK,hL,w1,w0,aJO hC hl]
 rw[Nat.mul_div_cancel _ (by omega),aLX hC hl h0]
theorem aFZ (hv: ∀a,eV (.agg (CK a))=some (VK a))(hk:aDT P kt VK eq):aC9 P kt (l.map fun e=>(V.agg (CK e.1),E e.2)) (.agg (CK k))=some (VK k,l.map (fun e=>VK e.1),aDR eq l k):=by
 simp only[aC9,hv,aKh hv,hk.check,aJP hk]
theorem lkM {z:β}(hC: ∀e,C e=CK e.1++[E e.2])(hl: ∀a,(CK a).length=K)(h0:0<K)(hv: ∀a,eV (.agg (CK a))=some (VK a))(hm:v9 P t=some m)(hk:aDT P m.kt VK eq)(hK:nY m.dk=K)(hL:nY m.de=0)(hz:ofValue m.de.zero=E z)(hb:h[b]? =some (some ⟨m.code,l.flatMap C⟩)):
  t3 P t h (.mp b) (.agg (CK k)) false=some (E (aFi eq l k z)):=by
 simp only[t3,aIg hC hl h0 hm hK hL hb,aFZ hv hk,aFi]
 cases hf:aDR eq l k with
 |none=>simp[hz]
 |some i=>
  have hi:i<l.length:=(aWG.1 hf).1
  simp[hi]
theorem upM (hC: ∀e,C e=CK e.1++[E e.2])(hl: ∀a,(CK a).length=K)(h0:0<K)(h1: ∀a,(CK a).all V.one=true)(hE: ∀b,(E b).one=true)(hv: ∀a,eV (.agg (CK a))=some (VK a))(hm:v9 P t=some m)(hk:aDT P m.kt VK eq)(hK:nY m.dk=K)(hL:nY m.de=0)(hb:h[b]? =some (some ⟨m.code,l.flatMap C⟩))(hh:h.set b (some ⟨m.code,(aIX eq l k v).flatMap C⟩)=h'):
  aHG P t h (.mp b) (.agg (CK k)) (E v)=some h':=by
 subst hh
 have hKn:K≠0:=by omega
 have s1:aEL K (.agg (CK k))=true:=by simp[aEL,V.flatOk,V.cells,h1,hKn,hl]
 have hc: ∀b,(E b).cells=[E b]:=fun b=>by have:=hE b;generalize E b=y at this ⊢; cases y<;>first|rfl|simp[V.one]at this
 have s2:aEL 0 (E v)=true:=by simp[aEL,V.flatOk,hc,hE]
 simp only[aHG,aIg hC hl h0 hm hK hL hb,hK,hL,s1,s2,Bool.and_self,if_true,aFZ hv hk,aIX]
 cases hf:aDR eq l k with
 |none=>
  have ha: ∀cs:List V,(V.agg cs).cells=cs:=fun _=>rfl
  simp only[aWW,aVZ,aXw,hC,ha,hc,aWx]
 |some i=>
  obtain⟨hi,hp,_⟩:=aWG.1 hf
  have hst:aIB (l.map fun e=>VK e.1) i (VK k)=true:=by
   simp only[aIB,aV6,aVQ hi,aVX,Option.any_some]
   exact hk.stays _ _ hp
  simp only[hst,if_true]
  rw[←aN1 hC hE (l.set i (k,v)),List.map_set]
theorem aPK {z:β}{e:Nat}(he:m.code=e)(hC: ∀e,C e=CK e.1++[E e.2])(hl: ∀a,(CK a).length=K)(h0:0<K)(hv: ∀a,eV (.agg (CK a))=some (VK a))(hm:v9 P t=some m)(hk:aDT P m.kt VK eq)(hK:nY m.dk=K)(hL:nY m.de=0)(hz:ofValue m.de.zero=E z)(hb:h[b]? =some (some ⟨e,l.flatMap C⟩)):
  t3 P t h (.mp b) (.agg (CK k)) false=some (E (aFi eq l k z)):=by
 subst he;exact lkM hC hl h0 hv hm hk hK hL hz hb
theorem aU7 {e:Nat}(he:m.code=e)(hC: ∀e,C e=CK e.1++[E e.2])(hl: ∀a,(CK a).length=K)(h0:0<K)(h1: ∀a,(CK a).all V.one=true)(hE: ∀b,(E b).one=true)(hv: ∀a,eV (.agg (CK a))=some (VK a))(hm:v9 P t=some m)(hk:aDT P m.kt VK eq)(hK:nY m.dk=K)(hL:nY m.de=0)(hb:h[b]? =some (some ⟨e,l.flatMap C⟩))(hh:h.set b (some ⟨e,(aIX eq l k v).flatMap C⟩)=h'):
  aHG P t h (.mp b) (.agg (CK k)) (E v)=some h':=by
 subst he;exact upM hC hl h0 h1 hE hv hm hk hK hL hb hh
def aVw (cs:List V):List Value:=(cs.mapM eF).getD []
end
section
variable {P:Program}{O:wD}{n:Nat}{fr:List (Nat×V)}{h h':Hp}{ty:TypeId}{pos:String}{aft:Array Edge}{v:V}{d:Option Tmp}{g:Option (Nat×Bool)}{x y z:Operand}{a b c:V}{t:TypeId}
theorem aRF {m:MT}{i e:Nat}(hm:v9 P t=some m)(he:m.code=e)(hl:h.length=i)(hh:h++[some ⟨e,[]⟩]=h'):bW P O ⟨d,.makeMap t none,ty,pos,aft,g⟩ (aI n fr) h=some (.mp i,h'):=by
 subst hl hh he
 simp[bW,aFo,hm]
theorem aPT {ok:Bool}(hx:bZ n fr x=some a)(hy:bZ n fr y=some b)(hv:t3 P t h a b ok=some v):bW P O ⟨d,.lookup t x y ok,ty,pos,aft,g⟩ (aI n fr) h=some (v,h):=by simp[bW,dH hx,dH hy,hv]
theorem aT6 (hx:bZ n fr x=some a)(hy:bZ n fr y=some b)(hz:bZ n fr z=some c)(hv:aHG P t h a b c=some h'):bW P O ⟨d,.mapUpdate t x y z,ty,pos,aft,g⟩ (aI n fr) h=some (.sc undef,h'):=by simp[bW,dH hx,dH hy,dH hz,hv]
end
theorem aAM {E:Int→V}{n:Nat}{l:List Int}(h:l.length=n):(aWO n).map (fun i=>E (l.getD i 0))=l.map E:=by
 apply aWz
 intro i
 simp only[aV6,List.getElem?_range']
 by_cases hi:i<n
 ·rw[aXd hi,aVQ (by omega)]
  simp[aWX,aVQ (show i<l.length by omega)]
 rw[aWw (by simpa using hi),aWw (by omega)];rfl
theorem aNS {P:Program}{t:TypeId}{ps ps':List (Nat×V)}{v:V}(h:ps=ps')(hb:wU P t ps'=some v):wU P t ps=some v:=by rw[h];exact hb
def dK (E:Int→V)(l:List Int)(r:List V):List V:=E (l.getD 0 0)::E (l.getD 1 0)::E (l.getD 2 0)::E (l.getD 3 0)::r
theorem aRr {E:Int→V}{l:List Int}(h:l.length=4)(r:List V):dK E l r=l.map E++r:=by
 rw[←aAM h];rfl
theorem aEo {E:Int→V}{l:List Int}(h:l.length=4):dK E l []=l.map E:=by rw[aRr h];simp
theorem t6 {f:Nat→Nat}{k:IntKind}{l:List Int}{r:List V}:V.rns f (dK (eI k) l r)=dK (eI k) l (V.rns f r):=rfl
def ar8 (E:Int→V)(l:List Int)(r:List V):List V:=E (l.getD 0 0)::E (l.getD 1 0)::E (l.getD 2 0)::E (l.getD 3 0)::E (l.getD 4 0)::E (l.getD 5 0)::E (l.getD 6 0)::E (l.getD 7 0)::r
theorem aSw {E:Int→V}{l:List Int}(h:l.length=8)(r:List V):ar8 E l r=l.map E++r:=by
 rw[←aAM h];rfl
theorem aRP {E:Int→V}{l:List Int}(h:l.length=8):ar8 E l []=l.map E:=by rw[aSw h];simp
theorem tD {f:Nat→Nat}{k:IntKind}{l:List Int}{r:List V}:V.rns f (ar8 (eI k) l r)=ar8 (eI k) l (V.rns f r):=rfl
def aHl (E:Int→V)(l:List Int)(r:List V):List V:=E (l.getD 0 0)::E (l.getD 1 0)::E (l.getD 2 0)::E (l.getD 3 0)::E (l.getD 4 0)::E (l.getD 5 0)::E (l.getD 6 0)::E (l.getD 7 0)::E (l.getD 8 0)::E (l.getD 9 0)::E (l.getD 10 0)::E (l.getD 11 0)::E (l.getD 12 0)::E (l.getD 13 0)::E (l.getD 14 0)::E (l.getD 15 0)::E (l.getD 16 0)::E (l.getD 17 0)::E (l.getD 18 0)::E (l.getD 19 0)::r
theorem aQs {E:Int→V}{l:List Int}(h:l.length=20)(r:List V):aHl E l r=l.map E++r:=by
 rw[←aAM h];rfl
theorem aPJ {E:Int→V}{l:List Int}(h:l.length=20):aHl E l []=l.map E:=by rw[aQs h];simp
theorem q9 {f:Nat→Nat}{k:IntKind}{l:List Int}{r:List V}:V.rns f (aHl (eI k) l r)=aHl (eI k) l (V.rns f r):=rfl
def bG (E:Int→V)(l:List Int)(r:List V):List V:=E (l.getD 0 0)::E (l.getD 1 0)::E (l.getD 2 0)::E (l.getD 3 0)::E (l.getD 4 0)::E (l.getD 5 0)::E (l.getD 6 0)::E (l.getD 7 0)::E (l.getD 8 0)::E (l.getD 9 0)::E (l.getD 10 0)::E (l.getD 11 0)::E (l.getD 12 0)::E (l.getD 13 0)::E (l.getD 14 0)::E (l.getD 15 0)::E (l.getD 16 0)::E (l.getD 17 0)::E (l.getD 18 0)::E (l.getD 19 0)::E (l.getD 20 0)::E (l.getD 21 0)::E (l.getD 22 0)::E (l.getD 23 0)::E (l.getD 24 0)::E (l.getD 25 0)::E (l.getD 26 0)::E (l.getD 27 0)::E (l.getD 28 0)::E (l.getD 29 0)::E (l.getD 30 0)::E (l.getD 31 0)::r
theorem aLm {E:Int→V}{l:List Int}(h:l.length=32)(r:List V):bG E l r=l.map E++r:=by
 rw[←aAM h];rfl
theorem uB {E:Int→V}{l:List Int}(h:l.length=32):bG E l []=l.map E:=by rw[aLm h];simp
theorem qS {f:Nat→Nat}{k:IntKind}{l:List Int}{r:List V}:V.rns f (bG (eI k) l r)=bG (eI k) l (V.rns f r):=rfl
theorem aQj {vn:Nat→Bool}{E:Int→V}{l:List Int}{r r':List V}(hr:V.les vn r r'):V.les vn (bG E l r) (bG E l r'):=by
 unfold bG
 repeat (first|exact hr|refine V.les_cons (V.le_refl _ _) ?_)
theorem aQQ {h h':Hp}{E:Int→V}{l:List Int}{r r':List V}(hE: ∀x,Conv h h' (E x) (E x))(hr:Convs h h' r r'):Convs h h' (bG E l r) (bG E l r'):=by
 unfold bG
 repeat (first|exact hr|refine Convs.cons (hE _) ?_)
def aCR (a b:List Int)(r:Bool):Bool:=((a.getD 0 0 == b.getD 0 0)&&((a.getD 1 0 == b.getD 1 0)&&((a.getD 2 0 == b.getD 2 0)&&((a.getD 3 0 == b.getD 3 0)&&((a.getD 4 0 == b.getD 4 0)&&((a.getD 5 0 == b.getD 5 0)&&((a.getD 6 0 == b.getD 6 0)&&((a.getD 7 0 == b.getD 7 0)&&((a.getD 8 0 == b.getD 8 0)&&((a.getD 9 0 == b.getD 9 0)&&((a.getD 10 0 == b.getD 10 0)&&((a.getD 11 0 == b.getD 11 0)&&((a.getD 12 0 == b.getD 12 0)&&((a.getD 13 0 == b.getD 13 0)&&((a.getD 14 0 == b.getD 14 0)&&((a.getD 15 0 == b.getD 15 0)&&((a.getD 16 0 == b.getD 16 0)&&((a.getD 17 0 == b.getD 17 0)&&((a.getD 18 0 == b.getD 18 0)&&((a.getD 19 0 == b.getD 19 0)&&((a.getD 20 0 == b.getD 20 0)&&((a.getD 21 0 == b.getD 21 0)&&((a.getD 22 0 == b.getD 22 0)&&((a.getD 23 0 == b.getD 23 0)&&((a.getD 24 0 == b.getD 24 0)&&((a.getD 25 0 == b.getD 25 0)&&((a.getD 26 0 == b.getD 26 0)&&((a.getD 27 0 == b.getD 27 0)&&((a.getD 28 0 == b.getD 28 0)&&((a.getD 29 0 == b.getD 29 0)&&((a.getD 30 0 == b.getD 30 0)&&((a.getD 31 0 == b.getD 31 0)&&r))))))))))))))))))))))))))))))))
def aHx (E:Int→V)(l:List Int)(r:List V):List V:=E (l.getD 0 0)::E (l.getD 1 0)::E (l.getD 2 0)::E (l.getD 3 0)::E (l.getD 4 0)::E (l.getD 5 0)::E (l.getD 6 0)::E (l.getD 7 0)::E (l.getD 8 0)::E (l.getD 9 0)::E (l.getD 10 0)::E (l.getD 11 0)::E (l.getD 12 0)::E (l.getD 13 0)::E (l.getD 14 0)::E (l.getD 15 0)::E (l.getD 16 0)::E (l.getD 17 0)::E (l.getD 18 0)::E (l.getD 19 0)::E (l.getD 20 0)::E (l.getD 21 0)::E (l.getD 22 0)::E (l.getD 23 0)::E (l.getD 24 0)::E (l.getD 25 0)::E (l.getD 26 0)::E (l.getD 27 0)::E (l.getD 28 0)::E (l.getD 29 0)::E (l.getD 30 0)::E (l.getD 31 0)::E (l.getD 32 0)::E (l.getD 33 0)::E (l.getD 34 0)::E (l.getD 35 0)::E (l.getD 36 0)::E (l.getD 37 0)::E (l.getD 38 0)::E (l.getD 39 0)::E (l.getD 40 0)::E (l.getD 41 0)::E (l.getD 42 0)::E (l.getD 43 0)::E (l.getD 44 0)::E (l.getD 45 0)::E (l.getD 46 0)::E (l.getD 47 0)::E (l.getD 48 0)::E (l.getD 49 0)::E (l.getD 50 0)::E (l.getD 51 0)::E (l.getD 52 0)::E (l.getD 53 0)::E (l.getD 54 0)::E (l.getD 55 0)::E (l.getD 56 0)::E (l.getD 57 0)::E (l.getD 58 0)::E (l.getD 59 0)::E (l.getD 60 0)::E (l.getD 61 0)::E (l.getD 62 0)::E (l.getD 63 0)::r
theorem aPn {E:Int→V}{l:List Int}(h:l.length=64)(r:List V):aHx E l r=l.map E++r:=by
 rw[←aAM h];rfl
theorem aP7 {E:Int→V}{l:List Int}(h:l.length=64):aHx E l []=l.map E:=by rw[aPn h];simp
theorem qW {f:Nat→Nat}{k:IntKind}{l:List Int}{r:List V}:V.rns f (aHx (eI k) l r)=aHx (eI k) l (V.rns f r):=rfl
theorem aOt {P:Program}(k:IntKind)(n:Int):unV P .neg (.sc (.int k n))=some (.sc (.int k (k.wrap (0-n)))):=rfl
theorem aMT {P:Program}{k:IntKind}(hk:k.signed=false)(n:Int):unV P .xor (.sc (.int k n))=some (.sc (.int k (bits .xor k k.max n))):=by
 cases k<;>first|rfl|cases hk
def mkl {α:Type}(by_:Nat)(z:α)(n c:Int):Option (List α):=if 0<n∧n≤c∧c.toNat*by_≤oU then some (aV7 n.toNat z)else none
theorem mkL {k1 k2:IntKind}{P:Program}{h h':Hp}{t e:TypeId}{ti:TI}{i:Nat}{α:Type}{E:α→V}{sz by_:Nat}{z:Value}{ag:Bool}{j c:Int}{y:α}(ht:aU P t=some ⟨.slice e,sz,by_,z⟩)(he:aU P e=some ti)(h1:1≤ti.bytes∧ti.size=1∧ti.zero.cells.size=1)(hz:ti.zero.cells.toList.map (V.soft∘fB)=[E y])(ho:(E y).one=true)(hag:cI ti.desc=ag){r:List α}
  (hm:mkl ti.bytes y j c=some r) (hl:h.length=i) (hh:h++[some ⟨e,r.map E⟩]=h'):aBr P t (.sc (.int k1 j)) (.sc (.int k2 c)) h=some (.sl i 0 r.length 1 ag,h'):=by
 obtain⟨h2,h3,h4⟩:=h1
 unfold mkl at hm
 split at hm
 ·rename_i hlim
  injection hm with hm
  subst hm hl hh hag
  simp only[aBr,ht,he]
  rw[if_pos ⟨by omega,hlim.2.1,hlim.2.2,h2,by omega,by rw[h4,h3],by rw[hz];simp[ho]⟩,hz,if_neg (by omega)]
  simp only[h3]
  have: ∀n,(aV7 n [E y]).flatten=(aV7 n y).map E:=fun n=>by
   induction n with
   |zero=>rfl
   |succ n ih=>simp only[aWB,aWH,ih,aWa];rfl
  rw[this];simp
 cases hm
theorem zl {a b:Nat} (h:Nat.ble a b=true:=by rfl):a≤b:=Nat.le_of_ble_eq_true h
theorem zR {p:Prop} (h:p:=by first|rfl|(simp only[V.rn,V.rns,kA,j8]<;>rfl)):p:=h
theorem zG {N n:Nat}{fr fr':List (Nat×V)}{h h':Hp}(σ:List Nat)
  (hf:FLe noN (V.rn (sg σ h.length)) fr fr':=by repeat (first|exact FLe.nil|refine FLe.same rfl ?_|refine FLe.le rfl V.le_nil ?_|refine FLe.le rfl V.le_row ?_|refine FLe.le rfl (V.le_arr (fun _=>rfl)) ?_))
  (hh:HLe (sg σ h.length) h σ h':=by repeat (first|exact HLe.nil|refine HLe.dead ?_|refine HLe.live rfl V.les_nil rfl ?_|refine HLe.live rfl (aEv (fun _=>rfl) _) (all_map (fun _=>rfl) _) ?_|refine HLe.live rfl (aDp (fun _=>rfl) _) (q7 (fun _=>rfl) _) ?_|refine HLe.live rfl (V.les_refl _ _) rfl ?_))
  (hσ:σ.take N=List.range N:=by rfl) (hlt:σ.all (fun b=>Nat.blt b h.length)=true:=by rfl) (hnd:ndB (lvs σ h')=true:=by rfl):Ghost N (aI n fr) h (aI n fr') h':=Ghost.rn σ hσ hlt hf hh hnd
end Go.Vm
