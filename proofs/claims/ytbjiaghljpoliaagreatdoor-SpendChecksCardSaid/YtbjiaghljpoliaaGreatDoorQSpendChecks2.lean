/- Texts of ours, joined: VmFrame, VmSym, VmGhost, VmRule, VmCtr, VmBrw, Plain0, Ty, Lift, Lift2, Open, Laid, VmDrawG, VmFrz, VmStr, VmArr, VmExt, VmStl, VmEq, VmAis, VmShort. -/
import Derived.Test.YtbjiaghljpoliaaGreatDoorQSpendChecks1
import Derived.Test.YtbjiaghljpoliaaGreatDoorRows
import Derived.Test.YtbjiaghljpoliaaGreatDoorCards
import Derived.Test.YtbjiaghljpoliaaGreatDoorTie
import Derived.WalkKit
import Derived.ProofKit
import Derived.OpenShut
import Derived.LaidSub
import Derived.Deep.DeepHandedRow
import Derived.Lib.LaidTab
import Derived.Laws.IdiomStrings
import Derived.ChangeKeysEq
open List renaming getElem?_eq_some_iff → aXj,getElem?_append_left → aXk,getElem?_eq_getElem → aXl,take_of_length_le → aXm,getElem?_cons_succ → aXo,all_eq_true → aXp,eq_nil_of_length_eq_zero → aXq,getElem?_append_right → aXt,flatMap_cons → aXu,mem_of_getElem? → aXw,drop_eq_nil_of_le → aXz,getElem?_cons_zero → aXA,getElem?_map → aXB,replicate → aXC,length_take → aXD,length_map → aXE,map_cons → aXF,length_cons → aXG,drop_eq_getElem_cons → aXH,length_append → aXI,take_append_of_le_length → aXJ,mapM_cons → aXM,drop_zero → aXN,take_append_drop → aXS,drop_drop → aXU,take_succ_eq_append_getElem → aXV,length_drop → aXW,nodup_cons → aXZ,getElem?_eq_none → aX1,append_nil → aX2,range → aX4,ext_getElem? → aX5,all_cons → aX6,getD_eq_getElem?_getD → aX7,replicate_succ → aX9,mem_cons → aYa,map_take → aYb,findIdx?_eq_some_iff_getElem → aYd,flatten_cons → aYe,append_assoc → aYf,mem_iff_getElem? → aYg,range'_succ → aYh,take_append → aYj,drop_append_of_le_length → aYk,length_nil → aYm,nil_append → aYp,take_succ_cons → aYr,flatMap_append → aYt,getElem?_drop → aYu,take_prefix → aYz,getElem?_toArray → aYB,forIn_cons → aYD,headD_cons → aYE,getElem?_set_ne → aYF,take_zero → aYH,mem_range → aYI,forIn_nil → aYJ,getElem?_range → aYK,drop_succ_cons → aYL,getElem?_take → aYM,map_drop → aYO,getElem?_inj → aYS,mem_map → aYU,range'_zero → aYW,drop_append → aY0,ext_getElem → aY1,flatMap_map → aY2,flatMap_nil → aY3,cons_append → aY4,length → aY5,length_set → aY6,range' → aY7,mem_filter → aY8
open Option.some renaming injEq → aXn,inj → aYC
open Bool renaming false_eq_true → aXr,and_eq_true → aXv,and_true → aYl,or_eq_true → aYq,true_and → aYy,false_or → aYP
open Option renaming map_some → aXs,map_eq_some_iff → aXy,bind_eq_bind → aX8,bind_some → aYi,pure_def → aYn,bind_eq_some_iff → aYx
open Array renaming getElem?_eq_some_iff → aXx,forIn_toList → aYQ,replicate → aY9
open Nat renaming add_mul → aXK,lt_or_ge → aXQ,eq_of_beq_eq_true → aXR,le_refl → aXT,mod_eq_of_lt → aXX,lt_of_lt_of_le → aXY,le_of_ble_eq_true → aX0,one_mul → aX3,min_eq_left → aYc,add_one_sub_one → aYs,zero_add → aYv,beq → aYw,add_comm → aYA,mul_le_mul_right → aYG,add_assoc → aYN,sub_add_cancel → aYR,le_total → aYT,sub_zero → aYV,min_eq_right → aYX,div_eq_of_lt → aYY,mul_mod_left → aYZ,div_one → aZa,blt → aZb
open Prod.mk renaming injEq → aXL
open Int renaming toNat_natCast → aXO,natCast_emod → aXP,le_refl → aYo
set_option linter.unusedSimpArgs false
set_option linter.unusedVariables false
namespace Go.Vm
open Go
mutual
def V.rn (f:Nat→Nat):V→V
 | .ptr b off=> .ptr (f b) off
 | .sl b off n k ag=> .sl (f b) off n k ag
 | .mp b=> .mp (f b)
 | .agg cs=> .agg (V.rns f cs)
 | .tup cs=> .tup (V.rns f cs)
 | .sc v=> .sc v
 | .row nil k es=> .row nil k es
 | .eptr es i off=> .eptr es i off
 | .any=> .any
def V.rns (f:Nat→Nat):List V→List V
 | []=>[]
 |c::cs=>c.rn f::V.rns f cs
end
theorem V.rns_length (f:Nat→Nat): ∀cs:List V,(V.rns f cs).length=cs.length
 | []=>rfl
 |_::cs=>by simp[V.rns,V.rns_length f cs]
theorem V.rns_mem {f:Nat→Nat}{p:V→Bool}(hp: ∀c,p c=true→p (c.rn f)=true): ∀{cs:List V},(∀c∈cs,p c=true)→ ∀c∈V.rns f cs,p c=true
 | [],_,c,hc=>by simp[V.rns]at hc
 |d::cs,h,c,hc=>by
  simp only[V.rns,aYa]at hc
  rcases hc with rfl|hc
  ·exact hp d (h d (by simp))
  exact V.rns_mem hp (fun c hc=>h c (by simp[hc])) c hc
theorem V.rn_one (f:Nat→Nat)(c:V)(h:c.one=true):(c.rn f).one=true:=by
 cases c<;>first|exact h|rfl|(simp[V.one]at h)
theorem V.one_rn (f:Nat→Nat)(c:V)(h:(c.rn f).one=true):c.one=true:=by
 cases c<;>first|exact h|rfl|(simp[V.one,V.rn]at h)
theorem V.one_rns {f:Nat→Nat}: ∀{cs:List V},(∀c∈V.rns f cs,c.one=true)→ ∀c∈cs,c.one=true
 | [],_,c,hc=>by simp at hc
 |d::cs,h,c,hc=>by
  simp only[V.rns,aYa,forall_eq_or_imp]at h
  simp only[aYa]at hc
  rcases hc with rfl|hc
  ·exact V.one_rn f _ h.1
  exact V.one_rns h.2 c hc
section
variable {X:Nat→Prop}{M M':List (Option Nat)}{w:World}{f:Nat→Nat}
mutual
theorem VR.rn_to (hM: ∀b y,M[b]? =some y→M'[f b]? =some y): ∀(x:V)(v:Value),VR X M w x v→VR X M' w (x.rn f) v
 | .sc c,v,h=>by unfold V.rn;unfold VR at h ⊢; exact h
 | .any,v,h=>by unfold V.rn;unfold VR;trivial
 | .row nil k es,v,h=>by unfold V.rn;unfold VR at h ⊢; exact h
 | .eptr es i off,v,h=>by unfold V.rn;unfold VR at h ⊢; exact h
 | .ptr b off,v,h=>by
  unfold V.rn;unfold VR at h⊢
  obtain⟨g,sh,h1,h2⟩:=h
  exact⟨g,sh,hM _ _ h1,h2⟩
 | .mp b,v,h=>by
  unfold V.rn;unfold VR at h⊢
  obtain⟨g,h1,h2⟩:=h
  exact⟨g,hM _ _ h1,h2⟩
 | .sl b off n k ag,v,h=>by
  unfold V.rn;unfold VR at h⊢
  rcases h with⟨h1,h2⟩|⟨g,cap,e,sz,h1,h2⟩
  ·exact .inl ⟨hM _ _ h1,h2⟩
  exact .inr ⟨g,cap,e,sz,hM _ _ h1,h2⟩
 | .agg cs,v,h=>by
  unfold V.rn;unfold VR at h⊢
  obtain⟨vs,h1,h2⟩:=h
  exact⟨vs,h1,VCells.rn_to hM cs vs h2⟩
 | .tup cs,v,h=>by
  unfold V.rn;unfold VR at h⊢
  obtain⟨vs,h1,h2⟩:=h
  exact⟨vs,h1,VCells.rn_to hM cs vs h2⟩
theorem VCells.rn_to (hM: ∀b y,M[b]? =some y→M'[f b]? =some y): ∀(cs:List V)(vs:List Value),VCells X M w cs vs→VCells X M' w (V.rns f cs) vs
 | [],vs,h=>by unfold V.rns;unfold VCells at h ⊢; exact h
 |c::cs,vs,h=>by
  unfold V.rns;unfold VCells at h⊢
  obtain⟨v,rest,h1,h2,h3⟩:=h
  exact⟨v,rest,h1,VR.rn_to hM c v h2,VCells.rn_to hM cs rest h3⟩
end
mutual
theorem VR.rn_from (hM: ∀b y,M'[f b]? =some y→M[b]? =some y): ∀(x:V)(v:Value),VR X M' w (x.rn f) v→VR X M w x v
 | .sc c,v,h=>by unfold V.rn at h;unfold VR at h ⊢; exact h
 | .any,v,h=>by unfold VR;trivial
 | .row nil k es,v,h=>by unfold V.rn at h;unfold VR at h ⊢; exact h
 | .eptr es i off,v,h=>by unfold V.rn at h;unfold VR at h ⊢; exact h
 | .ptr b off,v,h=>by
  unfold V.rn at h;unfold VR at h⊢
  obtain⟨g,sh,h1,h2⟩:=h
  exact⟨g,sh,hM _ _ h1,h2⟩
 | .mp b,v,h=>by
  unfold V.rn at h;unfold VR at h⊢
  obtain⟨g,h1,h2⟩:=h
  exact⟨g,hM _ _ h1,h2⟩
 | .sl b off n k ag,v,h=>by
  unfold V.rn at h;unfold VR at h⊢
  rcases h with⟨h1,h2⟩|⟨g,cap,e,sz,h1,h2⟩
  ·exact .inl ⟨hM _ _ h1,h2⟩
  exact .inr ⟨g,cap,e,sz,hM _ _ h1,h2⟩
 | .agg cs,v,h=>by
  unfold V.rn at h;unfold VR at h⊢
  obtain⟨vs,h1,h2⟩:=h
  exact⟨vs,h1,VCells.rn_from hM cs vs h2⟩
 | .tup cs,v,h=>by
  unfold V.rn at h;unfold VR at h⊢
  obtain⟨vs,h1,h2⟩:=h
  exact⟨vs,h1,VCells.rn_from hM cs vs h2⟩
theorem VCells.rn_from (hM: ∀b y,M'[f b]? =some y→M[b]? =some y): ∀(cs:List V)(vs:List Value),VCells X M' w (V.rns f cs) vs→VCells X M w cs vs
 | [],vs,h=>by unfold V.rns at h;unfold VCells at h ⊢; exact h
 |c::cs,vs,h=>by
  unfold V.rns at h;unfold VCells at h⊢
  obtain⟨v,rest,h1,h2,h3⟩:=h
  exact⟨v,rest,h1,VR.rn_from hM c v h2,VCells.rn_from hM cs rest h3⟩
end
end
def Blk.rn (f:Nat→Nat)(B:Blk):Blk:=⟨B.e,V.rns f B.cells⟩
def r5 (f:Nat→Nat)(h:Hp):Hp:=h.map (Option.map (Blk.rn f))
def sg (ρ:List Nat)(L i:Nat):Nat:=match ρ[i]? with
 |some b=>b
 |none=>L+(i-ρ.length)
def fE :Hp→List Nat→Hp→Hp
 |h,b::ρ,o::os=>fE (h.set b o) ρ os
 |h,_,_=>h
theorem aCl : ∀(h:Hp)(ρ:List Nat)(o:Hp),(fE h ρ o).length=h.length
 |h,b::ρ,x::o=>by rw[fE,aCl];simp
 |h,[],_=>by simp[fE]
 |h,_::_,[]=>by simp[fE]
theorem aCM : ∀{h:Hp}{ρ:List Nat}{o:Hp}{b:Nat},b∉ρ→(fE h ρ o)[b]? =h[b]?
 |h,c::ρ,x::o,b,hb=>by
  simp only[aYa,not_or]at hb
  rw[fE,aCM hb.2,aYF (fun e=>hb.1 e.symm)]
 |h,[],_,b,_=>by simp[fE]
 |h,_::_,[],b,_=>by simp[fE]
theorem aF6 : ∀{h:Hp}{ρ:List Nat}{o:Hp}{i b:Nat},ρ.Nodup→(∀b∈ρ,b<h.length)→ρ.length≤o.length→ρ[i]? =some b→(fE h ρ o)[b]? =o[i]?
 |h,c::ρ,x::o,0,b,hn,hl,_,hi=>by
  simp only[aXA,aXn]at hi
  subst hi
  have hc:c<h.length:=hl c (by simp)
  rw[fE,aCM (aXZ.1 hn).1]
  simp[hc]
 |h,c::ρ,x::o,i+1,b,hn,hl,hle,hi=>by
  simp only[aXo]at hi
  rw[fE,aF6 (aXZ.1 hn).2 (fun b hb=>by simpa using hl b (by simp[hb])) (by simpa using hle) hi]
  simp
 |h,[],_,i,b,_,_,_,hi=>by simp at hi
 |h,_::_,[],i,b,_,_,hle,_=>by simp at hle
theorem aKn {f:Nat→Nat}{h:Hp}{i:Nat}:(r5 f h)[i]? =(h[i]?).map (Option.map (Blk.rn f)):=by simp[r5]
theorem aEp {f:Nat→Nat}{h:Hp}{i:Nat}{B:Blk}(hb:(r5 f h)[i]? =some (some B)): ∃C,h[i]? =some (some C)∧B=C.rn f:=by
 rw[aKn]at hb
 cases hi:h[i]? with
 |none=>rw[hi]at hb;cases hb
 |some o=>
  rw[hi]at hb
  cases o with
  |none=>simp at hb
  |some C=>simp at hb;exact⟨C,rfl,hb.symm⟩
def kR (hb:Hp)(ρ:List Nat)(hs':Hp):Hp:=fE hb ρ (r5 (sg ρ hb.length) hs')++(r5 (sg ρ hb.length) hs').drop ρ.length
theorem Fn.frame {P:Program}{f:FuncId}{hs hs' hb:Hp}{args:List V}{r:V}(hc:Fn P f hs args r hs')(ρ:List Nat)(hlen:ρ.length=hs.length)(hnd:ρ.Nodup)(hlt: ∀b∈ρ,b<hb.length)
  (hlend: ∀i b:Nat,ρ[i]? =some b→hb[b]? =(r5 (sg ρ hb.length) hs)[i]?):Fn P f hb (V.rns (sg ρ hb.length) args) (r.rn (sg ρ hb.length)) (kR hb ρ hs'):=by
 intro A M w vs H hargs
 have hσ: ∀i b:Nat,ρ[i]? =some b→sg ρ hb.length i=b:=fun i b hi=>by simp[sg,hi]
 have hσ': ∀i,ρ.length≤i→sg ρ hb.length i=hb.length+(i-ρ.length):=fun i hi=>by simp[sg,hi]
 generalize hsg:sg ρ hb.length=σ at *
 let Ms:List (Option Nat):=ρ.map fun b=>(M[b]?).getD none
 have hMs: ∀i b:Nat,ρ[i]? =some b→Ms[i]? =M[b]? :=by
  intro i b hi
  have hb':b<M.length:=by rw[H.len];exact hlt b (aXw hi)
  simp only[Ms,aXB,hi,aXs]
  rw[aXl hb']
  rfl
 have hMslen:Ms.length=hs.length:=by simp[Ms,hlen]
 have hfrom: ∀b y,M[σ b]? =some y→Ms[b]? =some y:=by
  intro b y hy
  rcases aXQ b ρ.length with hl|hl
  ·have hi:ρ[b]? =some ρ[b]:=aXl hl
   rw[hMs b _ hi,←hσ b _ hi];exact hy
  rw[hσ' b hl]at hy
  have:=(aXj.1 hy).1
  rw[H.len]at this;omega
 let A':Nat→Prop:=fun g=>A g∨ ∃b B,b∉ρ∧hb[b]? =some (some B)∧M[b]? =some (some g)
 have hin: ∀{i:Nat}{B:Blk},hs[i]? =some (some B)→ ∃b,ρ[i]? =some b∧hb[b]? =some (some (B.rn σ))∧Ms[i]? =M[b]? :=by
  intro i B hi
  have hl:i<ρ.length:=by rw[hlen];exact(aXj.1 hi).1
  have hr:ρ[i]? =some ρ[i]:=aXl hl
  refine⟨_,hr, ?_,hMs i _ hr⟩
  rw[hlend i _ hr,aKn,hi];rfl
 have hliveS: ∀g,eM Ms hs g→eM M hb g:=by
  rintro g ⟨i,B,hi,hm⟩
  obtain⟨b,_,hb1,hb2⟩:=hin hi
  exact⟨b,_,hb1,by rw[←hb2];exact hm⟩
 have hX1: ∀g,Xs A' Ms hs g→Xs A M hb g:=by
  rintro g ((ha|⟨b,B,_,hb1,hb2⟩)|hl)
  ·exact .inl ha
  ·exact .inr ⟨b,B,hb1,hb2⟩
  exact .inr (hliveS g hl)
 have hX2: ∀g,Xs A M hb g→Xs A' Ms hs g:=by
  rintro g (ha|⟨b,B,hb1,hb2⟩)
  ·exact .inl (.inl ha)
  by_cases hm:b∈ρ
  ·obtain⟨i,hi⟩:=aYg.1 hm
   have he:=hlend i b hi
   rw[hb1]at he
   obtain⟨C,hC,_⟩:=aEp he.symm
   exact .inr ⟨i,C,hC,by rw[hMs i b hi];exact hb2⟩
  exact .inl (.inr ⟨b,B,hm,hb1,hb2⟩)
 have hout: ∀{b:Nat}{B:Blk}{g:Nat},b∉ρ→hb[b]? =some (some B)→M[b]? =some (some g)→ ¬eM Ms hs g:=by
  rintro b B g hb0 hb1 hb2 ⟨i,C,hi,hm⟩
  obtain⟨c,hc0,hc1,hc2⟩:=hin hi
  have:=H.inj b c B _ g hb1 hc1 hb2 (by rw[←hc2];exact hm)
  subst this
  exact hb0 (aXw hc0)
 have HS:HR A' Ms hs w:=by
  refine⟨hMslen, ?_, ?_, ?_,H.glob.avoid fun g _ hx=>hX1 g hx⟩
  ·rintro g (ha|⟨b,B,_,hb1,hb2⟩)
   ·exact H.alt g ha
   exact H.lt (.inr ⟨b,B,hb1,hb2⟩)
  ·intro i B hi
   obtain⟨b,hb0,hb1,hb2⟩:=hin hi
   obtain⟨h1,h2⟩:=H.blk b _ hb1
   refine⟨V.one_rns h1, ?_⟩
   rcases h2 with⟨hn,hc0⟩|⟨g,cs,hg,hA,hh,hle,hcs⟩
   ·refine .inl ⟨by rw[hb2];exact hn, ?_⟩
    have:=congrArg aY5 hc0
    simp only[Blk.rn,V.rns_length,aYm]at this
    exact aXq this
   refine .inr ⟨g,cs,by rw[hb2];exact hg, ?_,by simpa[Blk.rn,V.rns_length]using hh, ?_, ?_⟩
   ·rintro(ha|⟨c,C,hc0,hc1,hc2⟩)
    ·exact hA ha
    have:=H.inj b c _ C g hb1 hc1 hg hc2
    subst this
    exact hc0 (aXw hb0)
   ·simpa[Blk.rn,V.rns_length]using hle
   have hcs':VCells (Xs A M hb) M w (V.rns σ B.cells) (cs.toList.take B.cells.length):=by simpa[Blk.rn,V.rns_length]using hcs
   exact(VCells.rn_from hfrom _ _ hcs').avoid (fun g _ hx=>hX1 g hx)
  intro i j B C g hi hj mi mj
  obtain⟨b,hb0,hb1,hb2⟩:=hin hi
  obtain⟨c,hc0,hc1,hc2⟩:=hin hj
  have:=H.inj b c _ _ g hb1 hc1 (by rw[←hb2];exact mi) (by rw[←hc2];exact mj)
  subst this
  have hil:=(aXj.1 hb0).1
  exact(aYS hil hnd).1 (hb0.trans hc0.symm)
 have hargsS:VCells (Xs A' Ms hs) Ms w args vs:=(VCells.rn_from hfrom _ _ hargs).avoid (fun g _ hx=>hX1 g hx)
 refine(hc A' Ms w vs HS hargsS).mono fun v w' ⟨Ms',G,hv⟩=> ?_
 obtain⟨Mn,rfl⟩:=G.pre
 have hMnlen:hs'.length=ρ.length+Mn.length:=by rw[←G.hr.len];simp[Ms]
 have hto: ∀b y,(Ms++Mn)[b]? =some y→(M++Mn)[σ b]? =some y:=by
  intro b y hy
  rcases aXQ b ρ.length with hl|hl
  ·have hi:ρ[b]? =some ρ[b]:=aXl hl
   rw[aXk (by rw[hMslen,←hlen];exact hl),hMs b _ hi]at hy
   rw[hσ b _ hi,aXk (by rw[H.len];exact hlt _ (aXw hi))]
   exact hy
  rw[aXt (by rw[hMslen,←hlen];exact hl),hMslen,←hlen]at hy
  rw[hσ' b hl,aXt (by rw[H.len];omega),H.len,show hb.length+(b-ρ.length)-hb.length=b-ρ.length by omega]
  exact hy
 have hlentlen:(fE hb ρ (r5 σ hs')).length=hb.length:=aCl _ _ _
 have hrnlen:(r5 σ hs').length=hs'.length:=by simp[r5]
 have hcase: ∀{b:Nat}{B:Blk},(kR hb ρ hs')[b]? =some (some B)→(b∉ρ∧hb[b]? =some (some B))∨ ∃i C,hs'[i]? =some (some C)∧b=σ i∧B=C.rn σ∧(M++Mn)[b]? =(Ms++Mn)[i]? :=by
  intro b B hb1
  unfold kR at hb1
  rw[hsg]at hb1
  rcases aXQ b hb.length with hl|hl
  ·rw[aXk (by rw[hlentlen];exact hl)]at hb1
   by_cases hm:b∈ρ
   ·obtain⟨i,hi⟩:=aYg.1 hm
    rw[aF6 hnd hlt (by rw[hrnlen];omega) hi]at hb1
    obtain⟨C,hC,hB⟩:=aEp hb1
    have hil:=(aXj.1 hi).1
    refine .inr ⟨i,C,hC,(hσ i b hi).symm,hB, ?_⟩
    rw[aXk (by rw[H.len];exact hl),aXk (by rw[hMslen,←hlen];exact hil),hMs i b hi]
   rw[aCM hm]at hb1
   exact .inl ⟨hm,hb1⟩
  rw[aXt (by rw[hlentlen];exact hl),hlentlen,aYu]at hb1
  obtain⟨C,hC,hB⟩:=aEp hb1
  refine .inr ⟨_,C,hC, ?_,hB, ?_⟩
  ·rw[hσ' _ (by omega)];omega
  rw[aXt (by rw[H.len];exact hl),aXt (by rw[hMslen,←hlen];omega),H.len,hMslen,←hlen]
  congr 1;omega
 have hlive: ∀g,g<w.heap.size→eM (M++Mn) (kR hb ρ hs') g→eM M hb g:=by
  rintro g hg ⟨b,B,hb1,hb2⟩
  rcases hcase hb1 with⟨hb0,hb3⟩|⟨i,C,hC,rfl,rfl,he⟩
  ·refine⟨b,B,hb3, ?_⟩
   rw[aXk (by rw[H.len];exact(aXj.1 hb3).1)]at hb2
   exact hb2
  exact hliveS g (G.live g hg ⟨i,C,hC,by rw[←he];exact hb2⟩)
 have hX3: ∀g,Xs A (M++Mn) (kR hb ρ hs') g→Xs A' (Ms++Mn) hs' g:=by
  rintro g (ha|⟨b,B,hb1,hb2⟩)
  ·exact .inl (.inl ha)
  rcases hcase hb1 with⟨hb0,hb3⟩|⟨i,C,hC,rfl,rfl,he⟩
  ·rw[aXk (by rw[H.len];exact(aXj.1 hb3).1)]at hb2
   exact .inl (.inr ⟨b,B,hb0,hb3,hb2⟩)
  exact .inr ⟨i,C,hC,by rw[←he];exact hb2⟩
 refine⟨M++Mn,⟨⟨Mn,rfl⟩,⟨?_, ?_, ?_, ?_,G.hr.glob.avoid fun g _ hx=>hX3 g hx⟩,G.ext.mono (fun g _ hl=>hliveS g hl),hlive⟩,(VR.rn_to hto _ _ hv).avoid (fun g _ hx=>hX3 g hx)⟩
 ·unfold kR
  rw[hsg]
  simp only[aXI,aXW,hlentlen,hrnlen,H.len]
  omega
 ·exact fun g hg=>aXY (H.alt g hg) G.ext.size
 ·intro b B hb1
  rcases hcase hb1 with⟨hb0,hb3⟩|⟨i,C,hC,rfl,rfl,he⟩
  ·have hbl:b<M.length:=by rw[H.len];exact(aXj.1 hb3).1
   obtain⟨h1,⟨hn,hc0⟩|⟨g,cs,hg,hA,hh,hle,hcs⟩⟩:=H.blk b B hb3
   ·exact⟨h1,.inl ⟨by rw[aXk hbl];exact hn,hc0⟩⟩
   have hgs:g<w.heap.size:=H.lt (.inr ⟨b,B,hb3,hg⟩)
   refine⟨h1,.inr ⟨g,cs,by rw[aXk hbl];exact hg,hA, ?_,hle, ?_⟩⟩
   ·exact hh.to (G.ext.block g hgs (hout hb0 hb3 hg))
   exact VCells.ext G.ext ⟨Mn,rfl⟩ (fun g _ hl=> .inr (hliveS g hl)) (fun g hg hx=>hx.elim .inl (fun hl=> .inr (hlive g hg hl))) _ _ hcs
  obtain⟨h1,h2⟩:=G.hr.blk i C hC
  refine⟨V.rns_mem (V.rn_one σ) h1, ?_⟩
  rcases h2 with⟨hn,hc0⟩|⟨g,cs,hg,hA,hh,hle,hcs⟩
  ·refine .inl ⟨by rw[he];exact hn, ?_⟩
   simp[Blk.rn,hc0,V.rns]
  refine .inr ⟨g,cs,by rw[he];exact hg,fun ha=>hA (.inl ha),by simpa[Blk.rn,V.rns_length]using hh, ?_, ?_⟩
  ·simpa[Blk.rn,V.rns_length]using hle
  have:=(VCells.rn_to hto _ _ hcs).avoid (fun g _ hx=>hX3 g hx)
  simpa[Blk.rn,V.rns_length]using this
 intro b c B C g hb1 hc1 mb mc
 rcases hcase hb1 with⟨hb0,hb3⟩|⟨i,D,hD,rfl,rfl,he⟩<;>rcases hcase hc1 with⟨hc0,hc3⟩|⟨j,E,hE,rfl,rfl,he'⟩
 ·rw[aXk (by rw[H.len];exact(aXj.1 hb3).1)]at mb
  rw[aXk (by rw[H.len];exact(aXj.1 hc3).1)]at mc
  exact H.inj b c B C g hb3 hc3 mb mc
 ·rw[aXk (by rw[H.len];exact(aXj.1 hb3).1)]at mb
  rw[he']at mc
  obtain⟨_,⟨hn,_⟩|⟨g',cs,hg,hA,_⟩⟩:=G.hr.blk j E hE
  ·rw[mc]at hn;cases hn
  rw[mc]at hg;injection hg with hg;injection hg with hg;subst hg
  exact absurd (.inr ⟨b,B,hb0,hb3,mb⟩) hA
 ·rw[aXk (by rw[H.len];exact(aXj.1 hc3).1)]at mc
  rw[he]at mb
  obtain⟨_,⟨hn,_⟩|⟨g',cs,hg,hA,_⟩⟩:=G.hr.blk i D hD
  ·rw[mb]at hn;cases hn
  rw[mb]at hg;injection hg with hg;injection hg with hg;subst hg
  exact absurd (.inr ⟨c,C,hc0,hc3,mc⟩) hA
 rw[G.hr.inj i j D E g hD hE (by rw[←he];exact mb) (by rw[←he'];exact mc)]
def i5 :List (Nat×V)→Nat→Option V
 | [],_=>none
 |(u,x)::r,t=>bif aYw u t then some x else i5 r t
def aI (n:Nat)(fr:List (Nat×V)):List V:=(aX4 n).map fun t=>(i5 fr t).getD .any
theorem zM (n:Nat)(fr:List (Nat×V)):(aI n fr).length=n:=by simp[aI]
theorem aD1 {n t:Nat}{fr:List (Nat×V)}(h:t<n):(aI n fr)[t]? =some ((i5 fr t).getD .any):=by simp[aI,h]
def b5 (n:Nat)(fr:List (Nat×V)):Operand→Option V
 | .tmp t=>bif aZb t n then i5 fr t else none
 | .const v=>some (ofValue v)
 | .func f=>some (.sc (.func (.func f) #[] #[]))
 | .global g=>(GT g).map fun e=> .eptr [e] 0 0
theorem dH {n:Nat}{fr:List (Nat×V)}{o:Operand}{x:V}(h:b5 n fr o=some x):ev (aI n fr) o=some x:=by
 cases o with
 |tmp t=>
  simp only[b5]at h
  cases hb:aZb t n with
  |false=>rw[hb]at h;cases h
  |true=>
   rw[hb]at h
   simp only[cond_true]at h
   have ht:t<n:=by have h2:Nat.ble (t+1) n=true:=hb;exact aX0 h2
   simp only[ev]
   rw[aD1 ht,h];rfl
 |const v=>exact h
 |func f=>exact h
 |global g=>exact h
theorem aIE {n t:Nat}{fr:List (Nat×V)}{x:V}:mC (aI n fr) (some t) x=aI n ((t,x)::fr):=by
 simp only[mC]
 apply aX5
 intro i
 by_cases hi:i<n
 ·rw[aD1 hi]
  by_cases ht:t=i
  ·subst ht
   rw[List.getElem?_set_self (by rw[zM];exact hi)]
   simp[i5]
  rw[aYF ht,aD1 hi]
  have:aYw t i=false:=by cases hb:aYw t i with
   |false=>rfl
   |true=>exact absurd (aXR hb) ht
  simp[i5,this]
 rw[aX1 (by rw[aY6,zM];omega),aX1 (by rw[zM];omega)]
def AB (P:Program)(N:Nat)(c:Code)(Q:Ex→List V→Hp→Prop)(s:List V)(h:Hp):Prop:=
 ∀(A:Nat→Prop)(M0 M:List (Option Nat))(h0:Hp)(w0:World)(a:Act)(w:World),h0.length=N→M0.length=N→Grow A M0 h0 w0 M h w→Rel A M s h a w→
  c.wp P (fun e a' w'=> ∃x s' h' M',e=Ex.toExit x∧Q x s' h'∧Grow A M0 h0 w0 M' h' w'∧Rel A M' s' h' a' w') a w
section
variable {P:Program}{N:Nat}{Q Q':Ex→List V→Hp→Prop}{s s':List V}{h h':Hp}
theorem AB.of {c:Code}(hh:AW P c Q s h):AB P N c Q s h:=fun A M0 M h0 w0 a w _ _ G R=>
 Code.wp_mono (fun e a' w' ⟨x,s',h',M',h1,h2,h3,h4⟩=>⟨x,s',h',M',h1,h2,G.trans h3,h4⟩) (hh A M a w R)
theorem AB.mono {c:Code}(hh:AB P N c Q s h)(hq: ∀x s h,Q x s h→Q' x s h):AB P N c Q' s h:=fun A M0 M h0 w0 a w hN hM G R=>
 Code.wp_mono (fun e a' w' ⟨x,s',h',M',h1,h2,h3,h4⟩=>⟨x,s',h',M',h1,hq _ _ _ h2,h3,h4⟩) (hh A M0 M h0 w0 a w hN hM G R)
theorem AB.skip (hq:Q .normal s h):AB P N .skip Q s h:=AB.of (AW.skip hq)
theorem AB.exit {id:Nat}(hq:Q (.exit id) s h):AB P N (.exit id) Q s h:=AB.of (AW.exit hq)
theorem AB.ret (hq:Q .ret s h):AB P N .ret Q s h:=AB.of (AW.ret hq)
theorem AB.seq {c d:Code}(hh:AB P N c (Ex.then (AB P N d Q) Q) s h):AB P N (.seq c d) Q s h:=by
 intro A M0 M h0 w0 a w hN hM G R
 refine wp_seq (Code.wp_mono (fun e a' w' ⟨x,s1,h1,M1,he,hq,G1,R1⟩=> ?_) (hh A M0 M h0 w0 a w hN hM G R))
 subst he
 cases x with
 |normal=>exact hq A M0 M1 h0 w0 a' w' hN hM G1 R1
 |exit id=>exact⟨.exit id,s1,h1,M1,rfl,hq,G1,R1⟩
 |ret=>exact⟨.ret,s1,h1,M1,rfl,hq,G1,R1⟩
theorem AB.cond {c:Operand}{x y:Code}{t:Bool}(hc:ev s c=some (.sc (.bool t)))(h1:t=true→AB P N x Q s h)(h2:t=false→AB P N y Q s h):AB P N (.cond c x y) Q s h:=by
 intro A M0 M h0 w0 a w hN hM G R
 have hv:=cK R.hr.glob R.sr hc
 unfold VR at hv
 refine wp_cond hv ?_
 cases t with
 |true=>exact h1 rfl A M0 M h0 w0 a w hN hM G R
 |false=>exact h2 rfl A M0 M h0 w0 a w hN hM G R
theorem AB.block {id:Nat}{c:Code}(hh:AB P N c (Ex.inBlock id Q) s h):AB P N (.block id c) Q s h:=by
 intro A M0 M h0 w0 a w hN hM G R
 refine wp_block (Code.wp_mono (fun e a' w' ⟨x,s1,h1,M1,he,hq,G,R1⟩=> ?_) (hh A M0 M h0 w0 a w hN hM G R))
 subst he
 cases x with
 |normal=>exact⟨.normal,s1,h1,M1,rfl,hq,G,R1⟩
 |exit i=>
  show Exit.inBlock id _ (.exit i) a' w'
  simp only[Exit.inBlock]
  simp only[Ex.inBlock]at hq
  split
  ·rename_i hi;rw[if_pos hi]at hq;exact⟨.normal,s1,h1,M1,rfl,hq,G,R1⟩
  rename_i hi;rw[if_neg hi]at hq;exact⟨.exit i,s1,h1,M1,rfl,hq,G,R1⟩
 |ret=>exact⟨.ret,s1,h1,M1,rfl,hq,G,R1⟩
theorem AB.loop {c:Code}(I:Nat→List V→Hp→Prop){n:Nat}(h0:I n s h)(round: ∀n s h,I n s h→AB P N c (Ex.then (fun s' h'=> ∃m,m<n∧I m s' h') Q) s h):AB P N (.loop c) Q s h:=by
 intro A M0 M hh0 w0 a w hN hM G R
 let p:Act→World→Nat→Prop:=fun a' w' k=> ∃s' h' M',I k s' h'∧Grow A M0 hh0 w0 M' h' w'∧Rel A M' s' h' a' w'
 let μ:Act→World→Nat:=fun a' w'=>Classical.epsilon fun k=>p a' w' k∧ ∀j,p a' w' j→k≤j
 have hμ: ∀a' w',(∃k,p a' w' k)→p a' w' (μ a' w')∧ ∀j,p a' w' j→μ a' w'≤j:=fun a' w' hh=>Classical.epsilon_spec (fO hh)
 refine wp_loop (fun a' w'=> ∃k,p a' w' k) μ ⟨n,s,h,M,h0,G,R⟩ ?_
 intro a1 w1 hI
 obtain⟨s1,h1,M1,hIk,G1,R1⟩:=(hμ a1 w1 hI).1
 refine Code.wp_mono (fun e a2 w2 ⟨x,s2,h2,M2,he,hq,G2,R2⟩=> ?_) (round _ s1 h1 hIk A M0 M1 hh0 w0 a1 w1 hN hM G1 R1)
 subst he
 cases x with
 |normal=>
  obtain⟨m,hm,hIm⟩:=hq
  have hex2:p a2 w2 m:=⟨s2,h2,M2,hIm,G2,R2⟩
  exact⟨⟨m,hex2⟩,Nat.lt_of_le_of_lt ((hμ a2 w2 ⟨m,hex2⟩).2 m hex2) hm⟩
 |exit id=>exact⟨.exit id,s2,h2,M2,rfl,hq,G2,R2⟩
 |ret=>exact⟨.ret,s2,h2,M2,rfl,hq,G2,R2⟩
theorem AB.loopN {c:Code}(I:Nat→List V→Hp→Prop){n:Nat}(h0:I n s h)(r0: ∀s h,¬I 0 s h)(round: ∀n s h,I (n+1) s h→AB P N c (Ex.then (I n) Q) s h):AB P N (.loop c) Q s h:=by
 refine AB.loop I h0 fun n s h hI=> ?_
 cases n with
 |zero=>exact absurd hI (r0 s h)
 |succ n=>
  refine(round n s h hI).mono fun x s h hq=> ?_
  cases x with
  |normal=>exact⟨n,Nat.lt_succ_self n,hq⟩
  |exit id=>exact hq
  |ret=>exact hq
end
mutual
def V.le (vn:Nat→Bool):V→V→Prop
 |x,.any=>True
 | .row a k es,.row b k' es'=>(b=none∨a=b)∧es=es'∧(k=k'∨es=[])
 | .row a _ es,.sl b off n _ _=>a=some true∧es=[]∧vn b=true∧off=0∧n=0
 | .agg cs,.agg ds=>V.les vn cs ds
 | .tup cs,.tup ds=>V.les vn cs ds
 |x,y=>x=y
def V.les (vn:Nat→Bool):List V→List V→Prop
 | [],[]=>True
 |c::cs,d::ds=>V.le vn c d∧V.les vn cs ds
 |_,_=>False
end
def noN :Nat→Bool:=fun _=>false
mutual
theorem V.le_refl (vn:Nat→Bool): ∀x:V,V.le vn x x
 | .any=>by unfold V.le;trivial
 | .row a k es=>by unfold V.le;exact⟨.inr rfl,rfl,.inl rfl⟩
 | .agg cs=>by unfold V.le;exact V.les_refl vn cs
 | .tup cs=>by unfold V.le;exact V.les_refl vn cs
 | .sc _=>by unfold V.le;rfl
 | .ptr _ _=>by unfold V.le;rfl
 | .sl _ _ _ _ _=>by unfold V.le;rfl
 | .eptr _ _ _=>by unfold V.le;rfl
 | .mp _=>by unfold V.le;rfl
theorem V.les_refl (vn:Nat→Bool): ∀cs:List V,V.les vn cs cs
 | []=>by unfold V.les;trivial
 |c::cs=>by unfold V.les;exact⟨V.le_refl vn c,V.les_refl vn cs⟩
end
theorem V.le_nil {vn:Nat→Bool}{a:Option Bool}{k k':Nat}:V.le vn (.row a k []) (.row none k' []):=by unfold V.le;exact⟨.inl rfl,rfl,.inr rfl⟩
theorem V.le_virt {vn:Nat→Bool}{k k' b:Nat}{ag:Bool}(hb:vn b=true):V.le vn (.row (some true) k []) (.sl b 0 0 k' ag):=by unfold V.le;exact⟨rfl,rfl,hb,rfl,rfl⟩
section
variable {X:Nat→Prop}{M:List (Option Nat)}{w:World}{vn:Nat→Bool}
mutual
theorem V.le_sound (hvn: ∀b,vn b=true→M[b]? =some none): ∀(x y:V)(v:Value),V.le vn x y→VR X M w x v→VR X M w y v
 |x,.any,v,_,_=>by unfold VR;trivial
 | .row a k es,.row b k' es',v,h,hv=>by
  unfold V.le at h
  obtain⟨h1,rfl,h3⟩:=h
  unfold VR at hv⊢
  obtain⟨ad,cap,e1,e2,e3,e4,e5,e6⟩:=hv
  refine⟨ad,cap,e1,e2,e3, ?_, ?_, ?_⟩
  ·rcases h1 with rfl|rfl
   ·intro b hb;cases hb
   exact e4
  ·rcases h3 with rfl|rfl
   ·exact e5
   simp
  rcases h3 with rfl|rfl
  ·exact e6
  exact fun hne=>absurd rfl hne
 | .row a k es,.sl b off n k' ag,v,h,hv=>by
  unfold V.le at h
  obtain⟨rfl,rfl,h3,rfl,rfl⟩:=h
  unfold VR at hv⊢
  obtain⟨ad,cap,e1,e2,e3,e4,e5,e6⟩:=hv
  have hn:ad=none:=e4 true rfl
  cases ad with
  |some ad=>simp at hn
  |none=>
   have:=e3 rfl
   subst this
   exact .inl ⟨hvn b h3,e1,rfl,rfl⟩
 | .agg cs,.agg ds,v,h,hv=>by
  unfold V.le at h
  unfold VR at hv⊢
  obtain⟨vs,e1,e2⟩:=hv
  exact⟨vs,e1,V.les_sound hvn cs ds vs h e2⟩
 | .tup cs,.tup ds,v,h,hv=>by
  unfold V.le at h
  unfold VR at hv⊢
  obtain⟨vs,e1,e2⟩:=hv
  exact⟨vs,e1,V.les_sound hvn cs ds vs h e2⟩
 | .sc c,y,v,h,hv=>by
  cases y<;>first|(unfold VR;trivial)|(unfold V.le at h;injection h with h;subst h;exact hv)|(unfold V.le at h;cases h)
 | .mp _,y,v,h,hv=>by
  cases y<;>first|(unfold VR;trivial)|(unfold V.le at h;injection h with h;subst h;exact hv)|(unfold V.le at h;cases h)
 | .ptr _ _,y,v,h,hv=>by
  cases y<;>first|(unfold VR;trivial)|(unfold V.le at h;injection h with h1 h2;subst h1 h2;exact hv)|(unfold V.le at h;cases h)
 | .sl _ _ _ _ _,y,v,h,hv=>by
  cases y<;>first|(unfold VR;trivial)|(unfold V.le at h;injection h with h1 h2 h3 h4 h5;subst h1 h2 h3 h4 h5;exact hv)|(unfold V.le at h;cases h)
 | .eptr _ _ _,y,v,h,hv=>by
  cases y<;>first|(unfold VR;trivial)|(unfold V.le at h;injection h with h1 h2 h3;subst h1 h2 h3;exact hv)|(unfold V.le at h;cases h)
theorem V.les_sound (hvn: ∀b,vn b=true→M[b]? =some none): ∀(cs ds:List V)(vs:List Value),V.les vn cs ds→VCells X M w cs vs→VCells X M w ds vs
 | [],[],vs,_,hv=>hv
 |c::cs,d::ds,vs,h,hv=>by
  unfold V.les at h
  unfold VCells at hv⊢
  obtain⟨v,rest,e1,e2,e3⟩:=hv
  exact⟨v,rest,e1,V.le_sound hvn c d v h.1 e2,V.les_sound hvn cs ds rest h.2 e3⟩
end
end
def Ghost (N:Nat)(s:List V)(h:Hp)(s':List V)(h':Hp):Prop:=
 ∀(A:Nat→Prop)(M:List (Option Nat))(a:Act)(w:World),N≤M.length→Rel A M s h a w→
  ∃M',M'.take N=M.take N∧Rel A M' s' h' a w∧ ∀g,eM M' h' g→eM M h g
theorem AB.ghost {P:Program}{N:Nat}{c:Code}{Q:Ex→List V→Hp→Prop}{s s':List V}{h h':Hp}(hg:Ghost N s h s' h')(hh:AB P N c Q s' h'):AB P N c Q s h:=by
 intro A M0 M h0 w0 a w hN hM G R
 obtain⟨t,ht⟩:=G.pre
 have hle:N≤M.length:=by rw[←ht];simp[hM]
 obtain⟨M',h1,h2,h3⟩:=hg A M a w hle R
 refine hh A M0 M' h0 w0 a w hN hM ⟨?_,h2.hr,G.ext,fun g hg hl=>G.live g hg (h3 g hl)⟩ h2
 have:M0=M'.take N:=by rw[h1,←ht,←hM];simp
 rw[this]
 exact aYz _ _
def FLe (vn:Nat→Bool)(g:V→V)(fr:List (Nat×V)):List (Nat×V)→Prop
 | []=>True
 |(t,y)::r=>(∃x,i5 fr t=some x∧V.le vn x (g y))∧FLe vn g fr r
theorem FLe.nil {vn:Nat→Bool}{g:V→V}{fr:List (Nat×V)}:FLe vn g fr []:=trivial
theorem FLe.same {vn:Nat→Bool}{g:V→V}{fr r:List (Nat×V)}{t:Nat}{y:V}(h:i5 fr t=some (g y))(k:FLe vn g fr r):FLe vn g fr ((t,y)::r):=⟨⟨_,h,V.le_refl _ _⟩,k⟩
theorem FLe.le {vn:Nat→Bool}{g:V→V}{fr r:List (Nat×V)}{t:Nat}{x y:V}(h:i5 fr t=some x)(hl:V.le vn x (g y))(k:FLe vn g fr r):FLe vn g fr ((t,y)::r):=⟨⟨_,h,hl⟩,k⟩
theorem FLe.get {vn:Nat→Bool}{g:V→V}{fr:List (Nat×V)}: ∀{fr':List (Nat×V)},FLe vn g fr fr'→ ∀{t:Nat}{y:V},i5 fr' t=some y→ ∃x,i5 fr t=some x∧V.le vn x (g y)
 | [],_,t,y,hy=>by cases hy
 |(u,z)::r,h,t,y,hy=>by
  simp only[i5]at hy
  cases hb:aYw u t with
  |true=>
   rw[hb]at hy
   have:=aXR hb
   subst this
   simp only[cond_true,aXn]at hy
   subst hy
   exact h.1
  |false=>rw[hb]at hy;exact h.2.get hy
theorem aHr {X:Nat→Prop}{M M':List (Option Nat)}{w:World}{n:Nat}{fr fr':List (Nat×V)}{a:Act}{X':Nat→Prop}(S:SR X M w (aI n fr) a)
  (hh: ∀(t:Nat)(y:V),i5 fr' t=some y→ ∃x,i5 fr t=some x∧ ∀v,VR X M w x v→VR X' M' w y v):SR X' M' w (aI n fr') a:=by
 refine⟨by rw[zM,←S.len,zM],fun t y hy=> ?_⟩
 have ht:t<n:=by have:=(aXj.1 hy).1;rw[zM]at this;exact this
 rw[aD1 ht]at hy
 injection hy with hy
 cases hl:i5 fr' t with
 |none=>rw[hl]at hy;subst hy;unfold VR;trivial
 |some z=>
  rw[hl]at hy
  subst hy
  obtain⟨x,hx,hv⟩:=hh t z hl
  exact hv _ (S.val t x (by rw[aD1 ht,hx];rfl))
def HLe (f:Nat→Nat)(h:Hp):List Nat→Hp→Prop
 | [],[]=>True
 |_::σ,none::h'=>HLe f h σ h'
 |b::σ,some B'::h'=>(∃B,h[b]? =some (some B)∧B.e=B'.e∧V.les noN B.cells (V.rns f B'.cells)∧B'.cells.all V.one=true)∧HLe f h σ h'
 |_,_=>False
theorem HLe.nil {f:Nat→Nat}{h:Hp}:HLe f h [] []:=trivial
theorem HLe.dead {f:Nat→Nat}{h h':Hp}{b:Nat}{σ:List Nat}(k:HLe f h σ h'):HLe f h (b::σ) (none::h'):=k
theorem HLe.live {f:Nat→Nat}{h h':Hp}{b:Nat}{σ:List Nat}{e:TypeId}{cs cs':List V}(hb:h[b]? =some (some ⟨e,cs⟩))(hc:V.les noN cs (V.rns f cs'))(ho:cs'.all V.one=true)(k:HLe f h σ h'):HLe f h (b::σ) (some ⟨e,cs'⟩::h'):=⟨⟨_,hb,rfl,hc,ho⟩,k⟩
theorem HLe.get {f:Nat→Nat}{h:Hp}: ∀{σ:List Nat}{h':Hp},HLe f h σ h'→ ∀{j:Nat}{B':Blk},h'[j]? =some (some B')→ ∃b B,σ[j]? =some b∧h[b]? =some (some B)∧B.e=B'.e∧V.les noN B.cells (V.rns f B'.cells)∧B'.cells.all V.one=true
 | [],[],_,j,B',hj=>by simp at hj
 |b::σ,none::h',hh,j,B',hj=>by
  cases j with
  |zero=>simp at hj
  |succ j=>simp only[aXo]at hj ⊢; exact HLe.get (σ:=σ) hh hj
 |b::σ,some B::h',hh,j,B',hj=>by
  cases j with
  |zero=>
   simp only[aXA,aXn]at hj
   subst hj
   obtain⟨C,h1,h2,h3,h4⟩:=hh.1
   exact⟨b,C,rfl,h1,h2,h3,h4⟩
  |succ j=>simp only[aXo]at hj ⊢; exact HLe.get (σ:=σ) hh.2 hj
 | [],_::_,hh,_,_,_=>hh.elim
 |_::_,[],hh,_,_,_=>hh.elim
theorem HLe.len {f:Nat→Nat}{h:Hp}: ∀{σ:List Nat}{h':Hp},HLe f h σ h'→σ.length=h'.length
 | [],[],_=>rfl
 |b::σ,none::h',hh=>by simp[HLe.len (σ:=σ) hh]
 |b::σ,some B::h',hh=>by simp[HLe.len (σ:=σ) hh.2]
 | [],_::_,hh=>hh.elim
 |_::_,[],hh=>hh.elim
def lvs :List Nat→Hp→List Nat
 |b::σ,some _::h'=>b::lvs σ h'
 |_::σ,none::h'=>lvs σ h'
 |_,_=>[]
theorem aHw : ∀{σ:List Nat}{h':Hp}{j b:Nat}{B:Blk},h'[j]? =some (some B)→σ[j]? =some b→b∈lvs σ h'
 | [],_,j,b,B,_,hb=>by simp at hb
 |_::_,[],j,b,B,hj,_=>by simp at hj
 |c::σ,some C::h',0,b,B,hj,hb=>by simp at hb;simp[lvs,hb]
 |c::σ,some C::h',j+1,b,B,hj,hb=>by
  simp only[aXo]at hj hb
  simp[lvs,aHw hj hb]
 |c::σ,none::h',0,b,B,hj,hb=>by simp at hj
 |c::σ,none::h',j+1,b,B,hj,hb=>by
  simp only[aXo]at hj hb
  simp[lvs,aHw hj hb]
theorem aKl : ∀{σ:List Nat}{h':Hp},(lvs σ h').Nodup→ ∀{i j b:Nat}{B C:Blk},h'[i]? =some (some B)→h'[j]? =some (some C)→σ[i]? =some b→σ[j]? =some b→i=j
 | [],_,_,i,j,b,B,C,_,_,hb,_=>by simp at hb
 |_::_,[],_,i,j,b,B,C,hi,_,_,_=>by simp at hi
 |c::σ,some D::h',hn,0,0,b,B,C,_,_,_,_=>rfl
 |c::σ,some D::h',hn,0,j+1,b,B,C,hi,hj,bi,bj=>by
  simp only[aXo,aXA,aXn]at hj bi bj
  subst bi
  exact absurd (aHw hj bj) (aXZ.1 hn).1
 |c::σ,some D::h',hn,i+1,0,b,B,C,hi,hj,bi,bj=>by
  simp only[aXo,aXA,aXn]at hi bi bj
  subst bj
  exact absurd (aHw hi bi) (aXZ.1 hn).1
 |c::σ,some D::h',hn,i+1,j+1,b,B,C,hi,hj,bi,bj=>by
  simp only[aXo]at hi hj bi bj
  rw[aKl (aXZ.1 hn).2 hi hj bi bj]
 |c::σ,none::h',hn,0,_,b,B,C,hi,_,_,_=>by simp at hi
 |c::σ,none::h',hn,i+1,0,b,B,C,_,hj,_,_=>by simp at hj
 |c::σ,none::h',hn,i+1,j+1,b,B,C,hi,hj,bi,bj=>by
  simp only[aXo]at hi hj bi bj
  rw[aKl (σ:=σ) hn hi hj bi bj]
def ndB :List Nat→Bool
 | []=>true
 |b::l=> !(l.elem b)&&ndB l
theorem aLc : ∀{l:List Nat},ndB l=true→l.Nodup
 | [],_=>List.nodup_nil
 |b::l,h=>by
  simp only[ndB,aXv,Bool.not_eq_true']at h
  refine aXZ.2 ⟨fun hm=> ?_,aLc h.2⟩
  rw[List.elem_eq_true_of_mem hm]at h
  cases h.1
theorem aVF {ρ:List Nat}{L i b:Nat}(h:ρ[i]? =some b):sg ρ L i=b:=by simp[sg,h]
theorem aVX {ρ:List Nat}{L i:Nat}(h:ρ.length≤i):sg ρ L i=L+(i-ρ.length):=by simp[sg,h]
theorem V.les_length {vn:Nat→Bool}: ∀{cs ds:List V},V.les vn cs ds→cs.length=ds.length
 | [],[],_=>rfl
 |c::cs,d::ds,h=>by unfold V.les at h;simp[V.les_length h.2]
 | [],_::_,h=>by unfold V.les at h;exact h.elim
 |_::_,[],h=>by unfold V.les at h;exact h.elim
theorem Ghost.rn {N n:Nat}{fr fr':List (Nat×V)}{h h':Hp}(σ:List Nat)(hσ:σ.take N=aX4 N)(hlt:σ.all (fun b=>aZb b h.length)=true)(hf:FLe noN (V.rn (sg σ h.length)) fr fr')
  (hh:HLe (sg σ h.length) h σ h') (hnd:ndB (lvs σ h')=true):Ghost N (aI n fr) h (aI n fr') h':=by
 intro A M a w hN R
 have hM:M.length=h.length:=R.hr.len
 have hltb: ∀b∈σ,b<M.length:=fun b hb=>by
  have h2:=aXp.1 hlt b hb
  rw[hM];exact aX0 (n:=b+1) h2
 let M':List (Option Nat):=σ.map fun b=>(M[b]?).getD none
 have hM': ∀{j b:Nat},σ[j]? =some b→M'[j]? =M[b]? :=by
  intro j b hj
  have hb:=hltb b (aXw hj)
  simp only[M',aXB,hj,aXs]
  rw[aXl hb];rfl
 have hfrom: ∀b y,M[sg σ h.length b]? =some y→M'[b]? =some y:=by
  intro b y hy
  rcases aXQ b σ.length with hl|hl
  ·have hi:σ[b]? =some σ[b]:=aXl hl
   rw[hM' hi];rw[aVF hi]at hy;exact hy
  rw[aVX hl]at hy
  have:=(aXj.1 hy).1
  omega
 have hlive: ∀g,eM M' h' g→eM M h g:=by
  rintro g ⟨j,B',hj,hm⟩
  obtain⟨b,B,h1,h2,_⟩:=hh.get hj
  exact⟨b,B,h2,by rw[←hM' h1];exact hm⟩
 have hX: ∀g,Xs A M' h' g→Xs A M h g:=fun g hx=>hx.elim .inl (fun hl=> .inr (hlive g hl))
 refine⟨M', ?_,⟨⟨by simp[M',hh.len],R.hr.alt, ?_, ?_,R.hr.glob.avoid fun g _ hx=>hX g hx⟩, ?_,R.defers⟩,hlive⟩
 ·simp only[M',←aYb,hσ]
  apply aX5
  intro i
  rw[aXB,aYM]
  rcases aXQ i N with hi|hi
  ·simp only[aYK hi,aXs,hi,if_true]
   rw[aXl (aXY hi hN)];rfl
  have: ¬i<N:=by omega
  simp[this]
 ·intro j B' hj
  obtain⟨b,B,h1,h2,h3,h4,h5⟩:=hh.get hj
  refine⟨aXp.1 h5, ?_⟩
  have hlen:B.cells.length=B'.cells.length:=by rw[V.les_length h4,V.rns_length]
  rcases(R.hr.blk b B h2).2 with⟨hn,hc0⟩|⟨g,cs,hg,hA,hw,hle,hcs⟩
  ·refine .inl ⟨by rw[hM' h1];exact hn,aXq (by rw[←hlen,hc0];rfl)⟩
  refine .inr ⟨g,cs,by rw[hM' h1];exact hg,hA,by rw[←h3,←hlen];exact hw,by rw[←hlen];exact hle, ?_⟩
  rw[←hlen]
  exact(VCells.rn_from hfrom _ _ (V.les_sound (fun _ hb=>by cases hb) _ _ _ h4 hcs)).avoid (fun g _ hx=>hX g hx)
 ·intro i j B C g hi hj mi mj
  obtain⟨b,B1,h1,h2,_⟩:=hh.get hi
  obtain⟨c,C1,k1,k2,_⟩:=hh.get hj
  have:=R.hr.inj b c B1 C1 g h2 k2 (by rw[←hM' h1];exact mi) (by rw[←hM' k1];exact mj)
  subst this
  exact aKl (aLc hnd) hi hj h1 k1
 exact aHr R.sr (fun t y hy=>by
  obtain⟨x,hx,hl⟩:=hf.get hy
  exact⟨x,hx,fun v hv=>(VR.rn_from hfrom _ _ (V.le_sound (fun _ hb=>by cases hb) _ _ _ hl hv)).avoid (fun g _ hx=>hX g hx)⟩)
def HLv (vn:Nat→Bool):Hp→Hp→Prop
 | [],[]=>True
 |none::h,none::h'=>HLv vn h h'
 |some B::h,some B'::h'=>(B.e=B'.e∧V.les vn B.cells B'.cells∧B'.cells.all V.one=true)∧HLv vn h h'
 |_,_=>False
theorem HLv.nil {vn:Nat→Bool}:HLv vn [] []:=trivial
theorem HLv.dead {vn:Nat→Bool}{h h':Hp}(k:HLv vn h h'):HLv vn (none::h) (none::h'):=k
theorem HLv.live {vn:Nat→Bool}{h h':Hp}{e:TypeId}{cs cs':List V}(hc:V.les vn cs cs')(ho:cs'.all V.one=true)(k:HLv vn h h'):HLv vn (some ⟨e,cs⟩::h) (some ⟨e,cs'⟩::h'):=⟨⟨rfl,hc,ho⟩,k⟩
theorem HLv.get {vn:Nat→Bool}: ∀{h h':Hp},HLv vn h h'→ ∀{j:Nat}{B':Blk},h'[j]? =some (some B')→ ∃B,h[j]? =some (some B)∧B.e=B'.e∧V.les vn B.cells B'.cells∧B'.cells.all V.one=true
 | [],[],_,j,B',hj=>by simp at hj
 |none::h,none::h',hh,j,B',hj=>by
  cases j with
  |zero=>simp at hj
  |succ j=>simp only[aXo]at hj ⊢; exact HLv.get (h:=h) hh hj
 |some B::h,some C::h',hh,j,B',hj=>by
  cases j with
  |zero=>
   simp only[aXA,aXn]at hj
   subst hj
   exact⟨B,rfl,hh.1.1,hh.1.2.1,hh.1.2.2⟩
  |succ j=>simp only[aXo]at hj ⊢; exact HLv.get (h:=h) hh.2 hj
 | [],_::_,hh,_,_,_=>hh.elim
 |none::_,[],hh,_,_,_=>hh.elim
 |some _::_,[],hh,_,_,_=>hh.elim
 |none::_,some _::_,hh,_,_,_=>hh.elim
 |some _::_,none::_,hh,_,_,_=>hh.elim
theorem HLv.len {vn:Nat→Bool}: ∀{h h':Hp},HLv vn h h'→h.length=h'.length
 | [],[],_=>rfl
 |none::h,none::h',hh=>by simp[HLv.len (h:=h) hh]
 |some B::h,some C::h',hh=>by simp[HLv.len (h:=h) hh.2]
 | [],_::_,hh=>hh.elim
 |none::_,[],hh=>hh.elim
 |some _::_,[],hh=>hh.elim
 |none::_,some _::_,hh=>hh.elim
 |some _::_,none::_,hh=>hh.elim
theorem Ghost.virt {N n:Nat}{fr fr':List (Nat×V)}{h h1:Hp}(e:TypeId)(hf:FLe (fun b=>aYw b h.length) id fr fr')(hh:HLv (fun b=>aYw b h.length) h h1)
  :Ghost N (aI n fr) h (aI n fr') (h1++[some ⟨e,[]⟩]):=by
 intro A M a w hN R
 have hM:M.length=h.length:=R.hr.len
 have G:=Grow.virt R.hr e
 have hvn: ∀b,aYw b h.length=true→(M++[none])[b]? =some none:=fun b hb=>by
  have:=aXR hb
  subst this
  rw[←hM];simp
 have hlen:h1.length=h.length:=hh.len.symm
 have hcase: ∀{b:Nat}{B:Blk},(h1++[some ⟨e,[]⟩])[b]? =some (some B)→ ∃C,(h++[some ⟨e,[]⟩])[b]? =some (some C)∧C.e=B.e∧V.les (fun b=>aYw b h.length) C.cells B.cells∧B.cells.all V.one=true:=by
  intro b B hb
  rcases fK hb with hb|⟨hbl,hB⟩
  ·obtain⟨C,c1,c2,c3,c4⟩:=hh.get hb
   exact⟨C,mX c1,c2,c3,c4⟩
  injection hB with hB
  subst hB
  exact⟨⟨e,[]⟩,by rw[hbl,hlen];simp,rfl,V.les_refl _ _,rfl⟩
 have hlive': ∀g,eM (M++[none]) (h1++[some ⟨e,[]⟩]) g→eM (M++[none]) (h++[some ⟨e,[]⟩]) g:=by
  rintro g ⟨b,B,hb,hm⟩
  obtain⟨C,c1,_⟩:=hcase hb
  exact⟨b,C,c1,hm⟩
 have hlive: ∀g,eM (M++[none]) (h1++[some ⟨e,[]⟩]) g→eM M h g:=by
  rintro g hl
  obtain⟨b,B,hb,hm⟩:=hlive' g hl
  rcases fK hm with hm'|⟨_,hm'⟩
  ·rcases fK hb with hb'|⟨rfl,_⟩
   ·exact⟨b,B,hb',hm'⟩
   have:=(aXj.1 hm').1;omega
  cases hm'
 refine⟨M++[none],by rw[aXJ hN],⟨⟨by simp[hM,hlen],R.hr.alt, ?_, ?_,R.hr.glob.avoid fun g _ hx=>hx.elim .inl (fun hl=> .inr (hlive g hl))⟩, ?_,R.defers⟩,hlive⟩
 ·intro b B hb
  obtain⟨C,c1,c2,c3,c4⟩:=hcase hb
  refine⟨aXp.1 c4, ?_⟩
  have hl:=V.les_length c3
  rcases(G.hr.blk b C c1).2 with⟨hn,hc0⟩|⟨g,cs,hg,hA,hw,hle,hcs⟩
  ·exact .inl ⟨hn,aXq (by rw[←hl,hc0];rfl)⟩
  refine .inr ⟨g,cs,hg,hA,by rw[←c2,←hl];exact hw,by rw[←hl];exact hle, ?_⟩
  rw[←hl]
  exact(V.les_sound hvn _ _ _ c3 hcs).avoid (fun g _ hx=>hx.elim .inl (fun hl=> .inr (hlive' g hl)))
 ·intro b b' B B' g hb hb' hm hm'
  obtain⟨C,c1,_⟩:=hcase hb
  obtain⟨C',c1',_⟩:=hcase hb'
  exact G.hr.inj b b' C C' g c1 c1' hm hm'
 exact aHr R.sr (fun t y hy=>by
  obtain⟨x,hx,hl⟩:=hf.get hy
  exact⟨x,hx,fun v hv=>(V.le_sound hvn _ _ _ hl (G.keep hv)).avoid (fun g _ hx=>hx.elim .inl (fun hl=> .inr (hlive' g hl)))⟩)
theorem Ghost.trans {N:Nat}{s s1 s2:List V}{h h1 h2:Hp}(a:Ghost N s h s1 h1)(b:Ghost N s1 h1 s2 h2):Ghost N s h s2 h2:=by
 intro A M ac w hN R
 obtain⟨M1,e1,R1,l1⟩:=a A M ac w hN R
 have hN1:N≤M1.length:=by
  have:=congrArg aY5 e1
  simp only[aXD]at this;omega
 obtain⟨M2,e2,R2,l2⟩:=b A M1 ac w hN1 R1
 exact⟨M2,e2.trans e1,R2,fun g hg=>l1 g (l2 g hg)⟩
abbrev eI (k:IntKind)(x:Int):V:= .sc (.int k x)
abbrev eB (x:Bool):V:= .sc (.bool x)
abbrev eS (x:ByteArray):V:= .sc (.string x)
abbrev eL {α:Type}(K:Nat)(E:α→V)(l:List α):V:= .row none K (l.map E)
def bU {α:Type}(l:List α)(i:Int):Option α:=if 0≤i then l[i.toNat]? else none
def sub {α:Type}(l:List α)(a b:Int):Option (List α):=if 0≤a∧a≤b∧b≤l.length then some ((l.take b.toNat).drop a.toNat)else none
def eD {α:Type}(by_:Nat)(l m:List α):Option (List α):=if(l.length+m.length)*by_≤pJ then some (l++m)else none
def mks {α:Type}(by_:Nat)(z:α)(n:Int):Option (List α):=if 0≤n∧n.toNat*by_≤pJ then some (aXC n.toNat z)else none
def nT {α:Type}(l m:List α):List α:=m.take l.length++l.drop m.length
def quo (k:IntKind)(a b:Int):Option Int:=if b=0 then none else some (k.wrap (a.tdiv b))
def rem (a b:Int):Option Int:=if b=0 then none else some (a.tmod b)
def shl (k:IntKind)(a b:Int):Option Int:=if b<0 then none else some (k.wrap (a*2^(min b.toNat k.bits)))
def shr (k:IntKind)(a b:Int):Option Int:=if b<0 then none else some (a.fdiv (2^(min b.toNat k.bits)))
inductive LR (σ ρ:Type) where
 |brk (s:σ)
 |ret (r:ρ)
theorem aD {α β:Type}{o:Option α}{k:α→Option β}{r:β}(h:o.bind k=some r): ∃v,o=some v∧k v=some r:=by
 cases o with
 |none=>cases h
 |some v=>exact⟨v,rfl,h⟩
theorem cQ {α:Type}{c:Bool}{a b:Option α}{r:α}(h:(if c=true then a else b)=some r)(hc:c=true):a=some r:=by subst hc;exact h
theorem cR {α:Type}{c:Bool}{a b:Option α}{r:α}(h:(if c=true then a else b)=some r)(hc:c=false):b=some r:=by subst hc;exact h
section
variable {P:Program}{O:xK}{ops:Array Oper}{l:List Oper}{n:Nat}{fr:List (Nat×V)}{h h':Hp}{K:List V→Hp→Prop}{op:Op}{ty:TypeId}{pos:String}{aft:Array Edge}{t:Nat}{v:V}{gd:Option (Nat×Bool)}
variable {o:Oper}
theorem aLn {j u:Nat}{want c:Bool}(hg:o.guard=some (j,want))(hj:(ops[j]?).bind (·.dst)=some u)(hl:b5 n fr (.tmp u)=some (.sc (.bool c))):nE ops o (aI n fr)=some (c == want):=by
 have:=dH hl
 simp only[ev]at this
 unfold nE
 rw[hg]
 simp only[hj,this,yV]
 cases c<;>cases want<;>rfl
variable {j u:Nat}{want c:Bool}{dd:Option Tmp}
theorem sv (hd:bY P O ⟨dd,op,ty,pos,aft,none⟩ (aI n fr) h=some (v,h')):dE P O ops ⟨dd,op,ty,pos,aft,none⟩ (aI n fr) h=some (v,h'):=by simp only[dE,nE];exact hd
theorem svG (hj:(ops[j]?).bind (·.dst)=some u)(hl:b5 n fr (.tmp u)=some (.sc (.bool c)))(hc:c=want)(hd:bY P O ⟨dd,op,ty,pos,aft,some (j,want)⟩ (aI n fr) h=some (v,h')):dE P O ops ⟨dd,op,ty,pos,aft,some (j,want)⟩ (aI n fr) h=some (v,h'):=by
 subst hc
 simp only[dE,aLn (o:=⟨dd,op,ty,pos,aft,some (j,c)⟩) rfl hj hl,beq_self_eq_true]
 exact hd
theorem svX (hj:(ops[j]?).bind (·.dst)=some u)(hl:b5 n fr (.tmp u)=some (.sc (.bool c)))(hc:c= !want):dE P O ops ⟨dd,op,ty,pos,aft,some (j,want)⟩ (aI n fr) h=some (.sc undef,h):=by
 subst hc
 simp only[dE,aLn (o:=⟨dd,op,ty,pos,aft,some (j,want)⟩) rfl hj hl]
 cases want<;>rfl
theorem svU (hj:(ops[j]?).bind (·.dst)=some u)(hl:b5 n fr (.tmp u)=some (.sc undef)):dE P O ops ⟨dd,op,ty,pos,aft,some (j,want)⟩ (aI n fr) h=some (.sc undef,h):=by
 have:=dH hl
 simp only[ev]at this
 have hw:nE ops ⟨dd,op,ty,pos,aft,some (j,want)⟩ (aI n fr)=some false:=by
  unfold nE
  simp only[hj,this]
  cases want<;>rfl
 simp only[dE,hw]
def OpsW (P:Program)(N:Nat)(ops:Array Oper)(l:List Oper)(s:List V)(h:Hp)(K:List V→Hp→Prop):Prop:=
 ∀(k:Nat),(∀j,l[j]? =ops[k+j]?)→ ∀(A:Nat→Prop)(M0 M:List (Option Nat))(h0:Hp)(w0:World)(a:Act)(w:World)(Q:Exit→Act→World→Prop),h0.length=N→M0.length=N→Grow A M0 h0 w0 M h w→Rel A M s h a w→
  (∀s' h' M' a' w',K s' h'→Grow A M0 h0 w0 M' h' w'→Rel A M' s' h' a' w'→Q .normal a' w')→wpOps P ops Q (aY7 k l.length) a w
variable {N:Nat}{s s':List V}
theorem OpsW.nil (hk:K s h):OpsW P N ops [] s h K:=fun k _ A M0 M h0 w0 a w Q _ _ G R hQ=>by
 simp only[aYm,aYW,wpOps]
 exact hQ s h M a w hk G R
theorem OpsW.cons (hO:aET P O)(hs:dE P O ops o s h=some (v,h'))(hk:OpsW P N ops l (mC s o.dst v) h' K):OpsW P N ops (o::l) s h K:=fun k hl A M0 M h0 w0 a w Q hN hM G R hQ=>by
 have h0':ops[k]? =some o:=by simpa using (hl 0).symm
 simp only[aXG,aYh]
 rw[wpOps_cons]
 refine aFU hO R h0' (s':=mC s o.dst v) (h':=h') (by rw[f9,hs];rfl) fun a' w' M' G' R'=> ?_
 exact hk (k+1) (fun j=>by have:=hl (j+1);simpa[aYN,aYA 1 j]using this) A M0 M' h0 w0 a' w' Q hN hM (G.trans G') R' hQ
theorem OpsW.ghost (hg:Ghost N s h s' h')(hk:OpsW P N ops l s' h' K):OpsW P N ops l s h K:=fun k hl A M0 M h0 w0 a w Q hN hM G R hQ=>by
 obtain⟨t,ht⟩:=G.pre
 have hle:N≤M.length:=by rw[←ht];simp[hM]
 obtain⟨M',h1,h2,h3⟩:=hg A M a w hle R
 refine hk k hl A M0 M' h0 w0 a w Q hN hM ⟨?_,h2.hr,G.ext,fun g hg hl=>G.live g hg (h3 g hl)⟩ h2 hQ
 have:M0=M'.take N:=by rw[h1,←ht,←hM];simp
 rw[this]
 exact aYz _ _
theorem aLT :aET P (fun _ _ _=>none):=fun _ _ _ _ _ hh=>by cases hh
abbrev O0 :xK:=fun _ _ _=>none
theorem wS (hs:dE P O0 ops ⟨some t,op,ty,pos,aft,gd⟩ (aI n fr) h=some (v,h'))(k:OpsW P N ops l (aI n ((t,v)::fr)) h' K):OpsW P N ops (⟨some t,op,ty,pos,aft,gd⟩::l) (aI n fr) h K:=
 OpsW.cons aLT hs (by dsimp only;rw[aIE];exact k)
theorem wN (hs:dE P O0 ops ⟨none,op,ty,pos,aft,gd⟩ (aI n fr) h=some (v,h'))(k:OpsW P N ops l (aI n fr) h' K):OpsW P N ops (⟨none,op,ty,pos,aft,gd⟩::l) (aI n fr) h K:=
 OpsW.cons aLT hs k
open Classical in
noncomputable def aFL (f:FuncId)(h:Hp)(xs:List V)(r:V)(h':Hp):xK:=fun k h1 xs1=>if k=f∧h1=h∧xs1=xs then some (r,h')else none
theorem aKw {f:FuncId}{xs:List V}{r:V}(hc:Fn P f h xs r h'):aET P (aFL f h xs r h'):=fun k h1 xs1 r1 h2 hh=>by
 unfold aFL at hh
 split at hh
 ·rename_i he
  obtain⟨rfl,rfl,rfl⟩:=he
  simp only[aXn,aXL]at hh
  obtain⟨rfl,rfl⟩:=hh
  exact hc
 cases hh
theorem pV {f:FuncId}{xs:List V}{r:V}:aFL f h xs r h' f h xs=some (r,h'):=by simp[aFL]
theorem AB.rw {Q:Ex→List V→Hp→Prop}{id:Nat}(hr:OpsW P N l.toArray l s h (Q .normal)):AB P N (.region id l.toArray false) Q s h:=by
 intro A M0 M h0 w0 a w hN hM G R
 refine wp_region ?_
 have:=hr 0 (fun j=>by simp) A M0 M h0 w0 a w (fun e a' w'=> ∃x s' h' M',e=Ex.toExit x∧Q x s' h'∧Grow A M0 h0 w0 M' h' w'∧Rel A M' s' h' a' w') hN hM G R (fun s' h' M' a' w' hk G' R'=>⟨.normal,s',h',M',rfl,hk,G',R'⟩)
 rw[List.range_eq_range']
 simpa using this
variable {d:Option Tmp}{g:Option (Nat×Bool)}{x y z:Operand}{a b:V}
theorem mR (hx:b5 n fr x=some a):bY P O ⟨d,.move x,ty,pos,aft,g⟩ (aI n fr) h=some (a,h):=by simp[bY,dH hx]
theorem pS (hx:b5 n fr x=some a):bY P O ⟨d,.assign x,ty,pos,aft,g⟩ (aI n fr) h=some (a,h):=by simp[bY,dH hx]
theorem aTk {c:Bool}(hz:b5 n fr z=some (.sc (.bool c)))(hc:c=true)(hx:b5 n fr x=some a):bY P O ⟨d,.pick z x y,ty,pos,aft,g⟩ (aI n fr) h=some (a,h):=by subst hc;simp[bY,dH hx,dH hz]
theorem aTd {c:Bool}(hz:b5 n fr z=some (.sc (.bool c)))(hc:c=false)(hy:b5 n fr y=some a):bY P O ⟨d,.pick z x y,ty,pos,aft,g⟩ (aI n fr) h=some (a,h):=by subst hc;simp[bY,dH hy,dH hz]
theorem tD {bo:BinOp}{t u:TypeId}(hx:b5 n fr x=some a)(hy:b5 n fr y=some b)(hv:eT P bo t x y a b=some v):bY P O ⟨d,.binOp bo t x y u,ty,pos,aft,g⟩ (aI n fr) h=some (v,h):=by simp[bY,dH hx,dH hy,hv]
theorem aMG {uo:UnOp}{t:TypeId}(hx:b5 n fr x=some a)(hv:unV P uo a=some v):bY P O ⟨d,.unOp uo t x,ty,pos,aft,g⟩ (aI n fr) h=some (v,h):=by simp[bY,dH hx,hv]
theorem jX {t u:TypeId}(hx:b5 n fr x=some a)(hv:aB9 P h t u a=some v):bY P O ⟨d,.convert t u x,ty,pos,aft,g⟩ (aI n fr) h=some (v,h):=by simp[bY,dH hx,hv]
theorem aVt {e:TypeId}{i:Nat}(hx:b5 n fr x=some a)(ho:a.flatOk=true)(hl:h.length=i)(hh:h++[some ⟨e,a.cells⟩]=h'):bY P O ⟨d,.box e x,ty,pos,aft,g⟩ (aI n fr) h=some (.ptr i 0,h'):=by
 subst hl hh;simp[bY,dH hx,aLZ,ho]
theorem cY {e:TypeId}{i:Nat}{ti:TI}(ht:aU P e=some ti)(ho:(ti.zero.cells.toList.map fB).all V.one=true)(hl:h.length=i)(hh:h++[some ⟨e,ti.zero.cells.toList.map fB⟩]=h'):bY P O ⟨d,.alloc e,ty,pos,aft,g⟩ (aI n fr) h=some (.ptr i 0,h'):=by
 subst hl hh
 simp only[bY,aGL,ht]
 rw[if_pos ho]
theorem cA {t:TypeId}(hx:b5 n fr x=some a)(hv:gB P t h a=some v):bY P O ⟨d,.load t x,ty,pos,aft,g⟩ (aI n fr) h=some (v,h):=by simp[bY,dH hx,hv]
theorem bO {t:TypeId}(hx:b5 n fr x=some a)(hy:b5 n fr y=some b)(hv:vU P t h a b=some h'):bY P O ⟨d,.store t x y,ty,pos,aft,g⟩ (aI n fr) h=some (.sc undef,h'):=by simp[bY,dH hx,dH hy,hv]
theorem aVe {i o:Nat}(hx:b5 n fr x=some (.ptr i o)):bY P O ⟨d,.nilCheck x,ty,pos,aft,g⟩ (aI n fr) h=some (.ptr i o,h):=by simp[bY,dH hx,uZ]
theorem nZ {t:TypeId}{f:Nat}(hx:b5 n fr x=some a)(hv:aR P t a f=some v):bY P O ⟨d,.fieldAddr t x f,ty,pos,aft,g⟩ (aI n fr) h=some (v,h):=by simp[bY,dH hx,hv]
theorem aDs {t:TypeId}(hx:b5 n fr x=some a)(hy:b5 n fr y=some b)(hv:jW P t a b=some v):bY P O ⟨d,.indexAddr t x y,ty,pos,aft,g⟩ (aI n fr) h=some (v,h):=by simp[bY,dH hx,dH hy,hv]
theorem aRt {t:TypeId}(hx:b5 n fr x=some a)(hy:b5 n fr y=some b)(hv:aBB P t a b=some v):bY P O ⟨d,.index t x y,ty,pos,aft,g⟩ (aI n fr) h=some (v,h):=by simp[bY,dH hx,dH hy,hv]
theorem aHu {i:Nat}{vs:List V}(hx:b5 n fr x=some (.tup vs))(hv:vs[i]? =some v):bY P O ⟨d,.extract x i,ty,pos,aft,g⟩ (aI n fr) h=some (v,h):=by simp[bY,dH hx,aFM,hv]
theorem aKf {t:TypeId}(hx:b5 n fr x=some a)(hy:b5 n fr y=some b)(hv:aB1 P t a b h=some (v,h')):bY P O ⟨d,.makeSlice t x y,ty,pos,aft,g⟩ (aI n fr) h=some (v,h'):=by simp[bY,dH hx,dH hy,hv]
def t5 (n:Nat)(fr:List (Nat×V)):List Operand→Option (List V)
 | []=>some []
 |o::os=>match b5 n fr o,t5 n fr os with
  |some x,some xs=>some (x::xs)
  |_,_=>none
theorem aEg : ∀{os:List Operand}{xs:List V},t5 n fr os=some xs→evs (aI n fr) os=some xs
 | [],xs,hh=>by simp only[t5,aXn]at hh;subst hh;rfl
 |o::os,xs,hh=>by
  simp only[t5]at hh
  split at hh
  ·rename_i x ys h1 h2
   injection hh with hh
   subst hh
   simp only[evs,aXM,dH h1,aX8,aYi,aYn]
   have:=aEg h2
   unfold evs at this
   rw[this];rfl
  cases hh
def aFv (n:Nat)(fr:List (Nat×V)):List (Nat×Operand)→Option (List (Nat×V))
 | []=>some []
 |p::ps=>match b5 n fr p.2,aFv n fr ps with
  |some x,some xs=>some ((p.1,x)::xs)
  |_,_=>none
theorem aHh : ∀{ps:List (Nat×Operand)}{xs:List (Nat×V)},aFv n fr ps=some xs→aAv (aI n fr) ps=some xs
 | [],xs,hh=>by simp only[aFv,aXn]at hh;subst hh;rfl
 |p::ps,xs,hh=>by
  simp only[aFv]at hh
  split at hh
  ·rename_i x ys h1 h2
   injection hh with hh
   subst hh
   simp only[aAv,aXM,dH h1,aX8,aYi,aYn,aXs]
   have:=aHh h2
   unfold aAv at this
   rw[this];rfl
  cases hh
def aRV (n:Nat)(fr:List (Nat×V)):Operand→Option V
 | .const (.slice none 0 0)=>some (.row none 1 [])
 |o=>(b5 n fr o).map V.softA
theorem aSH {o:Operand}{x:V}(hh:aRV n fr o=some x):evB (aI n fr) o=some x:=by
 unfold aRV at hh
 split at hh
 ·exact hh
 rename_i hne
 simp only[aXy]at hh
 obtain⟨z,hz,rfl⟩:=hh
 have h2:=dH hz
 unfold evB
 split
 ·exact(hne rfl).elim
 rw[h2];rfl
def zX (n:Nat)(fr:List (Nat×V)):List (Nat×Operand)→Option (List (Nat×V))
 | []=>some []
 |p::ps=>match aRV n fr p.2,zX n fr ps with
  |some x,some xs=>some ((p.1,x)::xs)
  |_,_=>none
theorem aGo : ∀{ps:List (Nat×Operand)}{xs:List (Nat×V)},zX n fr ps=some xs→aBP (aI n fr) ps=some xs
 | [],xs,hh=>by simp only[zX,aXn]at hh;subst hh;rfl
 |p::ps,xs,hh=>by
  simp only[zX]at hh
  split at hh
  ·rename_i x ys h1 h2
   injection hh with hh
   subst hh
   simp only[aBP,aXM,aSH h1,aX8,aYi,aYn,aXs]
   have:=aGo h2
   unfold aBP at this
   rw[this];rfl
  cases hh
theorem cE {t:TypeId}{ps:List (Nat×Operand)}{xs:List (Nat×V)}(hp:aFv n fr ps=some xs)(hv:yX P t xs=some v):bY P O ⟨d,.build t ps.toArray,ty,pos,aft,g⟩ (aI n fr) h=some (v,h):=by
 simp[bY,aHh hp,hv]
theorem pT {t:TypeId}{len:Nat}{ps:List (Nat×Operand)}{xs:List (Nat×V)}(hp:zX n fr ps=some xs)(hv:kX P t len xs h=some (v,h')):bY P O ⟨d,.buildSlice t len ps.toArray,ty,pos,aft,g⟩ (aI n fr) h=some (v,h'):=by
 simp[bY,aGo hp,hv]
def aHb (n:Nat)(fr:List (Nat×V)):Option Operand→Option (Option V)
 |none=>some none
 |some o=>match b5 n fr o with
  |some x=>some (some x)
  |none=>none
theorem aIq {o:Option Operand}{x:Option V}(hh:aHb n fr o=some x):uJ (aI n fr) o=some x:=by
 cases o with
 |none=>exact hh
 |some o=>
  simp only[aHb]at hh
  split at hh
  ·rename_i y hy;injection hh with hh;subst hh;simp[uJ,dH hy]
  cases hh
theorem cW {t:TypeId}{lo hi:Option Operand}{vl vh:Option V}(hx:b5 n fr x=some a)(h1:aHb n fr lo=some vl)(h2:aHb n fr hi=some vh)(hv:lN P t h a vl vh=some v):bY P O ⟨d,.slice t x lo hi none,ty,pos,aft,g⟩ (aI n fr) h=some (v,h):=by
 simp[bY,dH hx,aIq h1,aIq h2,hv]
theorem aQK {t:TypeId}{lo:Option Operand}{hi mx:Operand}{vl:Option V}{vh vm:V}(hx:b5 n fr x=some a)(h1:aHb n fr lo=some vl)(h2:b5 n fr hi=some vh)(h3:b5 n fr mx=some vm)(hv:aCw P t a vl vh vm=some v):bY P O ⟨d,.slice t x lo (some hi) (some mx),ty,pos,aft,g⟩ (aI n fr) h=some (v,h):=by
 simp[bY,dH hx,aIq h1,dH h2,dH h3,hv]
variable {ws:List Operand}{ts:List TypeId}{xs:List V}
theorem aSu {t:TypeId}(hx:b5 n fr x=some a)(hv:aGR P t a=some v):bY P O ⟨d,.call ⟨.builtin .len,#[x],#[t]⟩,ty,pos,aft,g⟩ (aI n fr) h=some (v,h):=by
 have:evs (aI n fr) [x]=some [a]:=aEg (by simp[t5,hx])
 simp[bY,zP,this,hv]
theorem yC {t t':TypeId}(hx:b5 n fr x=some a)(hy:b5 n fr y=some b)(hv:nF P t t' a b h=some (v,h')):bY P O ⟨d,.call ⟨.builtin .append,#[x,y],#[t,t']⟩,ty,pos,aft,g⟩ (aI n fr) h=some (v,h'):=by
 have:evs (aI n fr) [x,y]=some [a,b]:=aEg (by simp[t5,hx,hy])
 simp[bY,zP,this,hv]
theorem aFf {t t':TypeId}(hx:b5 n fr x=some a)(hy:b5 n fr y=some b)(hv:aHt P t a b h=some (v,h')):bY P O ⟨d,.call ⟨.builtin .copy,#[x,y],#[t,t']⟩,ty,pos,aft,g⟩ (aI n fr) h=some (v,h'):=by
 have:evs (aI n fr) [x,y]=some [a,b]:=aEg (by simp[t5,hx,hy])
 simp[bY,zP,this,hv]
theorem mA {f:FuncId}{ts:Array TypeId}(hx:t5 n fr ws=some xs)(hv:O f h xs=some (v,h')):bY P O ⟨d,.call ⟨.value (.func f),ws.toArray,ts⟩,ty,pos,aft,g⟩ (aI n fr) h=some (v,h'):=by
 simp[bY,zP,aEg hx,hv]
theorem wC {N:Nat}{f:FuncId}{ts:Array TypeId}{K:List V→Hp→Prop}{l:List Oper}(hx:t5 n fr ws=some xs)(hc:Fn P f h xs v h')(k:OpsW P N ops l (aI n ((t,v)::fr)) h' K):OpsW P N ops (⟨some t,.call ⟨.value (.func f),ws.toArray,ts⟩,ty,pos,aft,none⟩::l) (aI n fr) h K:=
 OpsW.cons (aKw hc) (sv (mA hx pV)) (by dsimp only;rw[aIE];exact k)
theorem wCG {N:Nat}{f:FuncId}{ts:Array TypeId}{K:List V→Hp→Prop}{l:List Oper}{j u:Nat}{want c:Bool}(hj:(ops[j]?).bind (·.dst)=some u)(hl:b5 n fr (.tmp u)=some (.sc (.bool c)))(hcw:c=want)(hx:t5 n fr ws=some xs)(hc:Fn P f h xs v h')(k:OpsW P N ops l (aI n ((t,v)::fr)) h' K):OpsW P N ops (⟨some t,.call ⟨.value (.func f),ws.toArray,ts⟩,ty,pos,aft,some (j,want)⟩::l) (aI n fr) h K:=
 OpsW.cons (aKw hc) (svG hj hl hcw (mA hx pV)) (by dsimp only;rw[aIE];exact k)
end
section
variable {P:Program}{h h':Hp}{t e:TypeId}{ti:TI}{B:Blk}{i off:Nat}{v x:V}{cs:List V}
theorem qG (ht:aU P t=some ti)(hd:cI ti.desc=false)(hc:cs.head? =some v):jJ P t cs=some v:=by simp[jJ,ht,hd,hc]
theorem aDI (ht:aU P t=some ti)(hd:cI ti.desc=true){ds:List V}(hl:ti.size≤cs.length)(hc:cs.take ti.size=ds):jJ P t cs=some (.agg ds):=by simp[jJ,ht,hd,hl,hc]
theorem ldP (hb:h[i]? =some (some ⟨e,cs⟩))(hp:jJ P t (cs.drop off)=some v):gB P t h (.ptr i off)=some v:=by simp[gB,hb,hp]
theorem ldE {α:Type}{E:α→V}{l:List α}{y:α}(hi:l[i]? =some y)(hp:jJ P t ((E y).cells.drop off)=some v):gB P t h (.eptr (l.map E) i off)=some v:=by simp[gB,hi,hp]
theorem jE (ht:aU P t=some ti)(hb:h[i]? =some (some ⟨e,cs⟩))(h1:x.flatOk=true)(h2:x.cells.length=ti.size)(h3:off+ti.size≤cs.length)(h4:h.set i (some ⟨e,splice cs off x.cells⟩)=h'):vU P t h (.ptr i off) x=some h':=by
 subst h4
 simp only[vU,ht,hb]
 rw[if_pos ⟨h1,h2,h3⟩]
theorem tH {fs:Array Field}{sz by_:Nat}{z:Value}{pl:Array (Nat×Nat)}{ps:List (Nat×V)}(ht:aU P t=some ⟨.struct fs,sz,by_,z⟩)(hp:lD P t=some pl)(hf:r4 (fun i=>pl[i]?) (z.cells.toList.map fB) ps=some cs):yX P t ps=some (.agg cs):=by
 simp only[yX,ht,hp]
 rw[hf];rfl
theorem nR {m sz by_:Nat}{z:Value}{ps:List (Nat×V)}(ht:aU P t=some ⟨.array m e,sz,by_,z⟩)(he:aU P e=some ti)(hf:r4 (fun i=>some (i*ti.size,ti.size)) (z.cells.toList.map fB) ps=some cs):yX P t ps=some (.agg cs):=by
 simp only[yX,ht,he]
 rw[hf];rfl
theorem aU0 {sz by_ len:Nat}{z:Value}{ps:List (Nat×V)}{ag:Bool}(ht:aU P t=some ⟨.slice e,sz,by_,z⟩)(he:aU P e=some ti)(h1:len*ti.size≤2^24∧0<len∧0<ti.size)(hag:cI ti.desc=ag)
  (hf:r4 (fun i=>some (i*ti.size,ti.size)) (((Array.range (len*ti.size)).map (ti.zero.cells[· % ti.zero.cells.size]!)).toList.map fB) ps=some cs) (h2:cs.all V.one=true∧cs.length=len*ti.size) (hl:h.length=i) (hh:h++[some ⟨e,cs⟩]=h'):
  kX P t len ps h=some (.sl i 0 len ti.size ag,h'):=by
 subst hl hh hag
 simp only[kX,ht,he]
 rw[if_pos h1]
 simp only[hf]
 rw[if_pos h2]
end
section
variable {P:Program}{h h':Hp}{t e:TypeId}{ti:TI}{i off b:Nat}{v:V}{α:Type}{E:α→V}{l m:List α}{y:α}{k:IntKind}{j:Int}{nl:Option Bool}{sz by_:Nat}{z:Value}{ag:Bool}
theorem lH (hx:bU l j=some y):0≤j∧j<l.length∧l[j.toNat]? =some y:=by
 unfold bU at hx
 split at hx
 ·have:=(aXj.1 hx).1
  exact⟨by assumption,by omega,hx⟩
 cases hx
theorem iaR (ht:aU P t=some ⟨.slice e,sz,by_,z⟩)(he:aU P e=some ti)(hx:bU l j=some y):jW P t (.row nl ti.size (l.map E)) (.sc (.int k j))=some (.eptr (l.map E) j.toNat 0):=by
 obtain⟨h1,h2,_⟩:=lH hx
 simp[jW,ht,tE,he,h1,h2]
theorem iaS {q:Nat}(hn:l.length=q)(ht:aU P t=some ⟨.slice e,sz,by_,z⟩)(he:aU P e=some ti)(h1:ti.size=1)(hx:bU l j=some y):jW P t (.sl b 0 q 1 ag) (.sc (.int k j))=some (.ptr b j.toNat):=by
 obtain⟨h2,h3,_⟩:=lH hx
 subst hn
 simp[jW,ht,tE,he,h1,h2,h3]
theorem ldX (ht:aU P t=some ti)(hd:cI ti.desc=false)(hb:h[b]? =some (some ⟨e,l.map E⟩))(hx:bU l j=some y):gB P t h (.ptr b j.toNat)=some (E y):=by
 obtain⟨_,_,h3⟩:=lH hx
 simp[gB,hb,jJ,ht,hd,h3]
theorem ldR (hx:bU l j=some y)(hp:jJ P t ((E y).cells.drop off)=some v):gB P t h (.eptr (l.map E) j.toNat off)=some v:=ldE (lH hx).2.2 hp
theorem aJm (i:Nat)(hi:i<l.length)(y:α):splice (l.map E) i [E y]=(l.set i y).map E:=by
 rw[List.map_set]
 unfold splice
 apply aX5
 intro m
 rw[List.getElem?_set]
 by_cases hm:i=m
 ·subst hm
  simp[List.getElem?_append,hi,aYc (Nat.le_of_lt hi)]
 rcases aXQ m i with h1|h1
 ·rw[aXk (by simp;omega),aXk (by simp;omega)]
  simp[hm,h1]
 rw[aXt (by simp;omega)]
 simp only[aXI,aXD,aXE,aXG,aYm,aYu,hm,if_false]
 congr 1;omega
theorem aWB {w:α}(ht:aU P t=some ti)(hs:ti.size=1)(hb:h[b]? =some (some ⟨e,l.map E⟩))(hx:bU l j=some w)(ho:(E y).one=true)(hc:(E y).cells=[E y])(hh:h.set b (some ⟨e,(l.set j.toNat y).map E⟩)=h'):vU P t h (.ptr b j.toNat) (E y)=some h':=by
 obtain⟨_,h2,h3⟩:=lH hx
 have h4:=(aXj.1 h3).1
 subst hh
 simp only[vU,ht,hb]
 rw[if_pos ⟨by simp[V.flatOk,hc,ho],by simp[hc,hs],by rw[hs];simp;omega⟩,hc,aJm _ h4]
theorem aGQ : ∀ns:List Int,vK (ns.map (eI .u8))=some ns
 | []=>rfl
 |n::ns=>by simp only[aXF,eI,vK];rw[show vK (List.map (fun x=>V.sc (Value.int IntKind.u8 x)) ns)=some ns from aGQ ns];rfl
theorem aLN {a b':TypeId}{ns:List Int}{x:V}{sz1 by1 sz2 by2 sz3 by3 q:Nat}{z1 z2 z3:Value}(ha:aU P a=some ⟨.slice e,sz1,by1,z1⟩)(hb:aU P b'=some ⟨.string,sz2,by2,z2⟩)(he:aU P e=some ⟨.int .u8,sz3,by3,z3⟩)(hs:i3 h 1 x=some (ns.map (eI .u8),q)):aB9 P h a b' x=some (.sc (.string (sY ns))):=by
 simp only[aB9,sO,ha,hb,he,hs,aGQ,aXs]
theorem aWQ (ht:aU P t=some ⟨.slice e,sz,by_,z⟩){k:Nat}:aGR P t (.row nl k (l.map E))=some (.sc (.int .i64 l.length)):=by simp[aGR,ht]
theorem aW0 (ht:aU P t=some ⟨.slice e,sz,by_,z⟩){k m:Nat}:aGR P t (.sl b off m k ag)=some (.sc (.int .i64 m)):=by simp[aGR,ht]
theorem aR9 {q:Nat}(hn:l.length=q)(ht:aU P t=some ⟨.slice e,sz,by_,z⟩)(he:aU P e=some ti)(h1:ti.zero.cells.size=1∧ti.size=1∧1≤ti.bytes)(hb:h[b]? =some (some ⟨e,l.map E⟩)){s:V}(hs:i3 h 1 s=some (m.map E,m.length))
  {r:List α} (ha:eD ti.bytes l m=some r) (hl:h.length=i) (hh:h.set b none++[some ⟨e,r.map E⟩]=h'):nF P t t (.sl b 0 q 1 ag) s h=some (.sl i 0 r.length 1 ag,h'):=by
 obtain⟨h2,h3,h4⟩:=h1
 subst hn
 unfold eD at ha
 split at ha
 ·rename_i hlim
  injection ha with ha
  subst ha hl hh
  have hx:i3 h ti.size s=some (m.map E,m.length):=by rw[h3];exact hs
  simp only[nF,ne_eq,not_true,if_false,ht,he]
  rw[if_pos ⟨by rw[h2,h3],by omega,h4⟩]
  simp only[hx,hb]
  rw[if_pos ⟨h3.symm,trivial,by simp,hlim⟩]
  simp[aXm]
 cases ha
theorem aWg (ht:aU P t=some ⟨.slice e,sz,by_,z⟩)(he:aU P e=some ti)(h1:ti.zero.cells.size=1∧ti.size=1∧1≤ti.bytes){s:V}(hs:i3 h 1 s=some (m.map E,m.length))(hag:cI ti.desc=ag){kk:Nat}
  {r:List α} (ha:eD ti.bytes [] m=some r) (hl:h.length+1=i) (hh:h++[none]++[some ⟨e,r.map E⟩]=h'):nF P t t (.row (some true) kk []) s h=some (.sl i 0 r.length 1 ag,h'):=by
 obtain⟨h2,h3,h4⟩:=h1
 unfold eD at ha
 split at ha
 ·rename_i hlim
  injection ha with ha
  subst ha hl hh hag
  have hx:i3 h ti.size s=some (m.map E,m.length):=by rw[h3];exact hs
  simp only[nF,ne_eq,not_true,if_false,ht,he]
  rw[if_pos ⟨by rw[h2,h3],by omega,h4⟩]
  simp only[hx]
  rw[if_pos (by simpa using hlim)]
  simp[h3]
 cases ha
theorem aW7 (ht:aU P t=some ⟨.slice e,sz,by_,z⟩)(he:aU P e=some ti)(h1:ti.zero.cells.size=1∧ti.size=1∧1≤ti.bytes)(hE: ∀x,(E x).cells=[E x]){s:V}(hs:i3 h 1 s=some (m.map E,m.length))(hm:0<m.length)(hag:cI ti.desc=ag)
  {r:List α} (ha:eD ti.bytes l m=some r) (hl:h.length=i) (hh:h++[some ⟨e,r.map E⟩]=h'):nF P t t (.row (some false) 1 (l.map E)) s h=some (.sl i 0 r.length 1 ag,h'):=by
 obtain⟨h2,h3,h4⟩:=h1
 have hf:(l.map E).flatMap V.cells=l.map E:=by
  clear ha
  induction l with
  |nil=>rfl
  |cons x l ih=>simp only[aXF,aXu,hE,ih];rfl
 unfold eD at ha
 split at ha
 ·rename_i hlim
  injection ha with ha
  subst ha hl hh hag
  have hx:i3 h ti.size s=some (m.map E,m.length):=by rw[h3];exact hs
  simp only[nF,ne_eq,not_true,if_false,ht,he]
  rw[if_pos ⟨by rw[h2,h3],by omega,h4⟩]
  simp only[hx]
  rw[if_pos ⟨.inr h3.symm,hm,by simpa using hlim⟩]
  simp[h3,hf]
 cases ha
theorem aEA (hE: ∀x,(E x).cells=[E x]):i3 h 1 (.row nl 1 (m.map E))=some (m.map E,m.length):=by
 have:(m.map E).flatMap V.cells=m.map E:=by
  induction m with
  |nil=>rfl
  |cons x m ih=>simp only[aXF,aXu,hE,ih];rfl
 simp only[i3]
 rw[if_pos (.inl trivial),this];simp
theorem aRc {q:Nat}(hn:m.length=q)(hb:h[b]? =some (some ⟨e,m.map E⟩)):i3 h 1 (.sl b 0 q 1 ag)=some (m.map E,m.length):=by
 subst hn
 simp only[i3,hb]
 rw[if_pos ⟨trivial,by simp⟩];simp[aXm]
theorem aWD {kk:Nat}:i3 h 1 (.row nl kk [])=some (([]:List α).map E,([]:List α).length):=by simp[i3]
theorem mkS {k1 k2:IntKind}{y:α}(ht:aU P t=some ⟨.slice e,sz,by_,z⟩)(he:aU P e=some ti)(h1:1≤ti.bytes∧ti.size=1∧ti.zero.cells.size=1)(hz:ti.zero.cells.toList.map (V.soft∘fB)=[E y])(ho:(E y).one=true)(hag:cI ti.desc=ag){r:List α}
  (hm:mks ti.bytes y j=some r) (hl:h.length=i) (hh:h++[some ⟨e,r.map E⟩]=h'):aB1 P t (.sc (.int k1 j)) (.sc (.int k2 j)) h=some (.sl i 0 r.length 1 ag,h'):=by
 obtain⟨h2,h3,h4⟩:=h1
 unfold mks at hm
 split at hm
 ·rename_i hlim
  injection hm with hm
  subst hm hl hh hag
  simp only[aB1,ht,he]
  rw[if_pos ⟨hlim.1,aYo _,hlim.2,h2,by omega,by rw[h4,h3],by rw[hz];simp[ho]⟩,hz]
  simp only[h3,ite_self]
  have: ∀n,(aXC n [E y]).flatten=(aXC n y).map E:=fun n=>by
   induction n with
   |zero=>rfl
   |succ n ih=>simp only[aX9,aYe,ih,aXF];rfl
  rw[this];simp
 cases hm
theorem aJZ {q:Nat}{e2:TypeId}(hn:l.length=q)(ht:aU P t=some ⟨.slice e,sz,by_,z⟩)(he:aU P e=some ti)(h1:ti.size=1)(hb:h[b]? =some (some ⟨e2,l.map E⟩)){s:V}(hs:i3 h 1 s=some (m.map E,m.length))(hh:h.set b (some ⟨e2,(nT l m).map E⟩)=h'):
  aHt P t (.sl b 0 q 1 ag) s h=some (.sc (.int .i64 (min m.length l.length:Nat)),h'):=by
 subst hh hn
 simp only[aHt,ht,he,h1,hs,hb]
 rw[if_pos ⟨trivial,by omega,by simp⟩]
 simp only[aXn,aXL,true_and]
 congr 3
 unfold splice nT
 simp only[List.map_append,aYb,aYO,aYH,aYp,aYv,Nat.mul_one,aXD,aXE]
 congr 1
 ·rw[Nat.min_comm,←List.take_take,aXm (i:=m.length) (by simp)]
 rcases aYT m.length l.length with hle|hle
 ·congr 1;omega
 rw[aXz (by simp;omega),aXz (by simp;omega)]
theorem vX (ht:aU P t=some ⟨.slice e,sz,by_,z⟩)(he:aU P e=some ti){lo hi:Option V}{a c:Int}{r:List α}(h1:qB lo=some a)(h2:xO hi l.length=some c)(hs:sub l a c=some r):lN P t h (.row nl ti.size (l.map E)) lo hi=some (.row (nlS nl) ti.size (r.map E)):=by
 unfold sub at hs
 split at hs
 ·rename_i hc
  injection hs with hs
  subst hs
  have h2':xO hi (l.map E).length=some c:=by simpa using h2
  simp only[lN,ht,he,h1,h2']
  rw[if_pos ⟨trivial,hc.1,hc.2.1,by simpa using hc.2.2⟩]
  simp[aYb,aYO]
 cases hs
end
section
variable {P:Program}{t e:TypeId}{ti:TI}{sz by_:Nat}{z:Value}{α:Type}{E:α→V}{l:List α}{nl:Option Bool}
theorem slM (ht:aU P t=some ⟨.slice e,sz,by_,z⟩)(he:aU P e=some ti){lo:Option V}{a c:Int}{k1 k2:IntKind}{r:List α}(h1:qB lo=some a)(hs:sub l a c=some r):aCw P t (.row nl ti.size (l.map E)) lo (.sc (.int k1 c)) (.sc (.int k2 c))=some (.row (some false) ti.size (r.map E)):=by
 unfold sub at hs
 split at hs
 ·rename_i hc
  injection hs with hs
  subst hs
  simp only[aCw,ht,h1,tE,he]
  rw[if_pos ⟨trivial,hc.1,hc.2.1,trivial,by simpa using hc.2.2⟩]
  simp[aYb,aYO]
 cases hs
end
section
variable (P:Program)(t:TypeId)(xo yo:Operand)
theorem aRl {k:IntKind}{a b r:Int}(h:quo k a b=some r):eT P .quo t xo yo (.sc (.int k a)) (.sc (.int k b))=some (.sc (.int k r)):=by
 rw[aS6];unfold quo at h;split at h
 ·cases h
 rename_i hb;injection h with h;rw[if_neg hb,h]
theorem aRi {k:IntKind}{a b r:Int}(h:rem a b=some r):eT P .rem t xo yo (.sc (.int k a)) (.sc (.int k b))=some (.sc (.int k r)):=by
 rw[aT8];unfold rem at h;split at h
 ·cases h
 rename_i hb;injection h with h;rw[if_neg hb,h]
theorem aQU {k k':IntKind}{a b r:Int}(h:shl k a b=some r):eT P .shl t xo yo (.sc (.int k a)) (.sc (.int k' b))=some (.sc (.int k r)):=by
 rw[aUb];unfold shl at h;split at h
 ·cases h
 rename_i hb;injection h with h;rw[if_neg hb,h]
theorem aQG {k k':IntKind}{a b r:Int}(h:shr k a b=some r):eT P .shr t xo yo (.sc (.int k a)) (.sc (.int k' b))=some (.sc (.int k r)):=by
 rw[aTo];unfold shr at h;split at h
 ·cases h
 rename_i hb;injection h with h;rw[if_neg hb,h]
end
section
variable {P:Program}{N n:Nat}{Q:Ex→List V→Hp→Prop}{s:List V}{h h':Hp}{fr:List (Nat×V)}
theorem AB.cnd {c:Operand}{x y:Code}{t:Bool}(hc:b5 n fr c=some (.sc (.bool t)))(h1:t=true→AB P N x Q (aI n fr) h)(h2:t=false→AB P N y Q (aI n fr) h):AB P N (.cond c x y) Q (aI n fr) h:=AB.cond (dH hc) h1 h2
def num :Nat→List V→List (Nat×V)
 |_,[]=>[]
 |i,x::xs=>(i,x)::num (i+1) xs
theorem aMC : ∀{xs:List V}{i t:Nat}{y:V},i5 (num i xs) t=some y→i≤t∧xs[t-i]? =some y
 | [],i,t,y,hy=>by cases hy
 |x::xs,i,t,y,hy=>by
  simp only[num,i5]at hy
  cases hb:aYw i t with
  |true=>
   rw[hb]at hy
   have:=aXR hb
   subst this
   simp only[cond_true,aXn]at hy
   subst hy
   simp
  |false=>
   rw[hb]at hy
   obtain⟨h1,h2⟩:=aMC (xs:=xs) (i:=i+1) hy
   refine⟨by omega, ?_⟩
   rw[show t-i=(t-(i+1))+1 by omega]
   simpa using h2
def aEo (P:Program)(fn:Func)(N:Nat)(r:V)(h':Hp):Ex→List V→Hp→Prop:=fun x s h=>(∀id,x≠ .exit id)∧ ∃r1,aCv P fn s h=some r1∧Ghost N (aI 1 [(0,r1)]) h (aI 1 [(0,r)]) h'
theorem aVn {f:FuncId} {fn:Func} {c:Code} {args:List V} {r:V} (hf:P.funcs[f]? =some fn) (hb:fn.body=some c) (hn:(fn.name == "runtime.NumGoroutine")=false) (hnt:fn.ntmps=n) (hal:args.length≤n) (hN:h.length=N) (hfr:num 0 args=fr)
  (hh:AB P N c (aEo P fn N r h') (aI n fr) h):Fn P f h args r h':=by
 intro A M w vs H hargs
 refine .inl ⟨aLi hf (by rw[hb];rfl) hn _ _,calls_of_wp hf hb ?_⟩
 have R0:=aQo (fn:=fn) H hargs
 have R1:Rel A M (aI n fr) h {tmps:=vs.toArray++Array.replicate (fn.ntmps-vs.toArray.size) undef,defers:=[]} w:=by
  refine⟨R0.hr,⟨?_,fun t x hx=> ?_⟩,R0.defers⟩
  ·rw[zM,←R0.sr.len]
   simp[aGM,hnt];omega
  have ht:t<n:=by have:=(List.getElem?_eq_some_iff.1 hx).1;rw[zM]at this;exact this
  rw[aD1 ht]at hx
  injection hx with hx
  cases hl:i5 fr t with
  |none=>rw[hl]at hx;subst hx;unfold VR;trivial
  |some z=>
   rw[hl]at hx
   subst hx hfr
   obtain⟨_,h2⟩:=aMC hl
   refine R0.sr.val t z ?_
   unfold aGM
   rw[List.getElem?_append_left (by have:=(List.getElem?_eq_some_iff.1 h2).1;omega)]
   simpa using h2
 refine Code.wp_mono (fun e a' w' ⟨x,s1,h1,M1,he,⟨hx,r1,hres,hg⟩,G,R2⟩=> ?_) (hh A M M h w _ w hN (by rw[H.len];exact hN) (Grow.refl H) R1)
 subst he
 obtain⟨t,ht⟩:=G.pre
 have hMN:M.length=N:=by rw[H.len];exact hN
 obtain⟨v,hv,hr⟩:=aPn R2 hres
 have Rv:Rel A M1 (aI 1 [(0,r1)]) h1 {tmps:= #[v],defers:=[]} w':=⟨R2.hr,⟨rfl,fun t x hx=>by
  cases t with
  |zero=>simp[aI,i5]at hx;subst hx;exact hr
  |succ t=>rw[List.getElem?_eq_none (by rw[zM];omega)]at hx;cases hx⟩,rfl⟩
 obtain⟨M',e1,R3,l3⟩:=hg A M1 _ w' (by rw[←ht];simp[hMN]) Rv
 have hr':VR (Xs A M' h') M' w' r v:=R3.sr.val 0 r rfl
 have G':Grow A M h w M' h' w':=⟨by
  have:M=M'.take N:=by rw[e1,←ht,←hMN];simp
  rw[this]
  exact List.take_prefix _ _,R3.hr,G.ext,fun g hg hl=>G.live g hg (l3 g hl)⟩
 cases x with
 |normal=>exact⟨R2.defers,v,hv,v,rfl,M',G',hr'⟩
 |ret=>exact⟨R2.defers,v,hv,v,rfl,M',G',hr'⟩
 |exit id=>exact absurd rfl (hx id)
theorem aCx {fn:Func}{r r1:V}(hr:aCv P fn s h=some r1)(hg:Ghost N (aI 1 [(0,r1)]) h (aI 1 [(0,r)]) h'):aEo P fn N r h' .ret s h:=⟨fun id hh=>(by cases hh),r1,hr,hg⟩
theorem aPD {fn:Func}{r r1:V}(hr:aCv P fn s h=some r1)(hg:Ghost N (aI 1 [(0,r1)]) h (aI 1 [(0,r)]) h'):aEo P fn N r h' .normal s h:=⟨fun id hh=>(by cases hh),r1,hr,hg⟩
variable {fn:Func}
theorem rvT {t:Nat}{x:V}(hx:b5 n fr (.tmp t)=some x):nS P (aI n fr) h (.tmp t)=some x:=dH hx
theorem rvC {t:Nat}{ty:TypeId}{v:V}{i o:Nat}(hx:b5 n fr (.tmp t)=some (.ptr i o))(hv:gB P ty h (.ptr i o)=some v):nS P (aI n fr) h (.cell t ty)=some v:=by
 have:=dH hx
 simp only[ev]at this
 simp[nS,this,uZ,hv]
theorem aV6 (hr:fn.results= #[]):aCv P fn s h=some (.tup []):=by simp[aCv,hr]
theorem aUV {a:ResultVar}{x:V}(hr:fn.results= #[a])(h1:nS P s h a=some x):aCv P fn s h=some x:=by simp[aCv,hr,h1]
theorem bL {a b:ResultVar}{x y:V}(hr:fn.results= #[a,b])(h1:nS P s h a=some x)(h2:nS P s h b=some y):aCv P fn s h=some (.tup [x,y]):=by simp[aCv,hr,h1,h2]
theorem wL {a b c:ResultVar}{x y z:V}(hr:fn.results= #[a,b,c])(h1:nS P s h a=some x)(h2:nS P s h b=some y)(h3:nS P s h c=some z):aCv P fn s h=some (.tup [x,y,z]):=by simp[aCv,hr,h1,h2,h3]
end
theorem qR {α:Type}{E:α→V}{f:Nat→Nat}(hE: ∀x,(E x).rn f=E x): ∀l:List α,V.rns f (l.map E)=l.map E
 | []=>rfl
 |x::l=>by simp[V.rns,hE,qR hE l]
theorem aFs {α:Type}{E:α→V}{f:Nat→Nat}{vn:Nat→Bool}(hE: ∀x,(E x).rn f=E x)(l:List α):V.les vn (l.map E) (V.rns f (l.map E)):=by rw[qR hE];exact V.les_refl _ _
theorem V.les_nil {vn:Nat→Bool}:V.les vn [] []:=by unfold V.les;trivial
theorem V.les_cons {vn:Nat→Bool}{c d:V}{cs ds:List V}(h:V.le vn c d)(k:V.les vn cs ds):V.les vn (c::cs) (d::ds):=by unfold V.les;exact⟨h,k⟩
theorem b7 {α:Type}(l:List α)(i:Nat)(x:α):(l.set i x).length=l.length:=aY6
theorem b6 {α:Type}(l m:List α):(nT l m).length=l.length:=by simp[nT];omega
section
variable {P:Program}{f:FuncId}{h hb hb' hs hs':Hp}{xs args:List V}{r v:V}
theorem j7 (h o:Hp):fE h [] o=h:=by cases h<;>cases o<;>rfl
theorem Fn.pure (hc:Fn P f [] xs r [])(hx:V.rns (sg [] h.length) xs=xs)(hr:r.rn (sg [] h.length)=r):Fn P f h xs r h:=by
 have:=Fn.frame (hb:=h) hc [] rfl (by simp) (by simp) (fun i b hi=>by simp at hi)
 rw[hx,hr]at this
 simpa[kR,j7,r5]using this
def Lend (σ:Nat→Nat)(hb:Hp):List Nat→Hp→Prop
 | [],[]=>True
 |b::ρ,none::hs=>hb[b]? =some none∧Lend σ hb ρ hs
 |b::ρ,some B::hs=>(∃cs,hb[b]? =some (some ⟨B.e,cs⟩)∧V.rns σ B.cells=cs)∧Lend σ hb ρ hs
 |_,_=>False
theorem Lend.nil {σ:Nat→Nat}:Lend σ hb [] []:=trivial
theorem Lend.cons {σ:Nat→Nat}{b:Nat}{ρ:List Nat}{e:TypeId}{cs ds:List V}(h1:hb[b]? =some (some ⟨e,ds⟩))(h2:V.rns σ cs=ds)(k:Lend σ hb ρ hs):Lend σ hb (b::ρ) (some ⟨e,cs⟩::hs):=⟨⟨ds,h1,h2⟩,k⟩
theorem Lend.len {σ:Nat→Nat}: ∀{ρ:List Nat}{hs:Hp},Lend σ hb ρ hs→ρ.length=hs.length
 | [],[],_=>rfl
 |_::ρ,none::hs,hh=>by simp[Lend.len (ρ:=ρ) hh.2]
 |_::ρ,some B::hs,hh=>by simp[Lend.len (ρ:=ρ) hh.2]
 | [],_::_,hh=>hh.elim
 |_::_,[],hh=>hh.elim
theorem Lend.get {σ:Nat→Nat}: ∀{ρ:List Nat}{hs:Hp},Lend σ hb ρ hs→ ∀(i b:Nat),ρ[i]? =some b→hb[b]? =(r5 σ hs)[i]?
 | [],[],_,i,b,hi=>by simp at hi
 |c::ρ,none::hs,hh,0,b,hi=>by simp at hi;subst hi;simpa[r5]using hh.1
 |c::ρ,none::hs,hh,i+1,b,hi=>by
  have:=Lend.get hh.2 i b (by simpa using hi)
  simpa[r5]using this
 |c::ρ,some B::hs,hh,0,b,hi=>by
  simp at hi;subst hi
  obtain⟨cs,h1,h2⟩:=hh.1
  rw[h1,←h2];simp[r5,Blk.rn]
 |c::ρ,some B::hs,hh,i+1,b,hi=>by
  have:=Lend.get hh.2 i b (by simpa using hi)
  simpa[r5]using this
 | [],_::_,hh,_,_,_=>hh.elim
 |_::_,[],hh,_,_,_=>hh.elim
theorem Fn.lendB (hc:Fn P f hs args r hs')(ρ:List Nat)(hnd:ρ.Nodup)(hlt:ρ.all (fun b=>aZb b hb.length)=true)(hl:Lend (sg ρ hb.length) hb ρ hs)(hx:V.rns (sg ρ hb.length) args=xs)(hr:r.rn (sg ρ hb.length)=v)(hh:kR hb ρ hs'=hb'):Fn P f hb xs v hb':=by
 have:=Fn.frame (hb:=hb) hc ρ hl.len hnd (fun b hb'=>by
  have h2:=aXp.1 hlt b hb'
  exact aX0 (n:=b+1) h2) hl.get
 rw[hx,hr,hh]at this
 exact this
theorem aPO {X:Nat→Prop}{M:List (Option Nat)}{w:World}{vs:List Value}(hl:V.les noN xs args)(hv:VCells X M w xs vs):VCells X M w args vs:=V.les_sound (fun _ hb=>by cases hb) _ _ _ hl hv
theorem Fn.argsLe (hc:Fn P f h args r hb)(hl:V.les noN xs args):Fn P f h xs r hb:=fun A M w vs H hv=>hc A M w vs H (aPO hl hv)
end
@[simp] theorem kF {f:Nat→Nat}{k:IntKind}(l:List Int):V.rns f (l.map (eI k))=l.map (eI k):=qR (fun _=>rfl) l
@[simp] theorem kI {f:Nat→Nat}(l:List Bool):V.rns f (l.map eB)=l.map eB:=qR (fun _=>rfl) l
@[simp] theorem yO {f:Nat→Nat}(l:List ByteArray):V.rns f (l.map eS)=l.map eS:=qR (fun _=>rfl) l
@[simp] theorem xM {α:Type}{f:Nat→Nat}{K:Nat}{E:α→V}(l:List (List α)):V.rns f (l.map (eL K E))=l.map (eL K E):=qR (fun _=>rfl) l
theorem all_map {α:Type}{E:α→V}(hE: ∀x,(E x).one=true)(l:List α):(l.map E).all V.one=true:=by simp[aXp,hE]
mutual
def V.rf :V→Bool
 | .sc _=>true
 | .row _ _ es=>es.isEmpty
 | .ptr _ _=>true
 | .mp _=>true
 | .sl _ _ _ _ _=>true
 | .agg cs=>V.rfs cs
 | .tup cs=>V.rfs cs
 | .eptr _ _ _=>false
 | .any=>true
def V.rfs :List V→Bool
 | []=>true
 |c::cs=>c.rf&&V.rfs cs
end
section
variable {X X':Nat→Prop}{M:List (Option Nat)}{w:World}
mutual
theorem VR.rf : ∀(x:V)(v:Value),x.rf=true→VR X M w x v→VR X' M w x v
 | .sc _,v,_,h=>by unfold VR at h ⊢; exact h
 | .any,v,_,_=>by unfold VR;trivial
 | .row nil k es,v,hr,h=>by
  unfold V.rf at hr
  have:es=[]:=by simpa using hr
  subst this
  unfold VR at h⊢
  obtain⟨a,cap,h1,h2,h3,h4,h5,h6⟩:=h
  exact⟨a,cap,h1,h2,h3,h4,h5,fun hne=>absurd rfl hne⟩
 | .ptr _ _,v,_,h=>by unfold VR at h ⊢; exact h
 | .mp _,v,_,h=>by unfold VR at h ⊢; exact h
 | .sl _ _ _ _ _,v,_,h=>by unfold VR at h ⊢; exact h
 | .agg cs,v,hr,h=>by
  unfold V.rf at hr
  unfold VR at h⊢
  obtain⟨vs,h1,h2⟩:=h
  exact⟨vs,h1,VCells.rf cs vs hr h2⟩
 | .tup cs,v,hr,h=>by
  unfold V.rf at hr
  unfold VR at h⊢
  obtain⟨vs,h1,h2⟩:=h
  exact⟨vs,h1,VCells.rf cs vs hr h2⟩
 | .eptr _ _ _,v,hr,_=>by unfold V.rf at hr;cases hr
theorem VCells.rf : ∀(cs:List V)(vs:List Value),V.rfs cs=true→VCells X M w cs vs→VCells X' M w cs vs
 | [],vs,_,h=>by unfold VCells at h ⊢; exact h
 |c::cs,vs,hr,h=>by
  unfold V.rfs at hr
  simp only[aXv]at hr
  unfold VCells at h⊢
  obtain⟨v,rest,h1,h2,h3⟩:=h
  exact⟨v,rest,h1,VR.rf c v hr.1 h2,VCells.rf cs rest hr.2 h3⟩
end
end
theorem aDU {α:Type}{E:α→V}(hE: ∀x,(E x).rf=true): ∀l:List α,V.rfs (l.map E)=true
 | []=>by simp[V.rfs]
 |x::l=>by simp[V.rfs,hE,aDU hE l]
mutual
theorem V.rf_rn (f:Nat→Nat): ∀x:V,(x.rn f).rf=x.rf
 | .sc _=>by unfold V.rn;rfl
 | .any=>by unfold V.rn;rfl
 | .row _ _ _=>by unfold V.rn;rfl
 | .ptr _ _=>by unfold V.rn;rfl
 | .mp _=>by unfold V.rn;rfl
 | .sl _ _ _ _ _=>by unfold V.rn;rfl
 | .eptr _ _ _=>by unfold V.rn;rfl
 | .agg cs=>by unfold V.rn;simp only[V.rf];exact V.rfs_rn f cs
 | .tup cs=>by unfold V.rn;simp only[V.rf];exact V.rfs_rn f cs
theorem V.rfs_rn (f:Nat→Nat): ∀cs:List V,V.rfs (V.rns f cs)=V.rfs cs
 | []=>by unfold V.rns;rfl
 |c::cs=>by unfold V.rns;simp only[V.rfs];rw[V.rf_rn f c,V.rfs_rn f cs]
end
def aEM (β:List Nat):Nat→Hp→Hp
 |_,[]=>[]
 |i,o::h=>(bif β.elem i then o else none)::aEM β (i+1) h
def only (β:List Nat)(h:Hp):Hp:=aEM β 0 h
theorem aK1 (β:List Nat): ∀(h:Hp)(i j:Nat),(aEM β i h)[j]? =(h[j]?).map fun o=>bif β.elem (i+j)then o else none
 | [],i,j=>by simp[aEM]
 |o::h,i,0=>by simp[aEM]
 |o::h,i,j+1=>by
  simp only[aEM,aXo]
  rw[aK1 β h (i+1) j]
  simp[aYN,aYA 1 j]
theorem aC1 {β:List Nat}{h:Hp}{j:Nat}{B:Blk}(hj:(only β h)[j]? =some (some B)):j∈β∧h[j]? =some (some B):=by
 unfold only at hj
 rw[aK1]at hj
 cases ho:h[j]? with
 |none=>rw[ho]at hj;cases hj
 |some o=>
  rw[ho]at hj
  simp only[aYv,aXs,aXn]at hj
  cases he:β.elem j with
  |false=>rw[he]at hj;cases hj
  |true=>rw[he]at hj;simp only[cond_true]at hj;subst hj;exact⟨List.elem_iff.1 he,rfl⟩
theorem aRs (β:List Nat)(h:Hp):(only β h).length=h.length:=by
 have: ∀(h:Hp)(i:Nat),(aEM β i h).length=h.length:=by
  intro h
  induction h with
  |nil=>intro i;rfl
  |cons o h ih=>intro i;simp[aEM,ih]
 exact this h 0
theorem HR.only {A A2:Nat→Prop}{M:List (Option Nat)}{h:Hp}{w:World}(H:HR A M h w)(β:List Nat)(h1: ∀g,A2 g→g<w.heap.size)(h2: ∀(b:Nat) (B:Blk) (g:Nat),b∈β→h[b]? =some (some B)→M[b]? =some (some g)→ ¬A2 g)
  (h3: ∀g,Xs A2 M (Vm.only β h) g→Xs A M h g):HR A2 M (Vm.only β h) w:=by
 refine⟨by rw[aRs];exact H.len,h1,fun b B hb=> ?_,fun b b' B B' g hb hb'=>H.inj b b' B B' g (aC1 hb).2 (aC1 hb').2,H.glob.avoid fun g _ hx=>h3 g hx⟩
 obtain⟨hm,hb'⟩:=aC1 hb
 obtain⟨k0,hn|⟨g,cs,hg,hA,hh,hle,hcs⟩⟩:=H.blk b B hb'
 ·exact⟨k0,.inl hn⟩
 exact⟨k0,.inr ⟨g,cs,hg,h2 b B g hm hb' hg,hh,hle,hcs.avoid (fun g _ hx=>h3 g hx)⟩⟩
def Brw (σ:Nat→Nat)(hE:Hp):List V→List V→Prop
 | [],[]=>True
 |x::xs,y::ys=>(V.le noN x (y.rn σ)∨ ∃z,aAB hE x=some z∧V.le noN z y)∧Brw σ hE xs ys
 |_,_=>False
theorem Brw.nil {σ:Nat→Nat}{hE:Hp}:Brw σ hE [] []:=trivial
theorem Brw.same {σ:Nat→Nat}{hE:Hp}{x y:V}{xs ys:List V}(h:y.rn σ=x)(k:Brw σ hE xs ys):Brw σ hE (x::xs) (y::ys):=⟨.inl (by rw[h];exact V.le_refl _ _),k⟩
theorem Brw.row {σ:Nat→Nat}{hE:Hp}{x y:V}{xs ys:List V}(h:aAB hE x=some y)(k:Brw σ hE xs ys):Brw σ hE (x::xs) (y::ys):=⟨.inr ⟨y,h,V.le_refl _ _⟩,k⟩
theorem aOu {α:Type}{E:α→V}{F:V→Option V}(hE: ∀x,F (E x)=some (E x)): ∀l:List α,(l.map E).mapM F=some (l.map E)
 | []=>rfl
 |x::l=>by
  simp only[aXF,aXM,hE,aX8,aYi,aOu hE l,aYn]
theorem aPS {α:Type}{E:α→V}{l:List α}{hE:Hp}{b q d:Nat}{e:TypeId}(hn:l.length=q)(hb:hE[b]? =some (some ⟨e,l.map E⟩))(hx: ∀x,fP hE d (E x)=some (E x)):fP hE (d+1) (.sl b 0 q 1 false)=some (.row none 1 (l.map E)):=by
 subst hn
 simp only[fP,hb]
 rw[if_pos ⟨by simp,by omega,.inr trivial⟩]
 simp only[aXN,Nat.mul_one]
 rw[aXm (by simp),aOu hx]
 simp[y5]
theorem aKC {α:Type}{E:α→V}{l:List α}{hE:Hp}{b q:Nat}{e:TypeId}(hn:l.length=q)(hb:hE[b]? =some (some ⟨e,l.map E⟩))(hx: ∀x,fP hE 3 (E x)=some (E x)):aAB hE (.sl b 0 q 1 false)=some (.row none 1 (l.map E)):=aPS hn hb hx
theorem aJS {F:V→Option V}:([]:List V).mapM F=some []:=rfl
theorem pU {F:V→Option V}{c y:V}{cs ys:List V}(h:F c=some y)(k:cs.mapM F=some ys):(c::cs).mapM F=some (y::ys):=by simp[aXM,h,k]
theorem aJ9 {hE:Hp}{cs ys:List V}(h:cs.mapM (fP hE 4)=some ys):aAB hE (.agg cs)=some (.agg ys):=by simp[aAB,h]
set_option maxHeartbeats 1000000 in
theorem Fn.borrow {P:Program}{f:FuncId}{hs hs' hb:Hp}{args xs:List V}{r:V}(hc:Fn P f hs args r hs')(ρ β:List Nat)(hlen:ρ.length=hs.length)(hnd:ρ.Nodup)(hlt: ∀b∈ρ,b<hb.length)(hdis: ∀b∈β,b∉ρ)
  (hlend: ∀i b:Nat,ρ[i]? =some b→hb[b]? =(r5 (sg ρ hb.length) hs)[i]?) (hx:Brw (sg ρ hb.length) (only β hb) xs args) (hrf:r.rf=true) (hrb: ∀(i:Nat)(B:Blk),hs'[i]? =some (some B)→V.rfs B.cells=true):
  Fn P f hb xs (r.rn (sg ρ hb.length)) (kR hb ρ hs'):=by
 intro A M w vs H hargs
 have hσ: ∀i b:Nat,ρ[i]? =some b→sg ρ hb.length i=b:=fun i b hi=>by simp[sg,hi]
 have hσ': ∀i,ρ.length≤i→sg ρ hb.length i=hb.length+(i-ρ.length):=fun i hi=>by simp[sg,hi]
 generalize hsg:sg ρ hb.length=σ at *
 let Ms:List (Option Nat):=ρ.map fun b=>(M[b]?).getD none
 have hMs: ∀i b:Nat,ρ[i]? =some b→Ms[i]? =M[b]? :=by
  intro i b hi
  have hb':b<M.length:=by rw[H.len];exact hlt b (aXw hi)
  simp only[Ms,aXB,hi,aXs]
  rw[aXl hb']
  rfl
 have hMslen:Ms.length=hs.length:=by simp[Ms,hlen]
 have hfrom: ∀b y,M[σ b]? =some y→Ms[b]? =some y:=by
  intro b y hy
  rcases aXQ b ρ.length with hl|hl
  ·have hi:ρ[b]? =some ρ[b]:=aXl hl
   rw[hMs b _ hi,←hσ b _ hi];exact hy
  rw[hσ' b hl]at hy
  have:=(aXj.1 hy).1
  rw[H.len]at this;omega
 let A':Nat→Prop:=fun g=>A g∨ ∃b B,b∉ρ∧b∉β∧hb[b]? =some (some B)∧M[b]? =some (some g)
 have hin: ∀{i:Nat}{B:Blk},hs[i]? =some (some B)→ ∃b,ρ[i]? =some b∧hb[b]? =some (some (B.rn σ))∧Ms[i]? =M[b]? :=by
  intro i B hi
  have hl:i<ρ.length:=by rw[hlen];exact(aXj.1 hi).1
  have hr:ρ[i]? =some ρ[i]:=aXl hl
  refine⟨_,hr, ?_,hMs i _ hr⟩
  rw[hlend i _ hr,aKn,hi];rfl
 have hliveS: ∀g,eM Ms hs g→eM M hb g:=by
  rintro g ⟨i,B,hi,hm⟩
  obtain⟨b,_,hb1,hb2⟩:=hin hi
  exact⟨b,_,hb1,by rw[←hb2];exact hm⟩
 have hX1: ∀g,Xs A' Ms hs g→Xs A M hb g:=by
  rintro g ((ha|⟨b,B,_,_,hb1,hb2⟩)|hl)
  ·exact .inl ha
  ·exact .inr ⟨b,B,hb1,hb2⟩
  exact .inr (hliveS g hl)
 have hout: ∀{b:Nat}{B:Blk}{g:Nat},b∉ρ→hb[b]? =some (some B)→M[b]? =some (some g)→ ¬eM Ms hs g:=by
  rintro b B g hb0 hb1 hb2 ⟨i,C,hi,hm⟩
  obtain⟨c,hc0,hc1,hc2⟩:=hin hi
  have:=H.inj b c B _ g hb1 hc1 hb2 (by rw[←hc2];exact hm)
  subst this
  exact hb0 (aXw hc0)
 have hA': ∀{b:Nat}{B:Blk}{g:Nat},b∈β→hb[b]? =some (some B)→M[b]? =some (some g)→ ¬A' g:=by
  rintro b B g hbβ hb1 hb2 (ha|⟨c,C,hc0,hc3,hc1,hc2⟩)
  ·obtain⟨_,⟨hn,_⟩|⟨g',cs,hg',hA,_⟩⟩:=H.blk b B hb1
   ·rw[hb2]at hn;cases hn
   rw[hb2]at hg';injection hg' with hg';injection hg' with hg';subst hg';exact hA ha
  have:=H.inj b c B C g hb1 hc1 hb2 hc2
  subst this;exact hc3 hbβ
 have HS:HR A' Ms hs w:=by
  refine⟨hMslen, ?_, ?_, ?_,H.glob.avoid fun g _ hx=>hX1 g hx⟩
  ·rintro g (ha|⟨b,B,_,_,hb1,hb2⟩)
   ·exact H.alt g ha
   exact H.lt (.inr ⟨b,B,hb1,hb2⟩)
  ·intro i B hi
   obtain⟨b,hb0,hb1,hb2⟩:=hin hi
   obtain⟨h1,h2⟩:=H.blk b _ hb1
   refine⟨V.one_rns h1, ?_⟩
   rcases h2 with⟨hn,hc0⟩|⟨g,cs,hg,hA,hh,hle,hcs⟩
   ·refine .inl ⟨by rw[hb2];exact hn, ?_⟩
    have:=congrArg aY5 hc0
    simp only[Blk.rn,V.rns_length,aYm]at this
    exact aXq this
   refine .inr ⟨g,cs,by rw[hb2];exact hg, ?_,by simpa[Blk.rn,V.rns_length]using hh, ?_, ?_⟩
   ·rintro(ha|⟨c,C,hc0,_,hc1,hc2⟩)
    ·exact hA ha
    have:=H.inj b c _ C g hb1 hc1 hg hc2
    subst this
    exact hc0 (aXw hb0)
   ·simpa[Blk.rn,V.rns_length]using hle
   have hcs':VCells (Xs A M hb) M w (V.rns σ B.cells) (cs.toList.take B.cells.length):=by simpa[Blk.rn,V.rns_length]using hcs
   exact(VCells.rn_from hfrom _ _ hcs').avoid (fun g _ hx=>hX1 g hx)
  intro i j B C g hi hj mi mj
  obtain⟨b,hb0,hb1,hb2⟩:=hin hi
  obtain⟨c,hc0,hc1,hc2⟩:=hin hj
  have:=H.inj b c _ _ g hb1 hc1 (by rw[←hb2];exact mi) (by rw[←hc2];exact mj)
  subst this
  have hil:=(aXj.1 hb0).1
  exact(aYS hil hnd).1 (hb0.trans hc0.symm)
 have HB:HR (Xs A' Ms hs) M (only β hb) w:=by
  refine H.only β (fun g hg=>HS.lt hg) ?_ ?_
  ·rintro b B g hbβ hb1 hb2 (ha|hl)
   ·exact hA' hbβ hb1 hb2 ha
   exact hout (hdis b hbβ) hb1 hb2 hl
  rintro g (hx|⟨b,B,hb1,hb2⟩)
  ·exact hX1 g hx
  exact .inr ⟨b,B,(aC1 hb1).2,hb2⟩
 have hargsS:VCells (Xs A' Ms hs) Ms w args vs:=by
  have key: ∀(xs args:List V)(vs:List Value),Brw σ (only β hb) xs args→VCells (Xs A M hb) M w xs vs→VCells (Xs A' Ms hs) Ms w args vs:=by
   intro xs
   induction xs with
   |nil=>
    intro args vs hx hv
    cases args with
    |nil=>unfold VCells at hv ⊢; exact hv
    |cons=>exact hx.elim
   |cons x xs ih=>
    intro args vs hx hv
    cases args with
    |nil=>exact hx.elim
    |cons y ys=>
     unfold VCells at hv⊢
     obtain⟨v,rest,e1,e2,e3⟩:=hv
     refine⟨v,rest,e1, ?_,ih ys rest hx.2 e3⟩
     rcases hx.1 with hl|⟨z,hz,hl⟩
     ·exact(VR.rn_from hfrom _ _ (V.le_sound (fun _ hb=>by cases hb) _ _ _ hl e2)).avoid (fun g _ hx=>hX1 g hx)
     have e2':VR (Xs (Xs A' Ms hs) M (only β hb)) M w x v:=e2.avoid (fun g _ hx=>by
      rcases hx with hx|⟨b,B,hb1,hb2⟩
      ·exact hX1 g hx
      exact .inr ⟨b,B,(aC1 hb1).2,hb2⟩)
     exact V.le_sound (fun _ hb=>by cases hb) _ _ _ hl (aMu HB e2' hz).lift
  exact key xs args vs hx hargs
 refine(hc A' Ms w vs HS hargsS).mono fun v w' ⟨Ms',G,hv⟩=> ?_
 obtain⟨Mn,rfl⟩:=G.pre
 have hMnlen:hs'.length=ρ.length+Mn.length:=by rw[←G.hr.len];simp[Ms]
 have hto: ∀b y,(Ms++Mn)[b]? =some y→(M++Mn)[σ b]? =some y:=by
  intro b y hy
  rcases aXQ b ρ.length with hl|hl
  ·have hi:ρ[b]? =some ρ[b]:=aXl hl
   rw[aXk (by rw[hMslen,←hlen];exact hl),hMs b _ hi]at hy
   rw[hσ b _ hi,aXk (by rw[H.len];exact hlt _ (aXw hi))]
   exact hy
  rw[aXt (by rw[hMslen,←hlen];exact hl),hMslen,←hlen]at hy
  rw[hσ' b hl,aXt (by rw[H.len];omega),H.len,show hb.length+(b-ρ.length)-hb.length=b-ρ.length by omega]
  exact hy
 have hlentlen:(fE hb ρ (r5 σ hs')).length=hb.length:=aCl _ _ _
 have hrnlen:(r5 σ hs').length=hs'.length:=by simp[r5]
 have hcase: ∀{b:Nat}{B:Blk},(kR hb ρ hs')[b]? =some (some B)→(b∉ρ∧hb[b]? =some (some B))∨ ∃i C,hs'[i]? =some (some C)∧b=σ i∧B=C.rn σ∧(M++Mn)[b]? =(Ms++Mn)[i]? :=by
  intro b B hb1
  unfold kR at hb1
  rw[hsg]at hb1
  rcases aXQ b hb.length with hl|hl
  ·rw[aXk (by rw[hlentlen];exact hl)]at hb1
   by_cases hm:b∈ρ
   ·obtain⟨i,hi⟩:=aYg.1 hm
    rw[aF6 hnd hlt (by rw[hrnlen];omega) hi]at hb1
    obtain⟨C,hC,hB⟩:=aEp hb1
    have hil:=(aXj.1 hi).1
    refine .inr ⟨i,C,hC,(hσ i b hi).symm,hB, ?_⟩
    rw[aXk (by rw[H.len];exact hl),aXk (by rw[hMslen,←hlen];exact hil),hMs i b hi]
   rw[aCM hm]at hb1
   exact .inl ⟨hm,hb1⟩
  rw[aXt (by rw[hlentlen];exact hl),hlentlen,aYu]at hb1
  obtain⟨C,hC,hB⟩:=aEp hb1
  refine .inr ⟨_,C,hC, ?_,hB, ?_⟩
  ·rw[hσ' _ (by omega)];omega
  rw[aXt (by rw[H.len];exact hl),aXt (by rw[hMslen,←hlen];omega),H.len,hMslen,←hlen]
  congr 1;omega
 have hlive: ∀g,g<w.heap.size→eM (M++Mn) (kR hb ρ hs') g→eM M hb g:=by
  rintro g hg ⟨b,B,hb1,hb2⟩
  rcases hcase hb1 with⟨hb0,hb3⟩|⟨i,C,hC,rfl,rfl,he⟩
  ·refine⟨b,B,hb3, ?_⟩
   rw[aXk (by rw[H.len];exact(aXj.1 hb3).1)]at hb2
   exact hb2
  exact hliveS g (G.live g hg ⟨i,C,hC,by rw[←he];exact hb2⟩)
 have hnew: ∀{i:Nat}{C:Blk}{b:Nat}{B:Blk}{g:Nat},hs'[i]? =some (some C)→(Ms++Mn)[i]? =some (some g)→b∉ρ→hb[b]? =some (some B)→M[b]? =some (some g)→False:=by
  intro i C b B g hi hm hb0 hb1 hb2
  have hgs:g<w.heap.size:=H.lt (.inr ⟨b,B,hb1,hb2⟩)
  exact hout hb0 hb1 hb2 (G.live g hgs ⟨i,C,hi,hm⟩)
 refine⟨M++Mn,⟨⟨Mn,rfl⟩,⟨?_, ?_, ?_, ?_,H.glob.ext G.ext (fun g _ hl=> .inr (hliveS g hl)) (fun g hg hx=>hx.elim .inl (fun hl=> .inr (hlive g hg hl)))⟩,G.ext.mono (fun g _ hl=>hliveS g hl),hlive⟩,VR.rf _ _ (by rw[V.rf_rn];exact hrf) (VR.rn_to hto _ _ hv)⟩
 ·unfold kR
  rw[hsg]
  simp only[aXI,aXW,hlentlen,hrnlen,H.len]
  omega
 ·exact fun g hg=>aXY (H.alt g hg) G.ext.size
 ·intro b B hb1
  rcases hcase hb1 with⟨hb0,hb3⟩|⟨i,C,hC,rfl,rfl,he⟩
  ·have hbl:b<M.length:=by rw[H.len];exact(aXj.1 hb3).1
   obtain⟨h1,⟨hn,hc0⟩|⟨g,cs,hg,hA,hh,hle,hcs⟩⟩:=H.blk b B hb3
   ·exact⟨h1,.inl ⟨by rw[aXk hbl];exact hn,hc0⟩⟩
   have hgs:g<w.heap.size:=H.lt (.inr ⟨b,B,hb3,hg⟩)
   refine⟨h1,.inr ⟨g,cs,by rw[aXk hbl];exact hg,hA, ?_,hle, ?_⟩⟩
   ·exact hh.to (G.ext.block g hgs (hout hb0 hb3 hg))
   exact VCells.ext G.ext ⟨Mn,rfl⟩ (fun g _ hl=> .inr (hliveS g hl)) (fun g hg hx=>hx.elim .inl (fun hl=> .inr (hlive g hg hl))) _ _ hcs
  obtain⟨h1,h2⟩:=G.hr.blk i C hC
  refine⟨V.rns_mem (V.rn_one σ) h1, ?_⟩
  rcases h2 with⟨hn,hc0⟩|⟨g,cs,hg,hA,hh,hle,hcs⟩
  ·refine .inl ⟨by rw[he];exact hn, ?_⟩
   simp[Blk.rn,hc0,V.rns]
  refine .inr ⟨g,cs,by rw[he];exact hg,fun ha=>hA (.inl ha),by simpa[Blk.rn,V.rns_length]using hh, ?_, ?_⟩
  ·simpa[Blk.rn,V.rns_length]using hle
  have h5:=VCells.rn_to hto _ _ hcs
  have h6:VCells (Xs A (M++Mn) (kR hb ρ hs')) (M++Mn) w' (V.rns σ C.cells) (cs.toList.take C.cells.length):=VCells.rf _ _ (by rw[V.rfs_rn];exact hrb i C hC) h5
  simpa[Blk.rn,V.rns_length]using h6
 intro b c B C g hb1 hc1 mb mc
 rcases hcase hb1 with⟨hb0,hb3⟩|⟨i,D,hD,rfl,rfl,he⟩<;>rcases hcase hc1 with⟨hc0,hc3⟩|⟨j,E,hE,rfl,rfl,he'⟩
 ·rw[aXk (by rw[H.len];exact(aXj.1 hb3).1)]at mb
  rw[aXk (by rw[H.len];exact(aXj.1 hc3).1)]at mc
  exact H.inj b c B C g hb3 hc3 mb mc
 ·rw[aXk (by rw[H.len];exact(aXj.1 hb3).1)]at mb
  rw[he']at mc
  exact(hnew hE mc hb0 hb3 mb).elim
 ·rw[aXk (by rw[H.len];exact(aXj.1 hc3).1)]at mc
  rw[he]at mb
  exact(hnew hD mb hc0 hc3 mc).elim
 rw[G.hr.inj i j D E g hD hE (by rw[←he];exact mb) (by rw[←he'];exact mc)]
def rfB :Hp→Prop
 | []=>True
 |none::h=>rfB h
 |some B::h=>V.rfs B.cells=true∧rfB h
theorem rfB.get : ∀{h:Hp},rfB h→ ∀(i:Nat)(B:Blk),h[i]? =some (some B)→V.rfs B.cells=true
 | [],_,i,B,hi=>by simp at hi
 |none::h,hh,0,B,hi=>by simp at hi
 |none::h,hh,i+1,B,hi=>rfB.get (h:=h) hh i B (by simpa using hi)
 |some C::h,hh,0,B,hi=>by simp at hi;subst hi;exact hh.1
 |some C::h,hh,i+1,B,hi=>rfB.get (h:=h) hh.2 i B (by simpa using hi)
theorem rfB.nil :rfB []:=trivial
theorem rfB.live {h:Hp}{e:TypeId}{cs:List V}(hc:V.rfs cs=true)(k:rfB h):rfB (some ⟨e,cs⟩::h):=⟨hc,k⟩
theorem Fn.lendR {P:Program}{f:FuncId}{hs hs' hb hb':Hp}{args xs:List V}{r v:V}(hc:Fn P f hs args r hs')(ρ β:List Nat)(hnd:ρ.Nodup)(hlt:ρ.all (fun b=>aZb b hb.length)=true)(hdis: ∀b∈β,b∉ρ)(hl:Lend (sg ρ hb.length) hb ρ hs)
  (hx:Brw (sg ρ hb.length) (only β hb) xs args) (hrf:r.rf=true) (hrb:rfB hs') (hr:r.rn (sg ρ hb.length)=v) (hh:kR hb ρ hs'=hb'):Fn P f hb xs v hb':=by
 have:=Fn.borrow (hb:=hb) hc ρ β hl.len hnd (fun b hb'=>by
  have h2:=aXp.1 hlt b hb'
  exact aX0 (n:=b+1) h2) hdis hl.get hx hrf hrb.get
 rw[hr,hh]at this
 exact this
section
variable {P:Program}{N:Nat}{Q:Ex→List V→Hp→Prop}{s:List V}{h h':Hp}
theorem AB.seq_g {c d:Code}(hh: ∀K:List V→Hp→Prop,(∀s h,AB P N d Q s h→K s h)→(∀s h s' h',Ghost N s h s' h'→K s' h'→K s h)→AB P N c (Ex.then K Q) s h):AB P N (.seq c d) Q s h:=
 AB.seq (hh _ (fun _ _ hk=>hk) (fun _ _ _ _ hg hk=>AB.ghost hg hk))
variable {f:FuncId}{xs:List V}{r:V}
variable (t:TypeId)(xo yo:Operand)
theorem aBF {α β:Type}(s:Sem α)(f:α→β){a:α}(h:bD P s=some a):bD P (Functor.map f s)=some (f a):=by
 show bD P (Sem.bind s _)=_
 induction s with
 |pure x=>simp only[bD,aXn]at h;subst h;rfl
 |program k ih=>exact ih P h
 |mark m k ih=>exact ih h
 |_=>simp[bD]at h
theorem aNi (a b:ByteArray):eT P .eql t xo yo (.sc (.string a)) (.sc (.string b))=some (.sc (.bool (a.toList == b.toList))):=by
 simp only[eT,eW,eE,aMI,pureV];rfl
end
theorem aUL {P:Program}{h h':Hp}{t e:TypeId}{ti:TI}{i b:Nat}{α:Type}{E:α→V}{l m:List α}{sz by_:Nat}{z:Value}{ag:Bool}{q:Nat}(hn:q≤l.length)(ht:aU P t=some ⟨.slice e,sz,by_,z⟩)(he:aU P e=some ti)(h1:ti.zero.cells.size=1∧ti.size=1∧1≤ti.bytes)(hb:h[b]? =some (some ⟨e,l.map E⟩)){s:V}(hs:i3 h 1 s=some (m.map E,m.length))
  {r:List α} (ha:eD ti.bytes (l.take q) m=some r) (hl:h.length=i) (hh:h.set b none++[some ⟨e,r.map E⟩]=h'):nF P t t (.sl b 0 q 1 ag) s h=some (.sl i 0 r.length 1 ag,h'):=by
 obtain⟨h2,h3,h4⟩:=h1
 unfold eD at ha
 split at ha
 ·rename_i hlim
  injection ha with ha
  have hql:(l.take q).length=q:=by simp;omega
  rw[hql]at hlim
  subst ha hl hh
  have hx:i3 h ti.size s=some (m.map E,m.length):=by rw[h3];exact hs
  simp only[nF,ne_eq,not_true,if_false,ht,he]
  rw[if_pos ⟨by rw[h2,h3],by omega,h4⟩]
  simp only[hx,hb]
  rw[if_pos ⟨h3.symm,trivial,by simp;omega,hlim⟩]
  simp[aYb,aYc hn]
 cases ha
theorem mkC {k1 k2:IntKind}{P:Program}{h h':Hp}{t e:TypeId}{ti:TI}{i:Nat}{α:Type}{E:α→V}{sz by_:Nat}{z:Value}{ag:Bool}{j:Int}{y:α}(ht:aU P t=some ⟨.slice e,sz,by_,z⟩)(he:aU P e=some ti)(h1:1≤ti.bytes∧ti.size=1∧ti.zero.cells.size=1)(hz:ti.zero.cells.toList.map (V.soft∘fB)=[E y])(ho:(E y).one=true)(hag:cI ti.desc=ag){r:List α}
  (hm:mks ti.bytes y j=some r) (hl:h.length=i) (hh:h++[some ⟨e,r.map E⟩]=h'):aB1 P t (.sc (.int k1 0)) (.sc (.int k2 j)) h=some (.sl i 0 0 1 ag,h'):=by
 obtain⟨h2,h3,h4⟩:=h1
 unfold mks at hm
 split at hm
 ·rename_i hlim
  injection hm with hm
  subst hm hl hh hag
  simp only[aB1,ht,he]
  rw[if_pos ⟨aYo _,hlim.1,hlim.2,h2,by omega,by rw[h4,h3],by rw[hz];simp[ho]⟩,hz]
  simp only[h3,if_true]
  have: ∀n,(aXC n [E y]).flatten=(aXC n y).map E:=fun n=>by
   induction n with
   |zero=>rfl
   |succ n ih=>simp only[aX9,aYe,ih,aXF];rfl
  rw[this];simp
 cases hm
def wO :Nat→List V→List (Nat×V)
 |_,[]=>[]
 |i,x::xs=>(i,x)::wO (i+1) xs
theorem aM0 : ∀(xs:List V)(i:Nat)(cells:List V),cells.length=i+xs.length→xs.all (fun x=>x.one&&(x.cells.length == 1))=true→r4 (fun i=>some (i*1,1)) cells (wO i xs)=some (cells.take i++xs)
 | [],i,cells,hl,_=>by
  simp only[wO,r4,aX2]
  rw[aXm (by simp at hl;omega)]
 |x::xs,i,cells,hl,ho=>by
  simp only[aX6,aXv,beq_iff_eq]at ho
  obtain⟨⟨h1,h2⟩,h3⟩:=ho
  simp only[aXG]at hl
  have hc:x.cells=[x]:=by cases x<;>first|rfl|simp[V.one]at h1
  simp only[wO,r4]
  rw[if_pos ⟨by simp[V.flatOk,hc,h1],h2,by omega⟩,hc]
  have hs:splice cells (i*1) [x]=cells.set i x:=by
   have:=aJm (E:=fun v:V=>v) (l:=cells) i (by omega) x
   simpa using this
  rw[hs,aM0 xs (i+1) _ (by simp;omega) (by simpa[aXp,aXv]using h3)]
  congr 1
  rw[aXV (by simp;omega)]
  simp[List.take_set_of_le]
theorem aPb {P:Program}{h h':Hp}{t e:TypeId}{ti:TI}{i sz by_ len:Nat}{z:Value}{ps:List (Nat×V)}{xs:List V}{ag:Bool}(ht:aU P t=some ⟨.slice e,sz,by_,z⟩)(he:aU P e=some ti)(h1:len*1≤2^24)(h2:0<len)(hs:ti.size=1)(hag:cI ti.desc=ag)
  (hp:wO 0 xs=ps) (ho:xs.all (fun x=>x.one&&(x.cells.length == 1))=true) (hlen:xs.length=len) (hl:h.length=i) (hh:h++[some ⟨e,xs⟩]=h'):kX P t len ps h=some (.sl i 0 len 1 ag,h'):=by
 have hones:xs.all V.one=true:=by
  rw[aXp]at ho⊢
  intro x hx
  have:=ho x hx
  simp only[aXv]at this
  exact this.1
 subst hp
 have:=aU0 (h:=h) (len:=len) (cs:=xs) (ps:=wO 0 xs) (i:=i) (h':=h') ht he (by rw[hs];exact⟨h1,h2,by omega⟩) hag (by
  rw[hs]
  rw[aM0 xs 0 _ (by simp[hs,hlen]) ho]
  simp) ⟨hones,by rw[hs,hlen];omega⟩ hl hh
 rw[hs]at this
 exact this
theorem aI1 {k:IntKind}(hk:k.signed=false)(n:Int):k.wrap n=n%2^k.bits:=by simp[IntKind.wrap,hk]
theorem aGY {k:IntKind}(hk:k.signed=false)(a b:Nat)(ha:a<2^k.bits)(hb:b<2^k.bits):bits .and k (a:Int) (b:Int)=((a &&& b:Nat):Int):=by
 have hab:a &&& b<2^k.bits:=Nat.and_lt_two_pow a hb
 simp only[bits,aI1 hk,BitVec.toNat_and,BitVec.toNat_ofInt]
 have e1:((a:Int)%((2^k.bits:Nat):Int)).toNat=a:=by rw[←aXP,aXO,aXX ha]
 have e2:((b:Int)%((2^k.bits:Nat):Int)).toNat=b:=by rw[←aXP,aXO,aXX hb]
 rw[e1,e2]
 rw[show(2:Int)^k.bits=((2^k.bits:Nat):Int) by simp,←aXP,aXX hab]
theorem aAG {k:IntKind}(hk:k.signed=false)(a b:Nat)(ha:a<2^k.bits)(hb:b<2^k.bits):bits .or k (a:Int) (b:Int)=((a ||| b:Nat):Int):=by
 have hab:a ||| b<2^k.bits:=Nat.or_lt_two_pow ha hb
 simp only[bits,aI1 hk,BitVec.toNat_or,BitVec.toNat_ofInt]
 have e1:((a:Int)%((2^k.bits:Nat):Int)).toNat=a:=by rw[←aXP,aXO,aXX ha]
 have e2:((b:Int)%((2^k.bits:Nat):Int)).toNat=b:=by rw[←aXP,aXO,aXX hb]
 rw[e1,e2]
 rw[show(2:Int)^k.bits=((2^k.bits:Nat):Int) by simp,←aXP,aXX hab]
theorem aBc {k:IntKind}(a b:Nat)(ha:a<2^k.bits):shr k (a:Int) (b:Int)=some ((a/2^b:Nat):Int):=by
 unfold shr
 rw[if_neg (by omega)]
 congr 1
 rw[aXO]
 have:(2:Int)^min b k.bits=((2^min b k.bits:Nat):Int):=by simp
 rw[this,Int.fdiv_eq_ediv_of_nonneg _ (Int.natCast_nonneg _),←Int.natCast_ediv]
 congr 1
 rcases aYT b k.bits with hb|hb
 ·rw[aYc hb]
 rw[aYX hb,aYY ha,aYY (aXY ha (Nat.pow_le_pow_right (by omega) hb))]
theorem aFj {k:IntKind}(hk:k.signed=false)(a b:Nat):shl k (a:Int) (b:Int)=some ((a*2^b%2^k.bits:Nat):Int):=by
 unfold shl
 rw[if_neg (by omega),aI1 hk]
 congr 1
 rw[aXO]
 have e:(2:Int)^min b k.bits=((2^min b k.bits:Nat):Int):=by simp
 rw[e,show(2:Int)^k.bits=((2^k.bits:Nat):Int) by simp,←Int.natCast_mul,←aXP]
 congr 1
 rcases aYT b k.bits with hb|hb
 ·rw[aYc hb]
 rw[aYX hb,aYZ]
 obtain⟨c,rfl⟩:=Nat.exists_eq_add_of_le hb
 rw[Nat.pow_add,←Nat.mul_assoc,Nat.mul_right_comm,aYZ]
theorem aFq {α:Type}(l:List α)(i:Nat):bU l (i:Int)=l[i]? :=by simp[bU]
theorem bZ {α:Type}(l:List α){i:Nat}(h:i<l.length):bU l (i:Int)=some l[i]:=by rw[aFq,aXl h]
theorem aBk {α:Type}{by_:Nat}{l m:List α}(h:(l.length+m.length)*by_≤pJ):eD by_ l m=some (l++m):=by simp[eD,h]
theorem aFm {α:Type}{by_:Nat}{z:α}{n:Nat}(h:n*by_≤pJ):mks by_ z (n:Int)=some (aXC n z):=by
 simp only[mks,aXO]
 rw[if_pos ⟨by omega,h⟩]
theorem aKB {α:Type}{l m:List α}(h:l.length=m.length):nT l m=m:=by
 unfold nT;rw[h,aXm (aXT _),aXz (by omega)];simp
theorem tJ (a b:Nat):Int.tdiv (a:Int) (b:Int)=((a/b:Nat):Int):=by rw[Int.tdiv_eq_ediv_of_nonneg (by omega)];simp
theorem vD (a b:Nat):Int.tmod (a:Int) (b:Int)=((a%b:Nat):Int):=by rw[Int.tmod_eq_emod_of_nonneg (by omega)];simp
def Byt (l:List Int):Prop:= ∀x∈l,0≤x∧x<256
theorem Byt.append {l m:List Int}(h:Byt l)(k:Byt m):Byt (l++m):=fun x hx=>(List.mem_append.1 hx).elim (h x) (k x)
theorem Byt.set {l:List Int}(h:Byt l)(i:Nat){x:Int}(hx:0≤x∧x<256):Byt (l.set i x):=fun y hy=>(List.mem_or_eq_of_mem_set hy).elim (h y) (fun e=>e▸hx)
theorem Fn.toP {P:Program}{f:FuncId}{xs:List V}{r:V}(hc:Fn P f [] xs r []):PFn P f xs r:=by
 intro A w vs hA hGl hv
 refine(hc A [] w vs (HR.nil hA hGl) (hv.avoid (fun g _ hx=>aME.1 hx))).mono fun v w' ⟨M',G,hr⟩=> ?_
 have hM:M'=[]:=aXq G.hr.len
 subst hM
 exact⟨G.ext.mono fun g _ hl=>by obtain⟨b,B,hb,_⟩:=hl;simp at hb,hr.avoid (fun g _ hx=>aME.2 hx)⟩
end Go.Vm
namespace Go.Proofs.YtbjiaghljpoliaaGreatDoor
open Go Go.Vm
@[simp] theorem ti2 :aU Tryz.prog 2=some ⟨.int .i64,1,8,.int .i64 0⟩:=by kernel_rfl
@[simp] theorem dS :aU Tryz.prog 3=some ⟨.int .i64,1,8,.int .i64 0⟩:=by kernel_rfl
@[simp] theorem ti4 :aU Tryz.prog 4=some ⟨.bool,1,1,.bool false⟩:=by kernel_rfl
@[simp] theorem dO :aU Tryz.prog 5=some ⟨.int .u8,1,1,.int .u8 0⟩:=by kernel_rfl
@[simp] theorem ti9 :aU Tryz.prog 9=some ⟨.string,1,16,.string .empty⟩:=by kernel_rfl
@[simp] theorem aWq :aU Tryz.prog 12=some ⟨.int .u64,1,8,.int .u64 0⟩:=by kernel_rfl
@[simp] theorem aWd :aU Tryz.prog 21=some ⟨.int .i32,1,4,.int .i32 0⟩:=by kernel_rfl
@[simp] theorem wM :aU Tryz.prog 22=some ⟨.int .u32,1,4,.int .u32 0⟩:=by kernel_rfl
@[simp] theorem aOw :aU Tryz.prog 23=some ⟨.slice 48,1,24,.slice none 0 0⟩:=by kernel_rfl
@[simp] theorem aPe :aU Tryz.prog 24=some ⟨.slice 33,1,24,.slice none 0 0⟩:=by kernel_rfl
@[simp] theorem aWP :aU Tryz.prog 25=some ⟨.struct #[{name:= "Version",type:=22,offset:=0,embedded:=false,tag:= "",pkgPath:= "",byteOffset:=0},{name:= "Inputs",type:=23,offset:=1,embedded:=false,tag:= "",pkgPath:= "",byteOffset:=8},{name:= "Outputs",type:=24,offset:=2,embedded:=false,tag:= "",pkgPath:= "",byteOffset:=32},{name:= "Lock",type:=22,offset:=3,embedded:=false,tag:= "",pkgPath:= "",byteOffset:=56}],4,64,.agg #[.int .u32 0,.slice none 0 0,.slice none 0 0,.int .u32 0]⟩:=by kernel_rfl
@[simp] theorem aFG :aU Tryz.prog 26=some ⟨.struct #[{name:= "Version",type:=22,offset:=0,embedded:=false,tag:= "",pkgPath:= "",byteOffset:=0},{name:= "Inputs",type:=23,offset:=1,embedded:=false,tag:= "",pkgPath:= "",byteOffset:=8},{name:= "Outputs",type:=24,offset:=2,embedded:=false,tag:= "",pkgPath:= "",byteOffset:=32},{name:= "Lock",type:=22,offset:=3,embedded:=false,tag:= "",pkgPath:= "",byteOffset:=56}],4,64,.agg #[.int .u32 0,.slice none 0 0,.slice none 0 0,.int .u32 0]⟩:=by kernel_rfl
@[simp] theorem aWm :aU Tryz.prog 27=some ⟨.array 32 5,32,32,.agg #[.int .u8 0,.int .u8 0,.int .u8 0,.int .u8 0,.int .u8 0,.int .u8 0,.int .u8 0,.int .u8 0,.int .u8 0,.int .u8 0,.int .u8 0,.int .u8 0,.int .u8 0,.int .u8 0,.int .u8 0,.int .u8 0,.int .u8 0,.int .u8 0,.int .u8 0,.int .u8 0,.int .u8 0,.int .u8 0,.int .u8 0,.int .u8 0,.int .u8 0,.int .u8 0,.int .u8 0,.int .u8 0,.int .u8 0,.int .u8 0,.int .u8 0,.int .u8 0]⟩:=by kernel_rfl
@[simp] theorem wJ :aU Tryz.prog 28=some ⟨.array 32 5,32,32,.agg #[.int .u8 0,.int .u8 0,.int .u8 0,.int .u8 0,.int .u8 0,.int .u8 0,.int .u8 0,.int .u8 0,.int .u8 0,.int .u8 0,.int .u8 0,.int .u8 0,.int .u8 0,.int .u8 0,.int .u8 0,.int .u8 0,.int .u8 0,.int .u8 0,.int .u8 0,.int .u8 0,.int .u8 0,.int .u8 0,.int .u8 0,.int .u8 0,.int .u8 0,.int .u8 0,.int .u8 0,.int .u8 0,.int .u8 0,.int .u8 0,.int .u8 0,.int .u8 0]⟩:=by kernel_rfl
@[simp] theorem aWV :aU Tryz.prog 29=some ⟨.struct #[{name:= "Tx",type:=28,offset:=0,embedded:=false,tag:= "",pkgPath:= "",byteOffset:=0},{name:= "Index",type:=22,offset:=32,embedded:=false,tag:= "",pkgPath:= "",byteOffset:=32}],33,36,.agg #[.int .u8 0,.int .u8 0,.int .u8 0,.int .u8 0,.int .u8 0,.int .u8 0,.int .u8 0,.int .u8 0,.int .u8 0,.int .u8 0,.int .u8 0,.int .u8 0,.int .u8 0,.int .u8 0,.int .u8 0,.int .u8 0,.int .u8 0,.int .u8 0,.int .u8 0,.int .u8 0,.int .u8 0,.int .u8 0,.int .u8 0,.int .u8 0,.int .u8 0,.int .u8 0,.int .u8 0,.int .u8 0,.int .u8 0,.int .u8 0,.int .u8 0,.int .u8 0,.int .u32 0]⟩:=by kernel_rfl
@[simp] theorem pF :aU Tryz.prog 30=some ⟨.struct #[{name:= "Tx",type:=28,offset:=0,embedded:=false,tag:= "",pkgPath:= "",byteOffset:=0},{name:= "Index",type:=22,offset:=32,embedded:=false,tag:= "",pkgPath:= "",byteOffset:=32}],33,36,.agg #[.int .u8 0,.int .u8 0,.int .u8 0,.int .u8 0,.int .u8 0,.int .u8 0,.int .u8 0,.int .u8 0,.int .u8 0,.int .u8 0,.int .u8 0,.int .u8 0,.int .u8 0,.int .u8 0,.int .u8 0,.int .u8 0,.int .u8 0,.int .u8 0,.int .u8 0,.int .u8 0,.int .u8 0,.int .u8 0,.int .u8 0,.int .u8 0,.int .u8 0,.int .u8 0,.int .u8 0,.int .u8 0,.int .u8 0,.int .u8 0,.int .u8 0,.int .u8 0,.int .u32 0]⟩:=by kernel_rfl
@[simp] theorem dB :aU Tryz.prog 31=some ⟨.slice 5,1,24,.slice none 0 0⟩:=by kernel_rfl
@[simp] theorem aXb :aU Tryz.prog 32=some ⟨.struct #[{name:= "Value",type:=2,offset:=0,embedded:=false,tag:= "",pkgPath:= "",byteOffset:=0},{name:= "Script",type:=31,offset:=1,embedded:=false,tag:= "",pkgPath:= "",byteOffset:=8}],2,32,.agg #[.int .i64 0,.slice none 0 0]⟩:=by kernel_rfl
@[simp] theorem aGE :aU Tryz.prog 33=some ⟨.struct #[{name:= "Value",type:=2,offset:=0,embedded:=false,tag:= "",pkgPath:= "",byteOffset:=0},{name:= "Script",type:=31,offset:=1,embedded:=false,tag:= "",pkgPath:= "",byteOffset:=8}],2,32,.agg #[.int .i64 0,.slice none 0 0]⟩:=by kernel_rfl
@[simp] theorem aWW :aU Tryz.prog 34=some ⟨.struct #[{name:= "Out",type:=30,offset:=0,embedded:=false,tag:= "",pkgPath:= "",byteOffset:=0},{name:= "Output",type:=33,offset:=33,embedded:=false,tag:= "",pkgPath:= "",byteOffset:=40},{name:= "Height",type:=3,offset:=35,embedded:=false,tag:= "",pkgPath:= "",byteOffset:=72},{name:= "Coinbase",type:=4,offset:=36,embedded:=false,tag:= "",pkgPath:= "",byteOffset:=80}],37,88,.agg #[.int .u8 0,.int .u8 0,.int .u8 0,.int .u8 0,.int .u8 0,.int .u8 0,.int .u8 0,.int .u8 0,.int .u8 0,.int .u8 0,.int .u8 0,.int .u8 0,.int .u8 0,.int .u8 0,.int .u8 0,.int .u8 0,.int .u8 0,.int .u8 0,.int .u8 0,.int .u8 0,.int .u8 0,.int .u8 0,.int .u8 0,.int .u8 0,.int .u8 0,.int .u8 0,.int .u8 0,.int .u8 0,.int .u8 0,.int .u8 0,.int .u8 0,.int .u8 0,.int .u32 0,.int .i64 0,.slice none 0 0,.int .i64 0,.bool false]⟩:=by kernel_rfl
@[simp] theorem aA7 :aU Tryz.prog 35=some ⟨.struct #[{name:= "Out",type:=30,offset:=0,embedded:=false,tag:= "",pkgPath:= "",byteOffset:=0},{name:= "Output",type:=33,offset:=33,embedded:=false,tag:= "",pkgPath:= "",byteOffset:=40},{name:= "Height",type:=3,offset:=35,embedded:=false,tag:= "",pkgPath:= "",byteOffset:=72},{name:= "Coinbase",type:=4,offset:=36,embedded:=false,tag:= "",pkgPath:= "",byteOffset:=80}],37,88,.agg #[.int .u8 0,.int .u8 0,.int .u8 0,.int .u8 0,.int .u8 0,.int .u8 0,.int .u8 0,.int .u8 0,.int .u8 0,.int .u8 0,.int .u8 0,.int .u8 0,.int .u8 0,.int .u8 0,.int .u8 0,.int .u8 0,.int .u8 0,.int .u8 0,.int .u8 0,.int .u8 0,.int .u8 0,.int .u8 0,.int .u8 0,.int .u8 0,.int .u8 0,.int .u8 0,.int .u8 0,.int .u8 0,.int .u8 0,.int .u8 0,.int .u8 0,.int .u8 0,.int .u32 0,.int .i64 0,.slice none 0 0,.int .i64 0,.bool false]⟩:=by kernel_rfl
@[simp] theorem aWY :aU Tryz.prog 38=some ⟨.int .i64,1,8,.int .i64 0⟩:=by kernel_rfl
@[simp] theorem aUo :aU Tryz.prog 41=some ⟨.slice 35,1,24,.slice none 0 0⟩:=by kernel_rfl
@[simp] theorem aB8 :aU Tryz.prog 46=some ⟨.slice 31,1,24,.slice none 0 0⟩:=by kernel_rfl
@[simp] theorem aWI :aU Tryz.prog 47=some ⟨.struct #[{name:= "Prev",type:=30,offset:=0,embedded:=false,tag:= "",pkgPath:= "",byteOffset:=0},{name:= "Sequence",type:=22,offset:=33,embedded:=false,tag:= "",pkgPath:= "",byteOffset:=36},{name:= "Witness",type:=46,offset:=34,embedded:=false,tag:= "",pkgPath:= "",byteOffset:=40}],35,64,.agg #[.int .u8 0,.int .u8 0,.int .u8 0,.int .u8 0,.int .u8 0,.int .u8 0,.int .u8 0,.int .u8 0,.int .u8 0,.int .u8 0,.int .u8 0,.int .u8 0,.int .u8 0,.int .u8 0,.int .u8 0,.int .u8 0,.int .u8 0,.int .u8 0,.int .u8 0,.int .u8 0,.int .u8 0,.int .u8 0,.int .u8 0,.int .u8 0,.int .u8 0,.int .u8 0,.int .u8 0,.int .u8 0,.int .u8 0,.int .u8 0,.int .u8 0,.int .u8 0,.int .u32 0,.int .u32 0,.slice none 0 0]⟩:=by kernel_rfl
@[simp] theorem rG :aU Tryz.prog 48=some ⟨.struct #[{name:= "Prev",type:=30,offset:=0,embedded:=false,tag:= "",pkgPath:= "",byteOffset:=0},{name:= "Sequence",type:=22,offset:=33,embedded:=false,tag:= "",pkgPath:= "",byteOffset:=36},{name:= "Witness",type:=46,offset:=34,embedded:=false,tag:= "",pkgPath:= "",byteOffset:=40}],35,64,.agg #[.int .u8 0,.int .u8 0,.int .u8 0,.int .u8 0,.int .u8 0,.int .u8 0,.int .u8 0,.int .u8 0,.int .u8 0,.int .u8 0,.int .u8 0,.int .u8 0,.int .u8 0,.int .u8 0,.int .u8 0,.int .u8 0,.int .u8 0,.int .u8 0,.int .u8 0,.int .u8 0,.int .u8 0,.int .u8 0,.int .u8 0,.int .u8 0,.int .u8 0,.int .u8 0,.int .u8 0,.int .u8 0,.int .u8 0,.int .u8 0,.int .u8 0,.int .u8 0,.int .u32 0,.int .u32 0,.slice none 0 0]⟩:=by kernel_rfl
@[simp] theorem aWJ :aU Tryz.prog 53=some ⟨.struct #[{name:= "Message",type:=28,offset:=0,embedded:=false,tag:= "",pkgPath:= "",byteOffset:=0},{name:= "Height",type:=3,offset:=32,embedded:=false,tag:= "",pkgPath:= "",byteOffset:=32},{name:= "Age",type:=3,offset:=33,embedded:=false,tag:= "",pkgPath:= "",byteOffset:=40}],34,48,.agg #[.int .u8 0,.int .u8 0,.int .u8 0,.int .u8 0,.int .u8 0,.int .u8 0,.int .u8 0,.int .u8 0,.int .u8 0,.int .u8 0,.int .u8 0,.int .u8 0,.int .u8 0,.int .u8 0,.int .u8 0,.int .u8 0,.int .u8 0,.int .u8 0,.int .u8 0,.int .u8 0,.int .u8 0,.int .u8 0,.int .u8 0,.int .u8 0,.int .u8 0,.int .u8 0,.int .u8 0,.int .u8 0,.int .u8 0,.int .u8 0,.int .u8 0,.int .u8 0,.int .i64 0,.int .i64 0]⟩:=by kernel_rfl
@[simp] theorem aCy :aU Tryz.prog 54=some ⟨.struct #[{name:= "Message",type:=28,offset:=0,embedded:=false,tag:= "",pkgPath:= "",byteOffset:=0},{name:= "Height",type:=3,offset:=32,embedded:=false,tag:= "",pkgPath:= "",byteOffset:=32},{name:= "Age",type:=3,offset:=33,embedded:=false,tag:= "",pkgPath:= "",byteOffset:=40}],34,48,.agg #[.int .u8 0,.int .u8 0,.int .u8 0,.int .u8 0,.int .u8 0,.int .u8 0,.int .u8 0,.int .u8 0,.int .u8 0,.int .u8 0,.int .u8 0,.int .u8 0,.int .u8 0,.int .u8 0,.int .u8 0,.int .u8 0,.int .u8 0,.int .u8 0,.int .u8 0,.int .u8 0,.int .u8 0,.int .u8 0,.int .u8 0,.int .u8 0,.int .u8 0,.int .u8 0,.int .u8 0,.int .u8 0,.int .u8 0,.int .u8 0,.int .u8 0,.int .u8 0,.int .i64 0,.int .i64 0]⟩:=by kernel_rfl
@[simp] theorem aWi :aU Tryz.prog 74=some ⟨.map 30 4,1,8,.map none⟩:=by kernel_rfl
@[simp] theorem nQ :aU Tryz.prog 78=some ⟨.int .u64,1,8,.int .u64 0⟩:=by kernel_rfl
@[simp] theorem aQ7 :aU Tryz.prog 80=some ⟨.slice 90,1,24,.slice none 0 0⟩:=by kernel_rfl
@[simp] theorem aKa :aU Tryz.prog 86=some ⟨.slice 113,1,24,.slice none 0 0⟩:=by kernel_rfl
@[simp] theorem aWA :aU Tryz.prog 87=some ⟨.struct #[{name:= "Env",type:=54,offset:=0,embedded:=true,tag:= "",pkgPath:= "",byteOffset:=0},{name:= "stack",type:=46,offset:=34,embedded:=false,tag:= "",pkgPath:= "lightclient/script",byteOffset:=48},{name:= "branches",type:=86,offset:=35,embedded:=false,tag:= "",pkgPath:= "lightclient/script",byteOffset:=72},{name:= "cost",type:=3,offset:=36,embedded:=false,tag:= "",pkgPath:= "lightclient/script",byteOffset:=96}],37,104,.agg #[.int .u8 0,.int .u8 0,.int .u8 0,.int .u8 0,.int .u8 0,.int .u8 0,.int .u8 0,.int .u8 0,.int .u8 0,.int .u8 0,.int .u8 0,.int .u8 0,.int .u8 0,.int .u8 0,.int .u8 0,.int .u8 0,.int .u8 0,.int .u8 0,.int .u8 0,.int .u8 0,.int .u8 0,.int .u8 0,.int .u8 0,.int .u8 0,.int .u8 0,.int .u8 0,.int .u8 0,.int .u8 0,.int .u8 0,.int .u8 0,.int .u8 0,.int .u8 0,.int .i64 0,.int .i64 0,.slice none 0 0,.slice none 0 0,.int .i64 0]⟩:=by kernel_rfl
@[simp] theorem aBX :aU Tryz.prog 88=some ⟨.struct #[{name:= "Env",type:=54,offset:=0,embedded:=true,tag:= "",pkgPath:= "",byteOffset:=0},{name:= "stack",type:=46,offset:=34,embedded:=false,tag:= "",pkgPath:= "lightclient/script",byteOffset:=48},{name:= "branches",type:=86,offset:=35,embedded:=false,tag:= "",pkgPath:= "lightclient/script",byteOffset:=72},{name:= "cost",type:=3,offset:=36,embedded:=false,tag:= "",pkgPath:= "lightclient/script",byteOffset:=96}],37,104,.agg #[.int .u8 0,.int .u8 0,.int .u8 0,.int .u8 0,.int .u8 0,.int .u8 0,.int .u8 0,.int .u8 0,.int .u8 0,.int .u8 0,.int .u8 0,.int .u8 0,.int .u8 0,.int .u8 0,.int .u8 0,.int .u8 0,.int .u8 0,.int .u8 0,.int .u8 0,.int .u8 0,.int .u8 0,.int .u8 0,.int .u8 0,.int .u8 0,.int .u8 0,.int .u8 0,.int .u8 0,.int .u8 0,.int .u8 0,.int .u8 0,.int .u8 0,.int .u8 0,.int .i64 0,.int .i64 0,.slice none 0 0,.slice none 0 0,.int .i64 0]⟩:=by kernel_rfl
@[simp] theorem aWS :aU Tryz.prog 89=some ⟨.struct #[{name:= "Code",type:=3,offset:=0,embedded:=false,tag:= "",pkgPath:= "",byteOffset:=0},{name:= "Data",type:=31,offset:=1,embedded:=false,tag:= "",pkgPath:= "",byteOffset:=8},{name:= "M",type:=3,offset:=2,embedded:=false,tag:= "",pkgPath:= "",byteOffset:=32},{name:= "N",type:=3,offset:=3,embedded:=false,tag:= "",pkgPath:= "",byteOffset:=40}],4,48,.agg #[.int .i64 0,.slice none 0 0,.int .i64 0,.int .i64 0]⟩:=by kernel_rfl
@[simp] theorem aCr :aU Tryz.prog 90=some ⟨.struct #[{name:= "Code",type:=3,offset:=0,embedded:=false,tag:= "",pkgPath:= "",byteOffset:=0},{name:= "Data",type:=31,offset:=1,embedded:=false,tag:= "",pkgPath:= "",byteOffset:=8},{name:= "M",type:=3,offset:=2,embedded:=false,tag:= "",pkgPath:= "",byteOffset:=32},{name:= "N",type:=3,offset:=3,embedded:=false,tag:= "",pkgPath:= "",byteOffset:=40}],4,48,.agg #[.int .i64 0,.slice none 0 0,.int .i64 0,.int .i64 0]⟩:=by kernel_rfl
@[simp] theorem aJ6 :aU Tryz.prog 95=some ⟨.array 8 22,8,32,.agg #[.int .u32 0,.int .u32 0,.int .u32 0,.int .u32 0,.int .u32 0,.int .u32 0,.int .u32 0,.int .u32 0]⟩:=by kernel_rfl
@[simp] theorem aRe :aU Tryz.prog 97=some ⟨.array 64 5,64,64,.agg #[.int .u8 0,.int .u8 0,.int .u8 0,.int .u8 0,.int .u8 0,.int .u8 0,.int .u8 0,.int .u8 0,.int .u8 0,.int .u8 0,.int .u8 0,.int .u8 0,.int .u8 0,.int .u8 0,.int .u8 0,.int .u8 0,.int .u8 0,.int .u8 0,.int .u8 0,.int .u8 0,.int .u8 0,.int .u8 0,.int .u8 0,.int .u8 0,.int .u8 0,.int .u8 0,.int .u8 0,.int .u8 0,.int .u8 0,.int .u8 0,.int .u8 0,.int .u8 0,.int .u8 0,.int .u8 0,.int .u8 0,.int .u8 0,.int .u8 0,.int .u8 0,.int .u8 0,.int .u8 0,.int .u8 0,.int .u8 0,.int .u8 0,.int .u8 0,.int .u8 0,.int .u8 0,.int .u8 0,.int .u8 0,.int .u8 0,.int .u8 0,.int .u8 0,.int .u8 0,.int .u8 0,.int .u8 0,.int .u8 0,.int .u8 0,.int .u8 0,.int .u8 0,.int .u8 0,.int .u8 0,.int .u8 0,.int .u8 0,.int .u8 0,.int .u8 0]⟩:=by kernel_rfl
@[simp] theorem aW2 :aU Tryz.prog 99=some ⟨.int .u64,1,8,.int .u64 0⟩:=by kernel_rfl
@[simp] theorem aPa :aU Tryz.prog 100=some ⟨.slice 103,1,24,.slice none 0 0⟩:=by kernel_rfl
@[simp] theorem aVK :aU Tryz.prog 102=some ⟨.struct #[{name:= "reached",type:=4,offset:=0,embedded:=false,tag:= "",pkgPath:= "lightclient/lightclientref08",byteOffset:=0},{name:= "done",type:=4,offset:=1,embedded:=false,tag:= "",pkgPath:= "lightclient/lightclientref08",byteOffset:=1}],2,2,.agg #[.bool false,.bool false]⟩:=by kernel_rfl
@[simp] theorem aFI :aU Tryz.prog 103=some ⟨.struct #[{name:= "reached",type:=4,offset:=0,embedded:=false,tag:= "",pkgPath:= "lightclient/lightclientref08",byteOffset:=0},{name:= "done",type:=4,offset:=1,embedded:=false,tag:= "",pkgPath:= "lightclient/lightclientref08",byteOffset:=1}],2,2,.agg #[.bool false,.bool false]⟩:=by kernel_rfl
@[simp] theorem aOD :aU Tryz.prog 110=some ⟨.slice 4,1,24,.slice none 0 0⟩:=by kernel_rfl
@[simp] theorem aVl :aU Tryz.prog 111=some ⟨.pointer 88,1,8,.pointer none⟩:=by kernel_rfl
@[simp] theorem aVv :aU Tryz.prog 112=some ⟨.struct #[{name:= "outer",type:=4,offset:=0,embedded:=false,tag:= "",pkgPath:= "lightclient/script",byteOffset:=0},{name:= "taken",type:=4,offset:=1,embedded:=false,tag:= "",pkgPath:= "lightclient/script",byteOffset:=1}],2,2,.agg #[.bool false,.bool false]⟩:=by kernel_rfl
@[simp] theorem aDR :aU Tryz.prog 113=some ⟨.struct #[{name:= "outer",type:=4,offset:=0,embedded:=false,tag:= "",pkgPath:= "lightclient/script",byteOffset:=0},{name:= "taken",type:=4,offset:=1,embedded:=false,tag:= "",pkgPath:= "lightclient/script",byteOffset:=1}],2,2,.agg #[.bool false,.bool false]⟩:=by kernel_rfl
@[simp] theorem aPf :aU Tryz.prog 116=some ⟨.array 64 22,64,256,.agg #[.int .u32 0,.int .u32 0,.int .u32 0,.int .u32 0,.int .u32 0,.int .u32 0,.int .u32 0,.int .u32 0,.int .u32 0,.int .u32 0,.int .u32 0,.int .u32 0,.int .u32 0,.int .u32 0,.int .u32 0,.int .u32 0,.int .u32 0,.int .u32 0,.int .u32 0,.int .u32 0,.int .u32 0,.int .u32 0,.int .u32 0,.int .u32 0,.int .u32 0,.int .u32 0,.int .u32 0,.int .u32 0,.int .u32 0,.int .u32 0,.int .u32 0,.int .u32 0,.int .u32 0,.int .u32 0,.int .u32 0,.int .u32 0,.int .u32 0,.int .u32 0,.int .u32 0,.int .u32 0,.int .u32 0,.int .u32 0,.int .u32 0,.int .u32 0,.int .u32 0,.int .u32 0,.int .u32 0,.int .u32 0,.int .u32 0,.int .u32 0,.int .u32 0,.int .u32 0,.int .u32 0,.int .u32 0,.int .u32 0,.int .u32 0,.int .u32 0,.int .u32 0,.int .u32 0,.int .u32 0,.int .u32 0,.int .u32 0,.int .u32 0,.int .u32 0]⟩:=by kernel_rfl
@[simp] theorem aVr :aU Tryz.prog 128=some ⟨.int .u16,1,2,.int .u16 0⟩:=by kernel_rfl
@[simp] theorem aVC :aU Tryz.prog 134=some ⟨.array 4 78,4,32,.agg #[.int .u64 0,.int .u64 0,.int .u64 0,.int .u64 0]⟩:=by kernel_rfl
@[simp] theorem b8 :aU Tryz.prog 135=some ⟨.array 4 78,4,32,.agg #[.int .u64 0,.int .u64 0,.int .u64 0,.int .u64 0]⟩:=by kernel_rfl
@[simp] theorem aVx :aU Tryz.prog 138=some ⟨.struct #[{name:= "E",type:=135,offset:=0,embedded:=false,tag:= "",pkgPath:= "",byteOffset:=0},{name:= "S",type:=135,offset:=4,embedded:=false,tag:= "",pkgPath:= "",byteOffset:=32}],8,64,.agg #[.int .u64 0,.int .u64 0,.int .u64 0,.int .u64 0,.int .u64 0,.int .u64 0,.int .u64 0,.int .u64 0]⟩:=by kernel_rfl
@[simp] theorem sB :aU Tryz.prog 139=some ⟨.struct #[{name:= "E",type:=135,offset:=0,embedded:=false,tag:= "",pkgPath:= "",byteOffset:=0},{name:= "S",type:=135,offset:=4,embedded:=false,tag:= "",pkgPath:= "",byteOffset:=32}],8,64,.agg #[.int .u64 0,.int .u64 0,.int .u64 0,.int .u64 0,.int .u64 0,.int .u64 0,.int .u64 0,.int .u64 0]⟩:=by kernel_rfl
@[simp] theorem aHs :aU Tryz.prog 167=some ⟨.array 8 78,8,64,.agg #[.int .u64 0,.int .u64 0,.int .u64 0,.int .u64 0,.int .u64 0,.int .u64 0,.int .u64 0,.int .u64 0]⟩:=by kernel_rfl
@[simp] theorem aOR :aU Tryz.prog 169=some ⟨.slice 78,1,24,.slice none 0 0⟩:=by kernel_rfl
@[simp] theorem aSw :aU Tryz.prog 171=some ⟨.slice 28,1,24,.slice none 0 0⟩:=by kernel_rfl
@[simp] theorem aVZ :aU Tryz.prog 184=some ⟨.pointer 5,1,8,.pointer none⟩:=by kernel_rfl
end Go.Proofs.YtbjiaghljpoliaaGreatDoor
namespace Go.Vm
open Go Go.ChangeShapes Go.WideShapes Go.ChangeAt Go.RowKit
section
variable {X:Nat→Prop}{M:List (Option Nat)}{w:World}
theorem aO7 (c:Value):VR X M w (.sc c) c:=by unfold VR;rfl
theorem sF :VCells X M w [] []:=by unfold VCells;rfl
theorem lW {c:V}{v:Value}{cs:List V}{vs:List Value}(h:VR X M w c v)(k:VCells X M w cs vs):VCells X M w (c::cs) (v::vs):=by unfold VCells;exact⟨v,vs,rfl,h,k⟩
theorem aQp {cs:List V}{vs:List Value}(k:VCells X M w cs vs):VR X M w (.agg cs) (.agg vs.toArray):=by unfold VR;exact⟨vs,rfl,k⟩
theorem aNm {P:Program}{ts:List TypeId}(h:(ts.all fun t=>P.readableRec t&&decide (t<P.types.size))=true): ∀t∈ts,P.readableRec t=true∧t<P.types.size:=by
 intro t ht
 have:=aXp.1 h t ht
 simp only[aXv,decide_eq_true_eq]at this
 exact this
end
end Go.Vm
namespace Go.Proofs.YtbjiaghljpoliaaGreatDoor
open Go Go.Vm
open Go.ChangeShapes Go.WideShapes Go.ChangeAt Go.RowKit
theorem own :ownKnob Tryz.prog.godebug=none:=by kernel_rfl
theorem aTX :laidOutB Tryz.prog=true:=by kernel_rfl
end Go.Proofs.YtbjiaghljpoliaaGreatDoor
namespace Go.Proofs.YtbjiaghljpoliaaGreatDoor
open Go Go.Vm
end Go.Proofs.YtbjiaghljpoliaaGreatDoor
namespace Go.Vm
open Go Go.ChangeShapes Go.WideShapes Go.ChangeAt Go.RowKit
def zZ (P:Program)(t:TypeId){α:Type}(Q:α→Prop)(C:α→List V):Prop:=
 ∀{H:Type}{enc:TypeId×Value→H}{w:World}{spare:Nat→Bool}{held:Bool}{fuel:Nat}{cs:List Value}{x:DataW H×List MemPlace},DataW.trod enc P w 0 spare held fuel t cs=some x→ ∃a:α,Q a∧VCells xV [] w (C a) cs
section
variable {P:Program}{t e:TypeId}
theorem qJ {k:IntKind}(ht:P.underlying t=some (.int k)):zZ P t (fun x:Int=>(Lit.int k x).wf=true) (fun x=>[eI k x]):=by
 intro H enc w spare held fuel cs x h
 obtain⟨n,rfl,_,hw⟩:=DataW.trod_int ht h
 exact⟨n,hw,lW (aO7 _) sF⟩
theorem aOI (ht:P.underlying t=some .bool):zZ P t (fun _:Bool=>True) (fun x=>[eB x]):=by
 intro H enc w spare held fuel cs x h
 obtain⟨n,rfl,_⟩:=DataW.trod_bool ht h
 exact⟨n,trivial,lW (aO7 _) sF⟩
theorem aEZ {α:Type}{R:Nat→α→Prop}: ∀(n:Nat),(∀i,i<n→ ∃x,R i x)→ ∃l:List α,l.length=n∧ ∀i x,l[i]? =some x→R i x
 |0,_=>⟨[],rfl,fun i x hx=>by simp at hx⟩
 |n+1,h=>by
  obtain⟨l,hl,hr⟩:=aEZ n (fun i hi=>h i (by omega))
  obtain⟨x,hx⟩:=h n (by omega)
  refine⟨l++[x],by simp[hl],fun i y hy=> ?_⟩
  rcases fK hy with hy|⟨hi,hy⟩
  ·exact hr i y hy
  subst hy;rw[hi,hl];exact hx
theorem aOd {X:Nat→Prop}{M:List (Option Nat)}{w:World}{K:Nat}: ∀(es:List V)(ad:Addr),(∀i e,es[i]? =some e→ ∃v,VR X M w e v∧v.cells.size=K∧LiesAt w (ad.add (i*K)) v.cells)→VRow X M w K es ad
 | [],ad,_=>by unfold VRow;trivial
 |e::es,ad,h=>by
  unfold VRow
  obtain⟨v,h1,h2,h3⟩:=h 0 e rfl
  refine⟨⟨v,h1,h2,by simpa[Addr.add]using h3⟩,aOd es (ad.add K) fun i e' he=> ?_⟩
  obtain⟨v',k1,k2,k3⟩:=h (i+1) e' (by simpa using he)
  refine⟨v',k1,k2, ?_⟩
  rw[wF,show K+i*K=(i+1)*K by rw[aXK];omega]
  exact k3
def aPt {α:Type}(K:Nat)(C:α→List V)(E:α→V):Prop:= ∀x,(E x).okElem K=true∧ ∀(w:World)(vs:List Value),VCells xV [] w (C x) vs→ ∃v,VR xV [] w (E x) v∧v.cells=vs.toArray
theorem aIj {α:Type}{E:α→V}(h: ∀x,(E x).one=true):aPt 1 (fun x=>[E x]) E:=by
 intro x
 have hc:(E x).cells=[E x]:=by have:=h x;generalize E x=y at this ⊢; cases y<;>first|rfl|simp[V.one]at this
 refine⟨by simp[V.okElem,V.flatOk,hc,h x],fun w vs hv=> ?_⟩
 unfold VCells at hv
 obtain⟨v,rest,rfl,h1,h2⟩:=hv
 unfold VCells at h2
 subst h2
 exact⟨v,h1,by rw[eV (h1.oneCell (h x))]⟩
theorem aIc {α:Type}{K:Nat}{C:α→List V}(hl: ∀x,(C x).length=K)(h: ∀x,(C x).all V.one=true):aPt K C (fun x=> .agg (C x)):=by
 intro x
 refine⟨by simp[V.okElem,V.flatOk,V.cells,h x,hl x],fun w vs hv=>⟨.agg vs.toArray,aQp hv,rfl⟩⟩
theorem v9 {α:Type}{Q:α→Prop}{C:α→List V}{E:α→V}{K:Nat}(ht:P.underlying t=some (.slice e))(he:zZ P e Q C)(hK:P.cellsOf e=K)(h0:0<K)(hE:aPt K C E):
  zZ P t (fun l:List α=> ∀x∈l,Q x) (fun l=>[.row none K (l.map E)]):=by
 intro H enc w spare held fuel cs x h
 rcases DataW.trod_slice ht h with⟨rfl,_⟩|⟨a,len,cap,elems,rest,n,_,rfl,_,_,hl,hm,hlen,hel,_,_⟩
 ·refine⟨[],by simp,lW ?_ sF⟩
  unfold VR
  exact⟨none,0,rfl,aXT _,fun _=>rfl,(fun b hb=>by cases hb),by simp,fun hne=>absurd rfl hne⟩
 have each: ∀i,i<len→ ∃x,Q x∧ ∃vs,w.cells? 0 (a.add (i*K)) K=some vs∧VCells xV [] w (C x) vs:=by
  intro i hi
  have h1:=hel i hi
  rw[hK,aXl (by omega)]at h1
  simp only[aYx]at h1
  obtain⟨vs,h2,h3⟩:=h1
  obtain⟨x,hq,hv⟩:=he h3
  exact⟨x,hq,vs,h2,hv⟩
 obtain⟨l,hll,hr⟩:=aEZ len each
 have hlm:(l.map E).length=len:=by simp[hll]
 refine⟨l,fun x hx=> ?_,lW ?_ sF⟩
 ·obtain⟨i,hi,rfl⟩:=List.mem_iff_getElem.1 hx
  exact(hr i _ (aXl hi)).1
 unfold VR
 refine⟨some a,cap,by rw[hlm],by rw[hlm];exact hl,fun hh=>(by cases hh),(fun b hb=>by cases hb),fun y hy=> ?_,fun hne=> ?_⟩
 ·simp only[aYU]at hy
  obtain⟨x,_,rfl⟩:=hy
  exact(hE x).1
 have hpos:0<len:=by
  rcases Nat.eq_zero_or_pos len with h0|h0
  ·exact absurd (aXq (by rw[hlm];exact h0)) hne
  exact h0
 have lies: ∀(ad:Addr)(vs:List Value),w.cells? 0 ad K=some vs→vs.length=K∧LiesAt w ad vs.toArray:=by
  intro ad vs hvs
  obtain⟨h1,h2⟩:=World.cells?_some hvs
  have h3:vs.length=K∧ ∀i,i<K→w.cell? (ad.add i)=vs[i]? :=by
   unfold World.cells? at hvs
   rw[if_pos (Nat.zero_le _)]at hvs
   obtain⟨hl,hget⟩:=aGh hvs
   simp only[List.length_range]at hl
   refine⟨hl.symm,fun i hi=> ?_⟩
   have hv:i<vs.length:=by omega
   rw[aXl hv]
   exact hget i i vs[i] (by simp[hi]) (aXl hv)
  refine⟨h3.1,fun j u hu=> ?_⟩
  have hj:j<K:=by have:=(aXx.1 hu).1;simp at this;omega
  rw[h3.2 j hj];simpa using hu
 obtain⟨x0,_,vs0,hc0,_⟩:=each 0 hpos
 obtain⟨hl0,hlies0⟩:=lies _ _ hc0
 have hsp:a.spot=none:=by
  have hv:0<vs0.length:=by omega
  have:=World.cell?_spot (hlies0 0 vs0[0] (by simp[hv]))
  simpa[Addr.add]using this
 refine⟨a,rfl,h0,id,hsp,aOd _ _ fun i y hy=> ?_⟩
 simp only[aXB,aXy]at hy
 obtain⟨x,hx,rfl⟩:=hy
 obtain⟨_,vs,hcs,hv⟩:=hr i x hx
 obtain⟨hl1,hlies⟩:=lies _ _ hcs
 obtain⟨v,hv1,hv2⟩:=(hE x).2 w vs hv
 exact⟨v,hv1,by rw[hv2];simp[hl1],by rw[hv2];exact hlies⟩
def aPj (P:Program)(t:TypeId){α:Type}(Q:α→Prop)(E:α→V):Prop:=
 ∀{H:Type}{enc:TypeId×Value→H}{w:World}{base:Nat}{v:Value}{d:DataW H}{p:List MemPlace},Value.okWide P w .any base t v→DataW.Trod enc P w 0 (fun _=>true) true t v d p→ ∃a:α,Q a∧VR xV [] w (E a) v
theorem aE5 {w:World}{c:V}{v:Value}(h:VCells xV [] w [c] [v]):VR xV [] w c v:=by
 unfold VCells at h
 obtain⟨u,rest,h1,h2,_⟩:=h
 injection h1 with h1 h3
 subst h1
 exact h2
theorem aPQ {k:IntKind}(ht:P.underlying t=some (.int k)):aPj P t (fun x:Int=>(Lit.int k x).wf=true) (eI k):=by
 intro H enc w base v d p hv ⟨fuel,h⟩
 obtain⟨n,rfl⟩:=okWide_int ht hv
 obtain⟨a,hq,hc⟩:=qJ ht h
 exact⟨a,hq,aE5 hc⟩
theorem aNO {α:Type}{Q:α→Prop}{C:α→List V}{E:α→V}{K:Nat}(ht:P.underlying t=some (.slice e))(he:zZ P e Q C)(hK:P.cellsOf e=K)(h0:0<K)(hE:aPt K C E):aPj P t (fun l:List α=> ∀x∈l,Q x) (eL K E):=by
 intro H enc w base v d p hv ⟨fuel,h⟩
 obtain⟨a,l,c,rfl⟩:=okWide_slice ht hv
 obtain⟨a,hq,hc⟩:=v9 ht he hK h0 hE h
 exact⟨a,hq,aE5 hc⟩
theorem aL0 {α:Type}{Q:α→Prop}{C:α→List V}{fs:Array Field}(ht:P.underlying t=some (.struct fs))(ho:zZ P t Q C):aPj P t Q (fun x=> .agg (C x)):=by
 intro H enc w base v d p hv ⟨fuel,h⟩
 obtain⟨cs,rfl,_⟩:=okWide_struct ht hv
 obtain⟨a,hq,hc⟩:=ho h
 exact⟨a,hq,by have:=aQp hc;simpa[Value.cells]using this⟩
end
end Go.Vm
namespace Go.Proofs.YtbjiaghljpoliaaGreatDoor
open Go Go.Vm
open Go.ChangeShapes Go.WideShapes Go.ChangeAt Go.RowKit
theorem aOb {W:World}{g:Nat}{xs:List Int}(hne:0<xs.length)(hc: ∀i,i<xs.length→W.cell? ⟨g,i,none⟩=some (.int .u32 (xs.getD i 0))):VR xV [] W (.eptr [.agg (xs.map fun x=> .sc (.int .u32 x))] 0 0) (.pointer (some ⟨g,0,none⟩)):=by
 unfold VR
 refine⟨⟨g,0,none⟩,xs.length,by simp[Addr.add],hne,fun _ hx=>hx,rfl, ?_, ?_⟩
 ·intro e he
  simp only[List.mem_singleton]at he
  subst he
  simp[V.okElem,V.flatOk,V.cells,V.one,List.all_map]
  exact fun _ _=>rfl
 unfold VRow
 refine⟨⟨.agg (xs.map fun x=>Value.int .u32 x).toArray, ?_,by simp[Value.cells], ?_⟩,by unfold VRow;trivial⟩
 ·unfold VR
  refine⟨xs.map fun x=>Value.int .u32 x,rfl, ?_⟩
  generalize xs=ys
  induction ys with
  |nil=>exact sF
  |cons y ys ih=>exact lW (aO7 _) ih
 intro j u hu
 simp only[Value.cells,aYB,aXB,aXy]at hu
 obtain⟨x,hx,rfl⟩:=hu
 have hj:=(aXj.1 hx).1
 have:=hc j hj
 simp only[aX7,hx,Option.getD_some]at this
 have e:(⟨g,0,none⟩:Addr).add j=⟨g,j,none⟩:=by simp only[Addr.add];split<;>simp_all
 rw[e];exact this
theorem gK :Tryz.prog.globalNamed "lightclient/sha.k" =some 1:=by kernel_rfl
theorem gKt :(Tryz.prog.globals[1]?).map (·.type)=some 116:=by kernel_rfl
theorem gI :Tryz.prog.globalNamed "lightclient/sha.initial" =some 0:=by kernel_rfl
theorem gIt :(Tryz.prog.globals[0]?).map (·.type)=some 95:=by kernel_rfl
theorem aTb :Tryz.prog.cellsOf 116=64:=by kernel_rfl
theorem aUx :Tryz.prog.cellsOf 95=8:=by kernel_rfl
theorem aPV :Tryz.prog.cellsOf 22=1:=by kernel_rfl
theorem aXc {W:World} (h:laidMetH Tryz.prog [("lightclient/sha.k",Rows.laid_lightclient_sha_k),("lightclient/sha.initial",Rows.laid_lightclient_sha_initial)] W):Lib.TabIs Tryz.prog W "lightclient/sha.k" .u32 aE1:=
 Lib.tabIs_of_head (rest:=[("lightclient/sha.initial",Rows.laid_lightclient_sha_initial)]) gK gKt Tryz.underlying116 Tryz.underlying22 aPV aTb h
theorem aW9 {W:World} (h:laidMetH Tryz.prog [("lightclient/sha.k",Rows.laid_lightclient_sha_k),("lightclient/sha.initial",Rows.laid_lightclient_sha_initial)] W):Lib.TabIs Tryz.prog W "lightclient/sha.initial" .u32 aAf:=by
 have h2:=h.filter (fun x=>x.1 == "lightclient/sha.initial")
 exact Lib.tabIs_of_head (rest:=[]) gI gIt Tryz.underlying95 Tryz.underlying22 aPV aUx h2
theorem aVD {W:World} (h:laidMetH Tryz.prog [("lightclient/sha.k",Rows.laid_lightclient_sha_k),("lightclient/sha.initial",Rows.laid_lightclient_sha_initial)] W):Globs xV W:=by
 intro g e hg
 unfold GT at hg
 split at hg
 ·injection hg with hg
  subst hg
  exact aOb (xs:=aAf) (by decide) (fun i hi=>(aW9 h).cell gI i hi)
 ·injection hg with hg
  subst hg
  exact aOb (xs:=aE1) (by decide) (fun i hi=>(aXc h).cell gK i hi)
 cases hg
theorem aES {l:List Int}(hl: ∀x∈l,(Lit.int .u8 x).wf=true):Byt l:=by
 intro x hx
 have:=hl x hx
 simp[Lit.wf,IntKind.min,IntKind.max,IntKind.signed,IntKind.bits]at this;omega
def lay (i:Nat)(cs:Array Value)(h:Array Obj):Array Obj:=h.modify i fun
 | .cells _ t frozen=> .cells cs t frozen
 |o=>o
noncomputable def aG6 (os:Os):World:=
 {World.holding Tryz.prog os ⟨#[],#[],[]⟩with heap:=lay 1 #[.int .u32 1116352408,.int .u32 1899447441,.int .u32 3049323471,.int .u32 3921009573,.int .u32 961987163,.int .u32 1508970993,.int .u32 2453635748,.int .u32 2870763221,.int .u32 3624381080,.int .u32 310598401,.int .u32 607225278,.int .u32 1426881987,.int .u32 1925078388,.int .u32 2162078206,.int .u32 2614888103,.int .u32 3248222580,.int .u32 3835390401,.int .u32 4022224774,.int .u32 264347078,.int .u32 604807628,.int .u32 770255983,.int .u32 1249150122,.int .u32 1555081692,.int .u32 1996064986,.int .u32 2554220882,.int .u32 2821834349,.int .u32 2952996808,.int .u32 3210313671,.int .u32 3336571891,.int .u32 3584528711,.int .u32 113926993,.int .u32 338241895,.int .u32 666307205,.int .u32 773529912,.int .u32 1294757372,.int .u32 1396182291,.int .u32 1695183700,.int .u32 1986661051,.int .u32 2177026350,.int .u32 2456956037,.int .u32 2730485921,.int .u32 2820302411,.int .u32 3259730800,.int .u32 3345764771,.int .u32 3516065817,.int .u32 3600352804,.int .u32 4094571909,.int .u32 275423344,.int .u32 430227734,.int .u32 506948616,.int .u32 659060556,.int .u32 883997877,.int .u32 958139571,.int .u32 1322822218,.int .u32 1537002063,.int .u32 1747873779,.int .u32 1955562222,.int .u32 2024104815,.int .u32 2227730452,.int .u32 2361852424,.int .u32 2428436474,.int .u32 2756734187,.int .u32 3204031479,.int .u32 3329325298] (lay 0 #[.int .u32 1779033703,.int .u32 3144134277,.int .u32 1013904242,.int .u32 2773480762,.int .u32 1359893119,.int .u32 2600822924,.int .u32 528734635,.int .u32 1541459225] (World.holding Tryz.prog os ⟨#[],#[],[]⟩).heap)}
end Go.Proofs.YtbjiaghljpoliaaGreatDoor
namespace Go.Vm
open Go
def aO6 (O:xK)(G:FuncId→Bool):Prop:= ∀f h args r h',G f=true→O f h args=some (r,h')→ ∃news,h'=h++news
def aJE (G:FuncId→Bool)(o:Oper):Bool:=
 aFl o || (match o.op with
  | .call c=>match c.callee with
   | .value (.func f)=>G f
   | .builtin .append=>match c.args.toList with
    | [.const (.slice none 0 0),_]=>true
    |_=>false
   |_=>false
  |_=>false)
theorem aNR {P:Program}{t t':TypeId}{k:Nat}{y r:V}{h h':Hp}(hr:nF P t t' (.row (some true) k []) y h=some (r,h')): ∃news,h'=h++news:=by
 simp only[nF]at hr
 repeat' split at hr
 all_goals first|(cases hr;done)|(simp only[aXn,aXL]at hr;exact⟨_,by rw[←hr.2,aYf]⟩)
def aRf (O:xK)(F:FuncId→Bool):Prop:= ∀f h args r h',F f=true→O f h args=some (r,h')→ ∀h2,O f h2 args=some (r,h2)
def aIU (F:FuncId→Bool)(o:Oper):Bool:=
 match o.op with
 | .move _ | .assign _ | .nilCheck _ | .binOp _ _ _ _ _ | .unOp _ _ _ | .fieldAddr _ _ _ | .field _ _ _ | .indexAddr _ _ _ | .index _ _ _ | .extract _ _ | .sliceToArrayPointer _ _=>true
 | .call c=>match c.callee with
  | .value (.func f)=>F f
  |_=>false
 |_=>false
def aLU (F G:FuncId→Bool)(ops:Array Oper)(oj oi:Oper):Bool:=
 oj.apart ops oi&&(aIU F oj || aIU F oi || (z7 F oj&&z7 F oi) || (aJE G oj&&aC8 oi) || (aC8 oj&&aJE G oi))
section
variable {P:Program}{O O':xK}{F G:FuncId→Bool}{s:List V}{h h':Hp}{ops:Array Oper}
theorem inScope.mono {n m:Nat}(hnm:n≤m){z:V}(hz:inScope n z):inScope m z:=by
 cases z<;>first|trivial|exact aXY hz hnm
theorem Scoped.mono {n m:Nat}(hnm:n≤m){o:Oper}(hs:Scoped s o n):Scoped s o m:=fun y hy z hz=>(hs y hy z hz).mono hnm
theorem aEh {o:Oper}(hs:aC8 o=true): ∀(news:Hp){h:Hp},Scoped s o h.length→dE P O ops o s (h++news)=(dE P O ops o s h).map fun p=>(p.1,h++news)
 | [],h,hsc=>by
  simp only[aX2]
  cases hv:dE P O ops o s h with
  |none=>rfl
  |some p=>
   obtain⟨v,g⟩:=p
   obtain rfl:g=h:=yL (F:=fun _=>false) (fun _ _ _ _ _ hf=>by cases hf) hs hv
   rfl
 |x::news,h,hsc=>by
  have e1:h++x::news=(h++[x])++news:=by simp
  rw[e1,aEh hs news (hsc.mono (by simp)),aNM hs hsc]
  cases dE P O ops o s h<;>rfl
theorem aGK (hG:aO6 O G){o:Oper}(hg:aJE G o=true){r:V}(hr:dE P O ops o s h=some (r,h')): ∃news,h'=h++news:=by
 unfold dE at hr
 split at hr
 ·rename_i hw
  clear hw
  simp only[aJE,aYq]at hg
  rcases hg with hg|hg
  ·obtain⟨B,hB⟩:=aOY hg hr;exact⟨_,hB⟩
  obtain⟨dst,op,type,pos,after,guard⟩:=o
  cases op<;>simp only[aXr]at hg
  case call c=>
   obtain⟨callee,args,argTypes⟩:=c
   cases callee<;>simp only[aXr]at hg
   case value f=>
    cases f<;>simp only[aXr]at hg
    case func f=>
     simp only[bY,zP]at hr
     split at hr
     ·cases hr
     exact hG _ _ _ _ _ hg hr
   case builtin b=>
    cases b<;>simp only[aXr]at hg
    case append=>
     split at hg
     ·rename_i y he
      simp only[bY,zP,he]at hr
      cases hy:ev s y with
      |none=>
       have h2:evs s [.const (.slice none 0 0),y]=none:=by simp only[evs,aXM,List.mapM_nil,hy,show ev s (.const (.slice none 0 0))=some (.row (some true) 1 [])from rfl];rfl
       rw[h2]at hr
       cases hr
      |some z=>
       have h2:evs s [.const (.slice none 0 0),y]=some [.row (some true) 1 [],z]:=by simp only[evs,aXM,List.mapM_nil,hy,show ev s (.const (.slice none 0 0))=some (.row (some true) 1 [])from rfl];rfl
       rw[h2]at hr
       revert hr
       rcases argTypes.toList with _|⟨t,_|⟨t',_|⟨t'',l⟩⟩⟩<;>intro hr
       ·cases hr
       ·cases hr
       ·exact aNR hr
       cases hr
     cases hg
 ·simp only[aXn,aXL]at hr;exact⟨[],by simp[hr.2]⟩
 cases hr
theorem aL2 (hF:aFi O F)(hU:aRf O F){o:Oper}(hf:aIU F o=true){r:V}(hr:dE P O ops o s h=some (r,h')):h'=h∧ ∀h2,dE P O ops o s h2=some (r,h2):=by
 unfold dE at hr⊢
 cases hw:nE ops o s with
 |none=>rw[hw]at hr;cases hr
 |some b=>
  rw[hw]at hr
  cases b with
  |false=>
   simp only[aXn,aXL]at hr⊢
   exact⟨hr.2.symm,fun h2=>⟨hr.1,trivial⟩⟩
  |true=>
   simp only at hr⊢
   clear hw
   obtain⟨dst,op,type,pos,after,guard⟩:=o
   cases op<;>simp only[aIU,aXr]at hf
   case call c=>
    obtain⟨callee,args,argTypes⟩:=c
    cases callee<;>simp only[aXr]at hf
    case value f=>
     cases f<;>simp only[aXr]at hf
     case func f=>
      simp only[bY,zP]at hr⊢
      cases hx:evs s args.toList with
      |none=>rw[hx]at hr;cases hr
      |some xs=>
       rw[hx]at hr
       simp only at hr⊢
       exact⟨hF _ _ _ _ _ hf hr,hU _ _ _ _ _ hf hr⟩
   all_goals
    simp only[bY,aYx,aXy,aXL]at hr
    first
     |(obtain⟨a,ha,rfl,rfl⟩:=hr;exact⟨rfl,fun h2=>by simp[bY,ha]⟩)
     |(obtain⟨a,ha,b,hb,rfl,rfl⟩:=hr;exact⟨rfl,fun h2=>by simp[bY,ha,hb]⟩)
     |(obtain⟨a,ha,b,hb,c,hc,rfl,rfl⟩:=hr;exact⟨rfl,fun h2=>by simp[bY,ha,hb,hc]⟩)
def StepR (P:Program)(F G:FuncId→Bool)(ops:Array Oper)(o:Oper)(s:List V)(h:Hp)(s1:List V)(h1:Hp):Prop:=
 ∃O,aET P O∧aFi O F∧aO6 O G∧aRf O F∧aCH P O ops o s h=some (s1,h1)
theorem StepR.comm {oj oi:Oper}(hp:aLU F G ops oj oi=true)(hsi:Scoped s oi h.length)(hsj:Scoped s oj h.length){s1 s2:List V}{h1 h2:Hp}
  (e1:StepR P F G ops oj s h s1 h1) (e2:StepR P F G ops oi s1 h1 s2 h2): ∃s3 h3,StepR P F G ops oi s h s3 h3∧StepR P F G ops oj s3 h3 s2 h2:=by
 obtain⟨O1,ok1,hF1,hG1,hU1,e1⟩:=e1
 obtain⟨O2,ok2,hF2,hG2,hU2,e2⟩:=e2
 simp only[aLU,aXv,aYq]at hp
 obtain⟨hap,hp⟩:=hp
 obtain⟨a1,a2,a3⟩:=Oper.apart_spec hap
 rw[f9]at e1 e2
 simp only[aXy,aXL]at e1 e2
 obtain⟨⟨v1,g1⟩,f1,rfl,rfl⟩:=e1
 obtain⟨⟨v2,g2⟩,f2,rfl,rfl⟩:=e2
 simp only at f1 f2⊢
 rw[v8 oi _ _ a1]at f2
 rcases hp with(((hj|hi)|⟨hj,hi⟩)|⟨hj,hi⟩)|⟨hj,hi⟩
 ·obtain⟨rfl,hall⟩:=aL2 hF1 hU1 hj f1
  refine⟨mC s oi.dst v2,g2,⟨O2,ok2,hF2,hG2,hU2,by rw[f9,f2];rfl⟩,O1,ok1,hF1,hG1,hU1, ?_⟩
  rw[f9,v8 oj _ _ a3,hall g2]
  simp only[aXs]
  rw[aDf s v1 v2 a2]
 ·obtain⟨rfl,hall⟩:=aL2 hF2 hU2 hi f2
  refine⟨mC s oi.dst v2,h,⟨O2,ok2,hF2,hG2,hU2,by rw[f9,hall h];rfl⟩,O1,ok1,hF1,hG1,hU1, ?_⟩
  rw[f9,v8 oj _ _ a3,f1]
  simp only[aXs]
  rw[aDf s v1 v2 a2]
 ·obtain rfl:=yL hF1 hj f1
  obtain rfl:=yL hF2 hi f2
  refine⟨mC s oi.dst v2,_,⟨O2,ok2,hF2,hG2,hU2,by rw[f9,f2];rfl⟩,O1,ok1,hF1,hG1,hU1, ?_⟩
  rw[f9,v8 oj _ _ a3,f1]
  simp only[aXs]
  rw[aDf s v1 v2 a2]
 ·obtain⟨news,rfl⟩:=aGK hG1 hj f1
  rw[aEh hi news hsi]at f2
  simp only[aXy,aXL]at f2
  obtain⟨⟨v3,g3⟩,f3,rfl,rfl⟩:=f2
  obtain rfl:g3=h:=yL (F:=fun _=>false) (fun _ _ _ _ _ hf=>by cases hf) hi f3
  refine⟨mC s oi.dst v3,g3,⟨O2,ok2,hF2,hG2,hU2,by rw[f9,f3];rfl⟩,O1,ok1,hF1,hG1,hU1, ?_⟩
  rw[f9,v8 oj _ _ a3,f1]
  simp only[aXs]
  rw[aDf s v1 v3 a2]
 obtain rfl:g1=h:=yL (F:=fun _=>false) (fun _ _ _ _ _ hf=>by cases hf) hj f1
 refine⟨mC s oi.dst v2,g2,⟨O2,ok2,hF2,hG2,hU2,by rw[f9,f2];rfl⟩,O1,ok1,hF1,hG1,hU1, ?_⟩
 obtain⟨news,rfl⟩:=aGK hG2 hi f2
 rw[f9,v8 oj _ _ a3,aEh hj news hsj,f1]
 simp only[aXs]
 rw[aDf s v1 v2 a2]
def aPo (s:List V)(h:Hp):Prop:= ∃A M a w,Rel A M s h a w
theorem StepR.real {i:Nat}{o:Oper}(hi:ops[i]? =some o){s1:List V}{h1:Hp}(hr:aPo s h)(e:StepR P F G ops o s h s1 h1):aPo s1 h1:=by
 obtain⟨A,M,a,w,R⟩:=hr
 obtain⟨O,ok,_,_,_,e⟩:=e
 obtain⟨a',w',M',R'⟩:=aNZ (aFU (Q:=fun _ _ _=>False) ok R hi e (K:=fun a' w'=> ∃M',Rel A M' s1 h1 a' w') fun a' w' M' _ R'=>⟨M',R'⟩)
 exact⟨A,M',a',w',R'⟩
def aVB (P:Program)(N:Nat)(ops:Array Oper)(m:Nat)(listed:Array Bool)(s:List V)(h:Hp)(K:List V→Hp→Prop):Prop:=
 ∀(A:Nat→Prop)(M0 M:List (Option Nat))(h0:Hp)(w0:World)(a:Act)(w:World)(Q:Exit→Act→World→Prop),h0.length=N→M0.length=N→Grow A M0 h0 w0 M h w→Rel A M s h a w→
  (∀s' h' M' a' w',K s' h'→Grow A M0 h0 w0 M' h' w'→Rel A M' s' h' a' w'→Q .normal a' w')→wpAny P .any ops Q m listed a w
def aMY (ops:Array Oper)(listed:Array Bool):Bool:=
 (aX4 ops.size).all fun j=>listed.getD j true || (aX4 ops.size).all fun i=> !(listed.getD i false) || (aNo ops j j [j]).contains i
def Good (P:Program)(N:Nat)(F G:FuncId→Bool)(ops:Array Oper)(K:List V→Hp→Prop):Nat→Array Bool→List V→Hp→Prop
 |0,listed,s,h=>aEQ ops.size listed=[]∧K s h
 |n+1,listed,s,h=>(aMY ops listed=true∧aVB P N ops (n+1) listed s h K)∨(aPo s h→Region.ready .any ops listed≠ []∧ ∀i∈Region.ready .any ops listed,∃o s1 h1,ops[i]? =some o∧StepR P F G ops o s h s1 h1∧Good P N F G ops K n (listed.setIfInBounds i true) s1 h1)
theorem aPM {listed:Array Bool}{i:Nat}(hi:i∈Region.ready .any ops listed):i∈aEQ ops.size listed:=by
 obtain⟨h1,o,ho,_⟩:=mem_ready.1 hi
 simp only[aEQ,aY8,aYI]
 exact⟨(aXx.1 ho).1,by simp[h1]⟩
theorem Good.sound {N:Nat}{A:Nat→Prop}{M0:List (Option Nat)}{h0:Hp}(hN:h0.length=N)(hM:M0.length=N){w0:World}{K:List V→Hp→Prop}{Q:Exit→Act→World→Prop}:
  ∀(n:Nat)(listed:Array Bool){M:List (Option Nat)}{s:List V}{h:Hp}{a:Act}{w:World},Good P N F G ops K n listed s h→Grow A M0 h0 w0 M h w→Rel A M s h a w→
  (∀s' h' M' a' w',K s' h'→Grow A M0 h0 w0 M' h' w'→Rel A M' s' h' a' w'→Q .normal a' w')→wpAny P .any ops Q n listed a w
 |0,listed,M,s,h,a,w,hg,Gr,R,hQ=>by
  obtain⟨hnil,hk⟩:=hg
  refine⟨?_,hQ s h M a w hk Gr R⟩
  apply List.eq_nil_iff_forall_not_mem.2
  intro i hi
  have:=aPM hi
  rw[hnil]at this
  cases this
 |n+1,listed,M,s,h,a,w,hg,Gr,R,hQ=>by
  rcases hg with⟨_,hg⟩|hg
  ·exact hg A M0 M h0 w0 a w Q hN hM Gr R hQ
  obtain⟨hne,hall⟩:=hg ⟨A,M,a,w,R⟩
  refine⟨fun hn=>absurd hn hne,fun i hi=> ?_⟩
  obtain⟨o,s1,h1,ho,⟨O,ok,_,_,_,e⟩,hg'⟩:=hall i hi
  refine aFU ok R ho e fun a' w' M' G' R'=> ?_
  exact Good.sound hN hM n _ hg' (Gr.trans G') R' hQ
def aFx (F G:FuncId→Bool)(ops:Array Oper)(listed:Array Bool)(i:Nat):Bool:=
 (Region.ready .any ops listed).contains i&&(match ops[i]? with
  |none=>false
  |some oi=>(aX4 ops.size).all fun j=>(j == i) || listed.getD j true || (match ops[j]? with
   |none=>true
   |some oj=>aLU F G ops oi oj || (aNo ops j j [j]).contains i))
theorem aGk {listed:Array Bool}{i:Nat}(d:Bool)(hi:i<listed.size):(listed.setIfInBounds i true).getD i d=true:=by simp[hi]
theorem aLC (listed:Array Bool)(i j:Nat):(listed.setIfInBounds i true).setIfInBounds j true=(listed.setIfInBounds j true).setIfInBounds i true:=by
 by_cases hij:i=j
 ·subst hij;rfl
 apply Array.ext'
 apply aX5
 intro k
 simp only[Array.getElem?_toList,Array.getElem?_setIfInBounds]
 by_cases h1:i=k<;>by_cases h2:j=k<;>simp_all
theorem aQj {listed:Array Bool}{i j:Nat}{oj:Oper}(hi:i<ops.size)(hc:aHp ops listed)(hsz:listed.size=ops.size)(hcut:aMY ops (listed.setIfInBounds i true)=true)(hij:i≠j)(huni:listed.getD i true=false)(hunj:listed.getD j true=false)(hoj:ops[j]? =some oj)(hprej: ∀e∈oj.after,Region.binds .any e=true→listed.getD e.on false=true):False:=by
 have hjn:j<ops.size:=(aXx.1 hoj).1
 have h1:=aXp.1 hcut j (by simpa using hjn)
 rw[getD_set_ne true hij,hunj]at h1
 simp only[aYP]at h1
 have h2:=aXp.1 h1 i (by simpa using hi)
 rw[aGk false (by rw[hsz];exact hi)]at h2
 simp only[Bool.not_true,aYP]at h2
 rcases aE6 hc hoj hprej j [j] (by simp) i (by simpa using h2)with h4|h4
 ·exact hij h4
 have:=getD_both huni
 rw[h4]at this;cases this
theorem Good.pick {N:Nat}{K:List V→Hp→Prop}: ∀(n:Nat){listed:Array Bool}{s:List V}{h:Hp}{i:Nat}{oi:Oper}{s1:List V}{h1:Hp},listed.size=ops.size→aHp ops listed→aFx F G ops listed i=true→ops[i]? =some oi→StepR P F G ops oi s h s1 h1→
  Good P N F G ops K n (listed.setIfInBounds i true) s1 h1→Good P N F G ops K (n+1) listed s h
 |0,listed,s,h,i,oi,s1,h1,hsz,hc,hp,hoi,e,hg=>by
  refine .inr fun hr=> ?_
  simp only[aFx,aXv]at hp
  have hi:i∈Region.ready .any ops listed:=by simpa using hp.1
  refine⟨(fun hn=>by rw[hn]at hi;cases hi),fun j hj=> ?_⟩
  by_cases hij:i=j
  ·subst hij;exact⟨oi,s1,h1,hoi,e,hg⟩
  exfalso
  obtain⟨hun,oj,hoj,_⟩:=mem_ready.1 hj
  have:j∈aEQ ops.size (listed.setIfInBounds i true):=by
   simp only[aEQ,aY8,aYI]
   exact⟨(aXx.1 hoj).1,by rw[getD_set_ne true hij,hun];rfl⟩
  rw[hg.1]at this
  cases this
 |n+1,listed,s,h,i,oi,s1,h1,hsz,hc,hp,hoi,e,hg=>by
  refine .inr fun hr=> ?_
  have hp0:=hp
  simp only[aFx,aXv]at hp
  have hi:i∈Region.ready .any ops listed:=by simpa using hp.1
  obtain⟨huni,_,hoi',hprei⟩:=mem_ready.1 hi
  obtain rfl:oi=_:=aYC (hoi.symm.trans hoi')
  refine⟨(fun hn=>by rw[hn]at hi;cases hi),fun j hj=> ?_⟩
  by_cases hij:i=j
  ·subst hij;exact⟨oi,s1,h1,hoi,e,hg⟩
  obtain⟨hunj,oj,hoj,hprej⟩:=mem_ready.1 hj
  have hjn:j<ops.size:=(aXx.1 hoj).1
  have hin:i<ops.size:=(aXx.1 hoi).1
  have hj':j∈Region.ready .any ops (listed.setIfInBounds i true):=mem_ready.2 ⟨by rw[getD_set_ne true hij];exact hunj,oj,hoj,fun ed he hb=>getD_set_true (hprej ed he hb)⟩
  have hr1:aPo s1 h1:=e.real hoi hr
  rcases hg with⟨hcut,_⟩|hg
  ·exact(aQj hin hc hsz hcut hij huni hunj hoj hprej).elim
  obtain⟨_,hall⟩:=hg hr1
  obtain⟨oj',s2,h2,hoj',e2,hg2⟩:=hall j hj'
  obtain rfl:oj=oj':=aYC (hoj.symm.trans hoj')
  have hpair:aLU F G ops oi oj=true:=by
   rw[hoi]at hp
   have h3:=aXp.1 hp.2 j (by simpa using hjn)
   simp only[hoj,aYq,beq_iff_eq]at h3
   rcases h3 with(h3|h3)|(h3|h3)
   ·exact absurd h3.symm hij
   ·rw[hunj]at h3;cases h3
   ·exact h3
   exfalso
   rcases aE6 hc hoj hprej j [j] (by simp) i (by simpa using h3)with h4|h4
   ·exact hij h4
   have:=getD_both huni
   rw[h4]at this;cases this
  obtain⟨A,M,a,w,R⟩:=hr
  have hsc:=R.scopeOk
  obtain⟨s3,h3,f1,f2⟩:=StepR.comm hpair (hsc.op oj) (hsc.op oi) e e2
  refine⟨oj,s3,h3,hoj,f1, ?_⟩
  have hc':aHp ops (listed.setIfInBounds j true):=by
   intro k ok hk hl ed he hb
   by_cases hjk:j=k
   ·subst hjk
    obtain rfl:ok=oj:=aYC (hk.symm.trans hoj)
    exact getD_set_true (hprej ed he hb)
   rw[getD_set_ne false hjk]at hl
   exact getD_set_true (hc k ok hk hl ed he hb)
  have hp':aFx F G ops (listed.setIfInBounds j true) i=true:=by
   have hi2:i∈Region.ready .any ops (listed.setIfInBounds j true):=mem_ready.2 ⟨by rw[getD_set_ne true (Ne.symm hij)];exact huni,oi,hoi,fun ed he hb=>getD_set_true (hprei ed he hb)⟩
   simp only[aFx,aXv,hoi]
   refine⟨by simpa using hi2,aXp.2 fun k hk=> ?_⟩
   rw[hoi]at hp
   have h3:=aXp.1 hp.2 k hk
   simp only[aYq]at h3⊢
   rcases h3 with(h3|h3)|h3
   ·exact .inl (.inl h3)
   ·refine .inl (.inr ?_)
    by_cases hjk:j=k
    ·subst hjk;exact aGk true (by rw[hsz];exact hjn)
    rw[getD_set_ne true hjk];exact h3
   exact .inr h3
  refine Good.pick n (by simpa using hsz) hc' hp' hoi f2 ?_
  rw[aLC]
  exact hg2
def DrawG (P:Program)(N:Nat)(F G:FuncId→Bool)(ops:Array Oper)(n:Nat)(listed:Array Bool)(s:List V)(h:Hp)(K:List V→Hp→Prop):Prop:=Good P N F G ops K n listed s h
def aOh (ops:Array Oper)(listed:Array Bool):Bool:=
 (aX4 ops.size).all fun j=>match ops[j]? with
  |none=>true
  |some oj=> !(listed.getD j false) || oj.after.all fun e=> !(Region.binds .any e) || listed.getD e.on false
theorem aMU {listed:Array Bool}(hb:aOh ops listed=true):aHp ops listed:=by
 intro j oj hj hl e he hbi
 have hjn:j<ops.size:=(aXx.1 hj).1
 have h1:=aXp.1 hb j (by simpa using hjn)
 simp only[hj,hl,Bool.not_true,aYP]at h1
 have h2:=Array.all_eq_true_iff_forall_mem.1 h1 e he
 simpa[hbi]using h2
variable {N n m t:Nat}{fr:List (Nat×V)}{K:List V→Hp→Prop}{op:Op}{ty:TypeId}{pos:String}{aft:Array Edge}{v:V}{gd:Option (Nat×Bool)}{listed:Array Bool}{i:Nat}
theorem DrawG.nil (hr:aEQ ops.size listed=[])(hk:K s h):DrawG P N F G ops 0 listed s h K:=⟨hr,hk⟩
def aKk (F G:FuncId→Bool)(ops:Array Oper)(listed:Array Bool)(i:Nat):Bool:=(listed.size == ops.size)&&aOh ops listed&&aFx F G ops listed i
theorem DrawG.pick {o:Oper}{s1:List V}{h1:Hp}(hp:aKk F G ops listed i=true)(ho:ops[i]? =some o)(e:StepR P F G ops o s h s1 h1)(k:DrawG P N F G ops n (listed.setIfInBounds i true) s1 h1 K):DrawG P N F G ops (n+1) listed s h K:=by
 simp only[aKk,aXv,beq_iff_eq]at hp
 exact Good.pick n hp.1.1 (aMU hp.1.2) hp.2 ho e k
def Fork (P:Program)(N:Nat)(F G:FuncId→Bool)(ops:Array Oper)(n:Nat)(listed:Array Bool)(s:List V)(h:Hp)(K:List V→Hp→Prop):List Nat→Prop
 | []=>True
 |i::l=>(∃o s1 h1,ops[i]? =some o∧StepR P F G ops o s h s1 h1∧DrawG P N F G ops n (listed.setIfInBounds i true) s1 h1 K)∧Fork P N F G ops n listed s h K l
theorem Fork.all : ∀{l:List Nat},Fork P N F G ops n listed s h K l→ ∀i∈l,∃o s1 h1,ops[i]? =some o∧StepR P F G ops o s h s1 h1∧Good P N F G ops K n (listed.setIfInBounds i true) s1 h1
 | [],_,i,hi=>by cases hi
 |j::l,hf,i,hi=>by
  rcases aYa.1 hi with rfl|hi
  ·exact hf.1
  exact Fork.all hf.2 i hi
theorem DrawG.fork (l:List Nat)(hl:Region.ready .any ops listed=l)(hne:l≠ [])(hf:Fork P N F G ops n listed s h K l):DrawG P N F G ops (n+1) listed s h K:=by
 refine .inr fun _=> ?_
 rw[hl]
 exact⟨hne,hf.all⟩
theorem DrawG.gh {s':List V}(hc:aMY ops listed=true)(hg:Ghost N s h s' h')(k:DrawG P N F G ops (n+1) listed s' h' K):DrawG P N F G ops (n+1) listed s h K:=by
 refine .inl ⟨hc,fun A M0 M h0 w0 a w Q hN hM Gr R hQ=> ?_⟩
 obtain⟨t,ht⟩:=Gr.pre
 have hle:N≤M.length:=by rw[←ht];simp[hM]
 obtain⟨M',h1,h2,h3⟩:=hg A M a w hle R
 refine Good.sound hN hM _ _ k ⟨?_,h2.hr,Gr.ext,fun g hg hl=>Gr.live g hg (h3 g hl)⟩ h2 hQ
 have:M0=M'.take N:=by rw[h1,←ht,←hM];simp
 rw[this]
 exact aYz _ _
theorem Fork.nil :Fork P N F G ops n listed s h K []:=trivial
theorem Fork.cons {l:List Nat}{o:Oper}{s1:List V}{h1:Hp}(ho:ops[i]? =some o)(e:StepR P F G ops o s h s1 h1)(k:DrawG P N F G ops n (listed.setIfInBounds i true) s1 h1 K)(r:Fork P N F G ops n listed s h K l):Fork P N F G ops n listed s h K (i::l):=⟨⟨o,s1,h1,ho,e,k⟩,r⟩
def lst (l:List Nat)(n:Nat):Array Bool:=l.foldl (fun a i=>a.setIfInBounds i true) (aY9 n false)
theorem DrawG.jn {L:Array Bool}{m:Nat}{s1:List V}{h1:Hp}(k:DrawG P N F G ops m L s1 h1 K)(q:DrawG P N F G ops m L s1 h1 K→DrawG P N F G ops n listed s h K):DrawG P N F G ops n listed s h K:=q k
theorem DrawG.jg {L:Array Bool}{s':List V}(hL:listed=L)(hc:aMY ops L=true)(hg:Ghost N s h s' h')(k:DrawG P N F G ops (n+1) L s' h' K):DrawG P N F G ops (n+1) listed s h K:=by
 subst hL
 exact DrawG.gh hc hg k
theorem aN5 :aFi O0 F:=fun _ _ _ _ _ _ hh=>by cases hh
theorem aPZ :aO6 O0 G:=fun _ _ _ _ _ _ hh=>by cases hh
theorem aSs :aRf O0 F:=fun _ _ _ _ _ _ hh=>by cases hh
theorem gS (hs:dE P O0 ops ⟨some t,op,ty,pos,aft,gd⟩ (aI m fr) h=some (v,h')):StepR P F G ops ⟨some t,op,ty,pos,aft,gd⟩ (aI m fr) h (aI m ((t,v)::fr)) h':=
 ⟨O0,aLT,aN5,aPZ,aSs,by rw[f9,hs];simp only[aXs];rw[aIE]⟩
theorem gN (hs:dE P O0 ops ⟨none,op,ty,pos,aft,gd⟩ (aI m fr) h=some (v,h')):StepR P F G ops ⟨none,op,ty,pos,aft,gd⟩ (aI m fr) h (aI m fr) h':=
 ⟨O0,aLT,aN5,aPZ,aSs,by rw[f9,hs];rfl⟩
theorem gC {f:FuncId}{xs:List V}(hc:Fn P f h xs v h')(hF:F f=false)(hG:G f=true→ ∃news,h'=h++news)(hs:dE P (aFL f h xs v h') ops ⟨some t,op,ty,pos,aft,gd⟩ (aI m fr) h=some (v,h')):
  StepR P F G ops ⟨some t,op,ty,pos,aft,gd⟩ (aI m fr) h (aI m ((t,v)::fr)) h':=by
 refine⟨aFL f h xs v h',aKw hc, ?_, ?_, ?_,by rw[f9,hs];simp only[aXs];rw[aIE]⟩
 ·intro k h1 args r1 h2 hk hh
  unfold aFL at hh
  split at hh
  ·rename_i he
   rw[he.1,hF]at hk;cases hk
  cases hh
 ·intro k h1 args r1 h2 hk hh
  unfold aFL at hh
  split at hh
  ·rename_i he
   obtain⟨rfl,rfl,rfl⟩:=he
   simp only[aXn,aXL]at hh
   rw[←hh.2];exact hG hk
  cases hh
 intro k h1 args r1 h2 hk hh
 unfold aFL at hh
 split at hh
 ·rename_i he
  rw[he.1,hF]at hk;cases hk
 cases hh
open Classical in
noncomputable def aKj (f:FuncId)(xs:List V)(r:V):xK:=fun k h1 xs1=>if k=f∧xs1=xs then some (r,h1)else none
theorem yT {f:FuncId}{xs:List V}{r:V}:aKj f xs r f h xs=some (r,h):=by simp[aKj]
theorem gU {f:FuncId}{xs:List V}(hc: ∀h,Fn P f h xs v h)(hG:G f=false)(hs:dE P (aKj f xs v) ops ⟨some t,op,ty,pos,aft,gd⟩ (aI m fr) h=some (v,h)):
  StepR P F G ops ⟨some t,op,ty,pos,aft,gd⟩ (aI m fr) h (aI m ((t,v)::fr)) h:=by
 have key: ∀{k h1 args r1 h2},aKj f xs v k h1 args=some (r1,h2)→k=f∧args=xs∧r1=v∧h2=h1:=by
  intro k h1 args r1 h2 hh
  unfold aKj at hh
  split at hh
  ·rename_i he
   simp only[aXn,aXL]at hh
   exact⟨he.1,he.2,hh.1.symm,hh.2.symm⟩
  cases hh
 refine⟨aKj f xs v, ?_, ?_, ?_, ?_,by rw[f9,hs];simp only[aXs];rw[aIE]⟩
 ·intro k h1 args r1 h2 hh
  obtain⟨rfl,rfl,rfl,rfl⟩:=key hh
  exact hc _
 ·intro k h1 args r1 h2 _ hh
  exact(key hh).2.2.2
 ·intro k h1 args r1 h2 hk hh
  rw[(key hh).1,hG]at hk;cases hk
 intro k h1 args r1 h2 _ hh h3
 obtain⟨rfl,rfl,rfl,_⟩:=key hh
 exact yT
def fQ (l:List Nat):FuncId→Bool:=fun f=>l.elem f
end
theorem AB.rd {P:Program}{N:Nat}{Q:Ex→List V→Hp→Prop}{s:List V}{h:Hp}(F G:FuncId→Bool)(hm:P.follows .mixedOrders=true){id:Nat}{l:List Oper}(hr:DrawG P N F G l.toArray l.toArray.size (aY9 l.toArray.size false) s h (Q .normal)):AB P N (.region id l.toArray true) Q s h:=by
 intro A M0 M h0 w0 a w hN hM Gr R
 refine wp_region_any hm ?_
 have R':Rel A M s h a w.drew:=⟨R.hr.drew,SR.keep (Grow.drew R.hr) R.sr,R.defers⟩
 exact Good.sound hN hM _ _ hr (Gr.trans (Grow.drew R.hr)) R' (fun s' h' M' a' w' hk G' R''=>⟨.normal,s',h',M',rfl,hk,G',R''⟩)
def Conv (h h':Hp)(x y:V):Prop:= ∀(A:Nat→Prop)(M:List (Option Nat))(w:World)(v:Value),HR A M h w→VR (Xs A M h) M w x v→VR (Xs A M h') M w y v
def Convs (h h':Hp):List V→List V→Prop
 | [],[]=>True
 |x::xs,y::ys=>Conv h h' x y∧Convs h h' xs ys
 |_,_=>False
def Sub (h h':Hp):Prop:= ∀(b:Nat)(B':Blk),h'[b]? =some (some B')→ ∃B,h[b]? =some (some B)
theorem Sub.live {h h':Hp}(hs:Sub h h'){M:List (Option Nat)}{g:Nat}(hl:eM M h' g):eM M h g:=by
 obtain⟨b,B,hb,hm⟩:=hl
 obtain⟨C,hc⟩:=hs b B hb
 exact⟨b,C,hc,hm⟩
theorem Sub.xs {h h':Hp}(hs:Sub h h'){A:Nat→Prop}{M:List (Option Nat)}{g:Nat}(hl:Xs A M h' g):Xs A M h g:=hl.elim .inl (fun k=> .inr (hs.live k))
theorem Conv.same {h h':Hp}(hs:Sub h h'){x:V}:Conv h h' x x:=fun _ _ _ _ _ hv=>hv.avoid (fun _ _ hx=>hs.xs hx)
theorem Convs.len {h h':Hp}: ∀{xs ys:List V},Convs h h' xs ys→xs.length=ys.length
 | [],[],_=>rfl
 |_::_,_::_,k=>by simp[Convs.len k.2]
 | [],_::_,k=>k.elim
 |_::_,[],k=>k.elim
theorem Convs.sound {h h':Hp}{A:Nat→Prop}{M:List (Option Nat)}{w:World}(H:HR A M h w): ∀{xs ys:List V}{vs:List Value},Convs h h' xs ys→VCells (Xs A M h) M w xs vs→VCells (Xs A M h') M w ys vs
 | [],[],vs,_,hv=>by unfold VCells at *; exact hv
 |x::xs,y::ys,vs,k,hv=>by
  unfold VCells at *
  obtain⟨v,rest,e1,e2,e3⟩:=hv
  exact⟨v,rest,e1,k.1 A M w v H e2,Convs.sound H k.2 e3⟩
 | [],_::_,_,k,_=>k.elim
 |_::_,[],_,k,_=>k.elim
theorem Convs.same {h h':Hp}(hs:Sub h h'): ∀{xs:List V},Convs h h' xs xs
 | []=>trivial
 |_::_=>⟨Conv.same hs,Convs.same hs⟩
theorem Convs.nil {h h':Hp}:Convs h h' [] []:=trivial
theorem Convs.cons {h h':Hp}{x y:V}{xs ys:List V}(a:Conv h h' x y)(k:Convs h h' xs ys):Convs h h' (x::xs) (y::ys):=⟨a,k⟩
theorem Conv.agg {h h':Hp}{xs ys:List V}(k:Convs h h' xs ys):Conv h h' (.agg xs) (.agg ys):=fun A M w v H hv=>by
 unfold VR at *
 obtain⟨vs,e,hc⟩:=hv
 exact⟨vs,e,Convs.sound H k hc⟩
theorem Conv.tup {h h':Hp}{xs ys:List V}(k:Convs h h' xs ys):Conv h h' (.tup xs) (.tup ys):=fun A M w v H hv=>by
 unfold VR at *
 obtain⟨vs,e,hc⟩:=hv
 exact⟨vs,e,Convs.sound H k hc⟩
def V.shut :V→Bool
 | .sc _ | .row _ _ _ | .eptr _ _ _=>true
 |_=>false
theorem VR.shut {X:Nat→Prop}{M:List (Option Nat)}{w:World}{x:V}{v:Value}(hx:x.shut=true)(h:VR X M w x v):VR X [] w x v:=by
 cases x<;>first|(unfold VR at *; exact h)|(simp[V.shut]at hx)
theorem gO {α:Type}{p:V→Bool}{E:α→V}{l:List α}(h: ∀x,p (E x)=true):(l.map E).all p=true:=by
 rw[aXp];intro y hy
 simp only[aYU]at hy
 obtain⟨x,_,rfl⟩:=hy
 exact h x
theorem aOX {x:V}(h:x.one=true):x.okElem 1=true:=by
 have hc:x.cells=[x]:=by cases x<;>first|rfl|simp[V.one]at h
 simp[V.okElem,V.flatOk,hc,h]
theorem aI2 {X:Nat→Prop}{w:World}{g:Nat}{cs:Array Value}{e:TypeId}{f:Nat×Nat}(hw:w.heap[g]? =some (.cells cs e f)): ∀(xs:List V)(i:Nat),(∀c∈xs,c.one=true∧c.shut=true)→VCells X [] w xs ((cs.toList.drop i).take xs.length)→VRow X [] w 1 xs ⟨g,i,none⟩
 | [],i,_,_=>by unfold VRow;trivial
 |x::xs,i,ho,hv=>by
  unfold VCells at hv
  obtain⟨v,rest,e1,e2,e3⟩:=hv
  have hi:i<cs.toList.length:=by
   rcases aXQ i cs.toList.length with hl|hl
   ·exact hl
   rw[aXz hl]at e1;simp at e1
  rw[aXH hi]at e1
  simp only[aXG,aYr,List.cons.injEq]at e1
  obtain⟨ev,er⟩:=e1
  have h1:=(ho x (by simp)).1
  have hcell:v.cells= #[v]:=eV (e2.oneCell h1)
  unfold VRow
  refine⟨⟨v,e2,by rw[hcell];rfl, ?_⟩, ?_⟩
  ·rw[hcell]
   intro j u hu
   have hj:j=0:=by have:=(aXx.1 hu).1;simp at this;exact this
   subst hj
   simp at hu
   subst hu
   simp only[Addr.add,if_true]
   unfold World.cell?
   rw[hw]
   subst ev
   simp at hi
   simp[hi]
  have:(⟨g,i,none⟩:Addr).add 1=⟨g,i+1,none⟩:=by simp[Addr.add]
  rw[this]
  exact aI2 hw xs (i+1) (fun c hc=>ho c (by simp[hc])) (by rw[er];exact e3)
theorem Conv.row {h h':Hp}(hs:Sub h h'){b n:Nat}{e:TypeId}{cs:List V}{ag:Bool}(hb:h[b]? =some (some ⟨e,cs⟩))(hb':h'[b]? =some none)(hsh:cs.all V.shut=true)(hn:n=cs.length):Conv h h' (.sl b 0 n 1 ag) (.row none 1 cs):=by
 intro A M w v H hv
 obtain⟨hone,hcase⟩:=H.blk b _ hb
 unfold VR at hv⊢
 rcases hv with⟨hm,rfl,h0,_⟩|⟨g,cap,e',sz,hm,rfl,h1,_,h3,hshp,_⟩
 ·have:cs=[]:=aXq (by omega)
  subst this
  exact⟨none,0,rfl,aXT _,fun _=>rfl,(fun b hb=>by cases hb),by simp,fun hne=>absurd rfl hne⟩
 rcases hcase with⟨hm',_⟩|⟨g',a9,hm',hA,hw,hle,hcs⟩
 ·rw[hm]at hm';cases hm'
 rw[hm]at hm'
 injection hm' with hm'
 injection hm' with hm'
 subst hm'
 obtain⟨f,_,hw⟩:=hw.inCells hshp
 refine⟨some ⟨g,0,none⟩,cap,by rw[hn],by omega,fun hh=>(by cases hh),(fun b hb=>by cases hb),fun c hc=>aOX (hone c hc),fun _=>⟨⟨g,0,none⟩,rfl,h3, ?_,rfl, ?_⟩⟩
 ·rintro(ha|⟨c,C,hc,hmc⟩)
  ·exact hA ha
  obtain⟨C',hc'⟩:=hs c C hc
  have:=H.inj c b C' _ g hc' hb hmc hm
  subst this
  rw[hb']at hc;cases hc
 refine aI2 hw cs 0 (fun c hc=>⟨hone c hc,aXp.1 hsh c hc⟩) ?_
 rw[aXN]
 refine VCells.mk (by rw[aXD];simp only[Array.length_toList];dsimp only at hle;omega) (fun i c u hc hu=> ?_)
 obtain⟨u',hu',hr⟩:=hcs.get hc
 dsimp only at hu'
 rw[hu]at hu'
 injection hu' with hu'
 subst hu'
 exact(hr.shut (aXp.1 hsh c (aXw hc))).avoid (fun _ _ hx=>hs.xs hx)
def FCv (h h':Hp)(fr:List (Nat×V)):List (Nat×V)→Prop
 | []=>True
 |(t,y)::r=>(∃x,i5 fr t=some x∧Conv h h' x y)∧FCv h h' fr r
theorem FCv.nil {h h':Hp}{fr:List (Nat×V)}:FCv h h' fr []:=trivial
theorem FCv.cons {h h':Hp}{fr r:List (Nat×V)}{t:Nat}{x y:V}(hl:i5 fr t=some x)(hc:Conv h h' x y)(k:FCv h h' fr r):FCv h h' fr ((t,y)::r):=⟨⟨x,hl,hc⟩,k⟩
theorem FCv.get {h h':Hp}{fr:List (Nat×V)}: ∀{fr':List (Nat×V)},FCv h h' fr fr'→ ∀{t:Nat}{y:V},i5 fr' t=some y→ ∃x,i5 fr t=some x∧Conv h h' x y
 | [],_,t,y,hy=>by cases hy
 |(u,z)::r,k,t,y,hy=>by
  simp only[i5]at hy
  cases hb:aYw u t with
  |true=>
   rw[hb]at hy
   have:=aXR hb
   subst this
   simp only[cond_true,aXn]at hy
   subst hy
   exact k.1
  |false=>rw[hb]at hy;exact k.2.get hy
def HCv (H H':Hp):Hp→Hp→Prop
 | [],[]=>True
 |_::h,none::h'=>HCv H H' h h'
 |some B::h,some B'::h'=>(B.e=B'.e∧Convs H H' B.cells B'.cells∧B'.cells.all V.one=true)∧HCv H H' h h'
 |_,_=>False
theorem HCv.get {H H':Hp}: ∀{h h':Hp},HCv H H' h h'→ ∀{j:Nat}{B':Blk},h'[j]? =some (some B')→ ∃B,h[j]? =some (some B)∧B.e=B'.e∧Convs H H' B.cells B'.cells∧B'.cells.all V.one=true
 | [],[],_,j,B',hj=>by simp at hj
 |_::h,none::h',hh,j,B',hj=>by
  cases j with
  |zero=>simp at hj
  |succ j=>simp only[aXo]at hj ⊢; exact HCv.get (h:=h) hh hj
 |some B::h,some C::h',hh,j,B',hj=>by
  cases j with
  |zero=>
   simp only[aXA,aXn]at hj
   subst hj
   exact⟨B,rfl,hh.1.1,hh.1.2.1,hh.1.2.2⟩
  |succ j=>simp only[aXo]at hj ⊢; exact HCv.get (h:=h) hh.2 hj
 | [],_::_,hh,_,_,_=>hh.elim
 |_::_,[],hh,_,_,_=>by unfold HCv at hh;exact hh.elim
 |none::_,some _::_,hh,_,_,_=>hh.elim
theorem HCv.len {H H':Hp}: ∀{h h':Hp},HCv H H' h h'→h.length=h'.length
 | [],[],_=>rfl
 |_::h,none::h',hh=>by simp[HCv.len (h:=h) hh]
 |some B::h,some C::h',hh=>by simp[HCv.len (h:=h) hh.2]
 | [],_::_,hh=>hh.elim
 |_::_,[],hh=>by unfold HCv at hh;exact hh.elim
 |none::_,some _::_,hh=>hh.elim
theorem HCv.nil {H H':Hp}:HCv H H' [] []:=trivial
theorem HCv.dead {H H' h h':Hp}{o:Option Blk}(k:HCv H H' h h'):HCv H H' (o::h) (none::h'):=by cases o<;>exact k
theorem HCv.live {H H' h h':Hp}{e:TypeId}{cs cs':List V}(hc:Convs H H' cs cs')(ho:cs'.all V.one=true)(k:HCv H H' h h'):HCv H H' (some ⟨e,cs⟩::h) (some ⟨e,cs'⟩::h'):=⟨⟨rfl,hc,ho⟩,k⟩
theorem Ghost.conv {N n:Nat}{fr fr':List (Nat×V)}{h h':Hp}(hf:FCv h h' fr fr')(hh:HCv h h' h h'):Ghost N (aI n fr) h (aI n fr') h':=by
 intro A M a w hN R
 have hs:Sub h h':=fun b B' hb=>by obtain⟨B,hB,_⟩:=hh.get hb;exact⟨B,hB⟩
 refine⟨M,rfl,⟨⟨by rw[←hh.len];exact R.hr.len,R.hr.alt, ?_, ?_,R.hr.glob.avoid fun g _ hx=>hx.elim .inl (fun hl=> .inr (hs.live hl))⟩, ?_,R.defers⟩,fun g hl=>hs.live hl⟩
 ·intro b B' hb
  obtain⟨B,hB,he,hc,ho⟩:=hh.get hb
  refine⟨aXp.1 ho, ?_⟩
  have hl:=hc.len
  rcases(R.hr.blk b B hB).2 with⟨hn,hc0⟩|⟨g,cs,hg,hA,hw,hle,hcs⟩
  ·exact .inl ⟨hn,aXq (by rw[←hl,hc0];rfl)⟩
  refine .inr ⟨g,cs,hg,hA,by rw[←he,←hl];exact hw,by rw[←hl];exact hle, ?_⟩
  rw[←hl]
  exact Convs.sound R.hr hc hcs
 ·intro b b' B B' g hb hb' hm hm'
  obtain⟨C,hC,_⟩:=hh.get hb
  obtain⟨C',hC',_⟩:=hh.get hb'
  exact R.hr.inj b b' C C' g hC hC' hm hm'
 exact aHr R.sr (fun t y hy=>by
  obtain⟨x,hx,hl⟩:=hf.get hy
  exact⟨x,hx,fun v hv=>hl A M w v R.hr hv⟩)
def aQ3 :Hp→Hp→Bool
 |_,[]=>true
 |some _::h,some _::h'=>aQ3 h h'
 |_::h,none::h'=>aQ3 h h'
 |_,_=>false
theorem aQ : ∀{h h':Hp},aQ3 h h'=true→Sub h h'
 |h,[],_,b,B',hb=>by simp at hb
 |some B::h,some C::h',k,b,B',hb=>by
  cases b with
  |zero=>exact⟨B,rfl⟩
  |succ b=>simp only[aXo]at hb ⊢; exact aQ (h:=h) k b B' hb
 |o::h,none::h',k,b,B',hb=>by
  cases b with
  |zero=>simp at hb
  |succ b=>
   simp only[aXo]at hb⊢
   refine aQ (h:=h) (h':=h') ?_ b B' hb
   cases o<;>exact k
 |none::_,some _::_,k,_,_,_=>by cases k
 | [],o::_,k,_,_,_=>by cases o<;>cases k
def fT (s:ByteArray):List Int:=s.data.toList.map fun b=>(b.toNat:Int)
def stb (s:ByteArray):Option (List Int):=if s.size≤pJ then some (fT s)else none
theorem aAr (s:ByteArray):(fT s).length=s.size:=by unfold fT;rw[aXE];rfl
def aOO (s:ByteArray)(i:Int):Option Int:=if 0≤i then(s[i.toNat]?).map (fun b=>(b.toNat:Int))else none
section
variable {P:Program}{N n:Nat}{ops:Array Oper}{l:List Oper}{fr:List (Nat×V)}{h h':Hp}{K:List V→Hp→Prop}
theorem ixT {t:TypeId}{s:ByteArray}{k:IntKind}{j v:Int}{sz by_:Nat}{z:Value}(ht:aU P t=some ⟨.string,sz,by_,z⟩)(hx:aOO s j=some v):aBB P t (.sc (.string s)) (.sc (.int k j))=some (.sc (.int .u8 v)):=by
 unfold aOO at hx
 split at hx
 ·rename_i h0
  simp only[aXy]at hx
  obtain⟨b,hb,rfl⟩:=hx
  simp[aBB,ht,tE,h0,hb]
 cases hx
theorem OpsW.does {o:Oper}{v:V}{s:List V}(hw:nE ops o s=some true)(hD: ∀(A:Nat→Prop) (M:List (Option Nat)) (a:Act) (w:World),HR A M h w→SR (Xs A M h) M w s a→Does P o a w A M h v h')
  (hk:OpsW P N ops l (mC s o.dst v) h' K):OpsW P N ops (o::l) s h K:=fun k hl A M0 M h0 w0 a w Q hN hM G R hQ=>by
 have h0':ops[k]? =some o:=by simpa using (hl 0).symm
 simp only[aXG,aYh]
 rw[wpOps_cons]
 unfold wpOp
 rw[h0']
 simp only
 rw[aEz R.sr hw,if_pos rfl]
 refine .inl (hD A M a w R.hr R.sr _ _ fun v' w' M' G' hv=> ?_)
 exact hk (k+1) (fun j=>by have:=hl (j+1);simpa[aYN,aYA 1 j]using this) A M0 M' h0 w0 _ w' Q hN hM (G.trans G') ⟨G'.hr,(SR.keep G' R.sr).put o.dst hv,by rw[aFK];exact R.defers⟩ hQ
theorem aLK {X:Nat→Prop}{M:List (Option Nat)}{w:World}(s:ByteArray):VCells X M w ((fT s).map (eI .u8)) (s.data.toList.map fun b=>Value.int .u8 b.toNat):=by
 refine VCells.mk (by simp[fT]) (fun i c v hc hv=> ?_)
 simp only[fT,List.map_map,aXB,aXy]at hc hv
 obtain⟨b,hb,rfl⟩:=hc
 obtain⟨b',hb',rfl⟩:=hv
 rw[hb]at hb'
 injection hb' with hb'
 subst hb'
 unfold VR;rfl
theorem aUW {t:Nat}{a b e:TypeId}{x:Operand}{s:ByteArray}{r:List Int}{i s1 b1 s2 b2 s3 b3:Nat}{z1 z2 z3:Value}{ty:TypeId}{pos:String}{aft:Array Edge}(hx:b5 n fr x=some (.sc (.string s)))
  (ha:aU P a=some ⟨.string,s1,b1,z1⟩) (hb:aU P b=some ⟨.slice e,s2,b2,z2⟩) (he:aU P e=some ⟨.int .u8,s3,b3,z3⟩) (hs:stb s=some r) (hl:h.length=i) (hh:h++[some ⟨e,r.map (eI .u8)⟩]=h')
  (k:OpsW P N ops l (aI n ((t,.sl i 0 r.length 1 false)::fr)) h' K):OpsW P N ops (⟨some t,.convert a b x,ty,pos,aft,none⟩::l) (aI n fr) h K:=by
 subst hl hh
 unfold stb at hs
 split at hs
 ·rename_i hsz
  injection hs with hs
  subst hs
  refine OpsW.does (v:= .sl h.length 0 (fT s).length 1 false) rfl ?_ (by dsimp only;rw[aIE];exact k)
  intro A M ac w H S
  have hev:ac.eval x= .string s:=by have:=cK H.glob S (dH hx);unfold VR at this;exact this
  have hge:=grownCap_ge w s.size 0 e
  have hcm:grownCap w s.size 0 e≤maxLen:=grownCap_le_maxLen w s.size 0 e (by unfold pJ at hsz;simp only[maxLen];omega)
  have hrow:(bytesRow s (grownCap w s.size 0 e)).size=grownCap w s.size 0 e:=by
   simp only[bytesRow,Array.size_append,Array.size_map,Array.size_replicate]
   show s.size+_=_
   omega
  have Gd:=Grow.drew H
  have G:=Gd.trans (Grow.allocF Gd.hr e ((fT s).map (eI .u8)) (bytesRow s (grownCap w s.size 0 e)) (by rw[hrow,List.length_map,aAr];exact hge) (by
   have:(bytesRow s (grownCap w s.size 0 e)).toList.take ((fT s).map (eI .u8)).length=s.data.toList.map fun b=>Value.int .u8 b.toNat:=by
    simp only[bytesRow,Array.toList_append,Array.toList_map]
    rw[show((fT s).map (eI .u8)).length=(s.data.toList.map fun b=>Value.int .u8 b.toNat).length by simp[fT]]
    exact List.take_left
   rw[this]
   exact aLK s) (fun c hc=>by
    simp only[List.mem_map]at hc
    obtain⟨y,_,rfl⟩:=hc
    rfl) _ (.inr rfl))
  refine Does.value (sem:=convert a b (.string s)) (by simp[execOp,hev]) ⟨_,_,_,run_bytes_of_string w a b e s (dN ha).1 (dN hb).1 (dN he).1,G, ?_⟩
  unfold VR
  refine .inr ⟨w.heap.size,grownCap w s.size 0 e,e,grownCap w s.size 0 e,by rw[←H.len];simp,by rw[aAr],by rw[aAr];exact hge,hcm,by omega, ?_,by omega⟩
  unfold World.shape?
  rw[show(w.drew.alloc (.cells (bytesRow s (grownCap w s.size 0 e)) e ((bytesRow s (grownCap w s.size 0 e)).size,(bytesRow s (grownCap w s.size 0 e)).size+1))).heap[w.heap.size]? =some (.cells (bytesRow s (grownCap w s.size 0 e)) e ((bytesRow s (grownCap w s.size 0 e)).size,(bytesRow s (grownCap w s.size 0 e)).size+1))from heap_alloc_new w.drew _]
  simp only[hrow]
 cases hs
end
def a9 {α:Type}(n:Nat)(l:List α):Option (List α):=if l.length=n then some l else none
def bX {α:Type}(n:Nat)(l:List α)(i:Int):Option α:=if i<n then bU l i else none
def tV {α:Type}(n:Nat)(l:List α):Option (List α):=if n≤l.length then some (l.take n)else none
theorem bH {α:Type}{n:Nat}{l m:List α}(h:a9 n l=some m):l.length=n:=by
 unfold a9 at h;split at h
 ·assumption
 cases h
theorem aTw {α:Type}{n:Nat}{l m:List α}(h:a9 n l=some m)(hn:Nat.ble 1 n=true):Nat.ble 1 l.length=true:=by rw[bH h];exact hn
theorem cP {α:Type}{n:Nat}{l m:List α}(h:tV n l=some m):m.length=n:=by
 unfold tV at h;split at h
 ·injection h with h;subst h;simp;omega
 cases h
theorem r6 {α:Type}{n:Nat}{l:List α}{i:Int}{y:α}(h:bX n l i=some y):bU l i=some y:=by
 unfold bX at h;split at h
 ·exact h
 cases h
theorem aMT {α:Type}{n:Nat}{l:List α}{i:Int}{y:α}(h:bX n l i=some y):i<n:=by
 unfold bX at h;split at h
 ·assumption
 cases h
section
variable {P:Program}{h h':Hp}{t e:TypeId}{ti:TI}{i off b N:Nat}{v:V}{α:Type}{E:α→V}{l m:List α}{y:α}{k:IntKind}{j:Int}{sz by_:Nat}{z:Value}{ag:Bool}
theorem iaB (ht:aU P t=some ⟨.array N e,sz,by_,z⟩)(he:aU P e=some ti)(h1:ti.size=1)(hx:bX N l j=some y):jW P t (.ptr b 0) (.sc (.int k j))=some (.ptr b j.toNat):=by
 obtain⟨h2,h3,_⟩:=lH (r6 hx)
 simp[jW,ht,tE,he,h1,h2,aMT hx]
theorem iaG {es:List V}(ht:aU P t=some ⟨.array N e,sz,by_,z⟩)(he:aU P e=some ti)(h1:ti.size=1)(hx:bX N l j=some y):jW P t (.eptr es 0 0) (.sc (.int k j))=some (.eptr es 0 j.toNat):=by
 obtain⟨h2,h3,_⟩:=lH (r6 hx)
 simp[jW,ht,tE,he,h1,h2,aMT hx]
theorem ixA (ht:aU P t=some ⟨.array N e,sz,by_,z⟩)(he:aU P e=some ti)(h1:ti.size=1)(hd:cI ti.desc=false)(hx:bX N l j=some y):aBB P t (.agg (l.map E)) (.sc (.int k j))=some (E y):=by
 obtain⟨h2,h3,h4⟩:=lH (r6 hx)
 simp[aBB,ht,tE,he,h1,h2,aMT hx,jJ,hd,h4]
theorem ldG (ht:aU P t=some ti)(hd:cI ti.desc=false)(hx:bU l j=some y):gB P t h (.eptr [.agg (l.map E)] 0 j.toNat)=some (E y):=by
 obtain⟨_,_,h3⟩:=lH hx
 simp[gB,V.cells,jJ,ht,hd,h3]
theorem ldA (ht:aU P t=some ⟨.array N e,sz,by_,z⟩)(hsz:sz=N)(hb:h[b]? =some (some ⟨i,l.map E⟩))(hl:l.length=N):gB P t h (.ptr b 0)=some (.agg (l.map E)):=by
 subst hsz
 simp only[gB,hb,jJ,ht,cI,if_true,aXN,aXE]
 rw[if_pos (by omega),aXm (by simp;omega)]
theorem aNj (ht:aU P t=some ⟨.array N e,sz,by_,z⟩)(hsz:sz=N)(hl:l.length=N):gB P t h (.eptr [.agg (l.map E)] 0 0)=some (.agg (l.map E)):=by
 subst hsz
 simp only[gB,aXA,V.cells,jJ,ht,cI,if_true,aXN,aXE]
 rw[if_pos (by omega),aXm (by simp;omega)]
theorem stA (ht:aU P t=some ⟨.array N e,sz,by_,z⟩)(hsz:sz=N)(hb:h[b]? =some (some ⟨i,l.map E⟩))(hE: ∀x,(E x).one=true)(hl:l.length=N)(hm:m.length=N)(hh:h.set b (some ⟨i,m.map E⟩)=h'):vU P t h (.ptr b 0) (.agg (m.map E))=some h':=by
 subst hh hsz
 simp only[vU,ht,hb]
 rw[if_pos ⟨by simp[V.flatOk,V.cells,hE],by simp[V.cells,hm],by simp[hl]⟩]
 congr 4
 unfold splice
 simp only[V.cells,aYH,aYp,aYv,aXE]
 rw[aXz (by simp;omega),aX2]
theorem slA (ht:aU P t=some ⟨.array N e,sz,by_,z⟩)(he:aU P e=some ti)(h1:ti.size=1)(hag:cI ti.desc=ag)(hb:h[b]? =some (some ⟨i,l.map E⟩))(hl:l.length=N)(hN:0<N∧N≤pJ):lN P t h (.ptr b 0) none none=some (.sl b 0 N 1 ag):=by
 subst hag
 simp only[lN,ht,he,qB,xO,hb]
 rw[if_pos ⟨by omega,hN.2,aYo _,by omega,aYo _,by simp[h1,hl]⟩]
 simp[h1]
theorem slE (ht:aU P t=some ⟨.array N e,sz,by_,z⟩)(he:aU P e=some ti)(h1:ti.size=1)(hag:cI ti.desc=false)(hl:l.length=N)(hN:0<N):lN P t h (.eptr [.agg (l.map E)] 0 0) none none=some (.row none 1 (l.map E)):=by
 simp only[lN,ht,he,qB,xO,aXA]
 rw[if_pos ⟨h1,hag,aYo _,by omega,aYo _,by simp[V.cells,hl]⟩]
 simp[V.cells,hl,aXm]
theorem apR {nl:Option Bool}(ht:aU P t=some ⟨.array N e,sz,by_,z⟩)(hE: ∀x,(E x).one=true)(hN:0<N)(hx:tV N l=some m):aDO P t (.row nl 1 (l.map E))=some (.eptr [.agg (m.map E)] 0 0):=by
 unfold tV at hx
 split at hx
 ·injection hx with hx
  subst hx
  simp only[aDO,ht]
  rw[if_pos ⟨trivial,hN,by simpa using by assumption,by simp[hE]⟩,aYb]
 cases hx
end
section
variable {P:Program}{O:xK}{n:Nat}{fr:List (Nat×V)}{h h':Hp}{ty:TypeId}{pos:String}{aft:Array Edge}{d:Option Tmp}{g:Option (Nat×Bool)}{x:Operand}{a v:V}
theorem aFX {t:TypeId}(hx:b5 n fr x=some a)(hv:aDO P t a=some v):bY P O ⟨d,.sliceToArrayPointer t x,ty,pos,aft,g⟩ (aI n fr) h=some (v,h):=by simp[bY,dH hx,hv]
end
theorem V.le_arr {α:Type}{E:α→V}{f:Nat→Nat}{vn:Nat→Bool}{l:List α}(hE: ∀x,(E x).rn f=E x):V.le vn (.agg (l.map E)) ((V.agg (l.map E)).rn f):=by
 have:(V.agg (l.map E)).rn f=V.agg (l.map E):=by simp only[V.rn,qR hE]
 rw[this];exact V.le_refl _ _
theorem aMD {k:IntKind}(l:List Int):V.rfs (l.map (eI k))=true:=aDU (fun _=>rfl) l
theorem aMm (l:List Bool):V.rfs (l.map eB)=true:=aDU (fun _=>rfl) l
abbrev eA {α:Type}(E:α→V)(l:List α):V:= .agg (l.map E)
theorem aVQ {α:Type}{E:α→V}{l:List α}(h: ∀x,(E x).one=true):(V.agg (l.map E)).flatOk=true:=by simp[V.flatOk,V.cells,h]
theorem aWr {P:Program}{h:Hp}{t e:TypeId}{N sz by_:Nat}{z:Value}{α:Type}{E:α→V}{l:List (List α)}{y:List α}{j:Int}(ht:aU P t=some ⟨.array N e,sz,by_,z⟩)(hsz:sz=N)(hx:bU l j=some y)(hl:y.length=N):gB P t h (.eptr (l.map (eA E)) j.toNat 0)=some (.agg (y.map E)):=by
 subst hsz
 obtain⟨_,_,h3⟩:=lH hx
 simp only[gB,aXB,h3,aXs,V.cells,jJ,ht,cI,if_true,aXN,aXE]
 rw[if_pos (by omega),aXm (by simp;omega)]
section
variable {P:Program}(t:TypeId)(xo yo:Operand)
theorem bM {α β:Type}(s:Sem α)(f:α→Sem β){a:α}(h:bD P s=some a):bD P (s >>= f)=bD P (f a):=by
 show bD P (Sem.bind s f)=_
 induction s with
 |pure x=>simp only[bD,aXn]at h;subst h;rfl
 |program k ih=>exact ih P h
 |mark m k ih=>exact ih h
 |_=>simp[bD]at h
theorem dI {t:TypeId}{ti:TI}(ht:aU P t=some ti):bD P (underlying t)=some ti.desc:=by
 have h1:=(dN ht).1
 show bD P (match P.underlying t with|some d=>pure d|none=>stuck "no such type")=_
 rw[h1];rfl
end
section
variable {P:Program}
theorem wP {t:TypeId}{ti:TI}(ht:aU P t=some ti):bD P (sizeOf t)=some ti.size:=by
 obtain⟨_,i,h1,h2,_⟩:=dN ht
 have:bD P (typeInfo t)=some i:=by
  show bD P (match P.info? t with|some i=>pure i|none=>stuck "no such type")=_
  rw[h1];rfl
 unfold sizeOf
 rw[bM _ _ this,←h2];rfl
theorem aDx {t:TypeId}{ti:TI}(ht:aU P t=some ti)(hd:cI ti.desc=false){cs:Array Value}{off:Nat}{v:Value}(hv:cs[off]? =some v):bD P (part t cs off)=some v:=by
 unfold part
 have hu:=dI ht
 have h1:bD P (isAgg t)=some false:=by
  unfold isAgg
  rw[bM _ _ hu]
  cases hh:ti.desc<;>first|rfl|(rw[hh]at hd;simp[cI]at hd)
 rw[bM _ _ h1]
 simp only[aXr,if_false,hv]
 rfl
theorem aK4 {t:TypeId}{k k':IntKind}{sz by_:Nat}{z:Value}(ht:aU P t=some ⟨.int k',sz,by_,z⟩)(d:Nat)(a b:Int):bD P (Op.equalIn (d+1) t (.int k a) (.int k b))=some (a == b):=by
 rw[Op.equalIn,bM _ _ (dI ht)]
 simp only[if_true]
 rfl
theorem aK7 {t e:TypeId}{k k':IntKind}{N sz by_ sz' by':Nat}{z z':Value}(ht:aU P t=some ⟨.array N e,sz,by_,z⟩)(he:aU P e=some ⟨.int k',sz',by',z'⟩)(h1:sz'=1){l m:List Int}(hl:l.length=N)(hm:m.length=N)(d:Nat):
  bD P (Op.equalIn (d+2) t (.agg (l.map (Value.int k)).toArray) (.agg (m.map (Value.int k)).toArray))=some (l == m):=by
 subst h1
 rw[Op.equalIn,bM _ _ (dI ht)]
 simp only
 rw[bM _ _ (wP he)]
 simp only[Std.Legacy.Range.forIn_eq_forIn_range',Std.Legacy.Range.size,aYV,aYs,aZa]
 have key: ∀(c i:Nat),i+c=N→l.take i=m.take i→bD P (do
   let r←forIn (aY7 i c 1) ((none,()):Option Bool×Unit) fun i r=>do
    let a←part e (l.map (Value.int k)).toArray (i*1)
    let b←part e (m.map (Value.int k)).toArray (i*1)
    let q←Op.equalIn (d+1) e a b
    if(!q)=true then pure (ForInStep.done (some false,()))else pure (ForInStep.yield (none,()))
   match r.fst with
   |some a=>pure a
   |none=>pure true)=some (l == m):=by
  intro c
  induction c with
  |zero=>
   intro i hi hp
   have:l=m:=by
    rw[aXm (by omega),aXm (by omega)]at hp
    exact hp
   subst this
   simp only[aYW,aYJ]
   show some true=_
   simp
  |succ c ih=>
   intro i hi hp
   have hil:i<l.length:=by omega
   have him:i<m.length:=by omega
   simp only[aYh,aYD,bind_assoc]
   rw[bM _ _ (aDx he rfl (v:= .int k l[i]) (by simp[hil])),bM _ _ (aDx he rfl (v:= .int k m[i]) (by simp[him])),bM _ _ (aK4 he d _ _)]
   by_cases hq:l[i]=m[i]
   ·have:=ih (i+1) (by omega) (by rw[aXV hil,aXV him,hp,hq])
    simpa[hq]using this
   have hne:l≠m:=by rintro rfl;exact hq rfl
   have:(l == m)=false:=by simpa using hne
   rw[this]
   have hq':(l[i] == m[i])=false:=by simpa using hq
   rw[hq']
   rfl
 refine Eq.trans (congrArg (bD P) ?_) (key N 0 (by omega) (by simp))
 refine congr (congrArg bind ?_) (funext fun r=> ?_)
 ·rfl
 obtain⟨r,_⟩:=r
 cases r<;>rfl
variable (t:TypeId)(xo yo:Operand)
theorem aIX (k:IntKind)(l:List Int):eW (.agg (l.map (eI k)))=some (.agg (l.map (Value.int k)).toArray):=by
 have:(l.map (eI k)).mapM eE=some (l.map (Value.int k)):=by
  induction l with
  |nil=>rfl
  |cons x l ih=>simp only[aXF,aXM,ih];rfl
 simp only[eW,this,aXs]
theorem aKX {e:TypeId}{k':IntKind}{N sz by_ sz' by':Nat}{z z':Value}{t:TypeId}(ht:aU P t=some ⟨.array N e,sz,by_,z⟩)(he:aU P e=some ⟨.int k',sz',by',z'⟩)(hd:2≤P.depth){bo:BinOp}(hbo:bo= .eql∨bo= .neq)(a b:Array Value):bD P (eqGuard bo t xo yo (.agg a) (.agg b))=some ():=by
 unfold eqGuard
 have hg:P.eqGuardType P.depth t=false:=by
  obtain⟨q,hq⟩: ∃q,P.depth=q+2:=⟨P.depth-2,by omega⟩
  rw[hq]
  simp only[Program.eqGuardType,(dN ht).1,(dN he).1]
 rcases hbo with rfl|rfl<;>
 ·show bD P (if(!P.eqGuardType P.depth t)=true then pure ()else _)=some ()
  rw[hg];rfl
theorem aSe {e:TypeId}{k k':IntKind}{N sz by_ sz' by':Nat}{z z':Value}{t:TypeId}(ht:aU P t=some ⟨.array N e,sz,by_,z⟩)(he:aU P e=some ⟨.int k',sz',by',z'⟩)(h1:sz'=1)(hd:2≤P.depth){l m:List Int}(hl:l.length=N)(hm:m.length=N):
  eT P .eql t xo yo (.agg (l.map (eI k))) (.agg (m.map (eI k)))=some (.sc (.bool (l == m))):=by
 simp only[eT,aIX,pureV]
 rw[bM _ _ (aKX xo yo ht he hd (.inl rfl) _ _)]
 have:bD P (binOp .eql t (.agg (l.map (Value.int k)).toArray) (.agg (m.map (Value.int k)).toArray))=some (.bool (l == m)):=aBF _ _ (aK7 ht he h1 hl hm 9998)
 rw[this];rfl
theorem aRy {e:TypeId}{k k':IntKind}{N sz by_ sz' by':Nat}{z z':Value}{t:TypeId}(ht:aU P t=some ⟨.array N e,sz,by_,z⟩)(he:aU P e=some ⟨.int k',sz',by',z'⟩)(h1:sz'=1)(hd:2≤P.depth){l m:List Int}(hl:l.length=N)(hm:m.length=N):
  eT P .neq t xo yo (.agg (l.map (eI k))) (.agg (m.map (eI k)))=some (.sc (.bool (!(l == m)))):=by
 simp only[eT,aIX,pureV]
 rw[bM _ _ (aKX xo yo ht he hd (.inr rfl) _ _)]
 have:bD P (binOp .neq t (.agg (l.map (Value.int k)).toArray) (.agg (m.map (Value.int k)).toArray))=some (.bool (!(l == m))):=aBF _ (fun b=>Value.bool !b) (aK7 ht he h1 hl hm 9998)
 rw[this];rfl
end
theorem aPT {P:Program} {f:FuncId} {fn:Func} {args:List V} {r:V} {h:Hp} {e:Array Value→Sem Value} (hf:P.funcs[f]? =some fn) (hn:(fn.name == "runtime.NumGoroutine")=false) (hb:fn.body.isNone=true) (h1:Extern.findNext fn=none) (h2:Extern.find fn=some e)
  (he: ∀(X:Nat→Prop)(M:List (Option Nat))(w:World)(vs:List Value),VCells X M w args vs→ ∃v,(e vs.toArray).run P w= .ok v w∧VR X M w r v):Fn P f h args r h:=by
 intro A M w vs H hargs
 obtain⟨v,hv,hr⟩:=he _ _ _ _ hargs
 refine .inr ⟨v,w, ?_,M,Grow.refl H,hr⟩
 have e1:(callFunc f vs.toArray).run P w=((e vs.toArray).run P w).andThen fun v w=> .ok (.value v) w:=by
  unfold callFunc
  show Sem.run P (match P.funcs[f]? with|none=>_|some fn=>_) w=_
  rw[hf]
  simp only[hn,aXr,if_false,hb,if_true,h1,h2]
  show Sem.run P (Sem.bind (e vs.toArray) _) w=_
  exact Sem.run_bind ..
 rw[e1,hv]
 rfl
section
variable {α:Type}{C:α→List V}{K:Nat}
theorem rT (hC: ∀x,(C x).length=K): ∀l:List α,(l.flatMap C).length=l.length*K
 | []=>by simp
 |x::l=>by simp only[aXu,aXI,hC,rT hC l,aXG,aXK,aX3];omega
theorem aGH (hC: ∀x,(C x).length=K): ∀(l:List α)(i:Nat),(l.flatMap C).drop (i*K)=(l.drop i).flatMap C
 |l,0=>by simp
 | [],i+1=>by simp
 |x::l,i+1=>by
  rw[aXu,aYL,←aGH hC l i,aXK,aX3,aY0,aXz (by rw[hC];omega),aYp,hC]
  congr 1;omega
theorem aKT (hC: ∀x,(C x).length=K): ∀(l:List α)(i:Nat),(l.flatMap C).take (i*K)=(l.take i).flatMap C
 |l,0=>by simp
 | [],i+1=>by simp
 |x::l,i+1=>by
  rw[aXu,aYr,aXu,←aKT hC l i,aXK,aX3,aYj,aXm (by rw[hC];omega),hC]
  congr 2;omega
theorem aHU (hC: ∀x,(C x).length=K)(l:List α):y5 true K l.length (l.flatMap C)=l.map fun x=>V.agg (C x):=by
 unfold y5
 rw[if_pos rfl]
 apply aY1
 ·simp
 intro i h1 h2
 simp only[aXE]at h2
 simp only[List.getElem_map,List.getElem_range]
 rw[aGH hC,aXH h2,aXu,aYj,aXm (by rw[hC];exact aXT _),hC,Nat.sub_self,aYH,aX2]
theorem rL {p:V→Bool}(h: ∀x,(C x).all p=true)(l:List α):(l.flatMap C).all p=true:=by
 rw[aXp];intro y hy
 simp only[List.mem_flatMap]at hy
 obtain⟨x,_,hy⟩:=hy
 exact aXp.1 (h x) y hy
theorem aN6 {f:Nat→Nat}: ∀(a b:List V),V.rns f (a++b)=V.rns f a++V.rns f b
 | [],b=>by simp[V.rns]
 |x::a,b=>by simp[V.rns,aN6 a b]
theorem iG {f:Nat→Nat}(h: ∀x,V.rns f (C x)=C x): ∀l:List α,V.rns f (l.flatMap C)=l.flatMap C
 | []=>by simp[V.rns]
 |x::l=>by rw[aXu,aN6,h,iG h l]
theorem aEk {f:Nat→Nat}{vn:Nat→Bool}(h: ∀x,V.rns f (C x)=C x)(l:List α):V.les vn (l.flatMap C) (V.rns f (l.flatMap C)):=by rw[iG h];exact V.les_refl _ _
theorem aQT {F:V→Option V}{a b a' b':List V}(h1:a.mapM F=some a')(h2:b.mapM F=some b'):(a++b).mapM F=some (a'++b'):=by
 rw[List.mapM_append,h1,h2];rfl
theorem aKS {F:V→Option V}(h: ∀x,(C x).mapM F=some (C x)): ∀l:List α,(l.flatMap C).mapM F=some (l.flatMap C)
 | []=>rfl
 |x::l=>by rw[aXu];exact aQT (h x) (aKS h l)
variable {P:Program}{h h':Hp}{t e:TypeId}{ti:TI}{b i off:Nat}{l m:List α}{y:α}{kk:IntKind}{j:Int}{nl:Option Bool}{sz by_:Nat}{z:Value}{v:V}
theorem aFp {hE:Hp}{q d:Nat}(hC: ∀x,(C x).length=K)(hK:0<K)(hn:l.length=q)(hb:hE[b]? =some (some ⟨e,l.flatMap C⟩))(hx: ∀x,(C x).mapM (fP hE d)=some (C x)):fP hE (d+1) (.sl b 0 q K true)=some (.row none K (l.map fun x=>V.agg (C x))):=by
 subst hn
 simp only[fP,hb]
 rw[if_pos ⟨by rw[rT hC];omega,hK,.inl trivial⟩]
 simp only[aXN]
 rw[aXm (by rw[rT hC];exact aXT _),aKS hx]
 simp only[aXs,aHU hC]
theorem aFA {hE:Hp}{q:Nat}(hC: ∀x,(C x).length=K)(hK:0<K)(hn:l.length=q)(hb:hE[b]? =some (some ⟨e,l.flatMap C⟩))(hx: ∀x,(C x).mapM (fP hE 3)=some (C x)):aAB hE (.sl b 0 q K true)=some (.row none K (l.map fun x=>V.agg (C x))):=aFp hC hK hn hb hx
theorem aVV :i3 h K (.row nl K (m.map fun x=>V.agg (C x)))=some (m.flatMap C,m.length):=by
 have:(m.map fun x=>V.agg (C x)).flatMap V.cells=m.flatMap C:=by rw[aY2];rfl
 simp only[i3]
 rw[if_pos (.inl trivial),this];simp
theorem aVT {q:Nat}(hC: ∀x,(C x).length=K)(hn:m.length=q)(hb:h[b]? =some (some ⟨e,m.flatMap C⟩)):i3 h K (.sl b 0 q K true)=some (m.flatMap C,m.length):=by
 subst hn
 simp only[i3,hb]
 rw[if_pos ⟨trivial,by rw[rT hC];omega⟩,aXN,aXm (by rw[rT hC];exact aXT _)]
theorem aVS {k:Nat}:i3 h K (.row nl k [])=some (([]:List α).flatMap C,([]:List α).length):=by simp[i3]
theorem aVO {q:Nat}(hC: ∀x,(C x).length=K)(hn:l.length=q)(ht:aU P t=some ⟨.slice e,sz,by_,z⟩)(he:aU P e=some ti)(h1:ti.zero.cells.size=K∧ti.size=K∧1≤ti.bytes∧0<K)(hb:h[b]? =some (some ⟨e,l.flatMap C⟩)){s:V}(hs:i3 h K s=some (m.flatMap C,m.length))
  {r:List α} (ha:eD ti.bytes l m=some r) (hl:h.length=i) (hh:h.set b none++[some ⟨e,r.flatMap C⟩]=h'):nF P t t (.sl b 0 q K true) s h=some (.sl i 0 r.length K true,h'):=by
 obtain⟨h2,h3,h4,h5⟩:=h1
 subst hn
 unfold eD at ha
 split at ha
 ·rename_i hlim
  injection ha with ha
  subst ha hl hh
  have hx:i3 h ti.size s=some (m.flatMap C,m.length):=by rw[h3];exact hs
  simp only[nF,ne_eq,not_true,if_false,ht,he]
  rw[if_pos ⟨by rw[h2,h3],by omega,h4⟩]
  simp only[hx,hb]
  rw[if_pos ⟨h3.symm,trivial,by rw[rT hC];exact aXT _,hlim⟩,aXm (by rw[rT hC];exact aXT _)]
  simp
 cases ha
theorem aWL {q:Nat}(hn:l.length=q)(ht:aU P t=some ⟨.slice e,sz,by_,z⟩)(he:aU P e=some ti)(h1:ti.size=K)(hx:bU l j=some y):jW P t (.sl b 0 q K true) (.sc (.int kk j))=some (.ptr b (0+j.toNat*K)):=by
 obtain⟨h2,h3,_⟩:=lH hx
 subst hn
 simp[jW,ht,tE,he,h1,h2,h3]
theorem aPY {cs r:List V}(h:jJ P t cs=some v):jJ P t (cs++r)=some v:=by
 unfold jJ at *
 split at h
 ·cases h
 split at h
 ·rename_i hag
  split at h
  ·rename_i hs
   rw[if_pos hag,if_pos (by rw[aXI];omega),aXJ hs];exact h
  cases h
 rename_i hag
 rw[if_neg hag]
 cases cs with
 |nil=>cases h
 |cons c cs=>exact h
theorem aTI (hC: ∀x,(C x).length=K){i:Nat}(hi:l[i]? =some y)(ho:off≤K):(l.flatMap C).drop (0+i*K+off)=(C y).drop off++(l.drop (i+1)).flatMap C:=by
 obtain⟨h1,h2⟩:=aXj.1 hi
 rw[aYv,←aXU,aGH hC,aXH h1,h2,aXu,aYk (by rw[hC];exact ho)]
theorem aM9 (hC: ∀x,(C x).length=K)(hb:h[b]? =some (some ⟨e,l.flatMap C⟩))(hx:bU l j=some y)(ho:off≤K)(hp:jJ P t ((C y).drop off)=some v):gB P t h (.ptr b (0+j.toNat*K+off))=some v:=by
 obtain⟨_,_,h3⟩:=lH hx
 simp only[gB,hb]
 rw[aTI hC h3 ho]
 exact aPY hp
theorem aOB (hC: ∀x,(C x).length=K)(hb:h[b]? =some (some ⟨e,l.flatMap C⟩))(hx:bU l j=some y)(hp:jJ P t (C y)=some v):gB P t h (.ptr b (0+j.toNat*K))=some v:=aM9 (off:=0) hC hb hx (Nat.zero_le _) (by simpa using hp)
theorem aNy (hC: ∀x,(C x).length=K){i:Nat}(hi:l[i]? =some y){x:V}{y':α}(ho:off+x.cells.length≤K)(hy:splice (C y) off x.cells=C y'):splice (l.flatMap C) (0+i*K+off) x.cells=(l.set i y').flatMap C:=by
 obtain⟨h1,h2⟩:=aXj.1 hi
 have hl:l=l.take i++y::l.drop (i+1):=by rw[←h2,←aXH h1,aXS]
 have hset:l.set i y'=l.take i++y'::l.drop (i+1):=by
  rw[List.set_eq_take_append_cons_drop,if_pos h1]
 have hti:(l.take i).length=i:=by rw[aXD];omega
 rw[hset,aYt,aXu,←hy]
 conv=>lhs;rw[hl,aYt,aXu]
 have hA:((l.take i).flatMap C).length=i*K:=by rw[rT hC,hti]
 unfold splice
 rw[aYv,aYj,aXm (by rw[hA];omega),hA,show i*K+off-i*K=off by omega,aXJ (by rw[hC];omega)]
 rw[show i*K+off+x.cells.length=i*K+(off+x.cells.length) by omega,aY0,aXz (by rw[hA];omega),hA,show i*K+(off+x.cells.length)-i*K=off+x.cells.length by omega,aYp,aYk (by rw[hC];omega)]
 simp[aYf]
theorem aQY (hC: ∀x,(C x).length=K)(ht:aU P t=some ti)(hb:h[b]? =some (some ⟨e,l.flatMap C⟩))(hx:bU l j=some y){x:V}{y':α}(hf:x.flatOk=true)(hs:x.cells.length=ti.size)(ho:off+ti.size≤K)(hy:splice (C y) off x.cells=C y')(hh:h.set b (some ⟨e,(l.set j.toNat y').flatMap C⟩)=h'):vU P t h (.ptr b (0+j.toNat*K+off)) x=some h':=by
 obtain⟨_,_,h3⟩:=lH hx
 have h4:=(aXj.1 h3).1
 subst hh
 simp only[vU,ht,hb]
 have hle:(j.toNat+1)*K≤l.length*K:=aYG K h4
 rw[if_pos ⟨hf,hs,by rw[rT hC];rw[aXK,aX3]at hle;omega⟩,aNy hC h3 (by rw[hs];exact ho) hy]
theorem Conv.rowK (hC: ∀x,(C x).length=K)(h1K: ∀x,(C x).all V.one=true)(hsh: ∀x,(C x).all V.shut=true){h h':Hp}(hs:Sub h h'){b n:Nat}{e:TypeId}(hb:h[b]? =some (some ⟨e,l.flatMap C⟩))(hb':h'[b]? =some none)(hn:n=l.length):Conv h h' (.sl b 0 n K true) (.row none K (l.map fun x=>V.agg (C x))):=by
 intro A M w v H hv
 obtain⟨hone,hcase⟩:=H.blk b _ hb
 have hok: ∀e∈l.map (fun x=>V.agg (C x)),e.okElem K=true:=by
  intro e he
  simp only[aYU]at he
  obtain⟨x,_,rfl⟩:=he
  simp only[V.okElem,V.flatOk,V.cells,h1K x,hC x,beq_self_eq_true,Bool.and_self]
 unfold VR at hv⊢
 rcases hv with⟨hm,rfl,h0,_⟩|⟨g,cap,e',sz,hm,rfl,h1,_,h3,hshp,_⟩
 ·have:l=[]:=aXq (by omega)
  subst this
  exact⟨none,0,rfl,aXT _,fun _=>rfl,(fun b hb=>by cases hb),by simp,fun hne=>absurd rfl hne⟩
 rcases hcase with⟨hm',_⟩|⟨g',a9,hm',hA,hw,hle,hcs⟩
 ·rw[hm]at hm';cases hm'
 rw[hm]at hm'
 injection hm' with hm'
 injection hm' with hm'
 subst hm'
 refine⟨some ⟨g,0,none⟩,cap,by rw[aXE,hn],by rw[aXE];omega,fun hh=>(by cases hh),(fun b hb=>by cases hb),hok,fun _=>⟨⟨g,0,none⟩,rfl,h3, ?_,rfl, ?_⟩⟩
 ·rintro(ha|⟨c,C',hc,hmc⟩)
  ·exact hA ha
  obtain⟨C'',hc'⟩:=hs c C' hc
  have:=H.inj c b C'' _ g hc' hb hmc hm
  subst this
  rw[hb']at hc;cases hc
 rw[←aHU hC l]
 unfold y5
 rw[if_pos rfl]
 dsimp only at hle hcs
 have hall:=rL hsh l
 refine aE7 h3 l.length (vs:=a9.toList.take (l.flatMap C).length) (rT hC l) (VCells.mk hcs.len (fun i c u hc hu=> ?_)) ?_
 ·obtain⟨u',hu',hr⟩:=hcs.get hc
  rw[hu]at hu'
  injection hu' with hu'
  subst hu'
  exact(hr.shut (aXp.1 hall c (aXw hc))).avoid (fun _ _ hx=>hs.xs hx)
 intro i u hu
 have hu2:a9[i]? =some u:=by
  simp only[aYB,aYM]at hu
  split at hu
  ·simpa using hu
  cases hu
 have:=hw.cell hshp i
 rw[hu2]at this
 unfold Addr.add
 split
 ·rename_i h0;subst h0;exact this
 simpa using this
theorem aKY (hC: ∀x,(C x).length=K)(h1: ∀x,(C x).all V.one=true): ∀(xs:List α)(i:Nat)(cells:List V),cells.length=(i+xs.length)*K→r4 (fun i=>some (i*K,K)) cells (wO i (xs.map fun x=>V.agg (C x)))=some (cells.take (i*K)++xs.flatMap C)
 | [],i,cells,hl=>by
  simp only[List.map_nil,wO,r4,aY3,aX2]
  rw[aXm (by rw[hl];simp)]
 |x::xs,i,cells,hl=>by
  simp only[aXG]at hl
  have hl':cells.length=i*K+K+xs.length*K:=by rw[hl,aXK,aXK,aX3];omega
  simp only[aXF,wO,r4]
  rw[if_pos ⟨by simp[V.flatOk,V.cells,h1 x],by simp[V.cells,hC x],by omega⟩]
  have hsl:(splice cells (i*K) (V.agg (C x)).cells).length=cells.length:=aAV _ _ _ (by simp only[V.cells,hC];omega)
  rw[aKY hC h1 xs (i+1) _ (by rw[hsl,hl];congr 1;omega)]
  congr 1
  rw[aXu,←aYf]
  congr 1
  unfold splice
  simp only[V.cells]
  rw[aXK,aX3,aYf,aYj,aXm (by rw[aXD];omega),aXD,aYc (by omega),show i*K+K-i*K=K by omega,aXJ (by rw[hC];exact aXT _),show(C x).take K=C x from aXm (by rw[hC];exact aXT _)]
theorem aDM {len:Nat}{ps:List (Nat×V)}{xs:List α}(hC: ∀x,(C x).length=K)(h1C: ∀x,(C x).all V.one=true)(ht:aU P t=some ⟨.slice e,sz,by_,z⟩)(he:aU P e=some ti)(h1:len*K≤2^24∧0<len∧0<K)(hK:ti.size=K)(hag:cI ti.desc=true)
  (hp:wO 0 (xs.map fun x=>V.agg (C x))=ps) (hlen:xs.length=len) (hl:h.length=i) (hh:h++[some ⟨e,xs.flatMap C⟩]=h'):
  kX P t len ps h=some (.sl i 0 len K true,h'):=by
 subst hK hp
 refine aU0 ht he h1 hag ?_ ⟨rL h1C xs,by rw[rT hC,hlen]⟩ hl hh
 rw[aKY hC h1C xs 0 _ (by simp[hlen])]
 simp
end
def aG4 (P:Program)(g:TypeId→Option (List TypeDesc)):List Field→Nat→Option (List TypeDesc)
 | [],_=>some []
 |f::fs,off=>if f.name= "_" ∨f.offset≠off then none else match aU P f.type,g f.type with
  |some d,some l=>if d.size=l.length∧0<d.size then(aG4 P g fs (off+l.length)).map (l++ ·)else none
  |_,_=>none
def aAF (P:Program):Nat→TypeId→Option (List TypeDesc)
 |0,_=>none
 |d+1,t=>match aU P t with
  |some ⟨.int k,sz,_,_⟩=>if sz=1 then some [.int k]else none
  |some ⟨.bool,sz,_,_⟩=>if sz=1 then some [.bool]else none
  |some ⟨.string,sz,_,_⟩=>if sz=1 then some [.string]else none
  |some ⟨.array n e,sz,_,_⟩=>match aU P e,aAF P d e with
   |some de,some l=>if de.size=l.length∧sz=n*l.length then some (aXC n l).flatten else none
   |_,_=>none
  |some ⟨.struct fs,sz,_,_⟩=>if P.stoodInHeld t=true then none else match aG4 P (aAF P d) fs.toList 0 with
   |some l=>if sz=l.length then some l else none
   |none=>none
  |_=>none
def mkT (ti:TI)(vs:List Value):Value:=if cI ti.desc then .agg vs.toArray else vs.headD default
def gL :List TypeDesc→List Value→Bool
 | [],[]=>true
 | .int k::ds,.int k' _::vs=>decide (k=k')&&gL ds vs
 | .bool::ds,.bool _::vs=>gL ds vs
 | .string::ds,.string _::vs=>gL ds vs
 |_,_=>false
def aIY :Value→Value→Bool
 | .int _ a,.int _ b=>a == b
 | .bool a,.bool b=>a == b
 | .string a,.string b=>a == b
 |_,_=>false
def iC :List Value→List Value→Bool
 | [],[]=>true
 |x::xs,y::ys=>aIY x y&&iC xs ys
 |_,_=>false
theorem aGc : ∀{a c b d:List Value},a.length=c.length→iC (a++b) (c++d)=(iC a c&&iC b d)
 | [],[],_,_,_=>by simp[iC]
 |x::a,y::c,b,d,h=>by
  simp only[aY4,iC]
  rw[aGc (by simpa using h),Bool.and_assoc]
 | [],_::_,_,_,h=>by simp at h
 |_::_,[],_,_,h=>by simp at h
theorem mE : ∀{ds:List TypeDesc}{vs:List Value},gL ds vs=true→vs.length=ds.length
 | [],[],_=>rfl
 | [],_::_,h=>by simp[gL]at h
 |d::ds,[],h=>by cases d<;>simp[gL]at h
 |d::ds,v::vs,h=>by
  have:gL ds vs=true:=by
   cases d<;>cases v<;>simp only[gL,aXr,aXv]at h<;>first|exact h|exact h.2
  simp[mE this]
theorem vP : ∀{l m:List TypeDesc}{vs:List Value},gL (l++m) vs=true→gL l (vs.take l.length)=true∧gL m (vs.drop l.length)=true
 | [],m,vs,h=>by simpa[gL]using h
 |d::l,m,[],h=>by cases d<;>simp[gL]at h
 |d::l,m,v::vs,h=>by
  cases d<;>cases v<;>simp only[aY4,gL,aXr,aXv]at h<;>simp only[aXG,aYr,aYL,gL,aXv]
  ·exact vP h
  ·exact⟨⟨h.1,(vP h.2).1⟩,(vP h.2).2⟩
  exact vP h
section
variable {P:Program}
theorem uQ {t:TypeId}{ti:TI}(ht:aU P t=some ti){vs:List Value}{off:Nat}(h1:cI ti.desc=true∨ti.size=1)(hl:off+ti.size≤vs.length):bD P (part t vs.toArray off)=some (mkT ti ((vs.drop off).take ti.size)):=by
 have hu:=dI ht
 cases hag:cI ti.desc with
 |false=>
  have hs:=h1.resolve_left (by rw[hag];simp)
  have hlt:off<vs.length:=by omega
  have:=aDx (P:=P) ht hag (cs:=vs.toArray) (off:=off) (v:=vs[off]) (by simp[hlt])
  rw[this]
  simp only[mkT,hag,aXr,if_false,hs]
  rw[aXH hlt];rfl
 |true=>
  unfold part
  have h1:bD P (isAgg t)=some true:=by
   unfold isAgg
   rw[bM _ _ hu]
   cases hh:ti.desc<;>first|rfl|(rw[hh]at hag;simp[cI]at hag)
  rw[bM _ _ h1]
  simp only[if_true]
  rw[bM _ _ (wP ht)]
  simp only[mkT,hag,if_true,List.extract_toArray,List.extract_eq_drop_take']
  show some _=_
  congr 2
  simp[List.take_drop]
theorem aQP {α:Type}{p:α→Bool}{body:α→Option Bool×Unit→Sem (ForInStep (Option Bool×Unit))}{k:Option Bool×Unit→Sem Bool}(h1: ∀r u,k (some r,u)=pure r)(h2: ∀u,k (none,u)=pure true): ∀(l:List α),(∀a∈l,∀s,bD P (body a s)=some (if p a=true then .yield (none,())else .done (some false,())))→
  bD P (forIn l ((none,()):Option Bool×Unit) body >>= k)=some (l.all p)
 | [],_=>by
  simp only[aYJ,pure_bind,h2]
  rfl
 |a::l,h=>by
  simp only[aYD,bind_assoc]
  rw[bM _ _ (h a (by simp) _)]
  cases hp:p a with
  |true=>
   simp only[if_true,aX6,hp,aYy]
   exact aQP h1 h2 l (fun b hb=>h b (by simp[hb]))
  |false=>
   simp only[aXr,if_false,aX6,hp,Bool.false_and,pure_bind,h1]
   rfl
theorem aRK {α:Type}{body:α→PUnit→Sem (ForInStep PUnit)}: ∀(l:List α),(∀a∈l,∀s,bD P (body a s)=some (.yield PUnit.unit))→
  bD P (do
   forIn l PUnit.unit body
   pure ())=some ()
 | [],_=>by simp only[aYJ];rfl
 |a::l,h=>by
  simp only[aYD,bind_assoc]
  rw[bM _ _ (h a (by simp) _)]
  exact aRK l (fun b hb=>h b (by simp[hb]))
theorem aGq {m:Nat}{xs ys:List Value}: ∀(c i:Nat),xs.length=(i+c)*m→ys.length=(i+c)*m→iC (xs.drop (i*m)) (ys.drop (i*m))=(aY7 i c).all fun i=>iC ((xs.drop (i*m)).take m) ((ys.drop (i*m)).take m)
 |0,i,hx,hy=>by
  rw[aXz (by rw[hx];simp),aXz (by rw[hy];simp)]
  simp[iC]
 |c+1,i,hx,hy=>by
  have ih:=aGq (m:=m) (xs:=xs) (ys:=ys) c (i+1) (by rw[hx];congr 1;omega) (by rw[hy];congr 1;omega)
  simp only[aYh,aX6]
  rw[←ih]
  have e:(i+1)*m=i*m+m:=by rw[aXK,aX3]
  have hm:m≤(c+1)*m:=Nat.le_mul_of_pos_left m (by omega)
  have h2:(i+(c+1))*m=i*m+(c+1)*m:=aXK _ _ _
  rw[e,←aXU,←aXU,←aGc (by simp only[aXD,aXW,hx,hy]),aXS,aXS]
theorem aIt {l:List TypeDesc}: ∀(c:Nat){xs:List Value},gL (aXC c l).flatten xs=true→ ∀i,i<c→gL l ((xs.drop (i*l.length)).take l.length)=true
 |0,_,_,i,hi=>by omega
 |c+1,xs,h,i,hi=>by
  simp only[aX9,aYe]at h
  obtain⟨h1,h2⟩:=vP h
  cases i with
  |zero=>simpa using h1
  |succ i=>
   have:=aIt c h2 i (by omega)
   rw[aXU]at this
   rw[aXK,aX3,aYA]
   exact this
def aKp (P:Program)(xs ys:List Value)(f:Field):Bool:=match aU P f.type with
 |some d=>iC ((xs.drop f.offset).take d.size) ((ys.drop f.offset).take d.size)
 |none=>false
theorem aFH {g:TypeId→Option (List TypeDesc)}{xs ys:List Value}: ∀(fs:List Field)(off:Nat){l:List TypeDesc},aG4 P g fs off=some l→gL l (xs.drop off)=true→gL l (ys.drop off)=true→
  fs.all (aKp P xs ys)=iC (xs.drop off) (ys.drop off)∧ ∀f∈fs,f.name≠ "_" ∧ ∃df lf,aU P f.type=some df∧g f.type=some lf∧df.size=lf.length∧f.offset+df.size≤xs.length∧f.offset+df.size≤ys.length∧
   gL lf ((xs.drop f.offset).take df.size)=true∧gL lf ((ys.drop f.offset).take df.size)=true
 | [],off,l,h,hx,hy=>by
  simp only[aG4,aXn]at h
  subst h
  have e1:=mE hx
  have e2:=mE hy
  rw[aXq e1,aXq e2]
  simp[iC]
 |f::fs,off,l,h,hx,hy=>by
  simp only[aG4]at h
  split at h
  ·cases h
  rename_i hno
  have hname:f.name≠ "_" :=fun e=>hno (.inl e)
  have hoff:f.offset=off:=Classical.byContradiction fun e=>hno (.inr e)
  split at h
  ·rename_i df lf hd hg
   split at h
   ·rename_i hsz
    obtain⟨hsz,h0⟩:=hsz
    simp only[aXy]at h
    obtain⟨l',hl',rfl⟩:=h
    obtain⟨x1,x2⟩:=vP hx
    obtain⟨y1,y2⟩:=vP hy
    rw[aXU]at x2 y2
    obtain⟨i1,i2⟩:=aFH fs (off+lf.length) hl' x2 y2
    have lx:=mE hx
    have ly:=mE hy
    simp only[aXW,aXI]at lx ly
    have hxl:off≤xs.length∨lf.length+l'.length=0:=by omega
    have x1l:=mE x1
    have y1l:=mE y1
    simp only[aXD,aXW]at x1l y1l
    refine⟨?_, ?_⟩
    ·simp only[aX6,i1,aKp,hd,hoff,hsz]
     rw[←aXU,←aXU,←aGc (by simp only[aXD,aXW];omega),aXS,aXS]
    intro f' hf'
    rcases aYa.1 hf' with rfl|hf'
    ·exact⟨hname,df,lf,hd,hg,hsz,by omega,by omega,by rw[hoff,hsz];exact x1,by rw[hoff,hsz];exact y1⟩
    exact i2 f' hf'
   cases h
  cases h
theorem aBu : ∀(d:Nat){t:TypeId}{L:List TypeDesc}{ti:TI},aU P t=some ti→aAF P d t=some L→(L.length=ti.size∧(cI ti.desc=true∨ti.size=1))∧
  ∀(n:Nat){xs:List Value},gL L xs=true→(∀{ys:List Value},gL L ys=true→bD P (Op.equalIn (n+d) t (mkT ti xs) (mkT ti ys))=some (iC xs ys))∧ ∀b,bD P (Instr.checkKey b (n+d) t (mkT ti xs))=some ()
 |0,t,L,ti,_,h=>by simp[aAF]at h
 |d+1,t,L,ti,ht,h=>by
  simp only[aAF]at h
  rw[ht]at h
  split at h
  ·rename_i k sz _ _ he
   injection he with he;subst he
   split at h
   ·rename_i h1
    injection h with h;subst h
    refine⟨⟨by simp[h1],.inr h1⟩,fun n xs hx=>⟨fun{ys} hy=> ?_,fun b=> ?_⟩⟩
    ·match xs,ys,mE hx,mE hy,hx,hy with
     | [.int k1 a],[.int k2 c],_,_,hx,hy=>
      simp only[gL,aYl,decide_eq_true_eq]at hx hy
      subst hx;subst hy
      simp only[mkT,cI,aXr,if_false,aYE,iC,aIY,aYl]
      exact aK4 ht _ a c
    match xs,mE hx,hx with
    | [.int k1 a],_,hx=>
     show bD P (Instr.checkKey b (n+d+1) t _)=_
     rw[Instr.checkKey,bM _ _ (dI ht)]
     rfl
   cases h
  ·rename_i sz _ _ he
   injection he with he;subst he
   split at h
   ·rename_i h1
    injection h with h;subst h
    refine⟨⟨by simp[h1],.inr h1⟩,fun n xs hx=>⟨fun{ys} hy=> ?_,fun b=> ?_⟩⟩
    ·match xs,ys,hx,hy with
     | [.bool a],[.bool c],hx,hy=>
      show bD P (Op.equalIn (n+d+1) t _ _)=_
      rw[Op.equalIn,bM _ _ (dI ht)]
      simp only[mkT,cI,aXr,if_false,aYE,iC,aIY,aYl]
      rfl
    match xs,hx with
    | [.bool a],hx=>
     show bD P (Instr.checkKey b (n+d+1) t _)=_
     rw[Instr.checkKey,bM _ _ (dI ht)]
     rfl
   cases h
  ·rename_i sz _ _ he
   injection he with he;subst he
   split at h
   ·rename_i h1
    injection h with h;subst h
    refine⟨⟨by simp[h1],.inr h1⟩,fun n xs hx=>⟨fun{ys} hy=> ?_,fun b=> ?_⟩⟩
    ·match xs,ys,hx,hy with
     | [.string a],[.string c],hx,hy=>
      show bD P (Op.equalIn (n+d+1) t _ _)=_
      rw[Op.equalIn,bM _ _ (dI ht)]
      simp only[mkT,cI,aXr,if_false,aYE,iC,aIY,aYl]
      rfl
    match xs,hx with
    | [.string a],hx=>
     show bD P (Instr.checkKey b (n+d+1) t _)=_
     rw[Instr.checkKey,bM _ _ (dI ht)]
     rfl
   cases h
  ·rename_i len e sz _ _ he
   injection he with he;subst he
   split at h
   ·rename_i de l hde hle
    split at h
    ·rename_i hc
     obtain⟨hc1,hc2⟩:=hc
     injection h with h;subst h
     obtain⟨⟨_,ag⟩,ih⟩:=aBu d hde hle
     have hL:(aXC len l).flatten.length=len*l.length:=by simp
     refine⟨⟨by rw[hL];exact hc2.symm,.inl rfl⟩,fun n xs hx=> ?_⟩
     have lx:=mE hx
     rw[hL]at lx
     have hxo:=aIt len hx
     have slot: ∀i,i<len→i*l.length+l.length≤len*l.length:=fun i hi=>by
      have:=aYG l.length (show i+1≤len from hi)
      rw[aXK,aX3]at this;exact this
     have px: ∀i,i<len→bD P (part e xs.toArray (i*l.length))=some (mkT de ((xs.drop (i*l.length)).take l.length)):=fun i hi=>by
      have:=uQ (P:=P) hde ag (vs:=xs) (off:=i*l.length) (by rw[hc1,lx];exact slot i hi)
      rw[hc1]at this;exact this
     refine⟨fun{ys} hy=> ?_,fun b=> ?_⟩
     ·have ly:=mE hy
      rw[hL]at ly
      have hyo:=aIt len hy
      have py: ∀i,i<len→bD P (part e ys.toArray (i*l.length))=some (mkT de ((ys.drop (i*l.length)).take l.length)):=fun i hi=>by
       have:=uQ (P:=P) hde ag (vs:=ys) (off:=i*l.length) (by rw[hc1,ly];exact slot i hi)
       rw[hc1]at this;exact this
      show bD P (Op.equalIn (n+d+1) t (.agg xs.toArray) (.agg ys.toArray))=_
      rw[Op.equalIn,bM _ _ (dI ht)]
      simp only
      rw[bM _ _ (wP hde),hc1]
      simp only[Std.Legacy.Range.forIn_eq_forIn_range',Std.Legacy.Range.size,aYV,aYs,aZa]
      have hch:=aGq (m:=l.length) (xs:=xs) (ys:=ys) len 0 (by simpa using lx) (by simpa using ly)
      simp only[Nat.zero_mul,aXN]at hch
      rw[hch]
      refine aQP (fun _ _=>rfl) (fun _=>rfl) _ fun i hi s=> ?_
      have hil:i<len:=by simp at hi;omega
      rw[bM _ _ (px i hil),bM _ _ (py i hil),bM _ _ ((ih n (hxo i hil)).1 (hyo i hil))]
      cases iC ((xs.drop (i*l.length)).take l.length) ((ys.drop (i*l.length)).take l.length)<;>rfl
     show bD P (Instr.checkKey b (n+d+1) t (.agg xs.toArray))=_
     rw[Instr.checkKey,bM _ _ (dI ht)]
     simp only[Std.Legacy.Range.forIn_eq_forIn_range',Std.Legacy.Range.size,aYV,aYs,aZa]
     refine aRK _ fun i hi s=> ?_
     have hil:i<len:=by simp at hi;omega
     rw[bM _ _ (wP hde),hc1,bM _ _ (px i hil),bM _ _ ((ih n (hxo i hil)).2 b)]
     rfl
    cases h
   cases h
  ·rename_i fs sz _ _ he
   injection he with he;subst he
   split at h
   ·cases h
   rename_i hst
   have hst':P.stoodInHeld t=false:=by simpa using hst
   split at h
   ·rename_i l hl
    split at h
    ·rename_i hsz
     injection h with h;subst h
     refine⟨⟨hsz.symm,.inl rfl⟩,fun n xs hx=> ?_⟩
     have hx0:gL l (xs.drop 0)=true:=by simpa using hx
     refine⟨fun{ys} hy=> ?_,fun b=> ?_⟩
     ·have hy0:gL l (ys.drop 0)=true:=by simpa using hy
      obtain⟨a1,a2⟩:=aFH (P:=P) _ 0 hl hx0 hy0
      simp only[aXN]at a1
      show bD P (Op.equalIn (n+d+1) t (.agg xs.toArray) (.agg ys.toArray))=_
      rw[Op.equalIn,bM _ _ (dI ht)]
      simp only
      have hp:bD P (program)=some P:=rfl
      rw[bM _ _ hp]
      simp only[hst',aXr,if_false]
      rw[←a1]
      simp only[←aYQ]
      refine aQP (fun _ _=>rfl) (fun _=>rfl) _ fun f hf s=> ?_
      obtain⟨f1,df,lf,f2,f3,f4,f5,f6,f7,f8⟩:=a2 f hf
      obtain⟨⟨_,ag⟩,ih⟩:=aBu d f2 f3
      simp only[f1,ne_eq,not_false_eq_true,if_true]
      rw[bM _ _ (uQ f2 ag f5),bM _ _ (uQ f2 ag f6),bM _ _ ((ih n f7).1 f8)]
      simp only[aKp,f2]
      cases iC ((xs.drop f.offset).take df.size) ((ys.drop f.offset).take df.size)<;>rfl
     obtain⟨_,a2⟩:=aFH (P:=P) _ 0 hl hx0 hx0
     show bD P (Instr.checkKey b (n+d+1) t (.agg xs.toArray))=_
     rw[Instr.checkKey,bM _ _ (dI ht)]
     simp only
     simp only[←aYQ]
     refine aRK _ fun f hf s=> ?_
     obtain⟨f1,df,lf,f2,f3,f4,f5,f6,f7,f8⟩:=a2 f hf
     obtain⟨⟨_,ag⟩,ih⟩:=aBu d f2 f3
     simp only[f1,ne_eq,not_false_eq_true,if_true]
     rw[bM _ _ (uQ f2 ag f5),bM _ _ ((ih n f7).2 b)]
     rfl
    cases h
   cases h
  cases h
end
instance :Inhabited MT:=⟨⟨0,0,⟨.bool,0,0,default⟩,⟨.bool,0,0,default⟩⟩⟩
section
variable {P:Program}{t:TypeId}{L:List TypeDesc}{ti:TI}{xo yo:Operand}{d:Nat}
theorem aIV (hg:P.eqGuardType P.depth t=false){bo:BinOp}(hbo:bo= .eql∨bo= .neq)(a b:Array Value):bD P (eqGuard bo t xo yo (.agg a) (.agg b))=some ():=by
 unfold eqGuard
 rcases hbo with rfl|rfl<;>
 ·show bD P (if(!P.eqGuardType P.depth t)=true then pure ()else _)=some ()
  rw[hg];rfl
theorem aGz (ht:aU P t=some ti)(hag:cI ti.desc=true)(hf:aAF P d t=some L)(hd:d≤10000){xs ys:List Value}(ox:gL L xs=true)(oy:gL L ys=true):bD P (Op.equal t (.agg xs.toArray) (.agg ys.toArray))=some (iC xs ys):=by
 have:=((aBu d ht hf).2 (10000-d) ox).1 oy
 simp only[mkT,hag,if_true]at this
 rw[aYR hd]at this
 exact this
theorem aIl (ht:aU P t=some ti)(hag:cI ti.desc=true)(hf:aAF P d t=some L)(hd:d≤10000)(hg:P.eqGuardType P.depth t=false){cs ds:List V}{xs ys:List Value}{r:Bool}(hx:cs.mapM eE=some xs)(hy:ds.mapM eE=some ys)(ox:gL L xs=true)(oy:gL L ys=true)(hr:iC xs ys=r):
  eT P .eql t xo yo (.agg cs) (.agg ds)=some (.sc (.bool r)):=by
 simp only[eT,eW,hx,hy,aXs,pureV]
 rw[bM _ _ (aIV hg (.inl rfl) _ _)]
 have:bD P (binOp .eql t (.agg xs.toArray) (.agg ys.toArray))=some (.bool (iC xs ys)):=aBF _ _ (aGz ht hag hf hd ox oy)
 rw[this,hr];rfl
theorem aFy (ht:aU P t=some ti)(hag:cI ti.desc=true)(hf:aAF P d t=some L)(hd:d≤10000)(hg:P.eqGuardType P.depth t=false){cs ds:List V}{xs ys:List Value}{r:Bool}(hx:cs.mapM eE=some xs)(hy:ds.mapM eE=some ys)(ox:gL L xs=true)(oy:gL L ys=true)(hr:iC xs ys=r):
  eT P .neq t xo yo (.agg cs) (.agg ds)=some (.sc (.bool (!r))):=by
 simp only[eT,eW,hx,hy,aXs,pureV]
 rw[bM _ _ (aIV hg (.inr rfl) _ _)]
 have:bD P (binOp .neq t (.agg xs.toArray) (.agg ys.toArray))=some (.bool (!(iC xs ys))):=aBF _ (fun b=>Value.bool !b) (aGz ht hag hf hd ox oy)
 rw[this,hr];rfl
end
structure aEG (P:Program)(kt:TypeId){α:Type}(VK:α→Value)(eq:α→α→Bool):Prop where
 equal: ∀a b,bD P (Op.equal kt (VK a) (VK b))=some (eq a b)
 check: ∀e a,bD P (Instr.checkKey e 10000 kt (VK a))=some ()
 stays: ∀a b,eq a b=true→Instr.sameBits 10000 (VK b) (VK a)=true
theorem aVM {a b:ByteArray}(h:(a == b)=true):a=b:=by
 obtain⟨a⟩:=a
 obtain⟨b⟩:=b
 have h':(a == b)=true:=h
 rw[eq_of_beq h']
theorem aN1 : ∀(n:Nat){L:List TypeDesc}{xs ys:List Value},gL L xs=true→gL L ys=true→iC xs ys=true→(ys.zip xs).all (fun(x,y)=>Instr.sameBits n x y)=true
 |n,[],[],[],_,_,_=>rfl
 |n,d::L,x::xs,y::ys,hx,hy,h=>by
  simp only[iC,aXv]at h
  have key:gL L xs=true∧gL L ys=true∧Instr.sameBits n y x=true:=by
   cases d<;>cases x<;>simp only[gL,aXr,aXv,decide_eq_true_eq]at hx<;>cases y<;>simp only[gL,aXr,aXv,decide_eq_true_eq]at hy<;>simp only[aIY,beq_iff_eq]at h
   ·exact⟨hx,hy,by cases n<;>simp[Instr.sameBits,h.1]⟩
   ·refine⟨hx.2,hy.2, ?_⟩
    have h1:=hx.1.symm.trans hy.1
    cases n<;>simp[Instr.sameBits,h.1,h1]
   refine⟨hx,hy, ?_⟩
   have h1:=aVM h.1
   subst h1
   cases n<;>exact h.1
  simp only[List.zip_cons_cons,aX6,key.2.2,aYy]
  exact aN1 n key.1 key.2.1 h.2
 |n,[],_::_,_,hx,_,_=>by simp[gL]at hx
 |n,[],[],_::_,_,hy,_=>by simp[gL]at hy
 |n,d::L,[],_,hx,_,_=>by cases d<;>simp[gL]at hx
 |n,d::L,_::_,[],_,hy,_=>by cases d<;>simp[gL]at hy
theorem aO2 {P:Program}{kt:TypeId}{L:List TypeDesc}{ti:TI}{d:Nat}{α:Type}{xs:α→List Value}{eq:α→α→Bool}(ht:aU P kt=some ti)(hag:cI ti.desc=true)(hf:aAF P d kt=some L)(hd:d≤10000)(ok: ∀a,gL L (xs a)=true)(heq: ∀a b,iC (xs a) (xs b)=eq a b):
  aEG P kt (fun a=> .agg (xs a).toArray) eq:=by
 refine⟨fun a b=>by rw[←heq];exact aGz ht hag hf hd (ok a) (ok b),fun e a=> ?_,fun a b h=> ?_⟩
 ·have:=((aBu d ht hf).2 (10000-d) (ok a)).2 e
  simp only[mkT,hag,if_true]at this
  rw[aYR hd]at this
  exact this
 have h1:=aN1 9999 (ok a) (ok b) (by rw[heq];exact h)
 have hl:(xs b).length=(xs a).length:=by rw[mE (ok a),mE (ok b)]
 show Instr.sameBits (9999+1) _ _=true
 simp only[Instr.sameBits,List.size_toArray,hl,beq_self_eq_true,aYy]
 exact h1
def aB3 {α β:Type}(eq:α→α→Bool)(l:List (α×β))(k:α):Option Nat:=l.findIdx? fun e=>eq k e.1
def aEt {α β:Type}(eq:α→α→Bool)(l:List (α×β))(k:α)(z:β):β:=match aB3 eq l k with
 |some i=>((l[i]?).map (·.2)).getD z
 |none=>z
def aGA {α β:Type}(eq:α→α→Bool)(l:List (α×β))(k:α)(v:β):List (α×β):=match aB3 eq l k with
 |some i=>l.set i (k,v)
 |none=>l++[(k,v)]
section
variable {P:Program}{kt:TypeId}{α β:Type}{VK:α→Value}{eq:α→α→Bool}{CK:α→List V}{E:β→V}{C:α×β→List V}{K:Nat}{l:List (α×β)}{k:α}{v:β}
theorem aMp (hC: ∀e,C e=CK e.1++[E e.2])(hl: ∀a,(CK a).length=K)(h0:0<K): ∀l:List (α×β),aEx K 0 l.length (l.flatMap C)=l.map fun e=>(V.agg (CK e.1),E e.2)
 | []=>rfl
 |e::l=>by
  have w1:d6 K=K:=by unfold d6;rw[if_neg (by omega)]
  have w0:d6 0=1:=rfl
  have e1:(e::l).flatMap C=CK e.1++(E e.2::l.flatMap C):=by rw[aXu,hC];simp
  simp only[aXG,aEx,e1,w1,w0]
  have d1:(CK e.1++E e.2::l.flatMap C).drop K=E e.2::l.flatMap C:=List.drop_left' (hl _)
  have d2:(CK e.1++E e.2::l.flatMap C).drop (K+1)=l.flatMap C:=by rw[←aXU,d1];rfl
  rw[List.take_left' (hl _),d1,d2,aMp hC hl h0 l,aXF]
  have hK:K≠0:=by omega
  simp[aH0,hK]
theorem aOJ (hC: ∀e,C e=CK e.1++[E e.2])(hE: ∀b,(E b).one=true)(l:List (α×β)):aDF (l.map fun e=>(V.agg (CK e.1),E e.2))=l.flatMap C:=by
 have hc: ∀b,(E b).cells=[E b]:=fun b=>by have:=hE b;generalize E b=y at this ⊢; cases y<;>first|rfl|simp[V.one]at this
 have ha: ∀cs:List V,(V.agg cs).cells=cs:=fun _=>rfl
 simp only[aDF,aY2,ha,hc]
 exact congrArg (fun f=>List.flatMap f l) (funext fun e=>(hC e).symm)
theorem aLg (hC: ∀e,C e=CK e.1++[E e.2])(hl: ∀a,(CK a).length=K): ∀l:List (α×β),(l.flatMap C).length=l.length*(K+1)
 | []=>by simp
 |e::l=>by rw[aXu,aXI,aLg hC hl l,hC];simp[hl,aXK];omega
theorem aLo (hv: ∀a,eW (.agg (CK a))=some (VK a)): ∀l:List (α×β),(l.map fun e=>(V.agg (CK e.1),E e.2)).mapM (fun e=>eW e.1)=some (l.map fun e=>VK e.1)
 | []=>rfl
 |e::l=>by simp only[aXF,aXM,hv,aLo hv l];rfl
theorem aKW (hk:aEG P kt VK eq)(k:α): ∀l:List (α×β),rK P kt (VK k) (l.map fun e=>VK e.1)=some (aB3 eq l k)
 | []=>rfl
 |e::l=>by
  simp only[aXF,rK,hk.equal,aB3,List.findIdx?_cons]
  cases eq k e.1 with
  |true=>rfl
  |false=>
   have:=aKW hk k l
   simp only[aB3]at this
   simp[this]
variable {t:TypeId}{m:MT}{h h':Hp}{b:Nat}
theorem aJq (hC: ∀e,C e=CK e.1++[E e.2])(hl: ∀a,(CK a).length=K)(h0:0<K)(hm:wQ P t=some m)(hK:oK m.dk=K)(hL:oK m.de=0)(hb:h[b]? =some (some ⟨m.code,l.flatMap C⟩)):
  aB2 P t h (.mp b)=some ⟨m,b,⟨m.code,l.flatMap C⟩,l.map fun e=>(V.agg (CK e.1),E e.2)⟩:=by
 have w1:d6 K=K:=by unfold d6;rw[if_neg (by omega)]
 have w0:d6 0=1:=rfl
 simp only[aB2,hm,hb,if_true,hK,hL,w1,w0,aLg hC hl]
 rw[Nat.mul_div_cancel _ (by omega),aMp hC hl h0]
theorem aGv (hv: ∀a,eW (.agg (CK a))=some (VK a))(hk:aEG P kt VK eq):aDY P kt (l.map fun e=>(V.agg (CK e.1),E e.2)) (.agg (CK k))=some (VK k,l.map (fun e=>VK e.1),aB3 eq l k):=by
 simp only[aDY,hv,aLo hv,hk.check,aKW hk]
theorem lkM {z:β}(hC: ∀e,C e=CK e.1++[E e.2])(hl: ∀a,(CK a).length=K)(h0:0<K)(hv: ∀a,eW (.agg (CK a))=some (VK a))(hm:wQ P t=some m)(hk:aEG P m.kt VK eq)(hK:oK m.dk=K)(hL:oK m.de=0)(hz:ofValue m.de.zero=E z)(hb:h[b]? =some (some ⟨m.code,l.flatMap C⟩)):
  uG P t h (.mp b) (.agg (CK k)) false=some (E (aEt eq l k z)):=by
 simp only[uG,aJq hC hl h0 hm hK hL hb,aGv hv hk,aEt]
 cases hf:aB3 eq l k with
 |none=>simp[hz]
 |some i=>
  have hi:i<l.length:=(aYd.1 hf).1
  simp[hi]
theorem upM (hC: ∀e,C e=CK e.1++[E e.2])(hl: ∀a,(CK a).length=K)(h0:0<K)(h1: ∀a,(CK a).all V.one=true)(hE: ∀b,(E b).one=true)(hv: ∀a,eW (.agg (CK a))=some (VK a))(hm:wQ P t=some m)(hk:aEG P m.kt VK eq)(hK:oK m.dk=K)(hL:oK m.de=0)(hb:h[b]? =some (some ⟨m.code,l.flatMap C⟩))(hh:h.set b (some ⟨m.code,(aGA eq l k v).flatMap C⟩)=h'):
  aIu P t h (.mp b) (.agg (CK k)) (E v)=some h':=by
 subst hh
 have hKn:K≠0:=by omega
 have s1:aF2 K (.agg (CK k))=true:=by simp[aF2,V.flatOk,V.cells,h1,hKn,hl]
 have hc: ∀b,(E b).cells=[E b]:=fun b=>by have:=hE b;generalize E b=y at this ⊢; cases y<;>first|rfl|simp[V.one]at this
 have s2:aF2 0 (E v)=true:=by simp[aF2,V.flatOk,hc,hE]
 simp only[aIu,aJq hC hl h0 hm hK hL hb,hK,hL,s1,s2,Bool.and_self,if_true,aGv hv hk,aGA]
 cases hf:aB3 eq l k with
 |none=>
  have ha: ∀cs:List V,(V.agg cs).cells=cs:=fun _=>rfl
  simp only[aYt,aXu,aY3,hC,ha,hc,aX2]
 |some i=>
  obtain⟨hi,hp,_⟩:=aYd.1 hf
  have hst:aIQ (l.map fun e=>VK e.1) i (VK k)=true:=by
   simp only[aIQ,aXB,aXl hi,aXs,Option.any_some]
   exact hk.stays _ _ hp
  simp only[hst,if_true]
  rw[←aOJ hC hE (l.set i (k,v)),List.map_set]
theorem aQF {z:β}{e:Nat}(he:m.code=e)(hC: ∀e,C e=CK e.1++[E e.2])(hl: ∀a,(CK a).length=K)(h0:0<K)(hv: ∀a,eW (.agg (CK a))=some (VK a))(hm:wQ P t=some m)(hk:aEG P m.kt VK eq)(hK:oK m.dk=K)(hL:oK m.de=0)(hz:ofValue m.de.zero=E z)(hb:h[b]? =some (some ⟨e,l.flatMap C⟩)):
  uG P t h (.mp b) (.agg (CK k)) false=some (E (aEt eq l k z)):=by
 subst he;exact lkM hC hl h0 hv hm hk hK hL hz hb
theorem aWO {e:Nat}(he:m.code=e)(hC: ∀e,C e=CK e.1++[E e.2])(hl: ∀a,(CK a).length=K)(h0:0<K)(h1: ∀a,(CK a).all V.one=true)(hE: ∀b,(E b).one=true)(hv: ∀a,eW (.agg (CK a))=some (VK a))(hm:wQ P t=some m)(hk:aEG P m.kt VK eq)(hK:oK m.dk=K)(hL:oK m.de=0)(hb:h[b]? =some (some ⟨e,l.flatMap C⟩))(hh:h.set b (some ⟨e,(aGA eq l k v).flatMap C⟩)=h'):
  aIu P t h (.mp b) (.agg (CK k)) (E v)=some h':=by
 subst he;exact upM hC hl h0 h1 hE hv hm hk hK hL hb hh
def aWe (cs:List V):List Value:=(cs.mapM eE).getD []
end
section
variable {P:Program}{O:xK}{n:Nat}{fr:List (Nat×V)}{h h':Hp}{ty:TypeId}{pos:String}{aft:Array Edge}{v:V}{d:Option Tmp}{g:Option (Nat×Bool)}{x y z:Operand}{a b c:V}{t:TypeId}
theorem aTM {m:MT}{i e:Nat}(hm:wQ P t=some m)(he:m.code=e)(hl:h.length=i)(hh:h++[some ⟨e,[]⟩]=h'):bY P O ⟨d,.makeMap t none,ty,pos,aft,g⟩ (aI n fr) h=some (.mp i,h'):=by
 subst hl hh he
 simp[bY,aFS,hm]
theorem aRg {ok:Bool}(hx:b5 n fr x=some a)(hy:b5 n fr y=some b)(hv:uG P t h a b ok=some v):bY P O ⟨d,.lookup t x y ok,ty,pos,aft,g⟩ (aI n fr) h=some (v,h):=by simp[bY,dH hx,dH hy,hv]
theorem aVj (hx:b5 n fr x=some a)(hy:b5 n fr y=some b)(hz:b5 n fr z=some c)(hv:aIu P t h a b c=some h'):bY P O ⟨d,.mapUpdate t x y z,ty,pos,aft,g⟩ (aI n fr) h=some (.sc undef,h'):=by simp[bY,dH hx,dH hy,dH hz,hv]
end
theorem aBy {E:Int→V}{n:Nat}{l:List Int}(h:l.length=n):(aX4 n).map (fun i=>E (l.getD i 0))=l.map E:=by
 apply aX5
 intro i
 simp only[aXB,List.getElem?_range']
 by_cases hi:i<n
 ·rw[aYK hi,aXl (by omega)]
  simp[aX7,aXl (show i<l.length by omega)]
 rw[aX1 (by simpa using hi),aX1 (by omega)];rfl
theorem aP2 {n:Nat}{a b:List Int}(ha:a.length=n)(hb:b.length=n):(aX4 n).all (fun i=>a.getD i 0 == b.getD i 0)=(a == b):=by
 rw[Bool.eq_iff_iff]
 simp only[aXp,aYI,beq_iff_eq]
 constructor
 ·intro h
  apply aY1 (by omega)
  intro i h1 h2
  have:=h i (by omega)
  simpa[aX7,aXl h1,aXl h2]using this
 rintro rfl i _;rfl
theorem aOU {P:Program}{t:TypeId}{ps ps':List (Nat×V)}{v:V}(h:ps=ps')(hb:yX P t ps'=some v):yX P t ps=some v:=by rw[h];exact hb
def dL (E:Int→V)(l:List Int)(r:List V):List V:=E (l.getD 0 0)::E (l.getD 1 0)::E (l.getD 2 0)::E (l.getD 3 0)::r
theorem aSW {E:Int→V}{l:List Int}(h:l.length=4)(r:List V):dL E l r=l.map E++r:=by
 rw[←aBy h];rfl
theorem aFe {E:Int→V}{l:List Int}(h:l.length=4):dL E l []=l.map E:=by rw[aSW h];simp
theorem uI {f:Nat→Nat}{k:IntKind}{l:List Int}{r:List V}:V.rns f (dL (eI k) l r)=dL (eI k) l (V.rns f r):=rfl
def ar8 (E:Int→V)(l:List Int)(r:List V):List V:=E (l.getD 0 0)::E (l.getD 1 0)::E (l.getD 2 0)::E (l.getD 3 0)::E (l.getD 4 0)::E (l.getD 5 0)::E (l.getD 6 0)::E (l.getD 7 0)::r
theorem aT6 {E:Int→V}{l:List Int}(h:l.length=8)(r:List V):ar8 E l r=l.map E++r:=by
 rw[←aBy h];rfl
theorem aSJ {E:Int→V}{l:List Int}(h:l.length=8):ar8 E l []=l.map E:=by rw[aT6 h];simp
theorem uF {f:Nat→Nat}{k:IntKind}{l:List Int}{r:List V}:V.rns f (ar8 (eI k) l r)=ar8 (eI k) l (V.rns f r):=rfl
def aH7 (E:Int→V)(l:List Int)(r:List V):List V:=E (l.getD 0 0)::E (l.getD 1 0)::E (l.getD 2 0)::E (l.getD 3 0)::E (l.getD 4 0)::E (l.getD 5 0)::E (l.getD 6 0)::E (l.getD 7 0)::E (l.getD 8 0)::E (l.getD 9 0)::E (l.getD 10 0)::E (l.getD 11 0)::E (l.getD 12 0)::E (l.getD 13 0)::E (l.getD 14 0)::E (l.getD 15 0)::E (l.getD 16 0)::E (l.getD 17 0)::E (l.getD 18 0)::E (l.getD 19 0)::r
theorem aRh {E:Int→V}{l:List Int}(h:l.length=20)(r:List V):aH7 E l r=l.map E++r:=by
 rw[←aBy h];rfl
theorem aSd {E:Int→V}{l:List Int}(h:l.length=20):aH7 E l []=l.map E:=by rw[aRh h];simp
theorem rN {f:Nat→Nat}{k:IntKind}{l:List Int}{r:List V}:V.rns f (aH7 (eI k) l r)=aH7 (eI k) l (V.rns f r):=rfl
def bG (E:Int→V)(l:List Int)(r:List V):List V:=E (l.getD 0 0)::E (l.getD 1 0)::E (l.getD 2 0)::E (l.getD 3 0)::E (l.getD 4 0)::E (l.getD 5 0)::E (l.getD 6 0)::E (l.getD 7 0)::E (l.getD 8 0)::E (l.getD 9 0)::E (l.getD 10 0)::E (l.getD 11 0)::E (l.getD 12 0)::E (l.getD 13 0)::E (l.getD 14 0)::E (l.getD 15 0)::E (l.getD 16 0)::E (l.getD 17 0)::E (l.getD 18 0)::E (l.getD 19 0)::E (l.getD 20 0)::E (l.getD 21 0)::E (l.getD 22 0)::E (l.getD 23 0)::E (l.getD 24 0)::E (l.getD 25 0)::E (l.getD 26 0)::E (l.getD 27 0)::E (l.getD 28 0)::E (l.getD 29 0)::E (l.getD 30 0)::E (l.getD 31 0)::r
theorem aMc {E:Int→V}{l:List Int}(h:l.length=32)(r:List V):bG E l r=l.map E++r:=by
 rw[←aBy h];rfl
theorem u9 {E:Int→V}{l:List Int}(h:l.length=32):bG E l []=l.map E:=by rw[aMc h];simp
theorem rP {f:Nat→Nat}{k:IntKind}{l:List Int}{r:List V}:V.rns f (bG (eI k) l r)=bG (eI k) l (V.rns f r):=rfl
theorem aSj {vn:Nat→Bool}{E:Int→V}{l:List Int}{r r':List V}(hr:V.les vn r r'):V.les vn (bG E l r) (bG E l r'):=by
 unfold bG
 repeat (first|exact hr|refine V.les_cons (V.le_refl _ _) ?_)
theorem aQC {h h':Hp}{E:Int→V}{l:List Int}{r r':List V}(hE: ∀x,Conv h h' (E x) (E x))(hr:Convs h h' r r'):Convs h h' (bG E l r) (bG E l r'):=by
 unfold bG
 repeat (first|exact hr|refine Convs.cons (hE _) ?_)
def lS (a b:List Int)(r:Bool):Bool:=((a.getD 0 0 == b.getD 0 0)&&((a.getD 1 0 == b.getD 1 0)&&((a.getD 2 0 == b.getD 2 0)&&((a.getD 3 0 == b.getD 3 0)&&((a.getD 4 0 == b.getD 4 0)&&((a.getD 5 0 == b.getD 5 0)&&((a.getD 6 0 == b.getD 6 0)&&((a.getD 7 0 == b.getD 7 0)&&((a.getD 8 0 == b.getD 8 0)&&((a.getD 9 0 == b.getD 9 0)&&((a.getD 10 0 == b.getD 10 0)&&((a.getD 11 0 == b.getD 11 0)&&((a.getD 12 0 == b.getD 12 0)&&((a.getD 13 0 == b.getD 13 0)&&((a.getD 14 0 == b.getD 14 0)&&((a.getD 15 0 == b.getD 15 0)&&((a.getD 16 0 == b.getD 16 0)&&((a.getD 17 0 == b.getD 17 0)&&((a.getD 18 0 == b.getD 18 0)&&((a.getD 19 0 == b.getD 19 0)&&((a.getD 20 0 == b.getD 20 0)&&((a.getD 21 0 == b.getD 21 0)&&((a.getD 22 0 == b.getD 22 0)&&((a.getD 23 0 == b.getD 23 0)&&((a.getD 24 0 == b.getD 24 0)&&((a.getD 25 0 == b.getD 25 0)&&((a.getD 26 0 == b.getD 26 0)&&((a.getD 27 0 == b.getD 27 0)&&((a.getD 28 0 == b.getD 28 0)&&((a.getD 29 0 == b.getD 29 0)&&((a.getD 30 0 == b.getD 30 0)&&((a.getD 31 0 == b.getD 31 0)&&r))))))))))))))))))))))))))))))))
theorem aLk {a b:List Int}(ha:a.length=32)(hb:b.length=32)(r:Bool):lS a b r=((a == b)&&r):=by
 have e:lS a b r=((aX4 32).all (fun i=>a.getD i 0 == b.getD i 0)&&r):=by
  simp only[lS,show aX4 32=[0,1,2,3,4,5,6,7,8,9,10,11,12,13,14,15,16,17,18,19,20,21,22,23,24,25,26,27,28,29,30,31]from rfl,aX6,List.all_nil,Bool.and_assoc,aYy,aYl]
 rw[e,aP2 ha hb]
def aIm (E:Int→V)(l:List Int)(r:List V):List V:=E (l.getD 0 0)::E (l.getD 1 0)::E (l.getD 2 0)::E (l.getD 3 0)::E (l.getD 4 0)::E (l.getD 5 0)::E (l.getD 6 0)::E (l.getD 7 0)::E (l.getD 8 0)::E (l.getD 9 0)::E (l.getD 10 0)::E (l.getD 11 0)::E (l.getD 12 0)::E (l.getD 13 0)::E (l.getD 14 0)::E (l.getD 15 0)::E (l.getD 16 0)::E (l.getD 17 0)::E (l.getD 18 0)::E (l.getD 19 0)::E (l.getD 20 0)::E (l.getD 21 0)::E (l.getD 22 0)::E (l.getD 23 0)::E (l.getD 24 0)::E (l.getD 25 0)::E (l.getD 26 0)::E (l.getD 27 0)::E (l.getD 28 0)::E (l.getD 29 0)::E (l.getD 30 0)::E (l.getD 31 0)::E (l.getD 32 0)::E (l.getD 33 0)::E (l.getD 34 0)::E (l.getD 35 0)::E (l.getD 36 0)::E (l.getD 37 0)::E (l.getD 38 0)::E (l.getD 39 0)::E (l.getD 40 0)::E (l.getD 41 0)::E (l.getD 42 0)::E (l.getD 43 0)::E (l.getD 44 0)::E (l.getD 45 0)::E (l.getD 46 0)::E (l.getD 47 0)::E (l.getD 48 0)::E (l.getD 49 0)::E (l.getD 50 0)::E (l.getD 51 0)::E (l.getD 52 0)::E (l.getD 53 0)::E (l.getD 54 0)::E (l.getD 55 0)::E (l.getD 56 0)::E (l.getD 57 0)::E (l.getD 58 0)::E (l.getD 59 0)::E (l.getD 60 0)::E (l.getD 61 0)::E (l.getD 62 0)::E (l.getD 63 0)::r
theorem aSb {E:Int→V}{l:List Int}(h:l.length=64)(r:List V):aIm E l r=l.map E++r:=by
 rw[←aBy h];rfl
theorem aRO {E:Int→V}{l:List Int}(h:l.length=64):aIm E l []=l.map E:=by rw[aSb h];simp
theorem rH {f:Nat→Nat}{k:IntKind}{l:List Int}{r:List V}:V.rns f (aIm (eI k) l r)=aIm (eI k) l (V.rns f r):=rfl
theorem aPX {P:Program}(k:IntKind)(n:Int):unV P .neg (.sc (.int k n))=some (.sc (.int k (k.wrap (0-n)))):=rfl
theorem aN4 {P:Program}{k:IntKind}(hk:k.signed=false)(n:Int):unV P .xor (.sc (.int k n))=some (.sc (.int k (bits .xor k k.max n))):=by
 cases k<;>first|rfl|cases hk
def mkl {α:Type}(by_:Nat)(z:α)(n c:Int):Option (List α):=if 0<n∧n≤c∧c.toNat*by_≤pJ then some (aXC n.toNat z)else none
theorem mkL {k1 k2:IntKind}{P:Program}{h h':Hp}{t e:TypeId}{ti:TI}{i:Nat}{α:Type}{E:α→V}{sz by_:Nat}{z:Value}{ag:Bool}{j c:Int}{y:α}(ht:aU P t=some ⟨.slice e,sz,by_,z⟩)(he:aU P e=some ti)(h1:1≤ti.bytes∧ti.size=1∧ti.zero.cells.size=1)(hz:ti.zero.cells.toList.map (V.soft∘fB)=[E y])(ho:(E y).one=true)(hag:cI ti.desc=ag){r:List α}
  (hm:mkl ti.bytes y j c=some r) (hl:h.length=i) (hh:h++[some ⟨e,r.map E⟩]=h'):aB1 P t (.sc (.int k1 j)) (.sc (.int k2 c)) h=some (.sl i 0 r.length 1 ag,h'):=by
 obtain⟨h2,h3,h4⟩:=h1
 unfold mkl at hm
 split at hm
 ·rename_i hlim
  injection hm with hm
  subst hm hl hh hag
  simp only[aB1,ht,he]
  rw[if_pos ⟨by omega,hlim.2.1,hlim.2.2,h2,by omega,by rw[h4,h3],by rw[hz];simp[ho]⟩,hz,if_neg (by omega)]
  simp only[h3]
  have: ∀n,(aXC n [E y]).flatten=(aXC n y).map E:=fun n=>by
   induction n with
   |zero=>rfl
   |succ n ih=>simp only[aX9,aYe,ih,aXF];rfl
  rw[this];simp
 cases hm
theorem zl {a b:Nat} (h:Nat.ble a b=true:=by rfl):a≤b:=Nat.le_of_ble_eq_true h
theorem zR {p:Prop} (h:p:=by first|rfl|(simp only[V.rn,V.rns,kF,kI]<;>rfl)):p:=h
theorem zG {N n:Nat}{fr fr':List (Nat×V)}{h h':Hp}(σ:List Nat)
  (hf:FLe noN (V.rn (sg σ h.length)) fr fr':=by repeat (first|exact FLe.nil|refine FLe.same rfl ?_|refine FLe.le rfl V.le_nil ?_|refine FLe.le rfl V.le_row ?_|refine FLe.le rfl (V.le_arr (fun _=>rfl)) ?_))
  (hh:HLe (sg σ h.length) h σ h':=by repeat (first|exact HLe.nil|refine HLe.dead ?_|refine HLe.live rfl V.les_nil rfl ?_|refine HLe.live rfl (aFs (fun _=>rfl) _) (all_map (fun _=>rfl) _) ?_|refine HLe.live rfl (aEk (fun _=>rfl) _) (rL (fun _=>rfl) _) ?_|refine HLe.live rfl (V.les_refl _ _) rfl ?_))
  (hσ:σ.take N=List.range N:=by rfl) (hlt:σ.all (fun b=>Nat.blt b h.length)=true:=by rfl) (hnd:ndB (lvs σ h')=true:=by rfl):Ghost N (aI n fr) h (aI n fr') h':=Ghost.rn σ hσ hlt hf hh hnd
end Go.Vm
