/- Texts of ours, joined. -/
import Derived.Test.YtopdhljncajmpaaGreatDoorQC1
import Derived.Test.YtopdhljncajmpaaGreatDoorRows
import Derived.Test.YtopdhljncajmpaaGreatDoorCards
import Derived.Test.YtopdhljncajmpaaGreatDoorTie
import Derived.WalkKit
import Derived.ProofKit
import Derived.OpenShut
import Derived.LaidSub
import Derived.Deep.DeepHandedRow
import Derived.Lib.LaidTab
import Derived.Laws.IdiomStrings
import Derived.ChangeKeysEq
open List renaming getElem?_eq_some_iff → a1K,getElem?_append_left → a1L,take_of_length_le → a1N,getElem?_eq_getElem → a1O,getElem?_cons_succ → a1Q,all_eq_true → a1R,eq_nil_of_length_eq_zero → a1S,getElem?_append_right → a1U,flatMap_cons → a1Z,drop_eq_nil_of_le → a10,mem_of_getElem? → a11,drop_eq_getElem_cons → a12,length_take → a13,getElem?_cons_zero → a14,length_append → a15,length_map → a16,getElem?_map → a17,replicate → a18,take_append_drop → a19,take_append_of_le_length → a2a,length_cons → a2b,drop_zero → a2d,mapM_cons → a2h,take_succ_eq_append_getElem → a2i,map_cons → a2j,length_drop → a2l,drop_drop → a2n,nodup_cons → a2p,append_nil → a2s,append_assoc → a2v,range → a2x,mem_cons → a2y,map_take → a2z,all_cons → a2A,ext_getElem? → a2C,mem_iff_getElem? → a2D,range'_succ → a2E,take_append → a2G,drop_append_of_le_length → a2H,getElem?_set_ne → a2I,length_nil → a2J,replicate_succ → a2L,nil_append → a2M,take_succ_cons → a2O,getElem?_drop → a2Q,flatten_cons → a2S,take_prefix → a2V,getElem?_eq_none → a2X,mem_map → a2Z,getElem?_toArray → a21,forIn_cons → a23,headD_cons → a24,set_append_left → a26,take_zero → a28,forIn_nil → a29,take_set_of_le → a3b,drop_succ_cons → a3c,flatMap_append → a3d,getElem?_take → a3e,map_drop → a3g,getElem?_inj → a3k,range'_zero → a3n,drop_append → a3r,cons_append → a3s,length → a3t,length_set → a3u,range' → a3v,mem_filter → a3w
open Option.some renaming injEq → a1M,inj → a2N
open Option renaming map_some → a1P,map_eq_some_iff → a1X,bind_eq_some_iff → a2k,bind_some → a2m,bind_eq_bind → a2w,pure_def → a2K,map → a3j
open Bool renaming false_eq_true → a1T,and_eq_true → a1V,or_eq_true → a2B,and_true → a2U,false_or → a3h
open Array renaming getElem?_eq_some_iff → a1W,forIn_toList → a3i,replicate → a3x
open Prod.mk renaming injEq → a1Y
open Nat renaming le_refl → a2c,add_mul → a2e,lt_or_ge → a2f,eq_of_beq_eq_true → a2g,lt_of_lt_of_le → a2o,le_of_ble_eq_true → a2q,min_eq_left → a2r,one_mul → a2t,add_one_sub_one → a2P,zero_add → a2R,beq → a2T,mod_eq_of_lt → a2W,add_comm → a2Y,mul_le_mul_right → a27,add_assoc → a3f,le_total → a3l,sub_zero → a3m,min_eq_right → a3o,div_eq_of_lt → a3p,mul_mod_left → a3q,div_one → a3y,blt → a3A
open Int renaming toNat_natCast → a2u,natCast_emod → a2F,le_refl → a3a
open Go.IntKind renaming signed → a3z,bits → a3B
set_option linter.unusedSimpArgs false
set_option linter.unusedVariables false
namespace Go.Vm
open Go
def Env.zero {P:Program}(hm:P.follows .mixedOrders=true):Env P:=
 {O:=fun _ _ _=>none,F:=fun _=>false,ok:=fun _ _ _ _ _ hh=>(by cases hh),still:=fun _ _ _ _ _ hf=>(by cases hf),mixed:=hm}
open Classical in
noncomputable def Env.one {P:Program}(hm:P.follows .mixedOrders=true){f:FuncId}{h:Hp}{xs:List V}{r:V}{h':Hp}(hc:Fn P f h xs r h')(g:FuncId→Bool)(hg: ∀k,g k=true→h'=h):Env P:=
 {
  O:=fun k h1 xs1=>if k=f∧h1=h∧xs1=xs then some (r,h')else none
  F:=g
  ok:=fun k h1 xs1 r1 h2 hh=>by
   dsimp only at hh
   split at hh
   ·rename_i he
    obtain⟨rfl,rfl,rfl⟩:=he
    simp only[a1M,a1Y]at hh
    obtain⟨rfl,rfl⟩:=hh
    exact hc
   cases hh
  still:=fun k h1 xs1 r1 h2 hk hh=>by
   dsimp only at hh
   split at hh
   ·rename_i he
    simp only[a1M,a1Y]at hh
    rw[←hh.2,he.2.1]
    exact hg k hk
   cases hh
  mixed:=hm}
open Classical in
noncomputable def Env.add {P:Program}(E:Env P){f:FuncId}{h:Hp}{xs:List V}{r:V}{h':Hp}(hc:Fn P f h xs r h')(g:FuncId→Bool)(hg: ∀k,g k=true→h'=h)(hE: ∀k,g k=true→E.F k=true):Env P:=
 {
  O:=fun k h1 xs1=>if k=f then(if h1=h∧xs1=xs then some (r,h')else none)else E.O k h1 xs1
  F:=g
  ok:=fun k h1 xs1 r1 h2 hh=>by
   dsimp only at hh
   split at hh
   ·rename_i he
    subst he
    split at hh
    ·rename_i he
     obtain⟨rfl,rfl⟩:=he
     simp only[a1M,a1Y]at hh
     obtain⟨rfl,rfl⟩:=hh
     exact hc
    cases hh
   exact E.ok k h1 xs1 r1 h2 hh
  still:=fun k h1 xs1 r1 h2 hk hh=>by
   dsimp only at hh
   split at hh
   ·split at hh
    ·rename_i he
     simp only[a1M,a1Y]at hh
     rw[←hh.2,he.1]
     exact hg k hk
    cases hh
   exact E.still k h1 xs1 r1 h2 (hE k hk) hh
  mixed:=E.mixed}
def a08 :FuncId→Bool:=fun _=>true
def Wk :List V→List V→Prop
 | [],[]=>True
 |a::s,b::t=>(b= .any∨a=b)∧Wk s t
 |_,_=>False
theorem Wk.len : ∀{s t:List V},Wk s t→s.length=t.length
 | [],[],_=>rfl
 |a::s,b::t,h=>by simp[Wk.len h.2]
 | [],_::_,h=>h.elim
 |_::_,[],h=>h.elim
section
variable {P:Program}{K:List V→Hp→Prop}{Q:Ex→List V→Hp→Prop}{s:List V}{h:Hp}{id i:Nat}
theorem Ex.then_mk (hk:K s h):Ex.then K Q .normal s h:=hk
theorem Ex.then_exit_mk (hk:Q (.exit i) s h):Ex.then K Q (.exit i) s h:=hk
theorem Ex.then_ret_mk (hk:Q .ret s h):Ex.then K Q .ret s h:=hk
theorem Ex.inBlock_mk (hk:Q .normal s h):Ex.inBlock id Q .normal s h:=hk
theorem Ex.inBlock_ret_mk (hk:Q .ret s h):Ex.inBlock id Q .ret s h:=hk
theorem Ex.inBlock_same_mk (hk:Q .normal s h):Ex.inBlock id Q (.exit id) s h:=by simpa[Ex.inBlock]using hk
theorem Ex.inBlock_other_mk (hi:(i == id)=false)(hk:Q (.exit i) s h):Ex.inBlock id Q (.exit i) s h:=by simp at hi;simpa[Ex.inBlock,hi]using hk
end
mutual
def V.rn (f:Nat→Nat):V→V
 | .ptr b off=> .ptr (f b) off
 | .sl b off n k ag=> .sl (f b) off n k ag
 | .mp b=> .mp (f b)
 | .agg cs=> .agg (V.rns f cs)
 | .tup cs=> .tup (V.rns f cs)
 | .sc v=> .sc v
 | .row nil k es=> .row nil k es
 | .eptr es i off=> .eptr es i off
 | .any=> .any
def V.rns (f:Nat→Nat):List V→List V
 | []=>[]
 |c::cs=>c.rn f::V.rns f cs
end
theorem V.rns_length (f:Nat→Nat): ∀cs:List V,(V.rns f cs).length=cs.length
 | []=>rfl
 |_::cs=>by simp[V.rns,V.rns_length f cs]
theorem V.rns_mem {f:Nat→Nat}{p:V→Bool}(hp: ∀c,p c=true→p (c.rn f)=true): ∀{cs:List V},(∀c∈cs,p c=true)→ ∀c∈V.rns f cs,p c=true
 | [],_,c,hc=>by simp[V.rns]at hc
 |d::cs,h,c,hc=>by
  simp only[V.rns,a2y]at hc
  rcases hc with rfl|hc
  ·exact hp d (h d (by simp))
  exact V.rns_mem hp (fun c hc=>h c (by simp[hc])) c hc
theorem V.rn_one (f:Nat→Nat)(c:V)(h:c.one=true):(c.rn f).one=true:=by
 cases c<;>first|exact h|rfl|(simp[V.one]at h)
theorem V.one_rn (f:Nat→Nat)(c:V)(h:(c.rn f).one=true):c.one=true:=by
 cases c<;>first|exact h|rfl|(simp[V.one,V.rn]at h)
theorem V.one_rns {f:Nat→Nat}: ∀{cs:List V},(∀c∈V.rns f cs,c.one=true)→ ∀c∈cs,c.one=true
 | [],_,c,hc=>by simp at hc
 |d::cs,h,c,hc=>by
  simp only[V.rns,a2y,forall_eq_or_imp]at h
  simp only[a2y]at hc
  rcases hc with rfl|hc
  ·exact V.one_rn f _ h.1
  exact V.one_rns h.2 c hc
section
variable {X:Nat→Prop}{M M':List (Option Nat)}{w:World}{f:Nat→Nat}
mutual
theorem VR.rn_to (hM: ∀b y,M[b]? =some y→M'[f b]? =some y): ∀(x:V)(v:Value),VR X M w x v→VR X M' w (x.rn f) v
 | .sc c,v,h=>by unfold V.rn;unfold VR at h ⊢; exact h
 | .any,v,h=>by unfold V.rn;unfold VR;trivial
 | .row nil k es,v,h=>by unfold V.rn;unfold VR at h ⊢; exact h
 | .eptr es i off,v,h=>by unfold V.rn;unfold VR at h ⊢; exact h
 | .ptr b off,v,h=>by
  unfold V.rn;unfold VR at h⊢
  obtain⟨g,sh,h1,h2⟩:=h
  exact⟨g,sh,hM _ _ h1,h2⟩
 | .mp b,v,h=>by
  unfold V.rn;unfold VR at h⊢
  obtain⟨g,h1,h2⟩:=h
  exact⟨g,hM _ _ h1,h2⟩
 | .sl b off n k ag,v,h=>by
  unfold V.rn;unfold VR at h⊢
  rcases h with⟨h1,h2⟩|⟨g,cap,e,sz,h1,h2⟩
  ·exact .inl ⟨hM _ _ h1,h2⟩
  exact .inr ⟨g,cap,e,sz,hM _ _ h1,h2⟩
 | .agg cs,v,h=>by
  unfold V.rn;unfold VR at h⊢
  obtain⟨vs,h1,h2⟩:=h
  exact⟨vs,h1,VCells.rn_to hM cs vs h2⟩
 | .tup cs,v,h=>by
  unfold V.rn;unfold VR at h⊢
  obtain⟨vs,h1,h2⟩:=h
  exact⟨vs,h1,VCells.rn_to hM cs vs h2⟩
theorem VCells.rn_to (hM: ∀b y,M[b]? =some y→M'[f b]? =some y): ∀(cs:List V)(vs:List Value),VCells X M w cs vs→VCells X M' w (V.rns f cs) vs
 | [],vs,h=>by unfold V.rns;unfold VCells at h ⊢; exact h
 |c::cs,vs,h=>by
  unfold V.rns;unfold VCells at h⊢
  obtain⟨v,rest,h1,h2,h3⟩:=h
  exact⟨v,rest,h1,VR.rn_to hM c v h2,VCells.rn_to hM cs rest h3⟩
end
mutual
theorem VR.rn_from (hM: ∀b y,M'[f b]? =some y→M[b]? =some y): ∀(x:V)(v:Value),VR X M' w (x.rn f) v→VR X M w x v
 | .sc c,v,h=>by unfold V.rn at h;unfold VR at h ⊢; exact h
 | .any,v,h=>by unfold VR;trivial
 | .row nil k es,v,h=>by unfold V.rn at h;unfold VR at h ⊢; exact h
 | .eptr es i off,v,h=>by unfold V.rn at h;unfold VR at h ⊢; exact h
 | .ptr b off,v,h=>by
  unfold V.rn at h;unfold VR at h⊢
  obtain⟨g,sh,h1,h2⟩:=h
  exact⟨g,sh,hM _ _ h1,h2⟩
 | .mp b,v,h=>by
  unfold V.rn at h;unfold VR at h⊢
  obtain⟨g,h1,h2⟩:=h
  exact⟨g,hM _ _ h1,h2⟩
 | .sl b off n k ag,v,h=>by
  unfold V.rn at h;unfold VR at h⊢
  rcases h with⟨h1,h2⟩|⟨g,cap,e,sz,h1,h2⟩
  ·exact .inl ⟨hM _ _ h1,h2⟩
  exact .inr ⟨g,cap,e,sz,hM _ _ h1,h2⟩
 | .agg cs,v,h=>by
  unfold V.rn at h;unfold VR at h⊢
  obtain⟨vs,h1,h2⟩:=h
  exact⟨vs,h1,VCells.rn_from hM cs vs h2⟩
 | .tup cs,v,h=>by
  unfold V.rn at h;unfold VR at h⊢
  obtain⟨vs,h1,h2⟩:=h
  exact⟨vs,h1,VCells.rn_from hM cs vs h2⟩
theorem VCells.rn_from (hM: ∀b y,M'[f b]? =some y→M[b]? =some y): ∀(cs:List V)(vs:List Value),VCells X M' w (V.rns f cs) vs→VCells X M w cs vs
 | [],vs,h=>by unfold V.rns at h;unfold VCells at h ⊢; exact h
 |c::cs,vs,h=>by
  unfold V.rns at h;unfold VCells at h⊢
  obtain⟨v,rest,h1,h2,h3⟩:=h
  exact⟨v,rest,h1,VR.rn_from hM c v h2,VCells.rn_from hM cs rest h3⟩
end
end
def Blk.rn (f:Nat→Nat)(B:Blk):Blk:=⟨B.e,V.rns f B.cells⟩
def rnH (f:Nat→Nat)(h:Hp):Hp:=h.map (a3j (Blk.rn f))
def sg (ρ:List Nat)(L i:Nat):Nat:=match ρ[i]? with
 |some b=>b
 |none=>L+(i-ρ.length)
def jX :Hp→List Nat→Hp→Hp
 |h,b::ρ,o::os=>jX (h.set b o) ρ os
 |h,_,_=>h
theorem aDq : ∀(h:Hp)(ρ:List Nat)(o:Hp),(jX h ρ o).length=h.length
 |h,b::ρ,x::o=>by rw[jX,aDq];simp
 |h,[],_=>by simp[jX]
 |h,_::_,[]=>by simp[jX]
theorem aDL : ∀{h:Hp}{ρ:List Nat}{o:Hp}{b:Nat},b∉ρ→(jX h ρ o)[b]? =h[b]?
 |h,c::ρ,x::o,b,hb=>by
  simp only[a2y,not_or]at hb
  rw[jX,aDL hb.2,a2I (fun e=>hb.1 e.symm)]
 |h,[],_,b,_=>by simp[jX]
 |h,_::_,[],b,_=>by simp[jX]
theorem aI2 : ∀{h:Hp}{ρ:List Nat}{o:Hp}{i b:Nat},ρ.Nodup→(∀b∈ρ,b<h.length)→ρ.length≤o.length→ρ[i]? =some b→(jX h ρ o)[b]? =o[i]?
 |h,c::ρ,x::o,0,b,hn,hl,_,hi=>by
  simp only[a14,a1M]at hi
  subst hi
  have hc:c<h.length:=hl c (by simp)
  rw[jX,aDL (a2p.1 hn).1]
  simp[hc]
 |h,c::ρ,x::o,i+1,b,hn,hl,hle,hi=>by
  simp only[a1Q]at hi
  rw[jX,aI2 (a2p.1 hn).2 (fun b hb=>by simpa using hl b (by simp[hb])) (by simpa using hle) hi]
  simp
 |h,[],_,i,b,_,_,_,hi=>by simp at hi
 |h,_::_,[],i,b,_,_,hle,_=>by simp at hle
theorem aOC {f:Nat→Nat}{h:Hp}{i:Nat}:(rnH f h)[i]? =(h[i]?).map (a3j (Blk.rn f)):=by simp[rnH]
theorem aGJ {f:Nat→Nat}{h:Hp}{i:Nat}{B:Blk}(hb:(rnH f h)[i]? =some (some B)): ∃C,h[i]? =some (some C)∧B=C.rn f:=by
 rw[aOC]at hb
 cases hi:h[i]? with
 |none=>rw[hi]at hb;cases hb
 |some o=>
  rw[hi]at hb
  cases o with
  |none=>simp at hb
  |some C=>simp at hb;exact⟨C,rfl,hb.symm⟩
def qF (hb:Hp)(ρ:List Nat)(hs':Hp):Hp:=jX hb ρ (rnH (sg ρ hb.length) hs')++(rnH (sg ρ hb.length) hs').drop ρ.length
theorem Fn.frame {P:Program}{f:FuncId}{hs hs' hb:Hp}{args:List V}{r:V}(hc:Fn P f hs args r hs')(ρ:List Nat)(hlen:ρ.length=hs.length)(hnd:ρ.Nodup)(hlt: ∀b∈ρ,b<hb.length)
  (hlend: ∀i b:Nat,ρ[i]? =some b→hb[b]? =(rnH (sg ρ hb.length) hs)[i]?):Fn P f hb (V.rns (sg ρ hb.length) args) (r.rn (sg ρ hb.length)) (qF hb ρ hs'):=by
 intro A M w vs H hargs
 have hσ: ∀i b:Nat,ρ[i]? =some b→sg ρ hb.length i=b:=fun i b hi=>by simp[sg,hi]
 have hσ': ∀i,ρ.length≤i→sg ρ hb.length i=hb.length+(i-ρ.length):=fun i hi=>by simp[sg,hi]
 generalize hsg:sg ρ hb.length=σ at *
 let Ms:List (Option Nat):=ρ.map fun b=>(M[b]?).getD none
 have hMs: ∀i b:Nat,ρ[i]? =some b→Ms[i]? =M[b]? :=by
  intro i b hi
  have hb':b<M.length:=by rw[H.len];exact hlt b (a11 hi)
  simp only[Ms,a17,hi,a1P]
  rw[a1O hb']
  rfl
 have hMslen:Ms.length=hs.length:=by simp[Ms,hlen]
 have hfrom: ∀b y,M[σ b]? =some y→Ms[b]? =some y:=by
  intro b y hy
  rcases a2f b ρ.length with hl|hl
  ·have hi:ρ[b]? =some ρ[b]:=a1O hl
   rw[hMs b _ hi,←hσ b _ hi];exact hy
  rw[hσ' b hl]at hy
  have:=(a1K.1 hy).1
  rw[H.len]at this;omega
 let A':Nat→Prop:=fun g=>A g∨ ∃b B,b∉ρ∧hb[b]? =some (some B)∧M[b]? =some (some g)
 have hin: ∀{i:Nat}{B:Blk},hs[i]? =some (some B)→ ∃b,ρ[i]? =some b∧hb[b]? =some (some (B.rn σ))∧Ms[i]? =M[b]? :=by
  intro i B hi
  have hl:i<ρ.length:=by rw[hlen];exact(a1K.1 hi).1
  have hr:ρ[i]? =some ρ[i]:=a1O hl
  refine⟨_,hr, ?_,hMs i _ hr⟩
  rw[hlend i _ hr,aOC,hi];rfl
 have hliveS: ∀g,c8 Ms hs g→c8 M hb g:=by
  rintro g ⟨i,B,hi,hm⟩
  obtain⟨b,_,hb1,hb2⟩:=hin hi
  exact⟨b,_,hb1,by rw[←hb2];exact hm⟩
 have hX1: ∀g,Xs A' Ms hs g→Xs A M hb g:=by
  rintro g ((ha|⟨b,B,_,hb1,hb2⟩)|hl)
  ·exact .inl ha
  ·exact .inr ⟨b,B,hb1,hb2⟩
  exact .inr (hliveS g hl)
 have hX2: ∀g,Xs A M hb g→Xs A' Ms hs g:=by
  rintro g (ha|⟨b,B,hb1,hb2⟩)
  ·exact .inl (.inl ha)
  by_cases hm:b∈ρ
  ·obtain⟨i,hi⟩:=a2D.1 hm
   have he:=hlend i b hi
   rw[hb1]at he
   obtain⟨C,hC,_⟩:=aGJ he.symm
   exact .inr ⟨i,C,hC,by rw[hMs i b hi];exact hb2⟩
  exact .inl (.inr ⟨b,B,hm,hb1,hb2⟩)
 have hout: ∀{b:Nat}{B:Blk}{g:Nat},b∉ρ→hb[b]? =some (some B)→M[b]? =some (some g)→ ¬c8 Ms hs g:=by
  rintro b B g hb0 hb1 hb2 ⟨i,C,hi,hm⟩
  obtain⟨c,hc0,hc1,hc2⟩:=hin hi
  have:=H.inj b c B _ g hb1 hc1 hb2 (by rw[←hc2];exact hm)
  subst this
  exact hb0 (a11 hc0)
 have HS:HR A' Ms hs w:=by
  refine⟨hMslen, ?_, ?_, ?_,H.glob.avoid fun g _ hx=>hX1 g hx⟩
  ·rintro g (ha|⟨b,B,_,hb1,hb2⟩)
   ·exact H.alt g ha
   exact H.lt (.inr ⟨b,B,hb1,hb2⟩)
  ·intro i B hi
   obtain⟨b,hb0,hb1,hb2⟩:=hin hi
   obtain⟨h1,h2⟩:=H.blk b _ hb1
   refine⟨V.one_rns h1, ?_⟩
   rcases h2 with⟨hn,hc0⟩|⟨g,cs,hg,hA,hh,hle,hcs⟩
   ·refine .inl ⟨by rw[hb2];exact hn, ?_⟩
    have:=congrArg a3t hc0
    simp only[Blk.rn,V.rns_length,a2J]at this
    exact a1S this
   refine .inr ⟨g,cs,by rw[hb2];exact hg, ?_,by simpa[Blk.rn,V.rns_length]using hh, ?_, ?_⟩
   ·rintro(ha|⟨c,C,hc0,hc1,hc2⟩)
    ·exact hA ha
    have:=H.inj b c _ C g hb1 hc1 hg hc2
    subst this
    exact hc0 (a11 hb0)
   ·simpa[Blk.rn,V.rns_length]using hle
   have hcs':VCells (Xs A M hb) M w (V.rns σ B.cells) (cs.toList.take B.cells.length):=by simpa[Blk.rn,V.rns_length]using hcs
   exact(VCells.rn_from hfrom _ _ hcs').avoid (fun g _ hx=>hX1 g hx)
  intro i j B C g hi hj mi mj
  obtain⟨b,hb0,hb1,hb2⟩:=hin hi
  obtain⟨c,hc0,hc1,hc2⟩:=hin hj
  have:=H.inj b c _ _ g hb1 hc1 (by rw[←hb2];exact mi) (by rw[←hc2];exact mj)
  subst this
  have hil:=(a1K.1 hb0).1
  exact(a3k hil hnd).1 (hb0.trans hc0.symm)
 have hargsS:VCells (Xs A' Ms hs) Ms w args vs:=(VCells.rn_from hfrom _ _ hargs).avoid (fun g _ hx=>hX1 g hx)
 refine(hc A' Ms w vs HS hargsS).mono fun v w' ⟨Ms',G,hv⟩=> ?_
 obtain⟨Mn,rfl⟩:=G.pre
 have hMnlen:hs'.length=ρ.length+Mn.length:=by rw[←G.hr.len];simp[Ms]
 have hto: ∀b y,(Ms++Mn)[b]? =some y→(M++Mn)[σ b]? =some y:=by
  intro b y hy
  rcases a2f b ρ.length with hl|hl
  ·have hi:ρ[b]? =some ρ[b]:=a1O hl
   rw[a1L (by rw[hMslen,←hlen];exact hl),hMs b _ hi]at hy
   rw[hσ b _ hi,a1L (by rw[H.len];exact hlt _ (a11 hi))]
   exact hy
  rw[a1U (by rw[hMslen,←hlen];exact hl),hMslen,←hlen]at hy
  rw[hσ' b hl,a1U (by rw[H.len];omega),H.len,show hb.length+(b-ρ.length)-hb.length=b-ρ.length by omega]
  exact hy
 have hlentlen:(jX hb ρ (rnH σ hs')).length=hb.length:=aDq _ _ _
 have hrnlen:(rnH σ hs').length=hs'.length:=by simp[rnH]
 have hcase: ∀{b:Nat}{B:Blk},(qF hb ρ hs')[b]? =some (some B)→(b∉ρ∧hb[b]? =some (some B))∨ ∃i C,hs'[i]? =some (some C)∧b=σ i∧B=C.rn σ∧(M++Mn)[b]? =(Ms++Mn)[i]? :=by
  intro b B hb1
  unfold qF at hb1
  rw[hsg]at hb1
  rcases a2f b hb.length with hl|hl
  ·rw[a1L (by rw[hlentlen];exact hl)]at hb1
   by_cases hm:b∈ρ
   ·obtain⟨i,hi⟩:=a2D.1 hm
    rw[aI2 hnd hlt (by rw[hrnlen];omega) hi]at hb1
    obtain⟨C,hC,hB⟩:=aGJ hb1
    have hil:=(a1K.1 hi).1
    refine .inr ⟨i,C,hC,(hσ i b hi).symm,hB, ?_⟩
    rw[a1L (by rw[H.len];exact hl),a1L (by rw[hMslen,←hlen];exact hil),hMs i b hi]
   rw[aDL hm]at hb1
   exact .inl ⟨hm,hb1⟩
  rw[a1U (by rw[hlentlen];exact hl),hlentlen,a2Q]at hb1
  obtain⟨C,hC,hB⟩:=aGJ hb1
  refine .inr ⟨_,C,hC, ?_,hB, ?_⟩
  ·rw[hσ' _ (by omega)];omega
  rw[a1U (by rw[H.len];exact hl),a1U (by rw[hMslen,←hlen];omega),H.len,hMslen,←hlen]
  congr 1;omega
 have hlive: ∀g,g<w.heap.size→c8 (M++Mn) (qF hb ρ hs') g→c8 M hb g:=by
  rintro g hg ⟨b,B,hb1,hb2⟩
  rcases hcase hb1 with⟨hb0,hb3⟩|⟨i,C,hC,rfl,rfl,he⟩
  ·refine⟨b,B,hb3, ?_⟩
   rw[a1L (by rw[H.len];exact(a1K.1 hb3).1)]at hb2
   exact hb2
  exact hliveS g (G.live g hg ⟨i,C,hC,by rw[←he];exact hb2⟩)
 have hX3: ∀g,Xs A (M++Mn) (qF hb ρ hs') g→Xs A' (Ms++Mn) hs' g:=by
  rintro g (ha|⟨b,B,hb1,hb2⟩)
  ·exact .inl (.inl ha)
  rcases hcase hb1 with⟨hb0,hb3⟩|⟨i,C,hC,rfl,rfl,he⟩
  ·rw[a1L (by rw[H.len];exact(a1K.1 hb3).1)]at hb2
   exact .inl (.inr ⟨b,B,hb0,hb3,hb2⟩)
  exact .inr ⟨i,C,hC,by rw[←he];exact hb2⟩
 refine⟨M++Mn,⟨⟨Mn,rfl⟩,⟨?_, ?_, ?_, ?_,G.hr.glob.avoid fun g _ hx=>hX3 g hx⟩,G.ext.mono (fun g _ hl=>hliveS g hl),hlive⟩,(VR.rn_to hto _ _ hv).avoid (fun g _ hx=>hX3 g hx)⟩
 ·unfold qF
  rw[hsg]
  simp only[a15,a2l,hlentlen,hrnlen,H.len]
  omega
 ·exact fun g hg=>a2o (H.alt g hg) G.ext.size
 ·intro b B hb1
  rcases hcase hb1 with⟨hb0,hb3⟩|⟨i,C,hC,rfl,rfl,he⟩
  ·have hbl:b<M.length:=by rw[H.len];exact(a1K.1 hb3).1
   obtain⟨h1,⟨hn,hc0⟩|⟨g,cs,hg,hA,hh,hle,hcs⟩⟩:=H.blk b B hb3
   ·exact⟨h1,.inl ⟨by rw[a1L hbl];exact hn,hc0⟩⟩
   have hgs:g<w.heap.size:=H.lt (.inr ⟨b,B,hb3,hg⟩)
   refine⟨h1,.inr ⟨g,cs,by rw[a1L hbl];exact hg,hA, ?_,hle, ?_⟩⟩
   ·exact hh.to (G.ext.block g hgs (hout hb0 hb3 hg))
   exact VCells.ext G.ext ⟨Mn,rfl⟩ (fun g _ hl=> .inr (hliveS g hl)) (fun g hg hx=>hx.elim .inl (fun hl=> .inr (hlive g hg hl))) _ _ hcs
  obtain⟨h1,h2⟩:=G.hr.blk i C hC
  refine⟨V.rns_mem (V.rn_one σ) h1, ?_⟩
  rcases h2 with⟨hn,hc0⟩|⟨g,cs,hg,hA,hh,hle,hcs⟩
  ·refine .inl ⟨by rw[he];exact hn, ?_⟩
   simp[Blk.rn,hc0,V.rns]
  refine .inr ⟨g,cs,by rw[he];exact hg,fun ha=>hA (.inl ha),by simpa[Blk.rn,V.rns_length]using hh, ?_, ?_⟩
  ·simpa[Blk.rn,V.rns_length]using hle
  have:=(VCells.rn_to hto _ _ hcs).avoid (fun g _ hx=>hX3 g hx)
  simpa[Blk.rn,V.rns_length]using this
 intro b c B C g hb1 hc1 mb mc
 rcases hcase hb1 with⟨hb0,hb3⟩|⟨i,D,hD,rfl,rfl,he⟩<;>rcases hcase hc1 with⟨hc0,hc3⟩|⟨j,E,hE,rfl,rfl,he'⟩
 ·rw[a1L (by rw[H.len];exact(a1K.1 hb3).1)]at mb
  rw[a1L (by rw[H.len];exact(a1K.1 hc3).1)]at mc
  exact H.inj b c B C g hb3 hc3 mb mc
 ·rw[a1L (by rw[H.len];exact(a1K.1 hb3).1)]at mb
  rw[he']at mc
  obtain⟨_,⟨hn,_⟩|⟨g',cs,hg,hA,_⟩⟩:=G.hr.blk j E hE
  ·rw[mc]at hn;cases hn
  rw[mc]at hg;injection hg with hg;injection hg with hg;subst hg
  exact absurd (.inr ⟨b,B,hb0,hb3,mb⟩) hA
 ·rw[a1L (by rw[H.len];exact(a1K.1 hc3).1)]at mc
  rw[he]at mb
  obtain⟨_,⟨hn,_⟩|⟨g',cs,hg,hA,_⟩⟩:=G.hr.blk i D hD
  ·rw[mb]at hn;cases hn
  rw[mb]at hg;injection hg with hg;injection hg with hg;subst hg
  exact absurd (.inr ⟨c,C,hc0,hc3,mc⟩) hA
 rw[G.hr.inj i j D E g hD hE (by rw[←he];exact mb) (by rw[←he'];exact mc)]
def eV :List (Nat×V)→Nat→Option V
 | [],_=>none
 |(u,x)::r,t=>bif a2T u t then some x else eV r t
def aG (n:Nat)(fr:List (Nat×V)):List V:=(a2x n).map fun t=>(eV fr t).getD .any
theorem n9 (n:Nat)(fr:List (Nat×V)):(aG n fr).length=n:=by simp[aG]
theorem y9 {n t:Nat}{fr:List (Nat×V)}(h:t<n):(aG n fr)[t]? =some ((eV fr t).getD .any):=by simp[aG,h]
def bX (n:Nat)(fr:List (Nat×V)):Operand→Option V
 | .tmp t=>bif a3A t n then eV fr t else none
 | .const v=>some (ofValue v)
 | .func f=>some (.sc (.func (.func f) #[] #[]))
 | .global g=>(GT g).map fun e=> .eptr [e] 0 0
theorem cV {n:Nat}{fr:List (Nat×V)}{o:Operand}{x:V}(h:bX n fr o=some x):ev (aG n fr) o=some x:=by
 cases o with
 |tmp t=>
  simp only[bX]at h
  cases hb:a3A t n with
  |false=>rw[hb]at h;cases h
  |true=>
   rw[hb]at h
   simp only[cond_true]at h
   have ht:t<n:=by have h2:Nat.ble (t+1) n=true:=hb;exact a2q h2
   simp only[ev]
   rw[y9 ht,h];rfl
 |const v=>exact h
 |func f=>exact h
 |global g=>exact h
theorem aEE {n t:Nat}{fr:List (Nat×V)}{x:V}:fU (aG n fr) (some t) x=aG n ((t,x)::fr):=by
 simp only[fU]
 apply a2C
 intro i
 by_cases hi:i<n
 ·rw[y9 hi]
  by_cases ht:t=i
  ·subst ht
   rw[List.getElem?_set_self (by rw[n9];exact hi)]
   simp[eV]
  rw[a2I ht,y9 hi]
  have:a2T t i=false:=by cases hb:a2T t i with
   |false=>rfl
   |true=>exact absurd (a2g hb) ht
  simp[eV,this]
 rw[a2X (by rw[a3u,n9];omega),a2X (by rw[n9];omega)]
def AB (P:Program)(N:Nat)(c:Code)(Q:Ex→List V→Hp→Prop)(s:List V)(h:Hp):Prop:=
 ∀(A:Nat→Prop)(M0 M:List (Option Nat))(h0:Hp)(w0:World)(a:Act)(w:World),h0.length=N→M0.length=N→Grow A M0 h0 w0 M h w→Rel A M s h a w→
  c.wp P (fun e a' w'=> ∃x s' h' M',e=Ex.toExit x∧Q x s' h'∧Grow A M0 h0 w0 M' h' w'∧Rel A M' s' h' a' w') a w
section
variable {P:Program}{N:Nat}{Q Q':Ex→List V→Hp→Prop}{s s':List V}{h h':Hp}
theorem AB.of {c:Code}(hh:AW P c Q s h):AB P N c Q s h:=fun A M0 M h0 w0 a w _ _ G R=>
 Code.wp_mono (fun e a' w' ⟨x,s',h',M',h1,h2,h3,h4⟩=>⟨x,s',h',M',h1,h2,G.trans h3,h4⟩) (hh A M a w R)
theorem AB.mono {c:Code}(hh:AB P N c Q s h)(hq: ∀x s h,Q x s h→Q' x s h):AB P N c Q' s h:=fun A M0 M h0 w0 a w hN hM G R=>
 Code.wp_mono (fun e a' w' ⟨x,s',h',M',h1,h2,h3,h4⟩=>⟨x,s',h',M',h1,hq _ _ _ h2,h3,h4⟩) (hh A M0 M h0 w0 a w hN hM G R)
theorem AB.skip (hq:Q .normal s h):AB P N .skip Q s h:=AB.of (AW.skip hq)
theorem AB.exit {id:Nat}(hq:Q (.exit id) s h):AB P N (.exit id) Q s h:=AB.of (AW.exit hq)
theorem AB.ret (hq:Q .ret s h):AB P N .ret Q s h:=AB.of (AW.ret hq)
theorem AB.seq {c d:Code}(hh:AB P N c (Ex.then (AB P N d Q) Q) s h):AB P N (.seq c d) Q s h:=by
 intro A M0 M h0 w0 a w hN hM G R
 refine wp_seq (Code.wp_mono (fun e a' w' ⟨x,s1,h1,M1,he,hq,G1,R1⟩=> ?_) (hh A M0 M h0 w0 a w hN hM G R))
 subst he
 cases x with
 |normal=>exact hq A M0 M1 h0 w0 a' w' hN hM G1 R1
 |exit id=>exact⟨.exit id,s1,h1,M1,rfl,hq,G1,R1⟩
 |ret=>exact⟨.ret,s1,h1,M1,rfl,hq,G1,R1⟩
theorem AB.cond {c:Operand}{x y:Code}{t:Bool}(hc:ev s c=some (.sc (.bool t)))(h1:t=true→AB P N x Q s h)(h2:t=false→AB P N y Q s h):AB P N (.cond c x y) Q s h:=by
 intro A M0 M h0 w0 a w hN hM G R
 have hv:=cH R.hr.glob R.sr hc
 unfold VR at hv
 refine wp_cond hv ?_
 cases t with
 |true=>exact h1 rfl A M0 M h0 w0 a w hN hM G R
 |false=>exact h2 rfl A M0 M h0 w0 a w hN hM G R
theorem AB.block {id:Nat}{c:Code}(hh:AB P N c (Ex.inBlock id Q) s h):AB P N (.block id c) Q s h:=by
 intro A M0 M h0 w0 a w hN hM G R
 refine wp_block (Code.wp_mono (fun e a' w' ⟨x,s1,h1,M1,he,hq,G,R1⟩=> ?_) (hh A M0 M h0 w0 a w hN hM G R))
 subst he
 cases x with
 |normal=>exact⟨.normal,s1,h1,M1,rfl,hq,G,R1⟩
 |exit i=>
  show Exit.inBlock id _ (.exit i) a' w'
  simp only[Exit.inBlock]
  simp only[Ex.inBlock]at hq
  split
  ·rename_i hi;rw[if_pos hi]at hq;exact⟨.normal,s1,h1,M1,rfl,hq,G,R1⟩
  rename_i hi;rw[if_neg hi]at hq;exact⟨.exit i,s1,h1,M1,rfl,hq,G,R1⟩
 |ret=>exact⟨.ret,s1,h1,M1,rfl,hq,G,R1⟩
theorem AB.loop {c:Code}(I:Nat→List V→Hp→Prop){n:Nat}(h0:I n s h)(round: ∀n s h,I n s h→AB P N c (Ex.then (fun s' h'=> ∃m,m<n∧I m s' h') Q) s h):AB P N (.loop c) Q s h:=by
 intro A M0 M hh0 w0 a w hN hM G R
 let p:Act→World→Nat→Prop:=fun a' w' k=> ∃s' h' M',I k s' h'∧Grow A M0 hh0 w0 M' h' w'∧Rel A M' s' h' a' w'
 let μ:Act→World→Nat:=fun a' w'=>Classical.epsilon fun k=>p a' w' k∧ ∀j,p a' w' j→k≤j
 have hμ: ∀a' w',(∃k,p a' w' k)→p a' w' (μ a' w')∧ ∀j,p a' w' j→μ a' w'≤j:=fun a' w' hh=>Classical.epsilon_spec (a0P hh)
 refine wp_loop (fun a' w'=> ∃k,p a' w' k) μ ⟨n,s,h,M,h0,G,R⟩ ?_
 intro a1 w1 hI
 obtain⟨s1,h1,M1,hIk,G1,R1⟩:=(hμ a1 w1 hI).1
 refine Code.wp_mono (fun e a2 w2 ⟨x,s2,h2,M2,he,hq,G2,R2⟩=> ?_) (round _ s1 h1 hIk A M0 M1 hh0 w0 a1 w1 hN hM G1 R1)
 subst he
 cases x with
 |normal=>
  obtain⟨m,hm,hIm⟩:=hq
  have hex2:p a2 w2 m:=⟨s2,h2,M2,hIm,G2,R2⟩
  exact⟨⟨m,hex2⟩,Nat.lt_of_le_of_lt ((hμ a2 w2 ⟨m,hex2⟩).2 m hex2) hm⟩
 |exit id=>exact⟨.exit id,s2,h2,M2,rfl,hq,G2,R2⟩
 |ret=>exact⟨.ret,s2,h2,M2,rfl,hq,G2,R2⟩
theorem AB.loopN {c:Code}(I:Nat→List V→Hp→Prop){n:Nat}(h0:I n s h)(r0: ∀s h,¬I 0 s h)(round: ∀n s h,I (n+1) s h→AB P N c (Ex.then (I n) Q) s h):AB P N (.loop c) Q s h:=by
 refine AB.loop I h0 fun n s h hI=> ?_
 cases n with
 |zero=>exact absurd hI (r0 s h)
 |succ n=>
  refine(round n s h hI).mono fun x s h hq=> ?_
  cases x with
  |normal=>exact⟨n,Nat.lt_succ_self n,hq⟩
  |exit id=>exact hq
  |ret=>exact hq
end
mutual
def V.le (vn:Nat→Bool):V→V→Prop
 |x,.any=>True
 | .row a k es,.row b k' es'=>(b=none∨a=b)∧es=es'∧(k=k'∨es=[])
 | .row a _ es,.sl b off n _ _=>a=some true∧es=[]∧vn b=true∧off=0∧n=0
 | .agg cs,.agg ds=>V.les vn cs ds
 | .tup cs,.tup ds=>V.les vn cs ds
 |x,y=>x=y
def V.les (vn:Nat→Bool):List V→List V→Prop
 | [],[]=>True
 |c::cs,d::ds=>V.le vn c d∧V.les vn cs ds
 |_,_=>False
end
def wP :Nat→Bool:=fun _=>false
mutual
theorem V.le_refl (vn:Nat→Bool): ∀x:V,V.le vn x x
 | .any=>by unfold V.le;trivial
 | .row a k es=>by unfold V.le;exact⟨.inr rfl,rfl,.inl rfl⟩
 | .agg cs=>by unfold V.le;exact V.les_refl vn cs
 | .tup cs=>by unfold V.le;exact V.les_refl vn cs
 | .sc _=>by unfold V.le;rfl
 | .ptr _ _=>by unfold V.le;rfl
 | .sl _ _ _ _ _=>by unfold V.le;rfl
 | .eptr _ _ _=>by unfold V.le;rfl
 | .mp _=>by unfold V.le;rfl
theorem V.les_refl (vn:Nat→Bool): ∀cs:List V,V.les vn cs cs
 | []=>by unfold V.les;trivial
 |c::cs=>by unfold V.les;exact⟨V.le_refl vn c,V.les_refl vn cs⟩
end
theorem V.le_nil {vn:Nat→Bool}{a:Option Bool}{k k':Nat}:V.le vn (.row a k []) (.row none k' []):=by unfold V.le;exact⟨.inl rfl,rfl,.inr rfl⟩
theorem V.le_virt {vn:Nat→Bool}{k k' b:Nat}{ag:Bool}(hb:vn b=true):V.le vn (.row (some true) k []) (.sl b 0 0 k' ag):=by unfold V.le;exact⟨rfl,rfl,hb,rfl,rfl⟩
section
variable {X:Nat→Prop}{M:List (Option Nat)}{w:World}{vn:Nat→Bool}
mutual
theorem V.le_sound (hvn: ∀b,vn b=true→M[b]? =some none): ∀(x y:V)(v:Value),V.le vn x y→VR X M w x v→VR X M w y v
 |x,.any,v,_,_=>by unfold VR;trivial
 | .row a k es,.row b k' es',v,h,hv=>by
  unfold V.le at h
  obtain⟨h1,rfl,h3⟩:=h
  unfold VR at hv⊢
  obtain⟨ad,cap,e1,e2,e3,e4,e5,e6⟩:=hv
  refine⟨ad,cap,e1,e2,e3, ?_, ?_, ?_⟩
  ·rcases h1 with rfl|rfl
   ·intro b hb;cases hb
   exact e4
  ·rcases h3 with rfl|rfl
   ·exact e5
   simp
  rcases h3 with rfl|rfl
  ·exact e6
  exact fun hne=>absurd rfl hne
 | .row a k es,.sl b off n k' ag,v,h,hv=>by
  unfold V.le at h
  obtain⟨rfl,rfl,h3,rfl,rfl⟩:=h
  unfold VR at hv⊢
  obtain⟨ad,cap,e1,e2,e3,e4,e5,e6⟩:=hv
  have hn:ad=none:=e4 true rfl
  cases ad with
  |some ad=>simp at hn
  |none=>
   have:=e3 rfl
   subst this
   exact .inl ⟨hvn b h3,e1,rfl,rfl⟩
 | .agg cs,.agg ds,v,h,hv=>by
  unfold V.le at h
  unfold VR at hv⊢
  obtain⟨vs,e1,e2⟩:=hv
  exact⟨vs,e1,V.les_sound hvn cs ds vs h e2⟩
 | .tup cs,.tup ds,v,h,hv=>by
  unfold V.le at h
  unfold VR at hv⊢
  obtain⟨vs,e1,e2⟩:=hv
  exact⟨vs,e1,V.les_sound hvn cs ds vs h e2⟩
 | .sc c,y,v,h,hv=>by
  cases y<;>first|(unfold VR;trivial)|(unfold V.le at h;injection h with h;subst h;exact hv)|(unfold V.le at h;cases h)
 | .mp _,y,v,h,hv=>by
  cases y<;>first|(unfold VR;trivial)|(unfold V.le at h;injection h with h;subst h;exact hv)|(unfold V.le at h;cases h)
 | .ptr _ _,y,v,h,hv=>by
  cases y<;>first|(unfold VR;trivial)|(unfold V.le at h;injection h with h1 h2;subst h1 h2;exact hv)|(unfold V.le at h;cases h)
 | .sl _ _ _ _ _,y,v,h,hv=>by
  cases y<;>first|(unfold VR;trivial)|(unfold V.le at h;injection h with h1 h2 h3 h4 h5;subst h1 h2 h3 h4 h5;exact hv)|(unfold V.le at h;cases h)
 | .eptr _ _ _,y,v,h,hv=>by
  cases y<;>first|(unfold VR;trivial)|(unfold V.le at h;injection h with h1 h2 h3;subst h1 h2 h3;exact hv)|(unfold V.le at h;cases h)
theorem V.les_sound (hvn: ∀b,vn b=true→M[b]? =some none): ∀(cs ds:List V)(vs:List Value),V.les vn cs ds→VCells X M w cs vs→VCells X M w ds vs
 | [],[],vs,_,hv=>hv
 |c::cs,d::ds,vs,h,hv=>by
  unfold V.les at h
  unfold VCells at hv⊢
  obtain⟨v,rest,e1,e2,e3⟩:=hv
  exact⟨v,rest,e1,V.le_sound hvn c d v h.1 e2,V.les_sound hvn cs ds rest h.2 e3⟩
end
end
def Ghost (N:Nat)(s:List V)(h:Hp)(s':List V)(h':Hp):Prop:=
 ∀(A:Nat→Prop)(M:List (Option Nat))(a:Act)(w:World),N≤M.length→Rel A M s h a w→
  ∃M',M'.take N=M.take N∧Rel A M' s' h' a w∧ ∀g,c8 M' h' g→c8 M h g
theorem AB.ghost {P:Program}{N:Nat}{c:Code}{Q:Ex→List V→Hp→Prop}{s s':List V}{h h':Hp}(hg:Ghost N s h s' h')(hh:AB P N c Q s' h'):AB P N c Q s h:=by
 intro A M0 M h0 w0 a w hN hM G R
 obtain⟨t,ht⟩:=G.pre
 have hle:N≤M.length:=by rw[←ht];simp[hM]
 obtain⟨M',h1,h2,h3⟩:=hg A M a w hle R
 refine hh A M0 M' h0 w0 a w hN hM ⟨?_,h2.hr,G.ext,fun g hg hl=>G.live g hg (h3 g hl)⟩ h2
 have:M0=M'.take N:=by rw[h1,←ht,←hM];simp
 rw[this]
 exact a2V _ _
def FLe (vn:Nat→Bool)(g:V→V)(fr:List (Nat×V)):List (Nat×V)→Prop
 | []=>True
 |(t,y)::r=>(∃x,eV fr t=some x∧V.le vn x (g y))∧FLe vn g fr r
theorem FLe.nil {vn:Nat→Bool}{g:V→V}{fr:List (Nat×V)}:FLe vn g fr []:=trivial
theorem FLe.same {vn:Nat→Bool}{g:V→V}{fr r:List (Nat×V)}{t:Nat}{y:V}(h:eV fr t=some (g y))(k:FLe vn g fr r):FLe vn g fr ((t,y)::r):=⟨⟨_,h,V.le_refl _ _⟩,k⟩
theorem FLe.le {vn:Nat→Bool}{g:V→V}{fr r:List (Nat×V)}{t:Nat}{x y:V}(h:eV fr t=some x)(hl:V.le vn x (g y))(k:FLe vn g fr r):FLe vn g fr ((t,y)::r):=⟨⟨_,h,hl⟩,k⟩
theorem FLe.get {vn:Nat→Bool}{g:V→V}{fr:List (Nat×V)}: ∀{fr':List (Nat×V)},FLe vn g fr fr'→ ∀{t:Nat}{y:V},eV fr' t=some y→ ∃x,eV fr t=some x∧V.le vn x (g y)
 | [],_,t,y,hy=>by cases hy
 |(u,z)::r,h,t,y,hy=>by
  simp only[eV]at hy
  cases hb:a2T u t with
  |true=>
   rw[hb]at hy
   have:=a2g hb
   subst this
   simp only[cond_true,a1M]at hy
   subst hy
   exact h.1
  |false=>rw[hb]at hy;exact h.2.get hy
theorem aFJ {X:Nat→Prop}{M M':List (Option Nat)}{w:World}{n:Nat}{fr fr':List (Nat×V)}{a:Act}{X':Nat→Prop}(S:SR X M w (aG n fr) a)
  (hh: ∀(t:Nat)(y:V),eV fr' t=some y→ ∃x,eV fr t=some x∧ ∀v,VR X M w x v→VR X' M' w y v):SR X' M' w (aG n fr') a:=by
 refine⟨by rw[n9,←S.len,n9],fun t y hy=> ?_⟩
 have ht:t<n:=by have:=(a1K.1 hy).1;rw[n9]at this;exact this
 rw[y9 ht]at hy
 injection hy with hy
 cases hl:eV fr' t with
 |none=>rw[hl]at hy;subst hy;unfold VR;trivial
 |some z=>
  rw[hl]at hy
  subst hy
  obtain⟨x,hx,hv⟩:=hh t z hl
  exact hv _ (S.val t x (by rw[y9 ht,hx];rfl))
theorem Ghost.weak {N n:Nat}{fr fr':List (Nat×V)}{h:Hp}(hf:FLe wP id fr fr'):Ghost N (aG n fr) h (aG n fr') h:=fun A M a w _ R=>
 ⟨M,rfl,⟨R.hr,aFJ R.sr (fun t y hy=>by
  obtain⟨x,hx,hl⟩:=hf.get hy
  exact⟨x,hx,fun v hv=>V.le_sound (fun _ hb=>by cases hb) _ _ _ hl hv⟩),R.defers⟩,fun _ hl=>hl⟩
def HLe (f:Nat→Nat)(h:Hp):List Nat→Hp→Prop
 | [],[]=>True
 |_::σ,none::h'=>HLe f h σ h'
 |b::σ,some B'::h'=>(∃B,h[b]? =some (some B)∧B.e=B'.e∧V.les wP B.cells (V.rns f B'.cells)∧B'.cells.all V.one=true)∧HLe f h σ h'
 |_,_=>False
theorem HLe.nil {f:Nat→Nat}{h:Hp}:HLe f h [] []:=trivial
theorem HLe.dead {f:Nat→Nat}{h h':Hp}{b:Nat}{σ:List Nat}(k:HLe f h σ h'):HLe f h (b::σ) (none::h'):=k
theorem HLe.live {f:Nat→Nat}{h h':Hp}{b:Nat}{σ:List Nat}{e:TypeId}{cs cs':List V}(hb:h[b]? =some (some ⟨e,cs⟩))(hc:V.les wP cs (V.rns f cs'))(ho:cs'.all V.one=true)(k:HLe f h σ h'):HLe f h (b::σ) (some ⟨e,cs'⟩::h'):=⟨⟨_,hb,rfl,hc,ho⟩,k⟩
theorem HLe.get {f:Nat→Nat}{h:Hp}: ∀{σ:List Nat}{h':Hp},HLe f h σ h'→ ∀{j:Nat}{B':Blk},h'[j]? =some (some B')→ ∃b B,σ[j]? =some b∧h[b]? =some (some B)∧B.e=B'.e∧V.les wP B.cells (V.rns f B'.cells)∧B'.cells.all V.one=true
 | [],[],_,j,B',hj=>by simp at hj
 |b::σ,none::h',hh,j,B',hj=>by
  cases j with
  |zero=>simp at hj
  |succ j=>simp only[a1Q]at hj ⊢; exact HLe.get (σ:=σ) hh hj
 |b::σ,some B::h',hh,j,B',hj=>by
  cases j with
  |zero=>
   simp only[a14,a1M]at hj
   subst hj
   obtain⟨C,h1,h2,h3,h4⟩:=hh.1
   exact⟨b,C,rfl,h1,h2,h3,h4⟩
  |succ j=>simp only[a1Q]at hj ⊢; exact HLe.get (σ:=σ) hh.2 hj
 | [],_::_,hh,_,_,_=>hh.elim
 |_::_,[],hh,_,_,_=>hh.elim
theorem HLe.len {f:Nat→Nat}{h:Hp}: ∀{σ:List Nat}{h':Hp},HLe f h σ h'→σ.length=h'.length
 | [],[],_=>rfl
 |b::σ,none::h',hh=>by simp[HLe.len (σ:=σ) hh]
 |b::σ,some B::h',hh=>by simp[HLe.len (σ:=σ) hh.2]
 | [],_::_,hh=>hh.elim
 |_::_,[],hh=>hh.elim
def lvs :List Nat→Hp→List Nat
 |b::σ,some _::h'=>b::lvs σ h'
 |_::σ,none::h'=>lvs σ h'
 |_,_=>[]
theorem aLB : ∀{σ:List Nat}{h':Hp}{j b:Nat}{B:Blk},h'[j]? =some (some B)→σ[j]? =some b→b∈lvs σ h'
 | [],_,j,b,B,_,hb=>by simp at hb
 |_::_,[],j,b,B,hj,_=>by simp at hj
 |c::σ,some C::h',0,b,B,hj,hb=>by simp at hb;simp[lvs,hb]
 |c::σ,some C::h',j+1,b,B,hj,hb=>by
  simp only[a1Q]at hj hb
  simp[lvs,aLB hj hb]
 |c::σ,none::h',0,b,B,hj,hb=>by simp at hj
 |c::σ,none::h',j+1,b,B,hj,hb=>by
  simp only[a1Q]at hj hb
  simp[lvs,aLB hj hb]
theorem aOo : ∀{σ:List Nat}{h':Hp},(lvs σ h').Nodup→ ∀{i j b:Nat}{B C:Blk},h'[i]? =some (some B)→h'[j]? =some (some C)→σ[i]? =some b→σ[j]? =some b→i=j
 | [],_,_,i,j,b,B,C,_,_,hb,_=>by simp at hb
 |_::_,[],_,i,j,b,B,C,hi,_,_,_=>by simp at hi
 |c::σ,some D::h',hn,0,0,b,B,C,_,_,_,_=>rfl
 |c::σ,some D::h',hn,0,j+1,b,B,C,hi,hj,bi,bj=>by
  simp only[a1Q,a14,a1M]at hj bi bj
  subst bi
  exact absurd (aLB hj bj) (a2p.1 hn).1
 |c::σ,some D::h',hn,i+1,0,b,B,C,hi,hj,bi,bj=>by
  simp only[a1Q,a14,a1M]at hi bi bj
  subst bj
  exact absurd (aLB hi bi) (a2p.1 hn).1
 |c::σ,some D::h',hn,i+1,j+1,b,B,C,hi,hj,bi,bj=>by
  simp only[a1Q]at hi hj bi bj
  rw[aOo (a2p.1 hn).2 hi hj bi bj]
 |c::σ,none::h',hn,0,_,b,B,C,hi,_,_,_=>by simp at hi
 |c::σ,none::h',hn,i+1,0,b,B,C,_,hj,_,_=>by simp at hj
 |c::σ,none::h',hn,i+1,j+1,b,B,C,hi,hj,bi,bj=>by
  simp only[a1Q]at hi hj bi bj
  rw[aOo (σ:=σ) hn hi hj bi bj]
def ndB :List Nat→Bool
 | []=>true
 |b::l=> !(l.elem b)&&ndB l
theorem aHw : ∀{l:List Nat},ndB l=true→l.Nodup
 | [],_=>List.nodup_nil
 |b::l,h=>by
  simp only[ndB,a1V,Bool.not_eq_true']at h
  refine a2p.2 ⟨fun hm=> ?_,aHw h.2⟩
  rw[List.elem_eq_true_of_mem hm]at h
  cases h.1
theorem a0G {ρ:List Nat}{L i b:Nat}(h:ρ[i]? =some b):sg ρ L i=b:=by simp[sg,h]
theorem a0c {ρ:List Nat}{L i:Nat}(h:ρ.length≤i):sg ρ L i=L+(i-ρ.length):=by simp[sg,h]
theorem V.les_length {vn:Nat→Bool}: ∀{cs ds:List V},V.les vn cs ds→cs.length=ds.length
 | [],[],_=>rfl
 |c::cs,d::ds,h=>by unfold V.les at h;simp[V.les_length h.2]
 | [],_::_,h=>by unfold V.les at h;exact h.elim
 |_::_,[],h=>by unfold V.les at h;exact h.elim
theorem Ghost.rn {N n:Nat}{fr fr':List (Nat×V)}{h h':Hp}(σ:List Nat)(hσ:σ.take N=a2x N)(hlt:σ.all (fun b=>a3A b h.length)=true)(hf:FLe wP (V.rn (sg σ h.length)) fr fr')
  (hh:HLe (sg σ h.length) h σ h') (hnd:ndB (lvs σ h')=true):Ghost N (aG n fr) h (aG n fr') h':=by
 intro A M a w hN R
 have hM:M.length=h.length:=R.hr.len
 have hltb: ∀b∈σ,b<M.length:=fun b hb=>by
  have h2:=a1R.1 hlt b hb
  rw[hM];exact a2q (n:=b+1) h2
 let M':List (Option Nat):=σ.map fun b=>(M[b]?).getD none
 have hM': ∀{j b:Nat},σ[j]? =some b→M'[j]? =M[b]? :=by
  intro j b hj
  have hb:=hltb b (a11 hj)
  simp only[M',a17,hj,a1P]
  rw[a1O hb];rfl
 have hfrom: ∀b y,M[sg σ h.length b]? =some y→M'[b]? =some y:=by
  intro b y hy
  rcases a2f b σ.length with hl|hl
  ·have hi:σ[b]? =some σ[b]:=a1O hl
   rw[hM' hi];rw[a0G hi]at hy;exact hy
  rw[a0c hl]at hy
  have:=(a1K.1 hy).1
  omega
 have hlive: ∀g,c8 M' h' g→c8 M h g:=by
  rintro g ⟨j,B',hj,hm⟩
  obtain⟨b,B,h1,h2,_⟩:=hh.get hj
  exact⟨b,B,h2,by rw[←hM' h1];exact hm⟩
 have hX: ∀g,Xs A M' h' g→Xs A M h g:=fun g hx=>hx.elim .inl (fun hl=> .inr (hlive g hl))
 refine⟨M', ?_,⟨⟨by simp[M',hh.len],R.hr.alt, ?_, ?_,R.hr.glob.avoid fun g _ hx=>hX g hx⟩, ?_,R.defers⟩,hlive⟩
 ·simp only[M',←a2z,hσ]
  apply a2C
  intro i
  rw[a17,a3e]
  rcases a2f i N with hi|hi
  ·simp only[List.getElem?_range hi,a1P,hi,if_true]
   rw[a1O (a2o hi hN)];rfl
  have: ¬i<N:=by omega
  simp[this]
 ·intro j B' hj
  obtain⟨b,B,h1,h2,h3,h4,h5⟩:=hh.get hj
  refine⟨a1R.1 h5, ?_⟩
  have hlen:B.cells.length=B'.cells.length:=by rw[V.les_length h4,V.rns_length]
  rcases(R.hr.blk b B h2).2 with⟨hn,hc0⟩|⟨g,cs,hg,hA,hw,hle,hcs⟩
  ·refine .inl ⟨by rw[hM' h1];exact hn,a1S (by rw[←hlen,hc0];rfl)⟩
  refine .inr ⟨g,cs,by rw[hM' h1];exact hg,hA,by rw[←h3,←hlen];exact hw,by rw[←hlen];exact hle, ?_⟩
  rw[←hlen]
  exact(VCells.rn_from hfrom _ _ (V.les_sound (fun _ hb=>by cases hb) _ _ _ h4 hcs)).avoid (fun g _ hx=>hX g hx)
 ·intro i j B C g hi hj mi mj
  obtain⟨b,B1,h1,h2,_⟩:=hh.get hi
  obtain⟨c,C1,k1,k2,_⟩:=hh.get hj
  have:=R.hr.inj b c B1 C1 g h2 k2 (by rw[←hM' h1];exact mi) (by rw[←hM' k1];exact mj)
  subst this
  exact aOo (aHw hnd) hi hj h1 k1
 exact aFJ R.sr (fun t y hy=>by
  obtain⟨x,hx,hl⟩:=hf.get hy
  exact⟨x,hx,fun v hv=>(VR.rn_from hfrom _ _ (V.le_sound (fun _ hb=>by cases hb) _ _ _ hl hv)).avoid (fun g _ hx=>hX g hx)⟩)
def HLv (vn:Nat→Bool):Hp→Hp→Prop
 | [],[]=>True
 |none::h,none::h'=>HLv vn h h'
 |some B::h,some B'::h'=>(B.e=B'.e∧V.les vn B.cells B'.cells∧B'.cells.all V.one=true)∧HLv vn h h'
 |_,_=>False
theorem HLv.nil {vn:Nat→Bool}:HLv vn [] []:=trivial
theorem HLv.dead {vn:Nat→Bool}{h h':Hp}(k:HLv vn h h'):HLv vn (none::h) (none::h'):=k
theorem HLv.live {vn:Nat→Bool}{h h':Hp}{e:TypeId}{cs cs':List V}(hc:V.les vn cs cs')(ho:cs'.all V.one=true)(k:HLv vn h h'):HLv vn (some ⟨e,cs⟩::h) (some ⟨e,cs'⟩::h'):=⟨⟨rfl,hc,ho⟩,k⟩
theorem HLv.get {vn:Nat→Bool}: ∀{h h':Hp},HLv vn h h'→ ∀{j:Nat}{B':Blk},h'[j]? =some (some B')→ ∃B,h[j]? =some (some B)∧B.e=B'.e∧V.les vn B.cells B'.cells∧B'.cells.all V.one=true
 | [],[],_,j,B',hj=>by simp at hj
 |none::h,none::h',hh,j,B',hj=>by
  cases j with
  |zero=>simp at hj
  |succ j=>simp only[a1Q]at hj ⊢; exact HLv.get (h:=h) hh hj
 |some B::h,some C::h',hh,j,B',hj=>by
  cases j with
  |zero=>
   simp only[a14,a1M]at hj
   subst hj
   exact⟨B,rfl,hh.1.1,hh.1.2.1,hh.1.2.2⟩
  |succ j=>simp only[a1Q]at hj ⊢; exact HLv.get (h:=h) hh.2 hj
 | [],_::_,hh,_,_,_=>hh.elim
 |none::_,[],hh,_,_,_=>hh.elim
 |some _::_,[],hh,_,_,_=>hh.elim
 |none::_,some _::_,hh,_,_,_=>hh.elim
 |some _::_,none::_,hh,_,_,_=>hh.elim
theorem HLv.len {vn:Nat→Bool}: ∀{h h':Hp},HLv vn h h'→h.length=h'.length
 | [],[],_=>rfl
 |none::h,none::h',hh=>by simp[HLv.len (h:=h) hh]
 |some B::h,some C::h',hh=>by simp[HLv.len (h:=h) hh.2]
 | [],_::_,hh=>hh.elim
 |none::_,[],hh=>hh.elim
 |some _::_,[],hh=>hh.elim
 |none::_,some _::_,hh=>hh.elim
 |some _::_,none::_,hh=>hh.elim
theorem Ghost.virt {N n:Nat}{fr fr':List (Nat×V)}{h h1:Hp}(e:TypeId)(hf:FLe (fun b=>a2T b h.length) id fr fr')(hh:HLv (fun b=>a2T b h.length) h h1)
  :Ghost N (aG n fr) h (aG n fr') (h1++[some ⟨e,[]⟩]):=by
 intro A M a w hN R
 have hM:M.length=h.length:=R.hr.len
 have G:=Grow.virt R.hr e
 have hvn: ∀b,a2T b h.length=true→(M++[none])[b]? =some none:=fun b hb=>by
  have:=a2g hb
  subst this
  rw[←hM];simp
 have hlen:h1.length=h.length:=hh.len.symm
 have hcase: ∀{b:Nat}{B:Blk},(h1++[some ⟨e,[]⟩])[b]? =some (some B)→ ∃C,(h++[some ⟨e,[]⟩])[b]? =some (some C)∧C.e=B.e∧V.les (fun b=>a2T b h.length) C.cells B.cells∧B.cells.all V.one=true:=by
  intro b B hb
  rcases eR hb with hb|⟨hbl,hB⟩
  ·obtain⟨C,c1,c2,c3,c4⟩:=hh.get hb
   exact⟨C,kK c1,c2,c3,c4⟩
  injection hB with hB
  subst hB
  exact⟨⟨e,[]⟩,by rw[hbl,hlen];simp,rfl,V.les_refl _ _,rfl⟩
 have hlive': ∀g,c8 (M++[none]) (h1++[some ⟨e,[]⟩]) g→c8 (M++[none]) (h++[some ⟨e,[]⟩]) g:=by
  rintro g ⟨b,B,hb,hm⟩
  obtain⟨C,c1,_⟩:=hcase hb
  exact⟨b,C,c1,hm⟩
 have hlive: ∀g,c8 (M++[none]) (h1++[some ⟨e,[]⟩]) g→c8 M h g:=by
  rintro g hl
  obtain⟨b,B,hb,hm⟩:=hlive' g hl
  rcases eR hm with hm'|⟨_,hm'⟩
  ·rcases eR hb with hb'|⟨rfl,_⟩
   ·exact⟨b,B,hb',hm'⟩
   have:=(a1K.1 hm').1;omega
  cases hm'
 refine⟨M++[none],by rw[a2a hN],⟨⟨by simp[hM,hlen],R.hr.alt, ?_, ?_,R.hr.glob.avoid fun g _ hx=>hx.elim .inl (fun hl=> .inr (hlive g hl))⟩, ?_,R.defers⟩,hlive⟩
 ·intro b B hb
  obtain⟨C,c1,c2,c3,c4⟩:=hcase hb
  refine⟨a1R.1 c4, ?_⟩
  have hl:=V.les_length c3
  rcases(G.hr.blk b C c1).2 with⟨hn,hc0⟩|⟨g,cs,hg,hA,hw,hle,hcs⟩
  ·exact .inl ⟨hn,a1S (by rw[←hl,hc0];rfl)⟩
  refine .inr ⟨g,cs,hg,hA,by rw[←c2,←hl];exact hw,by rw[←hl];exact hle, ?_⟩
  rw[←hl]
  exact(V.les_sound hvn _ _ _ c3 hcs).avoid (fun g _ hx=>hx.elim .inl (fun hl=> .inr (hlive' g hl)))
 ·intro b b' B B' g hb hb' hm hm'
  obtain⟨C,c1,_⟩:=hcase hb
  obtain⟨C',c1',_⟩:=hcase hb'
  exact G.hr.inj b b' C C' g c1 c1' hm hm'
 exact aFJ R.sr (fun t y hy=>by
  obtain⟨x,hx,hl⟩:=hf.get hy
  exact⟨x,hx,fun v hv=>(V.le_sound hvn _ _ _ hl (G.keep hv)).avoid (fun g _ hx=>hx.elim .inl (fun hl=> .inr (hlive' g hl)))⟩)
theorem Ghost.trans {N:Nat}{s s1 s2:List V}{h h1 h2:Hp}(a:Ghost N s h s1 h1)(b:Ghost N s1 h1 s2 h2):Ghost N s h s2 h2:=by
 intro A M ac w hN R
 obtain⟨M1,e1,R1,l1⟩:=a A M ac w hN R
 have hN1:N≤M1.length:=by
  have:=congrArg a3t e1
  simp only[a13]at this;omega
 obtain⟨M2,e2,R2,l2⟩:=b A M1 ac w hN1 R1
 exact⟨M2,e2.trans e1,R2,fun g hg=>l1 g (l2 g hg)⟩
abbrev eI (k:IntKind)(x:Int):V:= .sc (.int k x)
abbrev eB (x:Bool):V:= .sc (.bool x)
abbrev eS (x:ByteArray):V:= .sc (.string x)
abbrev eL {α:Type}(K:Nat)(E:α→V)(l:List α):V:= .row none K (l.map E)
def aW {α:Type}(l:List α)(i:Int):Option α:=if 0≤i then l[i.toNat]? else none
def sub {α:Type}(l:List α)(a b:Int):Option (List α):=if 0≤a∧a≤b∧b≤l.length then some ((l.take b.toNat).drop a.toNat)else none
def b6 {α:Type}(by_:Nat)(l m:List α):Option (List α):=if(l.length+m.length)*by_≤lim then some (l++m)else none
def mks {α:Type}(by_:Nat)(z:α)(n:Int):Option (List α):=if 0≤n∧n.toNat*by_≤lim then some (a18 n.toNat z)else none
def cpy {α:Type}(l m:List α):List α:=m.take l.length++l.drop m.length
def quo (k:IntKind)(a b:Int):Option Int:=if b=0 then none else some (k.wrap (a.tdiv b))
def rem (a b:Int):Option Int:=if b=0 then none else some (a.tmod b)
def shl (k:IntKind)(a b:Int):Option Int:=if b<0 then none else some (k.wrap (a*2^(min b.toNat k.bits)))
def shr (k:IntKind)(a b:Int):Option Int:=if b<0 then none else some (a.fdiv (2^(min b.toNat k.bits)))
inductive LR (σ ρ:Type) where
 |brk (s:σ)
 |ret (r:ρ)
theorem aL {α β:Type}{o:Option α}{k:α→Option β}{r:β}(h:o.bind k=some r): ∃v,o=some v∧k v=some r:=by
 cases o with
 |none=>cases h
 |some v=>exact⟨v,rfl,h⟩
theorem aKF {α:Type}{c:Bool}{a:Option α}{r:α}(h:(if c=true then a else none)=some r):c=true∧a=some r:=by cases c<;>simp_all
theorem cutF {α:Type}{c:Bool}{a:Option α}{r:α}(h:(if c=true then none else a)=some r):c=false∧a=some r:=by cases c<;>simp_all
theorem rQ {α:Type}{c:Bool}{a b:Option α}{r:α}(h:(if c=true then a else b)=some r)(hc:c=true):a=some r:=by subst hc;exact h
theorem sP {α:Type}{c:Bool}{a b:Option α}{r:α}(h:(if c=true then a else b)=some r)(hc:c=false):b=some r:=by subst hc;exact h
section
variable {P:Program}{O:wF}{ops:Array Oper}{l:List Oper}{n:Nat}{fr:List (Nat×V)}{h h':Hp}{K:List V→Hp→Prop}{op:Op}{ty:TypeId}{pos:String}{aft:Array Edge}{t:Nat}{v:V}{gd:Option (Nat×Bool)}
variable {o:Oper}
theorem aOV {j u:Nat}{want c:Bool}(hg:o.guard=some (j,want))(hj:(ops[j]?).bind (·.dst)=some u)(hl:bX n fr (.tmp u)=some (.sc (.bool c))):iM ops o (aG n fr)=some (c == want):=by
 have:=cV hl
 simp only[ev]at this
 unfold iM
 rw[hg]
 simp only[hj,this,yV]
 cases c<;>cases want<;>rfl
variable {j u:Nat}{want c:Bool}{dd:Option Tmp}
theorem sv (hd:bR P O ⟨dd,op,ty,pos,aft,none⟩ (aG n fr) h=some (v,h')):b9 P O ops ⟨dd,op,ty,pos,aft,none⟩ (aG n fr) h=some (v,h'):=by simp only[b9,iM];exact hd
theorem svG (hj:(ops[j]?).bind (·.dst)=some u)(hl:bX n fr (.tmp u)=some (.sc (.bool c)))(hc:c=want)(hd:bR P O ⟨dd,op,ty,pos,aft,some (j,want)⟩ (aG n fr) h=some (v,h')):b9 P O ops ⟨dd,op,ty,pos,aft,some (j,want)⟩ (aG n fr) h=some (v,h'):=by
 subst hc
 simp only[b9,aOV (o:=⟨dd,op,ty,pos,aft,some (j,c)⟩) rfl hj hl,beq_self_eq_true]
 exact hd
theorem svX (hj:(ops[j]?).bind (·.dst)=some u)(hl:bX n fr (.tmp u)=some (.sc (.bool c)))(hc:c= !want):b9 P O ops ⟨dd,op,ty,pos,aft,some (j,want)⟩ (aG n fr) h=some (.sc undef,h):=by
 subst hc
 simp only[b9,aOV (o:=⟨dd,op,ty,pos,aft,some (j,want)⟩) rfl hj hl]
 cases want<;>rfl
theorem svU (hj:(ops[j]?).bind (·.dst)=some u)(hl:bX n fr (.tmp u)=some (.sc undef)):b9 P O ops ⟨dd,op,ty,pos,aft,some (j,want)⟩ (aG n fr) h=some (.sc undef,h):=by
 have:=cV hl
 simp only[ev]at this
 have hw:iM ops ⟨dd,op,ty,pos,aft,some (j,want)⟩ (aG n fr)=some false:=by
  unfold iM
  simp only[hj,this]
  cases want<;>rfl
 simp only[b9,hw]
def OpsW (P:Program)(N:Nat)(ops:Array Oper)(l:List Oper)(s:List V)(h:Hp)(K:List V→Hp→Prop):Prop:=
 ∀(k:Nat),(∀j,l[j]? =ops[k+j]?)→ ∀(A:Nat→Prop)(M0 M:List (Option Nat))(h0:Hp)(w0:World)(a:Act)(w:World)(Q:Exit→Act→World→Prop),h0.length=N→M0.length=N→Grow A M0 h0 w0 M h w→Rel A M s h a w→
  (∀s' h' M' a' w',K s' h'→Grow A M0 h0 w0 M' h' w'→Rel A M' s' h' a' w'→Q .normal a' w')→wpOps P ops Q (a3v k l.length) a w
variable {N:Nat}{s s':List V}
theorem OpsW.nil (hk:K s h):OpsW P N ops [] s h K:=fun k _ A M0 M h0 w0 a w Q _ _ G R hQ=>by
 simp only[a2J,a3n,wpOps]
 exact hQ s h M a w hk G R
theorem OpsW.cons (hO:aFu P O)(hs:b9 P O ops o s h=some (v,h'))(hk:OpsW P N ops l (fU s o.dst v) h' K):OpsW P N ops (o::l) s h K:=fun k hl A M0 M h0 w0 a w Q hN hM G R hQ=>by
 have h0':ops[k]? =some o:=by simpa using (hl 0).symm
 simp only[a2b,a2E]
 rw[wpOps_cons]
 refine aFw hO R h0' (s':=fU s o.dst v) (h':=h') (by rw[cJ,hs];rfl) fun a' w' M' G' R'=> ?_
 exact hk (k+1) (fun j=>by have:=hl (j+1);simpa[a3f,a2Y 1 j]using this) A M0 M' h0 w0 a' w' Q hN hM (G.trans G') R' hQ
theorem OpsW.ghost (hg:Ghost N s h s' h')(hk:OpsW P N ops l s' h' K):OpsW P N ops l s h K:=fun k hl A M0 M h0 w0 a w Q hN hM G R hQ=>by
 obtain⟨t,ht⟩:=G.pre
 have hle:N≤M.length:=by rw[←ht];simp[hM]
 obtain⟨M',h1,h2,h3⟩:=hg A M a w hle R
 refine hk k hl A M0 M' h0 w0 a w Q hN hM ⟨?_,h2.hr,G.ext,fun g hg hl=>G.live g hg (h3 g hl)⟩ h2 hQ
 have:M0=M'.take N:=by rw[h1,←ht,←hM];simp
 rw[this]
 exact a2V _ _
theorem aG3 :aFu P (fun _ _ _=>none):=fun _ _ _ _ _ hh=>by cases hh
abbrev O0 :wF:=fun _ _ _=>none
theorem wS (hs:b9 P O0 ops ⟨some t,op,ty,pos,aft,gd⟩ (aG n fr) h=some (v,h'))(k:OpsW P N ops l (aG n ((t,v)::fr)) h' K):OpsW P N ops (⟨some t,op,ty,pos,aft,gd⟩::l) (aG n fr) h K:=
 OpsW.cons aG3 hs (by dsimp only;rw[aEE];exact k)
theorem wN (hs:b9 P O0 ops ⟨none,op,ty,pos,aft,gd⟩ (aG n fr) h=some (v,h'))(k:OpsW P N ops l (aG n fr) h' K):OpsW P N ops (⟨none,op,ty,pos,aft,gd⟩::l) (aG n fr) h K:=
 OpsW.cons aG3 hs k
open Classical in
noncomputable def aIS (f:FuncId)(h:Hp)(xs:List V)(r:V)(h':Hp):wF:=fun k h1 xs1=>if k=f∧h1=h∧xs1=xs then some (r,h')else none
theorem aOh {f:FuncId}{xs:List V}{r:V}(hc:Fn P f h xs r h'):aFu P (aIS f h xs r h'):=fun k h1 xs1 r1 h2 hh=>by
 unfold aIS at hh
 split at hh
 ·rename_i he
  obtain⟨rfl,rfl,rfl⟩:=he
  simp only[a1M,a1Y]at hh
  obtain⟨rfl,rfl⟩:=hh
  exact hc
 cases hh
theorem aI9 {f:FuncId}{xs:List V}{r:V}:aIS f h xs r h' f h xs=some (r,h'):=by simp[aIS]
theorem AB.rw {Q:Ex→List V→Hp→Prop}{id:Nat}(hr:OpsW P N l.toArray l s h (Q .normal)):AB P N (.region id l.toArray false) Q s h:=by
 intro A M0 M h0 w0 a w hN hM G R
 refine wp_region ?_
 have:=hr 0 (fun j=>by simp) A M0 M h0 w0 a w (fun e a' w'=> ∃x s' h' M',e=Ex.toExit x∧Q x s' h'∧Grow A M0 h0 w0 M' h' w'∧Rel A M' s' h' a' w') hN hM G R (fun s' h' M' a' w' hk G' R'=>⟨.normal,s',h',M',rfl,hk,G',R'⟩)
 rw[List.range_eq_range']
 simpa using this
variable {d:Option Tmp}{g:Option (Nat×Bool)}{x y z:Operand}{a b:V}
theorem aTI (hx:bX n fr x=some a):bR P O ⟨d,.move x,ty,pos,aft,g⟩ (aG n fr) h=some (a,h):=by simp[bR,cV hx]
theorem aUU (hx:bX n fr x=some a):bR P O ⟨d,.assign x,ty,pos,aft,g⟩ (aG n fr) h=some (a,h):=by simp[bR,cV hx]
theorem aW6 {c:Bool}(hz:bX n fr z=some (.sc (.bool c)))(hc:c=true)(hx:bX n fr x=some a):bR P O ⟨d,.pick z x y,ty,pos,aft,g⟩ (aG n fr) h=some (a,h):=by subst hc;simp[bR,cV hx,cV hz]
theorem aXw {c:Bool}(hz:bX n fr z=some (.sc (.bool c)))(hc:c=false)(hy:bX n fr y=some a):bR P O ⟨d,.pick z x y,ty,pos,aft,g⟩ (aG n fr) h=some (a,h):=by subst hc;simp[bR,cV hy,cV hz]
theorem gA {bo:BinOp}{t u:TypeId}(hx:bX n fr x=some a)(hy:bX n fr y=some b)(hv:dC P bo t x y a b=some v):bR P O ⟨d,.binOp bo t x y u,ty,pos,aft,g⟩ (aG n fr) h=some (v,h):=by simp[bR,cV hx,cV hy,hv]
theorem aJD {uo:UnOp}{t:TypeId}(hx:bX n fr x=some a)(hv:unV P uo a=some v):bR P O ⟨d,.unOp uo t x,ty,pos,aft,g⟩ (aG n fr) h=some (v,h):=by simp[bR,cV hx,hv]
theorem aGd {t u:TypeId}(hx:bX n fr x=some a)(hv:aBO P h t u a=some v):bR P O ⟨d,.convert t u x,ty,pos,aft,g⟩ (aG n fr) h=some (v,h):=by simp[bR,cV hx,hv]
theorem a0x {e:TypeId}{i:Nat}(hx:bX n fr x=some a)(ho:a.flatOk=true)(hl:h.length=i)(hh:h++[some ⟨e,a.cells⟩]=h'):bR P O ⟨d,.box e x,ty,pos,aft,g⟩ (aG n fr) h=some (.ptr i 0,h'):=by
 subst hl hh;simp[bR,cV hx,aQL,ho]
theorem aOg {e:TypeId}{i:Nat}{ti:TI}(ht:aM P e=some ti)(ho:(ti.zero.cells.toList.map dY).all V.one=true)(hl:h.length=i)(hh:h++[some ⟨e,ti.zero.cells.toList.map dY⟩]=h'):bR P O ⟨d,.alloc e,ty,pos,aft,g⟩ (aG n fr) h=some (.ptr i 0,h'):=by
 subst hl hh
 simp only[bR,aIs,ht]
 rw[if_pos ho]
theorem b8 {t:TypeId}(hx:bX n fr x=some a)(hv:eM P t h a=some v):bR P O ⟨d,.load t x,ty,pos,aft,g⟩ (aG n fr) h=some (v,h):=by simp[bR,cV hx,hv]
theorem iJ {t:TypeId}(hx:bX n fr x=some a)(hy:bX n fr y=some b)(hv:lZ P t h a b=some h'):bR P O ⟨d,.store t x y,ty,pos,aft,g⟩ (aG n fr) h=some (.sc undef,h'):=by simp[bR,cV hx,cV hy,hv]
theorem aT1 {i o:Nat}(hx:bX n fr x=some (.ptr i o)):bR P O ⟨d,.nilCheck x,ty,pos,aft,g⟩ (aG n fr) h=some (.ptr i o,h):=by simp[bR,cV hx,tM]
theorem aRt {t:TypeId}{f:Nat}(hx:bX n fr x=some a)(hv:rM P t a f=some v):bR P O ⟨d,.fieldAddr t x f,ty,pos,aft,g⟩ (aG n fr) h=some (v,h):=by simp[bR,cV hx,hv]
theorem aGp {t:TypeId}(hx:bX n fr x=some a)(hy:bX n fr y=some b)(hv:fT P t a b=some v):bR P O ⟨d,.indexAddr t x y,ty,pos,aft,g⟩ (aG n fr) h=some (v,h):=by simp[bR,cV hx,cV hy,hv]
theorem aYJ {t:TypeId}(hx:bX n fr x=some a)(hy:bX n fr y=some b)(hv:aBX P t a b=some v):bR P O ⟨d,.index t x y,ty,pos,aft,g⟩ (aG n fr) h=some (v,h):=by simp[bR,cV hx,cV hy,hv]
theorem a0u {i:Nat}{vs:List V}(hx:bX n fr x=some (.tup vs))(hv:vs[i]? =some v):bR P O ⟨d,.extract x i,ty,pos,aft,g⟩ (aG n fr) h=some (v,h):=by simp[bR,cV hx,aIT,hv]
theorem aOu {t:TypeId}(hx:bX n fr x=some a)(hy:bX n fr y=some b)(hv:aCv P t a b h=some (v,h')):bR P O ⟨d,.makeSlice t x y,ty,pos,aft,g⟩ (aG n fr) h=some (v,h'):=by simp[bR,cV hx,cV hy,hv]
def lE (n:Nat)(fr:List (Nat×V)):List Operand→Option (List V)
 | []=>some []
 |o::os=>match bX n fr o,lE n fr os with
  |some x,some xs=>some (x::xs)
  |_,_=>none
theorem aAR : ∀{os:List Operand}{xs:List V},lE n fr os=some xs→evs (aG n fr) os=some xs
 | [],xs,hh=>by simp only[lE,a1M]at hh;subst hh;rfl
 |o::os,xs,hh=>by
  simp only[lE]at hh
  split at hh
  ·rename_i x ys h1 h2
   injection hh with hh
   subst hh
   simp only[evs,a2h,cV h1,a2w,a2m,a2K]
   have:=aAR h2
   unfold evs at this
   rw[this];rfl
  cases hh
def aGr (n:Nat)(fr:List (Nat×V)):List (Nat×Operand)→Option (List (Nat×V))
 | []=>some []
 |p::ps=>match bX n fr p.2,aGr n fr ps with
  |some x,some xs=>some ((p.1,x)::xs)
  |_,_=>none
theorem aKN : ∀{ps:List (Nat×Operand)}{xs:List (Nat×V)},aGr n fr ps=some xs→aAp (aG n fr) ps=some xs
 | [],xs,hh=>by simp only[aGr,a1M]at hh;subst hh;rfl
 |p::ps,xs,hh=>by
  simp only[aGr]at hh
  split at hh
  ·rename_i x ys h1 h2
   injection hh with hh
   subst hh
   simp only[aAp,a2h,cV h1,a2w,a2m,a2K,a1P]
   have:=aKN h2
   unfold aAp at this
   rw[this];rfl
  cases hh
def aUM (n:Nat)(fr:List (Nat×V)):Operand→Option V
 | .const (.slice none 0 0)=>some (.row none 1 [])
 |o=>(bX n fr o).map V.softA
theorem aXb {o:Operand}{x:V}(hh:aUM n fr o=some x):evB (aG n fr) o=some x:=by
 unfold aUM at hh
 split at hh
 ·exact hh
 rename_i hne
 simp only[a1X]at hh
 obtain⟨z,hz,rfl⟩:=hh
 have h2:=cV hz
 unfold evB
 split
 ·exact(hne rfl).elim
 rw[h2];rfl
def zQ (n:Nat)(fr:List (Nat×V)):List (Nat×Operand)→Option (List (Nat×V))
 | []=>some []
 |p::ps=>match aUM n fr p.2,zQ n fr ps with
  |some x,some xs=>some ((p.1,x)::xs)
  |_,_=>none
theorem aJ6 : ∀{ps:List (Nat×Operand)}{xs:List (Nat×V)},zQ n fr ps=some xs→aBH (aG n fr) ps=some xs
 | [],xs,hh=>by simp only[zQ,a1M]at hh;subst hh;rfl
 |p::ps,xs,hh=>by
  simp only[zQ]at hh
  split at hh
  ·rename_i x ys h1 h2
   injection hh with hh
   subst hh
   simp only[aBH,a2h,aXb h1,a2w,a2m,a2K,a1P]
   have:=aJ6 h2
   unfold aBH at this
   rw[this];rfl
  cases hh
theorem cS {t:TypeId}{ps:List (Nat×Operand)}{xs:List (Nat×V)}(hp:aGr n fr ps=some xs)(hv:u3 P t xs=some v):bR P O ⟨d,.build t ps.toArray,ty,pos,aft,g⟩ (aG n fr) h=some (v,h):=by
 simp[bR,aKN hp,hv]
theorem oV {t:TypeId}{len:Nat}{ps:List (Nat×Operand)}{xs:List (Nat×V)}(hp:zQ n fr ps=some xs)(hv:gJ P t len xs h=some (v,h')):bR P O ⟨d,.buildSlice t len ps.toArray,ty,pos,aft,g⟩ (aG n fr) h=some (v,h'):=by
 simp[bR,aJ6 hp,hv]
def aKW (n:Nat)(fr:List (Nat×V)):Option Operand→Option (Option V)
 |none=>some none
 |some o=>match bX n fr o with
  |some x=>some (some x)
  |none=>none
theorem aMZ {o:Option Operand}{x:Option V}(hh:aKW n fr o=some x):sI (aG n fr) o=some x:=by
 cases o with
 |none=>exact hh
 |some o=>
  simp only[aKW]at hh
  split at hh
  ·rename_i y hy;injection hh with hh;subst hh;simp[sI,cV hy]
  cases hh
theorem yS {t:TypeId}{lo hi:Option Operand}{vl vh:Option V}(hx:bX n fr x=some a)(h1:aKW n fr lo=some vl)(h2:aKW n fr hi=some vh)(hv:jV P t h a vl vh=some v):bR P O ⟨d,.slice t x lo hi none,ty,pos,aft,g⟩ (aG n fr) h=some (v,h):=by
 simp[bR,cV hx,aMZ h1,aMZ h2,hv]
theorem aQl {t:TypeId}{lo:Option Operand}{hi mx:Operand}{vl:Option V}{vh vm:V}(hx:bX n fr x=some a)(h1:aKW n fr lo=some vl)(h2:bX n fr hi=some vh)(h3:bX n fr mx=some vm)(hv:y5 P t a vl vh vm=some v):bR P O ⟨d,.slice t x lo (some hi) (some mx),ty,pos,aft,g⟩ (aG n fr) h=some (v,h):=by
 simp[bR,cV hx,aMZ h1,cV h2,cV h3,hv]
variable {ws:List Operand}{ts:List TypeId}{xs:List V}
theorem aTh {t:TypeId}(hx:bX n fr x=some a)(hv:aHL P t a=some v):bR P O ⟨d,.call ⟨.builtin .len,#[x],#[t]⟩,ty,pos,aft,g⟩ (aG n fr) h=some (v,h):=by
 have:evs (aG n fr) [x]=some [a]:=aAR (by simp[lE,hx])
 simp[bR,rZ,this,hv]
theorem uE {t t':TypeId}(hx:bX n fr x=some a)(hy:bX n fr y=some b)(hv:g6 P t t' a b h=some (v,h')):bR P O ⟨d,.call ⟨.builtin .append,#[x,y],#[t,t']⟩,ty,pos,aft,g⟩ (aG n fr) h=some (v,h'):=by
 have:evs (aG n fr) [x,y]=some [a,b]:=aAR (by simp[lE,hx,hy])
 simp[bR,rZ,this,hv]
theorem aQ9 {t t':TypeId}(hx:bX n fr x=some a)(hy:bX n fr y=some b)(hv:aLI P t a b h=some (v,h')):bR P O ⟨d,.call ⟨.builtin .copy,#[x,y],#[t,t']⟩,ty,pos,aft,g⟩ (aG n fr) h=some (v,h'):=by
 have:evs (aG n fr) [x,y]=some [a,b]:=aAR (by simp[lE,hx,hy])
 simp[bR,rZ,this,hv]
theorem aP2 {ts:Array TypeId}(hx:lE n fr ws=some xs)(hv:aHV P ts ty xs false=some v):bR P O ⟨d,.call ⟨.builtin .min,ws.toArray,ts⟩,ty,pos,aft,g⟩ (aG n fr) h=some (v,h):=by
 simp[bR,rZ,aAR hx,hv]
theorem a0B {ts:Array TypeId}(hx:lE n fr ws=some xs)(hv:aHV P ts ty xs true=some v):bR P O ⟨d,.call ⟨.builtin .max,ws.toArray,ts⟩,ty,pos,aft,g⟩ (aG n fr) h=some (v,h):=by
 simp[bR,rZ,aAR hx,hv]
theorem aIw {f:FuncId}{ts:Array TypeId}(hx:lE n fr ws=some xs)(hv:O f h xs=some (v,h')):bR P O ⟨d,.call ⟨.value (.func f),ws.toArray,ts⟩,ty,pos,aft,g⟩ (aG n fr) h=some (v,h'):=by
 simp[bR,rZ,aAR hx,hv]
theorem wC {N:Nat}{f:FuncId}{ts:Array TypeId}{K:List V→Hp→Prop}{l:List Oper}(hx:lE n fr ws=some xs)(hc:Fn P f h xs v h')(k:OpsW P N ops l (aG n ((t,v)::fr)) h' K):OpsW P N ops (⟨some t,.call ⟨.value (.func f),ws.toArray,ts⟩,ty,pos,aft,none⟩::l) (aG n fr) h K:=
 OpsW.cons (aOh hc) (sv (aIw hx aI9)) (by dsimp only;rw[aEE];exact k)
theorem wCG {N:Nat}{f:FuncId}{ts:Array TypeId}{K:List V→Hp→Prop}{l:List Oper}{j u:Nat}{want c:Bool}(hj:(ops[j]?).bind (·.dst)=some u)(hl:bX n fr (.tmp u)=some (.sc (.bool c)))(hcw:c=want)(hx:lE n fr ws=some xs)(hc:Fn P f h xs v h')(k:OpsW P N ops l (aG n ((t,v)::fr)) h' K):OpsW P N ops (⟨some t,.call ⟨.value (.func f),ws.toArray,ts⟩,ty,pos,aft,some (j,want)⟩::l) (aG n fr) h K:=
 OpsW.cons (aOh hc) (svG hj hl hcw (aIw hx aI9)) (by dsimp only;rw[aEE];exact k)
end
section
variable {P:Program}{h h':Hp}{t e:TypeId}{ti:TI}{B:Blk}{i off:Nat}{v x:V}{cs:List V}
theorem lW (ht:aM P t=some ti)(hd:cB ti.desc=false)(hc:cs.head? =some v):iK P t cs=some v:=by simp[iK,ht,hd,hc]
theorem mU (ht:aM P t=some ti)(hd:cB ti.desc=true){ds:List V}(hl:ti.size≤cs.length)(hc:cs.take ti.size=ds):iK P t cs=some (.agg ds):=by simp[iK,ht,hd,hl,hc]
theorem ldP (hb:h[i]? =some (some ⟨e,cs⟩))(hp:iK P t (cs.drop off)=some v):eM P t h (.ptr i off)=some v:=by simp[eM,hb,hp]
theorem ldE {α:Type}{E:α→V}{l:List α}{y:α}(hi:l[i]? =some y)(hp:iK P t ((E y).cells.drop off)=some v):eM P t h (.eptr (l.map E) i off)=some v:=by simp[eM,hi,hp]
theorem stP (ht:aM P t=some ti)(hb:h[i]? =some (some ⟨e,cs⟩))(h1:x.flatOk=true)(h2:x.cells.length=ti.size)(h3:off+ti.size≤cs.length)(h4:h.set i (some ⟨e,splice cs off x.cells⟩)=h'):lZ P t h (.ptr i off) x=some h':=by
 subst h4
 simp only[lZ,ht,hb]
 rw[if_pos ⟨h1,h2,h3⟩]
theorem jC {fs:Array Field}{sz by_:Nat}{z:Value}{pl:Array (Nat×Nat)}{ps:List (Nat×V)}(ht:aM P t=some ⟨.struct fs,sz,by_,z⟩)(hp:eJ P t=some pl)(hf:pX (fun i=>pl[i]?) (z.cells.toList.map dY) ps=some cs):u3 P t ps=some (.agg cs):=by
 simp only[u3,ht,hp]
 rw[hf];rfl
theorem aHG {m sz by_:Nat}{z:Value}{ps:List (Nat×V)}(ht:aM P t=some ⟨.array m e,sz,by_,z⟩)(he:aM P e=some ti)(hf:pX (fun i=>some (i*ti.size,ti.size)) (z.cells.toList.map dY) ps=some cs):u3 P t ps=some (.agg cs):=by
 simp only[u3,ht,he]
 rw[hf];rfl
theorem aYM {sz by_ len:Nat}{z:Value}{ps:List (Nat×V)}{ag:Bool}(ht:aM P t=some ⟨.slice e,sz,by_,z⟩)(he:aM P e=some ti)(h1:len*ti.size≤2^24∧0<len∧0<ti.size)(hag:cB ti.desc=ag)
  (hf:pX (fun i=>some (i*ti.size,ti.size)) (((Array.range (len*ti.size)).map (ti.zero.cells[· % ti.zero.cells.size]!)).toList.map dY) ps=some cs) (h2:cs.all V.one=true∧cs.length=len*ti.size) (hl:h.length=i) (hh:h++[some ⟨e,cs⟩]=h'):
  gJ P t len ps h=some (.sl i 0 len ti.size ag,h'):=by
 subst hl hh hag
 simp only[gJ,ht,he]
 rw[if_pos h1]
 simp only[hf]
 rw[if_pos h2]
end
section
variable {P:Program}{h h':Hp}{t e:TypeId}{ti:TI}{i off b:Nat}{v:V}{α:Type}{E:α→V}{l m:List α}{y:α}{k:IntKind}{j:Int}{nl:Option Bool}{sz by_:Nat}{z:Value}{ag:Bool}
theorem d9 (hx:aW l j=some y):0≤j∧j<l.length∧l[j.toNat]? =some y:=by
 unfold aW at hx
 split at hx
 ·have:=(a1K.1 hx).1
  exact⟨by assumption,by omega,hx⟩
 cases hx
theorem iaR (ht:aM P t=some ⟨.slice e,sz,by_,z⟩)(he:aM P e=some ti)(hx:aW l j=some y):fT P t (.row nl ti.size (l.map E)) (.sc (.int k j))=some (.eptr (l.map E) j.toNat 0):=by
 obtain⟨h1,h2,_⟩:=d9 hx
 simp[fT,ht,nQ,he,h1,h2]
theorem iaS {q:Nat}(hn:l.length=q)(ht:aM P t=some ⟨.slice e,sz,by_,z⟩)(he:aM P e=some ti)(h1:ti.size=1)(hx:aW l j=some y):fT P t (.sl b 0 q 1 ag) (.sc (.int k j))=some (.ptr b j.toNat):=by
 obtain⟨h2,h3,_⟩:=d9 hx
 subst hn
 simp[fT,ht,nQ,he,h1,h2,h3]
theorem ldX (ht:aM P t=some ti)(hd:cB ti.desc=false)(hb:h[b]? =some (some ⟨e,l.map E⟩))(hx:aW l j=some y):eM P t h (.ptr b j.toNat)=some (E y):=by
 obtain⟨_,_,h3⟩:=d9 hx
 simp[eM,hb,iK,ht,hd,h3]
theorem ldR (hx:aW l j=some y)(hp:iK P t ((E y).cells.drop off)=some v):eM P t h (.eptr (l.map E) j.toNat off)=some v:=ldE (d9 hx).2.2 hp
theorem aNZ (i:Nat)(hi:i<l.length)(y:α):splice (l.map E) i [E y]=(l.set i y).map E:=by
 rw[List.map_set]
 unfold splice
 apply a2C
 intro m
 rw[List.getElem?_set]
 by_cases hm:i=m
 ·subst hm
  simp[List.getElem?_append,hi,a2r (Nat.le_of_lt hi)]
 rcases a2f m i with h1|h1
 ·rw[a1L (by simp;omega),a1L (by simp;omega)]
  simp[hm,h1]
 rw[a1U (by simp;omega)]
 simp only[a15,a13,a16,a2b,a2J,a2Q,hm,if_false]
 congr 1;omega
theorem a03 {w:α}(ht:aM P t=some ti)(hs:ti.size=1)(hb:h[b]? =some (some ⟨e,l.map E⟩))(hx:aW l j=some w)(ho:(E y).one=true)(hc:(E y).cells=[E y])(hh:h.set b (some ⟨e,(l.set j.toNat y).map E⟩)=h'):lZ P t h (.ptr b j.toNat) (E y)=some h':=by
 obtain⟨_,h2,h3⟩:=d9 hx
 have h4:=(a1K.1 h3).1
 subst hh
 simp only[lZ,ht,hb]
 rw[if_pos ⟨by simp[V.flatOk,hc,ho],by simp[hc,hs],by rw[hs];simp;omega⟩,hc,aNZ _ h4]
theorem aLh : ∀ns:List Int,t8 (ns.map (eI .u8))=some ns
 | []=>rfl
 |n::ns=>by simp only[a2j,eI,t8];rw[show t8 (List.map (fun x=>V.sc (Value.int IntKind.u8 x)) ns)=some ns from aLh ns];rfl
theorem aLy {a b':TypeId}{ns:List Int}{x:V}{sz1 by1 sz2 by2 sz3 by3 q:Nat}{z1 z2 z3:Value}(ha:aM P a=some ⟨.slice e,sz1,by1,z1⟩)(hb:aM P b'=some ⟨.string,sz2,by2,z2⟩)(he:aM P e=some ⟨.int .u8,sz3,by3,z3⟩)(hs:fM h 1 x=some (ns.map (eI .u8),q)):aBO P h a b' x=some (.sc (.string (iL ns))):=by
 simp only[aBO,rH,ha,hb,he,hs,aLh,a1P]
theorem a1j (ht:aM P t=some ⟨.slice e,sz,by_,z⟩){k:Nat}:aHL P t (.row nl k (l.map E))=some (.sc (.int .i64 l.length)):=by simp[aHL,ht]
theorem a1A (ht:aM P t=some ⟨.slice e,sz,by_,z⟩){k m:Nat}:aHL P t (.sl b off m k ag)=some (.sc (.int .i64 m)):=by simp[aHL,ht]
theorem eF {q:Nat}(hn:l.length=q)(ht:aM P t=some ⟨.slice e,sz,by_,z⟩)(he:aM P e=some ti)(h1:ti.zero.cells.size=1∧ti.size=1∧1≤ti.bytes)(hb:h[b]? =some (some ⟨e,l.map E⟩)){s:V}(hs:fM h 1 s=some (m.map E,m.length))
  {r:List α} (ha:b6 ti.bytes l m=some r) (hl:h.length=i) (hh:h.set b none++[some ⟨e,r.map E⟩]=h'):g6 P t t (.sl b 0 q 1 ag) s h=some (.sl i 0 r.length 1 ag,h'):=by
 obtain⟨h2,h3,h4⟩:=h1
 subst hn
 unfold b6 at ha
 split at ha
 ·rename_i hlim
  injection ha with ha
  subst ha hl hh
  have hx:fM h ti.size s=some (m.map E,m.length):=by rw[h3];exact hs
  simp only[g6,ne_eq,not_true,if_false,ht,he]
  rw[if_pos ⟨by rw[h2,h3],by omega,h4⟩]
  simp only[hx,hb]
  rw[if_pos ⟨h3.symm,trivial,by simp,hlim⟩]
  simp[a1N]
 cases ha
theorem a1p (ht:aM P t=some ⟨.slice e,sz,by_,z⟩)(he:aM P e=some ti)(h1:ti.zero.cells.size=1∧ti.size=1∧1≤ti.bytes){s:V}(hs:fM h 1 s=some (m.map E,m.length))(hag:cB ti.desc=ag){kk:Nat}
  {r:List α} (ha:b6 ti.bytes [] m=some r) (hl:h.length+1=i) (hh:h++[none]++[some ⟨e,r.map E⟩]=h'):g6 P t t (.row (some true) kk []) s h=some (.sl i 0 r.length 1 ag,h'):=by
 obtain⟨h2,h3,h4⟩:=h1
 unfold b6 at ha
 split at ha
 ·rename_i hlim
  injection ha with ha
  subst ha hl hh hag
  have hx:fM h ti.size s=some (m.map E,m.length):=by rw[h3];exact hs
  simp only[g6,ne_eq,not_true,if_false,ht,he]
  rw[if_pos ⟨by rw[h2,h3],by omega,h4⟩]
  simp only[hx]
  rw[if_pos (by simpa using hlim)]
  simp[h3]
 cases ha
theorem aYj (ht:aM P t=some ⟨.slice e,sz,by_,z⟩)(he:aM P e=some ti)(h1:ti.zero.cells.size=1∧ti.size=1∧1≤ti.bytes)(hE: ∀x,(E x).cells=[E x]){s:V}(hs:fM h 1 s=some (m.map E,m.length))(hm:0<m.length)(hag:cB ti.desc=ag)
  {r:List α} (ha:b6 ti.bytes l m=some r) (hl:h.length=i) (hh:h++[some ⟨e,r.map E⟩]=h'):g6 P t t (.row (some false) 1 (l.map E)) s h=some (.sl i 0 r.length 1 ag,h'):=by
 obtain⟨h2,h3,h4⟩:=h1
 have hf:(l.map E).flatMap V.cells=l.map E:=by
  clear ha
  induction l with
  |nil=>rfl
  |cons x l ih=>simp only[a2j,a1Z,hE,ih];rfl
 unfold b6 at ha
 split at ha
 ·rename_i hlim
  injection ha with ha
  subst ha hl hh hag
  have hx:fM h ti.size s=some (m.map E,m.length):=by rw[h3];exact hs
  simp only[g6,ne_eq,not_true,if_false,ht,he]
  rw[if_pos ⟨by rw[h2,h3],by omega,h4⟩]
  simp only[hx]
  rw[if_pos ⟨.inr h3.symm,hm,by simpa using hlim⟩]
  simp[h3,hf]
 cases ha
theorem aHS (hE: ∀x,(E x).cells=[E x]):fM h 1 (.row nl 1 (m.map E))=some (m.map E,m.length):=by
 have:(m.map E).flatMap V.cells=m.map E:=by
  induction m with
  |nil=>rfl
  |cons x m ih=>simp only[a2j,a1Z,hE,ih];rfl
 simp only[fM]
 rw[if_pos (.inl trivial),this];simp
theorem aZT {q:Nat}(hn:m.length=q)(hb:h[b]? =some (some ⟨e,m.map E⟩)):fM h 1 (.sl b 0 q 1 ag)=some (m.map E,m.length):=by
 subst hn
 simp only[fM,hb]
 rw[if_pos ⟨trivial,by simp⟩];simp[a1N]
theorem a1r {kk:Nat}:fM h 1 (.row nl kk [])=some (([]:List α).map E,([]:List α).length):=by simp[fM]
theorem mkS {k1 k2:IntKind}{y:α}(ht:aM P t=some ⟨.slice e,sz,by_,z⟩)(he:aM P e=some ti)(h1:1≤ti.bytes∧ti.size=1∧ti.zero.cells.size=1)(hz:ti.zero.cells.toList.map (V.soft∘dY)=[E y])(ho:(E y).one=true)(hag:cB ti.desc=ag){r:List α}
  (hm:mks ti.bytes y j=some r) (hl:h.length=i) (hh:h++[some ⟨e,r.map E⟩]=h'):aCv P t (.sc (.int k1 j)) (.sc (.int k2 j)) h=some (.sl i 0 r.length 1 ag,h'):=by
 obtain⟨h2,h3,h4⟩:=h1
 unfold mks at hm
 split at hm
 ·rename_i hlim
  injection hm with hm
  subst hm hl hh hag
  simp only[aCv,ht,he]
  rw[if_pos ⟨hlim.1,a3a _,hlim.2,h2,by omega,by rw[h4,h3],by rw[hz];simp[ho]⟩,hz]
  simp only[h3,ite_self]
  have: ∀n,(a18 n [E y]).flatten=(a18 n y).map E:=fun n=>by
   induction n with
   |zero=>rfl
   |succ n ih=>simp only[a2L,a2S,ih,a2j];rfl
  rw[this];simp
 cases hm
theorem aVL {q:Nat}{e2:TypeId}(hn:l.length=q)(ht:aM P t=some ⟨.slice e,sz,by_,z⟩)(he:aM P e=some ti)(h1:ti.size=1)(hb:h[b]? =some (some ⟨e2,l.map E⟩)){s:V}(hs:fM h 1 s=some (m.map E,m.length))(hh:h.set b (some ⟨e2,(cpy l m).map E⟩)=h'):
  aLI P t (.sl b 0 q 1 ag) s h=some (.sc (.int .i64 (min m.length l.length:Nat)),h'):=by
 subst hh hn
 simp only[aLI,ht,he,h1,hs,hb]
 rw[if_pos ⟨trivial,by omega,by simp⟩]
 simp only[a1M,a1Y,true_and]
 congr 3
 unfold splice cpy
 simp only[List.map_append,a2z,a3g,a28,a2M,a2R,Nat.mul_one,a13,a16]
 congr 1
 ·rw[Nat.min_comm,←List.take_take,a1N (i:=m.length) (by simp)]
 rcases a3l m.length l.length with hle|hle
 ·congr 1;omega
 rw[a10 (by simp;omega),a10 (by simp;omega)]
theorem slR (ht:aM P t=some ⟨.slice e,sz,by_,z⟩)(he:aM P e=some ti){lo hi:Option V}{a c:Int}{r:List α}(h1:nG lo=some a)(h2:yG hi l.length=some c)(hs:sub l a c=some r):jV P t h (.row nl ti.size (l.map E)) lo hi=some (.row (nlS nl) ti.size (r.map E)):=by
 unfold sub at hs
 split at hs
 ·rename_i hc
  injection hs with hs
  subst hs
  have h2':yG hi (l.map E).length=some c:=by simpa using h2
  simp only[jV,ht,he,h1,h2']
  rw[if_pos ⟨trivial,hc.1,hc.2.1,by simpa using hc.2.2⟩]
  simp[a2z,a3g]
 cases hs
end
section
variable {P:Program}{t e:TypeId}{ti:TI}{sz by_:Nat}{z:Value}{α:Type}{E:α→V}{l:List α}{nl:Option Bool}
theorem slM (ht:aM P t=some ⟨.slice e,sz,by_,z⟩)(he:aM P e=some ti){lo:Option V}{a c:Int}{k1 k2:IntKind}{r:List α}(h1:nG lo=some a)(hs:sub l a c=some r):y5 P t (.row nl ti.size (l.map E)) lo (.sc (.int k1 c)) (.sc (.int k2 c))=some (.row (some false) ti.size (r.map E)):=by
 unfold sub at hs
 split at hs
 ·rename_i hc
  injection hs with hs
  subst hs
  simp only[y5,ht,h1,nQ,he]
  rw[if_pos ⟨trivial,hc.1,hc.2.1,trivial,by simpa using hc.2.2⟩]
  simp[a2z,a3g]
 cases hs
end
section
variable (P:Program)(t:TypeId)(xo yo:Operand)
theorem aVY {k:IntKind}{a b r:Int}(h:quo k a b=some r):dC P .quo t xo yo (.sc (.int k a)) (.sc (.int k b))=some (.sc (.int k r)):=by
 rw[aX3];unfold quo at h;split at h
 ·cases h
 rename_i hb;injection h with h;rw[if_neg hb,h]
theorem aVI {k:IntKind}{a b r:Int}(h:rem a b=some r):dC P .rem t xo yo (.sc (.int k a)) (.sc (.int k b))=some (.sc (.int k r)):=by
 rw[aW8];unfold rem at h;split at h
 ·cases h
 rename_i hb;injection h with h;rw[if_neg hb,h]
theorem aU6 {k k':IntKind}{a b r:Int}(h:shl k a b=some r):dC P .shl t xo yo (.sc (.int k a)) (.sc (.int k' b))=some (.sc (.int k r)):=by
 rw[aXP];unfold shl at h;split at h
 ·cases h
 rename_i hb;injection h with h;rw[if_neg hb,h]
theorem aVb {k k':IntKind}{a b r:Int}(h:shr k a b=some r):dC P .shr t xo yo (.sc (.int k a)) (.sc (.int k' b))=some (.sc (.int k r)):=by
 rw[aXF];unfold shr at h;split at h
 ·cases h
 rename_i hb;injection h with h;rw[if_neg hb,h]
end
section
variable {P:Program}{N n:Nat}{Q:Ex→List V→Hp→Prop}{s:List V}{h h':Hp}{fr:List (Nat×V)}
theorem AB.cnd {c:Operand}{x y:Code}{t:Bool}(hc:bX n fr c=some (.sc (.bool t)))(h1:t=true→AB P N x Q (aG n fr) h)(h2:t=false→AB P N y Q (aG n fr) h):AB P N (.cond c x y) Q (aG n fr) h:=AB.cond (cV hc) h1 h2
def num :Nat→List V→List (Nat×V)
 |_,[]=>[]
 |i,x::xs=>(i,x)::num (i+1) xs
theorem aQv : ∀{xs:List V}{i t:Nat}{y:V},eV (num i xs) t=some y→i≤t∧xs[t-i]? =some y
 | [],i,t,y,hy=>by cases hy
 |x::xs,i,t,y,hy=>by
  simp only[num,eV]at hy
  cases hb:a2T i t with
  |true=>
   rw[hb]at hy
   have:=a2g hb
   subst this
   simp only[cond_true,a1M]at hy
   subst hy
   simp
  |false=>
   rw[hb]at hy
   obtain⟨h1,h2⟩:=aQv (xs:=xs) (i:=i+1) hy
   refine⟨by omega, ?_⟩
   rw[show t-i=(t-(i+1))+1 by omega]
   simpa using h2
def aCG (P:Program)(fn:Func)(N:Nat)(r:V)(h':Hp):Ex→List V→Hp→Prop:=fun x s h=>(∀id,x≠ .exit id)∧ ∃r1,aBN P fn s h=some r1∧Ghost N (aG 1 [(0,r1)]) h (aG 1 [(0,r)]) h'
theorem aTa {f:FuncId} {fn:Func} {c:Code} {args:List V} {r:V} (hf:P.funcs[f]? =some fn) (hb:fn.body=some c) (hn:(fn.name == "runtime.NumGoroutine")=false) (hnt:fn.ntmps=n) (hal:args.length≤n) (hN:h.length=N) (hfr:num 0 args=fr)
  (hh:AB P N c (aCG P fn N r h') (aG n fr) h):Fn P f h args r h':=by
 intro A M w vs H hargs
 refine .inl ⟨aK3 hf (by rw[hb];rfl) hn _ _,calls_of_wp hf hb ?_⟩
 have R0:=aT4 (fn:=fn) H hargs
 have R1:Rel A M (aG n fr) h {tmps:=vs.toArray++Array.replicate (fn.ntmps-vs.toArray.size) undef,defers:=[]} w:=by
  refine⟨R0.hr,⟨?_,fun t x hx=> ?_⟩,R0.defers⟩
  ·rw[n9,←R0.sr.len]
   simp[aKC,hnt];omega
  have ht:t<n:=by have:=(List.getElem?_eq_some_iff.1 hx).1;rw[n9]at this;exact this
  rw[y9 ht]at hx
  injection hx with hx
  cases hl:eV fr t with
  |none=>rw[hl]at hx;subst hx;unfold VR;trivial
  |some z=>
   rw[hl]at hx
   subst hx hfr
   obtain⟨_,h2⟩:=aQv hl
   refine R0.sr.val t z ?_
   unfold aKC
   rw[List.getElem?_append_left (by have:=(List.getElem?_eq_some_iff.1 h2).1;omega)]
   simpa using h2
 refine Code.wp_mono (fun e a' w' ⟨x,s1,h1,M1,he,⟨hx,r1,hres,hg⟩,G,R2⟩=> ?_) (hh A M M h w _ w hN (by rw[H.len];exact hN) (Grow.refl H) R1)
 subst he
 obtain⟨t,ht⟩:=G.pre
 have hMN:M.length=N:=by rw[H.len];exact hN
 obtain⟨v,hv,hr⟩:=aSS R2 hres
 have Rv:Rel A M1 (aG 1 [(0,r1)]) h1 {tmps:= #[v],defers:=[]} w':=⟨R2.hr,⟨rfl,fun t x hx=>by
  cases t with
  |zero=>simp[aG,eV]at hx;subst hx;exact hr
  |succ t=>rw[List.getElem?_eq_none (by rw[n9];omega)]at hx;cases hx⟩,rfl⟩
 obtain⟨M',e1,R3,l3⟩:=hg A M1 _ w' (by rw[←ht];simp[hMN]) Rv
 have hr':VR (Xs A M' h') M' w' r v:=R3.sr.val 0 r rfl
 have G':Grow A M h w M' h' w':=⟨by
  have:M=M'.take N:=by rw[e1,←ht,←hMN];simp
  rw[this]
  exact List.take_prefix _ _,R3.hr,G.ext,fun g hg hl=>G.live g hg (l3 g hl)⟩
 cases x with
 |normal=>exact⟨R2.defers,v,hv,v,rfl,M',G',hr'⟩
 |ret=>exact⟨R2.defers,v,hv,v,rfl,M',G',hr'⟩
 |exit id=>exact absurd rfl (hx id)
theorem aF0 {fn:Func}{r r1:V}(hr:aBN P fn s h=some r1)(hg:Ghost N (aG 1 [(0,r1)]) h (aG 1 [(0,r)]) h'):aCG P fn N r h' .ret s h:=⟨fun id hh=>(by cases hh),r1,hr,hg⟩
theorem aTr {fn:Func}{r r1:V}(hr:aBN P fn s h=some r1)(hg:Ghost N (aG 1 [(0,r1)]) h (aG 1 [(0,r)]) h'):aCG P fn N r h' .normal s h:=⟨fun id hh=>(by cases hh),r1,hr,hg⟩
variable {fn:Func}
theorem rvT {t:Nat}{x:V}(hx:bX n fr (.tmp t)=some x):iP P (aG n fr) h (.tmp t)=some x:=cV hx
theorem rvC {t:Nat}{ty:TypeId}{v:V}{i o:Nat}(hx:bX n fr (.tmp t)=some (.ptr i o))(hv:eM P ty h (.ptr i o)=some v):iP P (aG n fr) h (.cell t ty)=some v:=by
 have:=cV hx
 simp only[ev]at this
 simp[iP,this,tM,hv]
theorem a0Z (hr:fn.results= #[]):aBN P fn s h=some (.tup []):=by simp[aBN,hr]
theorem aQg {a:ResultVar}{x:V}(hr:fn.results= #[a])(h1:iP P s h a=some x):aBN P fn s h=some x:=by simp[aBN,hr,h1]
theorem cN {a b:ResultVar}{x y:V}(hr:fn.results= #[a,b])(h1:iP P s h a=some x)(h2:iP P s h b=some y):aBN P fn s h=some (.tup [x,y]):=by simp[aBN,hr,h1,h2]
theorem aBW {a b c:ResultVar}{x y z:V}(hr:fn.results= #[a,b,c])(h1:iP P s h a=some x)(h2:iP P s h b=some y)(h3:iP P s h c=some z):aBN P fn s h=some (.tup [x,y,z]):=by simp[aBN,hr,h1,h2,h3]
end
theorem qJ {α:Type}{E:α→V}{f:Nat→Nat}(hE: ∀x,(E x).rn f=E x): ∀l:List α,V.rns f (l.map E)=l.map E
 | []=>rfl
 |x::l=>by simp[V.rns,hE,qJ hE l]
theorem aFL {α:Type}{E:α→V}{f:Nat→Nat}{vn:Nat→Bool}(hE: ∀x,(E x).rn f=E x)(l:List α):V.les vn (l.map E) (V.rns f (l.map E)):=by rw[qJ hE];exact V.les_refl _ _
theorem V.les_nil {vn:Nat→Bool}:V.les vn [] []:=by unfold V.les;trivial
theorem V.les_cons {vn:Nat→Bool}{c d:V}{cs ds:List V}(h:V.le vn c d)(k:V.les vn cs ds):V.les vn (c::cs) (d::ds):=by unfold V.les;exact⟨h,k⟩
theorem bO {α:Type}(l:List α)(i:Nat)(x:α):(l.set i x).length=l.length:=a3u
theorem bP {α:Type}(l m:List α):(cpy l m).length=l.length:=by simp[cpy];omega
section
variable {P:Program}{N n:Nat}{Q:Ex→List V→Hp→Prop}{h:Hp}{fr:List (Nat×V)}
theorem AB.cndT {c:Operand}{x y:Code}{t:Bool}(hc:bX n fr c=some (.sc (.bool t)))(ht:t=true)(h1:AB P N x Q (aG n fr) h):AB P N (.cond c x y) Q (aG n fr) h:=AB.cnd hc (fun _=>h1) (fun hf=>by rw[ht]at hf;cases hf)
theorem AB.cndF {c:Operand}{x y:Code}{t:Bool}(hc:bX n fr c=some (.sc (.bool t)))(ht:t=false)(h1:AB P N y Q (aG n fr) h):AB P N (.cond c x y) Q (aG n fr) h:=AB.cnd hc (fun hf=>by rw[ht]at hf;cases hf) (fun _=>h1)
end
section
variable {P:Program}{f:FuncId}{h hb hb' hs hs':Hp}{xs args:List V}{r v:V}
theorem aMd (h o:Hp):jX h [] o=h:=by cases h<;>cases o<;>rfl
theorem Fn.pure (hc:Fn P f [] xs r [])(hx:V.rns (sg [] h.length) xs=xs)(hr:r.rn (sg [] h.length)=r):Fn P f h xs r h:=by
 have:=Fn.frame (hb:=h) hc [] rfl (by simp) (by simp) (fun i b hi=>by simp at hi)
 rw[hx,hr]at this
 simpa[qF,aMd,rnH]using this
def Lend (σ:Nat→Nat)(hb:Hp):List Nat→Hp→Prop
 | [],[]=>True
 |b::ρ,none::hs=>hb[b]? =some none∧Lend σ hb ρ hs
 |b::ρ,some B::hs=>(∃cs,hb[b]? =some (some ⟨B.e,cs⟩)∧V.rns σ B.cells=cs)∧Lend σ hb ρ hs
 |_,_=>False
theorem Lend.nil {σ:Nat→Nat}:Lend σ hb [] []:=trivial
theorem Lend.cons {σ:Nat→Nat}{b:Nat}{ρ:List Nat}{e:TypeId}{cs ds:List V}(h1:hb[b]? =some (some ⟨e,ds⟩))(h2:V.rns σ cs=ds)(k:Lend σ hb ρ hs):Lend σ hb (b::ρ) (some ⟨e,cs⟩::hs):=⟨⟨ds,h1,h2⟩,k⟩
theorem Lend.len {σ:Nat→Nat}: ∀{ρ:List Nat}{hs:Hp},Lend σ hb ρ hs→ρ.length=hs.length
 | [],[],_=>rfl
 |_::ρ,none::hs,hh=>by simp[Lend.len (ρ:=ρ) hh.2]
 |_::ρ,some B::hs,hh=>by simp[Lend.len (ρ:=ρ) hh.2]
 | [],_::_,hh=>hh.elim
 |_::_,[],hh=>hh.elim
theorem Lend.get {σ:Nat→Nat}: ∀{ρ:List Nat}{hs:Hp},Lend σ hb ρ hs→ ∀(i b:Nat),ρ[i]? =some b→hb[b]? =(rnH σ hs)[i]?
 | [],[],_,i,b,hi=>by simp at hi
 |c::ρ,none::hs,hh,0,b,hi=>by simp at hi;subst hi;simpa[rnH]using hh.1
 |c::ρ,none::hs,hh,i+1,b,hi=>by
  have:=Lend.get hh.2 i b (by simpa using hi)
  simpa[rnH]using this
 |c::ρ,some B::hs,hh,0,b,hi=>by
  simp at hi;subst hi
  obtain⟨cs,h1,h2⟩:=hh.1
  rw[h1,←h2];simp[rnH,Blk.rn]
 |c::ρ,some B::hs,hh,i+1,b,hi=>by
  have:=Lend.get hh.2 i b (by simpa using hi)
  simpa[rnH]using this
 | [],_::_,hh,_,_,_=>hh.elim
 |_::_,[],hh,_,_,_=>hh.elim
theorem Fn.lendB (hc:Fn P f hs args r hs')(ρ:List Nat)(hnd:ρ.Nodup)(hlt:ρ.all (fun b=>a3A b hb.length)=true)(hl:Lend (sg ρ hb.length) hb ρ hs)(hx:V.rns (sg ρ hb.length) args=xs)(hr:r.rn (sg ρ hb.length)=v)(hh:qF hb ρ hs'=hb'):Fn P f hb xs v hb':=by
 have:=Fn.frame (hb:=hb) hc ρ hl.len hnd (fun b hb'=>by
  have h2:=a1R.1 hlt b hb'
  exact a2q (n:=b+1) h2) hl.get
 rw[hx,hr,hh]at this
 exact this
theorem aUa {X:Nat→Prop}{M:List (Option Nat)}{w:World}{vs:List Value}(hl:V.les wP xs args)(hv:VCells X M w xs vs):VCells X M w args vs:=V.les_sound (fun _ hb=>by cases hb) _ _ _ hl hv
theorem Fn.argsLe (hc:Fn P f h args r hb)(hl:V.les wP xs args):Fn P f h xs r hb:=fun A M w vs H hv=>hc A M w vs H (aUa hl hv)
end
@[simp] theorem aAo {f:Nat→Nat}{k:IntKind}(l:List Int):V.rns f (l.map (eI k))=l.map (eI k):=qJ (fun _=>rfl) l
@[simp] theorem aAn {f:Nat→Nat}(l:List Bool):V.rns f (l.map eB)=l.map eB:=qJ (fun _=>rfl) l
@[simp] theorem aYt {f:Nat→Nat}(l:List ByteArray):V.rns f (l.map eS)=l.map eS:=qJ (fun _=>rfl) l
@[simp] theorem aY6 {α:Type}{f:Nat→Nat}{K:Nat}{E:α→V}(l:List (List α)):V.rns f (l.map (eL K E))=l.map (eL K E):=qJ (fun _=>rfl) l
theorem all_map {α:Type}{E:α→V}(hE: ∀x,(E x).one=true)(l:List α):(l.map E).all V.one=true:=by simp[a1R,hE]
mutual
def V.rf :V→Bool
 | .sc _=>true
 | .row _ _ es=>es.isEmpty
 | .ptr _ _=>true
 | .mp _=>true
 | .sl _ _ _ _ _=>true
 | .agg cs=>V.rfs cs
 | .tup cs=>V.rfs cs
 | .eptr _ _ _=>false
 | .any=>true
def V.rfs :List V→Bool
 | []=>true
 |c::cs=>c.rf&&V.rfs cs
end
section
variable {X X':Nat→Prop}{M:List (Option Nat)}{w:World}
mutual
theorem VR.rf : ∀(x:V)(v:Value),x.rf=true→VR X M w x v→VR X' M w x v
 | .sc _,v,_,h=>by unfold VR at h ⊢; exact h
 | .any,v,_,_=>by unfold VR;trivial
 | .row nil k es,v,hr,h=>by
  unfold V.rf at hr
  have:es=[]:=by simpa using hr
  subst this
  unfold VR at h⊢
  obtain⟨a,cap,h1,h2,h3,h4,h5,h6⟩:=h
  exact⟨a,cap,h1,h2,h3,h4,h5,fun hne=>absurd rfl hne⟩
 | .ptr _ _,v,_,h=>by unfold VR at h ⊢; exact h
 | .mp _,v,_,h=>by unfold VR at h ⊢; exact h
 | .sl _ _ _ _ _,v,_,h=>by unfold VR at h ⊢; exact h
 | .agg cs,v,hr,h=>by
  unfold V.rf at hr
  unfold VR at h⊢
  obtain⟨vs,h1,h2⟩:=h
  exact⟨vs,h1,VCells.rf cs vs hr h2⟩
 | .tup cs,v,hr,h=>by
  unfold V.rf at hr
  unfold VR at h⊢
  obtain⟨vs,h1,h2⟩:=h
  exact⟨vs,h1,VCells.rf cs vs hr h2⟩
 | .eptr _ _ _,v,hr,_=>by unfold V.rf at hr;cases hr
theorem VCells.rf : ∀(cs:List V)(vs:List Value),V.rfs cs=true→VCells X M w cs vs→VCells X' M w cs vs
 | [],vs,_,h=>by unfold VCells at h ⊢; exact h
 |c::cs,vs,hr,h=>by
  unfold V.rfs at hr
  simp only[a1V]at hr
  unfold VCells at h⊢
  obtain⟨v,rest,h1,h2,h3⟩:=h
  exact⟨v,rest,h1,VR.rf c v hr.1 h2,VCells.rf cs rest hr.2 h3⟩
end
end
theorem aFK {α:Type}{E:α→V}(hE: ∀x,(E x).rf=true): ∀l:List α,V.rfs (l.map E)=true
 | []=>by simp[V.rfs]
 |x::l=>by simp[V.rfs,hE,aFK hE l]
mutual
theorem V.rf_rn (f:Nat→Nat): ∀x:V,(x.rn f).rf=x.rf
 | .sc _=>by unfold V.rn;rfl
 | .any=>by unfold V.rn;rfl
 | .row _ _ _=>by unfold V.rn;rfl
 | .ptr _ _=>by unfold V.rn;rfl
 | .mp _=>by unfold V.rn;rfl
 | .sl _ _ _ _ _=>by unfold V.rn;rfl
 | .eptr _ _ _=>by unfold V.rn;rfl
 | .agg cs=>by unfold V.rn;simp only[V.rf];exact V.rfs_rn f cs
 | .tup cs=>by unfold V.rn;simp only[V.rf];exact V.rfs_rn f cs
theorem V.rfs_rn (f:Nat→Nat): ∀cs:List V,V.rfs (V.rns f cs)=V.rfs cs
 | []=>by unfold V.rns;rfl
 |c::cs=>by unfold V.rns;simp only[V.rfs];rw[V.rf_rn f c,V.rfs_rn f cs]
end
def aGT (β:List Nat):Nat→Hp→Hp
 |_,[]=>[]
 |i,o::h=>(bif β.elem i then o else none)::aGT β (i+1) h
def only (β:List Nat)(h:Hp):Hp:=aGT β 0 h
theorem aPw (β:List Nat): ∀(h:Hp)(i j:Nat),(aGT β i h)[j]? =(h[j]?).map fun o=>bif β.elem (i+j)then o else none
 | [],i,j=>by simp[aGT]
 |o::h,i,0=>by simp[aGT]
 |o::h,i,j+1=>by
  simp only[aGT,a1Q]
  rw[aPw β h (i+1) j]
  simp[a3f,a2Y 1 j]
theorem aEg {β:List Nat}{h:Hp}{j:Nat}{B:Blk}(hj:(only β h)[j]? =some (some B)):j∈β∧h[j]? =some (some B):=by
 unfold only at hj
 rw[aPw]at hj
 cases ho:h[j]? with
 |none=>rw[ho]at hj;cases hj
 |some o=>
  rw[ho]at hj
  simp only[a2R,a1P,a1M]at hj
  cases he:β.elem j with
  |false=>rw[he]at hj;cases hj
  |true=>rw[he]at hj;simp only[cond_true]at hj;subst hj;exact⟨List.elem_iff.1 he,rfl⟩
theorem aUT (β:List Nat)(h:Hp):(only β h).length=h.length:=by
 have: ∀(h:Hp)(i:Nat),(aGT β i h).length=h.length:=by
  intro h
  induction h with
  |nil=>intro i;rfl
  |cons o h ih=>intro i;simp[aGT,ih]
 exact this h 0
theorem HR.only {A A2:Nat→Prop}{M:List (Option Nat)}{h:Hp}{w:World}(H:HR A M h w)(β:List Nat)(h1: ∀g,A2 g→g<w.heap.size)(h2: ∀(b:Nat) (B:Blk) (g:Nat),b∈β→h[b]? =some (some B)→M[b]? =some (some g)→ ¬A2 g)
  (h3: ∀g,Xs A2 M (Vm.only β h) g→Xs A M h g):HR A2 M (Vm.only β h) w:=by
 refine⟨by rw[aUT];exact H.len,h1,fun b B hb=> ?_,fun b b' B B' g hb hb'=>H.inj b b' B B' g (aEg hb).2 (aEg hb').2,H.glob.avoid fun g _ hx=>h3 g hx⟩
 obtain⟨hm,hb'⟩:=aEg hb
 obtain⟨k0,hn|⟨g,cs,hg,hA,hh,hle,hcs⟩⟩:=H.blk b B hb'
 ·exact⟨k0,.inl hn⟩
 exact⟨k0,.inr ⟨g,cs,hg,h2 b B g hm hb' hg,hh,hle,hcs.avoid (fun g _ hx=>h3 g hx)⟩⟩
def Brw (σ:Nat→Nat)(hE:Hp):List V→List V→Prop
 | [],[]=>True
 |x::xs,y::ys=>(V.le wP x (y.rn σ)∨ ∃z,sG hE x=some z∧V.le wP z y)∧Brw σ hE xs ys
 |_,_=>False
theorem Brw.nil {σ:Nat→Nat}{hE:Hp}:Brw σ hE [] []:=trivial
theorem Brw.same {σ:Nat→Nat}{hE:Hp}{x y:V}{xs ys:List V}(h:y.rn σ=x)(k:Brw σ hE xs ys):Brw σ hE (x::xs) (y::ys):=⟨.inl (by rw[h];exact V.le_refl _ _),k⟩
theorem Brw.row {σ:Nat→Nat}{hE:Hp}{x y:V}{xs ys:List V}(h:sG hE x=some y)(k:Brw σ hE xs ys):Brw σ hE (x::xs) (y::ys):=⟨.inr ⟨y,h,V.le_refl _ _⟩,k⟩
theorem aSF {α:Type}{E:α→V}{F:V→Option V}(hE: ∀x,F (E x)=some (E x)): ∀l:List α,(l.map E).mapM F=some (l.map E)
 | []=>rfl
 |x::l=>by
  simp only[a2j,a2h,hE,a2w,a2m,aSF hE l,a2K]
theorem aUg {α:Type}{E:α→V}{l:List α}{hE:Hp}{b q d:Nat}{e:TypeId}(hn:l.length=q)(hb:hE[b]? =some (some ⟨e,l.map E⟩))(hx: ∀x,c9 hE d (E x)=some (E x)):c9 hE (d+1) (.sl b 0 q 1 false)=some (.row none 1 (l.map E)):=by
 subst hn
 simp only[c9,hb]
 rw[if_pos ⟨by simp,by omega,.inr trivial⟩]
 simp only[a2d,Nat.mul_one]
 rw[a1N (by simp),aSF hx]
 simp[yE]
theorem aN7 {α:Type}{E:α→V}{l:List α}{hE:Hp}{b q:Nat}{e:TypeId}(hn:l.length=q)(hb:hE[b]? =some (some ⟨e,l.map E⟩))(hx: ∀x,c9 hE 3 (E x)=some (E x)):sG hE (.sl b 0 q 1 false)=some (.row none 1 (l.map E)):=aUg hn hb hx
theorem aLR {F:V→Option V}:([]:List V).mapM F=some []:=rfl
theorem iS {F:V→Option V}{c y:V}{cs ys:List V}(h:F c=some y)(k:cs.mapM F=some ys):(c::cs).mapM F=some (y::ys):=by simp[a2h,h,k]
theorem aX7 {hE:Hp}{cs ys:List V}(h:cs.mapM (c9 hE 4)=some ys):sG hE (.agg cs)=some (.agg ys):=by simp[sG,h]
set_option maxHeartbeats 1000000 in
theorem Fn.borrow {P:Program}{f:FuncId}{hs hs' hb:Hp}{args xs:List V}{r:V}(hc:Fn P f hs args r hs')(ρ β:List Nat)(hlen:ρ.length=hs.length)(hnd:ρ.Nodup)(hlt: ∀b∈ρ,b<hb.length)(hdis: ∀b∈β,b∉ρ)
  (hlend: ∀i b:Nat,ρ[i]? =some b→hb[b]? =(rnH (sg ρ hb.length) hs)[i]?) (hx:Brw (sg ρ hb.length) (only β hb) xs args) (hrf:r.rf=true) (hrb: ∀(i:Nat)(B:Blk),hs'[i]? =some (some B)→V.rfs B.cells=true):
  Fn P f hb xs (r.rn (sg ρ hb.length)) (qF hb ρ hs'):=by
 intro A M w vs H hargs
 have hσ: ∀i b:Nat,ρ[i]? =some b→sg ρ hb.length i=b:=fun i b hi=>by simp[sg,hi]
 have hσ': ∀i,ρ.length≤i→sg ρ hb.length i=hb.length+(i-ρ.length):=fun i hi=>by simp[sg,hi]
 generalize hsg:sg ρ hb.length=σ at *
 let Ms:List (Option Nat):=ρ.map fun b=>(M[b]?).getD none
 have hMs: ∀i b:Nat,ρ[i]? =some b→Ms[i]? =M[b]? :=by
  intro i b hi
  have hb':b<M.length:=by rw[H.len];exact hlt b (a11 hi)
  simp only[Ms,a17,hi,a1P]
  rw[a1O hb']
  rfl
 have hMslen:Ms.length=hs.length:=by simp[Ms,hlen]
 have hfrom: ∀b y,M[σ b]? =some y→Ms[b]? =some y:=by
  intro b y hy
  rcases a2f b ρ.length with hl|hl
  ·have hi:ρ[b]? =some ρ[b]:=a1O hl
   rw[hMs b _ hi,←hσ b _ hi];exact hy
  rw[hσ' b hl]at hy
  have:=(a1K.1 hy).1
  rw[H.len]at this;omega
 let A':Nat→Prop:=fun g=>A g∨ ∃b B,b∉ρ∧b∉β∧hb[b]? =some (some B)∧M[b]? =some (some g)
 have hin: ∀{i:Nat}{B:Blk},hs[i]? =some (some B)→ ∃b,ρ[i]? =some b∧hb[b]? =some (some (B.rn σ))∧Ms[i]? =M[b]? :=by
  intro i B hi
  have hl:i<ρ.length:=by rw[hlen];exact(a1K.1 hi).1
  have hr:ρ[i]? =some ρ[i]:=a1O hl
  refine⟨_,hr, ?_,hMs i _ hr⟩
  rw[hlend i _ hr,aOC,hi];rfl
 have hliveS: ∀g,c8 Ms hs g→c8 M hb g:=by
  rintro g ⟨i,B,hi,hm⟩
  obtain⟨b,_,hb1,hb2⟩:=hin hi
  exact⟨b,_,hb1,by rw[←hb2];exact hm⟩
 have hX1: ∀g,Xs A' Ms hs g→Xs A M hb g:=by
  rintro g ((ha|⟨b,B,_,_,hb1,hb2⟩)|hl)
  ·exact .inl ha
  ·exact .inr ⟨b,B,hb1,hb2⟩
  exact .inr (hliveS g hl)
 have hout: ∀{b:Nat}{B:Blk}{g:Nat},b∉ρ→hb[b]? =some (some B)→M[b]? =some (some g)→ ¬c8 Ms hs g:=by
  rintro b B g hb0 hb1 hb2 ⟨i,C,hi,hm⟩
  obtain⟨c,hc0,hc1,hc2⟩:=hin hi
  have:=H.inj b c B _ g hb1 hc1 hb2 (by rw[←hc2];exact hm)
  subst this
  exact hb0 (a11 hc0)
 have hA': ∀{b:Nat}{B:Blk}{g:Nat},b∈β→hb[b]? =some (some B)→M[b]? =some (some g)→ ¬A' g:=by
  rintro b B g hbβ hb1 hb2 (ha|⟨c,C,hc0,hc3,hc1,hc2⟩)
  ·obtain⟨_,⟨hn,_⟩|⟨g',cs,hg',hA,_⟩⟩:=H.blk b B hb1
   ·rw[hb2]at hn;cases hn
   rw[hb2]at hg';injection hg' with hg';injection hg' with hg';subst hg';exact hA ha
  have:=H.inj b c B C g hb1 hc1 hb2 hc2
  subst this;exact hc3 hbβ
 have HS:HR A' Ms hs w:=by
  refine⟨hMslen, ?_, ?_, ?_,H.glob.avoid fun g _ hx=>hX1 g hx⟩
  ·rintro g (ha|⟨b,B,_,_,hb1,hb2⟩)
   ·exact H.alt g ha
   exact H.lt (.inr ⟨b,B,hb1,hb2⟩)
  ·intro i B hi
   obtain⟨b,hb0,hb1,hb2⟩:=hin hi
   obtain⟨h1,h2⟩:=H.blk b _ hb1
   refine⟨V.one_rns h1, ?_⟩
   rcases h2 with⟨hn,hc0⟩|⟨g,cs,hg,hA,hh,hle,hcs⟩
   ·refine .inl ⟨by rw[hb2];exact hn, ?_⟩
    have:=congrArg a3t hc0
    simp only[Blk.rn,V.rns_length,a2J]at this
    exact a1S this
   refine .inr ⟨g,cs,by rw[hb2];exact hg, ?_,by simpa[Blk.rn,V.rns_length]using hh, ?_, ?_⟩
   ·rintro(ha|⟨c,C,hc0,_,hc1,hc2⟩)
    ·exact hA ha
    have:=H.inj b c _ C g hb1 hc1 hg hc2
    subst this
    exact hc0 (a11 hb0)
   ·simpa[Blk.rn,V.rns_length]using hle
   have hcs':VCells (Xs A M hb) M w (V.rns σ B.cells) (cs.toList.take B.cells.length):=by simpa[Blk.rn,V.rns_length]using hcs
   exact(VCells.rn_from hfrom _ _ hcs').avoid (fun g _ hx=>hX1 g hx)
  intro i j B C g hi hj mi mj
  obtain⟨b,hb0,hb1,hb2⟩:=hin hi
  obtain⟨c,hc0,hc1,hc2⟩:=hin hj
  have:=H.inj b c _ _ g hb1 hc1 (by rw[←hb2];exact mi) (by rw[←hc2];exact mj)
  subst this
  have hil:=(a1K.1 hb0).1
  exact(a3k hil hnd).1 (hb0.trans hc0.symm)
 have HB:HR (Xs A' Ms hs) M (only β hb) w:=by
  refine H.only β (fun g hg=>HS.lt hg) ?_ ?_
  ·rintro b B g hbβ hb1 hb2 (ha|hl)
   ·exact hA' hbβ hb1 hb2 ha
   exact hout (hdis b hbβ) hb1 hb2 hl
  rintro g (hx|⟨b,B,hb1,hb2⟩)
  ·exact hX1 g hx
  exact .inr ⟨b,B,(aEg hb1).2,hb2⟩
 have hargsS:VCells (Xs A' Ms hs) Ms w args vs:=by
  have key: ∀(xs args:List V)(vs:List Value),Brw σ (only β hb) xs args→VCells (Xs A M hb) M w xs vs→VCells (Xs A' Ms hs) Ms w args vs:=by
   intro xs
   induction xs with
   |nil=>
    intro args vs hx hv
    cases args with
    |nil=>unfold VCells at hv ⊢; exact hv
    |cons=>exact hx.elim
   |cons x xs ih=>
    intro args vs hx hv
    cases args with
    |nil=>exact hx.elim
    |cons y ys=>
     unfold VCells at hv⊢
     obtain⟨v,rest,e1,e2,e3⟩:=hv
     refine⟨v,rest,e1, ?_,ih ys rest hx.2 e3⟩
     rcases hx.1 with hl|⟨z,hz,hl⟩
     ·exact(VR.rn_from hfrom _ _ (V.le_sound (fun _ hb=>by cases hb) _ _ _ hl e2)).avoid (fun g _ hx=>hX1 g hx)
     have e2':VR (Xs (Xs A' Ms hs) M (only β hb)) M w x v:=e2.avoid (fun g _ hx=>by
      rcases hx with hx|⟨b,B,hb1,hb2⟩
      ·exact hX1 g hx
      exact .inr ⟨b,B,(aEg hb1).2,hb2⟩)
     exact V.le_sound (fun _ hb=>by cases hb) _ _ _ hl (aRK HB e2' hz).lift
  exact key xs args vs hx hargs
 refine(hc A' Ms w vs HS hargsS).mono fun v w' ⟨Ms',G,hv⟩=> ?_
 obtain⟨Mn,rfl⟩:=G.pre
 have hMnlen:hs'.length=ρ.length+Mn.length:=by rw[←G.hr.len];simp[Ms]
 have hto: ∀b y,(Ms++Mn)[b]? =some y→(M++Mn)[σ b]? =some y:=by
  intro b y hy
  rcases a2f b ρ.length with hl|hl
  ·have hi:ρ[b]? =some ρ[b]:=a1O hl
   rw[a1L (by rw[hMslen,←hlen];exact hl),hMs b _ hi]at hy
   rw[hσ b _ hi,a1L (by rw[H.len];exact hlt _ (a11 hi))]
   exact hy
  rw[a1U (by rw[hMslen,←hlen];exact hl),hMslen,←hlen]at hy
  rw[hσ' b hl,a1U (by rw[H.len];omega),H.len,show hb.length+(b-ρ.length)-hb.length=b-ρ.length by omega]
  exact hy
 have hlentlen:(jX hb ρ (rnH σ hs')).length=hb.length:=aDq _ _ _
 have hrnlen:(rnH σ hs').length=hs'.length:=by simp[rnH]
 have hcase: ∀{b:Nat}{B:Blk},(qF hb ρ hs')[b]? =some (some B)→(b∉ρ∧hb[b]? =some (some B))∨ ∃i C,hs'[i]? =some (some C)∧b=σ i∧B=C.rn σ∧(M++Mn)[b]? =(Ms++Mn)[i]? :=by
  intro b B hb1
  unfold qF at hb1
  rw[hsg]at hb1
  rcases a2f b hb.length with hl|hl
  ·rw[a1L (by rw[hlentlen];exact hl)]at hb1
   by_cases hm:b∈ρ
   ·obtain⟨i,hi⟩:=a2D.1 hm
    rw[aI2 hnd hlt (by rw[hrnlen];omega) hi]at hb1
    obtain⟨C,hC,hB⟩:=aGJ hb1
    have hil:=(a1K.1 hi).1
    refine .inr ⟨i,C,hC,(hσ i b hi).symm,hB, ?_⟩
    rw[a1L (by rw[H.len];exact hl),a1L (by rw[hMslen,←hlen];exact hil),hMs i b hi]
   rw[aDL hm]at hb1
   exact .inl ⟨hm,hb1⟩
  rw[a1U (by rw[hlentlen];exact hl),hlentlen,a2Q]at hb1
  obtain⟨C,hC,hB⟩:=aGJ hb1
  refine .inr ⟨_,C,hC, ?_,hB, ?_⟩
  ·rw[hσ' _ (by omega)];omega
  rw[a1U (by rw[H.len];exact hl),a1U (by rw[hMslen,←hlen];omega),H.len,hMslen,←hlen]
  congr 1;omega
 have hlive: ∀g,g<w.heap.size→c8 (M++Mn) (qF hb ρ hs') g→c8 M hb g:=by
  rintro g hg ⟨b,B,hb1,hb2⟩
  rcases hcase hb1 with⟨hb0,hb3⟩|⟨i,C,hC,rfl,rfl,he⟩
  ·refine⟨b,B,hb3, ?_⟩
   rw[a1L (by rw[H.len];exact(a1K.1 hb3).1)]at hb2
   exact hb2
  exact hliveS g (G.live g hg ⟨i,C,hC,by rw[←he];exact hb2⟩)
 have hnew: ∀{i:Nat}{C:Blk}{b:Nat}{B:Blk}{g:Nat},hs'[i]? =some (some C)→(Ms++Mn)[i]? =some (some g)→b∉ρ→hb[b]? =some (some B)→M[b]? =some (some g)→False:=by
  intro i C b B g hi hm hb0 hb1 hb2
  have hgs:g<w.heap.size:=H.lt (.inr ⟨b,B,hb1,hb2⟩)
  exact hout hb0 hb1 hb2 (G.live g hgs ⟨i,C,hi,hm⟩)
 refine⟨M++Mn,⟨⟨Mn,rfl⟩,⟨?_, ?_, ?_, ?_,H.glob.ext G.ext (fun g _ hl=> .inr (hliveS g hl)) (fun g hg hx=>hx.elim .inl (fun hl=> .inr (hlive g hg hl)))⟩,G.ext.mono (fun g _ hl=>hliveS g hl),hlive⟩,VR.rf _ _ (by rw[V.rf_rn];exact hrf) (VR.rn_to hto _ _ hv)⟩
 ·unfold qF
  rw[hsg]
  simp only[a15,a2l,hlentlen,hrnlen,H.len]
  omega
 ·exact fun g hg=>a2o (H.alt g hg) G.ext.size
 ·intro b B hb1
  rcases hcase hb1 with⟨hb0,hb3⟩|⟨i,C,hC,rfl,rfl,he⟩
  ·have hbl:b<M.length:=by rw[H.len];exact(a1K.1 hb3).1
   obtain⟨h1,⟨hn,hc0⟩|⟨g,cs,hg,hA,hh,hle,hcs⟩⟩:=H.blk b B hb3
   ·exact⟨h1,.inl ⟨by rw[a1L hbl];exact hn,hc0⟩⟩
   have hgs:g<w.heap.size:=H.lt (.inr ⟨b,B,hb3,hg⟩)
   refine⟨h1,.inr ⟨g,cs,by rw[a1L hbl];exact hg,hA, ?_,hle, ?_⟩⟩
   ·exact hh.to (G.ext.block g hgs (hout hb0 hb3 hg))
   exact VCells.ext G.ext ⟨Mn,rfl⟩ (fun g _ hl=> .inr (hliveS g hl)) (fun g hg hx=>hx.elim .inl (fun hl=> .inr (hlive g hg hl))) _ _ hcs
  obtain⟨h1,h2⟩:=G.hr.blk i C hC
  refine⟨V.rns_mem (V.rn_one σ) h1, ?_⟩
  rcases h2 with⟨hn,hc0⟩|⟨g,cs,hg,hA,hh,hle,hcs⟩
  ·refine .inl ⟨by rw[he];exact hn, ?_⟩
   simp[Blk.rn,hc0,V.rns]
  refine .inr ⟨g,cs,by rw[he];exact hg,fun ha=>hA (.inl ha),by simpa[Blk.rn,V.rns_length]using hh, ?_, ?_⟩
  ·simpa[Blk.rn,V.rns_length]using hle
  have h5:=VCells.rn_to hto _ _ hcs
  have h6:VCells (Xs A (M++Mn) (qF hb ρ hs')) (M++Mn) w' (V.rns σ C.cells) (cs.toList.take C.cells.length):=VCells.rf _ _ (by rw[V.rfs_rn];exact hrb i C hC) h5
  simpa[Blk.rn,V.rns_length]using h6
 intro b c B C g hb1 hc1 mb mc
 rcases hcase hb1 with⟨hb0,hb3⟩|⟨i,D,hD,rfl,rfl,he⟩<;>rcases hcase hc1 with⟨hc0,hc3⟩|⟨j,E,hE,rfl,rfl,he'⟩
 ·rw[a1L (by rw[H.len];exact(a1K.1 hb3).1)]at mb
  rw[a1L (by rw[H.len];exact(a1K.1 hc3).1)]at mc
  exact H.inj b c B C g hb3 hc3 mb mc
 ·rw[a1L (by rw[H.len];exact(a1K.1 hb3).1)]at mb
  rw[he']at mc
  exact(hnew hE mc hb0 hb3 mb).elim
 ·rw[a1L (by rw[H.len];exact(a1K.1 hc3).1)]at mc
  rw[he]at mb
  exact(hnew hD mb hc0 hc3 mc).elim
 rw[G.hr.inj i j D E g hD hE (by rw[←he];exact mb) (by rw[←he'];exact mc)]
def rfB :Hp→Prop
 | []=>True
 |none::h=>rfB h
 |some B::h=>V.rfs B.cells=true∧rfB h
theorem rfB.get : ∀{h:Hp},rfB h→ ∀(i:Nat)(B:Blk),h[i]? =some (some B)→V.rfs B.cells=true
 | [],_,i,B,hi=>by simp at hi
 |none::h,hh,0,B,hi=>by simp at hi
 |none::h,hh,i+1,B,hi=>rfB.get (h:=h) hh i B (by simpa using hi)
 |some C::h,hh,0,B,hi=>by simp at hi;subst hi;exact hh.1
 |some C::h,hh,i+1,B,hi=>rfB.get (h:=h) hh.2 i B (by simpa using hi)
theorem rfB.nil :rfB []:=trivial
theorem rfB.live {h:Hp}{e:TypeId}{cs:List V}(hc:V.rfs cs=true)(k:rfB h):rfB (some ⟨e,cs⟩::h):=⟨hc,k⟩
theorem Fn.lendR {P:Program}{f:FuncId}{hs hs' hb hb':Hp}{args xs:List V}{r v:V}(hc:Fn P f hs args r hs')(ρ β:List Nat)(hnd:ρ.Nodup)(hlt:ρ.all (fun b=>a3A b hb.length)=true)(hdis: ∀b∈β,b∉ρ)(hl:Lend (sg ρ hb.length) hb ρ hs)
  (hx:Brw (sg ρ hb.length) (only β hb) xs args) (hrf:r.rf=true) (hrb:rfB hs') (hr:r.rn (sg ρ hb.length)=v) (hh:qF hb ρ hs'=hb'):Fn P f hb xs v hb':=by
 have:=Fn.borrow (hb:=hb) hc ρ β hl.len hnd (fun b hb'=>by
  have h2:=a1R.1 hlt b hb'
  exact a2q (n:=b+1) h2) hdis hl.get hx hrf hrb.get
 rw[hr,hh]at this
 exact this
section
variable {P:Program}{N:Nat}{Q:Ex→List V→Hp→Prop}{s:List V}{h h':Hp}
theorem AB.seq_g {c d:Code}(hh: ∀K:List V→Hp→Prop,(∀{s h},AB P N d Q s h→K s h)→(∀{s h s' h'},Ghost N s h s' h'→K s' h'→K s h)→AB P N c (Ex.then K Q) s h):AB P N (.seq c d) Q s h:=
 AB.seq (hh _ (fun hk=>hk) (fun hg hk=>AB.ghost hg hk))
variable {f:FuncId}{xs:List V}{r:V}
variable (t:TypeId)(xo yo:Operand)
theorem aNC {t:TypeId}{sz by_:Nat}{z:Value}(ht:aM P t=some ⟨.bool,sz,by_,z⟩)(a b:Bool):aS P (Op.equal t (.bool a) (.bool b))=some (a == b):=by
 have h1:=(cR ht).1
 have e1:underlying t=Sem.program fun p=>match p.underlying t with|some d=>pure d|none=>stuck "no such type" :=rfl
 unfold Op.equal Op.maxDepth
 show aS P (Op.equalIn (9999+1) t (.bool a) (.bool b))=_
 rw[Op.equalIn,e1]
 show aS P (Sem.bind (Sem.program _) _)=_
 simp only[Sem.bind,aS,h1]
 rfl
theorem sQ {α β:Type}(s:Sem α)(f:α→β){a:α}(h:aS P s=some a):aS P (Functor.map f s)=some (f a):=by
 show aS P (Sem.bind s _)=_
 induction s with
 |pure x=>simp only[aS,a1M]at h;subst h;rfl
 |program k ih=>exact ih P h
 |mark m k ih=>exact ih h
 |_=>simp[aS]at h
theorem aUX {t:TypeId}{sz by_:Nat}{z:Value}(ht:aM P t=some ⟨.bool,sz,by_,z⟩)(a b:Bool):dC P .eql t xo yo (.sc (.bool a)) (.sc (.bool b))=some (.sc (.bool (a == b))):=by
 simp only[dC,eN,dB,aM5,pureV]
 have:aS P (do (pure ():Sem Unit);binOp .eql t (.bool a) (.bool b))=some (.bool (a == b)):=sQ _ _ (aNC ht a b)
 exact congrArg (a3j ofValue) this
theorem aRp {t:TypeId}{sz by_:Nat}{z:Value}(ht:aM P t=some ⟨.bool,sz,by_,z⟩)(a b:Bool):dC P .neq t xo yo (.sc (.bool a)) (.sc (.bool b))=some (.sc (.bool (a != b))):=by
 simp only[dC,eN,dB,aM5,pureV]
 have:aS P (do (pure ():Sem Unit);binOp .neq t (.bool a) (.bool b))=some (.bool (!(a == b))):=sQ _ (fun b=>Value.bool !b) (aNC ht a b)
 exact congrArg (a3j ofValue) this
theorem aRj (a b:ByteArray):dC P .eql t xo yo (.sc (.string a)) (.sc (.string b))=some (.sc (.bool (a.toList == b.toList))):=by
 simp only[dC,eN,dB,aQN,pureV];rfl
theorem a1o {e:TypeId}{sz by_:Nat}{z:Value}{nl:Option Bool}{k:Nat}{t:TypeId}(ht:aM P t=some ⟨.slice e,sz,by_,z⟩):aHL P t (.row nl k [])=some (.sc (.int .i64 0)):=by simp[aHL,ht]
theorem aPT {ts:Array TypeId}{ty:TypeId}{k:IntKind}{a b:Int}:aHV P ts ty [.sc (.int k a),.sc (.int k b)] false=some (.sc (.int k (if b<a then b else a))):=by
 simp[aHV,dB,Builtin.min_,Builtin.min2,pureV];rfl
theorem a0i {ts:Array TypeId}{ty:TypeId}{k:IntKind}{a b:Int}:aHV P ts ty [.sc (.int k a),.sc (.int k b)] true=some (.sc (.int k (if b>a then b else a))):=by
 simp[aHV,dB,Builtin.max_,Builtin.max2,pureV];rfl
end
theorem aYH {P:Program}{h h':Hp}{t e:TypeId}{ti:TI}{i b:Nat}{α:Type}{E:α→V}{l m:List α}{sz by_:Nat}{z:Value}{ag:Bool}{q:Nat}(hn:q≤l.length)(ht:aM P t=some ⟨.slice e,sz,by_,z⟩)(he:aM P e=some ti)(h1:ti.zero.cells.size=1∧ti.size=1∧1≤ti.bytes)(hb:h[b]? =some (some ⟨e,l.map E⟩)){s:V}(hs:fM h 1 s=some (m.map E,m.length))
  {r:List α} (ha:b6 ti.bytes (l.take q) m=some r) (hl:h.length=i) (hh:h.set b none++[some ⟨e,r.map E⟩]=h'):g6 P t t (.sl b 0 q 1 ag) s h=some (.sl i 0 r.length 1 ag,h'):=by
 obtain⟨h2,h3,h4⟩:=h1
 unfold b6 at ha
 split at ha
 ·rename_i hlim
  injection ha with ha
  have hql:(l.take q).length=q:=by simp;omega
  rw[hql]at hlim
  subst ha hl hh
  have hx:fM h ti.size s=some (m.map E,m.length):=by rw[h3];exact hs
  simp only[g6,ne_eq,not_true,if_false,ht,he]
  rw[if_pos ⟨by rw[h2,h3],by omega,h4⟩]
  simp only[hx,hb]
  rw[if_pos ⟨h3.symm,trivial,by simp;omega,hlim⟩]
  simp[a2z,a2r hn]
 cases ha
theorem mkC {k1 k2:IntKind}{P:Program}{h h':Hp}{t e:TypeId}{ti:TI}{i:Nat}{α:Type}{E:α→V}{sz by_:Nat}{z:Value}{ag:Bool}{j:Int}{y:α}(ht:aM P t=some ⟨.slice e,sz,by_,z⟩)(he:aM P e=some ti)(h1:1≤ti.bytes∧ti.size=1∧ti.zero.cells.size=1)(hz:ti.zero.cells.toList.map (V.soft∘dY)=[E y])(ho:(E y).one=true)(hag:cB ti.desc=ag){r:List α}
  (hm:mks ti.bytes y j=some r) (hl:h.length=i) (hh:h++[some ⟨e,r.map E⟩]=h'):aCv P t (.sc (.int k1 0)) (.sc (.int k2 j)) h=some (.sl i 0 0 1 ag,h'):=by
 obtain⟨h2,h3,h4⟩:=h1
 unfold mks at hm
 split at hm
 ·rename_i hlim
  injection hm with hm
  subst hm hl hh hag
  simp only[aCv,ht,he]
  rw[if_pos ⟨a3a _,hlim.1,hlim.2,h2,by omega,by rw[h4,h3],by rw[hz];simp[ho]⟩,hz]
  simp only[h3,if_true]
  have: ∀n,(a18 n [E y]).flatten=(a18 n y).map E:=fun n=>by
   induction n with
   |zero=>rfl
   |succ n ih=>simp only[a2L,a2S,ih,a2j];rfl
  rw[this];simp
 cases hm
def tN :Nat→List V→List (Nat×V)
 |_,[]=>[]
 |i,x::xs=>(i,x)::tN (i+1) xs
theorem aQx : ∀(xs:List V)(i:Nat)(cells:List V),cells.length=i+xs.length→xs.all (fun x=>x.one&&(x.cells.length == 1))=true→pX (fun i=>some (i*1,1)) cells (tN i xs)=some (cells.take i++xs)
 | [],i,cells,hl,_=>by
  simp only[tN,pX,a2s]
  rw[a1N (by simp at hl;omega)]
 |x::xs,i,cells,hl,ho=>by
  simp only[a2A,a1V,beq_iff_eq]at ho
  obtain⟨⟨h1,h2⟩,h3⟩:=ho
  simp only[a2b]at hl
  have hc:x.cells=[x]:=by cases x<;>first|rfl|simp[V.one]at h1
  simp only[tN,pX]
  rw[if_pos ⟨by simp[V.flatOk,hc,h1],h2,by omega⟩,hc]
  have hs:splice cells (i*1) [x]=cells.set i x:=by
   have:=aNZ (E:=fun v:V=>v) (l:=cells) i (by omega) x
   simpa using this
  rw[hs,aQx xs (i+1) _ (by simp;omega) (by simpa[a1R,a1V]using h3)]
  congr 1
  rw[a2i (by simp;omega)]
  simp[a3b]
theorem a0p {P:Program}{h h':Hp}{t e:TypeId}{ti:TI}{i sz by_ len:Nat}{z:Value}{ps:List (Nat×V)}{xs:List V}{ag:Bool}(ht:aM P t=some ⟨.slice e,sz,by_,z⟩)(he:aM P e=some ti)(h1:len*1≤2^24)(h2:0<len)(hs:ti.size=1)(hag:cB ti.desc=ag)
  (hp:tN 0 xs=ps) (ho:xs.all (fun x=>x.one&&(x.cells.length == 1))=true) (hlen:xs.length=len) (hl:h.length=i) (hh:h++[some ⟨e,xs⟩]=h'):gJ P t len ps h=some (.sl i 0 len 1 ag,h'):=by
 have hones:xs.all V.one=true:=by
  rw[a1R]at ho⊢
  intro x hx
  have:=ho x hx
  simp only[a1V]at this
  exact this.1
 subst hp
 have:=aYM (h:=h) (len:=len) (cs:=xs) (ps:=tN 0 xs) (i:=i) (h':=h') ht he (by rw[hs];exact⟨h1,h2,by omega⟩) hag (by
  rw[hs]
  rw[aQx xs 0 _ (by simp[hs,hlen]) ho]
  simp) ⟨hones,by rw[hs,hlen];omega⟩ hl hh
 rw[hs]at this
 exact this
theorem aQQ {k:IntKind}(hk:k.signed=false)(n:Int):k.wrap n=n%2^k.bits:=by simp[IntKind.wrap,hk]
theorem aMb {k:IntKind}(hk:k.signed=false)(a b:Nat)(ha:a<2^k.bits)(hb:b<2^k.bits):bits .or k (a:Int) (b:Int)=((a ||| b:Nat):Int):=by
 have hab:a ||| b<2^k.bits:=Nat.or_lt_two_pow ha hb
 simp only[bits,aQQ hk,BitVec.toNat_or,BitVec.toNat_ofInt]
 have e1:((a:Int)%((2^k.bits:Nat):Int)).toNat=a:=by rw[←a2F,a2u,a2W ha]
 have e2:((b:Int)%((2^k.bits:Nat):Int)).toNat=b:=by rw[←a2F,a2u,a2W hb]
 rw[e1,e2]
 rw[show(2:Int)^k.bits=((2^k.bits:Nat):Int) by simp,←a2F,a2W hab]
theorem aOf {k:IntKind}(a b:Nat)(ha:a<2^k.bits):shr k (a:Int) (b:Int)=some ((a/2^b:Nat):Int):=by
 unfold shr
 rw[if_neg (by omega)]
 congr 1
 rw[a2u]
 have:(2:Int)^min b k.bits=((2^min b k.bits:Nat):Int):=by simp
 rw[this,Int.fdiv_eq_ediv_of_nonneg _ (Int.natCast_nonneg _),←Int.natCast_ediv]
 congr 1
 rcases a3l b k.bits with hb|hb
 ·rw[a2r hb]
 rw[a3o hb,a3p ha,a3p (a2o ha (Nat.pow_le_pow_right (by omega) hb))]
theorem aSs {k:IntKind}(hk:k.signed=false)(a b:Nat):shl k (a:Int) (b:Int)=some ((a*2^b%2^k.bits:Nat):Int):=by
 unfold shl
 rw[if_neg (by omega),aQQ hk]
 congr 1
 rw[a2u]
 have e:(2:Int)^min b k.bits=((2^min b k.bits:Nat):Int):=by simp
 rw[e,show(2:Int)^k.bits=((2^k.bits:Nat):Int) by simp,←Int.natCast_mul,←a2F]
 congr 1
 rcases a3l b k.bits with hb|hb
 ·rw[a2r hb]
 rw[a3o hb,a3q]
 obtain⟨c,rfl⟩:=Nat.exists_eq_add_of_le hb
 rw[Nat.pow_add,←Nat.mul_assoc,Nat.mul_right_comm,a3q]
theorem aSf {α:Type}(l:List α)(i:Nat):aW l (i:Int)=l[i]? :=by simp[aW]
theorem bE {α:Type}(l:List α){i:Nat}(h:i<l.length):aW l (i:Int)=some l[i]:=by rw[aSf,a1O h]
theorem aUk {α:Type}{by_:Nat}{l m:List α}(h:(l.length+m.length)*by_≤lim):b6 by_ l m=some (l++m):=by simp[b6,h]
theorem aNi {α:Type}{by_:Nat}{z:α}{n:Nat}(h:n*by_≤lim):mks by_ z (n:Int)=some (a18 n z):=by
 simp only[mks,a2u]
 rw[if_pos ⟨by omega,h⟩]
theorem tS (a b:Nat):Int.tdiv (a:Int) (b:Int)=((a/b:Nat):Int):=by rw[Int.tdiv_eq_ediv_of_nonneg (by omega)];simp
theorem jK (a b:Nat):Int.tmod (a:Int) (b:Int)=((a%b:Nat):Int):=by rw[Int.tmod_eq_emod_of_nonneg (by omega)];simp
def Byt (l:List Int):Prop:= ∀x∈l,0≤x∧x<256
theorem Byt.append {l m:List Int}(h:Byt l)(k:Byt m):Byt (l++m):=fun x hx=>(List.mem_append.1 hx).elim (h x) (k x)
theorem Fn.toP {P:Program}{f:FuncId}{xs:List V}{r:V}(hc:Fn P f [] xs r []):PFn P f xs r:=by
 intro A w vs hA hGl hv
 refine(hc A [] w vs (HR.nil hA hGl) (hv.avoid (fun g _ hx=>aNY.1 hx))).mono fun v w' ⟨M',G,hr⟩=> ?_
 have hM:M'=[]:=a1S G.hr.len
 subst hM
 exact⟨G.ext.mono fun g _ hl=>by obtain⟨b,B,hb,_⟩:=hl;simp at hb,hr.avoid (fun g _ hx=>aNY.2 hx)⟩
end Go.Vm
namespace Go.Proofs.YtopdhljncajmpaaGreatDoor
open Go Go.Vm
abbrev fd (n:String) (t o b:Nat):Field:={name:=n,type:=t,offset:=o,embedded:=false,tag:= "",pkgPath:= "",byteOffset:=b}
abbrev ta (l:List Value):Array Value:=l.toArray
abbrev zs (n:Nat)(v:Value):List Value:=a18 n v
@[simp] theorem ti2 :aM Tryz.prog 2=some ⟨.int .i64,1,8,.int .i64 0⟩:=by kernel_rfl
@[simp] theorem ti3 :aM Tryz.prog 3=some ⟨.int .i64,1,8,.int .i64 0⟩:=by kernel_rfl
@[simp] theorem ti4 :aM Tryz.prog 4=some ⟨.bool,1,1,.bool false⟩:=by kernel_rfl
@[simp] theorem mF :aM Tryz.prog 5=some ⟨.int .u8,1,1,.int .u8 0⟩:=by kernel_rfl
@[simp] theorem ti9 :aM Tryz.prog 9=some ⟨.string,1,16,.string .empty⟩:=by kernel_rfl
@[simp] theorem aYd :aM Tryz.prog 12=some ⟨.int .u64,1,8,.int .u64 0⟩:=by kernel_rfl
@[simp] theorem aZD :aM Tryz.prog 21=some ⟨.int .i32,1,4,.int .i32 0⟩:=by kernel_rfl
@[simp] theorem lI :aM Tryz.prog 22=some ⟨.slice 5,1,24,.slice none 0 0⟩:=by kernel_rfl
@[simp] theorem jA :aM Tryz.prog 24=some ⟨.int .u32,1,4,.int .u32 0⟩:=by kernel_rfl
@[simp] theorem aZU :aM Tryz.prog 25=some ⟨.array 32 5,32,32,.agg (ta (zs 32 (.int .u8 0)))⟩:=by kernel_rfl
@[simp] theorem gZ :aM Tryz.prog 26=some ⟨.array 32 5,32,32,.agg (ta (zs 32 (.int .u8 0)))⟩:=by kernel_rfl
@[simp] theorem aZH :aM Tryz.prog 27=some ⟨.struct #[fd "Version" 24 0 0,fd "Prev" 26 1 4,fd "Root" 26 33 36,fd "Time" 24 65 68,fd "Bits" 24 66 72,fd "Nonce" 24 67 76],68,80,.agg (ta ([.int .u32 0]++zs 64 (.int .u8 0)++[.int .u32 0,.int .u32 0,.int .u32 0]))⟩:=by kernel_rfl
@[simp] theorem aED :aM Tryz.prog 28=some ⟨.struct #[fd "Version" 24 0 0,fd "Prev" 26 1 4,fd "Root" 26 33 36,fd "Time" 24 65 68,fd "Bits" 24 66 72,fd "Nonce" 24 67 76],68,80,.agg (ta ([.int .u32 0]++zs 64 (.int .u8 0)++[.int .u32 0,.int .u32 0,.int .u32 0]))⟩:=by kernel_rfl
@[simp] theorem aGz :aM Tryz.prog 29=some ⟨.int .u64,1,8,.int .u64 0⟩:=by kernel_rfl
@[simp] theorem aZF :aM Tryz.prog 30=some ⟨.array 4 29,4,32,.agg #[.int .u64 0,.int .u64 0,.int .u64 0,.int .u64 0]⟩:=by kernel_rfl
@[simp] theorem aHK :aM Tryz.prog 31=some ⟨.array 4 29,4,32,.agg #[.int .u64 0,.int .u64 0,.int .u64 0,.int .u64 0]⟩:=by kernel_rfl
@[simp] theorem aVz :aM Tryz.prog 32=some ⟨.slice 153,1,24,.slice none 0 0⟩:=by kernel_rfl
@[simp] theorem aZd :aM Tryz.prog 33=some ⟨.struct #[fd "Genesis" 28 0 0,fd "Limit" 31 68 80,fd "Window" 3 72 112,fd "Spacing" 24 73 120,fd "Future" 24 74 124,fd "Version" 24 75 128,fd "Checkpoints" 32 76 136,fd "Subsidy" 2 77 160,fd "Halving" 3 78 168,fd "Maturity" 3 79 176],80,184,.agg (ta ([.int .u32 0]++zs 64 (.int .u8 0)++[.int .u32 0,.int .u32 0,.int .u32 0,.int .u64 0,.int .u64 0,.int .u64 0,.int .u64 0,.int .i64 0,.int .u32 0,.int .u32 0,.int .u32 0,.slice none 0 0,.int .i64 0,.int .i64 0,.int .i64 0]))⟩:=by kernel_rfl
@[simp] theorem aA8 :aM Tryz.prog 34=some ⟨.struct #[fd "Genesis" 28 0 0,fd "Limit" 31 68 80,fd "Window" 3 72 112,fd "Spacing" 24 73 120,fd "Future" 24 74 124,fd "Version" 24 75 128,fd "Checkpoints" 32 76 136,fd "Subsidy" 2 77 160,fd "Halving" 3 78 168,fd "Maturity" 3 79 176],80,184,.agg (ta ([.int .u32 0]++zs 64 (.int .u8 0)++[.int .u32 0,.int .u32 0,.int .u32 0,.int .u64 0,.int .u64 0,.int .u64 0,.int .u64 0,.int .i64 0,.int .u32 0,.int .u32 0,.int .u32 0,.slice none 0 0,.int .i64 0,.int .i64 0,.int .i64 0]))⟩:=by kernel_rfl
@[simp] theorem aVm :aM Tryz.prog 35=some ⟨.slice 47,1,24,.slice none 0 0⟩:=by kernel_rfl
@[simp] theorem aUS :aM Tryz.prog 36=some ⟨.slice 44,1,24,.slice none 0 0⟩:=by kernel_rfl
@[simp] theorem aU2 :aM Tryz.prog 37=some ⟨.slice 51,1,24,.slice none 0 0⟩:=by kernel_rfl
@[simp] theorem aV2 :aM Tryz.prog 38=some ⟨.slice 54,1,24,.slice none 0 0⟩:=by kernel_rfl
@[simp] theorem aZN :aM Tryz.prog 39=some ⟨.struct #[fd "Params" 34 0 0,fd "Blocks" 35 80 184,fd "Ledgers" 36 81 208,fd "Contexts" 37 82 232,fd "Undos" 38 83 256],84,280,.agg (ta ([.int .u32 0]++zs 64 (.int .u8 0)++[.int .u32 0,.int .u32 0,.int .u32 0,.int .u64 0,.int .u64 0,.int .u64 0,.int .u64 0,.int .i64 0,.int .u32 0,.int .u32 0,.int .u32 0,.slice none 0 0,.int .i64 0,.int .i64 0,.int .i64 0,.slice none 0 0,.slice none 0 0,.slice none 0 0,.slice none 0 0]))⟩:=by kernel_rfl
@[simp] theorem aJv :aM Tryz.prog 40=some ⟨.struct #[fd "Params" 34 0 0,fd "Blocks" 35 80 184,fd "Ledgers" 36 81 208,fd "Contexts" 37 82 232,fd "Undos" 38 83 256],84,280,.agg (ta ([.int .u32 0]++zs 64 (.int .u8 0)++[.int .u32 0,.int .u32 0,.int .u32 0,.int .u64 0,.int .u64 0,.int .u64 0,.int .u64 0,.int .i64 0,.int .u32 0,.int .u32 0,.int .u32 0,.slice none 0 0,.int .i64 0,.int .i64 0,.int .i64 0,.slice none 0 0,.slice none 0 0,.slice none 0 0,.slice none 0 0]))⟩:=by kernel_rfl
@[simp] theorem aLa :aM Tryz.prog 42=some ⟨.slice 80,1,24,.slice none 0 0⟩:=by kernel_rfl
@[simp] theorem aZx :aM Tryz.prog 43=some ⟨.struct #[fd "Height" 3 0 0,fd "Tip" 26 1 8,fd "Coins" 42 33 40],34,64,.agg (ta ([.int .i64 0]++zs 32 (.int .u8 0)++[.slice none 0 0]))⟩:=by kernel_rfl
@[simp] theorem aJl :aM Tryz.prog 44=some ⟨.struct #[fd "Height" 3 0 0,fd "Tip" 26 1 8,fd "Coins" 42 33 40],34,64,.agg (ta ([.int .i64 0]++zs 32 (.int .u8 0)++[.slice none 0 0]))⟩:=by kernel_rfl
@[simp] theorem aS0 :aM Tryz.prog 45=some ⟨.slice 91,1,24,.slice none 0 0⟩:=by kernel_rfl
@[simp] theorem aZW :aM Tryz.prog 46=some ⟨.struct #[fd "Header" 28 0 0,fd "Txs" 45 68 80],69,104,.agg (ta ([.int .u32 0]++zs 64 (.int .u8 0)++[.int .u32 0,.int .u32 0,.int .u32 0,.slice none 0 0]))⟩:=by kernel_rfl
@[simp] theorem aDc :aM Tryz.prog 47=some ⟨.struct #[fd "Header" 28 0 0,fd "Txs" 45 68 80],69,104,.agg (ta ([.int .u32 0]++zs 64 (.int .u8 0)++[.int .u32 0,.int .u32 0,.int .u32 0,.slice none 0 0]))⟩:=by kernel_rfl
@[simp] theorem aTf :aM Tryz.prog 49=some ⟨.slice 24,1,24,.slice none 0 0⟩:=by kernel_rfl
@[simp] theorem aYr :aM Tryz.prog 50=some ⟨.struct #[fd "Height" 3 0 0,fd "Hash" 26 1 8,fd "Bits" 24 33 40,fd "First" 24 34 44,fd "Times" 49 35 48],36,72,.agg (ta ([.int .i64 0]++zs 32 (.int .u8 0)++[.int .u32 0,.int .u32 0,.slice none 0 0]))⟩:=by kernel_rfl
@[simp] theorem aH2 :aM Tryz.prog 51=some ⟨.struct #[fd "Height" 3 0 0,fd "Hash" 26 1 8,fd "Bits" 24 33 40,fd "First" 24 34 44,fd "Times" 49 35 48],36,72,.agg (ta ([.int .i64 0]++zs 32 (.int .u8 0)++[.int .u32 0,.int .u32 0,.slice none 0 0]))⟩:=by kernel_rfl
@[simp] theorem aYq :aM Tryz.prog 53=some ⟨.struct #[fd "Spent" 42 0 0],1,24,.agg #[.slice none 0 0]⟩:=by kernel_rfl
@[simp] theorem aVB :aM Tryz.prog 54=some ⟨.struct #[fd "Spent" 42 0 0],1,24,.agg #[.slice none 0 0]⟩:=by kernel_rfl
@[simp] theorem aYY :aM Tryz.prog 55=some ⟨.int .i64,1,8,.int .i64 0⟩:=by kernel_rfl
@[simp] theorem aMD :aM Tryz.prog 61=some ⟨.slice 22,1,24,.slice none 0 0⟩:=by kernel_rfl
@[simp] theorem aZG :aM Tryz.prog 74=some ⟨.pointer 80,1,8,.pointer none⟩:=by kernel_rfl
@[simp] theorem aZy :aM Tryz.prog 75=some ⟨.struct #[fd "Tx" 26 0 0,fd "Index" 24 32 32],33,36,.agg (ta (zs 32 (.int .u8 0)++[.int .u32 0]))⟩:=by kernel_rfl
@[simp] theorem jL :aM Tryz.prog 76=some ⟨.struct #[fd "Tx" 26 0 0,fd "Index" 24 32 32],33,36,.agg (ta (zs 32 (.int .u8 0)++[.int .u32 0]))⟩:=by kernel_rfl
@[simp] theorem aYc :aM Tryz.prog 77=some ⟨.struct #[fd "Value" 2 0 0,fd "Script" 22 1 8],2,32,.agg #[.int .i64 0,.slice none 0 0]⟩:=by kernel_rfl
@[simp] theorem aQA :aM Tryz.prog 78=some ⟨.struct #[fd "Value" 2 0 0,fd "Script" 22 1 8],2,32,.agg #[.int .i64 0,.slice none 0 0]⟩:=by kernel_rfl
@[simp] theorem aYv :aM Tryz.prog 79=some ⟨.struct #[fd "Out" 76 0 0,fd "Output" 78 33 40,fd "Height" 3 35 72,fd "Coinbase" 4 36 80],37,88,.agg (ta (zs 32 (.int .u8 0)++[.int .u32 0,.int .i64 0,.slice none 0 0,.int .i64 0,.bool false]))⟩:=by kernel_rfl
@[simp] theorem rP :aM Tryz.prog 80=some ⟨.struct #[fd "Out" 76 0 0,fd "Output" 78 33 40,fd "Height" 3 35 72,fd "Coinbase" 4 36 80],37,88,.agg (ta (zs 32 (.int .u8 0)++[.int .u32 0,.int .i64 0,.slice none 0 0,.int .i64 0,.bool false]))⟩:=by kernel_rfl
@[simp] theorem aOc :aM Tryz.prog 88=some ⟨.slice 97,1,24,.slice none 0 0⟩:=by kernel_rfl
@[simp] theorem aKZ :aM Tryz.prog 89=some ⟨.slice 78,1,24,.slice none 0 0⟩:=by kernel_rfl
@[simp] theorem aY2 :aM Tryz.prog 90=some ⟨.struct #[fd "Version" 24 0 0,fd "Inputs" 88 1 8,fd "Outputs" 89 2 32,fd "Lock" 24 3 56],4,64,.agg #[.int .u32 0,.slice none 0 0,.slice none 0 0,.int .u32 0]⟩:=by kernel_rfl
@[simp] theorem aCR :aM Tryz.prog 91=some ⟨.struct #[fd "Version" 24 0 0,fd "Inputs" 88 1 8,fd "Outputs" 89 2 32,fd "Lock" 24 3 56],4,64,.agg #[.int .u32 0,.slice none 0 0,.slice none 0 0,.int .u32 0]⟩:=by kernel_rfl
@[simp] theorem aYE :aM Tryz.prog 96=some ⟨.struct #[fd "Prev" 76 0 0,fd "Sequence" 24 33 36,fd "Witness" 61 34 40],35,64,.agg (ta (zs 32 (.int .u8 0)++[.int .u32 0,.int .u32 0,.slice none 0 0]))⟩:=by kernel_rfl
@[simp] theorem aJg :aM Tryz.prog 97=some ⟨.struct #[fd "Prev" 76 0 0,fd "Sequence" 24 33 36,fd "Witness" 61 34 40],35,64,.agg (ta (zs 32 (.int .u8 0)++[.int .u32 0,.int .u32 0,.slice none 0 0]))⟩:=by kernel_rfl
@[simp] theorem aYN :aM Tryz.prog 99=some ⟨.pointer 102,1,8,.pointer none⟩:=by kernel_rfl
@[simp] theorem aPQ :aM Tryz.prog 100=some ⟨.map 76 80,1,8,.map none⟩:=by kernel_rfl
@[simp] theorem aWc :aM Tryz.prog 101=some ⟨.struct #[{name:= "params",type:=34,offset:=0,embedded:=false,tag:= "",pkgPath:= "lightclient/ledger",byteOffset:=0},{name:= "height",type:=3,offset:=80,embedded:=false,tag:= "",pkgPath:= "lightclient/ledger",byteOffset:=184},{name:= "coins",type:=100,offset:=81,embedded:=false,tag:= "",pkgPath:= "lightclient/ledger",byteOffset:=192},{name:= "spent",type:=42,offset:=82,embedded:=false,tag:= "",pkgPath:= "lightclient/ledger",byteOffset:=200},{name:= "fees",type:=2,offset:=83,embedded:=false,tag:= "",pkgPath:= "lightclient/ledger",byteOffset:=224}],84,232,.agg (ta ([.int .u32 0]++zs 64 (.int .u8 0)++[.int .u32 0,.int .u32 0,.int .u32 0,.int .u64 0,.int .u64 0,.int .u64 0,.int .u64 0,.int .i64 0,.int .u32 0,.int .u32 0,.int .u32 0,.slice none 0 0,.int .i64 0,.int .i64 0,.int .i64 0,.int .i64 0,.map none,.slice none 0 0,.int .i64 0]))⟩:=by kernel_rfl
@[simp] theorem aHq :aM Tryz.prog 102=some ⟨.struct #[{name:= "params",type:=34,offset:=0,embedded:=false,tag:= "",pkgPath:= "lightclient/ledger",byteOffset:=0},{name:= "height",type:=3,offset:=80,embedded:=false,tag:= "",pkgPath:= "lightclient/ledger",byteOffset:=184},{name:= "coins",type:=100,offset:=81,embedded:=false,tag:= "",pkgPath:= "lightclient/ledger",byteOffset:=192},{name:= "spent",type:=42,offset:=82,embedded:=false,tag:= "",pkgPath:= "lightclient/ledger",byteOffset:=200},{name:= "fees",type:=2,offset:=83,embedded:=false,tag:= "",pkgPath:= "lightclient/ledger",byteOffset:=224}],84,232,.agg (ta ([.int .u32 0]++zs 64 (.int .u8 0)++[.int .u32 0,.int .u32 0,.int .u32 0,.int .u64 0,.int .u64 0,.int .u64 0,.int .u64 0,.int .i64 0,.int .u32 0,.int .u32 0,.int .u32 0,.slice none 0 0,.int .i64 0,.int .i64 0,.int .i64 0,.int .i64 0,.map none,.slice none 0 0,.int .i64 0]))⟩:=by kernel_rfl
@[simp] theorem aWE :aM Tryz.prog 118=some ⟨.map 9 4,1,8,.map none⟩:=by kernel_rfl
@[simp] theorem aFd :aM Tryz.prog 140=some ⟨.slice 26,1,24,.slice none 0 0⟩:=by kernel_rfl
@[simp] theorem aWV :aM Tryz.prog 152=some ⟨.struct #[fd "Height" 3 0 0,fd "Hash" 26 1 8],33,40,.agg (ta ([.int .i64 0]++zs 32 (.int .u8 0)))⟩:=by kernel_rfl
@[simp] theorem aNu :aM Tryz.prog 153=some ⟨.struct #[fd "Height" 3 0 0,fd "Hash" 26 1 8],33,40,.agg (ta ([.int .i64 0]++zs 32 (.int .u8 0)))⟩:=by kernel_rfl
@[simp] theorem aWn :aM Tryz.prog 160=some ⟨.map 76 4,1,8,.map none⟩:=by kernel_rfl
@[simp] theorem aWl :aM Tryz.prog 167=some ⟨.slice 76,1,24,.slice none 0 0⟩:=by kernel_rfl
@[simp] theorem aWJ :aM Tryz.prog 182=some ⟨.slice 140,1,24,.slice none 0 0⟩:=by kernel_rfl
@[simp] theorem aWL :aM Tryz.prog 190=some ⟨.struct #[fd "Message" 26 0 0,fd "Height" 3 32 32,fd "Age" 3 33 40],34,48,.agg (ta (zs 32 (.int .u8 0)++[.int .i64 0,.int .i64 0]))⟩:=by kernel_rfl
@[simp] theorem aE9 :aM Tryz.prog 191=some ⟨.struct #[fd "Message" 26 0 0,fd "Height" 3 32 32,fd "Age" 3 33 40],34,48,.agg (ta (zs 32 (.int .u8 0)++[.int .i64 0,.int .i64 0]))⟩:=by kernel_rfl
@[simp] theorem aWm :aM Tryz.prog 194=some ⟨.int .u64,1,8,.int .u64 0⟩:=by kernel_rfl
@[simp] theorem aWB :aM Tryz.prog 200=some ⟨.map 26 3,1,8,.map none⟩:=by kernel_rfl
@[simp] theorem aWM :aM Tryz.prog 208=some ⟨.slice 3,1,24,.slice none 0 0⟩:=by kernel_rfl
@[simp] theorem aI4 :aM Tryz.prog 221=some ⟨.array 8 24,8,32,.agg (ta (zs 8 (.int .u32 0)))⟩:=by kernel_rfl
@[simp] theorem aPP :aM Tryz.prog 223=some ⟨.array 64 5,64,64,.agg (ta (zs 64 (.int .u8 0)))⟩:=by kernel_rfl
@[simp] theorem aWb :aM Tryz.prog 233=some ⟨.int .u16,1,2,.int .u16 0⟩:=by kernel_rfl
@[simp] theorem aWS :aM Tryz.prog 235=some ⟨.int .i64,1,8,.int .i64 0⟩:=by kernel_rfl
@[simp] theorem aP1 :aM Tryz.prog 245=some ⟨.array 8 29,8,64,.agg (ta (zs 8 (.int .u64 0)))⟩:=by kernel_rfl
@[simp] theorem aP7 :aM Tryz.prog 249=some ⟨.slice 29,1,24,.slice none 0 0⟩:=by kernel_rfl
@[simp] theorem aPS :aM Tryz.prog 251=some ⟨.array 64 24,64,256,.agg (ta (zs 64 (.int .u32 0)))⟩:=by kernel_rfl
@[simp] theorem aWW :aM Tryz.prog 255=some ⟨.slice 263,1,24,.slice none 0 0⟩:=by kernel_rfl
@[simp] theorem aWI :aM Tryz.prog 261=some ⟨.slice 266,1,24,.slice none 0 0⟩:=by kernel_rfl
@[simp] theorem aWp :aM Tryz.prog 262=some ⟨.struct #[fd "Code" 3 0 0,fd "Data" 22 1 8,fd "M" 3 2 32,fd "N" 3 3 40],4,48,.agg #[.int .i64 0,.slice none 0 0,.int .i64 0,.int .i64 0]⟩:=by kernel_rfl
@[simp] theorem aGX :aM Tryz.prog 263=some ⟨.struct #[fd "Code" 3 0 0,fd "Data" 22 1 8,fd "M" 3 2 32,fd "N" 3 3 40],4,48,.agg #[.int .i64 0,.slice none 0 0,.int .i64 0,.int .i64 0]⟩:=by kernel_rfl
@[simp] theorem aWu :aM Tryz.prog 265=some ⟨.struct #[{name:= "reached",type:=4,offset:=0,embedded:=false,tag:= "",pkgPath:= "lightclient/lightclientref08",byteOffset:=0},{name:= "done",type:=4,offset:=1,embedded:=false,tag:= "",pkgPath:= "lightclient/lightclientref08",byteOffset:=1}],2,2,.agg #[.bool false,.bool false]⟩:=by kernel_rfl
@[simp] theorem aPO :aM Tryz.prog 266=some ⟨.struct #[{name:= "reached",type:=4,offset:=0,embedded:=false,tag:= "",pkgPath:= "lightclient/lightclientref08",byteOffset:=0},{name:= "done",type:=4,offset:=1,embedded:=false,tag:= "",pkgPath:= "lightclient/lightclientref08",byteOffset:=1}],2,2,.agg #[.bool false,.bool false]⟩:=by kernel_rfl
@[simp] theorem aWO :aM Tryz.prog 270=some ⟨.int .u64,1,8,.int .u64 0⟩:=by kernel_rfl
@[simp] theorem aWd :aM Tryz.prog 274=some ⟨.pointer 3,1,8,.pointer none⟩:=by kernel_rfl
@[simp] theorem aTk :aM Tryz.prog 276=some ⟨.slice 294,1,24,.slice none 0 0⟩:=by kernel_rfl
@[simp] theorem aWf :aM Tryz.prog 277=some ⟨.struct #[{name:= "Env",type:=191,offset:=0,embedded:=true,tag:= "",pkgPath:= "",byteOffset:=0},{name:= "stack",type:=61,offset:=34,embedded:=false,tag:= "",pkgPath:= "lightclient/script",byteOffset:=48},{name:= "branches",type:=276,offset:=35,embedded:=false,tag:= "",pkgPath:= "lightclient/script",byteOffset:=72},{name:= "cost",type:=3,offset:=36,embedded:=false,tag:= "",pkgPath:= "lightclient/script",byteOffset:=96}],37,104,.agg (ta (zs 32 (.int .u8 0)++[.int .i64 0,.int .i64 0,.slice none 0 0,.slice none 0 0,.int .i64 0]))⟩:=by kernel_rfl
@[simp] theorem aFj :aM Tryz.prog 278=some ⟨.struct #[{name:= "Env",type:=191,offset:=0,embedded:=true,tag:= "",pkgPath:= "",byteOffset:=0},{name:= "stack",type:=61,offset:=34,embedded:=false,tag:= "",pkgPath:= "lightclient/script",byteOffset:=48},{name:= "branches",type:=276,offset:=35,embedded:=false,tag:= "",pkgPath:= "lightclient/script",byteOffset:=72},{name:= "cost",type:=3,offset:=36,embedded:=false,tag:= "",pkgPath:= "lightclient/script",byteOffset:=96}],37,104,.agg (ta (zs 32 (.int .u8 0)++[.int .i64 0,.int .i64 0,.slice none 0 0,.slice none 0 0,.int .i64 0]))⟩:=by kernel_rfl
@[simp] theorem aWq :aM Tryz.prog 282=some ⟨.slice 4,1,24,.slice none 0 0⟩:=by kernel_rfl
@[simp] theorem aWa :aM Tryz.prog 289=some ⟨.pointer 270,1,8,.pointer none⟩:=by kernel_rfl
@[simp] theorem aWY :aM Tryz.prog 292=some ⟨.pointer 278,1,8,.pointer none⟩:=by kernel_rfl
@[simp] theorem aW3 :aM Tryz.prog 293=some ⟨.struct #[{name:= "outer",type:=4,offset:=0,embedded:=false,tag:= "",pkgPath:= "lightclient/script",byteOffset:=0},{name:= "taken",type:=4,offset:=1,embedded:=false,tag:= "",pkgPath:= "lightclient/script",byteOffset:=1}],2,2,.agg #[.bool false,.bool false]⟩:=by kernel_rfl
@[simp] theorem aP0 :aM Tryz.prog 294=some ⟨.struct #[{name:= "outer",type:=4,offset:=0,embedded:=false,tag:= "",pkgPath:= "lightclient/script",byteOffset:=0},{name:= "taken",type:=4,offset:=1,embedded:=false,tag:= "",pkgPath:= "lightclient/script",byteOffset:=1}],2,2,.agg #[.bool false,.bool false]⟩:=by kernel_rfl
@[simp] theorem aWs :aM Tryz.prog 297=some ⟨.struct #[fd "E" 31 0 0,fd "S" 31 4 32],8,64,.agg (ta (zs 8 (.int .u64 0)))⟩:=by kernel_rfl
@[simp] theorem aNd :aM Tryz.prog 298=some ⟨.struct #[fd "E" 31 0 0,fd "S" 31 4 32],8,64,.agg (ta (zs 8 (.int .u64 0)))⟩:=by kernel_rfl
@[simp] theorem aWi :aM Tryz.prog 328=some ⟨.pointer 5,1,8,.pointer none⟩:=by kernel_rfl
end Go.Proofs.YtopdhljncajmpaaGreatDoor
namespace Go.Vm
open Go Go.ChangeShapes Go.WideShapes Go.ChangeAt Go.RowKit
section
variable {X:Nat→Prop}{M:List (Option Nat)}{w:World}
theorem aWR (c:Value):VR X M w (.sc c) c:=by unfold VR;rfl
theorem aBT :VCells X M w [] []:=by unfold VCells;rfl
theorem kC {c:V}{v:Value}{cs:List V}{vs:List Value}(h:VR X M w c v)(k:VCells X M w cs vs):VCells X M w (c::cs) (v::vs):=by unfold VCells;exact⟨v,vs,rfl,h,k⟩
theorem aQI {P:Program}{ts:List TypeId}(h:(ts.all fun t=>P.readableRec t&&decide (t<P.types.size))=true): ∀t∈ts,P.readableRec t=true∧t<P.types.size:=by
 intro t ht
 have:=a1R.1 h t ht
 simp only[a1V,decide_eq_true_eq]at this
 exact this
end
end Go.Vm
namespace Go.Proofs.YtopdhljncajmpaaGreatDoor
open Go Go.Vm
open Go.ChangeShapes Go.WideShapes Go.ChangeAt Go.RowKit
theorem own :ownKnob Tryz.prog.godebug=none:=by kernel_rfl
theorem aXB :laidOutB Tryz.prog=true:=by kernel_rfl
end Go.Proofs.YtopdhljncajmpaaGreatDoor
namespace Go.Proofs.YtopdhljncajmpaaGreatDoor
open Go Go.Vm
end Go.Proofs.YtopdhljncajmpaaGreatDoor
namespace Go.Vm
open Go Go.ChangeShapes Go.WideShapes Go.ChangeAt Go.RowKit
def aPR (P:Program)(t:TypeId){α:Type}(Q:α→Prop)(C:α→List V):Prop:=
 ∀{H:Type}{enc:TypeId×Value→H}{w:World}{spare:Nat→Bool}{held:Bool}{fuel:Nat}{cs:List Value}{x:DataW H×List MemPlace},DataW.trod enc P w 0 spare held fuel t cs=some x→ ∃a:α,Q a∧VCells NoX [] w (C a) cs
section
variable {P:Program}{t e:TypeId}
theorem aPt {k:IntKind}(ht:P.underlying t=some (.int k)):aPR P t (fun x:Int=>(Lit.int k x).wf=true) (fun x=>[eI k x]):=by
 intro H enc w spare held fuel cs x h
 obtain⟨n,rfl,_,hw⟩:=DataW.trod_int ht h
 exact⟨n,hw,kC (aWR _) aBT⟩
theorem aMa {α:Type}{R:Nat→α→Prop}: ∀(n:Nat),(∀i,i<n→ ∃x,R i x)→ ∃l:List α,l.length=n∧ ∀i x,l[i]? =some x→R i x
 |0,_=>⟨[],rfl,fun i x hx=>by simp at hx⟩
 |n+1,h=>by
  obtain⟨l,hl,hr⟩:=aMa n (fun i hi=>h i (by omega))
  obtain⟨x,hx⟩:=h n (by omega)
  refine⟨l++[x],by simp[hl],fun i y hy=> ?_⟩
  rcases eR hy with hy|⟨hi,hy⟩
  ·exact hr i y hy
  subst hy;rw[hi,hl];exact hx
theorem aSJ {X:Nat→Prop}{M:List (Option Nat)}{w:World}{K:Nat}: ∀(es:List V)(ad:Addr),(∀i e,es[i]? =some e→ ∃v,VR X M w e v∧v.cells.size=K∧LiesAt w (ad.add (i*K)) v.cells)→VRow X M w K es ad
 | [],ad,_=>by unfold VRow;trivial
 |e::es,ad,h=>by
  unfold VRow
  obtain⟨v,h1,h2,h3⟩:=h 0 e rfl
  refine⟨⟨v,h1,h2,by simpa[Addr.add]using h3⟩,aSJ es (ad.add K) fun i e' he=> ?_⟩
  obtain⟨v',k1,k2,k3⟩:=h (i+1) e' (by simpa using he)
  refine⟨v',k1,k2, ?_⟩
  rw[vA,show K+i*K=(i+1)*K by rw[a2e];omega]
  exact k3
def aVZ {α:Type}(K:Nat)(C:α→List V)(E:α→V):Prop:= ∀x,(E x).okElem K=true∧ ∀(w:World)(vs:List Value),VCells NoX [] w (C x) vs→ ∃v,VR NoX [] w (E x) v∧v.cells=vs.toArray
theorem aVx {α:Type}{E:α→V}(h: ∀x,(E x).one=true):aVZ 1 (fun x=>[E x]) E:=by
 intro x
 have hc:(E x).cells=[E x]:=by have:=h x;generalize E x=y at this ⊢; cases y<;>first|rfl|simp[V.one]at this
 refine⟨by simp[V.okElem,V.flatOk,hc,h x],fun w vs hv=> ?_⟩
 unfold VCells at hv
 obtain⟨v,rest,rfl,h1,h2⟩:=hv
 unfold VCells at h2
 subst h2
 exact⟨v,h1,by rw[eC (h1.oneCell (h x))]⟩
theorem aR3 {α:Type}{Q:α→Prop}{C:α→List V}{E:α→V}{K:Nat}(ht:P.underlying t=some (.slice e))(he:aPR P e Q C)(hK:P.cellsOf e=K)(h0:0<K)(hE:aVZ K C E):
  aPR P t (fun l:List α=> ∀x∈l,Q x) (fun l=>[.row none K (l.map E)]):=by
 intro H enc w spare held fuel cs x h
 rcases DataW.trod_slice ht h with⟨rfl,_⟩|⟨a,len,cap,elems,rest,n,_,rfl,_,_,hl,hm,hlen,hel,_,_⟩
 ·refine⟨[],by simp,kC ?_ aBT⟩
  unfold VR
  exact⟨none,0,rfl,a2c _,fun _=>rfl,(fun b hb=>by cases hb),by simp,fun hne=>absurd rfl hne⟩
 have each: ∀i,i<len→ ∃x,Q x∧ ∃vs,w.cells? 0 (a.add (i*K)) K=some vs∧VCells NoX [] w (C x) vs:=by
  intro i hi
  have h1:=hel i hi
  rw[hK,a1O (by omega)]at h1
  simp only[a2k]at h1
  obtain⟨vs,h2,h3⟩:=h1
  obtain⟨x,hq,hv⟩:=he h3
  exact⟨x,hq,vs,h2,hv⟩
 obtain⟨l,hll,hr⟩:=aMa len each
 have hlm:(l.map E).length=len:=by simp[hll]
 refine⟨l,fun x hx=> ?_,kC ?_ aBT⟩
 ·obtain⟨i,hi,rfl⟩:=List.mem_iff_getElem.1 hx
  exact(hr i _ (a1O hi)).1
 unfold VR
 refine⟨some a,cap,by rw[hlm],by rw[hlm];exact hl,fun hh=>(by cases hh),(fun b hb=>by cases hb),fun y hy=> ?_,fun hne=> ?_⟩
 ·simp only[a2Z]at hy
  obtain⟨x,_,rfl⟩:=hy
  exact(hE x).1
 have hpos:0<len:=by
  rcases Nat.eq_zero_or_pos len with h0|h0
  ·exact absurd (a1S (by rw[hlm];exact h0)) hne
  exact h0
 have lies: ∀(ad:Addr)(vs:List Value),w.cells? 0 ad K=some vs→vs.length=K∧LiesAt w ad vs.toArray:=by
  intro ad vs hvs
  obtain⟨h1,h2⟩:=World.cells?_some hvs
  have h3:vs.length=K∧ ∀i,i<K→w.cell? (ad.add i)=vs[i]? :=by
   unfold World.cells? at hvs
   rw[if_pos (Nat.zero_le _)]at hvs
   obtain⟨hl,hget⟩:=aIO hvs
   simp only[List.length_range]at hl
   refine⟨hl.symm,fun i hi=> ?_⟩
   have hv:i<vs.length:=by omega
   rw[a1O hv]
   exact hget i i vs[i] (by simp[hi]) (a1O hv)
  refine⟨h3.1,fun j u hu=> ?_⟩
  have hj:j<K:=by have:=(a1W.1 hu).1;simp at this;omega
  rw[h3.2 j hj];simpa using hu
 obtain⟨x0,_,vs0,hc0,_⟩:=each 0 hpos
 obtain⟨hl0,hlies0⟩:=lies _ _ hc0
 have hsp:a.spot=none:=by
  have hv:0<vs0.length:=by omega
  have:=World.cell?_spot (hlies0 0 vs0[0] (by simp[hv]))
  simpa[Addr.add]using this
 refine⟨a,rfl,h0,id,hsp,aSJ _ _ fun i y hy=> ?_⟩
 simp only[a17,a1X]at hy
 obtain⟨x,hx,rfl⟩:=hy
 obtain⟨_,vs,hcs,hv⟩:=hr i x hx
 obtain⟨hl1,hlies⟩:=lies _ _ hcs
 obtain⟨v,hv1,hv2⟩:=(hE x).2 w vs hv
 exact⟨v,hv1,by rw[hv2];simp[hl1],by rw[hv2];exact hlies⟩
def aW1 (P:Program)(t:TypeId){α:Type}(Q:α→Prop)(E:α→V):Prop:=
 ∀{H:Type}{enc:TypeId×Value→H}{w:World}{base:Nat}{v:Value}{d:DataW H}{p:List MemPlace},Value.okWide P w .any base t v→DataW.Trod enc P w 0 (fun _=>true) true t v d p→ ∃a:α,Q a∧VR NoX [] w (E a) v
theorem aL9 {w:World}{c:V}{v:Value}(h:VCells NoX [] w [c] [v]):VR NoX [] w c v:=by
 unfold VCells at h
 obtain⟨u,rest,h1,h2,_⟩:=h
 injection h1 with h1 h3
 subst h1
 exact h2
theorem aD5 {k:IntKind}(ht:P.underlying t=some (.int k)):aW1 P t (fun x:Int=>(Lit.int k x).wf=true) (eI k):=by
 intro H enc w base v d p hv ⟨fuel,h⟩
 obtain⟨n,rfl⟩:=okWide_int ht hv
 obtain⟨a,hq,hc⟩:=aPt ht h
 exact⟨a,hq,aL9 hc⟩
theorem aRS {α:Type}{Q:α→Prop}{C:α→List V}{E:α→V}{K:Nat}(ht:P.underlying t=some (.slice e))(he:aPR P e Q C)(hK:P.cellsOf e=K)(h0:0<K)(hE:aVZ K C E):aW1 P t (fun l:List α=> ∀x∈l,Q x) (eL K E):=by
 intro H enc w base v d p hv ⟨fuel,h⟩
 obtain⟨a,l,c,rfl⟩:=okWide_slice ht hv
 obtain⟨a,hq,hc⟩:=aR3 ht he hK h0 hE h
 exact⟨a,hq,aL9 hc⟩
end
end Go.Vm
namespace Go.Vm
open Go
def iN (l:List Nat):List Int:=l.map fun(x:Nat)=>(x:Int)
theorem aNM (l:List Nat):(iN l).length=l.length:=by simp[iN]
theorem aUm {d:List Int}(h:Byt d):iN (d.map Int.toNat)=d∧ ∀x∈d.map Int.toNat,x<256:=by
 constructor
 ·simp only[iN,List.map_map]
  conv=>rhs;rw[←List.map_id d]
  refine List.map_congr_left fun x hx=> ?_
  have:=h x hx
  simp only[Function.comp,id];omega
 intro x hx
 simp only[a2Z]at hx
 obtain⟨y,hy,rfl⟩:=hx
 have:=h y hy
 omega
theorem aSd {d:List Int}(h:Byt d): ∃l:List Nat,d=iN l∧ ∀x∈l,x<256:=⟨_,(aUm h).1.symm,(aUm h).2⟩
theorem i1 {j:Nat}(hj:j≤100000):IntKind.i64.wrap ((j:Int)+1)=((j+1:Nat):Int):=by rw[w64 (by omega) (by omega)];simp
theorem dT {j n:Nat}(h:j<n):decide ((j:Int)<(n:Int))=true:=by simpa using h
theorem dF {j n:Nat}(h: ¬j<n):decide ((j:Int)<(n:Int))=false:=by simp;omega
theorem w7 :100000000≤lim:=by decide
theorem jM {l m:List Int}(h:l.length+m.length≤100000000):b6 1 l m=some (l++m):=by
 have:=w7
 exact aUk (by omega)
theorem n5 {α:Type}{f:Nat→Int→List Int→Option (List Int)}{xs:List α}{g:α→List Int}{B:Nat}(hn:xs.length≤100000)
  (hs: ∀m j acc (hj:j<xs.length),acc.length+(g xs[j]).length≤B→f (m+1) (j:Int) acc=f m ((j+1:Nat):Int) (acc++g xs[j])) (he: ∀m j acc,xs.length≤j→f (m+1) (j:Int) acc=some acc):
  ∀(m j:Nat)(acc:List Int),xs.length-j<m→j≤xs.length→acc.length+((xs.drop j).flatMap g).length≤B→f m (j:Int) acc=some (acc++(xs.drop j).flatMap g)
 |0,j,acc,hm,_,_=>by omega
 |m+1,j,acc,hm,hj,hB=>by
  by_cases h:j<xs.length
  ·rw[a12 h,a1Z,a15]at hB
   rw[hs m j acc h (by omega),n5 hn hs he m (j+1) _ (by omega) (by omega) (by rw[a15];omega),a12 h,a1Z,a2v]
  rw[he m j acc (by omega),a10 (by omega)];simp
theorem xM {α R:Type}{f:Nat→Int→Option (LR Unit R)}{xs:List α}{p:α→Bool}{r:R}
  (hs: ∀m j (hj:j<xs.length),f (m+1) (j:Int)=if p xs[j]=true then f m ((j+1:Nat):Int)else some (.ret r)) (he: ∀m j,xs.length≤j→f (m+1) (j:Int)=some (.brk ())):
  ∀(m j:Nat),xs.length-j<m→j≤xs.length→f m (j:Int)=some (if(xs.drop j).all p=true then .brk ()else .ret r)
 |0,j,hm,_=>by omega
 |m+1,j,hm,hj=>by
  by_cases h:j<xs.length
  ·rw[hs m j h,xM hs he m (j+1) (by omega) (by omega),a12 h,a2A]
   cases p xs[j]<;>simp
  rw[he m j (by omega),a10 (by omega)];simp
end Go.Vm
namespace Go.Proofs.YtopdhljncajmpaaGreatDoor
open Go Go.Vm
open Go.ChangeShapes Go.WideShapes Go.ChangeAt Go.RowKit
theorem aSI {W:World}{g:Nat}{xs:List Int}(hne:0<xs.length)(hc: ∀i,i<xs.length→W.cell? ⟨g,i,none⟩=some (.int .u32 (xs.getD i 0))):VR NoX [] W (.eptr [.agg (xs.map fun x=> .sc (.int .u32 x))] 0 0) (.pointer (some ⟨g,0,none⟩)):=by
 unfold VR
 refine⟨⟨g,0,none⟩,xs.length,by simp[Addr.add],hne,fun _ hx=>hx,rfl, ?_, ?_⟩
 ·intro e he
  simp only[List.mem_singleton]at he
  subst he
  simp[V.okElem,V.flatOk,V.cells,V.one,List.all_map]
  exact fun _ _=>rfl
 unfold VRow
 refine⟨⟨.agg (xs.map fun x=>Value.int .u32 x).toArray, ?_,by simp[Value.cells], ?_⟩,by unfold VRow;trivial⟩
 ·unfold VR
  refine⟨xs.map fun x=>Value.int .u32 x,rfl, ?_⟩
  generalize xs=ys
  induction ys with
  |nil=>exact aBT
  |cons y ys ih=>exact kC (aWR _) ih
 intro j u hu
 simp only[Value.cells,a21,a17,a1X]at hu
 obtain⟨x,hx,rfl⟩:=hu
 have hj:=(a1K.1 hx).1
 have:=hc j hj
 simp only[List.getD_eq_getElem?_getD,hx,Option.getD_some]at this
 have e:(⟨g,0,none⟩:Addr).add j=⟨g,j,none⟩:=by simp only[Addr.add];split<;>simp_all
 rw[e];exact this
theorem gK :Tryz.prog.globalNamed "lightclient/sha.k" =some 2:=by kernel_rfl
theorem gKt :(Tryz.prog.globals[2]?).map (·.type)=some 251:=by kernel_rfl
theorem gI :Tryz.prog.globalNamed "lightclient/sha.initial" =some 0:=by kernel_rfl
theorem gIt :(Tryz.prog.globals[0]?).map (·.type)=some 221:=by kernel_rfl
theorem aXY :Tryz.prog.cellsOf 251=64:=by kernel_rfl
theorem aY1 :Tryz.prog.cellsOf 221=8:=by kernel_rfl
theorem aTR :Tryz.prog.cellsOf 24=1:=by kernel_rfl
theorem aKT {P:Program}{W:World}{name:String}{k:IntKind}{zs:List Int}{g:Nat}(h:Lib.TabIs P W name k zs)(hg:P.globalNamed name=some g): ∃t,W.shape? g=some (t,zs.length):=by
 unfold Lib.TabIs World.var? at h
 rw[hg,a2m]at h
 unfold World.shape?
 split at h
 ·rename_i cs t f hh
  injection h with h
  subst h
  exact⟨t,by rw[hh];simp⟩
 cases h
theorem aY7 {W:World} (h:laidMetH Tryz.prog [("lightclient/sha.k",Rows.laid_lightclient_sha_k),("lightclient/sha.initial",Rows.laid_lightclient_sha_initial)] W):Lib.TabIs Tryz.prog W "lightclient/sha.k" .u32 aHU:=
 Lib.tabIs_of_head (rest:=[("lightclient/sha.initial",Rows.laid_lightclient_sha_initial)]) gK gKt Tryz.underlying251 Tryz.underlying24 aTR aXY h
theorem aZb {W:World} (h:laidMetH Tryz.prog [("lightclient/sha.k",Rows.laid_lightclient_sha_k),("lightclient/sha.initial",Rows.laid_lightclient_sha_initial)] W):Lib.TabIs Tryz.prog W "lightclient/sha.initial" .u32 aAW:=by
 have h2:=h.filter (fun x=>x.1 == "lightclient/sha.initial")
 exact Lib.tabIs_of_head (rest:=[]) gI gIt Tryz.underlying221 Tryz.underlying24 aTR aY1 h2
theorem a0h {W:World} (h:laidMetH Tryz.prog [("lightclient/sha.k",Rows.laid_lightclient_sha_k),("lightclient/sha.initial",Rows.laid_lightclient_sha_initial)] W):Globs NoX W:=by
 intro g e hg
 unfold GT at hg
 split at hg
 ·injection hg with hg
  subst hg
  refine⟨aSI (xs:=aAW) (by decide) (fun i hi=>(aZb h).cell gI i hi), ?_⟩
  obtain⟨t,ht⟩:=aKT (aZb h) gI
  exact⟨t,by rw[ht];rfl⟩
 ·injection hg with hg
  subst hg
  refine⟨aSI (xs:=aHU) (by decide) (fun i hi=>(aY7 h).cell gK i hi), ?_⟩
  obtain⟨t,ht⟩:=aKT (aY7 h) gK
  exact⟨t,by rw[ht];rfl⟩
 cases hg
abbrev NN :Nat:=70000
theorem aT3 {l:List Int}(hl: ∀x∈l,(Lit.int .u8 x).wf=true):Byt l:=by
 intro x hx
 have:=hl x hx
 simp[Lit.wf,IntKind.min,IntKind.max,a3z,a3B]at this;omega
theorem aFW {x:Int}(h:(Lit.int .u8 x).wf=true):0≤x∧x<256:=by
 simp[Lit.wf,IntKind.min,IntKind.max,a3z,a3B]at h;omega
def lay (i:Nat)(cs:Array Value)(h:Array Obj):Array Obj:=h.modify i fun
 | .cells _ t frozen=> .cells cs t frozen
 |o=>o
noncomputable def aKv (os:Os):World:=
 {World.holding Tryz.prog os ⟨#[],#[],[]⟩with heap:=lay 2 #[.int .u32 1116352408,.int .u32 1899447441,.int .u32 3049323471,.int .u32 3921009573,.int .u32 961987163,.int .u32 1508970993,.int .u32 2453635748,.int .u32 2870763221,.int .u32 3624381080,.int .u32 310598401,.int .u32 607225278,.int .u32 1426881987,.int .u32 1925078388,.int .u32 2162078206,.int .u32 2614888103,.int .u32 3248222580,.int .u32 3835390401,.int .u32 4022224774,.int .u32 264347078,.int .u32 604807628,.int .u32 770255983,.int .u32 1249150122,.int .u32 1555081692,.int .u32 1996064986,.int .u32 2554220882,.int .u32 2821834349,.int .u32 2952996808,.int .u32 3210313671,.int .u32 3336571891,.int .u32 3584528711,.int .u32 113926993,.int .u32 338241895,.int .u32 666307205,.int .u32 773529912,.int .u32 1294757372,.int .u32 1396182291,.int .u32 1695183700,.int .u32 1986661051,.int .u32 2177026350,.int .u32 2456956037,.int .u32 2730485921,.int .u32 2820302411,.int .u32 3259730800,.int .u32 3345764771,.int .u32 3516065817,.int .u32 3600352804,.int .u32 4094571909,.int .u32 275423344,.int .u32 430227734,.int .u32 506948616,.int .u32 659060556,.int .u32 883997877,.int .u32 958139571,.int .u32 1322822218,.int .u32 1537002063,.int .u32 1747873779,.int .u32 1955562222,.int .u32 2024104815,.int .u32 2227730452,.int .u32 2361852424,.int .u32 2428436474,.int .u32 2756734187,.int .u32 3204031479,.int .u32 3329325298] (lay 0 #[.int .u32 1779033703,.int .u32 3144134277,.int .u32 1013904242,.int .u32 2773480762,.int .u32 1359893119,.int .u32 2600822924,.int .u32 528734635,.int .u32 1541459225] (World.holding Tryz.prog os ⟨#[],#[],[]⟩).heap)}
end Go.Proofs.YtopdhljncajmpaaGreatDoor
namespace Go.Vm
open Go
def aP3 (O:wF)(G:FuncId→Bool):Prop:= ∀f h args r h',G f=true→O f h args=some (r,h')→ ∃news,h'=h++news
def aKu (G:FuncId→Bool)(o:Oper):Bool:=
 aH9 o || (match o.op with
  | .call c=>match c.callee with
   | .value (.func f)=>G f
   | .builtin .append=>match c.args.toList with
    | [.const (.slice none 0 0),_]=>true
    |_=>false
   |_=>false
  |_=>false)
theorem aRQ {P:Program}{t t':TypeId}{k:Nat}{y r:V}{h h':Hp}(hr:g6 P t t' (.row (some true) k []) y h=some (r,h')): ∃news,h'=h++news:=by
 simp only[g6]at hr
 repeat' split at hr
 all_goals first|(cases hr;done)|(simp only[a1M,a1Y]at hr;exact⟨_,by rw[←hr.2,a2v]⟩)
def aVp (O:wF)(F:FuncId→Bool):Prop:= ∀f h args r h',F f=true→O f h args=some (r,h')→ ∀h2,O f h2 args=some (r,h2)
def aM2 (F:FuncId→Bool)(o:Oper):Bool:=
 match o.op with
 | .move _ | .assign _ | .build _ _ | .nilCheck _ | .binOp _ _ _ _ _ | .unOp _ _ _ | .fieldAddr _ _ _ | .field _ _ _ | .indexAddr _ _ _ | .index _ _ _ | .extract _ _ | .sliceToArrayPointer _ _=>true
 | .call c=>match c.callee with
  | .value (.func f)=>F f
  |_=>false
 |_=>false
def aIh (o:Oper):Bool:=match o.op with
 | .store _ _ _=>true
 |_=>false
def aIW (o:Oper):Bool:=match o.op with
 | .alloc _=>true
 |_=>false
def aLL (F G:FuncId→Bool)(ops:Array Oper)(oj oi:Oper):Bool:=
 oj.apart ops oi&&(aM2 F oj || aM2 F oi || (vG F oj&&vG F oi) || (aKu G oj&&uY oi) || (uY oj&&aKu G oi) || (aIh oj&&aIW oi) || (aIW oj&&aIh oi))
section
variable {P:Program}{O O':wF}{F G:FuncId→Bool}{s:List V}{h h':Hp}{ops:Array Oper}
theorem inScope.mono {n m:Nat}(hnm:n≤m){z:V}(hz:inScope n z):inScope m z:=by
 cases z<;>first|trivial|exact a2o hz hnm
theorem Scoped.mono {n m:Nat}(hnm:n≤m){o:Oper}(hs:Scoped s o n):Scoped s o m:=fun y hy z hz=>(hs y hy z hz).mono hnm
theorem aB3 {o:Oper}(hs:uY o=true): ∀(news:Hp){h:Hp},Scoped s o h.length→b9 P O ops o s (h++news)=(b9 P O ops o s h).map fun p=>(p.1,h++news)
 | [],h,hsc=>by
  simp only[a2s]
  cases hv:b9 P O ops o s h with
  |none=>rfl
  |some p=>
   obtain⟨v,g⟩:=p
   obtain rfl:g=h:=pB (F:=fun _=>false) (fun _ _ _ _ _ hf=>by cases hf) hs hv
   rfl
 |x::news,h,hsc=>by
  have e1:h++x::news=(h++[x])++news:=by simp
  rw[e1,aB3 hs news (hsc.mono (by simp)),aRW hs hsc]
  cases b9 P O ops o s h<;>rfl
theorem aGy (hG:aP3 O G){o:Oper}(hg:aKu G o=true){r:V}(hr:b9 P O ops o s h=some (r,h')): ∃news,h'=h++news:=by
 unfold b9 at hr
 split at hr
 ·rename_i hw
  clear hw
  simp only[aKu,a2B]at hg
  rcases hg with hg|hg
  ·obtain⟨B,hB⟩:=aTn hg hr;exact⟨_,hB⟩
  obtain⟨dst,op,type,pos,after,guard⟩:=o
  cases op<;>simp only[a1T]at hg
  case call c=>
   obtain⟨callee,args,argTypes⟩:=c
   cases callee<;>simp only[a1T]at hg
   case value f=>
    cases f<;>simp only[a1T]at hg
    case func f=>
     simp only[bR,rZ]at hr
     split at hr
     ·cases hr
     exact hG _ _ _ _ _ hg hr
   case builtin b=>
    cases b<;>simp only[a1T]at hg
    case append=>
     split at hg
     ·rename_i y he
      simp only[bR,rZ,he]at hr
      cases hy:ev s y with
      |none=>
       have h2:evs s [.const (.slice none 0 0),y]=none:=by simp only[evs,a2h,List.mapM_nil,hy,show ev s (.const (.slice none 0 0))=some (.row (some true) 1 [])from rfl];rfl
       rw[h2]at hr
       cases hr
      |some z=>
       have h2:evs s [.const (.slice none 0 0),y]=some [.row (some true) 1 [],z]:=by simp only[evs,a2h,List.mapM_nil,hy,show ev s (.const (.slice none 0 0))=some (.row (some true) 1 [])from rfl];rfl
       rw[h2]at hr
       revert hr
       rcases argTypes.toList with _|⟨t,_|⟨t',_|⟨t'',l⟩⟩⟩<;>intro hr
       ·cases hr
       ·cases hr
       ·exact aRQ hr
       cases hr
     cases hg
 ·simp only[a1M,a1Y]at hr;exact⟨[],by simp[hr.2]⟩
 cases hr
theorem aRr (hF:aF3 O F)(hU:aVp O F){o:Oper}(hf:aM2 F o=true){r:V}(hr:b9 P O ops o s h=some (r,h')):h'=h∧ ∀h2,b9 P O ops o s h2=some (r,h2):=by
 unfold b9 at hr⊢
 cases hw:iM ops o s with
 |none=>rw[hw]at hr;cases hr
 |some b=>
  rw[hw]at hr
  cases b with
  |false=>
   simp only[a1M,a1Y]at hr⊢
   exact⟨hr.2.symm,fun h2=>⟨hr.1,trivial⟩⟩
  |true=>
   simp only at hr⊢
   clear hw
   obtain⟨dst,op,type,pos,after,guard⟩:=o
   cases op<;>simp only[aM2,a1T]at hf
   case call c=>
    obtain⟨callee,args,argTypes⟩:=c
    cases callee<;>simp only[a1T]at hf
    case value f=>
     cases f<;>simp only[a1T]at hf
     case func f=>
      simp only[bR,rZ]at hr⊢
      cases hx:evs s args.toList with
      |none=>rw[hx]at hr;cases hr
      |some xs=>
       rw[hx]at hr
       simp only at hr⊢
       exact⟨hF _ _ _ _ _ hf hr,hU _ _ _ _ _ hf hr⟩
   all_goals
    simp only[bR,a2k,a1X,a1Y]at hr
    first
     |(obtain⟨a,ha,rfl,rfl⟩:=hr;exact⟨rfl,fun h2=>by simp[bR,ha]⟩)
     |(obtain⟨a,ha,b,hb,rfl,rfl⟩:=hr;exact⟨rfl,fun h2=>by simp[bR,ha,hb]⟩)
     |(obtain⟨a,ha,b,hb,c,hc,rfl,rfl⟩:=hr;exact⟨rfl,fun h2=>by simp[bR,ha,hb,hc]⟩)
theorem aHu {dst:Option Tmp}{t:TypeId}{a x:Operand}{type:TypeId}{pos:String}{after:Array Edge}{guard:Option (Nat×Bool)}{r:V}(hr:b9 P O ops ⟨dst,.store t a x,type,pos,after,guard⟩ s h=some (r,h')):
  (h'=h∧ ∀h2,b9 P O ops ⟨dst,.store t a x,type,pos,after,guard⟩ s h2=some (r,h2))∨ ∃b off y,ev s a=some (.ptr b off)∧b<h.length∧h'=h.set b y∧ ∀h2,h2[b]? =h[b]? →b9 P O ops ⟨dst,.store t a x,type,pos,after,guard⟩ s h2=some (r,h2.set b y):=by
 unfold b9 at hr⊢
 cases hw:iM ops ⟨dst,.store t a x,type,pos,after,guard⟩ s with
 |none=>rw[hw]at hr;cases hr
 |some w=>
  rw[hw]at hr
  cases w with
  |false=>simp only[a1M,a1Y]at hr;exact .inl ⟨hr.2.symm,fun _=>by simp[hr.1]⟩
  |true=>
   simp only[bR]at hr⊢
   obtain⟨a',ha,hr⟩:=a2k.1 hr
   obtain⟨x',hx,hr⟩:=a2k.1 hr
   obtain⟨g,hg,hr⟩:=a1X.1 hr
   simp only[a1Y]at hr
   obtain⟨rfl,rfl⟩:=hr
   rw[ha,hx]
   cases a'<;>simp only[lZ]at hg<;>try (cases hg;done)
   rename_i b off hr9
   cases hd:aM P t with
   |none=>rw[hd]at hg;cases hg
   |some d=>
    rw[hd]at hg
    simp only at hg
    cases hB:h[b]? with
    |none=>rw[hB]at hg;cases hg
    |some B=>
     rw[hB]at hg
     cases B with
     |none=>cases hg
     |some B=>
      simp only at hg
      split at hg
      ·rename_i hc
       simp only[a1M]at hg
       refine .inr ⟨b,off,_,rfl,(a1K.1 hB).1,hg.symm,fun h2 h3=> ?_⟩
       simp only[a2m,lZ,hd,h3]
       rw[hB]
       simp only[if_pos hc,a1P]
      cases hg
theorem aMw {o:Oper}(hs:aIh o=true): ∃dst t a x type pos after guard,o=⟨dst,.store t a x,type,pos,after,guard⟩:=by
 obtain⟨dst,op,type,pos,after,guard⟩:=o
 cases op<;>simp only[aIh,a1T]at hs
 exact⟨_,_,_,_,_,_,_,_,rfl⟩
theorem aOs {o:Oper}(hs:aIW o=true){r:V}(hr:b9 P O ops o s h=some (r,h')):(∃news,h'=h++news∧ ∀h2:Hp,h2.length=h.length→b9 P O ops o s h2=some (r,h2++news))∧(o.guard=none→r= .ptr h.length 0):=by
 obtain⟨dst,op,type,pos,after,guard⟩:=o
 cases op<;>simp only[aIW,a1T]at hs
 case alloc e=>
  unfold b9 at hr⊢
  cases hw:iM ops ⟨dst,.alloc e,type,pos,after,guard⟩ s with
  |none=>rw[hw]at hr;cases hr
  |some w=>
   rw[hw]at hr
   cases w with
   |false=>
    simp only[a1M,a1Y]at hr
    refine⟨⟨[],by rw[a2s];exact hr.2.symm,fun h2 _=>by simp[hr.1]⟩,fun hg=> ?_⟩
    simp only at hg
    subst hg
    simp only[iM]at hw
    cases hw
   |true=>
    simp only[bR,aIs]at hr⊢
    cases hd:aM P e with
    |none=>rw[hd]at hr;cases hr
    |some d=>
     rw[hd]at hr
     simp only at hr⊢
     split at hr
     ·rename_i hc
      simp only[a1M,a1Y]at hr
      exact⟨⟨_,hr.2.symm,fun h2 h3=>by rw[if_pos hc,h3,hr.1]⟩,fun _=>hr.1.symm⟩
     cases hr
def StepR (P:Program)(F G:FuncId→Bool)(ops:Array Oper)(o:Oper)(s:List V)(h:Hp)(s1:List V)(h1:Hp):Prop:=
 ∃O,aFu P O∧aF3 O F∧aP3 O G∧aVp O F∧aDE P O ops o s h=some (s1,h1)
theorem StepR.comm {oj oi:Oper}(hp:aLL F G ops oj oi=true)(hsi:Scoped s oi h.length)(hsj:Scoped s oj h.length){s1 s2:List V}{h1 h2:Hp}
  (e1:StepR P F G ops oj s h s1 h1) (e2:StepR P F G ops oi s1 h1 s2 h2): ∃s3 h3,StepR P F G ops oi s h s3 h3∧StepR P F G ops oj s3 h3 s2 h2:=by
 obtain⟨O1,ok1,hF1,hG1,hU1,e1⟩:=e1
 obtain⟨O2,ok2,hF2,hG2,hU2,e2⟩:=e2
 simp only[aLL,a1V,a2B]at hp
 obtain⟨hap,hp⟩:=hp
 obtain⟨a1,a2,a3⟩:=Oper.apart_spec hap
 rw[cJ]at e1 e2
 simp only[a1X,a1Y]at e1 e2
 obtain⟨⟨v1,g1⟩,f1,rfl,rfl⟩:=e1
 obtain⟨⟨v2,g2⟩,f2,rfl,rfl⟩:=e2
 simp only at f1 f2⊢
 rw[gH oi _ _ a1]at f2
 rcases hp with(((((hj|hi)|⟨hj,hi⟩)|⟨hj,hi⟩)|⟨hj,hi⟩)|⟨hj,hi⟩)|⟨hj,hi⟩
 ·obtain⟨rfl,hall⟩:=aRr hF1 hU1 hj f1
  refine⟨fU s oi.dst v2,g2,⟨O2,ok2,hF2,hG2,hU2,by rw[cJ,f2];rfl⟩,O1,ok1,hF1,hG1,hU1, ?_⟩
  rw[cJ,gH oj _ _ a3,hall g2]
  simp only[a1P]
  rw[mG s v1 v2 a2]
 ·obtain⟨rfl,hall⟩:=aRr hF2 hU2 hi f2
  refine⟨fU s oi.dst v2,h,⟨O2,ok2,hF2,hG2,hU2,by rw[cJ,hall h];rfl⟩,O1,ok1,hF1,hG1,hU1, ?_⟩
  rw[cJ,gH oj _ _ a3,f1]
  simp only[a1P]
  rw[mG s v1 v2 a2]
 ·obtain rfl:=pB hF1 hj f1
  obtain rfl:=pB hF2 hi f2
  refine⟨fU s oi.dst v2,_,⟨O2,ok2,hF2,hG2,hU2,by rw[cJ,f2];rfl⟩,O1,ok1,hF1,hG1,hU1, ?_⟩
  rw[cJ,gH oj _ _ a3,f1]
  simp only[a1P]
  rw[mG s v1 v2 a2]
 ·obtain⟨news,rfl⟩:=aGy hG1 hj f1
  rw[aB3 hi news hsi]at f2
  simp only[a1X,a1Y]at f2
  obtain⟨⟨v3,g3⟩,f3,rfl,rfl⟩:=f2
  obtain rfl:g3=h:=pB (F:=fun _=>false) (fun _ _ _ _ _ hf=>by cases hf) hi f3
  refine⟨fU s oi.dst v3,g3,⟨O2,ok2,hF2,hG2,hU2,by rw[cJ,f3];rfl⟩,O1,ok1,hF1,hG1,hU1, ?_⟩
  rw[cJ,gH oj _ _ a3,f1]
  simp only[a1P]
  rw[mG s v1 v3 a2]
 ·obtain rfl:g1=h:=pB (F:=fun _=>false) (fun _ _ _ _ _ hf=>by cases hf) hj f1
  refine⟨fU s oi.dst v2,g2,⟨O2,ok2,hF2,hG2,hU2,by rw[cJ,f2];rfl⟩,O1,ok1,hF1,hG1,hU1, ?_⟩
  obtain⟨news,rfl⟩:=aGy hG2 hi f2
  rw[cJ,gH oj _ _ a3,aB3 hj news hsj,f1]
  simp only[a1P]
  rw[mG s v1 v2 a2]
 ·obtain⟨d,t,a,x,ty,ps,af,gd,rfl⟩:=aMw hj
  obtain⟨⟨news,n1,n2⟩,_⟩:=aOs hi f2
  subst n1
  rcases aHu f1 with⟨rfl,hall⟩|⟨b,off,y,_,hb,rfl,hall⟩
  ·refine⟨fU s oi.dst v2,_,⟨O2,ok2,hF2,hG2,hU2,by rw[cJ,f2];rfl⟩,O1,ok1,hF1,hG1,hU1, ?_⟩
   rw[cJ,gH _ _ _ a3,hall]
   simp only[a1P]
   rw[mG s v1 v2 a2]
  refine⟨fU s oi.dst v2,h++news,⟨O2,ok2,hF2,hG2,hU2,by rw[cJ,n2 h (by simp)];rfl⟩,O1,ok1,hF1,hG1,hU1, ?_⟩
  rw[cJ,gH _ _ _ a3,hall (h++news) (a1L hb),a26 _ _ hb]
  simp only[a1P]
  rw[mG s v1 v2 a2]
 obtain⟨d,t,a,x,ty,ps,af,gd,rfl⟩:=aMw hi
 obtain⟨⟨news,n1,n2⟩,_⟩:=aOs hj f1
 subst n1
 rcases aHu f2 with⟨e,hall⟩|⟨b,off,y,hv,_,e,hall⟩
 ·subst e
  refine⟨fU s d v2,h,⟨O2,ok2,hF2,hG2,hU2,by rw[cJ,hall];rfl⟩,O1,ok1,hF1,hG1,hU1, ?_⟩
  rw[cJ,gH _ _ _ a3,f1]
  simp only[a1P]
  rw[mG s v1 v2 a2]
 subst e
 have hb:b<h.length:=hsi a (by simp[Op.operands]) _ hv
 refine⟨fU s d v2,h.set b y,⟨O2,ok2,hF2,hG2,hU2,by rw[cJ,hall h (a1L hb).symm];rfl⟩,O1,ok1,hF1,hG1,hU1, ?_⟩
 rw[cJ,gH _ _ _ a3,n2 (h.set b y) (by simp),a26 _ _ hb]
 simp only[a1P]
 rw[mG s v1 v2 a2]
def aQt (s:List V)(h:Hp):Prop:= ∃A M a w,Rel A M s h a w
theorem StepR.real {i:Nat}{o:Oper}(hi:ops[i]? =some o){s1:List V}{h1:Hp}(hr:aQt s h)(e:StepR P F G ops o s h s1 h1):aQt s1 h1:=by
 obtain⟨A,M,a,w,R⟩:=hr
 obtain⟨O,ok,_,_,_,e⟩:=e
 obtain⟨a',w',M',R'⟩:=aRV (aFw (Q:=fun _ _ _=>False) ok R hi e (K:=fun a' w'=> ∃M',Rel A M' s1 h1 a' w') fun a' w' M' _ R'=>⟨M',R'⟩)
 exact⟨A,M',a',w',R'⟩
def a0F (P:Program)(N:Nat)(ops:Array Oper)(m:Nat)(listed:Array Bool)(s:List V)(h:Hp)(K:List V→Hp→Prop):Prop:=
 ∀(A:Nat→Prop)(M0 M:List (Option Nat))(h0:Hp)(w0:World)(a:Act)(w:World)(Q:Exit→Act→World→Prop),h0.length=N→M0.length=N→Grow A M0 h0 w0 M h w→Rel A M s h a w→
  (∀s' h' M' a' w',K s' h'→Grow A M0 h0 w0 M' h' w'→Rel A M' s' h' a' w'→Q .normal a' w')→wpAny P .any ops Q m listed a w
def aN6 (ops:Array Oper)(listed:Array Bool):Bool:=
 (a2x ops.size).all fun j=>listed.getD j true || (a2x ops.size).all fun i=> !(listed.getD i false) || (aJi ops j j [j]).contains i
def Good (P:Program)(N:Nat)(F G:FuncId→Bool)(ops:Array Oper)(K:List V→Hp→Prop):Nat→Array Bool→List V→Hp→Prop
 |0,listed,s,h=>aGZ ops.size listed=[]∧K s h
 |n+1,listed,s,h=>(aN6 ops listed=true∧a0F P N ops (n+1) listed s h K)∨(aQt s h→Region.ready .any ops listed≠ []∧ ∀i∈Region.ready .any ops listed,∃o s1 h1,ops[i]? =some o∧StepR P F G ops o s h s1 h1∧Good P N F G ops K n (listed.setIfInBounds i true) s1 h1)
theorem aUA {listed:Array Bool}{i:Nat}(hi:i∈Region.ready .any ops listed):i∈aGZ ops.size listed:=by
 obtain⟨h1,o,ho,_⟩:=mem_ready.1 hi
 simp only[aGZ,a3w,List.mem_range]
 exact⟨(a1W.1 ho).1,by simp[h1]⟩
theorem Good.sound {N:Nat}{A:Nat→Prop}{M0:List (Option Nat)}{h0:Hp}(hN:h0.length=N)(hM:M0.length=N){w0:World}{K:List V→Hp→Prop}{Q:Exit→Act→World→Prop}:
  ∀(n:Nat)(listed:Array Bool){M:List (Option Nat)}{s:List V}{h:Hp}{a:Act}{w:World},Good P N F G ops K n listed s h→Grow A M0 h0 w0 M h w→Rel A M s h a w→
  (∀s' h' M' a' w',K s' h'→Grow A M0 h0 w0 M' h' w'→Rel A M' s' h' a' w'→Q .normal a' w')→wpAny P .any ops Q n listed a w
 |0,listed,M,s,h,a,w,hg,Gr,R,hQ=>by
  obtain⟨hnil,hk⟩:=hg
  refine⟨?_,hQ s h M a w hk Gr R⟩
  apply List.eq_nil_iff_forall_not_mem.2
  intro i hi
  have:=aUA hi
  rw[hnil]at this
  cases this
 |n+1,listed,M,s,h,a,w,hg,Gr,R,hQ=>by
  rcases hg with⟨_,hg⟩|hg
  ·exact hg A M0 M h0 w0 a w Q hN hM Gr R hQ
  obtain⟨hne,hall⟩:=hg ⟨A,M,a,w,R⟩
  refine⟨fun hn=>absurd hn hne,fun i hi=> ?_⟩
  obtain⟨o,s1,h1,ho,⟨O,ok,_,_,_,e⟩,hg'⟩:=hall i hi
  refine aFw ok R ho e fun a' w' M' G' R'=> ?_
  exact Good.sound hN hM n _ hg' (Gr.trans G') R' hQ
def aNb (F G:FuncId→Bool)(o:Oper):Bool:=vG F o || aKu G o || aIh o
theorem aVq (hF:aF3 O F)(hG:aP3 O G){o:Oper}(hm:aNb F G o=true){r:V}(hr:b9 P O ops o s h=some (r,h')):h.length≤h'.length:=by
 simp only[aNb,a2B]at hm
 rcases hm with(hm|hm)|hm
 ·rw[pB hF hm hr];exact a2c _
 ·obtain⟨news,rfl⟩:=aGy hG hm hr
  simp
 obtain⟨d,t,a,x,ty,ps,af,gd,rfl⟩:=aMw hm
 rcases aHu hr with⟨rfl,_⟩|⟨b,off,y,_,_,rfl,_⟩
 ·exact a2c _
 simp
def aPV (F G:FuncId→Bool)(ops:Array Oper)(listed:Array Bool):Bool:=(a2x ops.size).all fun q=>listed.getD q true || (match ops[q]? with
 |some oq=>aNb F G oq
 |none=>true)
def aMS (ops:Array Oper)(listed:Array Bool)(i j:Nat):Bool:=match ops[i]?,ops[j]? with
 |some oi,some oj=>oi.apart ops oj&&(uY oi&&(match oj.op with
  | .store _ (.tmp t) _=>(a2x ops.size).any fun k=> !(listed.getD k true)&&((aJi ops j j [j]).contains k&&((match ops[k]? with
   |some ok=>aIW ok&&(ok.guard.isNone&&ok.dst == some t)
   |none=>false)&&(a2x ops.size).all fun q=>q == k || (match ops[q]? with
   |some oq=>oq.dst != some t
   |none=>true)))
  |_=>false))
 |_,_=>false
def aYu (ops:Array Oper)(L0 listed:Array Bool)(s:List V)(n0:Nat):Prop:= ∀(k:Nat)(ok:Oper)(t:Tmp),ops[k]? =some ok→aIW ok=true→ok.guard=none→ok.dst=some t→(∀(q:Nat)(oq:Oper),ops[q]? =some oq→q≠k→oq.dst≠some t)→L0.getD k true=false→listed.getD k false=true→ ∀z,s[t]? =some z→ ∃b off,z= .ptr b off∧n0≤b
theorem aSN {o:Oper}(hs:uY o=true){n0:Nat}(hsc:Scoped s o n0)(hn:n0≤h.length){r:V}{g:Hp}(hr:b9 P O ops o s h=some (r,g)){hh:Hp}(he:hh.take n0=h.take n0)(hl:n0≤hh.length):b9 P O ops o s hh=some (r,hh):=by
 have a: ∀g:Hp,n0≤g.length→b9 P O ops o s g=(b9 P O ops o s (g.take n0)).map fun p=>(p.1,g):=fun g hg=>by
  have:=aB3 (P:=P) (O:=O) (ops:=ops) hs (g.drop n0) (h:=g.take n0) (s:=s) (by rw[a13,a2r hg];exact hsc)
  rw[a19]at this
  exact this
 rw[a h hn]at hr
 rw[a hh hl,he]
 cases hp:b9 P O ops o s (h.take n0) with
 |none=>rw[hp]at hr;cases hr
 |some p=>
  rw[hp]at hr
  simp only[a1P,a1M,a1Y]at hr⊢
  exact⟨hr.1,trivial⟩
theorem aTL {L0 listed:Array Bool}{i j:Nat}{oi oj:Oper}(hf:aMS ops L0 i j=true)(hoi:ops[i]? =some oi)(hoj:ops[j]? =some oj){n0:Nat}(hn:n0≤h.length)(hsc:Scoped s oi n0)(hI:aYu ops L0 listed s n0)(hanc: ∀k,(aJi ops j j [j]).contains k=true→k=j∨listed.getD k false=true)
  {s1 s2:List V} {h1 h2:Hp} (e1:StepR P F G ops oi s h s1 h1) (e2:StepR P F G ops oj s1 h1 s2 h2): ∃s3 h3,StepR P F G ops oj s h s3 h3∧StepR P F G ops oi s3 h3 s2 h2:=by
 obtain⟨O1,ok1,hF1,hG1,hU1,e1⟩:=e1
 obtain⟨O2,ok2,hF2,hG2,hU2,e2⟩:=e2
 unfold aMS at hf
 rw[hoi,hoj]at hf
 simp only[a1V]at hf
 obtain⟨hap,hs,hf⟩:=hf
 obtain⟨a1,a2,a3⟩:=Oper.apart_spec hap
 rw[cJ]at e1 e2
 simp only[a1X,a1Y]at e1 e2
 obtain⟨⟨v1,g1⟩,f1,rfl,rfl⟩:=e1
 obtain⟨⟨v2,g2⟩,f2,rfl,rfl⟩:=e2
 simp only at f1 f2⊢
 rw[gH oj _ _ a1]at f2
 obtain rfl:g1=h:=pB (F:=fun _=>false) (fun _ _ _ _ _ hf=>by cases hf) hs f1
 obtain⟨dst,op,type,pos,after,guard⟩:=oj
 simp only at hf
 split at hf
 ·rename_i ty t x
  obtain⟨k,hkr,hk⟩:=List.any_eq_true.1 hf
  simp only[a1V]at hk
  obtain⟨k1,k2,k3,k4⟩:=hk
  rcases aHu f2 with⟨rfl,hall⟩|⟨b,off,y,hv,_,rfl,hall⟩
  ·refine⟨fU s dst v2,_,⟨O2,ok2,hF2,hG2,hU2,by rw[cJ,f2];rfl⟩,O1,ok1,hF1,hG1,hU1, ?_⟩
   rw[cJ,gH oi _ _ a3,f1]
   simp only[a1P]
   rw[mG s v1 v2 a2]
  refine⟨fU s dst v2,_,⟨O2,ok2,hF2,hG2,hU2,by rw[cJ,f2];rfl⟩,O1,ok1,hF1,hG1,hU1, ?_⟩
  cases hok:ops[k]? with
  |none=>rw[hok]at k3;cases k3
  |some ok=>
   rw[hok]at k3
   simp only[a1V,Option.isNone_iff_eq_none,beq_iff_eq]at k3
   have hkj:k≠j:=fun e=>by
    rw[e,hoj]at hok
    injection hok with hok
    rw[←hok]at k3
    exact absurd k3.1 (by simp[aIW])
   have hb:n0≤b:=by
    obtain⟨b',off',e,hb⟩:=hI k ok t hok k3.1 k3.2.1 k3.2.2 (fun q oq hq hne=>by
     have:=a1R.1 k4 q (by simpa using (a1W.1 hq).1)
     rw[hq]at this
     simp only[a2B,beq_iff_eq,bne_iff_ne]at this
     exact this.resolve_left hne) (by simpa using k1) ((hanc k k2).resolve_left hkj) _ hv
    injection e with e1 e2
    omega
   rw[cJ,gH oi _ _ a3,aSN hs hsc hn f1 (hh:=g1.set b y) (by rw[a3b hb]) (by simpa using hn)]
   simp only[a1P]
   rw[mG s v1 v2 a2]
 cases hf
def aRc (F G:FuncId→Bool)(ops:Array Oper)(listed:Array Bool)(i:Nat):Bool:=
 (Region.ready .any ops listed).contains i&&(match ops[i]? with
  |none=>false
  |some oi=>(a2x ops.size).all fun j=>(j == i) || listed.getD j true || (match ops[j]? with
   |none=>true
   |some oj=>aLL F G ops oi oj || (aJi ops j j [j]).contains i || (aPV F G ops listed&&aMS ops listed i j)))
theorem aEO {listed:Array Bool}{i:Nat}(d:Bool)(hi:i<listed.size):(listed.setIfInBounds i true).getD i d=true:=by simp[hi]
theorem aPM (listed:Array Bool)(i j:Nat):(listed.setIfInBounds i true).setIfInBounds j true=(listed.setIfInBounds j true).setIfInBounds i true:=by
 by_cases hij:i=j
 ·subst hij;rfl
 apply Array.ext'
 apply a2C
 intro k
 simp only[Array.getElem?_toList,Array.getElem?_setIfInBounds]
 by_cases h1:i=k<;>by_cases h2:j=k<;>simp_all
theorem aTq {listed:Array Bool}{i j:Nat}{oj:Oper}(hi:i<ops.size)(hc:aIK ops listed)(hsz:listed.size=ops.size)(hcut:aN6 ops (listed.setIfInBounds i true)=true)(hij:i≠j)(huni:listed.getD i true=false)(hunj:listed.getD j true=false)(hoj:ops[j]? =some oj)(hprej: ∀e∈oj.after,Region.binds .any e=true→listed.getD e.on false=true):False:=by
 have hjn:j<ops.size:=(a1W.1 hoj).1
 have h1:=a1R.1 hcut j (by simpa using hjn)
 rw[getD_set_ne true hij,hunj]at h1
 simp only[a3h]at h1
 have h2:=a1R.1 h1 i (by simpa using hi)
 rw[aEO false (by rw[hsz];exact hi)]at h2
 simp only[Bool.not_true,a3h]at h2
 rcases aHO hc hoj hprej j [j] (by simp) i (by simpa using h2)with h4|h4
 ·exact hij h4
 have:=getD_both huni
 rw[h4]at this;cases this
theorem Good.pickI {N:Nat}{K:List V→Hp→Prop}{L0:Array Bool}{n0:Nat}: ∀(n:Nat){listed:Array Bool}{s:List V}{h:Hp}{i:Nat}{oi:Oper}{s1:List V}{h1:Hp},listed.size=ops.size→aIK ops listed→i∈Region.ready .any ops listed→
  (∀(j:Nat)(oj:Oper),ops[j]? =some oj→j=i∨listed.getD j true=true∨aLL F G ops oi oj=true∨(aJi ops j j [j]).contains i=true∨(aPV F G ops L0=true∧aMS ops L0 i j=true))→(∀k,listed.getD k true=false→L0.getD k true=false)→
  (aPV F G ops L0=true→uY oi=true→n0≤h.length∧Scoped s oi n0∧aYu ops L0 listed s n0)→ops[i]? =some oi→StepR P F G ops oi s h s1 h1→
  Good P N F G ops K n (listed.setIfInBounds i true) s1 h1→Good P N F G ops K (n+1) listed s h
 |0,listed,s,h,i,oi,s1,h1,hsz,hc,hi,hp,hsub,inv,hoi,e,hg=>by
  refine .inr fun hr=> ?_
  refine⟨(fun hn=>by rw[hn]at hi;cases hi),fun j hj=> ?_⟩
  by_cases hij:i=j
  ·subst hij;exact⟨oi,s1,h1,hoi,e,hg⟩
  exfalso
  obtain⟨hun,oj,hoj,_⟩:=mem_ready.1 hj
  have:j∈aGZ ops.size (listed.setIfInBounds i true):=by
   simp only[aGZ,a3w,List.mem_range]
   exact⟨(a1W.1 hoj).1,by rw[getD_set_ne true hij,hun];rfl⟩
  rw[hg.1]at this
  cases this
 |n+1,listed,s,h,i,oi,s1,h1,hsz,hc,hi,hp,hsub,inv,hoi,e,hg=>by
  refine .inr fun hr=> ?_
  obtain⟨huni,_,hoi',hprei⟩:=mem_ready.1 hi
  obtain rfl:oi=_:=a2N (hoi.symm.trans hoi')
  refine⟨(fun hn=>by rw[hn]at hi;cases hi),fun j hj=> ?_⟩
  by_cases hij:i=j
  ·subst hij;exact⟨oi,s1,h1,hoi,e,hg⟩
  obtain⟨hunj,oj,hoj,hprej⟩:=mem_ready.1 hj
  have hjn:j<ops.size:=(a1W.1 hoj).1
  have hin:i<ops.size:=(a1W.1 hoi).1
  have hanc: ∀k,(aJi ops j j [j]).contains k=true→k=j∨listed.getD k false=true:=fun k hk=>aHO hc hoj hprej j [j] (by simp) k (by simpa using hk)
  have hj':j∈Region.ready .any ops (listed.setIfInBounds i true):=mem_ready.2 ⟨by rw[getD_set_ne true hij];exact hunj,oj,hoj,fun ed he hb=>getD_set_true (hprej ed he hb)⟩
  have hr1:aQt s1 h1:=e.real hoi hr
  rcases hg with⟨hcut,_⟩|hg
  ·exact(aTq hin hc hsz hcut hij huni hunj hoj hprej).elim
  obtain⟨_,hall⟩:=hg hr1
  obtain⟨oj',s2,h2,hoj',e2,hg2⟩:=hall j hj'
  obtain rfl:oj=oj':=a2N (hoj.symm.trans hoj')
  have hpair:aLL F G ops oi oj=true∨(aPV F G ops L0=true∧aMS ops L0 i j=true):=by
   rcases hp j oj hoj with h3|h3|h3|h3|h3
   ·exact absurd h3.symm hij
   ·rw[hunj]at h3;cases h3
   ·exact .inl h3
   ·exfalso
    rcases hanc i h3 with h4|h4
    ·exact hij h4
    have:=getD_both huni
    rw[h4]at this;cases this
   exact .inr h3
  have hap:oi.apart ops oj=true:=by
   rcases hpair with h3|⟨_,h3⟩
   ·simp only[aLL,a1V]at h3;exact h3.1
   unfold aMS at h3
   rw[hoi,hoj]at h3
   simp only[a1V]at h3;exact h3.1
  have hsc:ScopedS s h.length:=by
   obtain⟨A,M,a,w,R⟩:=hr
   exact R.scopeOk
  obtain⟨s3,h3,f1,f2⟩: ∃s3 h3,StepR P F G ops oj s h s3 h3∧StepR P F G ops oi s3 h3 s2 h2:=by
   rcases hpair with h3|⟨h4,h3⟩
   ·exact StepR.comm h3 (hsc.op oj) (hsc.op oi) e e2
   have hs0:uY oi=true:=by
    unfold aMS at h3
    rw[hoi,hoj]at h3
    simp only[a1V]at h3;exact h3.2.1
   obtain⟨i1,i2,i3⟩:=inv h4 hs0
   exact aTL h3 hoi hoj i1 i2 i3 hanc e e2
  refine⟨oj,s3,h3,hoj,f1, ?_⟩
  have hc':aIK ops (listed.setIfInBounds j true):=by
   intro k ok hk hl ed he hb
   by_cases hjk:j=k
   ·subst hjk
    obtain rfl:ok=oj:=a2N (hk.symm.trans hoj)
    exact getD_set_true (hprej ed he hb)
   rw[getD_set_ne false hjk]at hl
   exact getD_set_true (hc k ok hk hl ed he hb)
  have hi2:i∈Region.ready .any ops (listed.setIfInBounds j true):=mem_ready.2 ⟨by rw[getD_set_ne true (Ne.symm hij)];exact huni,oi,hoi,fun ed he hb=>getD_set_true (hprei ed he hb)⟩
  have hsub': ∀k,(listed.setIfInBounds j true).getD k true=false→L0.getD k true=false:=fun k hk=>by
   by_cases hjk:j=k
   ·subst hjk;rw[aEO true (by rw[hsz];exact hjn)]at hk;cases hk
   rw[getD_set_ne true hjk]at hk;exact hsub k hk
  refine Good.pickI (L0:=L0) (n0:=n0) n (by simpa using hsz) hc' hi2 (fun k ok hk=> ?_) hsub' (fun hm hs=> ?_) hoi f2 ?_
  ·rcases hp k ok hk with h3|h3|h3
   ·exact .inl h3
   ·refine .inr (.inl ?_)
    by_cases hjk:j=k
    ·subst hjk;exact aEO true (by rw[hsz];exact hjn)
    rw[getD_set_ne true hjk];exact h3
   exact .inr (.inr h3)
  ·obtain⟨i1,i2,i3⟩:=inv hm hs
   obtain⟨_,_,a3⟩:=Oper.apart_spec hap
   obtain⟨O1,ok1,hF1,hG1,hU1,f1⟩:=f1
   rw[cJ]at f1
   simp only[a1X,a1Y]at f1
   obtain⟨⟨v1,g1⟩,f1,rfl,rfl⟩:=f1
   have mo:aNb F G oj=true:=by
    have:=a1R.1 hm j (by simpa using hjn)
    rw[hoj,hsub j hunj]at this
    simpa using this
   refine⟨Nat.le_trans i1 (aVq hF1 hG1 mo f1),fun y hy z hz=>i2 y hy z ?_,fun k ok t hk hnw hgd hdt huq hL hl z hz=> ?_⟩
   ·rw[aTO fun t ht e=>a3 t ht (by
     subst e
     exact List.mem_append_left _ (List.mem_filterMap.2 ⟨.tmp t,by simpa using hy,rfl⟩))]at hz
    exact hz
   by_cases hjk:j=k
   ·subst hjk
    obtain rfl:oj=ok:=a2N (hoj.symm.trans hk)
    have hv:=(aOs hnw f1).2 hgd
    rw[hdt]at hz
    simp only[fU]at hz
    rcases lK hz with⟨_,rfl⟩|⟨hne,_⟩
    ·exact⟨_,_,hv,i1⟩
    exact absurd rfl hne
   rw[getD_set_ne false hjk]at hl
   refine i3 k ok t hk hnw hgd hdt huq hL hl z ?_
   have hne:=huq j oj hoj hjk
   cases hd:oj.dst with
   |none=>rw[hd]at hz;exact hz
   |some u=>
    rw[hd]at hz hne
    simp only[fU]at hz
    rw[a2I (fun e=>hne (by rw[e]))]at hz
    exact hz
  rw[aPM]
  exact hg2
theorem Good.pick {N:Nat}{K:List V→Hp→Prop}(n:Nat){listed:Array Bool}{s:List V}{h:Hp}{i:Nat}{oi:Oper}{s1:List V}{h1:Hp}(hsz:listed.size=ops.size)(hc:aIK ops listed)(hp:aRc F G ops listed i=true)(hoi:ops[i]? =some oi)(e:StepR P F G ops oi s h s1 h1)
  (hg:Good P N F G ops K n (listed.setIfInBounds i true) s1 h1):Good P N F G ops K (n+1) listed s h:=by
 simp only[aRc,a1V]at hp
 have hi:i∈Region.ready .any ops listed:=by simpa using hp.1
 rw[hoi]at hp
 by_cases hr:aQt s h
 ·have hsc:ScopedS s h.length:=by
   obtain⟨A,M,a,w,R⟩:=hr
   exact R.scopeOk
  refine Good.pickI (L0:=listed) (n0:=h.length) n hsz hc hi (fun j oj hoj=> ?_) (fun _ hk=>hk) (fun _ _=>⟨a2c _,hsc.op oi,fun k ok t _ _ _ _ _ hL hl=> ?_⟩) hoi e hg
  ·have h3:=a1R.1 hp.2 j (by simpa using (a1W.1 hoj).1)
   simp only[hoj,a2B,beq_iff_eq,a1V]at h3
   rcases h3 with(h3|h3)|((h3|h3)|h3)
   ·exact .inl h3
   ·exact .inr (.inl h3)
   ·exact .inr (.inr (.inl h3))
   ·exact .inr (.inr (.inr (.inl h3)))
   exact .inr (.inr (.inr (.inr h3)))
  have:=getD_both hL
  rw[hl]at this;cases this
 exact .inr fun h'=>absurd h' hr
def DrawG (P:Program)(N:Nat)(F G:FuncId→Bool)(ops:Array Oper)(n:Nat)(listed:Array Bool)(s:List V)(h:Hp)(K:List V→Hp→Prop):Prop:=Good P N F G ops K n listed s h
def aSw (ops:Array Oper)(listed:Array Bool):Bool:=
 (a2x ops.size).all fun j=>match ops[j]? with
  |none=>true
  |some oj=> !(listed.getD j false) || oj.after.all fun e=> !(Region.binds .any e) || listed.getD e.on false
theorem aQO {listed:Array Bool}(hb:aSw ops listed=true):aIK ops listed:=by
 intro j oj hj hl e he hbi
 have hjn:j<ops.size:=(a1W.1 hj).1
 have h1:=a1R.1 hb j (by simpa using hjn)
 simp only[hj,hl,Bool.not_true,a3h]at h1
 have h2:=Array.all_eq_true_iff_forall_mem.1 h1 e he
 simpa[hbi]using h2
variable {N n m t:Nat}{fr:List (Nat×V)}{K:List V→Hp→Prop}{op:Op}{ty:TypeId}{pos:String}{aft:Array Edge}{v:V}{gd:Option (Nat×Bool)}{listed:Array Bool}{i:Nat}
theorem DrawG.nil (hr:aGZ ops.size listed=[])(hk:K s h):DrawG P N F G ops 0 listed s h K:=⟨hr,hk⟩
def aOw (F G:FuncId→Bool)(ops:Array Oper)(listed:Array Bool)(i:Nat):Bool:=(listed.size == ops.size)&&aSw ops listed&&aRc F G ops listed i
theorem DrawG.pick {o:Oper}{s1:List V}{h1:Hp}(hp:aOw F G ops listed i=true)(ho:ops[i]? =some o)(e:StepR P F G ops o s h s1 h1)(k:DrawG P N F G ops n (listed.setIfInBounds i true) s1 h1 K):DrawG P N F G ops (n+1) listed s h K:=by
 simp only[aOw,a1V,beq_iff_eq]at hp
 exact Good.pick n hp.1.1 (aQO hp.1.2) hp.2 ho e k
def Fork (P:Program)(N:Nat)(F G:FuncId→Bool)(ops:Array Oper)(n:Nat)(listed:Array Bool)(s:List V)(h:Hp)(K:List V→Hp→Prop):List Nat→Prop
 | []=>True
 |i::l=>(∃o s1 h1,ops[i]? =some o∧StepR P F G ops o s h s1 h1∧DrawG P N F G ops n (listed.setIfInBounds i true) s1 h1 K)∧Fork P N F G ops n listed s h K l
theorem Fork.all : ∀{l:List Nat},Fork P N F G ops n listed s h K l→ ∀i∈l,∃o s1 h1,ops[i]? =some o∧StepR P F G ops o s h s1 h1∧Good P N F G ops K n (listed.setIfInBounds i true) s1 h1
 | [],_,i,hi=>by cases hi
 |j::l,hf,i,hi=>by
  rcases a2y.1 hi with rfl|hi
  ·exact hf.1
  exact Fork.all hf.2 i hi
theorem DrawG.fork (l:List Nat)(hl:Region.ready .any ops listed=l)(hne:l≠ [])(hf:Fork P N F G ops n listed s h K l):DrawG P N F G ops (n+1) listed s h K:=by
 refine .inr fun _=> ?_
 rw[hl]
 exact⟨hne,hf.all⟩
theorem DrawG.gh {s':List V}(hc:aN6 ops listed=true)(hg:Ghost N s h s' h')(k:DrawG P N F G ops (n+1) listed s' h' K):DrawG P N F G ops (n+1) listed s h K:=by
 refine .inl ⟨hc,fun A M0 M h0 w0 a w Q hN hM Gr R hQ=> ?_⟩
 obtain⟨t,ht⟩:=Gr.pre
 have hle:N≤M.length:=by rw[←ht];simp[hM]
 obtain⟨M',h1,h2,h3⟩:=hg A M a w hle R
 refine Good.sound hN hM _ _ k ⟨?_,h2.hr,Gr.ext,fun g hg hl=>Gr.live g hg (h3 g hl)⟩ h2 hQ
 have:M0=M'.take N:=by rw[h1,←ht,←hM];simp
 rw[this]
 exact a2V _ _
theorem Fork.nil :Fork P N F G ops n listed s h K []:=trivial
theorem Fork.cons {l:List Nat}{o:Oper}{s1:List V}{h1:Hp}(ho:ops[i]? =some o)(e:StepR P F G ops o s h s1 h1)(k:DrawG P N F G ops n (listed.setIfInBounds i true) s1 h1 K)(r:Fork P N F G ops n listed s h K l):Fork P N F G ops n listed s h K (i::l):=⟨⟨o,s1,h1,ho,e,k⟩,r⟩
def lst (l:List Nat)(n:Nat):Array Bool:=l.foldl (fun a i=>a.setIfInBounds i true) (a3x n false)
theorem DrawG.jn {L:Array Bool}{m:Nat}{s1:List V}{h1:Hp}(k:DrawG P N F G ops m L s1 h1 K)(q:DrawG P N F G ops m L s1 h1 K→DrawG P N F G ops n listed s h K):DrawG P N F G ops n listed s h K:=q k
theorem DrawG.jg {L:Array Bool}{s':List V}(hL:listed=L)(hc:aN6 ops L=true)(hg:Ghost N s h s' h')(k:DrawG P N F G ops (n+1) L s' h' K):DrawG P N F G ops (n+1) listed s h K:=by
 subst hL
 exact DrawG.gh hc hg k
theorem aSh :aF3 O0 F:=fun _ _ _ _ _ _ hh=>by cases hh
theorem aTp :aP3 O0 G:=fun _ _ _ _ _ _ hh=>by cases hh
theorem aWz :aVp O0 F:=fun _ _ _ _ _ _ hh=>by cases hh
theorem gS (hs:b9 P O0 ops ⟨some t,op,ty,pos,aft,gd⟩ (aG m fr) h=some (v,h')):StepR P F G ops ⟨some t,op,ty,pos,aft,gd⟩ (aG m fr) h (aG m ((t,v)::fr)) h':=
 ⟨O0,aG3,aSh,aTp,aWz,by rw[cJ,hs];simp only[a1P];rw[aEE]⟩
theorem gN (hs:b9 P O0 ops ⟨none,op,ty,pos,aft,gd⟩ (aG m fr) h=some (v,h')):StepR P F G ops ⟨none,op,ty,pos,aft,gd⟩ (aG m fr) h (aG m fr) h':=
 ⟨O0,aG3,aSh,aTp,aWz,by rw[cJ,hs];rfl⟩
theorem gC {f:FuncId}{xs:List V}(hc:Fn P f h xs v h')(hF:F f=false)(hG:G f=true→ ∃news,h'=h++news)(hs:b9 P (aIS f h xs v h') ops ⟨some t,op,ty,pos,aft,gd⟩ (aG m fr) h=some (v,h')):
  StepR P F G ops ⟨some t,op,ty,pos,aft,gd⟩ (aG m fr) h (aG m ((t,v)::fr)) h':=by
 refine⟨aIS f h xs v h',aOh hc, ?_, ?_, ?_,by rw[cJ,hs];simp only[a1P];rw[aEE]⟩
 ·intro k h1 args r1 h2 hk hh
  unfold aIS at hh
  split at hh
  ·rename_i he
   rw[he.1,hF]at hk;cases hk
  cases hh
 ·intro k h1 args r1 h2 hk hh
  unfold aIS at hh
  split at hh
  ·rename_i he
   obtain⟨rfl,rfl,rfl⟩:=he
   simp only[a1M,a1Y]at hh
   rw[←hh.2];exact hG hk
  cases hh
 intro k h1 args r1 h2 hk hh
 unfold aIS at hh
 split at hh
 ·rename_i he
  rw[he.1,hF]at hk;cases hk
 cases hh
open Classical in
noncomputable def aOl (f:FuncId)(xs:List V)(r:V):wF:=fun k h1 xs1=>if k=f∧xs1=xs then some (r,h1)else none
theorem aMv {f:FuncId}{xs:List V}{r:V}:aOl f xs r f h xs=some (r,h):=by simp[aOl]
theorem gU {f:FuncId}{xs:List V}(hc: ∀h,Fn P f h xs v h)(hG:G f=false)(hs:b9 P (aOl f xs v) ops ⟨some t,op,ty,pos,aft,gd⟩ (aG m fr) h=some (v,h)):
  StepR P F G ops ⟨some t,op,ty,pos,aft,gd⟩ (aG m fr) h (aG m ((t,v)::fr)) h:=by
 have key: ∀{k h1 args r1 h2},aOl f xs v k h1 args=some (r1,h2)→k=f∧args=xs∧r1=v∧h2=h1:=by
  intro k h1 args r1 h2 hh
  unfold aOl at hh
  split at hh
  ·rename_i he
   simp only[a1M,a1Y]at hh
   exact⟨he.1,he.2,hh.1.symm,hh.2.symm⟩
  cases hh
 refine⟨aOl f xs v, ?_, ?_, ?_, ?_,by rw[cJ,hs];simp only[a1P];rw[aEE]⟩
 ·intro k h1 args r1 h2 hh
  obtain⟨rfl,rfl,rfl,rfl⟩:=key hh
  exact hc _
 ·intro k h1 args r1 h2 _ hh
  exact(key hh).2.2.2
 ·intro k h1 args r1 h2 hk hh
  rw[(key hh).1,hG]at hk;cases hk
 intro k h1 args r1 h2 _ hh h3
 obtain⟨rfl,rfl,rfl,_⟩:=key hh
 exact aMv
def cA (l:List Nat):FuncId→Bool:=fun f=>l.elem f
end
theorem AB.rd {P:Program}{N:Nat}{Q:Ex→List V→Hp→Prop}{s:List V}{h:Hp}(F G:FuncId→Bool)(hm:P.follows .mixedOrders=true){id:Nat}{l:List Oper}(hr:DrawG P N F G l.toArray l.toArray.size (a3x l.toArray.size false) s h (Q .normal)):AB P N (.region id l.toArray true) Q s h:=by
 intro A M0 M h0 w0 a w hN hM Gr R
 refine wp_region_any hm ?_
 have R':Rel A M s h a w.drew:=⟨R.hr.drew,SR.keep (Grow.drew R.hr) R.sr,R.defers⟩
 exact Good.sound hN hM _ _ hr (Gr.trans (Grow.drew R.hr)) R' (fun s' h' M' a' w' hk G' R''=>⟨.normal,s',h',M',rfl,hk,G',R''⟩)
def Conv (h h':Hp)(x y:V):Prop:= ∀(A:Nat→Prop)(M:List (Option Nat))(w:World)(v:Value),HR A M h w→VR (Xs A M h) M w x v→VR (Xs A M h') M w y v
def Convs (h h':Hp):List V→List V→Prop
 | [],[]=>True
 |x::xs,y::ys=>Conv h h' x y∧Convs h h' xs ys
 |_,_=>False
def Sub (h h':Hp):Prop:= ∀(b:Nat)(B':Blk),h'[b]? =some (some B')→ ∃B,h[b]? =some (some B)
theorem Sub.live {h h':Hp}(hs:Sub h h'){M:List (Option Nat)}{g:Nat}(hl:c8 M h' g):c8 M h g:=by
 obtain⟨b,B,hb,hm⟩:=hl
 obtain⟨C,hc⟩:=hs b B hb
 exact⟨b,C,hc,hm⟩
theorem Sub.xs {h h':Hp}(hs:Sub h h'){A:Nat→Prop}{M:List (Option Nat)}{g:Nat}(hl:Xs A M h' g):Xs A M h g:=hl.elim .inl (fun k=> .inr (hs.live k))
theorem Conv.same {h h':Hp}(hs:Sub h h'){x:V}:Conv h h' x x:=fun _ _ _ _ _ hv=>hv.avoid (fun _ _ hx=>hs.xs hx)
theorem Convs.len {h h':Hp}: ∀{xs ys:List V},Convs h h' xs ys→xs.length=ys.length
 | [],[],_=>rfl
 |_::_,_::_,k=>by simp[Convs.len k.2]
 | [],_::_,k=>k.elim
 |_::_,[],k=>k.elim
theorem Convs.sound {h h':Hp}{A:Nat→Prop}{M:List (Option Nat)}{w:World}(H:HR A M h w): ∀{xs ys:List V}{vs:List Value},Convs h h' xs ys→VCells (Xs A M h) M w xs vs→VCells (Xs A M h') M w ys vs
 | [],[],vs,_,hv=>by unfold VCells at *; exact hv
 |x::xs,y::ys,vs,k,hv=>by
  unfold VCells at *
  obtain⟨v,rest,e1,e2,e3⟩:=hv
  exact⟨v,rest,e1,k.1 A M w v H e2,Convs.sound H k.2 e3⟩
 | [],_::_,_,k,_=>k.elim
 |_::_,[],_,k,_=>k.elim
theorem Convs.same {h h':Hp}(hs:Sub h h'): ∀{xs:List V},Convs h h' xs xs
 | []=>trivial
 |_::_=>⟨Conv.same hs,Convs.same hs⟩
theorem Convs.nil {h h':Hp}:Convs h h' [] []:=trivial
theorem Convs.cons {h h':Hp}{x y:V}{xs ys:List V}(a:Conv h h' x y)(k:Convs h h' xs ys):Convs h h' (x::xs) (y::ys):=⟨a,k⟩
theorem Conv.agg {h h':Hp}{xs ys:List V}(k:Convs h h' xs ys):Conv h h' (.agg xs) (.agg ys):=fun A M w v H hv=>by
 unfold VR at *
 obtain⟨vs,e,hc⟩:=hv
 exact⟨vs,e,Convs.sound H k hc⟩
theorem Conv.tup {h h':Hp}{xs ys:List V}(k:Convs h h' xs ys):Conv h h' (.tup xs) (.tup ys):=fun A M w v H hv=>by
 unfold VR at *
 obtain⟨vs,e,hc⟩:=hv
 exact⟨vs,e,Convs.sound H k hc⟩
def V.shut :V→Bool
 | .sc _ | .row _ _ _ | .eptr _ _ _=>true
 |_=>false
theorem VR.shut {X:Nat→Prop}{M:List (Option Nat)}{w:World}{x:V}{v:Value}(hx:x.shut=true)(h:VR X M w x v):VR X [] w x v:=by
 cases x<;>first|(unfold VR at *; exact h)|(simp[V.shut]at hx)
theorem aQc {α:Type}{p:V→Bool}{E:α→V}{l:List α}(h: ∀x,p (E x)=true):(l.map E).all p=true:=by
 rw[a1R];intro y hy
 simp only[a2Z]at hy
 obtain⟨x,_,rfl⟩:=hy
 exact h x
theorem aS8 {x:V}(h:x.one=true):x.okElem 1=true:=by
 have hc:x.cells=[x]:=by cases x<;>first|rfl|simp[V.one]at h
 simp[V.okElem,V.flatOk,hc,h]
theorem aNp {X:Nat→Prop}{w:World}{g:Nat}{cs:Array Value}{e:TypeId}{f:Nat×Nat}(hw:w.heap[g]? =some (.cells cs e f)): ∀(xs:List V)(i:Nat),(∀c∈xs,c.one=true∧c.shut=true)→VCells X [] w xs ((cs.toList.drop i).take xs.length)→VRow X [] w 1 xs ⟨g,i,none⟩
 | [],i,_,_=>by unfold VRow;trivial
 |x::xs,i,ho,hv=>by
  unfold VCells at hv
  obtain⟨v,rest,e1,e2,e3⟩:=hv
  have hi:i<cs.toList.length:=by
   rcases a2f i cs.toList.length with hl|hl
   ·exact hl
   rw[a10 hl]at e1;simp at e1
  rw[a12 hi]at e1
  simp only[a2b,a2O,List.cons.injEq]at e1
  obtain⟨ev,er⟩:=e1
  have h1:=(ho x (by simp)).1
  have hcell:v.cells= #[v]:=eC (e2.oneCell h1)
  unfold VRow
  refine⟨⟨v,e2,by rw[hcell];rfl, ?_⟩, ?_⟩
  ·rw[hcell]
   intro j u hu
   have hj:j=0:=by have:=(a1W.1 hu).1;simp at this;exact this
   subst hj
   simp at hu
   subst hu
   simp only[Addr.add,if_true]
   unfold World.cell?
   rw[hw]
   subst ev
   simp at hi
   simp[hi]
  have:(⟨g,i,none⟩:Addr).add 1=⟨g,i+1,none⟩:=by simp[Addr.add]
  rw[this]
  exact aNp hw xs (i+1) (fun c hc=>ho c (by simp[hc])) (by rw[er];exact e3)
theorem Conv.row {h h':Hp}(hs:Sub h h'){b n:Nat}{e:TypeId}{cs:List V}{ag:Bool}(hb:h[b]? =some (some ⟨e,cs⟩))(hb':h'[b]? =some none)(hsh:cs.all V.shut=true)(hn:n=cs.length):Conv h h' (.sl b 0 n 1 ag) (.row none 1 cs):=by
 intro A M w v H hv
 obtain⟨hone,hcase⟩:=H.blk b _ hb
 unfold VR at hv⊢
 rcases hv with⟨hm,rfl,h0,_⟩|⟨g,cap,e',sz,hm,rfl,h1,_,h3,hshp,_⟩
 ·have:cs=[]:=a1S (by omega)
  subst this
  exact⟨none,0,rfl,a2c _,fun _=>rfl,(fun b hb=>by cases hb),by simp,fun hne=>absurd rfl hne⟩
 rcases hcase with⟨hm',_⟩|⟨g',bM,hm',hA,hw,hle,hcs⟩
 ·rw[hm]at hm';cases hm'
 rw[hm]at hm'
 injection hm' with hm'
 injection hm' with hm'
 subst hm'
 obtain⟨f,_,hw⟩:=hw.inCells hshp
 refine⟨some ⟨g,0,none⟩,cap,by rw[hn],by omega,fun hh=>(by cases hh),(fun b hb=>by cases hb),fun c hc=>aS8 (hone c hc),fun _=>⟨⟨g,0,none⟩,rfl,h3, ?_,rfl, ?_⟩⟩
 ·rintro(ha|⟨c,C,hc,hmc⟩)
  ·exact hA ha
  obtain⟨C',hc'⟩:=hs c C hc
  have:=H.inj c b C' _ g hc' hb hmc hm
  subst this
  rw[hb']at hc;cases hc
 refine aNp hw cs 0 (fun c hc=>⟨hone c hc,a1R.1 hsh c hc⟩) ?_
 rw[a2d]
 refine VCells.mk (by rw[a13];simp only[Array.length_toList];dsimp only at hle;omega) (fun i c u hc hu=> ?_)
 obtain⟨u',hu',hr⟩:=hcs.get hc
 dsimp only at hu'
 rw[hu]at hu'
 injection hu' with hu'
 subst hu'
 exact(hr.shut (a1R.1 hsh c (a11 hc))).avoid (fun _ _ hx=>hs.xs hx)
def FCv (h h':Hp)(fr:List (Nat×V)):List (Nat×V)→Prop
 | []=>True
 |(t,y)::r=>(∃x,eV fr t=some x∧Conv h h' x y)∧FCv h h' fr r
theorem FCv.nil {h h':Hp}{fr:List (Nat×V)}:FCv h h' fr []:=trivial
theorem FCv.cons {h h':Hp}{fr r:List (Nat×V)}{t:Nat}{x y:V}(hl:eV fr t=some x)(hc:Conv h h' x y)(k:FCv h h' fr r):FCv h h' fr ((t,y)::r):=⟨⟨x,hl,hc⟩,k⟩
theorem FCv.get {h h':Hp}{fr:List (Nat×V)}: ∀{fr':List (Nat×V)},FCv h h' fr fr'→ ∀{t:Nat}{y:V},eV fr' t=some y→ ∃x,eV fr t=some x∧Conv h h' x y
 | [],_,t,y,hy=>by cases hy
 |(u,z)::r,k,t,y,hy=>by
  simp only[eV]at hy
  cases hb:a2T u t with
  |true=>
   rw[hb]at hy
   have:=a2g hb
   subst this
   simp only[cond_true,a1M]at hy
   subst hy
   exact k.1
  |false=>rw[hb]at hy;exact k.2.get hy
def HCv (H H':Hp):Hp→Hp→Prop
 | [],[]=>True
 |_::h,none::h'=>HCv H H' h h'
 |some B::h,some B'::h'=>(B.e=B'.e∧Convs H H' B.cells B'.cells∧B'.cells.all V.one=true)∧HCv H H' h h'
 |_,_=>False
theorem HCv.get {H H':Hp}: ∀{h h':Hp},HCv H H' h h'→ ∀{j:Nat}{B':Blk},h'[j]? =some (some B')→ ∃B,h[j]? =some (some B)∧B.e=B'.e∧Convs H H' B.cells B'.cells∧B'.cells.all V.one=true
 | [],[],_,j,B',hj=>by simp at hj
 |_::h,none::h',hh,j,B',hj=>by
  cases j with
  |zero=>simp at hj
  |succ j=>simp only[a1Q]at hj ⊢; exact HCv.get (h:=h) hh hj
 |some B::h,some C::h',hh,j,B',hj=>by
  cases j with
  |zero=>
   simp only[a14,a1M]at hj
   subst hj
   exact⟨B,rfl,hh.1.1,hh.1.2.1,hh.1.2.2⟩
  |succ j=>simp only[a1Q]at hj ⊢; exact HCv.get (h:=h) hh.2 hj
 | [],_::_,hh,_,_,_=>hh.elim
 |_::_,[],hh,_,_,_=>by unfold HCv at hh;exact hh.elim
 |none::_,some _::_,hh,_,_,_=>hh.elim
theorem HCv.len {H H':Hp}: ∀{h h':Hp},HCv H H' h h'→h.length=h'.length
 | [],[],_=>rfl
 |_::h,none::h',hh=>by simp[HCv.len (h:=h) hh]
 |some B::h,some C::h',hh=>by simp[HCv.len (h:=h) hh.2]
 | [],_::_,hh=>hh.elim
 |_::_,[],hh=>by unfold HCv at hh;exact hh.elim
 |none::_,some _::_,hh=>hh.elim
theorem HCv.nil {H H':Hp}:HCv H H' [] []:=trivial
theorem HCv.dead {H H' h h':Hp}{o:Option Blk}(k:HCv H H' h h'):HCv H H' (o::h) (none::h'):=by cases o<;>exact k
theorem HCv.live {H H' h h':Hp}{e:TypeId}{cs cs':List V}(hc:Convs H H' cs cs')(ho:cs'.all V.one=true)(k:HCv H H' h h'):HCv H H' (some ⟨e,cs⟩::h) (some ⟨e,cs'⟩::h'):=⟨⟨rfl,hc,ho⟩,k⟩
theorem Ghost.conv0 {N n:Nat}{fr fr':List (Nat×V)}{h h':Hp}(hf: ∀t y,eV fr' t=some y→ ∃x,eV fr t=some x∧Conv h h' x y)(hh:HCv h h' h h'):Ghost N (aG n fr) h (aG n fr') h':=by
 intro A M a w hN R
 have hs:Sub h h':=fun b B' hb=>by obtain⟨B,hB,_⟩:=hh.get hb;exact⟨B,hB⟩
 refine⟨M,rfl,⟨⟨by rw[←hh.len];exact R.hr.len,R.hr.alt, ?_, ?_,R.hr.glob.avoid fun g _ hx=>hx.elim .inl (fun hl=> .inr (hs.live hl))⟩, ?_,R.defers⟩,fun g hl=>hs.live hl⟩
 ·intro b B' hb
  obtain⟨B,hB,he,hc,ho⟩:=hh.get hb
  refine⟨a1R.1 ho, ?_⟩
  have hl:=hc.len
  rcases(R.hr.blk b B hB).2 with⟨hn,hc0⟩|⟨g,cs,hg,hA,hw,hle,hcs⟩
  ·exact .inl ⟨hn,a1S (by rw[←hl,hc0];rfl)⟩
  refine .inr ⟨g,cs,hg,hA,by rw[←he,←hl];exact hw,by rw[←hl];exact hle, ?_⟩
  rw[←hl]
  exact Convs.sound R.hr hc hcs
 ·intro b b' B B' g hb hb' hm hm'
  obtain⟨C,hC,_⟩:=hh.get hb
  obtain⟨C',hC',_⟩:=hh.get hb'
  exact R.hr.inj b b' C C' g hC hC' hm hm'
 exact aFJ R.sr (fun t y hy=>by
  obtain⟨x,hx,hl⟩:=hf t y hy
  exact⟨x,hx,fun v hv=>hl A M w v R.hr hv⟩)
theorem Ghost.conv {N n:Nat}{fr fr':List (Nat×V)}{h h':Hp}(hf:FCv h h' fr fr')(hh:HCv h h' h h'):Ghost N (aG n fr) h (aG n fr') h':=Ghost.conv0 (fun _ _ hy=>hf.get hy) hh
def aVQ :Hp→Hp→Bool
 |_,[]=>true
 |some _::h,some _::h'=>aVQ h h'
 |_::h,none::h'=>aVQ h h'
 |_,_=>false
theorem aDd : ∀{h h':Hp},aVQ h h'=true→Sub h h'
 |h,[],_,b,B',hb=>by simp at hb
 |some B::h,some C::h',k,b,B',hb=>by
  cases b with
  |zero=>exact⟨B,rfl⟩
  |succ b=>simp only[a1Q]at hb ⊢; exact aDd (h:=h) k b B' hb
 |o::h,none::h',k,b,B',hb=>by
  cases b with
  |zero=>simp at hb
  |succ b=>
   simp only[a1Q]at hb⊢
   refine aDd (h:=h) (h':=h') ?_ b B' hb
   cases o<;>exact k
 |none::_,some _::_,k,_,_,_=>by cases k
 | [],o::_,k,_,_,_=>by cases o<;>cases k
def bytesOf (s:ByteArray):List Int:=s.data.toList.map fun b=>(b.toNat:Int)
def stb (s:ByteArray):Option (List Int):=if s.size≤lim then some (bytesOf s)else none
theorem aAm (s:ByteArray):(bytesOf s).length=s.size:=by unfold bytesOf;rw[a16];rfl
def aVF (s:ByteArray)(i:Int):Option Int:=if 0≤i then(s[i.toNat]?).map (fun b=>(b.toNat:Int))else none
section
variable {P:Program}{N n:Nat}{ops:Array Oper}{l:List Oper}{fr:List (Nat×V)}{h h':Hp}{K:List V→Hp→Prop}
theorem ixT {t:TypeId}{s:ByteArray}{k:IntKind}{j v:Int}{sz by_:Nat}{z:Value}(ht:aM P t=some ⟨.string,sz,by_,z⟩)(hx:aVF s j=some v):aBX P t (.sc (.string s)) (.sc (.int k j))=some (.sc (.int .u8 v)):=by
 unfold aVF at hx
 split at hx
 ·rename_i h0
  simp only[a1X]at hx
  obtain⟨b,hb,rfl⟩:=hx
  simp[aBX,ht,nQ,h0,hb]
 cases hx
theorem OpsW.does {o:Oper}{v:V}{s:List V}(hw:iM ops o s=some true)(hD: ∀(A:Nat→Prop) (M:List (Option Nat)) (a:Act) (w:World),HR A M h w→SR (Xs A M h) M w s a→Does P o a w A M h v h')
  (hk:OpsW P N ops l (fU s o.dst v) h' K):OpsW P N ops (o::l) s h K:=fun k hl A M0 M h0 w0 a w Q hN hM G R hQ=>by
 have h0':ops[k]? =some o:=by simpa using (hl 0).symm
 simp only[a2b,a2E]
 rw[wpOps_cons]
 unfold wpOp
 rw[h0']
 simp only
 rw[aGj R.sr hw,if_pos rfl]
 refine .inl (hD A M a w R.hr R.sr _ _ fun v' w' M' G' hv=> ?_)
 exact hk (k+1) (fun j=>by have:=hl (j+1);simpa[a3f,a2Y 1 j]using this) A M0 M' h0 w0 _ w' Q hN hM (G.trans G') ⟨G'.hr,(SR.keep G' R.sr).put o.dst hv,by rw[nP];exact R.defers⟩ hQ
theorem aPI {X:Nat→Prop}{M:List (Option Nat)}{w:World}(s:ByteArray):VCells X M w ((bytesOf s).map (eI .u8)) (s.data.toList.map fun b=>Value.int .u8 b.toNat):=by
 refine VCells.mk (by simp[bytesOf]) (fun i c v hc hv=> ?_)
 simp only[bytesOf,List.map_map,a17,a1X]at hc hv
 obtain⟨b,hb,rfl⟩:=hc
 obtain⟨b',hb',rfl⟩:=hv
 rw[hb]at hb'
 injection hb' with hb'
 subst hb'
 unfold VR;rfl
theorem aYp {t:Nat}{a b e:TypeId}{x:Operand}{s:ByteArray}{r:List Int}{i s1 b1 s2 b2 s3 b3:Nat}{z1 z2 z3:Value}{ty:TypeId}{pos:String}{aft:Array Edge}(hx:bX n fr x=some (.sc (.string s)))
  (ha:aM P a=some ⟨.string,s1,b1,z1⟩) (hb:aM P b=some ⟨.slice e,s2,b2,z2⟩) (he:aM P e=some ⟨.int .u8,s3,b3,z3⟩) (hs:stb s=some r) (hl:h.length=i) (hh:h++[some ⟨e,r.map (eI .u8)⟩]=h')
  (k:OpsW P N ops l (aG n ((t,.sl i 0 r.length 1 false)::fr)) h' K):OpsW P N ops (⟨some t,.convert a b x,ty,pos,aft,none⟩::l) (aG n fr) h K:=by
 subst hl hh
 unfold stb at hs
 split at hs
 ·rename_i hsz
  injection hs with hs
  subst hs
  refine OpsW.does (v:= .sl h.length 0 (bytesOf s).length 1 false) rfl ?_ (by dsimp only;rw[aEE];exact k)
  intro A M ac w H S
  have hev:ac.eval x= .string s:=by have:=cH H.glob S (cV hx);unfold VR at this;exact this
  have hge:=grownCap_ge w s.size 0 e
  have hcm:grownCap w s.size 0 e≤maxLen:=grownCap_le_maxLen w s.size 0 e (by unfold lim at hsz;simp only[maxLen];omega)
  have hrow:(bytesRow s (grownCap w s.size 0 e)).size=grownCap w s.size 0 e:=by
   simp only[bytesRow,Array.size_append,Array.size_map,Array.size_replicate]
   show s.size+_=_
   omega
  have Gd:=Grow.drew H
  have G:=Gd.trans (Grow.allocF Gd.hr e ((bytesOf s).map (eI .u8)) (bytesRow s (grownCap w s.size 0 e)) (by rw[hrow,List.length_map,aAm];exact hge) (by
   have:(bytesRow s (grownCap w s.size 0 e)).toList.take ((bytesOf s).map (eI .u8)).length=s.data.toList.map fun b=>Value.int .u8 b.toNat:=by
    simp only[bytesRow,Array.toList_append,Array.toList_map]
    rw[show((bytesOf s).map (eI .u8)).length=(s.data.toList.map fun b=>Value.int .u8 b.toNat).length by simp[bytesOf]]
    exact List.take_left
   rw[this]
   exact aPI s) (fun c hc=>by
    simp only[List.mem_map]at hc
    obtain⟨y,_,rfl⟩:=hc
    rfl) _ (.inr rfl))
  refine Does.value (sem:=convert a b (.string s)) (by simp[execOp,hev]) ⟨_,_,_,run_bytes_of_string w a b e s (cR ha).1 (cR hb).1 (cR he).1,G, ?_⟩
  unfold VR
  refine .inr ⟨w.heap.size,grownCap w s.size 0 e,e,grownCap w s.size 0 e,by rw[←H.len];simp,by rw[aAm],by rw[aAm];exact hge,hcm,by omega, ?_,by omega⟩
  unfold World.shape?
  rw[show(w.drew.alloc (.cells (bytesRow s (grownCap w s.size 0 e)) e ((bytesRow s (grownCap w s.size 0 e)).size,(bytesRow s (grownCap w s.size 0 e)).size+1))).heap[w.heap.size]? =some (.cells (bytesRow s (grownCap w s.size 0 e)) e ((bytesRow s (grownCap w s.size 0 e)).size,(bytesRow s (grownCap w s.size 0 e)).size+1))from heap_alloc_new w.drew _]
  simp only[hrow]
 cases hs
end
def bM {α:Type}(n:Nat)(l:List α):Option (List α):=if l.length=n then some l else none
def cC {α:Type}(n:Nat)(l:List α)(i:Int):Option α:=if i<n then aW l i else none
def arp {α:Type}(n:Nat)(l:List α):Option (List α):=if n≤l.length then some (l.take n)else none
def aHW {α:Type}(n:Nat)(l:List (List α)):Option (List (List α)):=if l.all (fun x=>x.length == n)=true then some l else none
theorem aJt {α:Type}{n:Nat}{l m:List (List α)}(h:aHW n l=some m): ∀x∈l,x.length=n:=by
 unfold aHW at h
 split at h
 ·rename_i hh
  intro x hx
  exact beq_iff_eq.1 (a1R.1 hh x hx)
 cases h
theorem aU {α:Type}{n:Nat}{l m:List α}(h:bM n l=some m):l.length=n:=by
 unfold bM at h;split at h
 ·assumption
 cases h
theorem aSg {α:Type}{n:Nat}{l m:List α}(h:bM n l=some m)(hn:Nat.ble 1 n=true):Nat.ble 1 l.length=true:=by rw[aU h];exact hn
theorem bQ {α:Type}{n:Nat}{l m:List α}(h:arp n l=some m):m.length=n:=by
 unfold arp at h;split at h
 ·injection h with h;subst h;simp;omega
 cases h
theorem fJ {α:Type}{n:Nat}{l:List α}{i:Int}{y:α}(h:cC n l i=some y):aW l i=some y:=by
 unfold cC at h;split at h
 ·exact h
 cases h
theorem aIo {α:Type}{n:Nat}{l:List α}{i:Int}{y:α}(h:cC n l i=some y):i<n:=by
 unfold cC at h;split at h
 ·assumption
 cases h
section
variable {P:Program}{h h':Hp}{t e:TypeId}{ti:TI}{i off b N:Nat}{v:V}{α:Type}{E:α→V}{l m:List α}{y:α}{k:IntKind}{j:Int}{sz by_:Nat}{z:Value}{ag:Bool}
theorem iaB (ht:aM P t=some ⟨.array N e,sz,by_,z⟩)(he:aM P e=some ti)(h1:ti.size=1)(hx:cC N l j=some y):fT P t (.ptr b 0) (.sc (.int k j))=some (.ptr b j.toNat):=by
 obtain⟨h2,h3,_⟩:=d9 (fJ hx)
 simp[fT,ht,nQ,he,h1,h2,aIo hx]
theorem iaG {es:List V}(ht:aM P t=some ⟨.array N e,sz,by_,z⟩)(he:aM P e=some ti)(h1:ti.size=1)(hx:cC N l j=some y):fT P t (.eptr es 0 0) (.sc (.int k j))=some (.eptr es 0 j.toNat):=by
 obtain⟨h2,h3,_⟩:=d9 (fJ hx)
 simp[fT,ht,nQ,he,h1,h2,aIo hx]
theorem ixA (ht:aM P t=some ⟨.array N e,sz,by_,z⟩)(he:aM P e=some ti)(h1:ti.size=1)(hd:cB ti.desc=false)(hx:cC N l j=some y):aBX P t (.agg (l.map E)) (.sc (.int k j))=some (E y):=by
 obtain⟨h2,h3,h4⟩:=d9 (fJ hx)
 simp[aBX,ht,nQ,he,h1,h2,aIo hx,iK,hd,h4]
theorem ldG (ht:aM P t=some ti)(hd:cB ti.desc=false)(hx:aW l j=some y):eM P t h (.eptr [.agg (l.map E)] 0 j.toNat)=some (E y):=by
 obtain⟨_,_,h3⟩:=d9 hx
 simp[eM,V.cells,iK,ht,hd,h3]
theorem ldA (ht:aM P t=some ⟨.array N e,sz,by_,z⟩)(hsz:sz=N)(hb:h[b]? =some (some ⟨i,l.map E⟩))(hl:l.length=N):eM P t h (.ptr b 0)=some (.agg (l.map E)):=by
 subst hsz
 simp only[eM,hb,iK,ht,cB,if_true,a2d,a16]
 rw[if_pos (by omega),a1N (by simp;omega)]
theorem aZQ (ht:aM P t=some ⟨.array N e,sz,by_,z⟩)(hsz:sz=N)(hl:l.length=N):eM P t h (.eptr [.agg (l.map E)] 0 0)=some (.agg (l.map E)):=by
 subst hsz
 simp only[eM,a14,V.cells,iK,ht,cB,if_true,a2d,a16]
 rw[if_pos (by omega),a1N (by simp;omega)]
theorem stA (ht:aM P t=some ⟨.array N e,sz,by_,z⟩)(hsz:sz=N)(hb:h[b]? =some (some ⟨i,l.map E⟩))(hE: ∀x,(E x).one=true)(hl:l.length=N)(hm:m.length=N)(hh:h.set b (some ⟨i,m.map E⟩)=h'):lZ P t h (.ptr b 0) (.agg (m.map E))=some h':=by
 subst hh hsz
 simp only[lZ,ht,hb]
 rw[if_pos ⟨by simp[V.flatOk,V.cells,hE],by simp[V.cells,hm],by simp[hl]⟩]
 congr 4
 unfold splice
 simp only[V.cells,a28,a2M,a2R,a16]
 rw[a10 (by simp;omega),a2s]
theorem slA (ht:aM P t=some ⟨.array N e,sz,by_,z⟩)(he:aM P e=some ti)(h1:ti.size=1)(hag:cB ti.desc=ag)(hb:h[b]? =some (some ⟨i,l.map E⟩))(hl:l.length=N)(hN:0<N∧N≤lim):jV P t h (.ptr b 0) none none=some (.sl b 0 N 1 ag):=by
 subst hag
 simp only[jV,ht,he,nG,yG,hb]
 rw[if_pos ⟨by omega,hN.2,a3a _,by omega,a3a _,by simp[h1,hl]⟩]
 simp[h1]
theorem apR {nl:Option Bool}(ht:aM P t=some ⟨.array N e,sz,by_,z⟩)(hE: ∀x,(E x).one=true)(hN:0<N)(hx:arp N l=some m):aJd P t (.row nl 1 (l.map E))=some (.eptr [.agg (m.map E)] 0 0):=by
 unfold arp at hx
 split at hx
 ·injection hx with hx
  subst hx
  simp only[aJd,ht]
  rw[if_pos ⟨trivial,hN,by simpa using by assumption,by simp[hE]⟩,a2z]
 cases hx
end
section
variable {P:Program}{O:wF}{n:Nat}{fr:List (Nat×V)}{h h':Hp}{ty:TypeId}{pos:String}{aft:Array Edge}{d:Option Tmp}{g:Option (Nat×Bool)}{x:Operand}{a v:V}
theorem a0H {t:TypeId}(hx:bX n fr x=some a)(hv:aJd P t a=some v):bR P O ⟨d,.sliceToArrayPointer t x,ty,pos,aft,g⟩ (aG n fr) h=some (v,h):=by simp[bR,cV hx,hv]
end
theorem V.le_arr {α:Type}{E:α→V}{f:Nat→Nat}{vn:Nat→Bool}{l:List α}(hE: ∀x,(E x).rn f=E x):V.le vn (.agg (l.map E)) ((V.agg (l.map E)).rn f):=by
 have:(V.agg (l.map E)).rn f=V.agg (l.map E):=by simp only[V.rn,qJ hE]
 rw[this];exact V.le_refl _ _
theorem aQh {k:IntKind}(l:List Int):V.rfs (l.map (eI k))=true:=aFK (fun _=>rfl) l
theorem aRD (l:List Bool):V.rfs (l.map eB)=true:=aFK (fun _=>rfl) l
abbrev eA {α:Type}(E:α→V)(l:List α):V:= .agg (l.map E)
theorem a0K {α:Type}{E:α→V}{l:List α}(h: ∀x,(E x).one=true):(V.agg (l.map E)).flatOk=true:=by simp[V.flatOk,V.cells,h]
theorem aJr {P:Program}{h:Hp}{t e:TypeId}{N sz by_:Nat}{z:Value}{α:Type}{E:α→V}{l:List (List α)}{y:List α}{j:Int}(ht:aM P t=some ⟨.array N e,sz,by_,z⟩)(hsz:sz=N)(hx:aW l j=some y)(hl:y.length=N):eM P t h (.eptr (l.map (eA E)) j.toNat 0)=some (.agg (y.map E)):=by
 subst hsz
 obtain⟨_,_,h3⟩:=d9 hx
 simp only[eM,a17,h3,a1P,V.cells,iK,ht,cB,if_true,a2d,a16]
 rw[if_pos (by omega),a1N (by simp;omega)]
section
variable {P:Program}(t:TypeId)(xo yo:Operand)
theorem bN {α β:Type}(s:Sem α)(f:α→Sem β){a:α}(h:aS P s=some a):aS P (s >>= f)=aS P (f a):=by
 show aS P (Sem.bind s f)=_
 induction s with
 |pure x=>simp only[aS,a1M]at h;subst h;rfl
 |program k ih=>exact ih P h
 |mark m k ih=>exact ih h
 |_=>simp[aS]at h
theorem cZ {t:TypeId}{ti:TI}(ht:aM P t=some ti):aS P (underlying t)=some ti.desc:=by
 have h1:=(cR ht).1
 show aS P (match P.underlying t with|some d=>pure d|none=>stuck "no such type")=_
 rw[h1];rfl
end
section
variable {P:Program}
theorem wG {t:TypeId}{ti:TI}(ht:aM P t=some ti):aS P (sizeOf t)=some ti.size:=by
 obtain⟨_,i,h1,h2,_⟩:=cR ht
 have:aS P (typeInfo t)=some i:=by
  show aS P (match P.info? t with|some i=>pure i|none=>stuck "no such type")=_
  rw[h1];rfl
 unfold sizeOf
 rw[bN _ _ this,←h2];rfl
theorem aEM {t:TypeId}{ti:TI}(ht:aM P t=some ti)(hd:cB ti.desc=false){cs:Array Value}{off:Nat}{v:Value}(hv:cs[off]? =some v):aS P (part t cs off)=some v:=by
 unfold part
 have hu:=cZ ht
 have h1:aS P (isAgg t)=some false:=by
  unfold isAgg
  rw[bN _ _ hu]
  cases hh:ti.desc<;>first|rfl|(rw[hh]at hd;simp[cB]at hd)
 rw[bN _ _ h1]
 simp only[a1T,if_false,hv]
 rfl
theorem aOR {t:TypeId}{k k':IntKind}{sz by_:Nat}{z:Value}(ht:aM P t=some ⟨.int k',sz,by_,z⟩)(d:Nat)(a b:Int):aS P (Op.equalIn (d+1) t (.int k a) (.int k b))=some (a == b):=by
 rw[Op.equalIn,bN _ _ (cZ ht)]
 simp only[if_true]
 rfl
theorem aPr {t e:TypeId}{k k':IntKind}{N sz by_ sz' by':Nat}{z z':Value}(ht:aM P t=some ⟨.array N e,sz,by_,z⟩)(he:aM P e=some ⟨.int k',sz',by',z'⟩)(h1:sz'=1){l m:List Int}(hl:l.length=N)(hm:m.length=N)(d:Nat):
  aS P (Op.equalIn (d+2) t (.agg (l.map (Value.int k)).toArray) (.agg (m.map (Value.int k)).toArray))=some (l == m):=by
 subst h1
 rw[Op.equalIn,bN _ _ (cZ ht)]
 simp only
 rw[bN _ _ (wG he)]
 simp only[Std.Legacy.Range.forIn_eq_forIn_range',Std.Legacy.Range.size,a3m,a2P,a3y]
 have key: ∀(c i:Nat),i+c=N→l.take i=m.take i→aS P (do
   let r←forIn (a3v i c 1) ((none,()):Option Bool×Unit) fun i r=>do
    let a←part e (l.map (Value.int k)).toArray (i*1)
    let b←part e (m.map (Value.int k)).toArray (i*1)
    let q←Op.equalIn (d+1) e a b
    if(!q)=true then pure (ForInStep.done (some false,()))else pure (ForInStep.yield (none,()))
   match r.fst with
   |some a=>pure a
   |none=>pure true)=some (l == m):=by
  intro c
  induction c with
  |zero=>
   intro i hi hp
   have:l=m:=by
    rw[a1N (by omega),a1N (by omega)]at hp
    exact hp
   subst this
   simp only[a3n,a29]
   show some true=_
   simp
  |succ c ih=>
   intro i hi hp
   have hil:i<l.length:=by omega
   have him:i<m.length:=by omega
   simp only[a2E,a23,bind_assoc]
   rw[bN _ _ (aEM he rfl (v:= .int k l[i]) (by simp[hil])),bN _ _ (aEM he rfl (v:= .int k m[i]) (by simp[him])),bN _ _ (aOR he d _ _)]
   by_cases hq:l[i]=m[i]
   ·have:=ih (i+1) (by omega) (by rw[a2i hil,a2i him,hp,hq])
    simpa[hq]using this
   have hne:l≠m:=by rintro rfl;exact hq rfl
   have:(l == m)=false:=by simpa using hne
   rw[this]
   have hq':(l[i] == m[i])=false:=by simpa using hq
   rw[hq']
   rfl
 refine Eq.trans (congrArg (aS P) ?_) (key N 0 (by omega) (by simp))
 refine congr (congrArg bind ?_) (funext fun r=> ?_)
 ·rfl
 obtain⟨r,_⟩:=r
 cases r<;>rfl
variable (t:TypeId)(xo yo:Operand)
theorem aNA (k:IntKind)(l:List Int):eN (.agg (l.map (eI k)))=some (.agg (l.map (Value.int k)).toArray):=by
 have:(l.map (eI k)).mapM dB=some (l.map (Value.int k)):=by
  induction l with
  |nil=>rfl
  |cons x l ih=>simp only[a2j,a2h,ih];rfl
 simp only[eN,this,a1P]
theorem aOH {e:TypeId}{k':IntKind}{N sz by_ sz' by':Nat}{z z':Value}{t:TypeId}(ht:aM P t=some ⟨.array N e,sz,by_,z⟩)(he:aM P e=some ⟨.int k',sz',by',z'⟩)(hd:2≤P.depth){bo:BinOp}(hbo:bo= .eql∨bo= .neq)(a b:Array Value):aS P (eqGuard bo t xo yo (.agg a) (.agg b))=some ():=by
 unfold eqGuard
 have hg:P.eqGuardType P.depth t=false:=by
  obtain⟨q,hq⟩: ∃q,P.depth=q+2:=⟨P.depth-2,by omega⟩
  rw[hq]
  simp only[Program.eqGuardType,(cR ht).1,(cR he).1]
 rcases hbo with rfl|rfl<;>
 ·show aS P (if(!P.eqGuardType P.depth t)=true then pure ()else _)=some ()
  rw[hg];rfl
theorem aV1 {e:TypeId}{k k':IntKind}{N sz by_ sz' by':Nat}{z z':Value}{t:TypeId}(ht:aM P t=some ⟨.array N e,sz,by_,z⟩)(he:aM P e=some ⟨.int k',sz',by',z'⟩)(h1:sz'=1)(hd:2≤P.depth){l m:List Int}(hl:l.length=N)(hm:m.length=N):
  dC P .eql t xo yo (.agg (l.map (eI k))) (.agg (m.map (eI k)))=some (.sc (.bool (l == m))):=by
 simp only[dC,aNA,pureV]
 rw[bN _ _ (aOH xo yo ht he hd (.inl rfl) _ _)]
 have:aS P (binOp .eql t (.agg (l.map (Value.int k)).toArray) (.agg (m.map (Value.int k)).toArray))=some (.bool (l == m)):=sQ _ _ (aPr ht he h1 hl hm 9998)
 rw[this];rfl
theorem aVV {e:TypeId}{k k':IntKind}{N sz by_ sz' by':Nat}{z z':Value}{t:TypeId}(ht:aM P t=some ⟨.array N e,sz,by_,z⟩)(he:aM P e=some ⟨.int k',sz',by',z'⟩)(h1:sz'=1)(hd:2≤P.depth){l m:List Int}(hl:l.length=N)(hm:m.length=N):
  dC P .neq t xo yo (.agg (l.map (eI k))) (.agg (m.map (eI k)))=some (.sc (.bool (!(l == m)))):=by
 simp only[dC,aNA,pureV]
 rw[bN _ _ (aOH xo yo ht he hd (.inr rfl) _ _)]
 have:aS P (binOp .neq t (.agg (l.map (Value.int k)).toArray) (.agg (m.map (Value.int k)).toArray))=some (.bool (!(l == m))):=sQ _ (fun b=>Value.bool !b) (aPr ht he h1 hl hm 9998)
 rw[this];rfl
end
theorem aQX {P:Program} {f:FuncId} {fn:Func} {args:List V} {r:V} {h:Hp} {e:Array Value→Sem Value} (hf:P.funcs[f]? =some fn) (hn:(fn.name == "runtime.NumGoroutine")=false) (hb:fn.body.isNone=true) (h1:Extern.findNext fn=none) (h2:Extern.find fn=some e)
  (he: ∀(X:Nat→Prop)(M:List (Option Nat))(w:World)(vs:List Value),VCells X M w args vs→ ∃v,(e vs.toArray).run P w= .ok v w∧VR X M w r v):Fn P f h args r h:=by
 intro A M w vs H hargs
 obtain⟨v,hv,hr⟩:=he _ _ _ _ hargs
 refine .inr ⟨v,w, ?_,M,Grow.refl H,hr⟩
 have e1:(callFunc f vs.toArray).run P w=((e vs.toArray).run P w).andThen fun v w=> .ok (.value v) w:=by
  unfold callFunc
  show Sem.run P (match P.funcs[f]? with|none=>_|some fn=>_) w=_
  rw[hf]
  simp only[hn,a1T,if_false,hb,if_true,h1,h2]
  show Sem.run P (Sem.bind (e vs.toArray) _) w=_
  exact Sem.run_bind ..
 rw[e1,hv]
 rfl
section
variable {α:Type}{C:α→List V}{K:Nat}
theorem lC (hC: ∀x,(C x).length=K): ∀l:List α,(l.flatMap C).length=l.length*K
 | []=>by simp
 |x::l=>by simp only[a1Z,a15,hC,lC hC l,a2b,a2e,a2t];omega
theorem aKA (hC: ∀x,(C x).length=K): ∀(l:List α)(i:Nat),(l.flatMap C).drop (i*K)=(l.drop i).flatMap C
 |l,0=>by simp
 | [],i+1=>by simp
 |x::l,i+1=>by
  rw[a1Z,a3c,←aKA hC l i,a2e,a2t,a3r,a10 (by rw[hC];omega),a2M,hC]
  congr 1;omega
theorem aO3 (hC: ∀x,(C x).length=K): ∀(l:List α)(i:Nat),(l.flatMap C).take (i*K)=(l.take i).flatMap C
 |l,0=>by simp
 | [],i+1=>by simp
 |x::l,i+1=>by
  rw[a1Z,a2O,a1Z,←aO3 hC l i,a2e,a2t,a2G,a1N (by rw[hC];omega),hC]
  congr 2;omega
theorem aHN (hC: ∀x,(C x).length=K)(l:List α):yE true K l.length (l.flatMap C)=l.map fun x=>V.agg (C x):=by
 unfold yE
 rw[if_pos rfl]
 apply List.ext_getElem
 ·simp
 intro i h1 h2
 simp only[a16]at h2
 simp only[List.getElem_map,List.getElem_range]
 rw[aKA hC,a12 h2,a1Z,a2G,a1N (by rw[hC];exact a2c _),hC,Nat.sub_self,a28,a2s]
theorem hY {p:V→Bool}(h: ∀x,(C x).all p=true)(l:List α):(l.flatMap C).all p=true:=by
 rw[a1R];intro y hy
 simp only[List.mem_flatMap]at hy
 obtain⟨x,_,hy⟩:=hy
 exact a1R.1 (h x) y hy
theorem aLF {f:Nat→Nat}: ∀(a b:List V),V.rns f (a++b)=V.rns f a++V.rns f b
 | [],b=>by simp[V.rns]
 |x::a,b=>by simp[V.rns,aLF a b]
theorem cY {f:Nat→Nat}(h: ∀x,V.rns f (C x)=C x): ∀l:List α,V.rns f (l.flatMap C)=l.flatMap C
 | []=>by simp[V.rns]
 |x::l=>by rw[a1Z,aLF,h,cY h l]
theorem aAX {f:Nat→Nat}{vn:Nat→Bool}(h: ∀x,V.rns f (C x)=C x)(l:List α):V.les vn (l.flatMap C) (V.rns f (l.flatMap C)):=by rw[cY h];exact V.les_refl _ _
theorem aQm {F:V→Option V}{a b a' b':List V}(h1:a.mapM F=some a')(h2:b.mapM F=some b'):(a++b).mapM F=some (a'++b'):=by
 rw[List.mapM_append,h1,h2];rfl
theorem aOU {F:V→Option V}(h: ∀x,(C x).mapM F=some (C x)): ∀l:List α,(l.flatMap C).mapM F=some (l.flatMap C)
 | []=>rfl
 |x::l=>by rw[a1Z];exact aQm (h x) (aOU h l)
variable {P:Program}{h h':Hp}{t e:TypeId}{ti:TI}{b i off:Nat}{l m:List α}{y:α}{kk:IntKind}{j:Int}{nl:Option Bool}{sz by_:Nat}{z:Value}{v:V}
theorem aLO {hE:Hp}{q d:Nat}(hC: ∀x,(C x).length=K)(hK:0<K)(hn:l.length=q)(hb:hE[b]? =some (some ⟨e,l.flatMap C⟩))(hx: ∀x,(C x).mapM (c9 hE d)=some (C x)):c9 hE (d+1) (.sl b 0 q K true)=some (.row none K (l.map fun x=>V.agg (C x))):=by
 subst hn
 simp only[c9,hb]
 rw[if_pos ⟨by rw[lC hC];omega,hK,.inl trivial⟩]
 simp only[a2d]
 rw[a1N (by rw[lC hC];exact a2c _),aOU hx]
 simp only[a1P,aHN hC]
theorem aMI {hE:Hp}{q:Nat}(hC: ∀x,(C x).length=K)(hK:0<K)(hn:l.length=q)(hb:hE[b]? =some (some ⟨e,l.flatMap C⟩))(hx: ∀x,(C x).mapM (c9 hE 3)=some (C x)):sG hE (.sl b 0 q K true)=some (.row none K (l.map fun x=>V.agg (C x))):=aLO hC hK hn hb hx
theorem aWD :fM h K (.row nl K (m.map fun x=>V.agg (C x)))=some (m.flatMap C,m.length):=by
 have:(m.map fun x=>V.agg (C x)).flatMap V.cells=m.flatMap C:=by rw[List.flatMap_map];rfl
 simp only[fM]
 rw[if_pos (.inl trivial),this];simp
theorem aZ3 {q:Nat}(hC: ∀x,(C x).length=K)(hn:m.length=q)(hb:h[b]? =some (some ⟨e,m.flatMap C⟩)):fM h K (.sl b 0 q K true)=some (m.flatMap C,m.length):=by
 subst hn
 simp only[fM,hb]
 rw[if_pos ⟨trivial,by rw[lC hC];omega⟩,a2d,a1N (by rw[lC hC];exact a2c _)]
theorem aZ6 {k:Nat}:fM h K (.row nl k [])=some (([]:List α).flatMap C,([]:List α).length):=by simp[fM]
theorem a0r {q:Nat}(hC: ∀x,(C x).length=K)(hn:l.length=q)(ht:aM P t=some ⟨.slice e,sz,by_,z⟩)(he:aM P e=some ti)(h1:ti.zero.cells.size=K∧ti.size=K∧1≤ti.bytes∧0<K)(hb:h[b]? =some (some ⟨e,l.flatMap C⟩)){s:V}(hs:fM h K s=some (m.flatMap C,m.length))
  {r:List α} (ha:b6 ti.bytes l m=some r) (hl:h.length=i) (hh:h.set b none++[some ⟨e,r.flatMap C⟩]=h'):g6 P t t (.sl b 0 q K true) s h=some (.sl i 0 r.length K true,h'):=by
 obtain⟨h2,h3,h4,h5⟩:=h1
 subst hn
 unfold b6 at ha
 split at ha
 ·rename_i hlim
  injection ha with ha
  subst ha hl hh
  have hx:fM h ti.size s=some (m.flatMap C,m.length):=by rw[h3];exact hs
  simp only[g6,ne_eq,not_true,if_false,ht,he]
  rw[if_pos ⟨by rw[h2,h3],by omega,h4⟩]
  simp only[hx,hb]
  rw[if_pos ⟨h3.symm,trivial,by rw[lC hC];exact a2c _,hlim⟩,a1N (by rw[lC hC];exact a2c _)]
  simp
 cases ha
theorem aZ4 (ht:aM P t=some ⟨.slice e,sz,by_,z⟩)(he:aM P e=some ti)(h1:ti.zero.cells.size=K∧ti.size=K∧1≤ti.bytes∧0<K){s:V}(hs:fM h K s=some (m.flatMap C,m.length))(hag:cB ti.desc=true){k:Nat}
  {r:List α} (ha:b6 ti.bytes [] m=some r) (hl:h.length+1=i) (hh:h++[none]++[some ⟨e,r.flatMap C⟩]=h'):g6 P t t (.row (some true) k []) s h=some (.sl i 0 r.length K true,h'):=by
 obtain⟨h2,h3,h4,h5⟩:=h1
 unfold b6 at ha
 split at ha
 ·rename_i hlim
  injection ha with ha
  subst ha hl hh
  have hx:fM h ti.size s=some (m.flatMap C,m.length):=by rw[h3];exact hs
  simp only[g6,ne_eq,not_true,if_false,ht,he]
  rw[if_pos ⟨by rw[h2,h3],by omega,h4⟩]
  simp only[hx]
  rw[if_pos (by simpa using hlim)]
  simp[h3,hag]
 cases ha
theorem a0X {q:Nat}(hn:l.length=q)(ht:aM P t=some ⟨.slice e,sz,by_,z⟩)(he:aM P e=some ti)(h1:ti.size=K)(hx:aW l j=some y):fT P t (.sl b 0 q K true) (.sc (.int kk j))=some (.ptr b (0+j.toNat*K)):=by
 obtain⟨h2,h3,_⟩:=d9 hx
 subst hn
 simp[fT,ht,nQ,he,h1,h2,h3]
theorem aUC {cs r:List V}(h:iK P t cs=some v):iK P t (cs++r)=some v:=by
 unfold iK at *
 split at h
 ·cases h
 split at h
 ·rename_i hag
  split at h
  ·rename_i hs
   rw[if_pos hag,if_pos (by rw[a15];omega),a2a hs];exact h
  cases h
 rename_i hag
 rw[if_neg hag]
 cases cs with
 |nil=>cases h
 |cons c cs=>exact h
theorem aXn (hC: ∀x,(C x).length=K){i:Nat}(hi:l[i]? =some y)(ho:off≤K):(l.flatMap C).drop (0+i*K+off)=(C y).drop off++(l.drop (i+1)).flatMap C:=by
 obtain⟨h1,h2⟩:=a1K.1 hi
 rw[a2R,←a2n,aKA hC,a12 h1,h2,a1Z,a2H (by rw[hC];exact ho)]
theorem aJa (hC: ∀x,(C x).length=K)(hb:h[b]? =some (some ⟨e,l.flatMap C⟩))(hx:aW l j=some y)(ho:off≤K)(hp:iK P t ((C y).drop off)=some v):eM P t h (.ptr b (0+j.toNat*K+off))=some v:=by
 obtain⟨_,_,h3⟩:=d9 hx
 simp only[eM,hb]
 rw[aXn hC h3 ho]
 exact aUC hp
theorem rV (hC: ∀x,(C x).length=K)(hb:h[b]? =some (some ⟨e,l.flatMap C⟩))(hx:aW l j=some y)(hp:iK P t (C y)=some v):eM P t h (.ptr b (0+j.toNat*K))=some v:=aJa (off:=0) hC hb hx (Nat.zero_le _) (by simpa using hp)
theorem aRP (hC: ∀x,(C x).length=K){i:Nat}(hi:l[i]? =some y){x:V}{y':α}(ho:off+x.cells.length≤K)(hy:splice (C y) off x.cells=C y'):splice (l.flatMap C) (0+i*K+off) x.cells=(l.set i y').flatMap C:=by
 obtain⟨h1,h2⟩:=a1K.1 hi
 have hl:l=l.take i++y::l.drop (i+1):=by rw[←h2,←a12 h1,a19]
 have hset:l.set i y'=l.take i++y'::l.drop (i+1):=by
  rw[List.set_eq_take_append_cons_drop,if_pos h1]
 have hti:(l.take i).length=i:=by rw[a13];omega
 rw[hset,a3d,a1Z,←hy]
 conv=>lhs;rw[hl,a3d,a1Z]
 have hA:((l.take i).flatMap C).length=i*K:=by rw[lC hC,hti]
 unfold splice
 rw[a2R,a2G,a1N (by rw[hA];omega),hA,show i*K+off-i*K=off by omega,a2a (by rw[hC];omega)]
 rw[show i*K+off+x.cells.length=i*K+(off+x.cells.length) by omega,a3r,a10 (by rw[hA];omega),hA,show i*K+(off+x.cells.length)-i*K=off+x.cells.length by omega,a2M,a2H (by rw[hC];omega)]
 simp[a2v]
theorem aCd (hC: ∀x,(C x).length=K)(ht:aM P t=some ti)(hb:h[b]? =some (some ⟨e,l.flatMap C⟩))(hx:aW l j=some y){x:V}{y':α}(hf:x.flatOk=true)(hs:x.cells.length=ti.size)(ho:off+ti.size≤K)(hy:splice (C y) off x.cells=C y')(hh:h.set b (some ⟨e,(l.set j.toNat y').flatMap C⟩)=h'):lZ P t h (.ptr b (0+j.toNat*K+off)) x=some h':=by
 obtain⟨_,_,h3⟩:=d9 hx
 have h4:=(a1K.1 h3).1
 subst hh
 simp only[lZ,ht,hb]
 have hle:(j.toNat+1)*K≤l.length*K:=a27 K h4
 rw[if_pos ⟨hf,hs,by rw[lC hC];rw[a2e,a2t]at hle;omega⟩,aRP hC h3 (by rw[hs];exact ho) hy]
theorem Conv.rowK (hC: ∀x,(C x).length=K)(h1K: ∀x,(C x).all V.one=true)(hsh: ∀x,(C x).all V.shut=true){h h':Hp}(hs:Sub h h'){b n:Nat}{e:TypeId}(hb:h[b]? =some (some ⟨e,l.flatMap C⟩))(hb':h'[b]? =some none)(hn:n=l.length):Conv h h' (.sl b 0 n K true) (.row none K (l.map fun x=>V.agg (C x))):=by
 intro A M w v H hv
 obtain⟨hone,hcase⟩:=H.blk b _ hb
 have hok: ∀e∈l.map (fun x=>V.agg (C x)),e.okElem K=true:=by
  intro e he
  simp only[a2Z]at he
  obtain⟨x,_,rfl⟩:=he
  simp only[V.okElem,V.flatOk,V.cells,h1K x,hC x,beq_self_eq_true,Bool.and_self]
 unfold VR at hv⊢
 rcases hv with⟨hm,rfl,h0,_⟩|⟨g,cap,e',sz,hm,rfl,h1,_,h3,hshp,_⟩
 ·have:l=[]:=a1S (by omega)
  subst this
  exact⟨none,0,rfl,a2c _,fun _=>rfl,(fun b hb=>by cases hb),by simp,fun hne=>absurd rfl hne⟩
 rcases hcase with⟨hm',_⟩|⟨g',bM,hm',hA,hw,hle,hcs⟩
 ·rw[hm]at hm';cases hm'
 rw[hm]at hm'
 injection hm' with hm'
 injection hm' with hm'
 subst hm'
 refine⟨some ⟨g,0,none⟩,cap,by rw[a16,hn],by rw[a16];omega,fun hh=>(by cases hh),(fun b hb=>by cases hb),hok,fun _=>⟨⟨g,0,none⟩,rfl,h3, ?_,rfl, ?_⟩⟩
 ·rintro(ha|⟨c,C',hc,hmc⟩)
  ·exact hA ha
  obtain⟨C'',hc'⟩:=hs c C' hc
  have:=H.inj c b C'' _ g hc' hb hmc hm
  subst this
  rw[hb']at hc;cases hc
 rw[←aHN hC l]
 unfold yE
 rw[if_pos rfl]
 dsimp only at hle hcs
 have hall:=hY hsh l
 refine aHX h3 l.length (vs:=bM.toList.take (l.flatMap C).length) (lC hC l) (VCells.mk hcs.len (fun i c u hc hu=> ?_)) ?_
 ·obtain⟨u',hu',hr⟩:=hcs.get hc
  rw[hu]at hu'
  injection hu' with hu'
  subst hu'
  exact(hr.shut (a1R.1 hall c (a11 hc))).avoid (fun _ _ hx=>hs.xs hx)
 intro i u hu
 have hu2:bM[i]? =some u:=by
  simp only[a21,a3e]at hu
  split at hu
  ·simpa using hu
  cases hu
 have:=hw.cell hshp i
 rw[hu2]at this
 unfold Addr.add
 split
 ·rename_i h0;subst h0;exact this
 simpa using this
theorem aO7 (hC: ∀x,(C x).length=K)(h1: ∀x,(C x).all V.one=true): ∀(xs:List α)(i:Nat)(cells:List V),cells.length=(i+xs.length)*K→pX (fun i=>some (i*K,K)) cells (tN i (xs.map fun x=>V.agg (C x)))=some (cells.take (i*K)++xs.flatMap C)
 | [],i,cells,hl=>by
  simp only[List.map_nil,tN,pX,List.flatMap_nil,a2s]
  rw[a1N (by rw[hl];simp)]
 |x::xs,i,cells,hl=>by
  simp only[a2b]at hl
  have hl':cells.length=i*K+K+xs.length*K:=by rw[hl,a2e,a2e,a2t];omega
  simp only[a2j,tN,pX]
  rw[if_pos ⟨by simp[V.flatOk,V.cells,h1 x],by simp[V.cells,hC x],by omega⟩]
  have hsl:(splice cells (i*K) (V.agg (C x)).cells).length=cells.length:=aAE _ _ _ (by simp only[V.cells,hC];omega)
  rw[aO7 hC h1 xs (i+1) _ (by rw[hsl,hl];congr 1;omega)]
  congr 1
  rw[a1Z,←a2v]
  congr 1
  unfold splice
  simp only[V.cells]
  rw[a2e,a2t,a2v,a2G,a1N (by rw[a13];omega),a13,a2r (by omega),show i*K+K-i*K=K by omega,a2a (by rw[hC];exact a2c _),show(C x).take K=C x from a1N (by rw[hC];exact a2c _)]
theorem aHp {len:Nat}{ps:List (Nat×V)}{xs:List α}(hC: ∀x,(C x).length=K)(h1C: ∀x,(C x).all V.one=true)(ht:aM P t=some ⟨.slice e,sz,by_,z⟩)(he:aM P e=some ti)(h1:len*K≤2^24∧0<len∧0<K)(hK:ti.size=K)(hag:cB ti.desc=true)
  (hp:tN 0 (xs.map fun x=>V.agg (C x))=ps) (hlen:xs.length=len) (hl:h.length=i) (hh:h++[some ⟨e,xs.flatMap C⟩]=h'):
  gJ P t len ps h=some (.sl i 0 len K true,h'):=by
 subst hK hp
 refine aYM ht he h1 hag ?_ ⟨hY h1C xs,by rw[lC hC,hlen]⟩ hl hh
 rw[aO7 hC h1C xs 0 _ (by simp[hlen])]
 simp
end
def aLq (P:Program)(g:TypeId→Option (List TypeDesc)):List Field→Nat→Option (List TypeDesc)
 | [],_=>some []
 |f::fs,off=>if f.name= "_" ∨f.offset≠off then none else match aM P f.type,g f.type with
  |some d,some l=>if d.size=l.length∧0<d.size then(aLq P g fs (off+l.length)).map (l++ ·)else none
  |_,_=>none
def u7 (P:Program):Nat→TypeId→Option (List TypeDesc)
 |0,_=>none
 |d+1,t=>match aM P t with
  |some ⟨.int k,sz,_,_⟩=>if sz=1 then some [.int k]else none
  |some ⟨.bool,sz,_,_⟩=>if sz=1 then some [.bool]else none
  |some ⟨.string,sz,_,_⟩=>if sz=1 then some [.string]else none
  |some ⟨.array n e,sz,_,_⟩=>match aM P e,u7 P d e with
   |some de,some l=>if de.size=l.length∧sz=n*l.length then some (a18 n l).flatten else none
   |_,_=>none
  |some ⟨.struct fs,sz,_,_⟩=>if P.stoodInHeld t=true then none else match aLq P (u7 P d) fs.toList 0 with
   |some l=>if sz=l.length then some l else none
   |none=>none
  |_=>none
def mkT (ti:TI)(vs:List Value):Value:=if cB ti.desc then .agg vs.toArray else vs.headD default
def e9 :List TypeDesc→List Value→Bool
 | [],[]=>true
 | .int k::ds,.int k' _::vs=>decide (k=k')&&e9 ds vs
 | .bool::ds,.bool _::vs=>e9 ds vs
 | .string::ds,.string _::vs=>e9 ds vs
 |_,_=>false
def aLS :Value→Value→Bool
 | .int _ a,.int _ b=>a == b
 | .bool a,.bool b=>a == b
 | .string a,.string b=>a == b
 |_,_=>false
def fB :List Value→List Value→Bool
 | [],[]=>true
 |x::xs,y::ys=>aLS x y&&fB xs ys
 |_,_=>false
theorem aJm : ∀{a c b d:List Value},a.length=c.length→fB (a++b) (c++d)=(fB a c&&fB b d)
 | [],[],_,_,_=>by simp[fB]
 |x::a,y::c,b,d,h=>by
  simp only[a3s,fB]
  rw[aJm (by simpa using h),Bool.and_assoc]
 | [],_::_,_,_,h=>by simp at h
 |_::_,[],_,_,h=>by simp at h
theorem kE : ∀{ds:List TypeDesc}{vs:List Value},e9 ds vs=true→vs.length=ds.length
 | [],[],_=>rfl
 | [],_::_,h=>by simp[e9]at h
 |d::ds,[],h=>by cases d<;>simp[e9]at h
 |d::ds,v::vs,h=>by
  have:e9 ds vs=true:=by
   cases d<;>cases v<;>simp only[e9,a1T,a1V]at h<;>first|exact h|exact h.2
  simp[kE this]
theorem tO : ∀{l m:List TypeDesc}{vs:List Value},e9 (l++m) vs=true→e9 l (vs.take l.length)=true∧e9 m (vs.drop l.length)=true
 | [],m,vs,h=>by simpa[e9]using h
 |d::l,m,[],h=>by cases d<;>simp[e9]at h
 |d::l,m,v::vs,h=>by
  cases d<;>cases v<;>simp only[a3s,e9,a1T,a1V]at h<;>simp only[a2b,a2O,a3c,e9,a1V]
  ·exact tO h
  ·exact⟨⟨h.1,(tO h.2).1⟩,(tO h.2).2⟩
  exact tO h
section
variable {P:Program}
theorem sY {t:TypeId}{ti:TI}(ht:aM P t=some ti){vs:List Value}{off:Nat}(h1:cB ti.desc=true∨ti.size=1)(hl:off+ti.size≤vs.length):aS P (part t vs.toArray off)=some (mkT ti ((vs.drop off).take ti.size)):=by
 have hu:=cZ ht
 cases hag:cB ti.desc with
 |false=>
  have hs:=h1.resolve_left (by rw[hag];simp)
  have hlt:off<vs.length:=by omega
  have:=aEM (P:=P) ht hag (cs:=vs.toArray) (off:=off) (v:=vs[off]) (by simp[hlt])
  rw[this]
  simp only[mkT,hag,a1T,if_false,hs]
  rw[a12 hlt];rfl
 |true=>
  unfold part
  have h1:aS P (isAgg t)=some true:=by
   unfold isAgg
   rw[bN _ _ hu]
   cases hh:ti.desc<;>first|rfl|(rw[hh]at hag;simp[cB]at hag)
  rw[bN _ _ h1]
  simp only[if_true]
  rw[bN _ _ (wG ht)]
  simp only[mkT,hag,if_true,List.extract_toArray,List.extract_eq_drop_take']
  show some _=_
  congr 2
  simp[List.take_drop]
theorem aVd {α:Type}{p:α→Bool}{body:α→Option Bool×Unit→Sem (ForInStep (Option Bool×Unit))}{k:Option Bool×Unit→Sem Bool}(h1: ∀r u,k (some r,u)=pure r)(h2: ∀u,k (none,u)=pure true): ∀(l:List α),(∀a∈l,∀s,aS P (body a s)=some (if p a=true then .yield (none,())else .done (some false,())))→
  aS P (forIn l ((none,()):Option Bool×Unit) body >>= k)=some (l.all p)
 | [],_=>by
  simp only[a29,pure_bind,h2]
  rfl
 |a::l,h=>by
  simp only[a23,bind_assoc]
  rw[bN _ _ (h a (by simp) _)]
  cases hp:p a with
  |true=>
   simp only[if_true,a2A,hp,Bool.true_and]
   exact aVd h1 h2 l (fun b hb=>h b (by simp[hb]))
  |false=>
   simp only[a1T,if_false,a2A,hp,Bool.false_and,pure_bind,h1]
   rfl
theorem aVa {α:Type}{body:α→PUnit→Sem (ForInStep PUnit)}: ∀(l:List α),(∀a∈l,∀s,aS P (body a s)=some (.yield PUnit.unit))→
  aS P (do
   forIn l PUnit.unit body
   pure ())=some ()
 | [],_=>by simp only[a29];rfl
 |a::l,h=>by
  simp only[a23,bind_assoc]
  rw[bN _ _ (h a (by simp) _)]
  exact aVa l (fun b hb=>h b (by simp[hb]))
theorem aJZ {m:Nat}{xs ys:List Value}: ∀(c i:Nat),xs.length=(i+c)*m→ys.length=(i+c)*m→fB (xs.drop (i*m)) (ys.drop (i*m))=(a3v i c).all fun i=>fB ((xs.drop (i*m)).take m) ((ys.drop (i*m)).take m)
 |0,i,hx,hy=>by
  rw[a10 (by rw[hx];simp),a10 (by rw[hy];simp)]
  simp[fB]
 |c+1,i,hx,hy=>by
  have ih:=aJZ (m:=m) (xs:=xs) (ys:=ys) c (i+1) (by rw[hx];congr 1;omega) (by rw[hy];congr 1;omega)
  simp only[a2E,a2A]
  rw[←ih]
  have e:(i+1)*m=i*m+m:=by rw[a2e,a2t]
  have hm:m≤(c+1)*m:=Nat.le_mul_of_pos_left m (by omega)
  have h2:(i+(c+1))*m=i*m+(c+1)*m:=a2e _ _ _
  rw[e,←a2n,←a2n,←aJm (by simp only[a13,a2l,hx,hy]),a19,a19]
theorem aMJ {l:List TypeDesc}: ∀(c:Nat){xs:List Value},e9 (a18 c l).flatten xs=true→ ∀i,i<c→e9 l ((xs.drop (i*l.length)).take l.length)=true
 |0,_,_,i,hi=>by omega
 |c+1,xs,h,i,hi=>by
  simp only[a2L,a2S]at h
  obtain⟨h1,h2⟩:=tO h
  cases i with
  |zero=>simpa using h1
  |succ i=>
   have:=aMJ c h2 i (by omega)
   rw[a2n]at this
   rw[a2e,a2t,a2Y]
   exact this
def aOF (P:Program)(xs ys:List Value)(f:Field):Bool:=match aM P f.type with
 |some d=>fB ((xs.drop f.offset).take d.size) ((ys.drop f.offset).take d.size)
 |none=>false
theorem aJo {g:TypeId→Option (List TypeDesc)}{xs ys:List Value}: ∀(fs:List Field)(off:Nat){l:List TypeDesc},aLq P g fs off=some l→e9 l (xs.drop off)=true→e9 l (ys.drop off)=true→
  fs.all (aOF P xs ys)=fB (xs.drop off) (ys.drop off)∧ ∀f∈fs,f.name≠ "_" ∧ ∃df lf,aM P f.type=some df∧g f.type=some lf∧df.size=lf.length∧f.offset+df.size≤xs.length∧f.offset+df.size≤ys.length∧
   e9 lf ((xs.drop f.offset).take df.size)=true∧e9 lf ((ys.drop f.offset).take df.size)=true
 | [],off,l,h,hx,hy=>by
  simp only[aLq,a1M]at h
  subst h
  have e1:=kE hx
  have e2:=kE hy
  rw[a1S e1,a1S e2]
  simp[fB]
 |f::fs,off,l,h,hx,hy=>by
  simp only[aLq]at h
  split at h
  ·cases h
  rename_i hno
  have hname:f.name≠ "_" :=fun e=>hno (.inl e)
  have hoff:f.offset=off:=Classical.byContradiction fun e=>hno (.inr e)
  split at h
  ·rename_i df lf hd hg
   split at h
   ·rename_i hsz
    obtain⟨hsz,h0⟩:=hsz
    simp only[a1X]at h
    obtain⟨l',hl',rfl⟩:=h
    obtain⟨x1,x2⟩:=tO hx
    obtain⟨y1,y2⟩:=tO hy
    rw[a2n]at x2 y2
    obtain⟨i1,i2⟩:=aJo fs (off+lf.length) hl' x2 y2
    have lx:=kE hx
    have ly:=kE hy
    simp only[a2l,a15]at lx ly
    have hxl:off≤xs.length∨lf.length+l'.length=0:=by omega
    have x1l:=kE x1
    have y1l:=kE y1
    simp only[a13,a2l]at x1l y1l
    refine⟨?_, ?_⟩
    ·simp only[a2A,i1,aOF,hd,hoff,hsz]
     rw[←a2n,←a2n,←aJm (by simp only[a13,a2l];omega),a19,a19]
    intro f' hf'
    rcases a2y.1 hf' with rfl|hf'
    ·exact⟨hname,df,lf,hd,hg,hsz,by omega,by omega,by rw[hoff,hsz];exact x1,by rw[hoff,hsz];exact y1⟩
    exact i2 f' hf'
   cases h
  cases h
theorem tV : ∀(d:Nat){t:TypeId}{L:List TypeDesc}{ti:TI},aM P t=some ti→u7 P d t=some L→(L.length=ti.size∧(cB ti.desc=true∨ti.size=1))∧
  ∀(n:Nat){xs:List Value},e9 L xs=true→(∀{ys:List Value},e9 L ys=true→aS P (Op.equalIn (n+d) t (mkT ti xs) (mkT ti ys))=some (fB xs ys))∧ ∀b,aS P (Instr.checkKey b (n+d) t (mkT ti xs))=some ()
 |0,t,L,ti,_,h=>by simp[u7]at h
 |d+1,t,L,ti,ht,h=>by
  simp only[u7]at h
  rw[ht]at h
  split at h
  ·rename_i k sz _ _ he
   injection he with he;subst he
   split at h
   ·rename_i h1
    injection h with h;subst h
    refine⟨⟨by simp[h1],.inr h1⟩,fun n xs hx=>⟨fun{ys} hy=> ?_,fun b=> ?_⟩⟩
    ·match xs,ys,kE hx,kE hy,hx,hy with
     | [.int k1 a],[.int k2 c],_,_,hx,hy=>
      simp only[e9,a2U,decide_eq_true_eq]at hx hy
      subst hx;subst hy
      simp only[mkT,cB,a1T,if_false,a24,fB,aLS,a2U]
      exact aOR ht _ a c
    match xs,kE hx,hx with
    | [.int k1 a],_,hx=>
     show aS P (Instr.checkKey b (n+d+1) t _)=_
     rw[Instr.checkKey,bN _ _ (cZ ht)]
     rfl
   cases h
  ·rename_i sz _ _ he
   injection he with he;subst he
   split at h
   ·rename_i h1
    injection h with h;subst h
    refine⟨⟨by simp[h1],.inr h1⟩,fun n xs hx=>⟨fun{ys} hy=> ?_,fun b=> ?_⟩⟩
    ·match xs,ys,hx,hy with
     | [.bool a],[.bool c],hx,hy=>
      show aS P (Op.equalIn (n+d+1) t _ _)=_
      rw[Op.equalIn,bN _ _ (cZ ht)]
      simp only[mkT,cB,a1T,if_false,a24,fB,aLS,a2U]
      rfl
    match xs,hx with
    | [.bool a],hx=>
     show aS P (Instr.checkKey b (n+d+1) t _)=_
     rw[Instr.checkKey,bN _ _ (cZ ht)]
     rfl
   cases h
  ·rename_i sz _ _ he
   injection he with he;subst he
   split at h
   ·rename_i h1
    injection h with h;subst h
    refine⟨⟨by simp[h1],.inr h1⟩,fun n xs hx=>⟨fun{ys} hy=> ?_,fun b=> ?_⟩⟩
    ·match xs,ys,hx,hy with
     | [.string a],[.string c],hx,hy=>
      show aS P (Op.equalIn (n+d+1) t _ _)=_
      rw[Op.equalIn,bN _ _ (cZ ht)]
      simp only[mkT,cB,a1T,if_false,a24,fB,aLS,a2U]
      rfl
    match xs,hx with
    | [.string a],hx=>
     show aS P (Instr.checkKey b (n+d+1) t _)=_
     rw[Instr.checkKey,bN _ _ (cZ ht)]
     rfl
   cases h
  ·rename_i len e sz _ _ he
   injection he with he;subst he
   split at h
   ·rename_i de l hde hle
    split at h
    ·rename_i hc
     obtain⟨hc1,hc2⟩:=hc
     injection h with h;subst h
     obtain⟨⟨_,ag⟩,ih⟩:=tV d hde hle
     have hL:(a18 len l).flatten.length=len*l.length:=by simp
     refine⟨⟨by rw[hL];exact hc2.symm,.inl rfl⟩,fun n xs hx=> ?_⟩
     have lx:=kE hx
     rw[hL]at lx
     have hxo:=aMJ len hx
     have slot: ∀i,i<len→i*l.length+l.length≤len*l.length:=fun i hi=>by
      have:=a27 l.length (show i+1≤len from hi)
      rw[a2e,a2t]at this;exact this
     have px: ∀i,i<len→aS P (part e xs.toArray (i*l.length))=some (mkT de ((xs.drop (i*l.length)).take l.length)):=fun i hi=>by
      have:=sY (P:=P) hde ag (vs:=xs) (off:=i*l.length) (by rw[hc1,lx];exact slot i hi)
      rw[hc1]at this;exact this
     refine⟨fun{ys} hy=> ?_,fun b=> ?_⟩
     ·have ly:=kE hy
      rw[hL]at ly
      have hyo:=aMJ len hy
      have py: ∀i,i<len→aS P (part e ys.toArray (i*l.length))=some (mkT de ((ys.drop (i*l.length)).take l.length)):=fun i hi=>by
       have:=sY (P:=P) hde ag (vs:=ys) (off:=i*l.length) (by rw[hc1,ly];exact slot i hi)
       rw[hc1]at this;exact this
      show aS P (Op.equalIn (n+d+1) t (.agg xs.toArray) (.agg ys.toArray))=_
      rw[Op.equalIn,bN _ _ (cZ ht)]
      simp only
      rw[bN _ _ (wG hde),hc1]
      simp only[Std.Legacy.Range.forIn_eq_forIn_range',Std.Legacy.Range.size,a3m,a2P,a3y]
      have hch:=aJZ (m:=l.length) (xs:=xs) (ys:=ys) len 0 (by simpa using lx) (by simpa using ly)
      simp only[Nat.zero_mul,a2d]at hch
      rw[hch]
      refine aVd (fun _ _=>rfl) (fun _=>rfl) _ fun i hi s=> ?_
      have hil:i<len:=by simp at hi;omega
      rw[bN _ _ (px i hil),bN _ _ (py i hil),bN _ _ ((ih n (hxo i hil)).1 (hyo i hil))]
      cases fB ((xs.drop (i*l.length)).take l.length) ((ys.drop (i*l.length)).take l.length)<;>rfl
     show aS P (Instr.checkKey b (n+d+1) t (.agg xs.toArray))=_
     rw[Instr.checkKey,bN _ _ (cZ ht)]
     simp only[Std.Legacy.Range.forIn_eq_forIn_range',Std.Legacy.Range.size,a3m,a2P,a3y]
     refine aVa _ fun i hi s=> ?_
     have hil:i<len:=by simp at hi;omega
     rw[bN _ _ (wG hde),hc1,bN _ _ (px i hil),bN _ _ ((ih n (hxo i hil)).2 b)]
     rfl
    cases h
   cases h
  ·rename_i fs sz _ _ he
   injection he with he;subst he
   split at h
   ·cases h
   rename_i hst
   have hst':P.stoodInHeld t=false:=by simpa using hst
   split at h
   ·rename_i l hl
    split at h
    ·rename_i hsz
     injection h with h;subst h
     refine⟨⟨hsz.symm,.inl rfl⟩,fun n xs hx=> ?_⟩
     have hx0:e9 l (xs.drop 0)=true:=by simpa using hx
     refine⟨fun{ys} hy=> ?_,fun b=> ?_⟩
     ·have hy0:e9 l (ys.drop 0)=true:=by simpa using hy
      obtain⟨a1,a2⟩:=aJo (P:=P) _ 0 hl hx0 hy0
      simp only[a2d]at a1
      show aS P (Op.equalIn (n+d+1) t (.agg xs.toArray) (.agg ys.toArray))=_
      rw[Op.equalIn,bN _ _ (cZ ht)]
      simp only
      have hp:aS P (program)=some P:=rfl
      rw[bN _ _ hp]
      simp only[hst',a1T,if_false]
      rw[←a1]
      simp only[←a3i]
      refine aVd (fun _ _=>rfl) (fun _=>rfl) _ fun f hf s=> ?_
      obtain⟨f1,df,lf,f2,f3,f4,f5,f6,f7,f8⟩:=a2 f hf
      obtain⟨⟨_,ag⟩,ih⟩:=tV d f2 f3
      simp only[f1,ne_eq,not_false_eq_true,if_true]
      rw[bN _ _ (sY f2 ag f5),bN _ _ (sY f2 ag f6),bN _ _ ((ih n f7).1 f8)]
      simp only[aOF,f2]
      cases fB ((xs.drop f.offset).take df.size) ((ys.drop f.offset).take df.size)<;>rfl
     obtain⟨_,a2⟩:=aJo (P:=P) _ 0 hl hx0 hx0
     show aS P (Instr.checkKey b (n+d+1) t (.agg xs.toArray))=_
     rw[Instr.checkKey,bN _ _ (cZ ht)]
     simp only
     simp only[←a3i]
     refine aVa _ fun f hf s=> ?_
     obtain⟨f1,df,lf,f2,f3,f4,f5,f6,f7,f8⟩:=a2 f hf
     obtain⟨⟨_,ag⟩,ih⟩:=tV d f2 f3
     simp only[f1,ne_eq,not_false_eq_true,if_true]
     rw[bN _ _ (sY f2 ag f5),bN _ _ ((ih n f7).2 b)]
     rfl
    cases h
   cases h
  cases h
end
end Go.Vm
