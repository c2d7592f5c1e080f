/- Texts of ours, joined: VmEval, VmExec, VmLift, VmOne, VmFrame, VmSym, VmGhost, VmRule, VmCtr, VmBrw, Plain0, Ty, Lift, Lift2, Open, Laid, VmDrawG, VmFrz, VmStr, VmArr, VmExt, VmStl, VmEq, VmAis, VmShort, VmCut, VmQ. -/
import Derived.Test.YtnllpckhipmpgaaGreatDoorQScriptOps1
import Derived.ProofKit
import Derived.OpenShut
import Derived.ShutString
import Derived.ChangeOld
import Derived.Lib.SmallJoins
import Derived.Test.YtnllpckhipmpgaaGreatDoorRows
import Derived.Test.YtnllpckhipmpgaaGreatDoorCards
import Derived.Test.YtnllpckhipmpgaaGreatDoorTie
import Derived.WalkKit
import Derived.LaidSub
import Derived.Deep.DeepHandedRow
import Derived.Lib.LaidTab
import Derived.Laws.IdiomStrings
import Derived.ChangeKeysEq
import Derived.Scope
open List renaming getElem?_eq_some_iff → aQr,getElem?_append_left → aQs,take_of_length_le → aQt,getElem?_eq_getElem → aQv,getElem?_cons_succ → aQw,all_eq_true → aQx,eq_nil_of_length_eq_zero → aQy,getElem?_append_right → aQz,flatMap_cons → aQB,mem_of_getElem? → aQC,getElem?_cons_zero → aQF,drop_eq_nil_of_le → aQJ,length_take → aQK,getElem?_map → aQL,length_map → aQM,take_append_of_le_length → aQP,map_take → aQQ,length_cons → aQS,mapM_cons → aQV,drop_zero → aQW,drop_eq_getElem_cons → aQY,take_succ_eq_append_getElem → aQZ,map_cons → aQ0,replicate → aQ2,length_append → aQ3,nodup_cons → aQ5,getElem?_eq_none → aQ7,ext_getElem? → aQ9,getElem?_set_ne → aRa,getElem?_drop → aRg,append_nil → aRh,getElem?_set_self → aRi,append_assoc → aRk,mem_iff_getElem? → aRl,take_append → aRm,drop_append_of_le_length → aRn,mem_cons → aRo,map_drop → aRp,range → aRq,length_nil → aRr,length_set → aRt,nil_append → aRv,getD_eq_getElem?_getD → aRy,getElem?_take → aRz,length_drop → aRA,take_prefix → aRB,range'_succ → aRC,getElem?_toArray → aRD,take_zero → aRE,take_take → aRF,getElem?_range → aRG,replicate_succ → aRI,take_succ_cons → aRJ,flatMap_append → aRK,getElem?_inj → aRN,flatten_cons → aRO,mem_map → aRR,range'_zero → aRS,drop_append → aRW,length → aRX,mem_filter → aRY
open Option.some renaming injEq → aQu,inj → aQN
open Option renaming map_some → aQA,map_eq_some_iff → aQE,bind_some → aRb,bind_eq_bind → aRc,bind_eq_some_iff → aRf,pure_def → aRu
open Array renaming getElem?_eq_some_iff → aQD,replicate → aRZ
open Prod.mk renaming injEq → aQG
open Bool renaming and_eq_true → aQH,false_eq_true → aQI,or_eq_true → aRw,false_or → aRM
open Nat renaming eq_of_beq_eq_true → aQO,lt_or_ge → aQU,le_refl → aQX,mod_eq_of_lt → aQ1,lt_of_lt_of_le → aQ4,le_of_ble_eq_true → aQ6,min_eq_left → aQ8,add_mul → aRd,zero_add → aRe,beq → aRs,one_mul → aRx,mul_one → aRH,add_assoc → aRL,add_comm → aRP,le_total → aRQ,min_eq_right → aRT,div_eq_of_lt → aRU,mul_mod_left → aRV,blt → aR0,ble → aR1
open Int renaming toNat_natCast → aQR,natCast_emod → aQT,le_refl → aRj
set_option linter.unusedSimpArgs false
set_option linter.unusedVariables false
namespace Go.Vm
open Go
def OpsTo (P:Program)(O:tP)(ops:Array Oper)(l:List Oper)(s:List V)(h:Hp)(K:List V→Hp→Prop):Prop:= ∃p,uE P O ops l s h=some p∧K p.1 p.2
def Then {α:Type}(o:Option α)(K:α→Prop):Prop:= ∃p,o=some p∧K p
section
variable {P:Program}{O:tP}{ops:Array Oper}{s:List V}{h:Hp}{K:List V→Hp→Prop}
theorem OpsTo.nil (hk:K s h):OpsTo P O ops [] s h K:=⟨(s,h),rfl,hk⟩
theorem OpsTo.cons {o:Oper}{l:List Oper}(hh:Then (b4 P O ops o s h) (fun p=>OpsTo P O ops l (iG s o.dst p.1) p.2 K)):OpsTo P O ops (o::l) s h K:=by
 obtain⟨⟨r,h1⟩,h2,p,h3,h4⟩:=hh
 refine⟨p, ?_,h4⟩
 simp only[uE,b6,h2,aQA,aRb]
 exact h3
end
@[simp] theorem Ex.then_normal (K:List V→Hp→Prop)(Q:Ex→List V→Hp→Prop):Ex.then K Q .normal=K:=rfl
@[simp] theorem Ex.then_ret (K:List V→Hp→Prop)(Q:Ex→List V→Hp→Prop):Ex.then K Q .ret=Q .ret:=rfl
@[simp] theorem Ex.then_exit (K:List V→Hp→Prop)(Q:Ex→List V→Hp→Prop)(id:Nat):Ex.then K Q (.exit id)=Q (.exit id):=rfl
@[simp] theorem Ex.inBlock_normal (Q:Ex→List V→Hp→Prop)(id:Nat):Ex.inBlock id Q .normal=Q .normal:=rfl
@[simp] theorem Ex.inBlock_ret (Q:Ex→List V→Hp→Prop)(id:Nat):Ex.inBlock id Q .ret=Q .ret:=rfl
theorem Then.mk {α:Type}{o:Option α}{K:α→Prop}{p:α}(h1:o=some p)(h2:K p):Then o K:=⟨p,h1,h2⟩
theorem Then.out {α:Type}{o:Option α}{K:α→Prop}(h:Then o K): ∃p,o=some p∧K p:=h
@[simp] theorem aO9 {α:Type}(x:α)(K:α→Prop):Then (some x) K↔K x:=⟨fun⟨p,hp,hk⟩=>by injection hp with hp;subst hp;exact hk,fun hk=>⟨x,rfl,hk⟩⟩
@[simp] theorem aPC {α β:Type}(o:Option α)(f:α→β)(K:β→Prop):Then (o.map f) K↔Then o fun x=>K (f x):=by
 constructor
 ·rintro⟨p,hp,hk⟩
  simp only[aQE]at hp
  obtain⟨x,hx,rfl⟩:=hp
  exact⟨x,hx,hk⟩
 rintro⟨x,hx,hk⟩
 exact⟨f x,by rw[hx];rfl,hk⟩
@[simp] theorem aPa {α β:Type}(o:Option α)(f:α→Option β)(K:β→Prop):Then (o.bind f) K↔Then o fun x=>Then (f x) K:=by
 constructor
 ·rintro⟨p,hp,hk⟩
  simp only[aRf]at hp
  obtain⟨x,hx,hf⟩:=hp
  exact⟨x,hx,p,hf,hk⟩
 rintro⟨x,hx,p,hf,hk⟩
 exact⟨p,by rw[hx];exact hf,hk⟩
@[simp] theorem aPp {α:Type}(c:Prop) [Decidable c] (o:Option α) (K:α→Prop):Then (if c then o else none) K↔c∧Then o K:=by
 constructor
 ·rintro⟨p,hp,hk⟩
  split at hp
  ·rename_i hc;exact⟨hc,p,hp,hk⟩
  cases hp
 rintro⟨hc,p,hp,hk⟩
 exact⟨p,by rw[if_pos hc];exact hp,hk⟩
@[simp] theorem aPb {α:Type}(c:Prop) [Decidable c] (o:Option α) (K:α→Prop):Then (if c then none else o) K↔ ¬c∧Then o K:=by
 constructor
 ·rintro⟨p,hp,hk⟩
  split at hp
  ·cases hp
  rename_i hc;exact⟨hc,p,hp,hk⟩
 rintro⟨hc,p,hp,hk⟩
 exact⟨p,by rw[if_neg hc];exact hp,hk⟩
section
variable (P:Program)(t:TypeId)(xo yo:Operand)
@[simp] theorem aNy {α:Type}(a:α):bD P (pure a)=some a:=rfl
@[simp] theorem aMz {α:Type}(a:α):bD P (Sem.pure a)=some a:=rfl
theorem fK (op:BinOp)(k k':IntKind)(a b:Int):eqGuard op t xo yo (.int k a) (.int k' b)=pure ():=by cases op<;>rfl
theorem aHm (op:BinOp)(a b:ByteArray):eqGuard op t xo yo (.string a) (.string b)=pure ():=by cases op<;>rfl
@[simp] theorem aNd (k:IntKind)(a b:Int):dW P .add t xo yo (.sc (.int k a)) (.sc (.int k b))=some (.sc (.int k (k.wrap (a+b)))):=by
 simp[dW,e7,eC,fK,binOp,Op.intArith,pureV];rfl
@[simp] theorem aMv (k:IntKind)(a b:Int):dW P .sub t xo yo (.sc (.int k a)) (.sc (.int k b))=some (.sc (.int k (k.wrap (a-b)))):=by
 simp[dW,e7,eC,fK,binOp,Op.intArith,pureV];rfl
@[simp] theorem aMA (k:IntKind)(a b:Int):dW P .mul t xo yo (.sc (.int k a)) (.sc (.int k b))=some (.sc (.int k (k.wrap (a*b)))):=by
 simp[dW,e7,eC,fK,binOp,Op.intArith,pureV];rfl
@[simp] theorem aMU (k:IntKind)(a b:Int):dW P .and t xo yo (.sc (.int k a)) (.sc (.int k b))=some (.sc (.int k (bits .and k a b))):=by
 simp[dW,e7,eC,fK,binOp,Op.intBits,pureV];rfl
@[simp] theorem aNX (k:IntKind)(a b:Int):dW P .or t xo yo (.sc (.int k a)) (.sc (.int k b))=some (.sc (.int k (bits .or k a b))):=by
 simp[dW,e7,eC,fK,binOp,Op.intBits,pureV];rfl
@[simp] theorem aNt (k:IntKind)(a b:Int):dW P .xor t xo yo (.sc (.int k a)) (.sc (.int k b))=some (.sc (.int k (bits .xor k a b))):=by
 simp[dW,e7,eC,fK,binOp,Op.intBits,pureV];rfl
@[simp] theorem aMq (k:IntKind)(a b:Int):dW P .eql t xo yo (.sc (.int k a)) (.sc (.int k b))=some (.sc (.bool (a == b))):=by
 simp[dW,e7,eC,fK,binOp,Op.intCmp,pureV];rfl
@[simp] theorem aIL (k:IntKind)(a b:Int):dW P .neq t xo yo (.sc (.int k a)) (.sc (.int k b))=some (.sc (.bool (a != b))):=by
 simp[dW,e7,eC,fK,binOp,Op.intCmp,pureV];rfl
@[simp] theorem aNi (k:IntKind)(a b:Int):dW P .lss t xo yo (.sc (.int k a)) (.sc (.int k b))=some (.sc (.bool (decide (a<b)))):=by
 simp[dW,e7,eC,fK,binOp,Op.intCmp,pureV];rfl
@[simp] theorem aNm (k:IntKind)(a b:Int):dW P .leq t xo yo (.sc (.int k a)) (.sc (.int k b))=some (.sc (.bool (decide (a≤b)))):=by
 simp[dW,e7,eC,fK,binOp,Op.intCmp,pureV];rfl
@[simp] theorem aM0 (k:IntKind)(a b:Int):dW P .gtr t xo yo (.sc (.int k a)) (.sc (.int k b))=some (.sc (.bool (decide (b<a)))):=by
 simp[dW,e7,eC,fK,binOp,Op.intCmp,pureV];rfl
@[simp] theorem aM4 (k:IntKind)(a b:Int):dW P .geq t xo yo (.sc (.int k a)) (.sc (.int k b))=some (.sc (.bool (decide (b≤a)))):=by
 simp[dW,e7,eC,fK,binOp,Op.intCmp,pureV];rfl
@[simp] theorem aMM (k:IntKind)(a b:Int):dW P .quo t xo yo (.sc (.int k a)) (.sc (.int k b))=if b=0 then none else some (.sc (.int k (k.wrap (a.tdiv b)))):=by
 simp only[dW,e7,eC,fK,binOp,Op.intDiv,pureV,ne_eq,not_true,if_false]
 split<;>rfl
@[simp] theorem aMY (k:IntKind)(a b:Int):dW P .rem t xo yo (.sc (.int k a)) (.sc (.int k b))=if b=0 then none else some (.sc (.int k (a.tmod b))):=by
 simp only[dW,e7,eC,fK,binOp,Op.intDiv,pureV,ne_eq,not_true,if_false]
 split<;>rfl
@[simp] theorem aNo (k k':IntKind)(a b:Int):dW P .shl t xo yo (.sc (.int k a)) (.sc (.int k' b))=if b<0 then none else some (.sc (.int k (k.wrap (a*2^(min b.toNat k.bits))))):=by
 simp only[dW,e7,eC,fK,binOp,Op.shift,pureV]
 split<;>rfl
@[simp] theorem aNu (k k':IntKind)(a b:Int):dW P .shr t xo yo (.sc (.int k a)) (.sc (.int k' b))=if b<0 then none else some (.sc (.int k (a.fdiv (2^(min b.toNat k.bits))))):=by
 simp only[dW,e7,eC,fK,binOp,Op.shift,pureV]
 split<;>rfl
@[simp] theorem aNO (b:Bool):unV P .not (.sc (.bool b))=some (.sc (.bool (!b))):=rfl
theorem aH8 (h:Hp)(a b:TypeId)(v:Value):oE P h a b (.sc v)=none:=by
 unfold oE
 split
 ·split<;>first|rfl|simp[e9]
 rfl
theorem eZ {h:Hp}{a b:TypeId}{d:TI}{k k':IntKind}{n:Int}(ha: ∃da,aN P a=some da)(hb:aN P b=some d)(hd:d.desc= .int k):vN P h a b (.sc (.int k' n))=some (.sc (.int k (k.wrap n))):=by
 obtain⟨da,ha⟩:=ha
 have h1:=(cF ha).1
 have h2:=(cF hb).1
 rw[hd]at h2
 have e1:underlying a=Sem.program fun p=>match p.underlying a with|some d=>pure d|none=>stuck "no such type" :=rfl
 have e2:underlying b=Sem.program fun p=>match p.underlying b with|some d=>pure d|none=>stuck "no such type" :=rfl
 simp only[vN,aH8,e7,eC,pureV]
 have:bD P (convert a b (.int k' n))=some (.int k (k.wrap n)):=by
  unfold convert
  rw[e1,e2]
  show bD P (Sem.bind (Sem.program _) _)=_
  simp only[Sem.bind,bD,h1]
  show bD P (Sem.bind (Sem.program _) _)=_
  simp only[Sem.bind,bD,h2]
  cases da.desc<;>rfl
 rw[this];rfl
@[simp] theorem aQq :IntKind.u8.bits=8:=rfl
@[simp] theorem aPe :IntKind.u16.bits=16:=rfl
@[simp] theorem aPK :IntKind.u32.bits=32:=rfl
@[simp] theorem aQf :IntKind.u64.bits=64:=rfl
@[simp] theorem aQn :IntKind.i64.bits=64:=rfl
theorem b5 {a:Int}(h1: -9223372036854775808≤a)(h2:a≤9223372036854775807):IntKind.i64.wrap a=a:=by rw[IntKind.wrap_i64];omega
theorem uW {a:Int}(h1:0≤a)(h2:a≤18446744073709551615):IntKind.u64.wrap a=a:=by rw[IntKind.wrap_u64];omega
theorem aP0 {a:Int}(h1:0≤a)(h2:a≤4294967295):IntKind.u32.wrap a=a:=by rw[IntKind.wrap_u32];omega
end
attribute [irreducible] OpsTo Then
end Go.Vm
namespace Go.Vm
open Go Go.ChangeShapes Go.WideShapes Go.ChangeAt Go.RowKit
def rP :Nat→Prop:=fun _=>False
def aJX (l:List UInt8):List V:=l.map fun b=> .sc (.int .u8 b.toNat)
@[simp] theorem aO2 (l:List UInt8):(aJX l).length=l.length:=by simp[aJX]
section
variable {H:Type}{enc:TypeId×Value→H}{P:Program}{w:World}{spare:Nat→Bool}{held:Bool}
theorem aCa {W W':World}(hlaid:laidOutB P=true)(hb:Below W.heap.size W W'): ∀{ts:List TypeId}{vs:List Value}{ds:List (DataW H)}{p:List MemPlace},
  (∀t∈ts,P.readableRec t=true∧t<P.types.size)→DataW.TrodAll enc P W 0 (fun _=>true) true ts vs ds p→DataW.TrodAll enc P W' 0 (fun b=>decide (b<W.heap.size)) true ts vs ds p
 | [],vs,ds,p,_,h=>by obtain⟨rfl,rfl,rfl⟩:=trodAll_nil h;exact trodAll_mk0
 |t::ts,vs,ds,p,hr,h=>by
  obtain⟨v,vs',d,ds',p',q,rfl,rfl,rfl,h1,h2⟩:=trodAll_cons h
  obtain⟨r1,r2⟩:=hr t (by simp)
  refine trodAll_cons_mk (Below.trod hlaid r1 r2 h1 hb ?_) (aCa hlaid hb (fun t ht=>hr t (by simp[ht])) h2)
  obtain⟨m,hm⟩:=h1
  exact DataW.trod_lt m _ _ _ hm
end
theorem aHs {P:Program} {f:FuncId} {fn:Func} {c:Code} {args:List V} {vs:List Value} {w:World} (hf:P.funcs[f]? =some fn) (hb:fn.body=some c) (hn:(fn.name == "runtime.NumGoroutine")=false)
  (hp:PFn P f args (.sc (.bool true))) (hGl:Globs rP w) (hv:VCells rP [] w args vs):Calls P f vs.toArray w fun e w'=>e= .returned (.bool true)∧Below w.heap.size w w':=by
 rcases hp rP w vs (fun _ h=>h.elim) hGl hv with⟨_,h⟩|⟨v,w',h,_⟩
 ·refine h.mono fun e w' ⟨v,he,hE,hr⟩=> ?_
  unfold VR at hr
  subst hr
  exact⟨he,hE.below fun _ _ h=>h⟩
 rw[aFP hf (by rw[hb];rfl) hn]at h
 cases h
end Go.Vm
namespace Go.Vm
open Go
def Env.zero {P:Program}(hm:P.follows .mixedOrders=true):Env P:=
 {O:=fun _ _ _=>none,F:=fun _=>false,ok:=fun _ _ _ _ _ hh=>(by cases hh),still:=fun _ _ _ _ _ hf=>(by cases hf),mixed:=hm}
open Classical in
noncomputable def Env.one {P:Program}(hm:P.follows .mixedOrders=true){f:FuncId}{h:Hp}{xs:List V}{r:V}{h':Hp}(hc:Fn P f h xs r h')(g:FuncId→Bool)(hg: ∀k,g k=true→h'=h):Env P:=
 {
  O:=fun k h1 xs1=>if k=f∧h1=h∧xs1=xs then some (r,h')else none
  F:=g
  ok:=fun k h1 xs1 r1 h2 hh=>by
   dsimp only at hh
   split at hh
   ·rename_i he
    obtain⟨rfl,rfl,rfl⟩:=he
    simp only[aQu,aQG]at hh
    obtain⟨rfl,rfl⟩:=hh
    exact hc
   cases hh
  still:=fun k h1 xs1 r1 h2 hk hh=>by
   dsimp only at hh
   split at hh
   ·rename_i he
    simp only[aQu,aQG]at hh
    rw[←hh.2,he.2.1]
    exact hg k hk
   cases hh
  mixed:=hm}
open Classical in
noncomputable def Env.add {P:Program}(E:Env P){f:FuncId}{h:Hp}{xs:List V}{r:V}{h':Hp}(hc:Fn P f h xs r h')(g:FuncId→Bool)(hg: ∀k,g k=true→h'=h)(hE: ∀k,g k=true→E.F k=true):Env P:=
 {
  O:=fun k h1 xs1=>if k=f then(if h1=h∧xs1=xs then some (r,h')else none)else E.O k h1 xs1
  F:=g
  ok:=fun k h1 xs1 r1 h2 hh=>by
   dsimp only at hh
   split at hh
   ·rename_i he
    subst he
    split at hh
    ·rename_i he
     obtain⟨rfl,rfl⟩:=he
     simp only[aQu,aQG]at hh
     obtain⟨rfl,rfl⟩:=hh
     exact hc
    cases hh
   exact E.ok k h1 xs1 r1 h2 hh
  still:=fun k h1 xs1 r1 h2 hk hh=>by
   dsimp only at hh
   split at hh
   ·split at hh
    ·rename_i he
     simp only[aQu,aQG]at hh
     rw[←hh.2,he.1]
     exact hg k hk
    cases hh
   exact E.still k h1 xs1 r1 h2 (hE k hk) hh
  mixed:=E.mixed}
theorem PFn.flat {P:Program}{f:FuncId}{xs ys:List V}{r:V}{h:Hp}(hp:PFn P f ys r)(hx:xs.mapM (aIZ h)=some ys)(hr:aGF r=true):Fn P f h xs r h:=aNn hp hx hr
def Wk :List V→List V→Prop
 | [],[]=>True
 |a::s,b::t=>(b= .any∨a=b)∧Wk s t
 |_,_=>False
theorem Wk.len : ∀{s t:List V},Wk s t→s.length=t.length
 | [],[],_=>rfl
 |a::s,b::t,h=>by simp[Wk.len h.2]
 | [],_::_,h=>h.elim
 |_::_,[],h=>h.elim
theorem Wk.get : ∀{s t:List V},Wk s t→ ∀(i:Nat)(y:V),t[i]? =some y→y= .any∨s[i]? =some y
 | [],[],_,i,y,hy=>by simp at hy
 |a::s,b::t,h,i,y,hy=>by
  cases i with
  |zero=>
   simp at hy;subst hy
   rcases h.1 with h1|h1
   ·exact .inl h1
   exact .inr (by simp[h1])
  |succ i=>exact Wk.get h.2 i y (by simpa using hy)
 | [],_::_,h,_,_,_=>h.elim
 |_::_,[],h,_,_,_=>h.elim
section
variable {P:Program}{K:List V→Hp→Prop}{Q:Ex→List V→Hp→Prop}{s:List V}{h:Hp}{id i:Nat}
theorem Ex.then_mk (hk:K s h):Ex.then K Q .normal s h:=hk
theorem Ex.then_exit_mk (hk:Q (.exit i) s h):Ex.then K Q (.exit i) s h:=hk
theorem Ex.then_ret_mk (hk:Q .ret s h):Ex.then K Q .ret s h:=hk
theorem Ex.inBlock_mk (hk:Q .normal s h):Ex.inBlock id Q .normal s h:=hk
theorem Ex.inBlock_ret_mk (hk:Q .ret s h):Ex.inBlock id Q .ret s h:=hk
theorem Ex.inBlock_same_mk (hk:Q .normal s h):Ex.inBlock id Q (.exit id) s h:=by simpa[Ex.inBlock]using hk
theorem Ex.inBlock_other_mk (hi:(i == id)=false)(hk:Q (.exit i) s h):Ex.inBlock id Q (.exit i) s h:=by simp at hi;simpa[Ex.inBlock,hi]using hk
end
mutual
def V.rn (f:Nat→Nat):V→V
 | .ptr b off=> .ptr (f b) off
 | .sl b off n k ag=> .sl (f b) off n k ag
 | .mp b=> .mp (f b)
 | .agg cs=> .agg (V.rns f cs)
 | .tup cs=> .tup (V.rns f cs)
 | .sc v=> .sc v
 | .row nil k es=> .row nil k es
 | .eptr es i off=> .eptr es i off
 | .any=> .any
def V.rns (f:Nat→Nat):List V→List V
 | []=>[]
 |c::cs=>c.rn f::V.rns f cs
end
theorem V.rns_length (f:Nat→Nat): ∀cs:List V,(V.rns f cs).length=cs.length
 | []=>rfl
 |_::cs=>by simp[V.rns,V.rns_length f cs]
theorem V.rns_mem {f:Nat→Nat}{p:V→Bool}(hp: ∀c,p c=true→p (c.rn f)=true): ∀{cs:List V},(∀c∈cs,p c=true)→ ∀c∈V.rns f cs,p c=true
 | [],_,c,hc=>by simp[V.rns]at hc
 |d::cs,h,c,hc=>by
  simp only[V.rns,aRo]at hc
  rcases hc with rfl|hc
  ·exact hp d (h d (by simp))
  exact V.rns_mem hp (fun c hc=>h c (by simp[hc])) c hc
theorem V.rn_one (f:Nat→Nat)(c:V)(h:c.one=true):(c.rn f).one=true:=by
 cases c<;>first|exact h|rfl|(simp[V.one]at h)
theorem V.one_rn (f:Nat→Nat)(c:V)(h:(c.rn f).one=true):c.one=true:=by
 cases c<;>first|exact h|rfl|(simp[V.one,V.rn]at h)
theorem V.one_rns {f:Nat→Nat}: ∀{cs:List V},(∀c∈V.rns f cs,c.one=true)→ ∀c∈cs,c.one=true
 | [],_,c,hc=>by simp at hc
 |d::cs,h,c,hc=>by
  simp only[V.rns,aRo,forall_eq_or_imp]at h
  simp only[aRo]at hc
  rcases hc with rfl|hc
  ·exact V.one_rn f _ h.1
  exact V.one_rns h.2 c hc
section
variable {X:Nat→Prop}{M M':List (Option Nat)}{w:World}{f:Nat→Nat}
mutual
theorem VR.rn_to (hM: ∀b y,M[b]? =some y→M'[f b]? =some y): ∀(x:V)(v:Value),VR X M w x v→VR X M' w (x.rn f) v
 | .sc c,v,h=>by unfold V.rn;unfold VR at h ⊢; exact h
 | .any,v,h=>by unfold V.rn;unfold VR;trivial
 | .row nil k es,v,h=>by unfold V.rn;unfold VR at h ⊢; exact h
 | .eptr es i off,v,h=>by unfold V.rn;unfold VR at h ⊢; exact h
 | .ptr b off,v,h=>by
  unfold V.rn;unfold VR at h⊢
  obtain⟨g,sh,h1,h2⟩:=h
  exact⟨g,sh,hM _ _ h1,h2⟩
 | .mp b,v,h=>by
  unfold V.rn;unfold VR at h⊢
  obtain⟨g,h1,h2⟩:=h
  exact⟨g,hM _ _ h1,h2⟩
 | .sl b off n k ag,v,h=>by
  unfold V.rn;unfold VR at h⊢
  rcases h with⟨h1,h2⟩|⟨g,cap,e,sz,h1,h2⟩
  ·exact .inl ⟨hM _ _ h1,h2⟩
  exact .inr ⟨g,cap,e,sz,hM _ _ h1,h2⟩
 | .agg cs,v,h=>by
  unfold V.rn;unfold VR at h⊢
  obtain⟨vs,h1,h2⟩:=h
  exact⟨vs,h1,VCells.rn_to hM cs vs h2⟩
 | .tup cs,v,h=>by
  unfold V.rn;unfold VR at h⊢
  obtain⟨vs,h1,h2⟩:=h
  exact⟨vs,h1,VCells.rn_to hM cs vs h2⟩
theorem VCells.rn_to (hM: ∀b y,M[b]? =some y→M'[f b]? =some y): ∀(cs:List V)(vs:List Value),VCells X M w cs vs→VCells X M' w (V.rns f cs) vs
 | [],vs,h=>by unfold V.rns;unfold VCells at h ⊢; exact h
 |c::cs,vs,h=>by
  unfold V.rns;unfold VCells at h⊢
  obtain⟨v,rest,h1,h2,h3⟩:=h
  exact⟨v,rest,h1,VR.rn_to hM c v h2,VCells.rn_to hM cs rest h3⟩
end
mutual
theorem VR.rn_from (hM: ∀b y,M'[f b]? =some y→M[b]? =some y): ∀(x:V)(v:Value),VR X M' w (x.rn f) v→VR X M w x v
 | .sc c,v,h=>by unfold V.rn at h;unfold VR at h ⊢; exact h
 | .any,v,h=>by unfold VR;trivial
 | .row nil k es,v,h=>by unfold V.rn at h;unfold VR at h ⊢; exact h
 | .eptr es i off,v,h=>by unfold V.rn at h;unfold VR at h ⊢; exact h
 | .ptr b off,v,h=>by
  unfold V.rn at h;unfold VR at h⊢
  obtain⟨g,sh,h1,h2⟩:=h
  exact⟨g,sh,hM _ _ h1,h2⟩
 | .mp b,v,h=>by
  unfold V.rn at h;unfold VR at h⊢
  obtain⟨g,h1,h2⟩:=h
  exact⟨g,hM _ _ h1,h2⟩
 | .sl b off n k ag,v,h=>by
  unfold V.rn at h;unfold VR at h⊢
  rcases h with⟨h1,h2⟩|⟨g,cap,e,sz,h1,h2⟩
  ·exact .inl ⟨hM _ _ h1,h2⟩
  exact .inr ⟨g,cap,e,sz,hM _ _ h1,h2⟩
 | .agg cs,v,h=>by
  unfold V.rn at h;unfold VR at h⊢
  obtain⟨vs,h1,h2⟩:=h
  exact⟨vs,h1,VCells.rn_from hM cs vs h2⟩
 | .tup cs,v,h=>by
  unfold V.rn at h;unfold VR at h⊢
  obtain⟨vs,h1,h2⟩:=h
  exact⟨vs,h1,VCells.rn_from hM cs vs h2⟩
theorem VCells.rn_from (hM: ∀b y,M'[f b]? =some y→M[b]? =some y): ∀(cs:List V)(vs:List Value),VCells X M' w (V.rns f cs) vs→VCells X M w cs vs
 | [],vs,h=>by unfold V.rns at h;unfold VCells at h ⊢; exact h
 |c::cs,vs,h=>by
  unfold V.rns at h;unfold VCells at h⊢
  obtain⟨v,rest,h1,h2,h3⟩:=h
  exact⟨v,rest,h1,VR.rn_from hM c v h2,VCells.rn_from hM cs rest h3⟩
end
end
def Blk.rn (f:Nat→Nat)(B:Blk):Blk:=⟨B.e,V.rns f B.cells⟩
def nF (f:Nat→Nat)(h:Hp):Hp:=h.map (Option.map (Blk.rn f))
def sg (ρ:List Nat)(L i:Nat):Nat:=match ρ[i]? with
 |some b=>b
 |none=>L+(i-ρ.length)
def dQ :Hp→List Nat→Hp→Hp
 |h,b::ρ,o::os=>dQ (h.set b o) ρ os
 |h,_,_=>h
theorem xA : ∀(h:Hp)(ρ:List Nat)(o:Hp),(dQ h ρ o).length=h.length
 |h,b::ρ,x::o=>by rw[dQ,xA];simp
 |h,[],_=>by simp[dQ]
 |h,_::_,[]=>by simp[dQ]
theorem xM : ∀{h:Hp}{ρ:List Nat}{o:Hp}{b:Nat},b∉ρ→(dQ h ρ o)[b]? =h[b]?
 |h,c::ρ,x::o,b,hb=>by
  simp only[aRo,not_or]at hb
  rw[dQ,xM hb.2,aRa (fun e=>hb.1 e.symm)]
 |h,[],_,b,_=>by simp[dQ]
 |h,_::_,[],b,_=>by simp[dQ]
theorem aBU : ∀{h:Hp}{ρ:List Nat}{o:Hp}{i b:Nat},ρ.Nodup→(∀b∈ρ,b<h.length)→ρ.length≤o.length→ρ[i]? =some b→(dQ h ρ o)[b]? =o[i]?
 |h,c::ρ,x::o,0,b,hn,hl,_,hi=>by
  simp only[aQF,aQu]at hi
  subst hi
  have hc:c<h.length:=hl c (by simp)
  rw[dQ,xM (aQ5.1 hn).1]
  simp[hc]
 |h,c::ρ,x::o,i+1,b,hn,hl,hle,hi=>by
  simp only[aQw]at hi
  rw[dQ,aBU (aQ5.1 hn).2 (fun b hb=>by simpa using hl b (by simp[hb])) (by simpa using hle) hi]
  simp
 |h,[],_,i,b,_,_,_,hi=>by simp at hi
 |h,_::_,[],i,b,_,_,hle,_=>by simp at hle
theorem aFr {f:Nat→Nat}{h:Hp}{i:Nat}:(nF f h)[i]? =(h[i]?).map (Option.map (Blk.rn f)):=by simp[nF]
theorem aAE {f:Nat→Nat}{h:Hp}{i:Nat}{B:Blk}(hb:(nF f h)[i]? =some (some B)): ∃C,h[i]? =some (some C)∧B=C.rn f:=by
 rw[aFr]at hb
 cases hi:h[i]? with
 |none=>rw[hi]at hb;cases hb
 |some o=>
  rw[hi]at hb
  cases o with
  |none=>simp at hb
  |some C=>simp at hb;exact⟨C,rfl,hb.symm⟩
def iQ (hb:Hp)(ρ:List Nat)(hs':Hp):Hp:=dQ hb ρ (nF (sg ρ hb.length) hs')++(nF (sg ρ hb.length) hs').drop ρ.length
theorem Fn.frame {P:Program}{f:FuncId}{hs hs' hb:Hp}{args:List V}{r:V}(hc:Fn P f hs args r hs')(ρ:List Nat)(hlen:ρ.length=hs.length)(hnd:ρ.Nodup)(hlt: ∀b∈ρ,b<hb.length)
  (hlend: ∀i b:Nat,ρ[i]? =some b→hb[b]? =(nF (sg ρ hb.length) hs)[i]?):Fn P f hb (V.rns (sg ρ hb.length) args) (r.rn (sg ρ hb.length)) (iQ hb ρ hs'):=by
 intro A M w vs H hargs
 have hσ: ∀i b:Nat,ρ[i]? =some b→sg ρ hb.length i=b:=fun i b hi=>by simp[sg,hi]
 have hσ': ∀i,ρ.length≤i→sg ρ hb.length i=hb.length+(i-ρ.length):=fun i hi=>by simp[sg,hi]
 generalize hsg:sg ρ hb.length=σ at *
 let Ms:List (Option Nat):=ρ.map fun b=>(M[b]?).getD none
 have hMs: ∀i b:Nat,ρ[i]? =some b→Ms[i]? =M[b]? :=by
  intro i b hi
  have hb':b<M.length:=by rw[H.len];exact hlt b (aQC hi)
  simp only[Ms,aQL,hi,aQA]
  rw[aQv hb']
  rfl
 have hMslen:Ms.length=hs.length:=by simp[Ms,hlen]
 have hfrom: ∀b y,M[σ b]? =some y→Ms[b]? =some y:=by
  intro b y hy
  rcases aQU b ρ.length with hl|hl
  ·have hi:ρ[b]? =some ρ[b]:=aQv hl
   rw[hMs b _ hi,←hσ b _ hi];exact hy
  rw[hσ' b hl]at hy
  have:=(aQr.1 hy).1
  rw[H.len]at this;omega
 let A':Nat→Prop:=fun g=>A g∨ ∃b B,b∉ρ∧hb[b]? =some (some B)∧M[b]? =some (some g)
 have hin: ∀{i:Nat}{B:Blk},hs[i]? =some (some B)→ ∃b,ρ[i]? =some b∧hb[b]? =some (some (B.rn σ))∧Ms[i]? =M[b]? :=by
  intro i B hi
  have hl:i<ρ.length:=by rw[hlen];exact(aQr.1 hi).1
  have hr:ρ[i]? =some ρ[i]:=aQv hl
  refine⟨_,hr, ?_,hMs i _ hr⟩
  rw[hlend i _ hr,aFr,hi];rfl
 have hliveS: ∀g,cX Ms hs g→cX M hb g:=by
  rintro g ⟨i,B,hi,hm⟩
  obtain⟨b,_,hb1,hb2⟩:=hin hi
  exact⟨b,_,hb1,by rw[←hb2];exact hm⟩
 have hX1: ∀g,Xs A' Ms hs g→Xs A M hb g:=by
  rintro g ((ha|⟨b,B,_,hb1,hb2⟩)|hl)
  ·exact .inl ha
  ·exact .inr ⟨b,B,hb1,hb2⟩
  exact .inr (hliveS g hl)
 have hX2: ∀g,Xs A M hb g→Xs A' Ms hs g:=by
  rintro g (ha|⟨b,B,hb1,hb2⟩)
  ·exact .inl (.inl ha)
  by_cases hm:b∈ρ
  ·obtain⟨i,hi⟩:=aRl.1 hm
   have he:=hlend i b hi
   rw[hb1]at he
   obtain⟨C,hC,_⟩:=aAE he.symm
   exact .inr ⟨i,C,hC,by rw[hMs i b hi];exact hb2⟩
  exact .inl (.inr ⟨b,B,hm,hb1,hb2⟩)
 have hout: ∀{b:Nat}{B:Blk}{g:Nat},b∉ρ→hb[b]? =some (some B)→M[b]? =some (some g)→ ¬cX Ms hs g:=by
  rintro b B g hb0 hb1 hb2 ⟨i,C,hi,hm⟩
  obtain⟨c,hc0,hc1,hc2⟩:=hin hi
  have:=H.inj b c B _ g hb1 hc1 hb2 (by rw[←hc2];exact hm)
  subst this
  exact hb0 (aQC hc0)
 have HS:HR A' Ms hs w:=by
  refine⟨hMslen, ?_, ?_, ?_,H.glob.avoid fun g _ hx=>hX1 g hx⟩
  ·rintro g (ha|⟨b,B,_,hb1,hb2⟩)
   ·exact H.alt g ha
   exact H.lt (.inr ⟨b,B,hb1,hb2⟩)
  ·intro i B hi
   obtain⟨b,hb0,hb1,hb2⟩:=hin hi
   obtain⟨h1,h2⟩:=H.blk b _ hb1
   refine⟨V.one_rns h1, ?_⟩
   rcases h2 with⟨hn,hc0⟩|⟨g,cs,hg,hA,hh,hle,hcs⟩
   ·refine .inl ⟨by rw[hb2];exact hn, ?_⟩
    have:=congrArg aRX hc0
    simp only[Blk.rn,V.rns_length,aRr]at this
    exact aQy this
   refine .inr ⟨g,cs,by rw[hb2];exact hg, ?_,by simpa[Blk.rn,V.rns_length]using hh, ?_, ?_⟩
   ·rintro(ha|⟨c,C,hc0,hc1,hc2⟩)
    ·exact hA ha
    have:=H.inj b c _ C g hb1 hc1 hg hc2
    subst this
    exact hc0 (aQC hb0)
   ·simpa[Blk.rn,V.rns_length]using hle
   have hcs':VCells (Xs A M hb) M w (V.rns σ B.cells) (cs.toList.take B.cells.length):=by simpa[Blk.rn,V.rns_length]using hcs
   exact(VCells.rn_from hfrom _ _ hcs').avoid (fun g _ hx=>hX1 g hx)
  intro i j B C g hi hj mi mj
  obtain⟨b,hb0,hb1,hb2⟩:=hin hi
  obtain⟨c,hc0,hc1,hc2⟩:=hin hj
  have:=H.inj b c _ _ g hb1 hc1 (by rw[←hb2];exact mi) (by rw[←hc2];exact mj)
  subst this
  have hil:=(aQr.1 hb0).1
  exact(aRN hil hnd).1 (hb0.trans hc0.symm)
 have hargsS:VCells (Xs A' Ms hs) Ms w args vs:=(VCells.rn_from hfrom _ _ hargs).avoid (fun g _ hx=>hX1 g hx)
 refine(hc A' Ms w vs HS hargsS).mono fun v w' ⟨Ms',G,hv⟩=> ?_
 obtain⟨Mn,rfl⟩:=G.pre
 have hMnlen:hs'.length=ρ.length+Mn.length:=by rw[←G.hr.len];simp[Ms]
 have hto: ∀b y,(Ms++Mn)[b]? =some y→(M++Mn)[σ b]? =some y:=by
  intro b y hy
  rcases aQU b ρ.length with hl|hl
  ·have hi:ρ[b]? =some ρ[b]:=aQv hl
   rw[aQs (by rw[hMslen,←hlen];exact hl),hMs b _ hi]at hy
   rw[hσ b _ hi,aQs (by rw[H.len];exact hlt _ (aQC hi))]
   exact hy
  rw[aQz (by rw[hMslen,←hlen];exact hl),hMslen,←hlen]at hy
  rw[hσ' b hl,aQz (by rw[H.len];omega),H.len,show hb.length+(b-ρ.length)-hb.length=b-ρ.length by omega]
  exact hy
 have hlentlen:(dQ hb ρ (nF σ hs')).length=hb.length:=xA _ _ _
 have hrnlen:(nF σ hs').length=hs'.length:=by simp[nF]
 have hcase: ∀{b:Nat}{B:Blk},(iQ hb ρ hs')[b]? =some (some B)→(b∉ρ∧hb[b]? =some (some B))∨ ∃i C,hs'[i]? =some (some C)∧b=σ i∧B=C.rn σ∧(M++Mn)[b]? =(Ms++Mn)[i]? :=by
  intro b B hb1
  unfold iQ at hb1
  rw[hsg]at hb1
  rcases aQU b hb.length with hl|hl
  ·rw[aQs (by rw[hlentlen];exact hl)]at hb1
   by_cases hm:b∈ρ
   ·obtain⟨i,hi⟩:=aRl.1 hm
    rw[aBU hnd hlt (by rw[hrnlen];omega) hi]at hb1
    obtain⟨C,hC,hB⟩:=aAE hb1
    have hil:=(aQr.1 hi).1
    refine .inr ⟨i,C,hC,(hσ i b hi).symm,hB, ?_⟩
    rw[aQs (by rw[H.len];exact hl),aQs (by rw[hMslen,←hlen];exact hil),hMs i b hi]
   rw[xM hm]at hb1
   exact .inl ⟨hm,hb1⟩
  rw[aQz (by rw[hlentlen];exact hl),hlentlen,aRg]at hb1
  obtain⟨C,hC,hB⟩:=aAE hb1
  refine .inr ⟨_,C,hC, ?_,hB, ?_⟩
  ·rw[hσ' _ (by omega)];omega
  rw[aQz (by rw[H.len];exact hl),aQz (by rw[hMslen,←hlen];omega),H.len,hMslen,←hlen]
  congr 1;omega
 have hlive: ∀g,g<w.heap.size→cX (M++Mn) (iQ hb ρ hs') g→cX M hb g:=by
  rintro g hg ⟨b,B,hb1,hb2⟩
  rcases hcase hb1 with⟨hb0,hb3⟩|⟨i,C,hC,rfl,rfl,he⟩
  ·refine⟨b,B,hb3, ?_⟩
   rw[aQs (by rw[H.len];exact(aQr.1 hb3).1)]at hb2
   exact hb2
  exact hliveS g (G.live g hg ⟨i,C,hC,by rw[←he];exact hb2⟩)
 have hX3: ∀g,Xs A (M++Mn) (iQ hb ρ hs') g→Xs A' (Ms++Mn) hs' g:=by
  rintro g (ha|⟨b,B,hb1,hb2⟩)
  ·exact .inl (.inl ha)
  rcases hcase hb1 with⟨hb0,hb3⟩|⟨i,C,hC,rfl,rfl,he⟩
  ·rw[aQs (by rw[H.len];exact(aQr.1 hb3).1)]at hb2
   exact .inl (.inr ⟨b,B,hb0,hb3,hb2⟩)
  exact .inr ⟨i,C,hC,by rw[←he];exact hb2⟩
 refine⟨M++Mn,⟨⟨Mn,rfl⟩,⟨?_, ?_, ?_, ?_,G.hr.glob.avoid fun g _ hx=>hX3 g hx⟩,G.ext.mono (fun g _ hl=>hliveS g hl),hlive⟩,(VR.rn_to hto _ _ hv).avoid (fun g _ hx=>hX3 g hx)⟩
 ·unfold iQ
  rw[hsg]
  simp only[aQ3,aRA,hlentlen,hrnlen,H.len]
  omega
 ·exact fun g hg=>aQ4 (H.alt g hg) G.ext.size
 ·intro b B hb1
  rcases hcase hb1 with⟨hb0,hb3⟩|⟨i,C,hC,rfl,rfl,he⟩
  ·have hbl:b<M.length:=by rw[H.len];exact(aQr.1 hb3).1
   obtain⟨h1,⟨hn,hc0⟩|⟨g,cs,hg,hA,hh,hle,hcs⟩⟩:=H.blk b B hb3
   ·exact⟨h1,.inl ⟨by rw[aQs hbl];exact hn,hc0⟩⟩
   have hgs:g<w.heap.size:=H.lt (.inr ⟨b,B,hb3,hg⟩)
   refine⟨h1,.inr ⟨g,cs,by rw[aQs hbl];exact hg,hA, ?_,hle, ?_⟩⟩
   ·exact hh.to (G.ext.block g hgs (hout hb0 hb3 hg))
   exact VCells.ext G.ext ⟨Mn,rfl⟩ (fun g _ hl=> .inr (hliveS g hl)) (fun g hg hx=>hx.elim .inl (fun hl=> .inr (hlive g hg hl))) _ _ hcs
  obtain⟨h1,h2⟩:=G.hr.blk i C hC
  refine⟨V.rns_mem (V.rn_one σ) h1, ?_⟩
  rcases h2 with⟨hn,hc0⟩|⟨g,cs,hg,hA,hh,hle,hcs⟩
  ·refine .inl ⟨by rw[he];exact hn, ?_⟩
   simp[Blk.rn,hc0,V.rns]
  refine .inr ⟨g,cs,by rw[he];exact hg,fun ha=>hA (.inl ha),by simpa[Blk.rn,V.rns_length]using hh, ?_, ?_⟩
  ·simpa[Blk.rn,V.rns_length]using hle
  have:=(VCells.rn_to hto _ _ hcs).avoid (fun g _ hx=>hX3 g hx)
  simpa[Blk.rn,V.rns_length]using this
 intro b c B C g hb1 hc1 mb mc
 rcases hcase hb1 with⟨hb0,hb3⟩|⟨i,D,hD,rfl,rfl,he⟩<;>rcases hcase hc1 with⟨hc0,hc3⟩|⟨j,E,hE,rfl,rfl,he'⟩
 ·rw[aQs (by rw[H.len];exact(aQr.1 hb3).1)]at mb
  rw[aQs (by rw[H.len];exact(aQr.1 hc3).1)]at mc
  exact H.inj b c B C g hb3 hc3 mb mc
 ·rw[aQs (by rw[H.len];exact(aQr.1 hb3).1)]at mb
  rw[he']at mc
  obtain⟨_,⟨hn,_⟩|⟨g',cs,hg,hA,_⟩⟩:=G.hr.blk j E hE
  ·rw[mc]at hn;cases hn
  rw[mc]at hg;injection hg with hg;injection hg with hg;subst hg
  exact absurd (.inr ⟨b,B,hb0,hb3,mb⟩) hA
 ·rw[aQs (by rw[H.len];exact(aQr.1 hc3).1)]at mc
  rw[he]at mb
  obtain⟨_,⟨hn,_⟩|⟨g',cs,hg,hA,_⟩⟩:=G.hr.blk i D hD
  ·rw[mb]at hn;cases hn
  rw[mb]at hg;injection hg with hg;injection hg with hg;subst hg
  exact absurd (.inr ⟨c,C,hc0,hc3,mc⟩) hA
 rw[G.hr.inj i j D E g hD hE (by rw[←he];exact mb) (by rw[←he'];exact mc)]
def fM :List (Nat×V)→Nat→Option V
 | [],_=>none
 |(u,x)::r,t=>bif aRs u t then some x else fM r t
def aE (n:Nat)(fr:List (Nat×V)):List V:=(aRq n).map fun t=>(fM fr t).getD .any
theorem s8 (n:Nat)(fr:List (Nat×V)):(aE n fr).length=n:=by simp[aE]
theorem z4 {n t:Nat}{fr:List (Nat×V)}(h:t<n):(aE n fr)[t]? =some ((fM fr t).getD .any):=by simp[aE,h]
def bG (n:Nat)(fr:List (Nat×V)):Operand→Option V
 | .tmp t=>bif aR0 t n then fM fr t else none
 | .const v=>some (ofValue v)
 | .func f=>some (.sc (.func (.func f) #[] #[]))
 | .global g=>(GT g).map fun e=> .eptr [e] 0 0
theorem cG {n:Nat}{fr:List (Nat×V)}{o:Operand}{x:V}(h:bG n fr o=some x):ev (aE n fr) o=some x:=by
 cases o with
 |tmp t=>
  simp only[bG]at h
  cases hb:aR0 t n with
  |false=>rw[hb]at h;cases h
  |true=>
   rw[hb]at h
   simp only[cond_true]at h
   have ht:t<n:=by have h2:aR1 (t+1) n=true:=hb;exact aQ6 h2
   simp only[ev]
   rw[z4 ht,h];rfl
 |const v=>exact h
 |func f=>exact h
 |global g=>exact h
theorem aDI {n t:Nat}{fr:List (Nat×V)}{x:V}:iG (aE n fr) (some t) x=aE n ((t,x)::fr):=by
 simp only[iG]
 apply aQ9
 intro i
 by_cases hi:i<n
 ·rw[z4 hi]
  by_cases ht:t=i
  ·subst ht
   rw[aRi (by rw[s8];exact hi)]
   simp[fM]
  rw[aRa ht,z4 hi]
  have:aRs t i=false:=by cases hb:aRs t i with
   |false=>rfl
   |true=>exact absurd (aQO hb) ht
  simp[fM,this]
 rw[aQ7 (by rw[aRt,s8];omega),aQ7 (by rw[s8];omega)]
def AB (P:Program)(N:Nat)(c:Code)(Q:Ex→List V→Hp→Prop)(s:List V)(h:Hp):Prop:=
 ∀(A:Nat→Prop)(M0 M:List (Option Nat))(h0:Hp)(w0:World)(a:Act)(w:World),h0.length=N→M0.length=N→Grow A M0 h0 w0 M h w→Rel A M s h a w→
  c.wp P (fun e a' w'=> ∃x s' h' M',e=Ex.toExit x∧Q x s' h'∧Grow A M0 h0 w0 M' h' w'∧Rel A M' s' h' a' w') a w
section
variable {P:Program}{N:Nat}{Q Q':Ex→List V→Hp→Prop}{s s':List V}{h h':Hp}
theorem AB.of {c:Code}(hh:AW P c Q s h):AB P N c Q s h:=fun A M0 M h0 w0 a w _ _ G R=>
 Code.wp_mono (fun e a' w' ⟨x,s',h',M',h1,h2,h3,h4⟩=>⟨x,s',h',M',h1,h2,G.trans h3,h4⟩) (hh A M a w R)
theorem AB.mono {c:Code}(hh:AB P N c Q s h)(hq: ∀x s h,Q x s h→Q' x s h):AB P N c Q' s h:=fun A M0 M h0 w0 a w hN hM G R=>
 Code.wp_mono (fun e a' w' ⟨x,s',h',M',h1,h2,h3,h4⟩=>⟨x,s',h',M',h1,hq _ _ _ h2,h3,h4⟩) (hh A M0 M h0 w0 a w hN hM G R)
theorem AB.skip (hq:Q .normal s h):AB P N .skip Q s h:=AB.of (AW.skip hq)
theorem AB.exit {id:Nat}(hq:Q (.exit id) s h):AB P N (.exit id) Q s h:=AB.of (AW.exit hq)
theorem AB.ret (hq:Q .ret s h):AB P N .ret Q s h:=AB.of (AW.ret hq)
theorem AB.seq {c d:Code}(hh:AB P N c (Ex.then (AB P N d Q) Q) s h):AB P N (.seq c d) Q s h:=by
 intro A M0 M h0 w0 a w hN hM G R
 refine wp_seq (Code.wp_mono (fun e a' w' ⟨x,s1,h1,M1,he,hq,G1,R1⟩=> ?_) (hh A M0 M h0 w0 a w hN hM G R))
 subst he
 cases x with
 |normal=>exact hq A M0 M1 h0 w0 a' w' hN hM G1 R1
 |exit id=>exact⟨.exit id,s1,h1,M1,rfl,hq,G1,R1⟩
 |ret=>exact⟨.ret,s1,h1,M1,rfl,hq,G1,R1⟩
theorem AB.cond {c:Operand}{x y:Code}{t:Bool}(hc:ev s c=some (.sc (.bool t)))(h1:t=true→AB P N x Q s h)(h2:t=false→AB P N y Q s h):AB P N (.cond c x y) Q s h:=by
 intro A M0 M h0 w0 a w hN hM G R
 have hv:=bQ R.hr.glob R.sr hc
 unfold VR at hv
 refine wp_cond hv ?_
 cases t with
 |true=>exact h1 rfl A M0 M h0 w0 a w hN hM G R
 |false=>exact h2 rfl A M0 M h0 w0 a w hN hM G R
theorem AB.block {id:Nat}{c:Code}(hh:AB P N c (Ex.inBlock id Q) s h):AB P N (.block id c) Q s h:=by
 intro A M0 M h0 w0 a w hN hM G R
 refine wp_block (Code.wp_mono (fun e a' w' ⟨x,s1,h1,M1,he,hq,G,R1⟩=> ?_) (hh A M0 M h0 w0 a w hN hM G R))
 subst he
 cases x with
 |normal=>exact⟨.normal,s1,h1,M1,rfl,hq,G,R1⟩
 |exit i=>
  show Exit.inBlock id _ (.exit i) a' w'
  simp only[Exit.inBlock]
  simp only[Ex.inBlock]at hq
  split
  ·rename_i hi;rw[if_pos hi]at hq;exact⟨.normal,s1,h1,M1,rfl,hq,G,R1⟩
  rename_i hi;rw[if_neg hi]at hq;exact⟨.exit i,s1,h1,M1,rfl,hq,G,R1⟩
 |ret=>exact⟨.ret,s1,h1,M1,rfl,hq,G,R1⟩
theorem AB.loop {c:Code}(I:Nat→List V→Hp→Prop){n:Nat}(h0:I n s h)(round: ∀n s h,I n s h→AB P N c (Ex.then (fun s' h'=> ∃m,m<n∧I m s' h') Q) s h):AB P N (.loop c) Q s h:=by
 intro A M0 M hh0 w0 a w hN hM G R
 let p:Act→World→Nat→Prop:=fun a' w' k=> ∃s' h' M',I k s' h'∧Grow A M0 hh0 w0 M' h' w'∧Rel A M' s' h' a' w'
 let μ:Act→World→Nat:=fun a' w'=>Classical.epsilon fun k=>p a' w' k∧ ∀j,p a' w' j→k≤j
 have hμ: ∀a' w',(∃k,p a' w' k)→p a' w' (μ a' w')∧ ∀j,p a' w' j→μ a' w'≤j:=fun a' w' hh=>Classical.epsilon_spec (dS hh)
 refine wp_loop (fun a' w'=> ∃k,p a' w' k) μ ⟨n,s,h,M,h0,G,R⟩ ?_
 intro a1 w1 hI
 obtain⟨s1,h1,M1,hIk,G1,R1⟩:=(hμ a1 w1 hI).1
 refine Code.wp_mono (fun e a2 w2 ⟨x,s2,h2,M2,he,hq,G2,R2⟩=> ?_) (round _ s1 h1 hIk A M0 M1 hh0 w0 a1 w1 hN hM G1 R1)
 subst he
 cases x with
 |normal=>
  obtain⟨m,hm,hIm⟩:=hq
  have hex2:p a2 w2 m:=⟨s2,h2,M2,hIm,G2,R2⟩
  exact⟨⟨m,hex2⟩,Nat.lt_of_le_of_lt ((hμ a2 w2 ⟨m,hex2⟩).2 m hex2) hm⟩
 |exit id=>exact⟨.exit id,s2,h2,M2,rfl,hq,G2,R2⟩
 |ret=>exact⟨.ret,s2,h2,M2,rfl,hq,G2,R2⟩
theorem AB.loopN {c:Code}(I:Nat→List V→Hp→Prop){n:Nat}(h0:I n s h)(r0: ∀s h,¬I 0 s h)(round: ∀n s h,I (n+1) s h→AB P N c (Ex.then (I n) Q) s h):AB P N (.loop c) Q s h:=by
 refine AB.loop I h0 fun n s h hI=> ?_
 cases n with
 |zero=>exact absurd hI (r0 s h)
 |succ n=>
  refine(round n s h hI).mono fun x s h hq=> ?_
  cases x with
  |normal=>exact⟨n,Nat.lt_succ_self n,hq⟩
  |exit id=>exact hq
  |ret=>exact hq
end
mutual
def V.le (vn:Nat→Bool):V→V→Prop
 |x,.any=>True
 | .row a k es,.row b k' es'=>(b=none∨a=b)∧es=es'∧(k=k'∨es=[])
 | .row a _ es,.sl b off n _ _=>a=some true∧es=[]∧vn b=true∧off=0∧n=0
 | .agg cs,.agg ds=>V.les vn cs ds
 | .tup cs,.tup ds=>V.les vn cs ds
 |x,y=>x=y
def V.les (vn:Nat→Bool):List V→List V→Prop
 | [],[]=>True
 |c::cs,d::ds=>V.le vn c d∧V.les vn cs ds
 |_,_=>False
end
def uG :Nat→Bool:=fun _=>false
mutual
theorem V.le_refl (vn:Nat→Bool): ∀x:V,V.le vn x x
 | .any=>by unfold V.le;trivial
 | .row a k es=>by unfold V.le;exact⟨.inr rfl,rfl,.inl rfl⟩
 | .agg cs=>by unfold V.le;exact V.les_refl vn cs
 | .tup cs=>by unfold V.le;exact V.les_refl vn cs
 | .sc _=>by unfold V.le;rfl
 | .ptr _ _=>by unfold V.le;rfl
 | .sl _ _ _ _ _=>by unfold V.le;rfl
 | .eptr _ _ _=>by unfold V.le;rfl
 | .mp _=>by unfold V.le;rfl
theorem V.les_refl (vn:Nat→Bool): ∀cs:List V,V.les vn cs cs
 | []=>by unfold V.les;trivial
 |c::cs=>by unfold V.les;exact⟨V.le_refl vn c,V.les_refl vn cs⟩
end
theorem V.le_row {vn:Nat→Bool}{a:Option Bool}{k:Nat}{es:List V}:V.le vn (.row a k es) (.row none k es):=by unfold V.le;exact⟨.inl rfl,rfl,.inl rfl⟩
theorem V.le_nil {vn:Nat→Bool}{a:Option Bool}{k k':Nat}:V.le vn (.row a k []) (.row none k' []):=by unfold V.le;exact⟨.inl rfl,rfl,.inr rfl⟩
theorem V.le_virt {vn:Nat→Bool}{k k' b:Nat}{ag:Bool}(hb:vn b=true):V.le vn (.row (some true) k []) (.sl b 0 0 k' ag):=by unfold V.le;exact⟨rfl,rfl,hb,rfl,rfl⟩
section
variable {X:Nat→Prop}{M:List (Option Nat)}{w:World}{vn:Nat→Bool}
mutual
theorem V.le_sound (hvn: ∀b,vn b=true→M[b]? =some none): ∀(x y:V)(v:Value),V.le vn x y→VR X M w x v→VR X M w y v
 |x,.any,v,_,_=>by unfold VR;trivial
 | .row a k es,.row b k' es',v,h,hv=>by
  unfold V.le at h
  obtain⟨h1,rfl,h3⟩:=h
  unfold VR at hv⊢
  obtain⟨ad,cap,e1,e2,e3,e4,e5,e6⟩:=hv
  refine⟨ad,cap,e1,e2,e3, ?_, ?_, ?_⟩
  ·rcases h1 with rfl|rfl
   ·intro b hb;cases hb
   exact e4
  ·rcases h3 with rfl|rfl
   ·exact e5
   simp
  rcases h3 with rfl|rfl
  ·exact e6
  exact fun hne=>absurd rfl hne
 | .row a k es,.sl b off n k' ag,v,h,hv=>by
  unfold V.le at h
  obtain⟨rfl,rfl,h3,rfl,rfl⟩:=h
  unfold VR at hv⊢
  obtain⟨ad,cap,e1,e2,e3,e4,e5,e6⟩:=hv
  have hn:ad=none:=e4 true rfl
  cases ad with
  |some ad=>simp at hn
  |none=>
   have:=e3 rfl
   subst this
   exact .inl ⟨hvn b h3,e1,rfl,rfl⟩
 | .agg cs,.agg ds,v,h,hv=>by
  unfold V.le at h
  unfold VR at hv⊢
  obtain⟨vs,e1,e2⟩:=hv
  exact⟨vs,e1,V.les_sound hvn cs ds vs h e2⟩
 | .tup cs,.tup ds,v,h,hv=>by
  unfold V.le at h
  unfold VR at hv⊢
  obtain⟨vs,e1,e2⟩:=hv
  exact⟨vs,e1,V.les_sound hvn cs ds vs h e2⟩
 | .sc c,y,v,h,hv=>by
  cases y<;>first|(unfold VR;trivial)|(unfold V.le at h;injection h with h;subst h;exact hv)|(unfold V.le at h;cases h)
 | .mp _,y,v,h,hv=>by
  cases y<;>first|(unfold VR;trivial)|(unfold V.le at h;injection h with h;subst h;exact hv)|(unfold V.le at h;cases h)
 | .ptr _ _,y,v,h,hv=>by
  cases y<;>first|(unfold VR;trivial)|(unfold V.le at h;injection h with h1 h2;subst h1 h2;exact hv)|(unfold V.le at h;cases h)
 | .sl _ _ _ _ _,y,v,h,hv=>by
  cases y<;>first|(unfold VR;trivial)|(unfold V.le at h;injection h with h1 h2 h3 h4 h5;subst h1 h2 h3 h4 h5;exact hv)|(unfold V.le at h;cases h)
 | .eptr _ _ _,y,v,h,hv=>by
  cases y<;>first|(unfold VR;trivial)|(unfold V.le at h;injection h with h1 h2 h3;subst h1 h2 h3;exact hv)|(unfold V.le at h;cases h)
theorem V.les_sound (hvn: ∀b,vn b=true→M[b]? =some none): ∀(cs ds:List V)(vs:List Value),V.les vn cs ds→VCells X M w cs vs→VCells X M w ds vs
 | [],[],vs,_,hv=>hv
 |c::cs,d::ds,vs,h,hv=>by
  unfold V.les at h
  unfold VCells at hv⊢
  obtain⟨v,rest,e1,e2,e3⟩:=hv
  exact⟨v,rest,e1,V.le_sound hvn c d v h.1 e2,V.les_sound hvn cs ds rest h.2 e3⟩
end
end
def Ghost (N:Nat)(s:List V)(h:Hp)(s':List V)(h':Hp):Prop:=
 ∀(A:Nat→Prop)(M:List (Option Nat))(a:Act)(w:World),N≤M.length→Rel A M s h a w→
  ∃M',M'.take N=M.take N∧Rel A M' s' h' a w∧ ∀g,cX M' h' g→cX M h g
theorem AB.ghost {P:Program}{N:Nat}{c:Code}{Q:Ex→List V→Hp→Prop}{s s':List V}{h h':Hp}(hg:Ghost N s h s' h')(hh:AB P N c Q s' h'):AB P N c Q s h:=by
 intro A M0 M h0 w0 a w hN hM G R
 obtain⟨t,ht⟩:=G.pre
 have hle:N≤M.length:=by rw[←ht];simp[hM]
 obtain⟨M',h1,h2,h3⟩:=hg A M a w hle R
 refine hh A M0 M' h0 w0 a w hN hM ⟨?_,h2.hr,G.ext,fun g hg hl=>G.live g hg (h3 g hl)⟩ h2
 have:M0=M'.take N:=by rw[h1,←ht,←hM];simp
 rw[this]
 exact aRB _ _
def FLe (vn:Nat→Bool)(g:V→V)(fr:List (Nat×V)):List (Nat×V)→Prop
 | []=>True
 |(t,y)::r=>(∃x,fM fr t=some x∧V.le vn x (g y))∧FLe vn g fr r
theorem FLe.nil {vn:Nat→Bool}{g:V→V}{fr:List (Nat×V)}:FLe vn g fr []:=trivial
theorem FLe.same {vn:Nat→Bool}{g:V→V}{fr r:List (Nat×V)}{t:Nat}{y:V}(h:fM fr t=some (g y))(k:FLe vn g fr r):FLe vn g fr ((t,y)::r):=⟨⟨_,h,V.le_refl _ _⟩,k⟩
theorem FLe.le {vn:Nat→Bool}{g:V→V}{fr r:List (Nat×V)}{t:Nat}{x y:V}(h:fM fr t=some x)(hl:V.le vn x (g y))(k:FLe vn g fr r):FLe vn g fr ((t,y)::r):=⟨⟨_,h,hl⟩,k⟩
theorem FLe.get {vn:Nat→Bool}{g:V→V}{fr:List (Nat×V)}: ∀{fr':List (Nat×V)},FLe vn g fr fr'→ ∀{t:Nat}{y:V},fM fr' t=some y→ ∃x,fM fr t=some x∧V.le vn x (g y)
 | [],_,t,y,hy=>by cases hy
 |(u,z)::r,h,t,y,hy=>by
  simp only[fM]at hy
  cases hb:aRs u t with
  |true=>
   rw[hb]at hy
   have:=aQO hb
   subst this
   simp only[cond_true,aQu]at hy
   subst hy
   exact h.1
  |false=>rw[hb]at hy;exact h.2.get hy
theorem aC9 {X:Nat→Prop}{M M':List (Option Nat)}{w:World}{n:Nat}{fr fr':List (Nat×V)}{a:Act}{X':Nat→Prop}(S:SR X M w (aE n fr) a)
  (hh: ∀(t:Nat)(y:V),fM fr' t=some y→ ∃x,fM fr t=some x∧ ∀v,VR X M w x v→VR X' M' w y v):SR X' M' w (aE n fr') a:=by
 refine⟨by rw[s8,←S.len,s8],fun t y hy=> ?_⟩
 have ht:t<n:=by have:=(aQr.1 hy).1;rw[s8]at this;exact this
 rw[z4 ht]at hy
 injection hy with hy
 cases hl:fM fr' t with
 |none=>rw[hl]at hy;subst hy;unfold VR;trivial
 |some z=>
  rw[hl]at hy
  subst hy
  obtain⟨x,hx,hv⟩:=hh t z hl
  exact hv _ (S.val t x (by rw[z4 ht,hx];rfl))
def HLe (f:Nat→Nat)(h:Hp):List Nat→Hp→Prop
 | [],[]=>True
 |_::σ,none::h'=>HLe f h σ h'
 |b::σ,some B'::h'=>(∃B,h[b]? =some (some B)∧B.e=B'.e∧V.les uG B.cells (V.rns f B'.cells)∧B'.cells.all V.one=true)∧HLe f h σ h'
 |_,_=>False
theorem HLe.nil {f:Nat→Nat}{h:Hp}:HLe f h [] []:=trivial
theorem HLe.dead {f:Nat→Nat}{h h':Hp}{b:Nat}{σ:List Nat}(k:HLe f h σ h'):HLe f h (b::σ) (none::h'):=k
theorem HLe.live {f:Nat→Nat}{h h':Hp}{b:Nat}{σ:List Nat}{e:TypeId}{cs cs':List V}(hb:h[b]? =some (some ⟨e,cs⟩))(hc:V.les uG cs (V.rns f cs'))(ho:cs'.all V.one=true)(k:HLe f h σ h'):HLe f h (b::σ) (some ⟨e,cs'⟩::h'):=⟨⟨_,hb,rfl,hc,ho⟩,k⟩
theorem HLe.get {f:Nat→Nat}{h:Hp}: ∀{σ:List Nat}{h':Hp},HLe f h σ h'→ ∀{j:Nat}{B':Blk},h'[j]? =some (some B')→ ∃b B,σ[j]? =some b∧h[b]? =some (some B)∧B.e=B'.e∧V.les uG B.cells (V.rns f B'.cells)∧B'.cells.all V.one=true
 | [],[],_,j,B',hj=>by simp at hj
 |b::σ,none::h',hh,j,B',hj=>by
  cases j with
  |zero=>simp at hj
  |succ j=>simp only[aQw]at hj ⊢; exact HLe.get (σ:=σ) hh hj
 |b::σ,some B::h',hh,j,B',hj=>by
  cases j with
  |zero=>
   simp only[aQF,aQu]at hj
   subst hj
   obtain⟨C,h1,h2,h3,h4⟩:=hh.1
   exact⟨b,C,rfl,h1,h2,h3,h4⟩
  |succ j=>simp only[aQw]at hj ⊢; exact HLe.get (σ:=σ) hh.2 hj
 | [],_::_,hh,_,_,_=>hh.elim
 |_::_,[],hh,_,_,_=>hh.elim
theorem HLe.len {f:Nat→Nat}{h:Hp}: ∀{σ:List Nat}{h':Hp},HLe f h σ h'→σ.length=h'.length
 | [],[],_=>rfl
 |b::σ,none::h',hh=>by simp[HLe.len (σ:=σ) hh]
 |b::σ,some B::h',hh=>by simp[HLe.len (σ:=σ) hh.2]
 | [],_::_,hh=>hh.elim
 |_::_,[],hh=>hh.elim
def lvs :List Nat→Hp→List Nat
 |b::σ,some _::h'=>b::lvs σ h'
 |_::σ,none::h'=>lvs σ h'
 |_,_=>[]
theorem aDc : ∀{σ:List Nat}{h':Hp}{j b:Nat}{B:Blk},h'[j]? =some (some B)→σ[j]? =some b→b∈lvs σ h'
 | [],_,j,b,B,_,hb=>by simp at hb
 |_::_,[],j,b,B,hj,_=>by simp at hj
 |c::σ,some C::h',0,b,B,hj,hb=>by simp at hb;simp[lvs,hb]
 |c::σ,some C::h',j+1,b,B,hj,hb=>by
  simp only[aQw]at hj hb
  simp[lvs,aDc hj hb]
 |c::σ,none::h',0,b,B,hj,hb=>by simp at hj
 |c::σ,none::h',j+1,b,B,hj,hb=>by
  simp only[aQw]at hj hb
  simp[lvs,aDc hj hb]
theorem aEX : ∀{σ:List Nat}{h':Hp},(lvs σ h').Nodup→ ∀{i j b:Nat}{B C:Blk},h'[i]? =some (some B)→h'[j]? =some (some C)→σ[i]? =some b→σ[j]? =some b→i=j
 | [],_,_,i,j,b,B,C,_,_,hb,_=>by simp at hb
 |_::_,[],_,i,j,b,B,C,hi,_,_,_=>by simp at hi
 |c::σ,some D::h',hn,0,0,b,B,C,_,_,_,_=>rfl
 |c::σ,some D::h',hn,0,j+1,b,B,C,hi,hj,bi,bj=>by
  simp only[aQw,aQF,aQu]at hj bi bj
  subst bi
  exact absurd (aDc hj bj) (aQ5.1 hn).1
 |c::σ,some D::h',hn,i+1,0,b,B,C,hi,hj,bi,bj=>by
  simp only[aQw,aQF,aQu]at hi bi bj
  subst bj
  exact absurd (aDc hi bi) (aQ5.1 hn).1
 |c::σ,some D::h',hn,i+1,j+1,b,B,C,hi,hj,bi,bj=>by
  simp only[aQw]at hi hj bi bj
  rw[aEX (aQ5.1 hn).2 hi hj bi bj]
 |c::σ,none::h',hn,0,_,b,B,C,hi,_,_,_=>by simp at hi
 |c::σ,none::h',hn,i+1,0,b,B,C,_,hj,_,_=>by simp at hj
 |c::σ,none::h',hn,i+1,j+1,b,B,C,hi,hj,bi,bj=>by
  simp only[aQw]at hi hj bi bj
  rw[aEX (σ:=σ) hn hi hj bi bj]
def ndB :List Nat→Bool
 | []=>true
 |b::l=> !(l.elem b)&&ndB l
theorem aF7 : ∀{l:List Nat},ndB l=true→l.Nodup
 | [],_=>List.nodup_nil
 |b::l,h=>by
  simp only[ndB,aQH,Bool.not_eq_true']at h
  refine aQ5.2 ⟨fun hm=> ?_,aF7 h.2⟩
  rw[List.elem_eq_true_of_mem hm]at h
  cases h.1
theorem aOL {ρ:List Nat}{L i b:Nat}(h:ρ[i]? =some b):sg ρ L i=b:=by simp[sg,h]
theorem aOE {ρ:List Nat}{L i:Nat}(h:ρ.length≤i):sg ρ L i=L+(i-ρ.length):=by simp[sg,h]
theorem V.les_length {vn:Nat→Bool}: ∀{cs ds:List V},V.les vn cs ds→cs.length=ds.length
 | [],[],_=>rfl
 |c::cs,d::ds,h=>by unfold V.les at h;simp[V.les_length h.2]
 | [],_::_,h=>by unfold V.les at h;exact h.elim
 |_::_,[],h=>by unfold V.les at h;exact h.elim
theorem Ghost.rn {N n:Nat}{fr fr':List (Nat×V)}{h h':Hp}(σ:List Nat)(hσ:σ.take N=aRq N)(hlt:σ.all (fun b=>aR0 b h.length)=true)(hf:FLe uG (V.rn (sg σ h.length)) fr fr')
  (hh:HLe (sg σ h.length) h σ h') (hnd:ndB (lvs σ h')=true):Ghost N (aE n fr) h (aE n fr') h':=by
 intro A M a w hN R
 have hM:M.length=h.length:=R.hr.len
 have hltb: ∀b∈σ,b<M.length:=fun b hb=>by
  have h2:=aQx.1 hlt b hb
  rw[hM];exact aQ6 (n:=b+1) h2
 let M':List (Option Nat):=σ.map fun b=>(M[b]?).getD none
 have hM': ∀{j b:Nat},σ[j]? =some b→M'[j]? =M[b]? :=by
  intro j b hj
  have hb:=hltb b (aQC hj)
  simp only[M',aQL,hj,aQA]
  rw[aQv hb];rfl
 have hfrom: ∀b y,M[sg σ h.length b]? =some y→M'[b]? =some y:=by
  intro b y hy
  rcases aQU b σ.length with hl|hl
  ·have hi:σ[b]? =some σ[b]:=aQv hl
   rw[hM' hi];rw[aOL hi]at hy;exact hy
  rw[aOE hl]at hy
  have:=(aQr.1 hy).1
  omega
 have hlive: ∀g,cX M' h' g→cX M h g:=by
  rintro g ⟨j,B',hj,hm⟩
  obtain⟨b,B,h1,h2,_⟩:=hh.get hj
  exact⟨b,B,h2,by rw[←hM' h1];exact hm⟩
 have hX: ∀g,Xs A M' h' g→Xs A M h g:=fun g hx=>hx.elim .inl (fun hl=> .inr (hlive g hl))
 refine⟨M', ?_,⟨⟨by simp[M',hh.len],R.hr.alt, ?_, ?_,R.hr.glob.avoid fun g _ hx=>hX g hx⟩, ?_,R.defers⟩,hlive⟩
 ·simp only[M',←aQQ,hσ]
  apply aQ9
  intro i
  rw[aQL,aRz]
  rcases aQU i N with hi|hi
  ·simp only[aRG hi,aQA,hi,if_true]
   rw[aQv (aQ4 hi hN)];rfl
  have: ¬i<N:=by omega
  simp[this]
 ·intro j B' hj
  obtain⟨b,B,h1,h2,h3,h4,h5⟩:=hh.get hj
  refine⟨aQx.1 h5, ?_⟩
  have hlen:B.cells.length=B'.cells.length:=by rw[V.les_length h4,V.rns_length]
  rcases(R.hr.blk b B h2).2 with⟨hn,hc0⟩|⟨g,cs,hg,hA,hw,hle,hcs⟩
  ·refine .inl ⟨by rw[hM' h1];exact hn,aQy (by rw[←hlen,hc0];rfl)⟩
  refine .inr ⟨g,cs,by rw[hM' h1];exact hg,hA,by rw[←h3,←hlen];exact hw,by rw[←hlen];exact hle, ?_⟩
  rw[←hlen]
  exact(VCells.rn_from hfrom _ _ (V.les_sound (fun _ hb=>by cases hb) _ _ _ h4 hcs)).avoid (fun g _ hx=>hX g hx)
 ·intro i j B C g hi hj mi mj
  obtain⟨b,B1,h1,h2,_⟩:=hh.get hi
  obtain⟨c,C1,k1,k2,_⟩:=hh.get hj
  have:=R.hr.inj b c B1 C1 g h2 k2 (by rw[←hM' h1];exact mi) (by rw[←hM' k1];exact mj)
  subst this
  exact aEX (aF7 hnd) hi hj h1 k1
 exact aC9 R.sr (fun t y hy=>by
  obtain⟨x,hx,hl⟩:=hf.get hy
  exact⟨x,hx,fun v hv=>(VR.rn_from hfrom _ _ (V.le_sound (fun _ hb=>by cases hb) _ _ _ hl hv)).avoid (fun g _ hx=>hX g hx)⟩)
def HLv (vn:Nat→Bool):Hp→Hp→Prop
 | [],[]=>True
 |none::h,none::h'=>HLv vn h h'
 |some B::h,some B'::h'=>(B.e=B'.e∧V.les vn B.cells B'.cells∧B'.cells.all V.one=true)∧HLv vn h h'
 |_,_=>False
theorem HLv.nil {vn:Nat→Bool}:HLv vn [] []:=trivial
theorem HLv.dead {vn:Nat→Bool}{h h':Hp}(k:HLv vn h h'):HLv vn (none::h) (none::h'):=k
theorem HLv.live {vn:Nat→Bool}{h h':Hp}{e:TypeId}{cs cs':List V}(hc:V.les vn cs cs')(ho:cs'.all V.one=true)(k:HLv vn h h'):HLv vn (some ⟨e,cs⟩::h) (some ⟨e,cs'⟩::h'):=⟨⟨rfl,hc,ho⟩,k⟩
theorem HLv.get {vn:Nat→Bool}: ∀{h h':Hp},HLv vn h h'→ ∀{j:Nat}{B':Blk},h'[j]? =some (some B')→ ∃B,h[j]? =some (some B)∧B.e=B'.e∧V.les vn B.cells B'.cells∧B'.cells.all V.one=true
 | [],[],_,j,B',hj=>by simp at hj
 |none::h,none::h',hh,j,B',hj=>by
  cases j with
  |zero=>simp at hj
  |succ j=>simp only[aQw]at hj ⊢; exact HLv.get (h:=h) hh hj
 |some B::h,some C::h',hh,j,B',hj=>by
  cases j with
  |zero=>
   simp only[aQF,aQu]at hj
   subst hj
   exact⟨B,rfl,hh.1.1,hh.1.2.1,hh.1.2.2⟩
  |succ j=>simp only[aQw]at hj ⊢; exact HLv.get (h:=h) hh.2 hj
 | [],_::_,hh,_,_,_=>hh.elim
 |none::_,[],hh,_,_,_=>hh.elim
 |some _::_,[],hh,_,_,_=>hh.elim
 |none::_,some _::_,hh,_,_,_=>hh.elim
 |some _::_,none::_,hh,_,_,_=>hh.elim
theorem HLv.len {vn:Nat→Bool}: ∀{h h':Hp},HLv vn h h'→h.length=h'.length
 | [],[],_=>rfl
 |none::h,none::h',hh=>by simp[HLv.len (h:=h) hh]
 |some B::h,some C::h',hh=>by simp[HLv.len (h:=h) hh.2]
 | [],_::_,hh=>hh.elim
 |none::_,[],hh=>hh.elim
 |some _::_,[],hh=>hh.elim
 |none::_,some _::_,hh=>hh.elim
 |some _::_,none::_,hh=>hh.elim
theorem Ghost.virt {N n:Nat}{fr fr':List (Nat×V)}{h h1:Hp}(e:TypeId)(hf:FLe (fun b=>aRs b h.length) id fr fr')(hh:HLv (fun b=>aRs b h.length) h h1)
  :Ghost N (aE n fr) h (aE n fr') (h1++[some ⟨e,[]⟩]):=by
 intro A M a w hN R
 have hM:M.length=h.length:=R.hr.len
 have G:=Grow.virt R.hr e
 have hvn: ∀b,aRs b h.length=true→(M++[none])[b]? =some none:=fun b hb=>by
  have:=aQO hb
  subst this
  rw[←hM];simp
 have hlen:h1.length=h.length:=hh.len.symm
 have hcase: ∀{b:Nat}{B:Blk},(h1++[some ⟨e,[]⟩])[b]? =some (some B)→ ∃C,(h++[some ⟨e,[]⟩])[b]? =some (some C)∧C.e=B.e∧V.les (fun b=>aRs b h.length) C.cells B.cells∧B.cells.all V.one=true:=by
  intro b B hb
  rcases dV hb with hb|⟨hbl,hB⟩
  ·obtain⟨C,c1,c2,c3,c4⟩:=hh.get hb
   exact⟨C,jQ c1,c2,c3,c4⟩
  injection hB with hB
  subst hB
  exact⟨⟨e,[]⟩,by rw[hbl,hlen];simp,rfl,V.les_refl _ _,rfl⟩
 have hlive': ∀g,cX (M++[none]) (h1++[some ⟨e,[]⟩]) g→cX (M++[none]) (h++[some ⟨e,[]⟩]) g:=by
  rintro g ⟨b,B,hb,hm⟩
  obtain⟨C,c1,_⟩:=hcase hb
  exact⟨b,C,c1,hm⟩
 have hlive: ∀g,cX (M++[none]) (h1++[some ⟨e,[]⟩]) g→cX M h g:=by
  rintro g hl
  obtain⟨b,B,hb,hm⟩:=hlive' g hl
  rcases dV hm with hm'|⟨_,hm'⟩
  ·rcases dV hb with hb'|⟨rfl,_⟩
   ·exact⟨b,B,hb',hm'⟩
   have:=(aQr.1 hm').1;omega
  cases hm'
 refine⟨M++[none],by rw[aQP hN],⟨⟨by simp[hM,hlen],R.hr.alt, ?_, ?_,R.hr.glob.avoid fun g _ hx=>hx.elim .inl (fun hl=> .inr (hlive g hl))⟩, ?_,R.defers⟩,hlive⟩
 ·intro b B hb
  obtain⟨C,c1,c2,c3,c4⟩:=hcase hb
  refine⟨aQx.1 c4, ?_⟩
  have hl:=V.les_length c3
  rcases(G.hr.blk b C c1).2 with⟨hn,hc0⟩|⟨g,cs,hg,hA,hw,hle,hcs⟩
  ·exact .inl ⟨hn,aQy (by rw[←hl,hc0];rfl)⟩
  refine .inr ⟨g,cs,hg,hA,by rw[←c2,←hl];exact hw,by rw[←hl];exact hle, ?_⟩
  rw[←hl]
  exact(V.les_sound hvn _ _ _ c3 hcs).avoid (fun g _ hx=>hx.elim .inl (fun hl=> .inr (hlive' g hl)))
 ·intro b b' B B' g hb hb' hm hm'
  obtain⟨C,c1,_⟩:=hcase hb
  obtain⟨C',c1',_⟩:=hcase hb'
  exact G.hr.inj b b' C C' g c1 c1' hm hm'
 exact aC9 R.sr (fun t y hy=>by
  obtain⟨x,hx,hl⟩:=hf.get hy
  exact⟨x,hx,fun v hv=>(V.le_sound hvn _ _ _ hl (G.keep hv)).avoid (fun g _ hx=>hx.elim .inl (fun hl=> .inr (hlive' g hl)))⟩)
theorem Ghost.trans {N:Nat}{s s1 s2:List V}{h h1 h2:Hp}(a:Ghost N s h s1 h1)(b:Ghost N s1 h1 s2 h2):Ghost N s h s2 h2:=by
 intro A M ac w hN R
 obtain⟨M1,e1,R1,l1⟩:=a A M ac w hN R
 have hN1:N≤M1.length:=by
  have:=congrArg aRX e1
  simp only[aQK]at this;omega
 obtain⟨M2,e2,R2,l2⟩:=b A M1 ac w hN1 R1
 exact⟨M2,e2.trans e1,R2,fun g hg=>l1 g (l2 g hg)⟩
abbrev eI (k:IntKind)(x:Int):V:= .sc (.int k x)
abbrev eB (x:Bool):V:= .sc (.bool x)
abbrev eS (x:ByteArray):V:= .sc (.string x)
abbrev eL {α:Type}(K:Nat)(E:α→V)(l:List α):V:= .row none K (l.map E)
def bS {α:Type}(l:List α)(i:Int):Option α:=if 0≤i then l[i.toNat]? else none
def sub {α:Type}(l:List α)(a b:Int):Option (List α):=if 0≤a∧a≤b∧b≤l.length then some ((l.take b.toNat).drop a.toNat)else none
def eM {α:Type}(by_:Nat)(l m:List α):Option (List α):=if(l.length+m.length)*by_≤lH then some (l++m)else none
def mks {α:Type}(by_:Nat)(z:α)(n:Int):Option (List α):=if 0≤n∧n.toNat*by_≤lH then some (aQ2 n.toNat z)else none
def kL {α:Type}(l m:List α):List α:=m.take l.length++l.drop m.length
def quo (k:IntKind)(a b:Int):Option Int:=if b=0 then none else some (k.wrap (a.tdiv b))
def rem (a b:Int):Option Int:=if b=0 then none else some (a.tmod b)
def shl (k:IntKind)(a b:Int):Option Int:=if b<0 then none else some (k.wrap (a*2^(min b.toNat k.bits)))
def shr (k:IntKind)(a b:Int):Option Int:=if b<0 then none else some (a.fdiv (2^(min b.toNat k.bits)))
inductive LR (σ ρ:Type) where
 |brk (s:σ)
 |ret (r:ρ)
theorem aA {α β:Type}{o:Option α}{k:α→Option β}{r:β}(h:o.bind k=some r): ∃v,o=some v∧k v=some r:=by
 cases o with
 |none=>cases h
 |some v=>exact⟨v,rfl,h⟩
theorem cU {α:Type}{c:Bool}{a b:Option α}{r:α}(h:(if c=true then a else b)=some r)(hc:c=true):a=some r:=by subst hc;exact h
theorem cQ {α:Type}{c:Bool}{a b:Option α}{r:α}(h:(if c=true then a else b)=some r)(hc:c=false):b=some r:=by subst hc;exact h
section
variable {P:Program}{O:tP}{ops:Array Oper}{l:List Oper}{n:Nat}{fr:List (Nat×V)}{h h':Hp}{K:List V→Hp→Prop}{op:Op}{ty:TypeId}{pos:String}{aft:Array Edge}{t:Nat}{v:V}{gd:Option (Nat×Bool)}
variable {o:Oper}
theorem aFS {j u:Nat}{want c:Bool}(hg:o.guard=some (j,want))(hj:(ops[j]?).bind (·.dst)=some u)(hl:bG n fr (.tmp u)=some (.sc (.bool c))):j6 ops o (aE n fr)=some (c == want):=by
 have:=cG hl
 simp only[ev]at this
 unfold j6
 rw[hg]
 simp only[hj,this,yV]
 cases c<;>cases want<;>rfl
variable {j u:Nat}{want c:Bool}{dd:Option Tmp}
theorem sv (hd:bC P O ⟨dd,op,ty,pos,aft,none⟩ (aE n fr) h=some (v,h')):b4 P O ops ⟨dd,op,ty,pos,aft,none⟩ (aE n fr) h=some (v,h'):=by simp only[b4,j6];exact hd
theorem svG (hj:(ops[j]?).bind (·.dst)=some u)(hl:bG n fr (.tmp u)=some (.sc (.bool c)))(hc:c=want)(hd:bC P O ⟨dd,op,ty,pos,aft,some (j,want)⟩ (aE n fr) h=some (v,h')):b4 P O ops ⟨dd,op,ty,pos,aft,some (j,want)⟩ (aE n fr) h=some (v,h'):=by
 subst hc
 simp only[b4,aFS (o:=⟨dd,op,ty,pos,aft,some (j,c)⟩) rfl hj hl,beq_self_eq_true]
 exact hd
theorem svX (hj:(ops[j]?).bind (·.dst)=some u)(hl:bG n fr (.tmp u)=some (.sc (.bool c)))(hc:c= !want):b4 P O ops ⟨dd,op,ty,pos,aft,some (j,want)⟩ (aE n fr) h=some (.sc undef,h):=by
 subst hc
 simp only[b4,aFS (o:=⟨dd,op,ty,pos,aft,some (j,want)⟩) rfl hj hl]
 cases want<;>rfl
theorem svU (hj:(ops[j]?).bind (·.dst)=some u)(hl:bG n fr (.tmp u)=some (.sc undef)):b4 P O ops ⟨dd,op,ty,pos,aft,some (j,want)⟩ (aE n fr) h=some (.sc undef,h):=by
 have:=cG hl
 simp only[ev]at this
 have hw:j6 ops ⟨dd,op,ty,pos,aft,some (j,want)⟩ (aE n fr)=some false:=by
  unfold j6
  simp only[hj,this]
  cases want<;>rfl
 simp only[b4,hw]
def OpsW (P:Program)(N:Nat)(ops:Array Oper)(l:List Oper)(s:List V)(h:Hp)(K:List V→Hp→Prop):Prop:=
 ∀(k:Nat),(∀j,l[j]? =ops[k+j]?)→ ∀(A:Nat→Prop)(M0 M:List (Option Nat))(h0:Hp)(w0:World)(a:Act)(w:World)(Q:Exit→Act→World→Prop),h0.length=N→M0.length=N→Grow A M0 h0 w0 M h w→Rel A M s h a w→
  (∀s' h' M' a' w',K s' h'→Grow A M0 h0 w0 M' h' w'→Rel A M' s' h' a' w'→Q .normal a' w')→wpOps P ops Q (List.range' k l.length) a w
variable {N:Nat}{s s':List V}
theorem OpsW.nil (hk:K s h):OpsW P N ops [] s h K:=fun k _ A M0 M h0 w0 a w Q _ _ G R hQ=>by
 simp only[aRr,aRS,wpOps]
 exact hQ s h M a w hk G R
theorem OpsW.cons (hO:uU P O)(hs:b4 P O ops o s h=some (v,h'))(hk:OpsW P N ops l (iG s o.dst v) h' K):OpsW P N ops (o::l) s h K:=fun k hl A M0 M h0 w0 a w Q hN hM G R hQ=>by
 have h0':ops[k]? =some o:=by simpa using (hl 0).symm
 simp only[aQS,aRC]
 rw[wpOps_cons]
 refine tK hO R h0' (s':=iG s o.dst v) (h':=h') (by rw[b6,hs];rfl) fun a' w' M' G' R'=> ?_
 exact hk (k+1) (fun j=>by have:=hl (j+1);simpa[aRL,aRP 1 j]using this) A M0 M' h0 w0 a' w' Q hN hM (G.trans G') R' hQ
theorem OpsW.ghost (hg:Ghost N s h s' h')(hk:OpsW P N ops l s' h' K):OpsW P N ops l s h K:=fun k hl A M0 M h0 w0 a w Q hN hM G R hQ=>by
 obtain⟨t,ht⟩:=G.pre
 have hle:N≤M.length:=by rw[←ht];simp[hM]
 obtain⟨M',h1,h2,h3⟩:=hg A M a w hle R
 refine hk k hl A M0 M' h0 w0 a w Q hN hM ⟨?_,h2.hr,G.ext,fun g hg hl=>G.live g hg (h3 g hl)⟩ h2 hQ
 have:M0=M'.take N:=by rw[h1,←ht,←hM];simp
 rw[this]
 exact aRB _ _
theorem aGC :uU P (fun _ _ _=>none):=fun _ _ _ _ _ hh=>by cases hh
abbrev O0 :tP:=fun _ _ _=>none
theorem wS (hs:b4 P O0 ops ⟨some t,op,ty,pos,aft,gd⟩ (aE n fr) h=some (v,h'))(k:OpsW P N ops l (aE n ((t,v)::fr)) h' K):OpsW P N ops (⟨some t,op,ty,pos,aft,gd⟩::l) (aE n fr) h K:=
 OpsW.cons aGC hs (by dsimp only;rw[aDI];exact k)
theorem wN (hs:b4 P O0 ops ⟨none,op,ty,pos,aft,gd⟩ (aE n fr) h=some (v,h'))(k:OpsW P N ops l (aE n fr) h' K):OpsW P N ops (⟨none,op,ty,pos,aft,gd⟩::l) (aE n fr) h K:=
 OpsW.cons aGC hs k
open Classical in
noncomputable def aBx (f:FuncId)(h:Hp)(xs:List V)(r:V)(h':Hp):tP:=fun k h1 xs1=>if k=f∧h1=h∧xs1=xs then some (r,h')else none
theorem aE8 {f:FuncId}{xs:List V}{r:V}(hc:Fn P f h xs r h'):uU P (aBx f h xs r h'):=fun k h1 xs1 r1 h2 hh=>by
 unfold aBx at hh
 split at hh
 ·rename_i he
  obtain⟨rfl,rfl,rfl⟩:=he
  simp only[aQu,aQG]at hh
  obtain⟨rfl,rfl⟩:=hh
  exact hc
 cases hh
theorem r8 {f:FuncId}{xs:List V}{r:V}:aBx f h xs r h' f h xs=some (r,h'):=by simp[aBx]
theorem AB.rw {Q:Ex→List V→Hp→Prop}{id:Nat}(hr:OpsW P N l.toArray l s h (Q .normal)):AB P N (.region id l.toArray false) Q s h:=by
 intro A M0 M h0 w0 a w hN hM G R
 refine wp_region ?_
 have:=hr 0 (fun j=>by simp) A M0 M h0 w0 a w (fun e a' w'=> ∃x s' h' M',e=Ex.toExit x∧Q x s' h'∧Grow A M0 h0 w0 M' h' w'∧Rel A M' s' h' a' w') hN hM G R (fun s' h' M' a' w' hk G' R'=>⟨.normal,s',h',M',rfl,hk,G',R'⟩)
 rw[List.range_eq_range']
 simpa using this
variable {d:Option Tmp}{g:Option (Nat×Bool)}{x y z:Operand}{a b:V}
theorem kK (hx:bG n fr x=some a):bC P O ⟨d,.move x,ty,pos,aft,g⟩ (aE n fr) h=some (a,h):=by simp[bC,cG hx]
theorem qG (hx:bG n fr x=some a):bC P O ⟨d,.assign x,ty,pos,aft,g⟩ (aE n fr) h=some (a,h):=by simp[bC,cG hx]
theorem aNg {c:Bool}(hz:bG n fr z=some (.sc (.bool c)))(hc:c=true)(hx:bG n fr x=some a):bC P O ⟨d,.pick z x y,ty,pos,aft,g⟩ (aE n fr) h=some (a,h):=by subst hc;simp[bC,cG hx,cG hz]
theorem aMF {c:Bool}(hz:bG n fr z=some (.sc (.bool c)))(hc:c=false)(hy:bG n fr y=some a):bC P O ⟨d,.pick z x y,ty,pos,aft,g⟩ (aE n fr) h=some (a,h):=by subst hc;simp[bC,cG hy,cG hz]
theorem xT {bo:BinOp}{t u:TypeId}(hx:bG n fr x=some a)(hy:bG n fr y=some b)(hv:dW P bo t x y a b=some v):bC P O ⟨d,.binOp bo t x y u,ty,pos,aft,g⟩ (aE n fr) h=some (v,h):=by simp[bC,cG hx,cG hy,hv]
theorem aHB {uo:UnOp}{t:TypeId}(hx:bG n fr x=some a)(hv:unV P uo a=some v):bC P O ⟨d,.unOp uo t x,ty,pos,aft,g⟩ (aE n fr) h=some (v,h):=by simp[bC,cG hx,hv]
theorem f9 {t u:TypeId}(hx:bG n fr x=some a)(hv:vN P h t u a=some v):bC P O ⟨d,.convert t u x,ty,pos,aft,g⟩ (aE n fr) h=some (v,h):=by simp[bC,cG hx,hv]
theorem aON {e:TypeId}{i:Nat}(hx:bG n fr x=some a)(ho:a.flatOk=true)(hl:h.length=i)(hh:h++[some ⟨e,a.cells⟩]=h'):bC P O ⟨d,.box e x,ty,pos,aft,g⟩ (aE n fr) h=some (.ptr i 0,h'):=by
 subst hl hh;simp[bC,cG hx,aGM,ho]
theorem iL {e:TypeId}{i:Nat}{ti:TI}(ht:aN P e=some ti)(ho:(ti.zero.cells.toList.map dU).all V.one=true)(hl:h.length=i)(hh:h++[some ⟨e,ti.zero.cells.toList.map dU⟩]=h'):bC P O ⟨d,.alloc e,ty,pos,aft,g⟩ (aE n fr) h=some (.ptr i 0,h'):=by
 subst hl hh
 simp only[bC,aCn,ht]
 rw[if_pos ho]
theorem bO {t:TypeId}(hx:bG n fr x=some a)(hv:dZ P t h a=some v):bC P O ⟨d,.load t x,ty,pos,aft,g⟩ (aE n fr) h=some (v,h):=by simp[bC,cG hx,hv]
theorem aY {t:TypeId}(hx:bG n fr x=some a)(hy:bG n fr y=some b)(hv:qT P t h a b=some h'):bC P O ⟨d,.store t x y,ty,pos,aft,g⟩ (aE n fr) h=some (.sc undef,h'):=by simp[bC,cG hx,cG hy,hv]
theorem aOv {i o:Nat}(hx:bG n fr x=some (.ptr i o)):bC P O ⟨d,.nilCheck x,ty,pos,aft,g⟩ (aE n fr) h=some (.ptr i o,h):=by simp[bC,cG hx,nU]
theorem aOu {es:List V}{i o:Nat}(hx:bG n fr x=some (.eptr es i o)):bC P O ⟨d,.nilCheck x,ty,pos,aft,g⟩ (aE n fr) h=some (.eptr es i o,h):=by simp[bC,cG hx,nU]
theorem lV {t:TypeId}{f:Nat}(hx:bG n fr x=some a)(hv:aU P t a f=some v):bC P O ⟨d,.fieldAddr t x f,ty,pos,aft,g⟩ (aE n fr) h=some (v,h):=by simp[bC,cG hx,hv]
theorem aOB {t:TypeId}{f:Nat}(hx:bG n fr x=some a)(hv:aAs P t a f=some v):bC P O ⟨d,.field t x f,ty,pos,aft,g⟩ (aE n fr) h=some (v,h):=by simp[bC,cG hx,hv]
theorem yZ {t:TypeId}(hx:bG n fr x=some a)(hy:bG n fr y=some b)(hv:gG P t a b=some v):bC P O ⟨d,.indexAddr t x y,ty,pos,aft,g⟩ (aE n fr) h=some (v,h):=by simp[bC,cG hx,cG hy,hv]
theorem aKU {t:TypeId}(hx:bG n fr x=some a)(hy:bG n fr y=some b)(hv:vF P t a b=some v):bC P O ⟨d,.index t x y,ty,pos,aft,g⟩ (aE n fr) h=some (v,h):=by simp[bC,cG hx,cG hy,hv]
theorem aC5 {i:Nat}{vs:List V}(hx:bG n fr x=some (.tup vs))(hv:vs[i]? =some v):bC P O ⟨d,.extract x i,ty,pos,aft,g⟩ (aE n fr) h=some (v,h):=by simp[bC,cG hx,aBy,hv]
theorem aLM {t:TypeId}(hx:bG n fr x=some a)(hy:bG n fr y=some b)(hv:zX P t a b h=some (v,h')):bC P O ⟨d,.makeSlice t x y,ty,pos,aft,g⟩ (aE n fr) h=some (v,h'):=by simp[bC,cG hx,cG hy,hv]
def p9 (n:Nat)(fr:List (Nat×V)):List Operand→Option (List V)
 | []=>some []
 |o::os=>match bG n fr o,p9 n fr os with
  |some x,some xs=>some (x::xs)
  |_,_=>none
theorem aAe : ∀{os:List Operand}{xs:List V},p9 n fr os=some xs→wO (aE n fr) os=some xs
 | [],xs,hh=>by simp only[p9,aQu]at hh;subst hh;rfl
 |o::os,xs,hh=>by
  simp only[p9]at hh
  split at hh
  ·rename_i x ys h1 h2
   injection hh with hh
   subst hh
   simp only[wO,aQV,cG h1,aRc,aRb,aRu]
   have:=aAe h2
   unfold wO at this
   rw[this];rfl
  cases hh
def aBd (n:Nat)(fr:List (Nat×V)):List (Nat×Operand)→Option (List (Nat×V))
 | []=>some []
 |p::ps=>match bG n fr p.2,aBd n fr ps with
  |some x,some xs=>some ((p.1,x)::xs)
  |_,_=>none
theorem aCl : ∀{ps:List (Nat×Operand)}{xs:List (Nat×V)},aBd n fr ps=some xs→tY (aE n fr) ps=some xs
 | [],xs,hh=>by simp only[aBd,aQu]at hh;subst hh;rfl
 |p::ps,xs,hh=>by
  simp only[aBd]at hh
  split at hh
  ·rename_i x ys h1 h2
   injection hh with hh
   subst hh
   simp only[tY,aQV,cG h1,aRc,aRb,aRu,aQA]
   have:=aCl h2
   unfold tY at this
   rw[this];rfl
  cases hh
def aKE (n:Nat)(fr:List (Nat×V)):Operand→Option V
 | .const (.slice none 0 0)=>some (.row none 1 [])
 |o=>(bG n fr o).map V.softA
theorem aME {o:Operand}{x:V}(hh:aKE n fr o=some x):evB (aE n fr) o=some x:=by
 unfold aKE at hh
 split at hh
 ·exact hh
 rename_i hne
 simp only[aQE]at hh
 obtain⟨z,hz,rfl⟩:=hh
 have h2:=cG hz
 unfold evB
 split
 ·exact(hne rfl).elim
 rw[h2];rfl
def tH (n:Nat)(fr:List (Nat×V)):List (Nat×Operand)→Option (List (Nat×V))
 | []=>some []
 |p::ps=>match aKE n fr p.2,tH n fr ps with
  |some x,some xs=>some ((p.1,x)::xs)
  |_,_=>none
theorem aB4 : ∀{ps:List (Nat×Operand)}{xs:List (Nat×V)},tH n fr ps=some xs→vU (aE n fr) ps=some xs
 | [],xs,hh=>by simp only[tH,aQu]at hh;subst hh;rfl
 |p::ps,xs,hh=>by
  simp only[tH]at hh
  split at hh
  ·rename_i x ys h1 h2
   injection hh with hh
   subst hh
   simp only[vU,aQV,aME h1,aRc,aRb,aRu,aQA]
   have:=aB4 h2
   unfold vU at this
   rw[this];rfl
  cases hh
theorem cH {t:TypeId}{ps:List (Nat×Operand)}{xs:List (Nat×V)}(hp:aBd n fr ps=some xs)(hv:sM P t xs=some v):bC P O ⟨d,.build t ps.toArray,ty,pos,aft,g⟩ (aE n fr) h=some (v,h):=by
 simp[bC,aCl hp,hv]
theorem qM {t:TypeId}{len:Nat}{ps:List (Nat×Operand)}{xs:List (Nat×V)}(hp:tH n fr ps=some xs)(hv:iU P t len xs h=some (v,h')):bC P O ⟨d,.buildSlice t len ps.toArray,ty,pos,aft,g⟩ (aE n fr) h=some (v,h'):=by
 simp[bC,aB4 hp,hv]
def aCN (n:Nat)(fr:List (Nat×V)):Option Operand→Option (Option V)
 |none=>some none
 |some o=>match bG n fr o with
  |some x=>some (some x)
  |none=>none
theorem aDU {o:Option Operand}{x:Option V}(hh:aCN n fr o=some x):pZ (aE n fr) o=some x:=by
 cases o with
 |none=>exact hh
 |some o=>
  simp only[aCN]at hh
  split at hh
  ·rename_i y hy;injection hh with hh;subst hh;simp[pZ,cG hy]
  cases hh
theorem b7 {t:TypeId}{lo hi:Option Operand}{vl vh:Option V}(hx:bG n fr x=some a)(h1:aCN n fr lo=some vl)(h2:aCN n fr hi=some vh)(hv:jA P t h a vl vh=some v):bC P O ⟨d,.slice t x lo hi none,ty,pos,aft,g⟩ (aE n fr) h=some (v,h):=by
 simp[bC,cG hx,aDU h1,aDU h2,hv]
theorem aLK {t:TypeId}{lo:Option Operand}{hi mx:Operand}{vl:Option V}{vh vm:V}(hx:bG n fr x=some a)(h1:aCN n fr lo=some vl)(h2:bG n fr hi=some vh)(h3:bG n fr mx=some vm)(hv:xJ P t a vl vh vm=some v):bC P O ⟨d,.slice t x lo (some hi) (some mx),ty,pos,aft,g⟩ (aE n fr) h=some (v,h):=by
 simp[bC,cG hx,aDU h1,cG h2,cG h3,hv]
variable {ws:List Operand}{ts:List TypeId}{xs:List V}
theorem aIU {t:TypeId}(hx:bG n fr x=some a)(hv:aAT P t a=some v):bC P O ⟨d,.call ⟨.builtin .len,#[x],#[t]⟩,ty,pos,aft,g⟩ (aE n fr) h=some (v,h):=by
 have:wO (aE n fr) [x]=some [a]:=aAe (by simp[p9,hx])
 simp[bC,tA,this,hv]
theorem wR {t t':TypeId}(hx:bG n fr x=some a)(hy:bG n fr y=some b)(hv:iM P t t' a b h=some (v,h')):bC P O ⟨d,.call ⟨.builtin .append,#[x,y],#[t,t']⟩,ty,pos,aft,g⟩ (aE n fr) h=some (v,h'):=by
 have:wO (aE n fr) [x,y]=some [a,b]:=aAe (by simp[p9,hx,hy])
 simp[bC,tA,this,hv]
theorem aA9 {t t':TypeId}(hx:bG n fr x=some a)(hy:bG n fr y=some b)(hv:aCW P t a b h=some (v,h')):bC P O ⟨d,.call ⟨.builtin .copy,#[x,y],#[t,t']⟩,ty,pos,aft,g⟩ (aE n fr) h=some (v,h'):=by
 have:wO (aE n fr) [x,y]=some [a,b]:=aAe (by simp[p9,hx,hy])
 simp[bC,tA,this,hv]
theorem m9 {f:FuncId}{ts:Array TypeId}(hx:p9 n fr ws=some xs)(hv:O f h xs=some (v,h')):bC P O ⟨d,.call ⟨.value (.func f),ws.toArray,ts⟩,ty,pos,aft,g⟩ (aE n fr) h=some (v,h'):=by
 simp[bC,tA,aAe hx,hv]
theorem wC {N:Nat}{f:FuncId}{ts:Array TypeId}{K:List V→Hp→Prop}{l:List Oper}(hx:p9 n fr ws=some xs)(hc:Fn P f h xs v h')(k:OpsW P N ops l (aE n ((t,v)::fr)) h' K):OpsW P N ops (⟨some t,.call ⟨.value (.func f),ws.toArray,ts⟩,ty,pos,aft,none⟩::l) (aE n fr) h K:=
 OpsW.cons (aE8 hc) (sv (m9 hx r8)) (by dsimp only;rw[aDI];exact k)
theorem wCG {N:Nat}{f:FuncId}{ts:Array TypeId}{K:List V→Hp→Prop}{l:List Oper}{j u:Nat}{want c:Bool}(hj:(ops[j]?).bind (·.dst)=some u)(hl:bG n fr (.tmp u)=some (.sc (.bool c)))(hcw:c=want)(hx:p9 n fr ws=some xs)(hc:Fn P f h xs v h')(k:OpsW P N ops l (aE n ((t,v)::fr)) h' K):OpsW P N ops (⟨some t,.call ⟨.value (.func f),ws.toArray,ts⟩,ty,pos,aft,some (j,want)⟩::l) (aE n fr) h K:=
 OpsW.cons (aE8 hc) (svG hj hl hcw (m9 hx r8)) (by dsimp only;rw[aDI];exact k)
end
section
variable {P:Program}{h h':Hp}{t e:TypeId}{ti:TI}{B:Blk}{i off:Nat}{v x:V}{cs:List V}
theorem l5 (ht:aN P t=some ti)(hd:b8 ti.desc=false)(hc:cs.head? =some v):fQ P t cs=some v:=by simp[fQ,ht,hd,hc]
theorem zN (ht:aN P t=some ti)(hd:b8 ti.desc=true){ds:List V}(hl:ti.size≤cs.length)(hc:cs.take ti.size=ds):fQ P t cs=some (.agg ds):=by simp[fQ,ht,hd,hl,hc]
theorem ldP (hb:h[i]? =some (some ⟨e,cs⟩))(hp:fQ P t (cs.drop off)=some v):dZ P t h (.ptr i off)=some v:=by simp[dZ,hb,hp]
theorem ldE {α:Type}{E:α→V}{l:List α}{y:α}(hi:l[i]? =some y)(hp:fQ P t ((E y).cells.drop off)=some v):dZ P t h (.eptr (l.map E) i off)=some v:=by simp[dZ,hi,hp]
theorem fV (ht:aN P t=some ti)(hb:h[i]? =some (some ⟨e,cs⟩))(h1:x.flatOk=true)(h2:x.cells.length=ti.size)(h3:off+ti.size≤cs.length)(h4:h.set i (some ⟨e,splice cs off x.cells⟩)=h'):qT P t h (.ptr i off) x=some h':=by
 subst h4
 simp only[qT,ht,hb]
 rw[if_pos ⟨h1,h2,h3⟩]
theorem aA6 {fs:Array Field}{sz by_:Nat}{z:Value}{pl:Array (Nat×Nat)}{ps:List (Nat×V)}(ht:aN P t=some ⟨.struct fs,sz,by_,z⟩)(hp:oW P t=some pl)(hf:nE (fun i=>pl[i]?) (z.cells.toList.map dU) ps=some cs):sM P t ps=some (.agg cs):=by
 simp only[sM,ht,hp]
 rw[hf];rfl
theorem lY {m sz by_:Nat}{z:Value}{ps:List (Nat×V)}(ht:aN P t=some ⟨.array m e,sz,by_,z⟩)(he:aN P e=some ti)(hf:nE (fun i=>some (i*ti.size,ti.size)) (z.cells.toList.map dU) ps=some cs):sM P t ps=some (.agg cs):=by
 simp only[sM,ht,he]
 rw[hf];rfl
theorem aNE {sz by_ len:Nat}{z:Value}{ps:List (Nat×V)}{ag:Bool}(ht:aN P t=some ⟨.slice e,sz,by_,z⟩)(he:aN P e=some ti)(h1:len*ti.size≤2^24∧0<len∧0<ti.size)(hag:b8 ti.desc=ag)
  (hf:nE (fun i=>some (i*ti.size,ti.size)) (((Array.range (len*ti.size)).map (ti.zero.cells[· % ti.zero.cells.size]!)).toList.map dU) ps=some cs) (h2:cs.all V.one=true∧cs.length=len*ti.size) (hl:h.length=i) (hh:h++[some ⟨e,cs⟩]=h'):
  iU P t len ps h=some (.sl i 0 len ti.size ag,h'):=by
 subst hl hh hag
 simp only[iU,ht,he]
 rw[if_pos h1]
 simp only[hf]
 rw[if_pos h2]
end
section
variable {P:Program}{h h':Hp}{t e:TypeId}{ti:TI}{i off b:Nat}{v:V}{α:Type}{E:α→V}{l m:List α}{y:α}{k:IntKind}{j:Int}{nl:Option Bool}{sz by_:Nat}{z:Value}{ag:Bool}
theorem i4 (hx:bS l j=some y):0≤j∧j<l.length∧l[j.toNat]? =some y:=by
 unfold bS at hx
 split at hx
 ·have:=(aQr.1 hx).1
  exact⟨by assumption,by omega,hx⟩
 cases hx
theorem iaR (ht:aN P t=some ⟨.slice e,sz,by_,z⟩)(he:aN P e=some ti)(hx:bS l j=some y):gG P t (.row nl ti.size (l.map E)) (.sc (.int k j))=some (.eptr (l.map E) j.toNat 0):=by
 obtain⟨h1,h2,_⟩:=i4 hx
 simp[gG,ht,oF,he,h1,h2]
theorem iaS {q:Nat}(hn:l.length=q)(ht:aN P t=some ⟨.slice e,sz,by_,z⟩)(he:aN P e=some ti)(h1:ti.size=1)(hx:bS l j=some y):gG P t (.sl b 0 q 1 ag) (.sc (.int k j))=some (.ptr b j.toNat):=by
 obtain⟨h2,h3,_⟩:=i4 hx
 subst hn
 simp[gG,ht,oF,he,h1,h2,h3]
theorem ldX (ht:aN P t=some ti)(hd:b8 ti.desc=false)(hb:h[b]? =some (some ⟨e,l.map E⟩))(hx:bS l j=some y):dZ P t h (.ptr b j.toNat)=some (E y):=by
 obtain⟨_,_,h3⟩:=i4 hx
 simp[dZ,hb,fQ,ht,hd,h3]
theorem ldR (hx:bS l j=some y)(hp:fQ P t ((E y).cells.drop off)=some v):dZ P t h (.eptr (l.map E) j.toNat off)=some v:=ldE (i4 hx).2.2 hp
theorem aEg (i:Nat)(hi:i<l.length)(y:α):splice (l.map E) i [E y]=(l.set i y).map E:=by
 rw[List.map_set]
 unfold splice
 apply aQ9
 intro m
 rw[List.getElem?_set]
 by_cases hm:i=m
 ·subst hm
  simp[List.getElem?_append,hi,aQ8 (Nat.le_of_lt hi)]
 rcases aQU m i with h1|h1
 ·rw[aQs (by simp;omega),aQs (by simp;omega)]
  simp[hm,h1]
 rw[aQz (by simp;omega)]
 simp only[aQ3,aQK,aQM,aQS,aRr,aRg,hm,if_false]
 congr 1;omega
theorem aPN {w:α}(ht:aN P t=some ti)(hs:ti.size=1)(hb:h[b]? =some (some ⟨e,l.map E⟩))(hx:bS l j=some w)(ho:(E y).one=true)(hc:(E y).cells=[E y])(hh:h.set b (some ⟨e,(l.set j.toNat y).map E⟩)=h'):qT P t h (.ptr b j.toNat) (E y)=some h':=by
 obtain⟨_,h2,h3⟩:=i4 hx
 have h4:=(aQr.1 h3).1
 subst hh
 simp only[qT,ht,hb]
 rw[if_pos ⟨by simp[V.flatOk,hc,ho],by simp[hc,hs],by rw[hs];simp;omega⟩,hc,aEg _ h4]
theorem aCv : ∀ns:List Int,qD (ns.map (eI .u8))=some ns
 | []=>rfl
 |n::ns=>by simp only[aQ0,eI,qD];rw[show qD (List.map (fun x=>V.sc (Value.int IntKind.u8 x)) ns)=some ns from aCv ns];rfl
theorem aGG {a b':TypeId}{ns:List Int}{x:V}{sz1 by1 sz2 by2 sz3 by3 q:Nat}{z1 z2 z3:Value}(ha:aN P a=some ⟨.slice e,sz1,by1,z1⟩)(hb:aN P b'=some ⟨.string,sz2,by2,z2⟩)(he:aN P e=some ⟨.int .u8,sz3,by3,z3⟩)(hs:e9 h 1 x=some (ns.map (eI .u8),q)):vN P h a b' x=some (.sc (.string (nP ns))):=by
 simp only[vN,oE,ha,hb,he,hs,aCv,aQA]
theorem aPt (ht:aN P t=some ⟨.slice e,sz,by_,z⟩){k:Nat}:aAT P t (.row nl k (l.map E))=some (.sc (.int .i64 l.length)):=by simp[aAT,ht]
theorem aQi (ht:aN P t=some ⟨.slice e,sz,by_,z⟩){k m:Nat}:aAT P t (.sl b off m k ag)=some (.sc (.int .i64 m)):=by simp[aAT,ht]
theorem aQk (ht:aN P t=some ⟨.string,sz,by_,z⟩){s:ByteArray}:aAT P t (.sc (.string s))=some (.sc (.int .i64 s.size)):=by simp[aAT,ht]
theorem aPc {q:Nat}(hn:l.length=q)(ht:aN P t=some ⟨.slice e,sz,by_,z⟩)(he:aN P e=some ti)(h1:ti.zero.cells.size=1∧ti.size=1∧1≤ti.bytes)(hb:h[b]? =some (some ⟨e,l.map E⟩)){s:V}(hs:e9 h 1 s=some (m.map E,m.length))
  {r:List α} (ha:eM ti.bytes l m=some r) (hl:h.length=i) (hh:h.set b none++[some ⟨e,r.map E⟩]=h'):iM P t t (.sl b 0 q 1 ag) s h=some (.sl i 0 r.length 1 ag,h'):=by
 obtain⟨h2,h3,h4⟩:=h1
 subst hn
 unfold eM at ha
 split at ha
 ·rename_i hlim
  injection ha with ha
  subst ha hl hh
  have hx:e9 h ti.size s=some (m.map E,m.length):=by rw[h3];exact hs
  simp only[iM,ne_eq,not_true,if_false,ht,he]
  rw[if_pos ⟨by rw[h2,h3],by omega,h4⟩]
  simp only[hx,hb]
  rw[if_pos ⟨h3.symm,trivial,by simp,hlim⟩]
  simp[aQt]
 cases ha
theorem aPy (ht:aN P t=some ⟨.slice e,sz,by_,z⟩)(he:aN P e=some ti)(h1:ti.zero.cells.size=1∧ti.size=1∧1≤ti.bytes){s:V}(hs:e9 h 1 s=some (m.map E,m.length))(hag:b8 ti.desc=ag){kk:Nat}
  {r:List α} (ha:eM ti.bytes [] m=some r) (hl:h.length+1=i) (hh:h++[none]++[some ⟨e,r.map E⟩]=h'):iM P t t (.row (some true) kk []) s h=some (.sl i 0 r.length 1 ag,h'):=by
 obtain⟨h2,h3,h4⟩:=h1
 unfold eM at ha
 split at ha
 ·rename_i hlim
  injection ha with ha
  subst ha hl hh hag
  have hx:e9 h ti.size s=some (m.map E,m.length):=by rw[h3];exact hs
  simp only[iM,ne_eq,not_true,if_false,ht,he]
  rw[if_pos ⟨by rw[h2,h3],by omega,h4⟩]
  simp only[hx]
  rw[if_pos (by simpa using hlim)]
  simp[h3]
 cases ha
theorem aPV (ht:aN P t=some ⟨.slice e,sz,by_,z⟩)(he:aN P e=some ti)(h1:ti.zero.cells.size=1∧ti.size=1∧1≤ti.bytes)(hE: ∀x,(E x).cells=[E x]){s:V}(hs:e9 h 1 s=some (m.map E,m.length))(hm:0<m.length)(hag:b8 ti.desc=ag)
  {r:List α} (ha:eM ti.bytes l m=some r) (hl:h.length=i) (hh:h++[some ⟨e,r.map E⟩]=h'):iM P t t (.row (some false) 1 (l.map E)) s h=some (.sl i 0 r.length 1 ag,h'):=by
 obtain⟨h2,h3,h4⟩:=h1
 have hf:(l.map E).flatMap V.cells=l.map E:=by
  clear ha
  induction l with
  |nil=>rfl
  |cons x l ih=>simp only[aQ0,aQB,hE,ih];rfl
 unfold eM at ha
 split at ha
 ·rename_i hlim
  injection ha with ha
  subst ha hl hh hag
  have hx:e9 h ti.size s=some (m.map E,m.length):=by rw[h3];exact hs
  simp only[iM,ne_eq,not_true,if_false,ht,he]
  rw[if_pos ⟨by rw[h2,h3],by omega,h4⟩]
  simp only[hx]
  rw[if_pos ⟨.inr h3.symm,hm,by simpa using hlim⟩]
  simp[h3,hf]
 cases ha
theorem aA4 (hE: ∀x,(E x).cells=[E x]):e9 h 1 (.row nl 1 (m.map E))=some (m.map E,m.length):=by
 have:(m.map E).flatMap V.cells=m.map E:=by
  induction m with
  |nil=>rfl
  |cons x m ih=>simp only[aQ0,aQB,hE,ih];rfl
 simp only[e9]
 rw[if_pos (.inl trivial),this];simp
theorem aPL {q:Nat}(hn:m.length=q)(hb:h[b]? =some (some ⟨e,m.map E⟩)):e9 h 1 (.sl b 0 q 1 ag)=some (m.map E,m.length):=by
 subst hn
 simp only[e9,hb]
 rw[if_pos ⟨trivial,by simp⟩];simp[aQt]
theorem aPn {kk:Nat}:e9 h 1 (.row nl kk [])=some (([]:List α).map E,([]:List α).length):=by simp[e9]
theorem aEY {q:Nat}{e2:TypeId}(hn:l.length=q)(ht:aN P t=some ⟨.slice e,sz,by_,z⟩)(he:aN P e=some ti)(h1:ti.size=1)(hb:h[b]? =some (some ⟨e2,l.map E⟩)){s:V}(hs:e9 h 1 s=some (m.map E,m.length))(hh:h.set b (some ⟨e2,(kL l m).map E⟩)=h'):
  aCW P t (.sl b 0 q 1 ag) s h=some (.sc (.int .i64 (min m.length l.length:Nat)),h'):=by
 subst hh hn
 simp only[aCW,ht,he,h1,hs,hb]
 rw[if_pos ⟨trivial,by omega,by simp⟩]
 simp only[aQu,aQG,true_and]
 congr 3
 unfold splice kL
 simp only[List.map_append,aQQ,aRp,aRE,aRv,aRe,aRH,aQK,aQM]
 congr 1
 ·rw[Nat.min_comm,←aRF,aQt (i:=m.length) (by simp)]
 rcases aRQ m.length l.length with hle|hle
 ·congr 1;omega
 rw[aQJ (by simp;omega),aQJ (by simp;omega)]
theorem qW (ht:aN P t=some ⟨.slice e,sz,by_,z⟩)(he:aN P e=some ti){lo hi:Option V}{a c:Int}{r:List α}(h1:lZ lo=some a)(h2:sZ hi l.length=some c)(hs:sub l a c=some r):jA P t h (.row nl ti.size (l.map E)) lo hi=some (.row (nlS nl) ti.size (r.map E)):=by
 unfold sub at hs
 split at hs
 ·rename_i hc
  injection hs with hs
  subst hs
  have h2':sZ hi (l.map E).length=some c:=by simpa using h2
  simp only[jA,ht,he,h1,h2']
  rw[if_pos ⟨trivial,hc.1,hc.2.1,by simpa using hc.2.2⟩]
  simp[aQQ,aRp]
 cases hs
end
section
variable {P:Program}{t e:TypeId}{ti:TI}{sz by_:Nat}{z:Value}{α:Type}{E:α→V}{l:List α}{nl:Option Bool}
theorem slM (ht:aN P t=some ⟨.slice e,sz,by_,z⟩)(he:aN P e=some ti){lo:Option V}{a c:Int}{k1 k2:IntKind}{r:List α}(h1:lZ lo=some a)(hs:sub l a c=some r):xJ P t (.row nl ti.size (l.map E)) lo (.sc (.int k1 c)) (.sc (.int k2 c))=some (.row (some false) ti.size (r.map E)):=by
 unfold sub at hs
 split at hs
 ·rename_i hc
  injection hs with hs
  subst hs
  simp only[xJ,ht,h1,oF,he]
  rw[if_pos ⟨trivial,hc.1,hc.2.1,trivial,by simpa using hc.2.2⟩]
  simp[aQQ,aRp]
 cases hs
end
section
variable (P:Program)(t:TypeId)(xo yo:Operand)
theorem aLF {k:IntKind}{a b r:Int}(h:quo k a b=some r):dW P .quo t xo yo (.sc (.int k a)) (.sc (.int k b))=some (.sc (.int k r)):=by
 rw[aMM];unfold quo at h;split at h
 ·cases h
 rename_i hb;injection h with h;rw[if_neg hb,h]
theorem aKD {k:IntKind}{a b r:Int}(h:rem a b=some r):dW P .rem t xo yo (.sc (.int k a)) (.sc (.int k b))=some (.sc (.int k r)):=by
 rw[aMY];unfold rem at h;split at h
 ·cases h
 rename_i hb;injection h with h;rw[if_neg hb,h]
theorem aLG {k k':IntKind}{a b r:Int}(h:shl k a b=some r):dW P .shl t xo yo (.sc (.int k a)) (.sc (.int k' b))=some (.sc (.int k r)):=by
 rw[aNo];unfold shl at h;split at h
 ·cases h
 rename_i hb;injection h with h;rw[if_neg hb,h]
theorem aLJ {k k':IntKind}{a b r:Int}(h:shr k a b=some r):dW P .shr t xo yo (.sc (.int k a)) (.sc (.int k' b))=some (.sc (.int k r)):=by
 rw[aNu];unfold shr at h;split at h
 ·cases h
 rename_i hb;injection h with h;rw[if_neg hb,h]
end
section
variable {P:Program}{N n:Nat}{Q:Ex→List V→Hp→Prop}{s:List V}{h h':Hp}{fr:List (Nat×V)}
theorem AB.cnd {c:Operand}{x y:Code}{t:Bool}(hc:bG n fr c=some (.sc (.bool t)))(h1:t=true→AB P N x Q (aE n fr) h)(h2:t=false→AB P N y Q (aE n fr) h):AB P N (.cond c x y) Q (aE n fr) h:=AB.cond (cG hc) h1 h2
def num :Nat→List V→List (Nat×V)
 |_,[]=>[]
 |i,x::xs=>(i,x)::num (i+1) xs
theorem aHx : ∀{xs:List V}{i t:Nat}{y:V},fM (num i xs) t=some y→i≤t∧xs[t-i]? =some y
 | [],i,t,y,hy=>by cases hy
 |x::xs,i,t,y,hy=>by
  simp only[num,fM]at hy
  cases hb:aRs i t with
  |true=>
   rw[hb]at hy
   have:=aQO hb
   subst this
   simp only[cond_true,aQu]at hy
   subst hy
   simp
  |false=>
   rw[hb]at hy
   obtain⟨h1,h2⟩:=aHx (xs:=xs) (i:=i+1) hy
   refine⟨by omega, ?_⟩
   rw[show t-i=(t-(i+1))+1 by omega]
   simpa using h2
def aAA (P:Program)(fn:Func)(N:Nat)(r:V)(h':Hp):Ex→List V→Hp→Prop:=fun x s h=>(∀id,x≠ .exit id)∧ ∃r1,wW P fn s h=some r1∧Ghost N (aE 1 [(0,r1)]) h (aE 1 [(0,r)]) h'
theorem aOW {f:FuncId} {fn:Func} {c:Code} {args:List V} {r:V} (hf:P.funcs[f]? =some fn) (hb:fn.body=some c) (hn:(fn.name == "runtime.NumGoroutine")=false) (hnt:fn.ntmps=n) (hal:args.length≤n) (hN:h.length=N) (hfr:num 0 args=fr)
  (hh:AB P N c (aAA P fn N r h') (aE n fr) h):Fn P f h args r h':=by
 intro A M w vs H hargs
 refine .inl ⟨aFP hf (by rw[hb];rfl) hn _ _,calls_of_wp hf hb ?_⟩
 have R0:=aJw (fn:=fn) H hargs
 have R1:Rel A M (aE n fr) h {tmps:=vs.toArray++Array.replicate (fn.ntmps-vs.toArray.size) undef,defers:=[]} w:=by
  refine⟨R0.hr,⟨?_,fun t x hx=> ?_⟩,R0.defers⟩
  ·rw[s8,←R0.sr.len]
   simp[aCs,hnt];omega
  have ht:t<n:=by have:=(List.getElem?_eq_some_iff.1 hx).1;rw[s8]at this;exact this
  rw[z4 ht]at hx
  injection hx with hx
  cases hl:fM fr t with
  |none=>rw[hl]at hx;subst hx;unfold VR;trivial
  |some z=>
   rw[hl]at hx
   subst hx hfr
   obtain⟨_,h2⟩:=aHx hl
   refine R0.sr.val t z ?_
   unfold aCs
   rw[List.getElem?_append_left (by have:=(List.getElem?_eq_some_iff.1 h2).1;omega)]
   simpa using h2
 refine Code.wp_mono (fun e a' w' ⟨x,s1,h1,M1,he,⟨hx,r1,hres,hg⟩,G,R2⟩=> ?_) (hh A M M h w _ w hN (by rw[H.len];exact hN) (Grow.refl H) R1)
 subst he
 obtain⟨t,ht⟩:=G.pre
 have hMN:M.length=N:=by rw[H.len];exact hN
 obtain⟨v,hv,hr⟩:=aIV R2 hres
 have Rv:Rel A M1 (aE 1 [(0,r1)]) h1 {tmps:= #[v],defers:=[]} w':=⟨R2.hr,⟨rfl,fun t x hx=>by
  cases t with
  |zero=>simp[aE,fM]at hx;subst hx;exact hr
  |succ t=>rw[List.getElem?_eq_none (by rw[s8];omega)]at hx;cases hx⟩,rfl⟩
 obtain⟨M',e1,R3,l3⟩:=hg A M1 _ w' (by rw[←ht];simp[hMN]) Rv
 have hr':VR (Xs A M' h') M' w' r v:=R3.sr.val 0 r rfl
 have G':Grow A M h w M' h' w':=⟨by
  have:M=M'.take N:=by rw[e1,←ht,←hMN];simp
  rw[this]
  exact List.take_prefix _ _,R3.hr,G.ext,fun g hg hl=>G.live g hg (l3 g hl)⟩
 cases x with
 |normal=>exact⟨R2.defers,v,hv,v,rfl,M',G',hr'⟩
 |ret=>exact⟨R2.defers,v,hv,v,rfl,M',G',hr'⟩
 |exit id=>exact absurd rfl (hx id)
theorem xD {fn:Func}{r r1:V}(hr:wW P fn s h=some r1)(hg:Ghost N (aE 1 [(0,r1)]) h (aE 1 [(0,r)]) h'):aAA P fn N r h' .ret s h:=⟨fun id hh=>(by cases hh),r1,hr,hg⟩
theorem aKf {fn:Func}{r r1:V}(hr:wW P fn s h=some r1)(hg:Ghost N (aE 1 [(0,r1)]) h (aE 1 [(0,r)]) h'):aAA P fn N r h' .normal s h:=⟨fun id hh=>(by cases hh),r1,hr,hg⟩
variable {fn:Func}
theorem rvT {t:Nat}{x:V}(hx:bG n fr (.tmp t)=some x):kJ P (aE n fr) h (.tmp t)=some x:=cG hx
theorem rvC {t:Nat}{ty:TypeId}{v:V}{i o:Nat}(hx:bG n fr (.tmp t)=some (.ptr i o))(hv:dZ P ty h (.ptr i o)=some v):kJ P (aE n fr) h (.cell t ty)=some v:=by
 have:=cG hx
 simp only[ev]at this
 simp[kJ,this,nU,hv]
theorem aQe (hr:fn.results= #[]):wW P fn s h=some (.tup []):=by simp[wW,hr]
theorem aOq {a:ResultVar}{x:V}(hr:fn.results= #[a])(h1:kJ P s h a=some x):wW P fn s h=some x:=by simp[wW,hr,h1]
theorem a9 {a b:ResultVar}{x y:V}(hr:fn.results= #[a,b])(h1:kJ P s h a=some x)(h2:kJ P s h b=some y):wW P fn s h=some (.tup [x,y]):=by simp[wW,hr,h1,h2]
theorem rB {a b c:ResultVar}{x y z:V}(hr:fn.results= #[a,b,c])(h1:kJ P s h a=some x)(h2:kJ P s h b=some y)(h3:kJ P s h c=some z):wW P fn s h=some (.tup [x,y,z]):=by simp[wW,hr,h1,h2,h3]
end
theorem mG {α:Type}{E:α→V}{f:Nat→Nat}(hE: ∀x,(E x).rn f=E x): ∀l:List α,V.rns f (l.map E)=l.map E
 | []=>rfl
 |x::l=>by simp[V.rns,hE,mG hE l]
theorem aBh {α:Type}{E:α→V}{f:Nat→Nat}{vn:Nat→Bool}(hE: ∀x,(E x).rn f=E x)(l:List α):V.les vn (l.map E) (V.rns f (l.map E)):=by rw[mG hE];exact V.les_refl _ _
theorem V.le_agg {vn:Nat→Bool}{cs ds:List V}(h:V.les vn cs ds):V.le vn (.agg cs) (.agg ds):=by unfold V.le;exact h
theorem V.le_tup {vn:Nat→Bool}{cs ds:List V}(h:V.les vn cs ds):V.le vn (.tup cs) (.tup ds):=by unfold V.le;exact h
theorem V.les_nil {vn:Nat→Bool}:V.les vn [] []:=by unfold V.les;trivial
theorem V.les_cons {vn:Nat→Bool}{c d:V}{cs ds:List V}(h:V.le vn c d)(k:V.les vn cs ds):V.les vn (c::cs) (d::ds):=by unfold V.les;exact⟨h,k⟩
theorem bE {α:Type}(l:List α)(i:Nat)(x:α):(l.set i x).length=l.length:=aRt
theorem bF {α:Type}(l m:List α):(kL l m).length=l.length:=by simp[kL];omega
section
variable {P:Program}{f:FuncId}{h hb hb' hs hs':Hp}{xs args:List V}{r v:V}
theorem gW (h o:Hp):dQ h [] o=h:=by cases h<;>cases o<;>rfl
theorem Fn.pure (hc:Fn P f [] xs r [])(hx:V.rns (sg [] h.length) xs=xs)(hr:r.rn (sg [] h.length)=r):Fn P f h xs r h:=by
 have:=Fn.frame (hb:=h) hc [] rfl (by simp) (by simp) (fun i b hi=>by simp at hi)
 rw[hx,hr]at this
 simpa[iQ,gW,nF]using this
def Lend (σ:Nat→Nat)(hb:Hp):List Nat→Hp→Prop
 | [],[]=>True
 |b::ρ,none::hs=>hb[b]? =some none∧Lend σ hb ρ hs
 |b::ρ,some B::hs=>(∃cs,hb[b]? =some (some ⟨B.e,cs⟩)∧V.rns σ B.cells=cs)∧Lend σ hb ρ hs
 |_,_=>False
theorem Lend.nil {σ:Nat→Nat}:Lend σ hb [] []:=trivial
theorem Lend.cons {σ:Nat→Nat}{b:Nat}{ρ:List Nat}{e:TypeId}{cs ds:List V}(h1:hb[b]? =some (some ⟨e,ds⟩))(h2:V.rns σ cs=ds)(k:Lend σ hb ρ hs):Lend σ hb (b::ρ) (some ⟨e,cs⟩::hs):=⟨⟨ds,h1,h2⟩,k⟩
theorem Lend.len {σ:Nat→Nat}: ∀{ρ:List Nat}{hs:Hp},Lend σ hb ρ hs→ρ.length=hs.length
 | [],[],_=>rfl
 |_::ρ,none::hs,hh=>by simp[Lend.len (ρ:=ρ) hh.2]
 |_::ρ,some B::hs,hh=>by simp[Lend.len (ρ:=ρ) hh.2]
 | [],_::_,hh=>hh.elim
 |_::_,[],hh=>hh.elim
theorem Lend.get {σ:Nat→Nat}: ∀{ρ:List Nat}{hs:Hp},Lend σ hb ρ hs→ ∀(i b:Nat),ρ[i]? =some b→hb[b]? =(nF σ hs)[i]?
 | [],[],_,i,b,hi=>by simp at hi
 |c::ρ,none::hs,hh,0,b,hi=>by simp at hi;subst hi;simpa[nF]using hh.1
 |c::ρ,none::hs,hh,i+1,b,hi=>by
  have:=Lend.get hh.2 i b (by simpa using hi)
  simpa[nF]using this
 |c::ρ,some B::hs,hh,0,b,hi=>by
  simp at hi;subst hi
  obtain⟨cs,h1,h2⟩:=hh.1
  rw[h1,←h2];simp[nF,Blk.rn]
 |c::ρ,some B::hs,hh,i+1,b,hi=>by
  have:=Lend.get hh.2 i b (by simpa using hi)
  simpa[nF]using this
 | [],_::_,hh,_,_,_=>hh.elim
 |_::_,[],hh,_,_,_=>hh.elim
theorem Fn.lendB (hc:Fn P f hs args r hs')(ρ:List Nat)(hnd:ρ.Nodup)(hlt:ρ.all (fun b=>aR0 b hb.length)=true)(hl:Lend (sg ρ hb.length) hb ρ hs)(hx:V.rns (sg ρ hb.length) args=xs)(hr:r.rn (sg ρ hb.length)=v)(hh:iQ hb ρ hs'=hb'):Fn P f hb xs v hb':=by
 have:=Fn.frame (hb:=hb) hc ρ hl.len hnd (fun b hb'=>by
  have h2:=aQx.1 hlt b hb'
  exact aQ6 (n:=b+1) h2) hl.get
 rw[hx,hr,hh]at this
 exact this
theorem aKm {X:Nat→Prop}{M:List (Option Nat)}{w:World}{vs:List Value}(hl:V.les uG xs args)(hv:VCells X M w xs vs):VCells X M w args vs:=V.les_sound (fun _ hb=>by cases hb) _ _ _ hl hv
theorem Fn.argsLe (hc:Fn P f h args r hb)(hl:V.les uG xs args):Fn P f h xs r hb:=fun A M w vs H hv=>hc A M w vs H (aKm hl hv)
theorem Fn.virt {e:TypeId}(hc:Fn P f (h++[some ⟨e,[]⟩]) args r hb)(hl:V.les (fun b=>aRs b h.length) xs args):Fn P f h xs r hb:=by
 intro A M w vs H hv
 have G:=Grow.virt H e
 have hM:=H.len
 have hvn: ∀b,aRs b h.length=true→(M++[none])[b]? =some none:=fun b hb=>by
  have:=aQO hb
  subst this
  rw[←hM];simp
 have hv':VCells (Xs A (M++[none]) (h++[some ⟨e,[]⟩])) (M++[none]) w args vs:=V.les_sound hvn _ _ _ hl (VCells.mk hv.len (fun i c v hc hv'=>by
  obtain⟨u,hu,hr⟩:=hv.get hc
  rw[hv']at hu;injection hu with hu;subst hu
  exact G.keep hr))
 exact(hc A _ w vs G.hr hv').mono fun v w' ⟨M',G',hr⟩=>⟨M',G.trans G',hr⟩
end
@[simp] theorem iB {f:Nat→Nat}{k:IntKind}(l:List Int):V.rns f (l.map (eI k))=l.map (eI k):=mG (fun _=>rfl) l
@[simp] theorem iA {f:Nat→Nat}(l:List Bool):V.rns f (l.map eB)=l.map eB:=mG (fun _=>rfl) l
@[simp] theorem rS {f:Nat→Nat}(l:List ByteArray):V.rns f (l.map eS)=l.map eS:=mG (fun _=>rfl) l
@[simp] theorem rR {α:Type}{f:Nat→Nat}{K:Nat}{E:α→V}(l:List (List α)):V.rns f (l.map (eL K E))=l.map (eL K E):=mG (fun _=>rfl) l
theorem all_map {α:Type}{E:α→V}(hE: ∀x,(E x).one=true)(l:List α):(l.map E).all V.one=true:=by simp[aQx,hE]
mutual
def V.rf :V→Bool
 | .sc _=>true
 | .row _ _ es=>es.isEmpty
 | .ptr _ _=>true
 | .mp _=>true
 | .sl _ _ _ _ _=>true
 | .agg cs=>V.rfs cs
 | .tup cs=>V.rfs cs
 | .eptr _ _ _=>false
 | .any=>true
def V.rfs :List V→Bool
 | []=>true
 |c::cs=>c.rf&&V.rfs cs
end
section
variable {X X':Nat→Prop}{M:List (Option Nat)}{w:World}
mutual
theorem VR.rf : ∀(x:V)(v:Value),x.rf=true→VR X M w x v→VR X' M w x v
 | .sc _,v,_,h=>by unfold VR at h ⊢; exact h
 | .any,v,_,_=>by unfold VR;trivial
 | .row nil k es,v,hr,h=>by
  unfold V.rf at hr
  have:es=[]:=by simpa using hr
  subst this
  unfold VR at h⊢
  obtain⟨a,cap,h1,h2,h3,h4,h5,h6⟩:=h
  exact⟨a,cap,h1,h2,h3,h4,h5,fun hne=>absurd rfl hne⟩
 | .ptr _ _,v,_,h=>by unfold VR at h ⊢; exact h
 | .mp _,v,_,h=>by unfold VR at h ⊢; exact h
 | .sl _ _ _ _ _,v,_,h=>by unfold VR at h ⊢; exact h
 | .agg cs,v,hr,h=>by
  unfold V.rf at hr
  unfold VR at h⊢
  obtain⟨vs,h1,h2⟩:=h
  exact⟨vs,h1,VCells.rf cs vs hr h2⟩
 | .tup cs,v,hr,h=>by
  unfold V.rf at hr
  unfold VR at h⊢
  obtain⟨vs,h1,h2⟩:=h
  exact⟨vs,h1,VCells.rf cs vs hr h2⟩
 | .eptr _ _ _,v,hr,_=>by unfold V.rf at hr;cases hr
theorem VCells.rf : ∀(cs:List V)(vs:List Value),V.rfs cs=true→VCells X M w cs vs→VCells X' M w cs vs
 | [],vs,_,h=>by unfold VCells at h ⊢; exact h
 |c::cs,vs,hr,h=>by
  unfold V.rfs at hr
  simp only[aQH]at hr
  unfold VCells at h⊢
  obtain⟨v,rest,h1,h2,h3⟩:=h
  exact⟨v,rest,h1,VR.rf c v hr.1 h2,VCells.rf cs rest hr.2 h3⟩
end
end
theorem z6 {α:Type}{E:α→V}(hE: ∀x,(E x).rf=true): ∀l:List α,V.rfs (l.map E)=true
 | []=>by simp[V.rfs]
 |x::l=>by simp[V.rfs,hE,z6 hE l]
mutual
theorem V.rf_rn (f:Nat→Nat): ∀x:V,(x.rn f).rf=x.rf
 | .sc _=>by unfold V.rn;rfl
 | .any=>by unfold V.rn;rfl
 | .row _ _ _=>by unfold V.rn;rfl
 | .ptr _ _=>by unfold V.rn;rfl
 | .mp _=>by unfold V.rn;rfl
 | .sl _ _ _ _ _=>by unfold V.rn;rfl
 | .eptr _ _ _=>by unfold V.rn;rfl
 | .agg cs=>by unfold V.rn;simp only[V.rf];exact V.rfs_rn f cs
 | .tup cs=>by unfold V.rn;simp only[V.rf];exact V.rfs_rn f cs
theorem V.rfs_rn (f:Nat→Nat): ∀cs:List V,V.rfs (V.rns f cs)=V.rfs cs
 | []=>by unfold V.rns;rfl
 |c::cs=>by unfold V.rns;simp only[V.rfs];rw[V.rf_rn f c,V.rfs_rn f cs]
end
def aAO (β:List Nat):Nat→Hp→Hp
 |_,[]=>[]
 |i,o::h=>(bif β.elem i then o else none)::aAO β (i+1) h
def only (β:List Nat)(h:Hp):Hp:=aAO β 0 h
theorem aFK (β:List Nat): ∀(h:Hp)(i j:Nat),(aAO β i h)[j]? =(h[j]?).map fun o=>bif β.elem (i+j)then o else none
 | [],i,j=>by simp[aAO]
 |o::h,i,0=>by simp[aAO]
 |o::h,i,j+1=>by
  simp only[aAO,aQw]
  rw[aFK β h (i+1) j]
  simp[aRL,aRP 1 j]
theorem yN {β:List Nat}{h:Hp}{j:Nat}{B:Blk}(hj:(only β h)[j]? =some (some B)):j∈β∧h[j]? =some (some B):=by
 unfold only at hj
 rw[aFK]at hj
 cases ho:h[j]? with
 |none=>rw[ho]at hj;cases hj
 |some o=>
  rw[ho]at hj
  simp only[aRe,aQA,aQu]at hj
  cases he:β.elem j with
  |false=>rw[he]at hj;cases hj
  |true=>rw[he]at hj;simp only[cond_true]at hj;subst hj;exact⟨List.elem_iff.1 he,rfl⟩
theorem aK7 (β:List Nat)(h:Hp):(only β h).length=h.length:=by
 have: ∀(h:Hp)(i:Nat),(aAO β i h).length=h.length:=by
  intro h
  induction h with
  |nil=>intro i;rfl
  |cons o h ih=>intro i;simp[aAO,ih]
 exact this h 0
theorem HR.only {A A2:Nat→Prop}{M:List (Option Nat)}{h:Hp}{w:World}(H:HR A M h w)(β:List Nat)(h1: ∀g,A2 g→g<w.heap.size)(h2: ∀(b:Nat) (B:Blk) (g:Nat),b∈β→h[b]? =some (some B)→M[b]? =some (some g)→ ¬A2 g)
  (h3: ∀g,Xs A2 M (Vm.only β h) g→Xs A M h g):HR A2 M (Vm.only β h) w:=by
 refine⟨by rw[aK7];exact H.len,h1,fun b B hb=> ?_,fun b b' B B' g hb hb'=>H.inj b b' B B' g (yN hb).2 (yN hb').2,H.glob.avoid fun g _ hx=>h3 g hx⟩
 obtain⟨hm,hb'⟩:=yN hb
 obtain⟨k0,hn|⟨g,cs,hg,hA,hh,hle,hcs⟩⟩:=H.blk b B hb'
 ·exact⟨k0,.inl hn⟩
 exact⟨k0,.inr ⟨g,cs,hg,h2 b B g hm hb' hg,hh,hle,hcs.avoid (fun g _ hx=>h3 g hx)⟩⟩
def Brw (σ:Nat→Nat)(hE:Hp):List V→List V→Prop
 | [],[]=>True
 |x::xs,y::ys=>(V.le uG x (y.rn σ)∨ ∃z,uC hE x=some z∧V.le uG z y)∧Brw σ hE xs ys
 |_,_=>False
theorem Brw.nil {σ:Nat→Nat}{hE:Hp}:Brw σ hE [] []:=trivial
theorem Brw.same {σ:Nat→Nat}{hE:Hp}{x y:V}{xs ys:List V}(h:y.rn σ=x)(k:Brw σ hE xs ys):Brw σ hE (x::xs) (y::ys):=⟨.inl (by rw[h];exact V.le_refl _ _),k⟩
theorem Brw.le {σ:Nat→Nat}{hE:Hp}{x y:V}{xs ys:List V}(h:V.le uG x (y.rn σ))(k:Brw σ hE xs ys):Brw σ hE (x::xs) (y::ys):=⟨.inl h,k⟩
theorem Brw.row {σ:Nat→Nat}{hE:Hp}{x y:V}{xs ys:List V}(h:uC hE x=some y)(k:Brw σ hE xs ys):Brw σ hE (x::xs) (y::ys):=⟨.inr ⟨y,h,V.le_refl _ _⟩,k⟩
theorem aIp {α:Type}{E:α→V}{F:V→Option V}(hE: ∀x,F (E x)=some (E x)): ∀l:List α,(l.map E).mapM F=some (l.map E)
 | []=>rfl
 |x::l=>by
  simp only[aQ0,aQV,hE,aRc,aRb,aIp hE l,aRu]
theorem aJH {α:Type}{E:α→V}{l:List α}{hE:Hp}{b q d:Nat}{e:TypeId}(hn:l.length=q)(hb:hE[b]? =some (some ⟨e,l.map E⟩))(hx: ∀x,dY hE d (E x)=some (E x)):dY hE (d+1) (.sl b 0 q 1 false)=some (.row none 1 (l.map E)):=by
 subst hn
 simp only[dY,hb]
 rw[if_pos ⟨by simp,by omega,.inr trivial⟩]
 simp only[aQW,aRH]
 rw[aQt (by simp),aIp hx]
 simp[rQ]
theorem aFy {α:Type}{E:α→V}{l:List α}{hE:Hp}{b q:Nat}{e:TypeId}(hn:l.length=q)(hb:hE[b]? =some (some ⟨e,l.map E⟩))(hx: ∀x,dY hE 3 (E x)=some (E x)):uC hE (.sl b 0 q 1 false)=some (.row none 1 (l.map E)):=aJH hn hb hx
theorem aML {F:V→Option V}:([]:List V).mapM F=some []:=rfl
theorem aBY {F:V→Option V}{c y:V}{cs ys:List V}(h:F c=some y)(k:cs.mapM F=some ys):(c::cs).mapM F=some (y::ys):=by simp[aQV,h,k]
theorem aMD {hE:Hp}{cs ys:List V}(h:cs.mapM (dY hE 4)=some ys):uC hE (.agg cs)=some (.agg ys):=by simp[uC,h]
set_option maxHeartbeats 1000000 in
theorem Fn.borrow {P:Program}{f:FuncId}{hs hs' hb:Hp}{args xs:List V}{r:V}(hc:Fn P f hs args r hs')(ρ β:List Nat)(hlen:ρ.length=hs.length)(hnd:ρ.Nodup)(hlt: ∀b∈ρ,b<hb.length)(hdis: ∀b∈β,b∉ρ)
  (hlend: ∀i b:Nat,ρ[i]? =some b→hb[b]? =(nF (sg ρ hb.length) hs)[i]?) (hx:Brw (sg ρ hb.length) (only β hb) xs args) (hrf:r.rf=true) (hrb: ∀(i:Nat)(B:Blk),hs'[i]? =some (some B)→V.rfs B.cells=true):
  Fn P f hb xs (r.rn (sg ρ hb.length)) (iQ hb ρ hs'):=by
 intro A M w vs H hargs
 have hσ: ∀i b:Nat,ρ[i]? =some b→sg ρ hb.length i=b:=fun i b hi=>by simp[sg,hi]
 have hσ': ∀i,ρ.length≤i→sg ρ hb.length i=hb.length+(i-ρ.length):=fun i hi=>by simp[sg,hi]
 generalize hsg:sg ρ hb.length=σ at *
 let Ms:List (Option Nat):=ρ.map fun b=>(M[b]?).getD none
 have hMs: ∀i b:Nat,ρ[i]? =some b→Ms[i]? =M[b]? :=by
  intro i b hi
  have hb':b<M.length:=by rw[H.len];exact hlt b (aQC hi)
  simp only[Ms,aQL,hi,aQA]
  rw[aQv hb']
  rfl
 have hMslen:Ms.length=hs.length:=by simp[Ms,hlen]
 have hfrom: ∀b y,M[σ b]? =some y→Ms[b]? =some y:=by
  intro b y hy
  rcases aQU b ρ.length with hl|hl
  ·have hi:ρ[b]? =some ρ[b]:=aQv hl
   rw[hMs b _ hi,←hσ b _ hi];exact hy
  rw[hσ' b hl]at hy
  have:=(aQr.1 hy).1
  rw[H.len]at this;omega
 let A':Nat→Prop:=fun g=>A g∨ ∃b B,b∉ρ∧b∉β∧hb[b]? =some (some B)∧M[b]? =some (some g)
 have hin: ∀{i:Nat}{B:Blk},hs[i]? =some (some B)→ ∃b,ρ[i]? =some b∧hb[b]? =some (some (B.rn σ))∧Ms[i]? =M[b]? :=by
  intro i B hi
  have hl:i<ρ.length:=by rw[hlen];exact(aQr.1 hi).1
  have hr:ρ[i]? =some ρ[i]:=aQv hl
  refine⟨_,hr, ?_,hMs i _ hr⟩
  rw[hlend i _ hr,aFr,hi];rfl
 have hliveS: ∀g,cX Ms hs g→cX M hb g:=by
  rintro g ⟨i,B,hi,hm⟩
  obtain⟨b,_,hb1,hb2⟩:=hin hi
  exact⟨b,_,hb1,by rw[←hb2];exact hm⟩
 have hX1: ∀g,Xs A' Ms hs g→Xs A M hb g:=by
  rintro g ((ha|⟨b,B,_,_,hb1,hb2⟩)|hl)
  ·exact .inl ha
  ·exact .inr ⟨b,B,hb1,hb2⟩
  exact .inr (hliveS g hl)
 have hout: ∀{b:Nat}{B:Blk}{g:Nat},b∉ρ→hb[b]? =some (some B)→M[b]? =some (some g)→ ¬cX Ms hs g:=by
  rintro b B g hb0 hb1 hb2 ⟨i,C,hi,hm⟩
  obtain⟨c,hc0,hc1,hc2⟩:=hin hi
  have:=H.inj b c B _ g hb1 hc1 hb2 (by rw[←hc2];exact hm)
  subst this
  exact hb0 (aQC hc0)
 have hA': ∀{b:Nat}{B:Blk}{g:Nat},b∈β→hb[b]? =some (some B)→M[b]? =some (some g)→ ¬A' g:=by
  rintro b B g hbβ hb1 hb2 (ha|⟨c,C,hc0,hc3,hc1,hc2⟩)
  ·obtain⟨_,⟨hn,_⟩|⟨g',cs,hg',hA,_⟩⟩:=H.blk b B hb1
   ·rw[hb2]at hn;cases hn
   rw[hb2]at hg';injection hg' with hg';injection hg' with hg';subst hg';exact hA ha
  have:=H.inj b c B C g hb1 hc1 hb2 hc2
  subst this;exact hc3 hbβ
 have HS:HR A' Ms hs w:=by
  refine⟨hMslen, ?_, ?_, ?_,H.glob.avoid fun g _ hx=>hX1 g hx⟩
  ·rintro g (ha|⟨b,B,_,_,hb1,hb2⟩)
   ·exact H.alt g ha
   exact H.lt (.inr ⟨b,B,hb1,hb2⟩)
  ·intro i B hi
   obtain⟨b,hb0,hb1,hb2⟩:=hin hi
   obtain⟨h1,h2⟩:=H.blk b _ hb1
   refine⟨V.one_rns h1, ?_⟩
   rcases h2 with⟨hn,hc0⟩|⟨g,cs,hg,hA,hh,hle,hcs⟩
   ·refine .inl ⟨by rw[hb2];exact hn, ?_⟩
    have:=congrArg aRX hc0
    simp only[Blk.rn,V.rns_length,aRr]at this
    exact aQy this
   refine .inr ⟨g,cs,by rw[hb2];exact hg, ?_,by simpa[Blk.rn,V.rns_length]using hh, ?_, ?_⟩
   ·rintro(ha|⟨c,C,hc0,_,hc1,hc2⟩)
    ·exact hA ha
    have:=H.inj b c _ C g hb1 hc1 hg hc2
    subst this
    exact hc0 (aQC hb0)
   ·simpa[Blk.rn,V.rns_length]using hle
   have hcs':VCells (Xs A M hb) M w (V.rns σ B.cells) (cs.toList.take B.cells.length):=by simpa[Blk.rn,V.rns_length]using hcs
   exact(VCells.rn_from hfrom _ _ hcs').avoid (fun g _ hx=>hX1 g hx)
  intro i j B C g hi hj mi mj
  obtain⟨b,hb0,hb1,hb2⟩:=hin hi
  obtain⟨c,hc0,hc1,hc2⟩:=hin hj
  have:=H.inj b c _ _ g hb1 hc1 (by rw[←hb2];exact mi) (by rw[←hc2];exact mj)
  subst this
  have hil:=(aQr.1 hb0).1
  exact(aRN hil hnd).1 (hb0.trans hc0.symm)
 have HB:HR (Xs A' Ms hs) M (only β hb) w:=by
  refine H.only β (fun g hg=>HS.lt hg) ?_ ?_
  ·rintro b B g hbβ hb1 hb2 (ha|hl)
   ·exact hA' hbβ hb1 hb2 ha
   exact hout (hdis b hbβ) hb1 hb2 hl
  rintro g (hx|⟨b,B,hb1,hb2⟩)
  ·exact hX1 g hx
  exact .inr ⟨b,B,(yN hb1).2,hb2⟩
 have hargsS:VCells (Xs A' Ms hs) Ms w args vs:=by
  have key: ∀(xs args:List V)(vs:List Value),Brw σ (only β hb) xs args→VCells (Xs A M hb) M w xs vs→VCells (Xs A' Ms hs) Ms w args vs:=by
   intro xs
   induction xs with
   |nil=>
    intro args vs hx hv
    cases args with
    |nil=>unfold VCells at hv ⊢; exact hv
    |cons=>exact hx.elim
   |cons x xs ih=>
    intro args vs hx hv
    cases args with
    |nil=>exact hx.elim
    |cons y ys=>
     unfold VCells at hv⊢
     obtain⟨v,rest,e1,e2,e3⟩:=hv
     refine⟨v,rest,e1, ?_,ih ys rest hx.2 e3⟩
     rcases hx.1 with hl|⟨z,hz,hl⟩
     ·exact(VR.rn_from hfrom _ _ (V.le_sound (fun _ hb=>by cases hb) _ _ _ hl e2)).avoid (fun g _ hx=>hX1 g hx)
     have e2':VR (Xs (Xs A' Ms hs) M (only β hb)) M w x v:=e2.avoid (fun g _ hx=>by
      rcases hx with hx|⟨b,B,hb1,hb2⟩
      ·exact hX1 g hx
      exact .inr ⟨b,B,(yN hb1).2,hb2⟩)
     exact V.le_sound (fun _ hb=>by cases hb) _ _ _ hl (aAh HB e2' hz).lift
  exact key xs args vs hx hargs
 refine(hc A' Ms w vs HS hargsS).mono fun v w' ⟨Ms',G,hv⟩=> ?_
 obtain⟨Mn,rfl⟩:=G.pre
 have hMnlen:hs'.length=ρ.length+Mn.length:=by rw[←G.hr.len];simp[Ms]
 have hto: ∀b y,(Ms++Mn)[b]? =some y→(M++Mn)[σ b]? =some y:=by
  intro b y hy
  rcases aQU b ρ.length with hl|hl
  ·have hi:ρ[b]? =some ρ[b]:=aQv hl
   rw[aQs (by rw[hMslen,←hlen];exact hl),hMs b _ hi]at hy
   rw[hσ b _ hi,aQs (by rw[H.len];exact hlt _ (aQC hi))]
   exact hy
  rw[aQz (by rw[hMslen,←hlen];exact hl),hMslen,←hlen]at hy
  rw[hσ' b hl,aQz (by rw[H.len];omega),H.len,show hb.length+(b-ρ.length)-hb.length=b-ρ.length by omega]
  exact hy
 have hlentlen:(dQ hb ρ (nF σ hs')).length=hb.length:=xA _ _ _
 have hrnlen:(nF σ hs').length=hs'.length:=by simp[nF]
 have hcase: ∀{b:Nat}{B:Blk},(iQ hb ρ hs')[b]? =some (some B)→(b∉ρ∧hb[b]? =some (some B))∨ ∃i C,hs'[i]? =some (some C)∧b=σ i∧B=C.rn σ∧(M++Mn)[b]? =(Ms++Mn)[i]? :=by
  intro b B hb1
  unfold iQ at hb1
  rw[hsg]at hb1
  rcases aQU b hb.length with hl|hl
  ·rw[aQs (by rw[hlentlen];exact hl)]at hb1
   by_cases hm:b∈ρ
   ·obtain⟨i,hi⟩:=aRl.1 hm
    rw[aBU hnd hlt (by rw[hrnlen];omega) hi]at hb1
    obtain⟨C,hC,hB⟩:=aAE hb1
    have hil:=(aQr.1 hi).1
    refine .inr ⟨i,C,hC,(hσ i b hi).symm,hB, ?_⟩
    rw[aQs (by rw[H.len];exact hl),aQs (by rw[hMslen,←hlen];exact hil),hMs i b hi]
   rw[xM hm]at hb1
   exact .inl ⟨hm,hb1⟩
  rw[aQz (by rw[hlentlen];exact hl),hlentlen,aRg]at hb1
  obtain⟨C,hC,hB⟩:=aAE hb1
  refine .inr ⟨_,C,hC, ?_,hB, ?_⟩
  ·rw[hσ' _ (by omega)];omega
  rw[aQz (by rw[H.len];exact hl),aQz (by rw[hMslen,←hlen];omega),H.len,hMslen,←hlen]
  congr 1;omega
 have hlive: ∀g,g<w.heap.size→cX (M++Mn) (iQ hb ρ hs') g→cX M hb g:=by
  rintro g hg ⟨b,B,hb1,hb2⟩
  rcases hcase hb1 with⟨hb0,hb3⟩|⟨i,C,hC,rfl,rfl,he⟩
  ·refine⟨b,B,hb3, ?_⟩
   rw[aQs (by rw[H.len];exact(aQr.1 hb3).1)]at hb2
   exact hb2
  exact hliveS g (G.live g hg ⟨i,C,hC,by rw[←he];exact hb2⟩)
 have hnew: ∀{i:Nat}{C:Blk}{b:Nat}{B:Blk}{g:Nat},hs'[i]? =some (some C)→(Ms++Mn)[i]? =some (some g)→b∉ρ→hb[b]? =some (some B)→M[b]? =some (some g)→False:=by
  intro i C b B g hi hm hb0 hb1 hb2
  have hgs:g<w.heap.size:=H.lt (.inr ⟨b,B,hb1,hb2⟩)
  exact hout hb0 hb1 hb2 (G.live g hgs ⟨i,C,hi,hm⟩)
 refine⟨M++Mn,⟨⟨Mn,rfl⟩,⟨?_, ?_, ?_, ?_,H.glob.ext G.ext (fun g _ hl=> .inr (hliveS g hl)) (fun g hg hx=>hx.elim .inl (fun hl=> .inr (hlive g hg hl)))⟩,G.ext.mono (fun g _ hl=>hliveS g hl),hlive⟩,VR.rf _ _ (by rw[V.rf_rn];exact hrf) (VR.rn_to hto _ _ hv)⟩
 ·unfold iQ
  rw[hsg]
  simp only[aQ3,aRA,hlentlen,hrnlen,H.len]
  omega
 ·exact fun g hg=>aQ4 (H.alt g hg) G.ext.size
 ·intro b B hb1
  rcases hcase hb1 with⟨hb0,hb3⟩|⟨i,C,hC,rfl,rfl,he⟩
  ·have hbl:b<M.length:=by rw[H.len];exact(aQr.1 hb3).1
   obtain⟨h1,⟨hn,hc0⟩|⟨g,cs,hg,hA,hh,hle,hcs⟩⟩:=H.blk b B hb3
   ·exact⟨h1,.inl ⟨by rw[aQs hbl];exact hn,hc0⟩⟩
   have hgs:g<w.heap.size:=H.lt (.inr ⟨b,B,hb3,hg⟩)
   refine⟨h1,.inr ⟨g,cs,by rw[aQs hbl];exact hg,hA, ?_,hle, ?_⟩⟩
   ·exact hh.to (G.ext.block g hgs (hout hb0 hb3 hg))
   exact VCells.ext G.ext ⟨Mn,rfl⟩ (fun g _ hl=> .inr (hliveS g hl)) (fun g hg hx=>hx.elim .inl (fun hl=> .inr (hlive g hg hl))) _ _ hcs
  obtain⟨h1,h2⟩:=G.hr.blk i C hC
  refine⟨V.rns_mem (V.rn_one σ) h1, ?_⟩
  rcases h2 with⟨hn,hc0⟩|⟨g,cs,hg,hA,hh,hle,hcs⟩
  ·refine .inl ⟨by rw[he];exact hn, ?_⟩
   simp[Blk.rn,hc0,V.rns]
  refine .inr ⟨g,cs,by rw[he];exact hg,fun ha=>hA (.inl ha),by simpa[Blk.rn,V.rns_length]using hh, ?_, ?_⟩
  ·simpa[Blk.rn,V.rns_length]using hle
  have h5:=VCells.rn_to hto _ _ hcs
  have h6:VCells (Xs A (M++Mn) (iQ hb ρ hs')) (M++Mn) w' (V.rns σ C.cells) (cs.toList.take C.cells.length):=VCells.rf _ _ (by rw[V.rfs_rn];exact hrb i C hC) h5
  simpa[Blk.rn,V.rns_length]using h6
 intro b c B C g hb1 hc1 mb mc
 rcases hcase hb1 with⟨hb0,hb3⟩|⟨i,D,hD,rfl,rfl,he⟩<;>rcases hcase hc1 with⟨hc0,hc3⟩|⟨j,E,hE,rfl,rfl,he'⟩
 ·rw[aQs (by rw[H.len];exact(aQr.1 hb3).1)]at mb
  rw[aQs (by rw[H.len];exact(aQr.1 hc3).1)]at mc
  exact H.inj b c B C g hb3 hc3 mb mc
 ·rw[aQs (by rw[H.len];exact(aQr.1 hb3).1)]at mb
  rw[he']at mc
  exact(hnew hE mc hb0 hb3 mb).elim
 ·rw[aQs (by rw[H.len];exact(aQr.1 hc3).1)]at mc
  rw[he]at mb
  exact(hnew hD mb hc0 hc3 mc).elim
 rw[G.hr.inj i j D E g hD hE (by rw[←he];exact mb) (by rw[←he'];exact mc)]
def rfB :Hp→Prop
 | []=>True
 |none::h=>rfB h
 |some B::h=>V.rfs B.cells=true∧rfB h
theorem rfB.get : ∀{h:Hp},rfB h→ ∀(i:Nat)(B:Blk),h[i]? =some (some B)→V.rfs B.cells=true
 | [],_,i,B,hi=>by simp at hi
 |none::h,hh,0,B,hi=>by simp at hi
 |none::h,hh,i+1,B,hi=>rfB.get (h:=h) hh i B (by simpa using hi)
 |some C::h,hh,0,B,hi=>by simp at hi;subst hi;exact hh.1
 |some C::h,hh,i+1,B,hi=>rfB.get (h:=h) hh.2 i B (by simpa using hi)
theorem rfB.nil :rfB []:=trivial
theorem rfB.dead {h:Hp}(k:rfB h):rfB (none::h):=k
theorem rfB.live {h:Hp}{e:TypeId}{cs:List V}(hc:V.rfs cs=true)(k:rfB h):rfB (some ⟨e,cs⟩::h):=⟨hc,k⟩
theorem Fn.lendR {P:Program}{f:FuncId}{hs hs' hb hb':Hp}{args xs:List V}{r v:V}(hc:Fn P f hs args r hs')(ρ β:List Nat)(hnd:ρ.Nodup)(hlt:ρ.all (fun b=>aR0 b hb.length)=true)(hdis: ∀b∈β,b∉ρ)(hl:Lend (sg ρ hb.length) hb ρ hs)
  (hx:Brw (sg ρ hb.length) (only β hb) xs args) (hrf:r.rf=true) (hrb:rfB hs') (hr:r.rn (sg ρ hb.length)=v) (hh:iQ hb ρ hs'=hb'):Fn P f hb xs v hb':=by
 have:=Fn.borrow (hb:=hb) hc ρ β hl.len hnd (fun b hb'=>by
  have h2:=aQx.1 hlt b hb'
  exact aQ6 (n:=b+1) h2) hdis hl.get hx hrf hrb.get
 rw[hr,hh]at this
 exact this
section
variable {P:Program}{N:Nat}{Q:Ex→List V→Hp→Prop}{s:List V}{h h':Hp}
theorem AB.seq_g {c d:Code}(hh: ∀K:List V→Hp→Prop,(∀s h,AB P N d Q s h→K s h)→(∀s h s' h',Ghost N s h s' h'→K s' h'→K s h)→AB P N c (Ex.then K Q) s h):AB P N (.seq c d) Q s h:=
 AB.seq (hh _ (fun _ _ hk=>hk) (fun _ _ _ _ hg hk=>AB.ghost hg hk))
variable {f:FuncId}{xs:List V}{r:V}
variable (t:TypeId)(xo yo:Operand)
theorem aCx {α β:Type}(s:Sem α)(f:α→β){a:α}(h:bD P s=some a):bD P (Functor.map f s)=some (f a):=by
 show bD P (Sem.bind s _)=_
 induction s with
 |pure x=>simp only[bD,aQu]at h;subst h;rfl
 |program k ih=>exact ih P h
 |mark m k ih=>exact ih h
 |_=>simp[bD]at h
theorem aHp (a b:ByteArray):dW P .eql t xo yo (.sc (.string a)) (.sc (.string b))=some (.sc (.bool (a.toList == b.toList))):=by
 simp only[dW,e7,eC,aHm,pureV];rfl
theorem aPH {t:TypeId}{fs:Array Field}{sz by_ i:Nat}{z:Value}{fl:Field}{cs:List V}{v:V}(ht:aN P t=some ⟨.struct fs,sz,by_,z⟩)(hf:fs[i]? =some fl)(hp:fQ P fl.type (cs.drop fl.offset)=some v):aAs P t (.agg cs) i=some v:=by simp[aAs,ht,hf,hp]
end
theorem aPT {P:Program}{h h':Hp}{t e:TypeId}{ti:TI}{i b:Nat}{α:Type}{E:α→V}{l m:List α}{sz by_:Nat}{z:Value}{ag:Bool}{q:Nat}(hn:q≤l.length)(ht:aN P t=some ⟨.slice e,sz,by_,z⟩)(he:aN P e=some ti)(h1:ti.zero.cells.size=1∧ti.size=1∧1≤ti.bytes)(hb:h[b]? =some (some ⟨e,l.map E⟩)){s:V}(hs:e9 h 1 s=some (m.map E,m.length))
  {r:List α} (ha:eM ti.bytes (l.take q) m=some r) (hl:h.length=i) (hh:h.set b none++[some ⟨e,r.map E⟩]=h'):iM P t t (.sl b 0 q 1 ag) s h=some (.sl i 0 r.length 1 ag,h'):=by
 obtain⟨h2,h3,h4⟩:=h1
 unfold eM at ha
 split at ha
 ·rename_i hlim
  injection ha with ha
  have hql:(l.take q).length=q:=by simp;omega
  rw[hql]at hlim
  subst ha hl hh
  have hx:e9 h ti.size s=some (m.map E,m.length):=by rw[h3];exact hs
  simp only[iM,ne_eq,not_true,if_false,ht,he]
  rw[if_pos ⟨by rw[h2,h3],by omega,h4⟩]
  simp only[hx,hb]
  rw[if_pos ⟨h3.symm,trivial,by simp;omega,hlim⟩]
  simp[aQQ,aQ8 hn]
 cases ha
theorem mkC {k1 k2:IntKind}{P:Program}{h h':Hp}{t e:TypeId}{ti:TI}{i:Nat}{α:Type}{E:α→V}{sz by_:Nat}{z:Value}{ag:Bool}{j:Int}{y:α}(ht:aN P t=some ⟨.slice e,sz,by_,z⟩)(he:aN P e=some ti)(h1:1≤ti.bytes∧ti.size=1∧ti.zero.cells.size=1)(hz:ti.zero.cells.toList.map (V.soft∘dU)=[E y])(ho:(E y).one=true)(hag:b8 ti.desc=ag){r:List α}
  (hm:mks ti.bytes y j=some r) (hl:h.length=i) (hh:h++[some ⟨e,r.map E⟩]=h'):zX P t (.sc (.int k1 0)) (.sc (.int k2 j)) h=some (.sl i 0 0 1 ag,h'):=by
 obtain⟨h2,h3,h4⟩:=h1
 unfold mks at hm
 split at hm
 ·rename_i hlim
  injection hm with hm
  subst hm hl hh hag
  simp only[zX,ht,he]
  rw[if_pos ⟨aRj _,hlim.1,hlim.2,h2,by omega,by rw[h4,h3],by rw[hz];simp[ho]⟩,hz]
  simp only[h3,if_true]
  have: ∀n,(aQ2 n [E y]).flatten=(aQ2 n y).map E:=fun n=>by
   induction n with
   |zero=>rfl
   |succ n ih=>simp only[aRI,aRO,ih,aQ0];rfl
  rw[this];simp
 cases hm
def q9 :Nat→List V→List (Nat×V)
 |_,[]=>[]
 |i,x::xs=>(i,x)::q9 (i+1) xs
theorem aG9 : ∀(xs:List V)(i:Nat)(cells:List V),cells.length=i+xs.length→xs.all (fun x=>x.one&&(x.cells.length == 1))=true→nE (fun i=>some (i*1,1)) cells (q9 i xs)=some (cells.take i++xs)
 | [],i,cells,hl,_=>by
  simp only[q9,nE,aRh]
  rw[aQt (by simp at hl;omega)]
 |x::xs,i,cells,hl,ho=>by
  simp only[List.all_cons,aQH,beq_iff_eq]at ho
  obtain⟨⟨h1,h2⟩,h3⟩:=ho
  simp only[aQS]at hl
  have hc:x.cells=[x]:=by cases x<;>first|rfl|simp[V.one]at h1
  simp only[q9,nE]
  rw[if_pos ⟨by simp[V.flatOk,hc,h1],h2,by omega⟩,hc]
  have hs:splice cells (i*1) [x]=cells.set i x:=by
   have:=aEg (E:=fun v:V=>v) (l:=cells) i (by omega) x
   simpa using this
  rw[hs,aG9 xs (i+1) _ (by simp;omega) (by simpa[aQx,aQH]using h3)]
  congr 1
  rw[aQZ (by simp;omega)]
  simp[List.take_set_of_le]
theorem aIT {P:Program}{h h':Hp}{t e:TypeId}{ti:TI}{i sz by_ len:Nat}{z:Value}{ps:List (Nat×V)}{xs:List V}{ag:Bool}(ht:aN P t=some ⟨.slice e,sz,by_,z⟩)(he:aN P e=some ti)(h1:len*1≤2^24)(h2:0<len)(hs:ti.size=1)(hag:b8 ti.desc=ag)
  (hp:q9 0 xs=ps) (ho:xs.all (fun x=>x.one&&(x.cells.length == 1))=true) (hlen:xs.length=len) (hl:h.length=i) (hh:h++[some ⟨e,xs⟩]=h'):iU P t len ps h=some (.sl i 0 len 1 ag,h'):=by
 have hones:xs.all V.one=true:=by
  rw[aQx]at ho⊢
  intro x hx
  have:=ho x hx
  simp only[aQH]at this
  exact this.1
 subst hp
 have:=aNE (h:=h) (len:=len) (cs:=xs) (ps:=q9 0 xs) (i:=i) (h':=h') ht he (by rw[hs];exact⟨h1,h2,by omega⟩) hag (by
  rw[hs]
  rw[aG9 xs 0 _ (by simp[hs,hlen]) ho]
  simp) ⟨hones,by rw[hs,hlen];omega⟩ hl hh
 rw[hs]at this
 exact this
theorem Ghost.refl (N:Nat)(s:List V)(h:Hp):Ghost N s h s h:=fun A M a w _ R=>⟨M,rfl,R,fun _ hl=>hl⟩
theorem aEi {k:IntKind}(hk:k.signed=false)(n:Int):k.wrap n=n%2^k.bits:=by simp[IntKind.wrap,hk]
theorem aCt {k:IntKind}(hk:k.signed=false)(a b:Nat)(ha:a<2^k.bits)(hb:b<2^k.bits):bits .and k (a:Int) (b:Int)=((a &&& b:Nat):Int):=by
 have hab:a &&& b<2^k.bits:=Nat.and_lt_two_pow a hb
 simp only[bits,aEi hk,BitVec.toNat_and,BitVec.toNat_ofInt]
 have e1:((a:Int)%((2^k.bits:Nat):Int)).toNat=a:=by rw[←aQT,aQR,aQ1 ha]
 have e2:((b:Int)%((2^k.bits:Nat):Int)).toNat=b:=by rw[←aQT,aQR,aQ1 hb]
 rw[e1,e2]
 rw[show(2:Int)^k.bits=((2^k.bits:Nat):Int) by simp,←aQT,aQ1 hab]
theorem uH {k:IntKind}(hk:k.signed=false)(a b:Nat)(ha:a<2^k.bits)(hb:b<2^k.bits):bits .or k (a:Int) (b:Int)=((a ||| b:Nat):Int):=by
 have hab:a ||| b<2^k.bits:=Nat.or_lt_two_pow ha hb
 simp only[bits,aEi hk,BitVec.toNat_or,BitVec.toNat_ofInt]
 have e1:((a:Int)%((2^k.bits:Nat):Int)).toNat=a:=by rw[←aQT,aQR,aQ1 ha]
 have e2:((b:Int)%((2^k.bits:Nat):Int)).toNat=b:=by rw[←aQT,aQR,aQ1 hb]
 rw[e1,e2]
 rw[show(2:Int)^k.bits=((2^k.bits:Nat):Int) by simp,←aQT,aQ1 hab]
theorem u5 {k:IntKind}(a b:Nat)(ha:a<2^k.bits):shr k (a:Int) (b:Int)=some ((a/2^b:Nat):Int):=by
 unfold shr
 rw[if_neg (by omega)]
 congr 1
 rw[aQR]
 have:(2:Int)^min b k.bits=((2^min b k.bits:Nat):Int):=by simp
 rw[this,Int.fdiv_eq_ediv_of_nonneg _ (Int.natCast_nonneg _),←Int.natCast_ediv]
 congr 1
 rcases aRQ b k.bits with hb|hb
 ·rw[aQ8 hb]
 rw[aRT hb,aRU ha,aRU (aQ4 ha (Nat.pow_le_pow_right (by omega) hb))]
theorem aBf {k:IntKind}(hk:k.signed=false)(a b:Nat):shl k (a:Int) (b:Int)=some ((a*2^b%2^k.bits:Nat):Int):=by
 unfold shl
 rw[if_neg (by omega),aEi hk]
 congr 1
 rw[aQR]
 have e:(2:Int)^min b k.bits=((2^min b k.bits:Nat):Int):=by simp
 rw[e,show(2:Int)^k.bits=((2^k.bits:Nat):Int) by simp,←Int.natCast_mul,←aQT]
 congr 1
 rcases aRQ b k.bits with hb|hb
 ·rw[aQ8 hb]
 rw[aRT hb,aRV]
 obtain⟨c,rfl⟩:=Nat.exists_eq_add_of_le hb
 rw[Nat.pow_add,←Nat.mul_assoc,Nat.mul_right_comm,aRV]
theorem aBj {α:Type}(l:List α)(i:Nat):bS l (i:Int)=l[i]? :=by simp[bS]
theorem dP {α:Type}(l:List α){i:Nat}(h:i<l.length):bS l (i:Int)=some l[i]:=by rw[aBj,aQv h]
theorem vX {α:Type}{by_:Nat}{l m:List α}(h:(l.length+m.length)*by_≤lH):eM by_ l m=some (l++m):=by simp[eM,h]
theorem aJ5 {α:Type}{by_:Nat}{z:α}{n:Nat}(h:n*by_≤lH):mks by_ z (n:Int)=some (aQ2 n z):=by
 simp only[mks,aQR]
 rw[if_pos ⟨by omega,h⟩]
theorem aFd {α:Type}{l m:List α}(h:l.length=m.length):kL l m=m:=by
 unfold kL;rw[h,aQt (aQX _),aQJ (by omega)];simp
theorem oV (a b:Nat):Int.tdiv (a:Int) (b:Int)=((a/b:Nat):Int):=by rw[Int.tdiv_eq_ediv_of_nonneg (by omega)];simp
theorem qJ (a b:Nat):Int.tmod (a:Int) (b:Int)=((a%b:Nat):Int):=by rw[Int.tmod_eq_emod_of_nonneg (by omega)];simp
def Byt (l:List Int):Prop:= ∀x∈l,0≤x∧x<256
theorem Byt.append {l m:List Int}(h:Byt l)(k:Byt m):Byt (l++m):=fun x hx=>(List.mem_append.1 hx).elim (h x) (k x)
theorem Byt.set {l:List Int}(h:Byt l)(i:Nat){x:Int}(hx:0≤x∧x<256):Byt (l.set i x):=fun y hy=>(List.mem_or_eq_of_mem_set hy).elim (h y) (fun e=>e▸hx)
theorem Byt.get {l:List Int}(h:Byt l){i:Nat}(hi:i<l.length): ∃n:Nat,n<256∧l[i]=(n:Int):=by
 obtain⟨h1,h2⟩:=h l[i] (List.getElem_mem hi)
 exact⟨l[i].toNat,by omega,by omega⟩
theorem Fn.toP {P:Program}{f:FuncId}{xs:List V}{r:V}(hc:Fn P f [] xs r []):PFn P f xs r:=by
 intro A w vs hA hGl hv
 refine(hc A [] w vs (HR.nil hA hGl) (hv.avoid (fun g _ hx=>aHM.1 hx))).mono fun v w' ⟨M',G,hr⟩=> ?_
 have hM:M'=[]:=aQy G.hr.len
 subst hM
 exact⟨G.ext.mono fun g _ hl=>by obtain⟨b,B,hb,_⟩:=hl;simp at hb,hr.avoid (fun g _ hx=>aHM.2 hx)⟩
end Go.Vm
namespace Go.Proofs.YtnllpckhipmpgaaGreatDoor
open Go Go.Vm
@[simp] theorem ti2 :aN Tryz.prog 2=some ⟨.int .i64,1,8,.int .i64 0⟩:=by kernel_rfl
@[simp] theorem cW :aN Tryz.prog 3=some ⟨.int .i64,1,8,.int .i64 0⟩:=by kernel_rfl
@[simp] theorem yP :aN Tryz.prog 4=some ⟨.bool,1,1,.bool false⟩:=by kernel_rfl
@[simp] theorem dA :aN Tryz.prog 5=some ⟨.int .u8,1,1,.int .u8 0⟩:=by kernel_rfl
@[simp] theorem ti9 :aN Tryz.prog 9=some ⟨.string,1,16,.string .empty⟩:=by kernel_rfl
@[simp] theorem aPZ :aN Tryz.prog 12=some ⟨.int .u64,1,8,.int .u64 0⟩:=by kernel_rfl
@[simp] theorem aQm :aN Tryz.prog 21=some ⟨.int .i32,1,4,.int .i32 0⟩:=by kernel_rfl
@[simp] theorem aLm :aN Tryz.prog 22=some ⟨.slice 46,1,24,.slice none 0 0⟩:=by kernel_rfl
@[simp] theorem zE :aN Tryz.prog 23=some ⟨.slice 31,1,24,.slice none 0 0⟩:=by kernel_rfl
@[simp] theorem aPr :aN Tryz.prog 24=some ⟨.array 32 5,32,32,.agg #[.int .u8 0,.int .u8 0,.int .u8 0,.int .u8 0,.int .u8 0,.int .u8 0,.int .u8 0,.int .u8 0,.int .u8 0,.int .u8 0,.int .u8 0,.int .u8 0,.int .u8 0,.int .u8 0,.int .u8 0,.int .u8 0,.int .u8 0,.int .u8 0,.int .u8 0,.int .u8 0,.int .u8 0,.int .u8 0,.int .u8 0,.int .u8 0,.int .u8 0,.int .u8 0,.int .u8 0,.int .u8 0,.int .u8 0,.int .u8 0,.int .u8 0,.int .u8 0]⟩:=by kernel_rfl
@[simp] theorem y7 :aN Tryz.prog 25=some ⟨.array 32 5,32,32,.agg #[.int .u8 0,.int .u8 0,.int .u8 0,.int .u8 0,.int .u8 0,.int .u8 0,.int .u8 0,.int .u8 0,.int .u8 0,.int .u8 0,.int .u8 0,.int .u8 0,.int .u8 0,.int .u8 0,.int .u8 0,.int .u8 0,.int .u8 0,.int .u8 0,.int .u8 0,.int .u8 0,.int .u8 0,.int .u8 0,.int .u8 0,.int .u8 0,.int .u8 0,.int .u8 0,.int .u8 0,.int .u8 0,.int .u8 0,.int .u8 0,.int .u8 0,.int .u8 0]⟩:=by kernel_rfl
@[simp] theorem aPl :aN Tryz.prog 26=some ⟨.struct #[{name:= "Message",type:=25,offset:=0,embedded:=false,tag:= "",pkgPath:= "",byteOffset:=0},{name:= "Height",type:=3,offset:=32,embedded:=false,tag:= "",pkgPath:= "",byteOffset:=32},{name:= "Age",type:=3,offset:=33,embedded:=false,tag:= "",pkgPath:= "",byteOffset:=40}],34,48,.agg #[.int .u8 0,.int .u8 0,.int .u8 0,.int .u8 0,.int .u8 0,.int .u8 0,.int .u8 0,.int .u8 0,.int .u8 0,.int .u8 0,.int .u8 0,.int .u8 0,.int .u8 0,.int .u8 0,.int .u8 0,.int .u8 0,.int .u8 0,.int .u8 0,.int .u8 0,.int .u8 0,.int .u8 0,.int .u8 0,.int .u8 0,.int .u8 0,.int .u8 0,.int .u8 0,.int .u8 0,.int .u8 0,.int .u8 0,.int .u8 0,.int .u8 0,.int .u8 0,.int .i64 0,.int .i64 0]⟩:=by kernel_rfl
@[simp] theorem aAm :aN Tryz.prog 27=some ⟨.struct #[{name:= "Message",type:=25,offset:=0,embedded:=false,tag:= "",pkgPath:= "",byteOffset:=0},{name:= "Height",type:=3,offset:=32,embedded:=false,tag:= "",pkgPath:= "",byteOffset:=32},{name:= "Age",type:=3,offset:=33,embedded:=false,tag:= "",pkgPath:= "",byteOffset:=40}],34,48,.agg #[.int .u8 0,.int .u8 0,.int .u8 0,.int .u8 0,.int .u8 0,.int .u8 0,.int .u8 0,.int .u8 0,.int .u8 0,.int .u8 0,.int .u8 0,.int .u8 0,.int .u8 0,.int .u8 0,.int .u8 0,.int .u8 0,.int .u8 0,.int .u8 0,.int .u8 0,.int .u8 0,.int .u8 0,.int .u8 0,.int .u8 0,.int .u8 0,.int .u8 0,.int .u8 0,.int .u8 0,.int .u8 0,.int .u8 0,.int .u8 0,.int .u8 0,.int .u8 0,.int .i64 0,.int .i64 0]⟩:=by kernel_rfl
@[simp] theorem cI :aN Tryz.prog 31=some ⟨.slice 5,1,24,.slice none 0 0⟩:=by kernel_rfl
@[simp] theorem aPR :aN Tryz.prog 32=some ⟨.int .i64,1,8,.int .i64 0⟩:=by kernel_rfl
@[simp] theorem aCD :aN Tryz.prog 41=some ⟨.int .u32,1,4,.int .u32 0⟩:=by kernel_rfl
@[simp] theorem aPJ :aN Tryz.prog 45=some ⟨.struct #[{name:= "Code",type:=3,offset:=0,embedded:=false,tag:= "",pkgPath:= "",byteOffset:=0},{name:= "Data",type:=31,offset:=1,embedded:=false,tag:= "",pkgPath:= "",byteOffset:=8},{name:= "M",type:=3,offset:=2,embedded:=false,tag:= "",pkgPath:= "",byteOffset:=32},{name:= "N",type:=3,offset:=3,embedded:=false,tag:= "",pkgPath:= "",byteOffset:=40}],4,48,.agg #[.int .i64 0,.slice none 0 0,.int .i64 0,.int .i64 0]⟩:=by kernel_rfl
@[simp] theorem xE :aN Tryz.prog 46=some ⟨.struct #[{name:= "Code",type:=3,offset:=0,embedded:=false,tag:= "",pkgPath:= "",byteOffset:=0},{name:= "Data",type:=31,offset:=1,embedded:=false,tag:= "",pkgPath:= "",byteOffset:=8},{name:= "M",type:=3,offset:=2,embedded:=false,tag:= "",pkgPath:= "",byteOffset:=32},{name:= "N",type:=3,offset:=3,embedded:=false,tag:= "",pkgPath:= "",byteOffset:=40}],4,48,.agg #[.int .i64 0,.slice none 0 0,.int .i64 0,.int .i64 0]⟩:=by kernel_rfl
@[simp] theorem aFH :aN Tryz.prog 54=some ⟨.slice 73,1,24,.slice none 0 0⟩:=by kernel_rfl
@[simp] theorem aP2 :aN Tryz.prog 55=some ⟨.struct #[{name:= "Env",type:=27,offset:=0,embedded:=true,tag:= "",pkgPath:= "",byteOffset:=0},{name:= "stack",type:=23,offset:=34,embedded:=false,tag:= "",pkgPath:= "lightclient/script",byteOffset:=48},{name:= "branches",type:=54,offset:=35,embedded:=false,tag:= "",pkgPath:= "lightclient/script",byteOffset:=72},{name:= "cost",type:=3,offset:=36,embedded:=false,tag:= "",pkgPath:= "lightclient/script",byteOffset:=96}],37,104,.agg #[.int .u8 0,.int .u8 0,.int .u8 0,.int .u8 0,.int .u8 0,.int .u8 0,.int .u8 0,.int .u8 0,.int .u8 0,.int .u8 0,.int .u8 0,.int .u8 0,.int .u8 0,.int .u8 0,.int .u8 0,.int .u8 0,.int .u8 0,.int .u8 0,.int .u8 0,.int .u8 0,.int .u8 0,.int .u8 0,.int .u8 0,.int .u8 0,.int .u8 0,.int .u8 0,.int .u8 0,.int .u8 0,.int .u8 0,.int .u8 0,.int .u8 0,.int .u8 0,.int .i64 0,.int .i64 0,.slice none 0 0,.slice none 0 0,.int .i64 0]⟩:=by kernel_rfl
@[simp] theorem v7 :aN Tryz.prog 56=some ⟨.struct #[{name:= "Env",type:=27,offset:=0,embedded:=true,tag:= "",pkgPath:= "",byteOffset:=0},{name:= "stack",type:=23,offset:=34,embedded:=false,tag:= "",pkgPath:= "lightclient/script",byteOffset:=48},{name:= "branches",type:=54,offset:=35,embedded:=false,tag:= "",pkgPath:= "lightclient/script",byteOffset:=72},{name:= "cost",type:=3,offset:=36,embedded:=false,tag:= "",pkgPath:= "lightclient/script",byteOffset:=96}],37,104,.agg #[.int .u8 0,.int .u8 0,.int .u8 0,.int .u8 0,.int .u8 0,.int .u8 0,.int .u8 0,.int .u8 0,.int .u8 0,.int .u8 0,.int .u8 0,.int .u8 0,.int .u8 0,.int .u8 0,.int .u8 0,.int .u8 0,.int .u8 0,.int .u8 0,.int .u8 0,.int .u8 0,.int .u8 0,.int .u8 0,.int .u8 0,.int .u8 0,.int .u8 0,.int .u8 0,.int .u8 0,.int .u8 0,.int .u8 0,.int .u8 0,.int .u8 0,.int .u8 0,.int .i64 0,.int .i64 0,.slice none 0 0,.slice none 0 0,.int .i64 0]⟩:=by kernel_rfl
@[simp] theorem aK2 :aN Tryz.prog 57=some ⟨.slice 60,1,24,.slice none 0 0⟩:=by kernel_rfl
@[simp] theorem aPW :aN Tryz.prog 59=some ⟨.struct #[{name:= "reached",type:=4,offset:=0,embedded:=false,tag:= "",pkgPath:= "lightclient/lightclientref08",byteOffset:=0},{name:= "done",type:=4,offset:=1,embedded:=false,tag:= "",pkgPath:= "lightclient/lightclientref08",byteOffset:=1}],2,2,.agg #[.bool false,.bool false]⟩:=by kernel_rfl
@[simp] theorem aDE :aN Tryz.prog 60=some ⟨.struct #[{name:= "reached",type:=4,offset:=0,embedded:=false,tag:= "",pkgPath:= "lightclient/lightclientref08",byteOffset:=0},{name:= "done",type:=4,offset:=1,embedded:=false,tag:= "",pkgPath:= "lightclient/lightclientref08",byteOffset:=1}],2,2,.agg #[.bool false,.bool false]⟩:=by kernel_rfl
@[simp] theorem aPj :aN Tryz.prog 66=some ⟨.int .u64,1,8,.int .u64 0⟩:=by kernel_rfl
@[simp] theorem aLA :aN Tryz.prog 70=some ⟨.slice 4,1,24,.slice none 0 0⟩:=by kernel_rfl
@[simp] theorem aPo :aN Tryz.prog 71=some ⟨.pointer 56,1,8,.pointer none⟩:=by kernel_rfl
@[simp] theorem aPu :aN Tryz.prog 72=some ⟨.struct #[{name:= "outer",type:=4,offset:=0,embedded:=false,tag:= "",pkgPath:= "lightclient/script",byteOffset:=0},{name:= "taken",type:=4,offset:=1,embedded:=false,tag:= "",pkgPath:= "lightclient/script",byteOffset:=1}],2,2,.agg #[.bool false,.bool false]⟩:=by kernel_rfl
@[simp] theorem aBR :aN Tryz.prog 73=some ⟨.struct #[{name:= "outer",type:=4,offset:=0,embedded:=false,tag:= "",pkgPath:= "lightclient/script",byteOffset:=0},{name:= "taken",type:=4,offset:=1,embedded:=false,tag:= "",pkgPath:= "lightclient/script",byteOffset:=1}],2,2,.agg #[.bool false,.bool false]⟩:=by kernel_rfl
@[simp] theorem kH :aN Tryz.prog 90=some ⟨.int .u64,1,8,.int .u64 0⟩:=by kernel_rfl
@[simp] theorem aFz :aN Tryz.prog 91=some ⟨.array 8 41,8,32,.agg #[.int .u32 0,.int .u32 0,.int .u32 0,.int .u32 0,.int .u32 0,.int .u32 0,.int .u32 0,.int .u32 0]⟩:=by kernel_rfl
@[simp] theorem aK4 :aN Tryz.prog 93=some ⟨.array 64 5,64,64,.agg #[.int .u8 0,.int .u8 0,.int .u8 0,.int .u8 0,.int .u8 0,.int .u8 0,.int .u8 0,.int .u8 0,.int .u8 0,.int .u8 0,.int .u8 0,.int .u8 0,.int .u8 0,.int .u8 0,.int .u8 0,.int .u8 0,.int .u8 0,.int .u8 0,.int .u8 0,.int .u8 0,.int .u8 0,.int .u8 0,.int .u8 0,.int .u8 0,.int .u8 0,.int .u8 0,.int .u8 0,.int .u8 0,.int .u8 0,.int .u8 0,.int .u8 0,.int .u8 0,.int .u8 0,.int .u8 0,.int .u8 0,.int .u8 0,.int .u8 0,.int .u8 0,.int .u8 0,.int .u8 0,.int .u8 0,.int .u8 0,.int .u8 0,.int .u8 0,.int .u8 0,.int .u8 0,.int .u8 0,.int .u8 0,.int .u8 0,.int .u8 0,.int .u8 0,.int .u8 0,.int .u8 0,.int .u8 0,.int .u8 0,.int .u8 0,.int .u8 0,.int .u8 0,.int .u8 0,.int .u8 0,.int .u8 0,.int .u8 0,.int .u8 0,.int .u8 0]⟩:=by kernel_rfl
@[simp] theorem aPO :aN Tryz.prog 95=some ⟨.array 4 90,4,32,.agg #[.int .u64 0,.int .u64 0,.int .u64 0,.int .u64 0]⟩:=by kernel_rfl
@[simp] theorem bV :aN Tryz.prog 96=some ⟨.array 4 90,4,32,.agg #[.int .u64 0,.int .u64 0,.int .u64 0,.int .u64 0]⟩:=by kernel_rfl
@[simp] theorem aPD :aN Tryz.prog 99=some ⟨.struct #[{name:= "E",type:=96,offset:=0,embedded:=false,tag:= "",pkgPath:= "",byteOffset:=0},{name:= "S",type:=96,offset:=4,embedded:=false,tag:= "",pkgPath:= "",byteOffset:=32}],8,64,.agg #[.int .u64 0,.int .u64 0,.int .u64 0,.int .u64 0,.int .u64 0,.int .u64 0,.int .u64 0,.int .u64 0]⟩:=by kernel_rfl
@[simp] theorem nT :aN Tryz.prog 100=some ⟨.struct #[{name:= "E",type:=96,offset:=0,embedded:=false,tag:= "",pkgPath:= "",byteOffset:=0},{name:= "S",type:=96,offset:=4,embedded:=false,tag:= "",pkgPath:= "",byteOffset:=32}],8,64,.agg #[.int .u64 0,.int .u64 0,.int .u64 0,.int .u64 0,.int .u64 0,.int .u64 0,.int .u64 0,.int .u64 0]⟩:=by kernel_rfl
@[simp] theorem aJi :aN Tryz.prog 105=some ⟨.array 64 41,64,256,.agg #[.int .u32 0,.int .u32 0,.int .u32 0,.int .u32 0,.int .u32 0,.int .u32 0,.int .u32 0,.int .u32 0,.int .u32 0,.int .u32 0,.int .u32 0,.int .u32 0,.int .u32 0,.int .u32 0,.int .u32 0,.int .u32 0,.int .u32 0,.int .u32 0,.int .u32 0,.int .u32 0,.int .u32 0,.int .u32 0,.int .u32 0,.int .u32 0,.int .u32 0,.int .u32 0,.int .u32 0,.int .u32 0,.int .u32 0,.int .u32 0,.int .u32 0,.int .u32 0,.int .u32 0,.int .u32 0,.int .u32 0,.int .u32 0,.int .u32 0,.int .u32 0,.int .u32 0,.int .u32 0,.int .u32 0,.int .u32 0,.int .u32 0,.int .u32 0,.int .u32 0,.int .u32 0,.int .u32 0,.int .u32 0,.int .u32 0,.int .u32 0,.int .u32 0,.int .u32 0,.int .u32 0,.int .u32 0,.int .u32 0,.int .u32 0,.int .u32 0,.int .u32 0,.int .u32 0,.int .u32 0,.int .u32 0,.int .u32 0,.int .u32 0,.int .u32 0]⟩:=by kernel_rfl
@[simp] theorem aC8 :aN Tryz.prog 131=some ⟨.array 8 90,8,64,.agg #[.int .u64 0,.int .u64 0,.int .u64 0,.int .u64 0,.int .u64 0,.int .u64 0,.int .u64 0,.int .u64 0]⟩:=by kernel_rfl
@[simp] theorem aJm :aN Tryz.prog 133=some ⟨.slice 90,1,24,.slice none 0 0⟩:=by kernel_rfl
@[simp] theorem aL2 :aN Tryz.prog 135=some ⟨.slice 25,1,24,.slice none 0 0⟩:=by kernel_rfl
@[simp] theorem aOZ :aN Tryz.prog 148=some ⟨.pointer 5,1,8,.pointer none⟩:=by kernel_rfl
end Go.Proofs.YtnllpckhipmpgaaGreatDoor
namespace Go.Vm
open Go Go.ChangeShapes Go.WideShapes Go.ChangeAt Go.RowKit
section
variable {X:Nat→Prop}{M:List (Option Nat)}{w:World}
theorem aLU (c:Value):VR X M w (.sc c) c:=by unfold VR;rfl
theorem qP :VCells X M w [] []:=by unfold VCells;rfl
theorem kX {c:V}{v:Value}{cs:List V}{vs:List Value}(h:VR X M w c v)(k:VCells X M w cs vs):VCells X M w (c::cs) (v::vs):=by unfold VCells;exact⟨v,vs,rfl,h,k⟩
theorem aKd {cs:List V}{vs:List Value}(k:VCells X M w cs vs):VR X M w (.agg cs) (.agg vs.toArray):=by unfold VR;exact⟨vs,rfl,k⟩
theorem aHN {P:Program}{ts:List TypeId}(h:(ts.all fun t=>P.readableRec t&&decide (t<P.types.size))=true): ∀t∈ts,P.readableRec t=true∧t<P.types.size:=by
 intro t ht
 have:=aQx.1 h t ht
 simp only[aQH,decide_eq_true_eq]at this
 exact this
end
end Go.Vm
namespace Go.Proofs.YtnllpckhipmpgaaGreatDoor
open Go Go.Vm
open Go.ChangeShapes Go.WideShapes Go.ChangeAt Go.RowKit
theorem own :ownKnob Tryz.prog.godebug=none:=by kernel_rfl
theorem aMm :laidOutB Tryz.prog=true:=by kernel_rfl
end Go.Proofs.YtnllpckhipmpgaaGreatDoor
namespace Go.Proofs.YtnllpckhipmpgaaGreatDoor
open Go Go.Vm
end Go.Proofs.YtnllpckhipmpgaaGreatDoor
namespace Go.Vm
open Go Go.ChangeShapes Go.WideShapes Go.ChangeAt Go.RowKit
def zY (P:Program)(t:TypeId){α:Type}(Q:α→Prop)(C:α→List V):Prop:=
 ∀{H:Type}{enc:TypeId×Value→H}{w:World}{spare:Nat→Bool}{held:Bool}{fuel:Nat}{cs:List Value}{x:DataW H×List MemPlace},DataW.trod enc P w 0 spare held fuel t cs=some x→ ∃a:α,Q a∧VCells rP [] w (C a) cs
section
variable {P:Program}{t e:TypeId}
theorem qB {k:IntKind}(ht:P.underlying t=some (.int k)):zY P t (fun x:Int=>(Lit.int k x).wf=true) (fun x=>[eI k x]):=by
 intro H enc w spare held fuel cs x h
 obtain⟨n,rfl,_,hw⟩:=DataW.trod_int ht h
 exact⟨n,hw,kX (aLU _) qP⟩
theorem aAS {α:Type}{R:Nat→α→Prop}: ∀(n:Nat),(∀i,i<n→ ∃x,R i x)→ ∃l:List α,l.length=n∧ ∀i x,l[i]? =some x→R i x
 |0,_=>⟨[],rfl,fun i x hx=>by simp at hx⟩
 |n+1,h=>by
  obtain⟨l,hl,hr⟩:=aAS n (fun i hi=>h i (by omega))
  obtain⟨x,hx⟩:=h n (by omega)
  refine⟨l++[x],by simp[hl],fun i y hy=> ?_⟩
  rcases dV hy with hy|⟨hi,hy⟩
  ·exact hr i y hy
  subst hy;rw[hi,hl];exact hx
theorem aIK {X:Nat→Prop}{M:List (Option Nat)}{w:World}{K:Nat}: ∀(es:List V)(ad:Addr),(∀i e,es[i]? =some e→ ∃v,VR X M w e v∧v.cells.size=K∧LiesAt w (ad.add (i*K)) v.cells)→VRow X M w K es ad
 | [],ad,_=>by unfold VRow;trivial
 |e::es,ad,h=>by
  unfold VRow
  obtain⟨v,h1,h2,h3⟩:=h 0 e rfl
  refine⟨⟨v,h1,h2,by simpa[Addr.add]using h3⟩,aIK es (ad.add K) fun i e' he=> ?_⟩
  obtain⟨v',k1,k2,k3⟩:=h (i+1) e' (by simpa using he)
  refine⟨v',k1,k2, ?_⟩
  rw[q4,show K+i*K=(i+1)*K by rw[aRd];omega]
  exact k3
def aJj {α:Type}(K:Nat)(C:α→List V)(E:α→V):Prop:= ∀x,(E x).okElem K=true∧ ∀(w:World)(vs:List Value),VCells rP [] w (C x) vs→ ∃v,VR rP [] w (E x) v∧v.cells=vs.toArray
theorem aDy {α:Type}{E:α→V}(h: ∀x,(E x).one=true):aJj 1 (fun x=>[E x]) E:=by
 intro x
 have hc:(E x).cells=[E x]:=by have:=h x;generalize E x=y at this ⊢; cases y<;>first|rfl|simp[V.one]at this
 refine⟨by simp[V.okElem,V.flatOk,hc,h x],fun w vs hv=> ?_⟩
 unfold VCells at hv
 obtain⟨v,rest,rfl,h1,h2⟩:=hv
 unfold VCells at h2
 subst h2
 exact⟨v,h1,by rw[dK (h1.oneCell (h x))]⟩
theorem aLb {α:Type}{K:Nat}{C:α→List V}(hl: ∀x,(C x).length=K)(h: ∀x,(C x).all V.one=true):aJj K C (fun x=> .agg (C x)):=by
 intro x
 refine⟨by simp[V.okElem,V.flatOk,V.cells,h x,hl x],fun w vs hv=>⟨.agg vs.toArray,aKd hv,rfl⟩⟩
theorem aAU {α:Type}{Q:α→Prop}{C:α→List V}{E:α→V}{K:Nat}(ht:P.underlying t=some (.slice e))(he:zY P e Q C)(hK:P.cellsOf e=K)(h0:0<K)(hE:aJj K C E):
  zY P t (fun l:List α=> ∀x∈l,Q x) (fun l=>[.row none K (l.map E)]):=by
 intro H enc w spare held fuel cs x h
 rcases DataW.trod_slice ht h with⟨rfl,_⟩|⟨a,len,cap,elems,rest,n,_,rfl,_,_,hl,hm,hlen,hel,_,_⟩
 ·refine⟨[],by simp,kX ?_ qP⟩
  unfold VR
  exact⟨none,0,rfl,aQX _,fun _=>rfl,(fun b hb=>by cases hb),by simp,fun hne=>absurd rfl hne⟩
 have each: ∀i,i<len→ ∃x,Q x∧ ∃vs,w.cells? 0 (a.add (i*K)) K=some vs∧VCells rP [] w (C x) vs:=by
  intro i hi
  have h1:=hel i hi
  rw[hK,aQv (by omega)]at h1
  simp only[aRf]at h1
  obtain⟨vs,h2,h3⟩:=h1
  obtain⟨x,hq,hv⟩:=he h3
  exact⟨x,hq,vs,h2,hv⟩
 obtain⟨l,hll,hr⟩:=aAS len each
 have hlm:(l.map E).length=len:=by simp[hll]
 refine⟨l,fun x hx=> ?_,kX ?_ qP⟩
 ·obtain⟨i,hi,rfl⟩:=List.mem_iff_getElem.1 hx
  exact(hr i _ (aQv hi)).1
 unfold VR
 refine⟨some a,cap,by rw[hlm],by rw[hlm];exact hl,fun hh=>(by cases hh),(fun b hb=>by cases hb),fun y hy=> ?_,fun hne=> ?_⟩
 ·simp only[aRR]at hy
  obtain⟨x,_,rfl⟩:=hy
  exact(hE x).1
 have hpos:0<len:=by
  rcases Nat.eq_zero_or_pos len with h0|h0
  ·exact absurd (aQy (by rw[hlm];exact h0)) hne
  exact h0
 have lies: ∀(ad:Addr)(vs:List Value),w.cells? 0 ad K=some vs→vs.length=K∧LiesAt w ad vs.toArray:=by
  intro ad vs hvs
  obtain⟨h1,h2⟩:=World.cells?_some hvs
  have h3:vs.length=K∧ ∀i,i<K→w.cell? (ad.add i)=vs[i]? :=by
   unfold World.cells? at hvs
   rw[if_pos (Nat.zero_le _)]at hvs
   obtain⟨hl,hget⟩:=w8 hvs
   simp only[List.length_range]at hl
   refine⟨hl.symm,fun i hi=> ?_⟩
   have hv:i<vs.length:=by omega
   rw[aQv hv]
   exact hget i i vs[i] (by simp[hi]) (aQv hv)
  refine⟨h3.1,fun j u hu=> ?_⟩
  have hj:j<K:=by have:=(aQD.1 hu).1;simp at this;omega
  rw[h3.2 j hj];simpa using hu
 obtain⟨x0,_,vs0,hc0,_⟩:=each 0 hpos
 obtain⟨hl0,hlies0⟩:=lies _ _ hc0
 have hsp:a.spot=none:=by
  have hv:0<vs0.length:=by omega
  have:=World.cell?_spot (hlies0 0 vs0[0] (by simp[hv]))
  simpa[Addr.add]using this
 refine⟨a,rfl,h0,id,hsp,aIK _ _ fun i y hy=> ?_⟩
 simp only[aQL,aQE]at hy
 obtain⟨x,hx,rfl⟩:=hy
 obtain⟨_,vs,hcs,hv⟩:=hr i x hx
 obtain⟨hl1,hlies⟩:=lies _ _ hcs
 obtain⟨v,hv1,hv2⟩:=(hE x).2 w vs hv
 exact⟨v,hv1,by rw[hv2];simp[hl1],by rw[hv2];exact hlies⟩
def aL7 (P:Program)(t:TypeId){α:Type}(Q:α→Prop)(E:α→V):Prop:=
 ∀{H:Type}{enc:TypeId×Value→H}{w:World}{base:Nat}{v:Value}{d:DataW H}{p:List MemPlace},Value.okWide P w .any base t v→DataW.Trod enc P w 0 (fun _=>true) true t v d p→ ∃a:α,Q a∧VR rP [] w (E a) v
theorem aDs {w:World}{c:V}{v:Value}(h:VCells rP [] w [c] [v]):VR rP [] w c v:=by
 unfold VCells at h
 obtain⟨u,rest,h1,h2,_⟩:=h
 injection h1 with h1 h3
 subst h1
 exact h2
theorem aDo {α:Type}{Q:α→Prop}{C:α→List V}{E:α→V}{K:Nat}(ht:P.underlying t=some (.slice e))(he:zY P e Q C)(hK:P.cellsOf e=K)(h0:0<K)(hE:aJj K C E):aL7 P t (fun l:List α=> ∀x∈l,Q x) (eL K E):=by
 intro H enc w base v d p hv ⟨fuel,h⟩
 obtain⟨a,l,c,rfl⟩:=okWide_slice ht hv
 obtain⟨a,hq,hc⟩:=aAU ht he hK h0 hE h
 exact⟨a,hq,aDs hc⟩
theorem aHf {α:Type}{Q:α→Prop}{C:α→List V}{fs:Array Field}(ht:P.underlying t=some (.struct fs))(ho:zY P t Q C):aL7 P t Q (fun x=> .agg (C x)):=by
 intro H enc w base v d p hv ⟨fuel,h⟩
 obtain⟨cs,rfl,_⟩:=okWide_struct ht hv
 obtain⟨a,hq,hc⟩:=ho h
 exact⟨a,hq,by have:=aKd hc;simpa[Value.cells]using this⟩
end
end Go.Vm
namespace Go.Proofs.YtnllpckhipmpgaaGreatDoor
open Go Go.Vm
open Go.ChangeShapes Go.WideShapes Go.ChangeAt Go.RowKit
theorem aIE {W:World}{g:Nat}{xs:List Int}(hne:0<xs.length)(hc: ∀i,i<xs.length→W.cell? ⟨g,i,none⟩=some (.int .u32 (xs.getD i 0))):VR rP [] W (.eptr [.agg (xs.map fun x=> .sc (.int .u32 x))] 0 0) (.pointer (some ⟨g,0,none⟩)):=by
 unfold VR
 refine⟨⟨g,0,none⟩,xs.length,by simp[Addr.add],hne,fun _ hx=>hx,rfl, ?_, ?_⟩
 ·intro e he
  simp only[List.mem_singleton]at he
  subst he
  simp[V.okElem,V.flatOk,V.cells,V.one,List.all_map]
  exact fun _ _=>rfl
 unfold VRow
 refine⟨⟨.agg (xs.map fun x=>Value.int .u32 x).toArray, ?_,by simp[Value.cells], ?_⟩,by unfold VRow;trivial⟩
 ·unfold VR
  refine⟨xs.map fun x=>Value.int .u32 x,rfl, ?_⟩
  generalize xs=ys
  induction ys with
  |nil=>exact qP
  |cons y ys ih=>exact kX (aLU _) ih
 intro j u hu
 simp only[Value.cells,aRD,aQL,aQE]at hu
 obtain⟨x,hx,rfl⟩:=hu
 have hj:=(aQr.1 hx).1
 have:=hc j hj
 simp only[aRy,hx,Option.getD_some]at this
 have e:(⟨g,0,none⟩:Addr).add j=⟨g,j,none⟩:=by simp only[Addr.add];split<;>simp_all
 rw[e];exact this
theorem gK :Tryz.prog.globalNamed "lightclient/sha.k" =some 1:=by kernel_rfl
theorem gKt :(Tryz.prog.globals[1]?).map (·.type)=some 105:=by kernel_rfl
theorem gI :Tryz.prog.globalNamed "lightclient/sha.initial" =some 0:=by kernel_rfl
theorem gIt :(Tryz.prog.globals[0]?).map (·.type)=some 91:=by kernel_rfl
theorem aNl :Tryz.prog.cellsOf 105=64:=by kernel_rfl
theorem aNN :Tryz.prog.cellsOf 91=8:=by kernel_rfl
theorem aJD :Tryz.prog.cellsOf 41=1:=by kernel_rfl
theorem aP7 {W:World} (h:laidMetH Tryz.prog [("lightclient/sha.k",Rows.laid_lightclient_sha_k),("lightclient/sha.initial",Rows.laid_lightclient_sha_initial)] W):Lib.TabIs Tryz.prog W "lightclient/sha.k" .u32 aA3:=
 Lib.tabIs_of_head (rest:=[("lightclient/sha.initial",Rows.laid_lightclient_sha_initial)]) gK gKt Tryz.underlying105 Tryz.underlying41 aJD aNl h
theorem aPF {W:World} (h:laidMetH Tryz.prog [("lightclient/sha.k",Rows.laid_lightclient_sha_k),("lightclient/sha.initial",Rows.laid_lightclient_sha_initial)] W):Lib.TabIs Tryz.prog W "lightclient/sha.initial" .u32 tQ:=by
 have h2:=h.filter (fun x=>x.1 == "lightclient/sha.initial")
 exact Lib.tabIs_of_head (rest:=[]) gI gIt Tryz.underlying91 Tryz.underlying41 aJD aNN h2
theorem aOQ {W:World} (h:laidMetH Tryz.prog [("lightclient/sha.k",Rows.laid_lightclient_sha_k),("lightclient/sha.initial",Rows.laid_lightclient_sha_initial)] W):Globs rP W:=by
 intro g e hg
 unfold GT at hg
 split at hg
 ·injection hg with hg
  subst hg
  exact aIE (xs:=tQ) (by decide) (fun i hi=>(aPF h).cell gI i hi)
 ·injection hg with hg
  subst hg
  exact aIE (xs:=aA3) (by decide) (fun i hi=>(aP7 h).cell gK i hi)
 cases hg
theorem aCy {l:List Int}(hl: ∀x∈l,(Lit.int .u8 x).wf=true):Byt l:=by
 intro x hx
 have:=hl x hx
 simp[Lit.wf,IntKind.min,IntKind.max,IntKind.signed,IntKind.bits]at this;omega
def lay (i:Nat)(cs:Array Value)(h:Array Obj):Array Obj:=h.modify i fun
 | .cells _ t frozen=> .cells cs t frozen
 |o=>o
noncomputable def aCm (os:Os):World:=
 {World.holding Tryz.prog os ⟨#[],#[],[]⟩with heap:=lay 1 #[.int .u32 1116352408,.int .u32 1899447441,.int .u32 3049323471,.int .u32 3921009573,.int .u32 961987163,.int .u32 1508970993,.int .u32 2453635748,.int .u32 2870763221,.int .u32 3624381080,.int .u32 310598401,.int .u32 607225278,.int .u32 1426881987,.int .u32 1925078388,.int .u32 2162078206,.int .u32 2614888103,.int .u32 3248222580,.int .u32 3835390401,.int .u32 4022224774,.int .u32 264347078,.int .u32 604807628,.int .u32 770255983,.int .u32 1249150122,.int .u32 1555081692,.int .u32 1996064986,.int .u32 2554220882,.int .u32 2821834349,.int .u32 2952996808,.int .u32 3210313671,.int .u32 3336571891,.int .u32 3584528711,.int .u32 113926993,.int .u32 338241895,.int .u32 666307205,.int .u32 773529912,.int .u32 1294757372,.int .u32 1396182291,.int .u32 1695183700,.int .u32 1986661051,.int .u32 2177026350,.int .u32 2456956037,.int .u32 2730485921,.int .u32 2820302411,.int .u32 3259730800,.int .u32 3345764771,.int .u32 3516065817,.int .u32 3600352804,.int .u32 4094571909,.int .u32 275423344,.int .u32 430227734,.int .u32 506948616,.int .u32 659060556,.int .u32 883997877,.int .u32 958139571,.int .u32 1322822218,.int .u32 1537002063,.int .u32 1747873779,.int .u32 1955562222,.int .u32 2024104815,.int .u32 2227730452,.int .u32 2361852424,.int .u32 2428436474,.int .u32 2756734187,.int .u32 3204031479,.int .u32 3329325298] (lay 0 #[.int .u32 1779033703,.int .u32 3144134277,.int .u32 1013904242,.int .u32 2773480762,.int .u32 1359893119,.int .u32 2600822924,.int .u32 528734635,.int .u32 1541459225] (World.holding Tryz.prog os ⟨#[],#[],[]⟩).heap)}
end Go.Proofs.YtnllpckhipmpgaaGreatDoor
namespace Go.Vm
open Go
def aJr (O:tP)(G:FuncId→Bool):Prop:= ∀f h args r h',G f=true→O f h args=some (r,h')→ ∃news,h'=h++news
def aDW (G:FuncId→Bool)(o:Oper):Bool:=
 z8 o || (match o.op with
  | .call c=>match c.callee with
   | .value (.func f)=>G f
   | .builtin .append=>match c.args.toList with
    | [.const (.slice none 0 0),_]=>true
    |_=>false
   |_=>false
  |_=>false)
theorem aIe {P:Program}{t t':TypeId}{k:Nat}{y r:V}{h h':Hp}(hr:iM P t t' (.row (some true) k []) y h=some (r,h')): ∃news,h'=h++news:=by
 simp only[iM]at hr
 repeat' split at hr
 all_goals first|(cases hr;done)|(simp only[aQu,aQG]at hr;exact⟨_,by rw[←hr.2,aRk]⟩)
def aKx (O:tP)(F:FuncId→Bool):Prop:= ∀f h args r h',F f=true→O f h args=some (r,h')→ ∀h2,O f h2 args=some (r,h2)
def aEm (F:FuncId→Bool)(o:Oper):Bool:=
 match o.op with
 | .move _ | .assign _ | .nilCheck _ | .binOp _ _ _ _ _ | .unOp _ _ _ | .fieldAddr _ _ _ | .field _ _ _ | .indexAddr _ _ _ | .index _ _ _ | .extract _ _ | .sliceToArrayPointer _ _=>true
 | .call c=>match c.callee with
  | .value (.func f)=>F f
  |_=>false
 |_=>false
def aGI (F G:FuncId→Bool)(ops:Array Oper)(oj oi:Oper):Bool:=
 oj.apart ops oi&&(aEm F oj || aEm F oi || (tD F oj&&tD F oi) || (aDW G oj&&yR oi) || (yR oj&&aDW G oi))
section
variable {P:Program}{O O':tP}{F G:FuncId→Bool}{s:List V}{h h':Hp}{ops:Array Oper}
theorem inScope.mono {n m:Nat}(hnm:n≤m){z:V}(hz:inScope n z):inScope m z:=by
 cases z<;>first|trivial|exact aQ4 hz hnm
theorem Scoped.mono {n m:Nat}(hnm:n≤m){o:Oper}(hs:Scoped s o n):Scoped s o m:=fun y hy z hz=>(hs y hy z hz).mono hnm
theorem aAy {o:Oper}(hs:yR o=true): ∀(news:Hp){h:Hp},Scoped s o h.length→b4 P O ops o s (h++news)=(b4 P O ops o s h).map fun p=>(p.1,h++news)
 | [],h,hsc=>by
  simp only[aRh]
  cases hv:b4 P O ops o s h with
  |none=>rfl
  |some p=>
   obtain⟨v,g⟩:=p
   obtain rfl:g=h:=iV (F:=fun _=>false) (fun _ _ _ _ _ hf=>by cases hf) hs hv
   rfl
 |x::news,h,hsc=>by
  have e1:h++x::news=(h++[x])++news:=by simp
  rw[e1,aAy hs news (hsc.mono (by simp)),aA2 hs hsc]
  cases b4 P O ops o s h<;>rfl
theorem aCJ (hG:aJr O G){o:Oper}(hg:aDW G o=true){r:V}(hr:b4 P O ops o s h=some (r,h')): ∃news,h'=h++news:=by
 unfold b4 at hr
 split at hr
 ·rename_i hw
  clear hw
  simp only[aDW,aRw]at hg
  rcases hg with hg|hg
  ·obtain⟨B,hB⟩:=aEu hg hr;exact⟨_,hB⟩
  obtain⟨dst,op,type,pos,after,guard⟩:=o
  cases op<;>simp only[aQI]at hg
  case call c=>
   obtain⟨callee,args,argTypes⟩:=c
   cases callee<;>simp only[aQI]at hg
   case value f=>
    cases f<;>simp only[aQI]at hg
    case func f=>
     simp only[bC,tA]at hr
     split at hr
     ·cases hr
     exact hG _ _ _ _ _ hg hr
   case builtin b=>
    cases b<;>simp only[aQI]at hg
    case append=>
     split at hg
     ·rename_i y he
      simp only[bC,tA,he]at hr
      cases hy:ev s y with
      |none=>
       have h2:wO s [.const (.slice none 0 0),y]=none:=by simp only[wO,aQV,List.mapM_nil,hy,show ev s (.const (.slice none 0 0))=some (.row (some true) 1 [])from rfl];rfl
       rw[h2]at hr
       cases hr
      |some z=>
       have h2:wO s [.const (.slice none 0 0),y]=some [.row (some true) 1 [],z]:=by simp only[wO,aQV,List.mapM_nil,hy,show ev s (.const (.slice none 0 0))=some (.row (some true) 1 [])from rfl];rfl
       rw[h2]at hr
       revert hr
       rcases argTypes.toList with _|⟨t,_|⟨t',_|⟨t'',l⟩⟩⟩<;>intro hr
       ·cases hr
       ·cases hr
       ·exact aIe hr
       cases hr
     cases hg
 ·simp only[aQu,aQG]at hr;exact⟨[],by simp[hr.2]⟩
 cases hr
theorem aHw (hF:t4 O F)(hU:aKx O F){o:Oper}(hf:aEm F o=true){r:V}(hr:b4 P O ops o s h=some (r,h')):h'=h∧ ∀h2,b4 P O ops o s h2=some (r,h2):=by
 unfold b4 at hr⊢
 cases hw:j6 ops o s with
 |none=>rw[hw]at hr;cases hr
 |some b=>
  rw[hw]at hr
  cases b with
  |false=>
   simp only[aQu,aQG]at hr⊢
   exact⟨hr.2.symm,fun h2=>⟨hr.1,trivial⟩⟩
  |true=>
   simp only at hr⊢
   clear hw
   obtain⟨dst,op,type,pos,after,guard⟩:=o
   cases op<;>simp only[aEm,aQI]at hf
   case call c=>
    obtain⟨callee,args,argTypes⟩:=c
    cases callee<;>simp only[aQI]at hf
    case value f=>
     cases f<;>simp only[aQI]at hf
     case func f=>
      simp only[bC,tA]at hr⊢
      cases hx:wO s args.toList with
      |none=>rw[hx]at hr;cases hr
      |some xs=>
       rw[hx]at hr
       simp only at hr⊢
       exact⟨hF _ _ _ _ _ hf hr,hU _ _ _ _ _ hf hr⟩
   all_goals
    simp only[bC,aRf,aQE,aQG]at hr
    first
     |(obtain⟨a,ha,rfl,rfl⟩:=hr;exact⟨rfl,fun h2=>by simp[bC,ha]⟩)
     |(obtain⟨a,ha,b,hb,rfl,rfl⟩:=hr;exact⟨rfl,fun h2=>by simp[bC,ha,hb]⟩)
     |(obtain⟨a,ha,b,hb,c,hc,rfl,rfl⟩:=hr;exact⟨rfl,fun h2=>by simp[bC,ha,hb,hc]⟩)
def StepR (P:Program)(F G:FuncId→Bool)(ops:Array Oper)(o:Oper)(s:List V)(h:Hp)(s1:List V)(h1:Hp):Prop:=
 ∃O,uU P O∧t4 O F∧aJr O G∧aKx O F∧nL P O ops o s h=some (s1,h1)
theorem StepR.comm {oj oi:Oper}(hp:aGI F G ops oj oi=true)(hsi:Scoped s oi h.length)(hsj:Scoped s oj h.length){s1 s2:List V}{h1 h2:Hp}
  (e1:StepR P F G ops oj s h s1 h1) (e2:StepR P F G ops oi s1 h1 s2 h2): ∃s3 h3,StepR P F G ops oi s h s3 h3∧StepR P F G ops oj s3 h3 s2 h2:=by
 obtain⟨O1,ok1,hF1,hG1,hU1,e1⟩:=e1
 obtain⟨O2,ok2,hF2,hG2,hU2,e2⟩:=e2
 simp only[aGI,aQH,aRw]at hp
 obtain⟨hap,hp⟩:=hp
 obtain⟨a1,a2,a3⟩:=Oper.apart_spec hap
 rw[b6]at e1 e2
 simp only[aQE,aQG]at e1 e2
 obtain⟨⟨v1,g1⟩,f1,rfl,rfl⟩:=e1
 obtain⟨⟨v2,g2⟩,f2,rfl,rfl⟩:=e2
 simp only at f1 f2⊢
 rw[gR oi _ _ a1]at f2
 rcases hp with(((hj|hi)|⟨hj,hi⟩)|⟨hj,hi⟩)|⟨hj,hi⟩
 ·obtain⟨rfl,hall⟩:=aHw hF1 hU1 hj f1
  refine⟨iG s oi.dst v2,g2,⟨O2,ok2,hF2,hG2,hU2,by rw[b6,f2];rfl⟩,O1,ok1,hF1,hG1,hU1, ?_⟩
  rw[b6,gR oj _ _ a3,hall g2]
  simp only[aQA]
  rw[mB s v1 v2 a2]
 ·obtain⟨rfl,hall⟩:=aHw hF2 hU2 hi f2
  refine⟨iG s oi.dst v2,h,⟨O2,ok2,hF2,hG2,hU2,by rw[b6,hall h];rfl⟩,O1,ok1,hF1,hG1,hU1, ?_⟩
  rw[b6,gR oj _ _ a3,f1]
  simp only[aQA]
  rw[mB s v1 v2 a2]
 ·obtain rfl:=iV hF1 hj f1
  obtain rfl:=iV hF2 hi f2
  refine⟨iG s oi.dst v2,_,⟨O2,ok2,hF2,hG2,hU2,by rw[b6,f2];rfl⟩,O1,ok1,hF1,hG1,hU1, ?_⟩
  rw[b6,gR oj _ _ a3,f1]
  simp only[aQA]
  rw[mB s v1 v2 a2]
 ·obtain⟨news,rfl⟩:=aCJ hG1 hj f1
  rw[aAy hi news hsi]at f2
  simp only[aQE,aQG]at f2
  obtain⟨⟨v3,g3⟩,f3,rfl,rfl⟩:=f2
  obtain rfl:g3=h:=iV (F:=fun _=>false) (fun _ _ _ _ _ hf=>by cases hf) hi f3
  refine⟨iG s oi.dst v3,g3,⟨O2,ok2,hF2,hG2,hU2,by rw[b6,f3];rfl⟩,O1,ok1,hF1,hG1,hU1, ?_⟩
  rw[b6,gR oj _ _ a3,f1]
  simp only[aQA]
  rw[mB s v1 v3 a2]
 obtain rfl:g1=h:=iV (F:=fun _=>false) (fun _ _ _ _ _ hf=>by cases hf) hj f1
 refine⟨iG s oi.dst v2,g2,⟨O2,ok2,hF2,hG2,hU2,by rw[b6,f2];rfl⟩,O1,ok1,hF1,hG1,hU1, ?_⟩
 obtain⟨news,rfl⟩:=aCJ hG2 hi f2
 rw[b6,gR oj _ _ a3,aAy hj news hsj,f1]
 simp only[aQA]
 rw[mB s v1 v2 a2]
def aJb (s:List V)(h:Hp):Prop:= ∃A M a w,Rel A M s h a w
theorem StepR.real {i:Nat}{o:Oper}(hi:ops[i]? =some o){s1:List V}{h1:Hp}(hr:aJb s h)(e:StepR P F G ops o s h s1 h1):aJb s1 h1:=by
 obtain⟨A,M,a,w,R⟩:=hr
 obtain⟨O,ok,_,_,_,e⟩:=e
 obtain⟨a',w',M',R'⟩:=aDl (tK (Q:=fun _ _ _=>False) ok R hi e (K:=fun a' w'=> ∃M',Rel A M' s1 h1 a' w') fun a' w' M' _ R'=>⟨M',R'⟩)
 exact⟨A,M',a',w',R'⟩
def aOX (P:Program)(N:Nat)(ops:Array Oper)(m:Nat)(listed:Array Bool)(s:List V)(h:Hp)(K:List V→Hp→Prop):Prop:=
 ∀(A:Nat→Prop)(M0 M:List (Option Nat))(h0:Hp)(w0:World)(a:Act)(w:World)(Q:Exit→Act→World→Prop),h0.length=N→M0.length=N→Grow A M0 h0 w0 M h w→Rel A M s h a w→
  (∀s' h' M' a' w',K s' h'→Grow A M0 h0 w0 M' h' w'→Rel A M' s' h' a' w'→Q .normal a' w')→wpAny P .any ops Q m listed a w
def aHh (ops:Array Oper)(listed:Array Bool):Bool:=
 (aRq ops.size).all fun j=>listed.getD j true || (aRq ops.size).all fun i=> !(listed.getD i false) || (aG3 ops j j [j]).contains i
def Good (P:Program)(N:Nat)(F G:FuncId→Bool)(ops:Array Oper)(K:List V→Hp→Prop):Nat→Array Bool→List V→Hp→Prop
 |0,listed,s,h=>fD ops.size listed=[]∧K s h
 |n+1,listed,s,h=>(aHh ops listed=true∧aOX P N ops (n+1) listed s h K)∨(aJb s h→Region.ready .any ops listed≠ []∧ ∀i∈Region.ready .any ops listed,∃o s1 h1,ops[i]? =some o∧StepR P F G ops o s h s1 h1∧Good P N F G ops K n (listed.setIfInBounds i true) s1 h1)
theorem aKo {listed:Array Bool}{i:Nat}(hi:i∈Region.ready .any ops listed):i∈fD ops.size listed:=by
 obtain⟨h1,o,ho,_⟩:=mem_ready.1 hi
 simp only[fD,aRY,List.mem_range]
 exact⟨(aQD.1 ho).1,by simp[h1]⟩
theorem Good.sound {N:Nat}{A:Nat→Prop}{M0:List (Option Nat)}{h0:Hp}(hN:h0.length=N)(hM:M0.length=N){w0:World}{K:List V→Hp→Prop}{Q:Exit→Act→World→Prop}:
  ∀(n:Nat)(listed:Array Bool){M:List (Option Nat)}{s:List V}{h:Hp}{a:Act}{w:World},Good P N F G ops K n listed s h→Grow A M0 h0 w0 M h w→Rel A M s h a w→
  (∀s' h' M' a' w',K s' h'→Grow A M0 h0 w0 M' h' w'→Rel A M' s' h' a' w'→Q .normal a' w')→wpAny P .any ops Q n listed a w
 |0,listed,M,s,h,a,w,hg,Gr,R,hQ=>by
  obtain⟨hnil,hk⟩:=hg
  refine⟨?_,hQ s h M a w hk Gr R⟩
  apply List.eq_nil_iff_forall_not_mem.2
  intro i hi
  have:=aKo hi
  rw[hnil]at this
  cases this
 |n+1,listed,M,s,h,a,w,hg,Gr,R,hQ=>by
  rcases hg with⟨_,hg⟩|hg
  ·exact hg A M0 M h0 w0 a w Q hN hM Gr R hQ
  obtain⟨hne,hall⟩:=hg ⟨A,M,a,w,R⟩
  refine⟨fun hn=>absurd hn hne,fun i hi=> ?_⟩
  obtain⟨o,s1,h1,ho,⟨O,ok,_,_,_,e⟩,hg'⟩:=hall i hi
  refine tK ok R ho e fun a' w' M' G' R'=> ?_
  exact Good.sound hN hM n _ hg' (Gr.trans G') R' hQ
def aBe (F G:FuncId→Bool)(ops:Array Oper)(listed:Array Bool)(i:Nat):Bool:=
 (Region.ready .any ops listed).contains i&&(match ops[i]? with
  |none=>false
  |some oi=>(aRq ops.size).all fun j=>(j == i) || listed.getD j true || (match ops[j]? with
   |none=>true
   |some oj=>aGI F G ops oi oj || (aG3 ops j j [j]).contains i))
theorem aB2 {listed:Array Bool}{i:Nat}(d:Bool)(hi:i<listed.size):(listed.setIfInBounds i true).getD i d=true:=by simp[hi]
theorem aGp (listed:Array Bool)(i j:Nat):(listed.setIfInBounds i true).setIfInBounds j true=(listed.setIfInBounds j true).setIfInBounds i true:=by
 by_cases hij:i=j
 ·subst hij;rfl
 apply Array.ext'
 apply aQ9
 intro k
 simp only[Array.getElem?_toList,Array.getElem?_setIfInBounds]
 by_cases h1:i=k<;>by_cases h2:j=k<;>simp_all
theorem aJ9 {listed:Array Bool}{i j:Nat}{oj:Oper}(hi:i<ops.size)(hc:aA8 ops listed)(hsz:listed.size=ops.size)(hcut:aHh ops (listed.setIfInBounds i true)=true)(hij:i≠j)(huni:listed.getD i true=false)(hunj:listed.getD j true=false)(hoj:ops[j]? =some oj)(hprej: ∀e∈oj.after,Region.binds .any e=true→listed.getD e.on false=true):False:=by
 have hjn:j<ops.size:=(aQD.1 hoj).1
 have h1:=aQx.1 hcut j (by simpa using hjn)
 rw[getD_set_ne true hij,hunj]at h1
 simp only[aRM]at h1
 have h2:=aQx.1 h1 i (by simpa using hi)
 rw[aB2 false (by rw[hsz];exact hi)]at h2
 simp only[Bool.not_true,aRM]at h2
 rcases xV hc hoj hprej j [j] (by simp) i (by simpa using h2)with h4|h4
 ·exact hij h4
 have:=getD_both huni
 rw[h4]at this;cases this
theorem Good.pick {N:Nat}{K:List V→Hp→Prop}: ∀(n:Nat){listed:Array Bool}{s:List V}{h:Hp}{i:Nat}{oi:Oper}{s1:List V}{h1:Hp},listed.size=ops.size→aA8 ops listed→aBe F G ops listed i=true→ops[i]? =some oi→StepR P F G ops oi s h s1 h1→
  Good P N F G ops K n (listed.setIfInBounds i true) s1 h1→Good P N F G ops K (n+1) listed s h
 |0,listed,s,h,i,oi,s1,h1,hsz,hc,hp,hoi,e,hg=>by
  refine .inr fun hr=> ?_
  simp only[aBe,aQH]at hp
  have hi:i∈Region.ready .any ops listed:=by simpa using hp.1
  refine⟨(fun hn=>by rw[hn]at hi;cases hi),fun j hj=> ?_⟩
  by_cases hij:i=j
  ·subst hij;exact⟨oi,s1,h1,hoi,e,hg⟩
  exfalso
  obtain⟨hun,oj,hoj,_⟩:=mem_ready.1 hj
  have:j∈fD ops.size (listed.setIfInBounds i true):=by
   simp only[fD,aRY,List.mem_range]
   exact⟨(aQD.1 hoj).1,by rw[getD_set_ne true hij,hun];rfl⟩
  rw[hg.1]at this
  cases this
 |n+1,listed,s,h,i,oi,s1,h1,hsz,hc,hp,hoi,e,hg=>by
  refine .inr fun hr=> ?_
  have hp0:=hp
  simp only[aBe,aQH]at hp
  have hi:i∈Region.ready .any ops listed:=by simpa using hp.1
  obtain⟨huni,_,hoi',hprei⟩:=mem_ready.1 hi
  obtain rfl:oi=_:=aQN (hoi.symm.trans hoi')
  refine⟨(fun hn=>by rw[hn]at hi;cases hi),fun j hj=> ?_⟩
  by_cases hij:i=j
  ·subst hij;exact⟨oi,s1,h1,hoi,e,hg⟩
  obtain⟨hunj,oj,hoj,hprej⟩:=mem_ready.1 hj
  have hjn:j<ops.size:=(aQD.1 hoj).1
  have hin:i<ops.size:=(aQD.1 hoi).1
  have hj':j∈Region.ready .any ops (listed.setIfInBounds i true):=mem_ready.2 ⟨by rw[getD_set_ne true hij];exact hunj,oj,hoj,fun ed he hb=>getD_set_true (hprej ed he hb)⟩
  have hr1:aJb s1 h1:=e.real hoi hr
  rcases hg with⟨hcut,_⟩|hg
  ·exact(aJ9 hin hc hsz hcut hij huni hunj hoj hprej).elim
  obtain⟨_,hall⟩:=hg hr1
  obtain⟨oj',s2,h2,hoj',e2,hg2⟩:=hall j hj'
  obtain rfl:oj=oj':=aQN (hoj.symm.trans hoj')
  have hpair:aGI F G ops oi oj=true:=by
   rw[hoi]at hp
   have h3:=aQx.1 hp.2 j (by simpa using hjn)
   simp only[hoj,aRw,beq_iff_eq]at h3
   rcases h3 with(h3|h3)|(h3|h3)
   ·exact absurd h3.symm hij
   ·rw[hunj]at h3;cases h3
   ·exact h3
   exfalso
   rcases xV hc hoj hprej j [j] (by simp) i (by simpa using h3)with h4|h4
   ·exact hij h4
   have:=getD_both huni
   rw[h4]at this;cases this
  obtain⟨A,M,a,w,R⟩:=hr
  have hsc:=R.scopeOk
  obtain⟨s3,h3,f1,f2⟩:=StepR.comm hpair (hsc.op oj) (hsc.op oi) e e2
  refine⟨oj,s3,h3,hoj,f1, ?_⟩
  have hc':aA8 ops (listed.setIfInBounds j true):=by
   intro k ok hk hl ed he hb
   by_cases hjk:j=k
   ·subst hjk
    obtain rfl:ok=oj:=aQN (hk.symm.trans hoj)
    exact getD_set_true (hprej ed he hb)
   rw[getD_set_ne false hjk]at hl
   exact getD_set_true (hc k ok hk hl ed he hb)
  have hp':aBe F G ops (listed.setIfInBounds j true) i=true:=by
   have hi2:i∈Region.ready .any ops (listed.setIfInBounds j true):=mem_ready.2 ⟨by rw[getD_set_ne true (Ne.symm hij)];exact huni,oi,hoi,fun ed he hb=>getD_set_true (hprei ed he hb)⟩
   simp only[aBe,aQH,hoi]
   refine⟨by simpa using hi2,aQx.2 fun k hk=> ?_⟩
   rw[hoi]at hp
   have h3:=aQx.1 hp.2 k hk
   simp only[aRw]at h3⊢
   rcases h3 with(h3|h3)|h3
   ·exact .inl (.inl h3)
   ·refine .inl (.inr ?_)
    by_cases hjk:j=k
    ·subst hjk;exact aB2 true (by rw[hsz];exact hjn)
    rw[getD_set_ne true hjk];exact h3
   exact .inr h3
  refine Good.pick n (by simpa using hsz) hc' hp' hoi f2 ?_
  rw[aGp]
  exact hg2
def DrawG (P:Program)(N:Nat)(F G:FuncId→Bool)(ops:Array Oper)(n:Nat)(listed:Array Bool)(s:List V)(h:Hp)(K:List V→Hp→Prop):Prop:=Good P N F G ops K n listed s h
def aIJ (ops:Array Oper)(listed:Array Bool):Bool:=
 (aRq ops.size).all fun j=>match ops[j]? with
  |none=>true
  |some oj=> !(listed.getD j false) || oj.after.all fun e=> !(Region.binds .any e) || listed.getD e.on false
theorem aGP {listed:Array Bool}(hb:aIJ ops listed=true):aA8 ops listed:=by
 intro j oj hj hl e he hbi
 have hjn:j<ops.size:=(aQD.1 hj).1
 have h1:=aQx.1 hb j (by simpa using hjn)
 simp only[hj,hl,Bool.not_true,aRM]at h1
 have h2:=Array.all_eq_true_iff_forall_mem.1 h1 e he
 simpa[hbi]using h2
variable {N n m t:Nat}{fr:List (Nat×V)}{K:List V→Hp→Prop}{op:Op}{ty:TypeId}{pos:String}{aft:Array Edge}{v:V}{gd:Option (Nat×Bool)}{listed:Array Bool}{i:Nat}
theorem DrawG.nil (hr:fD ops.size listed=[])(hk:K s h):DrawG P N F G ops 0 listed s h K:=⟨hr,hk⟩
def aFp (F G:FuncId→Bool)(ops:Array Oper)(listed:Array Bool)(i:Nat):Bool:=(listed.size == ops.size)&&aIJ ops listed&&aBe F G ops listed i
theorem DrawG.pick {o:Oper}{s1:List V}{h1:Hp}(hp:aFp F G ops listed i=true)(ho:ops[i]? =some o)(e:StepR P F G ops o s h s1 h1)(k:DrawG P N F G ops n (listed.setIfInBounds i true) s1 h1 K):DrawG P N F G ops (n+1) listed s h K:=by
 simp only[aFp,aQH,beq_iff_eq]at hp
 exact Good.pick n hp.1.1 (aGP hp.1.2) hp.2 ho e k
def Fork (P:Program)(N:Nat)(F G:FuncId→Bool)(ops:Array Oper)(n:Nat)(listed:Array Bool)(s:List V)(h:Hp)(K:List V→Hp→Prop):List Nat→Prop
 | []=>True
 |i::l=>(∃o s1 h1,ops[i]? =some o∧StepR P F G ops o s h s1 h1∧DrawG P N F G ops n (listed.setIfInBounds i true) s1 h1 K)∧Fork P N F G ops n listed s h K l
theorem Fork.all : ∀{l:List Nat},Fork P N F G ops n listed s h K l→ ∀i∈l,∃o s1 h1,ops[i]? =some o∧StepR P F G ops o s h s1 h1∧Good P N F G ops K n (listed.setIfInBounds i true) s1 h1
 | [],_,i,hi=>by cases hi
 |j::l,hf,i,hi=>by
  rcases aRo.1 hi with rfl|hi
  ·exact hf.1
  exact Fork.all hf.2 i hi
theorem DrawG.fork (l:List Nat)(hl:Region.ready .any ops listed=l)(hne:l≠ [])(hf:Fork P N F G ops n listed s h K l):DrawG P N F G ops (n+1) listed s h K:=by
 refine .inr fun _=> ?_
 rw[hl]
 exact⟨hne,hf.all⟩
theorem DrawG.gh {s':List V}(hc:aHh ops listed=true)(hg:Ghost N s h s' h')(k:DrawG P N F G ops (n+1) listed s' h' K):DrawG P N F G ops (n+1) listed s h K:=by
 refine .inl ⟨hc,fun A M0 M h0 w0 a w Q hN hM Gr R hQ=> ?_⟩
 obtain⟨t,ht⟩:=Gr.pre
 have hle:N≤M.length:=by rw[←ht];simp[hM]
 obtain⟨M',h1,h2,h3⟩:=hg A M a w hle R
 refine Good.sound hN hM _ _ k ⟨?_,h2.hr,Gr.ext,fun g hg hl=>Gr.live g hg (h3 g hl)⟩ h2 hQ
 have:M0=M'.take N:=by rw[h1,←ht,←hM];simp
 rw[this]
 exact aRB _ _
theorem Fork.nil :Fork P N F G ops n listed s h K []:=trivial
theorem Fork.cons {l:List Nat}{o:Oper}{s1:List V}{h1:Hp}(ho:ops[i]? =some o)(e:StepR P F G ops o s h s1 h1)(k:DrawG P N F G ops n (listed.setIfInBounds i true) s1 h1 K)(r:Fork P N F G ops n listed s h K l):Fork P N F G ops n listed s h K (i::l):=⟨⟨o,s1,h1,ho,e,k⟩,r⟩
def lst (l:List Nat)(n:Nat):Array Bool:=l.foldl (fun a i=>a.setIfInBounds i true) (aRZ n false)
theorem DrawG.jn {L:Array Bool}{m:Nat}{s1:List V}{h1:Hp}(k:DrawG P N F G ops m L s1 h1 K)(q:DrawG P N F G ops m L s1 h1 K→DrawG P N F G ops n listed s h K):DrawG P N F G ops n listed s h K:=q k
theorem DrawG.jg {L:Array Bool}{s':List V}(hL:listed=L)(hc:aHh ops L=true)(hg:Ghost N s h s' h')(k:DrawG P N F G ops (n+1) L s' h' K):DrawG P N F G ops (n+1) listed s h K:=by
 subst hL
 exact DrawG.gh hc hg k
theorem aIt :t4 O0 F:=fun _ _ _ _ _ _ hh=>by cases hh
theorem aJJ :aJr O0 G:=fun _ _ _ _ _ _ hh=>by cases hh
theorem aLZ :aKx O0 F:=fun _ _ _ _ _ _ hh=>by cases hh
theorem gS (hs:b4 P O0 ops ⟨some t,op,ty,pos,aft,gd⟩ (aE m fr) h=some (v,h')):StepR P F G ops ⟨some t,op,ty,pos,aft,gd⟩ (aE m fr) h (aE m ((t,v)::fr)) h':=
 ⟨O0,aGC,aIt,aJJ,aLZ,by rw[b6,hs];simp only[aQA];rw[aDI]⟩
theorem gN (hs:b4 P O0 ops ⟨none,op,ty,pos,aft,gd⟩ (aE m fr) h=some (v,h')):StepR P F G ops ⟨none,op,ty,pos,aft,gd⟩ (aE m fr) h (aE m fr) h':=
 ⟨O0,aGC,aIt,aJJ,aLZ,by rw[b6,hs];rfl⟩
theorem gC {f:FuncId}{xs:List V}(hc:Fn P f h xs v h')(hF:F f=false)(hG:G f=true→ ∃news,h'=h++news)(hs:b4 P (aBx f h xs v h') ops ⟨some t,op,ty,pos,aft,gd⟩ (aE m fr) h=some (v,h')):
  StepR P F G ops ⟨some t,op,ty,pos,aft,gd⟩ (aE m fr) h (aE m ((t,v)::fr)) h':=by
 refine⟨aBx f h xs v h',aE8 hc, ?_, ?_, ?_,by rw[b6,hs];simp only[aQA];rw[aDI]⟩
 ·intro k h1 args r1 h2 hk hh
  unfold aBx at hh
  split at hh
  ·rename_i he
   rw[he.1,hF]at hk;cases hk
  cases hh
 ·intro k h1 args r1 h2 hk hh
  unfold aBx at hh
  split at hh
  ·rename_i he
   obtain⟨rfl,rfl,rfl⟩:=he
   simp only[aQu,aQG]at hh
   rw[←hh.2];exact hG hk
  cases hh
 intro k h1 args r1 h2 hk hh
 unfold aBx at hh
 split at hh
 ·rename_i he
  rw[he.1,hF]at hk;cases hk
 cases hh
open Classical in
noncomputable def aE9 (f:FuncId)(xs:List V)(r:V):tP:=fun k h1 xs1=>if k=f∧xs1=xs then some (r,h1)else none
theorem r5 {f:FuncId}{xs:List V}{r:V}:aE9 f xs r f h xs=some (r,h):=by simp[aE9]
theorem gU {f:FuncId}{xs:List V}(hc: ∀h,Fn P f h xs v h)(hG:G f=false)(hs:b4 P (aE9 f xs v) ops ⟨some t,op,ty,pos,aft,gd⟩ (aE m fr) h=some (v,h)):
  StepR P F G ops ⟨some t,op,ty,pos,aft,gd⟩ (aE m fr) h (aE m ((t,v)::fr)) h:=by
 have key: ∀{k h1 args r1 h2},aE9 f xs v k h1 args=some (r1,h2)→k=f∧args=xs∧r1=v∧h2=h1:=by
  intro k h1 args r1 h2 hh
  unfold aE9 at hh
  split at hh
  ·rename_i he
   simp only[aQu,aQG]at hh
   exact⟨he.1,he.2,hh.1.symm,hh.2.symm⟩
  cases hh
 refine⟨aE9 f xs v, ?_, ?_, ?_, ?_,by rw[b6,hs];simp only[aQA];rw[aDI]⟩
 ·intro k h1 args r1 h2 hh
  obtain⟨rfl,rfl,rfl,rfl⟩:=key hh
  exact hc _
 ·intro k h1 args r1 h2 _ hh
  exact(key hh).2.2.2
 ·intro k h1 args r1 h2 hk hh
  rw[(key hh).1,hG]at hk;cases hk
 intro k h1 args r1 h2 _ hh h3
 obtain⟨rfl,rfl,rfl,_⟩:=key hh
 exact r5
def eE (l:List Nat):FuncId→Bool:=fun f=>l.elem f
end
theorem AB.rd {P:Program}{N:Nat}{Q:Ex→List V→Hp→Prop}{s:List V}{h:Hp}(F G:FuncId→Bool)(hm:P.follows .mixedOrders=true){id:Nat}{l:List Oper}(hr:DrawG P N F G l.toArray l.toArray.size (aRZ l.toArray.size false) s h (Q .normal)):AB P N (.region id l.toArray true) Q s h:=by
 intro A M0 M h0 w0 a w hN hM Gr R
 refine wp_region_any hm ?_
 have R':Rel A M s h a w.drew:=⟨R.hr.drew,SR.keep (Grow.drew R.hr) R.sr,R.defers⟩
 exact Good.sound hN hM _ _ hr (Gr.trans (Grow.drew R.hr)) R' (fun s' h' M' a' w' hk G' R''=>⟨.normal,s',h',M',rfl,hk,G',R''⟩)
def Conv (h h':Hp)(x y:V):Prop:= ∀(A:Nat→Prop)(M:List (Option Nat))(w:World)(v:Value),HR A M h w→VR (Xs A M h) M w x v→VR (Xs A M h') M w y v
def Convs (h h':Hp):List V→List V→Prop
 | [],[]=>True
 |x::xs,y::ys=>Conv h h' x y∧Convs h h' xs ys
 |_,_=>False
def Sub (h h':Hp):Prop:= ∀(b:Nat)(B':Blk),h'[b]? =some (some B')→ ∃B,h[b]? =some (some B)
theorem Sub.live {h h':Hp}(hs:Sub h h'){M:List (Option Nat)}{g:Nat}(hl:cX M h' g):cX M h g:=by
 obtain⟨b,B,hb,hm⟩:=hl
 obtain⟨C,hc⟩:=hs b B hb
 exact⟨b,C,hc,hm⟩
theorem Sub.xs {h h':Hp}(hs:Sub h h'){A:Nat→Prop}{M:List (Option Nat)}{g:Nat}(hl:Xs A M h' g):Xs A M h g:=hl.elim .inl (fun k=> .inr (hs.live k))
theorem Conv.same {h h':Hp}(hs:Sub h h'){x:V}:Conv h h' x x:=fun _ _ _ _ _ hv=>hv.avoid (fun _ _ hx=>hs.xs hx)
theorem Conv.any {h h':Hp}{x:V}:Conv h h' x .any:=fun _ _ _ _ _ _=>by unfold VR;trivial
theorem Convs.len {h h':Hp}: ∀{xs ys:List V},Convs h h' xs ys→xs.length=ys.length
 | [],[],_=>rfl
 |_::_,_::_,k=>by simp[Convs.len k.2]
 | [],_::_,k=>k.elim
 |_::_,[],k=>k.elim
theorem Convs.sound {h h':Hp}{A:Nat→Prop}{M:List (Option Nat)}{w:World}(H:HR A M h w): ∀{xs ys:List V}{vs:List Value},Convs h h' xs ys→VCells (Xs A M h) M w xs vs→VCells (Xs A M h') M w ys vs
 | [],[],vs,_,hv=>by unfold VCells at *; exact hv
 |x::xs,y::ys,vs,k,hv=>by
  unfold VCells at *
  obtain⟨v,rest,e1,e2,e3⟩:=hv
  exact⟨v,rest,e1,k.1 A M w v H e2,Convs.sound H k.2 e3⟩
 | [],_::_,_,k,_=>k.elim
 |_::_,[],_,k,_=>k.elim
theorem Convs.same {h h':Hp}(hs:Sub h h'): ∀{xs:List V},Convs h h' xs xs
 | []=>trivial
 |_::_=>⟨Conv.same hs,Convs.same hs⟩
theorem Convs.nil {h h':Hp}:Convs h h' [] []:=trivial
theorem Convs.cons {h h':Hp}{x y:V}{xs ys:List V}(a:Conv h h' x y)(k:Convs h h' xs ys):Convs h h' (x::xs) (y::ys):=⟨a,k⟩
theorem Conv.agg {h h':Hp}{xs ys:List V}(k:Convs h h' xs ys):Conv h h' (.agg xs) (.agg ys):=fun A M w v H hv=>by
 unfold VR at *
 obtain⟨vs,e,hc⟩:=hv
 exact⟨vs,e,Convs.sound H k hc⟩
theorem Conv.tup {h h':Hp}{xs ys:List V}(k:Convs h h' xs ys):Conv h h' (.tup xs) (.tup ys):=fun A M w v H hv=>by
 unfold VR at *
 obtain⟨vs,e,hc⟩:=hv
 exact⟨vs,e,Convs.sound H k hc⟩
def V.shut :V→Bool
 | .sc _ | .row _ _ _ | .eptr _ _ _=>true
 |_=>false
theorem VR.shut {X:Nat→Prop}{M:List (Option Nat)}{w:World}{x:V}{v:Value}(hx:x.shut=true)(h:VR X M w x v):VR X [] w x v:=by
 cases x<;>first|(unfold VR at *; exact h)|(simp[V.shut]at hx)
theorem dB {α:Type}{p:V→Bool}{E:α→V}{l:List α}(h: ∀x,p (E x)=true):(l.map E).all p=true:=by
 rw[aQx];intro y hy
 simp only[aRR]at hy
 obtain⟨x,_,rfl⟩:=hy
 exact h x
theorem aIN {x:V}(h:x.one=true):x.okElem 1=true:=by
 have hc:x.cells=[x]:=by cases x<;>first|rfl|simp[V.one]at h
 simp[V.okElem,V.flatOk,hc,h]
theorem aD5 {X:Nat→Prop}{w:World}{g:Nat}{cs:Array Value}{e:TypeId}{f:Nat×Nat}(hw:w.heap[g]? =some (.cells cs e f)): ∀(xs:List V)(i:Nat),(∀c∈xs,c.one=true∧c.shut=true)→VCells X [] w xs ((cs.toList.drop i).take xs.length)→VRow X [] w 1 xs ⟨g,i,none⟩
 | [],i,_,_=>by unfold VRow;trivial
 |x::xs,i,ho,hv=>by
  unfold VCells at hv
  obtain⟨v,rest,e1,e2,e3⟩:=hv
  have hi:i<cs.toList.length:=by
   rcases aQU i cs.toList.length with hl|hl
   ·exact hl
   rw[aQJ hl]at e1;simp at e1
  rw[aQY hi]at e1
  simp only[aQS,aRJ,List.cons.injEq]at e1
  obtain⟨ev,er⟩:=e1
  have h1:=(ho x (by simp)).1
  have hcell:v.cells= #[v]:=dK (e2.oneCell h1)
  unfold VRow
  refine⟨⟨v,e2,by rw[hcell];rfl, ?_⟩, ?_⟩
  ·rw[hcell]
   intro j u hu
   have hj:j=0:=by have:=(aQD.1 hu).1;simp at this;exact this
   subst hj
   simp at hu
   subst hu
   simp only[Addr.add,if_true]
   unfold World.cell?
   rw[hw]
   subst ev
   simp at hi
   simp[hi]
  have:(⟨g,i,none⟩:Addr).add 1=⟨g,i+1,none⟩:=by simp[Addr.add]
  rw[this]
  exact aD5 hw xs (i+1) (fun c hc=>ho c (by simp[hc])) (by rw[er];exact e3)
theorem Conv.row {h h':Hp}(hs:Sub h h'){b n:Nat}{e:TypeId}{cs:List V}{ag:Bool}(hb:h[b]? =some (some ⟨e,cs⟩))(hb':h'[b]? =some none)(hsh:cs.all V.shut=true)(hn:n=cs.length):Conv h h' (.sl b 0 n 1 ag) (.row none 1 cs):=by
 intro A M w v H hv
 obtain⟨hone,hcase⟩:=H.blk b _ hb
 unfold VR at hv⊢
 rcases hv with⟨hm,rfl,h0,_⟩|⟨g,cap,e',sz,hm,rfl,h1,_,h3,hshp,_⟩
 ·have:cs=[]:=aQy (by omega)
  subst this
  exact⟨none,0,rfl,aQX _,fun _=>rfl,(fun b hb=>by cases hb),by simp,fun hne=>absurd rfl hne⟩
 rcases hcase with⟨hm',_⟩|⟨g',aS,hm',hA,hw,hle,hcs⟩
 ·rw[hm]at hm';cases hm'
 rw[hm]at hm'
 injection hm' with hm'
 injection hm' with hm'
 subst hm'
 obtain⟨f,_,hw⟩:=hw.inCells hshp
 refine⟨some ⟨g,0,none⟩,cap,by rw[hn],by omega,fun hh=>(by cases hh),(fun b hb=>by cases hb),fun c hc=>aIN (hone c hc),fun _=>⟨⟨g,0,none⟩,rfl,h3, ?_,rfl, ?_⟩⟩
 ·rintro(ha|⟨c,C,hc,hmc⟩)
  ·exact hA ha
  obtain⟨C',hc'⟩:=hs c C hc
  have:=H.inj c b C' _ g hc' hb hmc hm
  subst this
  rw[hb']at hc;cases hc
 refine aD5 hw cs 0 (fun c hc=>⟨hone c hc,aQx.1 hsh c hc⟩) ?_
 rw[aQW]
 refine VCells.mk (by rw[aQK];simp only[Array.length_toList];dsimp only at hle;omega) (fun i c u hc hu=> ?_)
 obtain⟨u',hu',hr⟩:=hcs.get hc
 dsimp only at hu'
 rw[hu]at hu'
 injection hu' with hu'
 subst hu'
 exact(hr.shut (aQx.1 hsh c (aQC hc))).avoid (fun _ _ hx=>hs.xs hx)
def FCv (h h':Hp)(fr:List (Nat×V)):List (Nat×V)→Prop
 | []=>True
 |(t,y)::r=>(∃x,fM fr t=some x∧Conv h h' x y)∧FCv h h' fr r
theorem FCv.nil {h h':Hp}{fr:List (Nat×V)}:FCv h h' fr []:=trivial
theorem FCv.cons {h h':Hp}{fr r:List (Nat×V)}{t:Nat}{x y:V}(hl:fM fr t=some x)(hc:Conv h h' x y)(k:FCv h h' fr r):FCv h h' fr ((t,y)::r):=⟨⟨x,hl,hc⟩,k⟩
theorem FCv.get {h h':Hp}{fr:List (Nat×V)}: ∀{fr':List (Nat×V)},FCv h h' fr fr'→ ∀{t:Nat}{y:V},fM fr' t=some y→ ∃x,fM fr t=some x∧Conv h h' x y
 | [],_,t,y,hy=>by cases hy
 |(u,z)::r,k,t,y,hy=>by
  simp only[fM]at hy
  cases hb:aRs u t with
  |true=>
   rw[hb]at hy
   have:=aQO hb
   subst this
   simp only[cond_true,aQu]at hy
   subst hy
   exact k.1
  |false=>rw[hb]at hy;exact k.2.get hy
def HCv (H H':Hp):Hp→Hp→Prop
 | [],[]=>True
 |_::h,none::h'=>HCv H H' h h'
 |some B::h,some B'::h'=>(B.e=B'.e∧Convs H H' B.cells B'.cells∧B'.cells.all V.one=true)∧HCv H H' h h'
 |_,_=>False
theorem HCv.get {H H':Hp}: ∀{h h':Hp},HCv H H' h h'→ ∀{j:Nat}{B':Blk},h'[j]? =some (some B')→ ∃B,h[j]? =some (some B)∧B.e=B'.e∧Convs H H' B.cells B'.cells∧B'.cells.all V.one=true
 | [],[],_,j,B',hj=>by simp at hj
 |_::h,none::h',hh,j,B',hj=>by
  cases j with
  |zero=>simp at hj
  |succ j=>simp only[aQw]at hj ⊢; exact HCv.get (h:=h) hh hj
 |some B::h,some C::h',hh,j,B',hj=>by
  cases j with
  |zero=>
   simp only[aQF,aQu]at hj
   subst hj
   exact⟨B,rfl,hh.1.1,hh.1.2.1,hh.1.2.2⟩
  |succ j=>simp only[aQw]at hj ⊢; exact HCv.get (h:=h) hh.2 hj
 | [],_::_,hh,_,_,_=>hh.elim
 |_::_,[],hh,_,_,_=>by unfold HCv at hh;exact hh.elim
 |none::_,some _::_,hh,_,_,_=>hh.elim
theorem HCv.len {H H':Hp}: ∀{h h':Hp},HCv H H' h h'→h.length=h'.length
 | [],[],_=>rfl
 |_::h,none::h',hh=>by simp[HCv.len (h:=h) hh]
 |some B::h,some C::h',hh=>by simp[HCv.len (h:=h) hh.2]
 | [],_::_,hh=>hh.elim
 |_::_,[],hh=>by unfold HCv at hh;exact hh.elim
 |none::_,some _::_,hh=>hh.elim
theorem HCv.nil {H H':Hp}:HCv H H' [] []:=trivial
theorem HCv.dead {H H' h h':Hp}{o:Option Blk}(k:HCv H H' h h'):HCv H H' (o::h) (none::h'):=by cases o<;>exact k
theorem HCv.live {H H' h h':Hp}{e:TypeId}{cs cs':List V}(hc:Convs H H' cs cs')(ho:cs'.all V.one=true)(k:HCv H H' h h'):HCv H H' (some ⟨e,cs⟩::h) (some ⟨e,cs'⟩::h'):=⟨⟨rfl,hc,ho⟩,k⟩
theorem Ghost.conv {N n:Nat}{fr fr':List (Nat×V)}{h h':Hp}(hf:FCv h h' fr fr')(hh:HCv h h' h h'):Ghost N (aE n fr) h (aE n fr') h':=by
 intro A M a w hN R
 have hs:Sub h h':=fun b B' hb=>by obtain⟨B,hB,_⟩:=hh.get hb;exact⟨B,hB⟩
 refine⟨M,rfl,⟨⟨by rw[←hh.len];exact R.hr.len,R.hr.alt, ?_, ?_,R.hr.glob.avoid fun g _ hx=>hx.elim .inl (fun hl=> .inr (hs.live hl))⟩, ?_,R.defers⟩,fun g hl=>hs.live hl⟩
 ·intro b B' hb
  obtain⟨B,hB,he,hc,ho⟩:=hh.get hb
  refine⟨aQx.1 ho, ?_⟩
  have hl:=hc.len
  rcases(R.hr.blk b B hB).2 with⟨hn,hc0⟩|⟨g,cs,hg,hA,hw,hle,hcs⟩
  ·exact .inl ⟨hn,aQy (by rw[←hl,hc0];rfl)⟩
  refine .inr ⟨g,cs,hg,hA,by rw[←he,←hl];exact hw,by rw[←hl];exact hle, ?_⟩
  rw[←hl]
  exact Convs.sound R.hr hc hcs
 ·intro b b' B B' g hb hb' hm hm'
  obtain⟨C,hC,_⟩:=hh.get hb
  obtain⟨C',hC',_⟩:=hh.get hb'
  exact R.hr.inj b b' C C' g hC hC' hm hm'
 exact aC9 R.sr (fun t y hy=>by
  obtain⟨x,hx,hl⟩:=hf.get hy
  exact⟨x,hx,fun v hv=>hl A M w v R.hr hv⟩)
def aKS :Hp→Hp→Bool
 |_,[]=>true
 |some _::h,some _::h'=>aKS h h'
 |_::h,none::h'=>aKS h h'
 |_,_=>false
theorem aH : ∀{h h':Hp},aKS h h'=true→Sub h h'
 |h,[],_,b,B',hb=>by simp at hb
 |some B::h,some C::h',k,b,B',hb=>by
  cases b with
  |zero=>exact⟨B,rfl⟩
  |succ b=>simp only[aQw]at hb ⊢; exact aH (h:=h) k b B' hb
 |o::h,none::h',k,b,B',hb=>by
  cases b with
  |zero=>simp at hb
  |succ b=>
   simp only[aQw]at hb⊢
   refine aH (h:=h) (h':=h') ?_ b B' hb
   cases o<;>exact k
 |none::_,some _::_,k,_,_,_=>by cases k
 | [],o::_,k,_,_,_=>by cases o<;>cases k
def d9 (s:ByteArray):List Int:=s.data.toList.map fun b=>(b.toNat:Int)
def stb (s:ByteArray):Option (List Int):=if s.size≤lH then some (d9 s)else none
theorem tX (s:ByteArray):(d9 s).length=s.size:=by unfold d9;rw[aQM];rfl
def aJh (s:ByteArray)(i:Int):Option Int:=if 0≤i then(s[i.toNat]?).map (fun b=>(b.toNat:Int))else none
section
variable {P:Program}{N n:Nat}{ops:Array Oper}{l:List Oper}{fr:List (Nat×V)}{h h':Hp}{K:List V→Hp→Prop}
theorem ixT {t:TypeId}{s:ByteArray}{k:IntKind}{j v:Int}{sz by_:Nat}{z:Value}(ht:aN P t=some ⟨.string,sz,by_,z⟩)(hx:aJh s j=some v):vF P t (.sc (.string s)) (.sc (.int k j))=some (.sc (.int .u8 v)):=by
 unfold aJh at hx
 split at hx
 ·rename_i h0
  simp only[aQE]at hx
  obtain⟨b,hb,rfl⟩:=hx
  simp[vF,ht,oF,h0,hb]
 cases hx
theorem OpsW.does {o:Oper}{v:V}{s:List V}(hw:j6 ops o s=some true)(hD: ∀(A:Nat→Prop) (M:List (Option Nat)) (a:Act) (w:World),HR A M h w→SR (Xs A M h) M w s a→Does P o a w A M h v h')
  (hk:OpsW P N ops l (iG s o.dst v) h' K):OpsW P N ops (o::l) s h K:=fun k hl A M0 M h0 w0 a w Q hN hM G R hQ=>by
 have h0':ops[k]? =some o:=by simpa using (hl 0).symm
 simp only[aQS,aRC]
 rw[wpOps_cons]
 unfold wpOp
 rw[h0']
 simp only
 rw[aAv R.sr hw,if_pos rfl]
 refine .inl (hD A M a w R.hr R.sr _ _ fun v' w' M' G' hv=> ?_)
 exact hk (k+1) (fun j=>by have:=hl (j+1);simpa[aRL,aRP 1 j]using this) A M0 M' h0 w0 _ w' Q hN hM (G.trans G') ⟨G'.hr,(SR.keep G' R.sr).put o.dst hv,by rw[aBu];exact R.defers⟩ hQ
theorem aGq {X:Nat→Prop}{M:List (Option Nat)}{w:World}(s:ByteArray):VCells X M w ((d9 s).map (eI .u8)) (s.data.toList.map fun b=>Value.int .u8 b.toNat):=by
 refine VCells.mk (by simp[d9]) (fun i c v hc hv=> ?_)
 simp only[d9,List.map_map,aQL,aQE]at hc hv
 obtain⟨b,hb,rfl⟩:=hc
 obtain⟨b',hb',rfl⟩:=hv
 rw[hb]at hb'
 injection hb' with hb'
 subst hb'
 unfold VR;rfl
theorem aN2 {t:Nat}{a b e:TypeId}{x:Operand}{s:ByteArray}{r:List Int}{i s1 b1 s2 b2 s3 b3:Nat}{z1 z2 z3:Value}{ty:TypeId}{pos:String}{aft:Array Edge}(hx:bG n fr x=some (.sc (.string s)))
  (ha:aN P a=some ⟨.string,s1,b1,z1⟩) (hb:aN P b=some ⟨.slice e,s2,b2,z2⟩) (he:aN P e=some ⟨.int .u8,s3,b3,z3⟩) (hs:stb s=some r) (hl:h.length=i) (hh:h++[some ⟨e,r.map (eI .u8)⟩]=h')
  (k:OpsW P N ops l (aE n ((t,.sl i 0 r.length 1 false)::fr)) h' K):OpsW P N ops (⟨some t,.convert a b x,ty,pos,aft,none⟩::l) (aE n fr) h K:=by
 subst hl hh
 unfold stb at hs
 split at hs
 ·rename_i hsz
  injection hs with hs
  subst hs
  refine OpsW.does (v:= .sl h.length 0 (d9 s).length 1 false) rfl ?_ (by dsimp only;rw[aDI];exact k)
  intro A M ac w H S
  have hev:ac.eval x= .string s:=by have:=bQ H.glob S (cG hx);unfold VR at this;exact this
  have hge:=grownCap_ge w s.size 0 e
  have hcm:grownCap w s.size 0 e≤maxLen:=grownCap_le_maxLen w s.size 0 e (by unfold lH at hsz;simp only[maxLen];omega)
  have hrow:(bytesRow s (grownCap w s.size 0 e)).size=grownCap w s.size 0 e:=by
   simp only[bytesRow,Array.size_append,Array.size_map,Array.size_replicate]
   show s.size+_=_
   omega
  have Gd:=Grow.drew H
  have G:=Gd.trans (Grow.allocF Gd.hr e ((d9 s).map (eI .u8)) (bytesRow s (grownCap w s.size 0 e)) (by rw[hrow,List.length_map,tX];exact hge) (by
   have:(bytesRow s (grownCap w s.size 0 e)).toList.take ((d9 s).map (eI .u8)).length=s.data.toList.map fun b=>Value.int .u8 b.toNat:=by
    simp only[bytesRow,Array.toList_append,Array.toList_map]
    rw[show((d9 s).map (eI .u8)).length=(s.data.toList.map fun b=>Value.int .u8 b.toNat).length by simp[d9]]
    exact List.take_left
   rw[this]
   exact aGq s) (fun c hc=>by
    simp only[List.mem_map]at hc
    obtain⟨y,_,rfl⟩:=hc
    rfl) _ (.inr rfl))
  refine Does.value (sem:=convert a b (.string s)) (by simp[execOp,hev]) ⟨_,_,_,run_bytes_of_string w a b e s (cF ha).1 (cF hb).1 (cF he).1,G, ?_⟩
  unfold VR
  refine .inr ⟨w.heap.size,grownCap w s.size 0 e,e,grownCap w s.size 0 e,by rw[←H.len];simp,by rw[tX],by rw[tX];exact hge,hcm,by omega, ?_,by omega⟩
  unfold World.shape?
  rw[show(w.drew.alloc (.cells (bytesRow s (grownCap w s.size 0 e)) e ((bytesRow s (grownCap w s.size 0 e)).size,(bytesRow s (grownCap w s.size 0 e)).size+1))).heap[w.heap.size]? =some (.cells (bytesRow s (grownCap w s.size 0 e)) e ((bytesRow s (grownCap w s.size 0 e)).size,(bytesRow s (grownCap w s.size 0 e)).size+1))from heap_alloc_new w.drew _]
  simp only[hrow]
 cases hs
end
def aS {α:Type}(n:Nat)(l:List α):Option (List α):=if l.length=n then some l else none
def bB {α:Type}(n:Nat)(l:List α)(i:Int):Option α:=if i<n then bS l i else none
def nQ {α:Type}(n:Nat)(l:List α):Option (List α):=if n≤l.length then some (l.take n)else none
theorem aV {α:Type}{n:Nat}{l m:List α}(h:aS n l=some m):l.length=n:=by
 unfold aS at h;split at h
 ·assumption
 cases h
theorem aM9 {α:Type}{n:Nat}{l m:List α}(h:aS n l=some m)(hn:aR1 1 n=true):aR1 1 l.length=true:=by rw[aV h];exact hn
theorem bW {α:Type}{n:Nat}{l m:List α}(h:nQ n l=some m):m.length=n:=by
 unfold nQ at h;split at h
 ·injection h with h;subst h;simp;omega
 cases h
theorem aMC {α:Type}{n:Nat}{l m:List α}(h:nQ n l=some m)(hn:aR1 1 n=true):aR1 1 m.length=true:=by rw[bW h];exact hn
theorem nK {α:Type}{n:Nat}{l:List α}{i:Int}{y:α}(h:bB n l i=some y):bS l i=some y:=by
 unfold bB at h;split at h
 ·exact h
 cases h
theorem aHr {α:Type}{n:Nat}{l:List α}{i:Int}{y:α}(h:bB n l i=some y):i<n:=by
 unfold bB at h;split at h
 ·assumption
 cases h
section
variable {P:Program}{h h':Hp}{t e:TypeId}{ti:TI}{i off b N:Nat}{v:V}{α:Type}{E:α→V}{l m:List α}{y:α}{k:IntKind}{j:Int}{sz by_:Nat}{z:Value}{ag:Bool}
theorem iaB (ht:aN P t=some ⟨.array N e,sz,by_,z⟩)(he:aN P e=some ti)(h1:ti.size=1)(hx:bB N l j=some y):gG P t (.ptr b 0) (.sc (.int k j))=some (.ptr b j.toNat):=by
 obtain⟨h2,h3,_⟩:=i4 (nK hx)
 simp[gG,ht,oF,he,h1,h2,aHr hx]
theorem iaG {es:List V}(ht:aN P t=some ⟨.array N e,sz,by_,z⟩)(he:aN P e=some ti)(h1:ti.size=1)(hx:bB N l j=some y):gG P t (.eptr es 0 0) (.sc (.int k j))=some (.eptr es 0 j.toNat):=by
 obtain⟨h2,h3,_⟩:=i4 (nK hx)
 simp[gG,ht,oF,he,h1,h2,aHr hx]
theorem ixA (ht:aN P t=some ⟨.array N e,sz,by_,z⟩)(he:aN P e=some ti)(h1:ti.size=1)(hd:b8 ti.desc=false)(hx:bB N l j=some y):vF P t (.agg (l.map E)) (.sc (.int k j))=some (E y):=by
 obtain⟨h2,h3,h4⟩:=i4 (nK hx)
 simp[vF,ht,oF,he,h1,h2,aHr hx,fQ,hd,h4]
theorem ldG (ht:aN P t=some ti)(hd:b8 ti.desc=false)(hx:bS l j=some y):dZ P t h (.eptr [.agg (l.map E)] 0 j.toNat)=some (E y):=by
 obtain⟨_,_,h3⟩:=i4 hx
 simp[dZ,V.cells,fQ,ht,hd,h3]
theorem vS (ht:aN P t=some ⟨.array N e,sz,by_,z⟩)(hsz:sz=N)(hb:h[b]? =some (some ⟨i,l.map E⟩))(hl:l.length=N):dZ P t h (.ptr b 0)=some (.agg (l.map E)):=by
 subst hsz
 simp only[dZ,hb,fQ,ht,b8,if_true,aQW,aQM]
 rw[if_pos (by omega),aQt (by simp;omega)]
theorem aG0 (ht:aN P t=some ⟨.array N e,sz,by_,z⟩)(hsz:sz=N)(hl:l.length=N):dZ P t h (.eptr [.agg (l.map E)] 0 0)=some (.agg (l.map E)):=by
 subst hsz
 simp only[dZ,aQF,V.cells,fQ,ht,b8,if_true,aQW,aQM]
 rw[if_pos (by omega),aQt (by simp;omega)]
theorem t8 (ht:aN P t=some ⟨.array N e,sz,by_,z⟩)(hsz:sz=N)(hb:h[b]? =some (some ⟨i,l.map E⟩))(hE: ∀x,(E x).one=true)(hl:l.length=N)(hm:m.length=N)(hh:h.set b (some ⟨i,m.map E⟩)=h'):qT P t h (.ptr b 0) (.agg (m.map E))=some h':=by
 subst hh hsz
 simp only[qT,ht,hb]
 rw[if_pos ⟨by simp[V.flatOk,V.cells,hE],by simp[V.cells,hm],by simp[hl]⟩]
 congr 4
 unfold splice
 simp only[V.cells,aRE,aRv,aRe,aQM]
 rw[aQJ (by simp;omega),aRh]
theorem slA (ht:aN P t=some ⟨.array N e,sz,by_,z⟩)(he:aN P e=some ti)(h1:ti.size=1)(hag:b8 ti.desc=ag)(hb:h[b]? =some (some ⟨i,l.map E⟩))(hl:l.length=N)(hN:0<N∧N≤lH):jA P t h (.ptr b 0) none none=some (.sl b 0 N 1 ag):=by
 subst hag
 simp only[jA,ht,he,lZ,sZ,hb]
 rw[if_pos ⟨by omega,hN.2,aRj _,by omega,aRj _,by simp[h1,hl]⟩]
 simp[h1]
theorem slE (ht:aN P t=some ⟨.array N e,sz,by_,z⟩)(he:aN P e=some ti)(h1:ti.size=1)(hag:b8 ti.desc=false)(hl:l.length=N)(hN:0<N):jA P t h (.eptr [.agg (l.map E)] 0 0) none none=some (.row none 1 (l.map E)):=by
 simp only[jA,ht,he,lZ,sZ,aQF]
 rw[if_pos ⟨h1,hag,aRj _,by omega,aRj _,by simp[V.cells,hl]⟩]
 simp[V.cells,hl,aQt]
theorem apR {nl:Option Bool}(ht:aN P t=some ⟨.array N e,sz,by_,z⟩)(hE: ∀x,(E x).one=true)(hN:0<N)(hx:nQ N l=some m):zT P t (.row nl 1 (l.map E))=some (.eptr [.agg (m.map E)] 0 0):=by
 unfold nQ at hx
 split at hx
 ·injection hx with hx
  subst hx
  simp only[zT,ht]
  rw[if_pos ⟨trivial,hN,by simpa using by assumption,by simp[hE]⟩,aQQ]
 cases hx
end
section
variable {P:Program}{O:tP}{n:Nat}{fr:List (Nat×V)}{h h':Hp}{ty:TypeId}{pos:String}{aft:Array Edge}{d:Option Tmp}{g:Option (Nat×Bool)}{x:Operand}{a v:V}
theorem aBw {t:TypeId}(hx:bG n fr x=some a)(hv:zT P t a=some v):bC P O ⟨d,.sliceToArrayPointer t x,ty,pos,aft,g⟩ (aE n fr) h=some (v,h):=by simp[bC,cG hx,hv]
end
theorem V.le_arr {α:Type}{E:α→V}{f:Nat→Nat}{vn:Nat→Bool}{l:List α}(hE: ∀x,(E x).rn f=E x):V.le vn (.agg (l.map E)) ((V.agg (l.map E)).rn f):=by
 have:(V.agg (l.map E)).rn f=V.agg (l.map E):=by simp only[V.rn,mG hE]
 rw[this];exact V.le_refl _ _
theorem aHu {k:IntKind}(l:List Int):V.rfs (l.map (eI k))=true:=z6 (fun _=>rfl) l
theorem aHe (l:List Bool):V.rfs (l.map eB)=true:=z6 (fun _=>rfl) l
abbrev eA {α:Type}(E:α→V)(l:List α):V:= .agg (l.map E)
theorem aOK {α:Type}{E:α→V}{l:List α}(h: ∀x,(E x).one=true):(V.agg (l.map E)).flatOk=true:=by simp[V.flatOk,V.cells,h]
theorem aPY {P:Program}{h:Hp}{t e:TypeId}{N sz by_:Nat}{z:Value}{α:Type}{E:α→V}{l:List (List α)}{y:List α}{j:Int}(ht:aN P t=some ⟨.array N e,sz,by_,z⟩)(hsz:sz=N)(hx:bS l j=some y)(hl:y.length=N):dZ P t h (.eptr (l.map (eA E)) j.toNat 0)=some (.agg (y.map E)):=by
 subst hsz
 obtain⟨_,_,h3⟩:=i4 hx
 simp only[dZ,aQL,h3,aQA,V.cells,fQ,ht,b8,if_true,aQW,aQM]
 rw[if_pos (by omega),aQt (by simp;omega)]
section
variable {P:Program}(t:TypeId)(xo yo:Operand)
theorem fA {α β:Type}(s:Sem α)(f:α→Sem β){a:α}(h:bD P s=some a):bD P (s >>= f)=bD P (f a):=by
 show bD P (Sem.bind s f)=_
 induction s with
 |pure x=>simp only[bD,aQu]at h;subst h;rfl
 |program k ih=>exact ih P h
 |mark m k ih=>exact ih h
 |_=>simp[bD]at h
theorem q8 {t:TypeId}{ti:TI}(ht:aN P t=some ti):bD P (underlying t)=some ti.desc:=by
 have h1:=(cF ht).1
 show bD P (match P.underlying t with|some d=>pure d|none=>stuck "no such type")=_
 rw[h1];rfl
end
section
variable {P:Program}
theorem aEn {t:TypeId}{ti:TI}(ht:aN P t=some ti):bD P (sizeOf t)=some ti.size:=by
 obtain⟨_,i,h1,h2,_⟩:=cF ht
 have:bD P (typeInfo t)=some i:=by
  show bD P (match P.info? t with|some i=>pure i|none=>stuck "no such type")=_
  rw[h1];rfl
 unfold sizeOf
 rw[fA _ _ this,←h2];rfl
theorem aB3 {t:TypeId}{ti:TI}(ht:aN P t=some ti)(hd:b8 ti.desc=false){cs:Array Value}{off:Nat}{v:Value}(hv:cs[off]? =some v):bD P (part t cs off)=some v:=by
 unfold part
 have hu:=q8 ht
 have h1:bD P (isAgg t)=some false:=by
  unfold isAgg
  rw[fA _ _ hu]
  cases hh:ti.desc<;>first|rfl|(rw[hh]at hd;simp[b8]at hd)
 rw[fA _ _ h1]
 simp only[aQI,if_false,hv]
 rfl
theorem aKh {t:TypeId}{k k':IntKind}{sz by_:Nat}{z:Value}(ht:aN P t=some ⟨.int k',sz,by_,z⟩)(d:Nat)(a b:Int):bD P (Op.equalIn (d+1) t (.int k a) (.int k b))=some (a == b):=by
 rw[Op.equalIn,fA _ _ (q8 ht)]
 simp only[if_true]
 rfl
theorem aGb {t e:TypeId}{k k':IntKind}{N sz by_ sz' by':Nat}{z z':Value}(ht:aN P t=some ⟨.array N e,sz,by_,z⟩)(he:aN P e=some ⟨.int k',sz',by',z'⟩)(h1:sz'=1){l m:List Int}(hl:l.length=N)(hm:m.length=N)(d:Nat):
  bD P (Op.equalIn (d+2) t (.agg (l.map (Value.int k)).toArray) (.agg (m.map (Value.int k)).toArray))=some (l == m):=by
 subst h1
 rw[Op.equalIn,fA _ _ (q8 ht)]
 simp only
 rw[fA _ _ (aEn he)]
 simp only[Std.Legacy.Range.forIn_eq_forIn_range',Std.Legacy.Range.size,Nat.sub_zero,Nat.add_one_sub_one,Nat.div_one]
 have key: ∀(c i:Nat),i+c=N→l.take i=m.take i→bD P (do
   let r←forIn (List.range' i c 1) ((none,()):Option Bool×Unit) fun i r=>do
    let a←part e (l.map (Value.int k)).toArray (i*1)
    let b←part e (m.map (Value.int k)).toArray (i*1)
    let q←Op.equalIn (d+1) e a b
    if(!q)=true then pure (ForInStep.done (some false,()))else pure (ForInStep.yield (none,()))
   match r.fst with
   |some a=>pure a
   |none=>pure true)=some (l == m):=by
  intro c
  induction c with
  |zero=>
   intro i hi hp
   have:l=m:=by
    rw[aQt (by omega),aQt (by omega)]at hp
    exact hp
   subst this
   simp only[aRS,List.forIn_nil]
   show some true=_
   simp
  |succ c ih=>
   intro i hi hp
   have hil:i<l.length:=by omega
   have him:i<m.length:=by omega
   simp only[aRC,List.forIn_cons,bind_assoc]
   rw[fA _ _ (aB3 he rfl (v:= .int k l[i]) (by simp[hil])),fA _ _ (aB3 he rfl (v:= .int k m[i]) (by simp[him])),fA _ _ (aKh he d _ _)]
   by_cases hq:l[i]=m[i]
   ·have:=ih (i+1) (by omega) (by rw[aQZ hil,aQZ him,hp,hq])
    simpa[hq]using this
   have hne:l≠m:=by rintro rfl;exact hq rfl
   have:(l == m)=false:=by simpa using hne
   rw[this]
   have hq':(l[i] == m[i])=false:=by simpa using hq
   rw[hq']
   rfl
 refine Eq.trans (congrArg (bD P) ?_) (key N 0 (by omega) (by simp))
 refine congr (congrArg bind ?_) (funext fun r=> ?_)
 ·rfl
 obtain⟨r,_⟩:=r
 cases r<;>rfl
variable (t:TypeId)(xo yo:Operand)
theorem aET (k:IntKind)(l:List Int):e7 (.agg (l.map (eI k)))=some (.agg (l.map (Value.int k)).toArray):=by
 have:(l.map (eI k)).mapM eC=some (l.map (Value.int k)):=by
  induction l with
  |nil=>rfl
  |cons x l ih=>simp only[aQ0,aQV,ih];rfl
 simp only[e7,this,aQA]
theorem aFN {e:TypeId}{k':IntKind}{N sz by_ sz' by':Nat}{z z':Value}{t:TypeId}(ht:aN P t=some ⟨.array N e,sz,by_,z⟩)(he:aN P e=some ⟨.int k',sz',by',z'⟩)(hd:2≤P.depth){bo:BinOp}(hbo:bo= .eql∨bo= .neq)(a b:Array Value):bD P (eqGuard bo t xo yo (.agg a) (.agg b))=some ():=by
 unfold eqGuard
 have hg:P.eqGuardType P.depth t=false:=by
  obtain⟨q,hq⟩: ∃q,P.depth=q+2:=⟨P.depth-2,by omega⟩
  rw[hq]
  simp only[Program.eqGuardType,(cF ht).1,(cF he).1]
 rcases hbo with rfl|rfl<;>
 ·show bD P (if(!P.eqGuardType P.depth t)=true then pure ()else _)=some ()
  rw[hg];rfl
theorem aLl {e:TypeId}{k k':IntKind}{N sz by_ sz' by':Nat}{z z':Value}{t:TypeId}(ht:aN P t=some ⟨.array N e,sz,by_,z⟩)(he:aN P e=some ⟨.int k',sz',by',z'⟩)(h1:sz'=1)(hd:2≤P.depth){l m:List Int}(hl:l.length=N)(hm:m.length=N):
  dW P .eql t xo yo (.agg (l.map (eI k))) (.agg (m.map (eI k)))=some (.sc (.bool (l == m))):=by
 simp only[dW,aET,pureV]
 rw[fA _ _ (aFN xo yo ht he hd (.inl rfl) _ _)]
 have:bD P (binOp .eql t (.agg (l.map (Value.int k)).toArray) (.agg (m.map (Value.int k)).toArray))=some (.bool (l == m)):=aCx _ _ (aGb ht he h1 hl hm 9998)
 rw[this];rfl
theorem aKA {e:TypeId}{k k':IntKind}{N sz by_ sz' by':Nat}{z z':Value}{t:TypeId}(ht:aN P t=some ⟨.array N e,sz,by_,z⟩)(he:aN P e=some ⟨.int k',sz',by',z'⟩)(h1:sz'=1)(hd:2≤P.depth){l m:List Int}(hl:l.length=N)(hm:m.length=N):
  dW P .neq t xo yo (.agg (l.map (eI k))) (.agg (m.map (eI k)))=some (.sc (.bool (!(l == m)))):=by
 simp only[dW,aET,pureV]
 rw[fA _ _ (aFN xo yo ht he hd (.inr rfl) _ _)]
 have:bD P (binOp .neq t (.agg (l.map (Value.int k)).toArray) (.agg (m.map (Value.int k)).toArray))=some (.bool (!(l == m))):=aCx _ (fun b=>Value.bool !b) (aGb ht he h1 hl hm 9998)
 rw[this];rfl
end
theorem aJQ {P:Program} {f:FuncId} {fn:Func} {args:List V} {r:V} {h:Hp} {e:Array Value→Sem Value} (hf:P.funcs[f]? =some fn) (hn:(fn.name == "runtime.NumGoroutine")=false) (hb:fn.body.isNone=true) (h1:Extern.findNext fn=none) (h2:Extern.find fn=some e)
  (he: ∀(X:Nat→Prop)(M:List (Option Nat))(w:World)(vs:List Value),VCells X M w args vs→ ∃v,(e vs.toArray).run P w= .ok v w∧VR X M w r v):Fn P f h args r h:=by
 intro A M w vs H hargs
 obtain⟨v,hv,hr⟩:=he _ _ _ _ hargs
 refine .inr ⟨v,w, ?_,M,Grow.refl H,hr⟩
 have e1:(callFunc f vs.toArray).run P w=((e vs.toArray).run P w).andThen fun v w=> .ok (.value v) w:=by
  unfold callFunc
  show Sem.run P (match P.funcs[f]? with|none=>_|some fn=>_) w=_
  rw[hf]
  simp only[hn,aQI,if_false,hb,if_true,h1,h2]
  show Sem.run P (Sem.bind (e vs.toArray) _) w=_
  exact Sem.run_bind ..
 rw[e1,hv]
 rfl
section
variable {α:Type}{C:α→List V}{K:Nat}
theorem mY (hC: ∀x,(C x).length=K): ∀l:List α,(l.flatMap C).length=l.length*K
 | []=>by simp
 |x::l=>by simp only[aQB,aQ3,hC,mY hC l,aQS,aRd,aRx];omega
theorem aCC (hC: ∀x,(C x).length=K): ∀(l:List α)(i:Nat),(l.flatMap C).drop (i*K)=(l.drop i).flatMap C
 |l,0=>by simp
 | [],i+1=>by simp
 |x::l,i+1=>by
  rw[aQB,List.drop_succ_cons,←aCC hC l i,aRd,aRx,aRW,aQJ (by rw[hC];omega),aRv,hC]
  congr 1;omega
theorem aFO (hC: ∀x,(C x).length=K): ∀(l:List α)(i:Nat),(l.flatMap C).take (i*K)=(l.take i).flatMap C
 |l,0=>by simp
 | [],i+1=>by simp
 |x::l,i+1=>by
  rw[aQB,aRJ,aQB,←aFO hC l i,aRd,aRx,aRm,aQt (by rw[hC];omega),hC]
  congr 2;omega
theorem aDv (hC: ∀x,(C x).length=K)(l:List α):rQ true K l.length (l.flatMap C)=l.map fun x=>V.agg (C x):=by
 unfold rQ
 rw[if_pos rfl]
 apply List.ext_getElem
 ·simp
 intro i h1 h2
 simp only[aQM]at h2
 simp only[List.getElem_map,List.getElem_range]
 rw[aCC hC,aQY h2,aQB,aRm,aQt (by rw[hC];exact aQX _),hC,Nat.sub_self,aRE,aRh]
theorem mU {p:V→Bool}(h: ∀x,(C x).all p=true)(l:List α):(l.flatMap C).all p=true:=by
 rw[aQx];intro y hy
 simp only[List.mem_flatMap]at hy
 obtain⟨x,_,hy⟩:=hy
 exact aQx.1 (h x) y hy
theorem aIn {f:Nat→Nat}: ∀(a b:List V),V.rns f (a++b)=V.rns f a++V.rns f b
 | [],b=>by simp[V.rns]
 |x::a,b=>by simp[V.rns,aIn a b]
theorem jV {f:Nat→Nat}(h: ∀x,V.rns f (C x)=C x): ∀l:List α,V.rns f (l.flatMap C)=l.flatMap C
 | []=>by simp[V.rns]
 |x::l=>by rw[aQB,aIn,h,jV h l]
theorem aAd {f:Nat→Nat}{vn:Nat→Bool}(h: ∀x,V.rns f (C x)=C x)(l:List α):V.les vn (l.flatMap C) (V.rns f (l.flatMap C)):=by rw[jV h];exact V.les_refl _ _
theorem aIq : ∀(a b:List V),V.rfs (a++b)=(V.rfs a&&V.rfs b)
 | [],b=>by simp[V.rfs]
 |x::a,b=>by simp[V.rfs,aIq a b,Bool.and_assoc]
theorem aBn (h: ∀x,V.rfs (C x)=true): ∀l:List α,V.rfs (l.flatMap C)=true
 | []=>by simp[V.rfs]
 |x::l=>by rw[aQB,aIq,h,aBn h l];rfl
theorem aKG {F:V→Option V}{a b a' b':List V}(h1:a.mapM F=some a')(h2:b.mapM F=some b'):(a++b).mapM F=some (a'++b'):=by
 rw[List.mapM_append,h1,h2];rfl
theorem aFM {F:V→Option V}(h: ∀x,(C x).mapM F=some (C x)): ∀l:List α,(l.flatMap C).mapM F=some (l.flatMap C)
 | []=>rfl
 |x::l=>by rw[aQB];exact aKG (h x) (aFM h l)
variable {P:Program}{h h':Hp}{t e:TypeId}{ti:TI}{b i off:Nat}{l m:List α}{y:α}{kk:IntKind}{j:Int}{nl:Option Bool}{sz by_:Nat}{z:Value}{v:V}
theorem aNk {hE:Hp}{q d:Nat}(hC: ∀x,(C x).length=K)(hK:0<K)(hn:l.length=q)(hb:hE[b]? =some (some ⟨e,l.flatMap C⟩))(hx: ∀x,(C x).mapM (dY hE d)=some (C x)):dY hE (d+1) (.sl b 0 q K true)=some (.row none K (l.map fun x=>V.agg (C x))):=by
 subst hn
 simp only[dY,hb]
 rw[if_pos ⟨by rw[mY hC];omega,hK,.inl trivial⟩]
 simp only[aQW]
 rw[aQt (by rw[mY hC];exact aQX _),aFM hx]
 simp only[aQA,aDv hC]
theorem aHv {hE:Hp}{q:Nat}(hC: ∀x,(C x).length=K)(hK:0<K)(hn:l.length=q)(hb:hE[b]? =some (some ⟨e,l.flatMap C⟩))(hx: ∀x,(C x).mapM (dY hE 3)=some (C x)):uC hE (.sl b 0 q K true)=some (.row none K (l.map fun x=>V.agg (C x))):=aNk hC hK hn hb hx
theorem aOU :e9 h K (.row nl K (m.map fun x=>V.agg (C x)))=some (m.flatMap C,m.length):=by
 have:(m.map fun x=>V.agg (C x)).flatMap V.cells=m.flatMap C:=by rw[List.flatMap_map];rfl
 simp only[e9]
 rw[if_pos (.inl trivial),this];simp
theorem aOC {q:Nat}(hC: ∀x,(C x).length=K)(hn:m.length=q)(hb:h[b]? =some (some ⟨e,m.flatMap C⟩)):e9 h K (.sl b 0 q K true)=some (m.flatMap C,m.length):=by
 subst hn
 simp only[e9,hb]
 rw[if_pos ⟨trivial,by rw[mY hC];omega⟩,aQW,aQt (by rw[mY hC];exact aQX _)]
theorem aOI {k:Nat}:e9 h K (.row nl k [])=some (([]:List α).flatMap C,([]:List α).length):=by simp[e9]
theorem aOJ {q:Nat}(hC: ∀x,(C x).length=K)(hn:l.length=q)(ht:aN P t=some ⟨.slice e,sz,by_,z⟩)(he:aN P e=some ti)(h1:ti.zero.cells.size=K∧ti.size=K∧1≤ti.bytes∧0<K)(hb:h[b]? =some (some ⟨e,l.flatMap C⟩)){s:V}(hs:e9 h K s=some (m.flatMap C,m.length))
  {r:List α} (ha:eM ti.bytes l m=some r) (hl:h.length=i) (hh:h.set b none++[some ⟨e,r.flatMap C⟩]=h'):iM P t t (.sl b 0 q K true) s h=some (.sl i 0 r.length K true,h'):=by
 obtain⟨h2,h3,h4,h5⟩:=h1
 subst hn
 unfold eM at ha
 split at ha
 ·rename_i hlim
  injection ha with ha
  subst ha hl hh
  have hx:e9 h ti.size s=some (m.flatMap C,m.length):=by rw[h3];exact hs
  simp only[iM,ne_eq,not_true,if_false,ht,he]
  rw[if_pos ⟨by rw[h2,h3],by omega,h4⟩]
  simp only[hx,hb]
  rw[if_pos ⟨h3.symm,trivial,by rw[mY hC];exact aQX _,hlim⟩,aQt (by rw[mY hC];exact aQX _)]
  simp
 cases ha
theorem aO7 (ht:aN P t=some ⟨.slice e,sz,by_,z⟩)(he:aN P e=some ti)(h1:ti.zero.cells.size=K∧ti.size=K∧1≤ti.bytes∧0<K){s:V}(hs:e9 h K s=some (m.flatMap C,m.length))(hag:b8 ti.desc=true){k:Nat}
  {r:List α} (ha:eM ti.bytes [] m=some r) (hl:h.length+1=i) (hh:h++[none]++[some ⟨e,r.flatMap C⟩]=h'):iM P t t (.row (some true) k []) s h=some (.sl i 0 r.length K true,h'):=by
 obtain⟨h2,h3,h4,h5⟩:=h1
 unfold eM at ha
 split at ha
 ·rename_i hlim
  injection ha with ha
  subst ha hl hh
  have hx:e9 h ti.size s=some (m.flatMap C,m.length):=by rw[h3];exact hs
  simp only[iM,ne_eq,not_true,if_false,ht,he]
  rw[if_pos ⟨by rw[h2,h3],by omega,h4⟩]
  simp only[hx]
  rw[if_pos (by simpa using hlim)]
  simp[h3,hag]
 cases ha
theorem aPA {q:Nat}(hn:l.length=q)(ht:aN P t=some ⟨.slice e,sz,by_,z⟩)(he:aN P e=some ti)(h1:ti.size=K)(hx:bS l j=some y):gG P t (.sl b 0 q K true) (.sc (.int kk j))=some (.ptr b (0+j.toNat*K)):=by
 obtain⟨h2,h3,_⟩:=i4 hx
 subst hn
 simp[gG,ht,oF,he,h1,h2,h3]
theorem aKc {cs r:List V}(h:fQ P t cs=some v):fQ P t (cs++r)=some v:=by
 unfold fQ at *
 split at h
 ·cases h
 split at h
 ·rename_i hag
  split at h
  ·rename_i hs
   rw[if_pos hag,if_pos (by rw[aQ3];omega),aQP hs];exact h
  cases h
 rename_i hag
 rw[if_neg hag]
 cases cs with
 |nil=>cases h
 |cons c cs=>exact h
theorem aNs (hC: ∀x,(C x).length=K){i:Nat}(hi:l[i]? =some y)(ho:off≤K):(l.flatMap C).drop (0+i*K+off)=(C y).drop off++(l.drop (i+1)).flatMap C:=by
 obtain⟨h1,h2⟩:=aQr.1 hi
 rw[aRe,←List.drop_drop,aCC hC,aQY h1,h2,aQB,aRn (by rw[hC];exact ho)]
theorem aGJ (hC: ∀x,(C x).length=K)(hb:h[b]? =some (some ⟨e,l.flatMap C⟩))(hx:bS l j=some y)(ho:off≤K)(hp:fQ P t ((C y).drop off)=some v):dZ P t h (.ptr b (0+j.toNat*K+off))=some v:=by
 obtain⟨_,_,h3⟩:=i4 hx
 simp only[dZ,hb]
 rw[aNs hC h3 ho]
 exact aKc hp
theorem aJp (hC: ∀x,(C x).length=K)(hb:h[b]? =some (some ⟨e,l.flatMap C⟩))(hx:bS l j=some y)(hp:fQ P t (C y)=some v):dZ P t h (.ptr b (0+j.toNat*K))=some v:=aGJ (off:=0) hC hb hx (Nat.zero_le _) (by simpa using hp)
theorem aH6 (hC: ∀x,(C x).length=K){i:Nat}(hi:l[i]? =some y){x:V}{y':α}(ho:off+x.cells.length≤K)(hy:splice (C y) off x.cells=C y'):splice (l.flatMap C) (0+i*K+off) x.cells=(l.set i y').flatMap C:=by
 obtain⟨h1,h2⟩:=aQr.1 hi
 have hl:l=l.take i++y::l.drop (i+1):=by rw[←h2,←aQY h1,List.take_append_drop]
 have hset:l.set i y'=l.take i++y'::l.drop (i+1):=by
  rw[List.set_eq_take_append_cons_drop,if_pos h1]
 have hti:(l.take i).length=i:=by rw[aQK];omega
 rw[hset,aRK,aQB,←hy]
 conv=>lhs;rw[hl,aRK,aQB]
 have hA:((l.take i).flatMap C).length=i*K:=by rw[mY hC,hti]
 unfold splice
 rw[aRe,aRm,aQt (by rw[hA];omega),hA,show i*K+off-i*K=off by omega,aQP (by rw[hC];omega)]
 rw[show i*K+off+x.cells.length=i*K+(off+x.cells.length) by omega,aRW,aQJ (by rw[hA];omega),hA,show i*K+(off+x.cells.length)-i*K=off+x.cells.length by omega,aRv,aRn (by rw[hC];omega)]
 simp[aRk]
theorem aNI (hC: ∀x,(C x).length=K)(ht:aN P t=some ti)(hb:h[b]? =some (some ⟨e,l.flatMap C⟩))(hx:bS l j=some y){x:V}{y':α}(hf:x.flatOk=true)(hs:x.cells.length=ti.size)(ho:off+ti.size≤K)(hy:splice (C y) off x.cells=C y')(hh:h.set b (some ⟨e,(l.set j.toNat y').flatMap C⟩)=h'):qT P t h (.ptr b (0+j.toNat*K+off)) x=some h':=by
 obtain⟨_,_,h3⟩:=i4 hx
 have h4:=(aQr.1 h3).1
 subst hh
 simp only[qT,ht,hb]
 have hle:(j.toNat+1)*K≤l.length*K:=Nat.mul_le_mul_right K h4
 rw[if_pos ⟨hf,hs,by rw[mY hC];rw[aRd,aRx]at hle;omega⟩,aH6 hC h3 (by rw[hs];exact ho) hy]
theorem Conv.rowK (hC: ∀x,(C x).length=K)(h1K: ∀x,(C x).all V.one=true)(hsh: ∀x,(C x).all V.shut=true){h h':Hp}(hs:Sub h h'){b n:Nat}{e:TypeId}(hb:h[b]? =some (some ⟨e,l.flatMap C⟩))(hb':h'[b]? =some none)(hn:n=l.length):Conv h h' (.sl b 0 n K true) (.row none K (l.map fun x=>V.agg (C x))):=by
 intro A M w v H hv
 obtain⟨hone,hcase⟩:=H.blk b _ hb
 have hok: ∀e∈l.map (fun x=>V.agg (C x)),e.okElem K=true:=by
  intro e he
  simp only[aRR]at he
  obtain⟨x,_,rfl⟩:=he
  simp only[V.okElem,V.flatOk,V.cells,h1K x,hC x,beq_self_eq_true,Bool.and_self]
 unfold VR at hv⊢
 rcases hv with⟨hm,rfl,h0,_⟩|⟨g,cap,e',sz,hm,rfl,h1,_,h3,hshp,_⟩
 ·have:l=[]:=aQy (by omega)
  subst this
  exact⟨none,0,rfl,aQX _,fun _=>rfl,(fun b hb=>by cases hb),by simp,fun hne=>absurd rfl hne⟩
 rcases hcase with⟨hm',_⟩|⟨g',aS,hm',hA,hw,hle,hcs⟩
 ·rw[hm]at hm';cases hm'
 rw[hm]at hm'
 injection hm' with hm'
 injection hm' with hm'
 subst hm'
 refine⟨some ⟨g,0,none⟩,cap,by rw[aQM,hn],by rw[aQM];omega,fun hh=>(by cases hh),(fun b hb=>by cases hb),hok,fun _=>⟨⟨g,0,none⟩,rfl,h3, ?_,rfl, ?_⟩⟩
 ·rintro(ha|⟨c,C',hc,hmc⟩)
  ·exact hA ha
  obtain⟨C'',hc'⟩:=hs c C' hc
  have:=H.inj c b C'' _ g hc' hb hmc hm
  subst this
  rw[hb']at hc;cases hc
 rw[←aDv hC l]
 unfold rQ
 rw[if_pos rfl]
 dsimp only at hle hcs
 have hall:=mU hsh l
 refine aAV h3 l.length (vs:=aS.toList.take (l.flatMap C).length) (mY hC l) (VCells.mk hcs.len (fun i c u hc hu=> ?_)) ?_
 ·obtain⟨u',hu',hr⟩:=hcs.get hc
  rw[hu]at hu'
  injection hu' with hu'
  subst hu'
  exact(hr.shut (aQx.1 hall c (aQC hc))).avoid (fun _ _ hx=>hs.xs hx)
 intro i u hu
 have hu2:aS[i]? =some u:=by
  simp only[aRD,aRz]at hu
  split at hu
  ·simpa using hu
  cases hu
 have:=hw.cell hshp i
 rw[hu2]at this
 unfold Addr.add
 split
 ·rename_i h0;subst h0;exact this
 simpa using this
theorem aF9 (hC: ∀x,(C x).length=K)(h1: ∀x,(C x).all V.one=true): ∀(xs:List α)(i:Nat)(cells:List V),cells.length=(i+xs.length)*K→nE (fun i=>some (i*K,K)) cells (q9 i (xs.map fun x=>V.agg (C x)))=some (cells.take (i*K)++xs.flatMap C)
 | [],i,cells,hl=>by
  simp only[List.map_nil,q9,nE,List.flatMap_nil,aRh]
  rw[aQt (by rw[hl];simp)]
 |x::xs,i,cells,hl=>by
  simp only[aQS]at hl
  have hl':cells.length=i*K+K+xs.length*K:=by rw[hl,aRd,aRd,aRx];omega
  simp only[aQ0,q9,nE]
  rw[if_pos ⟨by simp[V.flatOk,V.cells,h1 x],by simp[V.cells,hC x],by omega⟩]
  have hsl:(splice cells (i*K) (V.agg (C x)).cells).length=cells.length:=uN _ _ _ (by simp only[V.cells,hC];omega)
  rw[aF9 hC h1 xs (i+1) _ (by rw[hsl,hl];congr 1;omega)]
  congr 1
  rw[aQB,←aRk]
  congr 1
  unfold splice
  simp only[V.cells]
  rw[aRd,aRx,aRk,aRm,aQt (by rw[aQK];omega),aQK,aQ8 (by omega),show i*K+K-i*K=K by omega,aQP (by rw[hC];exact aQX _),show(C x).take K=C x from aQt (by rw[hC];exact aQX _)]
theorem aCU {len:Nat}{ps:List (Nat×V)}{xs:List α}(hC: ∀x,(C x).length=K)(h1C: ∀x,(C x).all V.one=true)(ht:aN P t=some ⟨.slice e,sz,by_,z⟩)(he:aN P e=some ti)(h1:len*K≤2^24∧0<len∧0<K)(hK:ti.size=K)(hag:b8 ti.desc=true)
  (hp:q9 0 (xs.map fun x=>V.agg (C x))=ps) (hlen:xs.length=len) (hl:h.length=i) (hh:h++[some ⟨e,xs.flatMap C⟩]=h'):
  iU P t len ps h=some (.sl i 0 len K true,h'):=by
 subst hK hp
 refine aNE ht he h1 hag ?_ ⟨mU h1C xs,by rw[mY hC,hlen]⟩ hl hh
 rw[aF9 hC h1C xs 0 _ (by simp[hlen])]
 simp
end
instance :Inhabited MT:=⟨⟨0,0,⟨.bool,0,0,default⟩,⟨.bool,0,0,default⟩⟩⟩
theorem wE {E:Int→V}{n:Nat}{l:List Int}(h:l.length=n):(aRq n).map (fun i=>E (l.getD i 0))=l.map E:=by
 apply aQ9
 intro i
 simp only[aQL,List.getElem?_range']
 by_cases hi:i<n
 ·rw[aRG hi,aQv (by omega)]
  simp[aRy,aQv (show i<l.length by omega)]
 rw[aQ7 (by simpa using hi),aQ7 (by omega)];rfl
theorem aNW {P:Program}{t:TypeId}{ps ps':List (Nat×V)}{v:V}(h:ps=ps')(hb:sM P t ps'=some v):sM P t ps=some v:=by rw[h];exact hb
def cA (E:Int→V)(l:List Int)(r:List V):List V:=E (l.getD 0 0)::E (l.getD 1 0)::E (l.getD 2 0)::E (l.getD 3 0)::r
theorem aMy {E:Int→V}{l:List Int}(h:l.length=4)(r:List V):cA E l r=l.map E++r:=by
 rw[←wE h];rfl
theorem aBg {E:Int→V}{l:List Int}(h:l.length=4):cA E l []=l.map E:=by rw[aMy h];simp
theorem nG {f:Nat→Nat}{k:IntKind}{l:List Int}{r:List V}:V.rns f (cA (eI k) l r)=cA (eI k) l (V.rns f r):=rfl
theorem aMK {vn:Nat→Bool}{E:Int→V}{l:List Int}{r r':List V}(hr:V.les vn r r'):V.les vn (cA E l r) (cA E l r'):=by
 unfold cA
 repeat (first|exact hr|refine V.les_cons (V.le_refl _ _) ?_)
def ar8 (E:Int→V)(l:List Int)(r:List V):List V:=E (l.getD 0 0)::E (l.getD 1 0)::E (l.getD 2 0)::E (l.getD 3 0)::E (l.getD 4 0)::E (l.getD 5 0)::E (l.getD 6 0)::E (l.getD 7 0)::r
theorem aMd {E:Int→V}{l:List Int}(h:l.length=8)(r:List V):ar8 E l r=l.map E++r:=by
 rw[←wE h];rfl
theorem aNe {E:Int→V}{l:List Int}(h:l.length=8):ar8 E l []=l.map E:=by rw[aMd h];simp
theorem nJ {f:Nat→Nat}{k:IntKind}{l:List Int}{r:List V}:V.rns f (ar8 (eI k) l r)=ar8 (eI k) l (V.rns f r):=rfl
theorem aNj {vn:Nat→Bool}{E:Int→V}{l:List Int}{r r':List V}(hr:V.les vn r r'):V.les vn (ar8 E l r) (ar8 E l r'):=by
 unfold ar8
 repeat (first|exact hr|refine V.les_cons (V.le_refl _ _) ?_)
def y9 (E:Int→V)(l:List Int)(r:List V):List V:=E (l.getD 0 0)::E (l.getD 1 0)::E (l.getD 2 0)::E (l.getD 3 0)::E (l.getD 4 0)::E (l.getD 5 0)::E (l.getD 6 0)::E (l.getD 7 0)::E (l.getD 8 0)::E (l.getD 9 0)::E (l.getD 10 0)::E (l.getD 11 0)::E (l.getD 12 0)::E (l.getD 13 0)::E (l.getD 14 0)::E (l.getD 15 0)::E (l.getD 16 0)::E (l.getD 17 0)::E (l.getD 18 0)::E (l.getD 19 0)::r
theorem aKY {E:Int→V}{l:List Int}(h:l.length=20)(r:List V):y9 E l r=l.map E++r:=by
 rw[←wE h];rfl
theorem aK5 {E:Int→V}{l:List Int}(h:l.length=20):y9 E l []=l.map E:=by rw[aKY h];simp
theorem lT {f:Nat→Nat}{k:IntKind}{l:List Int}{r:List V}:V.rns f (y9 (eI k) l r)=y9 (eI k) l (V.rns f r):=rfl
theorem aLy {vn:Nat→Bool}{E:Int→V}{l:List Int}{r r':List V}(hr:V.les vn r r'):V.les vn (y9 E l r) (y9 E l r'):=by
 unfold y9
 repeat (first|exact hr|refine V.les_cons (V.le_refl _ _) ?_)
def bJ (E:Int→V)(l:List Int)(r:List V):List V:=E (l.getD 0 0)::E (l.getD 1 0)::E (l.getD 2 0)::E (l.getD 3 0)::E (l.getD 4 0)::E (l.getD 5 0)::E (l.getD 6 0)::E (l.getD 7 0)::E (l.getD 8 0)::E (l.getD 9 0)::E (l.getD 10 0)::E (l.getD 11 0)::E (l.getD 12 0)::E (l.getD 13 0)::E (l.getD 14 0)::E (l.getD 15 0)::E (l.getD 16 0)::E (l.getD 17 0)::E (l.getD 18 0)::E (l.getD 19 0)::E (l.getD 20 0)::E (l.getD 21 0)::E (l.getD 22 0)::E (l.getD 23 0)::E (l.getD 24 0)::E (l.getD 25 0)::E (l.getD 26 0)::E (l.getD 27 0)::E (l.getD 28 0)::E (l.getD 29 0)::E (l.getD 30 0)::E (l.getD 31 0)::r
theorem aHH {E:Int→V}{l:List Int}(h:l.length=32)(r:List V):bJ E l r=l.map E++r:=by
 rw[←wE h];rfl
theorem uY {E:Int→V}{l:List Int}(h:l.length=32):bJ E l []=l.map E:=by rw[aHH h];simp
theorem lQ {f:Nat→Nat}{k:IntKind}{l:List Int}{r:List V}:V.rns f (bJ (eI k) l r)=bJ (eI k) l (V.rns f r):=rfl
theorem aHn {vn:Nat→Bool}{E:Int→V}{l:List Int}{r r':List V}(hr:V.les vn r r'):V.les vn (bJ E l r) (bJ E l r'):=by
 unfold bJ
 repeat (first|exact hr|refine V.les_cons (V.le_refl _ _) ?_)
theorem aLr {h h':Hp}{E:Int→V}{l:List Int}{r r':List V}(hE: ∀x,Conv h h' (E x) (E x))(hr:Convs h h' r r'):Convs h h' (bJ E l r) (bJ E l r'):=by
 unfold bJ
 repeat (first|exact hr|refine Convs.cons (hE _) ?_)
def zF (E:Int→V)(l:List Int)(r:List V):List V:=E (l.getD 0 0)::E (l.getD 1 0)::E (l.getD 2 0)::E (l.getD 3 0)::E (l.getD 4 0)::E (l.getD 5 0)::E (l.getD 6 0)::E (l.getD 7 0)::E (l.getD 8 0)::E (l.getD 9 0)::E (l.getD 10 0)::E (l.getD 11 0)::E (l.getD 12 0)::E (l.getD 13 0)::E (l.getD 14 0)::E (l.getD 15 0)::E (l.getD 16 0)::E (l.getD 17 0)::E (l.getD 18 0)::E (l.getD 19 0)::E (l.getD 20 0)::E (l.getD 21 0)::E (l.getD 22 0)::E (l.getD 23 0)::E (l.getD 24 0)::E (l.getD 25 0)::E (l.getD 26 0)::E (l.getD 27 0)::E (l.getD 28 0)::E (l.getD 29 0)::E (l.getD 30 0)::E (l.getD 31 0)::E (l.getD 32 0)::E (l.getD 33 0)::E (l.getD 34 0)::E (l.getD 35 0)::E (l.getD 36 0)::E (l.getD 37 0)::E (l.getD 38 0)::E (l.getD 39 0)::E (l.getD 40 0)::E (l.getD 41 0)::E (l.getD 42 0)::E (l.getD 43 0)::E (l.getD 44 0)::E (l.getD 45 0)::E (l.getD 46 0)::E (l.getD 47 0)::E (l.getD 48 0)::E (l.getD 49 0)::E (l.getD 50 0)::E (l.getD 51 0)::E (l.getD 52 0)::E (l.getD 53 0)::E (l.getD 54 0)::E (l.getD 55 0)::E (l.getD 56 0)::E (l.getD 57 0)::E (l.getD 58 0)::E (l.getD 59 0)::E (l.getD 60 0)::E (l.getD 61 0)::E (l.getD 62 0)::E (l.getD 63 0)::r
theorem aLD {E:Int→V}{l:List Int}(h:l.length=64)(r:List V):zF E l r=l.map E++r:=by
 rw[←wE h];rfl
theorem aLs {E:Int→V}{l:List Int}(h:l.length=64):zF E l []=l.map E:=by rw[aLD h];simp
theorem lO {f:Nat→Nat}{k:IntKind}{l:List Int}{r:List V}:V.rns f (zF (eI k) l r)=zF (eI k) l (V.rns f r):=rfl
theorem aKX {vn:Nat→Bool}{E:Int→V}{l:List Int}{r r':List V}(hr:V.les vn r r'):V.les vn (zF E l r) (zF E l r'):=by
 unfold zF
 repeat (first|exact hr|refine V.les_cons (V.le_refl _ _) ?_)
theorem aKg {P:Program}(k:IntKind)(n:Int):unV P .neg (.sc (.int k n))=some (.sc (.int k (k.wrap (0-n)))):=rfl
theorem aIr {P:Program}{k:IntKind}(hk:k.signed=false)(n:Int):unV P .xor (.sc (.int k n))=some (.sc (.int k (bits .xor k k.max n))):=by
 cases k<;>first|rfl|cases hk
def mkl {α:Type}(by_:Nat)(z:α)(n c:Int):Option (List α):=if 0<n∧n≤c∧c.toNat*by_≤lH then some (aQ2 n.toNat z)else none
theorem mkL {k1 k2:IntKind}{P:Program}{h h':Hp}{t e:TypeId}{ti:TI}{i:Nat}{α:Type}{E:α→V}{sz by_:Nat}{z:Value}{ag:Bool}{j c:Int}{y:α}(ht:aN P t=some ⟨.slice e,sz,by_,z⟩)(he:aN P e=some ti)(h1:1≤ti.bytes∧ti.size=1∧ti.zero.cells.size=1)(hz:ti.zero.cells.toList.map (V.soft∘dU)=[E y])(ho:(E y).one=true)(hag:b8 ti.desc=ag){r:List α}
  (hm:mkl ti.bytes y j c=some r) (hl:h.length=i) (hh:h++[some ⟨e,r.map E⟩]=h'):zX P t (.sc (.int k1 j)) (.sc (.int k2 c)) h=some (.sl i 0 r.length 1 ag,h'):=by
 obtain⟨h2,h3,h4⟩:=h1
 unfold mkl at hm
 split at hm
 ·rename_i hlim
  injection hm with hm
  subst hm hl hh hag
  simp only[zX,ht,he]
  rw[if_pos ⟨by omega,hlim.2.1,hlim.2.2,h2,by omega,by rw[h4,h3],by rw[hz];simp[ho]⟩,hz,if_neg (by omega)]
  simp only[h3]
  have: ∀n,(aQ2 n [E y]).flatten=(aQ2 n y).map E:=fun n=>by
   induction n with
   |zero=>rfl
   |succ n ih=>simp only[aRI,aRO,ih,aQ0];rfl
  rw[this];simp
 cases hm
theorem zl {a b:Nat} (h:Nat.ble a b=true:=by rfl):a≤b:=Nat.le_of_ble_eq_true h
theorem zR {p:Prop} (h:p:=by first|rfl|(simp only[V.rn,V.rns,iB,iA]<;>rfl)):p:=h
theorem zG {N n:Nat}{fr fr':List (Nat×V)}{h h':Hp}(σ:List Nat)
  (hf:FLe uG (V.rn (sg σ h.length)) fr fr':=by repeat (first|exact FLe.nil|refine FLe.same rfl ?_|refine FLe.le rfl V.le_nil ?_|refine FLe.le rfl V.le_row ?_|refine FLe.le rfl (V.le_arr (fun _=>rfl)) ?_))
  (hh:HLe (sg σ h.length) h σ h':=by repeat (first|exact HLe.nil|refine HLe.dead ?_|refine HLe.live rfl V.les_nil rfl ?_|refine HLe.live rfl (aBh (fun _=>rfl) _) (all_map (fun _=>rfl) _) ?_|refine HLe.live rfl (aAd (fun _=>rfl) _) (mU (fun _=>rfl) _) ?_|refine HLe.live rfl (V.les_refl _ _) rfl ?_))
  (hσ:σ.take N=List.range N:=by rfl) (hlt:σ.all (fun b=>Nat.blt b h.length)=true:=by rfl) (hnd:ndB (lvs σ h')=true:=by rfl):Ghost N (aE n fr) h (aE n fr') h':=Ghost.rn σ hσ hlt hf hh hnd
theorem Ghost.blk {N:Nat}{s:List V}{h:Hp}{b:Nat}{e:TypeId}{cs cs':List V}(hb:h[b]? =some (some ⟨e,cs⟩))(hl:V.les uG cs cs')(ho:cs'.all V.one=true):Ghost N s h s (h.set b (some ⟨e,cs'⟩)):=by
 intro A M a w hN R
 have hbl:b<h.length:=(aQr.1 hb).1
 have hget: ∀{j:Nat}{B:Blk},(h.set b (some ⟨e,cs'⟩))[j]? =some (some B)→ ∃B0,h[j]? =some (some B0)∧B0.e=B.e∧V.les uG B0.cells B.cells∧(∀c∈B.cells,c.one=true):=by
  intro j B hj
  by_cases hij:b=j
  ·subst hij
   rw[aRi hbl]at hj
   obtain rfl:=aQN (aQN hj)
   exact⟨_,hb,rfl,hl,aQx.1 ho⟩
  rw[aRa hij]at hj
  exact⟨B,hj,rfl,V.les_refl _ _,(R.hr.blk j B hj).1⟩
 have hlive: ∀g,cX M (h.set b (some ⟨e,cs'⟩)) g→cX M h g:=by
  rintro g ⟨j,B,hj,hm⟩
  obtain⟨B0,h1,_⟩:=hget hj
  exact⟨j,B0,h1,hm⟩
 have hX: ∀g,Xs A M (h.set b (some ⟨e,cs'⟩)) g→Xs A M h g:=fun g hx=>hx.elim .inl (fun hl=> .inr (hlive g hl))
 refine⟨M,rfl,⟨⟨by rw[R.hr.len,aRt],R.hr.alt, ?_, ?_,R.hr.glob.avoid fun g _ hx=>hX g hx⟩,⟨R.sr.len,fun t x hx=>(R.sr.val t x hx).avoid (fun g _ hx=>hX g hx)⟩,R.defers⟩,hlive⟩
 ·intro j B hj
  obtain⟨B0,h1,h2,h3,h4⟩:=hget hj
  refine⟨h4, ?_⟩
  have hlen:B0.cells.length=B.cells.length:=V.les_length h3
  rcases(R.hr.blk j B0 h1).2 with⟨hn,hc0⟩|⟨g,ds,hg,hA,hw,hle,hcs⟩
  ·exact .inl ⟨hn,aQy (by rw[←hlen,hc0];rfl)⟩
  refine .inr ⟨g,ds,hg,hA,by rw[←h2,←hlen];exact hw,by rw[←hlen];exact hle, ?_⟩
  rw[←hlen]
  exact(V.les_sound (fun _ hb=>by cases hb) _ _ _ h3 hcs).avoid (fun g _ hx=>hX g hx)
 intro i j B C g hi hj mi mj
 obtain⟨B1,h1,_⟩:=hget hi
 obtain⟨C1,k1,_⟩:=hget hj
 exact R.hr.inj i j B1 C1 g h1 k1 mi mj
def rA {α:Type}(l:List α)(a c:Int):Option (List α):=if 0≤a∧a<c∧c≤l.length then some ((l.take c.toNat).drop a.toNat)else none
theorem yT {α:Type}{l x:List α}{a c:Int}(h:rA l a c=some x):0≤a∧a<c∧c≤l.length∧x=(l.take c.toNat).drop a.toNat∧x.length=c.toNat-a.toNat:=by
 unfold rA at h
 split at h
 ·rename_i hc
  injection h with h
  refine⟨hc.1,hc.2.1,hc.2.2,h.symm, ?_⟩
  rw[←h,aRA,aQK];omega
 cases h
theorem aLH {α:Type}{l x:List α}{a c j:Int}{y:α}(h:rA l a c=some x)(hx:bS x j=some y):l[a.toNat+j.toNat]? =some y:=by
 obtain⟨_,_,_,e,_⟩:=yT h
 obtain⟨_,_,h3⟩:=i4 hx
 rw[e,aRg,aRz]at h3
 split at h3
 ·exact h3
 cases h3
section
variable {P:Program}{h h':Hp}{t e:TypeId}{ti:TI}{α:Type}{E:α→V}{l x m:List α}{sz by_ b:Nat}{z:Value}{ag:Bool}{lo hi:Option V}{a c j:Int}{y:α}{k:IntKind}{N n i q K:Nat}
theorem aN5 (hq:l.length=q)(ht:aN P t=some ⟨.slice e,sz,by_,z⟩)(he:aN P e=some ti)(hK:ti.size=K)(h1:lZ lo=some a)(h2:sZ hi q=some c)(hs:rA l a c=some x):jA P t h (.sl b 0 q K ag) lo hi=some (.sl b (a.toNat*K) x.length K ag):=by
 subst hK hq
 obtain⟨s1,s2,s3,s4,s5⟩:=yT hs
 simp only[jA,ht,he,h1,h2]
 rw[if_pos ⟨trivial,s1,by omega,s3⟩,s5]
 by_cases h0:a=0
 ·subst h0;simp
 rw[if_neg h0,if_pos s2,aRe]
theorem aEC (hq:l.length=q)(ht:aN P t=some ⟨.slice e,sz,by_,z⟩)(he:aN P e=some ti)(hK:ti.size=K)(h1:lZ lo=some 0)(h2:sZ hi q=some c)(hs:sub l 0 c=some x):jA P t h (.sl b 0 q K ag) lo hi=some (.sl b 0 x.length K ag):=by
 subst hK hq
 unfold sub at hs
 split at hs
 ·rename_i hc
  injection hs with hs
  have hl:x.length=c.toNat:=by rw[←hs];simp;omega
  simp only[jA,ht,he,h1,h2]
  rw[if_pos ⟨trivial,by omega,hc.2.1,hc.2.2⟩,if_pos trivial,hl]
 cases hs
theorem aHC (ht:aN P t=some ⟨.array N e,sz,by_,z⟩)(he:aN P e=some ti)(hsz:ti.size=1)(hag:b8 ti.desc=ag)(hb:h[b]? =some (some ⟨i,l.map E⟩))(hl:l.length=N)(hN:N≤lH)(h1:lZ lo=some a)(h2:sZ hi N=some c)(hs:rA l a c=some x):jA P t h (.ptr b 0) lo hi=some (.sl b (a.toNat*1) x.length 1 ag):=by
 subst hag
 obtain⟨s1,s2,s3,s4,s5⟩:=yT hs
 simp only[jA,ht,he,h1,h2,hb]
 rw[if_pos ⟨by omega,hN,s1,s2,by omega,by simp[hsz,hl]⟩,hsz,s5,aRe]
theorem iaY (hq:x.length=q)(ht:aN P t=some ⟨.slice e,sz,by_,z⟩)(he:aN P e=some ti)(hK:ti.size=1)(hx:bS x j=some y):gG P t (.sl b (a.toNat*1) q 1 ag) (.sc (.int k j))=some (.ptr b (a.toNat+j.toNat)):=by
 obtain⟨h2,h3,_⟩:=i4 hx
 subst hq
 simp[gG,ht,oF,he,hK,h2,h3]
theorem ldY (ht:aN P t=some ti)(hd:b8 ti.desc=false)(hb:h[b]? =some (some ⟨i,l.map E⟩))(hs:rA l a c=some x)(hx:bS x j=some y):dZ P t h (.ptr b (a.toNat+j.toNat))=some (E y):=by
 have h3:=aLH hs hx
 simp[dZ,hb,fQ,ht,hd,h3]
theorem apS (ht:aN P t=some ⟨.array N e,sz,by_,z⟩)(hN:0<N)(hq:x.length=q)(hx:nQ N x=some m):zT P t (.sl b n q 1 ag)=some (.ptr b n):=by
 unfold nQ at hx
 split at hx
 ·rename_i hl
  simp only[zT,ht]
  rw[if_pos ⟨hN,by omega⟩]
 cases hx
theorem aIO (ht:aN P t=some ⟨.array N e,sz,by_,z⟩)(hsz:sz=N)(hb:h[b]? =some (some ⟨i,l.map E⟩))(hs:rA l a c=some x)(hx:nQ N x=some m):dZ P t h (.ptr b (a.toNat*1))=some (.agg (m.map E)):=by
 subst hsz
 obtain⟨s1,s2,s3,s4,s5⟩:=yT hs
 unfold nQ at hx
 split at hx
 ·rename_i hl
  injection hx with hx
  simp only[dZ,hb,fQ,ht,b8,if_true,aRH]
  have hlen:sz≤((l.map E).drop a.toNat).length:=by simp;omega
  rw[if_pos hlen]
  congr 2
  rw[←hx,s4,aQQ,aRp,aQQ,List.drop_take,aRF,aQ8 (by omega)]
 cases hx
theorem aOl (hb:h[b]? =some (some ⟨i,l.map E⟩))(hE: ∀x,(E x).one=true)(hs:rA l a c=some x):e9 h 1 (.sl b (a.toNat*1) x.length 1 ag)=some (x.map E,x.length):=by
 obtain⟨s1,s2,s3,s4,s5⟩:=yT hs
 simp only[e9,hb,aRH]
 rw[if_pos (by simp;omega)]
 simp only[aQu,aQG,and_true]
 rw[s5,s4,aRp,aQQ,List.drop_take]
end
theorem Ghost.cut {N n:Nat}{fr:List (Nat×V)}{h:Hp}{b e t q K k:Nat}{ag:Bool}{cs:List V}(hl:bG n fr (.tmp t)=some (.sl b 0 q K ag))(hb:h[b]? =some (some ⟨e,cs⟩)):Ghost N (aE n fr) h (aE n fr) (h.set b (some ⟨e,cs.take k⟩)):=by
 intro A M a w hN R
 have hbl:b<h.length:=(aQr.1 hb).1
 have hget: ∀{j:Nat}{B:Blk},(h.set b (some ⟨e,cs.take k⟩))[j]? =some (some B)→(j=b∧B=⟨e,cs.take k⟩)∨(h[j]? =some (some B)∧j≠b):=by
  intro j B hj
  by_cases hij:b=j
  ·subst hij
   rw[aRi hbl]at hj
   exact .inl ⟨rfl,(aQN (aQN hj)).symm⟩
  rw[aRa hij]at hj
  exact .inr ⟨hj,fun hh=>hij hh.symm⟩
 have hlive: ∀g,cX M (h.set b (some ⟨e,cs.take k⟩)) g→cX M h g:=by
  rintro g ⟨j,B,hj,hm⟩
  rcases hget hj with⟨rfl,_⟩|⟨h1,_⟩
  ·exact⟨j,_,hb,hm⟩
  exact⟨j,B,h1,hm⟩
 have hX: ∀g,Xs A M (h.set b (some ⟨e,cs.take k⟩)) g→Xs A M h g:=fun g hx=>hx.elim .inl (fun hl=> .inr (hlive g hl))
 refine⟨M,rfl,⟨⟨by rw[R.hr.len,aRt],R.hr.alt, ?_, ?_,R.hr.glob.avoid fun g _ hx=>hX g hx⟩,⟨R.sr.len,fun t x hx=>(R.sr.val t x hx).avoid (fun g _ hx=>hX g hx)⟩,R.defers⟩,hlive⟩
 ·intro j B hj
  rcases hget hj with⟨rfl,rfl⟩|⟨h1,hne⟩
  ·obtain⟨hone,hcase⟩:=R.hr.blk j _ hb
   refine⟨fun c hc=>hone c (List.mem_of_mem_take hc), ?_⟩
   rcases hcase with⟨hn,hc0⟩|⟨g,ds,hg,hA,hw,hle,hcs⟩
   ·simp only at hc0
    subst hc0
    exact .inl ⟨hn,by simp⟩
   refine .inr ⟨g,ds,hg,hA, ?_,by simp only[aQK]at hle ⊢; omega, ?_⟩
   ·rcases hw with hw|⟨es,clock,hm,hok,heq⟩
    ·exact .inl hw
    exfalso
    have hev:=cG hl
    simp only[ev]at hev
    have hv:=R.sr.val t (.sl j 0 q K ag) hev
    unfold VR at hv
    rcases hv with⟨hm0,_⟩|⟨g',cap,e',sz,hm',_,_,_,_,hshp,_⟩
    ·rw[hg]at hm0;cases hm0
    rw[hg]at hm'
    obtain rfl:=aQN (aQN hm')
    unfold World.shape? at hshp
    rw[hm]at hshp
    cases hshp
   have:=hcs.take k
   rw[aRF]at this
   simp only[aQK]
   exact this.avoid (fun g _ hx=>hX g hx)
  obtain⟨hone,hcase⟩:=R.hr.blk j B h1
  refine⟨hone, ?_⟩
  rcases hcase with hn|⟨g,ds,hg,hA,hw,hle,hcs⟩
  ·exact .inl hn
  exact .inr ⟨g,ds,hg,hA,hw,hle,hcs.avoid (fun g _ hx=>hX g hx)⟩
 intro i j B C g hi hj mi mj
 have f: ∀{j:Nat}{B:Blk},(h.set b (some ⟨e,cs.take k⟩))[j]? =some (some B)→ ∃B0,h[j]? =some (some B0):=by
  intro j B hj
  rcases hget hj with⟨e1,_⟩|⟨e1,_⟩
  ·exact⟨_,by rw[e1];exact hb⟩
  exact⟨_,e1⟩
 obtain⟨B1,h1⟩:=f hi
 obtain⟨C1,k1⟩:=f hj
 exact R.hr.inj i j B1 C1 g h1 k1 mi mj
section
variable {N n b e t q K:Nat}{fr:List (Nat×V)}{h h':Hp}{ag:Bool}{α:Type}{E:α→V}{C:α→List V}{l x:List α}{c:Int}
theorem aOD {α:Type}{l:List α}:sub l 0 0=some []:=by
 unfold sub
 rw[if_pos ⟨aRj _,aRj _,by omega⟩]
 rfl
theorem Ghost.cutM (hl:bG n fr (.tmp t)=some (.sl b 0 q 1 ag))(hb:h[b]? =some (some ⟨e,l.map E⟩))(hs:sub l 0 c=some x)(hh:h.set b (some ⟨e,x.map E⟩)=h'):Ghost N (aE n fr) h (aE n fr) h':=by
 subst hh
 unfold sub at hs
 split at hs
 ·injection hs with hs
  have:x.map E=(l.map E).take c.toNat:=by rw[←hs,←aQQ];simp
  rw[this]
  exact Ghost.cut hl hb
 cases hs
theorem Ghost.cutF (hC: ∀x,(C x).length=K)(hl:bG n fr (.tmp t)=some (.sl b 0 q K ag))(hb:h[b]? =some (some ⟨e,l.flatMap C⟩))(hs:sub l 0 c=some x)(hh:h.set b (some ⟨e,x.flatMap C⟩)=h'):Ghost N (aE n fr) h (aE n fr) h':=by
 subst hh
 unfold sub at hs
 split at hs
 ·injection hs with hs
  have:x.flatMap C=(l.flatMap C).take (c.toNat*K):=by rw[←hs];simp only[Int.toNat_zero,aQW];exact(aFO hC _ _).symm
  rw[this]
  exact Ghost.cut hl hb
 cases hs
end
abbrev CA4 (E:Int→V)(x:List Int):List V:=cA E x []
abbrev aBt (E:Int→V)(x:List Int):List V:=bJ E x []
@[simp] theorem p8 {f:Nat→Nat}{k:IntKind}(l:List (List Int)):V.rns f (l.flatMap (CA4 (eI k)))=l.flatMap (CA4 (eI k)):=jV (fun _=>rfl) l
@[simp] theorem mM {f:Nat→Nat}{k:IntKind}(l:List (List Int)):V.rns f (l.flatMap (aBt (eI k)))=l.flatMap (aBt (eI k)):=jV (fun _=>rfl) l
theorem aLh {k:IntKind}(l:List Int):V.softA (.agg (l.map (eI k)))= .agg (l.map (eI k)):=by
 simp only[V.softA,List.map_map]
 rfl
theorem aO0 {P:Program}{t:TypeId}{n:Nat}{ps ps':List (Nat×V)}{h:Hp}{r:V×Hp}(e:ps=ps')(hb:iU P t n ps' h=some r):iU P t n ps h=some r:=by rw[e];exact hb
theorem Conv.rowKA {C:List Int→List V}{E:Int→V}{K:Nat}{l:List (List Int)}(hC: ∀x,(C x).length=K)(h1K: ∀x,(C x).all V.one=true)(hsh: ∀x,(C x).all V.shut=true)(hcx: ∀x∈l,C x=x.map E){h h':Hp}(hs:Sub h h'){b n:Nat}{e:TypeId}(hb:h[b]? =some (some ⟨e,l.flatMap C⟩))(hb':h'[b]? =some none)(hn:n=l.length):Conv h h' (.sl b 0 n K true) (.row none K (l.map (eA E))):=by
 have:=Conv.rowK hC h1K hsh hs hb hb' hn
 rwa[show(l.map fun x=>V.agg (C x))=l.map (eA E)from List.map_congr_left fun x hx=>by rw[hcx x hx]]at this
theorem AB.scope {P:Program}{N:Nat}{Q:Ex→List V→Hp→Prop}{s:List V}{h:Hp}{c:Code}(hh:AB P N c Q s h):AB P N (.scope c) Q s h:=by
 intro A M0 M h0 w0 a w hN hM G R
 refine wp_scope_straight (Code.wp_mono (fun e a' w' ⟨x,s1,h1,M1,he,hq,G1,R1⟩=> ?_) (hh A M0 M h0 w0 a w hN hM G R))
 subst he
 cases x with
 |normal=>exact⟨.normal,s1,h1,M1,rfl,hq,G1,R1⟩
 |exit i=>exact⟨.exit i,s1,h1,M1,rfl,hq,G1,R1⟩
 |ret=>exact⟨.ret,s1,h1,M1,rfl,hq,G1,R1⟩
theorem AB.label {P:Program}{N:Nat}{Q:Ex→List V→Hp→Prop}{s:List V}{h:Hp}{l:Nat}(hq:Q .normal s h):AB P N (.label l) Q s h:=by
 intro A M0 M h0 w0 a w hN hM G R
 exact wp_label ⟨.normal,s,h,M,rfl,hq,G,R⟩
def pA (x y c:Int):Option (Int×Int):=if c.toNat≤1 then some ((((x.toNat+y.toNat+c.toNat)%18446744073709551616:Nat):Int),(((x.toNat+y.toNat+c.toNat)/18446744073709551616:Nat):Int))else none
def aBA (x y c:Int):Option (Int×Int):=if c.toNat≤1 then some ((((x.toNat+18446744073709551616-y.toNat-c.toNat)%18446744073709551616:Nat):Int),((if x.toNat<y.toNat+c.toNat then 1 else 0:Nat):Int))else none
def aN4 :Array Value→Sem Value:=(Extern.MathBitsCarry.rows.get ⟨0,by decide⟩).2
def aNF :Array Value→Sem Value:=(Extern.MathBitsCarry.rows.get ⟨1,by decide⟩).2
theorem aLd {P:Program} {f:FuncId} {fn:Func} (hf:P.funcs[f]? =some fn) (hn:(fn.name == "runtime.NumGoroutine")=false) (hb:fn.body.isNone=true) (h1:Extern.findNext fn=none) (h2:Extern.find fn=some aN4) {x y c:Int} {r:Int×Int} (hr:pA x y c=some r):Fn P f [] [eI .u64 x,eI .u64 y,eI .u64 c] (.tup [eI .u64 r.1,eI .u64 r.2]) []:=by
 unfold pA at hr
 split at hr
 ·rename_i hc
  injection hr with hr
  subst hr
  refine aJQ hf hn hb h1 h2 fun X M w vs hv=> ?_
  unfold VCells at hv
  obtain⟨v,rest,rfl,hv,hr⟩:=hv
  unfold VCells at hr
  obtain⟨u,rest,rfl,hu,hr⟩:=hr
  unfold VCells at hr
  obtain⟨z,rest,rfl,hz,hr⟩:=hr
  unfold VCells at hr
  subst hr
  unfold VR at hv hu hz
  subst hv hu hz
  have hgt: ¬c.toNat>1:=by omega
  refine⟨.tuple #[.int .u64 (((x.toNat+y.toNat+c.toNat)%18446744073709551616:Nat):Int),.int .u64 (((x.toNat+y.toNat+c.toNat)/18446744073709551616:Nat):Int)], ?_, ?_⟩
  ·match c,hgt with
   | .ofNat 0,_=>rfl
   | .ofNat 1,_=>rfl
   | .ofNat (k+2),hgt=>exact absurd (show(Int.ofNat (k+2)).toNat>1 by simp;omega) hgt
   | .negSucc k,_=>rfl
  unfold VR
  exact⟨_,rfl,by unfold VCells;exact⟨_,_,rfl,by unfold VR;rfl,by unfold VCells;exact⟨_,_,rfl,by unfold VR;rfl,by unfold VCells;rfl⟩⟩⟩
 cases hr
theorem aLf {P:Program} {f:FuncId} {fn:Func} (hf:P.funcs[f]? =some fn) (hn:(fn.name == "runtime.NumGoroutine")=false) (hb:fn.body.isNone=true) (h1:Extern.findNext fn=none) (h2:Extern.find fn=some aNF) {x y c:Int} {r:Int×Int} (hr:aBA x y c=some r):Fn P f [] [eI .u64 x,eI .u64 y,eI .u64 c] (.tup [eI .u64 r.1,eI .u64 r.2]) []:=by
 unfold aBA at hr
 split at hr
 ·rename_i hc
  injection hr with hr
  subst hr
  refine aJQ hf hn hb h1 h2 fun X M w vs hv=> ?_
  unfold VCells at hv
  obtain⟨v,rest,rfl,hv,hr⟩:=hv
  unfold VCells at hr
  obtain⟨u,rest,rfl,hu,hr⟩:=hr
  unfold VCells at hr
  obtain⟨z,rest,rfl,hz,hr⟩:=hr
  unfold VCells at hr
  subst hr
  unfold VR at hv hu hz
  subst hv hu hz
  have hgt: ¬c.toNat>1:=by omega
  refine⟨.tuple #[.int .u64 (((x.toNat+18446744073709551616-y.toNat-c.toNat)%18446744073709551616:Nat):Int),.int .u64 ((if x.toNat<y.toNat+c.toNat then 1 else 0:Nat):Int)], ?_, ?_⟩
  ·match c,hgt with
   | .ofNat 0,_=>rfl
   | .ofNat 1,_=>rfl
   | .ofNat (k+2),hgt=>exact absurd (show(Int.ofNat (k+2)).toNat>1 by simp;omega) hgt
   | .negSucc k,_=>rfl
  unfold VR
  exact⟨_,rfl,by unfold VCells;exact⟨_,_,rfl,by unfold VR;rfl,by unfold VCells;exact⟨_,_,rfl,by unfold VR;rfl,by unfold VCells;rfl⟩⟩⟩
 cases hr
theorem sj {α:Type}{a b:α}(h:some a=some b):a=b:=aQN h
section
variable {P:Program}{ops:Array Oper}{l:List Oper}{n N:Nat}{fr:List (Nat×V)}{h h' h1:Hp}{K:List V→Hp→Prop}{op:Op}{ty:TypeId}{pos:String}{aft:Array Edge}{t:Nat}{v c d:V}{x y z:Operand}{Q:Ex→List V→Hp→Prop}{ty' u:TypeId}
variable {j w:Nat}{want b:Bool}
theorem zg (hc:b=want)(hd:bC P O0 ⟨some t,op,ty,pos,aft,some (j,want)⟩ (aE n fr) h=some (v,h'))(q:OpsW P N ops l (aE n ((t,v)::fr)) h' K) (hj:(ops[j]?).bind (·.dst)=some w:=by rfl) (hl:bG n fr (.tmp w)=some (.sc (.bool b)):=by rfl):OpsW P N ops (⟨some t,op,ty,pos,aft,some (j,want)⟩::l) (aE n fr) h K:=wS (svG hj hl hc hd) q
theorem zk {co:Operand}{X Y:Code}{α:Type}{A B:Option α}{r:α}(hr:(if b=true then A else B)=some r)(hc:bG n fr co=some (.sc (.bool b)))(g1:b=true→A=some r→AB P N X Q (aE n fr) h)(g2:b=false→B=some r→AB P N Y Q (aE n fr) h):AB P N (.cond co X Y) Q (aE n fr) h:=AB.cnd hc (fun e=>g1 e (cU hr e)) (fun e=>g2 e (cQ hr e))
theorem zf {f:FuncId} {fn:Func} {co:Code} {args:List V} {r:V} (hf:P.funcs[f]? =some fn) (hnt:fn.ntmps=n) (hh:AB P N co (aAA P fn N r h') (aE n fr) h) (hb:fn.body=some co:=by rfl) (hn:(fn.name == "runtime.NumGoroutine")=false:=by kernel_rfl) (hal:args.length≤n:=by exact zl) (hN:h.length=N:=by rfl) (hfr:num 0 args=fr:=by(simp only[num,Nat.reduceAdd,Nat.zero_add]<;>rfl)):Fn P f h args r h':=aOW hf hb hn hnt hal hN hfr hh
variable {F G:FuncId→Bool}{m:Nat}{listed:Array Bool}{s:List V}{o:Oper}{s1:List V}
end
section
variable {P:Program}{fn:Func}{n N:Nat}{fr:List (Nat×V)}{h h':Hp}{r a b c:V}{t u w:Nat}
theorem bK (hr:fn.results= #[.tmp t])(σ:List Nat) (hx:bG n fr (.tmp t)=some a:=by rfl) (hf:FLe uG (V.rn (sg σ h.length)) [(0,a)] [(0,r)]:=by repeat (first|exact FLe.nil|refine FLe.same rfl ?_|refine FLe.le rfl V.le_nil ?_|refine FLe.le rfl V.le_row ?_|refine FLe.le rfl (V.le_arr (fun _=>rfl)) ?_)) (hh:HLe (sg σ h.length) h σ h':=by repeat (first|exact HLe.nil|refine HLe.dead ?_|refine HLe.live rfl V.les_nil rfl ?_|refine HLe.live rfl (aBh (fun _=>rfl) _) (all_map (fun _=>rfl) _) ?_|refine HLe.live rfl (aAd (fun _=>rfl) _) (mU (fun _=>rfl) _) ?_|refine HLe.live rfl (V.les_refl _ _) rfl ?_)) (hσ:σ.take N=List.range N:=by rfl) (hlt:σ.all (fun b=>Nat.blt b h.length)=true:=by rfl) (hnd:ndB (lvs σ h')=true:=by rfl):aAA P fn N r h' .ret (aE n fr) h:=xD (aOq hr (rvT hx)) (Ghost.rn σ hσ hlt hf hh hnd)
theorem u6 (hr:fn.results= #[.tmp t,.tmp u])(σ:List Nat) (hx:bG n fr (.tmp t)=some a:=by rfl) (hy:bG n fr (.tmp u)=some b:=by rfl) (hf:FLe uG (V.rn (sg σ h.length)) [(0,(.tup [a,b]))] [(0,r)]:=by repeat (first|exact FLe.nil|refine FLe.same rfl ?_|refine FLe.le rfl V.le_nil ?_|refine FLe.le rfl V.le_row ?_|refine FLe.le rfl (V.le_arr (fun _=>rfl)) ?_)) (hh:HLe (sg σ h.length) h σ h':=by repeat (first|exact HLe.nil|refine HLe.dead ?_|refine HLe.live rfl V.les_nil rfl ?_|refine HLe.live rfl (aBh (fun _=>rfl) _) (all_map (fun _=>rfl) _) ?_|refine HLe.live rfl (aAd (fun _=>rfl) _) (mU (fun _=>rfl) _) ?_|refine HLe.live rfl (V.les_refl _ _) rfl ?_)) (hσ:σ.take N=List.range N:=by rfl) (hlt:σ.all (fun b=>Nat.blt b h.length)=true:=by rfl) (hnd:ndB (lvs σ h')=true:=by rfl):aAA P fn N r h' .ret (aE n fr) h:=xD (a9 hr (rvT hx) (rvT hy)) (Ghost.rn σ hσ hlt hf hh hnd)
theorem zd3 (hr:fn.results= #[.tmp t,.tmp u,.tmp w])(σ:List Nat) (hx:bG n fr (.tmp t)=some a:=by rfl) (hy:bG n fr (.tmp u)=some b:=by rfl) (hz:bG n fr (.tmp w)=some c:=by rfl) (hf:FLe uG (V.rn (sg σ h.length)) [(0,(.tup [a,b,c]))] [(0,r)]:=by repeat (first|exact FLe.nil|refine FLe.same rfl ?_|refine FLe.le rfl V.le_nil ?_|refine FLe.le rfl V.le_row ?_|refine FLe.le rfl (V.le_arr (fun _=>rfl)) ?_)) (hh:HLe (sg σ h.length) h σ h':=by repeat (first|exact HLe.nil|refine HLe.dead ?_|refine HLe.live rfl V.les_nil rfl ?_|refine HLe.live rfl (aBh (fun _=>rfl) _) (all_map (fun _=>rfl) _) ?_|refine HLe.live rfl (aAd (fun _=>rfl) _) (mU (fun _=>rfl) _) ?_|refine HLe.live rfl (V.les_refl _ _) rfl ?_)) (hσ:σ.take N=List.range N:=by rfl) (hlt:σ.all (fun b=>Nat.blt b h.length)=true:=by rfl) (hnd:ndB (lvs σ h')=true:=by rfl):aAA P fn N r h' .ret (aE n fr) h:=xD (rB hr (rvT hx) (rvT hy) (rvT hz)) (Ghost.rn σ hσ hlt hf hh hnd)
end
end Go.Vm
