/- Texts of ours, joined: VmAis, VmShort, VmCut, VmQ, VmX, VmY, VmZ, VmMark, VmEs, VmFz, VmRange, VmNil, VmMall. -/
import Derived.Test.YtopdhljncajmpaaGreatDoorQLedgerDisconnects2
import Derived.Scope
import Derived.Maps.RangeRun
import Derived.LoopN
open Nat renaming le_of_ble_eq_true → a1a,lt_of_lt_of_le → a1c,ble → a1q,le_trans → a1s,zero_add → a10,beq → a11,eq_of_beq_eq_true → a12,le_refl → a18,sub_add_cancel → a19
open List renaming map_cons → a1b,getElem?_set_self → a1d,getElem?_eq_some_iff → a1f,getElem?_eq_getElem → a1g,prefix_refl → a1i,length_take → a1l,getElem?_set_ne → a1m,all_eq_true → a1n,replicate → a1o,take_of_length_le → a1p,size_toArray → a1t,append_assoc → a1u,getD_eq_getElem?_getD → a1v,getElem?_append_left → a1w,length_cons → a1x,length_append → a1y,findIdx?_eq_some_iff_getElem → a1z,length_set → a1A,getElem?_cons_zero → a1B,drop_eq_nil_of_le → a1D,flatMap_cons → a1E,getElem?_map → a1F,range → a1G,getElem?_eq_none → a1I,mem_map → a1J,eq_nil_of_length_eq_zero → a1K,mem_of_mem_take → a1L,nil_append → a1N,length_map → a1O,map_append → a1P,filter_eq_self → a1Q,mem_singleton → a1S,drop_zero → a1T,getElem?_take_of_lt → a1V,all_cons → a1W,mem_cons → a1X,drop_append → a1Y,mem_of_mem_drop → a13,range_eq_range' → a14,getElem?_range → a16,map_congr_left → a17,zip_cons_cons → a2b,ext_getElem? → a2d,length_drop → a2e,take_append → a2f,range'_succ → a2g,take_prefix → a2h,drop_left' → a2i,take_left' → a2j,append_nil → a2k,range' → a2m
open Option.some renaming injEq → a1e,inj → a1j
open Bool renaming and_eq_true → a1h,and_eq_true_iff → a15,false_eq_true → a2a,true_and → a2c,eq_iff_iff → a2l
open Array renaming getElem?_eq_some_iff → a1k,getElem?_setIfInBounds_self_of_lt → a1r,getElem?_setIfInBounds_ne → a1H,getD_eq_getD_getElem? → a1R
open Option renaming bind_eq_some_iff → a1C,isSome_iff_exists → a1U,map_some → a1Z
open Int renaming le_refl → a1M
open Go.Vm.Conv renaming rowK → a2n
set_option linter.unusedSimpArgs false
set_option linter.unusedVariables false
namespace Go.Vm
open Go
instance :Inhabited MT:=⟨⟨0,0,⟨.bool,0,0,default⟩,⟨.bool,0,0,default⟩⟩⟩
section
variable {P:Program}{t:TypeId}{L:List TypeDesc}{ti:TI}{xo yo:Operand}{d:Nat}
theorem aNf (hg:P.eqGuardType P.depth t=false){bo:BinOp}(hbo:bo= .eql∨bo= .neq)(a b:Array Value):aS P (eqGuard bo t xo yo (.agg a) (.agg b))=some ():=by
 unfold eqGuard
 rcases hbo with rfl|rfl<;>
 ·show aS P (if(!P.eqGuardType P.depth t)=true then pure ()else _)=some ()
  rw[hg];rfl
theorem aKF (ht:aK P t=some ti)(hag:bY ti.desc=true)(hf:vB P d t=some L)(hd:d≤10000){xs ys:List Value}(ox:fJ L xs=true)(oy:fJ L ys=true):aS P (Op.equal t (.agg xs.toArray) (.agg ys.toArray))=some (fM xs ys):=by
 have:=((tW d ht hf).2 (10000-d) ox).1 oy
 simp only[mkT,hag,if_true]at this
 rw[a19 hd]at this
 exact this
theorem k7 (ht:aK P t=some ti)(hag:bY ti.desc=true)(hf:vB P d t=some L)(hd:d≤10000)(hg:P.eqGuardType P.depth t=false){cs ds:List V}{xs ys:List Value}{r:Bool}(hx:cs.mapM cZ=some xs)(hy:ds.mapM cZ=some ys)(ox:fJ L xs=true)(oy:fJ L ys=true)(hr:fM xs ys=r):
  c5 P .eql t xo yo (.agg cs) (.agg ds)=some (.sc (.bool r)):=by
 simp only[c5,eJ,hx,hy,a1Z,pureV]
 rw[bF _ _ (aNf hg (.inl rfl) _ _)]
 have:aS P (binOp .eql t (.agg xs.toArray) (.agg ys.toArray))=some (.bool (fM xs ys)):=sT _ _ (aKF ht hag hf hd ox oy)
 rw[this,hr];rfl
theorem aI3 (ht:aK P t=some ti)(hag:bY ti.desc=true)(hf:vB P d t=some L)(hd:d≤10000)(hg:P.eqGuardType P.depth t=false){cs ds:List V}{xs ys:List Value}{r:Bool}(hx:cs.mapM cZ=some xs)(hy:ds.mapM cZ=some ys)(ox:fJ L xs=true)(oy:fJ L ys=true)(hr:fM xs ys=r):
  c5 P .neq t xo yo (.agg cs) (.agg ds)=some (.sc (.bool (!r))):=by
 simp only[c5,eJ,hx,hy,a1Z,pureV]
 rw[bF _ _ (aNf hg (.inr rfl) _ _)]
 have:aS P (binOp .neq t (.agg xs.toArray) (.agg ys.toArray))=some (.bool (!(fM xs ys))):=sT _ (fun b=>Value.bool !b) (aKF ht hag hf hd ox oy)
 rw[this,hr];rfl
end
structure aHl (P:Program)(kt:TypeId){α:Type}(VK:α→Value)(eq:α→α→Bool):Prop where
 equal: ∀a b,aS P (Op.equal kt (VK a) (VK b))=some (eq a b)
 check: ∀e a,aS P (Instr.checkKey e 10000 kt (VK a))=some ()
 stays: ∀a b,eq a b=true→Instr.sameBits 10000 (VK b) (VK a)=true
theorem aV0 {a b:ByteArray}(h:(a == b)=true):a=b:=by
 obtain⟨a⟩:=a
 obtain⟨b⟩:=b
 have h':(a == b)=true:=h
 rw[eq_of_beq h']
theorem aRS : ∀(n:Nat){L:List TypeDesc}{xs ys:List Value},fJ L xs=true→fJ L ys=true→fM xs ys=true→(ys.zip xs).all (fun(x,y)=>Instr.sameBits n x y)=true
 |n,[],[],[],_,_,_=>rfl
 |n,d::L,x::xs,y::ys,hx,hy,h=>by
  simp only[fM,a1h]at h
  have key:fJ L xs=true∧fJ L ys=true∧Instr.sameBits n y x=true:=by
   cases d<;>cases x<;>simp only[fJ,a2a,a1h,decide_eq_true_eq]at hx<;>cases y<;>simp only[fJ,a2a,a1h,decide_eq_true_eq]at hy<;>simp only[aLl,beq_iff_eq]at h
   ·exact⟨hx,hy,by cases n<;>simp[Instr.sameBits,h.1]⟩
   ·refine⟨hx.2,hy.2, ?_⟩
    have h1:=hx.1.symm.trans hy.1
    cases n<;>simp[Instr.sameBits,h.1,h1]
   refine⟨hx,hy, ?_⟩
   have h1:=aV0 h.1
   subst h1
   cases n<;>exact h.1
  simp only[a2b,a1W,key.2.2,a2c]
  exact aRS n key.1 key.2.1 h.2
 |n,[],_::_,_,hx,_,_=>by simp[fJ]at hx
 |n,[],[],_::_,_,hy,_=>by simp[fJ]at hy
 |n,d::L,[],_,hx,_,_=>by cases d<;>simp[fJ]at hx
 |n,d::L,_::_,[],_,hy,_=>by cases d<;>simp[fJ]at hy
theorem aIN {P:Program}{kt:TypeId}{L:List TypeDesc}{ti:TI}{d:Nat}{α:Type}{xs:α→List Value}{eq:α→α→Bool}(ht:aK P kt=some ti)(hag:bY ti.desc=true)(hf:vB P d kt=some L)(hd:d≤10000)(ok: ∀a,fJ L (xs a)=true)(heq: ∀a b,fM (xs a) (xs b)=eq a b):
  aHl P kt (fun a=> .agg (xs a).toArray) eq:=by
 refine⟨fun a b=>by rw[←heq];exact aKF ht hag hf hd (ok a) (ok b),fun e a=> ?_,fun a b h=> ?_⟩
 ·have:=((tW d ht hf).2 (10000-d) (ok a)).2 e
  simp only[mkT,hag,if_true]at this
  rw[a19 hd]at this
  exact this
 have h1:=aRS 9999 (ok a) (ok b) (by rw[heq];exact h)
 have hl:(xs b).length=(xs a).length:=by rw[kL (ok a),kL (ok b)]
 show Instr.sameBits (9999+1) _ _=true
 simp only[Instr.sameBits,a1t,hl,beq_self_eq_true,a2c]
 exact h1
def lI {α β:Type}(eq:α→α→Bool)(l:List (α×β))(k:α):Option Nat:=l.findIdx? fun e=>eq k e.1
def mR {α β:Type}(eq:α→α→Bool)(l:List (α×β))(k:α)(z:β):β:=match lI eq l k with
 |some i=>((l[i]?).map (·.2)).getD z
 |none=>z
def aEl {α β:Type}(eq:α→α→Bool)(l:List (α×β))(k:α):Bool:=(lI eq l k).isSome
def uG {α β:Type}(eq:α→α→Bool)(l:List (α×β))(k:α)(v:β):List (α×β):=match lI eq l k with
 |some i=>l.set i (k,v)
 |none=>l++[(k,v)]
section
variable {P:Program}{kt:TypeId}{α β:Type}{VK:α→Value}{eq:α→α→Bool}{KV:α→V}{CK:α→List V}{CV:β→List V}{VE:β→V}{C:α×β→List V}{K L:Nat}{l:List (α×β)}{k:α}{v:β}
theorem aQL (hC: ∀e,C e=CK e.1++CV e.2)(hl: ∀a,(CK a).length=cT K)(hv: ∀b,(CV b).length=cT L)(hm: ∀b,aEs L (CV b)=VE b)(hk: ∀a,aEs K (CK a)=KV a): ∀l:List (α×β),aBV K L l.length (l.flatMap C)=l.map fun e=>(KV e.1,VE e.2)
 | []=>rfl
 |e::l=>by
  have e1:(e::l).flatMap C=CK e.1++(CV e.2++l.flatMap C):=by rw[a1E,hC];simp
  simp only[a1x,aBV,e1]
  have d1:(CK e.1++(CV e.2++l.flatMap C)).drop (cT K)=CV e.2++l.flatMap C:=a2i (hl _)
  have d2:(CK e.1++(CV e.2++l.flatMap C)).drop (cT K+cT L)=l.flatMap C:=by rw[←List.drop_drop,d1];exact a2i (hv _)
  rw[a2j (hl _),d1,a2j (hv _),hm,hk,d2,aQL hC hl hv hm hk l,a1b]
theorem aSN (hC: ∀e,C e=CK e.1++CV e.2)(hk: ∀a,(KV a).cells=CK a)(hc: ∀b,(VE b).cells=CV b)(l:List (α×β)):aDO (l.map fun e=>(KV e.1,VE e.2))=l.flatMap C:=by
 simp only[aDO,List.flatMap_map,hk,hc]
 exact congrArg (fun f=>List.flatMap f l) (funext fun e=>(hC e).symm)
theorem aOQ (hC: ∀e,C e=CK e.1++CV e.2)(hl: ∀a,(CK a).length=cT K)(hv: ∀b,(CV b).length=cT L): ∀l:List (α×β),(l.flatMap C).length=l.length*(cT K+cT L)
 | []=>by simp
 |e::l=>by rw[a1E,a1y,aOQ hC hl hv l,hC];simp[hl,hv,Nat.add_mul];omega
theorem aOh (hv: ∀a,eJ (KV a)=some (VK a)): ∀l:List (α×β),(l.map fun e=>(KV e.1,VE e.2)).mapM (fun e=>eJ e.1)=some (l.map fun e=>VK e.1)
 | []=>rfl
 |e::l=>by simp only[a1b,List.mapM_cons,hv,aOh hv l];rfl
theorem aOL (hk:aHl P kt VK eq)(k:α): ∀l:List (α×β),pS P kt (VK k) (l.map fun e=>VK e.1)=some (lI eq l k)
 | []=>rfl
 |e::l=>by
  simp only[a1b,pS,hk.equal,lI,List.findIdx?_cons]
  cases eq k e.1 with
  |true=>rfl
  |false=>
   have:=aOL hk k l
   simp only[lI]at this
   simp[this]
end
class MpC (P:Program) (t:TypeId) (α β:outParam Type) (eq:outParam (α→α→Bool)) (KV:outParam (α→V)) (CK:outParam (α→List V)) (CV:outParam (β→List V)) (VE:outParam (β→V)) (C:outParam (α×β→List V)) (z:outParam β) (e:outParam Nat):Prop where
 h: ∃(m:MT)(K L:Nat)(VK:α→Value),r9 P t=some m∧m.code=e∧mF m.dk=K∧mF m.de=L∧(∀a,aEs K (CK a)=KV a)∧aHl P m.kt VK eq∧(∀a,eJ (KV a)=some (VK a))∧(∀x,C x=CK x.1++CV x.2)∧(∀a,(CK a).length=cT K)∧(∀b,(CV b).length=cT L)∧(∀b,aEs L (CV b)=VE b)∧(∀b,(VE b).cells=CV b)∧(∀b,aII L (VE b)=true)∧(∀a,(KV a).cells=CK a∧aII K (KV a)=true)∧(ofValue m.de.zero).softA=VE z
section
variable {P:Program}{t:TypeId}{α β:Type}{eq:α→α→Bool}{KV:α→V}{CK:α→List V}{CV:β→List V}{VE:β→V}{C:α×β→List V}{z:β}{e:Nat}{l:List (α×β)}{k:α}{v:β}{h h':Hp}{b:Nat}
theorem MpC.at_ (M:MpC P t α β eq KV CK CV VE C z e)(hb:h[b]? =some (some ⟨e,l.flatMap C⟩)): ∃m:MT,zA P t h (.mp b)=some ⟨m,b,⟨e,l.flatMap C⟩,l.map fun x=>(KV x.1,VE x.2)⟩∧aII (mF m.dk) (KV k)=true∧(∀b,aII (mF m.de) (VE b)=true)∧(ofValue m.de.zero).softA=VE z∧(∃VK:α→Value,aCJ P m.kt (l.map fun x=>(KV x.1,VE x.2)) (KV k)=some (VK k,l.map (fun x=>VK x.1),lI eq l k)∧ ∀a b,eq a b=true→Instr.sameBits 10000 (VK b) (VK a)=true)∧(∀b,(VE b).cells=CV b)∧(∀x,C x=CK x.1++CV x.2)∧ ∀a,(KV a).cells=CK a:=by
 obtain⟨m,K,L,VK,h1,h2,h3,h4,h0,hk,hv,hC,hl,hvl,hm,hc,hs,ho,hz⟩:=M.h
 subst h2 h3 h4
 refine⟨m, ?_,(ho k).2,hs,hz,⟨VK, ?_,hk.stays⟩,hc,hC,fun a=>(ho a).1⟩
 ·simp only[zA,h1,hb,if_true,aOQ hC hl hvl]
  rw[Nat.mul_div_cancel _ (by have:=aHn (mF m.dk);omega),aQL hC hl hvl hm h0]
 simp only[aCJ,hv,aOh hv,hk.check,aOL hk]
theorem MpC.lk (M:MpC P t α β eq KV CK CV VE C z e)(hb:h[b]? =some (some ⟨e,l.flatMap C⟩))(ok:Bool):vM P t h (.mp b) (KV k) ok=some (if ok then .tup [VE (mR eq l k z),eB (aEl eq l k)]else VE (mR eq l k z)):=by
 obtain⟨m,h1,h2,h3,hz,⟨VK,h4,h5⟩,hc,hC,_⟩:=M.at_ (k:=k) hb
 simp only[vM,h1,h4,mR,aEl]
 cases hf:lI eq l k with
 |none=>simp[hz]
 |some i=>
  have hi:i<l.length:=(a1z.1 hf).1
  simp[hi]
theorem MpC.up (M:MpC P t α β eq KV CK CV VE C z e)(hb:h[b]? =some (some ⟨e,l.flatMap C⟩)):aN0 P t h (.mp b) (KV k) (VE v)=some (h.set b (some ⟨e,(uG eq l k v).flatMap C⟩)):=by
 obtain⟨m,h1,h2,h3,hz,⟨VK,h4,h5⟩,hc,hC,ha⟩:=M.at_ (k:=k) hb
 simp only[aN0,h1,h2,h3,Bool.and_self,if_true,h4,uG]
 cases hf:lI eq l k with
 |none=>simp only[List.flatMap_append,a1E,List.flatMap_nil,hC,ha,hc,a2k]
 |some i=>
  obtain⟨hi,hp,_⟩:=a1z.1 hf
  have hst:aM8 (l.map fun x=>VK x.1) i (VK k)=true:=by
   simp only[aM8,a1F,a1g hi,a1Z,Option.any_some]
   exact h5 _ _ hp
  simp only[hst,if_true]
  rw[←aSN hC ha hc (l.set i (k,v)),List.map_set]
end
theorem aUc {P:Program}{kt:TypeId}{ti:TI}(ht:aK P kt=some ti)(hag:bY ti.desc=false)(hf:vB P 1 kt=some [.string]):aHl P kt (fun a:ByteArray=> .string a) (fun a b=>a == b):=by
 have e: ∀a,mkT ti [.string a]= .string a:=fun a=>by simp[mkT,hag]
 refine⟨fun a b=> ?_,fun w a=> ?_,fun a b h=> ?_⟩
 ·have:=((tW 1 ht hf).2 9999 (xs:=[.string a]) rfl).1 (ys:=[.string b]) rfl
  rw[e,e]at this
  have h2:fM [Value.string a] [Value.string b]=(a == b):=by simp[fM,aLl]
  rw[h2]at this
  exact this
 ·have:=((tW 1 ht hf).2 9999 (xs:=[.string a]) rfl).2 w
  rw[e]at this
  exact this
 have:=aV0 h
 subst this
 exact h
def aBn (cs:List V):List Value:=(cs.mapM cZ).getD []
section
variable {P:Program}{O:u2}{n:Nat}{fr:List (Nat×V)}{h h':Hp}{ty:TypeId}{pos:String}{aft:Array Edge}{v:V}{d:Option Tmp}{g:Option (Nat×Bool)}{x y z:Operand}{a b c:V}{t:TypeId}
theorem aXu {m:MT}{i e:Nat}(hm:r9 P t=some m)(he:m.code=e)(hl:h.length=i)(hh:h++[some ⟨e,[]⟩]=h'):bM P O ⟨d,.makeMap t none,ty,pos,aft,g⟩ (aG n fr) h=some (.mp i,h'):=by
 subst hl hh he
 simp[bM,aJp,hm]
theorem aX4 {ok:Bool}(hx:bR n fr x=some a)(hy:bR n fr y=some b)(hv:vM P t h a b ok=some v):bM P O ⟨d,.lookup t x y ok,ty,pos,aft,g⟩ (aG n fr) h=some (v,h):=by simp[bM,cL hx,cL hy,hv]
theorem aZ7 (hx:bR n fr x=some a)(hy:bR n fr y=some b)(hz:bR n fr z=some c)(hv:aN0 P t h a b c=some h'):bM P O ⟨d,.mapUpdate t x y z,ty,pos,aft,g⟩ (aG n fr) h=some (.sc undef,h'):=by simp[bM,cL hx,cL hy,cL hz,hv]
end
theorem aCf {E:Int→V}{n:Nat}{l:List Int}(h:l.length=n):(a1G n).map (fun i=>E (l.getD i 0))=l.map E:=by
 apply a2d
 intro i
 simp only[a1F,List.getElem?_range']
 by_cases hi:i<n
 ·rw[a16 hi,a1g (by omega)]
  simp[a1v,a1g (show i<l.length by omega)]
 rw[a1I (by simpa using hi),a1I (by omega)];rfl
theorem aUj {n:Nat}{a b:List Int}(ha:a.length=n)(hb:b.length=n):(a1G n).all (fun i=>a.getD i 0 == b.getD i 0)=(a == b):=by
 rw[a2l]
 simp only[a1n,List.mem_range,beq_iff_eq]
 constructor
 ·intro h
  apply List.ext_getElem (by omega)
  intro i h1 h2
  have:=h i (by omega)
  simpa[a1v,a1g h1,a1g h2]using this
 rintro rfl i _;rfl
theorem aHI {P:Program}{t:TypeId}{ps ps':List (Nat×V)}{v:V}(h:ps=ps')(hb:u6 P t ps'=some v):u6 P t ps=some v:=by rw[h];exact hb
def eU (E:Int→V)(l:List Int)(r:List V):List V:=E (l.getD 0 0)::E (l.getD 1 0)::E (l.getD 2 0)::E (l.getD 3 0)::r
theorem aXl {E:Int→V}{l:List Int}(h:l.length=4)(r:List V):eU E l r=l.map E++r:=by
 rw[←aCf h];rfl
theorem aSc {E:Int→V}{l:List Int}(h:l.length=4):eU E l []=l.map E:=by rw[aXl h];simp
theorem aRP {f:Nat→Nat}{k:IntKind}{l:List Int}{r:List V}:V.rns f (eU (eI k) l r)=eU (eI k) l (V.rns f r):=rfl
theorem aRM {vn:Nat→Bool}{E:Int→V}{l:List Int}{r r':List V}(hr:V.les vn r r'):V.les vn (eU E l r) (eU E l r'):=by
 unfold eU
 repeat (first|exact hr|refine V.les_cons (V.le_refl _ _) ?_)
theorem aWU {h h':Hp}{E:Int→V}{l:List Int}{r r':List V}(hE: ∀x,Conv h h' (E x) (E x))(hr:Convs h h' r r'):Convs h h' (eU E l r) (eU E l r'):=by
 unfold eU
 repeat (first|exact hr|refine Convs.cons (hE _) ?_)
def ar8 (E:Int→V)(l:List Int)(r:List V):List V:=E (l.getD 0 0)::E (l.getD 1 0)::E (l.getD 2 0)::E (l.getD 3 0)::E (l.getD 4 0)::E (l.getD 5 0)::E (l.getD 6 0)::E (l.getD 7 0)::r
theorem aXV {E:Int→V}{l:List Int}(h:l.length=8)(r:List V):ar8 E l r=l.map E++r:=by
 rw[←aCf h];rfl
theorem aXL {E:Int→V}{l:List Int}(h:l.length=8):ar8 E l []=l.map E:=by rw[aXV h];simp
theorem aRB {f:Nat→Nat}{k:IntKind}{l:List Int}{r:List V}:V.rns f (ar8 (eI k) l r)=ar8 (eI k) l (V.rns f r):=rfl
def aEx (E:Int→V)(l:List Int)(r:List V):List V:=E (l.getD 0 0)::E (l.getD 1 0)::E (l.getD 2 0)::E (l.getD 3 0)::E (l.getD 4 0)::E (l.getD 5 0)::E (l.getD 6 0)::E (l.getD 7 0)::E (l.getD 8 0)::E (l.getD 9 0)::E (l.getD 10 0)::E (l.getD 11 0)::E (l.getD 12 0)::E (l.getD 13 0)::E (l.getD 14 0)::E (l.getD 15 0)::E (l.getD 16 0)::E (l.getD 17 0)::E (l.getD 18 0)::E (l.getD 19 0)::r
theorem aUu {E:Int→V}{l:List Int}(h:l.length=20)(r:List V):aEx E l r=l.map E++r:=by
 rw[←aCf h];rfl
theorem aVp {E:Int→V}{l:List Int}(h:l.length=20):aEx E l []=l.map E:=by rw[aUu h];simp
theorem aQf {f:Nat→Nat}{k:IntKind}{l:List Int}{r:List V}:V.rns f (aEx (eI k) l r)=aEx (eI k) l (V.rns f r):=rfl
def aN (E:Int→V)(l:List Int)(r:List V):List V:=E (l.getD 0 0)::E (l.getD 1 0)::E (l.getD 2 0)::E (l.getD 3 0)::E (l.getD 4 0)::E (l.getD 5 0)::E (l.getD 6 0)::E (l.getD 7 0)::E (l.getD 8 0)::E (l.getD 9 0)::E (l.getD 10 0)::E (l.getD 11 0)::E (l.getD 12 0)::E (l.getD 13 0)::E (l.getD 14 0)::E (l.getD 15 0)::E (l.getD 16 0)::E (l.getD 17 0)::E (l.getD 18 0)::E (l.getD 19 0)::E (l.getD 20 0)::E (l.getD 21 0)::E (l.getD 22 0)::E (l.getD 23 0)::E (l.getD 24 0)::E (l.getD 25 0)::E (l.getD 26 0)::E (l.getD 27 0)::E (l.getD 28 0)::E (l.getD 29 0)::E (l.getD 30 0)::E (l.getD 31 0)::r
theorem aQN {E:Int→V}{l:List Int}(h:l.length=32)(r:List V):aN E l r=l.map E++r:=by
 rw[←aCf h];rfl
theorem dE {E:Int→V}{l:List Int}(h:l.length=32):aN E l []=l.map E:=by rw[aQN h];simp
theorem aQX {f:Nat→Nat}{k:IntKind}{l:List Int}{r:List V}:V.rns f (aN (eI k) l r)=aN (eI k) l (V.rns f r):=rfl
theorem aL0 {vn:Nat→Bool}{E:Int→V}{l:List Int}{r r':List V}(hr:V.les vn r r'):V.les vn (aN E l r) (aN E l r'):=by
 unfold aN
 repeat (first|exact hr|refine V.les_cons (V.le_refl _ _) ?_)
theorem aUB {h h':Hp}{E:Int→V}{l:List Int}{r r':List V}(hE: ∀x,Conv h h' (E x) (E x))(hr:Convs h h' r r'):Convs h h' (aN E l r) (aN E l r'):=by
 unfold aN
 repeat (first|exact hr|refine Convs.cons (hE _) ?_)
def fR (a b:List Int)(r:Bool):Bool:=((a.getD 0 0 == b.getD 0 0)&&((a.getD 1 0 == b.getD 1 0)&&((a.getD 2 0 == b.getD 2 0)&&((a.getD 3 0 == b.getD 3 0)&&((a.getD 4 0 == b.getD 4 0)&&((a.getD 5 0 == b.getD 5 0)&&((a.getD 6 0 == b.getD 6 0)&&((a.getD 7 0 == b.getD 7 0)&&((a.getD 8 0 == b.getD 8 0)&&((a.getD 9 0 == b.getD 9 0)&&((a.getD 10 0 == b.getD 10 0)&&((a.getD 11 0 == b.getD 11 0)&&((a.getD 12 0 == b.getD 12 0)&&((a.getD 13 0 == b.getD 13 0)&&((a.getD 14 0 == b.getD 14 0)&&((a.getD 15 0 == b.getD 15 0)&&((a.getD 16 0 == b.getD 16 0)&&((a.getD 17 0 == b.getD 17 0)&&((a.getD 18 0 == b.getD 18 0)&&((a.getD 19 0 == b.getD 19 0)&&((a.getD 20 0 == b.getD 20 0)&&((a.getD 21 0 == b.getD 21 0)&&((a.getD 22 0 == b.getD 22 0)&&((a.getD 23 0 == b.getD 23 0)&&((a.getD 24 0 == b.getD 24 0)&&((a.getD 25 0 == b.getD 25 0)&&((a.getD 26 0 == b.getD 26 0)&&((a.getD 27 0 == b.getD 27 0)&&((a.getD 28 0 == b.getD 28 0)&&((a.getD 29 0 == b.getD 29 0)&&((a.getD 30 0 == b.getD 30 0)&&((a.getD 31 0 == b.getD 31 0)&&r))))))))))))))))))))))))))))))))
theorem aOA {a b:List Int}(ha:a.length=32)(hb:b.length=32)(r:Bool):fR a b r=((a == b)&&r):=by
 have e:fR a b r=((a1G 32).all (fun i=>a.getD i 0 == b.getD i 0)&&r):=by
  simp only[fR,show a1G 32=[0,1,2,3,4,5,6,7,8,9,10,11,12,13,14,15,16,17,18,19,20,21,22,23,24,25,26,27,28,29,30,31]from rfl,a1W,List.all_nil,Bool.and_assoc,a2c,Bool.and_true]
 rw[e,aUj ha hb]
def aEA (E:Int→V)(l:List Int)(r:List V):List V:=E (l.getD 0 0)::E (l.getD 1 0)::E (l.getD 2 0)::E (l.getD 3 0)::E (l.getD 4 0)::E (l.getD 5 0)::E (l.getD 6 0)::E (l.getD 7 0)::E (l.getD 8 0)::E (l.getD 9 0)::E (l.getD 10 0)::E (l.getD 11 0)::E (l.getD 12 0)::E (l.getD 13 0)::E (l.getD 14 0)::E (l.getD 15 0)::E (l.getD 16 0)::E (l.getD 17 0)::E (l.getD 18 0)::E (l.getD 19 0)::E (l.getD 20 0)::E (l.getD 21 0)::E (l.getD 22 0)::E (l.getD 23 0)::E (l.getD 24 0)::E (l.getD 25 0)::E (l.getD 26 0)::E (l.getD 27 0)::E (l.getD 28 0)::E (l.getD 29 0)::E (l.getD 30 0)::E (l.getD 31 0)::E (l.getD 32 0)::E (l.getD 33 0)::E (l.getD 34 0)::E (l.getD 35 0)::E (l.getD 36 0)::E (l.getD 37 0)::E (l.getD 38 0)::E (l.getD 39 0)::E (l.getD 40 0)::E (l.getD 41 0)::E (l.getD 42 0)::E (l.getD 43 0)::E (l.getD 44 0)::E (l.getD 45 0)::E (l.getD 46 0)::E (l.getD 47 0)::E (l.getD 48 0)::E (l.getD 49 0)::E (l.getD 50 0)::E (l.getD 51 0)::E (l.getD 52 0)::E (l.getD 53 0)::E (l.getD 54 0)::E (l.getD 55 0)::E (l.getD 56 0)::E (l.getD 57 0)::E (l.getD 58 0)::E (l.getD 59 0)::E (l.getD 60 0)::E (l.getD 61 0)::E (l.getD 62 0)::E (l.getD 63 0)::r
theorem aVd {E:Int→V}{l:List Int}(h:l.length=64)(r:List V):aEA E l r=l.map E++r:=by
 rw[←aCf h];rfl
theorem aUI {E:Int→V}{l:List Int}(h:l.length=64):aEA E l []=l.map E:=by rw[aVd h];simp
theorem aQO {f:Nat→Nat}{k:IntKind}{l:List Int}{r:List V}:V.rns f (aEA (eI k) l r)=aEA (eI k) l (V.rns f r):=rfl
theorem aTD {P:Program}(k:IntKind)(n:Int):unV P .neg (.sc (.int k n))=some (.sc (.int k (k.wrap (0-n)))):=rfl
theorem aFD {P:Program}{k:IntKind}(hk:k.signed=false)(n:Int):unV P .xor (.sc (.int k n))=some (.sc (.int k (bits .xor k k.max n))):=by
 cases k<;>first|rfl|cases hk
def mkl {α:Type}(by_:Nat)(z:α)(n c:Int):Option (List α):=if 0<n∧n≤c∧c.toNat*by_≤lim then some (a1o n.toNat z)else none
theorem mkL {k1 k2:IntKind}{P:Program}{h h':Hp}{t e:TypeId}{ti:TI}{i:Nat}{α:Type}{E:α→V}{sz by_:Nat}{z:Value}{ag:Bool}{j c:Int}{y:α}(ht:aK P t=some ⟨.slice e,sz,by_,z⟩)(he:aK P e=some ti)(h1:1≤ti.bytes∧ti.size=1∧ti.zero.cells.size=1)(hz:ti.zero.cells.toList.map (V.soft∘d8)=[E y])(ho:(E y).one=true)(hag:bY ti.desc=ag){r:List α}
  (hm:mkl ti.bytes y j c=some r) (hl:h.length=i) (hh:h++[some ⟨e,r.map E⟩]=h'):aCm P t (.sc (.int k1 j)) (.sc (.int k2 c)) h=some (.sl i 0 r.length 1 ag,h'):=by
 obtain⟨h2,h3,h4⟩:=h1
 unfold mkl at hm
 split at hm
 ·rename_i hlim
  injection hm with hm
  subst hm hl hh hag
  simp only[aCm,ht,he]
  rw[if_pos ⟨by omega,hlim.2.1,hlim.2.2,h2,by omega,by rw[h4,h3],by rw[hz];simp[ho]⟩,hz,if_neg (by omega)]
  simp only[h3]
  have: ∀n,(a1o n [E y]).flatten=(a1o n y).map E:=fun n=>by
   induction n with
   |zero=>rfl
   |succ n ih=>simp only[List.replicate_succ,List.flatten_cons,ih,a1b];rfl
  rw[this];simp
 cases hm
theorem zl {a b:Nat} (h:Nat.ble a b=true:=by rfl):a≤b:=Nat.le_of_ble_eq_true h
theorem zR {p:Prop} (h:p:=by first|rfl|(simp only[V.rn,V.rns,aAn,aAm]<;>rfl)):p:=h
theorem zG {N n:Nat}{fr fr':List (Nat×V)}{h h':Hp}(σ:List Nat)
  (hf:FLe wV (V.rn (sg σ h.length)) fr fr':=by repeat (first|exact FLe.nil|refine FLe.same rfl ?_|refine FLe.le rfl V.le_nil ?_|refine FLe.le rfl V.le_row ?_|refine FLe.le rfl (V.le_arr (fun _=>rfl)) ?_))
  (hh:HLe (sg σ h.length) h σ h':=by repeat (first|exact HLe.nil|refine HLe.dead ?_|refine HLe.live rfl V.les_nil rfl ?_|refine HLe.live rfl (aFG (fun _=>rfl) _) (all_map (fun _=>rfl) _) ?_|refine HLe.live rfl (aCZ (fun _=>rfl) _) (rP (fun _=>rfl) _) ?_|refine HLe.live rfl (V.les_refl _ _) rfl ?_))
  (hσ:σ.take N=List.range N:=by rfl) (hlt:σ.all (fun b=>Nat.blt b h.length)=true:=by rfl) (hnd:ndB (lvs σ h')=true:=by rfl):Ghost N (aG n fr) h (aG n fr') h':=Ghost.rn σ hσ hlt hf hh hnd
def aNP {α:Type}(l:List α)(a c:Int):Option (List α):=if 0≤a∧a<c∧c≤l.length then some ((l.take c.toNat).drop a.toNat)else none
theorem aOq {α:Type}{l x:List α}{a c:Int}(h:aNP l a c=some x):0≤a∧a<c∧c≤l.length∧x=(l.take c.toNat).drop a.toNat∧x.length=c.toNat-a.toNat:=by
 unfold aNP at h
 split at h
 ·rename_i hc
  injection h with h
  refine⟨hc.1,hc.2.1,hc.2.2,h.symm, ?_⟩
  rw[←h,a2e,a1l];omega
 cases h
section
variable {P:Program}{h h':Hp}{t e:TypeId}{ti:TI}{α:Type}{E:α→V}{l x m:List α}{sz by_ b:Nat}{z:Value}{ag:Bool}{lo hi:Option V}{a c j:Int}{y:α}{k:IntKind}{N n i q K:Nat}
theorem aWu (hq:l.length=q)(ht:aK P t=some ⟨.slice e,sz,by_,z⟩)(he:aK P e=some ti)(hK:ti.size=K)(h1:mV lo=some 0)(h2:vU hi q=some c)(hs:sub l 0 c=some x):iZ P t h (.sl b 0 q K ag) lo hi=some (.sl b 0 x.length K ag):=by
 subst hK hq
 unfold sub at hs
 split at hs
 ·rename_i hc
  injection hs with hs
  have hl:x.length=c.toNat:=by rw[←hs];simp;omega
  simp only[iZ,ht,he,h1,h2]
  rw[if_pos ⟨trivial,by omega,hc.2.1,hc.2.2⟩,if_pos trivial,hl]
 cases hs
theorem aZd (ht:aK P t=some ⟨.array N e,sz,by_,z⟩)(he:aK P e=some ti)(hsz:ti.size=1)(hag:bY ti.desc=ag)(hb:h[b]? =some (some ⟨i,l.map E⟩))(hl:l.length=N)(hN:N≤lim)(h1:mV lo=some a)(h2:vU hi N=some c)(hs:aNP l a c=some x):iZ P t h (.ptr b 0) lo hi=some (.sl b (a.toNat*1) x.length 1 ag):=by
 subst hag
 obtain⟨s1,s2,s3,s4,s5⟩:=aOq hs
 simp only[iZ,ht,he,h1,h2,hb]
 rw[if_pos ⟨by omega,hN,s1,s2,by omega,by simp[hsz,hl]⟩,hsz,s5,a10]
theorem aYH (hb:h[b]? =some (some ⟨i,l.map E⟩))(hE: ∀x,(E x).one=true)(hs:aNP l a c=some x):fT h 1 (.sl b (a.toNat*1) x.length 1 ag)=some (x.map E,x.length):=by
 obtain⟨s1,s2,s3,s4,s5⟩:=aOq hs
 simp only[fT,hb,Nat.mul_one]
 rw[if_pos (by simp;omega)]
 simp only[a1e,Prod.mk.injEq,and_true]
 rw[s5,s4,List.map_drop,List.map_take,List.drop_take]
end
theorem Ghost.cut {N n:Nat}{fr:List (Nat×V)}{h:Hp}{b e t q K k:Nat}{ag:Bool}{cs:List V}(hl:bR n fr (.tmp t)=some (.sl b 0 q K ag))(hb:h[b]? =some (some ⟨e,cs⟩)):Ghost N (aG n fr) h (aG n fr) (h.set b (some ⟨e,cs.take k⟩)):=by
 intro A M a w hN R
 have hbl:b<h.length:=(a1f.1 hb).1
 have hget: ∀{j:Nat}{B:Blk},(h.set b (some ⟨e,cs.take k⟩))[j]? =some (some B)→(j=b∧B=⟨e,cs.take k⟩)∨(h[j]? =some (some B)∧j≠b):=by
  intro j B hj
  by_cases hij:b=j
  ·subst hij
   rw[a1d hbl]at hj
   exact .inl ⟨rfl,(a1j (a1j hj)).symm⟩
  rw[a1m hij]at hj
  exact .inr ⟨hj,fun hh=>hij hh.symm⟩
 have hlive: ∀g,cU M (h.set b (some ⟨e,cs.take k⟩)) g→cU M h g:=by
  rintro g ⟨j,B,hj,hm⟩
  rcases hget hj with⟨rfl,_⟩|⟨h1,_⟩
  ·exact⟨j,_,hb,hm⟩
  exact⟨j,B,h1,hm⟩
 have hX: ∀g,Xs A M (h.set b (some ⟨e,cs.take k⟩)) g→Xs A M h g:=fun g hx=>hx.elim .inl (fun hl=> .inr (hlive g hl))
 refine⟨M,rfl,⟨⟨by rw[R.hr.len,a1A],R.hr.alt, ?_, ?_,R.hr.glob.avoid fun g _ hx=>hX g hx⟩,⟨R.sr.len,fun t x hx=>(R.sr.val t x hx).avoid (fun g _ hx=>hX g hx)⟩,R.defers⟩,hlive⟩
 ·intro j B hj
  rcases hget hj with⟨rfl,rfl⟩|⟨h1,hne⟩
  ·obtain⟨hone,hcase⟩:=R.hr.blk j _ hb
   refine⟨fun c hc=>hone c (a1L hc), ?_⟩
   rcases hcase with⟨hn,hc0⟩|⟨g,ds,hg,hA,hw,hle,hcs⟩
   ·simp only at hc0
    subst hc0
    exact .inl ⟨hn,by simp⟩
   refine .inr ⟨g,ds,hg,hA, ?_,by simp only[a1l]at hle ⊢; omega, ?_⟩
   ·rcases hw with hw|⟨es,clock,hm,hok,heq⟩
    ·exact .inl hw
    exfalso
    have hev:=cL hl
    simp only[ev]at hev
    have hv:=R.sr.val t (.sl j 0 q K ag) hev
    unfold VR at hv
    rcases hv with⟨hm0,_⟩|⟨g',cap,e',sz,hm',_,_,_,_,hshp,_⟩
    ·rw[hg]at hm0;cases hm0
    rw[hg]at hm'
    obtain rfl:=a1j (a1j hm')
    unfold World.shape? at hshp
    rw[hm]at hshp
    cases hshp
   have:=hcs.take k
   rw[List.take_take]at this
   simp only[a1l]
   exact this.avoid (fun g _ hx=>hX g hx)
  obtain⟨hone,hcase⟩:=R.hr.blk j B h1
  refine⟨hone, ?_⟩
  rcases hcase with hn|⟨g,ds,hg,hA,hw,hle,hcs⟩
  ·exact .inl hn
  exact .inr ⟨g,ds,hg,hA,hw,hle,hcs.avoid (fun g _ hx=>hX g hx)⟩
 intro i j B C g hi hj mi mj
 have f: ∀{j:Nat}{B:Blk},(h.set b (some ⟨e,cs.take k⟩))[j]? =some (some B)→ ∃B0,h[j]? =some (some B0):=by
  intro j B hj
  rcases hget hj with⟨e1,_⟩|⟨e1,_⟩
  ·exact⟨_,by rw[e1];exact hb⟩
  exact⟨_,e1⟩
 obtain⟨B1,h1⟩:=f hi
 obtain⟨C1,k1⟩:=f hj
 exact R.hr.inj i j B1 C1 g h1 k1 mi mj
section
variable {N n b e t q K:Nat}{fr:List (Nat×V)}{h h':Hp}{ag:Bool}{α:Type}{E:α→V}{C:α→List V}{l x:List α}{c:Int}
theorem aZM {α:Type}{l:List α}:sub l 0 0=some []:=by
 unfold sub
 rw[if_pos ⟨a1M _,a1M _,by omega⟩]
 rfl
theorem Ghost.cutM (hl:bR n fr (.tmp t)=some (.sl b 0 q 1 ag))(hb:h[b]? =some (some ⟨e,l.map E⟩))(hs:sub l 0 c=some x)(hh:h.set b (some ⟨e,x.map E⟩)=h'):Ghost N (aG n fr) h (aG n fr) h':=by
 subst hh
 unfold sub at hs
 split at hs
 ·injection hs with hs
  have:x.map E=(l.map E).take c.toNat:=by rw[←hs,←List.map_take];simp
  rw[this]
  exact Ghost.cut hl hb
 cases hs
theorem Ghost.cutF (hC: ∀x,(C x).length=K)(hl:bR n fr (.tmp t)=some (.sl b 0 q K ag))(hb:h[b]? =some (some ⟨e,l.flatMap C⟩))(hs:sub l 0 c=some x)(hh:h.set b (some ⟨e,x.flatMap C⟩)=h'):Ghost N (aG n fr) h (aG n fr) h':=by
 subst hh
 unfold sub at hs
 split at hs
 ·injection hs with hs
  have:x.flatMap C=(l.flatMap C).take (c.toNat*K):=by rw[←hs];simp only[Int.toNat_zero,a1T];exact(aOz hC _ _).symm
  rw[this]
  exact Ghost.cut hl hb
 cases hs
end
abbrev CA4 (E:Int→V)(x:List Int):List V:=eU E x []
abbrev dV (E:Int→V)(x:List Int):List V:=aN E x []
@[simp] theorem aXP {f:Nat→Nat}{k:IntKind}(l:List (List Int)):V.rns f (l.flatMap (CA4 (eI k)))=l.flatMap (CA4 (eI k)):=cV (fun _=>rfl) l
@[simp] theorem aVA {f:Nat→Nat}{k:IntKind}(l:List (List Int)):V.rns f (l.flatMap (dV (eI k)))=l.flatMap (dV (eI k)):=cV (fun _=>rfl) l
theorem aA2 {k:IntKind}(l:List Int):V.softA (.agg (l.map (eI k)))= .agg (l.map (eI k)):=by
 simp only[V.softA,List.map_map]
 rfl
theorem aJj {P:Program}{t:TypeId}{n:Nat}{ps ps':List (Nat×V)}{h:Hp}{r:V×Hp}(e:ps=ps')(hb:gV P t n ps' h=some r):gV P t n ps h=some r:=by rw[e];exact hb
theorem Conv.rowKA {C:List Int→List V}{E:Int→V}{K:Nat}{l:List (List Int)}(hC: ∀x,(C x).length=K)(h1K: ∀x,(C x).all V.one=true)(hsh: ∀x,(C x).all V.shut=true)(hcx: ∀x∈l,C x=x.map E){h h':Hp}(hs:Sub h h'){b n:Nat}{e:TypeId}(hb:h[b]? =some (some ⟨e,l.flatMap C⟩))(hb':h'[b]? =some none)(hn:n=l.length):Conv h h' (.sl b 0 n K true) (.row none K (l.map (eA E))):=by
 have:=a2n hC h1K hsh hs hb hb' hn
 rwa[show(l.map fun x=>V.agg (C x))=l.map (eA E)from a17 fun x hx=>by rw[hcx x hx]]at this
def aMI (x y c:Int):Option (Int×Int):=if c.toNat≤1 then some ((((x.toNat+y.toNat+c.toNat)%18446744073709551616:Nat):Int),(((x.toNat+y.toNat+c.toNat)/18446744073709551616:Nat):Int))else none
def aMS (x y c:Int):Option (Int×Int):=if c.toNat≤1 then some ((((x.toNat+18446744073709551616-y.toNat-c.toNat)%18446744073709551616:Nat):Int),((if x.toNat<y.toNat+c.toNat then 1 else 0:Nat):Int))else none
def aZc :Array Value→Sem Value:=(Extern.MathBitsCarry.rows.get ⟨0,by decide⟩).2
def aYs :Array Value→Sem Value:=(Extern.MathBitsCarry.rows.get ⟨1,by decide⟩).2
theorem aVc {P:Program} {f:FuncId} {fn:Func} (hf:P.funcs[f]? =some fn) (hn:(fn.name == "runtime.NumGoroutine")=false) (hb:fn.body.isNone=true) (h1:Extern.findNext fn=none) (h2:Extern.find fn=some aZc) {x y c:Int} {r:Int×Int} (hr:aMI x y c=some r):Fn P f [] [eI .u64 x,eI .u64 y,eI .u64 c] (.tup [eI .u64 r.1,eI .u64 r.2]) []:=by
 unfold aMI at hr
 split at hr
 ·rename_i hc
  injection hr with hr
  subst hr
  refine aQr hf hn hb h1 h2 fun X M w vs hv=> ?_
  unfold VCells at hv
  obtain⟨v,rest,rfl,hv,hr⟩:=hv
  unfold VCells at hr
  obtain⟨u,rest,rfl,hu,hr⟩:=hr
  unfold VCells at hr
  obtain⟨z,rest,rfl,hz,hr⟩:=hr
  unfold VCells at hr
  subst hr
  unfold VR at hv hu hz
  subst hv hu hz
  have hgt: ¬c.toNat>1:=by omega
  refine⟨.tuple #[.int .u64 (((x.toNat+y.toNat+c.toNat)%18446744073709551616:Nat):Int),.int .u64 (((x.toNat+y.toNat+c.toNat)/18446744073709551616:Nat):Int)], ?_, ?_⟩
  ·match c,hgt with
   | .ofNat 0,_=>rfl
   | .ofNat 1,_=>rfl
   | .ofNat (k+2),hgt=>exact absurd (show(Int.ofNat (k+2)).toNat>1 by simp;omega) hgt
   | .negSucc k,_=>rfl
  unfold VR
  exact⟨_,rfl,by unfold VCells;exact⟨_,_,rfl,by unfold VR;rfl,by unfold VCells;exact⟨_,_,rfl,by unfold VR;rfl,by unfold VCells;rfl⟩⟩⟩
 cases hr
theorem aVL {P:Program} {f:FuncId} {fn:Func} (hf:P.funcs[f]? =some fn) (hn:(fn.name == "runtime.NumGoroutine")=false) (hb:fn.body.isNone=true) (h1:Extern.findNext fn=none) (h2:Extern.find fn=some aYs) {x y c:Int} {r:Int×Int} (hr:aMS x y c=some r):Fn P f [] [eI .u64 x,eI .u64 y,eI .u64 c] (.tup [eI .u64 r.1,eI .u64 r.2]) []:=by
 unfold aMS at hr
 split at hr
 ·rename_i hc
  injection hr with hr
  subst hr
  refine aQr hf hn hb h1 h2 fun X M w vs hv=> ?_
  unfold VCells at hv
  obtain⟨v,rest,rfl,hv,hr⟩:=hv
  unfold VCells at hr
  obtain⟨u,rest,rfl,hu,hr⟩:=hr
  unfold VCells at hr
  obtain⟨z,rest,rfl,hz,hr⟩:=hr
  unfold VCells at hr
  subst hr
  unfold VR at hv hu hz
  subst hv hu hz
  have hgt: ¬c.toNat>1:=by omega
  refine⟨.tuple #[.int .u64 (((x.toNat+18446744073709551616-y.toNat-c.toNat)%18446744073709551616:Nat):Int),.int .u64 ((if x.toNat<y.toNat+c.toNat then 1 else 0:Nat):Int)], ?_, ?_⟩
  ·match c,hgt with
   | .ofNat 0,_=>rfl
   | .ofNat 1,_=>rfl
   | .ofNat (k+2),hgt=>exact absurd (show(Int.ofNat (k+2)).toNat>1 by simp;omega) hgt
   | .negSucc k,_=>rfl
  unfold VR
  exact⟨_,rfl,by unfold VCells;exact⟨_,_,rfl,by unfold VR;rfl,by unfold VCells;exact⟨_,_,rfl,by unfold VR;rfl,by unfold VCells;rfl⟩⟩⟩
 cases hr
theorem sj {α:Type}{a b:α}(h:some a=some b):a=b:=a1j h
section
variable {P:Program}{ops:Array Oper}{l:List Oper}{n N:Nat}{fr:List (Nat×V)}{h h' h1:Hp}{K:List V→Hp→Prop}{op:Op}{ty:TypeId}{pos:String}{aft:Array Edge}{t:Nat}{v c d:V}{x y z:Operand}{Q:Ex→List V→Hp→Prop}{ty' u:TypeId}
variable {j w:Nat}{want b:Bool}
theorem zg (hc:b=want)(hd:bM P O0 ⟨some t,op,ty,pos,aft,some (j,want)⟩ (aG n fr) h=some (v,h'))(q:OpsW P N ops l (aG n ((t,v)::fr)) h' K) (hj:(ops[j]?).bind (·.dst)=some w:=by rfl) (hl:bR n fr (.tmp w)=some (.sc (.bool b)):=by rfl):OpsW P N ops (⟨some t,op,ty,pos,aft,some (j,want)⟩::l) (aG n fr) h K:=wS (svG hj hl hc hd) q
theorem AB.loopM {P:Program}{N n:Nat}{c:Code}{Q:Ex→List V→Hp→Prop}{s:List V}{h:Hp}(I:Nat→List V→Hp→Prop)(h0:I n s h)(round: ∀n s h,I (n+1) s h→AB P N c (Ex.then (I n) Q) s h) (r0: ∀s h,¬I 0 s h:=by(intro s h h0;repeat (first|(obtain⟨e,_⟩:=h0;cases e;done)|(obtain⟨_,h0⟩:=h0)))):AB P N (.loop c) Q s h:=AB.loopN I h0 r0 round
theorem zk {co:Operand}{X Y:Code}{α:Type}{A B:Option α}{r:α}(hr:(if b=true then A else B)=some r)(g1:b=true→A=some r→AB P N X Q (aG n fr) h)(g2:b=false→B=some r→AB P N Y Q (aG n fr) h) (hc:bR n fr co=some (.sc (.bool b)):=by rfl):AB P N (.cond co X Y) Q (aG n fr) h:=AB.cnd hc (fun e=>g1 e (kJ hr e)) (fun e=>g2 e (kR hr e))
theorem zf {f:FuncId} {fn:Func} {co:Code} {args:List V} {r:V} (hf:P.funcs[f]? =some fn) (hnt:fn.ntmps=n) (hh:AB P N co (aAe P fn N r h') (aG n fr) h) (hb:fn.body=some co:=by rfl) (hn:(fn.name == "runtime.NumGoroutine")=false:=by kernel_rfl) (hal:args.length≤n:=by exact zl) (hN:h.length=N:=by rfl) (hfr:num 0 args=fr:=by(simp only[num,Nat.reduceAdd,Nat.zero_add]<;>rfl)):Fn P f h args r h':=aSV hf hb hn hnt hal hN hfr hh
variable {F G:FuncId→Bool}{m:Nat}{listed:Array Bool}{s:List V}{o:Oper}{s1:List V}
end
section
variable {P:Program}{fn:Func}{n N:Nat}{fr:List (Nat×V)}{h h':Hp}{r a b c:V}{t u w:Nat}
theorem zd1 (hr:fn.results= #[.tmp t])(σ:List Nat) (hx:bR n fr (.tmp t)=some a:=by rfl) (hf:FLe wV (V.rn (sg σ h.length)) [(0,a)] [(0,r)]:=by repeat (first|exact FLe.nil|refine FLe.same rfl ?_|refine FLe.le rfl V.le_nil ?_|refine FLe.le rfl V.le_row ?_|refine FLe.le rfl (V.le_arr (fun _=>rfl)) ?_)) (hh:HLe (sg σ h.length) h σ h':=by repeat (first|exact HLe.nil|refine HLe.dead ?_|refine HLe.live rfl V.les_nil rfl ?_|refine HLe.live rfl (aFG (fun _=>rfl) _) (all_map (fun _=>rfl) _) ?_|refine HLe.live rfl (aCZ (fun _=>rfl) _) (rP (fun _=>rfl) _) ?_|refine HLe.live rfl (V.les_refl _ _) rfl ?_)) (hσ:σ.take N=List.range N:=by rfl) (hlt:σ.all (fun b=>Nat.blt b h.length)=true:=by rfl) (hnd:ndB (lvs σ h')=true:=by rfl):aAe P fn N r h' .ret (aG n fr) h:=aCT (aLV hr (rvT hx)) (Ghost.rn σ hσ hlt hf hh hnd)
end
def OpsG (P:Program)(F G:FuncId→Bool)(ops:Array Oper):List Oper→List V→Hp→(List V→Hp→Prop)→Prop
 | [],s,h,K=>K s h
 |o::l,s,h,K=> ∃s1 h1,StepR P F G ops o s h s1 h1∧OpsG P F G ops l s1 h1 K
def OpsX (P:Program)(N:Nat)(m:Option (List Nat×List Nat))(ops:Array Oper)(l:List Oper)(s:List V)(h:Hp)(K:List V→Hp→Prop):Prop:=
 match m with
 |none=>OpsW P N ops l s h K
 |some (F,G)=>OpsG P (cD F) (cD G) ops l s h K
def aAC (l:List Oper):List Nat→List Oper
 | []=>[]
 |i::s=>match l[i]? with
  |some o=>o::aAC l s
  |none=>[]
def aGl (F G:FuncId→Bool)(ops:Array Oper):List Nat→Array Bool→Bool
 | [],_=>true
 |i::s,L=>aN3 F G ops L i&&(ops.toList[i]?).isSome&&aGl F G ops s (L.setIfInBounds i true)
def aFt :List Nat→Array Bool→Array Bool
 | [],L=>L
 |i::s,L=>aFt s (L.setIfInBounds i true)
theorem aAq {P:Program}{N:Nat}{F G:FuncId→Bool}{ops:Array Oper}{K:List V→Hp→Prop}{m:Nat}: ∀(sc:List Nat)(L:Array Bool)(s:List V)(h:Hp),aGl F G ops sc L=true→
  OpsG P F G ops (aAC ops.toList sc) s h (fun s h=>DrawG P N F G ops m (aFt sc L) s h K)→DrawG P N F G ops (m+sc.length) L s h K
 | [],L,s,h,_,hk=>hk
 |i::sc,L,s,h,hb,hk=>by
  simp only[aGl,a1h]at hb
  obtain⟨⟨h1,h2⟩,h3⟩:=hb
  obtain⟨o,ho⟩:=a1U.1 h2
  simp only[aAC,ho]at hk
  obtain⟨s1,g1,e,hk⟩:=hk
  refine DrawG.pick h1 (o:=o) (by simpa using ho) e ?_
  exact aAq sc _ s1 g1 h3 hk
theorem DrawG.ps {P:Program}{N n m:Nat}{F G:List Nat}{ops:Array Oper}{L:Array Bool}{s:List V}{h:Hp}{K:List V→Hp→Prop}(sc:List Nat)(hr:OpsX P N (some (F,G)) ops (aAC ops.toList sc) s h fun s h=>DrawG P N (cD F) (cD G) ops m (aFt sc L) s h K)
  (hb:(aGl (cD F) (cD G) ops sc L&&Nat.beq n (m+sc.length))=true:=by decide +kernel):DrawG P N (cD F) (cD G) ops n L s h K:=by
 simp only[Bool.and_eq_true]at hb
 rw[Nat.eq_of_beq_eq_true hb.2]
 exact aAq sc L s h hb.1 hr
theorem DrawG.p1 {P:Program}{N n:Nat}{F G:List Nat}{ops:Array Oper}{L:Array Bool}{s:List V}{h:Hp}{K:List V→Hp→Prop}(i:Nat)(hr:OpsX P N (some (F,G)) ops (aAC ops.toList [i]) s h fun s h=>DrawG P N (cD F) (cD G) ops n (aFt [i] L) s h K)
  (hb:aGl (cD F) (cD G) ops [i] L=true:=by decide +kernel):DrawG P N (cD F) (cD G) ops (n+1) L s h K:=aAq [i] L s h hb hr
theorem DrawG.jh {P:Program}{N n:Nat}{F G:FuncId→Bool}{ops:Array Oper}{L listed:Array Bool}{s s':List V}{h h':Hp}{K:List V→Hp→Prop}(k:DrawG P N F G ops (n+1) L s' h' K)(hg:Ghost N s h s' h') (hL:listed=L:=by decide +kernel) (hc:aND ops L=true:=by decide +kernel):DrawG P N F G ops (n+1) listed s h K:=DrawG.jg hL hc hg k
def Fk (P:Program)(N:Nat)(F G:List Nat)(ops:Array Oper)(n:Nat)(L:Array Bool)(s:List V)(h:Hp)(K:List V→Hp→Prop):List Nat→Prop
 | []=>True
 |i::l=>OpsX P N (some (F,G)) ops (aAC ops.toList [i]) s h (fun s h=>DrawG P N (cD F) (cD G) ops n (L.setIfInBounds i true) s h K)∧Fk P N F G ops n L s h K l
theorem Fk.fork {P:Program}{N n:Nat}{F G:List Nat}{ops:Array Oper}{L:Array Bool}{s:List V}{h:Hp}{K:List V→Hp→Prop}: ∀{l:List Nat},(l.all fun i=>(ops.toList[i]?).isSome)=true→Fk P N F G ops n L s h K l→Fork P N (cD F) (cD G) ops n L s h K l
 | [],_,_=>Fork.nil
 |i::l,hb,⟨h1,h2⟩=>by
  simp only[a1W,a1h]at hb
  obtain⟨o,ho⟩:=a1U.1 hb.1
  simp only[OpsX,aAC,ho]at h1
  obtain⟨s1,g1,e,hk⟩:=h1
  exact Fork.cons (by simpa using ho) e hk (h2.fork hb.2)
theorem DrawG.fk {P:Program}{N n:Nat}{F G:List Nat}{ops:Array Oper}{L:Array Bool}{s:List V}{h:Hp}{K:List V→Hp→Prop}(l:List Nat)(hf:Fk P N F G ops n L s h K l) (hl:Region.ready .any ops L=l:=by decide +kernel) (hne:l≠ []:=by decide) (hb:(l.all fun i=>(ops.toList[i]?).isSome)=true:=by decide +kernel):DrawG P N (cD F) (cD G) ops (n+1) L s h K:=DrawG.fork l hl hne (hf.fork hb)
def aH3 (F G:FuncId→Bool)(ops:Array Oper):List (List Nat)→Array Bool→Bool
 | [],L=>(gJ ops.size L).isEmpty
 | [a],L=>aGl F G ops a L&&(gJ ops.size (aFt a L)).isEmpty
 |a::b::ss,L=>aGl F G ops a L&&aND ops (aFt a L)&& !b.isEmpty&&aH3 F G ops (b::ss) (aFt a L)
def aUG (P:Program)(N:Nat)(F G:List Nat)(ops:Array Oper):List (List Nat)→List V→Hp→(List V→Hp→Prop)→Prop
 | [],s,h,K=>K s h
 | [a],s,h,K=>OpsX P N (some (F,G)) ops (aAC ops.toList a) s h K
 |a::b::ss,s,h,K=>OpsX P N (some (F,G)) ops (aAC ops.toList a) s h (fun s h=> ∃s' h',Ghost N s h s' h'∧aUG P N F G ops (b::ss) s' h' K)
theorem OpsG.mono {P:Program}{F G:FuncId→Bool}{ops:Array Oper}{K K':List V→Hp→Prop}: ∀{l:List Oper}{s:List V}{h:Hp},OpsG P F G ops l s h K→(∀s h,K s h→K' s h)→OpsG P F G ops l s h K'
 | [],_,_,hk,hm=>hm _ _ hk
 |_::_,_,_,⟨s1,h1,e,hk⟩,hm=>⟨s1,h1,e,hk.mono hm⟩
theorem aJ4 {P:Program}{N:Nat}{F G:List Nat}{ops:Array Oper}{K:List V→Hp→Prop}: ∀(ss:List (List Nat))(L:Array Bool)(s:List V)(h:Hp),aH3 (cD F) (cD G) ops ss L=true→
  aUG P N F G ops ss s h K→DrawG P N (cD F) (cD G) ops (ss.map List.length).sum L s h K
 | [],L,s,h,hb,hk=>DrawG.nil (List.isEmpty_iff.1 hb) hk
 | [a],L,s,h,hb,hk=>by
  simp only[aH3,Bool.and_eq_true]at hb
  have:=aAq (N:=N) (m:=0) a L s h hb.1 (OpsG.mono (K':=fun s h=>DrawG P N (cD F) (cD G) ops 0 (aFt a L) s h K) hk fun s h hk=>DrawG.nil (List.isEmpty_iff.1 hb.2) hk)
  simpa using this
 |a::b::ss,L,s,h,hb,hk=>by
  simp only[aH3,Bool.and_eq_true]at hb
  obtain⟨⟨⟨h1,h2⟩,h3⟩,h4⟩:=hb
  have:=aAq (N:=N) (m:=((b::ss).map List.length).sum) a L s h h1 (OpsG.mono (K':=fun s h=>DrawG P N (cD F) (cD G) ops ((b::ss).map List.length).sum (aFt a L) s h K) hk fun s h ⟨s',h',hg,hk⟩=>by
   have hd:=aJ4 (b::ss) _ s' h' h4 hk
   obtain⟨x,xs,rfl⟩: ∃x xs,b=x::xs:=by
    cases b with
    |nil=>cases h3
    |cons x xs=>exact⟨x,xs,rfl⟩
   simp only[List.map_cons,List.length_cons,List.sum_cons,Nat.add_right_comm _ 1]at hd⊢
   exact DrawG.gh h2 hg hd)
  simpa[Nat.add_comm]using this
theorem AB.rs {P:Program}{N:Nat}{Q:Ex→List V→Hp→Prop}{s:List V}{h:Hp}(hm:P.follows .mixedOrders=true)(F G:List Nat)(ss:List (List Nat)){id:Nat}{l:List Oper}(hr:aUG P N F G l.toArray ss s h (Q .normal))
  (hb:(aH3 (cD F) (cD G) l.toArray ss (Array.replicate l.toArray.size false)&&(ss.map List.length).sum == l.toArray.size)=true:=by decide +kernel):AB P N (.region id l.toArray true) Q s h:=by
 simp only[Bool.and_eq_true,beq_iff_eq]at hb
 refine AB.rd (cD F) (cD G) hm ?_
 have:=aJ4 ss _ s h hb.1 hr
 rw[hb.2]at this
 exact this
section
variable {P:Program}{N n t:Nat}{m:Option (List Nat×List Nat)}{ops:Array Oper}{l:List Oper}{fr:List (Nat×V)}{h h':Hp}{K:List V→Hp→Prop}{op:Op}{ty:TypeId}{pos:String}{aft:Array Edge}{gd:Option (Nat×Bool)}{v a b:V}{x y z:Operand}{Q:Ex→List V→Hp→Prop}{s:List V}
theorem OpsX.nil (hk:K s h):OpsX P N m ops [] s h K:=by
 cases m with
 |none=>exact OpsW.nil hk
 |some p=>exact hk
theorem xS0 (hs:bX P O0 ops ⟨some t,op,ty,pos,aft,gd⟩ (aG n fr) h=some (v,h'))(k:OpsX P N m ops l (aG n ((t,v)::fr)) h' K):OpsX P N m ops (⟨some t,op,ty,pos,aft,gd⟩::l) (aG n fr) h K:=by
 cases m with
 |none=>exact wS hs k
 |some p=>exact⟨_,_,gS hs,k⟩
theorem xN0 (hs:bX P O0 ops ⟨none,op,ty,pos,aft,gd⟩ (aG n fr) h=some (v,h'))(k:OpsX P N m ops l (aG n fr) h' K):OpsX P N m ops (⟨none,op,ty,pos,aft,gd⟩::l) (aG n fr) h K:=by
 cases m with
 |none=>exact wN hs k
 |some p=>exact⟨_,_,gN hs,k⟩
theorem xq {c:Code}{id:Nat}(hr:OpsX P N none l.toArray l s h (Ex.then (AB P N c Q) Q .normal)):AB P N (.seq (.region id l.toArray false) c) Q s h:=AB.seq (AB.rw hr)
theorem xr {id:Nat}(hr:OpsX P N none l.toArray l s h (Q .normal)):AB P N (.region id l.toArray false) Q s h:=AB.rw hr
def Gd (ops:Array Oper)(n:Nat)(fr:List (Nat×V)):Option (Nat×Bool)→Prop
 |none=>True
 |some (j,w)=> ∃u,(ops[j]?).bind (·.dst)=some u∧ ∃c,bR n fr (.tmp u)=some (.sc (.bool c))∧c=w
theorem Gd.step {dd:Option Tmp}{r:V×Hp}(hg:Gd ops n fr gd)(hd:bM P O0 ⟨dd,op,ty,pos,aft,gd⟩ (aG n fr) h=some r):bX P O0 ops ⟨dd,op,ty,pos,aft,gd⟩ (aG n fr) h=some r:=by
 obtain⟨v,h1⟩:=r
 cases gd with
 |none=>exact sv hd
 |some p=>
  obtain⟨j,w⟩:=p
  obtain⟨u,hu,c,hc,he⟩:=hg
  exact svG hu hc he hd
theorem xS (hd:bM P O0 ⟨some t,op,ty,pos,aft,gd⟩ (aG n fr) h=some (v,h'))(k:OpsX P N m ops l (aG n ((t,v)::fr)) h' K) (hg:Gd ops n fr gd:=by first|exact True.intro|exact⟨_,rfl,_,rfl,by assumption⟩):OpsX P N m ops (⟨some t,op,ty,pos,aft,gd⟩::l) (aG n fr) h K:=xS0 (hg.step hd) k
theorem xN (hd:bM P O0 ⟨none,op,ty,pos,aft,gd⟩ (aG n fr) h=some (v,h'))(k:OpsX P N m ops l (aG n fr) h' K) (hg:Gd ops n fr gd:=by first|exact True.intro|exact⟨_,rfl,_,rfl,by assumption⟩):OpsX P N m ops (⟨none,op,ty,pos,aft,gd⟩::l) (aG n fr) h K:=xN0 (hg.step hd) k
theorem xw (hd:bM P O0 ⟨some t,op,ty,pos,aft,none⟩ (aG n fr) h=some (v,h'))(k:OpsX P N m ops l (aG n ((t,v)::fr)) h' K):OpsX P N m ops (⟨some t,op,ty,pos,aft,none⟩::l) (aG n fr) h K:=xS0 (sv hd) k
theorem xy (hd:bM P O0 ⟨none,op,ty,pos,aft,none⟩ (aG n fr) h=some (v,h'))(k:OpsX P N m ops l (aG n fr) h' K):OpsX P N m ops (⟨none,op,ty,pos,aft,none⟩::l) (aG n fr) h K:=xN0 (sv hd) k
theorem xC {f:FuncId}{ts:Array TypeId}{ws:List Operand}{xs:List V}(hx:kQ n fr ws=some xs)(hc:Fn P f h xs v h')(k:OpsX P N none ops l (aG n ((t,v)::fr)) h' K):OpsX P N none ops (⟨some t,.call ⟨.value (.func f),ws.toArray,ts⟩,ty,pos,aft,none⟩::l) (aG n fr) h K:=wC hx hc k
theorem xCg {f:FuncId}{ts:Array TypeId}{ws:List Operand}{xs:List V}{jj ww:Nat}{want cc:Bool}(hj:(ops[jj]?).bind (·.dst)=some ww)(hl:bR n fr (.tmp ww)=some (.sc (.bool cc)))(hb:cc=want)(hx:kQ n fr ws=some xs)(hc:Fn P f h xs v h')(k:OpsX P N none ops l (aG n ((t,v)::fr)) h' K):OpsX P N none ops (⟨some t,.call ⟨.value (.func f),ws.toArray,ts⟩,ty,pos,aft,some (jj,want)⟩::l) (aG n fr) h K:=wCG hj hl hb hx hc k
theorem xG {f:FuncId}{F G:List Nat}{ts:Array TypeId}{ws:List Operand}{xs:List V}(hx:kQ n fr ws=some xs)(hc:Fn P f h xs v h')(k:OpsX P N (some (F,G)) ops l (aG n ((t,v)::fr)) h' K) (hF:cD F f=false:=by rfl) (hG:cD G f=true→ ∃news,h'=h++news:=by first|exact(fun _=>⟨_,rfl⟩)|exact(fun _=>⟨[],(List.append_nil _).symm⟩)|exact(fun h=>absurd h (by decide))) (hg:Gd ops n fr gd:=by first|exact True.intro|exact⟨_,rfl,_,rfl,by assumption⟩):OpsX P N (some (F,G)) ops (⟨some t,.call ⟨.value (.func f),ws.toArray,ts⟩,ty,pos,aft,gd⟩::l) (aG n fr) h K:=by
 refine⟨_,_,gC hc hF hG ?_,k⟩
 cases gd with
 |none=>exact sv (aH9 hx aC3)
 |some p=>
  obtain⟨j,w⟩:=p
  obtain⟨u,hu,c,hb,he⟩:=hg
  exact svG hu hb he (aH9 hx aC3)
theorem xU {f:FuncId}{F G:List Nat}{ts:Array TypeId}{ws:List Operand}{xs:List V}(hx:kQ n fr ws=some xs)(hc: ∀h,Fn P f h xs v h)(k:OpsX P N (some (F,G)) ops l (aG n ((t,v)::fr)) h K) (hG:cD G f=false:=by rfl) (hg:Gd ops n fr gd:=by first|exact True.intro|exact⟨_,rfl,_,rfl,by assumption⟩):OpsX P N (some (F,G)) ops (⟨some t,.call ⟨.value (.func f),ws.toArray,ts⟩,ty,pos,aft,gd⟩::l) (aG n fr) h K:=by
 refine⟨_,_,gU hc hG ?_,k⟩
 cases gd with
 |none=>exact sv (aH9 hx aL1)
 |some p=>
  obtain⟨j,w⟩:=p
  obtain⟨u,hu,c,hb,he⟩:=hg
  exact svG hu hb he (aH9 hx aL1)
variable {j w:Nat}{want c:Bool}
theorem xX (hc:c= !want)(k:OpsX P N m ops l (aG n ((t,.sc undef)::fr)) h K) (hj:(ops[j]?).bind (·.dst)=some w:=by rfl) (hl:bR n fr (.tmp w)=some (.sc (.bool c)):=by rfl):OpsX P N m ops (⟨some t,op,ty,pos,aft,some (j,want)⟩::l) (aG n fr) h K:=xS0 (svX hj hl hc) k
theorem xSg (hj:(ops[j]?).bind (·.dst)=some w)(hl:bR n fr (.tmp w)=some (.sc (.bool c)))(hc:c=want)(hd:bM P O0 ⟨some t,op,ty,pos,aft,some (j,want)⟩ (aG n fr) h=some (v,h'))(k:OpsX P N m ops l (aG n ((t,v)::fr)) h' K):OpsX P N m ops (⟨some t,op,ty,pos,aft,some (j,want)⟩::l) (aG n fr) h K:=xS0 (svG hj hl hc hd) k
theorem OpsX.ghost {s':List V}(hg:Ghost N s h s' h')(k:OpsX P N none ops l s' h' K):OpsX P N none ops l s h K:=OpsW.ghost hg k
end
theorem gD {p:Prop} (h:p:=by first|exact True.intro|exact⟨_,rfl,_,rfl,by assumption⟩):p:=h
inductive LSet {α:Type}:List α→Nat→α→List α→Prop
 |z {a b:α} {l:List α}:LSet (a::l) 0 b (b::l)
 |s {a b:α} {l l':List α} {i:Nat}:LSet l i b l'→LSet (a::l) (i+1) b (a::l')
theorem LSet.eq {α:Type}{l l':List α}{i:Nat}{b:α}(h:LSet l i b l'):l.set i b=l':=by
 induction h with
 |z=>rfl
 |s _ ih=>rw[List.set_cons_succ,ih]
inductive Snoc {α:Type}:List α→α→List α→Prop
 |n {b:α}:Snoc [] b [b]
 |c {a b:α} {l l':List α}:Snoc l b l'→Snoc (a::l) b (a::l')
theorem Snoc.eq {α:Type}{l l':List α}{b:α}(h:Snoc l b l'):l++[b]=l':=by
 induction h with
 |n=>rfl
 |c _ ih=>rw[List.cons_append,ih]
inductive IsA :(List V→List V)→Nat→Prop
 |c {a:V}:IsA (List.cons a) 1
 |a4 {k:IntKind} {q:List Int}:IsA (eU (eI k) q) 4
 |a8 {k:IntKind} {q:List Int}:IsA (ar8 (eI k) q) 8
 |a20 {k:IntKind} {q:List Int}:IsA (aEx (eI k) q) 20
 |a32 {k:IntKind} {q:List Int}:IsA (aN (eI k) q) 32
 |a64 {k:IntKind} {q:List Int}:IsA (aEA (eI k) q) 64
theorem IsA.eq {A:List V→List V}{n:Nat}(h:IsA A n): ∃p:List V,p.length=n∧ ∀r,A r=p++r:=by
 cases h with
 |c=>exact⟨[_],rfl,fun _=>rfl⟩
 |a4=>exact⟨eU _ _ [],rfl,fun _=>rfl⟩
 |a8=>exact⟨ar8 _ _ [],rfl,fun _=>rfl⟩
 |a20=>exact⟨aEx _ _ [],rfl,fun _=>rfl⟩
 |a32=>exact⟨aN _ _ [],rfl,fun _=>rfl⟩
 |a64=>exact⟨aEA _ _ [],rfl,fun _=>rfl⟩
inductive Spl :List V→Nat→List V→List V→Prop
 |w {l r:List V}:r.length=l.length→Spl l 0 r r
 |d {l:List V}:Spl l 0 [] l
 |p {A B:List V→List V} {n:Nat} {l r l':List V}:IsA A n→IsA B n→Spl l 0 r l'→Spl (A l) 0 (B r) (B l')
 |s {A:List V→List V} {n:Nat} {l r l':List V} {o o':Nat}:IsA A n→o'=o+n→Spl l o r l'→Spl (A l) o' r (A l')
theorem Spl.eq {l r l':List V}{o:Nat}(h:Spl l o r l'):splice l o r=l':=by
 induction h with
 |w h=>simp[splice,h]
 |d=>simp[splice]
 |p hA hB _ ih=>
  obtain⟨p,hp,e⟩:=hA.eq
  obtain⟨q,hq,e'⟩:=hB.eq
  simp only[splice,List.take_zero,a1N,a10]at ih⊢
  rw[e,e',e',←ih,a1y,hq,←hp,a1Y,a1D (by omega),a1N,Nat.add_sub_cancel_left,a1u]
 | @s A n l r l' o o' hA he _ ih=>
  subst he
  obtain⟨p,hp,e⟩:=hA.eq
  simp only[splice]at ih⊢
  have h1:(p++l).take (o+n)=p++l.take o:=by rw[a2f,a1p (by omega),show o+n-p.length=o by omega]
  have h2:(p++l).drop (o+n+r.length)=l.drop (o+r.length):=by rw[a1Y,a1D (by omega),a1N,show o+n+r.length-p.length=o+r.length by omega]
  rw[e,e,h1,h2,←ih,a1u,a1u,a1u]
inductive Tak :List V→Nat→Nat→List V→Prop
 |w {l:List V} {k:Nat}:l.length=k→Tak l 0 k l
 |d {l:List V}:Tak l 0 0 []
 |t {A:List V→List V} {n:Nat} {l r:List V} {k k':Nat}:IsA A n→k'=k+n→Tak l 0 k r→Tak (A l) 0 k' (A r)
 |s {A:List V→List V} {n:Nat} {l r:List V} {o o' k:Nat}:IsA A n→o'=o+n→Tak l o k r→Tak (A l) o' k r
theorem Tak.eq {l r:List V}{o k:Nat}(h:Tak l o k r):(l.drop o).take k=r∧k≤(l.drop o).length:=by
 induction h with
 |w h=>subst h;exact⟨by simp,by simp⟩
 |d=>exact⟨rfl,Nat.zero_le _⟩
 |t hA he _ ih=>
  subst he
  obtain⟨p,hp,e⟩:=hA.eq
  simp only[a1T]at ih⊢
  rw[e,e,a2f,a1p (by omega),hp,Nat.add_sub_cancel,ih.1,a1y,hp]
  exact⟨rfl,by omega⟩
 | @s A n l r o o' k hA he _ ih=>
  subst he
  obtain⟨p,hp,e⟩:=hA.eq
  have h1:(p++l).drop (o+n)=l.drop o:=by rw[a1Y,a1D (by omega),a1N,show o+n-p.length=o by omega]
  rw[e,h1]
  exact ih
inductive OfC :Value→V→Prop
 |i {k:IntKind} {x:Int}:OfC (.int k x) (eI k x)
 |b {x:Bool}:OfC (.bool x) (eB x)
 |s {x:ByteArray}:OfC (.string x) (eS x)
 |l:OfC (.slice none 0 0) (.row (some true) 1 [])
 |p:OfC (.pointer none) (.sc (.pointer none))
theorem OfC.eq {v:Value}{a:V}(h:OfC v a):d8 v=a:=by cases h<;>rfl
theorem OfC.eq' {v:Value}{a:V}(h:OfC v a):ofValue v=a:=by cases h<;>rfl
theorem OfC.one {v:Value}{a:V}(h:OfC v a):a.one=true∧v.cells= #[v]:=by cases h<;>exact⟨rfl,rfl⟩
inductive OfCs :List Value→List V→Prop
 |n:OfCs [] []
 |c {v:Value} {a:V} {vs:List Value} {as_:List V}:OfC v a→OfCs vs as_→OfCs (v::vs) (a::as_)
theorem OfCs.eq {vs:List Value}{as_:List V}(h:OfCs vs as_):vs.map d8=as_:=by
 induction h with
 |n=>rfl
 |c h _ ih=>rw[a1b,h.eq,ih]
theorem OfCs.one {vs:List Value}{as_:List V}(h:OfCs vs as_):as_.all V.one=true:=by
 induction h with
 |n=>rfl
 |c h _ ih=>rw[a1W,h.one.1,ih];rfl
inductive Zro :Value→List V→Prop
 |a {vs:List Value} {cs:List V}:OfCs vs cs→Zro (.agg vs.toArray) cs
 |o {v:Value} {a:V}:OfC v a→Zro v [a]
theorem Zro.eq {v:Value}{cs:List V}(h:Zro v cs):v.cells.toList.map d8=cs∧cs.all V.one=true:=by
 cases h with
 |a h=>exact⟨h.eq,h.one⟩
 |o h=>rw[h.one.2];exact⟨by simp[h.eq],by simp[h.one.1]⟩
inductive Cel :V→List V→Prop
 |a {cs:List V}:cs.all V.one=true→Cel (.agg cs) cs
 |o {x:V}:x.one=true→x.cells=[x]→Cel x [x]
 |m {α:Type} {E:α→V} {q:List α}:(∀x,(E x).one=true)→Cel (.agg (q.map E)) (q.map E)
theorem Cel.eq {x:V}{cs:List V}(h:Cel x cs):x.cells=cs∧x.flatOk=true:=by
 cases h with
 |a h=>exact⟨rfl,h⟩
 |o h1 h2=>exact⟨h2,by simp[V.flatOk,h2,h1]⟩
 |m h=>exact⟨rfl,aZ8 h⟩
inductive Fil (pl:Array (Nat×Nat)):List V→List (Nat×V)→List V→Prop
 |n {cs:List V}:Fil pl cs [] cs
 |c {cs ds es fs:List V} {i o k:Nat} {x:V} {ps:List (Nat×V)}:pl[i]? =some (o,k)→Cel x ds→ds.length=k→a1q (o+k) cs.length=true→Spl cs o ds es→Fil pl es ps fs→Fil pl cs ((i,x)::ps) fs
theorem Fil.eq {pl:Array (Nat×Nat)}{cs fs:List V}{ps:List (Nat×V)}(h:Fil pl cs ps fs):qF (fun i=>pl[i]?) cs ps=some fs:=by
 induction h with
 |n=>rfl
 |c h1 h2 h3 h4 h5 _ ih=>
  simp only[qF,h1]
  rw[if_pos ⟨h2.eq.2,by rw[h2.eq.1,h3],a1a h4⟩,h2.eq.1,h5.eq,ih]
class TiC (P:Program) (t:TypeId) (d:outParam TI):Prop where
 h:aK P t=some d
abbrev tv {P:Program}{t:TypeId}{d:TI}(_:aK P t=some d):TI:=d
abbrev pv {P:Program}{t:TypeId}{d:Array (Nat×Nat)}(_:eH P t=some d):Array (Nat×Nat):=d
class FaC (P:Program) (t:TypeId) (f:Nat) (k:outParam Nat):Prop where
 p: ∀b off,rR P t (.ptr b off) f=some (.ptr b (off+k))
 e: ∀es i off,rR P t (.eptr es i off) f=some (.eptr es i (off+k))
theorem dU {P:Program}{t:TypeId}{f k:Nat}{fs:Array Field}{sz by_:Nat}{zz:Value}{fl:Field}{di:TI}(h:aK P t=some ⟨.struct fs,sz,by_,zz⟩)(hf:fs[f]? =some fl)(hd:aK P fl.type=some di)(hz:Nat.blt 0 di.size=true)(hk:fl.offset=k):FaC P t f k:=by
 have h1:0<di.size:=by simpa using hz
 have h0: ¬di.size=0:=by omega
 exact⟨fun b off=>by simp[rR,h,hf,hd,h0,hk],fun es i off=>by simp[rR,h,hf,hd,h0,hk]⟩
theorem fP {P:Program}{t:TypeId}{f b off k r:Nat} [F:FaC P t f k] (hr:off+k=r:=by rfl):rR P t (.ptr b off) f=some (.ptr b r):=hr▸F.p _ _
class ZrA (P:Program) (t:TypeId) (cs:outParam (List V)):Prop where
 h: ∃d,aK P t=some d∧d.zero.cells.toList.map d8=cs∧cs.all V.one=true
theorem zrA {P:Program}{t:TypeId}{cs:List V}{d:TI}(h:aK P t=some d) (e:d.zero.cells.toList.map d8=cs:=by rfl) (o:cs.all V.one=true:=by rfl):ZrA P t cs:=⟨d,h,e,o⟩
class NoA (P:Program) (t:TypeId):Prop where
 h:True
class PlC (P:Program) (t:TypeId) (pl:outParam (Array (Nat×Nat))):Prop where
 h:eH P t=some pl
def aVn (op:BinOp)(k:IntKind)(a b:Int):Option V:=match op with
 | .add=>some (eI k (k.wrap (a+b)))
 | .sub=>some (eI k (k.wrap (a-b)))
 | .mul=>some (eI k (k.wrap (a*b)))
 | .and=>some (eI k (bits .and k a b))
 | .or=>some (eI k (bits .or k a b))
 | .xor=>some (eI k (bits .xor k a b))
 | .eql=>some (eB (a == b))
 | .neq=>some (eB (a != b))
 | .lss=>some (eB (decide (a<b)))
 | .leq=>some (eB (decide (a≤b)))
 | .gtr=>some (eB (decide (b<a)))
 | .geq=>some (eB (decide (b≤a)))
 |_=>none
theorem aXm {P:Program}{op:BinOp}{t:TypeId}{x y:Operand}{k:IntKind}{a b:Int}{v:V}(h:aVn op k a b=some v):c5 P op t x y (eI k a) (eI k b)=some v:=by
 cases op<;>simp only[aVn,a1e,reduceCtorEq]at h<;>subst h
 ·exact aXt ..
 ·exact aXC ..
 ·exact aXa ..
 ·exact aXX ..
 ·exact aYF ..
 ·exact aW0 ..
 ·exact aXA ..
 ·exact aWX ..
 ·exact aN4 ..
 ·exact aXD ..
 ·exact aW8 ..
 exact aXH ..
section
variable {P:Program}{N n t:Nat}{m:Option (List Nat×List Nat)}{ops:Array Oper}{l:List Oper}{fr:List (Nat×V)}{h h':Hp}{K:List V→Hp→Prop}{op:Op}{ty:TypeId}{pos:String}{aft:Array Edge}{gd:Option (Nat×Bool)}{v a b:V}{x y z:Operand}{Q:Ex→List V→Hp→Prop}{s:List V}{k:IntKind}{i j:Int}{o e:Nat}{cs ds:List V}{ti di:TI}{u w:TypeId}{bo:BinOp}{p q:Nat}{c:Bool}
theorem xm (hx:bR n fr x=some a)(hg:Gd ops n fr gd)(q:OpsX P N m ops l (aG n ((t,a)::fr)) h K):OpsX P N m ops (⟨some t,.move x,ty,pos,aft,gd⟩::l) (aG n fr) h K:=xS (aPX hx) q hg
theorem xa (hx:bR n fr x=some a)(hg:Gd ops n fr gd)(q:OpsX P N m ops l (aG n ((t,a)::fr)) h K):OpsX P N m ops (⟨some t,.assign x,ty,pos,aft,gd⟩::l) (aG n fr) h K:=xS (aUF hx) q hg
theorem xmc {v:Value}(hv:OfC v a)(hg:Gd ops n fr gd)(q:OpsX P N m ops l (aG n ((t,a)::fr)) h K):OpsX P N m ops (⟨some t,.move (.const v),ty,pos,aft,gd⟩::l) (aG n fr) h K:=xm (by rw[←hv.eq'];rfl) hg q
theorem xac {v:Value}(hv:OfC v a)(hg:Gd ops n fr gd)(q:OpsX P N m ops l (aG n ((t,a)::fr)) h K):OpsX P N m ops (⟨some t,.assign (.const v),ty,pos,aft,gd⟩::l) (aG n fr) h K:=xa (by rw[←hv.eq'];rfl) hg q
theorem xb (hx:bR n fr x=some (eI k i))(hy:bR n fr y=some (eI k j))(hv:aVn bo k i j=some v)(hg:Gd ops n fr gd)(q:OpsX P N m ops l (aG n ((t,v)::fr)) h K):OpsX P N m ops (⟨some t,.binOp bo u x y w,ty,pos,aft,gd⟩::l) (aG n fr) h K:=xS (eY hx hy (aXm hv)) q hg
theorem xno (hx:bR n fr x=some (eB c))(hg:Gd ops n fr gd)(q:OpsX P N m ops l (aG n ((t,eB (!c))::fr)) h K):OpsX P N m ops (⟨some t,.unOp .not u x,ty,pos,aft,gd⟩::l) (aG n fr) h K:=xS (aJa hx (aYq _ _)) q hg
theorem xci {sz by_:Nat}{zz:Value}{k':IntKind} [D:TiC P u di] [T:TiC P w ⟨.int k',sz,by_,zz⟩] (hx:bR n fr x=some (eI k i)) (hg:Gd ops n fr gd) (q:OpsX P N m ops l (aG n ((t,eI k' (k'.wrap i))::fr)) h K):OpsX P N m ops (⟨some t,.convert u w x,ty,pos,aft,gd⟩::l) (aG n fr) h K:=xS (aF6 hx (aVE _ ⟨_,D.h⟩ T.h rfl)) q hg
theorem xlR {α:Type}{E:α→V}{nl:Option Bool}{ml:List α}{sz by_:Nat}{zz:Value} [T:TiC P u ⟨.slice e,sz,by_,zz⟩] (hx:bR n fr x=some (.row nl o (ml.map E))) (hg:Gd ops n fr gd) (q:OpsX P N m ops l (aG n ((t,eI .i64 (ml.length:Int))::fr)) h K):OpsX P N m ops (⟨some t,.call ⟨.builtin .len,#[x],#[u]⟩,ty,pos,aft,gd⟩::l) (aG n fr) h K:=xS (aPx hx (a0K T.h)) q hg
theorem xlS {sz by_:Nat}{zz:Value}{ag:Bool} [T:TiC P u ⟨.slice e,sz,by_,zz⟩] (hx:bR n fr x=some (.sl o p q w ag)) (hg:Gd ops n fr gd) (kk:OpsX P N m ops l (aG n ((t,eI .i64 (q:Int))::fr)) h K):OpsX P N m ops (⟨some t,.call ⟨.builtin .len,#[x],#[u]⟩,ty,pos,aft,gd⟩::l) (aG n fr) h K:=xS (aPx hx (a04 T.h)) kk hg
theorem xe {vs:List V}(hx:bR n fr x=some (.tup vs))(hv:vs[o]? =some v)(hg:Gd ops n fr gd)(q:OpsX P N m ops l (aG n ((t,v)::fr)) h K):OpsX P N m ops (⟨some t,.extract x o,ty,pos,aft,gd⟩::l) (aG n fr) h K:=xS (aZW hx hv) q hg
theorem xfp {f kk r:Nat} [F:FaC P u f kk] (hx:bR n fr x=some (.ptr o p)) (hr:p+kk=r) (hg:Gd ops n fr gd) (q:OpsX P N m ops l (aG n ((t,.ptr o r)::fr)) h K):OpsX P N m ops (⟨some t,.fieldAddr u x f,ty,pos,aft,gd⟩::l) (aG n fr) h K:=xS (aQZ hx (hr▸F.p _ _)) q hg
theorem xfe {f kk r ix:Nat} [F:FaC P u f kk] (hx:bR n fr x=some (.eptr cs ix p)) (hr:p+kk=r) (hg:Gd ops n fr gd) (q:OpsX P N m ops l (aG n ((t,.eptr cs ix r)::fr)) h K):OpsX P N m ops (⟨some t,.fieldAddr u x f,ty,pos,aft,gd⟩::l) (aG n fr) h K:=xS (aQZ hx (hr▸F.e _ _ _)) q hg
theorem xnp (hx:bR n fr x=some (.ptr o p))(hg:Gd ops n fr gd)(q:OpsX P N m ops l (aG n ((t,.ptr o p)::fr)) h K):OpsX P N m ops (⟨some t,.nilCheck x,ty,pos,aft,gd⟩::l) (aG n fr) h K:=xS (aTJ hx) q hg
theorem xl1 [T:TiC P u ti] (hx:bR n fr x=some (.ptr o p)) (hb:h[o]? =some (some ⟨e,cs⟩)) (hc:(cs.drop p).head? =some v) (hd:bY ti.desc=false) (hg:Gd ops n fr gd) (q:OpsX P N m ops l (aG n ((t,v)::fr)) h K):OpsX P N m ops (⟨some t,.load u x,ty,pos,aft,gd⟩::l) (aG n fr) h K:=xS (cF hx (ldP hb (nY T.h hd hc))) q hg
theorem xlN {fs:Array Field}{sz by_:Nat}{zz:Value} [T:TiC P u ⟨.struct fs,sz,by_,zz⟩] (hx:bR n fr x=some (.ptr o p)) (hb:h[o]? =some (some ⟨e,cs⟩)) (hc:Tak cs p sz ds) (hg:Gd ops n fr gd) (q:OpsX P N m ops l (aG n ((t,.agg ds)::fr)) h K):OpsX P N m ops (⟨some t,.load u x,ty,pos,aft,gd⟩::l) (aG n fr) h K:=xS (cF hx (ldP hb (qJ T.h rfl hc.eq.2 hc.eq.1))) q hg
theorem xlX {α:Type}{E:α→V}{ml:List α}{r:α} [T:TiC P u ti] (hx:bR n fr x=some (.ptr o j.toNat)) (hb:h[o]? =some (some ⟨e,ml.map E⟩)) (hd:bY ti.desc=false) (hi:bB ml j=some r) (hg:Gd ops n fr gd) (q:OpsX P N m ops l (aG n ((t,E r)::fr)) h K):OpsX P N m ops (⟨some t,.load u x,ty,pos,aft,gd⟩::l) (aG n fr) h K:=xS (cF hx (ldX T.h hd hb hi)) q hg
theorem aX5 {α:Type}{E:α→V}{ml:List α}{r:α} [T:TiC P u ti] (hx:bR n fr x=some (.eptr (ml.map E) j.toNat p)) (hd:bY ti.desc=false) (hi:bB ml j=some r) (hc:((E r).cells.drop p).head? =some v) (hg:Gd ops n fr gd) (q:OpsX P N m ops l (aG n ((t,v)::fr)) h K):OpsX P N m ops (⟨some t,.load u x,ty,pos,aft,gd⟩::l) (aG n fr) h K:=xS (cF hx (ldR hi (nY T.h hd hc))) q hg
theorem aYm {α:Type}{E:α→V}{ml:List α}{r:α}{fs:Array Field}{sz by_:Nat}{zz:Value} [T:TiC P u ⟨.struct fs,sz,by_,zz⟩] (hx:bR n fr x=some (.eptr (ml.map E) j.toNat p)) (hi:bB ml j=some r) (hE:E r= .agg cs) (hc:Tak cs p sz ds) (hg:Gd ops n fr gd) (q:OpsX P N m ops l (aG n ((t,.agg ds)::fr)) h K):OpsX P N m ops (⟨some t,.load u x,ty,pos,aft,gd⟩::l) (aG n fr) h K:=xS (cF hx (ldR hi (by rw[hE];exact qJ T.h rfl hc.eq.2 hc.eq.1))) q hg
inductive ArM :List V→List V→Prop
 |a4 {k:IntKind} {q:List Int}:q.length=4→ArM (eU (eI k) q []) (q.map (eI k))
 |a8 {k:IntKind} {q:List Int}:q.length=8→ArM (ar8 (eI k) q []) (q.map (eI k))
 |a20 {k:IntKind} {q:List Int}:q.length=20→ArM (aEx (eI k) q []) (q.map (eI k))
 |a32 {k:IntKind} {q:List Int}:q.length=32→ArM (aN (eI k) q []) (q.map (eI k))
 |a64 {k:IntKind} {q:List Int}:q.length=64→ArM (aEA (eI k) q []) (q.map (eI k))
theorem ArM.eq {a b:List V}(h:ArM a b):a=b:=by
 cases h with
 |a4 h=>exact aSc h
 |a8 h=>exact aXL h
 |a20 h=>exact aVp h
 |a32 h=>exact dE h
 |a64 h=>exact aUI h
theorem xlA {es:List V}{N' sz by_:Nat}{zz:Value} [T:TiC P u ⟨.array N' w,sz,by_,zz⟩] (hx:bR n fr x=some (.ptr o p)) (hb:h[o]? =some (some ⟨e,cs⟩)) (hc:Tak cs p sz ds) (ha:ArM ds es) (hg:Gd ops n fr gd) (q:OpsX P N m ops l (aG n ((t,.agg es)::fr)) h K):OpsX P N m ops (⟨some t,.load u x,ty,pos,aft,gd⟩::l) (aG n fr) h K:=xS (cF hx (ldP hb (by rw[←ha.eq];exact qJ T.h rfl hc.eq.2 hc.eq.1))) q hg
theorem xlB {α:Type}{E:α→V}{ml:List α}{N' sz by_:Nat}{zz:Value} [T:TiC P u ⟨.array N' w,sz,by_,zz⟩] (hx:bR n fr x=some (.ptr o 0)) (hb:h[o]? =some (some ⟨e,ml.map E⟩)) (hz:sz=N') (hl:ml.length=N') (hg:Gd ops n fr gd) (q:OpsX P N m ops l (aG n ((t,.agg (ml.map E))::fr)) h K):OpsX P N m ops (⟨some t,.load u x,ty,pos,aft,gd⟩::l) (aG n fr) h K:=xS (cF hx (ldA T.h hz hb hl)) q hg
theorem xiR {α:Type}{E:α→V}{nl:Option Bool}{ml:List α}{r:α}{sz by_:Nat}{zz:Value} [T:TiC P u ⟨.slice e,sz,by_,zz⟩] [D:TiC P e di] (hx:bR n fr x=some (.row nl o (ml.map E))) (hy:bR n fr y=some (eI k j)) (hs:di.size=o) (hi:bB ml j=some r) (hg:Gd ops n fr gd) (q:OpsX P N m ops l (aG n ((t,.eptr (ml.map E) j.toNat 0)::fr)) h K):OpsX P N m ops (⟨some t,.indexAddr u x y,ty,pos,aft,gd⟩::l) (aG n fr) h K:=xS (aGg hx hy (by subst hs;exact iaR T.h D.h hi)) q hg
theorem xiS {α:Type}{E:α→V}{ml:List α}{r:α}{q0 sz by_:Nat}{zz:Value}{ag:Bool} [T:TiC P u ⟨.slice e,sz,by_,zz⟩] [D:TiC P e di] (hx:bR n fr x=some (.sl o 0 q0 1 ag)) (hy:bR n fr y=some (eI k j)) {e':Nat} (hb:h[o]? =some (some ⟨e',ml.map E⟩)) (hi:bB ml j=some r) (hn:ml.length=q0) (hs:di.size=1) (hg:Gd ops n fr gd) (q:OpsX P N m ops l (aG n ((t,.ptr o j.toNat)::fr)) h K):OpsX P N m ops (⟨some t,.indexAddr u x y,ty,pos,aft,gd⟩::l) (aG n fr) h K:=xS (aGg hx hy (iaS hn T.h D.h hs hi)) q hg
theorem xiB {α:Type}{E:α→V}{ml:List α}{r:α}{N' sz by_:Nat}{zz:Value} [T:TiC P u ⟨.array N' e,sz,by_,zz⟩] [D:TiC P e di] (hx:bR n fr x=some (.ptr o 0)) (hy:bR n fr y=some (eI k j)) {e':Nat} (hb:h[o]? =some (some ⟨e',ml.map E⟩)) (hi:b7 N' ml j=some r) (hs:di.size=1) (hg:Gd ops n fr gd) (q:OpsX P N m ops l (aG n ((t,.ptr o j.toNat)::fr)) h K):OpsX P N m ops (⟨some t,.indexAddr u x y,ty,pos,aft,gd⟩::l) (aG n fr) h K:=xS (aGg hx hy (iaB T.h D.h hs hi)) q hg
theorem xVv {jj ww:Nat}{want:Bool}(hj:(ops[jj]?).bind (·.dst)=some ww)(hl:bR n fr (.tmp ww)=some (.sc undef))(q:OpsX P N m ops l (aG n ((t,.sc undef)::fr)) h K):OpsX P N m ops (⟨some t,op,ty,pos,aft,some (jj,want)⟩::l) (aG n fr) h K:=xS0 (svU hj hl) q
theorem xXx {jj ww:Nat}{want:Bool}(hj:(ops[jj]?).bind (·.dst)=some ww)(hl:bR n fr (.tmp ww)=some (.sc (.bool c)))(hc:c= !want)(q:OpsX P N m ops l (aG n ((t,.sc undef)::fr)) h K):OpsX P N m ops (⟨some t,op,ty,pos,aft,some (jj,want)⟩::l) (aG n fr) h K:=xS0 (svX hj hl hc) q
def aSs :List Oper→Bool
 | []=>true
 |o::l=>(match o.guard,o.op with
  |none,.pick _ _ _=>false
  |none,_=>true
  |some _,_=>false)&&aSs l
theorem xqn {cc:Code}{id:Nat}(hn:aSs l=true)(hr:OpsX P N none l.toArray l s h (Ex.then (AB P N cc Q) Q .normal)):AB P N (.seq (.region id l.toArray false) cc) Q s h:=xq hr
theorem xrn {id:Nat}(hn:aSs l=true)(hr:OpsX P N none l.toArray l s h (Q .normal)):AB P N (.region id l.toArray false) Q s h:=xr hr
theorem xsA {α:Type}{E:α→V}{ml mm:List α}{N' sz by_ i':Nat}{zz:Value} [T:TiC P u ⟨.array N' e,sz,by_,zz⟩] (hx:bR n fr x=some (.ptr o 0)) (hb:h[o]? =some (some ⟨i',ml.map E⟩)) (hy:bR n fr y=some (.agg (mm.map E))) (hz:sz=N') (hE: ∀x,(E x).one=true) (h1:ml.length=N') (h2:mm.length=N') (hh:LSet h o (some ⟨i',mm.map E⟩) h') (hg:Gd ops n fr gd) (q:OpsX P N m ops l (aG n fr) h' K):OpsX P N m ops (⟨none,.store u x y,ty,pos,aft,gd⟩::l) (aG n fr) h K:=xN (v:= .sc undef) (h':=h') (aBi hx hy (stA T.h hz hb hE h1 h2 hh.eq)) q hg
theorem xs [T:TiC P u ti] (hx:bR n fr x=some (.ptr o p)) (hy:bR n fr y=some v) (hb:h[o]? =some (some ⟨e,cs⟩)) {es fs:List V} (hv:Cel v es) (h1:es.length=ti.size) (h2:a1q (p+ti.size) cs.length=true) (hs:Spl cs p es fs) (hh:LSet h o (some ⟨e,fs⟩) h') (hg:Gd ops n fr gd) (q:OpsX P N m ops l (aG n fr) h' K):OpsX P N m ops (⟨none,.store u x y,ty,pos,aft,gd⟩::l) (aG n fr) h K:=by
 obtain⟨hv1,hv2⟩:=hv.eq
 refine xN (v:= .sc undef) (h':=h') (aBi hx hy (stP T.h hb hv2 (by rw[hv1,h1]) (a1a h2) ?_)) q hg
 rw[hv1,hs.eq,hh.eq]
theorem xsX {α:Type}{E:α→V}{ml:List α}{r r':α} [T:TiC P u ti] (hx:bR n fr x=some (.ptr o j.toNat)) (hb:h[o]? =some (some ⟨e,ml.map E⟩)) (hy:bR n fr y=some (E r')) (hz:ti.size=1) (hi:bB ml j=some r) (ho:(E r').one=true) (hc:(E r').cells=[E r']) (hh:LSet h o (some ⟨e,(ml.set j.toNat r').map E⟩) h') (hg:Gd ops n fr gd) (q:OpsX P N m ops l (aG n fr) h' K):OpsX P N m ops (⟨none,.store u x y,ty,pos,aft,gd⟩::l) (aG n fr) h K:=xN (v:= .sc undef) (h':=h') (aBi hx hy (a0q T.h hz hb hi ho hc hh.eq)) q hg
theorem xal {r:Nat} [A:NoA P e] [T:TiC P e ti] (hz:Zro ti.zero cs) (hh:Snoc h (some ⟨e,cs⟩) h') (hl:h.length=r) (hg:Gd ops n fr gd) (q:OpsX P N m ops l (aG n ((t,.ptr r 0)::fr)) h' K):OpsX P N m ops (⟨some t,.alloc e,ty,pos,aft,gd⟩::l) (aG n fr) h K:=
 xS (aNL T.h (by rw[hz.eq.1];exact hz.eq.2) hl (by rw[hz.eq.1];exact hh.eq)) q hg
theorem aYG {r:Nat} [Z:ZrA P e cs] (hh:Snoc h (some ⟨e,cs⟩) h') (hl:h.length=r) (hg:Gd ops n fr gd) (q:OpsX P N m ops l (aG n ((t,.ptr r 0)::fr)) h' K):OpsX P N m ops (⟨some t,.alloc e,ty,pos,aft,gd⟩::l) (aG n fr) h K:=by
 obtain⟨d,h1,h2,h3⟩:=Z.h
 exact xS (aNL h1 (by rw[h2];exact h3) hl (by rw[h2];exact hh.eq)) q hg
theorem aYX {r N' sz by_ sz' by':Nat}{k':IntKind}{e':TypeId}{vs:List Value}{z':Value} [T:TiC P e ⟨.array N' e',sz,by_,.agg vs.toArray⟩] [D:TiC P e' ⟨.int k',sz',by',z'⟩] (hz:vs.map d8=(a1o N' 0).map (eI k')) (hh:Snoc h (some ⟨e,(a1o N' 0).map (eI k')⟩) h') (hl:h.length=r) (hg:Gd ops n fr gd) (q:OpsX P N m ops l (aG n ((t,.ptr r 0)::fr)) h' K):OpsX P N m ops (⟨some t,.alloc e,ty,pos,aft,gd⟩::l) (aG n fr) h K:=
 xS (aNL T.h (by
  have e1:(TI.zero ⟨.array N' e',sz,by_,.agg vs.toArray⟩).cells.toList.map d8=(a1o N' 0).map (eI k'):=hz
  rw[e1];exact all_map (fun _=>rfl) _) hl (by
  have e1:(TI.zero ⟨.array N' e',sz,by_,.agg vs.toArray⟩).cells.toList.map d8=(a1o N' 0).map (eI k'):=hz
  rw[e1];exact hh.eq)) q hg
theorem xbx {r:Nat}(hx:bR n fr x=some a)(hv:Cel a cs)(hh:Snoc h (some ⟨e,cs⟩) h')(hl:h.length=r)(hg:Gd ops n fr gd)(q:OpsX P N m ops l (aG n ((t,.ptr r 0)::fr)) h' K):OpsX P N m ops (⟨some t,.box e x,ty,pos,aft,gd⟩::l) (aG n fr) h K:=
 xS (aZY hx hv.eq.2 hl (by rw[hv.eq.1];exact hh.eq)) q hg
theorem xbd {fs:Array Field}{sz by_:Nat}{zz:Value}{pl:Array (Nat×Nat)}{ps:List (Nat×Operand)}{xs:List (Nat×V)} [T:TiC P u ⟨.struct fs,sz,by_,zz⟩] [L:PlC P u pl] [A:NoA P u] (hp:aGi n fr ps=some xs) (hz:Zro zz cs) (hf:Fil pl cs xs ds) (hg:Gd ops n fr gd) (q:OpsX P N m ops l (aG n ((t,.agg ds)::fr)) h K):OpsX P N m ops (⟨some t,.build u ps.toArray,ty,pos,aft,gd⟩::l) (aG n fr) h K:=
 xS (cM hp (jU T.h L.h (by rw[hz.eq.1];exact hf.eq))) q hg
theorem xpT (hz:bR n fr z=some (eB c))(hc:c=true)(hx:bR n fr x=some a)(hg:Gd ops n fr gd)(q:OpsX P N m ops l (aG n ((t,a)::fr)) h K):OpsX P N m ops (⟨some t,.pick z x y,ty,pos,aft,gd⟩::l) (aG n fr) h K:=xS (aWQ hz hc hx) q hg
theorem xpF (hz:bR n fr z=some (eB c))(hc:c=false)(hy:bR n fr y=some a)(hg:Gd ops n fr gd)(q:OpsX P N m ops l (aG n ((t,a)::fr)) h K):OpsX P N m ops (⟨some t,.pick z x y,ty,pos,aft,gd⟩::l) (aG n fr) h K:=xS (aXh hz hc hy) q hg
inductive NumK (k:IntKind):Nat→List (Nat×V)→List Int→Prop
 |n {i:Nat}:NumK k i [] []
 |c {i:Nat} {x:Int} {ps:List (Nat×V)} {xs:List Int}:NumK k (i+1) ps xs→NumK k i ((i,eI k x)::ps) (x::xs)
theorem NumK.eq {k:IntKind}{i:Nat}{ps:List (Nat×V)}{xs:List Int}(h:NumK k i ps xs):tP i (xs.map (eI k))=ps:=by
 induction h with
 |n=>rfl
 |c _ ih=>simp only[a1b,tP];rw[ih]
inductive NumB :Nat→List (Nat×V)→List Bool→Prop
 |n {i:Nat}:NumB i [] []
 |c {i:Nat} {x:Bool} {ps:List (Nat×V)} {xs:List Bool}:NumB (i+1) ps xs→NumB i ((i,eB x)::ps) (x::xs)
theorem NumB.eq {i:Nat}{ps:List (Nat×V)}{xs:List Bool}(h:NumB i ps xs):tP i (xs.map eB)=ps:=by
 induction h with
 |n=>rfl
 |c _ ih=>simp only[a1b,tP];rw[ih]
inductive NumR {α:Type}(kk:Nat)(E:α→V):Nat→List (Nat×V)→List (List α)→Prop
 |n {i:Nat}:NumR kk E i [] []
 |c {i:Nat} {x:List α} {ps:List (Nat×V)} {xs:List (List α)}:NumR kk E (i+1) ps xs→NumR kk E i ((i,.row none kk (x.map E))::ps) (x::xs)
 |z {i:Nat} {ps:List (Nat×V)} {xs:List (List α)}:NumR kk E (i+1) ps xs→NumR kk E i ((i,.row none kk [])::ps) ([]::xs)
theorem NumR.eq {α:Type}{kk:Nat}{E:α→V}{i:Nat}{ps:List (Nat×V)}{xs:List (List α)}(h:NumR kk E i ps xs):tP i (xs.map (eL kk E))=ps:=by
 induction h with
 |n=>rfl
 |z _ ih=>simp only[a1b,tP];rw[ih];rfl
 |c _ ih=>simp only[a1b,tP];rw[ih]
theorem a07 {α:Type}{E:α→V}(hE: ∀x,(E x).one=true)(hc: ∀x,(E x).cells=[E x])(xs:List α):(xs.map E).all (fun x=>x.one&&(x.cells.length == 1))=true:=by
 simp[a1n,hE,hc]
theorem aVm {α:Type}{E:α→V}{js:List α}{len sz by_ r:Nat}{zz:Value}{ps:List (Nat×Operand)}{xs:List (Nat×V)} [T:TiC P u ⟨.slice e,sz,by_,zz⟩] [D:TiC P e di] (hp:vN n fr ps=some xs) (hn:tP 0 (js.map E)=xs) (hE: ∀x,(E x).one=true) (hc: ∀x,(E x).cells=[E x]) (hs:di.size=1) {ag:Bool} (ha:bY di.desc=ag) (h1:a1q (len*1) (2^24)=true) (h2:a1q 1 len=true) (hlen:js.length=len) (hh:Snoc h (some ⟨e,js.map E⟩) h') (hl:h.length=r) (hg:Gd ops n fr gd) (q:OpsX P N m ops l (aG n ((t,.sl r 0 len 1 ag)::fr)) h' K):OpsX P N m ops (⟨some t,.buildSlice u len ps.toArray,ty,pos,aft,gd⟩::l) (aG n fr) h K:=
 xS (pD hp (aZP T.h D.h (a1a h1) (a1a h2) hs ha hn (a07 hE hc _) (by rw[a1O];exact hlen) hl hh.eq)) q hg
section
variable {α β:Type}{eq:α→α→Bool}{KV:α→V}{CK:α→List V}{CV:β→List V}{VE:β→V}{C:α×β→List V}{z0:β}{ml:List (α×β)}
theorem xmm {r:Nat} [M:MpC P u α β eq KV CK CV VE C z0 e] (hh:Snoc h (some ⟨e,([]:List (α×β)).flatMap C⟩) h') (hl:h.length=r) (hg:Gd ops n fr gd) (q:OpsX P N m ops l (aG n ((t,.mp r)::fr)) h' K):OpsX P N m ops (⟨some t,.makeMap u none,ty,pos,aft,gd⟩::l) (aG n fr) h K:=by
 obtain⟨m,_,_,_,h1,h2,_⟩:=M.h
 exact xS (aXu h1 h2 hl hh.eq) q hg
theorem xlk (kk:α) [M:MpC P u α β eq KV CK CV VE C z0 e] (q:OpsX P N m ops l (aG n ((t,VE (mR eq ml kk z0))::fr)) h K) (hx:bR n fr x=some (.mp o):=by rfl) (hy:bR n fr y=some b:=by rfl) (hb:h[o]? =some (some ⟨e,ml.flatMap C⟩):=by rfl) (hk:b=KV kk:=by rfl) (hg:Gd ops n fr gd:=by exact gD):OpsX P N m ops (⟨some t,.lookup u x y false,ty,pos,aft,gd⟩::l) (aG n fr) h K:=xS (aX4 hx hy (by rw[hk];exact M.lk hb false)) q hg
theorem xlo (kk:α) [M:MpC P u α β eq KV CK CV VE C z0 e] (q:OpsX P N m ops l (aG n ((t,.tup [VE (mR eq ml kk z0),eB (aEl eq ml kk)])::fr)) h K) (hx:bR n fr x=some (.mp o):=by rfl) (hy:bR n fr y=some b:=by rfl) (hb:h[o]? =some (some ⟨e,ml.flatMap C⟩):=by rfl) (hk:b=KV kk:=by rfl) (hg:Gd ops n fr gd:=by exact gD):OpsX P N m ops (⟨some t,.lookup u x y true,ty,pos,aft,gd⟩::l) (aG n fr) h K:=xS (aX4 hx hy (by rw[hk];exact M.lk hb true)) q hg
theorem xup (kk:α)(vv:β) [M:MpC P u α β eq KV CK CV VE C z0 e] (q:OpsX P N m ops l (aG n fr) h' K) (hx:bR n fr x=some (.mp o):=by rfl) (hy:bR n fr y=some b:=by rfl) (hz:bR n fr z=some v:=by rfl) (hb:h[o]? =some (some ⟨e,ml.flatMap C⟩):=by rfl) (hk:b=KV kk:=by rfl) (hv:v=VE vv:=by rfl) (hh:LSet h o (some ⟨e,(uG eq ml kk vv).flatMap C⟩) h':=by(repeat (first|exact LSet.z|apply LSet.s))) (hg:Gd ops n fr gd:=by exact gD):OpsX P N m ops (⟨none,.mapUpdate u x y z,ty,pos,aft,gd⟩::l) (aG n fr) h K:=xN (aZ7 hx hy hz (by rw[hk,hv,←hh.eq];exact M.up hb)) q hg
end
theorem nC {α:Type}(C:α→List V)(k:Nat)(xs:List α){len sz by_ r:Nat}{zz:Value}{ps:List (Nat×Operand)}{ps0:List (Nat×V)} [T:TiC P u ⟨.slice e,sz,by_,zz⟩] [D:TiC P e di] (q:OpsX P N m ops l (aG n ((t,.sl r 0 len k true)::fr)) h' K) (hp:vN n fr ps=some ps0:=by rfl) (hn:tP 0 (xs.map fun x=>V.agg (C x))=ps0:=by rfl) (hC: ∀x,(C x).length=k:=by exact fun _=>rfl) (h1C: ∀x,(C x).all V.one=true:=by exact fun _=>rfl)
  (h1:(Nat.ble (len*k) (2^24)&&Nat.ble 1 len&&Nat.ble 1 k)=true:=by rfl) (hK:di.size=k:=by rfl) (hag:bY di.desc=true:=by rfl) (hlen:xs.length=len:=by rfl) (hh:Snoc h (some ⟨e,xs.flatMap C⟩) h':=by(repeat (first|exact Snoc.n|apply Snoc.c))) (hl:h.length=r:=by first|exact(by simp only[List.length_cons,List.length_nil,Nat.zero_add,Nat.reduceAdd]<;>rfl)|exact rfl) (hg:Gd ops n fr gd:=by exact gD):OpsX P N m ops (⟨some t,.buildSlice u len ps.toArray,ty,pos,aft,gd⟩::l) (aG n fr) h K:=by
 simp only[Bool.and_eq_true]at h1
 exact xS (pD hp (aHe hC h1C T.h D.h ⟨Nat.le_of_ble_eq_true h1.1.1,Nat.le_of_ble_eq_true h1.1.2,Nat.le_of_ble_eq_true h1.2⟩ hK hag hn hlen hl hh.eq)) q hg
theorem aZw {js:List Int}{len sz by_ r sz' by':Nat}{zz z':Value}{ps:List (Nat×Operand)}{xs:List (Nat×V)} [T:TiC P u ⟨.slice e,sz,by_,zz⟩] [D:TiC P e ⟨.int k,sz',by',z'⟩] (hp:vN n fr ps=some xs) (hn:NumK k 0 xs js) (hs:sz'=1) (h1:a1q (len*1) (2^24)=true) (h2:a1q 1 len=true) (hlen:js.length=len) (hh:Snoc h (some ⟨e,js.map (eI k)⟩) h') (hl:h.length=r) (hg:Gd ops n fr gd) (q:OpsX P N m ops l (aG n ((t,.sl r 0 len 1 false)::fr)) h' K):OpsX P N m ops (⟨some t,.buildSlice u len ps.toArray,ty,pos,aft,gd⟩::l) (aG n fr) h K:=aVm (ag:=false) hp hn.eq (fun _=>rfl) (fun _=>rfl) hs rfl h1 h2 hlen hh hl hg q
theorem aY3 {α:Type}{E:α→V}{kk:Nat}{js:List (List α)}{len sz by_ r sz' by':Nat}{zz z':Value}{e':TypeId}{ps:List (Nat×Operand)}{xs:List (Nat×V)} [T:TiC P u ⟨.slice e,sz,by_,zz⟩] [D:TiC P e ⟨.slice e',sz',by',z'⟩] (hp:vN n fr ps=some xs) (hn:NumR kk E 0 xs js) (hs:sz'=1) (h1:a1q (len*1) (2^24)=true) (h2:a1q 1 len=true) (hlen:js.length=len) (hh:Snoc h (some ⟨e,js.map (eL kk E)⟩) h') (hl:h.length=r) (hg:Gd ops n fr gd) (q:OpsX P N m ops l (aG n ((t,.sl r 0 len 1 false)::fr)) h' K):OpsX P N m ops (⟨some t,.buildSlice u len ps.toArray,ty,pos,aft,gd⟩::l) (aG n fr) h K:=aVm (ag:=false) hp hn.eq (fun _=>rfl) (fun _=>rfl) hs rfl h1 h2 hlen hh hl hg q
theorem aYY {k':IntKind}{r:Int}(hx:bR n fr x=some (eI k i))(hy:bR n fr y=some (eI k' j))(hv:shl k i j=some r)(hg:Gd ops n fr gd)(q:OpsX P N m ops l (aG n ((t,eI k r)::fr)) h K):OpsX P N m ops (⟨some t,.binOp .shl u x y w,ty,pos,aft,gd⟩::l) (aG n fr) h K:=xS (eY hx hy (aUO _ _ _ _ hv)) q hg
theorem aYN {k':IntKind}{r:Int}(hx:bR n fr x=some (eI k i))(hy:bR n fr y=some (eI k' j))(hv:shr k i j=some r)(hg:Gd ops n fr gd)(q:OpsX P N m ops l (aG n ((t,eI k r)::fr)) h K):OpsX P N m ops (⟨some t,.binOp .shr u x y w,ty,pos,aft,gd⟩::l) (aG n fr) h K:=xS (eY hx hy (aUR _ _ _ _ hv)) q hg
theorem aZx {r:Int}(hx:bR n fr x=some (eI k i))(hy:bR n fr y=some (eI k j))(hv:quo k i j=some r)(hg:Gd ops n fr gd)(q:OpsX P N m ops l (aG n ((t,eI k r)::fr)) h K):OpsX P N m ops (⟨some t,.binOp .quo u x y w,ty,pos,aft,gd⟩::l) (aG n fr) h K:=xS (eY hx hy (aVF _ _ _ _ hv)) q hg
theorem aZm {r:Int}(hx:bR n fr x=some (eI k i))(hy:bR n fr y=some (eI k j))(hv:rem i j=some r)(hg:Gd ops n fr gd)(q:OpsX P N m ops l (aG n ((t,eI k r)::fr)) h K):OpsX P N m ops (⟨some t,.binOp .rem u x y w,ty,pos,aft,gd⟩::l) (aG n fr) h K:=xS (eY hx hy (aVs _ _ _ _ hv)) q hg
class DepC (P:Program):Prop where
 h:2≤P.depth
theorem xeA {k':IntKind}{N' sz by_ sz' by':Nat}{zz z':Value}{ml mm:List Int} [A:DepC P] [T:TiC P u ⟨.array N' e,sz,by_,zz⟩] [D:TiC P e ⟨.int k',sz',by',z'⟩] (hx:bR n fr x=some (.agg (ml.map (eI k)))) (hy:bR n fr y=some (.agg (mm.map (eI k)))) (hz:sz'=1) (h1:ml.length=N') (h2:mm.length=N') (hg:Gd ops n fr gd) (q:OpsX P N m ops l (aG n ((t,eB (ml == mm))::fr)) h K):OpsX P N m ops (⟨some t,.binOp .eql u x y w,ty,pos,aft,gd⟩::l) (aG n fr) h K:=xS (eY hx hy (aVI _ _ T.h D.h hz A.h h1 h2)) q hg
theorem xnA {k':IntKind}{N' sz by_ sz' by':Nat}{zz z':Value}{ml mm:List Int} [A:DepC P] [T:TiC P u ⟨.array N' e,sz,by_,zz⟩] [D:TiC P e ⟨.int k',sz',by',z'⟩] (hx:bR n fr x=some (.agg (ml.map (eI k)))) (hy:bR n fr y=some (.agg (mm.map (eI k)))) (hz:sz'=1) (h1:ml.length=N') (h2:mm.length=N') (hg:Gd ops n fr gd) (q:OpsX P N m ops l (aG n ((t,eB (!(ml == mm)))::fr)) h K):OpsX P N m ops (⟨some t,.binOp .neq u x y w,ty,pos,aft,gd⟩::l) (aG n fr) h K:=xS (eY hx hy (aVB _ _ T.h D.h hz A.h h1 h2)) q hg
theorem xsR {α:Type}{E:α→V}{ml r:List α}{nl:Option Bool}{sz by_:Nat}{zz:Value}{lo hi:Option Operand}{vl vh:Option V}{c1 c2:Int} [T:TiC P u ⟨.slice e,sz,by_,zz⟩] [D:TiC P e di] (hx:bR n fr x=some (.row nl o (ml.map E))) (h1:aKn n fr lo=some vl) (h2:aKn n fr hi=some vh) (ha:mV vl=some c1) (hb:vU vh ml.length=some c2) (hs:sub ml c1 c2=some r) (ho:di.size=o) {nl':Option Bool} (hq:nlS nl=nl') (hg:Gd ops n fr gd) (q:OpsX P N m ops l (aG n ((t,.row nl' o (r.map E))::fr)) h K):OpsX P N m ops (⟨some t,.slice u x lo hi none,ty,pos,aft,gd⟩::l) (aG n fr) h K:=by
 subst ho hq;exact xS (vE hx h1 h2 (slR T.h D.h ha hb hs)) q hg
theorem xsM {α:Type}{E:α→V}{ml r:List α}{nl:Option Bool}{sz by_:Nat}{zz:Value}{lo:Option Operand}{hi mx:Operand}{vl:Option V}{c1 c2:Int}{k1 k2:IntKind} [T:TiC P u ⟨.slice e,sz,by_,zz⟩] [D:TiC P e di] (hx:bR n fr x=some (.row nl o (ml.map E))) (h1:aKn n fr lo=some vl) (ha:mV vl=some c1) (h2:bR n fr hi=some (eI k1 c2)) (h3:bR n fr mx=some (eI k2 c2)) (hs:sub ml c1 c2=some r) (ho:di.size=o) (hg:Gd ops n fr gd) (q:OpsX P N m ops l (aG n ((t,.row (some false) o (r.map E))::fr)) h K):OpsX P N m ops (⟨some t,.slice u x lo (some hi) (some mx),ty,pos,aft,gd⟩::l) (aG n fr) h K:=by
 subst ho;exact xS (aPH hx h1 h2 h3 (slM T.h D.h ha hs)) q hg
theorem xsL {α:Type}{E:α→V}{ml:List α}{N' sz by_ i':Nat}{zz:Value}{ag:Bool} [T:TiC P u ⟨.array N' e,sz,by_,zz⟩] [D:TiC P e di] (hx:bR n fr x=some (.ptr o 0)) (hb:h[o]? =some (some ⟨i',ml.map E⟩)) (hs:di.size=1) (ha:bY di.desc=ag) (h1:ml.length=N') (h2:a1q 1 N'=true) (h3:a1q N' lim=true) (hg:Gd ops n fr gd) (q:OpsX P N m ops l (aG n ((t,.sl o 0 N' 1 ag)::fr)) h K):OpsX P N m ops (⟨some t,.slice u x none none none,ty,pos,aft,gd⟩::l) (aG n fr) h K:=xS (vE hx rfl rfl (slA T.h D.h hs ha hb h1 ⟨a1a h2,a1a h3⟩)) q hg
theorem xiK {α:Type}{C:α→List V}{ml:List α}{r:α}{q0 sz by_ e':Nat}{zz:Value} [T:TiC P u ⟨.slice e,sz,by_,zz⟩] [D:TiC P e di] (hx:bR n fr x=some (.sl o 0 q0 p true)) (hy:bR n fr y=some (eI k j)) (hb:h[o]? =some (some ⟨e',ml.flatMap C⟩)) (hi:bB ml j=some r) (hn:ml.length=q0) (hs:di.size=p) (hg:Gd ops n fr gd) (q:OpsX P N m ops l (aG n ((t,.ptr o (0+j.toNat*p))::fr)) h K):OpsX P N m ops (⟨some t,.indexAddr u x y,ty,pos,aft,gd⟩::l) (aG n fr) h K:=xS (aGg hx hy (a0k hn T.h D.h hs hi)) q hg
inductive Sr1 {α:Type}(E:α→V)(h:Hp):V→List α→Prop
 |r {nl:Option Bool} {ml:List α}:(∀x,(E x).cells=[E x])→Sr1 E h (.row nl 1 (ml.map E)) ml
 |s {b q e:Nat} {ag:Bool} {ml:List α}:h[b]? =some (some ⟨e,ml.map E⟩)→ml.length=q→Sr1 E h (.sl b 0 q 1 ag) ml
 |n {nl:Option Bool} {k:Nat}:Sr1 E h (.row nl k []) []
theorem Sr1.eq {α:Type}{E:α→V}{h:Hp}{v:V}{ml:List α}(hs:Sr1 E h v ml):fT h 1 v=some (ml.map E,ml.length):=by
 cases hs with
 |r hE=>exact aHB hE
 |s hb hq=>exact aZq hq hb
 |n=>exact a0W
inductive SrK {α:Type}(C:α→List V)(K:Nat)(h:Hp):V→List α→Prop
 |r {nl:Option Bool} {ml:List α}:SrK C K h (.row nl K (ml.map fun x=>V.agg (C x))) ml
 |s {b q e:Nat} {ml:List α}:h[b]? =some (some ⟨e,ml.flatMap C⟩)→(∀x,(C x).length=K)→ml.length=q→SrK C K h (.sl b 0 q K true) ml
 |n {nl:Option Bool} {k:Nat}:SrK C K h (.row nl k []) []
theorem SrK.eq {α:Type}{C:α→List V}{K:Nat}{h:Hp}{v:V}{ml:List α}(hs:SrK C K h v ml):fT h K v=some (ml.flatMap C,ml.length):=by
 cases hs with
 |r=>exact aWk
 |s hb hC hq=>exact aZz hC hq hb
 |n=>exact aZC
theorem xap {α:Type}{E:α→V}{ml mm r:List α}{q0 sz by_ r0:Nat}{zz:Value}{ag:Bool}{h2:Hp} [T:TiC P u ⟨.slice e,sz,by_,zz⟩] [D:TiC P e di] (hx:bR n fr x=some (.sl o 0 q0 1 ag)) (hy:bR n fr y=some v) (hb:h[o]? =some (some ⟨e,ml.map E⟩)) (hs:Sr1 E h v mm) (hn:ml.length=q0) (h1:di.zero.cells.size=1) (h3:di.size=1) (h4:a1q 1 di.bytes=true) {bb:Nat} (hbb:di.bytes=bb) (ha:b9 bb ml mm=some r) (hh:LSet h o none h2) (hh':Snoc h2 (some ⟨e,r.map E⟩) h') (hl:h.length=r0) (hg:Gd ops n fr gd) (q:OpsX P N m ops l (aG n ((t,.sl r0 0 r.length 1 ag)::fr)) h' K):OpsX P N m ops (⟨some t,.call ⟨.builtin .append,#[x,y],#[u,u]⟩,ty,pos,aft,gd⟩::l) (aG n fr) h K:=by
 subst hbb;exact xS (uI hx hy (dG hn T.h D.h ⟨h1,h3,a1a h4⟩ hb hs.eq ha hl (by rw[hh.eq,hh'.eq]))) q hg
theorem xan {α:Type}{E:α→V}{mm r:List α}{sz by_ r0 kk:Nat}{zz:Value}{ag:Bool}{h2:Hp} [T:TiC P u ⟨.slice e,sz,by_,zz⟩] [D:TiC P e di] (hx:bR n fr x=some (.row (some true) kk [])) (hy:bR n fr y=some v) (hs:Sr1 E h v mm) (h1:di.zero.cells.size=1) (h3:di.size=1) (h4:a1q 1 di.bytes=true) (hag:bY di.desc=ag) {bb:Nat} (hbb:di.bytes=bb) (ha:b9 bb [] mm=some r) (hh:Snoc h none h2) (hh':Snoc h2 (some ⟨e,r.map E⟩) h') (hl:h2.length=r0) (hg:Gd ops n fr gd) (q:OpsX P N m ops l (aG n ((t,.sl r0 0 r.length 1 ag)::fr)) h' K):OpsX P N m ops (⟨some t,.call ⟨.builtin .append,#[x,y],#[u,u]⟩,ty,pos,aft,gd⟩::l) (aG n fr) h K:=by
 subst hbb;exact xS (uI hx hy (a0R T.h D.h ⟨h1,h3,a1a h4⟩ hs.eq hag ha (by rw[←hl,←hh.eq];simp) (by rw[hh.eq,hh'.eq]))) q hg
theorem xaf {α:Type}{E:α→V}{ml mm r:List α}{sz by_ r0:Nat}{zz:Value}{ag:Bool} [T:TiC P u ⟨.slice e,sz,by_,zz⟩] [D:TiC P e di] (hx:bR n fr x=some (.row (some false) 1 (ml.map E))) (hy:bR n fr y=some v) (hE: ∀x,(E x).cells=[E x]) (hs:Sr1 E h v mm) (hm:a1q 1 mm.length=true) (h1:di.zero.cells.size=1) (h3:di.size=1) (h4:a1q 1 di.bytes=true) (hag:bY di.desc=ag) {bb:Nat} (hbb:di.bytes=bb) (ha:b9 bb ml mm=some r) (hh:Snoc h (some ⟨e,r.map E⟩) h') (hl:h.length=r0) (hg:Gd ops n fr gd) (q:OpsX P N m ops l (aG n ((t,.sl r0 0 r.length 1 ag)::fr)) h' K):OpsX P N m ops (⟨some t,.call ⟨.builtin .append,#[x,y],#[u,u]⟩,ty,pos,aft,gd⟩::l) (aG n fr) h K:=by
 subst hbb;exact xS (uI hx hy (aX9 T.h D.h ⟨h1,h3,a1a h4⟩ hE hs.eq (a1a hm) hag ha hl (by rw[hh.eq]))) q hg
theorem aY7 {α:Type}{C:α→List V}{ml mm r:List α}{q0 sz by_ r0:Nat}{zz:Value}{h2:Hp} [T:TiC P u ⟨.slice e,sz,by_,zz⟩] [D:TiC P e di] (hx:bR n fr x=some (.sl o 0 q0 p true)) (hy:bR n fr y=some v) (hb:h[o]? =some (some ⟨e,ml.flatMap C⟩)) (hC: ∀x,(C x).length=p) (hs:SrK C p h v mm) (hn:ml.length=q0) (h1:di.zero.cells.size=p) (h3:di.size=p) (h4:a1q 1 di.bytes=true) (h5:a1q 1 p=true) {bb:Nat} (hbb:di.bytes=bb) (ha:b9 bb ml mm=some r) (hh:LSet h o none h2) (hh':Snoc h2 (some ⟨e,r.flatMap C⟩) h') (hl:h.length=r0) (hg:Gd ops n fr gd) (q:OpsX P N m ops l (aG n ((t,.sl r0 0 r.length p true)::fr)) h' K):OpsX P N m ops (⟨some t,.call ⟨.builtin .append,#[x,y],#[u,u]⟩,ty,pos,aft,gd⟩::l) (aG n fr) h K:=by
 subst hbb;exact xS (uI hx hy (aZR hC hn T.h D.h ⟨h1,h3,a1a h4,a1a h5⟩ hb hs.eq ha hl (by rw[hh.eq,hh'.eq]))) q hg
theorem aY5 {α:Type}{C:α→List V}{mm r:List α}{sz by_ r0 kk:Nat}{zz:Value}{h2:Hp} [T:TiC P u ⟨.slice e,sz,by_,zz⟩] [D:TiC P e di] (hx:bR n fr x=some (.row (some true) kk [])) (hy:bR n fr y=some v) (hs:SrK C p h v mm) (h1:di.zero.cells.size=p) (h3:di.size=p) (h4:a1q 1 di.bytes=true) (h5:a1q 1 p=true) (hag:bY di.desc=true) {bb:Nat} (hbb:di.bytes=bb) (ha:b9 bb [] mm=some r) (hh:Snoc h none h2) (hh':Snoc h2 (some ⟨e,r.flatMap C⟩) h') (hl:h2.length=r0) (hg:Gd ops n fr gd) (q:OpsX P N m ops l (aG n ((t,.sl r0 0 r.length p true)::fr)) h' K):OpsX P N m ops (⟨some t,.call ⟨.builtin .append,#[x,y],#[u,u]⟩,ty,pos,aft,gd⟩::l) (aG n fr) h K:=by
 subst hbb;exact xS (uI hx hy (aZA T.h D.h ⟨h1,h3,a1a h4,a1a h5⟩ hs.eq hag ha (by rw[←hl,←hh.eq];simp) (by rw[hh.eq,hh'.eq]))) q hg
end
structure aY4 (q:Prop):Prop where
 h:q
section
variable {P:Program}{N n t:Nat}{m:Option (List Nat×List Nat)}{ops:Array Oper}{l:List Oper}{h:Hp}{K:List V→Hp→Prop}{op:Op}{ty:TypeId}{pos:String}{aft:Array Edge}{gd:Option (Nat×Bool)}{x y z:Operand}{Q:Ex→List V→Hp→Prop}{s:List V}{o e:Nat}{u w:TypeId}{bo:BinOp}{ob:Oper}{c:Code}{ws:List Operand}{ts:Array TypeId}{ps:List (Nat×Operand)}{lo hi:Option Operand}{hj mj:Operand}
theorem isX (k:OpsX P N m ops (ob::l) s h K):OpsX P N m ops (ob::l) s h K:=k
theorem isA (k:AB P N c Q s h):AB P N c Q s h:=k
theorem aRW (k:OpsX P N m ops (⟨some t,.call ⟨.builtin .len,ws.toArray,ts⟩,ty,pos,aft,gd⟩::l) s h K):OpsX P N m ops (⟨some t,.call ⟨.builtin .len,ws.toArray,ts⟩,ty,pos,aft,gd⟩::l) s h K:=k
theorem aTz (k:OpsX P N m ops (⟨some t,.call ⟨.builtin .append,ws.toArray,ts⟩,ty,pos,aft,gd⟩::l) s h K):OpsX P N m ops (⟨some t,.call ⟨.builtin .append,ws.toArray,ts⟩,ty,pos,aft,gd⟩::l) s h K:=k
theorem aSa (k:OpsX P N m ops (⟨some t,.move x,ty,pos,aft,gd⟩::l) s h K):OpsX P N m ops (⟨some t,.move x,ty,pos,aft,gd⟩::l) s h K:=k
theorem aRK (k:OpsX P N m ops (⟨some t,.load u x,ty,pos,aft,gd⟩::l) s h K):OpsX P N m ops (⟨some t,.load u x,ty,pos,aft,gd⟩::l) s h K:=k
theorem aUi (k:OpsX P N m ops (⟨some t,.binOp bo u x y w,ty,pos,aft,gd⟩::l) s h K):OpsX P N m ops (⟨some t,.binOp bo u x y w,ty,pos,aft,gd⟩::l) s h K:=k
theorem aWo (k:OpsX P N m ops (⟨some t,.fieldAddr u x o,ty,pos,aft,gd⟩::l) s h K):OpsX P N m ops (⟨some t,.fieldAddr u x o,ty,pos,aft,gd⟩::l) s h K:=k
theorem aTg (k:OpsX P N m ops (⟨some t,.assign x,ty,pos,aft,gd⟩::l) s h K):OpsX P N m ops (⟨some t,.assign x,ty,pos,aft,gd⟩::l) s h K:=k
theorem aWf (k:OpsX P N m ops (⟨some t,.indexAddr u x y,ty,pos,aft,gd⟩::l) s h K):OpsX P N m ops (⟨some t,.indexAddr u x y,ty,pos,aft,gd⟩::l) s h K:=k
theorem aWB (k:OpsX P N m ops (⟨none,.store u x y,ty,pos,aft,gd⟩::l) s h K):OpsX P N m ops (⟨none,.store u x y,ty,pos,aft,gd⟩::l) s h K:=k
theorem aV6 (k:OpsX P N m ops (⟨some t,.alloc e,ty,pos,aft,gd⟩::l) s h K):OpsX P N m ops (⟨some t,.alloc e,ty,pos,aft,gd⟩::l) s h K:=k
theorem aWw (k:OpsX P N m ops (⟨some t,.buildSlice u o ps.toArray,ty,pos,aft,gd⟩::l) s h K):OpsX P N m ops (⟨some t,.buildSlice u o ps.toArray,ty,pos,aft,gd⟩::l) s h K:=k
theorem aWb (k:OpsX P N m ops (⟨some t,.slice u x lo (some hj) (some mj),ty,pos,aft,gd⟩::l) s h K):OpsX P N m ops (⟨some t,.slice u x lo (some hj) (some mj),ty,pos,aft,gd⟩::l) s h K:=k
theorem aWM (k:OpsX P N m ops (⟨some t,.slice u x lo hi none,ty,pos,aft,gd⟩::l) s h K):OpsX P N m ops (⟨some t,.slice u x lo hi none,ty,pos,aft,gd⟩::l) s h K:=k
theorem aVZ (k:OpsX P N m ops (⟨some t,.pick x y z,ty,pos,aft,gd⟩::l) s h K):OpsX P N m ops (⟨some t,.pick x y z,ty,pos,aft,gd⟩::l) s h K:=k
theorem aWe (k:OpsX P N m ops (⟨some t,.nilCheck x,ty,pos,aft,gd⟩::l) s h K):OpsX P N m ops (⟨some t,.nilCheck x,ty,pos,aft,gd⟩::l) s h K:=k
end
theorem zz {p q:Prop}(k:q) (h:aY4 q→p:=by(intro kk;(repeat (first|(apply isX;first|((with_reducible apply aRW);first|(apply xlR;exact rfl;(first|exact True.intro|exact⟨_,rfl,_,rfl,by assumption⟩))|(apply xlS;exact rfl;(first|exact True.intro|exact⟨_,rfl,_,rfl,by assumption⟩))|(apply xlT;exact rfl;(first|exact True.intro|exact⟨_,rfl,_,rfl,by assumption⟩)))|((with_reducible apply aTz);first|(apply xap;exact rfl;exact rfl;exact rfl;(first|exact Sr1.n|(apply Sr1.r;exact(fun _=>rfl))|(apply Sr1.s;exact rfl;(first|exact rfl|exact(by simp only[bN,bO,List.length_replicate];done)|exact aT (by assumption)|exact bL (by assumption))));(first|exact rfl|exact(by simp only[bN,bO,List.length_replicate];done)|exact aT (by assumption)|exact bL (by assumption));exact rfl;exact rfl;exact rfl;exact rfl;assumption;(repeat (first|exact LSet.z|apply LSet.s));(repeat (first|exact Snoc.n|apply Snoc.c));(first|exact(by simp only[List.length_cons,List.length_nil,Nat.zero_add,Nat.reduceAdd]<;>rfl)|exact rfl);(first|exact True.intro|exact⟨_,rfl,_,rfl,by assumption⟩))|(apply xan;exact rfl;exact rfl;(first|exact Sr1.n|(apply Sr1.r;exact(fun _=>rfl))|(apply Sr1.s;exact rfl;(first|exact rfl|exact(by simp only[bN,bO,List.length_replicate];done)|exact aT (by assumption)|exact bL (by assumption))));exact rfl;exact rfl;exact rfl;exact rfl;exact rfl;assumption;(repeat (first|exact Snoc.n|apply Snoc.c));(repeat (first|exact Snoc.n|apply Snoc.c));(first|exact(by simp only[List.length_cons,List.length_nil,Nat.zero_add,Nat.reduceAdd]<;>rfl)|exact rfl);(first|exact True.intro|exact⟨_,rfl,_,rfl,by assumption⟩))|(apply xaf;exact rfl;exact rfl;exact(fun _=>rfl);(first|exact Sr1.n|(apply Sr1.r;exact(fun _=>rfl))|(apply Sr1.s;exact rfl;(first|exact rfl|exact(by simp only[bN,bO,List.length_replicate];done)|exact aT (by assumption)|exact bL (by assumption))));(first|exact rfl);exact rfl;exact rfl;exact rfl;exact rfl;exact rfl;assumption;(repeat (first|exact Snoc.n|apply Snoc.c));(first|exact(by simp only[List.length_cons,List.length_nil,Nat.zero_add,Nat.reduceAdd]<;>rfl)|exact rfl);(first|exact True.intro|exact⟨_,rfl,_,rfl,by assumption⟩))|(apply aY7;exact rfl;exact rfl;exact rfl;exact(fun _=>rfl);(first|exact SrK.n|exact SrK.r|(apply SrK.s;exact rfl;exact(fun _=>rfl);(first|exact rfl|exact(by simp only[bN,bO,List.length_replicate];done)|exact aT (by assumption)|exact bL (by assumption))));(first|exact rfl|exact(by simp only[bN,bO,List.length_replicate];done)|exact aT (by assumption)|exact bL (by assumption));exact rfl;exact rfl;exact rfl;exact rfl;exact rfl;assumption;(repeat (first|exact LSet.z|apply LSet.s));(repeat (first|exact Snoc.n|apply Snoc.c));(first|exact(by simp only[List.length_cons,List.length_nil,Nat.zero_add,Nat.reduceAdd]<;>rfl)|exact rfl);(first|exact True.intro|exact⟨_,rfl,_,rfl,by assumption⟩))|(apply aY5;exact rfl;exact rfl;(first|exact SrK.n|exact SrK.r|(apply SrK.s;exact rfl;exact(fun _=>rfl);(first|exact rfl|exact(by simp only[bN,bO,List.length_replicate];done)|exact aT (by assumption)|exact bL (by assumption))));exact rfl;exact rfl;exact rfl;exact rfl;exact rfl;exact rfl;assumption;(repeat (first|exact Snoc.n|apply Snoc.c));(repeat (first|exact Snoc.n|apply Snoc.c));(first|exact(by simp only[List.length_cons,List.length_nil,Nat.zero_add,Nat.reduceAdd]<;>rfl)|exact rfl);(first|exact True.intro|exact⟨_,rfl,_,rfl,by assumption⟩)))|((with_reducible apply aSa);first|(apply xmc;(first|exact OfC.i|exact OfC.b|exact OfC.l|exact OfC.s|exact OfC.p);(first|exact True.intro|exact⟨_,rfl,_,rfl,by assumption⟩))|(apply xm;exact rfl;(first|exact True.intro|exact⟨_,rfl,_,rfl,by assumption⟩)))|((with_reducible apply aRK);first|(apply xl1;exact rfl;exact rfl;exact rfl;exact rfl;(first|exact True.intro|exact⟨_,rfl,_,rfl,by assumption⟩))|(apply aX5;exact rfl;exact rfl;(first|assumption|exact fZ (by assumption));exact rfl;(first|exact True.intro|exact⟨_,rfl,_,rfl,by assumption⟩))|(apply xlX;exact rfl;exact rfl;exact rfl;(first|assumption|exact fZ (by assumption));(first|exact True.intro|exact⟨_,rfl,_,rfl,by assumption⟩))|(apply xlN;exact rfl;exact rfl;(first|exact Tak.w rfl|(repeat (first|exact Tak.d|(apply Tak.t;(first|exact IsA.c|exact IsA.a4|exact IsA.a32|exact IsA.a8|exact IsA.a20|exact IsA.a64);exact rfl)|(apply Tak.s;(first|exact IsA.c|exact IsA.a4|exact IsA.a32|exact IsA.a8|exact IsA.a20|exact IsA.a64);exact rfl))));(first|exact True.intro|exact⟨_,rfl,_,rfl,by assumption⟩))|(apply aYm;exact rfl;(first|assumption|exact fZ (by assumption));exact rfl;(first|exact Tak.w rfl|(repeat (first|exact Tak.d|(apply Tak.t;(first|exact IsA.c|exact IsA.a4|exact IsA.a32|exact IsA.a8|exact IsA.a20|exact IsA.a64);exact rfl)|(apply Tak.s;(first|exact IsA.c|exact IsA.a4|exact IsA.a32|exact IsA.a8|exact IsA.a20|exact IsA.a64);exact rfl))));(first|exact True.intro|exact⟨_,rfl,_,rfl,by assumption⟩))|(apply xlB;exact rfl;exact rfl;exact rfl;(first|exact rfl|exact(by simp only[bN,bO,List.length_replicate];done)|exact aT (by assumption)|exact bL (by assumption));(first|exact True.intro|exact⟨_,rfl,_,rfl,by assumption⟩))|(apply xlA;exact rfl;exact rfl;(first|exact Tak.w rfl|(repeat (first|exact Tak.d|(apply Tak.t;(first|exact IsA.c|exact IsA.a4|exact IsA.a32|exact IsA.a8|exact IsA.a20|exact IsA.a64);exact rfl)|(apply Tak.s;(first|exact IsA.c|exact IsA.a4|exact IsA.a32|exact IsA.a8|exact IsA.a20|exact IsA.a64);exact rfl))));(first|(apply ArM.a32;(first|exact rfl|exact(by simp only[bN,bO,List.length_replicate];done)|exact aT (by assumption)|exact bL (by assumption)))|(apply ArM.a4;(first|exact rfl|exact(by simp only[bN,bO,List.length_replicate];done)|exact aT (by assumption)|exact bL (by assumption)))|(apply ArM.a8;(first|exact rfl|exact(by simp only[bN,bO,List.length_replicate];done)|exact aT (by assumption)|exact bL (by assumption)))|(apply ArM.a20;(first|exact rfl|exact(by simp only[bN,bO,List.length_replicate];done)|exact aT (by assumption)|exact bL (by assumption)))|(apply ArM.a64;(first|exact rfl|exact(by simp only[bN,bO,List.length_replicate];done)|exact aT (by assumption)|exact bL (by assumption))));(first|exact True.intro|exact⟨_,rfl,_,rfl,by assumption⟩))|(apply aYv;exact rfl;(first|assumption|exact fZ (by assumption));exact rfl;(first|exact Tak.w rfl|(repeat (first|exact Tak.d|(apply Tak.t;(first|exact IsA.c|exact IsA.a4|exact IsA.a32|exact IsA.a8|exact IsA.a20|exact IsA.a64);exact rfl)|(apply Tak.s;(first|exact IsA.c|exact IsA.a4|exact IsA.a32|exact IsA.a8|exact IsA.a20|exact IsA.a64);exact rfl))));(first|(apply ArM.a32;(first|exact rfl|exact(by simp only[bN,bO,List.length_replicate];done)|exact aT (by assumption)|exact bL (by assumption)))|(apply ArM.a4;(first|exact rfl|exact(by simp only[bN,bO,List.length_replicate];done)|exact aT (by assumption)|exact bL (by assumption)))|(apply ArM.a8;(first|exact rfl|exact(by simp only[bN,bO,List.length_replicate];done)|exact aT (by assumption)|exact bL (by assumption)))|(apply ArM.a20;(first|exact rfl|exact(by simp only[bN,bO,List.length_replicate];done)|exact aT (by assumption)|exact bL (by assumption)))|(apply ArM.a64;(first|exact rfl|exact(by simp only[bN,bO,List.length_replicate];done)|exact aT (by assumption)|exact bL (by assumption))));(first|exact True.intro|exact⟨_,rfl,_,rfl,by assumption⟩)))|((with_reducible apply aUi);first|(apply xb;exact rfl;exact rfl;exact rfl;(first|exact True.intro|exact⟨_,rfl,_,rfl,by assumption⟩))|(apply aYN;exact rfl;exact rfl;assumption;(first|exact True.intro|exact⟨_,rfl,_,rfl,by assumption⟩))|(apply aYY;exact rfl;exact rfl;assumption;(first|exact True.intro|exact⟨_,rfl,_,rfl,by assumption⟩))|(apply aZx;exact rfl;exact rfl;(first|assumption|exact rfl);(first|exact True.intro|exact⟨_,rfl,_,rfl,by assumption⟩))|(apply aZm;exact rfl;exact rfl;(first|assumption|exact rfl);(first|exact True.intro|exact⟨_,rfl,_,rfl,by assumption⟩))|(apply xeA;exact rfl;exact rfl;exact rfl;(first|exact rfl|exact(by simp only[bN,bO,List.length_replicate];done)|exact aT (by assumption)|exact bL (by assumption));(first|exact rfl|exact(by simp only[bN,bO,List.length_replicate];done)|exact aT (by assumption)|exact bL (by assumption));(first|exact True.intro|exact⟨_,rfl,_,rfl,by assumption⟩))|(apply xnA;exact rfl;exact rfl;exact rfl;(first|exact rfl|exact(by simp only[bN,bO,List.length_replicate];done)|exact aT (by assumption)|exact bL (by assumption));(first|exact rfl|exact(by simp only[bN,bO,List.length_replicate];done)|exact aT (by assumption)|exact bL (by assumption));(first|exact True.intro|exact⟨_,rfl,_,rfl,by assumption⟩)))|((with_reducible apply aWo);first|(apply xfp;exact rfl;(first|(with_reducible exact Nat.zero_add _)|exact rfl);(first|exact True.intro|exact⟨_,rfl,_,rfl,by assumption⟩))|(apply xfe;exact rfl;(first|(with_reducible exact Nat.zero_add _)|exact rfl);(first|exact True.intro|exact⟨_,rfl,_,rfl,by assumption⟩)))|((with_reducible apply aTg);first|(apply xac;(first|exact OfC.i|exact OfC.b|exact OfC.l|exact OfC.s|exact OfC.p);(first|exact True.intro|exact⟨_,rfl,_,rfl,by assumption⟩))|(apply xa;exact rfl;(first|exact True.intro|exact⟨_,rfl,_,rfl,by assumption⟩)))|(apply xe;exact rfl;exact rfl;(first|exact True.intro|exact⟨_,rfl,_,rfl,by assumption⟩))|((with_reducible apply aWf);first|(apply xiR;exact rfl;exact rfl;exact rfl;(first|assumption|exact fZ (by assumption));(first|exact True.intro|exact⟨_,rfl,_,rfl,by assumption⟩))|(apply xiS;exact rfl;exact rfl;exact rfl;(first|assumption|exact fZ (by assumption));(first|exact rfl|exact(by simp only[bN,bO,List.length_replicate];done)|exact aT (by assumption)|exact bL (by assumption));exact rfl;(first|exact True.intro|exact⟨_,rfl,_,rfl,by assumption⟩))|(apply xiB;exact rfl;exact rfl;exact rfl;assumption;exact rfl;(first|exact True.intro|exact⟨_,rfl,_,rfl,by assumption⟩))|(apply xiK;exact rfl;exact rfl;exact rfl;(first|assumption|exact fZ (by assumption));(first|exact rfl|exact(by simp only[bN,bO,List.length_replicate];done)|exact aT (by assumption)|exact bL (by assumption));exact rfl;(first|exact True.intro|exact⟨_,rfl,_,rfl,by assumption⟩)))|(apply xci;exact rfl;(first|exact True.intro|exact⟨_,rfl,_,rfl,by assumption⟩))|((with_reducible apply aWB);first|(apply xsA;exact rfl;exact rfl;exact rfl;exact rfl;exact(fun _=>rfl);(first|exact rfl|exact(by simp only[bN,bO,List.length_replicate];done)|exact aT (by assumption)|exact bL (by assumption));(first|exact rfl|exact(by simp only[bN,bO,List.length_replicate];done)|exact aT (by assumption)|exact bL (by assumption));(repeat (first|exact LSet.z|apply LSet.s));(first|exact True.intro|exact⟨_,rfl,_,rfl,by assumption⟩))|(apply xs;exact rfl;exact rfl;exact rfl;(first|exact Cel.a rfl|exact Cel.o rfl rfl|exact Cel.m (fun _=>rfl));exact rfl;exact rfl;(first|exact Spl.w rfl|(repeat (first|exact Spl.d|(apply Spl.p;(first|exact IsA.c|exact IsA.a4|exact IsA.a32|exact IsA.a8|exact IsA.a20|exact IsA.a64);(first|exact IsA.c|exact IsA.a4|exact IsA.a32|exact IsA.a8|exact IsA.a20|exact IsA.a64))|(apply Spl.s;(first|exact IsA.c|exact IsA.a4|exact IsA.a32|exact IsA.a8|exact IsA.a20|exact IsA.a64);exact rfl))));(repeat (first|exact LSet.z|apply LSet.s));(first|exact True.intro|exact⟨_,rfl,_,rfl,by assumption⟩))|(apply xsX;exact rfl;exact rfl;exact rfl;exact rfl;(first|assumption|exact fZ (by assumption));exact rfl;exact rfl;(repeat (first|exact LSet.z|apply LSet.s));(first|exact True.intro|exact⟨_,rfl,_,rfl,by assumption⟩)))|((with_reducible apply aV6);first|(apply aYX;exact rfl;(repeat (first|exact Snoc.n|apply Snoc.c));(first|exact(by simp only[List.length_cons,List.length_nil,Nat.zero_add,Nat.reduceAdd]<;>rfl)|exact rfl);(first|exact True.intro|exact⟨_,rfl,_,rfl,by assumption⟩))|(apply aYG;(repeat (first|exact Snoc.n|apply Snoc.c));(first|exact(by simp only[List.length_cons,List.length_nil,Nat.zero_add,Nat.reduceAdd]<;>rfl)|exact rfl);(first|exact True.intro|exact⟨_,rfl,_,rfl,by assumption⟩))|(apply xal;(first|(apply Zro.o;(first|exact OfC.i|exact OfC.b|exact OfC.l|exact OfC.s|exact OfC.p))|(apply Zro.a;repeat (first|exact OfCs.n|(apply OfCs.c;(first|exact OfC.i|exact OfC.b|exact OfC.l|exact OfC.s|exact OfC.p)))));(repeat (first|exact Snoc.n|apply Snoc.c));(first|exact(by simp only[List.length_cons,List.length_nil,Nat.zero_add,Nat.reduceAdd]<;>rfl)|exact rfl);(first|exact True.intro|exact⟨_,rfl,_,rfl,by assumption⟩)))|(apply xmm;(repeat (first|exact Snoc.n|apply Snoc.c));(first|exact(by simp only[List.length_cons,List.length_nil,Nat.zero_add,Nat.reduceAdd]<;>rfl)|exact rfl);(first|exact True.intro|exact⟨_,rfl,_,rfl,by assumption⟩))|(apply xbx;exact rfl;(first|exact Cel.a rfl|exact Cel.o rfl rfl|exact Cel.m (fun _=>rfl));(repeat (first|exact Snoc.n|apply Snoc.c));(first|exact(by simp only[List.length_cons,List.length_nil,Nat.zero_add,Nat.reduceAdd]<;>rfl)|exact rfl);(first|exact True.intro|exact⟨_,rfl,_,rfl,by assumption⟩))|((with_reducible apply aWw);first|(apply aZw;exact rfl;(repeat (first|exact NumK.n|apply NumK.c));exact rfl;exact rfl;exact rfl;exact rfl;(repeat (first|exact Snoc.n|apply Snoc.c));(first|exact(by simp only[List.length_cons,List.length_nil,Nat.zero_add,Nat.reduceAdd]<;>rfl)|exact rfl);(first|exact True.intro|exact⟨_,rfl,_,rfl,by assumption⟩))|(apply aY3;exact rfl;(repeat (first|exact NumR.n|apply NumR.z|apply NumR.c));exact rfl;exact rfl;exact rfl;exact rfl;(repeat (first|exact Snoc.n|apply Snoc.c));(first|exact(by simp only[List.length_cons,List.length_nil,Nat.zero_add,Nat.reduceAdd]<;>rfl)|exact rfl);(first|exact True.intro|exact⟨_,rfl,_,rfl,by assumption⟩))|(apply aYC;exact rfl;(repeat (first|exact NumB.n|apply NumB.c));exact rfl;exact rfl;exact rfl;exact rfl;(repeat (first|exact Snoc.n|apply Snoc.c));(first|exact(by simp only[List.length_cons,List.length_nil,Nat.zero_add,Nat.reduceAdd]<;>rfl)|exact rfl);(first|exact True.intro|exact⟨_,rfl,_,rfl,by assumption⟩)))|((with_reducible apply aWb);first|(apply xsM;exact rfl;exact rfl;exact rfl;exact rfl;exact rfl;assumption;exact rfl;(first|exact True.intro|exact⟨_,rfl,_,rfl,by assumption⟩)))|((with_reducible apply aWM);first|(apply xsR;exact rfl;exact rfl;exact rfl;exact rfl;exact rfl;assumption;exact rfl;exact rfl;(first|exact True.intro|exact⟨_,rfl,_,rfl,by assumption⟩))|(apply xsL;exact rfl;exact rfl;exact rfl;exact rfl;(first|exact rfl|exact(by simp only[bN,bO,List.length_replicate];done)|exact aT (by assumption)|exact bL (by assumption));exact rfl;exact rfl;(first|exact True.intro|exact⟨_,rfl,_,rfl,by assumption⟩))|(apply xsE;exact rfl;exact rfl;exact rfl;(first|exact rfl|exact(by simp only[bN,bO,List.length_replicate];done)|exact aT (by assumption)|exact bL (by assumption));exact rfl;(first|exact True.intro|exact⟨_,rfl,_,rfl,by assumption⟩)))|(apply xno;exact rfl;(first|exact True.intro|exact⟨_,rfl,_,rfl,by assumption⟩))|(apply xbd;exact rfl;(first|(apply Zro.o;(first|exact OfC.i|exact OfC.b|exact OfC.l|exact OfC.s|exact OfC.p))|(apply Zro.a;repeat (first|exact OfCs.n|(apply OfCs.c;(first|exact OfC.i|exact OfC.b|exact OfC.l|exact OfC.s|exact OfC.p)))));(repeat (first|exact Fil.n|(apply Fil.c;exact rfl;(first|exact Cel.a rfl|exact Cel.o rfl rfl|exact Cel.m (fun _=>rfl));exact rfl;exact rfl;(first|exact Spl.w rfl|(repeat (first|exact Spl.d|(apply Spl.p;(first|exact IsA.c|exact IsA.a4|exact IsA.a32|exact IsA.a8|exact IsA.a20|exact IsA.a64);(first|exact IsA.c|exact IsA.a4|exact IsA.a32|exact IsA.a8|exact IsA.a20|exact IsA.a64))|(apply Spl.s;(first|exact IsA.c|exact IsA.a4|exact IsA.a32|exact IsA.a8|exact IsA.a20|exact IsA.a64);exact rfl)))))));(first|exact True.intro|exact⟨_,rfl,_,rfl,by assumption⟩))|(apply xfd;exact rfl;exact rfl;exact rfl;exact rfl;(first|exact True.intro|exact⟨_,rfl,_,rfl,by assumption⟩))|((with_reducible apply aVZ);first|(apply xpT;exact rfl;(first|assumption|exact rfl);exact rfl;(first|exact True.intro|exact⟨_,rfl,_,rfl,by assumption⟩))|(apply xpF;exact rfl;(first|assumption|exact rfl);exact rfl;(first|exact True.intro|exact⟨_,rfl,_,rfl,by assumption⟩)))|((with_reducible apply aWe);first|(apply xnp;exact rfl;(first|exact True.intro|exact⟨_,rfl,_,rfl,by assumption⟩))|(apply xne;exact rfl;(first|exact True.intro|exact⟨_,rfl,_,rfl,by assumption⟩)))|(apply xVv;exact rfl;exact rfl)|(apply xXx;exact rfl;exact rfl;assumption))|apply OpsX.nil|((with_reducible apply isA);first|((with_reducible apply xqn);exact rfl)|(with_reducible apply AB.skip)|((with_reducible apply xrn);exact rfl)|(with_reducible apply AB.ret)|(with_reducible apply AB.exit))|(with_reducible apply Ex.then_mk)|(with_reducible apply Ex.inBlock_mk)|(with_reducible apply Ex.then_exit_mk)|(with_reducible apply Ex.inBlock_same_mk)|((with_reducible apply Ex.inBlock_other_mk);exact rfl)|(with_reducible apply Ex.then_ret_mk)|(with_reducible apply Ex.inBlock_ret_mk)));exact kk.1)):p:=h ⟨k⟩
theorem bW {α1:Type}{o1:Option α1}{α2:Type}{o2:α1→Option α2}{β:Type}{k:α1→α2→Option β}{r:β}(h:(o1.bind fun v1=>(o2 v1).bind fun v2=>k v1 v2)=some r): ∃v1,o1=some v1∧ ∃v2,o2 v1=some v2∧k v1 v2=some r:=
 have⟨v1,h1,h⟩:=aP h
 ⟨v1,h1,aP h⟩
theorem gZ {α1:Type}{o1:Option α1}{α2:Type}{o2:α1→Option α2}{α3:Type}{o3:α1→α2→Option α3}{β:Type}{k:α1→α2→α3→Option β}{r:β}(h:(o1.bind fun v1=>(o2 v1).bind fun v2=>(o3 v1 v2).bind fun v3=>k v1 v2 v3)=some r): ∃v1,o1=some v1∧ ∃v2,o2 v1=some v2∧ ∃v3,o3 v1 v2=some v3∧k v1 v2 v3=some r:=
 have⟨v1,h1,h⟩:=aP h
 ⟨v1,h1,bW h⟩
theorem aA5 {α1:Type}{o1:Option α1}{α2:Type}{o2:α1→Option α2}{α3:Type}{o3:α1→α2→Option α3}{α4:Type}{o4:α1→α2→α3→Option α4}{β:Type}{k:α1→α2→α3→α4→Option β}{r:β}(h:(o1.bind fun v1=>(o2 v1).bind fun v2=>(o3 v1 v2).bind fun v3=>(o4 v1 v2 v3).bind fun v4=>k v1 v2 v3 v4)=some r): ∃v1,o1=some v1∧ ∃v2,o2 v1=some v2∧ ∃v3,o3 v1 v2=some v3∧ ∃v4,o4 v1 v2 v3=some v4∧k v1 v2 v3 v4=some r:=
 have⟨v1,h1,h⟩:=aP h
 ⟨v1,h1,gZ h⟩
theorem aKs {α1:Type}{o1:Option α1}{α2:Type}{o2:α1→Option α2}{α3:Type}{o3:α1→α2→Option α3}{α4:Type}{o4:α1→α2→α3→Option α4}{α5:Type}{o5:α1→α2→α3→α4→Option α5}{β:Type}{k:α1→α2→α3→α4→α5→Option β}{r:β}(h:(o1.bind fun v1=>(o2 v1).bind fun v2=>(o3 v1 v2).bind fun v3=>(o4 v1 v2 v3).bind fun v4=>(o5 v1 v2 v3 v4).bind fun v5=>k v1 v2 v3 v4 v5)=some r): ∃v1,o1=some v1∧ ∃v2,o2 v1=some v2∧ ∃v3,o3 v1 v2=some v3∧ ∃v4,o4 v1 v2 v3=some v4∧ ∃v5,o5 v1 v2 v3 v4=some v5∧k v1 v2 v3 v4 v5=some r:=
 have⟨v1,h1,h⟩:=aP h
 ⟨v1,h1,aA5 h⟩
theorem aQI {α1:Type}{o1:Option α1}{α2:Type}{o2:α1→Option α2}{α3:Type}{o3:α1→α2→Option α3}{α4:Type}{o4:α1→α2→α3→Option α4}{α5:Type}{o5:α1→α2→α3→α4→Option α5}{α6:Type}{o6:α1→α2→α3→α4→α5→Option α6}{β:Type}{k:α1→α2→α3→α4→α5→α6→Option β}{r:β}(h:(o1.bind fun v1=>(o2 v1).bind fun v2=>(o3 v1 v2).bind fun v3=>(o4 v1 v2 v3).bind fun v4=>(o5 v1 v2 v3 v4).bind fun v5=>(o6 v1 v2 v3 v4 v5).bind fun v6=>k v1 v2 v3 v4 v5 v6)=some r): ∃v1,o1=some v1∧ ∃v2,o2 v1=some v2∧ ∃v3,o3 v1 v2=some v3∧ ∃v4,o4 v1 v2 v3=some v4∧ ∃v5,o5 v1 v2 v3 v4=some v5∧ ∃v6,o6 v1 v2 v3 v4 v5=some v6∧k v1 v2 v3 v4 v5 v6=some r:=
 have⟨v1,h1,h⟩:=aP h
 ⟨v1,h1,aKs h⟩
theorem Conv.ptr {α:Type}{E:α→V}{l:List α}{h h':Hp}(hs:Sub h h'){b:Nat}{e:TypeId}(hb:h[b]? =some (some ⟨e,l.map E⟩))(hb':h'[b]? =some none)(hsh: ∀x,(E x).shut=true)(hn:0<l.length):Conv h h' (.ptr b 0) (.eptr [.agg (l.map E)] 0 0):=by
 intro A M w v H hv
 obtain⟨hone,_⟩:=H.blk b _ hb
 unfold VR at hv⊢
 obtain⟨g,sh,hm,rfl,hshp⟩:=hv
 obtain⟨_,⟨hm',_⟩|⟨g',bH,hm',hA,_⟩⟩:=H.blk b _ hb
 ·rw[hm]at hm';cases hm'
 rw[hm]at hm'
 injection hm' with hm'
 injection hm' with hm'
 subst hm'
 obtain⟨vs,hvs,hl⟩:=aGF H hb hm hshp 0
 rw[a1T]at hvs
 have hX: ¬Xs A M h' g:=by
  rintro(ha|⟨c,C,hc,hmc⟩)
  ·exact hA ha
  obtain⟨C',hc'⟩:=hs c C hc
  have:=H.inj c b C' _ g hc' hb hmc hm
  subst this
  rw[hb']at hc;cases hc
 have hc2:VCells (Xs A M h') [] w (l.map E) vs:=VCells.mk hvs.len fun i c u hc hu=>by
  obtain⟨u',hu',hr⟩:=hvs.get hc
  rw[hu]at hu'
  injection hu' with hu'
  subst hu'
  have:c.shut=true:=by
   rw[a1F]at hc
   cases hq:l[i]? with
   |none=>rw[hq]at hc;cases hc
   |some y=>rw[hq]at hc;injection hc with hc;subst hc;exact hsh y
  exact(hr.shut this).avoid (fun _ _ hx=>hs.xs hx)
 refine⟨⟨g,0,none⟩,l.length, ?_,hn,fun _=>hX,rfl, ?_, ?_⟩
 ·simp[Addr.add]
 ·intro e' he'
  rw[a1S]at he'
  subst he'
  simp only[V.okElem,V.flatOk,V.cells,a1h,beq_iff_eq,a1O,and_true]
  exact a1n.2 hone
 unfold VRow
 refine⟨⟨.agg vs.toArray,by unfold VR;exact⟨vs,rfl,hc2⟩, ?_, ?_⟩,by unfold VRow;trivial⟩
 ·show vs.toArray.size=l.length
  rw[a1t,←hvs.len,a1O]
 exact hl
inductive PCv (h h':Hp):List (Nat×V)→List (Nat×V)→Prop
 |n:PCv h h' [] []
 |s {t:Nat} {x:V} {fr fr':List (Nat×V)}:PCv h h' fr fr'→PCv h h' ((t,x)::fr) ((t,x)::fr')
 |r {t b q:Nat} {e:TypeId} {cs:List V} {ag:Bool} {fr fr':List (Nat×V)}:h[b]? =some (some ⟨e,cs⟩)→h'[b]? =some none→cs.all V.shut=true→q=cs.length→PCv h h' fr fr'→PCv h h' ((t,.sl b 0 q 1 ag)::fr) ((t,.row none 1 cs)::fr')
 |p {α:Type} {E:α→V} {l:List α} {t b:Nat} {e:TypeId} {fr fr':List (Nat×V)}:h[b]? =some (some ⟨e,l.map E⟩)→h'[b]? =some none→(∀x,(E x).shut=true)→a1q 1 l.length=true→PCv h h' fr fr'→PCv h h' ((t,.ptr b 0)::fr) ((t,.eptr [.agg (l.map E)] 0 0)::fr')
 |k {α:Type} {C:α→List V} {K:Nat} {l:List α} {t b q:Nat} {e:TypeId} {fr fr':List (Nat×V)}:h[b]? =some (some ⟨e,l.flatMap C⟩)→h'[b]? =some none→(∀x,(C x).length=K)→(∀x,(C x).all V.one=true)→(∀x,(C x).all V.shut=true)→q=l.length→PCv h h' fr fr'→PCv h h' ((t,.sl b 0 q K true)::fr) ((t,.row none K (l.map fun x=>V.agg (C x)))::fr')
theorem PCv.get {h h':Hp}(hs:Sub h h'){fr fr':List (Nat×V)}(p:PCv h h' fr fr'): ∀(t:Nat)(y:V),eN fr' t=some y→ ∃x,eN fr t=some x∧Conv h h' x y:=by
 induction p with
 |n=>intro t y hy;cases hy
 | @s u x fr fr' _ ih=>
  intro t y hy
  simp only[eN]at hy⊢
  cases hb:a11 u t with
  |true=>rw[hb]at hy;simp only[cond_true,a1e]at hy ⊢; subst hy;exact⟨x,rfl,Conv.same hs⟩
  |false=>rw[hb]at hy;exact ih t y hy
 | @r u b q e cs ag fr fr' h1 h2 h3 h4 _ ih=>
  intro t y hy
  simp only[eN]at hy⊢
  cases hb:a11 u t with
  |true=>rw[hb]at hy;simp only[cond_true,a1e]at hy ⊢; subst hy;exact⟨_,rfl,Conv.row hs h1 h2 h3 h4⟩
  |false=>rw[hb]at hy;exact ih t y hy
 | @p α E l u b e fr fr' h1 h2 h3 h4 _ ih=>
  intro t y hy
  simp only[eN]at hy⊢
  cases hb:a11 u t with
  |true=>rw[hb]at hy;simp only[cond_true,a1e]at hy ⊢; subst hy;exact⟨_,rfl,Conv.ptr hs h1 h2 h3 (a1a h4)⟩
  |false=>rw[hb]at hy;exact ih t y hy
 | @k α C K l u b q e fr fr' h1 h2 h3 h4 h5 h6 _ ih=>
  intro t y hy
  simp only[eN]at hy⊢
  cases hb:a11 u t with
  |true=>rw[hb]at hy;simp only[cond_true,a1e]at hy ⊢; subst hy;exact⟨_,rfl,a2n h3 h4 h5 hs h1 h2 h6⟩
  |false=>rw[hb]at hy;exact ih t y hy
theorem Ghost.fz {N n b:Nat}{fr fr':List (Nat×V)}{h h':Hp}(he:h.set b none=h')(hp:PCv h h' fr fr'):Ghost N (aG n fr) h (aG n fr') h':=by
 subst he
 have hg: ∀{j:Nat}{B:Blk},(h.set b none)[j]? =some (some B)→h[j]? =some (some B):=by
  intro j B hj
  by_cases hij:b=j
  ·subst hij
   rw[List.getElem?_set]at hj
   split at hj
   ·split at hj<;>cases hj
   rename_i hne;exact absurd rfl hne
  rwa[a1m hij]at hj
 have hs:Sub h (h.set b none):=fun j B hj=>⟨B,hg hj⟩
 intro A M a w hN R
 refine⟨M,rfl,⟨⟨by rw[a1A];exact R.hr.len,R.hr.alt, ?_, ?_,R.hr.glob.avoid fun g _ hx=>hx.elim .inl (fun hl=> .inr (hs.live hl))⟩, ?_,R.defers⟩,fun g hl=>hs.live hl⟩
 ·intro j B hj
  obtain⟨h1,h2⟩:=R.hr.blk j B (hg hj)
  refine⟨h1, ?_⟩
  rcases h2 with⟨hn,hc0⟩|⟨g,cs,hgm,hA,hw,hle,hcs⟩
  ·exact .inl ⟨hn,hc0⟩
  exact .inr ⟨g,cs,hgm,hA,hw,hle,hcs.avoid (fun g _ hx=>hs.xs hx)⟩
 ·intro i j B C g hi hj mi mj
  exact R.hr.inj i j B C g (hg hi) (hg hj) mi mj
 exact aH8 R.sr (fun t y hy=>by
  obtain⟨x,hx,hl⟩:=hp.get hs t y hy
  exact⟨x,hx,fun v hv=>hl A M w v R.hr hv⟩)
theorem zv {N n:Nat}{fr fr':List (Nat×V)}{h h':Hp}(b:Nat) (he:LSet h b none h':=by(repeat (first|exact LSet.z|apply LSet.s)))
  (hp:PCv h h' fr fr':=by(repeat (first|exact PCv.n|(apply PCv.p;exact rfl;exact rfl;exact(fun _=>rfl);(first|exact rfl|exact aRI (by assumption) rfl|exact aR6 (by assumption) rfl))|(apply PCv.r;exact rfl;exact rfl;exact aPA (fun _=>rfl);(first|exact rfl|exact(by rw[List.length_map];first|exact(aT (by assumption)).symm|exact(bL (by assumption)).symm)|exact(by simp only[List.length_map,bN,bO];done)))|(apply PCv.k;exact rfl;exact rfl;exact(fun _=>rfl);exact(fun _=>rfl);exact(fun _=>rfl);(first|exact rfl|exact(by simp only[bN,bO])))|apply PCv.s))):Ghost N (aG n fr) h (aG n fr') h':=Ghost.fz he.eq hp
theorem aWx {vn:Nat→Bool}{f:Nat→Nat}{c d:V}{cs ds:List V}(h:V.le vn c (d.rn f))(k:V.les vn cs (V.rns f ds)):V.les vn (c::cs) (V.rns f (d::ds)):=by
 simp only[V.rns];exact V.les_cons h k
theorem lev {p:Prop} (h:p:=by(repeat (first|exact V.les_refl _ _|exact V.les_nil|exact V.le_refl _ _|exact V.le_nil|exact V.le_row|exact V.le_arr (fun _=>rfl)|exact V.le_virt rfl|exact aFG (fun _=>rfl) _|exact aCZ (fun _=>rfl) _|apply aWx|apply aRU|apply aUo|apply aT5|apply aR7|apply aRH|apply aX0|apply aYn|exact(by simp only[bN,bO];exact V.le_refl _ _)))):p:=h
theorem aNj {p:Prop} (h:p:=by first|exact rfl|exact all_map (fun _=>rfl) _|exact rP (fun _=>rfl) _):p:=h
theorem zg' {N n:Nat}{fr fr':List (Nat×V)}{h h':Hp}(σ:List Nat)
  (hf:FLe wV (V.rn (sg σ h.length)) fr fr':=by(repeat (first|exact FLe.nil|refine FLe.same rfl ?_|refine FLe.le rfl lev ?_)))
  (hh:HLe (sg σ h.length) h σ h':=by(repeat (first|exact HLe.nil|refine HLe.dead ?_|refine HLe.live rfl lev aNj ?_)))
  (hσ:σ.take N=List.range N:=by rfl) (hlt:σ.all (fun b=>Nat.blt b h.length)=true:=by rfl) (hnd:ndB (lvs σ h')=true:=by rfl):Ghost N (aG n fr) h (aG n fr') h':=Ghost.rn σ hσ hlt hf hh hnd
theorem FLe.mapg {vn:Nat→Bool}{g:V→V}{fr:List (Nat×V)}: ∀{fr':List (Nat×V)},FLe vn g fr fr'→FLe vn id fr (fr'.map fun p=>(p.1,g p.2))
 | [],_=>FLe.nil
 |(t,y)::r,h=>⟨h.1,FLe.mapg h.2⟩
theorem aQK {g:V→V}: ∀{fr:List (Nat×V)}{t:Nat}{y:V},eN fr t=some y→eN (fr.map fun p=>(p.1,g p.2)) t=some (g y)
 | [],_,_,h=>by cases h
 |(u,x)::r,t,y,h=>by
  simp only[eN,a1b]at h⊢
  cases hb:a11 u t with
  |true=>rw[hb]at h;simp only[cond_true,a1e]at h ⊢; rw[h]
  |false=>rw[hb]at h;exact aQK h
theorem FLe.ofmap {g:V→V}{L:List (Nat×V)}: ∀{fr:List (Nat×V)},(∀t y,(t,y)∈fr→eN L t=some y)→FLe wV g (L.map fun p=>(p.1,g p.2)) fr
 | [],_=>FLe.nil
 |(t,y)::r,h=>FLe.same (aQK (h t y (by simp))) (FLe.ofmap fun u z hz=>h u z (by simp[hz]))
def aJX :List (Nat×V)→List (Nat×V)→Bool
 |_,[]=>true
 |L,(t,_)::r=> !((r.map (·.1)).elem t)&&aJX L r
theorem aTl : ∀{L:List (Nat×V)},aJX L L=true→ ∀t y,(t,y)∈L→eN L t=some y:=by
 have key: ∀{K L:List (Nat×V)},aJX K L=true→ ∀t y,(t,y)∈L→eN L t=some y:=by
  intro K L
  induction L with
  |nil=>intro _ t y h;cases h
  |cons p r ih=>
   obtain⟨u,x⟩:=p
   intro h t y hm
   simp only[aJX,a1h,Bool.not_eq_true']at h
   simp only[eN]
   rcases a1X.1 hm with he|hm
   ·cases he;simp
   have:u≠t:=fun he=>by
    subst he
    have h1:(r.map (·.1)).elem u=true:=List.elem_eq_true_of_mem (a1J.2 ⟨_,hm,rfl⟩)
    rw[h1]at h;exact absurd h.1 (by simp)
   have hb:a11 u t=false:=by
    cases hb:a11 u t with
    |true=>exact absurd (a12 hb) this
    |false=>rfl
   rw[hb];exact ih h.2 t y hm
 exact fun{L} h=>key h
theorem zW {N n:Nat}{fr fr':List (Nat×V)}{h h':Hp}(e:TypeId)(σ:List Nat)
  (hf:FLe (fun b=>Nat.beq b h.length) (V.rn (sg σ (h++[some (Blk.mk e [])]).length)) fr fr':=by(repeat (first|exact FLe.nil|refine FLe.same rfl ?_|refine FLe.le rfl lev ?_)))
  (h1:HLv (fun b=>Nat.beq b h.length) h h:=by(repeat (first|exact HLv.nil|refine HLv.dead ?_|refine HLv.live (V.les_refl _ _) aNj ?_)))
  (hh:HLe (sg σ (h++[some (Blk.mk e [])]).length) (h++[some (Blk.mk e [])]) σ h':=by(repeat (first|exact HLe.nil|refine HLe.dead ?_|refine HLe.live rfl lev aNj ?_)))
  (hσ:σ.take N=List.range N:=by rfl) (hlt:σ.all (fun b=>Nat.blt b (h++[some (Blk.mk e [])]).length)=true:=by rfl) (hnd:ndB (lvs σ h')=true:=by rfl) (hk:aJX fr' fr'=true:=by rfl):Ghost N (aG n fr) h (aG n fr') h':=
 Ghost.trans (Ghost.virt e hf.mapg h1) (Ghost.rn σ hσ hlt (FLe.ofmap (aTl hk)) hh hnd)
section
variable {P:Program}{fn:Func}{n N:Nat}{fr:List (Nat×V)}{s:List V}{h h':Hp}{r a b c x:V}{o p:Nat}{e:TypeId}{cs ds:List V}{t u w:Nat}{ty:TypeId}
inductive RsV (P:Program)(n:Nat)(fr:List (Nat×V))(h:Hp):ResultVar→V→Prop
 |t {t:Nat} {x:V}:bR n fr (.tmp t)=some x→RsV P n fr h (.tmp t) x
 |c {t i o:Nat} {ty:TypeId} {v:V}:bR n fr (.tmp t)=some (.ptr i o)→eZ P ty h (.ptr i o)=some v→RsV P n fr h (.cell t ty) v
theorem RsV.eq {q:ResultVar}(hr:RsV P n fr h q x):i7 P (aG n fr) h q=some x:=by
 cases hr with
 |t h1=>exact rvT h1
 |c h1 h2=>exact rvC h1 h2
theorem lvN {fs:Array Field}{sz by_:Nat}{zz:Value} [T:TiC P ty ⟨.struct fs,sz,by_,zz⟩] (hb:h[o]? =some (some ⟨e,cs⟩)) (hc:Tak cs p sz ds):eZ P ty h (.ptr o p)=some (.agg ds):=ldP hb (qJ T.h rfl hc.eq.2 hc.eq.1)
theorem lvB {α:Type}{E:α→V}{ml:List α}{N' sz by_:Nat}{zz:Value}{w:TypeId} [T:TiC P ty ⟨.array N' w,sz,by_,zz⟩] (hb:h[o]? =some (some ⟨e,ml.map E⟩)) (hz:sz=N') (hl:ml.length=N'):eZ P ty h (.ptr o 0)=some (.agg (ml.map E)):=ldA T.h hz hb hl
theorem zr1 {q:ResultVar}(hr:fn.results= #[q])(ha:RsV P n fr h q a)(hg:Ghost N (aG 1 [(0,a)]) h (aG 1 [(0,r)]) h'):aAe P fn N r h' .ret (aG n fr) h:=aCT (aLV hr ha.eq) hg
theorem xZ {q q':ResultVar}(hr:fn.results= #[q,q'])(ha:RsV P n fr h q a)(hb:RsV P n fr h q' b)(hg:Ghost N (aG 1 [(0,.tup [a,b])]) h (aG 1 [(0,r)]) h'):aAe P fn N r h' .ret (aG n fr) h:=aCT (cY hr ha.eq hb.eq) hg
theorem zr3 {q q' q'':ResultVar}(hr:fn.results= #[q,q',q''])(ha:RsV P n fr h q a)(hb:RsV P n fr h q' b)(hc:RsV P n fr h q'' c)(hg:Ghost N (aG 1 [(0,.tup [a,b,c])]) h (aG 1 [(0,r)]) h'):aAe P fn N r h' .ret (aG n fr) h:=aCT (zX hr ha.eq hb.eq hc.eq) hg
theorem zr4 {d:V}{q q' q'' q4:ResultVar}(hr:fn.results= #[q,q',q'',q4])(ha:RsV P n fr h q a)(hb:RsV P n fr h q' b)(hc:RsV P n fr h q'' c)(hd:RsV P n fr h q4 d)(hg:Ghost N (aG 1 [(0,.tup [a,b,c,d])]) h (aG 1 [(0,r)]) h'):aAe P fn N r h' .ret (aG n fr) h:=aCT (by simp[aBM,hr,ha.eq,hb.eq,hc.eq,hd.eq]) hg
theorem zn0 (hr:fn.results= #[])(hg:Ghost N (aG 1 [(0,.tup [])]) h (aG 1 [(0,r)]) h'):aAe P fn N r h' .normal s h:=aOf (aYf hr) hg
end
theorem fA {p:Prop} (h:p:=by first|exact RsV.t rfl|(apply RsV.c;exact rfl;first|(apply lv1;exact rfl;exact rfl;exact rfl)|(apply lvB;exact rfl;exact rfl;first|exact rfl|exact aT (by assumption)|exact bL (by assumption))|(apply lvN;exact rfl;exact Tak.w rfl))):p:=h
section
variable {P:Program}{N n:Nat}{ops:Array Oper}{l:List Oper}{fr:List (Nat×V)}{h h':Hp}{K:List V→Hp→Prop}
theorem xOf {s:List V}(k:OpsX P N none ops l s h K):OpsW P N ops l s h K:=k
theorem xHp {m:Option (List Nat×List Nat)}{s:List V}{h':Hp}(e:h=h')(k:OpsX P N m ops l s h' K):OpsX P N m ops l s h K:=e▸k
end
theorem aVW {P:Program}{h h':Hp}{t e:TypeId}{ti:TI}{i sz by_:Nat}{z:Value}{ag:Bool}(ht:aK P t=some ⟨.slice e,sz,by_,z⟩)(he:aK P e=some ti)(hs:ti.size=1)(hag:bY ti.desc=ag)(hl:h.length=i)(hh:h++[some ⟨e,[]⟩]=h'):gV P t 0 [] h=some (.sl i 0 0 1 ag,h'):=by
 subst hl hh hag
 unfold gV
 rw[ht]
 simp only[he,hs]
 rfl
theorem aVx {C:List Int→List V}{E:Int→V}{K:Nat}{l:List (List Int)}{hE:Hp}{b q d:Nat}{e:TypeId}(hC: ∀x,(C x).length=K)(hK:0<K)(hcx: ∀x∈l,C x=x.map E)(hn:l.length=q)(hb:hE[b]? =some (some ⟨e,l.flatMap C⟩))(hx: ∀x,(C x).mapM (dZ hE d)=some (C x)):dZ hE (d+1) (.sl b 0 q K true)=some (.row none K (l.map (eA E))):=by
 have:=aLh (d:=d) hC hK hn hb hx
 rwa[show(l.map fun x=>V.agg (C x))=l.map (eA E)from a17 fun x hx=>by rw[hcx x hx]]at this
theorem aKR {C:List Int→List V}{E:Int→V}{K:Nat}{l:List (List Int)}{hE:Hp}{b q:Nat}{e:TypeId}(hC: ∀x,(C x).length=K)(hK:0<K)(hcx: ∀x∈l,C x=x.map E)(hn:l.length=q)(hb:hE[b]? =some (some ⟨e,l.flatMap C⟩))(hx: ∀x,(C x).mapM (dZ hE 3)=some (C x)):xA hE (.sl b 0 q K true)=some (.row none K (l.map (eA E))):=aVx hC hK hcx hn hb hx
theorem aXW {α:Type}{by_:Nat}{y:α}{l m r:List α}(h:b9 by_ (y::l) m=some r):0<r.length:=by
 unfold b9 at h
 split at h
 ·injection h with h;subst h;simp
 cases h
theorem aXK {α:Type}{l r:List α}{a:Int}(h:sub l a (l.length:Int)=some r)(h2:decide (a=(l.length:Int))=false):0<r.length:=by
 have h2:=of_decide_eq_false h2
 unfold sub at h
 split at h
 ·rename_i hc;injection h with h;subst h
  simp only[a2e,a1l]
  omega
 cases h
theorem aXg {α:Type}{l:List α}{i:Int}{y:α}(h:bB l i=some y):0<l.length:=by
 obtain⟨h1,h2,_⟩:=i8 h
 omega
theorem Conv.ptrS {l:List V}{h h':Hp}(hs:Sub h h'){b:Nat}{e:TypeId}(hb:h[b]? =some (some ⟨e,l⟩))(hb':h'[b]? =some none)(hsh:l.all V.shut=true)(hn:0<l.length):Conv h h' (.ptr b 0) (.eptr [.agg l] 0 0):=by
 intro A M w v H hv
 obtain⟨hone,_⟩:=H.blk b _ hb
 unfold VR at hv⊢
 obtain⟨g,sh,hm,rfl,hshp⟩:=hv
 obtain⟨_,⟨hm',_⟩|⟨g',bH,hm',hA,_⟩⟩:=H.blk b _ hb
 ·rw[hm]at hm';cases hm'
 rw[hm]at hm'
 injection hm' with hm'
 injection hm' with hm'
 subst hm'
 obtain⟨vs,hvs,hl⟩:=aGF H hb hm hshp 0
 rw[a1T]at hvs
 have hX: ¬Xs A M h' g:=by
  rintro(ha|⟨c,C,hc,hmc⟩)
  ·exact hA ha
  obtain⟨C',hc'⟩:=hs c C hc
  have:=H.inj c b C' _ g hc' hb hmc hm
  subst this
  rw[hb']at hc;cases hc
 have hc2:VCells (Xs A M h') [] w l vs:=VCells.mk hvs.len fun i c u hc hu=>by
  obtain⟨u',hu',hr⟩:=hvs.get hc
  rw[hu]at hu'
  injection hu' with hu'
  subst hu'
  have:c.shut=true:=a1n.1 hsh c (List.mem_of_getElem? hc)
  exact(hr.shut this).avoid (fun _ _ hx=>hs.xs hx)
 refine⟨⟨g,0,none⟩,l.length, ?_,hn,fun _=>hX,rfl, ?_, ?_⟩
 ·simp[Addr.add]
 ·intro e' he'
  rw[a1S]at he'
  subst he'
  simp only[V.okElem,V.flatOk,V.cells,a1h,beq_iff_eq,and_true]
  exact a1n.2 hone
 unfold VRow
 refine⟨⟨.agg vs.toArray,by unfold VR;exact⟨vs,rfl,hc2⟩, ?_, ?_⟩,by unfold VRow;trivial⟩
 ·show vs.toArray.size=l.length
  rw[a1t,←hvs.len]
 exact hl
theorem aWR {E:Int→V}{l:List Int}{r:List V}{k:Nat}(hk:k<32):(aN E l r)[k]? =some (E (l.getD k 0)):=by
 have:aN E l r=(a1G 32).map (fun i=>E (l.getD i 0))++r:=rfl
 rw[this,a1w (by simpa using hk),a1F,a16 hk]
 rfl
section
variable {P:Program}{h h':Hp}{t e:TypeId}{ti:TI}{i off b N K q:Nat}{v x:V}{E:Int→V}{l:List Int}{y:Int}{k k2:IntKind}{j:Int}{sz by_:Nat}{z:Value}{ag:Bool}{cs r:List V}
theorem aNW (hp:hT P t (x.cells.drop off)=some v):eZ P t h (.eptr [x] 0 off)=some v:=by
 simp only[eZ,a1B]
 exact hp
theorem iaE {es:List V}(ht:aK P t=some ⟨.array N e,sz,by_,z⟩)(he:aK P e=some ti)(h1:ti.size=1)(hx:b7 N l j=some y):iF P t (.eptr es 0 off) (.sc (.int k j))=some (.eptr es 0 (off+j.toNat)):=by
 obtain⟨h2,h3,_⟩:=i8 (fZ hx)
 simp[iF,ht,qH,he,h1,h2,aKp hx]
theorem aNc (ht:aK P t=some ti)(hd:bY ti.desc=false)(hx:b7 32 l j=some y):eZ P t h (.eptr [.agg (aN E l r)] 0 (0+j.toNat))=some (E y):=by
 have h5:=aKp hx
 obtain⟨h2,h3,h4⟩:=i8 (fZ hx)
 have hk:j.toNat<32:=by omega
 simp only[eZ,a1B,V.cells,a10]
 refine nY ht hd ?_
 rw[List.head?_drop,aWR hk,a1v,h4]
 rfl
theorem aUd (ht:aK P t=some ⟨.array 32 e,sz,by_,z⟩)(he:aK P e=some ti)(h1:ti.size=1)(hag:bY ti.desc=false)(hl:l.length=32):iZ P t h (.eptr [.agg (aN E l r)] 0 0) none none=some (.row none 1 (l.map E)):=by
 simp only[iZ,ht,he,mV,vU,a1B]
 have hc:(V.agg (aN E l r)).cells=l.map E++r:=aQN hl r
 rw[if_pos ⟨h1,hag,a1M _,by omega,a1M _,by rw[hc];simp[hl]⟩,hc]
 simp[hl,List.take_append_of_le_length,a1p]
end
section
variable {P:Program}{h h':Hp}{t e:TypeId}{ti:TI}{i b K q sz by_:Nat}{z:Value}{ag:Bool}{α:Type}{l m x:List α}{C:α→List V}
theorem a01 {lo:Option V}{k1 k2:IntKind}{c:Int}(hq:l.length=q)(ht:aK P t=some ⟨.slice e,sz,by_,z⟩)(he:aK P e=some ti)(h1:mV lo=some 0)(hs:sub l 0 c=some x):y5 P t (.sl b 0 q K ag) lo (.sc (.int k1 c)) (.sc (.int k2 c))=some (.sl b 0 x.length K ag):=by
 subst hq
 unfold sub at hs
 split at hs
 ·rename_i hc
  injection hs with hs
  have hl:x.length=c.toNat:=by rw[←hs];simp;omega
  simp only[y5,ht,h1,qH,he]
  rw[if_pos ⟨trivial,trivial,by omega,by omega⟩,hl]
 cases hs
theorem aZT {lo:Option V}{a:Int}(hq:l.length=q)(ht:aK P t=some ⟨.slice e,sz,by_,z⟩)(he:aK P e=some ti)(hK:ti.size=K)(h1:mV lo=some a)(ha:a=(l.length:Int))(hp:0<l.length):iZ P t h (.sl b 0 q K ag) lo none=some (.row none K []):=by
 subst hq hK ha
 simp only[iZ,ht,he,h1,vU]
 rw[if_pos ⟨trivial,by omega,a1M _,a1M _⟩,if_neg (by omega),if_neg (by omega)]
theorem aPa (hC: ∀x,(V.agg (C x)).cells=C x)(l:List α):(l.map fun x=>V.agg (C x)).flatMap V.cells=l.flatMap C:=by
 induction l with
 |nil=>rfl
 |cons x l ih=>simp only[a1b,a1E,ih,hC]
theorem aZL (hC: ∀x,(C x).length=K)(ht:aK P t=some ⟨.slice e,sz,by_,z⟩)(he:aK P e=some ti)(h1:ti.zero.cells.size=K∧ti.size=K∧1≤ti.bytes∧0<K){s:V}(hs:fT h K s=some (m.flatMap C,m.length))(hm:0<m.length)(hag:bY ti.desc=ag)
  {r:List α} (ha:b9 ti.bytes l m=some r) (hl:h.length=i) (hh:h++[some ⟨e,r.flatMap C⟩]=h'):hJ P t t (.row (some false) K (l.map fun x=>V.agg (C x))) s h=some (.sl i 0 r.length K ag,h'):=by
 obtain⟨h2,h3,h4,h5⟩:=h1
 have hf:=aPa (C:=C) (fun _=>rfl) l
 unfold b9 at ha
 split at ha
 ·rename_i hlim
  injection ha with ha
  subst ha hl hh hag
  have hx:fT h ti.size s=some (m.flatMap C,m.length):=by rw[h3];exact hs
  simp only[hJ,ne_eq,not_true,if_false,ht,he]
  rw[if_pos ⟨by rw[h2,h3],by omega,h4⟩]
  simp only[hx]
  rw[if_pos ⟨.inr h3.symm,hm,by simpa using hlim⟩]
  simp[h3,hf]
 cases ha
end
section
variable {P:Program}{O:u2}{N n t:Nat}{ops:Array Oper}{l:List Oper}{fr:List (Nat×V)}{h h':Hp}{K:List V→Hp→Prop}{ty:TypeId}{pos:String}{aft:Array Edge}{gd:Option (Nat×Bool)}{v:V}{d:Option Tmp}{g:Option (Nat×Bool)}{xs:List V}{ws:List Operand}
theorem aUH {u:Nat}{f:FuncId}(hu:bR n fr (.tmp u)=some (.sc (.func (.func f) #[] #[]))):aQV (aG n fr) u=some f:=by
 have:(aG n fr)[u]? =some (.sc (.func (.func f) #[] #[])):=cL hu
 unfold aQV
 rw[this]
 rfl
theorem aR3 {f:FuncId}{u:Nat}{ts:Array TypeId}(hu:bR n fr (.tmp u)=some (.sc (.func (.func f) #[] #[])))(hx:kQ n fr ws=some xs)(hv:O f h xs=some (v,h')):bM P O ⟨d,.call ⟨.value (.tmp u),ws.toArray,ts⟩,ty,pos,aft,g⟩ (aG n fr) h=some (v,h'):=by
 simp[bM,r7,w7 hx,aUH hu,hv]
theorem xGt {f:FuncId}{u:Nat}{F G:List Nat}{ts:Array TypeId}(hu:bR n fr (.tmp u)=some (.sc (.func (.func f) #[] #[])))(hx:kQ n fr ws=some xs)(hc:Fn P f h xs v h')(k:OpsX P N (some (F,G)) ops l (aG n ((t,v)::fr)) h' K) (hF:cD F f=false:=by rfl) (hG:cD G f=true→ ∃news,h'=h++news:=by first|exact(fun _=>⟨_,rfl⟩)|exact(fun _=>⟨[],(List.append_nil _).symm⟩)|exact(fun h=>absurd h (by decide))) (hg:Gd ops n fr gd:=by first|exact True.intro|exact⟨_,rfl,_,rfl,by assumption⟩):OpsX P N (some (F,G)) ops (⟨some t,.call ⟨.value (.tmp u),ws.toArray,ts⟩,ty,pos,aft,gd⟩::l) (aG n fr) h K:=by
 refine⟨_,_,gC hc hF hG ?_,k⟩
 cases gd with
 |none=>exact sv (aR3 hu hx aC3)
 |some p=>
  obtain⟨j,w⟩:=p
  obtain⟨u,hu2,c,hb,he⟩:=hg
  exact svG hu2 hb he (aR3 hu hx aC3)
end
def u8s (l:List Int):ByteArray:=⟨(l.map fun x=>x.toNat.toUInt8).toArray⟩
def aQl (a b:List Int):Int:=Extern.BytealgCompare.cmp (u8s a) (u8s b)
theorem aJu {P:Program}{X:Nat→Prop}{w:World}: ∀(l:List Int)(ad:Addr)(acc:List UInt8),ad.spot=none→VRow X [] w 1 (l.map (eI .u8)) ad→(Extern.Bytes.loadBytes ad l.length ⟨acc.toArray⟩).run P w= .ok ⟨(acc++l.map fun x=>x.toNat.toUInt8).toArray⟩ w
 | [],ad,acc,_,_=>by simp[Extern.Bytes.loadBytes]
 |x::l,ad,acc,hsp,h=>by
  simp only[a1b]at h
  unfold VRow at h
  obtain⟨⟨v,hv,hs,hl⟩,hr⟩:=h
  unfold VR at hv
  subst hv
  have hc:w.cell? ad=some (.int .u8 x):=by
   have:=hl 0 (.int .u8 x) rfl
   simpa[Addr.add]using this
  have ih:=aJu (P:=P) l (ad.add 1) (acc++[x.toNat.toUInt8]) (aJf _ _ hsp) hr
  simp only[a1x,Extern.Bytes.loadBytes,Sem.run_bind,Go.run_load,hc,Result.andThen]
  have hp:(⟨acc.toArray⟩:ByteArray).push x.toNat.toUInt8=⟨(acc++[x.toNat.toUInt8]).toArray⟩:=by
   simp[ByteArray.push]
  rw[hp,ih]
  simp
theorem aXI {P:Program} {f:FuncId} {fn:Func} (hf:P.funcs[f]? =some fn) (hn:(fn.name == "runtime.NumGoroutine")=false) (hb:fn.body.isNone=true) (h1:Extern.findNext fn=none) (h2:Extern.find fn=some Extern.BytealgCompare.compare) (a b:List Int):Fn P f [] [.row none 1 (a.map (eI .u8)),.row none 1 (b.map (eI .u8))] (eI .i64 (aQl a b)) []:=by
 have key: ∀(X:Nat→Prop)(w:World)(l:List Int)(v:Value),VR X [] w (.row none 1 (l.map (eI .u8))) v→(Extern.Bytes.bytesOf v).run P w= .ok (u8s l) w:=by
  intro X w l v hv
  unfold VR at hv
  obtain⟨a,cap,rfl,hc,hn,_,_,hr⟩:=hv
  rw[a1O]at hc⊢
  cases a with
  |none=>
   have h0:=hn rfl
   obtain rfl:l=[]:=a1K (by omega)
   rfl
  |some ad=>
   cases l with
   |nil=>rfl
   |cons x l=>
    obtain⟨ad',ha,_,_,hsp,hrow⟩:=hr (by simp)
    injection ha with ha
    subst ha
    have:=aJu (P:=P) (x::l) ad [] hsp hrow
    show Sem.run P (Extern.Bytes.loadBytes ad (x::l).length ⟨([]:List UInt8).toArray⟩) w=_
    rw[this]
    rfl
 refine aQr hf hn hb h1 h2 fun X M w vs hv=> ?_
 unfold VCells at hv
 obtain⟨v,rest,rfl,hv,hr⟩:=hv
 unfold VCells at hr
 obtain⟨u,rest,rfl,hu,hr⟩:=hr
 unfold VCells at hr
 subst hr
 refine⟨.int .i64 (aQl a b), ?_,by unfold VR;rfl⟩
 show Sem.run P (do pure (goInt (Extern.BytealgCompare.cmp (←Extern.Bytes.bytesOf v) (←Extern.Bytes.bytesOf u)))) w=_
 rw[Sem.run_bind,key X w a v (VR.shut rfl hv),Result.andThen_ok,Sem.run_bind,key X w b u (VR.shut rfl hu),Result.andThen_ok]
 rfl
inductive FCw (h h':Hp):List (Nat×V)→List (Nat×V)→Prop
 |n:FCw h h' [] []
 |c {t:Nat} {x y:V} {fr fr':List (Nat×V)}:Conv h h' x y→FCw h h' fr fr'→FCw h h' ((t,x)::fr) ((t,y)::fr')
theorem FCw.get {h h':Hp}{fr fr':List (Nat×V)}(p:FCw h h' fr fr'): ∀{t:Nat}{y:V},eN fr' t=some y→ ∃x,eN fr t=some x∧Conv h h' x y:=by
 induction p with
 |n=>intro t y hy;cases hy
 | @c u x z fr fr' hc _ ih=>
  intro t y hy
  simp only[eN]at hy⊢
  cases hb:a11 u t with
  |true=>rw[hb]at hy;simp only[cond_true,a1e]at hy ⊢; subst hy;exact⟨x,rfl,hc⟩
  |false=>rw[hb]at hy;exact ih hy
inductive HCf (H H':Hp):List Nat→Hp→Hp→Prop
 |n:HCf H H' [] [] []
 |d {fz:List Nat} {o:Option Blk} {h h':Hp}:HCf H H' fz h h'→HCf H H' (0::fz) (o::h) (none::h')
 |l {fz:List Nat} {e:TypeId} {cs cs':List V} {h h':Hp}:HCf H H' fz h h'→Convs H H' cs cs'→cs'.all V.one=true→HCf H H' (1::fz) (some ⟨e,cs⟩::h) (some ⟨e,cs'⟩::h')
theorem HCf.ok {H H':Hp}{fz:List Nat}{h h':Hp}(p:HCf H H' fz h h'):HCv H H' h h':=by
 induction p with
 |n=>exact HCv.nil
 |d _ ih=>exact HCv.dead ih
 |l _ hc ho ih=>exact HCv.live hc ho ih
theorem zsb {p:Prop} (h:p:=by exact aMg rfl):p:=h
theorem zln {p:Prop} (h:p:=by first|exact rfl|(simp only[List.length_map,bN,bO];done)|exact(by rw[List.length_map];first|exact(aT (by assumption)).symm|exact(bL (by assumption)).symm)):p:=h
theorem cvK {α:Type}{C:α→List V}{K:Nat}{l:List α}{h h':Hp}{b n:Nat}{e:TypeId}(hb:h[b]? =some (some ⟨e,l.flatMap C⟩))(hb':h'[b]? =some none)(hC: ∀x,(C x).length=K)(h1K: ∀x,(C x).all V.one=true)(hsh: ∀x,(C x).all V.shut=true)(hs:Sub h h')(hn:n=l.length):Conv h h' (.sl b 0 n K true) (.row none K (l.map fun x=>V.agg (C x))):=a2n hC h1K hsh hs hb hb' hn
theorem cvA {C:List Int→List V}{E:Int→V}{K:Nat}{l:List (List Int)}{h h':Hp}{b n:Nat}{e:TypeId}(hb:h[b]? =some (some ⟨e,l.flatMap C⟩))(hb':h'[b]? =some none)(hC: ∀x,(C x).length=K)(h1K: ∀x,(C x).all V.one=true)(hsh: ∀x,(C x).all V.shut=true)(hcx: ∀x∈l,C x=x.map E)(hs:Sub h h')(hn:n=l.length):Conv h h' (.sl b 0 n K true) (.row none K (l.map (eA E))):=Conv.rowKA hC h1K hsh hcx hs hb hb' hn
theorem zc0 {p:Prop} (h:p:=by first
  |((with_reducible apply Conv.row);exact zsb;exact rfl;exact rfl;exact aPA (fun _=>rfl);exact zln)
  |((with_reducible apply cvA);exact rfl;exact rfl;exact(fun _=>rfl);exact(fun _=>rfl);exact(fun _=>rfl);(first|exact(fun x hx=>dE (aI2 (by assumption) x hx))|exact List.forall_mem_nil _|exact List.forall_mem_cons.2 ⟨dE (aT (by assumption)),List.forall_mem_nil _⟩);exact zsb;exact zln)
  |((with_reducible apply cvK);exact rfl;exact rfl;exact(fun _=>rfl);exact(fun _=>rfl);exact(fun _=>rfl);exact zsb;exact zln)
  |((with_reducible apply Conv.ptr);exact zsb;exact rfl;exact rfl;exact(fun _=>rfl);(first|exact Nat.le_of_ble_eq_true rfl|exact Nat.le_of_ble_eq_true (aRI (by assumption) rfl)|exact Nat.le_of_ble_eq_true (aR6 (by assumption) rfl)))
  |((with_reducible apply Conv.ptrS);exact zsb;exact rfl;exact rfl;exact rfl;exact Nat.le_of_ble_eq_true rfl)):p:=h
theorem zcs {p:Prop} (h:p:=by(repeat (first|exact Convs.nil|((with_reducible apply Convs.cons);first|exact zc0|exact Conv.same zsb)|((with_reducible apply aUB);exact(fun _=>Conv.same zsb))|((with_reducible apply aWU);exact(fun _=>Conv.same zsb))|exact Convs.same zsb));done):p:=h
theorem zcv {p:Prop} (h:p:=by first|exact zc0|((with_reducible apply Conv.agg);exact zcs)|exact Conv.same zsb):p:=h
theorem zct {p:Prop} (h:p:=by(repeat (first|exact Convs.nil|((with_reducible apply Convs.cons);exact zcv)));done):p:=h
theorem zqf {N n:Nat}{fr fr':List (Nat×V)}{h h':Hp}(fz:List Nat)
  (hh:HCf h h' fz h h':=by((repeat (first|exact HCf.n|apply HCf.d|apply HCf.l));all_goals first|exact aNj|exact zcs))
  (hf:FCw h h' fr fr':=by(repeat (first|exact FCw.n|(apply FCw.c;first|exact zc0|((with_reducible apply Conv.tup);exact zct)|exact zcv)))):Ghost N (aG n fr) h (aG n fr') h':=Ghost.conv0 (fun _ _ hy=>hf.get hy) hh.ok
end Go.Vm
set_option linter.unusedSectionVars false
namespace Go.Vm
open Go
open Go.ChangeMaps (setBlock)
def itV (r:Nat):V:= .sc (.pointer (some ⟨r,0,none⟩))
def Clo (x:V):Prop:= ∀(X:Nat→Prop)(M:List (Option Nat))(w:World)(v:Value),VR X M w x v→VR X [] w x v
theorem Clo.row (nl:Option Bool)(k:Nat)(es:List V):Clo (.row nl k es):=fun X M w v h=>by unfold VR at h ⊢; exact h
theorem aG8 : ∀{cs:List V},(∀c∈cs,Clo c)→ ∀(X:Nat→Prop)(M:List (Option Nat))(w:World)(vs:List Value),VCells X M w cs vs→VCells X [] w cs vs
 | [],_,X,M,w,vs,h=>by unfold VCells at h ⊢; exact h
 |c::cs,hc,X,M,w,vs,h=>by
  unfold VCells at h⊢
  obtain⟨v,rest,e,h1,h2⟩:=h
  exact⟨v,rest,e,hc c (by simp) X M w v h1,aG8 (fun d hd=>hc d (by simp[hd])) X M w rest h2⟩
theorem Clo.agg {cs:List V}(h: ∀c∈cs,Clo c):Clo (.agg cs):=fun X M w v hv=>by
 unfold VR at hv⊢
 obtain⟨vs,e,hc⟩:=hv
 exact⟨vs,e,aG8 h X M w vs hc⟩
section
variable {P:Program}{N:Nat}
theorem aDn {w:World}{r:Nat}{o:Obj}(hr:r<w.heap.size):(setBlock w r o).heap[r]? =some o:=by
 show(w.heap.setIfInBounds r o)[r]? =_
 rw[a1r hr]
theorem aD3 {w:World}{r g:Nat}{o:Obj}(h:g≠r):(setBlock w r o).heap[g]? =w.heap[g]? :=by
 show(w.heap.setIfInBounds r o)[g]? =_
 rw[a1H (fun e=>h e.symm)]
def aHM (o:Obj):Bool:=match o with | .mapIter .. =>true|_=>false
theorem aIG {w:World}{r:Nat}{o:Obj}(h:w.heap[r]? =some o)(hi:aHM o=true):w.shape? r=none:=by
 cases o<;>simp[aHM]at hi
 unfold World.shape?
 rw[h]
theorem aLe {w:World}{r:Nat}{o o':Obj}(h:w.heap[r]? =some o)(hi:aHM o=true)(hi':aHM o'=true):Ext (fun x=>x=r) w (setBlock w r o'):=by
 have hlt:r<w.heap.size:=(a1k.1 h).1
 refine⟨rfl,⟨rfl,a18 _⟩,rfl,by simp[setBlock],fun g _ hn=>aD3 hn,fun g sh hs=> ?_,fun g hg hs=> ?_⟩
 ·by_cases hgr:g=r
  ·subst hgr;rw[aIG h hi]at hs;cases hs
  unfold World.shape? at hs⊢
  rw[aD3 hgr];exact hs
 by_cases hgr:g=r
 ·subst hgr;exact aIG (aDn hlt) hi'
 unfold World.shape? at hs⊢
 rw[aD3 hgr];exact hs
theorem Rel.world {A:Nat→Prop}{M:List (Option Nat)}{s:List V}{h:Hp}{a:Act}{w w':World}{S:Nat→Prop}(R:Rel A M s h a w)(E:Ext S w w')(hS: ∀g,S g→A g):Rel A M s h a w':=by
 have k: ∀g,g<w.heap.size→S g→Xs A M h g:=fun g _ hs=> .inl (hS g hs)
 refine⟨⟨R.hr.len,fun g hg=>a1c (R.hr.alt g hg) E.size,fun b B hb=> ?_,R.hr.inj,R.hr.glob.ext E k (fun _ _ h=>h)⟩,⟨R.sr.len,fun t x hx=>VR.ext E (a1i _) k (fun _ _ h=>h) _ _ (R.sr.val t x hx)⟩,R.defers⟩
 obtain⟨h1,h2|⟨g,cs,h2,h3,h4,h5,h6⟩⟩:=R.hr.blk b B hb
 ·exact⟨h1,.inl h2⟩
 exact⟨h1,.inr ⟨g,cs,h2,h3,h4.to (E.block g h4.lt (fun hs=>h3 (hS g hs))),h5,VCells.ext E (a1i _) k (fun _ _ h=>h) _ _ h6⟩⟩
theorem Grow.setIt {A:Nat→Prop}{M0 M:List (Option Nat)}{h0 h:Hp}{w0 w:World}{r:Nat}{o o':Obj}(G:Grow A M0 h0 w0 M h w)(hA:A r)(h1:w0.heap[r]? =some o)(hi:aHM o=true)(h2:w.heap[r]? =some o)(hi':aHM o'=true):
  Grow A M0 h0 (setBlock w0 r o') M h (setBlock w r o'):=by
 have l0:r<w0.heap.size:=(a1k.1 h1).1
 have l1:r<w.heap.size:=(a1k.1 h2).1
 have e0:=aLe h1 hi hi'
 have e1:=aLe h2 hi hi'
 have hr:HR A M h (setBlock w r o'):=by
  have k: ∀g,g<w.heap.size→g=r→Xs A M h g:=fun g _ hs=> .inl (hs▸hA)
  refine⟨G.hr.len,fun g hg=>a1c (G.hr.alt g hg) e1.size,fun b B hb=> ?_,G.hr.inj,G.hr.glob.ext e1 k (fun _ _ h=>h)⟩
  obtain⟨h1,h2|⟨g,cs,h2,h3,h4,h5,h6⟩⟩:=G.hr.blk b B hb
  ·exact⟨h1,.inl h2⟩
  exact⟨h1,.inr ⟨g,cs,h2,h3,h4.to (e1.block g h4.lt (fun hs=>h3 (hs▸hA))),h5,VCells.ext e1 (a1i _) k (fun _ _ h=>h) _ _ h6⟩⟩
 refine⟨G.pre,hr,⟨G.ext.os,G.ext.tape,G.ext.output,by simpa[setBlock]using G.ext.size,fun g hg hn=> ?_,fun g sh hs=> ?_,fun g hg hs=> ?_⟩,fun g hg hl=>G.live g (by simpa[setBlock]using hg) hl⟩
 ·by_cases hgr:g=r
  ·subst hgr;rw[aDn l0,aDn l1]
  rw[aD3 hgr,aD3 hgr]
  exact G.ext.block g (by simpa[setBlock]using hg) hn
 ·by_cases hgr:g=r
  ·subst hgr;rw[aIG (aDn l0) hi']at hs;cases hs
  unfold World.shape? at hs⊢
  rw[aD3 hgr]at hs⊢
  exact G.ext.shape g sh hs
 by_cases hgr:g=r
 ·subst hgr;exact aIG (aDn l1) hi'
 unfold World.shape? at hs⊢
 rw[aD3 hgr]at hs⊢
 exact G.ext.nshape g (by simpa[setBlock]using hg) hs
theorem Rel.drewR {A:Nat→Prop}{M:List (Option Nat)}{s:List V}{h:Hp}{a:Act}{w:World}(R:Rel A M s h a w):Rel A M s h a w.drew:=R.world (Ext.drew (fun _=>False) w) (fun _ h=>h.elim)
theorem aDd {ops:Array Oper}{i:Nat}{o:Oper}{Q:Exit→Act→World→Prop}{K:Act→World→Prop}{a:Act}{w w':World}{v:Value}(hi:ops[i]? =some o)(hg:o.guard=none)(he:(execOp a.eval o).run P w= .ok (.value v) w')(hK:K (a.put o.dst v) w'):wpOp P ops Q i K a w:=by
 unfold wpOp
 rw[hi]
 simp only
 rw[if_pos (by simp[Region.wanted,hg])]
 left
 unfold Oper.wp
 rw[he]
 exact hK
def qI (Z:List ((V×V)×MapEntry))(seen:Array Nat):List ((V×V)×MapEntry):=Z.filter fun z=> !seen.contains z.2.born
theorem aVM {Z:List ((V×V)×MapEntry)}{es:Array MapEntry}(h:Z.map (·.2)=es.toList)(seen:Array Nat):(leftOf es seen).toList=(qI Z seen).map (·.2):=by
 unfold leftOf qI
 rw[Array.toList_filter,←h,List.filter_map]
 rfl
theorem aSt {Z Z1 Z2:List ((V×V)×MapEntry)}{z:(V×V)×MapEntry}{seen:Array Nat}(hn:(Z.map (·.2.born)).Nodup)(h:qI Z seen=Z1++z::Z2):qI Z (seen.push z.2.born)=Z1++Z2:=by
 have e:qI Z (seen.push z.2.born)=(qI Z seen).filter fun y=> !(y.2.born == z.2.born):=by
  unfold qI
  rw[List.filter_filter]
  congr 1
  funext y
  have:(seen.push z.2.born).contains y.2.born=(seen.contains y.2.born || (y.2.born == z.2.born)):=by
   rw[a2l];simp[Array.mem_push]
  rw[this,Bool.not_or,Bool.and_comm]
 have hs:((qI Z seen).map (·.2.born)).Nodup:=List.Pairwise.sublist ((List.filter_sublist).map _) hn
 rw[e,h]
 rw[h,a1P,a1b]at hs
 obtain⟨h1,h2,h3⟩:=List.pairwise_append.1 hs
 obtain⟨h4,h5⟩:=List.pairwise_cons.1 h2
 rw[List.filter_append,List.filter_cons_of_neg (by simp)]
 congr 1
 ·rw[a1Q]
  intro y hy
  have:=h3 y.2.born (a1J.2 ⟨y,hy,rfl⟩) z.2.born (by simp)
  simpa using this
 rw[a1Q]
 intro y hy
 have:=h4 y.2.born (a1J.2 ⟨y,hy,rfl⟩)
 simpa using fun h=>this h.symm
theorem ERel.zipped {X:Nat→Prop}{M:List (Option Nat)}{w:World}: ∀{ps:List (V×V)}{es:List MapEntry},ERel X M w ps es→(ps.zip es).map (·.1)=ps∧(ps.zip es).map (·.2)=es∧ ∀z∈ps.zip es,VR X M w z.1.1 z.2.key∧VR X M w z.1.2 z.2.val
 | [],[],_=>⟨rfl,rfl,by simp⟩
 |p::ps,e::es,h=>by
  obtain⟨h1,h2,h3⟩:=h
  obtain⟨i1,i2,i3⟩:=ERel.zipped h3
  refine⟨by simp[i1],by simp[i2],fun z hz=> ?_⟩
  rw[a2b]at hz
  rcases a1X.1 hz with rfl|hz
  ·exact⟨h1,h2⟩
  exact i3 z hz
 | [],_::_,h=>h.elim
 |_::_,[],h=>h.elim
theorem Clo.any :Clo .any:=fun _ _ _ _ _=>by unfold VR;trivial
theorem aQR {n:Nat}{cs:List V}(h: ∀c∈cs,Clo c):Clo (aEs n cs):=by
 unfold aEs
 split
 ·cases cs with
  |nil=>exact Clo.any
  |cons c cs=>exact h c (by simp)
 exact Clo.agg h
theorem aQy {k l:Nat}: ∀(n:Nat)(cs:List V),(∀c∈cs,Clo c)→ ∀p∈aBV k l n cs,Clo p.1∧Clo p.2
 |0,_,_,p,hp=>by simp[aBV]at hp
 |n+1,cs,h,p,hp=>by
  simp only[aBV,a1X]at hp
  rcases hp with rfl|hp
  ·exact⟨aQR fun c hc=>h c (a1L hc),aQR fun c hc=>h c (a13 (a1L hc))⟩
  exact aQy n _ (fun c hc=>h c (a13 hc)) p hp
theorem set_set {w:World}{r:Nat}{o o':Obj}:setBlock (setBlock w r o) r o'=setBlock w r o':=by
 simp[setBlock]
def PreW (P:Program)(N:Nat)(ops:Array Oper)(m:Nat)(l:List Oper)(s:List V)(h:Hp)(K:List V→Hp→Prop):Prop:=
 ∀(k:Nat),k+l.length=m→(∀j,j<l.length→l[j]? =ops[k+j]?)→ ∀(A:Nat→Prop)(M0 M:List (Option Nat))(h0:Hp)(w0:World)(a:Act)(w:World)(Q:Exit→Act→World→Prop),h0.length=N→M0.length=N→Grow A M0 h0 w0 M h w→Rel A M s h a w→
  (∀s' h' M' a' w',K s' h'→Grow A M0 h0 w0 M' h' w'→Rel A M' s' h' a' w'→wpOps P ops Q [m] a' w')→wpOps P ops Q (a2m k (l.length+1)) a w
theorem PreW.nil {ops:Array Oper}{m:Nat}{s:List V}{h:Hp}{K:List V→Hp→Prop}(hk:K s h):PreW P N ops m [] s h K:=fun k hm _ A M0 M h0 w0 a w Q _ _ G R hQ=>by
 obtain rfl:k=m:=by simpa using hm
 exact hQ s h M a w hk G R
theorem PreW.cons {ops:Array Oper}{m:Nat}{o:Oper}{l:List Oper}{s:List V}{h h':Hp}{v:V}{O:u2}{K:List V→Hp→Prop}(hO:zK P O)(hs:bX P O ops o s h=some (v,h'))(hk:PreW P N ops m l (fK s o.dst v) h' K):PreW P N ops m (o::l) s h K:=fun k hm hl A M0 M h0 w0 a w Q hN hM G R hQ=>by
 have h0':ops[k]? =some o:=by simpa using (hl 0 (by simp)).symm
 simp only[a1x]at hm⊢
 rw[a2g,wpOps_cons]
 refine uN hO R h0' (s':=fK s o.dst v) (h':=h') (by rw[bU,hs];rfl) fun a' w' M' G' R'=> ?_
 exact hk (k+1) (by omega) (fun j hj=>by have:=hl (j+1) (by simpa using hj);simpa[Nat.add_assoc,Nat.add_comm 1 j]using this) A M0 M' h0 w0 a' w' Q hN hM (G.trans G') R' hQ
theorem AB.sub {c:Code}{Q:Ex→List V→Hp→Prop}{s:List V}{h:Hp}(hh:AB P h.length c Q s h):AB P N c Q s h:=fun A M0 M h0 w0 a w hN hM G R=>
 Code.wp_mono (fun e a' w' ⟨x,s',h',M',h1,h2,h3,h4⟩=>⟨x,s',h',M',h1,h2,G.trans h3,h4⟩) (hh A M M h w a w rfl R.hr.len (Grow.refl R.hr) R)
theorem AB.mrange {i2 i3 i4 b0 b1:Nat}{pre rest:List Oper}{REST:Code}{oR oN oX oE:Oper}{t9 t10 t11 t12 t13:Tmp}{mt:TypeId}
  (hoR:oR.op= .range mt (.tmp t9)∧oR.dst=some t10∧oR.guard=none) (hoN:oN.op= .next (.tmp t10) false∧oN.dst=some t11∧oN.guard=none)
  (hoX:oX.op= .extract (.tmp t11) 0∧oX.dst=some t12∧oX.guard=none) (hoE:oE.op= .entry (.tmp t10)∧oE.dst=some t13∧oE.guard=none) (ht:t11≠t10∧t12≠t10)
  {s:List V} {h:Hp} {K2:List V→Hp→Prop} (hpre:PreW P N (pre++[oR]).toArray pre.length pre s h K2) {Q:Ex→List V→Hp→Prop}
  (hK: ∀s2 h2,K2 s2 h2→ ∃(a:MAt)(x:V)(I:Nat→List (V×V)→List V→Hp→Prop),s2[t9]? =some x∧zA P mt h2 x=some a∧a.b<N∧(∀b B,N≤b→h2[b]? ≠some (some B))∧(∀c∈a.B.cells,Clo c)∧
   (∀r,I r a.es (s2.set t10 (itV r)) (h2.set a.b none))∧
   (∀r rs s h,I r rs s h→s[t10]? =some (itV r)∧h[a.b]? =some none∧t11<s.length∧t12<s.length)∧
   (∀r rs1 y rs2 s h,I r (rs1++y::rs2) s h→OpsW P N (oE::rest).toArray rest (((s.set t11 .any).set t12 (.sc (.bool true))).set t13 (.tup [y.1,y.2])) h fun s' h'=>AB P N REST (fun e s'' h''=>(e= .normal∨e= .exit b1)∧I r (rs1++rs2) s'' h''∨e= .ret∧h''[a.b]? =some none∧Q .ret s'' (h''.set a.b (some a.B))) s' h')∧
   ∀r s h,I r [] s h→Q .normal ((s.set t11 .any).set t12 (.sc (.bool false))) (h.set a.b (some a.B))):
  AB P N (.seq (.region i2 (pre++[oR]).toArray false) (.block b0 (.loop (.seq (.region i3 #[oN,oX] false) (.seq (.cond (.tmp t12) .skip (.exit b0)) (.block b1 (.seq (.region i4 (oE::rest).toArray false) REST))))))) Q s h:=by
 intro A M0 M h0 w0 a w hN hM G R
 refine wp_seq (wp_region ?_)
 have hsz:a1G (pre++[oR]).toArray.size=a2m 0 (pre.length+1):=by
  simp only[a1t,a1y,a1x,List.length_nil,a10]
  rw[a14]
 rw[hsz]
 refine hpre 0 (by omega) (fun j hj=>by simp[a1w hj]) A M0 M h0 w0 a w _ hN hM G R fun s2 h2 M2 a2 w2 hk G2 R2=> ?_
 obtain⟨ma,x,I,hx,hma,hbN,hnl,hclo,hI0,hIs,hbody,hend⟩:=hK s2 h2 hk
 have hv:=R2.sr.val t9 x hx
 obtain⟨hmt,hBe,hb2,hone,g,es,clock,cs,hMg,hAg,hvm,hwg,hok,hlen,hshp,hcs,hER⟩:=aE5 R2.hr hma hv
 obtain⟨hu,hdk,hde,_,_⟩:=aCd hmt
 have hg2:g<w2.heap.size:=(a1k.1 hwg).1
 have hr0:(execOp a2.eval oR).run P w2= .ok (.value (.pointer (some ⟨w2.heap.size,0,none⟩))) (w2.alloc (.mapIter (some g) clock #[] clock)):=by
  have e1:(Instr.range mt (a2.eval (.tmp t9))).run P w2= .ok (.pointer (some ⟨w2.heap.size,0,none⟩)) (w2.alloc (.mapIter (some g) clock #[] clock)):=by
   rw[show a2.eval (.tmp t9)= .map (some g)from hvm]
   exact run_range_map w2 mt ma.m.kt ma.m.et g es clock hu hwg
  simp[execOp,hoR.1,e1]
 rw[wpOps_cons]
 refine aDd (by simp) hoR.2.2 hr0 ?_
 rw[hoR.2.1]
 generalize hQf:(fun(e:Exit)(a':Act)(w':World)=> ∃x s' h' M',e=Ex.toExit x∧Q x s' h'∧Grow A M0 h0 w0 M' h' w'∧Rel A M' s' h' a' w')=Qf
 show(Code.block b0 (.loop _)).wp P Qf (a2.put (some t10) (.pointer (some ⟨w2.heap.size,0,none⟩))) (w2.alloc (.mapIter (some g) clock #[] clock))
 have hrlt: ∀{y:Nat},y<w2.heap.size→y≠w2.heap.size:=fun h e=>by omega
 obtain⟨r,hr⟩: ∃r,r=w2.heap.size:=⟨_,rfl⟩
 obtain⟨wB,hwB⟩: ∃wB,wB=w2.alloc (.mapIter (some g) clock #[] clock):=⟨_,rfl⟩
 rw[←hr,←hwB]
 have hrB:wB.heap[r]? =some (.mapIter (some g) clock #[] clock):=by rw[hwB,hr];exact heap_alloc_new _ _
 have hold: ∀y,y<w2.heap.size→wB.heap[y]? =w2.heap[y]? :=fun y hy=>by rw[hwB];exact heap_alloc_old _ _ hy
 have hgB:wB.heap[g]? =some (.map es clock):=by rw[hold g hg2];exact hwg
 have hsB:wB.heap.size=w2.heap.size+1:=by rw[hwB];simp
 have EB: ∀S,Ext S w2 wB:=fun S=>by rw[hwB];exact Ext.alloc S _ _
 have live3: ∀{b:Nat}{B:Blk},(h2.set ma.b none)[b]? =some (some B)→b≠ma.b∧h2[b]? =some (some B):=by
  intro b B hb
  by_cases e:b=ma.b
  ·subst e
   rw[a1d (a1f.1 hb2).1]at hb
   cases hb
  rw[a1m (fun h=>e h.symm)]at hb
  exact⟨e,hb⟩
 obtain⟨A',hA'⟩: ∃A':Nat→Prop,A'=fun y=>A y∨y=r∨y=g:=⟨_,rfl⟩
 obtain⟨h3,hh3⟩: ∃h3,h3=h2.set ma.b none:=⟨_,rfl⟩
 rw[←hh3]at live3
 have hNM:N≤M2.length:=by rw[←hM];exact G2.pre.length_le
 have hX: ∀y,y<w2.heap.size→Xs A' M2 h3 y→Xs A M2 h2 y:=by
  rintro y hy (hA|⟨b,B,hb,hm⟩)
  ·rw[hA']at hA
   rcases hA with hA|rfl|rfl
   ·exact .inl hA
   ·omega
   exact .inr ⟨ma.b,ma.B,hb2,hMg⟩
  exact .inr ⟨b,B,(live3 hb).2,hm⟩
 have hHR:HR A' M2 h3 wB:=by
  refine⟨by rw[hh3,a1A];exact R2.hr.len,fun y hy=> ?_,fun b B hb=> ?_,fun b b' B B' gg hb hb'=>R2.hr.inj b b' B B' gg (live3 hb).2 (live3 hb').2,R2.hr.glob.ext (EB (fun _=>False)) (fun _ _ h=>h.elim) hX⟩
  ·rw[hA']at hy
   rcases hy with hy|rfl|rfl
   ·have:=R2.hr.alt y hy;omega
   ·omega
   omega
  obtain⟨hne,hb'⟩:=live3 hb
  obtain⟨k0,k1|⟨gg,cs',k1,k2,k3,k4,k5⟩⟩:=R2.hr.blk b B hb'
  ·exact⟨k0,.inl k1⟩
  refine⟨k0,.inr ⟨gg,cs',k1, ?_,k3.to (hold gg k3.lt),k4,VCells.ext (EB (fun _=>False)) (a1i _) (fun _ _ h=>h.elim) hX _ _ k5⟩⟩
  rw[hA']
  rintro(hq|hq|hq)
  ·exact k2 hq
  ·have:=k3.lt;omega
  subst hq;exact hne (R2.hr.inj b ma.b B ma.B gg hb' hb2 k1 hMg)
 have hRel:Rel A' M2 (s2.set t10 (itV r)) h3 (a2.put (some t10) (.pointer (some ⟨r,0,none⟩))) wB:=by
  refine⟨hHR,SR.put (d:=some t10) ⟨R2.sr.len,fun t x hx=>VR.ext (EB (fun _=>False)) (a1i _) (fun _ _ h=>h.elim) hX _ _ (R2.sr.val t x hx)⟩ (by unfold itV VR;rfl),by rw[nX];exact R2.defers⟩
 have hMt: ∀b,b<N→(M2.take N)[b]? =M2[b]? :=fun b hb=>by rw[a1V hb]
 have hht: ∀b,b<N→(h3.take N)[b]? =h3[b]? :=fun b hb=>by rw[a1V hb]
 have hlow: ∀{b:Nat}{B:Blk},h3[b]? =some (some B)→b<N:=fun{b B} hb=>by
  rcases Nat.lt_or_ge b N with h|h
  ·exact h
  exact absurd (live3 hb).2 (hnl b B h)
 have hLv: ∀y,cU (M2.take N) (h3.take N) y→cU M2 h3 y:=by
  rintro y ⟨b,B,hb,hm⟩
  have hbN':b<N:=by
   have:=(a1f.1 hb).1
   rw[a1l]at this;omega
  rw[hht b hbN']at hb
  rw[hMt b hbN']at hm
  exact⟨b,B,hb,hm⟩
 have hLv2: ∀y,cU M2 h3 y→cU M2 h2 y:=by
  rintro y ⟨b,B,hb,hm⟩
  exact⟨b,B,(live3 hb).2,hm⟩
 have hLA: ∀y,cU (M2.take N) (h3.take N) y→ ¬A' y:=by
  intro y hy hA
  obtain⟨b,B,hb,hm⟩:=hLv y hy
  obtain⟨_,⟨k1,_⟩|⟨gg,cs',k1,k2,_⟩⟩:=hHR.blk b B hb
  ·rw[hm]at k1;cases k1
  rw[hm]at k1;injection k1 with k1;injection k1 with k1;subst k1;exact k2 hA
 have hGrow:Grow A' (M2.take N) (h3.take N) wB M2 h3 wB:=by
  refine⟨a2h _ _,hHR,Ext.refl _ _,fun y _ hl=> ?_⟩
  obtain⟨b,B,hb,hm⟩:=hl
  have:=hlow hb
  exact⟨b,B,by rw[hht b this];exact hb,by rw[hMt b this];exact hm⟩
 have hAr:A' r:=by rw[hA'];exact .inr (.inl rfl)
 have hAgg:A' g:=by rw[hA'];exact .inr (.inr rfl)
 have hgr:g≠r:=by omega
 have lN:(h3.take N).length=N:=by
  have:=R2.hr.len
  rw[a1l,hh3,a1A];omega
 have lM:(M2.take N).length=N:=by rw[a1l];omega
 have hE2: ∀{it:Obj}{M':List (Option Nat)}{h':Hp}{w':World},aHM it=true→Grow A' (M2.take N) (h3.take N) (setBlock wB r it) M' h' w'→Ext (cU M2 h2) w2 w':=by
  intro it M' h' w' hit G'
  have E1:=aLe hrB rfl hit
  refine⟨G'.ext.os.trans (E1.os.trans (EB (fun _=>False)).os),⟨G'.ext.tape.1.trans (E1.tape.1.trans (EB (fun _=>False)).tape.1),a1s (EB (fun _=>False)).tape.2 (a1s E1.tape.2 G'.ext.tape.2)⟩,G'.ext.output.trans (E1.output.trans (EB (fun _=>False)).output),a1s (EB (fun _=>False)).size (a1s E1.size G'.ext.size),fun y hy hn=> ?_,fun y sh hs=>G'.ext.shape y sh (E1.shape y sh ((EB (fun _=>False)).shape y sh hs)),fun y hy hs=>G'.ext.nshape y (a1c hy (a1s (EB (fun _=>False)).size E1.size)) (E1.nshape y (a1c hy (EB (fun _=>False)).size) ((EB (fun _=>False)).nshape y hy hs))⟩
  rw[G'.ext.block y (a1c hy (a1s (EB (fun _=>False)).size E1.size)) (fun hl=>hn (hLv2 y (hLv y hl))),E1.block y (a1c hy (EB (fun _=>False)).size) (by omega)]
  exact hold y hy
 have hX2: ∀{it:Obj}{M':List (Option Nat)}{h':Hp}{w':World},aHM it=true→Grow A' (M2.take N) (h3.take N) (setBlock wB r it) M' h' w'→ ∀y,y<w2.heap.size→Xs A' M' h' y→Xs A M2 h2 y:=by
  intro it M' h' w' hit G' y hy hx
  rcases hx with hA|hl
  ·exact hX y hy (.inl hA)
  have:=G'.live y (by show y<(wB.heap.setIfInBounds r it).size;simp;omega) hl
  exact .inr (hLv2 y (hLv y this))
 have hmap: ∀{it:Obj}{M':List (Option Nat)}{h':Hp}{w':World},Grow A' (M2.take N) (h3.take N) (setBlock wB r it) M' h' w'→w'.heap[g]? =some (.map es clock)∧w'.heap[r]? =some it:=by
  intro it M' h' w' G'
  refine⟨?_, ?_⟩
  ·rw[G'.ext.block g (by show g<(wB.heap.setIfInBounds r it).size;simp;omega) (fun hl=>hLA g hl hAgg),aD3 hgr,hgB]
  rw[G'.ext.block r (by show r<(wB.heap.setIfInBounds r it).size;simp;omega) (fun hl=>hLA r hl hAr),aDn (by omega)]
 obtain⟨z1,z2,z3⟩:=hER.zipped
 obtain⟨Z,hZ⟩: ∃Z,Z=ma.es.zip es.toList:=⟨_,rfl⟩
 rw[←hZ]at z1 z2 z3
 have hnd:(Z.map (·.2.born)).Nodup:=by
  have:=hok.nd
  rw[←z2,List.map_map]at this
  exact this
 have hcl:=aQy (k:=mF ma.m.dk) (l:=mF ma.m.de) (ma.B.cells.length/(cT (mF ma.m.dk)+cT (mF ma.m.de))) ma.B.cells hclo
 rw[←aMc hma]at hcl
 have fin0: ∀{it:Obj}{M':List (Option Nat)}{h':Hp}{s':List V}{a':Act}{w':World},aHM it=true→Grow A' (M2.take N) (h3.take N) (setBlock wB r it) M' h' w'→Rel A' M' s' h' a' w'→h'[ma.b]? =some none→Grow A M0 h0 w0 M' (h'.set ma.b (some ma.B)) w'∧Rel A M' s' (h'.set ma.b (some ma.B)) a' w':=by
  intro it M' h' s' a' w' hit G' R' i2
  have E2:=hE2 hit G'
  have hx2:=hX2 hit G'
  obtain⟨hm1,_⟩:=hmap G'
  have hMb:M'[ma.b]? =some (some g):=by
   obtain⟨tl,htl⟩:=G'.pre
   rw[←htl,a1w (by rw[lM];exact hbN),hMt _ hbN]
   exact hMg
  have hbl:ma.b<h'.length:=(a1f.1 i2).1
  have liveF: ∀{b:Nat}{B:Blk},(h'.set ma.b (some ma.B))[b]? =some (some B)→(b=ma.b∧B=ma.B)∨(b≠ma.b∧h'[b]? =some (some B)):=by
   intro b B hb
   by_cases e:b=ma.b
   ·subst e
    rw[a1d hbl]at hb
    injection hb with hb;injection hb with hb
    exact .inl ⟨rfl,hb.symm⟩
   rw[a1m (fun h=>e h.symm)]at hb
   exact .inr ⟨e,hb⟩
  have hXF: ∀y,Xs A M' (h'.set ma.b (some ma.B)) y→Xs A' M' h' y:=by
   rintro y (hy|⟨b,B,hb,hm⟩)
   ·left;rw[hA'];exact .inl hy
   rcases liveF hb with⟨rfl,rfl⟩|⟨_,hb'⟩
   ·rw[hMb]at hm;injection hm with hm;injection hm with hm;subst hm
    exact .inl hAgg
   exact .inr ⟨b,B,hb',hm⟩
  have hXF2: ∀y,y<w2.heap.size→Xs A M' (h'.set ma.b (some ma.B)) y→Xs A M2 h2 y:=fun y hy hx=>hx2 y hy (hXF y hx)
  have ne_g: ∀{b:Nat}{B:Blk},h'[b]? =some (some B)→M'[b]? =some (some g)→False:=by
   intro b B hb hm
   obtain⟨_,⟨k1,_⟩|⟨gg,cs',k1,k2,_⟩⟩:=R'.hr.blk b B hb
   ·rw[hm]at k1;cases k1
   rw[hm]at k1;injection k1 with k1;injection k1 with k1;subst k1;exact k2 hAgg
  have hHRF:HR A M' (h'.set ma.b (some ma.B)) w':=by
   refine⟨by rw[a1A];exact R'.hr.len,fun y hy=>R'.hr.alt y (by rw[hA'];exact .inl hy),fun b B hb=> ?_,fun b b' B B' gg hb hb' hm hm'=> ?_,R'.hr.glob.avoid fun y _ hx=>hXF y hx⟩
   ·rcases liveF hb with⟨rfl,rfl⟩|⟨_,hb'⟩
    ·refine⟨hone,.inr ⟨g,cs,hMb,hAg,.inr ⟨es,clock,hm1,hok,hlen⟩,by omega, ?_⟩⟩
     rw[hlen,a1p (by simp),hok.cells]
     exact VCells.lift (VCells.ext E2 (a1i _) (fun _ _ h=> .inr h) hXF2 _ _ (aG8 hclo _ _ _ _ hcs))
    obtain⟨k0,k1|⟨gg,cs',k1,k2,k3,k4,k5⟩⟩:=R'.hr.blk b B hb'
    ·exact⟨k0,.inl k1⟩
    exact⟨k0,.inr ⟨gg,cs',k1,fun hq=>k2 (by rw[hA'];exact .inl hq),k3,k4,VCells.avoid (fun y _ hx=>hXF y hx) k5⟩⟩
   rcases liveF hb with⟨rfl,rfl⟩|⟨_,hb1⟩<;>rcases liveF hb' with⟨rfl,rfl⟩|⟨_,hb2'⟩
   ·rfl
   ·rw[hMb]at hm;injection hm with hm;injection hm with hm;subst hm
    exact(ne_g hb2' hm').elim
   ·rw[hMb]at hm';injection hm' with hm';injection hm' with hm';subst hm'
    exact(ne_g hb1 hm).elim
   exact R'.hr.inj b b' B B' gg hb1 hb2' hm hm'
  have hRF:Rel A M' s' (h'.set ma.b (some ma.B)) a' w':=⟨hHRF,⟨R'.sr.len,fun t x hx=>VR.avoid (fun y _ hx=>hXF y hx) (R'.sr.val t x hx)⟩,R'.defers⟩
  have hlv: ∀y,y<w2.heap.size→cU M' (h'.set ma.b (some ma.B)) y→cU M2 h2 y:=by
   rintro y hy ⟨b,B,hb,hm⟩
   rcases liveF hb with⟨rfl,rfl⟩|⟨_,hb'⟩
   ·rw[hMb]at hm;injection hm with hm;injection hm with hm;subst hm
    exact⟨ma.b,ma.B,hb2,hMg⟩
   have:=G'.live y (by show y<(wB.heap.setIfInBounds r it).size;simp;omega) ⟨b,B,hb',hm⟩
   exact hLv2 y (hLv y this)
  have hGF:Grow A M0 h0 w0 M' (h'.set ma.b (some ma.B)) w':=by
   refine⟨?_,hHRF, ?_,fun y hy hl=>G2.live y hy (hlv y (a1c hy G2.ext.size) hl)⟩
   ·have:M0=M2.take N:=by
     obtain⟨tl,htl⟩:=G2.pre
     rw[←htl,←hM];simp
    rw[this];exact G'.pre
   refine⟨E2.os.trans G2.ext.os,⟨E2.tape.1.trans G2.ext.tape.1,a1s G2.ext.tape.2 E2.tape.2⟩,E2.output.trans G2.ext.output,a1s G2.ext.size E2.size,fun y hy hn=> ?_,fun y sh e=>E2.shape y sh (G2.ext.shape y sh e),fun y hy e=>E2.nshape y (a1c hy G2.ext.size) (G2.ext.nshape y hy e)⟩
   exact(E2.block y (a1c hy G2.ext.size) (fun hl=>hn (G2.live y hy hl))).trans (G2.ext.block y hy hn)
  exact⟨hGF,hRF⟩
 have fin: ∀{it:Obj}{M':List (Option Nat)}{h':Hp}{s':List V}{a':Act}{w':World}{v11:Value},aHM it=true→Grow A' (M2.take N) (h3.take N) (setBlock wB r it) M' h' w'→Rel A' M' s' h' a' w'→I r [] s' h'→Qf .normal ((a'.put (some t11) v11).put (some t12) (.bool false)) w':=by
  intro it M' h' s' a' w' v11 hit G' R' hI
  obtain⟨_,i2,_,_⟩:=hIs _ _ _ _ hI
  obtain⟨hGF,hRF⟩:=fin0 hit G' R' i2
  rw[←hQf]
  refine⟨.normal,_,_,M',rfl,hend r s' h' hI,hGF,⟨hRF.hr,SR.put (d:=some t12) (SR.put (d:=some t11) hRF.sr (by unfold VR;trivial)) (by unfold VR;rfl),by rw[nX,nX];exact hRF.defers⟩⟩
 have round: ∀(seen:Array Nat)(c0:Nat)(a':Act)(w':World)(s':List V)(h':Hp)(M':List (Option Nat))(NX:Act→World→Prop),clock≤c0→I r ((qI Z seen).map (·.1)) s' h'→
   Grow A' (M2.take N) (h3.take N) (setBlock wB r (.mapIter (some g) clock seen c0)) M' h' w'→Rel A' M' s' h' a' w'→
   (∀(z:(V×V)×MapEntry)(Z1 Z2:List ((V×V)×MapEntry))(a'':Act)(w'':World)(s'':List V)(h'':Hp)(M'':List (Option Nat)),qI Z seen=Z1++z::Z2→I r ((Z1++Z2).map (·.1)) s'' h''→
    Grow A' (M2.take N) (h3.take N) (setBlock wB r (.mapIter (some g) clock (seen.push z.2.born) clock)) M'' h'' w''→Rel A' M'' s'' h'' a'' w''→NX a'' w'')→
   (Code.seq (.region i3 #[oN,oX] false) (.seq (.cond (.tmp t12) .skip (.exit b0)) (.block b1 (.seq (.region i4 (oE::rest).toArray false) REST)))).wp P (Exit.then NX (Exit.inBlock b0 Qf)) a' w':=by
  intro seen c0 a' w' s' h' M' NX hc0 hI G' R' hnext
  obtain⟨it10,i2,l11,l12⟩:=hIs _ _ _ _ hI
  obtain⟨hm1,hm2⟩:=hmap G'
  have l11':t11<a'.tmps.size:=by rw[←R'.sr.len];exact l11
  have l12':t12<a'.tmps.size:=by rw[←R'.sr.len];exact l12
  have e10:a'.eval (.tmp t10)= .pointer (some ⟨r,0,none⟩):=by
   have:=R'.sr.val t10 _ it10
   unfold itV VR at this
   exact this
  have get11: ∀v,(a'.put (some t11) v).eval (.tmp t11)=v:=fun v=>by simp[Act.eval,Act.put,a1R,l11']
  have get12: ∀v u,((a'.put (some t11) v).put (some t12) u).eval (.tmp t12)=u:=fun v u=>by simp[Act.eval,Act.put,a1R,l12']
  have get10: ∀v u,((a'.put (some t11) v).put (some t12) u).eval (.tmp t10)= .pointer (some ⟨r,0,none⟩):=fun v u=>by
   rw[Act.eval_put (fun d hd e=>by injection hd with hd;injection e with e;exact ht.2 (hd.trans e.symm)),Act.eval_put (fun d hd e=>by injection hd with hd;injection e with e;exact ht.1 (hd.trans e.symm))]
   exact e10
  refine wp_seq (wp_region ?_)
  rw[show a1G (#[oN,oX]:Array Oper).size=[0,1]from rfl,wpOps_cons]
  have hz2:(leftOf es seen).toList=(qI Z seen).map (·.2):=aVM z2 seen
  rcases run_next_at (P:=P) w' oN.type r g clock c0 seen es clock hm2 hm1 hok.born hc0 with⟨hz,e1⟩|⟨e,he,w1,hw1,e1⟩
  ·have hemp:qI Z seen=[]:=by
    have:((qI Z seen).map (·.2)).length=0:=by rw[←hz2];simpa using hz
    exact a1K (by simpa using this)
   refine aDd (o:=oN) rfl hoN.2.2 (v:= .tuple #[.bool false]) (w':=w') (by simp[execOp,hoN.1,e10,e1]) ?_
   rw[hoN.2.1,wpOps_cons]
   refine aDd (o:=oX) rfl hoX.2.2 (v:= .bool false) (w':=w') (by simp[execOp,hoX.1,get11,Instr.extract]) ?_
   rw[hoX.2.1]
   refine wp_seq (wp_cond_false (get12 _ _) (wp_exit ?_))
   show Exit.inBlock b0 Qf (.exit b0) _ _
   simp only[Exit.inBlock,if_true]
   rw[hemp]at hI
   exact fin rfl G' R' hI
  rw[hz2]at he
  obtain⟨z,hzm,rfl⟩:=a1J.1 he
  obtain⟨Z1,Z2,hsp⟩:=List.append_of_mem hzm
  have hzZ:z∈Z:=(List.mem_filter.1 hzm).1
  have hzes:z.2∈es.toList:=by rw[←z2];exact a1J.2 ⟨z,hzZ,rfl⟩
  have G1:Grow A' (M2.take N) (h3.take N) (setBlock wB r (.mapIter (some g) clock seen c0)) M' h' w1:=by
   rcases hw1 with rfl|rfl
   ·exact G'
   exact G'.trans (Grow.drew G'.hr)
  have R1:Rel A' M' s' h' a' w1:=by
   rcases hw1 with rfl|rfl
   ·exact R'
   exact R'.drewR
  obtain⟨_,hm3⟩:=hmap G1
  have hbB:r<wB.heap.size:=by omega
  have G3:=G1.setIt (o:= .mapIter (some g) clock seen c0) (o':= .mapIter (some g) clock (seen.push z.2.born) clock) hAr (aDn hbB) rfl hm3 rfl
  rw[set_set]at G3
  have R3:Rel A' M' s' h' a' (setBlock w1 r (.mapIter (some g) clock (seen.push z.2.born) clock)):=R1.world (aLe hm3 rfl rfl) (fun y hy=>by rw[hy];exact hAr)
  obtain⟨hm4,hm5⟩:=hmap G3
  generalize setBlock w1 r (.mapIter (some g) clock (seen.push z.2.born) clock)=w3 at e1 G3 R3 hm4 hm5
  refine aDd (o:=oN) rfl hoN.2.2 (v:= .tuple #[.bool true,z.2.key,z.2.val]) (w':=w3) (by simp[execOp,hoN.1,e10,e1]) ?_
  rw[hoN.2.1,wpOps_cons]
  refine aDd (o:=oX) rfl hoX.2.2 (v:= .bool true) (w':=w3) (by simp[execOp,hoX.1,get11,Instr.extract]) ?_
  rw[hoX.2.1]
  refine wp_seq (wp_cond_true (get12 _ _) (wp_skip ?_))
  refine wp_block (wp_seq (wp_region ?_))
  have hsz2:a1G (oE::rest).toArray.size=0::a2m 1 rest.length:=by
   rw[a1t,a1x,a14,a2g]
  rw[hsz2,wpOps_cons]
  have he3:(Instr.entry (.pointer (some ⟨r,0,none⟩))).run P w3= .ok (.tuple #[z.2.key,z.2.val]) w3:=run_entry_at w3 r g clock seen es clock z.2 hm5 hm4 hzes hok.nd
  refine aDd (o:=oE) rfl hoE.2.2 (v:= .tuple #[z.2.key,z.2.val]) (w':=w3) (by simp[execOp,hoE.1,get10,he3]) ?_
  rw[hoE.2.1]
  have E3:=hE2 rfl G3
  have hx3:=hX2 rfl G3
  obtain⟨v1,v2⟩:=z3 z hzZ
  have hzm:z.1∈ma.es:=by rw[←z1];exact a1J.2 ⟨z,hzZ,rfl⟩
  obtain⟨c1,c2⟩:=hcl _ hzm
  have k1:VR (Xs A' M' h') M' w3 z.1.1 z.2.key:=VR.lift (VR.ext E3 (a1i _) (fun _ _ h=> .inr h) hx3 _ _ (c1 _ _ _ _ v1))
  have k2:VR (Xs A' M' h') M' w3 z.1.2 z.2.val:=VR.lift (VR.ext E3 (a1i _) (fun _ _ h=> .inr h) hx3 _ _ (c2 _ _ _ _ v2))
  have R4:Rel A' M' (((s'.set t11 .any).set t12 (.sc (.bool true))).set t13 (.tup [z.1.1,z.1.2])) h' (((a'.put (some t11) (.tuple #[.bool true,z.2.key,z.2.val])).put (some t12) (.bool true)).put (some t13) (.tuple #[z.2.key,z.2.val])) w3:=by
   refine⟨R3.hr,SR.put (d:=some t13) (SR.put (d:=some t12) (SR.put (d:=some t11) R3.sr (by unfold VR;trivial)) (by unfold VR;rfl)) ?_,by rw[nX,nX,nX];exact R3.defers⟩
   unfold VR
   exact⟨[z.2.key,z.2.val],rfl,by unfold VCells;exact⟨_,_,rfl,k1,by unfold VCells;exact⟨_,_,rfl,k2,by unfold VCells;rfl⟩⟩⟩
  rw[hsp,a1P,a1b]at hI
  refine hbody r _ _ _ _ _ hI 1 (fun j=>by simp[Nat.add_comm 1 j]) A' (M2.take N) M' (h3.take N) _ _ w3 _ lN lM G3 R4 fun s5 h5 M5 a5 w5 hab G5 R5=> ?_
  refine Code.wp_mono (fun ex a6 w6 ⟨x6,s6,h6,M6,hx6,hx8,G6,R6⟩=> ?_) (hab A' (M2.take N) M5 (h3.take N) _ a5 w5 lN lM G5 R5)
  subst hx6
  rcases hx8 with⟨hx7,hI6⟩|⟨rfl,i2,hQ6⟩
  ·rw[←a1P]at hI6
   have hN6:=hnext z Z1 Z2 a6 w6 s6 h6 M6 hsp hI6 G6 R6
   rcases hx7 with rfl|rfl
   ·exact hN6
   show Exit.inBlock b1 _ (.exit b1) a6 w6
   simp only[Exit.inBlock,if_true]
   exact hN6
  obtain⟨hGF,hRF⟩:=fin0 rfl G6 R6 i2
  show Qf _ a6 w6
  rw[←hQf]
  exact⟨.ret,_,_,M6,rfl,hQ6,hGF,hRF⟩
 have loop: ∀(n:Nat)(seen:Array Nat)(c0:Nat)(a':Act)(w':World)(s':List V)(h':Hp)(M':List (Option Nat)),(qI Z seen).length=n→clock≤c0→I r ((qI Z seen).map (·.1)) s' h'→
   Grow A' (M2.take N) (h3.take N) (setBlock wB r (.mapIter (some g) clock seen c0)) M' h' w'→Rel A' M' s' h' a' w'→
   Code.rounds P (.seq (.region i3 #[oN,oX] false) (.seq (.cond (.tmp t12) .skip (.exit b0)) (.block b1 (.seq (.region i4 (oE::rest).toArray false) REST)))) (Exit.inBlock b0 Qf) (n+1) a' w':=by
  intro n
  induction n with
  |zero=>
   intro seen c0 a' w' s' h' M' hn hc0 hI G' R'
   refine round seen c0 a' w' s' h' M' _ hc0 hI G' R' fun z Z1 Z2 a'' w'' s'' h'' M'' hsp _ _ _=> ?_
   rw[hsp]at hn
   simp at hn
  |succ n ih=>
   intro seen c0 a' w' s' h' M' hn hc0 hI G' R'
   refine round seen c0 a' w' s' h' M' _ hc0 hI G' R' fun z Z1 Z2 a'' w'' s'' h'' M'' hsp hI2 G'' R''=> ?_
   have hpu:=aSt hnd hsp
   refine ih (seen.push z.2.born) clock a'' w'' s'' h'' M'' ?_ (a18 _) (by rw[hpu];exact hI2) G'' R''
   rw[hpu]
   rw[hsp]at hn
   simp at hn⊢
   omega
 refine wp_block (wp_loop_rounds ((qI Z #[]).length+1) (loop _ #[] clock _ wB (s2.set t10 (itV r)) h3 M2 rfl (a18 _) ?_ ?_ hRel))
 ·have:(qI Z #[]).map (·.1)=ma.es:=by
   rw[←z1]
   congr 1
   unfold qI
   rw[a1Q]
   intro y _
   simp
  rw[this,hh3]
  exact hI0 r
 have:setBlock wB r (.mapIter (some g) clock #[] clock)=wB:=by
  unfold setBlock
  have:wB.heap.setIfInBounds r (.mapIter (some g) clock #[] clock)=wB.heap:=by
   apply Array.ext_getElem?
   intro j
   by_cases hj:r=j
   ·subst hj;rw[a1r (by omega),hrB]
   rw[a1H hj]
  rw[this]
 rw[this]
 exact hGrow
end
end Go.Vm
namespace Go.Vm
open Go
variable {P:Program}{f:FuncId}{h h':Hp}{r:V}{k:Nat}
theorem Fn.nilCases {es:List V}{nl:Option Bool}(hc:es≠ []→Fn P f h [.row nl k es] r h')(h1:es=[]→Fn P f h [.row (some true) 1 []] r h')
  (h2: ∀ad cap,es=[]→Fn P f h [.sc (.slice (some ad) 0 cap)] r h'):Fn P f h [.row nl k es] r h':=by
 intro A M w vs H hv
 by_cases he:es=[]
 ·have hv':=hv
  unfold VCells at hv'
  obtain⟨v,rest,rfl,hr,ht⟩:=hv'
  subst he
  unfold VR at hr
  obtain⟨a,cap,rfl,hcap,hn,_,_,_⟩:=hr
  cases a with
  |none=>
   refine h1 rfl A M w _ H ?_
   unfold VCells
   refine⟨_,_,rfl, ?_,ht⟩
   unfold VR
   obtain rfl:=hn rfl
   exact⟨none,0,rfl,a18 _,fun _=>rfl,fun b hb=>by cases hb;exact rfl,by simp,by simp⟩
  |some ad=>
   refine h2 ad cap rfl A M w _ H ?_
   unfold VCells
   refine⟨_,_,rfl, ?_,ht⟩
   unfold VR
   rfl
 exact hc he A M w vs H hv
theorem V.emptyRow {X:Nat→Prop}{M:List (Option Nat)}{w:World}{ad:Addr}{cap k:Nat}{v:Value}(hv:VR X M w (.sc (.slice (some ad) 0 cap)) v):VR X M w (.row none k []) v:=by
 unfold VR at hv⊢
 subst hv
 exact⟨some ad,cap,rfl,Nat.zero_le _,(fun h=>by cases h),(fun b hb=>by cases hb),by simp,by simp⟩
theorem Ghost.sc0 {N n t k:Nat}{fr:List (Nat×V)}{h:Hp}{ad:Addr}{cap:Nat}(h0:eN fr t=some (.sc (.slice (some ad) 0 cap))):Ghost N (aG n fr) h (aG n [(t,.row none k [])]) h:=fun A M a w _ R=>
 ⟨M,rfl,⟨R.hr,aH8 R.sr (fun u y hy=>by
  simp only[eN]at hy
  cases hb:a11 t u with
  |false=>rw[hb]at hy;cases hy
  |true=>
   rw[hb]at hy
   obtain rfl:=a12 hb
   injection hy with hy
   subst hy
   exact⟨_,h0,fun v hv=>V.emptyRow hv⟩),R.defers⟩,fun _ hl=>hl⟩
section
variable {P:Program}{t e:TypeId}{sz by_:Nat}{z:Value}{xo yo:Operand}
theorem aUU {k:Nat}{x:V}{xs:List V}(ht:aK P t=some ⟨.slice e,sz,by_,z⟩):c5 P .eql t xo yo (.row none k (x::xs)) (.row (some true) 1 [])=some (eB false):=by
 simp only[c5,eJ,aNv,ht,aKS]
 rfl
theorem aXS {k:Nat}{α:Type}{E:α→V}{l:List α}(hl:l≠ [])(ht:aK P t=some ⟨.slice e,sz,by_,z⟩):c5 P .eql t xo yo (.row none k (l.map E)) (.row (some true) 1 [])=some (eB false):=by
 cases l with
 |nil=>exact absurd rfl hl
 |cons a l=>exact aUU ht
theorem aYb {ad:Addr}{n cap:Nat}(ht:aK P t=some ⟨.slice e,sz,by_,z⟩):c5 P .eql t xo yo (.sc (.slice (some ad) n cap)) (.row (some true) 1 [])=some (eB false):=by
 show Option.map ofValue (aS P (do pure (Value.bool (←Op.equal t _ _))))=_
 rw[aAF _ _ (nil_eq ht ad n cap)];rfl
theorem aXM (ht:aK P t=some ⟨.slice e,sz,by_,z⟩):aS P (Op.equal t (.slice none 0 0) (.slice none 0 0))=some true:=by
 have h1:=(cI ht).1
 have e1:underlying t=Sem.program fun p=>match p.underlying t with|some d=>pure d|none=>stuck "no such type" :=rfl
 unfold Op.equal Op.maxDepth
 show aS P (Op.equalIn (9999+1) t _ _)=_
 rw[Op.equalIn,e1]
 show aS P (Sem.bind (Sem.program _) _)=_
 simp only[Sem.bind,aS,h1]
 rfl
theorem aWT (ht:aK P t=some ⟨.slice e,sz,by_,z⟩):c5 P .eql t xo yo (.row (some true) 1 []) (.row (some true) 1 [])=some (eB true):=by
 show Option.map ofValue (aS P (do pure (Value.bool (←Op.equal t _ _))))=_
 rw[aAF _ _ (aXM ht)];rfl
end
def mall {α:Type}(f:α→Option Bool):List α→Option Bool
 | []=>some true
 |x::l=>(f x).bind fun a=>(mall f l).bind fun b=>some (a&&b)
theorem aQ0 {α:Type}{f:α→Option Bool}: ∀{l:List α}{q:Bool},mall f l=some q→ ∀x∈l,∃b,f x=some b∧(q=true→b=true)
 |y::l,q,h,x,hx=>by
  unfold mall at h
  obtain⟨a,ha,h⟩:=a1C.1 h
  obtain⟨b,hb,h⟩:=a1C.1 h
  obtain rfl:=a1j h
  rcases a1X.1 hx with rfl|hx
  ·exact⟨a,ha,fun h=>(a15.1 h).1⟩
  obtain⟨c,hc,hc'⟩:=aQ0 hb x hx
  exact⟨c,hc,fun h=>hc' (a15.1 h).2⟩
theorem aOi {α:Type}{f:α→Option Bool}: ∀{l:List α}{q:Bool},mall f l=some q→(∀x∈l,f x=some true)→q=true
 | [],q,h,_=>(a1j h).symm
 |y::l,q,h,hx=>by
  unfold mall at h
  rw[hx y (by simp),Option.bind_some]at h
  obtain⟨b,hb,h⟩:=a1C.1 h
  obtain rfl:=a1j h
  rw[aOi hb fun x h=>hx x (by simp[h])];rfl
section
variable {P:Program}{N:Nat}
theorem AB.gpost {c:Code}{Q:Ex→List V→Hp→Prop}{s:List V}{h:Hp}(hh:AB P N c (fun e s h=> ∃s' h',Ghost N s h s' h'∧Q e s' h') s h):AB P N c Q s h:=by
 intro A M0 M h0 w0 a w hN hM G R
 refine Code.wp_mono (fun e a' w' ⟨x,s1,h1,M1,he,⟨s2,h2,hg,hq⟩,G1,R1⟩=> ?_) (hh A M0 M h0 w0 a w hN hM G R)
 obtain⟨t,ht⟩:=G1.pre
 have hle:N≤M1.length:=by rw[←ht];simp[hM]
 obtain⟨M2,e1,R2,l2⟩:=hg A M1 a' w' hle R1
 refine⟨x,s2,h2,M2,he,hq,⟨?_,R2.hr,G1.ext,fun g hg hl=>G1.live g hg (l2 g hl)⟩,R2⟩
 have:M0=M2.take N:=by rw[e1,←ht,←hM];simp
 rw[this]
 exact a2h _ _
theorem OpsX.hide {ops:Array Oper}{l:List Oper}{s:List V}{h:Hp}{K:List V→Hp→Prop}(hh: ∀K':List V→Hp→Prop,(∀s h,K s h→K' s h)→OpsX P N none ops l s h (Ex.then K' (fun _ _ _=>False) .normal)):OpsW P N ops l s h K:=hh K fun _ _ k=>k
theorem OpsW.mono {ops:Array Oper}{l:List Oper}{s:List V}{h:Hp}{K K':List V→Hp→Prop}(hh:OpsW P N ops l s h K)(hk: ∀s h,K s h→K' s h):OpsW P N ops l s h K':=fun k hl A M0 M h0 w0 a w Q hN hM G R hQ=>
 hh k hl A M0 M h0 w0 a w Q hN hM G R fun s' h' M' a' w' hq=>hQ s' h' M' a' w' (hk s' h' hq)
theorem tZ {n t:Nat}{fr:List (Nat×V)}{x:V}:(aG n fr).set t x=aG n ((t,x)::fr):=aDa
theorem AB.mall {α β:Type}{eq:α→α→Bool}{KV:α→V}{CK:α→List V}{CV:β→List V}{VE:β→V}{C:α×β→List V}{z:β}{ec:Nat}
  {i2 i3 i4 b0 b1:Nat} {pre rest:List Oper} {REST:Code} {oR oN oX oE:Oper} {t9 t10 t11 t12 t13:Tmp} {mt:TypeId} [M:MpC P mt α β eq KV CK CV VE C z ec]
  (hoR:oR.op= .range mt (.tmp t9)∧oR.dst=some t10∧oR.guard=none) (hoN:oN.op= .next (.tmp t10) false∧oN.dst=some t11∧oN.guard=none)
  (hoX:oX.op= .extract (.tmp t11) 0∧oX.dst=some t12∧oX.guard=none) (hoE:oE.op= .entry (.tmp t10)∧oE.dst=some t13∧oE.guard=none) (ht:t11≠t10∧t12≠t10)
  {s:List V} {h:Hp} {n b:Nat} {fr:List (Nat×V)} (frR:List (Nat×V)) {l:List (α×β)} {f:α×β→Option Bool} {q:Bool} {Q:Ex→List V→Hp→Prop} (k0:α)
  (hM:Go.Vm.mall f l=some q) (hpre:PreW P h.length (pre++[oR]).toArray pre.length pre s h fun s' h'=>s'=aG n fr∧h'=h)
  (hn:t10<n∧t11<n∧t12<n∧t9<n) (hx:eN fr t9=some (.mp b)) (hb:h[b]? =some (some ⟨ec,l.flatMap C⟩)) (hc: ∀x,(C x).all aHU=true)
  (body: ∀e∈l,∀bb,f e=some bb→(q=true→bb=true)→ ∀r,OpsW P h.length (oE::rest).toArray rest (aG n ((t13,.tup [KV e.1,VE e.2])::(t12,.sc (.bool true))::(t11,.any)::(t10,itV r)::fr)) (h.set b none)
   fun s' h'=>AB P h.length REST (fun x s'' h''=> ∃s3 h3,Ghost h.length s'' h'' s3 h3∧((bb=true∧(x= .normal∨x= .exit b1)∧s3=aG n ((t10,itV r)::fr)∧h3=h.set b none)∨(bb=false∧x= .ret∧s3=aG n frR∧h3=h.set b none))) s' h')
  (ret:q=false→Q .ret (aG n frR) h)
  (fin:q=true→ ∀r,Q .normal (aG n ((t12,.sc (.bool false))::(t11,.any)::(t10,itV r)::fr)) h):
  AB P N (.seq (.region i2 (pre++[oR]).toArray false) (.block b0 (.loop (.seq (.region i3 #[oN,oX] false) (.seq (.cond (.tmp t12) .skip (.exit b0)) (.block b1 (.seq (.region i4 (oE::rest).toArray false) REST))))))) Q s h:=by
 have hbl:b<h.length:=(a1f.1 hb).1
 refine AB.sub (AB.mrange hoR hoN hoX hoE ht hpre ?_)
 rintro s2 h2 ⟨rfl,rfl⟩
 have he0:(h2.set b none).set b (some ⟨ec,l.flatMap C⟩)=h2:=by
  rw[List.set_set]
  apply a2d
  intro j
  by_cases hj:b=j
  ·subst hj;rw[a1d hbl,hb]
  rw[a1m hj]
 obtain⟨m,hm,_⟩:=MpC.at_ (k:=k0) (l:=l) (b:=b) (h:=h2) M hb
 refine⟨⟨m,b,⟨ec,l.flatMap C⟩,l.map fun x=>(KV x.1,VE x.2)⟩,.mp b,fun r rs s h=> ∃(done ents:List (α×β)),rs=ents.map (fun x:α×β=>(KV x.1,VE x.2))∧(done++ents).Perm l∧(∀e∈done,f e=some true)∧s=aG n ((t10,itV r)::fr)∧h=h2.set b none, ?_,hm,hbl, ?_, ?_, ?_, ?_, ?_, ?_⟩
 ·rw[s7 hn.2.2.2,hx];rfl
 ·intro b' B' hb' h
  rw[a1I hb']at h
  cases h
 ·intro c hc'
  obtain⟨x,_,hx⟩:=List.mem_flatMap.1 hc'
  have:=a1n.1 (hc x) c hx
  exact fun X M w v hv=>aHv this hv
 ·exact fun r=>⟨[],l,rfl,by simp,by simp,tZ,rfl⟩
 ·rintro r rs s h ⟨done,ents,_,_,_,rfl,rfl⟩
  refine⟨(s7 hn.1).trans (by simp[eN]),by rw[a1d hbl],by rw[lS];exact hn.2.1,by rw[lS];exact hn.2.2.1⟩
 ·rintro r rs1 y rs2 s h ⟨done,ents,he,hp,hd,rfl,rfl⟩
  obtain⟨e1,e2',rfl,h1,h3⟩:=List.map_eq_append_iff.1 he.symm
  obtain⟨en,e2,rfl,h4,h5⟩:=List.map_eq_cons_iff.1 h3
  subst h1 h4 h5
  have hmem:en∈l:=hp.mem_iff.1 (by simp)
  obtain⟨bb,hbb,hq⟩:=aQ0 hM en hmem
  have hp':((done++[en])++(e1++e2)).Perm l:=by
   refine List.Perm.trans ?_ hp
   rw[a1u]
   exact List.Perm.append_left _ (List.perm_middle (l₁:=e1)).symm
  rw[tZ,tZ,tZ]
  refine OpsW.mono (body en hmem bb hbb hq r) fun s' h' hab=>AB.gpost (AB.mono hab fun x s'' h'' ⟨s3,h3,hg,hc⟩=>⟨s3,h3,hg, ?_⟩)
  rcases hc with⟨hb1,hx,rfl,rfl⟩|⟨hb1,rfl,rfl,rfl⟩
  ·refine .inl ⟨hx,done++[en],e1++e2,by rw[a1P],hp',fun e he=> ?_,rfl,rfl⟩
   rcases List.mem_append.1 he with h|h
   ·exact hd e h
   rw[a1S.1 h,hbb,hb1]
  refine .inr ⟨rfl,a1d hbl, ?_⟩
  rw[he0]
  refine ret ?_
  cases hqq:q with
  |false=>rfl
  |true=>rw[hq hqq]at hb1;cases hb1
 rintro r s h ⟨done,ents,he,hp,hd,rfl,rfl⟩
 obtain rfl:ents=[]:=List.map_eq_nil_iff.1 he.symm
 rw[a2k]at hp
 have hq:=aOi hM fun x hx=>hd x (hp.mem_iff.2 hx)
 rw[tZ,tZ]
 rw[he0]
 exact fin hq r
end
end Go.Vm
