/- Texts of ours, joined. -/
import Derived.Test.YtopdhljncajmpaaGreatDoorQC2
import Derived.Scope
open Nat renaming le_of_ble_eq_true → a1K,ble → a1Q,beq → a2h,sub_add_cancel → a2i,zero_add → a2m
open List renaming map_cons → a1L,getElem?_eq_getElem → a1N,replicate → a1P,getD_eq_getElem?_getD → a1R,all_eq_true → a1S,findIdx?_eq_some_iff_getElem → a1T,getElem?_cons_zero → a1V,drop_eq_nil_of_le → a1W,take_of_length_le → a1X,flatMap_cons → a1Y,getElem?_map → a1Z,append_assoc → a10,length_take → a11,nil_append → a13,length_map → a14,length_append → a15,drop_zero → a16,size_toArray → a17,all_cons → a19,drop_append → a2a,getElem?_eq_none → a2c,range → a2d,getElem?_set_ne → a2e,getElem?_range → a2f,map_congr_left → a2g,mem_singleton → a2l,length_cons → a2n,length_drop → a2o,take_append → a2p,drop_left' → a2q,take_left' → a2r,length_set → a2s
open Option.some renaming injEq → a1M,inj → a1U
open Bool renaming and_eq_true → a1O,false_eq_true → a2j,true_and → a2k
open Int renaming le_refl → a12
open Option renaming isSome_iff_exists → a18,map_some → a2b
open Go.Vm.Conv renaming rowK → a2t
set_option linter.unusedSimpArgs false
set_option linter.unusedVariables false
namespace Go.Vm
open Go
instance :Inhabited MT:=⟨⟨0,0,⟨.bool,0,0,default⟩,⟨.bool,0,0,default⟩⟩⟩
section
variable {P:Program}{t:TypeId}{L:List TypeDesc}{ti:TI}{xo yo:Operand}{d:Nat}
theorem aNH (hg:P.eqGuardType P.depth t=false){bo:BinOp}(hbo:bo= .eql∨bo= .neq)(a b:Array Value):aS P (eqGuard bo t xo yo (.agg a) (.agg b))=some ():=by
 unfold eqGuard
 rcases hbo with rfl|rfl<;>
 ·show aS P (if(!P.eqGuardType P.depth t)=true then pure ()else _)=some ()
  rw[hg];rfl
theorem aK8 (ht:aM P t=some ti)(hag:cB ti.desc=true)(hf:u7 P d t=some L)(hd:d≤10000){xs ys:List Value}(ox:e9 L xs=true)(oy:e9 L ys=true):aS P (Op.equal t (.agg xs.toArray) (.agg ys.toArray))=some (fB xs ys):=by
 have:=((tV d ht hf).2 (10000-d) ox).1 oy
 simp only[mkT,hag,if_true]at this
 rw[a2i hd]at this
 exact this
theorem uQ (ht:aM P t=some ti)(hag:cB ti.desc=true)(hf:u7 P d t=some L)(hd:d≤10000)(hg:P.eqGuardType P.depth t=false){cs ds:List V}{xs ys:List Value}{r:Bool}(hx:cs.mapM dB=some xs)(hy:ds.mapM dB=some ys)(ox:e9 L xs=true)(oy:e9 L ys=true)(hr:fB xs ys=r):
  dC P .eql t xo yo (.agg cs) (.agg ds)=some (.sc (.bool r)):=by
 simp only[dC,eN,hx,hy,a2b,pureV]
 rw[bN _ _ (aNH hg (.inl rfl) _ _)]
 have:aS P (binOp .eql t (.agg xs.toArray) (.agg ys.toArray))=some (.bool (fB xs ys)):=sQ _ _ (aK8 ht hag hf hd ox oy)
 rw[this,hr];rfl
theorem aJu (ht:aM P t=some ti)(hag:cB ti.desc=true)(hf:u7 P d t=some L)(hd:d≤10000)(hg:P.eqGuardType P.depth t=false){cs ds:List V}{xs ys:List Value}{r:Bool}(hx:cs.mapM dB=some xs)(hy:ds.mapM dB=some ys)(ox:e9 L xs=true)(oy:e9 L ys=true)(hr:fB xs ys=r):
  dC P .neq t xo yo (.agg cs) (.agg ds)=some (.sc (.bool (!r))):=by
 simp only[dC,eN,hx,hy,a2b,pureV]
 rw[bN _ _ (aNH hg (.inr rfl) _ _)]
 have:aS P (binOp .neq t (.agg xs.toArray) (.agg ys.toArray))=some (.bool (!(fB xs ys))):=sQ _ (fun b=>Value.bool !b) (aK8 ht hag hf hd ox oy)
 rw[this,hr];rfl
end
structure aHy (P:Program)(kt:TypeId){α:Type}(VK:α→Value)(eq:α→α→Bool):Prop where
 equal: ∀a b,aS P (Op.equal kt (VK a) (VK b))=some (eq a b)
 check: ∀e a,aS P (Instr.checkKey e 10000 kt (VK a))=some ()
 stays: ∀a b,eq a b=true→Instr.sameBits 10000 (VK b) (VK a)=true
theorem aWk {a b:ByteArray}(h:(a == b)=true):a=b:=by
 obtain⟨a⟩:=a
 obtain⟨b⟩:=b
 have h':(a == b)=true:=h
 rw[eq_of_beq h']
theorem aSl : ∀(n:Nat){L:List TypeDesc}{xs ys:List Value},e9 L xs=true→e9 L ys=true→fB xs ys=true→(ys.zip xs).all (fun(x,y)=>Instr.sameBits n x y)=true
 |n,[],[],[],_,_,_=>rfl
 |n,d::L,x::xs,y::ys,hx,hy,h=>by
  simp only[fB,a1O]at h
  have key:e9 L xs=true∧e9 L ys=true∧Instr.sameBits n y x=true:=by
   cases d<;>cases x<;>simp only[e9,a2j,a1O,decide_eq_true_eq]at hx<;>cases y<;>simp only[e9,a2j,a1O,decide_eq_true_eq]at hy<;>simp only[aLS,beq_iff_eq]at h
   ·exact⟨hx,hy,by cases n<;>simp[Instr.sameBits,h.1]⟩
   ·refine⟨hx.2,hy.2, ?_⟩
    have h1:=hx.1.symm.trans hy.1
    cases n<;>simp[Instr.sameBits,h.1,h1]
   refine⟨hx,hy, ?_⟩
   have h1:=aWk h.1
   subst h1
   cases n<;>exact h.1
  simp only[List.zip_cons_cons,a19,key.2.2,a2k]
  exact aSl n key.1 key.2.1 h.2
 |n,[],_::_,_,hx,_,_=>by simp[e9]at hx
 |n,[],[],_::_,_,hy,_=>by simp[e9]at hy
 |n,d::L,[],_,hx,_,_=>by cases d<;>simp[e9]at hx
 |n,d::L,_::_,[],_,hy,_=>by cases d<;>simp[e9]at hy
theorem aI8 {P:Program}{kt:TypeId}{L:List TypeDesc}{ti:TI}{d:Nat}{α:Type}{xs:α→List Value}{eq:α→α→Bool}(ht:aM P kt=some ti)(hag:cB ti.desc=true)(hf:u7 P d kt=some L)(hd:d≤10000)(ok: ∀a,e9 L (xs a)=true)(heq: ∀a b,fB (xs a) (xs b)=eq a b):
  aHy P kt (fun a=> .agg (xs a).toArray) eq:=by
 refine⟨fun a b=>by rw[←heq];exact aK8 ht hag hf hd (ok a) (ok b),fun e a=> ?_,fun a b h=> ?_⟩
 ·have:=((tV d ht hf).2 (10000-d) (ok a)).2 e
  simp only[mkT,hag,if_true]at this
  rw[a2i hd]at this
  exact this
 have h1:=aSl 9999 (ok a) (ok b) (by rw[heq];exact h)
 have hl:(xs b).length=(xs a).length:=by rw[kE (ok a),kE (ok b)]
 show Instr.sameBits (9999+1) _ _=true
 simp only[Instr.sameBits,a17,hl,beq_self_eq_true,a2k]
 exact h1
def kA {α β:Type}(eq:α→α→Bool)(l:List (α×β))(k:α):Option Nat:=l.findIdx? fun e=>eq k e.1
def pC {α β:Type}(eq:α→α→Bool)(l:List (α×β))(k:α)(z:β):β:=match kA eq l k with
 |some i=>((l[i]?).map (·.2)).getD z
 |none=>z
def tW {α β:Type}(eq:α→α→Bool)(l:List (α×β))(k:α):Bool:=(kA eq l k).isSome
def aAa {α β:Type}(eq:α→α→Bool)(l:List (α×β))(k:α)(v:β):List (α×β):=match kA eq l k with
 |some i=>l.set i (k,v)
 |none=>l++[(k,v)]
theorem aOM {α β:Type}(f:α→β): ∀(l:List α)(i:Nat),(l.eraseIdx i).map f=(l.map f).eraseIdx i
 | [],_=>rfl
 |_::_,0=>rfl
 |x::l,i+1=>congrArg (f x:: ·) (aOM f l i)
def aMU {α β:Type}(eq:α→α→Bool)(l:List (α×β))(k:α):List (α×β):=match kA eq l k with
 |some i=>l.eraseIdx i
 |none=>l
section
variable {P:Program}{kt:TypeId}{α β:Type}{VK:α→Value}{eq:α→α→Bool}{KV:α→V}{CK:α→List V}{CV:β→List V}{VE:β→V}{C:α×β→List V}{K L:Nat}{l:List (α×β)}{k:α}{v:β}
theorem aRi (hC: ∀e,C e=CK e.1++CV e.2)(hl: ∀a,(CK a).length=c6 K)(hv: ∀b,(CV b).length=c6 L)(hm: ∀b,aEz L (CV b)=VE b)(hk: ∀a,aEz K (CK a)=KV a): ∀l:List (α×β),aBY K L l.length (l.flatMap C)=l.map fun e=>(KV e.1,VE e.2)
 | []=>rfl
 |e::l=>by
  have e1:(e::l).flatMap C=CK e.1++(CV e.2++l.flatMap C):=by rw[a1Y,hC];simp
  simp only[a2n,aBY,e1]
  have d1:(CK e.1++(CV e.2++l.flatMap C)).drop (c6 K)=CV e.2++l.flatMap C:=a2q (hl _)
  have d2:(CK e.1++(CV e.2++l.flatMap C)).drop (c6 K+c6 L)=l.flatMap C:=by rw[←List.drop_drop,d1];exact a2q (hv _)
  rw[a2r (hl _),d1,a2r (hv _),hm,hk,d2,aRi hC hl hv hm hk l,a1L]
theorem aND (hC: ∀e,C e=CK e.1++CV e.2)(hk: ∀a,(KV a).cells=CK a)(hc: ∀b,(VE b).cells=CV b)(l:List (α×β)):aDX (l.map fun e=>(KV e.1,VE e.2))=l.flatMap C:=by
 simp only[aDX,List.flatMap_map,hk,hc]
 exact congrArg (fun f=>List.flatMap f l) (funext fun e=>(hC e).symm)
theorem aPn (hC: ∀e,C e=CK e.1++CV e.2)(hl: ∀a,(CK a).length=c6 K)(hv: ∀b,(CV b).length=c6 L): ∀l:List (α×β),(l.flatMap C).length=l.length*(c6 K+c6 L)
 | []=>by simp
 |e::l=>by rw[a1Y,a15,aPn hC hl hv l,hC];simp[hl,hv,Nat.add_mul];omega
theorem aOL (hv: ∀a,eN (KV a)=some (VK a)): ∀l:List (α×β),(l.map fun e=>(KV e.1,VE e.2)).mapM (fun e=>eN e.1)=some (l.map fun e=>VK e.1)
 | []=>rfl
 |e::l=>by simp only[a1L,List.mapM_cons,hv,aOL hv l];rfl
theorem aPi (hk:aHy P kt VK eq)(k:α): ∀l:List (α×β),pE P kt (VK k) (l.map fun e=>VK e.1)=some (kA eq l k)
 | []=>rfl
 |e::l=>by
  simp only[a1L,pE,hk.equal,kA,List.findIdx?_cons]
  cases eq k e.1 with
  |true=>rfl
  |false=>
   have:=aPi hk k l
   simp only[kA]at this
   simp[this]
end
class MpC (P:Program) (t:TypeId) (α β:outParam Type) (eq:outParam (α→α→Bool)) (KV:outParam (α→V)) (CK:outParam (α→List V)) (CV:outParam (β→List V)) (VE:outParam (β→V)) (C:outParam (α×β→List V)) (z:outParam β) (e:outParam Nat):Prop where
 h: ∃(m:MT)(K L:Nat)(VK:α→Value),r6 P t=some m∧m.code=e∧lV m.dk=K∧lV m.de=L∧(∀a,aEz K (CK a)=KV a)∧aHy P m.kt VK eq∧(∀a,eN (KV a)=some (VK a))∧(∀x,C x=CK x.1++CV x.2)∧(∀a,(CK a).length=c6 K)∧(∀b,(CV b).length=c6 L)∧(∀b,aEz L (CV b)=VE b)∧(∀b,(VE b).cells=CV b)∧(∀b,aI3 L (VE b)=true)∧(∀a,(KV a).cells=CK a∧aI3 K (KV a)=true)∧(ofValue m.de.zero).softA=VE z
section
variable {P:Program}{t:TypeId}{α β:Type}{eq:α→α→Bool}{KV:α→V}{CK:α→List V}{CV:β→List V}{VE:β→V}{C:α×β→List V}{z:β}{e:Nat}{l:List (α×β)}{k:α}{v:β}{h h':Hp}{b:Nat}
theorem MpC.at_ (M:MpC P t α β eq KV CK CV VE C z e)(hb:h[b]? =some (some ⟨e,l.flatMap C⟩)): ∃m:MT,zB P t h (.mp b)=some ⟨m,b,⟨e,l.flatMap C⟩,l.map fun x=>(KV x.1,VE x.2)⟩∧aI3 (lV m.dk) (KV k)=true∧(∀b,aI3 (lV m.de) (VE b)=true)∧(ofValue m.de.zero).softA=VE z∧(∃VK:α→Value,aCQ P m.kt (l.map fun x=>(KV x.1,VE x.2)) (KV k)=some (VK k,l.map (fun x=>VK x.1),kA eq l k)∧ ∀a b,eq a b=true→Instr.sameBits 10000 (VK b) (VK a)=true)∧(∀b,(VE b).cells=CV b)∧(∀x,C x=CK x.1++CV x.2)∧ ∀a,(KV a).cells=CK a:=by
 obtain⟨m,K,L,VK,h1,h2,h3,h4,h0,hk,hv,hC,hl,hvl,hm,hc,hs,ho,hz⟩:=M.h
 subst h2 h3 h4
 refine⟨m, ?_,(ho k).2,hs,hz,⟨VK, ?_,hk.stays⟩,hc,hC,fun a=>(ho a).1⟩
 ·simp only[zB,h1,hb,if_true,aPn hC hl hvl]
  rw[Nat.mul_div_cancel _ (by have:=aHA (lV m.dk);omega),aRi hC hl hvl hm h0]
 simp only[aCQ,hv,aOL hv,hk.check,aPi hk]
theorem MpC.lk (M:MpC P t α β eq KV CK CV VE C z e)(hb:h[b]? =some (some ⟨e,l.flatMap C⟩))(ok:Bool):vI P t h (.mp b) (KV k) ok=some (if ok then .tup [VE (pC eq l k z),eB (tW eq l k)]else VE (pC eq l k z)):=by
 obtain⟨m,h1,h2,h3,hz,⟨VK,h4,h5⟩,hc,hC,_⟩:=M.at_ (k:=k) hb
 simp only[vI,h1,h4,pC,tW]
 cases hf:kA eq l k with
 |none=>simp[hz]
 |some i=>
  have hi:i<l.length:=(a1T.1 hf).1
  simp[hi]
theorem MpC.up (M:MpC P t α β eq KV CK CV VE C z e)(hb:h[b]? =some (some ⟨e,l.flatMap C⟩)):aOt P t h (.mp b) (KV k) (VE v)=some (h.set b (some ⟨e,(aAa eq l k v).flatMap C⟩)):=by
 obtain⟨m,h1,h2,h3,hz,⟨VK,h4,h5⟩,hc,hC,ha⟩:=M.at_ (k:=k) hb
 simp only[aOt,h1,h2,h3,Bool.and_self,if_true,h4,aAa]
 cases hf:kA eq l k with
 |none=>simp only[List.flatMap_append,a1Y,List.flatMap_nil,hC,ha,hc,List.append_nil]
 |some i=>
  obtain⟨hi,hp,_⟩:=a1T.1 hf
  have hst:aNy (l.map fun x=>VK x.1) i (VK k)=true:=by
   simp only[aNy,a1Z,a1N hi,a2b,Option.any_some]
   exact h5 _ _ hp
  simp only[hst,if_true]
  rw[←aND hC ha hc (l.set i (k,v)),List.map_set]
theorem MpC.dl (M:MpC P t α β eq KV CK CV VE C z e)(hb:h[b]? =some (some ⟨e,l.flatMap C⟩)):aQp P t h (.mp b) (KV k)=some (h.set b (some ⟨e,(aMU eq l k).flatMap C⟩)):=by
 obtain⟨m,h1,h2,h3,hz,⟨VK,h4,h5⟩,hc,hC,ha⟩:=M.at_ (k:=k) hb
 simp only[aQp,h1,h4,aMU]
 cases hf:kA eq l k with
 |none=>rfl
 |some i=>simp only;rw[←aND hC ha hc (l.eraseIdx i),aOM]
end
theorem aUn {P:Program}{kt:TypeId}{ti:TI}(ht:aM P kt=some ti)(hag:cB ti.desc=false)(hf:u7 P 1 kt=some [.string]):aHy P kt (fun a:ByteArray=> .string a) (fun a b=>a == b):=by
 have e: ∀a,mkT ti [.string a]= .string a:=fun a=>by simp[mkT,hag]
 refine⟨fun a b=> ?_,fun w a=> ?_,fun a b h=> ?_⟩
 ·have:=((tV 1 ht hf).2 9999 (xs:=[.string a]) rfl).1 (ys:=[.string b]) rfl
  rw[e,e]at this
  have h2:fB [Value.string a] [Value.string b]=(a == b):=by simp[fB,aLS]
  rw[h2]at this
  exact this
 ·have:=((tV 1 ht hf).2 9999 (xs:=[.string a]) rfl).2 w
  rw[e]at this
  exact this
 have:=aWk h
 subst this
 exact h
def aBp (cs:List V):List Value:=(cs.mapM dB).getD []
section
variable {P:Program}{O:wF}{n:Nat}{fr:List (Nat×V)}{h h':Hp}{ty:TypeId}{pos:String}{aft:Array Edge}{v:V}{d:Option Tmp}{g:Option (Nat×Bool)}{x y z:Operand}{a b c:V}{t:TypeId}
theorem aXH {m:MT}{i e:Nat}(hm:r6 P t=some m)(he:m.code=e)(hl:h.length=i)(hh:h++[some ⟨e,[]⟩]=h'):bR P O ⟨d,.makeMap t none,ty,pos,aft,g⟩ (aG n fr) h=some (.mp i,h'):=by
 subst hl hh he
 simp[bR,aJQ,hm]
theorem aYe {ok:Bool}(hx:bX n fr x=some a)(hy:bX n fr y=some b)(hv:vI P t h a b ok=some v):bR P O ⟨d,.lookup t x y ok,ty,pos,aft,g⟩ (aG n fr) h=some (v,h):=by simp[bR,cV hx,cV hy,hv]
theorem a0I (hx:bX n fr x=some a)(hy:bX n fr y=some b)(hz:bX n fr z=some c)(hv:aOt P t h a b c=some h'):bR P O ⟨d,.mapUpdate t x y z,ty,pos,aft,g⟩ (aG n fr) h=some (.sc undef,h'):=by simp[bR,cV hx,cV hy,cV hz,hv]
end
theorem aCq {E:Int→V}{n:Nat}{l:List Int}(h:l.length=n):(a2d n).map (fun i=>E (l.getD i 0))=l.map E:=by
 apply List.ext_getElem?
 intro i
 simp only[a1Z,List.getElem?_range']
 by_cases hi:i<n
 ·rw[a2f hi,a1N (by omega)]
  simp[a1R,a1N (show i<l.length by omega)]
 rw[a2c (by simpa using hi),a2c (by omega)];rfl
theorem aUv {n:Nat}{a b:List Int}(ha:a.length=n)(hb:b.length=n):(a2d n).all (fun i=>a.getD i 0 == b.getD i 0)=(a == b):=by
 rw[Bool.eq_iff_iff]
 simp only[a1S,List.mem_range,beq_iff_eq]
 constructor
 ·intro h
  apply List.ext_getElem (by omega)
  intro i h1 h2
  have:=h i (by omega)
  simpa[a1R,a1N h1,a1N h2]using this
 rintro rfl i _;rfl
theorem aJF {P:Program}{t:TypeId}{ps ps':List (Nat×V)}{v:V}(h:ps=ps')(hb:u3 P t ps'=some v):u3 P t ps=some v:=by rw[h];exact hb
def eG (E:Int→V)(l:List Int)(r:List V):List V:=E (l.getD 0 0)::E (l.getD 1 0)::E (l.getD 2 0)::E (l.getD 3 0)::r
theorem aXz {E:Int→V}{l:List Int}(h:l.length=4)(r:List V):eG E l r=l.map E++r:=by
 rw[←aCq h];rfl
theorem aSC {E:Int→V}{l:List Int}(h:l.length=4):eG E l []=l.map E:=by rw[aXz h];simp
theorem aXp {f:Nat→Nat}{k:IntKind}{l:List Int}{r:List V}:V.rns f (eG (eI k) l r)=eG (eI k) l (V.rns f r):=rfl
theorem aXj {vn:Nat→Bool}{E:Int→V}{l:List Int}{r r':List V}(hr:V.les vn r r'):V.les vn (eG E l r) (eG E l r'):=by
 unfold eG
 repeat (first|exact hr|refine V.les_cons (V.le_refl _ _) ?_)
theorem aXa {h h':Hp}{E:Int→V}{l:List Int}{r r':List V}(hE: ∀x,Conv h h' (E x) (E x))(hr:Convs h h' r r'):Convs h h' (eG E l r) (eG E l r'):=by
 unfold eG
 repeat (first|exact hr|refine Convs.cons (hE _) ?_)
def ar8 (E:Int→V)(l:List Int)(r:List V):List V:=E (l.getD 0 0)::E (l.getD 1 0)::E (l.getD 2 0)::E (l.getD 3 0)::E (l.getD 4 0)::E (l.getD 5 0)::E (l.getD 6 0)::E (l.getD 7 0)::r
theorem aX8 {E:Int→V}{l:List Int}(h:l.length=8)(r:List V):ar8 E l r=l.map E++r:=by
 rw[←aCq h];rfl
theorem aX0 {E:Int→V}{l:List Int}(h:l.length=8):ar8 E l []=l.map E:=by rw[aX8 h];simp
theorem aW4 {f:Nat→Nat}{k:IntKind}{l:List Int}{r:List V}:V.rns f (ar8 (eI k) l r)=ar8 (eI k) l (V.rns f r):=rfl
def aMG (E:Int→V)(l:List Int)(r:List V):List V:=E (l.getD 0 0)::E (l.getD 1 0)::E (l.getD 2 0)::E (l.getD 3 0)::E (l.getD 4 0)::E (l.getD 5 0)::E (l.getD 6 0)::E (l.getD 7 0)::E (l.getD 8 0)::E (l.getD 9 0)::E (l.getD 10 0)::E (l.getD 11 0)::E (l.getD 12 0)::E (l.getD 13 0)::E (l.getD 14 0)::E (l.getD 15 0)::E (l.getD 16 0)::E (l.getD 17 0)::E (l.getD 18 0)::E (l.getD 19 0)::r
theorem aUI {E:Int→V}{l:List Int}(h:l.length=20)(r:List V):aMG E l r=l.map E++r:=by
 rw[←aCq h];rfl
theorem aVE {E:Int→V}{l:List Int}(h:l.length=20):aMG E l []=l.map E:=by rw[aUI h];simp
theorem aU9 {f:Nat→Nat}{k:IntKind}{l:List Int}{r:List V}:V.rns f (aMG (eI k) l r)=aMG (eI k) l (V.rns f r):=rfl
def aN (E:Int→V)(l:List Int)(r:List V):List V:=E (l.getD 0 0)::E (l.getD 1 0)::E (l.getD 2 0)::E (l.getD 3 0)::E (l.getD 4 0)::E (l.getD 5 0)::E (l.getD 6 0)::E (l.getD 7 0)::E (l.getD 8 0)::E (l.getD 9 0)::E (l.getD 10 0)::E (l.getD 11 0)::E (l.getD 12 0)::E (l.getD 13 0)::E (l.getD 14 0)::E (l.getD 15 0)::E (l.getD 16 0)::E (l.getD 17 0)::E (l.getD 18 0)::E (l.getD 19 0)::E (l.getD 20 0)::E (l.getD 21 0)::E (l.getD 22 0)::E (l.getD 23 0)::E (l.getD 24 0)::E (l.getD 25 0)::E (l.getD 26 0)::E (l.getD 27 0)::E (l.getD 28 0)::E (l.getD 29 0)::E (l.getD 30 0)::E (l.getD 31 0)::r
theorem xY {E:Int→V}{l:List Int}(h:l.length=32)(r:List V):aN E l r=l.map E++r:=by
 rw[←aCq h];rfl
theorem dJ {E:Int→V}{l:List Int}(h:l.length=32):aN E l []=l.map E:=by rw[xY h];simp
theorem a0E {P:Program}{E:Int→V}{l:List Int}{t:TypeId}{h h':Hp}{a:V}(q:l.length=32)(hp:lZ P t h a (.agg (aN E l []))=some h'):lZ P t h a (.agg (l.map E))=some h':=by rw[←dJ q];exact hp
theorem aVM {f:Nat→Nat}{k:IntKind}{l:List Int}{r:List V}:V.rns f (aN (eI k) l r)=aN (eI k) l (V.rns f r):=rfl
theorem aMu {vn:Nat→Bool}{E:Int→V}{l:List Int}{r r':List V}(hr:V.les vn r r'):V.les vn (aN E l r) (aN E l r'):=by
 unfold aN
 repeat (first|exact hr|refine V.les_cons (V.le_refl _ _) ?_)
theorem aUR {h h':Hp}{E:Int→V}{l:List Int}{r r':List V}(hE: ∀x,Conv h h' (E x) (E x))(hr:Convs h h' r r'):Convs h h' (aN E l r) (aN E l r'):=by
 unfold aN
 repeat (first|exact hr|refine Convs.cons (hE _) ?_)
def iU (a b:List Int)(r:Bool):Bool:=((a.getD 0 0 == b.getD 0 0)&&((a.getD 1 0 == b.getD 1 0)&&((a.getD 2 0 == b.getD 2 0)&&((a.getD 3 0 == b.getD 3 0)&&((a.getD 4 0 == b.getD 4 0)&&((a.getD 5 0 == b.getD 5 0)&&((a.getD 6 0 == b.getD 6 0)&&((a.getD 7 0 == b.getD 7 0)&&((a.getD 8 0 == b.getD 8 0)&&((a.getD 9 0 == b.getD 9 0)&&((a.getD 10 0 == b.getD 10 0)&&((a.getD 11 0 == b.getD 11 0)&&((a.getD 12 0 == b.getD 12 0)&&((a.getD 13 0 == b.getD 13 0)&&((a.getD 14 0 == b.getD 14 0)&&((a.getD 15 0 == b.getD 15 0)&&((a.getD 16 0 == b.getD 16 0)&&((a.getD 17 0 == b.getD 17 0)&&((a.getD 18 0 == b.getD 18 0)&&((a.getD 19 0 == b.getD 19 0)&&((a.getD 20 0 == b.getD 20 0)&&((a.getD 21 0 == b.getD 21 0)&&((a.getD 22 0 == b.getD 22 0)&&((a.getD 23 0 == b.getD 23 0)&&((a.getD 24 0 == b.getD 24 0)&&((a.getD 25 0 == b.getD 25 0)&&((a.getD 26 0 == b.getD 26 0)&&((a.getD 27 0 == b.getD 27 0)&&((a.getD 28 0 == b.getD 28 0)&&((a.getD 29 0 == b.getD 29 0)&&((a.getD 30 0 == b.getD 30 0)&&((a.getD 31 0 == b.getD 31 0)&&r))))))))))))))))))))))))))))))))
theorem aO4 {a b:List Int}(ha:a.length=32)(hb:b.length=32)(r:Bool):iU a b r=((a == b)&&r):=by
 have e:iU a b r=((a2d 32).all (fun i=>a.getD i 0 == b.getD i 0)&&r):=by
  simp only[iU,show a2d 32=[0,1,2,3,4,5,6,7,8,9,10,11,12,13,14,15,16,17,18,19,20,21,22,23,24,25,26,27,28,29,30,31]from rfl,a19,List.all_nil,Bool.and_assoc,a2k,Bool.and_true]
 rw[e,aUv ha hb]
def aMH (E:Int→V)(l:List Int)(r:List V):List V:=E (l.getD 0 0)::E (l.getD 1 0)::E (l.getD 2 0)::E (l.getD 3 0)::E (l.getD 4 0)::E (l.getD 5 0)::E (l.getD 6 0)::E (l.getD 7 0)::E (l.getD 8 0)::E (l.getD 9 0)::E (l.getD 10 0)::E (l.getD 11 0)::E (l.getD 12 0)::E (l.getD 13 0)::E (l.getD 14 0)::E (l.getD 15 0)::E (l.getD 16 0)::E (l.getD 17 0)::E (l.getD 18 0)::E (l.getD 19 0)::E (l.getD 20 0)::E (l.getD 21 0)::E (l.getD 22 0)::E (l.getD 23 0)::E (l.getD 24 0)::E (l.getD 25 0)::E (l.getD 26 0)::E (l.getD 27 0)::E (l.getD 28 0)::E (l.getD 29 0)::E (l.getD 30 0)::E (l.getD 31 0)::E (l.getD 32 0)::E (l.getD 33 0)::E (l.getD 34 0)::E (l.getD 35 0)::E (l.getD 36 0)::E (l.getD 37 0)::E (l.getD 38 0)::E (l.getD 39 0)::E (l.getD 40 0)::E (l.getD 41 0)::E (l.getD 42 0)::E (l.getD 43 0)::E (l.getD 44 0)::E (l.getD 45 0)::E (l.getD 46 0)::E (l.getD 47 0)::E (l.getD 48 0)::E (l.getD 49 0)::E (l.getD 50 0)::E (l.getD 51 0)::E (l.getD 52 0)::E (l.getD 53 0)::E (l.getD 54 0)::E (l.getD 55 0)::E (l.getD 56 0)::E (l.getD 57 0)::E (l.getD 58 0)::E (l.getD 59 0)::E (l.getD 60 0)::E (l.getD 61 0)::E (l.getD 62 0)::E (l.getD 63 0)::r
theorem aVv {E:Int→V}{l:List Int}(h:l.length=64)(r:List V):aMH E l r=l.map E++r:=by
 rw[←aCq h];rfl
theorem aUW {E:Int→V}{l:List Int}(h:l.length=64):aMH E l []=l.map E:=by rw[aVv h];simp
theorem aVH {f:Nat→Nat}{k:IntKind}{l:List Int}{r:List V}:V.rns f (aMH (eI k) l r)=aMH (eI k) l (V.rns f r):=rfl
theorem aTV {P:Program}(k:IntKind)(n:Int):unV P .neg (.sc (.int k n))=some (.sc (.int k (k.wrap (0-n)))):=rfl
theorem aFH {P:Program}{k:IntKind}(hk:k.signed=false)(n:Int):unV P .xor (.sc (.int k n))=some (.sc (.int k (bits .xor k k.max n))):=by
 cases k<;>first|rfl|cases hk
def mkl {α:Type}(by_:Nat)(z:α)(n c:Int):Option (List α):=if 0<n∧n≤c∧c.toNat*by_≤lim then some (a1P n.toNat z)else none
theorem mkL {k1 k2:IntKind}{P:Program}{h h':Hp}{t e:TypeId}{ti:TI}{i:Nat}{α:Type}{E:α→V}{sz by_:Nat}{z:Value}{ag:Bool}{j c:Int}{y:α}(ht:aM P t=some ⟨.slice e,sz,by_,z⟩)(he:aM P e=some ti)(h1:1≤ti.bytes∧ti.size=1∧ti.zero.cells.size=1)(hz:ti.zero.cells.toList.map (V.soft∘dY)=[E y])(ho:(E y).one=true)(hag:cB ti.desc=ag){r:List α}
  (hm:mkl ti.bytes y j c=some r) (hl:h.length=i) (hh:h++[some ⟨e,r.map E⟩]=h'):aCv P t (.sc (.int k1 j)) (.sc (.int k2 c)) h=some (.sl i 0 r.length 1 ag,h'):=by
 obtain⟨h2,h3,h4⟩:=h1
 unfold mkl at hm
 split at hm
 ·rename_i hlim
  injection hm with hm
  subst hm hl hh hag
  simp only[aCv,ht,he]
  rw[if_pos ⟨by omega,hlim.2.1,hlim.2.2,h2,by omega,by rw[h4,h3],by rw[hz];simp[ho]⟩,hz,if_neg (by omega)]
  simp only[h3]
  have: ∀n,(a1P n [E y]).flatten=(a1P n y).map E:=fun n=>by
   induction n with
   |zero=>rfl
   |succ n ih=>simp only[List.replicate_succ,List.flatten_cons,ih,a1L];rfl
  rw[this];simp
 cases hm
theorem zl {a b:Nat} (h:Nat.ble a b=true:=by rfl):a≤b:=Nat.le_of_ble_eq_true h
theorem zR {p:Prop} (h:p:=by first|rfl|(simp only[V.rn,V.rns,aAo,aAn]<;>rfl)):p:=h
section
variable {P:Program}{ops:Array Oper}{l:List Oper}{n N:Nat}{fr:List (Nat×V)}{h h':Hp}{K:List V→Hp→Prop}{op:Op}{ty:TypeId}{pos:String}{aft:Array Edge}{t:Nat}{v a b:V}{x y:Operand}{d:Option Tmp}{g:Option (Nat×Bool)}{s s':List V}{Q:Ex→List V→Hp→Prop}
theorem zw (hd:bR P O0 ⟨some t,op,ty,pos,aft,none⟩ (aG n fr) h=some (v,h'))(k:OpsW P N ops l (aG n ((t,v)::fr)) h' K):OpsW P N ops (⟨some t,op,ty,pos,aft,none⟩::l) (aG n fr) h K:=wS (sv hd) k
end
theorem zG {N n:Nat}{fr fr':List (Nat×V)}{h h':Hp}(σ:List Nat)
  (hf:FLe wP (V.rn (sg σ h.length)) fr fr':=by repeat (first|exact FLe.nil|refine FLe.same rfl ?_|refine FLe.le rfl V.le_nil ?_|refine FLe.le rfl V.le_row ?_|refine FLe.le rfl (V.le_arr (fun _=>rfl)) ?_))
  (hh:HLe (sg σ h.length) h σ h':=by repeat (first|exact HLe.nil|refine HLe.dead ?_|refine HLe.live rfl V.les_nil rfl ?_|refine HLe.live rfl (aFL (fun _=>rfl) _) (all_map (fun _=>rfl) _) ?_|refine HLe.live rfl (aAX (fun _=>rfl) _) (hY (fun _=>rfl) _) ?_|refine HLe.live rfl (V.les_refl _ _) rfl ?_))
  (hσ:σ.take N=List.range N:=by rfl) (hlt:σ.all (fun b=>Nat.blt b h.length)=true:=by rfl) (hnd:ndB (lvs σ h')=true:=by rfl):Ghost N (aG n fr) h (aG n fr') h':=Ghost.rn σ hσ hlt hf hh hnd
def aOj {α:Type}(l:List α)(a c:Int):Option (List α):=if 0≤a∧a<c∧c≤l.length then some ((l.take c.toNat).drop a.toNat)else none
theorem aOT {α:Type}{l x:List α}{a c:Int}(h:aOj l a c=some x):0≤a∧a<c∧c≤l.length∧x=(l.take c.toNat).drop a.toNat∧x.length=c.toNat-a.toNat:=by
 unfold aOj at h
 split at h
 ·rename_i hc
  injection h with h
  refine⟨hc.1,hc.2.1,hc.2.2,h.symm, ?_⟩
  rw[←h,a2o,a11];omega
 cases h
section
variable {P:Program}{h h':Hp}{t e:TypeId}{ti:TI}{α:Type}{E:α→V}{l x m:List α}{sz by_ b:Nat}{z:Value}{ag:Bool}{lo hi:Option V}{a c j:Int}{y:α}{k:IntKind}{N n i q K:Nat}
theorem aWN (hq:l.length=q)(ht:aM P t=some ⟨.slice e,sz,by_,z⟩)(he:aM P e=some ti)(hK:ti.size=K)(h1:nG lo=some 0)(h2:yG hi q=some c)(hs:sub l 0 c=some x):jV P t h (.sl b 0 q K ag) lo hi=some (.sl b 0 x.length K ag):=by
 subst hK hq
 unfold sub at hs
 split at hs
 ·rename_i hc
  injection hs with hs
  have hl:x.length=c.toNat:=by rw[←hs];simp;omega
  simp only[jV,ht,he,h1,h2]
  rw[if_pos ⟨trivial,by omega,hc.2.1,hc.2.2⟩,if_pos trivial,hl]
 cases hs
theorem aZB (ht:aM P t=some ⟨.array N e,sz,by_,z⟩)(he:aM P e=some ti)(hsz:ti.size=1)(hag:cB ti.desc=ag)(hb:h[b]? =some (some ⟨i,l.map E⟩))(hl:l.length=N)(hN:N≤lim)(h1:nG lo=some a)(h2:yG hi N=some c)(hs:aOj l a c=some x):jV P t h (.ptr b 0) lo hi=some (.sl b (a.toNat*1) x.length 1 ag):=by
 subst hag
 obtain⟨s1,s2,s3,s4,s5⟩:=aOT hs
 simp only[jV,ht,he,h1,h2,hb]
 rw[if_pos ⟨by omega,hN,s1,s2,by omega,by simp[hsz,hl]⟩,hsz,s5,a2m]
theorem aYW (hb:h[b]? =some (some ⟨i,l.map E⟩))(hE: ∀x,(E x).one=true)(hs:aOj l a c=some x):fM h 1 (.sl b (a.toNat*1) x.length 1 ag)=some (x.map E,x.length):=by
 obtain⟨s1,s2,s3,s4,s5⟩:=aOT hs
 simp only[fM,hb,Nat.mul_one]
 rw[if_pos (by simp;omega)]
 simp only[a1M,Prod.mk.injEq,and_true]
 rw[s5,s4,List.map_drop,List.map_take,List.drop_take]
end
theorem Ghost.cut {N n:Nat}{fr:List (Nat×V)}{h:Hp}{b e t q K k:Nat}{ag:Bool}{cs:List V}(hl:bX n fr (.tmp t)=some (.sl b 0 q K ag))(hb:h[b]? =some (some ⟨e,cs⟩)):Ghost N (aG n fr) h (aG n fr) (h.set b (some ⟨e,cs.take k⟩)):=by
 intro A M a w hN R
 have hbl:b<h.length:=(List.getElem?_eq_some_iff.1 hb).1
 have hget: ∀{j:Nat}{B:Blk},(h.set b (some ⟨e,cs.take k⟩))[j]? =some (some B)→(j=b∧B=⟨e,cs.take k⟩)∨(h[j]? =some (some B)∧j≠b):=by
  intro j B hj
  by_cases hij:b=j
  ·subst hij
   rw[List.getElem?_set_self hbl]at hj
   exact .inl ⟨rfl,(a1U (a1U hj)).symm⟩
  rw[a2e hij]at hj
  exact .inr ⟨hj,fun hh=>hij hh.symm⟩
 have hlive: ∀g,c8 M (h.set b (some ⟨e,cs.take k⟩)) g→c8 M h g:=by
  rintro g ⟨j,B,hj,hm⟩
  rcases hget hj with⟨rfl,_⟩|⟨h1,_⟩
  ·exact⟨j,_,hb,hm⟩
  exact⟨j,B,h1,hm⟩
 have hX: ∀g,Xs A M (h.set b (some ⟨e,cs.take k⟩)) g→Xs A M h g:=fun g hx=>hx.elim .inl (fun hl=> .inr (hlive g hl))
 refine⟨M,rfl,⟨⟨by rw[R.hr.len,a2s],R.hr.alt, ?_, ?_,R.hr.glob.avoid fun g _ hx=>hX g hx⟩,⟨R.sr.len,fun t x hx=>(R.sr.val t x hx).avoid (fun g _ hx=>hX g hx)⟩,R.defers⟩,hlive⟩
 ·intro j B hj
  rcases hget hj with⟨rfl,rfl⟩|⟨h1,hne⟩
  ·obtain⟨hone,hcase⟩:=R.hr.blk j _ hb
   refine⟨fun c hc=>hone c (List.mem_of_mem_take hc), ?_⟩
   rcases hcase with⟨hn,hc0⟩|⟨g,ds,hg,hA,hw,hle,hcs⟩
   ·simp only at hc0
    subst hc0
    exact .inl ⟨hn,by simp⟩
   refine .inr ⟨g,ds,hg,hA, ?_,by simp only[a11]at hle ⊢; omega, ?_⟩
   ·rcases hw with hw|⟨es,clock,hm,hok,heq⟩
    ·exact .inl hw
    exfalso
    have hev:=cV hl
    simp only[ev]at hev
    have hv:=R.sr.val t (.sl j 0 q K ag) hev
    unfold VR at hv
    rcases hv with⟨hm0,_⟩|⟨g',cap,e',sz,hm',_,_,_,_,hshp,_⟩
    ·rw[hg]at hm0;cases hm0
    rw[hg]at hm'
    obtain rfl:=a1U (a1U hm')
    unfold World.shape? at hshp
    rw[hm]at hshp
    cases hshp
   have:=hcs.take k
   rw[List.take_take]at this
   simp only[a11]
   exact this.avoid (fun g _ hx=>hX g hx)
  obtain⟨hone,hcase⟩:=R.hr.blk j B h1
  refine⟨hone, ?_⟩
  rcases hcase with hn|⟨g,ds,hg,hA,hw,hle,hcs⟩
  ·exact .inl hn
  exact .inr ⟨g,ds,hg,hA,hw,hle,hcs.avoid (fun g _ hx=>hX g hx)⟩
 intro i j B C g hi hj mi mj
 have f: ∀{j:Nat}{B:Blk},(h.set b (some ⟨e,cs.take k⟩))[j]? =some (some B)→ ∃B0,h[j]? =some (some B0):=by
  intro j B hj
  rcases hget hj with⟨e1,_⟩|⟨e1,_⟩
  ·exact⟨_,by rw[e1];exact hb⟩
  exact⟨_,e1⟩
 obtain⟨B1,h1⟩:=f hi
 obtain⟨C1,k1⟩:=f hj
 exact R.hr.inj i j B1 C1 g h1 k1 mi mj
section
variable {N n b e t q K:Nat}{fr:List (Nat×V)}{h h':Hp}{ag:Bool}{α:Type}{E:α→V}{C:α→List V}{l x:List α}{c:Int}
theorem a0n {α:Type}{l:List α}:sub l 0 0=some []:=by
 unfold sub
 rw[if_pos ⟨a12 _,a12 _,by omega⟩]
 rfl
theorem Ghost.cutM (hl:bX n fr (.tmp t)=some (.sl b 0 q 1 ag))(hb:h[b]? =some (some ⟨e,l.map E⟩))(hs:sub l 0 c=some x)(hh:h.set b (some ⟨e,x.map E⟩)=h'):Ghost N (aG n fr) h (aG n fr) h':=by
 subst hh
 unfold sub at hs
 split at hs
 ·injection hs with hs
  have:x.map E=(l.map E).take c.toNat:=by rw[←hs,←List.map_take];simp
  rw[this]
  exact Ghost.cut hl hb
 cases hs
theorem Ghost.cutF (hC: ∀x,(C x).length=K)(hl:bX n fr (.tmp t)=some (.sl b 0 q K ag))(hb:h[b]? =some (some ⟨e,l.flatMap C⟩))(hs:sub l 0 c=some x)(hh:h.set b (some ⟨e,x.flatMap C⟩)=h'):Ghost N (aG n fr) h (aG n fr) h':=by
 subst hh
 unfold sub at hs
 split at hs
 ·injection hs with hs
  have:x.flatMap C=(l.flatMap C).take (c.toNat*K):=by rw[←hs];simp only[Int.toNat_zero,a16];exact(aO3 hC _ _).symm
  rw[this]
  exact Ghost.cut hl hb
 cases hs
end
abbrev CA4 (E:Int→V)(x:List Int):List V:=eG E x []
abbrev dQ (E:Int→V)(x:List Int):List V:=aN E x []
@[simp] theorem aX4 {f:Nat→Nat}{k:IntKind}(l:List (List Int)):V.rns f (l.flatMap (CA4 (eI k)))=l.flatMap (CA4 (eI k)):=cY (fun _=>rfl) l
@[simp] theorem aVU {f:Nat→Nat}{k:IntKind}(l:List (List Int)):V.rns f (l.flatMap (dQ (eI k)))=l.flatMap (dQ (eI k)):=cY (fun _=>rfl) l
theorem aA3 {k:IntKind}(l:List Int):V.softA (.agg (l.map (eI k)))= .agg (l.map (eI k)):=by
 simp only[V.softA,List.map_map]
 rfl
theorem aJL {P:Program}{t:TypeId}{n:Nat}{ps ps':List (Nat×V)}{h:Hp}{r:V×Hp}(e:ps=ps')(hb:gJ P t n ps' h=some r):gJ P t n ps h=some r:=by rw[e];exact hb
theorem Conv.rowKA {C:List Int→List V}{E:Int→V}{K:Nat}{l:List (List Int)}(hC: ∀x,(C x).length=K)(h1K: ∀x,(C x).all V.one=true)(hsh: ∀x,(C x).all V.shut=true)(hcx: ∀x∈l,C x=x.map E){h h':Hp}(hs:Sub h h'){b n:Nat}{e:TypeId}(hb:h[b]? =some (some ⟨e,l.flatMap C⟩))(hb':h'[b]? =some none)(hn:n=l.length):Conv h h' (.sl b 0 n K true) (.row none K (l.map (eA E))):=by
 have:=a2t hC h1K hsh hs hb hb' hn
 rwa[show(l.map fun x=>V.agg (C x))=l.map (eA E)from a2g fun x hx=>by rw[hcx x hx]]at this
def aM8 (x y c:Int):Option (Int×Int):=if c.toNat≤1 then some ((((x.toNat+y.toNat+c.toNat)%18446744073709551616:Nat):Int),(((x.toNat+y.toNat+c.toNat)/18446744073709551616:Nat):Int))else none
def aNj (x y c:Int):Option (Int×Int):=if c.toNat≤1 then some ((((x.toNat+18446744073709551616-y.toNat-c.toNat)%18446744073709551616:Nat):Int),((if x.toNat<y.toNat+c.toNat then 1 else 0:Nat):Int))else none
def aZA :Array Value→Sem Value:=(Extern.MathBitsCarry.rows.get ⟨0,by decide⟩).2
def aYF :Array Value→Sem Value:=(Extern.MathBitsCarry.rows.get ⟨1,by decide⟩).2
theorem aVt {P:Program} {f:FuncId} {fn:Func} (hf:P.funcs[f]? =some fn) (hn:(fn.name == "runtime.NumGoroutine")=false) (hb:fn.body.isNone=true) (h1:Extern.findNext fn=none) (h2:Extern.find fn=some aZA) {x y c:Int} {r:Int×Int} (hr:aM8 x y c=some r):Fn P f [] [eI .u64 x,eI .u64 y,eI .u64 c] (.tup [eI .u64 r.1,eI .u64 r.2]) []:=by
 unfold aM8 at hr
 split at hr
 ·rename_i hc
  injection hr with hr
  subst hr
  refine aQX hf hn hb h1 h2 fun X M w vs hv=> ?_
  unfold VCells at hv
  obtain⟨v,rest,rfl,hv,hr⟩:=hv
  unfold VCells at hr
  obtain⟨u,rest,rfl,hu,hr⟩:=hr
  unfold VCells at hr
  obtain⟨z,rest,rfl,hz,hr⟩:=hr
  unfold VCells at hr
  subst hr
  unfold VR at hv hu hz
  subst hv hu hz
  have hgt: ¬c.toNat>1:=by omega
  refine⟨.tuple #[.int .u64 (((x.toNat+y.toNat+c.toNat)%18446744073709551616:Nat):Int),.int .u64 (((x.toNat+y.toNat+c.toNat)/18446744073709551616:Nat):Int)], ?_, ?_⟩
  ·match c,hgt with
   | .ofNat 0,_=>rfl
   | .ofNat 1,_=>rfl
   | .ofNat (k+2),hgt=>exact absurd (show(Int.ofNat (k+2)).toNat>1 by simp;omega) hgt
   | .negSucc k,_=>rfl
  unfold VR
  exact⟨_,rfl,by unfold VCells;exact⟨_,_,rfl,by unfold VR;rfl,by unfold VCells;exact⟨_,_,rfl,by unfold VR;rfl,by unfold VCells;rfl⟩⟩⟩
 cases hr
theorem aV3 {P:Program} {f:FuncId} {fn:Func} (hf:P.funcs[f]? =some fn) (hn:(fn.name == "runtime.NumGoroutine")=false) (hb:fn.body.isNone=true) (h1:Extern.findNext fn=none) (h2:Extern.find fn=some aYF) {x y c:Int} {r:Int×Int} (hr:aNj x y c=some r):Fn P f [] [eI .u64 x,eI .u64 y,eI .u64 c] (.tup [eI .u64 r.1,eI .u64 r.2]) []:=by
 unfold aNj at hr
 split at hr
 ·rename_i hc
  injection hr with hr
  subst hr
  refine aQX hf hn hb h1 h2 fun X M w vs hv=> ?_
  unfold VCells at hv
  obtain⟨v,rest,rfl,hv,hr⟩:=hv
  unfold VCells at hr
  obtain⟨u,rest,rfl,hu,hr⟩:=hr
  unfold VCells at hr
  obtain⟨z,rest,rfl,hz,hr⟩:=hr
  unfold VCells at hr
  subst hr
  unfold VR at hv hu hz
  subst hv hu hz
  have hgt: ¬c.toNat>1:=by omega
  refine⟨.tuple #[.int .u64 (((x.toNat+18446744073709551616-y.toNat-c.toNat)%18446744073709551616:Nat):Int),.int .u64 ((if x.toNat<y.toNat+c.toNat then 1 else 0:Nat):Int)], ?_, ?_⟩
  ·match c,hgt with
   | .ofNat 0,_=>rfl
   | .ofNat 1,_=>rfl
   | .ofNat (k+2),hgt=>exact absurd (show(Int.ofNat (k+2)).toNat>1 by simp;omega) hgt
   | .negSucc k,_=>rfl
  unfold VR
  exact⟨_,rfl,by unfold VCells;exact⟨_,_,rfl,by unfold VR;rfl,by unfold VCells;exact⟨_,_,rfl,by unfold VR;rfl,by unfold VCells;rfl⟩⟩⟩
 cases hr
theorem sj {α:Type}{a b:α}(h:some a=some b):a=b:=a1U h
section
variable {P:Program}{ops:Array Oper}{l:List Oper}{n N:Nat}{fr:List (Nat×V)}{h h' h1:Hp}{K:List V→Hp→Prop}{op:Op}{ty:TypeId}{pos:String}{aft:Array Edge}{t:Nat}{v c d:V}{x y z:Operand}{Q:Ex→List V→Hp→Prop}{ty' u:TypeId}
variable {j w:Nat}{want b:Bool}
theorem zg (hc:b=want)(hd:bR P O0 ⟨some t,op,ty,pos,aft,some (j,want)⟩ (aG n fr) h=some (v,h'))(q:OpsW P N ops l (aG n ((t,v)::fr)) h' K) (hj:(ops[j]?).bind (·.dst)=some w:=by rfl) (hl:bX n fr (.tmp w)=some (.sc (.bool b)):=by rfl):OpsW P N ops (⟨some t,op,ty,pos,aft,some (j,want)⟩::l) (aG n fr) h K:=wS (svG hj hl hc hd) q
theorem AB.loopM {P:Program}{N n:Nat}{c:Code}{Q:Ex→List V→Hp→Prop}{s:List V}{h:Hp}(I:Nat→List V→Hp→Prop)(h0:I n s h)(round: ∀n s h,I (n+1) s h→AB P N c (Ex.then (I n) Q) s h) (r0: ∀s h,¬I 0 s h:=by(intro s h h0;repeat (first|(obtain⟨e,_⟩:=h0;cases e;done)|(obtain⟨_,h0⟩:=h0)))):AB P N (.loop c) Q s h:=AB.loopN I h0 r0 round
theorem zk {co:Operand}{X Y:Code}{α:Type}{A B:Option α}{r:α}(hr:(if b=true then A else B)=some r)(g1:b=true→A=some r→AB P N X Q (aG n fr) h)(g2:b=false→B=some r→AB P N Y Q (aG n fr) h) (hc:bX n fr co=some (.sc (.bool b)):=by rfl):AB P N (.cond co X Y) Q (aG n fr) h:=AB.cnd hc (fun e=>g1 e (rQ hr e)) (fun e=>g2 e (sP hr e))
theorem zf {f:FuncId} {fn:Func} {co:Code} {args:List V} {r:V} (hf:P.funcs[f]? =some fn) (hnt:fn.ntmps=n) (hh:AB P N co (aCG P fn N r h') (aG n fr) h) (hb:fn.body=some co:=by rfl) (hn:(fn.name == "runtime.NumGoroutine")=false:=by kernel_rfl) (hal:args.length≤n:=by exact zl) (hN:h.length=N:=by rfl) (hfr:num 0 args=fr:=by(simp only[num,Nat.reduceAdd,Nat.zero_add]<;>rfl)):Fn P f h args r h':=aTa hf hb hn hnt hal hN hfr hh
variable {F G:FuncId→Bool}{m:Nat}{listed:Array Bool}{s:List V}{o:Oper}{s1:List V}
end
section
variable {P:Program}{fn:Func}{n N:Nat}{fr:List (Nat×V)}{h h':Hp}{r a b c:V}{t u w:Nat}
theorem zd1 (hr:fn.results= #[.tmp t])(σ:List Nat) (hx:bX n fr (.tmp t)=some a:=by rfl) (hf:FLe wP (V.rn (sg σ h.length)) [(0,a)] [(0,r)]:=by repeat (first|exact FLe.nil|refine FLe.same rfl ?_|refine FLe.le rfl V.le_nil ?_|refine FLe.le rfl V.le_row ?_|refine FLe.le rfl (V.le_arr (fun _=>rfl)) ?_)) (hh:HLe (sg σ h.length) h σ h':=by repeat (first|exact HLe.nil|refine HLe.dead ?_|refine HLe.live rfl V.les_nil rfl ?_|refine HLe.live rfl (aFL (fun _=>rfl) _) (all_map (fun _=>rfl) _) ?_|refine HLe.live rfl (aAX (fun _=>rfl) _) (hY (fun _=>rfl) _) ?_|refine HLe.live rfl (V.les_refl _ _) rfl ?_)) (hσ:σ.take N=List.range N:=by rfl) (hlt:σ.all (fun b=>Nat.blt b h.length)=true:=by rfl) (hnd:ndB (lvs σ h')=true:=by rfl):aCG P fn N r h' .ret (aG n fr) h:=aF0 (aQg hr (rvT hx)) (Ghost.rn σ hσ hlt hf hh hnd)
end
def OpsG (P:Program)(F G:FuncId→Bool)(ops:Array Oper):List Oper→List V→Hp→(List V→Hp→Prop)→Prop
 | [],s,h,K=>K s h
 |o::l,s,h,K=> ∃s1 h1,StepR P F G ops o s h s1 h1∧OpsG P F G ops l s1 h1 K
def OpsX (P:Program)(N:Nat)(m:Option (List Nat×List Nat))(ops:Array Oper)(l:List Oper)(s:List V)(h:Hp)(K:List V→Hp→Prop):Prop:=
 match m with
 |none=>OpsW P N ops l s h K
 |some (F,G)=>OpsG P (cA F) (cA G) ops l s h K
def aAC (l:List Oper):List Nat→List Oper
 | []=>[]
 |i::s=>match l[i]? with
  |some o=>o::aAC l s
  |none=>[]
def aGu (F G:FuncId→Bool)(ops:Array Oper):List Nat→Array Bool→Bool
 | [],_=>true
 |i::s,L=>aOw F G ops L i&&(ops.toList[i]?).isSome&&aGu F G ops s (L.setIfInBounds i true)
def aFz :List Nat→Array Bool→Array Bool
 | [],L=>L
 |i::s,L=>aFz s (L.setIfInBounds i true)
theorem aAr {P:Program}{N:Nat}{F G:FuncId→Bool}{ops:Array Oper}{K:List V→Hp→Prop}{m:Nat}: ∀(sc:List Nat)(L:Array Bool)(s:List V)(h:Hp),aGu F G ops sc L=true→
  OpsG P F G ops (aAC ops.toList sc) s h (fun s h=>DrawG P N F G ops m (aFz sc L) s h K)→DrawG P N F G ops (m+sc.length) L s h K
 | [],L,s,h,_,hk=>hk
 |i::sc,L,s,h,hb,hk=>by
  simp only[aGu,a1O]at hb
  obtain⟨⟨h1,h2⟩,h3⟩:=hb
  obtain⟨o,ho⟩:=a18.1 h2
  simp only[aAC,ho]at hk
  obtain⟨s1,g1,e,hk⟩:=hk
  refine DrawG.pick h1 (o:=o) (by simpa using ho) e ?_
  exact aAr sc _ s1 g1 h3 hk
theorem DrawG.ps {P:Program}{N n m:Nat}{F G:List Nat}{ops:Array Oper}{L:Array Bool}{s:List V}{h:Hp}{K:List V→Hp→Prop}(sc:List Nat)(hr:OpsX P N (some (F,G)) ops (aAC ops.toList sc) s h fun s h=>DrawG P N (cA F) (cA G) ops m (aFz sc L) s h K)
  (hb:(aGu (cA F) (cA G) ops sc L&&Nat.beq n (m+sc.length))=true:=by decide +kernel):DrawG P N (cA F) (cA G) ops n L s h K:=by
 simp only[Bool.and_eq_true]at hb
 rw[Nat.eq_of_beq_eq_true hb.2]
 exact aAr sc L s h hb.1 hr
theorem DrawG.p1 {P:Program}{N n:Nat}{F G:List Nat}{ops:Array Oper}{L:Array Bool}{s:List V}{h:Hp}{K:List V→Hp→Prop}(i:Nat)(hr:OpsX P N (some (F,G)) ops (aAC ops.toList [i]) s h fun s h=>DrawG P N (cA F) (cA G) ops n (aFz [i] L) s h K)
  (hb:aGu (cA F) (cA G) ops [i] L=true:=by decide +kernel):DrawG P N (cA F) (cA G) ops (n+1) L s h K:=aAr [i] L s h hb hr
theorem DrawG.jh {P:Program}{N n:Nat}{F G:FuncId→Bool}{ops:Array Oper}{L listed:Array Bool}{s s':List V}{h h':Hp}{K:List V→Hp→Prop}(k:DrawG P N F G ops (n+1) L s' h' K)(hg:Ghost N s h s' h') (hL:listed=L:=by decide +kernel) (hc:aN6 ops L=true:=by decide +kernel):DrawG P N F G ops (n+1) listed s h K:=DrawG.jg hL hc hg k
def Fk (P:Program)(N:Nat)(F G:List Nat)(ops:Array Oper)(n:Nat)(L:Array Bool)(s:List V)(h:Hp)(K:List V→Hp→Prop):List Nat→Prop
 | []=>True
 |i::l=>OpsX P N (some (F,G)) ops (aAC ops.toList [i]) s h (fun s h=>DrawG P N (cA F) (cA G) ops n (L.setIfInBounds i true) s h K)∧Fk P N F G ops n L s h K l
theorem Fk.fork {P:Program}{N n:Nat}{F G:List Nat}{ops:Array Oper}{L:Array Bool}{s:List V}{h:Hp}{K:List V→Hp→Prop}: ∀{l:List Nat},(l.all fun i=>(ops.toList[i]?).isSome)=true→Fk P N F G ops n L s h K l→Fork P N (cA F) (cA G) ops n L s h K l
 | [],_,_=>Fork.nil
 |i::l,hb,⟨h1,h2⟩=>by
  simp only[a19,a1O]at hb
  obtain⟨o,ho⟩:=a18.1 hb.1
  simp only[OpsX,aAC,ho]at h1
  obtain⟨s1,g1,e,hk⟩:=h1
  exact Fork.cons (by simpa using ho) e hk (h2.fork hb.2)
theorem DrawG.fk {P:Program}{N n:Nat}{F G:List Nat}{ops:Array Oper}{L:Array Bool}{s:List V}{h:Hp}{K:List V→Hp→Prop}(l:List Nat)(hf:Fk P N F G ops n L s h K l) (hl:Region.ready .any ops L=l:=by decide +kernel) (hne:l≠ []:=by decide) (hb:(l.all fun i=>(ops.toList[i]?).isSome)=true:=by decide +kernel):DrawG P N (cA F) (cA G) ops (n+1) L s h K:=DrawG.fork l hl hne (hf.fork hb)
def aIl (F G:FuncId→Bool)(ops:Array Oper):List (List Nat)→Array Bool→Bool
 | [],L=>(aGZ ops.size L).isEmpty
 | [a],L=>aGu F G ops a L&&(aGZ ops.size (aFz a L)).isEmpty
 |a::b::ss,L=>aGu F G ops a L&&aN6 ops (aFz a L)&& !b.isEmpty&&aIl F G ops (b::ss) (aFz a L)
def aUV (P:Program)(N:Nat)(F G:List Nat)(ops:Array Oper):List (List Nat)→List V→Hp→(List V→Hp→Prop)→Prop
 | [],s,h,K=>K s h
 | [a],s,h,K=>OpsX P N (some (F,G)) ops (aAC ops.toList a) s h K
 |a::b::ss,s,h,K=>OpsX P N (some (F,G)) ops (aAC ops.toList a) s h (fun s h=> ∃s' h',Ghost N s h s' h'∧aUV P N F G ops (b::ss) s' h' K)
theorem OpsG.mono {P:Program}{F G:FuncId→Bool}{ops:Array Oper}{K K':List V→Hp→Prop}: ∀{l:List Oper}{s:List V}{h:Hp},OpsG P F G ops l s h K→(∀s h,K s h→K' s h)→OpsG P F G ops l s h K'
 | [],_,_,hk,hm=>hm _ _ hk
 |_::_,_,_,⟨s1,h1,e,hk⟩,hm=>⟨s1,h1,e,hk.mono hm⟩
theorem aKy {P:Program}{N:Nat}{F G:List Nat}{ops:Array Oper}{K:List V→Hp→Prop}: ∀(ss:List (List Nat))(L:Array Bool)(s:List V)(h:Hp),aIl (cA F) (cA G) ops ss L=true→
  aUV P N F G ops ss s h K→DrawG P N (cA F) (cA G) ops (ss.map List.length).sum L s h K
 | [],L,s,h,hb,hk=>DrawG.nil (List.isEmpty_iff.1 hb) hk
 | [a],L,s,h,hb,hk=>by
  simp only[aIl,Bool.and_eq_true]at hb
  have:=aAr (N:=N) (m:=0) a L s h hb.1 (OpsG.mono (K':=fun s h=>DrawG P N (cA F) (cA G) ops 0 (aFz a L) s h K) hk fun s h hk=>DrawG.nil (List.isEmpty_iff.1 hb.2) hk)
  simpa using this
 |a::b::ss,L,s,h,hb,hk=>by
  simp only[aIl,Bool.and_eq_true]at hb
  obtain⟨⟨⟨h1,h2⟩,h3⟩,h4⟩:=hb
  have:=aAr (N:=N) (m:=((b::ss).map List.length).sum) a L s h h1 (OpsG.mono (K':=fun s h=>DrawG P N (cA F) (cA G) ops ((b::ss).map List.length).sum (aFz a L) s h K) hk fun s h ⟨s',h',hg,hk⟩=>by
   have hd:=aKy (b::ss) _ s' h' h4 hk
   obtain⟨x,xs,rfl⟩: ∃x xs,b=x::xs:=by
    cases b with
    |nil=>cases h3
    |cons x xs=>exact⟨x,xs,rfl⟩
   simp only[List.map_cons,List.length_cons,List.sum_cons,Nat.add_right_comm _ 1]at hd⊢
   exact DrawG.gh h2 hg hd)
  simpa[Nat.add_comm]using this
theorem AB.rs {P:Program}{N:Nat}{Q:Ex→List V→Hp→Prop}{s:List V}{h:Hp}(hm:P.follows .mixedOrders=true)(F G:List Nat)(ss:List (List Nat)){id:Nat}{l:List Oper}(hr:aUV P N F G l.toArray ss s h (Q .normal))
  (hb:(aIl (cA F) (cA G) l.toArray ss (Array.replicate l.toArray.size false)&&(ss.map List.length).sum == l.toArray.size)=true:=by decide +kernel):AB P N (.region id l.toArray true) Q s h:=by
 simp only[Bool.and_eq_true,beq_iff_eq]at hb
 refine AB.rd (cA F) (cA G) hm ?_
 have:=aKy ss _ s h hb.1 hr
 rw[hb.2]at this
 exact this
section
variable {P:Program}{N n t:Nat}{m:Option (List Nat×List Nat)}{ops:Array Oper}{l:List Oper}{fr:List (Nat×V)}{h h':Hp}{K:List V→Hp→Prop}{op:Op}{ty:TypeId}{pos:String}{aft:Array Edge}{gd:Option (Nat×Bool)}{v a b:V}{x y z:Operand}{Q:Ex→List V→Hp→Prop}{s:List V}
theorem OpsX.nil (hk:K s h):OpsX P N m ops [] s h K:=by
 cases m with
 |none=>exact OpsW.nil hk
 |some p=>exact hk
theorem xS0 (hs:b9 P O0 ops ⟨some t,op,ty,pos,aft,gd⟩ (aG n fr) h=some (v,h'))(k:OpsX P N m ops l (aG n ((t,v)::fr)) h' K):OpsX P N m ops (⟨some t,op,ty,pos,aft,gd⟩::l) (aG n fr) h K:=by
 cases m with
 |none=>exact wS hs k
 |some p=>exact⟨_,_,gS hs,k⟩
theorem xN0 (hs:b9 P O0 ops ⟨none,op,ty,pos,aft,gd⟩ (aG n fr) h=some (v,h'))(k:OpsX P N m ops l (aG n fr) h' K):OpsX P N m ops (⟨none,op,ty,pos,aft,gd⟩::l) (aG n fr) h K:=by
 cases m with
 |none=>exact wN hs k
 |some p=>exact⟨_,_,gN hs,k⟩
theorem xq {c:Code}{id:Nat}(hr:OpsX P N none l.toArray l s h (Ex.then (AB P N c Q) Q .normal)):AB P N (.seq (.region id l.toArray false) c) Q s h:=AB.seq (AB.rw hr)
theorem xr {id:Nat}(hr:OpsX P N none l.toArray l s h (Q .normal)):AB P N (.region id l.toArray false) Q s h:=AB.rw hr
def Gd (ops:Array Oper)(n:Nat)(fr:List (Nat×V)):Option (Nat×Bool)→Prop
 |none=>True
 |some (j,w)=> ∃u,(ops[j]?).bind (·.dst)=some u∧ ∃c,bX n fr (.tmp u)=some (.sc (.bool c))∧c=w
theorem Gd.step {dd:Option Tmp}{r:V×Hp}(hg:Gd ops n fr gd)(hd:bR P O0 ⟨dd,op,ty,pos,aft,gd⟩ (aG n fr) h=some r):b9 P O0 ops ⟨dd,op,ty,pos,aft,gd⟩ (aG n fr) h=some r:=by
 obtain⟨v,h1⟩:=r
 cases gd with
 |none=>exact sv hd
 |some p=>
  obtain⟨j,w⟩:=p
  obtain⟨u,hu,c,hc,he⟩:=hg
  exact svG hu hc he hd
theorem xS (hd:bR P O0 ⟨some t,op,ty,pos,aft,gd⟩ (aG n fr) h=some (v,h'))(k:OpsX P N m ops l (aG n ((t,v)::fr)) h' K) (hg:Gd ops n fr gd:=by first|exact True.intro|exact⟨_,rfl,_,rfl,by assumption⟩):OpsX P N m ops (⟨some t,op,ty,pos,aft,gd⟩::l) (aG n fr) h K:=xS0 (hg.step hd) k
theorem xN (hd:bR P O0 ⟨none,op,ty,pos,aft,gd⟩ (aG n fr) h=some (v,h'))(k:OpsX P N m ops l (aG n fr) h' K) (hg:Gd ops n fr gd:=by first|exact True.intro|exact⟨_,rfl,_,rfl,by assumption⟩):OpsX P N m ops (⟨none,op,ty,pos,aft,gd⟩::l) (aG n fr) h K:=xN0 (hg.step hd) k
theorem xw (hd:bR P O0 ⟨some t,op,ty,pos,aft,none⟩ (aG n fr) h=some (v,h'))(k:OpsX P N m ops l (aG n ((t,v)::fr)) h' K):OpsX P N m ops (⟨some t,op,ty,pos,aft,none⟩::l) (aG n fr) h K:=xS0 (sv hd) k
theorem xy (hd:bR P O0 ⟨none,op,ty,pos,aft,none⟩ (aG n fr) h=some (v,h'))(k:OpsX P N m ops l (aG n fr) h' K):OpsX P N m ops (⟨none,op,ty,pos,aft,none⟩::l) (aG n fr) h K:=xN0 (sv hd) k
theorem xC {f:FuncId}{ts:Array TypeId}{ws:List Operand}{xs:List V}(hx:lE n fr ws=some xs)(hc:Fn P f h xs v h')(k:OpsX P N none ops l (aG n ((t,v)::fr)) h' K):OpsX P N none ops (⟨some t,.call ⟨.value (.func f),ws.toArray,ts⟩,ty,pos,aft,none⟩::l) (aG n fr) h K:=wC hx hc k
theorem xCg {f:FuncId}{ts:Array TypeId}{ws:List Operand}{xs:List V}{jj ww:Nat}{want cc:Bool}(hj:(ops[jj]?).bind (·.dst)=some ww)(hl:bX n fr (.tmp ww)=some (.sc (.bool cc)))(hb:cc=want)(hx:lE n fr ws=some xs)(hc:Fn P f h xs v h')(k:OpsX P N none ops l (aG n ((t,v)::fr)) h' K):OpsX P N none ops (⟨some t,.call ⟨.value (.func f),ws.toArray,ts⟩,ty,pos,aft,some (jj,want)⟩::l) (aG n fr) h K:=wCG hj hl hb hx hc k
theorem xG {f:FuncId}{F G:List Nat}{ts:Array TypeId}{ws:List Operand}{xs:List V}(hx:lE n fr ws=some xs)(hc:Fn P f h xs v h')(k:OpsX P N (some (F,G)) ops l (aG n ((t,v)::fr)) h' K) (hF:cA F f=false:=by rfl) (hG:cA G f=true→ ∃news,h'=h++news:=by first|exact(fun _=>⟨_,rfl⟩)|exact(fun _=>⟨[],(List.append_nil _).symm⟩)|exact(fun h=>absurd h (by decide))) (hg:Gd ops n fr gd:=by first|exact True.intro|exact⟨_,rfl,_,rfl,by assumption⟩):OpsX P N (some (F,G)) ops (⟨some t,.call ⟨.value (.func f),ws.toArray,ts⟩,ty,pos,aft,gd⟩::l) (aG n fr) h K:=by
 refine⟨_,_,gC hc hF hG ?_,k⟩
 cases gd with
 |none=>exact sv (aIw hx aI9)
 |some p=>
  obtain⟨j,w⟩:=p
  obtain⟨u,hu,c,hb,he⟩:=hg
  exact svG hu hb he (aIw hx aI9)
theorem xU {f:FuncId}{F G:List Nat}{ts:Array TypeId}{ws:List Operand}{xs:List V}(hx:lE n fr ws=some xs)(hc: ∀h,Fn P f h xs v h)(k:OpsX P N (some (F,G)) ops l (aG n ((t,v)::fr)) h K) (hG:cA G f=false:=by rfl) (hg:Gd ops n fr gd:=by first|exact True.intro|exact⟨_,rfl,_,rfl,by assumption⟩):OpsX P N (some (F,G)) ops (⟨some t,.call ⟨.value (.func f),ws.toArray,ts⟩,ty,pos,aft,gd⟩::l) (aG n fr) h K:=by
 refine⟨_,_,gU hc hG ?_,k⟩
 cases gd with
 |none=>exact sv (aIw hx aMv)
 |some p=>
  obtain⟨j,w⟩:=p
  obtain⟨u,hu,c,hb,he⟩:=hg
  exact svG hu hb he (aIw hx aMv)
variable {j w:Nat}{want c:Bool}
theorem xX (hc:c= !want)(k:OpsX P N m ops l (aG n ((t,.sc undef)::fr)) h K) (hj:(ops[j]?).bind (·.dst)=some w:=by rfl) (hl:bX n fr (.tmp w)=some (.sc (.bool c)):=by rfl):OpsX P N m ops (⟨some t,op,ty,pos,aft,some (j,want)⟩::l) (aG n fr) h K:=xS0 (svX hj hl hc) k
theorem xSg (hj:(ops[j]?).bind (·.dst)=some w)(hl:bX n fr (.tmp w)=some (.sc (.bool c)))(hc:c=want)(hd:bR P O0 ⟨some t,op,ty,pos,aft,some (j,want)⟩ (aG n fr) h=some (v,h'))(k:OpsX P N m ops l (aG n ((t,v)::fr)) h' K):OpsX P N m ops (⟨some t,op,ty,pos,aft,some (j,want)⟩::l) (aG n fr) h K:=xS0 (svG hj hl hc hd) k
theorem OpsX.ghost {s':List V}(hg:Ghost N s h s' h')(k:OpsX P N none ops l s' h' K):OpsX P N none ops l s h K:=OpsW.ghost hg k
end
theorem gD {p:Prop} (h:p:=by first|exact True.intro|exact⟨_,rfl,_,rfl,by assumption⟩):p:=h
inductive LSet {α:Type}:List α→Nat→α→List α→Prop
 |z {a b:α} {l:List α}:LSet (a::l) 0 b (b::l)
 |s {a b:α} {l l':List α} {i:Nat}:LSet l i b l'→LSet (a::l) (i+1) b (a::l')
theorem LSet.eq {α:Type}{l l':List α}{i:Nat}{b:α}(h:LSet l i b l'):l.set i b=l':=by
 induction h with
 |z=>rfl
 |s _ ih=>rw[List.set_cons_succ,ih]
inductive Snoc {α:Type}:List α→α→List α→Prop
 |n {b:α}:Snoc [] b [b]
 |c {a b:α} {l l':List α}:Snoc l b l'→Snoc (a::l) b (a::l')
theorem Snoc.eq {α:Type}{l l':List α}{b:α}(h:Snoc l b l'):l++[b]=l':=by
 induction h with
 |n=>rfl
 |c _ ih=>rw[List.cons_append,ih]
inductive IsA :(List V→List V)→Nat→Prop
 |c {a:V}:IsA (List.cons a) 1
 |a4 {k:IntKind} {q:List Int}:IsA (eG (eI k) q) 4
 |a8 {k:IntKind} {q:List Int}:IsA (ar8 (eI k) q) 8
 |a20 {k:IntKind} {q:List Int}:IsA (aMG (eI k) q) 20
 |a32 {k:IntKind} {q:List Int}:IsA (aN (eI k) q) 32
 |a64 {k:IntKind} {q:List Int}:IsA (aMH (eI k) q) 64
theorem IsA.eq {A:List V→List V}{n:Nat}(h:IsA A n): ∃p:List V,p.length=n∧ ∀r,A r=p++r:=by
 cases h with
 |c=>exact⟨[_],rfl,fun _=>rfl⟩
 |a4=>exact⟨eG _ _ [],rfl,fun _=>rfl⟩
 |a8=>exact⟨ar8 _ _ [],rfl,fun _=>rfl⟩
 |a20=>exact⟨aMG _ _ [],rfl,fun _=>rfl⟩
 |a32=>exact⟨aN _ _ [],rfl,fun _=>rfl⟩
 |a64=>exact⟨aMH _ _ [],rfl,fun _=>rfl⟩
inductive Spl :List V→Nat→List V→List V→Prop
 |w {l r:List V}:r.length=l.length→Spl l 0 r r
 |d {l:List V}:Spl l 0 [] l
 |p {A B:List V→List V} {n:Nat} {l r l':List V}:IsA A n→IsA B n→Spl l 0 r l'→Spl (A l) 0 (B r) (B l')
 |s {A:List V→List V} {n:Nat} {l r l':List V} {o o':Nat}:IsA A n→o'=o+n→Spl l o r l'→Spl (A l) o' r (A l')
theorem Spl.eq {l r l':List V}{o:Nat}(h:Spl l o r l'):splice l o r=l':=by
 induction h with
 |w h=>simp[splice,h]
 |d=>simp[splice]
 |p hA hB _ ih=>
  obtain⟨p,hp,e⟩:=hA.eq
  obtain⟨q,hq,e'⟩:=hB.eq
  simp only[splice,List.take_zero,a13,a2m]at ih⊢
  rw[e,e',e',←ih,a15,hq,←hp,a2a,a1W (by omega),a13,Nat.add_sub_cancel_left,a10]
 | @s A n l r l' o o' hA he _ ih=>
  subst he
  obtain⟨p,hp,e⟩:=hA.eq
  simp only[splice]at ih⊢
  have h1:(p++l).take (o+n)=p++l.take o:=by rw[a2p,a1X (by omega),show o+n-p.length=o by omega]
  have h2:(p++l).drop (o+n+r.length)=l.drop (o+r.length):=by rw[a2a,a1W (by omega),a13,show o+n+r.length-p.length=o+r.length by omega]
  rw[e,e,h1,h2,←ih,a10,a10,a10]
inductive Tak :List V→Nat→Nat→List V→Prop
 |w {l:List V} {k:Nat}:l.length=k→Tak l 0 k l
 |d {l:List V}:Tak l 0 0 []
 |t {A:List V→List V} {n:Nat} {l r:List V} {k k':Nat}:IsA A n→k'=k+n→Tak l 0 k r→Tak (A l) 0 k' (A r)
 |s {A:List V→List V} {n:Nat} {l r:List V} {o o' k:Nat}:IsA A n→o'=o+n→Tak l o k r→Tak (A l) o' k r
theorem Tak.eq {l r:List V}{o k:Nat}(h:Tak l o k r):(l.drop o).take k=r∧k≤(l.drop o).length:=by
 induction h with
 |w h=>subst h;exact⟨by simp,by simp⟩
 |d=>exact⟨rfl,Nat.zero_le _⟩
 |t hA he _ ih=>
  subst he
  obtain⟨p,hp,e⟩:=hA.eq
  simp only[a16]at ih⊢
  rw[e,e,a2p,a1X (by omega),hp,Nat.add_sub_cancel,ih.1,a15,hp]
  exact⟨rfl,by omega⟩
 | @s A n l r o o' k hA he _ ih=>
  subst he
  obtain⟨p,hp,e⟩:=hA.eq
  have h1:(p++l).drop (o+n)=l.drop o:=by rw[a2a,a1W (by omega),a13,show o+n-p.length=o by omega]
  rw[e,h1]
  exact ih
inductive OfC :Value→V→Prop
 |i {k:IntKind} {x:Int}:OfC (.int k x) (eI k x)
 |b {x:Bool}:OfC (.bool x) (eB x)
 |s {x:ByteArray}:OfC (.string x) (eS x)
 |l:OfC (.slice none 0 0) (.row (some true) 1 [])
 |p:OfC (.pointer none) (.sc (.pointer none))
theorem OfC.eq {v:Value}{a:V}(h:OfC v a):dY v=a:=by cases h<;>rfl
theorem OfC.eq' {v:Value}{a:V}(h:OfC v a):ofValue v=a:=by cases h<;>rfl
theorem OfC.one {v:Value}{a:V}(h:OfC v a):a.one=true∧v.cells= #[v]:=by cases h<;>exact⟨rfl,rfl⟩
inductive OfCs :List Value→List V→Prop
 |n:OfCs [] []
 |c {v:Value} {a:V} {vs:List Value} {as_:List V}:OfC v a→OfCs vs as_→OfCs (v::vs) (a::as_)
theorem OfCs.eq {vs:List Value}{as_:List V}(h:OfCs vs as_):vs.map dY=as_:=by
 induction h with
 |n=>rfl
 |c h _ ih=>rw[a1L,h.eq,ih]
theorem OfCs.one {vs:List Value}{as_:List V}(h:OfCs vs as_):as_.all V.one=true:=by
 induction h with
 |n=>rfl
 |c h _ ih=>rw[a19,h.one.1,ih];rfl
inductive Zro :Value→List V→Prop
 |a {vs:List Value} {cs:List V}:OfCs vs cs→Zro (.agg vs.toArray) cs
 |o {v:Value} {a:V}:OfC v a→Zro v [a]
theorem Zro.eq {v:Value}{cs:List V}(h:Zro v cs):v.cells.toList.map dY=cs∧cs.all V.one=true:=by
 cases h with
 |a h=>exact⟨h.eq,h.one⟩
 |o h=>rw[h.one.2];exact⟨by simp[h.eq],by simp[h.one.1]⟩
inductive Cel :V→List V→Prop
 |a {cs:List V}:cs.all V.one=true→Cel (.agg cs) cs
 |o {x:V}:x.one=true→x.cells=[x]→Cel x [x]
 |m {α:Type} {E:α→V} {q:List α}:(∀x,(E x).one=true)→Cel (.agg (q.map E)) (q.map E)
theorem Cel.eq {x:V}{cs:List V}(h:Cel x cs):x.cells=cs∧x.flatOk=true:=by
 cases h with
 |a h=>exact⟨rfl,h⟩
 |o h1 h2=>exact⟨h2,by simp[V.flatOk,h2,h1]⟩
 |m h=>exact⟨rfl,a0K h⟩
inductive Fil (pl:Array (Nat×Nat)):List V→List (Nat×V)→List V→Prop
 |n {cs:List V}:Fil pl cs [] cs
 |c {cs ds es fs:List V} {i o k:Nat} {x:V} {ps:List (Nat×V)}:pl[i]? =some (o,k)→Cel x ds→ds.length=k→a1Q (o+k) cs.length=true→Spl cs o ds es→Fil pl es ps fs→Fil pl cs ((i,x)::ps) fs
theorem Fil.eq {pl:Array (Nat×Nat)}{cs fs:List V}{ps:List (Nat×V)}(h:Fil pl cs ps fs):pX (fun i=>pl[i]?) cs ps=some fs:=by
 induction h with
 |n=>rfl
 |c h1 h2 h3 h4 h5 _ ih=>
  simp only[pX,h1]
  rw[if_pos ⟨h2.eq.2,by rw[h2.eq.1,h3],a1K h4⟩,h2.eq.1,h5.eq,ih]
class TiC (P:Program) (t:TypeId) (d:outParam TI):Prop where
 h:aM P t=some d
abbrev tv {P:Program}{t:TypeId}{d:TI}(_:aM P t=some d):TI:=d
abbrev pv {P:Program}{t:TypeId}{d:Array (Nat×Nat)}(_:eJ P t=some d):Array (Nat×Nat):=d
class FaC (P:Program) (t:TypeId) (f:Nat) (k:outParam Nat):Prop where
 p: ∀b off,rM P t (.ptr b off) f=some (.ptr b (off+k))
 e: ∀es i off,rM P t (.eptr es i off) f=some (.eptr es i (off+k))
theorem dO {P:Program}{t:TypeId}{f k:Nat}{fs:Array Field}{sz by_:Nat}{zz:Value}{fl:Field}{di:TI}(h:aM P t=some ⟨.struct fs,sz,by_,zz⟩)(hf:fs[f]? =some fl)(hd:aM P fl.type=some di)(hz:Nat.blt 0 di.size=true)(hk:fl.offset=k):FaC P t f k:=by
 have h1:0<di.size:=by simpa using hz
 have h0: ¬di.size=0:=by omega
 exact⟨fun b off=>by simp[rM,h,hf,hd,h0,hk],fun es i off=>by simp[rM,h,hf,hd,h0,hk]⟩
theorem fP {P:Program}{t:TypeId}{f b off k r:Nat} [F:FaC P t f k] (hr:off+k=r:=by rfl):rM P t (.ptr b off) f=some (.ptr b r):=hr▸F.p _ _
class ZrA (P:Program) (t:TypeId) (cs:outParam (List V)):Prop where
 h: ∃d,aM P t=some d∧d.zero.cells.toList.map dY=cs∧cs.all V.one=true
theorem zrA {P:Program}{t:TypeId}{cs:List V}{d:TI}(h:aM P t=some d) (e:d.zero.cells.toList.map dY=cs:=by rfl) (o:cs.all V.one=true:=by rfl):ZrA P t cs:=⟨d,h,e,o⟩
class NoA (P:Program) (t:TypeId):Prop where
 h:True
class PlC (P:Program) (t:TypeId) (pl:outParam (Array (Nat×Nat))):Prop where
 h:eJ P t=some pl
def aVC (op:BinOp)(k:IntKind)(a b:Int):Option V:=match op with
 | .add=>some (eI k (k.wrap (a+b)))
 | .sub=>some (eI k (k.wrap (a-b)))
 | .mul=>some (eI k (k.wrap (a*b)))
 | .and=>some (eI k (bits .and k a b))
 | .or=>some (eI k (bits .or k a b))
 | .xor=>some (eI k (bits .xor k a b))
 | .eql=>some (eB (a == b))
 | .neq=>some (eB (a != b))
 | .lss=>some (eB (decide (a<b)))
 | .leq=>some (eB (decide (a≤b)))
 | .gtr=>some (eB (decide (b<a)))
 | .geq=>some (eB (decide (b≤a)))
 |_=>none
theorem aXA {P:Program}{op:BinOp}{t:TypeId}{x y:Operand}{k:IntKind}{a b:Int}{v:V}(h:aVC op k a b=some v):dC P op t x y (eI k a) (eI k b)=some v:=by
 cases op<;>simp only[aVC,a1M,reduceCtorEq]at h<;>subst h
 ·exact aXG ..
 ·exact aXQ ..
 ·exact aXs ..
 ·exact aYa ..
 ·exact aYT ..
 ·exact aXg ..
 ·exact aXN ..
 ·exact aXd ..
 ·exact aOz ..
 ·exact aXR ..
 ·exact aXq ..
 exact aXW ..
section
variable {P:Program}{N n t:Nat}{m:Option (List Nat×List Nat)}{ops:Array Oper}{l:List Oper}{fr:List (Nat×V)}{h h':Hp}{K:List V→Hp→Prop}{op:Op}{ty:TypeId}{pos:String}{aft:Array Edge}{gd:Option (Nat×Bool)}{v a b:V}{x y z:Operand}{Q:Ex→List V→Hp→Prop}{s:List V}{k:IntKind}{i j:Int}{o e:Nat}{cs ds:List V}{ti di:TI}{u w:TypeId}{bo:BinOp}{p q:Nat}{c:Bool}
theorem xm (hx:bX n fr x=some a)(hg:Gd ops n fr gd)(q:OpsX P N m ops l (aG n ((t,a)::fr)) h K):OpsX P N m ops (⟨some t,.move x,ty,pos,aft,gd⟩::l) (aG n fr) h K:=xS (aTI hx) q hg
theorem xa (hx:bX n fr x=some a)(hg:Gd ops n fr gd)(q:OpsX P N m ops l (aG n ((t,a)::fr)) h K):OpsX P N m ops (⟨some t,.assign x,ty,pos,aft,gd⟩::l) (aG n fr) h K:=xS (aUU hx) q hg
theorem xmc {v:Value}(hv:OfC v a)(hg:Gd ops n fr gd)(q:OpsX P N m ops l (aG n ((t,a)::fr)) h K):OpsX P N m ops (⟨some t,.move (.const v),ty,pos,aft,gd⟩::l) (aG n fr) h K:=xm (by rw[←hv.eq'];rfl) hg q
theorem xac {v:Value}(hv:OfC v a)(hg:Gd ops n fr gd)(q:OpsX P N m ops l (aG n ((t,a)::fr)) h K):OpsX P N m ops (⟨some t,.assign (.const v),ty,pos,aft,gd⟩::l) (aG n fr) h K:=xa (by rw[←hv.eq'];rfl) hg q
theorem xb (hx:bX n fr x=some (eI k i))(hy:bX n fr y=some (eI k j))(hv:aVC bo k i j=some v)(hg:Gd ops n fr gd)(q:OpsX P N m ops l (aG n ((t,v)::fr)) h K):OpsX P N m ops (⟨some t,.binOp bo u x y w,ty,pos,aft,gd⟩::l) (aG n fr) h K:=xS (gA hx hy (aXA hv)) q hg
theorem xno (hx:bX n fr x=some (eB c))(hg:Gd ops n fr gd)(q:OpsX P N m ops l (aG n ((t,eB (!c))::fr)) h K):OpsX P N m ops (⟨some t,.unOp .not u x,ty,pos,aft,gd⟩::l) (aG n fr) h K:=xS (aJD hx (aYC _ _)) q hg
theorem xci {sz by_:Nat}{zz:Value}{k':IntKind} [D:TiC P u di] [T:TiC P w ⟨.int k',sz,by_,zz⟩] (hx:bX n fr x=some (eI k i)) (hg:Gd ops n fr gd) (q:OpsX P N m ops l (aG n ((t,eI k' (k'.wrap i))::fr)) h K):OpsX P N m ops (⟨some t,.convert u w x,ty,pos,aft,gd⟩::l) (aG n fr) h K:=xS (aGd hx (aVX _ ⟨_,D.h⟩ T.h rfl)) q hg
theorem xlR {α:Type}{E:α→V}{nl:Option Bool}{ml:List α}{sz by_:Nat}{zz:Value} [T:TiC P u ⟨.slice e,sz,by_,zz⟩] (hx:bX n fr x=some (.row nl o (ml.map E))) (hg:Gd ops n fr gd) (q:OpsX P N m ops l (aG n ((t,eI .i64 (ml.length:Int))::fr)) h K):OpsX P N m ops (⟨some t,.call ⟨.builtin .len,#[x],#[u]⟩,ty,pos,aft,gd⟩::l) (aG n fr) h K:=xS (aTh hx (a1j T.h)) q hg
theorem xlS {sz by_:Nat}{zz:Value}{ag:Bool} [T:TiC P u ⟨.slice e,sz,by_,zz⟩] (hx:bX n fr x=some (.sl o p q w ag)) (hg:Gd ops n fr gd) (kk:OpsX P N m ops l (aG n ((t,eI .i64 (q:Int))::fr)) h K):OpsX P N m ops (⟨some t,.call ⟨.builtin .len,#[x],#[u]⟩,ty,pos,aft,gd⟩::l) (aG n fr) h K:=xS (aTh hx (a1A T.h)) kk hg
theorem xe {vs:List V}(hx:bX n fr x=some (.tup vs))(hv:vs[o]? =some v)(hg:Gd ops n fr gd)(q:OpsX P N m ops l (aG n ((t,v)::fr)) h K):OpsX P N m ops (⟨some t,.extract x o,ty,pos,aft,gd⟩::l) (aG n fr) h K:=xS (a0u hx hv) q hg
theorem xfp {f kk r:Nat} [F:FaC P u f kk] (hx:bX n fr x=some (.ptr o p)) (hr:p+kk=r) (hg:Gd ops n fr gd) (q:OpsX P N m ops l (aG n ((t,.ptr o r)::fr)) h K):OpsX P N m ops (⟨some t,.fieldAddr u x f,ty,pos,aft,gd⟩::l) (aG n fr) h K:=xS (aRt hx (hr▸F.p _ _)) q hg
theorem xfe {f kk r ix:Nat} [F:FaC P u f kk] (hx:bX n fr x=some (.eptr cs ix p)) (hr:p+kk=r) (hg:Gd ops n fr gd) (q:OpsX P N m ops l (aG n ((t,.eptr cs ix r)::fr)) h K):OpsX P N m ops (⟨some t,.fieldAddr u x f,ty,pos,aft,gd⟩::l) (aG n fr) h K:=xS (aRt hx (hr▸F.e _ _ _)) q hg
theorem xnp (hx:bX n fr x=some (.ptr o p))(hg:Gd ops n fr gd)(q:OpsX P N m ops l (aG n ((t,.ptr o p)::fr)) h K):OpsX P N m ops (⟨some t,.nilCheck x,ty,pos,aft,gd⟩::l) (aG n fr) h K:=xS (aT1 hx) q hg
theorem xl1 [T:TiC P u ti] (hx:bX n fr x=some (.ptr o p)) (hb:h[o]? =some (some ⟨e,cs⟩)) (hc:(cs.drop p).head? =some v) (hd:cB ti.desc=false) (hg:Gd ops n fr gd) (q:OpsX P N m ops l (aG n ((t,v)::fr)) h K):OpsX P N m ops (⟨some t,.load u x,ty,pos,aft,gd⟩::l) (aG n fr) h K:=xS (b8 hx (ldP hb (lW T.h hd hc))) q hg
theorem xlN {fs:Array Field}{sz by_:Nat}{zz:Value} [T:TiC P u ⟨.struct fs,sz,by_,zz⟩] (hx:bX n fr x=some (.ptr o p)) (hb:h[o]? =some (some ⟨e,cs⟩)) (hc:Tak cs p sz ds) (hg:Gd ops n fr gd) (q:OpsX P N m ops l (aG n ((t,.agg ds)::fr)) h K):OpsX P N m ops (⟨some t,.load u x,ty,pos,aft,gd⟩::l) (aG n fr) h K:=xS (b8 hx (ldP hb (mU T.h rfl hc.eq.2 hc.eq.1))) q hg
theorem xlX {α:Type}{E:α→V}{ml:List α}{r:α} [T:TiC P u ti] (hx:bX n fr x=some (.ptr o j.toNat)) (hb:h[o]? =some (some ⟨e,ml.map E⟩)) (hd:cB ti.desc=false) (hi:aW ml j=some r) (hg:Gd ops n fr gd) (q:OpsX P N m ops l (aG n ((t,E r)::fr)) h K):OpsX P N m ops (⟨some t,.load u x,ty,pos,aft,gd⟩::l) (aG n fr) h K:=xS (b8 hx (ldX T.h hd hb hi)) q hg
theorem aYf {α:Type}{E:α→V}{ml:List α}{r:α} [T:TiC P u ti] (hx:bX n fr x=some (.eptr (ml.map E) j.toNat p)) (hd:cB ti.desc=false) (hi:aW ml j=some r) (hc:((E r).cells.drop p).head? =some v) (hg:Gd ops n fr gd) (q:OpsX P N m ops l (aG n ((t,v)::fr)) h K):OpsX P N m ops (⟨some t,.load u x,ty,pos,aft,gd⟩::l) (aG n fr) h K:=xS (b8 hx (ldR hi (lW T.h hd hc))) q hg
theorem aYx {α:Type}{E:α→V}{ml:List α}{r:α}{fs:Array Field}{sz by_:Nat}{zz:Value} [T:TiC P u ⟨.struct fs,sz,by_,zz⟩] (hx:bX n fr x=some (.eptr (ml.map E) j.toNat p)) (hi:aW ml j=some r) (hE:E r= .agg cs) (hc:Tak cs p sz ds) (hg:Gd ops n fr gd) (q:OpsX P N m ops l (aG n ((t,.agg ds)::fr)) h K):OpsX P N m ops (⟨some t,.load u x,ty,pos,aft,gd⟩::l) (aG n fr) h K:=xS (b8 hx (ldR hi (by rw[hE];exact mU T.h rfl hc.eq.2 hc.eq.1))) q hg
inductive ArM :List V→List V→Prop
 |a4 {k:IntKind} {q:List Int}:q.length=4→ArM (eG (eI k) q []) (q.map (eI k))
 |a8 {k:IntKind} {q:List Int}:q.length=8→ArM (ar8 (eI k) q []) (q.map (eI k))
 |a20 {k:IntKind} {q:List Int}:q.length=20→ArM (aMG (eI k) q []) (q.map (eI k))
 |a32 {k:IntKind} {q:List Int}:q.length=32→ArM (aN (eI k) q []) (q.map (eI k))
 |a64 {k:IntKind} {q:List Int}:q.length=64→ArM (aMH (eI k) q []) (q.map (eI k))
theorem ArM.eq {a b:List V}(h:ArM a b):a=b:=by
 cases h with
 |a4 h=>exact aSC h
 |a8 h=>exact aX0 h
 |a20 h=>exact aVE h
 |a32 h=>exact dJ h
 |a64 h=>exact aUW h
theorem xlA {es:List V}{N' sz by_:Nat}{zz:Value} [T:TiC P u ⟨.array N' w,sz,by_,zz⟩] (hx:bX n fr x=some (.ptr o p)) (hb:h[o]? =some (some ⟨e,cs⟩)) (hc:Tak cs p sz ds) (ha:ArM ds es) (hg:Gd ops n fr gd) (q:OpsX P N m ops l (aG n ((t,.agg es)::fr)) h K):OpsX P N m ops (⟨some t,.load u x,ty,pos,aft,gd⟩::l) (aG n fr) h K:=xS (b8 hx (ldP hb (by rw[←ha.eq];exact mU T.h rfl hc.eq.2 hc.eq.1))) q hg
theorem xlB {α:Type}{E:α→V}{ml:List α}{N' sz by_:Nat}{zz:Value} [T:TiC P u ⟨.array N' w,sz,by_,zz⟩] (hx:bX n fr x=some (.ptr o 0)) (hb:h[o]? =some (some ⟨e,ml.map E⟩)) (hz:sz=N') (hl:ml.length=N') (hg:Gd ops n fr gd) (q:OpsX P N m ops l (aG n ((t,.agg (ml.map E))::fr)) h K):OpsX P N m ops (⟨some t,.load u x,ty,pos,aft,gd⟩::l) (aG n fr) h K:=xS (b8 hx (ldA T.h hz hb hl)) q hg
theorem xiR {α:Type}{E:α→V}{nl:Option Bool}{ml:List α}{r:α}{sz by_:Nat}{zz:Value} [T:TiC P u ⟨.slice e,sz,by_,zz⟩] [D:TiC P e di] (hx:bX n fr x=some (.row nl o (ml.map E))) (hy:bX n fr y=some (eI k j)) (hs:di.size=o) (hi:aW ml j=some r) (hg:Gd ops n fr gd) (q:OpsX P N m ops l (aG n ((t,.eptr (ml.map E) j.toNat 0)::fr)) h K):OpsX P N m ops (⟨some t,.indexAddr u x y,ty,pos,aft,gd⟩::l) (aG n fr) h K:=xS (aGp hx hy (by subst hs;exact iaR T.h D.h hi)) q hg
theorem xiS {α:Type}{E:α→V}{ml:List α}{r:α}{q0 sz by_:Nat}{zz:Value}{ag:Bool} [T:TiC P u ⟨.slice e,sz,by_,zz⟩] [D:TiC P e di] (hx:bX n fr x=some (.sl o 0 q0 1 ag)) (hy:bX n fr y=some (eI k j)) {e':Nat} (hb:h[o]? =some (some ⟨e',ml.map E⟩)) (hi:aW ml j=some r) (hn:ml.length=q0) (hs:di.size=1) (hg:Gd ops n fr gd) (q:OpsX P N m ops l (aG n ((t,.ptr o j.toNat)::fr)) h K):OpsX P N m ops (⟨some t,.indexAddr u x y,ty,pos,aft,gd⟩::l) (aG n fr) h K:=xS (aGp hx hy (iaS hn T.h D.h hs hi)) q hg
theorem xiB {α:Type}{E:α→V}{ml:List α}{r:α}{N' sz by_:Nat}{zz:Value} [T:TiC P u ⟨.array N' e,sz,by_,zz⟩] [D:TiC P e di] (hx:bX n fr x=some (.ptr o 0)) (hy:bX n fr y=some (eI k j)) {e':Nat} (hb:h[o]? =some (some ⟨e',ml.map E⟩)) (hi:cC N' ml j=some r) (hs:di.size=1) (hg:Gd ops n fr gd) (q:OpsX P N m ops l (aG n ((t,.ptr o j.toNat)::fr)) h K):OpsX P N m ops (⟨some t,.indexAddr u x y,ty,pos,aft,gd⟩::l) (aG n fr) h K:=xS (aGp hx hy (iaB T.h D.h hs hi)) q hg
theorem xVv {jj ww:Nat}{want:Bool}(hj:(ops[jj]?).bind (·.dst)=some ww)(hl:bX n fr (.tmp ww)=some (.sc undef))(q:OpsX P N m ops l (aG n ((t,.sc undef)::fr)) h K):OpsX P N m ops (⟨some t,op,ty,pos,aft,some (jj,want)⟩::l) (aG n fr) h K:=xS0 (svU hj hl) q
theorem xXx {jj ww:Nat}{want:Bool}(hj:(ops[jj]?).bind (·.dst)=some ww)(hl:bX n fr (.tmp ww)=some (.sc (.bool c)))(hc:c= !want)(q:OpsX P N m ops l (aG n ((t,.sc undef)::fr)) h K):OpsX P N m ops (⟨some t,op,ty,pos,aft,some (jj,want)⟩::l) (aG n fr) h K:=xS0 (svX hj hl hc) q
def aSP :List Oper→Bool
 | []=>true
 |o::l=>(match o.guard,o.op with
  |none,.pick _ _ _=>false
  |none,_=>true
  |some _,_=>false)&&aSP l
theorem xqn {cc:Code}{id:Nat}(hn:aSP l=true)(hr:OpsX P N none l.toArray l s h (Ex.then (AB P N cc Q) Q .normal)):AB P N (.seq (.region id l.toArray false) cc) Q s h:=xq hr
theorem xrn {id:Nat}(hn:aSP l=true)(hr:OpsX P N none l.toArray l s h (Q .normal)):AB P N (.region id l.toArray false) Q s h:=xr hr
theorem xsA {α:Type}{E:α→V}{ml mm:List α}{N' sz by_ i':Nat}{zz:Value} [T:TiC P u ⟨.array N' e,sz,by_,zz⟩] (hx:bX n fr x=some (.ptr o 0)) (hb:h[o]? =some (some ⟨i',ml.map E⟩)) (hy:bX n fr y=some (.agg (mm.map E))) (hz:sz=N') (hE: ∀x,(E x).one=true) (h1:ml.length=N') (h2:mm.length=N') (hh:LSet h o (some ⟨i',mm.map E⟩) h') (hg:Gd ops n fr gd) (q:OpsX P N m ops l (aG n fr) h' K):OpsX P N m ops (⟨none,.store u x y,ty,pos,aft,gd⟩::l) (aG n fr) h K:=xN (v:= .sc undef) (h':=h') (iJ hx hy (stA T.h hz hb hE h1 h2 hh.eq)) q hg
theorem xs [T:TiC P u ti] (hx:bX n fr x=some (.ptr o p)) (hy:bX n fr y=some v) (hb:h[o]? =some (some ⟨e,cs⟩)) {es fs:List V} (hv:Cel v es) (h1:es.length=ti.size) (h2:a1Q (p+ti.size) cs.length=true) (hs:Spl cs p es fs) (hh:LSet h o (some ⟨e,fs⟩) h') (hg:Gd ops n fr gd) (q:OpsX P N m ops l (aG n fr) h' K):OpsX P N m ops (⟨none,.store u x y,ty,pos,aft,gd⟩::l) (aG n fr) h K:=by
 obtain⟨hv1,hv2⟩:=hv.eq
 refine xN (v:= .sc undef) (h':=h') (iJ hx hy (stP T.h hb hv2 (by rw[hv1,h1]) (a1K h2) ?_)) q hg
 rw[hv1,hs.eq,hh.eq]
theorem xsX {α:Type}{E:α→V}{ml:List α}{r r':α} [T:TiC P u ti] (hx:bX n fr x=some (.ptr o j.toNat)) (hb:h[o]? =some (some ⟨e,ml.map E⟩)) (hy:bX n fr y=some (E r')) (hz:ti.size=1) (hi:aW ml j=some r) (ho:(E r').one=true) (hc:(E r').cells=[E r']) (hh:LSet h o (some ⟨e,(ml.set j.toNat r').map E⟩) h') (hg:Gd ops n fr gd) (q:OpsX P N m ops l (aG n fr) h' K):OpsX P N m ops (⟨none,.store u x y,ty,pos,aft,gd⟩::l) (aG n fr) h K:=xN (v:= .sc undef) (h':=h') (iJ hx hy (a03 T.h hz hb hi ho hc hh.eq)) q hg
theorem xal {r:Nat} [A:NoA P e] [T:TiC P e ti] (hz:Zro ti.zero cs) (hh:Snoc h (some ⟨e,cs⟩) h') (hl:h.length=r) (hg:Gd ops n fr gd) (q:OpsX P N m ops l (aG n ((t,.ptr r 0)::fr)) h' K):OpsX P N m ops (⟨some t,.alloc e,ty,pos,aft,gd⟩::l) (aG n fr) h K:=
 xS (aOg T.h (by rw[hz.eq.1];exact hz.eq.2) hl (by rw[hz.eq.1];exact hh.eq)) q hg
theorem aYU {r:Nat} [Z:ZrA P e cs] (hh:Snoc h (some ⟨e,cs⟩) h') (hl:h.length=r) (hg:Gd ops n fr gd) (q:OpsX P N m ops l (aG n ((t,.ptr r 0)::fr)) h' K):OpsX P N m ops (⟨some t,.alloc e,ty,pos,aft,gd⟩::l) (aG n fr) h K:=by
 obtain⟨d,h1,h2,h3⟩:=Z.h
 exact xS (aOg h1 (by rw[h2];exact h3) hl (by rw[h2];exact hh.eq)) q hg
theorem aZe {r N' sz by_ sz' by':Nat}{k':IntKind}{e':TypeId}{vs:List Value}{z':Value} [T:TiC P e ⟨.array N' e',sz,by_,.agg vs.toArray⟩] [D:TiC P e' ⟨.int k',sz',by',z'⟩] (hz:vs.map dY=(a1P N' 0).map (eI k')) (hh:Snoc h (some ⟨e,(a1P N' 0).map (eI k')⟩) h') (hl:h.length=r) (hg:Gd ops n fr gd) (q:OpsX P N m ops l (aG n ((t,.ptr r 0)::fr)) h' K):OpsX P N m ops (⟨some t,.alloc e,ty,pos,aft,gd⟩::l) (aG n fr) h K:=
 xS (aOg T.h (by
  have e1:(TI.zero ⟨.array N' e',sz,by_,.agg vs.toArray⟩).cells.toList.map dY=(a1P N' 0).map (eI k'):=hz
  rw[e1];exact all_map (fun _=>rfl) _) hl (by
  have e1:(TI.zero ⟨.array N' e',sz,by_,.agg vs.toArray⟩).cells.toList.map dY=(a1P N' 0).map (eI k'):=hz
  rw[e1];exact hh.eq)) q hg
theorem xbx {r:Nat}(hx:bX n fr x=some a)(hv:Cel a cs)(hh:Snoc h (some ⟨e,cs⟩) h')(hl:h.length=r)(hg:Gd ops n fr gd)(q:OpsX P N m ops l (aG n ((t,.ptr r 0)::fr)) h' K):OpsX P N m ops (⟨some t,.box e x,ty,pos,aft,gd⟩::l) (aG n fr) h K:=
 xS (a0x hx hv.eq.2 hl (by rw[hv.eq.1];exact hh.eq)) q hg
theorem xbd {fs:Array Field}{sz by_:Nat}{zz:Value}{pl:Array (Nat×Nat)}{ps:List (Nat×Operand)}{xs:List (Nat×V)} [T:TiC P u ⟨.struct fs,sz,by_,zz⟩] [L:PlC P u pl] [A:NoA P u] (hp:aGr n fr ps=some xs) (hz:Zro zz cs) (hf:Fil pl cs xs ds) (hg:Gd ops n fr gd) (q:OpsX P N m ops l (aG n ((t,.agg ds)::fr)) h K):OpsX P N m ops (⟨some t,.build u ps.toArray,ty,pos,aft,gd⟩::l) (aG n fr) h K:=
 xS (cS hp (jC T.h L.h (by rw[hz.eq.1];exact hf.eq))) q hg
theorem xpT (hz:bX n fr z=some (eB c))(hc:c=true)(hx:bX n fr x=some a)(hg:Gd ops n fr gd)(q:OpsX P N m ops l (aG n ((t,a)::fr)) h K):OpsX P N m ops (⟨some t,.pick z x y,ty,pos,aft,gd⟩::l) (aG n fr) h K:=xS (aW6 hz hc hx) q hg
theorem xpF (hz:bX n fr z=some (eB c))(hc:c=false)(hy:bX n fr y=some a)(hg:Gd ops n fr gd)(q:OpsX P N m ops l (aG n ((t,a)::fr)) h K):OpsX P N m ops (⟨some t,.pick z x y,ty,pos,aft,gd⟩::l) (aG n fr) h K:=xS (aXw hz hc hy) q hg
inductive NumK (k:IntKind):Nat→List (Nat×V)→List Int→Prop
 |n {i:Nat}:NumK k i [] []
 |c {i:Nat} {x:Int} {ps:List (Nat×V)} {xs:List Int}:NumK k (i+1) ps xs→NumK k i ((i,eI k x)::ps) (x::xs)
theorem NumK.eq {k:IntKind}{i:Nat}{ps:List (Nat×V)}{xs:List Int}(h:NumK k i ps xs):tN i (xs.map (eI k))=ps:=by
 induction h with
 |n=>rfl
 |c _ ih=>simp only[a1L,tN];rw[ih]
inductive NumB :Nat→List (Nat×V)→List Bool→Prop
 |n {i:Nat}:NumB i [] []
 |c {i:Nat} {x:Bool} {ps:List (Nat×V)} {xs:List Bool}:NumB (i+1) ps xs→NumB i ((i,eB x)::ps) (x::xs)
theorem NumB.eq {i:Nat}{ps:List (Nat×V)}{xs:List Bool}(h:NumB i ps xs):tN i (xs.map eB)=ps:=by
 induction h with
 |n=>rfl
 |c _ ih=>simp only[a1L,tN];rw[ih]
inductive NumR {α:Type}(kk:Nat)(E:α→V):Nat→List (Nat×V)→List (List α)→Prop
 |n {i:Nat}:NumR kk E i [] []
 |c {i:Nat} {x:List α} {ps:List (Nat×V)} {xs:List (List α)}:NumR kk E (i+1) ps xs→NumR kk E i ((i,.row none kk (x.map E))::ps) (x::xs)
 |z {i:Nat} {ps:List (Nat×V)} {xs:List (List α)}:NumR kk E (i+1) ps xs→NumR kk E i ((i,.row none kk [])::ps) ([]::xs)
theorem NumR.eq {α:Type}{kk:Nat}{E:α→V}{i:Nat}{ps:List (Nat×V)}{xs:List (List α)}(h:NumR kk E i ps xs):tN i (xs.map (eL kk E))=ps:=by
 induction h with
 |n=>rfl
 |z _ ih=>simp only[a1L,tN];rw[ih];rfl
 |c _ ih=>simp only[a1L,tN];rw[ih]
theorem a1D {α:Type}{E:α→V}(hE: ∀x,(E x).one=true)(hc: ∀x,(E x).cells=[E x])(xs:List α):(xs.map E).all (fun x=>x.one&&(x.cells.length == 1))=true:=by
 simp[a1S,hE,hc]
theorem aZz {α:Type}{E:α→V}{js:List α}{len sz by_ r:Nat}{zz:Value}{ps:List (Nat×Operand)}{xs:List (Nat×V)} [T:TiC P u ⟨.slice e,sz,by_,zz⟩] [D:TiC P e di] (hp:zQ n fr ps=some xs) (hn:tN 0 (js.map E)=xs) (hE: ∀x,(E x).one=true) (hc: ∀x,(E x).cells=[E x]) (hs:di.size=1) {ag:Bool} (ha:cB di.desc=ag) (h1:a1Q (len*1) (2^24)=true) (h2:a1Q 1 len=true) (hlen:js.length=len) (hh:Snoc h (some ⟨e,js.map E⟩) h') (hl:h.length=r) (hg:Gd ops n fr gd) (q:OpsX P N m ops l (aG n ((t,.sl r 0 len 1 ag)::fr)) h' K):OpsX P N m ops (⟨some t,.buildSlice u len ps.toArray,ty,pos,aft,gd⟩::l) (aG n fr) h K:=
 xS (oV hp (a0p T.h D.h (a1K h1) (a1K h2) hs ha hn (a1D hE hc _) (by rw[a14];exact hlen) hl hh.eq)) q hg
section
variable {α β:Type}{eq:α→α→Bool}{KV:α→V}{CK:α→List V}{CV:β→List V}{VE:β→V}{C:α×β→List V}{z0:β}{ml:List (α×β)}
theorem xmm {r:Nat} [M:MpC P u α β eq KV CK CV VE C z0 e] (hh:Snoc h (some ⟨e,([]:List (α×β)).flatMap C⟩) h') (hl:h.length=r) (hg:Gd ops n fr gd) (q:OpsX P N m ops l (aG n ((t,.mp r)::fr)) h' K):OpsX P N m ops (⟨some t,.makeMap u none,ty,pos,aft,gd⟩::l) (aG n fr) h K:=by
 obtain⟨m,_,_,_,h1,h2,_⟩:=M.h
 exact xS (aXH h1 h2 hl hh.eq) q hg
theorem xlk (kk:α) [M:MpC P u α β eq KV CK CV VE C z0 e] (q:OpsX P N m ops l (aG n ((t,VE (pC eq ml kk z0))::fr)) h K) (hx:bX n fr x=some (.mp o):=by rfl) (hy:bX n fr y=some b:=by rfl) (hb:h[o]? =some (some ⟨e,ml.flatMap C⟩):=by rfl) (hk:b=KV kk:=by rfl) (hg:Gd ops n fr gd:=by exact gD):OpsX P N m ops (⟨some t,.lookup u x y false,ty,pos,aft,gd⟩::l) (aG n fr) h K:=xS (aYe hx hy (by rw[hk];exact M.lk hb false)) q hg
theorem xlo (kk:α) [M:MpC P u α β eq KV CK CV VE C z0 e] (q:OpsX P N m ops l (aG n ((t,.tup [VE (pC eq ml kk z0),eB (tW eq ml kk)])::fr)) h K) (hx:bX n fr x=some (.mp o):=by rfl) (hy:bX n fr y=some b:=by rfl) (hb:h[o]? =some (some ⟨e,ml.flatMap C⟩):=by rfl) (hk:b=KV kk:=by rfl) (hg:Gd ops n fr gd:=by exact gD):OpsX P N m ops (⟨some t,.lookup u x y true,ty,pos,aft,gd⟩::l) (aG n fr) h K:=xS (aYe hx hy (by rw[hk];exact M.lk hb true)) q hg
theorem xup (kk:α)(vv:β) [M:MpC P u α β eq KV CK CV VE C z0 e] (q:OpsX P N m ops l (aG n fr) h' K) (hx:bX n fr x=some (.mp o):=by rfl) (hy:bX n fr y=some b:=by rfl) (hz:bX n fr z=some v:=by rfl) (hb:h[o]? =some (some ⟨e,ml.flatMap C⟩):=by rfl) (hk:b=KV kk:=by rfl) (hv:v=VE vv:=by rfl) (hh:LSet h o (some ⟨e,(aAa eq ml kk vv).flatMap C⟩) h':=by(repeat (first|exact LSet.z|apply LSet.s))) (hg:Gd ops n fr gd:=by exact gD):OpsX P N m ops (⟨none,.mapUpdate u x y z,ty,pos,aft,gd⟩::l) (aG n fr) h K:=xN (a0I hx hy hz (by rw[hk,hv,←hh.eq];exact M.up hb)) q hg
theorem xdl (kk:α) [M:MpC P u α β eq KV CK CV VE C z0 e] (q:OpsX P N m ops l (aG n fr) h' K) (hx:bX n fr x=some (.mp o):=by rfl) (hy:bX n fr y=some b:=by rfl) (hb:h[o]? =some (some ⟨e,ml.flatMap C⟩):=by rfl) (hk:b=KV kk:=by rfl) (hh:LSet h o (some ⟨e,(aMU eq ml kk).flatMap C⟩) h':=by(repeat (first|exact LSet.z|apply LSet.s))) (hg:Gd ops n fr gd:=by exact gD):OpsX P N m ops (⟨none,.call ⟨.builtin .delete,#[x,y],#[u,w]⟩,ty,pos,aft,gd⟩::l) (aG n fr) h K:=xN (v:= .tup []) (by
 have h3:evs (aG n fr) [x,y]=some [.mp o,b]:=by simp only[evs,List.mapM_cons,cV hx,cV hy];rfl
 simp only[bR,rZ,h3,hk,M.dl hb,Option.map_some,hh.eq]) q hg
end
theorem jU {α:Type}(C:α→List V)(k:Nat)(xs:List α){len sz by_ r:Nat}{zz:Value}{ps:List (Nat×Operand)}{ps0:List (Nat×V)} [T:TiC P u ⟨.slice e,sz,by_,zz⟩] [D:TiC P e di] (q:OpsX P N m ops l (aG n ((t,.sl r 0 len k true)::fr)) h' K) (hp:zQ n fr ps=some ps0:=by rfl) (hn:tN 0 (xs.map fun x=>V.agg (C x))=ps0:=by rfl) (hC: ∀x,(C x).length=k:=by exact fun _=>rfl) (h1C: ∀x,(C x).all V.one=true:=by exact fun _=>rfl)
  (h1:(Nat.ble (len*k) (2^24)&&Nat.ble 1 len&&Nat.ble 1 k)=true:=by rfl) (hK:di.size=k:=by rfl) (hag:cB di.desc=true:=by rfl) (hlen:xs.length=len:=by rfl) (hh:Snoc h (some ⟨e,xs.flatMap C⟩) h':=by(repeat (first|exact Snoc.n|apply Snoc.c))) (hl:h.length=r:=by first|exact(by simp only[List.length_cons,List.length_nil,Nat.zero_add,Nat.reduceAdd]<;>rfl)|exact rfl) (hg:Gd ops n fr gd:=by exact gD):OpsX P N m ops (⟨some t,.buildSlice u len ps.toArray,ty,pos,aft,gd⟩::l) (aG n fr) h K:=by
 simp only[Bool.and_eq_true]at h1
 exact xS (oV hp (aHp hC h1C T.h D.h ⟨Nat.le_of_ble_eq_true h1.1.1,Nat.le_of_ble_eq_true h1.1.2,Nat.le_of_ble_eq_true h1.2⟩ hK hag hn hlen hl hh.eq)) q hg
theorem aZX {js:List Int}{len sz by_ r sz' by':Nat}{zz z':Value}{ps:List (Nat×Operand)}{xs:List (Nat×V)} [T:TiC P u ⟨.slice e,sz,by_,zz⟩] [D:TiC P e ⟨.int k,sz',by',z'⟩] (hp:zQ n fr ps=some xs) (hn:NumK k 0 xs js) (hs:sz'=1) (h1:a1Q (len*1) (2^24)=true) (h2:a1Q 1 len=true) (hlen:js.length=len) (hh:Snoc h (some ⟨e,js.map (eI k)⟩) h') (hl:h.length=r) (hg:Gd ops n fr gd) (q:OpsX P N m ops l (aG n ((t,.sl r 0 len 1 false)::fr)) h' K):OpsX P N m ops (⟨some t,.buildSlice u len ps.toArray,ty,pos,aft,gd⟩::l) (aG n fr) h K:=aZz (ag:=false) hp hn.eq (fun _=>rfl) (fun _=>rfl) hs rfl h1 h2 hlen hh hl hg q
theorem aZq {α:Type}{E:α→V}{kk:Nat}{js:List (List α)}{len sz by_ r sz' by':Nat}{zz z':Value}{e':TypeId}{ps:List (Nat×Operand)}{xs:List (Nat×V)} [T:TiC P u ⟨.slice e,sz,by_,zz⟩] [D:TiC P e ⟨.slice e',sz',by',z'⟩] (hp:zQ n fr ps=some xs) (hn:NumR kk E 0 xs js) (hs:sz'=1) (h1:a1Q (len*1) (2^24)=true) (h2:a1Q 1 len=true) (hlen:js.length=len) (hh:Snoc h (some ⟨e,js.map (eL kk E)⟩) h') (hl:h.length=r) (hg:Gd ops n fr gd) (q:OpsX P N m ops l (aG n ((t,.sl r 0 len 1 false)::fr)) h' K):OpsX P N m ops (⟨some t,.buildSlice u len ps.toArray,ty,pos,aft,gd⟩::l) (aG n fr) h K:=aZz (ag:=false) hp hn.eq (fun _=>rfl) (fun _=>rfl) hs rfl h1 h2 hlen hh hl hg q
theorem aZf {k':IntKind}{r:Int}(hx:bX n fr x=some (eI k i))(hy:bX n fr y=some (eI k' j))(hv:shl k i j=some r)(hg:Gd ops n fr gd)(q:OpsX P N m ops l (aG n ((t,eI k r)::fr)) h K):OpsX P N m ops (⟨some t,.binOp .shl u x y w,ty,pos,aft,gd⟩::l) (aG n fr) h K:=xS (gA hx hy (aU6 _ _ _ _ hv)) q hg
theorem aY3 {k':IntKind}{r:Int}(hx:bX n fr x=some (eI k i))(hy:bX n fr y=some (eI k' j))(hv:shr k i j=some r)(hg:Gd ops n fr gd)(q:OpsX P N m ops l (aG n ((t,eI k r)::fr)) h K):OpsX P N m ops (⟨some t,.binOp .shr u x y w,ty,pos,aft,gd⟩::l) (aG n fr) h K:=xS (gA hx hy (aVb _ _ _ _ hv)) q hg
theorem aZY {r:Int}(hx:bX n fr x=some (eI k i))(hy:bX n fr y=some (eI k j))(hv:quo k i j=some r)(hg:Gd ops n fr gd)(q:OpsX P N m ops l (aG n ((t,eI k r)::fr)) h K):OpsX P N m ops (⟨some t,.binOp .quo u x y w,ty,pos,aft,gd⟩::l) (aG n fr) h K:=xS (gA hx hy (aVY _ _ _ _ hv)) q hg
theorem aZL {r:Int}(hx:bX n fr x=some (eI k i))(hy:bX n fr y=some (eI k j))(hv:rem i j=some r)(hg:Gd ops n fr gd)(q:OpsX P N m ops l (aG n ((t,eI k r)::fr)) h K):OpsX P N m ops (⟨some t,.binOp .rem u x y w,ty,pos,aft,gd⟩::l) (aG n fr) h K:=xS (gA hx hy (aVI _ _ _ _ hv)) q hg
class DepC (P:Program):Prop where
 h:2≤P.depth
theorem xeA {k':IntKind}{N' sz by_ sz' by':Nat}{zz z':Value}{ml mm:List Int} [A:DepC P] [T:TiC P u ⟨.array N' e,sz,by_,zz⟩] [D:TiC P e ⟨.int k',sz',by',z'⟩] (hx:bX n fr x=some (.agg (ml.map (eI k)))) (hy:bX n fr y=some (.agg (mm.map (eI k)))) (hz:sz'=1) (h1:ml.length=N') (h2:mm.length=N') (hg:Gd ops n fr gd) (q:OpsX P N m ops l (aG n ((t,eB (ml == mm))::fr)) h K):OpsX P N m ops (⟨some t,.binOp .eql u x y w,ty,pos,aft,gd⟩::l) (aG n fr) h K:=xS (gA hx hy (aV1 _ _ T.h D.h hz A.h h1 h2)) q hg
theorem xnA {k':IntKind}{N' sz by_ sz' by':Nat}{zz z':Value}{ml mm:List Int} [A:DepC P] [T:TiC P u ⟨.array N' e,sz,by_,zz⟩] [D:TiC P e ⟨.int k',sz',by',z'⟩] (hx:bX n fr x=some (.agg (ml.map (eI k)))) (hy:bX n fr y=some (.agg (mm.map (eI k)))) (hz:sz'=1) (h1:ml.length=N') (h2:mm.length=N') (hg:Gd ops n fr gd) (q:OpsX P N m ops l (aG n ((t,eB (!(ml == mm)))::fr)) h K):OpsX P N m ops (⟨some t,.binOp .neq u x y w,ty,pos,aft,gd⟩::l) (aG n fr) h K:=xS (gA hx hy (aVV _ _ T.h D.h hz A.h h1 h2)) q hg
theorem xsR {α:Type}{E:α→V}{ml r:List α}{nl:Option Bool}{sz by_:Nat}{zz:Value}{lo hi:Option Operand}{vl vh:Option V}{c1 c2:Int} [T:TiC P u ⟨.slice e,sz,by_,zz⟩] [D:TiC P e di] (hx:bX n fr x=some (.row nl o (ml.map E))) (h1:aKW n fr lo=some vl) (h2:aKW n fr hi=some vh) (ha:nG vl=some c1) (hb:yG vh ml.length=some c2) (hs:sub ml c1 c2=some r) (ho:di.size=o) {nl':Option Bool} (hq:nlS nl=nl') (hg:Gd ops n fr gd) (q:OpsX P N m ops l (aG n ((t,.row nl' o (r.map E))::fr)) h K):OpsX P N m ops (⟨some t,.slice u x lo hi none,ty,pos,aft,gd⟩::l) (aG n fr) h K:=by
 subst ho hq;exact xS (yS hx h1 h2 (slR T.h D.h ha hb hs)) q hg
theorem xsM {α:Type}{E:α→V}{ml r:List α}{nl:Option Bool}{sz by_:Nat}{zz:Value}{lo:Option Operand}{hi mx:Operand}{vl:Option V}{c1 c2:Int}{k1 k2:IntKind} [T:TiC P u ⟨.slice e,sz,by_,zz⟩] [D:TiC P e di] (hx:bX n fr x=some (.row nl o (ml.map E))) (h1:aKW n fr lo=some vl) (ha:nG vl=some c1) (h2:bX n fr hi=some (eI k1 c2)) (h3:bX n fr mx=some (eI k2 c2)) (hs:sub ml c1 c2=some r) (ho:di.size=o) (hg:Gd ops n fr gd) (q:OpsX P N m ops l (aG n ((t,.row (some false) o (r.map E))::fr)) h K):OpsX P N m ops (⟨some t,.slice u x lo (some hi) (some mx),ty,pos,aft,gd⟩::l) (aG n fr) h K:=by
 subst ho;exact xS (aQl hx h1 h2 h3 (slM T.h D.h ha hs)) q hg
theorem xsL {α:Type}{E:α→V}{ml:List α}{N' sz by_ i':Nat}{zz:Value}{ag:Bool} [T:TiC P u ⟨.array N' e,sz,by_,zz⟩] [D:TiC P e di] (hx:bX n fr x=some (.ptr o 0)) (hb:h[o]? =some (some ⟨i',ml.map E⟩)) (hs:di.size=1) (ha:cB di.desc=ag) (h1:ml.length=N') (h2:a1Q 1 N'=true) (h3:a1Q N' lim=true) (hg:Gd ops n fr gd) (q:OpsX P N m ops l (aG n ((t,.sl o 0 N' 1 ag)::fr)) h K):OpsX P N m ops (⟨some t,.slice u x none none none,ty,pos,aft,gd⟩::l) (aG n fr) h K:=xS (yS hx rfl rfl (slA T.h D.h hs ha hb h1 ⟨a1K h2,a1K h3⟩)) q hg
theorem xiK {α:Type}{C:α→List V}{ml:List α}{r:α}{q0 sz by_ e':Nat}{zz:Value} [T:TiC P u ⟨.slice e,sz,by_,zz⟩] [D:TiC P e di] (hx:bX n fr x=some (.sl o 0 q0 p true)) (hy:bX n fr y=some (eI k j)) (hb:h[o]? =some (some ⟨e',ml.flatMap C⟩)) (hi:aW ml j=some r) (hn:ml.length=q0) (hs:di.size=p) (hg:Gd ops n fr gd) (q:OpsX P N m ops l (aG n ((t,.ptr o (0+j.toNat*p))::fr)) h K):OpsX P N m ops (⟨some t,.indexAddr u x y,ty,pos,aft,gd⟩::l) (aG n fr) h K:=xS (aGp hx hy (a0X hn T.h D.h hs hi)) q hg
inductive Sr1 {α:Type}(E:α→V)(h:Hp):V→List α→Prop
 |r {nl:Option Bool} {ml:List α}:(∀x,(E x).cells=[E x])→Sr1 E h (.row nl 1 (ml.map E)) ml
 |s {b q e:Nat} {ag:Bool} {ml:List α}:h[b]? =some (some ⟨e,ml.map E⟩)→ml.length=q→Sr1 E h (.sl b 0 q 1 ag) ml
 |n {nl:Option Bool} {k:Nat}:Sr1 E h (.row nl k []) []
theorem Sr1.eq {α:Type}{E:α→V}{h:Hp}{v:V}{ml:List α}(hs:Sr1 E h v ml):fM h 1 v=some (ml.map E,ml.length):=by
 cases hs with
 |r hE=>exact aHS hE
 |s hb hq=>exact aZT hq hb
 |n=>exact a1r
inductive SrK {α:Type}(C:α→List V)(K:Nat)(h:Hp):V→List α→Prop
 |r {nl:Option Bool} {ml:List α}:SrK C K h (.row nl K (ml.map fun x=>V.agg (C x))) ml
 |s {b q e:Nat} {ml:List α}:h[b]? =some (some ⟨e,ml.flatMap C⟩)→(∀x,(C x).length=K)→ml.length=q→SrK C K h (.sl b 0 q K true) ml
 |n {nl:Option Bool} {k:Nat}:SrK C K h (.row nl k []) []
theorem SrK.eq {α:Type}{C:α→List V}{K:Nat}{h:Hp}{v:V}{ml:List α}(hs:SrK C K h v ml):fM h K v=some (ml.flatMap C,ml.length):=by
 cases hs with
 |r=>exact aWD
 |s hb hC hq=>exact aZ3 hC hq hb
 |n=>exact aZ6
theorem xap {α:Type}{E:α→V}{ml mm r:List α}{q0 sz by_ r0:Nat}{zz:Value}{ag:Bool}{h2:Hp} [T:TiC P u ⟨.slice e,sz,by_,zz⟩] [D:TiC P e di] (hx:bX n fr x=some (.sl o 0 q0 1 ag)) (hy:bX n fr y=some v) (hb:h[o]? =some (some ⟨e,ml.map E⟩)) (hs:Sr1 E h v mm) (hn:ml.length=q0) (h1:di.zero.cells.size=1) (h3:di.size=1) (h4:a1Q 1 di.bytes=true) {bb:Nat} (hbb:di.bytes=bb) (ha:b6 bb ml mm=some r) (hh:LSet h o none h2) (hh':Snoc h2 (some ⟨e,r.map E⟩) h') (hl:h.length=r0) (hg:Gd ops n fr gd) (q:OpsX P N m ops l (aG n ((t,.sl r0 0 r.length 1 ag)::fr)) h' K):OpsX P N m ops (⟨some t,.call ⟨.builtin .append,#[x,y],#[u,u]⟩,ty,pos,aft,gd⟩::l) (aG n fr) h K:=by
 subst hbb;exact xS (uE hx hy (eF hn T.h D.h ⟨h1,h3,a1K h4⟩ hb hs.eq ha hl (by rw[hh.eq,hh'.eq]))) q hg
theorem xan {α:Type}{E:α→V}{mm r:List α}{sz by_ r0 kk:Nat}{zz:Value}{ag:Bool}{h2:Hp} [T:TiC P u ⟨.slice e,sz,by_,zz⟩] [D:TiC P e di] (hx:bX n fr x=some (.row (some true) kk [])) (hy:bX n fr y=some v) (hs:Sr1 E h v mm) (h1:di.zero.cells.size=1) (h3:di.size=1) (h4:a1Q 1 di.bytes=true) (hag:cB di.desc=ag) {bb:Nat} (hbb:di.bytes=bb) (ha:b6 bb [] mm=some r) (hh:Snoc h none h2) (hh':Snoc h2 (some ⟨e,r.map E⟩) h') (hl:h2.length=r0) (hg:Gd ops n fr gd) (q:OpsX P N m ops l (aG n ((t,.sl r0 0 r.length 1 ag)::fr)) h' K):OpsX P N m ops (⟨some t,.call ⟨.builtin .append,#[x,y],#[u,u]⟩,ty,pos,aft,gd⟩::l) (aG n fr) h K:=by
 subst hbb;exact xS (uE hx hy (a1p T.h D.h ⟨h1,h3,a1K h4⟩ hs.eq hag ha (by rw[←hl,←hh.eq];simp) (by rw[hh.eq,hh'.eq]))) q hg
theorem xaf {α:Type}{E:α→V}{ml mm r:List α}{sz by_ r0:Nat}{zz:Value}{ag:Bool} [T:TiC P u ⟨.slice e,sz,by_,zz⟩] [D:TiC P e di] (hx:bX n fr x=some (.row (some false) 1 (ml.map E))) (hy:bX n fr y=some v) (hE: ∀x,(E x).cells=[E x]) (hs:Sr1 E h v mm) (hm:a1Q 1 mm.length=true) (h1:di.zero.cells.size=1) (h3:di.size=1) (h4:a1Q 1 di.bytes=true) (hag:cB di.desc=ag) {bb:Nat} (hbb:di.bytes=bb) (ha:b6 bb ml mm=some r) (hh:Snoc h (some ⟨e,r.map E⟩) h') (hl:h.length=r0) (hg:Gd ops n fr gd) (q:OpsX P N m ops l (aG n ((t,.sl r0 0 r.length 1 ag)::fr)) h' K):OpsX P N m ops (⟨some t,.call ⟨.builtin .append,#[x,y],#[u,u]⟩,ty,pos,aft,gd⟩::l) (aG n fr) h K:=by
 subst hbb;exact xS (uE hx hy (aYj T.h D.h ⟨h1,h3,a1K h4⟩ hE hs.eq (a1K hm) hag ha hl (by rw[hh.eq]))) q hg
theorem aZt {α:Type}{C:α→List V}{ml mm r:List α}{q0 sz by_ r0:Nat}{zz:Value}{h2:Hp} [T:TiC P u ⟨.slice e,sz,by_,zz⟩] [D:TiC P e di] (hx:bX n fr x=some (.sl o 0 q0 p true)) (hy:bX n fr y=some v) (hb:h[o]? =some (some ⟨e,ml.flatMap C⟩)) (hC: ∀x,(C x).length=p) (hs:SrK C p h v mm) (hn:ml.length=q0) (h1:di.zero.cells.size=p) (h3:di.size=p) (h4:a1Q 1 di.bytes=true) (h5:a1Q 1 p=true) {bb:Nat} (hbb:di.bytes=bb) (ha:b6 bb ml mm=some r) (hh:LSet h o none h2) (hh':Snoc h2 (some ⟨e,r.flatMap C⟩) h') (hl:h.length=r0) (hg:Gd ops n fr gd) (q:OpsX P N m ops l (aG n ((t,.sl r0 0 r.length p true)::fr)) h' K):OpsX P N m ops (⟨some t,.call ⟨.builtin .append,#[x,y],#[u,u]⟩,ty,pos,aft,gd⟩::l) (aG n fr) h K:=by
 subst hbb;exact xS (uE hx hy (a0r hC hn T.h D.h ⟨h1,h3,a1K h4,a1K h5⟩ hb hs.eq ha hl (by rw[hh.eq,hh'.eq]))) q hg
theorem aZs {α:Type}{C:α→List V}{mm r:List α}{sz by_ r0 kk:Nat}{zz:Value}{h2:Hp} [T:TiC P u ⟨.slice e,sz,by_,zz⟩] [D:TiC P e di] (hx:bX n fr x=some (.row (some true) kk [])) (hy:bX n fr y=some v) (hs:SrK C p h v mm) (h1:di.zero.cells.size=p) (h3:di.size=p) (h4:a1Q 1 di.bytes=true) (h5:a1Q 1 p=true) (hag:cB di.desc=true) {bb:Nat} (hbb:di.bytes=bb) (ha:b6 bb [] mm=some r) (hh:Snoc h none h2) (hh':Snoc h2 (some ⟨e,r.flatMap C⟩) h') (hl:h2.length=r0) (hg:Gd ops n fr gd) (q:OpsX P N m ops l (aG n ((t,.sl r0 0 r.length p true)::fr)) h' K):OpsX P N m ops (⟨some t,.call ⟨.builtin .append,#[x,y],#[u,u]⟩,ty,pos,aft,gd⟩::l) (aG n fr) h K:=by
 subst hbb;exact xS (uE hx hy (aZ4 T.h D.h ⟨h1,h3,a1K h4,a1K h5⟩ hs.eq hag ha (by rw[←hl,←hh.eq];simp) (by rw[hh.eq,hh'.eq]))) q hg
end
structure aZr (q:Prop):Prop where
 h:q
section
variable {P:Program}{N n t:Nat}{m:Option (List Nat×List Nat)}{ops:Array Oper}{l:List Oper}{h:Hp}{K:List V→Hp→Prop}{op:Op}{ty:TypeId}{pos:String}{aft:Array Edge}{gd:Option (Nat×Bool)}{x y z:Operand}{Q:Ex→List V→Hp→Prop}{s:List V}{o e:Nat}{u w:TypeId}{bo:BinOp}{ob:Oper}{c:Code}{ws:List Operand}{ts:Array TypeId}{ps:List (Nat×Operand)}{lo hi:Option Operand}{hj mj:Operand}
theorem isX (k:OpsX P N m ops (ob::l) s h K):OpsX P N m ops (ob::l) s h K:=k
theorem isA (k:AB P N c Q s h):AB P N c Q s h:=k
theorem aSo (k:OpsX P N m ops (⟨some t,.call ⟨.builtin .len,ws.toArray,ts⟩,ty,pos,aft,gd⟩::l) s h K):OpsX P N m ops (⟨some t,.call ⟨.builtin .len,ws.toArray,ts⟩,ty,pos,aft,gd⟩::l) s h K:=k
theorem aTQ (k:OpsX P N m ops (⟨some t,.call ⟨.builtin .append,ws.toArray,ts⟩,ty,pos,aft,gd⟩::l) s h K):OpsX P N m ops (⟨some t,.call ⟨.builtin .append,ws.toArray,ts⟩,ty,pos,aft,gd⟩::l) s h K:=k
theorem aSB (k:OpsX P N m ops (⟨some t,.move x,ty,pos,aft,gd⟩::l) s h K):OpsX P N m ops (⟨some t,.move x,ty,pos,aft,gd⟩::l) s h K:=k
theorem aSi (k:OpsX P N m ops (⟨some t,.load u x,ty,pos,aft,gd⟩::l) s h K):OpsX P N m ops (⟨some t,.load u x,ty,pos,aft,gd⟩::l) s h K:=k
theorem aUu (k:OpsX P N m ops (⟨some t,.binOp bo u x y w,ty,pos,aft,gd⟩::l) s h K):OpsX P N m ops (⟨some t,.binOp bo u x y w,ty,pos,aft,gd⟩::l) s h K:=k
theorem aWG (k:OpsX P N m ops (⟨some t,.fieldAddr u x o,ty,pos,aft,gd⟩::l) s h K):OpsX P N m ops (⟨some t,.fieldAddr u x o,ty,pos,aft,gd⟩::l) s h K:=k
theorem aTv (k:OpsX P N m ops (⟨some t,.assign x,ty,pos,aft,gd⟩::l) s h K):OpsX P N m ops (⟨some t,.assign x,ty,pos,aft,gd⟩::l) s h K:=k
theorem aWx (k:OpsX P N m ops (⟨some t,.indexAddr u x y,ty,pos,aft,gd⟩::l) s h K):OpsX P N m ops (⟨some t,.indexAddr u x y,ty,pos,aft,gd⟩::l) s h K:=k
theorem aWT (k:OpsX P N m ops (⟨none,.store u x y,ty,pos,aft,gd⟩::l) s h K):OpsX P N m ops (⟨none,.store u x y,ty,pos,aft,gd⟩::l) s h K:=k
theorem aWo (k:OpsX P N m ops (⟨some t,.alloc e,ty,pos,aft,gd⟩::l) s h K):OpsX P N m ops (⟨some t,.alloc e,ty,pos,aft,gd⟩::l) s h K:=k
theorem aWP (k:OpsX P N m ops (⟨some t,.buildSlice u o ps.toArray,ty,pos,aft,gd⟩::l) s h K):OpsX P N m ops (⟨some t,.buildSlice u o ps.toArray,ty,pos,aft,gd⟩::l) s h K:=k
theorem aWt (k:OpsX P N m ops (⟨some t,.slice u x lo (some hj) (some mj),ty,pos,aft,gd⟩::l) s h K):OpsX P N m ops (⟨some t,.slice u x lo (some hj) (some mj),ty,pos,aft,gd⟩::l) s h K:=k
theorem aW2 (k:OpsX P N m ops (⟨some t,.slice u x lo hi none,ty,pos,aft,gd⟩::l) s h K):OpsX P N m ops (⟨some t,.slice u x lo hi none,ty,pos,aft,gd⟩::l) s h K:=k
theorem aWj (k:OpsX P N m ops (⟨some t,.pick x y z,ty,pos,aft,gd⟩::l) s h K):OpsX P N m ops (⟨some t,.pick x y z,ty,pos,aft,gd⟩::l) s h K:=k
theorem aWw (k:OpsX P N m ops (⟨some t,.nilCheck x,ty,pos,aft,gd⟩::l) s h K):OpsX P N m ops (⟨some t,.nilCheck x,ty,pos,aft,gd⟩::l) s h K:=k
end
theorem zz {p q:Prop}(k:q) (h:aZr q→p:=by(intro kk;(repeat (first|(apply isX;first|((with_reducible apply aSo);first|(apply xlR;exact rfl;(first|exact True.intro|exact⟨_,rfl,_,rfl,by assumption⟩))|(apply xlS;exact rfl;(first|exact True.intro|exact⟨_,rfl,_,rfl,by assumption⟩))|(apply xlT;exact rfl;(first|exact True.intro|exact⟨_,rfl,_,rfl,by assumption⟩)))|((with_reducible apply aTQ);first|(apply xap;exact rfl;exact rfl;exact rfl;(first|exact Sr1.n|(apply Sr1.r;exact(fun _=>rfl))|(apply Sr1.s;exact rfl;(first|exact rfl|exact(by simp only[bO,bP,List.length_replicate];done)|exact aU (by assumption)|exact bQ (by assumption))));(first|exact rfl|exact(by simp only[bO,bP,List.length_replicate];done)|exact aU (by assumption)|exact bQ (by assumption));exact rfl;exact rfl;exact rfl;exact rfl;assumption;(repeat (first|exact LSet.z|apply LSet.s));(repeat (first|exact Snoc.n|apply Snoc.c));(first|exact(by simp only[List.length_cons,List.length_nil,Nat.zero_add,Nat.reduceAdd]<;>rfl)|exact rfl);(first|exact True.intro|exact⟨_,rfl,_,rfl,by assumption⟩))|(apply xan;exact rfl;exact rfl;(first|exact Sr1.n|(apply Sr1.r;exact(fun _=>rfl))|(apply Sr1.s;exact rfl;(first|exact rfl|exact(by simp only[bO,bP,List.length_replicate];done)|exact aU (by assumption)|exact bQ (by assumption))));exact rfl;exact rfl;exact rfl;exact rfl;exact rfl;assumption;(repeat (first|exact Snoc.n|apply Snoc.c));(repeat (first|exact Snoc.n|apply Snoc.c));(first|exact(by simp only[List.length_cons,List.length_nil,Nat.zero_add,Nat.reduceAdd]<;>rfl)|exact rfl);(first|exact True.intro|exact⟨_,rfl,_,rfl,by assumption⟩))|(apply xaf;exact rfl;exact rfl;exact(fun _=>rfl);(first|exact Sr1.n|(apply Sr1.r;exact(fun _=>rfl))|(apply Sr1.s;exact rfl;(first|exact rfl|exact(by simp only[bO,bP,List.length_replicate];done)|exact aU (by assumption)|exact bQ (by assumption))));(first|exact rfl);exact rfl;exact rfl;exact rfl;exact rfl;exact rfl;assumption;(repeat (first|exact Snoc.n|apply Snoc.c));(first|exact(by simp only[List.length_cons,List.length_nil,Nat.zero_add,Nat.reduceAdd]<;>rfl)|exact rfl);(first|exact True.intro|exact⟨_,rfl,_,rfl,by assumption⟩))|(apply aZt;exact rfl;exact rfl;exact rfl;exact(fun _=>rfl);(first|exact SrK.n|exact SrK.r|(apply SrK.s;exact rfl;exact(fun _=>rfl);(first|exact rfl|exact(by simp only[bO,bP,List.length_replicate];done)|exact aU (by assumption)|exact bQ (by assumption))));(first|exact rfl|exact(by simp only[bO,bP,List.length_replicate];done)|exact aU (by assumption)|exact bQ (by assumption));exact rfl;exact rfl;exact rfl;exact rfl;exact rfl;assumption;(repeat (first|exact LSet.z|apply LSet.s));(repeat (first|exact Snoc.n|apply Snoc.c));(first|exact(by simp only[List.length_cons,List.length_nil,Nat.zero_add,Nat.reduceAdd]<;>rfl)|exact rfl);(first|exact True.intro|exact⟨_,rfl,_,rfl,by assumption⟩))|(apply aZs;exact rfl;exact rfl;(first|exact SrK.n|exact SrK.r|(apply SrK.s;exact rfl;exact(fun _=>rfl);(first|exact rfl|exact(by simp only[bO,bP,List.length_replicate];done)|exact aU (by assumption)|exact bQ (by assumption))));exact rfl;exact rfl;exact rfl;exact rfl;exact rfl;exact rfl;assumption;(repeat (first|exact Snoc.n|apply Snoc.c));(repeat (first|exact Snoc.n|apply Snoc.c));(first|exact(by simp only[List.length_cons,List.length_nil,Nat.zero_add,Nat.reduceAdd]<;>rfl)|exact rfl);(first|exact True.intro|exact⟨_,rfl,_,rfl,by assumption⟩)))|((with_reducible apply aSB);first|(apply xmc;(first|exact OfC.i|exact OfC.b|exact OfC.l|exact OfC.s|exact OfC.p);(first|exact True.intro|exact⟨_,rfl,_,rfl,by assumption⟩))|(apply xm;exact rfl;(first|exact True.intro|exact⟨_,rfl,_,rfl,by assumption⟩)))|((with_reducible apply aSi);first|(apply xl1;exact rfl;exact rfl;exact rfl;exact rfl;(first|exact True.intro|exact⟨_,rfl,_,rfl,by assumption⟩))|(apply aYf;exact rfl;exact rfl;(first|assumption|exact fJ (by assumption));exact rfl;(first|exact True.intro|exact⟨_,rfl,_,rfl,by assumption⟩))|(apply xlX;exact rfl;exact rfl;exact rfl;(first|assumption|exact fJ (by assumption));(first|exact True.intro|exact⟨_,rfl,_,rfl,by assumption⟩))|(apply xlN;exact rfl;exact rfl;(first|exact Tak.w rfl|(repeat (first|exact Tak.d|(apply Tak.t;(first|exact IsA.c|exact IsA.a4|exact IsA.a32|exact IsA.a8|exact IsA.a20|exact IsA.a64);exact rfl)|(apply Tak.s;(first|exact IsA.c|exact IsA.a4|exact IsA.a32|exact IsA.a8|exact IsA.a20|exact IsA.a64);exact rfl))));(first|exact True.intro|exact⟨_,rfl,_,rfl,by assumption⟩))|(apply aYx;exact rfl;(first|assumption|exact fJ (by assumption));exact rfl;(first|exact Tak.w rfl|(repeat (first|exact Tak.d|(apply Tak.t;(first|exact IsA.c|exact IsA.a4|exact IsA.a32|exact IsA.a8|exact IsA.a20|exact IsA.a64);exact rfl)|(apply Tak.s;(first|exact IsA.c|exact IsA.a4|exact IsA.a32|exact IsA.a8|exact IsA.a20|exact IsA.a64);exact rfl))));(first|exact True.intro|exact⟨_,rfl,_,rfl,by assumption⟩))|(apply xlB;exact rfl;exact rfl;exact rfl;(first|exact rfl|exact(by simp only[bO,bP,List.length_replicate];done)|exact aU (by assumption)|exact bQ (by assumption));(first|exact True.intro|exact⟨_,rfl,_,rfl,by assumption⟩))|(apply xlA;exact rfl;exact rfl;(first|exact Tak.w rfl|(repeat (first|exact Tak.d|(apply Tak.t;(first|exact IsA.c|exact IsA.a4|exact IsA.a32|exact IsA.a8|exact IsA.a20|exact IsA.a64);exact rfl)|(apply Tak.s;(first|exact IsA.c|exact IsA.a4|exact IsA.a32|exact IsA.a8|exact IsA.a20|exact IsA.a64);exact rfl))));(first|(apply ArM.a32;(first|exact rfl|exact(by simp only[bO,bP,List.length_replicate];done)|exact aU (by assumption)|exact bQ (by assumption)))|(apply ArM.a4;(first|exact rfl|exact(by simp only[bO,bP,List.length_replicate];done)|exact aU (by assumption)|exact bQ (by assumption)))|(apply ArM.a8;(first|exact rfl|exact(by simp only[bO,bP,List.length_replicate];done)|exact aU (by assumption)|exact bQ (by assumption)))|(apply ArM.a20;(first|exact rfl|exact(by simp only[bO,bP,List.length_replicate];done)|exact aU (by assumption)|exact bQ (by assumption)))|(apply ArM.a64;(first|exact rfl|exact(by simp only[bO,bP,List.length_replicate];done)|exact aU (by assumption)|exact bQ (by assumption))));(first|exact True.intro|exact⟨_,rfl,_,rfl,by assumption⟩))|(apply xleA;exact rfl;(first|assumption|exact fJ (by assumption));exact rfl;(first|exact Tak.w rfl|(repeat (first|exact Tak.d|(apply Tak.t;(first|exact IsA.c|exact IsA.a4|exact IsA.a32|exact IsA.a8|exact IsA.a20|exact IsA.a64);exact rfl)|(apply Tak.s;(first|exact IsA.c|exact IsA.a4|exact IsA.a32|exact IsA.a8|exact IsA.a20|exact IsA.a64);exact rfl))));(first|(apply ArM.a32;(first|exact rfl|exact(by simp only[bO,bP,List.length_replicate];done)|exact aU (by assumption)|exact bQ (by assumption)))|(apply ArM.a4;(first|exact rfl|exact(by simp only[bO,bP,List.length_replicate];done)|exact aU (by assumption)|exact bQ (by assumption)))|(apply ArM.a8;(first|exact rfl|exact(by simp only[bO,bP,List.length_replicate];done)|exact aU (by assumption)|exact bQ (by assumption)))|(apply ArM.a20;(first|exact rfl|exact(by simp only[bO,bP,List.length_replicate];done)|exact aU (by assumption)|exact bQ (by assumption)))|(apply ArM.a64;(first|exact rfl|exact(by simp only[bO,bP,List.length_replicate];done)|exact aU (by assumption)|exact bQ (by assumption))));(first|exact True.intro|exact⟨_,rfl,_,rfl,by assumption⟩)))|((with_reducible apply aUu);first|(apply xb;exact rfl;exact rfl;exact rfl;(first|exact True.intro|exact⟨_,rfl,_,rfl,by assumption⟩))|(apply aY3;exact rfl;exact rfl;assumption;(first|exact True.intro|exact⟨_,rfl,_,rfl,by assumption⟩))|(apply aZf;exact rfl;exact rfl;assumption;(first|exact True.intro|exact⟨_,rfl,_,rfl,by assumption⟩))|(apply aZY;exact rfl;exact rfl;(first|assumption|exact rfl);(first|exact True.intro|exact⟨_,rfl,_,rfl,by assumption⟩))|(apply aZL;exact rfl;exact rfl;(first|assumption|exact rfl);(first|exact True.intro|exact⟨_,rfl,_,rfl,by assumption⟩))|(apply xeA;exact rfl;exact rfl;exact rfl;(first|exact rfl|exact(by simp only[bO,bP,List.length_replicate];done)|exact aU (by assumption)|exact bQ (by assumption));(first|exact rfl|exact(by simp only[bO,bP,List.length_replicate];done)|exact aU (by assumption)|exact bQ (by assumption));(first|exact True.intro|exact⟨_,rfl,_,rfl,by assumption⟩))|(apply xnA;exact rfl;exact rfl;exact rfl;(first|exact rfl|exact(by simp only[bO,bP,List.length_replicate];done)|exact aU (by assumption)|exact bQ (by assumption));(first|exact rfl|exact(by simp only[bO,bP,List.length_replicate];done)|exact aU (by assumption)|exact bQ (by assumption));(first|exact True.intro|exact⟨_,rfl,_,rfl,by assumption⟩)))|((with_reducible apply aWG);first|(apply xfp;exact rfl;(first|(with_reducible exact Nat.zero_add _)|exact rfl);(first|exact True.intro|exact⟨_,rfl,_,rfl,by assumption⟩))|(apply xfe;exact rfl;(first|(with_reducible exact Nat.zero_add _)|exact rfl);(first|exact True.intro|exact⟨_,rfl,_,rfl,by assumption⟩)))|((with_reducible apply aTv);first|(apply xac;(first|exact OfC.i|exact OfC.b|exact OfC.l|exact OfC.s|exact OfC.p);(first|exact True.intro|exact⟨_,rfl,_,rfl,by assumption⟩))|(apply xa;exact rfl;(first|exact True.intro|exact⟨_,rfl,_,rfl,by assumption⟩)))|(apply xe;exact rfl;exact rfl;(first|exact True.intro|exact⟨_,rfl,_,rfl,by assumption⟩))|((with_reducible apply aWx);first|(apply xiR;exact rfl;exact rfl;exact rfl;(first|assumption|exact fJ (by assumption));(first|exact True.intro|exact⟨_,rfl,_,rfl,by assumption⟩))|(apply xiS;exact rfl;exact rfl;exact rfl;(first|assumption|exact fJ (by assumption));(first|exact rfl|exact(by simp only[bO,bP,List.length_replicate];done)|exact aU (by assumption)|exact bQ (by assumption));exact rfl;(first|exact True.intro|exact⟨_,rfl,_,rfl,by assumption⟩))|(apply xiB;exact rfl;exact rfl;exact rfl;assumption;exact rfl;(first|exact True.intro|exact⟨_,rfl,_,rfl,by assumption⟩))|(apply xiK;exact rfl;exact rfl;exact rfl;(first|assumption|exact fJ (by assumption));(first|exact rfl|exact(by simp only[bO,bP,List.length_replicate];done)|exact aU (by assumption)|exact bQ (by assumption));exact rfl;(first|exact True.intro|exact⟨_,rfl,_,rfl,by assumption⟩)))|(apply xci;exact rfl;(first|exact True.intro|exact⟨_,rfl,_,rfl,by assumption⟩))|((with_reducible apply aWT);first|(apply xsA;exact rfl;exact rfl;exact rfl;exact rfl;exact(fun _=>rfl);(first|exact rfl|exact(by simp only[bO,bP,List.length_replicate];done)|exact aU (by assumption)|exact bQ (by assumption));(first|exact rfl|exact(by simp only[bO,bP,List.length_replicate];done)|exact aU (by assumption)|exact bQ (by assumption));(repeat (first|exact LSet.z|apply LSet.s));(first|exact True.intro|exact⟨_,rfl,_,rfl,by assumption⟩))|(apply xs;exact rfl;exact rfl;exact rfl;(first|exact Cel.a rfl|exact Cel.o rfl rfl|exact Cel.m (fun _=>rfl));exact rfl;exact rfl;(first|exact Spl.w rfl|(repeat (first|exact Spl.d|(apply Spl.p;(first|exact IsA.c|exact IsA.a4|exact IsA.a32|exact IsA.a8|exact IsA.a20|exact IsA.a64);(first|exact IsA.c|exact IsA.a4|exact IsA.a32|exact IsA.a8|exact IsA.a20|exact IsA.a64))|(apply Spl.s;(first|exact IsA.c|exact IsA.a4|exact IsA.a32|exact IsA.a8|exact IsA.a20|exact IsA.a64);exact rfl))));(repeat (first|exact LSet.z|apply LSet.s));(first|exact True.intro|exact⟨_,rfl,_,rfl,by assumption⟩))|(apply xsX;exact rfl;exact rfl;exact rfl;exact rfl;(first|assumption|exact fJ (by assumption));exact rfl;exact rfl;(repeat (first|exact LSet.z|apply LSet.s));(first|exact True.intro|exact⟨_,rfl,_,rfl,by assumption⟩)))|((with_reducible apply aWo);first|(apply aZe;exact rfl;(repeat (first|exact Snoc.n|apply Snoc.c));(first|exact(by simp only[List.length_cons,List.length_nil,Nat.zero_add,Nat.reduceAdd]<;>rfl)|exact rfl);(first|exact True.intro|exact⟨_,rfl,_,rfl,by assumption⟩))|(apply aYU;(repeat (first|exact Snoc.n|apply Snoc.c));(first|exact(by simp only[List.length_cons,List.length_nil,Nat.zero_add,Nat.reduceAdd]<;>rfl)|exact rfl);(first|exact True.intro|exact⟨_,rfl,_,rfl,by assumption⟩))|(apply xal;(first|(apply Zro.o;(first|exact OfC.i|exact OfC.b|exact OfC.l|exact OfC.s|exact OfC.p))|(apply Zro.a;repeat (first|exact OfCs.n|(apply OfCs.c;(first|exact OfC.i|exact OfC.b|exact OfC.l|exact OfC.s|exact OfC.p)))));(repeat (first|exact Snoc.n|apply Snoc.c));(first|exact(by simp only[List.length_cons,List.length_nil,Nat.zero_add,Nat.reduceAdd]<;>rfl)|exact rfl);(first|exact True.intro|exact⟨_,rfl,_,rfl,by assumption⟩)))|(apply xmm;(repeat (first|exact Snoc.n|apply Snoc.c));(first|exact(by simp only[List.length_cons,List.length_nil,Nat.zero_add,Nat.reduceAdd]<;>rfl)|exact rfl);(first|exact True.intro|exact⟨_,rfl,_,rfl,by assumption⟩))|(apply xbx;exact rfl;(first|exact Cel.a rfl|exact Cel.o rfl rfl|exact Cel.m (fun _=>rfl));(repeat (first|exact Snoc.n|apply Snoc.c));(first|exact(by simp only[List.length_cons,List.length_nil,Nat.zero_add,Nat.reduceAdd]<;>rfl)|exact rfl);(first|exact True.intro|exact⟨_,rfl,_,rfl,by assumption⟩))|((with_reducible apply aWP);first|(apply aZX;exact rfl;(repeat (first|exact NumK.n|apply NumK.c));exact rfl;exact rfl;exact rfl;exact rfl;(repeat (first|exact Snoc.n|apply Snoc.c));(first|exact(by simp only[List.length_cons,List.length_nil,Nat.zero_add,Nat.reduceAdd]<;>rfl)|exact rfl);(first|exact True.intro|exact⟨_,rfl,_,rfl,by assumption⟩))|(apply aZq;exact rfl;(repeat (first|exact NumR.n|apply NumR.z|apply NumR.c));exact rfl;exact rfl;exact rfl;exact rfl;(repeat (first|exact Snoc.n|apply Snoc.c));(first|exact(by simp only[List.length_cons,List.length_nil,Nat.zero_add,Nat.reduceAdd]<;>rfl)|exact rfl);(first|exact True.intro|exact⟨_,rfl,_,rfl,by assumption⟩))|(apply xbsB;exact rfl;(repeat (first|exact NumB.n|apply NumB.c));exact rfl;exact rfl;exact rfl;exact rfl;(repeat (first|exact Snoc.n|apply Snoc.c));(first|exact(by simp only[List.length_cons,List.length_nil,Nat.zero_add,Nat.reduceAdd]<;>rfl)|exact rfl);(first|exact True.intro|exact⟨_,rfl,_,rfl,by assumption⟩)))|((with_reducible apply aWt);first|(apply xsM;exact rfl;exact rfl;exact rfl;exact rfl;exact rfl;assumption;exact rfl;(first|exact True.intro|exact⟨_,rfl,_,rfl,by assumption⟩)))|((with_reducible apply aW2);first|(apply xsR;exact rfl;exact rfl;exact rfl;exact rfl;exact rfl;assumption;exact rfl;exact rfl;(first|exact True.intro|exact⟨_,rfl,_,rfl,by assumption⟩))|(apply xsL;exact rfl;exact rfl;exact rfl;exact rfl;(first|exact rfl|exact(by simp only[bO,bP,List.length_replicate];done)|exact aU (by assumption)|exact bQ (by assumption));exact rfl;exact rfl;(first|exact True.intro|exact⟨_,rfl,_,rfl,by assumption⟩))|(apply xsE;exact rfl;exact rfl;exact rfl;(first|exact rfl|exact(by simp only[bO,bP,List.length_replicate];done)|exact aU (by assumption)|exact bQ (by assumption));exact rfl;(first|exact True.intro|exact⟨_,rfl,_,rfl,by assumption⟩)))|(apply xno;exact rfl;(first|exact True.intro|exact⟨_,rfl,_,rfl,by assumption⟩))|(apply xbd;exact rfl;(first|(apply Zro.o;(first|exact OfC.i|exact OfC.b|exact OfC.l|exact OfC.s|exact OfC.p))|(apply Zro.a;repeat (first|exact OfCs.n|(apply OfCs.c;(first|exact OfC.i|exact OfC.b|exact OfC.l|exact OfC.s|exact OfC.p)))));(repeat (first|exact Fil.n|(apply Fil.c;exact rfl;(first|exact Cel.a rfl|exact Cel.o rfl rfl|exact Cel.m (fun _=>rfl));exact rfl;exact rfl;(first|exact Spl.w rfl|(repeat (first|exact Spl.d|(apply Spl.p;(first|exact IsA.c|exact IsA.a4|exact IsA.a32|exact IsA.a8|exact IsA.a20|exact IsA.a64);(first|exact IsA.c|exact IsA.a4|exact IsA.a32|exact IsA.a8|exact IsA.a20|exact IsA.a64))|(apply Spl.s;(first|exact IsA.c|exact IsA.a4|exact IsA.a32|exact IsA.a8|exact IsA.a20|exact IsA.a64);exact rfl)))))));(first|exact True.intro|exact⟨_,rfl,_,rfl,by assumption⟩))|(apply xfd;exact rfl;exact rfl;exact rfl;exact rfl;(first|exact True.intro|exact⟨_,rfl,_,rfl,by assumption⟩))|((with_reducible apply aWj);first|(apply xpT;exact rfl;(first|assumption|exact rfl);exact rfl;(first|exact True.intro|exact⟨_,rfl,_,rfl,by assumption⟩))|(apply xpF;exact rfl;(first|assumption|exact rfl);exact rfl;(first|exact True.intro|exact⟨_,rfl,_,rfl,by assumption⟩)))|((with_reducible apply aWw);first|(apply xnp;exact rfl;(first|exact True.intro|exact⟨_,rfl,_,rfl,by assumption⟩))|(apply xne;exact rfl;(first|exact True.intro|exact⟨_,rfl,_,rfl,by assumption⟩)))|(apply xVv;exact rfl;exact rfl)|(apply xXx;exact rfl;exact rfl;assumption))|apply OpsX.nil|((with_reducible apply isA);first|((with_reducible apply xqn);exact rfl)|(with_reducible apply AB.skip)|((with_reducible apply xrn);exact rfl)|(with_reducible apply AB.ret)|(with_reducible apply AB.exit))|(with_reducible apply Ex.then_mk)|(with_reducible apply Ex.inBlock_mk)|(with_reducible apply Ex.then_exit_mk)|(with_reducible apply Ex.inBlock_same_mk)|((with_reducible apply Ex.inBlock_other_mk);exact rfl)|(with_reducible apply Ex.then_ret_mk)|(with_reducible apply Ex.inBlock_ret_mk)));exact kk.1)):p:=h ⟨k⟩
theorem cE {α1:Type}{o1:Option α1}{α2:Type}{o2:α1→Option α2}{β:Type}{k:α1→α2→Option β}{r:β}(h:(o1.bind fun v1=>(o2 v1).bind fun v2=>k v1 v2)=some r): ∃v1,o1=some v1∧ ∃v2,o2 v1=some v2∧k v1 v2=some r:=
 have⟨v1,h1,h⟩:=aL h
 ⟨v1,h1,aL h⟩
theorem fK {α1:Type}{o1:Option α1}{α2:Type}{o2:α1→Option α2}{α3:Type}{o3:α1→α2→Option α3}{β:Type}{k:α1→α2→α3→Option β}{r:β}(h:(o1.bind fun v1=>(o2 v1).bind fun v2=>(o3 v1 v2).bind fun v3=>k v1 v2 v3)=some r): ∃v1,o1=some v1∧ ∃v2,o2 v1=some v2∧ ∃v3,o3 v1 v2=some v3∧k v1 v2 v3=some r:=
 have⟨v1,h1,h⟩:=aL h
 ⟨v1,h1,cE h⟩
theorem aA4 {α1:Type}{o1:Option α1}{α2:Type}{o2:α1→Option α2}{α3:Type}{o3:α1→α2→Option α3}{α4:Type}{o4:α1→α2→α3→Option α4}{β:Type}{k:α1→α2→α3→α4→Option β}{r:β}(h:(o1.bind fun v1=>(o2 v1).bind fun v2=>(o3 v1 v2).bind fun v3=>(o4 v1 v2 v3).bind fun v4=>k v1 v2 v3 v4)=some r): ∃v1,o1=some v1∧ ∃v2,o2 v1=some v2∧ ∃v3,o3 v1 v2=some v3∧ ∃v4,o4 v1 v2 v3=some v4∧k v1 v2 v3 v4=some r:=
 have⟨v1,h1,h⟩:=aL h
 ⟨v1,h1,fK h⟩
theorem aJh {α1:Type}{o1:Option α1}{α2:Type}{o2:α1→Option α2}{α3:Type}{o3:α1→α2→Option α3}{α4:Type}{o4:α1→α2→α3→Option α4}{α5:Type}{o5:α1→α2→α3→α4→Option α5}{β:Type}{k:α1→α2→α3→α4→α5→Option β}{r:β}(h:(o1.bind fun v1=>(o2 v1).bind fun v2=>(o3 v1 v2).bind fun v3=>(o4 v1 v2 v3).bind fun v4=>(o5 v1 v2 v3 v4).bind fun v5=>k v1 v2 v3 v4 v5)=some r): ∃v1,o1=some v1∧ ∃v2,o2 v1=some v2∧ ∃v3,o3 v1 v2=some v3∧ ∃v4,o4 v1 v2 v3=some v4∧ ∃v5,o5 v1 v2 v3 v4=some v5∧k v1 v2 v3 v4 v5=some r:=
 have⟨v1,h1,h⟩:=aL h
 ⟨v1,h1,aA4 h⟩
theorem aOv {α1:Type}{o1:Option α1}{α2:Type}{o2:α1→Option α2}{α3:Type}{o3:α1→α2→Option α3}{α4:Type}{o4:α1→α2→α3→Option α4}{α5:Type}{o5:α1→α2→α3→α4→Option α5}{α6:Type}{o6:α1→α2→α3→α4→α5→Option α6}{β:Type}{k:α1→α2→α3→α4→α5→α6→Option β}{r:β}(h:(o1.bind fun v1=>(o2 v1).bind fun v2=>(o3 v1 v2).bind fun v3=>(o4 v1 v2 v3).bind fun v4=>(o5 v1 v2 v3 v4).bind fun v5=>(o6 v1 v2 v3 v4 v5).bind fun v6=>k v1 v2 v3 v4 v5 v6)=some r): ∃v1,o1=some v1∧ ∃v2,o2 v1=some v2∧ ∃v3,o3 v1 v2=some v3∧ ∃v4,o4 v1 v2 v3=some v4∧ ∃v5,o5 v1 v2 v3 v4=some v5∧ ∃v6,o6 v1 v2 v3 v4 v5=some v6∧k v1 v2 v3 v4 v5 v6=some r:=
 have⟨v1,h1,h⟩:=aL h
 ⟨v1,h1,aJh h⟩
theorem Conv.ptr {α:Type}{E:α→V}{l:List α}{h h':Hp}(hs:Sub h h'){b:Nat}{e:TypeId}(hb:h[b]? =some (some ⟨e,l.map E⟩))(hb':h'[b]? =some none)(hsh: ∀x,(E x).shut=true)(hn:0<l.length):Conv h h' (.ptr b 0) (.eptr [.agg (l.map E)] 0 0):=by
 intro A M w v H hv
 obtain⟨hone,_⟩:=H.blk b _ hb
 unfold VR at hv⊢
 obtain⟨g,sh,hm,rfl,hshp⟩:=hv
 obtain⟨_,⟨hm',_⟩|⟨g',bM,hm',hA,_⟩⟩:=H.blk b _ hb
 ·rw[hm]at hm';cases hm'
 rw[hm]at hm'
 injection hm' with hm'
 injection hm' with hm'
 subst hm'
 obtain⟨vs,hvs,hl⟩:=aGM H hb hm hshp 0
 rw[a16]at hvs
 have hX: ¬Xs A M h' g:=by
  rintro(ha|⟨c,C,hc,hmc⟩)
  ·exact hA ha
  obtain⟨C',hc'⟩:=hs c C hc
  have:=H.inj c b C' _ g hc' hb hmc hm
  subst this
  rw[hb']at hc;cases hc
 have hc2:VCells (Xs A M h') [] w (l.map E) vs:=VCells.mk hvs.len fun i c u hc hu=>by
  obtain⟨u',hu',hr⟩:=hvs.get hc
  rw[hu]at hu'
  injection hu' with hu'
  subst hu'
  have:c.shut=true:=by
   rw[a1Z]at hc
   cases hq:l[i]? with
   |none=>rw[hq]at hc;cases hc
   |some y=>rw[hq]at hc;injection hc with hc;subst hc;exact hsh y
  exact(hr.shut this).avoid (fun _ _ hx=>hs.xs hx)
 refine⟨⟨g,0,none⟩,l.length, ?_,hn,fun _=>hX,rfl, ?_, ?_⟩
 ·simp[Addr.add]
 ·intro e' he'
  rw[a2l]at he'
  subst he'
  simp only[V.okElem,V.flatOk,V.cells,a1O,beq_iff_eq,a14,and_true]
  exact a1S.2 hone
 unfold VRow
 refine⟨⟨.agg vs.toArray,by unfold VR;exact⟨vs,rfl,hc2⟩, ?_, ?_⟩,by unfold VRow;trivial⟩
 ·show vs.toArray.size=l.length
  rw[a17,←hvs.len,a14]
 exact hl
inductive PCv (h h':Hp):List (Nat×V)→List (Nat×V)→Prop
 |n:PCv h h' [] []
 |s {t:Nat} {x:V} {fr fr':List (Nat×V)}:PCv h h' fr fr'→PCv h h' ((t,x)::fr) ((t,x)::fr')
 |r {t b q:Nat} {e:TypeId} {cs:List V} {ag:Bool} {fr fr':List (Nat×V)}:h[b]? =some (some ⟨e,cs⟩)→h'[b]? =some none→cs.all V.shut=true→q=cs.length→PCv h h' fr fr'→PCv h h' ((t,.sl b 0 q 1 ag)::fr) ((t,.row none 1 cs)::fr')
 |p {α:Type} {E:α→V} {l:List α} {t b:Nat} {e:TypeId} {fr fr':List (Nat×V)}:h[b]? =some (some ⟨e,l.map E⟩)→h'[b]? =some none→(∀x,(E x).shut=true)→a1Q 1 l.length=true→PCv h h' fr fr'→PCv h h' ((t,.ptr b 0)::fr) ((t,.eptr [.agg (l.map E)] 0 0)::fr')
 |k {α:Type} {C:α→List V} {K:Nat} {l:List α} {t b q:Nat} {e:TypeId} {fr fr':List (Nat×V)}:h[b]? =some (some ⟨e,l.flatMap C⟩)→h'[b]? =some none→(∀x,(C x).length=K)→(∀x,(C x).all V.one=true)→(∀x,(C x).all V.shut=true)→q=l.length→PCv h h' fr fr'→PCv h h' ((t,.sl b 0 q K true)::fr) ((t,.row none K (l.map fun x=>V.agg (C x)))::fr')
theorem PCv.get {h h':Hp}(hs:Sub h h'){fr fr':List (Nat×V)}(p:PCv h h' fr fr'): ∀(t:Nat)(y:V),eV fr' t=some y→ ∃x,eV fr t=some x∧Conv h h' x y:=by
 induction p with
 |n=>intro t y hy;cases hy
 | @s u x fr fr' _ ih=>
  intro t y hy
  simp only[eV]at hy⊢
  cases hb:a2h u t with
  |true=>rw[hb]at hy;simp only[cond_true,a1M]at hy ⊢; subst hy;exact⟨x,rfl,Conv.same hs⟩
  |false=>rw[hb]at hy;exact ih t y hy
 | @r u b q e cs ag fr fr' h1 h2 h3 h4 _ ih=>
  intro t y hy
  simp only[eV]at hy⊢
  cases hb:a2h u t with
  |true=>rw[hb]at hy;simp only[cond_true,a1M]at hy ⊢; subst hy;exact⟨_,rfl,Conv.row hs h1 h2 h3 h4⟩
  |false=>rw[hb]at hy;exact ih t y hy
 | @p α E l u b e fr fr' h1 h2 h3 h4 _ ih=>
  intro t y hy
  simp only[eV]at hy⊢
  cases hb:a2h u t with
  |true=>rw[hb]at hy;simp only[cond_true,a1M]at hy ⊢; subst hy;exact⟨_,rfl,Conv.ptr hs h1 h2 h3 (a1K h4)⟩
  |false=>rw[hb]at hy;exact ih t y hy
 | @k α C K l u b q e fr fr' h1 h2 h3 h4 h5 h6 _ ih=>
  intro t y hy
  simp only[eV]at hy⊢
  cases hb:a2h u t with
  |true=>rw[hb]at hy;simp only[cond_true,a1M]at hy ⊢; subst hy;exact⟨_,rfl,a2t h3 h4 h5 hs h1 h2 h6⟩
  |false=>rw[hb]at hy;exact ih t y hy
theorem Ghost.fz {N n b:Nat}{fr fr':List (Nat×V)}{h h':Hp}(he:h.set b none=h')(hp:PCv h h' fr fr'):Ghost N (aG n fr) h (aG n fr') h':=by
 subst he
 have hg: ∀{j:Nat}{B:Blk},(h.set b none)[j]? =some (some B)→h[j]? =some (some B):=by
  intro j B hj
  by_cases hij:b=j
  ·subst hij
   rw[List.getElem?_set]at hj
   split at hj
   ·split at hj<;>cases hj
   rename_i hne;exact absurd rfl hne
  rwa[a2e hij]at hj
 have hs:Sub h (h.set b none):=fun j B hj=>⟨B,hg hj⟩
 intro A M a w hN R
 refine⟨M,rfl,⟨⟨by rw[a2s];exact R.hr.len,R.hr.alt, ?_, ?_,R.hr.glob.avoid fun g _ hx=>hx.elim .inl (fun hl=> .inr (hs.live hl))⟩, ?_,R.defers⟩,fun g hl=>hs.live hl⟩
 ·intro j B hj
  obtain⟨h1,h2⟩:=R.hr.blk j B (hg hj)
  refine⟨h1, ?_⟩
  rcases h2 with⟨hn,hc0⟩|⟨g,cs,hgm,hA,hw,hle,hcs⟩
  ·exact .inl ⟨hn,hc0⟩
  exact .inr ⟨g,cs,hgm,hA,hw,hle,hcs.avoid (fun g _ hx=>hs.xs hx)⟩
 ·intro i j B C g hi hj mi mj
  exact R.hr.inj i j B C g (hg hi) (hg hj) mi mj
 exact aFJ R.sr (fun t y hy=>by
  obtain⟨x,hx,hl⟩:=hp.get hs t y hy
  exact⟨x,hx,fun v hv=>hl A M w v R.hr hv⟩)
theorem zv {N n:Nat}{fr fr':List (Nat×V)}{h h':Hp}(b:Nat) (he:LSet h b none h':=by(repeat (first|exact LSet.z|apply LSet.s)))
  (hp:PCv h h' fr fr':=by(repeat (first|exact PCv.n|(apply PCv.p;exact rfl;exact rfl;exact(fun _=>rfl);(first|exact rfl|exact aSg (by assumption) rfl|exact arp_pos (by assumption) rfl))|(apply PCv.r;exact rfl;exact rfl;exact aQc (fun _=>rfl);(first|exact rfl|exact(by rw[List.length_map];first|exact(aU (by assumption)).symm|exact(bQ (by assumption)).symm)|exact(by simp only[List.length_map,bO,bP];done)))|(apply PCv.k;exact rfl;exact rfl;exact(fun _=>rfl);exact(fun _=>rfl);exact(fun _=>rfl);(first|exact rfl|exact(by simp only[bO,bP])))|apply PCv.s))):Ghost N (aG n fr) h (aG n fr') h':=Ghost.fz he.eq hp
theorem aWQ {vn:Nat→Bool}{f:Nat→Nat}{c d:V}{cs ds:List V}(h:V.le vn c (d.rn f))(k:V.les vn cs (V.rns f ds)):V.les vn (c::cs) (V.rns f (d::ds)):=by
 simp only[V.rns];exact V.les_cons h k
theorem lev {p:Prop} (h:p:=by(repeat (first|exact V.les_refl _ _|exact V.les_nil|exact V.le_refl _ _|exact V.le_nil|exact V.le_row|exact V.le_arr (fun _=>rfl)|exact V.le_virt rfl|exact aFL (fun _=>rfl) _|exact aAX (fun _=>rfl) _|apply aWQ|apply les_b32|apply les_b4|apply les_b8|apply les_b20|apply les_b64|apply le_a|apply le_t|exact(by simp only[bO,bP];exact V.le_refl _ _)))):p:=h
theorem aNL {p:Prop} (h:p:=by first|exact rfl|exact all_map (fun _=>rfl) _|exact hY (fun _=>rfl) _):p:=h
theorem zg' {N n:Nat}{fr fr':List (Nat×V)}{h h':Hp}(σ:List Nat)
  (hf:FLe wP (V.rn (sg σ h.length)) fr fr':=by(repeat (first|exact FLe.nil|refine FLe.same rfl ?_|refine FLe.le rfl lev ?_)))
  (hh:HLe (sg σ h.length) h σ h':=by(repeat (first|exact HLe.nil|refine HLe.dead ?_|refine HLe.live rfl lev aNL ?_)))
  (hσ:σ.take N=List.range N:=by rfl) (hlt:σ.all (fun b=>Nat.blt b h.length)=true:=by rfl) (hnd:ndB (lvs σ h')=true:=by rfl):Ghost N (aG n fr) h (aG n fr') h':=Ghost.rn σ hσ hlt hf hh hnd
theorem FLe.mapg {vn:Nat→Bool}{g:V→V}{fr:List (Nat×V)}: ∀{fr':List (Nat×V)},FLe vn g fr fr'→FLe vn id fr (fr'.map fun p=>(p.1,g p.2))
 | [],_=>FLe.nil
 |(t,y)::r,h=>⟨h.1,FLe.mapg h.2⟩
theorem aRh {g:V→V}: ∀{fr:List (Nat×V)}{t:Nat}{y:V},eV fr t=some y→eV (fr.map fun p=>(p.1,g p.2)) t=some (g y)
 | [],_,_,h=>by cases h
 |(u,x)::r,t,y,h=>by
  simp only[eV,a1L]at h⊢
  cases hb:a2h u t with
  |true=>rw[hb]at h;simp only[cond_true,a1M]at h ⊢; rw[h]
  |false=>rw[hb]at h;exact aRh h
theorem FLe.ofmap {g:V→V}{L:List (Nat×V)}: ∀{fr:List (Nat×V)},(∀t y,(t,y)∈fr→eV L t=some y)→FLe wP g (L.map fun p=>(p.1,g p.2)) fr
 | [],_=>FLe.nil
 |(t,y)::r,h=>FLe.same (aRh (h t y (by simp))) (FLe.ofmap fun u z hz=>h u z (by simp[hz]))
def aKq :List (Nat×V)→List (Nat×V)→Bool
 |_,[]=>true
 |L,(t,_)::r=> !((r.map (·.1)).elem t)&&aKq L r
theorem aTA : ∀{L:List (Nat×V)},aKq L L=true→ ∀t y,(t,y)∈L→eV L t=some y:=by
 have key: ∀{K L:List (Nat×V)},aKq K L=true→ ∀t y,(t,y)∈L→eV L t=some y:=by
  intro K L
  induction L with
  |nil=>intro _ t y h;cases h
  |cons p r ih=>
   obtain⟨u,x⟩:=p
   intro h t y hm
   simp only[aKq,a1O,Bool.not_eq_true']at h
   simp only[eV]
   rcases List.mem_cons.1 hm with he|hm
   ·cases he;simp
   have:u≠t:=fun he=>by
    subst he
    have h1:(r.map (·.1)).elem u=true:=List.elem_eq_true_of_mem (List.mem_map.2 ⟨_,hm,rfl⟩)
    rw[h1]at h;exact absurd h.1 (by simp)
   have hb:a2h u t=false:=by
    cases hb:a2h u t with
    |true=>exact absurd (Nat.eq_of_beq_eq_true hb) this
    |false=>rfl
   rw[hb];exact ih h.2 t y hm
 exact fun{L} h=>key h
theorem zW {N n:Nat}{fr fr':List (Nat×V)}{h h':Hp}(e:TypeId)(σ:List Nat)
  (hf:FLe (fun b=>Nat.beq b h.length) (V.rn (sg σ (h++[some (Blk.mk e [])]).length)) fr fr':=by(repeat (first|exact FLe.nil|refine FLe.same rfl ?_|refine FLe.le rfl lev ?_)))
  (h1:HLv (fun b=>Nat.beq b h.length) h h:=by(repeat (first|exact HLv.nil|refine HLv.dead ?_|refine HLv.live (V.les_refl _ _) aNL ?_)))
  (hh:HLe (sg σ (h++[some (Blk.mk e [])]).length) (h++[some (Blk.mk e [])]) σ h':=by(repeat (first|exact HLe.nil|refine HLe.dead ?_|refine HLe.live rfl lev aNL ?_)))
  (hσ:σ.take N=List.range N:=by rfl) (hlt:σ.all (fun b=>Nat.blt b (h++[some (Blk.mk e [])]).length)=true:=by rfl) (hnd:ndB (lvs σ h')=true:=by rfl) (hk:aKq fr' fr'=true:=by rfl):Ghost N (aG n fr) h (aG n fr') h':=
 Ghost.trans (Ghost.virt e hf.mapg h1) (Ghost.rn σ hσ hlt (FLe.ofmap (aTA hk)) hh hnd)
section
variable {P:Program}{fn:Func}{n N:Nat}{fr:List (Nat×V)}{s:List V}{h h':Hp}{r a b c x:V}{o p:Nat}{e:TypeId}{cs ds:List V}{t u w:Nat}{ty:TypeId}
inductive RsV (P:Program)(n:Nat)(fr:List (Nat×V))(h:Hp):ResultVar→V→Prop
 |t {t:Nat} {x:V}:bX n fr (.tmp t)=some x→RsV P n fr h (.tmp t) x
 |c {t i o:Nat} {ty:TypeId} {v:V}:bX n fr (.tmp t)=some (.ptr i o)→eM P ty h (.ptr i o)=some v→RsV P n fr h (.cell t ty) v
theorem RsV.eq {q:ResultVar}(hr:RsV P n fr h q x):iP P (aG n fr) h q=some x:=by
 cases hr with
 |t h1=>exact rvT h1
 |c h1 h2=>exact rvC h1 h2
theorem lvN {fs:Array Field}{sz by_:Nat}{zz:Value} [T:TiC P ty ⟨.struct fs,sz,by_,zz⟩] (hb:h[o]? =some (some ⟨e,cs⟩)) (hc:Tak cs p sz ds):eM P ty h (.ptr o p)=some (.agg ds):=ldP hb (mU T.h rfl hc.eq.2 hc.eq.1)
theorem lvB {α:Type}{E:α→V}{ml:List α}{N' sz by_:Nat}{zz:Value}{w:TypeId} [T:TiC P ty ⟨.array N' w,sz,by_,zz⟩] (hb:h[o]? =some (some ⟨e,ml.map E⟩)) (hz:sz=N') (hl:ml.length=N'):eM P ty h (.ptr o 0)=some (.agg (ml.map E)):=ldA T.h hz hb hl
theorem zr1 {q:ResultVar}(hr:fn.results= #[q])(ha:RsV P n fr h q a)(hg:Ghost N (aG 1 [(0,a)]) h (aG 1 [(0,r)]) h'):aCG P fn N r h' .ret (aG n fr) h:=aF0 (aQg hr ha.eq) hg
theorem zr2 {q q':ResultVar}(hr:fn.results= #[q,q'])(ha:RsV P n fr h q a)(hb:RsV P n fr h q' b)(hg:Ghost N (aG 1 [(0,.tup [a,b])]) h (aG 1 [(0,r)]) h'):aCG P fn N r h' .ret (aG n fr) h:=aF0 (cN hr ha.eq hb.eq) hg
theorem zr3 {q q' q'':ResultVar}(hr:fn.results= #[q,q',q''])(ha:RsV P n fr h q a)(hb:RsV P n fr h q' b)(hc:RsV P n fr h q'' c)(hg:Ghost N (aG 1 [(0,.tup [a,b,c])]) h (aG 1 [(0,r)]) h'):aCG P fn N r h' .ret (aG n fr) h:=aF0 (aBW hr ha.eq hb.eq hc.eq) hg
theorem zr4 {d:V}{q q' q'' q4:ResultVar}(hr:fn.results= #[q,q',q'',q4])(ha:RsV P n fr h q a)(hb:RsV P n fr h q' b)(hc:RsV P n fr h q'' c)(hd:RsV P n fr h q4 d)(hg:Ghost N (aG 1 [(0,.tup [a,b,c,d])]) h (aG 1 [(0,r)]) h'):aCG P fn N r h' .ret (aG n fr) h:=aF0 (by simp[aBN,hr,ha.eq,hb.eq,hc.eq,hd.eq]) hg
theorem zn0 (hr:fn.results= #[])(hg:Ghost N (aG 1 [(0,.tup [])]) h (aG 1 [(0,r)]) h'):aCG P fn N r h' .normal s h:=aTr (a0Z hr) hg
end
theorem fW {p:Prop} (h:p:=by first|exact RsV.t rfl|(apply RsV.c;exact rfl;first|(apply lv1;exact rfl;exact rfl;exact rfl)|(apply lvB;exact rfl;exact rfl;first|exact rfl|exact aU (by assumption)|exact bQ (by assumption))|(apply lvN;exact rfl;exact Tak.w rfl))):p:=h
section
variable {P:Program}{N n:Nat}{ops:Array Oper}{l:List Oper}{fr:List (Nat×V)}{h h':Hp}{K:List V→Hp→Prop}
theorem xOf {s:List V}(k:OpsX P N none ops l s h K):OpsW P N ops l s h K:=k
theorem xHp {m:Option (List Nat×List Nat)}{s:List V}{h':Hp}(e:h=h')(k:OpsX P N m ops l s h' K):OpsX P N m ops l s h K:=e▸k
end
theorem aWh {P:Program}{h h':Hp}{t e:TypeId}{ti:TI}{i sz by_:Nat}{z:Value}{ag:Bool}(ht:aM P t=some ⟨.slice e,sz,by_,z⟩)(he:aM P e=some ti)(hs:ti.size=1)(hag:cB ti.desc=ag)(hl:h.length=i)(hh:h++[some ⟨e,[]⟩]=h'):gJ P t 0 [] h=some (.sl i 0 0 1 ag,h'):=by
 subst hl hh hag
 unfold gJ
 rw[ht]
 simp only[he,hs]
 rfl
theorem aVR {C:List Int→List V}{E:Int→V}{K:Nat}{l:List (List Int)}{hE:Hp}{b q d:Nat}{e:TypeId}(hC: ∀x,(C x).length=K)(hK:0<K)(hcx: ∀x∈l,C x=x.map E)(hn:l.length=q)(hb:hE[b]? =some (some ⟨e,l.flatMap C⟩))(hx: ∀x,(C x).mapM (c9 hE d)=some (C x)):c9 hE (d+1) (.sl b 0 q K true)=some (.row none K (l.map (eA E))):=by
 have:=aLO (d:=d) hC hK hn hb hx
 rwa[show(l.map fun x=>V.agg (C x))=l.map (eA E)from a2g fun x hx=>by rw[hcx x hx]]at this
theorem aLn {C:List Int→List V}{E:Int→V}{K:Nat}{l:List (List Int)}{hE:Hp}{b q:Nat}{e:TypeId}(hC: ∀x,(C x).length=K)(hK:0<K)(hcx: ∀x∈l,C x=x.map E)(hn:l.length=q)(hb:hE[b]? =some (some ⟨e,l.flatMap C⟩))(hx: ∀x,(C x).mapM (c9 hE 3)=some (C x)):sG hE (.sl b 0 q K true)=some (.row none K (l.map (eA E))):=aVR hC hK hcx hn hb hx
theorem aX9 {α:Type}{by_:Nat}{y:α}{l m r:List α}(h:b6 by_ (y::l) m=some r):0<r.length:=by
 unfold b6 at h
 split at h
 ·injection h with h;subst h;simp
 cases h
theorem aXZ {α:Type}{l r:List α}{a:Int}(h:sub l a (l.length:Int)=some r)(h2:decide (a=(l.length:Int))=false):0<r.length:=by
 have h2:=of_decide_eq_false h2
 unfold sub at h
 split at h
 ·rename_i hc;injection h with h;subst h
  simp only[a2o,a11]
  omega
 cases h
theorem aXv {α:Type}{l:List α}{i:Int}{y:α}(h:aW l i=some y):0<l.length:=by
 obtain⟨h1,h2,_⟩:=d9 h
 omega
theorem Conv.ptrS {l:List V}{h h':Hp}(hs:Sub h h'){b:Nat}{e:TypeId}(hb:h[b]? =some (some ⟨e,l⟩))(hb':h'[b]? =some none)(hsh:l.all V.shut=true)(hn:0<l.length):Conv h h' (.ptr b 0) (.eptr [.agg l] 0 0):=by
 intro A M w v H hv
 obtain⟨hone,_⟩:=H.blk b _ hb
 unfold VR at hv⊢
 obtain⟨g,sh,hm,rfl,hshp⟩:=hv
 obtain⟨_,⟨hm',_⟩|⟨g',bM,hm',hA,_⟩⟩:=H.blk b _ hb
 ·rw[hm]at hm';cases hm'
 rw[hm]at hm'
 injection hm' with hm'
 injection hm' with hm'
 subst hm'
 obtain⟨vs,hvs,hl⟩:=aGM H hb hm hshp 0
 rw[a16]at hvs
 have hX: ¬Xs A M h' g:=by
  rintro(ha|⟨c,C,hc,hmc⟩)
  ·exact hA ha
  obtain⟨C',hc'⟩:=hs c C hc
  have:=H.inj c b C' _ g hc' hb hmc hm
  subst this
  rw[hb']at hc;cases hc
 have hc2:VCells (Xs A M h') [] w l vs:=VCells.mk hvs.len fun i c u hc hu=>by
  obtain⟨u',hu',hr⟩:=hvs.get hc
  rw[hu]at hu'
  injection hu' with hu'
  subst hu'
  have:c.shut=true:=a1S.1 hsh c (List.mem_of_getElem? hc)
  exact(hr.shut this).avoid (fun _ _ hx=>hs.xs hx)
 refine⟨⟨g,0,none⟩,l.length, ?_,hn,fun _=>hX,rfl, ?_, ?_⟩
 ·simp[Addr.add]
 ·intro e' he'
  rw[a2l]at he'
  subst he'
  simp only[V.okElem,V.flatOk,V.cells,a1O,beq_iff_eq,and_true]
  exact a1S.2 hone
 unfold VRow
 refine⟨⟨.agg vs.toArray,by unfold VR;exact⟨vs,rfl,hc2⟩, ?_, ?_⟩,by unfold VRow;trivial⟩
 ·show vs.toArray.size=l.length
  rw[a17,←hvs.len]
 exact hl
theorem aW7 {E:Int→V}{l:List Int}{r:List V}{k:Nat}(hk:k<32):(aN E l r)[k]? =some (E (l.getD k 0)):=by
 have:aN E l r=(a2d 32).map (fun i=>E (l.getD i 0))++r:=rfl
 rw[this,List.getElem?_append_left (by simpa using hk),a1Z,a2f hk]
 rfl
section
variable {P:Program}{h h':Hp}{t e:TypeId}{ti:TI}{i off b N K q:Nat}{v x:V}{E:Int→V}{l:List Int}{y:Int}{k k2:IntKind}{j:Int}{sz by_:Nat}{z:Value}{ag:Bool}{cs r:List V}
theorem aOq (hp:iK P t (x.cells.drop off)=some v):eM P t h (.eptr [x] 0 off)=some v:=by
 simp only[eM,a1V]
 exact hp
theorem iaE {es:List V}(ht:aM P t=some ⟨.array N e,sz,by_,z⟩)(he:aM P e=some ti)(h1:ti.size=1)(hx:cC N l j=some y):fT P t (.eptr es 0 off) (.sc (.int k j))=some (.eptr es 0 (off+j.toNat)):=by
 obtain⟨h2,h3,_⟩:=d9 (fJ hx)
 simp[fT,ht,nQ,he,h1,h2,aIo hx]
theorem aNE (ht:aM P t=some ti)(hd:cB ti.desc=false)(hx:cC 32 l j=some y):eM P t h (.eptr [.agg (aN E l r)] 0 (0+j.toNat))=some (E y):=by
 have h5:=aIo hx
 obtain⟨h2,h3,h4⟩:=d9 (fJ hx)
 have hk:j.toNat<32:=by omega
 simp only[eM,a1V,V.cells,a2m]
 refine lW ht hd ?_
 rw[List.head?_drop,aW7 hk,a1R,h4]
 rfl
theorem aUo (ht:aM P t=some ⟨.array 32 e,sz,by_,z⟩)(he:aM P e=some ti)(h1:ti.size=1)(hag:cB ti.desc=false)(hl:l.length=32):jV P t h (.eptr [.agg (aN E l r)] 0 0) none none=some (.row none 1 (l.map E)):=by
 simp only[jV,ht,he,nG,yG,a1V]
 have hc:(V.agg (aN E l r)).cells=l.map E++r:=xY hl r
 rw[if_pos ⟨h1,hag,a12 _,by omega,a12 _,by rw[hc];simp[hl]⟩,hc]
 simp[hl,List.take_append_of_le_length,a1X]
end
section
variable {P:Program}{h h':Hp}{t e:TypeId}{ti:TI}{i b K q sz by_:Nat}{z:Value}{ag:Bool}{α:Type}{l m x:List α}{C:α→List V}
theorem a1w {lo:Option V}{k1 k2:IntKind}{c:Int}(hq:l.length=q)(ht:aM P t=some ⟨.slice e,sz,by_,z⟩)(he:aM P e=some ti)(h1:nG lo=some 0)(hs:sub l 0 c=some x):y5 P t (.sl b 0 q K ag) lo (.sc (.int k1 c)) (.sc (.int k2 c))=some (.sl b 0 x.length K ag):=by
 subst hq
 unfold sub at hs
 split at hs
 ·rename_i hc
  injection hs with hs
  have hl:x.length=c.toNat:=by rw[←hs];simp;omega
  simp only[y5,ht,h1,nQ,he]
  rw[if_pos ⟨trivial,trivial,by omega,by omega⟩,hl]
 cases hs
theorem a0t {lo:Option V}{a:Int}(hq:l.length=q)(ht:aM P t=some ⟨.slice e,sz,by_,z⟩)(he:aM P e=some ti)(hK:ti.size=K)(h1:nG lo=some a)(ha:a=(l.length:Int))(hp:0<l.length):jV P t h (.sl b 0 q K ag) lo none=some (.row none K []):=by
 subst hq hK ha
 simp only[jV,ht,he,h1,yG]
 rw[if_pos ⟨trivial,by omega,a12 _,a12 _⟩,if_neg (by omega),if_neg (by omega)]
theorem aPJ (hC: ∀x,(V.agg (C x)).cells=C x)(l:List α):(l.map fun x=>V.agg (C x)).flatMap V.cells=l.flatMap C:=by
 induction l with
 |nil=>rfl
 |cons x l ih=>simp only[a1L,a1Y,ih,hC]
theorem a0m (hC: ∀x,(C x).length=K)(ht:aM P t=some ⟨.slice e,sz,by_,z⟩)(he:aM P e=some ti)(h1:ti.zero.cells.size=K∧ti.size=K∧1≤ti.bytes∧0<K){s:V}(hs:fM h K s=some (m.flatMap C,m.length))(hm:0<m.length)(hag:cB ti.desc=ag)
  {r:List α} (ha:b6 ti.bytes l m=some r) (hl:h.length=i) (hh:h++[some ⟨e,r.flatMap C⟩]=h'):g6 P t t (.row (some false) K (l.map fun x=>V.agg (C x))) s h=some (.sl i 0 r.length K ag,h'):=by
 obtain⟨h2,h3,h4,h5⟩:=h1
 have hf:=aPJ (C:=C) (fun _=>rfl) l
 unfold b6 at ha
 split at ha
 ·rename_i hlim
  injection ha with ha
  subst ha hl hh hag
  have hx:fM h ti.size s=some (m.flatMap C,m.length):=by rw[h3];exact hs
  simp only[g6,ne_eq,not_true,if_false,ht,he]
  rw[if_pos ⟨by rw[h2,h3],by omega,h4⟩]
  simp only[hx]
  rw[if_pos ⟨.inr h3.symm,hm,by simpa using hlim⟩]
  simp[h3,hf]
 cases ha
end
def u8s (l:List Int):ByteArray:=⟨(l.map fun x=>x.toNat.toUInt8).toArray⟩
def aQS (a b:List Int):Int:=Extern.BytealgCompare.cmp (u8s a) (u8s b)
theorem aJU {P:Program}{X:Nat→Prop}{w:World}: ∀(l:List Int)(ad:Addr)(acc:List UInt8),ad.spot=none→VRow X [] w 1 (l.map (eI .u8)) ad→(Extern.Bytes.loadBytes ad l.length ⟨acc.toArray⟩).run P w= .ok ⟨(acc++l.map fun x=>x.toNat.toUInt8).toArray⟩ w
 | [],ad,acc,_,_=>by simp[Extern.Bytes.loadBytes]
 |x::l,ad,acc,hsp,h=>by
  simp only[a1L]at h
  unfold VRow at h
  obtain⟨⟨v,hv,hs,hl⟩,hr⟩:=h
  unfold VR at hv
  subst hv
  have hc:w.cell? ad=some (.int .u8 x):=by
   have:=hl 0 (.int .u8 x) rfl
   simpa[Addr.add]using this
  have ih:=aJU (P:=P) l (ad.add 1) (acc++[x.toNat.toUInt8]) (aJI _ _ hsp) hr
  simp only[a2n,Extern.Bytes.loadBytes,Sem.run_bind,Go.run_load,hc,Result.andThen]
  have hp:(⟨acc.toArray⟩:ByteArray).push x.toNat.toUInt8=⟨(acc++[x.toNat.toUInt8]).toArray⟩:=by
   simp[ByteArray.push]
  rw[hp,ih]
  simp
theorem aXX {P:Program} {f:FuncId} {fn:Func} (hf:P.funcs[f]? =some fn) (hn:(fn.name == "runtime.NumGoroutine")=false) (hb:fn.body.isNone=true) (h1:Extern.findNext fn=none) (h2:Extern.find fn=some Extern.BytealgCompare.compare) (a b:List Int):Fn P f [] [.row none 1 (a.map (eI .u8)),.row none 1 (b.map (eI .u8))] (eI .i64 (aQS a b)) []:=by
 have key: ∀(X:Nat→Prop)(w:World)(l:List Int)(v:Value),VR X [] w (.row none 1 (l.map (eI .u8))) v→(Extern.Bytes.bytesOf v).run P w= .ok (u8s l) w:=by
  intro X w l v hv
  unfold VR at hv
  obtain⟨a,cap,rfl,hc,hn,_,_,hr⟩:=hv
  rw[a14]at hc⊢
  cases a with
  |none=>
   have h0:=hn rfl
   obtain rfl:l=[]:=List.eq_nil_of_length_eq_zero (by omega)
   rfl
  |some ad=>
   cases l with
   |nil=>rfl
   |cons x l=>
    obtain⟨ad',ha,_,_,hsp,hrow⟩:=hr (by simp)
    injection ha with ha
    subst ha
    have:=aJU (P:=P) (x::l) ad [] hsp hrow
    show Sem.run P (Extern.Bytes.loadBytes ad (x::l).length ⟨([]:List UInt8).toArray⟩) w=_
    rw[this]
    rfl
 refine aQX hf hn hb h1 h2 fun X M w vs hv=> ?_
 unfold VCells at hv
 obtain⟨v,rest,rfl,hv,hr⟩:=hv
 unfold VCells at hr
 obtain⟨u,rest,rfl,hu,hr⟩:=hr
 unfold VCells at hr
 subst hr
 refine⟨.int .i64 (aQS a b), ?_,by unfold VR;rfl⟩
 show Sem.run P (do pure (goInt (Extern.BytealgCompare.cmp (←Extern.Bytes.bytesOf v) (←Extern.Bytes.bytesOf u)))) w=_
 rw[Sem.run_bind,key X w a v (VR.shut rfl hv),Result.andThen_ok,Sem.run_bind,key X w b u (VR.shut rfl hu),Result.andThen_ok]
 rfl
inductive FCw (h h':Hp):List (Nat×V)→List (Nat×V)→Prop
 |n:FCw h h' [] []
 |c {t:Nat} {x y:V} {fr fr':List (Nat×V)}:Conv h h' x y→FCw h h' fr fr'→FCw h h' ((t,x)::fr) ((t,y)::fr')
theorem FCw.get {h h':Hp}{fr fr':List (Nat×V)}(p:FCw h h' fr fr'): ∀{t:Nat}{y:V},eV fr' t=some y→ ∃x,eV fr t=some x∧Conv h h' x y:=by
 induction p with
 |n=>intro t y hy;cases hy
 | @c u x z fr fr' hc _ ih=>
  intro t y hy
  simp only[eV]at hy⊢
  cases hb:a2h u t with
  |true=>rw[hb]at hy;simp only[cond_true,a1M]at hy ⊢; subst hy;exact⟨x,rfl,hc⟩
  |false=>rw[hb]at hy;exact ih hy
inductive HCf (H H':Hp):List Nat→Hp→Hp→Prop
 |n:HCf H H' [] [] []
 |d {fz:List Nat} {o:Option Blk} {h h':Hp}:HCf H H' fz h h'→HCf H H' (0::fz) (o::h) (none::h')
 |l {fz:List Nat} {e:TypeId} {cs cs':List V} {h h':Hp}:HCf H H' fz h h'→Convs H H' cs cs'→cs'.all V.one=true→HCf H H' (1::fz) (some ⟨e,cs⟩::h) (some ⟨e,cs'⟩::h')
theorem HCf.ok {H H':Hp}{fz:List Nat}{h h':Hp}(p:HCf H H' fz h h'):HCv H H' h h':=by
 induction p with
 |n=>exact HCv.nil
 |d _ ih=>exact HCv.dead ih
 |l _ hc ho ih=>exact HCv.live hc ho ih
theorem zsb {p:Prop} (h:p:=by exact aDd rfl):p:=h
theorem zln {p:Prop} (h:p:=by first|exact rfl|(simp only[List.length_map,bO,bP];done)|exact(by rw[List.length_map];first|exact(aU (by assumption)).symm|exact(bQ (by assumption)).symm)):p:=h
theorem cvK {α:Type}{C:α→List V}{K:Nat}{l:List α}{h h':Hp}{b n:Nat}{e:TypeId}(hb:h[b]? =some (some ⟨e,l.flatMap C⟩))(hb':h'[b]? =some none)(hC: ∀x,(C x).length=K)(h1K: ∀x,(C x).all V.one=true)(hsh: ∀x,(C x).all V.shut=true)(hs:Sub h h')(hn:n=l.length):Conv h h' (.sl b 0 n K true) (.row none K (l.map fun x=>V.agg (C x))):=a2t hC h1K hsh hs hb hb' hn
theorem cvA {C:List Int→List V}{E:Int→V}{K:Nat}{l:List (List Int)}{h h':Hp}{b n:Nat}{e:TypeId}(hb:h[b]? =some (some ⟨e,l.flatMap C⟩))(hb':h'[b]? =some none)(hC: ∀x,(C x).length=K)(h1K: ∀x,(C x).all V.one=true)(hsh: ∀x,(C x).all V.shut=true)(hcx: ∀x∈l,C x=x.map E)(hs:Sub h h')(hn:n=l.length):Conv h h' (.sl b 0 n K true) (.row none K (l.map (eA E))):=Conv.rowKA hC h1K hsh hcx hs hb hb' hn
theorem zc0 {p:Prop} (h:p:=by first
  |((with_reducible apply Conv.row);exact zsb;exact rfl;exact rfl;exact aQc (fun _=>rfl);exact zln)
  |((with_reducible apply cvA);exact rfl;exact rfl;exact(fun _=>rfl);exact(fun _=>rfl);exact(fun _=>rfl);(first|exact(fun x hx=>dJ (aJt (by assumption) x hx))|exact List.forall_mem_nil _|exact List.forall_mem_cons.2 ⟨dJ (aU (by assumption)),List.forall_mem_nil _⟩);exact zsb;exact zln)
  |((with_reducible apply cvK);exact rfl;exact rfl;exact(fun _=>rfl);exact(fun _=>rfl);exact(fun _=>rfl);exact zsb;exact zln)
  |((with_reducible apply Conv.ptr);exact zsb;exact rfl;exact rfl;exact(fun _=>rfl);(first|exact Nat.le_of_ble_eq_true rfl|exact Nat.le_of_ble_eq_true (aSg (by assumption) rfl)|exact Nat.le_of_ble_eq_true (arp_pos (by assumption) rfl)))
  |((with_reducible apply Conv.ptrS);exact zsb;exact rfl;exact rfl;exact rfl;exact Nat.le_of_ble_eq_true rfl)):p:=h
theorem zcs {p:Prop} (h:p:=by(repeat (first|exact Convs.nil|((with_reducible apply Convs.cons);first|exact zc0|exact Conv.same zsb)|((with_reducible apply aUR);exact(fun _=>Conv.same zsb))|((with_reducible apply aXa);exact(fun _=>Conv.same zsb))|exact Convs.same zsb));done):p:=h
theorem zcv {p:Prop} (h:p:=by first|exact zc0|((with_reducible apply Conv.agg);exact zcs)|exact Conv.same zsb):p:=h
theorem zct {p:Prop} (h:p:=by(repeat (first|exact Convs.nil|((with_reducible apply Convs.cons);exact zcv)));done):p:=h
theorem zqf {N n:Nat}{fr fr':List (Nat×V)}{h h':Hp}(fz:List Nat)
  (hh:HCf h h' fz h h':=by((repeat (first|exact HCf.n|apply HCf.d|apply HCf.l));all_goals first|exact aNL|exact zcs))
  (hf:FCw h h' fr fr':=by(repeat (first|exact FCw.n|(apply FCw.c;first|exact zc0|((with_reducible apply Conv.tup);exact zct)|exact zcv)))):Ghost N (aG n fr) h (aG n fr') h':=Ghost.conv0 (fun _ _ hy=>hf.get hy) hh.ok
end Go.Vm
