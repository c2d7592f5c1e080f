/- Texts of ours, joined: VmY, VmZ, Forms, Forms2, Sh, OpenArr, OpenS, Plain1, Plain2, PlainQ1, PlainQL. -/
import Derived.Test.YtjcfonniipabpaaGreatDoorQConsoleAll3
import Derived.Lib.Join
import Derived.Lib.ItoaNum
import Derived.Lib.Bytealg
import Derived.OpenShut
open Go.IntKind renaming i64 → aOg,u32 → aOk,u8 → aOp,u64 → aOt,max → aOC
open List renaming replicate → aOh,drop_eq_nil_of_le → aOm,length_replicate → aOo,append_assoc → aOr,replicate_succ → aOu,nil_append → aOv,map_cons → aOw,takeWhile_cons_of_pos → aOx,takeWhile_append_dropWhile → aOz,length_set → aOB,length_append → aOD,drop_zero → aOE,drop_eq_getElem_cons → aOF,drop_append → aOH,take_of_length_le → aOI,length_map → aOJ,getElem?_eq_none → aOK,getElem?_set_ne → aOL,drop_drop → aOM,length_pos_iff → aON,take_append → aOP,all_eq_true → aOQ
open Option renaming bind_some → aOi
open Nat renaming le_of_ble_eq_true → aOj,ble → aOq,add_sub_cancel_left → aOG,beq → aOO
open ByteArray renaming empty → aOl
open Int renaming toNat → aOn,toNat_natCast → aOy,tmod → aOS,tdiv → aOT
open Option.some renaming injEq → aOs
open ByteArray.toList renaming loop → aOA
open Bool renaming and_eq_true → aOR
set_option linter.unusedSimpArgs false
set_option linter.unusedVariables false
namespace Go.Vm
open Go
theorem gD {p:Prop} (h:p:=by first|exact True.intro|exact⟨_,rfl,_,rfl,by assumption⟩):p:=h
inductive LSet {α:Type}:List α→Nat→α→List α→Prop
 |z {a b:α} {l:List α}:LSet (a::l) 0 b (b::l)
 |s {a b:α} {l l':List α} {i:Nat}:LSet l i b l'→LSet (a::l) (i+1) b (a::l')
theorem LSet.eq {α:Type}{l l':List α}{i:Nat}{b:α}(h:LSet l i b l'):l.set i b=l':=by
 induction h with
 |z=>rfl
 |s _ ih=>rw[List.set_cons_succ,ih]
inductive Snoc {α:Type}:List α→α→List α→Prop
 |n {b:α}:Snoc [] b [b]
 |c {a b:α} {l l':List α}:Snoc l b l'→Snoc (a::l) b (a::l')
theorem Snoc.eq {α:Type}{l l':List α}{b:α}(h:Snoc l b l'):l++[b]=l':=by
 induction h with
 |n=>rfl
 |c _ ih=>rw[List.cons_append,ih]
inductive IsA :(List V→List V)→Nat→Prop
 |c {a:V}:IsA (List.cons a) 1
 |a4 {k:IntKind} {q:List Int}:IsA (uA (eI k) q) 4
 |a8 {k:IntKind} {q:List Int}:IsA (v8 (eI k) q) 8
 |a20 {k:IntKind} {q:List Int}:IsA (qV (eI k) q) 20
 |a32 {k:IntKind} {q:List Int}:IsA (pI (eI k) q) 32
 |a64 {k:IntKind} {q:List Int}:IsA (qW (eI k) q) 64
theorem IsA.eq {A:List V→List V}{n:Nat}(h:IsA A n): ∃p:List V,p.length=n∧ ∀r,A r=p++r:=by
 cases h with
 |c=>exact⟨[_],rfl,fun _=>rfl⟩
 |a4=>exact⟨uA _ _ [],rfl,fun _=>rfl⟩
 |a8=>exact⟨v8 _ _ [],rfl,fun _=>rfl⟩
 |a20=>exact⟨qV _ _ [],rfl,fun _=>rfl⟩
 |a32=>exact⟨pI _ _ [],rfl,fun _=>rfl⟩
 |a64=>exact⟨qW _ _ [],rfl,fun _=>rfl⟩
inductive Spl :List V→Nat→List V→List V→Prop
 |w {l r:List V}:r.length=l.length→Spl l 0 r r
 |d {l:List V}:Spl l 0 [] l
 |p {A B:List V→List V} {n:Nat} {l r l':List V}:IsA A n→IsA B n→Spl l 0 r l'→Spl (A l) 0 (B r) (B l')
 |s {A:List V→List V} {n:Nat} {l r l':List V} {o o':Nat}:IsA A n→o'=o+n→Spl l o r l'→Spl (A l) o' r (A l')
theorem Spl.eq {l r l':List V}{o:Nat}(h:Spl l o r l'):splice l o r=l':=by
 induction h with
 |w h=>simp[splice,h]
 |d=>simp[splice]
 |p hA hB _ ih=>
  obtain⟨p,hp,e⟩:=hA.eq
  obtain⟨q,hq,e'⟩:=hB.eq
  simp only[splice,List.take_zero,aOv,Nat.zero_add]at ih⊢
  rw[e,e',e',←ih,aOD,hq,←hp,aOH,aOm (by omega),aOv,aOG,aOr]
 | @s A n l r l' o o' hA he _ ih=>
  subst he
  obtain⟨p,hp,e⟩:=hA.eq
  simp only[splice]at ih⊢
  have h1:(p++l).take (o+n)=p++l.take o:=by rw[aOP,aOI (by omega),show o+n-p.length=o by omega]
  have h2:(p++l).drop (o+n+r.length)=l.drop (o+r.length):=by rw[aOH,aOm (by omega),aOv,show o+n+r.length-p.length=o+r.length by omega]
  rw[e,e,h1,h2,←ih,aOr,aOr,aOr]
inductive Tak :List V→Nat→Nat→List V→Prop
 |w {l:List V} {k:Nat}:l.length=k→Tak l 0 k l
 |d {l:List V}:Tak l 0 0 []
 |t {A:List V→List V} {n:Nat} {l r:List V} {k k':Nat}:IsA A n→k'=k+n→Tak l 0 k r→Tak (A l) 0 k' (A r)
 |s {A:List V→List V} {n:Nat} {l r:List V} {o o' k:Nat}:IsA A n→o'=o+n→Tak l o k r→Tak (A l) o' k r
theorem Tak.eq {l r:List V}{o k:Nat}(h:Tak l o k r):(l.drop o).take k=r∧k≤(l.drop o).length:=by
 induction h with
 |w h=>subst h;exact⟨by simp,by simp⟩
 |d=>exact⟨rfl,Nat.zero_le _⟩
 |t hA he _ ih=>
  subst he
  obtain⟨p,hp,e⟩:=hA.eq
  simp only[aOE]at ih⊢
  rw[e,e,aOP,aOI (by omega),hp,Nat.add_sub_cancel,ih.1,aOD,hp]
  exact⟨rfl,by omega⟩
 | @s A n l r o o' k hA he _ ih=>
  subst he
  obtain⟨p,hp,e⟩:=hA.eq
  have h1:(p++l).drop (o+n)=l.drop o:=by rw[aOH,aOm (by omega),aOv,show o+n-p.length=o by omega]
  rw[e,h1]
  exact ih
inductive OfC :Value→V→Prop
 |i {k:IntKind} {x:Int}:OfC (.int k x) (eI k x)
 |b {x:Bool}:OfC (.bool x) (eB x)
 |s {x:ByteArray}:OfC (.string x) (eS x)
 |l:OfC (.slice none 0 0) (.row (some true) 1 [])
 |p:OfC (.pointer none) (.sc (.pointer none))
theorem OfC.eq {v:Value}{a:V}(h:OfC v a):cN v=a:=by cases h<;>rfl
theorem OfC.eq' {v:Value}{a:V}(h:OfC v a):ofValue v=a:=by cases h<;>rfl
theorem OfC.one {v:Value}{a:V}(h:OfC v a):a.one=true∧v.cells= #[v]:=by cases h<;>exact⟨rfl,rfl⟩
inductive OfCs :List Value→List V→Prop
 |n:OfCs [] []
 |c {v:Value} {a:V} {vs:List Value} {as_:List V}:OfC v a→OfCs vs as_→OfCs (v::vs) (a::as_)
theorem OfCs.eq {vs:List Value}{as_:List V}(h:OfCs vs as_):vs.map cN=as_:=by
 induction h with
 |n=>rfl
 |c h _ ih=>rw[aOw,h.eq,ih]
theorem OfCs.one {vs:List Value}{as_:List V}(h:OfCs vs as_):as_.all V.one=true:=by
 induction h with
 |n=>rfl
 |c h _ ih=>rw[List.all_cons,h.one.1,ih];rfl
inductive Zro :Value→List V→Prop
 |a {vs:List Value} {cs:List V}:OfCs vs cs→Zro (.agg vs.toArray) cs
 |o {v:Value} {a:V}:OfC v a→Zro v [a]
theorem Zro.eq {v:Value}{cs:List V}(h:Zro v cs):v.cells.toList.map cN=cs∧cs.all V.one=true:=by
 cases h with
 |a h=>exact⟨h.eq,h.one⟩
 |o h=>rw[h.one.2];exact⟨by simp[h.eq],by simp[h.one.1]⟩
inductive Cel :V→List V→Prop
 |a {cs:List V}:cs.all V.one=true→Cel (.agg cs) cs
 |o {x:V}:x.one=true→x.cells=[x]→Cel x [x]
 |m {α:Type} {E:α→V} {q:List α}:(∀x,(E x).one=true)→Cel (.agg (q.map E)) (q.map E)
theorem Cel.eq {x:V}{cs:List V}(h:Cel x cs):x.cells=cs∧x.flatOk=true:=by
 cases h with
 |a h=>exact⟨rfl,h⟩
 |o h1 h2=>exact⟨h2,by simp[V.flatOk,h2,h1]⟩
 |m h=>exact⟨rfl,aMm h⟩
inductive Fil (pl:Array (Nat×Nat)):List V→List (Nat×V)→List V→Prop
 |n {cs:List V}:Fil pl cs [] cs
 |c {cs ds es fs:List V} {i o k:Nat} {x:V} {ps:List (Nat×V)}:pl[i]? =some (o,k)→Cel x ds→ds.length=k→aOq (o+k) cs.length=true→Spl cs o ds es→Fil pl es ps fs→Fil pl cs ((i,x)::ps) fs
theorem Fil.eq {pl:Array (Nat×Nat)}{cs fs:List V}{ps:List (Nat×V)}(h:Fil pl cs ps fs):i6 (fun i=>pl[i]?) cs ps=some fs:=by
 induction h with
 |n=>rfl
 |c h1 h2 h3 h4 h5 _ ih=>
  simp only[i6,h1]
  rw[if_pos ⟨h2.eq.2,by rw[h2.eq.1,h3],aOj h4⟩,h2.eq.1,h5.eq,ih]
class TiC (P:Program) (t:TypeId) (d:outParam TI):Prop where
 h:aD P t=some d
class FaC (P:Program) (t:TypeId) (f:Nat) (k:outParam Nat):Prop where
 p: ∀b off,aL P t (.ptr b off) f=some (.ptr b (off+k))
 e: ∀es i off,aL P t (.eptr es i off) f=some (.eptr es i (off+k))
class NoA (P:Program) (t:TypeId):Prop where
 h:True
class PlC (P:Program) (t:TypeId) (pl:outParam (Array (Nat×Nat))):Prop where
 h:pG P t=some pl
def aG3 (op:BinOp)(k:IntKind)(a b:Int):Option V:=match op with
 | .add=>some (eI k (k.wrap (a+b)))
 | .sub=>some (eI k (k.wrap (a-b)))
 | .mul=>some (eI k (k.wrap (a*b)))
 | .and=>some (eI k (bits .and k a b))
 | .or=>some (eI k (bits .or k a b))
 | .xor=>some (eI k (bits .xor k a b))
 | .eql=>some (eB (a == b))
 | .neq=>some (eB (a != b))
 | .lss=>some (eB (decide (a<b)))
 | .leq=>some (eB (decide (a≤b)))
 | .gtr=>some (eB (decide (b<a)))
 | .geq=>some (eB (decide (b≤a)))
 |_=>none
theorem aIk {P:Program}{op:BinOp}{t:TypeId}{x y:Operand}{k:IntKind}{a b:Int}{v:V}(h:aG3 op k a b=some v):b4 P op t x y (eI k a) (eI k b)=some v:=by
 cases op<;>simp only[aG3,aOs,reduceCtorEq]at h<;>subst h
 ·exact aEn ..
 ·exact aIz ..
 ·exact aH6 ..
 ·exact aIL ..
 ·exact aJu ..
 ·exact aHP ..
 ·exact aIt ..
 ·exact aHM ..
 ·exact aID ..
 ·exact aIA ..
 ·exact aH0 ..
 exact aIG ..
section
variable {P:Program}{N n t:Nat}{m:Option (List Nat×List Nat)}{ops:Array Oper}{l:List Oper}{fr:List (Nat×V)}{h h':Hp}{K:List V→Hp→Prop}{op:Op}{ty:TypeId}{pos:String}{aft:Array Edge}{gd:Option (Nat×Bool)}{v a b:V}{x y z:Operand}{Q:Ex→List V→Hp→Prop}{s:List V}{k:IntKind}{i j:Int}{o e:Nat}{cs ds:List V}{ti di:TI}{u w:TypeId}{bo:BinOp}{p q:Nat}{c:Bool}
theorem xm (hx:aU n fr x=some a)(hg:Gd ops n fr gd)(q:OpsX P N m ops l (aE n ((t,a)::fr)) h K):OpsX P N m ops (⟨some t,.move x,ty,pos,aft,gd⟩::l) (aE n fr) h K:=xS (kP hx) q hg
theorem xa (hx:aU n fr x=some a)(hg:Gd ops n fr gd)(q:OpsX P N m ops l (aE n ((t,a)::fr)) h K):OpsX P N m ops (⟨some t,.assign x,ty,pos,aft,gd⟩::l) (aE n fr) h K:=xS (kH hx) q hg
theorem xmc {v:Value}(hv:OfC v a)(hg:Gd ops n fr gd)(q:OpsX P N m ops l (aE n ((t,a)::fr)) h K):OpsX P N m ops (⟨some t,.move (.const v),ty,pos,aft,gd⟩::l) (aE n fr) h K:=xm (by rw[←hv.eq'];rfl) hg q
theorem xac {v:Value}(hv:OfC v a)(hg:Gd ops n fr gd)(q:OpsX P N m ops l (aE n ((t,a)::fr)) h K):OpsX P N m ops (⟨some t,.assign (.const v),ty,pos,aft,gd⟩::l) (aE n fr) h K:=xa (by rw[←hv.eq'];rfl) hg q
theorem xb (hx:aU n fr x=some (eI k i))(hy:aU n fr y=some (eI k j))(hv:aG3 bo k i j=some v)(hg:Gd ops n fr gd)(q:OpsX P N m ops l (aE n ((t,v)::fr)) h K):OpsX P N m ops (⟨some t,.binOp bo u x y w,ty,pos,aft,gd⟩::l) (aE n fr) h K:=xS (gC hx hy (aIk hv)) q hg
theorem xno (hx:aU n fr x=some (eB c))(hg:Gd ops n fr gd)(q:OpsX P N m ops l (aE n ((t,eB (!c))::fr)) h K):OpsX P N m ops (⟨some t,.unOp .not u x,ty,pos,aft,gd⟩::l) (aE n fr) h K:=xS (yB hx (aJb _ _)) q hg
theorem xci {sz by_:Nat}{zz:Value}{k':IntKind} [D:TiC P u di] [T:TiC P w ⟨.int k',sz,by_,zz⟩] (hx:aU n fr x=some (eI k i)) (hg:Gd ops n fr gd) (q:OpsX P N m ops l (aE n ((t,eI k' (k'.wrap i))::fr)) h K):OpsX P N m ops (⟨some t,.convert u w x,ty,pos,aft,gd⟩::l) (aE n fr) h K:=xS (xJ hx (aHa _ ⟨_,D.h⟩ T.h rfl)) q hg
theorem xlR {α:Type}{E:α→V}{nl:Option Bool}{ml:List α}{sz by_:Nat}{zz:Value} [T:TiC P u ⟨.slice e,sz,by_,zz⟩] (hx:aU n fr x=some (.row nl o (ml.map E))) (hg:Gd ops n fr gd) (q:OpsX P N m ops l (aE n ((t,eI .i64 (ml.length:Int))::fr)) h K):OpsX P N m ops (⟨some t,.call ⟨.builtin .len,#[x],#[u]⟩,ty,pos,aft,gd⟩::l) (aE n fr) h K:=xS (aE7 hx (aNL T.h)) q hg
theorem xlS {sz by_:Nat}{zz:Value}{ag:Bool} [T:TiC P u ⟨.slice e,sz,by_,zz⟩] (hx:aU n fr x=some (.sl o p q w ag)) (hg:Gd ops n fr gd) (kk:OpsX P N m ops l (aE n ((t,eI .i64 (q:Int))::fr)) h K):OpsX P N m ops (⟨some t,.call ⟨.builtin .len,#[x],#[u]⟩,ty,pos,aft,gd⟩::l) (aE n fr) h K:=xS (aE7 hx (aN2 T.h)) kk hg
theorem xlT {sz by_:Nat}{zz:Value}{st:ByteArray} [T:TiC P u ⟨.string,sz,by_,zz⟩] (hx:aU n fr x=some (eS st)) (hg:Gd ops n fr gd) (q:OpsX P N m ops l (aE n ((t,eI .i64 (st.size:Int))::fr)) h K):OpsX P N m ops (⟨some t,.call ⟨.builtin .len,#[x],#[u]⟩,ty,pos,aft,gd⟩::l) (aE n fr) h K:=xS (aE7 hx (aNk T.h)) q hg
theorem xe {vs:List V}(hx:aU n fr x=some (.tup vs))(hv:vs[o]? =some v)(hg:Gd ops n fr gd)(q:OpsX P N m ops l (aE n ((t,v)::fr)) h K):OpsX P N m ops (⟨some t,.extract x o,ty,pos,aft,gd⟩::l) (aE n fr) h K:=xS (p7 hx hv) q hg
theorem xfp {f kk r:Nat} [F:FaC P u f kk] (hx:aU n fr x=some (.ptr o p)) (hr:p+kk=r) (hg:Gd ops n fr gd) (q:OpsX P N m ops l (aE n ((t,.ptr o r)::fr)) h K):OpsX P N m ops (⟨some t,.fieldAddr u x f,ty,pos,aft,gd⟩::l) (aE n fr) h K:=xS (aJV hx (hr▸F.p _ _)) q hg
theorem xfe {f kk r ix:Nat} [F:FaC P u f kk] (hx:aU n fr x=some (.eptr cs ix p)) (hr:p+kk=r) (hg:Gd ops n fr gd) (q:OpsX P N m ops l (aE n ((t,.eptr cs ix r)::fr)) h K):OpsX P N m ops (⟨some t,.fieldAddr u x f,ty,pos,aft,gd⟩::l) (aE n fr) h K:=xS (aJV hx (hr▸F.e _ _ _)) q hg
theorem xnp (hx:aU n fr x=some (.ptr o p))(hg:Gd ops n fr gd)(q:OpsX P N m ops l (aE n ((t,.ptr o p)::fr)) h K):OpsX P N m ops (⟨some t,.nilCheck x,ty,pos,aft,gd⟩::l) (aE n fr) h K:=xS (aJn hx) q hg
theorem xne {ix:Nat}(hx:aU n fr x=some (.eptr cs ix p))(hg:Gd ops n fr gd)(q:OpsX P N m ops l (aE n ((t,.eptr cs ix p)::fr)) h K):OpsX P N m ops (⟨some t,.nilCheck x,ty,pos,aft,gd⟩::l) (aE n fr) h K:=xS (aJw hx) q hg
theorem xl1 [T:TiC P u ti] (hx:aU n fr x=some (.ptr o p)) (hb:h[o]? =some (some ⟨e,cs⟩)) (hc:(cs.drop p).head? =some v) (hd:a7 ti.desc=false) (hg:Gd ops n fr gd) (q:OpsX P N m ops l (aE n ((t,v)::fr)) h K):OpsX P N m ops (⟨some t,.load u x,ty,pos,aft,gd⟩::l) (aE n fr) h K:=xS (eU hx (ldP hb (aCm T.h hd hc))) q hg
theorem xlN {fs:Array Field}{sz by_:Nat}{zz:Value} [T:TiC P u ⟨.struct fs,sz,by_,zz⟩] (hx:aU n fr x=some (.ptr o p)) (hb:h[o]? =some (some ⟨e,cs⟩)) (hc:Tak cs p sz ds) (hg:Gd ops n fr gd) (q:OpsX P N m ops l (aE n ((t,.agg ds)::fr)) h K):OpsX P N m ops (⟨some t,.load u x,ty,pos,aft,gd⟩::l) (aE n fr) h K:=xS (eU hx (ldP hb (aAS T.h rfl hc.eq.2 hc.eq.1))) q hg
theorem xlX {α:Type}{E:α→V}{ml:List α}{r:α} [T:TiC P u ti] (hx:aU n fr x=some (.ptr o j.toNat)) (hb:h[o]? =some (some ⟨e,ml.map E⟩)) (hd:a7 ti.desc=false) (hi:eG ml j=some r) (hg:Gd ops n fr gd) (q:OpsX P N m ops l (aE n ((t,E r)::fr)) h K):OpsX P N m ops (⟨some t,.load u x,ty,pos,aft,gd⟩::l) (aE n fr) h K:=xS (eU hx (ldX T.h hd hb hi)) q hg
theorem aMQ {α:Type}{E:α→V}{ml:List α}{r:α} [T:TiC P u ti] (hx:aU n fr x=some (.eptr (ml.map E) j.toNat p)) (hd:a7 ti.desc=false) (hi:eG ml j=some r) (hc:((E r).cells.drop p).head? =some v) (hg:Gd ops n fr gd) (q:OpsX P N m ops l (aE n ((t,v)::fr)) h K):OpsX P N m ops (⟨some t,.load u x,ty,pos,aft,gd⟩::l) (aE n fr) h K:=xS (eU hx (ldR hi (aCm T.h hd hc))) q hg
theorem aM8 {α:Type}{E:α→V}{ml:List α}{r:α}{fs:Array Field}{sz by_:Nat}{zz:Value} [T:TiC P u ⟨.struct fs,sz,by_,zz⟩] (hx:aU n fr x=some (.eptr (ml.map E) j.toNat p)) (hi:eG ml j=some r) (hE:E r= .agg cs) (hc:Tak cs p sz ds) (hg:Gd ops n fr gd) (q:OpsX P N m ops l (aE n ((t,.agg ds)::fr)) h K):OpsX P N m ops (⟨some t,.load u x,ty,pos,aft,gd⟩::l) (aE n fr) h K:=xS (eU hx (ldR hi (by rw[hE];exact aAS T.h rfl hc.eq.2 hc.eq.1))) q hg
inductive ArM :List V→List V→Prop
 |a4 {k:IntKind} {q:List Int}:q.length=4→ArM (uA (eI k) q []) (q.map (eI k))
 |a8 {k:IntKind} {q:List Int}:q.length=8→ArM (v8 (eI k) q []) (q.map (eI k))
 |a20 {k:IntKind} {q:List Int}:q.length=20→ArM (qV (eI k) q []) (q.map (eI k))
 |a32 {k:IntKind} {q:List Int}:q.length=32→ArM (pI (eI k) q []) (q.map (eI k))
 |a64 {k:IntKind} {q:List Int}:q.length=64→ArM (qW (eI k) q []) (q.map (eI k))
theorem ArM.eq {a b:List V}(h:ArM a b):a=b:=by
 cases h with
 |a4 h=>exact aIB h
 |a8 h=>exact aIH h
 |a20 h=>exact aG4 h
 |a32 h=>exact aF8 h
 |a64 h=>exact aGp h
theorem xlA {es:List V}{N' sz by_:Nat}{zz:Value} [T:TiC P u ⟨.array N' w,sz,by_,zz⟩] (hx:aU n fr x=some (.ptr o p)) (hb:h[o]? =some (some ⟨e,cs⟩)) (hc:Tak cs p sz ds) (ha:ArM ds es) (hg:Gd ops n fr gd) (q:OpsX P N m ops l (aE n ((t,.agg es)::fr)) h K):OpsX P N m ops (⟨some t,.load u x,ty,pos,aft,gd⟩::l) (aE n fr) h K:=xS (eU hx (ldP hb (by rw[←ha.eq];exact aAS T.h rfl hc.eq.2 hc.eq.1))) q hg
theorem aNd {α:Type}{E:α→V}{ml:List α}{r:α}{es:List V}{N' sz by_:Nat}{zz:Value} [T:TiC P u ⟨.array N' w,sz,by_,zz⟩] (hx:aU n fr x=some (.eptr (ml.map E) j.toNat p)) (hi:eG ml j=some r) (hE:E r= .agg cs) (hc:Tak cs p sz ds) (ha:ArM ds es) (hg:Gd ops n fr gd) (q:OpsX P N m ops l (aE n ((t,.agg es)::fr)) h K):OpsX P N m ops (⟨some t,.load u x,ty,pos,aft,gd⟩::l) (aE n fr) h K:=xS (eU hx (ldR hi (by rw[hE,←ha.eq];exact aAS T.h rfl hc.eq.2 hc.eq.1))) q hg
theorem xlB {α:Type}{E:α→V}{ml:List α}{N' sz by_:Nat}{zz:Value} [T:TiC P u ⟨.array N' w,sz,by_,zz⟩] (hx:aU n fr x=some (.ptr o 0)) (hb:h[o]? =some (some ⟨e,ml.map E⟩)) (hz:sz=N') (hl:ml.length=N') (hg:Gd ops n fr gd) (q:OpsX P N m ops l (aE n ((t,.agg (ml.map E))::fr)) h K):OpsX P N m ops (⟨some t,.load u x,ty,pos,aft,gd⟩::l) (aE n fr) h K:=xS (eU hx (tB T.h hz hb hl)) q hg
theorem xiR {α:Type}{E:α→V}{nl:Option Bool}{ml:List α}{r:α}{sz by_:Nat}{zz:Value} [T:TiC P u ⟨.slice e,sz,by_,zz⟩] [D:TiC P e di] (hx:aU n fr x=some (.row nl o (ml.map E))) (hy:aU n fr y=some (eI k j)) (hs:di.size=o) (hi:eG ml j=some r) (hg:Gd ops n fr gd) (q:OpsX P N m ops l (aE n ((t,.eptr (ml.map E) j.toNat 0)::fr)) h K):OpsX P N m ops (⟨some t,.indexAddr u x y,ty,pos,aft,gd⟩::l) (aE n fr) h K:=xS (aEW hx hy (by subst hs;exact iaR T.h D.h hi)) q hg
theorem xiS {α:Type}{E:α→V}{ml:List α}{r:α}{q0 sz by_:Nat}{zz:Value}{ag:Bool} [T:TiC P u ⟨.slice e,sz,by_,zz⟩] [D:TiC P e di] (hx:aU n fr x=some (.sl o 0 q0 1 ag)) (hy:aU n fr y=some (eI k j)) {e':Nat} (hb:h[o]? =some (some ⟨e',ml.map E⟩)) (hi:eG ml j=some r) (hn:ml.length=q0) (hs:di.size=1) (hg:Gd ops n fr gd) (q:OpsX P N m ops l (aE n ((t,.ptr o j.toNat)::fr)) h K):OpsX P N m ops (⟨some t,.indexAddr u x y,ty,pos,aft,gd⟩::l) (aE n fr) h K:=xS (aEW hx hy (iaS hn T.h D.h hs hi)) q hg
theorem xiB {α:Type}{E:α→V}{ml:List α}{r:α}{N' sz by_:Nat}{zz:Value} [T:TiC P u ⟨.array N' e,sz,by_,zz⟩] [D:TiC P e di] (hx:aU n fr x=some (.ptr o 0)) (hy:aU n fr y=some (eI k j)) {e':Nat} (hb:h[o]? =some (some ⟨e',ml.map E⟩)) (hi:bZ N' ml j=some r) (hs:di.size=1) (hg:Gd ops n fr gd) (q:OpsX P N m ops l (aE n ((t,.ptr o j.toNat)::fr)) h K):OpsX P N m ops (⟨some t,.indexAddr u x y,ty,pos,aft,gd⟩::l) (aE n fr) h K:=xS (aEW hx hy (iaB T.h D.h hs hi)) q hg
theorem xVv {jj ww:Nat}{want:Bool}(hj:(ops[jj]?).bind (·.dst)=some ww)(hl:aU n fr (.tmp ww)=some (.sc undef))(q:OpsX P N m ops l (aE n ((t,.sc undef)::fr)) h K):OpsX P N m ops (⟨some t,op,ty,pos,aft,some (jj,want)⟩::l) (aE n fr) h K:=xS0 (svU hj hl) q
theorem xXx {jj ww:Nat}{want:Bool}(hj:(ops[jj]?).bind (·.dst)=some ww)(hl:aU n fr (.tmp ww)=some (.sc (.bool c)))(hc:c= !want)(q:OpsX P N m ops l (aE n ((t,.sc undef)::fr)) h K):OpsX P N m ops (⟨some t,op,ty,pos,aft,some (jj,want)⟩::l) (aE n fr) h K:=xS0 (svX hj hl hc) q
def aGe :List Oper→Bool
 | []=>true
 |o::l=>(match o.guard,o.op with
  |none,.pick _ _ _=>false
  |none,_=>true
  |some _,_=>false)&&aGe l
theorem xqn {cc:Code}{id:Nat}(hn:aGe l=true)(hr:OpsX P N none l.toArray l s h (Ex.then (AB P N cc Q) Q .normal)):AB P N (.seq (.region id l.toArray false) cc) Q s h:=xq hr
theorem xrn {id:Nat}(hn:aGe l=true)(hr:OpsX P N none l.toArray l s h (Q .normal)):AB P N (.region id l.toArray false) Q s h:=xr hr
theorem xsA {α:Type}{E:α→V}{ml mm:List α}{N' sz by_ i':Nat}{zz:Value} [T:TiC P u ⟨.array N' e,sz,by_,zz⟩] (hx:aU n fr x=some (.ptr o 0)) (hb:h[o]? =some (some ⟨i',ml.map E⟩)) (hy:aU n fr y=some (.agg (mm.map E))) (hz:sz=N') (hE: ∀x,(E x).one=true) (h1:ml.length=N') (h2:mm.length=N') (hh:LSet h o (some ⟨i',mm.map E⟩) h') (hg:Gd ops n fr gd) (q:OpsX P N m ops l (aE n fr) h' K):OpsX P N m ops (⟨none,.store u x y,ty,pos,aft,gd⟩::l) (aE n fr) h K:=xN (v:= .sc undef) (h':=h') (cV hx hy (mQ T.h hz hb hE h1 h2 hh.eq)) q hg
theorem xs [T:TiC P u ti] (hx:aU n fr x=some (.ptr o p)) (hy:aU n fr y=some v) (hb:h[o]? =some (some ⟨e,cs⟩)) {es fs:List V} (hv:Cel v es) (h1:es.length=ti.size) (h2:aOq (p+ti.size) cs.length=true) (hs:Spl cs p es fs) (hh:LSet h o (some ⟨e,fs⟩) h') (hg:Gd ops n fr gd) (q:OpsX P N m ops l (aE n fr) h' K):OpsX P N m ops (⟨none,.store u x y,ty,pos,aft,gd⟩::l) (aE n fr) h K:=by
 obtain⟨hv1,hv2⟩:=hv.eq
 refine xN (v:= .sc undef) (h':=h') (cV hx hy (stP T.h hb hv2 (by rw[hv1,h1]) (aOj h2) ?_)) q hg
 rw[hv1,hs.eq,hh.eq]
theorem xsX {α:Type}{E:α→V}{ml:List α}{r r':α} [T:TiC P u ti] (hx:aU n fr x=some (.ptr o j.toNat)) (hb:h[o]? =some (some ⟨e,ml.map E⟩)) (hy:aU n fr y=some (E r')) (hz:ti.size=1) (hi:eG ml j=some r) (ho:(E r').one=true) (hc:(E r').cells=[E r']) (hh:LSet h o (some ⟨e,(ml.set j.toNat r').map E⟩) h') (hg:Gd ops n fr gd) (q:OpsX P N m ops l (aE n fr) h' K):OpsX P N m ops (⟨none,.store u x y,ty,pos,aft,gd⟩::l) (aE n fr) h K:=xN (v:= .sc undef) (h':=h') (cV hx hy (aM6 T.h hz hb hi ho hc hh.eq)) q hg
theorem xal {r:Nat} [A:NoA P e] [T:TiC P e ti] (hz:Zro ti.zero cs) (hh:Snoc h (some ⟨e,cs⟩) h') (hl:h.length=r) (hg:Gd ops n fr gd) (q:OpsX P N m ops l (aE n ((t,.ptr r 0)::fr)) h' K):OpsX P N m ops (⟨some t,.alloc e,ty,pos,aft,gd⟩::l) (aE n fr) h K:=
 xS (gQ T.h (by rw[hz.eq.1];exact hz.eq.2) hl (by rw[hz.eq.1];exact hh.eq)) q hg
theorem aNB {r N' sz by_ sz' by':Nat}{k':IntKind}{e':TypeId}{vs:List Value}{z':Value} [T:TiC P e ⟨.array N' e',sz,by_,.agg vs.toArray⟩] [D:TiC P e' ⟨.int k',sz',by',z'⟩] (hz:vs.map cN=(aOh N' 0).map (eI k')) (hh:Snoc h (some ⟨e,(aOh N' 0).map (eI k')⟩) h') (hl:h.length=r) (hg:Gd ops n fr gd) (q:OpsX P N m ops l (aE n ((t,.ptr r 0)::fr)) h' K):OpsX P N m ops (⟨some t,.alloc e,ty,pos,aft,gd⟩::l) (aE n fr) h K:=
 xS (gQ T.h (by
  have e1:(TI.zero ⟨.array N' e',sz,by_,.agg vs.toArray⟩).cells.toList.map cN=(aOh N' 0).map (eI k'):=hz
  rw[e1];exact all_map (fun _=>rfl) _) hl (by
  have e1:(TI.zero ⟨.array N' e',sz,by_,.agg vs.toArray⟩).cells.toList.map cN=(aOh N' 0).map (eI k'):=hz
  rw[e1];exact hh.eq)) q hg
theorem xbx {r:Nat}(hx:aU n fr x=some a)(hv:Cel a cs)(hh:Snoc h (some ⟨e,cs⟩) h')(hl:h.length=r)(hg:Gd ops n fr gd)(q:OpsX P N m ops l (aE n ((t,.ptr r 0)::fr)) h' K):OpsX P N m ops (⟨some t,.box e x,ty,pos,aft,gd⟩::l) (aE n fr) h K:=
 xS (aLD hx hv.eq.2 hl (by rw[hv.eq.1];exact hh.eq)) q hg
theorem xbd {fs:Array Field}{sz by_:Nat}{zz:Value}{pl:Array (Nat×Nat)}{ps:List (Nat×Operand)}{xs:List (Nat×V)} [T:TiC P u ⟨.struct fs,sz,by_,zz⟩] [L:PlC P u pl] [A:NoA P u] (hp:uE n fr ps=some xs) (hz:Zro zz cs) (hf:Fil pl cs xs ds) (hg:Gd ops n fr gd) (q:OpsX P N m ops l (aE n ((t,.agg ds)::fr)) h K):OpsX P N m ops (⟨some t,.build u ps.toArray,ty,pos,aft,gd⟩::l) (aE n fr) h K:=
 xS (dD hp (aNh T.h L.h (by rw[hz.eq.1];exact hf.eq))) q hg
theorem xfd {fs:Array Field}{sz by_ f:Nat}{zz:Value}{fl:Field} [T:TiC P u ⟨.struct fs,sz,by_,zz⟩] [D:TiC P fl.type di] (hx:aU n fr x=some (.agg cs)) (hf:fs[f]? =some fl) (hd:a7 di.desc=false) (hc:(cs.drop fl.offset).head? =some v) (hg:Gd ops n fr gd) (q:OpsX P N m ops l (aE n ((t,v)::fr)) h K):OpsX P N m ops (⟨some t,.field u x f,ty,pos,aft,gd⟩::l) (aE n fr) h K:=xS (aMn hx (aNP T.h hf (aCm D.h hd hc))) q hg
theorem xpT (hz:aU n fr z=some (eB c))(hc:c=true)(hx:aU n fr x=some a)(hg:Gd ops n fr gd)(q:OpsX P N m ops l (aE n ((t,a)::fr)) h K):OpsX P N m ops (⟨some t,.pick z x y,ty,pos,aft,gd⟩::l) (aE n fr) h K:=xS (aHA hz hc hx) q hg
theorem xpF (hz:aU n fr z=some (eB c))(hc:c=false)(hy:aU n fr y=some a)(hg:Gd ops n fr gd)(q:OpsX P N m ops l (aE n ((t,a)::fr)) h K):OpsX P N m ops (⟨some t,.pick z x y,ty,pos,aft,gd⟩::l) (aE n fr) h K:=xS (aIb hz hc hy) q hg
inductive NumK (k:IntKind):Nat→List (Nat×V)→List Int→Prop
 |n {i:Nat}:NumK k i [] []
 |c {i:Nat} {x:Int} {ps:List (Nat×V)} {xs:List Int}:NumK k (i+1) ps xs→NumK k i ((i,eI k x)::ps) (x::xs)
theorem NumK.eq {k:IntKind}{i:Nat}{ps:List (Nat×V)}{xs:List Int}(h:NumK k i ps xs):bM i (xs.map (eI k))=ps:=by
 induction h with
 |n=>rfl
 |c _ ih=>simp only[aOw,bM];rw[ih]
inductive NumB :Nat→List (Nat×V)→List Bool→Prop
 |n {i:Nat}:NumB i [] []
 |c {i:Nat} {x:Bool} {ps:List (Nat×V)} {xs:List Bool}:NumB (i+1) ps xs→NumB i ((i,eB x)::ps) (x::xs)
theorem NumB.eq {i:Nat}{ps:List (Nat×V)}{xs:List Bool}(h:NumB i ps xs):bM i (xs.map eB)=ps:=by
 induction h with
 |n=>rfl
 |c _ ih=>simp only[aOw,bM];rw[ih]
inductive NumR {α:Type}(kk:Nat)(E:α→V):Nat→List (Nat×V)→List (List α)→Prop
 |n {i:Nat}:NumR kk E i [] []
 |c {i:Nat} {x:List α} {ps:List (Nat×V)} {xs:List (List α)}:NumR kk E (i+1) ps xs→NumR kk E i ((i,.row none kk (x.map E))::ps) (x::xs)
 |z {i:Nat} {ps:List (Nat×V)} {xs:List (List α)}:NumR kk E (i+1) ps xs→NumR kk E i ((i,.row none kk [])::ps) ([]::xs)
theorem NumR.eq {α:Type}{kk:Nat}{E:α→V}{i:Nat}{ps:List (Nat×V)}{xs:List (List α)}(h:NumR kk E i ps xs):bM i (xs.map (eL kk E))=ps:=by
 induction h with
 |n=>rfl
 |z _ ih=>simp only[aOw,bM];rw[ih];rfl
 |c _ ih=>simp only[aOw,bM];rw[ih]
theorem aN8 {α:Type}{E:α→V}(hE: ∀x,(E x).one=true)(hc: ∀x,(E x).cells=[E x])(xs:List α):(xs.map E).all (fun x=>x.one&&(x.cells.length == 1))=true:=by
 simp[aOQ,hE,hc]
theorem aG2 {α:Type}{E:α→V}{js:List α}{len sz by_ r:Nat}{zz:Value}{ps:List (Nat×Operand)}{xs:List (Nat×V)} [T:TiC P u ⟨.slice e,sz,by_,zz⟩] [D:TiC P e di] (hp:mP n fr ps=some xs) (hn:bM 0 (js.map E)=xs) (hE: ∀x,(E x).one=true) (hc: ∀x,(E x).cells=[E x]) (hs:di.size=1) {ag:Bool} (ha:a7 di.desc=ag) (h1:aOq (len*1) (2^24)=true) (h2:aOq 1 len=true) (hlen:js.length=len) (hh:Snoc h (some ⟨e,js.map E⟩) h') (hl:h.length=r) (hg:Gd ops n fr gd) (q:OpsX P N m ops l (aE n ((t,.sl r 0 len 1 ag)::fr)) h' K):OpsX P N m ops (⟨some t,.buildSlice u len ps.toArray,ty,pos,aft,gd⟩::l) (aE n fr) h K:=
 xS (b8 hp (jV T.h D.h (aOj h1) (aOj h2) hs ha hn (aN8 hE hc _) (by rw[aOJ];exact hlen) hl hh.eq)) q hg
theorem aOa {js:List Int}{len sz by_ r sz' by':Nat}{zz z':Value}{ps:List (Nat×Operand)}{xs:List (Nat×V)} [T:TiC P u ⟨.slice e,sz,by_,zz⟩] [D:TiC P e ⟨.int k,sz',by',z'⟩] (hp:mP n fr ps=some xs) (hn:NumK k 0 xs js) (hs:sz'=1) (h1:aOq (len*1) (2^24)=true) (h2:aOq 1 len=true) (hlen:js.length=len) (hh:Snoc h (some ⟨e,js.map (eI k)⟩) h') (hl:h.length=r) (hg:Gd ops n fr gd) (q:OpsX P N m ops l (aE n ((t,.sl r 0 len 1 false)::fr)) h' K):OpsX P N m ops (⟨some t,.buildSlice u len ps.toArray,ty,pos,aft,gd⟩::l) (aE n fr) h K:=aG2 (ag:=false) hp hn.eq (fun _=>rfl) (fun _=>rfl) hs rfl h1 h2 hlen hh hl hg q
theorem aNq {js:List Bool}{len sz by_ r sz' by':Nat}{zz z':Value}{ps:List (Nat×Operand)}{xs:List (Nat×V)} [T:TiC P u ⟨.slice e,sz,by_,zz⟩] [D:TiC P e ⟨.bool,sz',by',z'⟩] (hp:mP n fr ps=some xs) (hn:NumB 0 xs js) (hs:sz'=1) (h1:aOq (len*1) (2^24)=true) (h2:aOq 1 len=true) (hlen:js.length=len) (hh:Snoc h (some ⟨e,js.map eB⟩) h') (hl:h.length=r) (hg:Gd ops n fr gd) (q:OpsX P N m ops l (aE n ((t,.sl r 0 len 1 false)::fr)) h' K):OpsX P N m ops (⟨some t,.buildSlice u len ps.toArray,ty,pos,aft,gd⟩::l) (aE n fr) h K:=aG2 (ag:=false) hp hn.eq (fun _=>rfl) (fun _=>rfl) hs rfl h1 h2 hlen hh hl hg q
theorem aNE {α:Type}{E:α→V}{kk:Nat}{js:List (List α)}{len sz by_ r sz' by':Nat}{zz z':Value}{e':TypeId}{ps:List (Nat×Operand)}{xs:List (Nat×V)} [T:TiC P u ⟨.slice e,sz,by_,zz⟩] [D:TiC P e ⟨.slice e',sz',by',z'⟩] (hp:mP n fr ps=some xs) (hn:NumR kk E 0 xs js) (hs:sz'=1) (h1:aOq (len*1) (2^24)=true) (h2:aOq 1 len=true) (hlen:js.length=len) (hh:Snoc h (some ⟨e,js.map (eL kk E)⟩) h') (hl:h.length=r) (hg:Gd ops n fr gd) (q:OpsX P N m ops l (aE n ((t,.sl r 0 len 1 false)::fr)) h' K):OpsX P N m ops (⟨some t,.buildSlice u len ps.toArray,ty,pos,aft,gd⟩::l) (aE n fr) h K:=aG2 (ag:=false) hp hn.eq (fun _=>rfl) (fun _=>rfl) hs rfl h1 h2 hlen hh hl hg q
theorem aNC {k':IntKind}{r:Int}(hx:aU n fr x=some (eI k i))(hy:aU n fr y=some (eI k' j))(hv:shl k i j=some r)(hg:Gd ops n fr gd)(q:OpsX P N m ops l (aE n ((t,eI k r)::fr)) h K):OpsX P N m ops (⟨some t,.binOp .shl u x y w,ty,pos,aft,gd⟩::l) (aE n fr) h K:=xS (gC hx hy (aGw _ _ _ _ hv)) q hg
theorem aNx {k':IntKind}{r:Int}(hx:aU n fr x=some (eI k i))(hy:aU n fr y=some (eI k' j))(hv:shr k i j=some r)(hg:Gd ops n fr gd)(q:OpsX P N m ops l (aE n ((t,eI k r)::fr)) h K):OpsX P N m ops (⟨some t,.binOp .shr u x y w,ty,pos,aft,gd⟩::l) (aE n fr) h K:=xS (gC hx hy (aGA _ _ _ _ hv)) q hg
theorem aOd {r:Int}(hx:aU n fr x=some (eI k i))(hy:aU n fr y=some (eI k j))(hv:quo k i j=some r)(hg:Gd ops n fr gd)(q:OpsX P N m ops l (aE n ((t,eI k r)::fr)) h K):OpsX P N m ops (⟨some t,.binOp .quo u x y w,ty,pos,aft,gd⟩::l) (aE n fr) h K:=xS (gC hx hy (aHb _ _ _ _ hv)) q hg
theorem aNZ {r:Int}(hx:aU n fr x=some (eI k i))(hy:aU n fr y=some (eI k j))(hv:rem i j=some r)(hg:Gd ops n fr gd)(q:OpsX P N m ops l (aE n ((t,eI k r)::fr)) h K):OpsX P N m ops (⟨some t,.binOp .rem u x y w,ty,pos,aft,gd⟩::l) (aE n fr) h K:=xS (gC hx hy (aG6 _ _ _ _ hv)) q hg
class DepC (P:Program):Prop where
 h:2≤P.depth
theorem xeA {k':IntKind}{N' sz by_ sz' by':Nat}{zz z':Value}{ml mm:List Int} [A:DepC P] [T:TiC P u ⟨.array N' e,sz,by_,zz⟩] [D:TiC P e ⟨.int k',sz',by',z'⟩] (hx:aU n fr x=some (.agg (ml.map (eI k)))) (hy:aU n fr y=some (.agg (mm.map (eI k)))) (hz:sz'=1) (h1:ml.length=N') (h2:mm.length=N') (hg:Gd ops n fr gd) (q:OpsX P N m ops l (aE n ((t,eB (ml == mm))::fr)) h K):OpsX P N m ops (⟨some t,.binOp .eql u x y w,ty,pos,aft,gd⟩::l) (aE n fr) h K:=xS (gC hx hy (aHe _ _ T.h D.h hz A.h h1 h2)) q hg
theorem xnA {k':IntKind}{N' sz by_ sz' by':Nat}{zz z':Value}{ml mm:List Int} [A:DepC P] [T:TiC P u ⟨.array N' e,sz,by_,zz⟩] [D:TiC P e ⟨.int k',sz',by',z'⟩] (hx:aU n fr x=some (.agg (ml.map (eI k)))) (hy:aU n fr y=some (.agg (mm.map (eI k)))) (hz:sz'=1) (h1:ml.length=N') (h2:mm.length=N') (hg:Gd ops n fr gd) (q:OpsX P N m ops l (aE n ((t,eB (!(ml == mm)))::fr)) h K):OpsX P N m ops (⟨some t,.binOp .neq u x y w,ty,pos,aft,gd⟩::l) (aE n fr) h K:=xS (gC hx hy (aG9 _ _ T.h D.h hz A.h h1 h2)) q hg
theorem xsR {α:Type}{E:α→V}{ml r:List α}{nl:Option Bool}{sz by_:Nat}{zz:Value}{lo hi:Option Operand}{vl vh:Option V}{c1 c2:Int} [T:TiC P u ⟨.slice e,sz,by_,zz⟩] [D:TiC P e di] (hx:aU n fr x=some (.row nl o (ml.map E))) (h1:xE n fr lo=some vl) (h2:xE n fr hi=some vh) (ha:i8 vl=some c1) (hb:oB vh ml.length=some c2) (hs:sub ml c1 c2=some r) (ho:di.size=o) {nl':Option Bool} (hq:nlS nl=nl') (hg:Gd ops n fr gd) (q:OpsX P N m ops l (aE n ((t,.row nl' o (r.map E))::fr)) h K):OpsX P N m ops (⟨some t,.slice u x lo hi none,ty,pos,aft,gd⟩::l) (aE n fr) h K:=by
 subst ho hq;exact xS (cK hx h1 h2 (rS T.h D.h ha hb hs)) q hg
theorem xsM {α:Type}{E:α→V}{ml r:List α}{nl:Option Bool}{sz by_:Nat}{zz:Value}{lo:Option Operand}{hi mx:Operand}{vl:Option V}{c1 c2:Int}{k1 k2:IntKind} [T:TiC P u ⟨.slice e,sz,by_,zz⟩] [D:TiC P e di] (hx:aU n fr x=some (.row nl o (ml.map E))) (h1:xE n fr lo=some vl) (ha:i8 vl=some c1) (h2:aU n fr hi=some (eI k1 c2)) (h3:aU n fr mx=some (eI k2 c2)) (hs:sub ml c1 c2=some r) (ho:di.size=o) (hg:Gd ops n fr gd) (q:OpsX P N m ops l (aE n ((t,.row (some false) o (r.map E))::fr)) h K):OpsX P N m ops (⟨some t,.slice u x lo (some hi) (some mx),ty,pos,aft,gd⟩::l) (aE n fr) h K:=by
 subst ho;exact xS (aGa hx h1 h2 h3 (slM T.h D.h ha hs)) q hg
theorem xsE {α:Type}{E:α→V}{ml:List α}{N' sz by_:Nat}{zz:Value} [T:TiC P u ⟨.array N' e,sz,by_,zz⟩] [D:TiC P e di] (hx:aU n fr x=some (.eptr [.agg (ml.map E)] 0 0)) (hs:di.size=1) (ha:a7 di.desc=false) (h1:ml.length=N') (h2:aOq 1 N'=true) (hg:Gd ops n fr gd) (q:OpsX P N m ops l (aE n ((t,.row none 1 (ml.map E))::fr)) h K):OpsX P N m ops (⟨some t,.slice u x none none none,ty,pos,aft,gd⟩::l) (aE n fr) h K:=xS (cK hx rfl rfl (slE T.h D.h hs ha h1 (aOj h2))) q hg
theorem xsL {α:Type}{E:α→V}{ml:List α}{N' sz by_ i':Nat}{zz:Value}{ag:Bool} [T:TiC P u ⟨.array N' e,sz,by_,zz⟩] [D:TiC P e di] (hx:aU n fr x=some (.ptr o 0)) (hb:h[o]? =some (some ⟨i',ml.map E⟩)) (hs:di.size=1) (ha:a7 di.desc=ag) (h1:ml.length=N') (h2:aOq 1 N'=true) (h3:aOq N' gX=true) (hg:Gd ops n fr gd) (q:OpsX P N m ops l (aE n ((t,.sl o 0 N' 1 ag)::fr)) h K):OpsX P N m ops (⟨some t,.slice u x none none none,ty,pos,aft,gd⟩::l) (aE n fr) h K:=xS (cK hx rfl rfl (slA T.h D.h hs ha hb h1 ⟨aOj h2,aOj h3⟩)) q hg
theorem xiK {α:Type}{C:α→List V}{ml:List α}{r:α}{q0 sz by_ e':Nat}{zz:Value} [T:TiC P u ⟨.slice e,sz,by_,zz⟩] [D:TiC P e di] (hx:aU n fr x=some (.sl o 0 q0 p true)) (hy:aU n fr y=some (eI k j)) (hb:h[o]? =some (some ⟨e',ml.flatMap C⟩)) (hi:eG ml j=some r) (hn:ml.length=q0) (hs:di.size=p) (hg:Gd ops n fr gd) (q:OpsX P N m ops l (aE n ((t,.ptr o (0+j.toNat*p))::fr)) h K):OpsX P N m ops (⟨some t,.indexAddr u x y,ty,pos,aft,gd⟩::l) (aE n fr) h K:=xS (aEW hx hy (aMS hn T.h D.h hs hi)) q hg
inductive Sr1 {α:Type}(E:α→V)(h:Hp):V→List α→Prop
 |r {nl:Option Bool} {ml:List α}:(∀x,(E x).cells=[E x])→Sr1 E h (.row nl 1 (ml.map E)) ml
 |s {b q e:Nat} {ag:Bool} {ml:List α}:h[b]? =some (some ⟨e,ml.map E⟩)→ml.length=q→Sr1 E h (.sl b 0 q 1 ag) ml
 |n {nl:Option Bool} {k:Nat}:Sr1 E h (.row nl k []) []
theorem Sr1.eq {α:Type}{E:α→V}{h:Hp}{v:V}{ml:List α}(hs:Sr1 E h v ml):dY h 1 v=some (ml.map E,ml.length):=by
 cases hs with
 |r hE=>exact mZ hE
 |s hb hq=>exact k9 hq hb
 |n=>exact aNX
inductive SrK {α:Type}(C:α→List V)(K:Nat)(h:Hp):V→List α→Prop
 |r {nl:Option Bool} {ml:List α}:SrK C K h (.row nl K (ml.map fun x=>V.agg (C x))) ml
 |s {b q e:Nat} {ml:List α}:(∀x,(C x).length=K)→h[b]? =some (some ⟨e,ml.flatMap C⟩)→ml.length=q→SrK C K h (.sl b 0 q K true) ml
 |n {nl:Option Bool} {k:Nat}:SrK C K h (.row nl k []) []
theorem SrK.eq {α:Type}{C:α→List V}{K:Nat}{h:Hp}{v:V}{ml:List α}(hs:SrK C K h v ml):dY h K v=some (ml.flatMap C,ml.length):=by
 cases hs with
 |r=>exact aLw
 |s hC hb hq=>exact aKn hC hq hb
 |n=>exact aKA
theorem xap {α:Type}{E:α→V}{ml mm r:List α}{q0 sz by_ r0:Nat}{zz:Value}{ag:Bool}{h2:Hp} [T:TiC P u ⟨.slice e,sz,by_,zz⟩] [D:TiC P e di] (hx:aU n fr x=some (.sl o 0 q0 1 ag)) (hy:aU n fr y=some v) (hb:h[o]? =some (some ⟨e,ml.map E⟩)) (hs:Sr1 E h v mm) (hn:ml.length=q0) (h1:di.zero.cells.size=1) (h3:di.size=1) (h4:aOq 1 di.bytes=true) {bb:Nat} (hbb:di.bytes=bb) (ha:gM bb ml mm=some r) (hh:LSet h o none h2) (hh':Snoc h2 (some ⟨e,r.map E⟩) h') (hl:h.length=r0) (hg:Gd ops n fr gd) (q:OpsX P N m ops l (aE n ((t,.sl r0 0 r.length 1 ag)::fr)) h' K):OpsX P N m ops (⟨some t,.call ⟨.builtin .append,#[x,y],#[u,u]⟩,ty,pos,aft,gd⟩::l) (aE n fr) h K:=by
 subst hbb;exact xS (bH hx hy (fL hn T.h D.h ⟨h1,h3,aOj h4⟩ hb hs.eq ha hl (by rw[hh.eq,hh'.eq]))) q hg
theorem xan {α:Type}{E:α→V}{mm r:List α}{sz by_ r0 kk:Nat}{zz:Value}{ag:Bool}{h2:Hp} [T:TiC P u ⟨.slice e,sz,by_,zz⟩] [D:TiC P e di] (hx:aU n fr x=some (.row (some true) kk [])) (hy:aU n fr y=some v) (hs:Sr1 E h v mm) (h1:di.zero.cells.size=1) (h3:di.size=1) (h4:aOq 1 di.bytes=true) (hag:a7 di.desc=ag) {bb:Nat} (hbb:di.bytes=bb) (ha:gM bb [] mm=some r) (hh:Snoc h none h2) (hh':Snoc h2 (some ⟨e,r.map E⟩) h') (hl:h2.length=r0) (hg:Gd ops n fr gd) (q:OpsX P N m ops l (aE n ((t,.sl r0 0 r.length 1 ag)::fr)) h' K):OpsX P N m ops (⟨some t,.call ⟨.builtin .append,#[x,y],#[u,u]⟩,ty,pos,aft,gd⟩::l) (aE n fr) h K:=by
 subst hbb;exact xS (bH hx hy (aNO T.h D.h ⟨h1,h3,aOj h4⟩ hs.eq hag ha (by rw[←hl,←hh.eq];simp) (by rw[hh.eq,hh'.eq]))) q hg
theorem xaf {α:Type}{E:α→V}{ml mm r:List α}{sz by_ r0:Nat}{zz:Value}{ag:Bool} [T:TiC P u ⟨.slice e,sz,by_,zz⟩] [D:TiC P e di] (hx:aU n fr x=some (.row (some false) 1 (ml.map E))) (hy:aU n fr y=some v) (hE: ∀x,(E x).cells=[E x]) (hs:Sr1 E h v mm) (hm:aOq 1 mm.length=true) (h1:di.zero.cells.size=1) (h3:di.size=1) (h4:aOq 1 di.bytes=true) (hag:a7 di.desc=ag) {bb:Nat} (hbb:di.bytes=bb) (ha:gM bb ml mm=some r) (hh:Snoc h (some ⟨e,r.map E⟩) h') (hl:h.length=r0) (hg:Gd ops n fr gd) (q:OpsX P N m ops l (aE n ((t,.sl r0 0 r.length 1 ag)::fr)) h' K):OpsX P N m ops (⟨some t,.call ⟨.builtin .append,#[x,y],#[u,u]⟩,ty,pos,aft,gd⟩::l) (aE n fr) h K:=by
 subst hbb;exact xS (bH hx hy (aMU T.h D.h ⟨h1,h3,aOj h4⟩ hE hs.eq (aOj hm) hag ha hl (by rw[hh.eq]))) q hg
theorem aNK {α:Type}{C:α→List V}{ml mm r:List α}{q0 sz by_ r0:Nat}{zz:Value}{h2:Hp} [T:TiC P u ⟨.slice e,sz,by_,zz⟩] [D:TiC P e di] (hx:aU n fr x=some (.sl o 0 q0 p true)) (hy:aU n fr y=some v) (hb:h[o]? =some (some ⟨e,ml.flatMap C⟩)) (hC: ∀x,(C x).length=p) (hs:SrK C p h v mm) (hn:ml.length=q0) (h1:di.zero.cells.size=p) (h3:di.size=p) (h4:aOq 1 di.bytes=true) (h5:aOq 1 p=true) {bb:Nat} (hbb:di.bytes=bb) (ha:gM bb ml mm=some r) (hh:LSet h o none h2) (hh':Snoc h2 (some ⟨e,r.flatMap C⟩) h') (hl:h.length=r0) (hg:Gd ops n fr gd) (q:OpsX P N m ops l (aE n ((t,.sl r0 0 r.length p true)::fr)) h' K):OpsX P N m ops (⟨some t,.call ⟨.builtin .append,#[x,y],#[u,u]⟩,ty,pos,aft,gd⟩::l) (aE n fr) h K:=by
 subst hbb;exact xS (bH hx hy (aLp hC hn T.h D.h ⟨h1,h3,aOj h4,aOj h5⟩ hb hs.eq ha hl (by rw[hh.eq,hh'.eq]))) q hg
theorem aNH {α:Type}{C:α→List V}{mm r:List α}{sz by_ r0 kk:Nat}{zz:Value}{h2:Hp} [T:TiC P u ⟨.slice e,sz,by_,zz⟩] [D:TiC P e di] (hx:aU n fr x=some (.row (some true) kk [])) (hy:aU n fr y=some v) (hs:SrK C p h v mm) (h1:di.zero.cells.size=p) (h3:di.size=p) (h4:aOq 1 di.bytes=true) (h5:aOq 1 p=true) (hag:a7 di.desc=true) {bb:Nat} (hbb:di.bytes=bb) (ha:gM bb [] mm=some r) (hh:Snoc h none h2) (hh':Snoc h2 (some ⟨e,r.flatMap C⟩) h') (hl:h2.length=r0) (hg:Gd ops n fr gd) (q:OpsX P N m ops l (aE n ((t,.sl r0 0 r.length p true)::fr)) h' K):OpsX P N m ops (⟨some t,.call ⟨.builtin .append,#[x,y],#[u,u]⟩,ty,pos,aft,gd⟩::l) (aE n fr) h K:=by
 subst hbb;exact xS (bH hx hy (aKq T.h D.h ⟨h1,h3,aOj h4,aOj h5⟩ hs.eq hag ha (by rw[←hl,←hh.eq];simp) (by rw[hh.eq,hh'.eq]))) q hg
end
structure aNG (q:Prop):Prop where
 h:q
section
variable {P:Program}{N n t:Nat}{m:Option (List Nat×List Nat)}{ops:Array Oper}{l:List Oper}{h:Hp}{K:List V→Hp→Prop}{op:Op}{ty:TypeId}{pos:String}{aft:Array Edge}{gd:Option (Nat×Bool)}{x y z:Operand}{Q:Ex→List V→Hp→Prop}{s:List V}{o e:Nat}{u w:TypeId}{bo:BinOp}{ob:Oper}{c:Code}{ws:List Operand}{ts:Array TypeId}{ps:List (Nat×Operand)}{lo hi:Option Operand}{hj mj:Operand}
theorem isX (k:OpsX P N m ops (ob::l) s h K):OpsX P N m ops (ob::l) s h K:=k
theorem isA (k:AB P N c Q s h):AB P N c Q s h:=k
theorem aH8 (k:OpsX P N m ops (⟨some t,.call ⟨.builtin .len,ws.toArray,ts⟩,ty,pos,aft,gd⟩::l) s h K):OpsX P N m ops (⟨some t,.call ⟨.builtin .len,ws.toArray,ts⟩,ty,pos,aft,gd⟩::l) s h K:=k
theorem aJi (k:OpsX P N m ops (⟨some t,.call ⟨.builtin .append,ws.toArray,ts⟩,ty,pos,aft,gd⟩::l) s h K):OpsX P N m ops (⟨some t,.call ⟨.builtin .append,ws.toArray,ts⟩,ty,pos,aft,gd⟩::l) s h K:=k
theorem aIx (k:OpsX P N m ops (⟨some t,.move x,ty,pos,aft,gd⟩::l) s h K):OpsX P N m ops (⟨some t,.move x,ty,pos,aft,gd⟩::l) s h K:=k
theorem aHR (k:OpsX P N m ops (⟨some t,.load u x,ty,pos,aft,gd⟩::l) s h K):OpsX P N m ops (⟨some t,.load u x,ty,pos,aft,gd⟩::l) s h K:=k
theorem aJ3 (k:OpsX P N m ops (⟨some t,.binOp bo u x y w,ty,pos,aft,gd⟩::l) s h K):OpsX P N m ops (⟨some t,.binOp bo u x y w,ty,pos,aft,gd⟩::l) s h K:=k
theorem aLy (k:OpsX P N m ops (⟨some t,.fieldAddr u x o,ty,pos,aft,gd⟩::l) s h K):OpsX P N m ops (⟨some t,.fieldAddr u x o,ty,pos,aft,gd⟩::l) s h K:=k
theorem aIR (k:OpsX P N m ops (⟨some t,.assign x,ty,pos,aft,gd⟩::l) s h K):OpsX P N m ops (⟨some t,.assign x,ty,pos,aft,gd⟩::l) s h K:=k
theorem aLb (k:OpsX P N m ops (⟨some t,.indexAddr u x y,ty,pos,aft,gd⟩::l) s h K):OpsX P N m ops (⟨some t,.indexAddr u x y,ty,pos,aft,gd⟩::l) s h K:=k
theorem aMa (k:OpsX P N m ops (⟨none,.store u x y,ty,pos,aft,gd⟩::l) s h K):OpsX P N m ops (⟨none,.store u x y,ty,pos,aft,gd⟩::l) s h K:=k
theorem aKO (k:OpsX P N m ops (⟨some t,.alloc e,ty,pos,aft,gd⟩::l) s h K):OpsX P N m ops (⟨some t,.alloc e,ty,pos,aft,gd⟩::l) s h K:=k
theorem aL2 (k:OpsX P N m ops (⟨some t,.buildSlice u o ps.toArray,ty,pos,aft,gd⟩::l) s h K):OpsX P N m ops (⟨some t,.buildSlice u o ps.toArray,ty,pos,aft,gd⟩::l) s h K:=k
theorem aKY (k:OpsX P N m ops (⟨some t,.slice u x lo (some hj) (some mj),ty,pos,aft,gd⟩::l) s h K):OpsX P N m ops (⟨some t,.slice u x lo (some hj) (some mj),ty,pos,aft,gd⟩::l) s h K:=k
theorem aMu (k:OpsX P N m ops (⟨some t,.slice u x lo hi none,ty,pos,aft,gd⟩::l) s h K):OpsX P N m ops (⟨some t,.slice u x lo hi none,ty,pos,aft,gd⟩::l) s h K:=k
theorem aKF (k:OpsX P N m ops (⟨some t,.pick x y z,ty,pos,aft,gd⟩::l) s h K):OpsX P N m ops (⟨some t,.pick x y z,ty,pos,aft,gd⟩::l) s h K:=k
theorem aK8 (k:OpsX P N m ops (⟨some t,.nilCheck x,ty,pos,aft,gd⟩::l) s h K):OpsX P N m ops (⟨some t,.nilCheck x,ty,pos,aft,gd⟩::l) s h K:=k
end
theorem zz {p q:Prop}(k:q) (h:aNG q→p:=by(intro kk;(repeat (first|(apply isX;first|((with_reducible apply aH8);first|(apply xlR;exact rfl;(first|exact True.intro|exact⟨_,rfl,_,rfl,by assumption⟩))|(apply xlS;exact rfl;(first|exact True.intro|exact⟨_,rfl,_,rfl,by assumption⟩))|(apply xlT;exact rfl;(first|exact True.intro|exact⟨_,rfl,_,rfl,by assumption⟩)))|((with_reducible apply aJi);first|(apply xap;exact rfl;exact rfl;exact rfl;(first|exact Sr1.n|(apply Sr1.r;exact(fun _=>rfl))|(apply Sr1.s;exact rfl;(first|exact rfl|exact(by simp only[bS,bT,List.length_replicate];done)|exact aO (by assumption)|exact bU (by assumption))));(first|exact rfl|exact(by simp only[bS,bT,List.length_replicate];done)|exact aO (by assumption)|exact bU (by assumption));exact rfl;exact rfl;exact rfl;exact rfl;assumption;(repeat (first|exact LSet.z|apply LSet.s));(repeat (first|exact Snoc.n|apply Snoc.c));(first|exact(by simp only[List.length_cons,List.length_nil,Nat.zero_add,Nat.reduceAdd]<;>rfl)|exact rfl);(first|exact True.intro|exact⟨_,rfl,_,rfl,by assumption⟩))|(apply xan;exact rfl;exact rfl;(first|exact Sr1.n|(apply Sr1.r;exact(fun _=>rfl))|(apply Sr1.s;exact rfl;(first|exact rfl|exact(by simp only[bS,bT,List.length_replicate];done)|exact aO (by assumption)|exact bU (by assumption))));exact rfl;exact rfl;exact rfl;exact rfl;exact rfl;assumption;(repeat (first|exact Snoc.n|apply Snoc.c));(repeat (first|exact Snoc.n|apply Snoc.c));(first|exact(by simp only[List.length_cons,List.length_nil,Nat.zero_add,Nat.reduceAdd]<;>rfl)|exact rfl);(first|exact True.intro|exact⟨_,rfl,_,rfl,by assumption⟩))|(apply xaf;exact rfl;exact rfl;exact(fun _=>rfl);(first|exact Sr1.n|(apply Sr1.r;exact(fun _=>rfl))|(apply Sr1.s;exact rfl;(first|exact rfl|exact(by simp only[bS,bT,List.length_replicate];done)|exact aO (by assumption)|exact bU (by assumption))));(first|exact rfl);exact rfl;exact rfl;exact rfl;exact rfl;exact rfl;assumption;(repeat (first|exact Snoc.n|apply Snoc.c));(first|exact(by simp only[List.length_cons,List.length_nil,Nat.zero_add,Nat.reduceAdd]<;>rfl)|exact rfl);(first|exact True.intro|exact⟨_,rfl,_,rfl,by assumption⟩))|(apply aNK;exact rfl;exact rfl;exact rfl;exact(fun _=>rfl);(first|exact SrK.n|exact SrK.r|(apply SrK.s;exact(fun _=>rfl);exact rfl;(first|exact rfl|exact(by simp only[bS,bT,List.length_replicate];done)|exact aO (by assumption)|exact bU (by assumption))));(first|exact rfl|exact(by simp only[bS,bT,List.length_replicate];done)|exact aO (by assumption)|exact bU (by assumption));exact rfl;exact rfl;exact rfl;exact rfl;exact rfl;assumption;(repeat (first|exact LSet.z|apply LSet.s));(repeat (first|exact Snoc.n|apply Snoc.c));(first|exact(by simp only[List.length_cons,List.length_nil,Nat.zero_add,Nat.reduceAdd]<;>rfl)|exact rfl);(first|exact True.intro|exact⟨_,rfl,_,rfl,by assumption⟩))|(apply aNH;exact rfl;exact rfl;(first|exact SrK.n|exact SrK.r|(apply SrK.s;exact(fun _=>rfl);exact rfl;(first|exact rfl|exact(by simp only[bS,bT,List.length_replicate];done)|exact aO (by assumption)|exact bU (by assumption))));exact rfl;exact rfl;exact rfl;exact rfl;exact rfl;exact rfl;assumption;(repeat (first|exact Snoc.n|apply Snoc.c));(repeat (first|exact Snoc.n|apply Snoc.c));(first|exact(by simp only[List.length_cons,List.length_nil,Nat.zero_add,Nat.reduceAdd]<;>rfl)|exact rfl);(first|exact True.intro|exact⟨_,rfl,_,rfl,by assumption⟩)))|((with_reducible apply aIx);first|(apply xmc;(first|exact OfC.i|exact OfC.b|exact OfC.l|exact OfC.s|exact OfC.p);(first|exact True.intro|exact⟨_,rfl,_,rfl,by assumption⟩))|(apply xm;exact rfl;(first|exact True.intro|exact⟨_,rfl,_,rfl,by assumption⟩)))|((with_reducible apply aHR);first|(apply xl1;exact rfl;exact rfl;exact rfl;exact rfl;(first|exact True.intro|exact⟨_,rfl,_,rfl,by assumption⟩))|(apply aMQ;exact rfl;exact rfl;(first|assumption|exact kV (by assumption));exact rfl;(first|exact True.intro|exact⟨_,rfl,_,rfl,by assumption⟩))|(apply xlX;exact rfl;exact rfl;exact rfl;(first|assumption|exact kV (by assumption));(first|exact True.intro|exact⟨_,rfl,_,rfl,by assumption⟩))|(apply xlN;exact rfl;exact rfl;(first|exact Tak.w rfl|(repeat (first|exact Tak.d|(apply Tak.t;(first|exact IsA.c|exact IsA.a4|exact IsA.a32|exact IsA.a8|exact IsA.a20|exact IsA.a64);exact rfl)|(apply Tak.s;(first|exact IsA.c|exact IsA.a4|exact IsA.a32|exact IsA.a8|exact IsA.a20|exact IsA.a64);exact rfl))));(first|exact True.intro|exact⟨_,rfl,_,rfl,by assumption⟩))|(apply aM8;exact rfl;(first|assumption|exact kV (by assumption));exact rfl;(first|exact Tak.w rfl|(repeat (first|exact Tak.d|(apply Tak.t;(first|exact IsA.c|exact IsA.a4|exact IsA.a32|exact IsA.a8|exact IsA.a20|exact IsA.a64);exact rfl)|(apply Tak.s;(first|exact IsA.c|exact IsA.a4|exact IsA.a32|exact IsA.a8|exact IsA.a20|exact IsA.a64);exact rfl))));(first|exact True.intro|exact⟨_,rfl,_,rfl,by assumption⟩))|(apply xlB;exact rfl;exact rfl;exact rfl;(first|exact rfl|exact(by simp only[bS,bT,List.length_replicate];done)|exact aO (by assumption)|exact bU (by assumption));(first|exact True.intro|exact⟨_,rfl,_,rfl,by assumption⟩))|(apply xlA;exact rfl;exact rfl;(first|exact Tak.w rfl|(repeat (first|exact Tak.d|(apply Tak.t;(first|exact IsA.c|exact IsA.a4|exact IsA.a32|exact IsA.a8|exact IsA.a20|exact IsA.a64);exact rfl)|(apply Tak.s;(first|exact IsA.c|exact IsA.a4|exact IsA.a32|exact IsA.a8|exact IsA.a20|exact IsA.a64);exact rfl))));(first|(apply ArM.a32;(first|exact rfl|exact(by simp only[bS,bT,List.length_replicate];done)|exact aO (by assumption)|exact bU (by assumption)))|(apply ArM.a4;(first|exact rfl|exact(by simp only[bS,bT,List.length_replicate];done)|exact aO (by assumption)|exact bU (by assumption)))|(apply ArM.a8;(first|exact rfl|exact(by simp only[bS,bT,List.length_replicate];done)|exact aO (by assumption)|exact bU (by assumption)))|(apply ArM.a20;(first|exact rfl|exact(by simp only[bS,bT,List.length_replicate];done)|exact aO (by assumption)|exact bU (by assumption)))|(apply ArM.a64;(first|exact rfl|exact(by simp only[bS,bT,List.length_replicate];done)|exact aO (by assumption)|exact bU (by assumption))));(first|exact True.intro|exact⟨_,rfl,_,rfl,by assumption⟩))|(apply aNd;exact rfl;(first|assumption|exact kV (by assumption));exact rfl;(first|exact Tak.w rfl|(repeat (first|exact Tak.d|(apply Tak.t;(first|exact IsA.c|exact IsA.a4|exact IsA.a32|exact IsA.a8|exact IsA.a20|exact IsA.a64);exact rfl)|(apply Tak.s;(first|exact IsA.c|exact IsA.a4|exact IsA.a32|exact IsA.a8|exact IsA.a20|exact IsA.a64);exact rfl))));(first|(apply ArM.a32;(first|exact rfl|exact(by simp only[bS,bT,List.length_replicate];done)|exact aO (by assumption)|exact bU (by assumption)))|(apply ArM.a4;(first|exact rfl|exact(by simp only[bS,bT,List.length_replicate];done)|exact aO (by assumption)|exact bU (by assumption)))|(apply ArM.a8;(first|exact rfl|exact(by simp only[bS,bT,List.length_replicate];done)|exact aO (by assumption)|exact bU (by assumption)))|(apply ArM.a20;(first|exact rfl|exact(by simp only[bS,bT,List.length_replicate];done)|exact aO (by assumption)|exact bU (by assumption)))|(apply ArM.a64;(first|exact rfl|exact(by simp only[bS,bT,List.length_replicate];done)|exact aO (by assumption)|exact bU (by assumption))));(first|exact True.intro|exact⟨_,rfl,_,rfl,by assumption⟩)))|((with_reducible apply aJ3);first|(apply xb;exact rfl;exact rfl;exact rfl;(first|exact True.intro|exact⟨_,rfl,_,rfl,by assumption⟩))|(apply aNx;exact rfl;exact rfl;assumption;(first|exact True.intro|exact⟨_,rfl,_,rfl,by assumption⟩))|(apply aNC;exact rfl;exact rfl;assumption;(first|exact True.intro|exact⟨_,rfl,_,rfl,by assumption⟩))|(apply aOd;exact rfl;exact rfl;(first|assumption|exact rfl);(first|exact True.intro|exact⟨_,rfl,_,rfl,by assumption⟩))|(apply aNZ;exact rfl;exact rfl;(first|assumption|exact rfl);(first|exact True.intro|exact⟨_,rfl,_,rfl,by assumption⟩))|(apply xeA;exact rfl;exact rfl;exact rfl;(first|exact rfl|exact(by simp only[bS,bT,List.length_replicate];done)|exact aO (by assumption)|exact bU (by assumption));(first|exact rfl|exact(by simp only[bS,bT,List.length_replicate];done)|exact aO (by assumption)|exact bU (by assumption));(first|exact True.intro|exact⟨_,rfl,_,rfl,by assumption⟩))|(apply xnA;exact rfl;exact rfl;exact rfl;(first|exact rfl|exact(by simp only[bS,bT,List.length_replicate];done)|exact aO (by assumption)|exact bU (by assumption));(first|exact rfl|exact(by simp only[bS,bT,List.length_replicate];done)|exact aO (by assumption)|exact bU (by assumption));(first|exact True.intro|exact⟨_,rfl,_,rfl,by assumption⟩)))|((with_reducible apply aLy);first|(apply xfp;exact rfl;(first|(with_reducible exact Nat.zero_add _)|exact rfl);(first|exact True.intro|exact⟨_,rfl,_,rfl,by assumption⟩))|(apply xfe;exact rfl;(first|(with_reducible exact Nat.zero_add _)|exact rfl);(first|exact True.intro|exact⟨_,rfl,_,rfl,by assumption⟩)))|((with_reducible apply aIR);first|(apply xac;(first|exact OfC.i|exact OfC.b|exact OfC.l|exact OfC.s|exact OfC.p);(first|exact True.intro|exact⟨_,rfl,_,rfl,by assumption⟩))|(apply xa;exact rfl;(first|exact True.intro|exact⟨_,rfl,_,rfl,by assumption⟩)))|(apply xe;exact rfl;exact rfl;(first|exact True.intro|exact⟨_,rfl,_,rfl,by assumption⟩))|((with_reducible apply aLb);first|(apply xiR;exact rfl;exact rfl;exact rfl;(first|assumption|exact kV (by assumption));(first|exact True.intro|exact⟨_,rfl,_,rfl,by assumption⟩))|(apply xiS;exact rfl;exact rfl;exact rfl;(first|assumption|exact kV (by assumption));(first|exact rfl|exact(by simp only[bS,bT,List.length_replicate];done)|exact aO (by assumption)|exact bU (by assumption));exact rfl;(first|exact True.intro|exact⟨_,rfl,_,rfl,by assumption⟩))|(apply xiB;exact rfl;exact rfl;exact rfl;assumption;exact rfl;(first|exact True.intro|exact⟨_,rfl,_,rfl,by assumption⟩))|(apply xiK;exact rfl;exact rfl;exact rfl;(first|assumption|exact kV (by assumption));(first|exact rfl|exact(by simp only[bS,bT,List.length_replicate];done)|exact aO (by assumption)|exact bU (by assumption));exact rfl;(first|exact True.intro|exact⟨_,rfl,_,rfl,by assumption⟩)))|(apply xci;exact rfl;(first|exact True.intro|exact⟨_,rfl,_,rfl,by assumption⟩))|((with_reducible apply aMa);first|(apply xsA;exact rfl;exact rfl;exact rfl;exact rfl;exact(fun _=>rfl);(first|exact rfl|exact(by simp only[bS,bT,List.length_replicate];done)|exact aO (by assumption)|exact bU (by assumption));(first|exact rfl|exact(by simp only[bS,bT,List.length_replicate];done)|exact aO (by assumption)|exact bU (by assumption));(repeat (first|exact LSet.z|apply LSet.s));(first|exact True.intro|exact⟨_,rfl,_,rfl,by assumption⟩))|(apply xs;exact rfl;exact rfl;exact rfl;(first|exact Cel.a rfl|exact Cel.o rfl rfl|exact Cel.m (fun _=>rfl));exact rfl;exact rfl;(first|exact Spl.w rfl|(repeat (first|exact Spl.d|(apply Spl.p;(first|exact IsA.c|exact IsA.a4|exact IsA.a32|exact IsA.a8|exact IsA.a20|exact IsA.a64);(first|exact IsA.c|exact IsA.a4|exact IsA.a32|exact IsA.a8|exact IsA.a20|exact IsA.a64))|(apply Spl.s;(first|exact IsA.c|exact IsA.a4|exact IsA.a32|exact IsA.a8|exact IsA.a20|exact IsA.a64);exact rfl))));(repeat (first|exact LSet.z|apply LSet.s));(first|exact True.intro|exact⟨_,rfl,_,rfl,by assumption⟩))|(apply xsX;exact rfl;exact rfl;exact rfl;exact rfl;(first|assumption|exact kV (by assumption));exact rfl;exact rfl;(repeat (first|exact LSet.z|apply LSet.s));(first|exact True.intro|exact⟨_,rfl,_,rfl,by assumption⟩)))|((with_reducible apply aKO);first|(apply aNB;exact rfl;(repeat (first|exact Snoc.n|apply Snoc.c));(first|exact(by simp only[List.length_cons,List.length_nil,Nat.zero_add,Nat.reduceAdd]<;>rfl)|exact rfl);(first|exact True.intro|exact⟨_,rfl,_,rfl,by assumption⟩))|(apply xal;(first|(apply Zro.o;(first|exact OfC.i|exact OfC.b|exact OfC.l|exact OfC.s|exact OfC.p))|(apply Zro.a;repeat (first|exact OfCs.n|(apply OfCs.c;(first|exact OfC.i|exact OfC.b|exact OfC.l|exact OfC.s|exact OfC.p)))));(repeat (first|exact Snoc.n|apply Snoc.c));(first|exact(by simp only[List.length_cons,List.length_nil,Nat.zero_add,Nat.reduceAdd]<;>rfl)|exact rfl);(first|exact True.intro|exact⟨_,rfl,_,rfl,by assumption⟩)))|(apply xbx;exact rfl;(first|exact Cel.a rfl|exact Cel.o rfl rfl|exact Cel.m (fun _=>rfl));(repeat (first|exact Snoc.n|apply Snoc.c));(first|exact(by simp only[List.length_cons,List.length_nil,Nat.zero_add,Nat.reduceAdd]<;>rfl)|exact rfl);(first|exact True.intro|exact⟨_,rfl,_,rfl,by assumption⟩))|((with_reducible apply aL2);first|(apply aOa;exact rfl;(repeat (first|exact NumK.n|apply NumK.c));exact rfl;exact rfl;exact rfl;exact rfl;(repeat (first|exact Snoc.n|apply Snoc.c));(first|exact(by simp only[List.length_cons,List.length_nil,Nat.zero_add,Nat.reduceAdd]<;>rfl)|exact rfl);(first|exact True.intro|exact⟨_,rfl,_,rfl,by assumption⟩))|(apply aNE;exact rfl;(repeat (first|exact NumR.n|apply NumR.z|apply NumR.c));exact rfl;exact rfl;exact rfl;exact rfl;(repeat (first|exact Snoc.n|apply Snoc.c));(first|exact(by simp only[List.length_cons,List.length_nil,Nat.zero_add,Nat.reduceAdd]<;>rfl)|exact rfl);(first|exact True.intro|exact⟨_,rfl,_,rfl,by assumption⟩))|(apply aNq;exact rfl;(repeat (first|exact NumB.n|apply NumB.c));exact rfl;exact rfl;exact rfl;exact rfl;(repeat (first|exact Snoc.n|apply Snoc.c));(first|exact(by simp only[List.length_cons,List.length_nil,Nat.zero_add,Nat.reduceAdd]<;>rfl)|exact rfl);(first|exact True.intro|exact⟨_,rfl,_,rfl,by assumption⟩)))|((with_reducible apply aKY);first|(apply xsM;exact rfl;exact rfl;exact rfl;exact rfl;exact rfl;assumption;exact rfl;(first|exact True.intro|exact⟨_,rfl,_,rfl,by assumption⟩)))|((with_reducible apply aMu);first|(apply xsR;exact rfl;exact rfl;exact rfl;exact rfl;exact rfl;assumption;exact rfl;exact rfl;(first|exact True.intro|exact⟨_,rfl,_,rfl,by assumption⟩))|(apply xsL;exact rfl;exact rfl;exact rfl;exact rfl;(first|exact rfl|exact(by simp only[bS,bT,List.length_replicate];done)|exact aO (by assumption)|exact bU (by assumption));exact rfl;exact rfl;(first|exact True.intro|exact⟨_,rfl,_,rfl,by assumption⟩))|(apply xsE;exact rfl;exact rfl;exact rfl;(first|exact rfl|exact(by simp only[bS,bT,List.length_replicate];done)|exact aO (by assumption)|exact bU (by assumption));exact rfl;(first|exact True.intro|exact⟨_,rfl,_,rfl,by assumption⟩)))|(apply xno;exact rfl;(first|exact True.intro|exact⟨_,rfl,_,rfl,by assumption⟩))|(apply xbd;exact rfl;(first|(apply Zro.o;(first|exact OfC.i|exact OfC.b|exact OfC.l|exact OfC.s|exact OfC.p))|(apply Zro.a;repeat (first|exact OfCs.n|(apply OfCs.c;(first|exact OfC.i|exact OfC.b|exact OfC.l|exact OfC.s|exact OfC.p)))));(repeat (first|exact Fil.n|(apply Fil.c;exact rfl;(first|exact Cel.a rfl|exact Cel.o rfl rfl|exact Cel.m (fun _=>rfl));exact rfl;exact rfl;(first|exact Spl.w rfl|(repeat (first|exact Spl.d|(apply Spl.p;(first|exact IsA.c|exact IsA.a4|exact IsA.a32|exact IsA.a8|exact IsA.a20|exact IsA.a64);(first|exact IsA.c|exact IsA.a4|exact IsA.a32|exact IsA.a8|exact IsA.a20|exact IsA.a64))|(apply Spl.s;(first|exact IsA.c|exact IsA.a4|exact IsA.a32|exact IsA.a8|exact IsA.a20|exact IsA.a64);exact rfl)))))));(first|exact True.intro|exact⟨_,rfl,_,rfl,by assumption⟩))|(apply xfd;exact rfl;exact rfl;exact rfl;exact rfl;(first|exact True.intro|exact⟨_,rfl,_,rfl,by assumption⟩))|((with_reducible apply aKF);first|(apply xpT;exact rfl;(first|assumption|exact rfl);exact rfl;(first|exact True.intro|exact⟨_,rfl,_,rfl,by assumption⟩))|(apply xpF;exact rfl;(first|assumption|exact rfl);exact rfl;(first|exact True.intro|exact⟨_,rfl,_,rfl,by assumption⟩)))|((with_reducible apply aK8);first|(apply xnp;exact rfl;(first|exact True.intro|exact⟨_,rfl,_,rfl,by assumption⟩))|(apply xne;exact rfl;(first|exact True.intro|exact⟨_,rfl,_,rfl,by assumption⟩)))|(apply xVv;exact rfl;exact rfl)|(apply xXx;exact rfl;exact rfl;assumption))|apply OpsX.nil|((with_reducible apply isA);first|((with_reducible apply xqn);exact rfl)|(with_reducible apply AB.skip)|((with_reducible apply xrn);exact rfl)|(with_reducible apply AB.ret)|(with_reducible apply AB.exit))|(with_reducible apply Ex.then_mk)|(with_reducible apply Ex.inBlock_mk)|(with_reducible apply Ex.then_exit_mk)|(with_reducible apply Ex.inBlock_same_mk)|((with_reducible apply Ex.inBlock_other_mk);exact rfl)|(with_reducible apply Ex.then_ret_mk)|(with_reducible apply Ex.inBlock_ret_mk)));exact kk.1)):p:=h ⟨k⟩
theorem Conv.ptr {α:Type}{E:α→V}{l:List α}{h h':Hp}(hs:Sub h h'){b:Nat}{e:TypeId}(hb:h[b]? =some (some ⟨e,l.map E⟩))(hb':h'[b]? =some none)(hsh: ∀x,(E x).shut=true)(hn:0<l.length):Conv h h' (.ptr b 0) (.eptr [.agg (l.map E)] 0 0):=by
 intro A M w v H hv
 obtain⟨hone,_⟩:=H.blk b _ hb
 unfold VR at hv⊢
 obtain⟨g,sh,hm,rfl,hshp⟩:=hv
 obtain⟨_,⟨hm',_⟩|⟨g',bY,hm',hA,_⟩⟩:=H.blk b _ hb
 ·rw[hm]at hm';cases hm'
 rw[hm]at hm'
 injection hm' with hm'
 injection hm' with hm'
 subst hm'
 obtain⟨vs,hvs,hl⟩:=vO H hb hm hshp 0
 rw[aOE]at hvs
 have hX: ¬Xs A M h' g:=by
  rintro(ha|⟨c,C,hc,hmc⟩)
  ·exact hA ha
  obtain⟨C',hc'⟩:=hs c C hc
  have:=H.inj c b C' _ g hc' hb hmc hm
  subst this
  rw[hb']at hc;cases hc
 have hc2:VCells (Xs A M h') [] w (l.map E) vs:=VCells.mk hvs.len fun i c u hc hu=>by
  obtain⟨u',hu',hr⟩:=hvs.get hc
  rw[hu]at hu'
  injection hu' with hu'
  subst hu'
  have:c.shut=true:=by
   rw[List.getElem?_map]at hc
   cases hq:l[i]? with
   |none=>rw[hq]at hc;cases hc
   |some y=>rw[hq]at hc;injection hc with hc;subst hc;exact hsh y
  exact(hr.shut this).avoid (fun _ _ hx=>hs.xs hx)
 refine⟨⟨g,0,none⟩,l.length, ?_,hn,fun _=>hX,rfl, ?_, ?_⟩
 ·simp[Addr.add]
 ·intro e' he'
  rw[List.mem_singleton]at he'
  subst he'
  simp only[V.okElem,V.flatOk,V.cells,aOR,beq_iff_eq,aOJ,and_true]
  exact aOQ.2 hone
 unfold VRow
 refine⟨⟨.agg vs.toArray,by unfold VR;exact⟨vs,rfl,hc2⟩, ?_, ?_⟩,by unfold VRow;trivial⟩
 ·show vs.toArray.size=l.length
  rw[List.size_toArray,←hvs.len,aOJ]
 exact hl
inductive PCv (h h':Hp):List (Nat×V)→List (Nat×V)→Prop
 |n:PCv h h' [] []
 |s {t:Nat} {x:V} {fr fr':List (Nat×V)}:PCv h h' fr fr'→PCv h h' ((t,x)::fr) ((t,x)::fr')
 |r {t b q:Nat} {e:TypeId} {cs:List V} {ag:Bool} {fr fr':List (Nat×V)}:h[b]? =some (some ⟨e,cs⟩)→h'[b]? =some none→cs.all V.shut=true→q=cs.length→PCv h h' fr fr'→PCv h h' ((t,.sl b 0 q 1 ag)::fr) ((t,.row none 1 cs)::fr')
 |p {α:Type} {E:α→V} {l:List α} {t b:Nat} {e:TypeId} {fr fr':List (Nat×V)}:h[b]? =some (some ⟨e,l.map E⟩)→h'[b]? =some none→(∀x,(E x).shut=true)→aOq 1 l.length=true→PCv h h' fr fr'→PCv h h' ((t,.ptr b 0)::fr) ((t,.eptr [.agg (l.map E)] 0 0)::fr')
 |k {α:Type} {C:α→List V} {K:Nat} {l:List α} {t b q:Nat} {e:TypeId} {fr fr':List (Nat×V)}:h[b]? =some (some ⟨e,l.flatMap C⟩)→h'[b]? =some none→(∀x,(C x).length=K)→(∀x,(C x).all V.one=true)→(∀x,(C x).all V.shut=true)→q=l.length→PCv h h' fr fr'→PCv h h' ((t,.sl b 0 q K true)::fr) ((t,.row none K (l.map fun x=>V.agg (C x)))::fr')
theorem PCv.get {h h':Hp}(hs:Sub h h'){fr fr':List (Nat×V)}(p:PCv h h' fr fr'): ∀(t:Nat)(y:V),look fr' t=some y→ ∃x,look fr t=some x∧Conv h h' x y:=by
 induction p with
 |n=>intro t y hy;cases hy
 | @s u x fr fr' _ ih=>
  intro t y hy
  simp only[look]at hy⊢
  cases hb:aOO u t with
  |true=>rw[hb]at hy;simp only[cond_true,aOs]at hy ⊢; subst hy;exact⟨x,rfl,Conv.same hs⟩
  |false=>rw[hb]at hy;exact ih t y hy
 | @r u b q e cs ag fr fr' h1 h2 h3 h4 _ ih=>
  intro t y hy
  simp only[look]at hy⊢
  cases hb:aOO u t with
  |true=>rw[hb]at hy;simp only[cond_true,aOs]at hy ⊢; subst hy;exact⟨_,rfl,Conv.row hs h1 h2 h3 h4⟩
  |false=>rw[hb]at hy;exact ih t y hy
 | @p α E l u b e fr fr' h1 h2 h3 h4 _ ih=>
  intro t y hy
  simp only[look]at hy⊢
  cases hb:aOO u t with
  |true=>rw[hb]at hy;simp only[cond_true,aOs]at hy ⊢; subst hy;exact⟨_,rfl,Conv.ptr hs h1 h2 h3 (aOj h4)⟩
  |false=>rw[hb]at hy;exact ih t y hy
 | @k α C K l u b q e fr fr' h1 h2 h3 h4 h5 h6 _ ih=>
  intro t y hy
  simp only[look]at hy⊢
  cases hb:aOO u t with
  |true=>rw[hb]at hy;simp only[cond_true,aOs]at hy ⊢; subst hy;exact⟨_,rfl,Conv.rowK h3 h4 h5 hs h1 h2 h6⟩
  |false=>rw[hb]at hy;exact ih t y hy
theorem Ghost.fz {N n b:Nat}{fr fr':List (Nat×V)}{h h':Hp}(he:h.set b none=h')(hp:PCv h h' fr fr'):Ghost N (aE n fr) h (aE n fr') h':=by
 subst he
 have hg: ∀{j:Nat}{B:Blk},(h.set b none)[j]? =some (some B)→h[j]? =some (some B):=by
  intro j B hj
  by_cases hij:b=j
  ·subst hij
   rw[List.getElem?_set]at hj
   split at hj
   ·split at hj<;>cases hj
   rename_i hne;exact absurd rfl hne
  rwa[aOL hij]at hj
 have hs:Sub h (h.set b none):=fun j B hj=>⟨B,hg hj⟩
 intro A M a w hN R
 refine⟨M,rfl,⟨⟨by rw[aOB];exact R.hr.len,R.hr.alt, ?_, ?_,R.hr.glob.avoid fun g _ hx=>hx.elim .inl (fun hl=> .inr (hs.live hl))⟩, ?_,R.defers⟩,fun g hl=>hs.live hl⟩
 ·intro j B hj
  obtain⟨h1,h2⟩:=R.hr.blk j B (hg hj)
  refine⟨h1, ?_⟩
  rcases h2 with⟨hn,hc0⟩|⟨g,cs,hgm,hA,hw,hle,hcs⟩
  ·exact .inl ⟨hn,hc0⟩
  exact .inr ⟨g,cs,hgm,hA,hw,hle,hcs.avoid (fun g _ hx=>hs.xs hx)⟩
 ·intro i j B C g hi hj mi mj
  exact R.hr.inj i j B C g (hg hi) (hg hj) mi mj
 exact uB R.sr (fun t y hy=>by
  obtain⟨x,hx,hl⟩:=hp.get hs t y hy
  exact⟨x,hx,fun v hv=>hl A M w v R.hr hv⟩)
theorem zv {N n:Nat}{fr fr':List (Nat×V)}{h h':Hp}(b:Nat) (he:LSet h b none h':=by(repeat (first|exact LSet.z|apply LSet.s)))
  (hp:PCv h h' fr fr':=by(repeat (first|exact PCv.n|(apply PCv.p;exact rfl;exact rfl;exact(fun _=>rfl);(first|exact rfl|exact aHI (by assumption) rfl|exact aIl (by assumption) rfl))|(apply PCv.r;exact rfl;exact rfl;exact aF4 (fun _=>rfl);(first|exact rfl|exact(by rw[List.length_map];first|exact(aO (by assumption)).symm|exact(bU (by assumption)).symm)|exact(by simp only[List.length_map,bS,bT];done)))|(apply PCv.k;exact rfl;exact rfl;exact(fun _=>rfl);exact(fun _=>rfl);exact(fun _=>rfl);(first|exact rfl|exact(by simp only[bS,bT])))|apply PCv.s))):Ghost N (aE n fr) h (aE n fr') h':=Ghost.fz he.eq hp
theorem aL4 {vn:Nat→Bool}{f:Nat→Nat}{c d:V}{cs ds:List V}(h:V.le vn c (d.rn f))(k:V.les vn cs (V.rns f ds)):V.les vn (c::cs) (V.rns f (d::ds)):=by
 simp only[V.rns];exact V.les_cons h k
section
variable {vn:Nat→Bool}{f:Nat→Nat}{k:IntKind}{q:List Int}{r r':List V}
theorem aJ8 (h:V.les vn r (V.rns f r')):V.les vn (uA (eI k) q r) (V.rns f (uA (eI k) q r')):=by rw[pE];exact aHT h
theorem aJT (h:V.les vn r (V.rns f r')):V.les vn (v8 (eI k) q r) (V.rns f (v8 (eI k) q r')):=by rw[pB];exact aHZ h
theorem aIr (h:V.les vn r (V.rns f r')):V.les vn (qV (eI k) q r) (V.rns f (qV (eI k) q r')):=by rw[n0];exact aGY h
theorem aH3 (h:V.les vn r (V.rns f r')):V.les vn (pI (eI k) q r) (V.rns f (pI (eI k) q r')):=by rw[oA];exact aGf h
theorem aHH (h:V.les vn r (V.rns f r')):V.les vn (qW (eI k) q r) (V.rns f (qW (eI k) q r')):=by rw[n9];exact aGK h
end
theorem aMJ {vn:Nat→Bool}{f:Nat→Nat}{cs ds:List V}(h:V.les vn cs (V.rns f ds)):V.le vn (.agg cs) ((V.agg ds).rn f):=by simp only[V.rn];exact V.le_agg h
theorem aM9 {vn:Nat→Bool}{f:Nat→Nat}{cs ds:List V}(h:V.les vn cs (V.rns f ds)):V.le vn (.tup cs) ((V.tup ds).rn f):=by simp only[V.rn];exact V.le_tup h
theorem lev {p:Prop} (h:p:=by(repeat (first|exact V.les_refl _ _|exact V.les_nil|exact V.le_refl _ _|exact V.le_nil|exact V.le_row|exact V.le_arr (fun _=>rfl)|exact V.le_virt rfl|exact uJ (fun _=>rfl) _|exact r4 (fun _=>rfl) _|apply aL4|apply aH3|apply aJ8|apply aJT|apply aIr|apply aHH|apply aMJ|apply aM9|exact(by simp only[bS,bT];exact V.le_refl _ _)))):p:=h
theorem aDi {p:Prop} (h:p:=by first|exact rfl|exact all_map (fun _=>rfl) _|exact n7 (fun _=>rfl) _):p:=h
theorem oD {N n:Nat}{fr fr':List (Nat×V)}{h h':Hp}(σ:List Nat)
  (hf:FLe j7 (V.rn (sg σ h.length)) fr fr':=by(repeat (first|exact FLe.nil|refine FLe.same rfl ?_|refine FLe.le rfl lev ?_)))
  (hh:HLe (sg σ h.length) h σ h':=by(repeat (first|exact HLe.nil|refine HLe.dead ?_|refine HLe.live rfl lev aDi ?_)))
  (hσ:σ.take N=List.range N:=by rfl) (hlt:σ.all (fun b=>Nat.blt b h.length)=true:=by rfl) (hnd:wP (rW σ h')=true:=by rfl):Ghost N (aE n fr) h (aE n fr') h':=Ghost.rn σ hσ hlt hf hh hnd
theorem FLe.mapg {vn:Nat→Bool}{g:V→V}{fr:List (Nat×V)}: ∀{fr':List (Nat×V)},FLe vn g fr fr'→FLe vn id fr (fr'.map fun p=>(p.1,g p.2))
 | [],_=>FLe.nil
 |(t,y)::r,h=>⟨h.1,FLe.mapg h.2⟩
theorem aDl {g:V→V}: ∀{fr:List (Nat×V)}{t:Nat}{y:V},look fr t=some y→look (fr.map fun p=>(p.1,g p.2)) t=some (g y)
 | [],_,_,h=>by cases h
 |(u,x)::r,t,y,h=>by
  simp only[look,aOw]at h⊢
  cases hb:aOO u t with
  |true=>rw[hb]at h;simp only[cond_true,aOs]at h ⊢; rw[h]
  |false=>rw[hb]at h;exact aDl h
theorem FLe.ofmap {g:V→V}{L:List (Nat×V)}: ∀{fr:List (Nat×V)},(∀t y,(t,y)∈fr→look L t=some y)→FLe j7 g (L.map fun p=>(p.1,g p.2)) fr
 | [],_=>FLe.nil
 |(t,y)::r,h=>FLe.same (aDl (h t y (by simp))) (FLe.ofmap fun u z hz=>h u z (by simp[hz]))
def wF :List (Nat×V)→List (Nat×V)→Bool
 |_,[]=>true
 |L,(t,_)::r=> !((r.map (·.1)).elem t)&&wF L r
theorem aFm : ∀{L:List (Nat×V)},wF L L=true→ ∀t y,(t,y)∈L→look L t=some y:=by
 have key: ∀{K L:List (Nat×V)},wF K L=true→ ∀t y,(t,y)∈L→look L t=some y:=by
  intro K L
  induction L with
  |nil=>intro _ t y h;cases h
  |cons p r ih=>
   obtain⟨u,x⟩:=p
   intro h t y hm
   simp only[wF,aOR,Bool.not_eq_true']at h
   simp only[look]
   rcases List.mem_cons.1 hm with he|hm
   ·cases he;simp
   have:u≠t:=fun he=>by
    subst he
    have h1:(r.map (·.1)).elem u=true:=List.elem_eq_true_of_mem (List.mem_map.2 ⟨_,hm,rfl⟩)
    rw[h1]at h;exact absurd h.1 (by simp)
   have hb:aOO u t=false:=by
    cases hb:aOO u t with
    |true=>exact absurd (Nat.eq_of_beq_eq_true hb) this
    |false=>rfl
   rw[hb];exact ih h.2 t y hm
 exact fun{L} h=>key h
theorem zW {N n:Nat}{fr fr':List (Nat×V)}{h h':Hp}(e:TypeId)(σ:List Nat)
  (hf:FLe (fun b=>Nat.beq b h.length) (V.rn (sg σ (h++[some (Blk.mk e [])]).length)) fr fr':=by(repeat (first|exact FLe.nil|refine FLe.same rfl ?_|refine FLe.le rfl lev ?_)))
  (h1:HLv (fun b=>Nat.beq b h.length) h h:=by(repeat (first|exact HLv.nil|refine HLv.dead ?_|refine HLv.live (V.les_refl _ _) aDi ?_)))
  (hh:HLe (sg σ (h++[some (Blk.mk e [])]).length) (h++[some (Blk.mk e [])]) σ h':=by(repeat (first|exact HLe.nil|refine HLe.dead ?_|refine HLe.live rfl lev aDi ?_)))
  (hσ:σ.take N=List.range N:=by rfl) (hlt:σ.all (fun b=>Nat.blt b (h++[some (Blk.mk e [])]).length)=true:=by rfl) (hnd:wP (rW σ h')=true:=by rfl) (hk:wF fr' fr'=true:=by rfl):Ghost N (aE n fr) h (aE n fr') h':=
 Ghost.trans (Ghost.virt e hf.mapg h1) (Ghost.rn σ hσ hlt (FLe.ofmap (aFm hk)) hh hnd)
section
variable {P:Program}{fn:Func}{n N:Nat}{fr:List (Nat×V)}{s:List V}{h h':Hp}{r a b c x:V}{o p:Nat}{e:TypeId}{cs ds:List V}{t u w:Nat}{ty:TypeId}
inductive RsV (P:Program)(n:Nat)(fr:List (Nat×V))(h:Hp):ResultVar→V→Prop
 |t {t:Nat} {x:V}:aU n fr (.tmp t)=some x→RsV P n fr h (.tmp t) x
 |c {t i o:Nat} {ty:TypeId} {v:V}:aU n fr (.tmp t)=some (.ptr i o)→e9 P ty h (.ptr i o)=some v→RsV P n fr h (.cell t ty) v
theorem RsV.eq {q:ResultVar}(hr:RsV P n fr h q x):fP P (aE n fr) h q=some x:=by
 cases hr with
 |t h1=>exact rvT h1
 |c h1 h2=>exact rvC h1 h2
theorem lv1 {d:TI} [T:TiC P ty d] (hb:h[o]? =some (some ⟨e,cs⟩)) (hc:(cs.drop p).head? =some x) (hd:a7 d.desc=false):e9 P ty h (.ptr o p)=some x:=ldP hb (aCm T.h hd hc)
theorem lvN {fs:Array Field}{sz by_:Nat}{zz:Value} [T:TiC P ty ⟨.struct fs,sz,by_,zz⟩] (hb:h[o]? =some (some ⟨e,cs⟩)) (hc:Tak cs p sz ds):e9 P ty h (.ptr o p)=some (.agg ds):=ldP hb (aAS T.h rfl hc.eq.2 hc.eq.1)
theorem lvB {α:Type}{E:α→V}{ml:List α}{N' sz by_:Nat}{zz:Value}{w:TypeId} [T:TiC P ty ⟨.array N' w,sz,by_,zz⟩] (hb:h[o]? =some (some ⟨e,ml.map E⟩)) (hz:sz=N') (hl:ml.length=N'):e9 P ty h (.ptr o 0)=some (.agg (ml.map E)):=tB T.h hz hb hl
theorem qP {q:ResultVar}(hr:fn.results= #[q])(ha:RsV P n fr h q a)(hg:Ghost N (aE 1 [(0,a)]) h (aE 1 [(0,r)]) h'):Done P fn N r h' .ret (aE n fr) h:=lW (aEx hr ha.eq) hg
theorem zr2 {q q':ResultVar}(hr:fn.results= #[q,q'])(ha:RsV P n fr h q a)(hb:RsV P n fr h q' b)(hg:Ghost N (aE 1 [(0,.tup [a,b])]) h (aE 1 [(0,r)]) h'):Done P fn N r h' .ret (aE n fr) h:=lW (bI hr ha.eq hb.eq) hg
theorem zS {q q' q'':ResultVar}(hr:fn.results= #[q,q',q''])(ha:RsV P n fr h q a)(hb:RsV P n fr h q' b)(hc:RsV P n fr h q'' c)(hg:Ghost N (aE 1 [(0,.tup [a,b,c])]) h (aE 1 [(0,r)]) h'):Done P fn N r h' .ret (aE n fr) h:=lW (mW hr ha.eq hb.eq hc.eq) hg
end
theorem cJ {p:Prop} (h:p:=by first|exact RsV.t rfl|(apply RsV.c;exact rfl;first|(apply lv1;exact rfl;exact rfl;exact rfl)|(apply lvB;exact rfl;exact rfl;first|exact rfl|exact aO (by assumption)|exact bU (by assumption))|(apply lvN;exact rfl;exact Tak.w rfl))):p:=h
end Go.Vm
namespace Go.Proofs
def Tryz.forms :List (ByteArray×Int×ByteArray):=[(⟨#[115,116,101,112,115]⟩,1,⟨#[78]⟩),(⟨#[98,114,97,110,99,104]⟩,2,⟨#[65,66,78]⟩),(⟨#[119,97,116,99,104]⟩,3,⟨#[65,78]⟩),(⟨#[102,97,117,108,116]⟩,4,⟨#[65,66,78]⟩),(⟨#[100,101,108,97,121]⟩,5,⟨#[65,78]⟩),(⟨#[115,101,110,100]⟩,6,⟨#[65,66]⟩),(⟨#[98,121,116,101,115]⟩,7,⟨#[65,78]⟩)]
structure Tryz.A4 where
 kind:Int
 a:Int
 b:Int
 n:Int
def Tryz.setF (x:Tryz.A4)(c:UInt8)(v:Int):Tryz.A4:=if c=65 then{x with a:=v}else if c=66 then{x with b:=v}else{x with n:=v}
def Tryz.runF (cO:ByteArray→Int×Bool):List UInt8→List ByteArray→Tryz.A4→Option Tryz.A4
 | [],_,a=>some a
 |_::_,[],_=>none
 |c::cs,w::ws,a=>if(cO w).2 then Tryz.runF cO cs ws (Tryz.setF a c (cO w).1)else none
def Tryz.actR (cO:ByteArray→Int×Bool)(w0:ByteArray)(ws:List ByteArray):Tryz.A4×Bool:=
 match Tryz.forms.find? (fun x=>x.1.toList == w0.toList) with
 |none=>(⟨0,0,0,0⟩,false)
 |some x=>if ws.length≠x.2.2.size then(⟨0,0,0,0⟩,false)else match Tryz.runF cO x.2.2.data.toList ws ⟨x.2.1,0,0,0⟩ with
  |some a=>(a,true)
  |none=>(⟨0,0,0,0⟩,false)
def Tryz.getF (x:Tryz.A4)(c:UInt8):Int:=if c=65 then x.a else if c=66 then x.b else x.n
def Tryz.runG (itoa:Int→ByteArray):List UInt8→Tryz.A4→ByteArray→Option (ByteArray×Tryz.A4)
 | [],a,l=>some (l,a)
 |c::cs,a,l=>if Tryz.getF a c < -999999999∨999999999<Tryz.getF a c then none else Tryz.runG itoa cs (Tryz.setF a c 0) (l++(⟨#[32]⟩++itoa (Tryz.getF a c)))
def Tryz.formatR (itoa:Int→ByteArray)(a:Tryz.A4):ByteArray×Bool:=
 match Tryz.forms.find? (fun x=>x.2.1 == a.kind) with
 |none=>(⟨#[]⟩,false)
 |some x=>match Tryz.runG itoa x.2.2.data.toList a x.1 with
  |none=>(⟨#[]⟩,false)
  |some (l,b)=>if b.a≠0∨b.b≠0∨b.n≠0 then(⟨#[]⟩,false)else(l++⟨#[10]⟩,true)
def Tryz.runH (itoa:Int→ByteArray)(a:Tryz.A4):List UInt8→Tryz.A4→ByteArray→Option (ByteArray×Tryz.A4)
 | [],r,l=>some (l,r)
 |c::cs,r,l=>if Tryz.getF a c < -999999999∨999999999<Tryz.getF a c then none else Tryz.runH itoa a cs (Tryz.setF r c 0) ((l++⟨#[32]⟩)++itoa (Tryz.getF a c))
def Tryz.lineRf (itoa:Int→ByteArray)(a:Tryz.A4):ByteArray×Bool:=
 match Tryz.forms.find? (fun x=>x.2.1 == a.kind) with
 |none=>(⟨#[]⟩,false)
 |some x=>match Tryz.runH itoa a x.2.2.data.toList {a with kind:=0} x.1 with
  |none=>(⟨#[]⟩,false)
  |some (l,r)=>(l++⟨#[10]⟩,(r.kind == 0)&&((r.a == 0)&&((r.b == 0)&&(r.n == 0))))
def Tryz.nmOf (k:Int):ByteArray×ByteArray:=match Tryz.forms.find? (fun x=>x.2.1 == k) with
 |some x=>(x.1,x.2.2)
 |none=>(⟨#[]⟩,⟨#[]⟩)
end Go.Proofs
set_option maxRecDepth 20000
set_option maxHeartbeats 1000000
namespace Go.Proofs.YtjcfonniipabpaaGreatDoor
open Go Go.Vm
structure aC where
 Kind:Int
 A:Int
 B:Int
 N:Int
abbrev aJ (x:aC):List V:=[(eI .i64 x.Kind),(eI .i64 x.A),(eI .i64 x.B),(eI .i64 x.N)]
abbrev cX (x:aC):V:= .agg (aJ x)
@[simp] theorem jF {f:Nat→Nat}(l:List aC):V.rns f (l.flatMap aJ)=l.flatMap aJ:=lZ (fun _=>rfl) l
@[simp] theorem jD {f:Nat→Nat}(x:aC):V.rns f (aJ x)=aJ x:=rfl
def bR (n:Int):ByteArray:=⟨(Lib.itoa n).toArray⟩
def sI (N:Nat)(aI:List Int):Option (List Int):=
 some aI
def l9 (N:Nat)(vn:Int):Nat→Int→(List Int)→Option (List Int)
 |0,_,_=>none
 |m+1,vi,bC=>
  if decide (0≤vi) then
   (shr .u64 (aOt.wrap (8*vn)) (aOg.wrap (8*vi))).bind fun x26=>
   (gM 1 bC [aOp.wrap x26]).bind fun x29=>
   (l9 N vn m) (aOg.wrap (vi-1)) x29
  else
   some bC
def sQ (N:Nat)(vn:Int)(l0:List Int):Option (List Int):=
 (l9 N vn N 7 l0).bind fun p3=>
 sI N p3
def l5 (N:Nat)(vn:Int):Nat→(List Int)→Option (List Int)
 |0,_=>none
 |m+1,bO=>
  if(aOS (aOt.wrap ((aOt.wrap (vn+(aOt.wrap (bO.length:Int))))+8)) 64) != 0 then
   (gM 1 bO [0]).bind fun x16=>
   (l5 N vn m) x16
  else
   some bO
def xF (N:Nat)(vn:Int):Option (List Int):=
 (l5 N vn N [128]).bind fun p4=>
 sQ N vn p4
def qU (N:Nat):Option (List Int):=
 some [1779033703,3144134277,1013904242,2773480762,1359893119,2600822924,528734635,1541459225]
def jS (N:Nat)(x k:Int):Option Int:=
 (shl .u32 x (bits .and .u64 (aOt.wrap k) 31)).bind fun x11=>
 (shr .u32 x (aOt.wrap (32-(bits .and .u64 (aOt.wrap k) 31)))).bind fun x15=>
 some (bits .or .u32 x11 x15)
def eP (N:Nat)(x vn:Int):Option Int:=
 (jS N x (aOg.wrap (0-vn))).bind fun x8=>
 some x8
def mU (N:Nat)(bD:List Int):Option (List Int):=
 (bY 64 bD).bind fun q=>
 some bD
def hZ (N:Nat):Nat→Int→(List Int)→Option (List Int)
 |0,_,_=>none
 |m+1,vi,l1_2=>
  if decide (vi<64) then
   (bZ 64 l1_2 (aOg.wrap (vi-15))).bind fun x49=>
   (eP N x49 7).bind fun x51=>
   (eP N x49 18).bind fun x56=>
   (shr .u32 x49 3).bind fun x62=>
   (bZ 64 l1_2 (aOg.wrap (vi-2))).bind fun x66=>
   (eP N x66 17).bind fun x68=>
   (eP N x66 19).bind fun x73=>
   (shr .u32 x66 10).bind fun x79=>
   (bZ 64 l1_2 (aOg.wrap (vi-16))).bind fun x84=>
   (bZ 64 l1_2 (aOg.wrap (vi-7))).bind fun x90=>
   (bZ 64 l1_2 vi).bind fun x95=>
   (hZ N m) (aOg.wrap (vi+1)) (l1_2.set (aOn vi) (aOk.wrap ((aOk.wrap ((aOk.wrap (x84+(bits .xor .u32 (bits .xor .u32 x51 x56) x62)))+x90))+(bits .xor .u32 (bits .xor .u32 x68 x73) x79))))
  else
   some l1_2
def m9 (N:Nat)(l1:List Int):Option (List Int):=
 (hZ N N 16 l1).bind fun p3=>
 mU N p3
def hH (N:Nat)(block:List Int):Nat→Int→(List Int)→Option (List Int)
 |0,_,_=>none
 |m+1,vi_1,l2=>
  if decide (vi_1<16) then
   (bZ 64 block (aOg.wrap (4*vi_1))).bind fun x15=>
   (shl .u32 (aOk.wrap x15) 24).bind fun x18=>
   (bZ 64 block (aOg.wrap ((aOg.wrap (4*vi_1))+1))).bind fun x22=>
   (shl .u32 (aOk.wrap x22) 16).bind fun x25=>
   (bZ 64 block (aOg.wrap ((aOg.wrap (4*vi_1))+2))).bind fun x30=>
   (shl .u32 (aOk.wrap x30) 8).bind fun x33=>
   (bZ 64 block (aOg.wrap ((aOg.wrap (4*vi_1))+3))).bind fun x38=>
   (bZ 64 l2 vi_1).bind fun x42=>
   (hH N block m) (aOg.wrap (vi_1+1)) (l2.set (aOn vi_1) (bits .or .u32 (bits .or .u32 (bits .or .u32 x18 x25) x33) (aOk.wrap x38)))
  else
   some l2
def pL (N:Nat)(block:List Int):Option (List Int):=
 (hH N block N 0 (aOh 64 0)).bind fun p4=>
 m9 N p4
def oO (N:Nat):Option (List Int):=
 some [1116352408,1899447441,3049323471,3921009573,961987163,1508970993,2453635748,2870763221,3624381080,310598401,607225278,1426881987,1925078388,2162078206,2614888103,3248222580,3835390401,4022224774,264347078,604807628,770255983,1249150122,1555081692,1996064986,2554220882,2821834349,2952996808,3210313671,3336571891,3584528711,113926993,338241895,666307205,773529912,1294757372,1396182291,1695183700,1986661051,2177026350,2456956037,2730485921,2820302411,3259730800,3345764771,3516065817,3600352804,4094571909,275423344,430227734,506948616,659060556,883997877,958139571,1322822218,1537002063,1747873779,1955562222,2024104815,2227730452,2361852424,2428436474,2756734187,3204031479,3329325298]
def nA (N:Nat)(dW:List Int)(va b c d ve f g vh:Int):Option (List Int):=
 (bZ 8 dW 0).bind fun aHg=>
 (bZ 8 dW 1).bind fun aG8=>
 (bZ 8 dW 2).bind fun aHi=>
 (bZ 8 dW 3).bind fun aGB=>
 (bZ 8 dW 4).bind fun aGu=>
 (bZ 8 dW 5).bind fun aGU=>
 (bZ 8 dW 6).bind fun aGX=>
 (bZ 8 dW 7).bind fun aGG=>
 some [aOk.wrap (aHg+va),aOk.wrap (aG8+b),aOk.wrap (aHi+c),aOk.wrap (aGB+d),aOk.wrap (aGu+ve),aOk.wrap (aGU+f),aOk.wrap (aGX+g),aOk.wrap (aGG+vh)]
def iC (N:Nat)(dW:List Int)(x19 x20:(List Int)):Nat→Int→Int→Int→Int→Int→Int→Int→Int→Int→Option (Int×Int×Int×Int×Int×Int×Int×Int)
 |0,_,_,_,_,_,_,_,_,_=>none
 |m+1,va_1,b_1,c_1,d_1,ve_1,f_1,g_1,vh_1,vi=>
  if decide (vi<64) then
   (eP N ve_1 6).bind fun x43=>
   (eP N ve_1 11).bind fun x45=>
   (eP N ve_1 25).bind fun x48=>
   (bZ 64 x20 vi).bind fun x61=>
   (bZ 64 x19 vi).bind fun x65=>
   (eP N va_1 2).bind fun x69=>
   (eP N va_1 13).bind fun x71=>
   (eP N va_1 22).bind fun x74=>
   (iC N dW x19 x20 m) (aOk.wrap ((aOk.wrap ((aOk.wrap ((aOk.wrap ((aOk.wrap (vh_1+(bits .xor .u32 (bits .xor .u32 x43 x45) x48)))+(bits .xor .u32 (bits .and .u32 ve_1 f_1) (bits .and .u32 (bits .xor .u32 (aOC .u32) ve_1) g_1))))+x61))+x65))+(aOk.wrap ((bits .xor .u32 (bits .xor .u32 x69 x71) x74)+(bits .xor .u32 (bits .xor .u32 (bits .and .u32 va_1 b_1) (bits .and .u32 va_1 c_1)) (bits .and .u32 b_1 c_1)))))) va_1 b_1 c_1 (aOk.wrap (d_1+(aOk.wrap ((aOk.wrap ((aOk.wrap ((aOk.wrap (vh_1+(bits .xor .u32 (bits .xor .u32 x43 x45) x48)))+(bits .xor .u32 (bits .and .u32 ve_1 f_1) (bits .and .u32 (bits .xor .u32 (aOC .u32) ve_1) g_1))))+x61))+x65)))) ve_1 f_1 g_1 (aOg.wrap (vi+1))
  else
   some (va_1,b_1,c_1,d_1,ve_1,f_1,g_1,vh_1)
def pP (N:Nat)(dW block:List Int):Option (List Int):=
 (bY 64 block).bind fun q=>
 (pL N block).bind fun x19=>
 (oO N).bind fun x20=>
 (bY 64 x19).bind fun q_1=>
 (bY 64 x20).bind fun q_2=>
 (bZ 8 dW 0).bind fun x21=>
 (bZ 8 dW 1).bind fun x23=>
 (bZ 8 dW 2).bind fun x25=>
 (bZ 8 dW 3).bind fun x27=>
 (bZ 8 dW 4).bind fun x29=>
 (bZ 8 dW 5).bind fun x31=>
 (bZ 8 dW 6).bind fun x33=>
 (bZ 8 dW 7).bind fun x35=>
 (iC N dW x19 x20 N x21 x23 x25 x27 x29 x31 x33 x35 0).bind fun p2=>
 nA N dW p2.1 p2.2.1 p2.2.2.1 p2.2.2.2.1 p2.2.2.2.2.1 p2.2.2.2.2.2.1 p2.2.2.2.2.2.2.1 p2.2.2.2.2.2.2.2
def r8 (N:Nat)(bD:List Int):Option (List Int):=
 (bY 32 bD).bind fun q_1=>
 some bD
def lV (N:Nat)(l1:List Int):Nat→Int→(List Int)→Option (List Int)
 |0,_,_=>none
 |m+1,x34,l1_2=>
  if decide (x34<8) then
   (bZ 8 l1 x34).bind fun x37=>
   (shr .u32 x37 24).bind fun x50=>
   (shr .u32 x37 16).bind fun x53=>
   (shr .u32 x37 8).bind fun x56=>
   (bZ 32 l1_2 (aOg.wrap (4*x34))).bind fun x60=>
   (bZ 32 (l1_2.set (aOn (aOg.wrap (4*x34))) (aOp.wrap x50)) (aOg.wrap ((aOg.wrap (4*x34))+1))).bind fun x61=>
   (bZ 32 ((l1_2.set (aOn (aOg.wrap (4*x34))) (aOp.wrap x50)).set (aOn (aOg.wrap ((aOg.wrap (4*x34))+1))) (aOp.wrap x53)) (aOg.wrap ((aOg.wrap (4*x34))+2))).bind fun x62=>
   (bZ 32 (((l1_2.set (aOn (aOg.wrap (4*x34))) (aOp.wrap x50)).set (aOn (aOg.wrap ((aOg.wrap (4*x34))+1))) (aOp.wrap x53)).set (aOn (aOg.wrap ((aOg.wrap (4*x34))+2))) (aOp.wrap x56)) (aOg.wrap ((aOg.wrap (4*x34))+3))).bind fun x63=>
   (lV N l1 m) (aOg.wrap (x34+1)) ((((l1_2.set (aOn (aOg.wrap (4*x34))) (aOp.wrap x50)).set (aOn (aOg.wrap ((aOg.wrap (4*x34))+1))) (aOp.wrap x53)).set (aOn (aOg.wrap ((aOg.wrap (4*x34))+2))) (aOp.wrap x56)).set (aOn (aOg.wrap ((aOg.wrap (4*x34))+3))) (aOp.wrap x37))
  else
   some l1_2
def rX (N:Nat)(l1:List Int):Option (List Int):=
 (bY 8 l1).bind fun q_2=>
 (lV N l1 N 0 (aOh 32 0)).bind fun p3=>
 r8 N p3
def lT (N:Nat)(x16:List Int):Nat→Int→(List Int)→Option (List Int)
 |0,_,_=>none
 |m+1,vi,l1_3=>
  if decide ((aOg.wrap (vi+64))≤(x16.length:Int)) then
   (sub x16 vi (x16.length:Int)).bind fun x28=>
   (bY 8 l1_3).bind fun q_3=>
   (bY 64 (cpy (aOh 64 0) x28)).bind fun q_4=>
   (pP N l1_3 (cpy (aOh 64 0) x28)).bind fun x32=>
   (bY 8 x32).bind fun q_5=>
   (lT N x16 m) (aOg.wrap (vi+64)) x32
  else
   some l1_3
def s6 (N:Nat)(b:List Int):Option (List Int):=
 (gM 1 [] b).bind fun x11=>
 (xF N (aOt.wrap (b.length:Int))).bind fun x15=>
 (gM 1 x11 x15).bind fun x16=>
 (qU N).bind fun x17=>
 (bY 8 x17).bind fun q=>
 (lT N x16 N 0 x17).bind fun p4=>
 rX N p4
def sC (N:Nat)(b:List Int):Option (List Int):=
 (s6 N b).bind fun x5=>
 (bY 32 x5).bind fun q=>
 (s6 N x5).bind fun x7=>
 (bY 32 x7).bind fun q_1=>
 some x7
def gA (N:Nat)(vn:Int):Option (List Int):=
 some [vn,0,0,0]
def iL (N:Nat)(va:List Int)(vi:Int):Option Bool:=
 (bZ 4 va (aOg.wrap (aOT vi 64))).bind fun x7=>
 (shr .u64 x7 (aOS vi 64)).bind fun x11=>
 some ((bits .and .u64 x11 1) == 1)
def sA (N:Nat)(l1:List Int):Option (List Int):=
 (bY 4 l1).bind fun q_1=>
 some l1
def oN (N:Nat)(va:List Int)(vn vi:Int)(rec:Int→(List Int)→Option (List Int))(j5:List Int):Option (List Int):=
 rec (aOg.wrap (vi+1)) j5
def iX (N:Nat)(va:List Int)(vn:Int):Nat→Int→(List Int)→Option (List Int)
 |0,_,_=>none
 |m+1,vi,l2=>
  if decide ((aOg.wrap (vi+vn))<256) then
   (bY 4 va).bind fun q_2=>
   (iL N va (aOg.wrap (vi+vn))).bind fun x23=>
   if x23 then
    (bZ 4 l2 (aOg.wrap (aOT vi 64))).bind fun x26=>
    (shl .u64 1 (aOS vi 64)).bind fun x30=>
    oN N va vn vi (iX N va vn m) (l2.set (aOn (aOg.wrap (aOT vi 64))) (bits .or .u64 x26 x30))
   else
    oN N va vn vi (iX N va vn m) l2
  else
   some l2
def s7 (N:Nat)(va:List Int)(vn:Int):Option (List Int):=
 if decide (vn≤0) then
  (bY 4 va).bind fun q=>
  some va
 else
  if decide (256≤vn) then
   some [0,0,0,0]
  else
   (iX N va vn N 0 (aOh 4 0)).bind fun p2=>
   sA N p2
def jH (N:Nat)(va:List Int):Option Bool:=
 (bY 4 va).bind fun q=>
 some (va == [0,0,0,0])
def sE (N:Nat):Option Int:=
 some 0
def mD (N:Nat)(va:List Int):Nat→Int→Option (LR (Unit) (Int))
 |0,_=>none
 |m+1,vi=>
  if decide (0≤vi) then
   (bY 4 va).bind fun q=>
   (iL N va vi).bind fun x10=>
   if x10 then
    some (.ret (aOg.wrap (vi+1)))
   else
    (mD N va m) (aOg.wrap (vi-1))
  else
   some (.brk ())
def wU (N:Nat)(va:List Int):Option Int:=
 (mD N va N 255).bind fun q=>match q with
  | .ret v=>some v
  | .brk p2=>
   sE N
def oX (N:Nat)(x y c:Int):Option (Int×Int):=yJ x y c
def o8 (N:Nat)(aAH:Int)(l1:List Int):Option ((List Int)×Bool):=
 (bY 4 l1).bind fun q=>
 some (l1,aAH == 1)
def iW (N:Nat)(va b:List Int):Nat→Int→Int→(List Int)→Option (Int×(List Int))
 |0,_,_,_=>none
 |m+1,carry_1,x9,l3=>
  if decide (x9<4) then
   (bZ 4 va x9).bind fun x15=>
   (bZ 4 b x9).bind fun x18=>
   (oX N x15 x18 carry_1).bind fun x21=>
   (bZ 4 l3 x9).bind fun x24=>
   (iW N va b m) x21.2 (aOg.wrap (x9+1)) (l3.set (aOn x9) x21.1)
  else
   some (carry_1,l3)
def lR (N:Nat)(va b:List Int):Option ((List Int)×Bool):=
 (iW N va b N 0 0 (aOh 4 0)).bind fun p2=>
 o8 N p2.1 p2.2
def sD (N:Nat)(l0:List Int):Option (List Int):=
 (bY 4 l0).bind fun q=>
 some l0
def l4 (N:Nat):Nat→Int→(List Int)→Option (List Int)
 |0,_,_=>none
 |m+1,fR,aI=>
  if decide (0<fR) then
   (bY 4 aI).bind fun q_1=>
   (lR N aI aI).bind fun x15=>
   (bY 4 x15.1).bind fun q_2=>
   (l4 N m) (aOg.wrap (fR-1)) x15.1
  else
   some aI
def wL (N:Nat)(va:List Int)(vn:Int):Option (List Int):=
 if decide (256≤vn) then
  some [0,0,0,0]
 else
  (l4 N N vn va).bind fun p2=>
  sD N p2
def lG (N:Nat)(l1:List Int):Option ((List Int)×Int):=
 (bY 4 l1).bind fun q_1=>
 (jH N l1).bind fun x45=>
 if x45 then
  some ([0,0,0,0],120)
 else
  some (l1,0)
def lJ (N:Nat)(x8:Int)(x13:(List Int))(x37:Bool):Option ((List Int)×Int):=
 if x37 then
  some ([0,0,0,0],120)
 else
  (wL N x13 (aOg.wrap (8*(aOg.wrap ((aOg.wrap x8)-3))))).bind fun x43=>
  (bY 4 x43).bind fun q_3=>
  lG N x43
def rQ (N:Nat)(y7:Int):Option ((List Int)×Int):=
 (shr .u32 y7 24).bind fun x8=>
 (gA N (aOt.wrap (bits .and .u32 y7 16777215))).bind fun x13=>
 (bY 4 x13).bind fun q=>
 if(bits .and .u32 y7 8388608) != 0 then
  some ([0,0,0,0],120)
 else
  if decide ((aOg.wrap x8)<3) then
   (s7 N x13 (aOg.wrap (8*(aOg.wrap (3-(aOg.wrap x8)))))).bind fun x25=>
   (bY 4 x25).bind fun q_2=>
   lG N x25
  else
   (jH N x13).bind fun x27=>
   if !x27 then
    (wU N x13).bind fun x31=>
    lJ N x8 x13 (decide (256<(aOg.wrap (x31+(aOg.wrap (8*(aOg.wrap ((aOg.wrap x8)-3))))))))
   else
    lJ N x8 x13 false
def wR (N:Nat)(va:List Int):Option (List Int):=
 (bZ 4 va 0).bind fun x3=>
 (bZ 4 va 1).bind fun x6=>
 (bZ 4 va 2).bind fun x9=>
 (bZ 4 va 3).bind fun x12=>
 some [bits .xor .u64 (aOC .u64) x3,bits .xor .u64 (aOC .u64) x6,bits .xor .u64 (aOC .u64) x9,bits .xor .u64 (aOC .u64) x12]
def rU (N:Nat):Option Int:=
 some 0
def iZ (N:Nat)(va b:List Int):Nat→Int→Option (LR (Unit) (Int))
 |0,_=>none
 |m+1,vi=>
  if decide (0≤vi) then
   (bZ 4 va vi).bind fun x11=>
   (bZ 4 b vi).bind fun x14=>
   if decide (x11<x14) then
    some (.ret (-1))
   else
    if decide (x14<x11) then
     some (.ret 1)
    else
     (iZ N va b m) (aOg.wrap (vi-1))
  else
   some (.brk ())
def lS (N:Nat)(va b:List Int):Option Int:=
 (iZ N va b N 3).bind fun q=>match q with
  | .ret v=>some v
  | .brk p2=>
   rU N
def lI (N:Nat)(x y c:Int):Option (Int×Int):=yQ x y c
def o2 (N:Nat)(borrow:Int)(l1:List Int):Option ((List Int)×Bool):=
 (bY 4 l1).bind fun q=>
 some (l1,borrow == 1)
def iV (N:Nat)(va b:List Int):Nat→Int→Int→(List Int)→Option (Int×(List Int))
 |0,_,_,_=>none
 |m+1,borrow_1,x9,l3=>
  if decide (x9<4) then
   (bZ 4 va x9).bind fun x15=>
   (bZ 4 b x9).bind fun x18=>
   (lI N x15 x18 borrow_1).bind fun x21=>
   (bZ 4 l3 x9).bind fun x24=>
   (iV N va b m) x21.2 (aOg.wrap (x9+1)) (l3.set (aOn x9) x21.1)
  else
   some (borrow_1,l3)
def qK (N:Nat)(va b:List Int):Option ((List Int)×Bool):=
 (iV N va b N 0 0 (aOh 4 0)).bind fun p2=>
 o2 N p2.1 p2.2
def oM (N:Nat)(l0 l1:List Int):Option ((List Int)×(List Int)×Bool):=
 (bY 4 l0).bind fun q_2=>
 (bY 4 l1).bind fun q_3=>
 some (l0,l1,true)
def j9 (N:Nat)(lo b:List Int)(vi:Int)(rec:Int→(List Int)→(List Int)→Option ((List Int)×(List Int)))(j5 pA:List Int):Option ((List Int)×(List Int)):=
 rec (aOg.wrap (vi-1)) j5 pA
def j2 (N:Nat)(lo b:List Int)(vi:Int)(l2 d4:List Int)(rec:Int→(List Int)→(List Int)→Option ((List Int)×(List Int)))(x43:Bool):Option ((List Int)×(List Int)):=
 if x43 then
  (bY 4 d4).bind fun q_6=>
  (qK N d4 b).bind fun x47=>
  (bY 4 x47.1).bind fun q_7=>
  (bZ 4 l2 (aOg.wrap (aOT vi 64))).bind fun x52=>
  (shl .u64 1 (aOS vi 64)).bind fun x56=>
  j9 N lo b vi rec (l2.set (aOn (aOg.wrap (aOT vi 64))) (bits .or .u64 x52 x56)) x47.1
 else
  j9 N lo b vi rec l2 d4
def j1 (N:Nat)(lo b:List Int)(vi:Int)(l2:List Int)(x23:Bool)(rec:Int→(List Int)→(List Int)→Option ((List Int)×(List Int)))(d4:List Int):Option ((List Int)×(List Int)):=
 if x23 then
  j2 N lo b vi l2 d4 rec true
 else
  (bY 4 d4).bind fun q_8=>
  (lS N d4 b).bind fun x41=>
  j2 N lo b vi l2 d4 rec (decide (0≤x41))
def cR (N:Nat)(lo b:List Int):Nat→Int→(List Int)→(List Int)→Option ((List Int)×(List Int))
 |0,_,_,_=>none
 |m+1,vi,l2,l3=>
  if decide (0≤vi) then
   (bY 4 l3).bind fun q_4=>
   (iL N l3 255).bind fun x23=>
   (lR N l3 l3).bind fun x27=>
   (bY 4 x27.1).bind fun q_5=>
   (bY 4 lo).bind fun q_9=>
   (iL N lo vi).bind fun x32=>
   if x32 then
    (bZ 4 x27.1 0).bind fun x33=>
    j1 N lo b vi l2 x23 (cR N lo b m) (x27.1.set (aOn 0) (bits .or .u64 x33 1))
   else
    j1 N lo b vi l2 x23 (cR N lo b m) x27.1
  else
   some (l2,l3)
def oH (N:Nat)(hi lo b:List Int):Option ((List Int)×(List Int)×Bool):=
 (bY 4 b).bind fun q=>
 (bY 4 hi).bind fun q_1=>
 (lS N b hi).bind fun x13=>
 if decide (x13≤0) then
  some (aOh 4 0,aOh 4 0,false)
 else
  (cR N lo b N 255 (aOh 4 0) hi).bind fun p2=>
  oM N p2.1 p2.2
def uV (N:Nat)(t:List Int):Option (List Int):=
 (bY 4 t).bind fun q=>
 (jH N t).bind fun x9=>
 if x9 then
  (wR N [0,0,0,0]).bind fun x11=>
  (bY 4 x11).bind fun q_1=>
  some x11
 else
  (gA N 1).bind fun x14=>
  (lR N t x14).bind fun x15=>
  (bY 4 x15.1).bind fun q_2=>
  if x15.2 then
   (bY 4 x14).bind fun q_3=>
   some x14
  else
   (oH N x14 [0,0,0,0] x15.1).bind fun x24=>
   (bY 4 x24.1).bind fun q_4=>
   (bY 4 x24.2.1).bind fun q_5=>
   some x24.1
def qZ (N:Nat)(vn:Int):Option (List Int):=
 some [vn,0,0,0]
def tR (N:Nat):Option Int:=
 some 0
def nI (N:Nat)(va b:List Int):Nat→Int→Option (LR (Unit) (Int))
 |0,_=>none
 |m+1,vi=>
  if decide (0≤vi) then
   (bZ 4 va vi).bind fun x11=>
   (bZ 4 b vi).bind fun x14=>
   if decide (x11<x14) then
    some (.ret (-1))
   else
    if decide (x14<x11) then
     some (.ret 1)
    else
     (nI N va b m) (aOg.wrap (vi-1))
  else
   some (.brk ())
def u5 (N:Nat)(va b:List Int):Option Int:=
 (nI N va b N 3).bind fun q=>match q with
  | .ret v=>some v
  | .brk p2=>
   tR N
def pF (N:Nat)(aAy:Int)(l0:List Int):Option ((List Int)×Int):=
 (bY 4 l0).bind fun q=>
 some (l0,aAy)
def j0 (N:Nat):Nat→Int→Int→(List Int)→Option (Int×(List Int))
 |0,_,_,_=>none
 |m+1,low_2,x7,aI=>
  if decide (x7<4) then
   (bZ 4 aI x7).bind fun x12=>
   (shl .u64 x12 1).bind fun x14=>
   (shr .u64 x12 63).bind fun x20=>
   (j0 N m) x20 (aOg.wrap (x7+1)) (aI.set (aOn x7) (bits .or .u64 x14 low_2))
  else
   some (low_2,aI)
def qC (N:Nat)(va:List Int)(low:Int):Option ((List Int)×Int):=
 (j0 N N low 0 va).bind fun p2=>
 pF N p2.1 p2.2
def tP (N:Nat)(borrow:Int)(l1:List Int):Option ((List Int)×Bool):=
 (bY 4 l1).bind fun q=>
 some (l1,borrow != 0)
def nB (N:Nat)(va b:List Int):Nat→Int→Int→(List Int)→Option (Int×(List Int))
 |0,_,_,_=>none
 |m+1,borrow_1,x9,l3=>
  if decide (x9<4) then
   (bZ 4 va x9).bind fun x15=>
   (bZ 4 b x9).bind fun x18=>
   (lI N x15 x18 borrow_1).bind fun x21=>
   (bZ 4 l3 x9).bind fun x24=>
   (nB N va b m) x21.2 (aOg.wrap (x9+1)) (l3.set (aOn x9) x21.1)
  else
   some (borrow_1,l3)
def aAd (N:Nat)(va b:List Int):Option ((List Int)×Bool):=
 (nB N va b N 0 0 (aOh 4 0)).bind fun p2=>
 tP N p2.1 p2.2
def tX (N:Nat)(l0 l1:List Int):Option ((List Int)×(List Int)×Bool):=
 (bY 4 l0).bind fun q_2=>
 (bY 4 l1).bind fun q_3=>
 some (l0,l1,true)
def tK (N:Nat)(b:List Int)(dL:Int)(rec:Int→(List Int)→(List Int)→(List Int)→Option ((List Int)×(List Int)))(bC j5 pA:List Int):Option ((List Int)×(List Int)):=
 rec (aOg.wrap (dL-1)) bC j5 pA
def pY (N:Nat)(b:List Int)(dL bit:Int)(rec:Int→(List Int)→(List Int)→(List Int)→Option (LR ((List Int)×(List Int)×(List Int)) ((List Int)×(List Int))))(aA7 aBp aBe:List Int):Option (LR ((List Int)×(List Int)×(List Int)) ((List Int)×(List Int))):=
 rec (aOg.wrap (bit-1)) aA7 aBp aBe
def pW (N:Nat)(b:List Int)(dL bit:Int)(iE:List Int)(x40 x46:(List Int)×Int)(rec:Int→(List Int)→(List Int)→(List Int)→Option (LR ((List Int)×(List Int)×(List Int)) ((List Int)×(List Int))))(x56:Bool):Option (LR ((List Int)×(List Int)×(List Int)) ((List Int)×(List Int))):=
 if x56 then
  (aAd N x46.1 b).bind fun x60=>
  (bY 4 x60.1).bind fun q_8=>
  (bZ 4 iE dL).bind fun x64=>
  (shl .u64 1 bit).bind fun x67=>
  pY N b dL bit rec x40.1 (iE.set (aOn dL) (bits .or .u64 x64 x67)) x60.1
 else
  pY N b dL bit rec x40.1 iE x46.1
def pZ (N:Nat)(b:List Int)(dL bit:Int)(bO iE d4:List Int)(rec:Int→(List Int)→(List Int)→(List Int)→Option (LR ((List Int)×(List Int)×(List Int)) ((List Int)×(List Int))))(x37:Bool):Option (LR ((List Int)×(List Int)×(List Int)) ((List Int)×(List Int))):=
 if x37 then
  some (.ret (iE,d4))
 else
  (bY 4 bO).bind fun q_4=>
  (qC N bO 0).bind fun x40=>
  (bY 4 x40.1).bind fun q_5=>
  (bY 4 d4).bind fun q_6=>
  (qC N d4 x40.2).bind fun x46=>
  (bY 4 x46.1).bind fun q_7=>
  if x46.2 != 0 then
   pW N b dL bit iE x40 x46 rec true
  else
   (u5 N x46.1 b).bind fun x54=>
   pW N b dL bit iE x40 x46 rec (decide (0≤x54))
def gB (N:Nat)(b:List Int)(dL:Int):Nat→Int→(List Int)→(List Int)→(List Int)→Option (LR ((List Int)×(List Int)×(List Int)) ((List Int)×(List Int)))
 |0,_,_,_,_=>none
 |m+1,bit,bO,iE,d4=>
  if decide (0≤bit) then
   (bY 4 d4).bind fun q_9=>
   if d4 == [0,0,0,0] then
    (bY 4 bO).bind fun aN4=>
    pZ N b dL bit bO iE d4 (gB N b dL m) (bO == [0,0,0,0])
   else
    pZ N b dL bit bO iE d4 (gB N b dL m) false
  else
   some (.brk (bO,iE,d4))
def kX (N:Nat)(b:List Int):Nat→Int→(List Int)→(List Int)→(List Int)→Option ((List Int)×(List Int))
 |0,_,_,_,_=>none
 |m+1,dL,aI,l2,l3=>
  if decide (0≤dL) then
   (gB N b dL N 63 aI l2 l3).bind fun q=>match q with
    | .ret p4_1=>
     some (p4_1.1,p4_1.2)
    | .brk p4=>
     tK N b dL (kX N b m) p4.1 p4.2.1 p4.2.2
  else
   some (l2,l3)
def aAa (N:Nat)(hi lo b:List Int):Option ((List Int)×(List Int)×Bool):=
 (bY 4 b).bind fun q=>
 (bY 4 hi).bind fun q_1=>
 (u5 N b hi).bind fun x16=>
 if decide (x16≤0) then
  some ([0,0,0,0],[0,0,0,0],false)
 else
  (kX N b N 3 lo (aOh 4 0) hi).bind fun p2=>
  tX N p2.1 p2.2
def rT (N:Nat)(aI:List Int):Option ByteArray:=
 some (mO aI)
def l6 (N:Nat)(l0:List Int):Nat→Int→(List Int)→Option (List Int)
 |0,_,_=>none
 |m+1,x37,bC=>
  if decide (x37<(l0.length:Int)) then
   (eG l0 x37).bind fun x40=>
   (eG bC (aOg.wrap ((aOg.wrap ((bC.length:Int)-1))-x37))).bind fun x49=>
   (l6 N l0 m) (aOg.wrap (x37+1)) (bC.set (aOn (aOg.wrap ((aOg.wrap ((bC.length:Int)-1))-x37))) x40)
  else
   some bC
def sJ (N:Nat)(l0:List Int):Option ByteArray:=
 (mks 1 0 (l0.length:Int)).bind fun x34=>
 (l6 N l0 N 0 x34).bind fun p3=>
 rT N p3
def lO (N:Nat):Nat→(List Int)→(List Int)→Option (List Int)
 |0,_,_=>none
 |m+1,bO,l1=>
  (bY 4 bO).bind fun q_1=>
  if !(bO == [0,0,0,0]) then
   (qZ N 10).bind fun x19=>
   (aAa N [0,0,0,0] bO x19).bind fun x20=>
   (bY 4 x20.1).bind fun q_2=>
   (bY 4 x20.2.1).bind fun q_3=>
   (bZ 4 x20.2.1 0).bind fun x25=>
   (gM 1 l1 [aOp.wrap (48+(aOp.wrap x25))]).bind fun x30=>
   (lO N m) x20.1 x30
  else
   some l1
def xW (N:Nat)(va:List Int):Option ByteArray:=
 (bY 4 va).bind fun q=>
 if va == [0,0,0,0] then
  some (⟨#[48]⟩)
 else
  (lO N N va []).bind fun p4=>
  sJ N p4
def cE (N:Nat)(x4:Bool):Option Bool:=
 some x4
def dR (N:Nat)(vs d7:ByteArray):Option Bool:=
 if decide ((d7.size:Int)≤(vs.size:Int)) then
  (o3 vs 0 (d7.size:Int)).bind fun x14=>
  cE N (x14.toList == d7.toList)
 else
  cE N false
def dP (N:Nat)(vs d7:ByteArray):Option (ByteArray×Bool):=
 (dR N vs d7).bind fun x8=>
 if !x8 then
  some (vs,false)
 else
  (o3 vs (d7.size:Int) (vs.size:Int)).bind fun x14=>
  some (x14,true)
def iB (N:Nat)(vs d7:ByteArray):Option (ByteArray×Bool):=
 (dP N vs d7).bind fun x8=>
 some (x8.1,x8.2)
def g7 (N:Nat)(fR:Int):Option (Int×Bool):=
 some (fR,true)
def jW (N:Nat)(x11:ByteArray×Bool)(vn:Int):Option (Int×Bool):=
 if x11.2 then
  g7 N (aOg.wrap (0-vn))
 else
  g7 N vn
def fF (N:Nat)(x11:ByteArray×Bool)(pD x37 x42:Int)(rec:Int→Int→Option (LR (Int) (Int×Bool)))(x48:Bool):Option (LR (Int) (Int×Bool)):=
 if x48 then
  some (.ret (0,false))
 else
  rec (aOg.wrap ((aOg.wrap (10*pD))+(aOg.wrap (aOp.wrap (x42-48))))) (aOg.wrap (x37+1))
def c6 (N:Nat)(x11:ByteArray×Bool):Nat→Int→Int→Option (LR (Int) (Int×Bool))
 |0,_,_=>none
 |m+1,pD,x37=>
  if decide (x37<(x11.1.size:Int)) then
   (m8 x11.1 x37).bind fun x42=>
   if decide (x42<48) then
    fF N x11 pD x37 x42 (c6 N x11 m) true
   else
    fF N x11 pD x37 x42 (c6 N x11 m) (decide (57<x42))
  else
   some (.brk pD)
def cA (N:Nat)(x11:ByteArray×Bool)(x34:Bool):Option (Int×Bool):=
 if x34 then
  some (0,false)
 else
  (c6 N x11 N 0 0).bind fun q=>match q with
   | .ret v=>some v
   | .brk p4=>
    jW N x11 p4
def b7 (N:Nat)(vs:ByteArray):Option (Int×Bool):=
 (iB N vs (⟨#[45]⟩)).bind fun x11=>
 if decide ((x11.1.size:Int)<1) then
  cA N x11 true
 else
  if decide (9<(x11.1.size:Int)) then
   cA N x11 true
  else
   (m8 x11.1 0).bind fun x24=>
   if x24 == 48 then
    if x11.2 then
     cA N x11 true
    else
     cA N x11 (decide (1<(x11.1.size:Int)))
   else
    cA N x11 false
def iD (N:Nat):Option Bool:=some true
def kY (N:Nat)(vr:Int):Option Int:=
 some vr
def fA (N:Nat)(v vn:Int):Option Int:=
 (rem v vn).bind fun x8=>
 if decide (x8<0) then
  kY N (aOg.wrap (x8+vn))
 else
  kY N x8
def g9 (N:Nat)(vs sub:ByteArray):Option (Int):=match sub.data.toList with
 | [c]=>some (Lib.indexByte vs.data.toList c)
 |_=>none
def eY (N:Nat)(vs sep:ByteArray):Option (ByteArray×ByteArray×Bool):=
 (g9 N vs sep).bind fun x10=>
 if decide (0≤x10) then
  (o3 vs 0 x10).bind fun x15=>
  (o3 vs (aOg.wrap (x10+(sep.size:Int))) (vs.size:Int)).bind fun x21=>
  some (x15,x21,true)
 else
  some (vs,aOl,false)
def kU (N:Nat)(vs sep:ByteArray):Option (ByteArray×ByteArray×Bool):=
 (eY N vs sep).bind fun x9=>
 some (x9.1,x9.2.1,x9.2.2)
def kL (N:Nat)(l0:List ByteArray):Option (List ByteArray):=
 some l0
def fV (N:Nat)(aV:ByteArray)(k:Int)(rec:Int→(List ByteArray)→Option (List ByteArray))(bC:List ByteArray):Option (List ByteArray):=
 rec (aOg.wrap (k+1)) bC
def kG (N:Nat)(aV:ByteArray)(vi:Int)(aI:List ByteArray)(rec:Int→(List ByteArray)→Option (List ByteArray))(k:Int):Option (List ByteArray):=
 if decide (vi<k) then
  (o3 aV vi k).bind fun x30=>
  (gM 16 aI [x30]).bind fun x32=>
  fV N aV k rec x32
 else
  fV N aV k rec aI
def fZ (N:Nat)(aV:ByteArray)(vi:Int)(aI:List ByteArray)(k_1:Int)(rec:Int→Option Int)(x20:Bool):Option Int:=
 if x20 then
  rec (aOg.wrap (k_1+1))
 else
  some k_1
def dK (N:Nat)(aV:ByteArray)(vi:Int)(aI:List ByteArray):Nat→Int→Option Int
 |0,_=>none
 |m+1,k_1=>
  if decide (k_1<(aV.size:Int)) then
   (m8 aV k_1).bind fun x18=>
   fZ N aV vi aI k_1 (dK N aV vi aI m) (x18 != 32)
  else
   fZ N aV vi aI k_1 (dK N aV vi aI m) false
def dH (N:Nat)(aV:ByteArray):Nat→Int→(List ByteArray)→Option (List ByteArray)
 |0,_,_=>none
 |m+1,vi,aI=>
  if decide (vi<(aV.size:Int)) then
   (dK N aV vi aI N vi).bind fun p5=>
   kG N aV vi aI (dH N aV m) p5
  else
   some aI
def jC (N:Nat)(aV:ByteArray):Option (List ByteArray):=
 (dH N aV N 0 []).bind fun p2=>
 kL N p2
def iK (N:Nat)(l:List ByteArray):Option (Int×Int×Int×Int×Bool):=match l with
 | []=>none
 |w0::ws=>if ws.length≤100000∧(ws.all fun s=>(b7 N s).isSome)=true then some ((Tryz.actR (fun s=>(b7 N s).getD (0,false)) w0 ws).1.kind,(Tryz.actR (fun s=>(b7 N s).getD (0,false)) w0 ws).1.a,(Tryz.actR (fun s=>(b7 N s).getD (0,false)) w0 ws).1.b,(Tryz.actR (fun s=>(b7 N s).getD (0,false)) w0 ws).1.n,(Tryz.actR (fun s=>(b7 N s).getD (0,false)) w0 ws).2)else none
def nX (N:Nat)(aAT:Int)(l0:List aC):Option ((List aC)×Int×Int):=
 some (l0,aAT,0)
def dG (N:Nat)(dV:Int)(x20:ByteArray×ByteArray×Bool)(rec:ByteArray→Int→(List aC)→Option (LR (Int×(List aC)) ((List aC)×Int×Int)))(bC:List aC):Option (LR (Int×(List aC)) ((List aC)×Int×Int)):=
 rec x20.2.1 (aOg.wrap (dV+1)) bC
def d3 (N:Nat)(dV:Int)(aI:List aC)(x20:ByteArray×ByteArray×Bool)(x25:(List ByteArray))(rec:ByteArray→Int→(List aC)→Option (LR (Int×(List aC)) ((List aC)×Int×Int)))(x35:Bool):Option (LR (Int×(List aC)) ((List aC)×Int×Int)):=
 if x35 then
  (iK N x25).bind fun x38=>
  if !x38.2.2.2.2 then
   some (.ret ([],dV,450))
  else
   if decide (256≤(aI.length:Int)) then
    some (.ret ([],dV,4))
   else
    (gM 32 aI [(aC.mk x38.1 x38.2.1 x38.2.2.1 x38.2.2.2.1)]).bind fun x51=>
    dG N dV x20 rec x51
 else
  dG N dV x20 rec aI
def aT (N:Nat):Nat→ByteArray→Int→(List aC)→Option (LR (Int×(List aC)) ((List aC)×Int×Int))
 |0,_,_,_=>none
 |m+1,cM,dV,aI=>
  if !(cM.toList == ByteArray.empty.toList) then
   (kU N cM (⟨#[10]⟩)).bind fun x20=>
   (jC N x20.1).bind fun x25=>
   if decide (0<(x25.length:Int)) then
    (eG x25 0).bind fun x31=>
    (m8 x31 0).bind fun x33=>
    d3 N dV aI x20 x25 (aT N m) (x33 != 35)
   else
    d3 N dV aI x20 x25 (aT N m) false
  else
   some (.brk (dV,aI))
def bP (N:Nat)(vs:ByteArray):Option ((List aC)×Int×Int):=
 if decide (16384<(vs.size:Int)) then
  some ([],0,4)
 else
  (aT N N vs 0 []).bind fun q=>match q with
   | .ret v=>some v
   | .brk p2=>
    nX N p2.1 p2.2
def cD (N:Nat)(x2:Bool):Option Bool:=
 some x2
def cC (N:Nat)(aDw:Bool):Option Bool:=
 some aDw
def gH (N:Nat)(x17:Int)(x28:(List aC)×Int×Int)(l1:List Int):Option Bool:=
 (bP N (mO l1)).bind fun x47=>
 if x17 == 2 then
  if x28.2.2 == 4 then
   if x28.2.1 == 256 then
    if(x28.1.length:Int) == 0 then
     if x47.2.2 == 4 then
      if x47.2.1 == 0 then
       cD N ((x47.1.length:Int) == 0)
      else
       cD N false
     else
      cD N false
    else
     cD N false
   else
    cD N false
  else
   cD N false
 else
  if x28.2.2 == 0 then
   if x28.2.1 == (aOg.wrap (255+x17)) then
    if(x28.1.length:Int) == x28.2.1 then
     if x47.2.2 == 0 then
      if x47.2.1 == 1 then
       cC N ((x47.1.length:Int) == 0)
      else
       cC N false
     else
      cC N false
    else
     cC N false
   else
    cC N false
  else
   cC N false
def cT (N:Nat)(x17:Int)(x28:(List aC)×Int×Int)(x34:List Int):Nat→Int→(List Int)→Option (List Int)
 |0,_,_=>none
 |m+1,x37,bD=>
  if decide (x37<(x34.length:Int)) then
   (eG bD x37).bind fun x42=>
   (cT N x17 x28 x34 m) (aOg.wrap (x37+1)) (bD.set (aOn x37) 32)
  else
   some bD
def gG (N:Nat)(x17:Int)(vs:ByteArray):Option Bool:=
 (bP N vs).bind fun x28=>
 (mks 1 0 (aOg.wrap (16383+x17))).bind fun x34=>
 (cT N x17 x28 x34 N 0 x34).bind fun p5=>
 gH N x17 x28 p5
def cU (N:Nat)(x17:Int):Nat→ByteArray→Int→Option ByteArray
 |0,_,_=>none
 |m+1,cM,vi=>
  if decide (vi<(aOg.wrap (255+x17))) then
   (qM cM (⟨#[115,116,101,112,115,32,48,10]⟩)).bind fun x25=>
   (cU N x17 m) x25 (aOg.wrap (vi+1))
  else
   some cM
def fQ (N:Nat)(vn:Int):Option Bool:=
 (iD N).bind fun x14=>
 if !x14 then
  some false
 else
  (fA N vn 3).bind fun x17=>
  (cU N x17 N aOl 0).bind fun p6=>
  gG N x17 p6
def lM (N:Nat)(l:List Int):Option ((List Int)×Int):=
 some (l,0)
def iR (N:Nat)(d_L:List Int)(iT:Int):Option Bool:=
 some (decide (iT<(d_L.length:Int)))
def c7 (N:Nat)(d_L:List Int)(iT vn:Int):Option (Int×(List Int)×Int):=
 (iR N d_L iT).bind fun x6=>
 if !x6 then
  some (0,d_L,iT)
 else
  (eG d_L (aOg.wrap ((aOg.wrap (iT+1))-1))).bind fun x24=>
  (fA N x24 vn).bind fun x27=>
  some (x27,d_L,aOg.wrap (iT+1))
def gR (N:Nat)(d_L:List Int)(iT low nZ:Int):Option (Int×(List Int)×Int):=
 (c7 N d_L iT (aOg.wrap ((aOg.wrap (nZ-low))+1))).bind fun x13=>
 some (aOg.wrap (low+x13.1),x13.2.1,x13.2.2)
def qT (N:Nat)(c0:List Int)(k5:Int)(l1:List aC):Option ((List aC)×(List Int)×Int):=
 some (l1,c0,k5)
def fI (N:Nat)(k:Int)(bD:List aC)(x13 x19:Int×(List Int)×Int)(rec:Int→(List Int)→Int→(List aC)→Option ((List Int)×Int×(List aC)))(c2 xA wJ:Int):Option ((List Int)×Int×(List aC)):=
 (gM 32 bD [(aC.mk x13.1 c2 xA wJ)]).bind fun x38=>
 rec (aOg.wrap (k-1)) x19.2.1 x19.2.2 x38
def jB (N:Nat)(k:Int)(bD:List aC)(x13 x15 x17 x19:Int×(List Int)×Int)(rec:Int→(List Int)→Int→(List aC)→Option ((List Int)×Int×(List aC)))(x27:Bool):Option ((List Int)×Int×(List aC)):=
 if x27 then
  fI N k bD x13 x19 rec x15.1 0 x19.1
 else
  if x13.1 == 6 then
   fI N k bD x13 x19 rec x15.1 x17.1 0
  else
   fI N k bD x13 x19 rec x15.1 x17.1 x19.1
def cH (N:Nat):Nat→Int→(List Int)→Int→(List aC)→Option ((List Int)×Int×(List aC))
 |0,_,_,_,_=>none
 |m+1,k,o9,o7,bD=>
  if decide (0<k) then
   (gR N o9 o7 1 7).bind fun x13=>
   (c7 N x13.2.1 x13.2.2 3).bind fun x15=>
   (c7 N x15.2.1 x15.2.2 3).bind fun x17=>
   (gR N x17.2.1 x17.2.2 (-1) 6).bind fun x19=>
   if x13.1 == 1 then
    fI N k bD x13 x19 (cH N m) 0 0 x19.1
   else
    if x13.1 == 3 then
     jB N k bD x13 x15 x17 x19 (cH N m) (x13.1 == 3)
    else
     if x13.1 == 5 then
      jB N k bD x13 x15 x17 x19 (cH N m) (x13.1 == 5)
     else
      jB N k bD x13 x15 x17 x19 (cH N m) (x13.1 == 7)
  else
   some (o9,o7,bD)
def iI (N:Nat)(d_L:List Int)(iT:Int):Option ((List aC)×(List Int)×Int):=
 (c7 N d_L iT 9).bind fun x7=>
 (cH N N x7.1 x7.2.1 x7.2.2 []).bind fun p2=>
 qT N p2.1 p2.2.1 p2.2.2
def kB (N:Nat)(kd va vb vn:Int):Option (ByteArray×Bool):=some ((Tryz.formatR bR ⟨kd,va,vb,vn⟩).1,(Tryz.formatR bR ⟨kd,va,vb,vn⟩).2)
def hY (N:Nat)(text:ByteArray):Option (ByteArray×Int):=
 if decide (16384<(text.size:Int)) then
  some (aOl,4)
 else
  some (text,0)
def cY (N:Nat)(l:List aC):Nat→ByteArray→Int→Option (LR (ByteArray) (ByteArray×Int))
 |0,_,_=>none
 |m+1,text_1,x14=>
  if decide (x14<(l.length:Int)) then
   (eG l x14).bind fun x16=>
   (kB N x16.Kind x16.A x16.B x16.N).bind fun x20=>
   if !x20.2 then
    some (.ret (aOl,450))
   else
    (qM text_1 x20.1).bind fun x27=>
    (cY N l m) x27 (aOg.wrap (x14+1))
  else
   some (.brk text_1)
def eA (N:Nat)(l:List aC):Option (ByteArray×Int):=
 if decide (256<(l.length:Int)) then
  some (aOl,4)
 else
  (cY N l N aOl 0).bind fun q=>match q with
   | .ret v=>some v
   | .brk p2=>
    hY N p2
def m7 (N:Nat):Option Bool:=
 some true
def eF (N:Nat)(va b:List aC):Nat→Int→Option (LR (Unit) (Bool))
 |0,_=>none
 |m+1,vi=>
  if decide (vi<(va.length:Int)) then
   (eG va vi).bind fun x19=>
   (eG b vi).bind fun x23=>
   if !((x19.Kind == x23.Kind)&&((x19.A == x23.A)&&((x19.B == x23.B)&&((x19.N == x23.N)&&true)))) then
    some (.ret false)
   else
    (eF N va b m) (aOg.wrap (vi+1))
  else
   some (.brk ())
def fU (N:Nat)(va b:List aC):Option Bool:=
 if(va.length:Int) != (b.length:Int) then
  some false
 else
  (eF N va b N 0).bind fun q=>match q with
   | .ret v=>some v
   | .brk p2=>
    m7 N
def e8 (N:Nat)(x4:Bool):Option Bool:=
 some x4
def dJ (N:Nat)(raw:ByteArray)(x55:Bool):Option Bool:=
 if x55 then
  some false
 else
  (bP N raw).bind fun x58=>
  if x58.2.2 != 0 then
   some true
  else
   (eA N x58.1).bind fun x66=>
   (bP N x66.1).bind fun x71=>
   if x66.2 == 0 then
    if x71.2.2 == 0 then
     (fU N x58.1 x71.1).bind fun x84=>
     e8 N x84
    else
     e8 N false
   else
    e8 N false
def iA (N:Nat)(l:List Int)(raw:ByteArray):Option Bool:=
 (iD N).bind fun x19=>
 if !x19 then
  some false
 else
  if decide (2000<(raw.size:Int)) then
   some true
  else
   (lM N l).bind fun x25=>
   (iI N x25.1 x25.2).bind fun x26=>
   (eA N x26.1).bind fun x29=>
   (bP N x29.1).bind fun x34=>
   if x29.2 != 0 then
    dJ N raw true
   else
    if x34.2.2 != 0 then
     dJ N raw true
    else
     if x34.2.1 != (x26.1.length:Int) then
      dJ N raw true
     else
      (fU N x34.1 x26.1).bind fun x53=>
      dJ N raw (!x53)
def kS (N:Nat)(kind:Int)(x15:Bool):Option (ByteArray×ByteArray):=
 if x15 then
  some (aOl,aOl)
 else
  (eG [aOl,⟨#[115,116,101,112,115]⟩,⟨#[98,114,97,110,99,104]⟩,⟨#[119,97,116,99,104]⟩,⟨#[102,97,117,108,116]⟩,⟨#[100,101,108,97,121]⟩,⟨#[115,101,110,100]⟩,⟨#[98,121,116,101,115]⟩] kind).bind fun x18=>
  (eG [aOl,⟨#[78]⟩,⟨#[65,66,78]⟩,⟨#[65,78]⟩,⟨#[65,66,78]⟩,⟨#[65,78]⟩,⟨#[65,66]⟩,⟨#[65,78]⟩] kind).bind fun x22=>
  some (x18,x22)
def gE (N:Nat)(kind:Int):Option (ByteArray×ByteArray):=
 if decide (kind<1) then
  kS N kind true
 else
  kS N kind (decide ((8:Int)≤kind))
def lB (N:Nat)(fT vn:Int):Option (Int×Bool):=
 some (aOg.wrap (fT*vn),true)
def gW (N:Nat)(cM:ByteArray)(fT fR vi:Int)(rec:Int→Int→Option (LR (Int) (Int×Bool)))(x47:Bool):Option (LR (Int) (Int×Bool)):=
 if x47 then
  some (.ret (0,false))
 else
  (m8 cM vi).bind fun x52=>
  rec (aOg.wrap ((aOg.wrap (10*fR))+(aOg.wrap (aOp.wrap (x52-48))))) (aOg.wrap (vi+1))
def dS (N:Nat)(cM:ByteArray)(fT:Int):Nat→Int→Int→Option (LR (Int) (Int×Bool))
 |0,_,_=>none
 |m+1,fR,vi=>
  if decide (vi<(cM.size:Int)) then
   (m8 cM vi).bind fun x40=>
   if decide (x40<48) then
    gW N cM fT fR vi (dS N cM fT m) true
   else
    gW N cM fT fR vi (dS N cM fT m) (decide (57<x40))
  else
   some (.brk fR)
def eJ (N:Nat)(cM:ByteArray)(fT:Int)(x31:Bool):Option (Int×Bool):=
 if x31 then
  some (0,false)
 else
  (dS N cM fT N 0 0).bind fun q=>match q with
   | .ret v=>some v
   | .brk p4=>
    lB N fT p4
def gT (N:Nat)(cM:ByteArray)(fT:Int):Option (Int×Bool):=
 if decide ((cM.size:Int)<1) then
  eJ N cM fT true
 else
  if decide (9<(cM.size:Int)) then
   eJ N cM fT true
  else
   (m8 cM 0).bind fun x29=>
   eJ N cM fT (x29 == 48)
def gZ (N:Nat)(vs:ByteArray)(x16:Bool):Option (Int×Bool):=
 if x16 then
  (o3 vs 1 (vs.size:Int)).bind fun x18=>
  gT N x18 (-1)
 else
  gT N vs 1
def cS (N:Nat)(vs:ByteArray):Option (Int×Bool):=
 if vs.toList == (⟨#[48]⟩:ByteArray).toList then
  some (0,true)
 else
  if decide (0<(vs.size:Int)) then
   (m8 vs 0).bind fun x14=>
   gZ N vs (x14 == 45)
  else
   gZ N vs false
def fH (N:Nat):Nat→ByteArray→(List Int)→Option (LR (Unit) (ByteArray))
 |0,_,_=>none
 |m+1,vs,l0=>
  (bY 4 l0).bind fun q=>
  (gA N 10).bind fun x10=>
  (oH N [0,0,0,0] l0 x10).bind fun x11=>
  (bY 4 x11.1).bind fun q_1=>
  (bY 4 x11.2.1).bind fun q_2=>
  (bZ 4 x11.2.1 0).bind fun x15=>
  (qM (mO [aOp.wrap (aOt.wrap (48+x15))]) vs).bind fun x22=>
  (jH N x11.1).bind fun x25=>
  if x25 then
   some (.ret x22)
  else
   (fH N m) x22 x11.1
def mI (N:Nat)(va:List Int):Option ByteArray:=
 (fH N N aOl va).bind fun q=>match q with
  | .ret v=>some v
  | .brk p1=>
   none
def bW (N:Nat)(n:Int):Option (ByteArray):=if -999999999≤n∧n≤999999999 then(match mI N [(n.natAbs:Int),0,0,0] with
 |some t=>if t.size≤1000 then some (if n<0 then⟨#[45]⟩++t else t)else none
 |none=>none)else none
def mH (N:Nat)(kd va vb vn:Int):Option (ByteArray×Bool):=if gE N kd=some (Tryz.nmOf kd)∧([va,vb,vn].all fun n=>decide (n < -999999999∨999999999<n) || ((bW N n).isSome&&decide (((bW N n).getD ⟨#[]⟩).size≤20)))=true then some ((Tryz.lineRf (fun n=>(bW N n).getD ⟨#[]⟩) ⟨kd,va,vb,vn⟩).1,(Tryz.lineRf (fun n=>(bW N n).getD ⟨#[]⟩) ⟨kd,va,vb,vn⟩).2)else none
def lA (N:Nat)(out:ByteArray):Option (ByteArray×Int):=
 if decide (16384<(out.size:Int)) then
  some (aOl,4)
 else
  some (out,0)
def eZ (N:Nat)(l:List aC):Nat→ByteArray→Int→Option (LR (ByteArray) (ByteArray×Int))
 |0,_,_=>none
 |m+1,out_1,vi=>
  if decide (vi<(l.length:Int)) then
   (eG l vi).bind fun x20=>
   (mH N x20.Kind x20.A x20.B x20.N).bind fun x22=>
   if !x22.2 then
    some (.ret (aOl,450))
   else
    (qM out_1 x22.1).bind fun x29=>
    (eZ N l m) x29 (aOg.wrap (vi+1))
  else
   some (.brk out_1)
def j8 (N:Nat)(l:List aC):Option (ByteArray×Int):=
 if decide (256<(l.length:Int)) then
  some (aOl,4)
 else
  (eZ N l N aOl 0).bind fun q=>match q with
   | .ret v=>some v
   | .brk p2=>
    lA N p2
def i7 (N:Nat):Option Bool:=
 some true
def eD (N:Nat)(raw:List aC)(x22:(List aC)×(List Int)×Int)(l1:List aC)(x57:Int)(rec:Int→Option (LR (Unit) (Bool)))(x78:Bool):Option (LR (Unit) (Bool)):=
 if x78 then
  some (.ret false)
 else
  rec (aOg.wrap (x57+1))
def aY (N:Nat)(raw:List aC)(x22:(List aC)×(List Int)×Int)(l1:List aC):Nat→Int→Option (LR (Unit) (Bool))
 |0,_=>none
 |m+1,x57=>
  if decide (x57<(3:Int)) then
   (eG [x22.1,l1,raw] x57).bind fun x59=>
   (eA N x59).bind fun x63=>
   (j8 N x59).bind fun x68=>
   if !(x63.1.toList == x68.1.toList) then
    eD N raw x22 l1 x57 (aY N raw x22 l1 m) true
   else
    eD N raw x22 l1 x57 (aY N raw x22 l1 m) (x63.2 != x68.2)
  else
   some (.brk ())
def fM (N:Nat)(raw:List aC)(x22:(List aC)×(List Int)×Int)(l1:List aC):Option Bool:=
 (aY N raw x22 l1 N 0).bind fun q=>match q with
  | .ret v=>some v
  | .brk p3=>
   i7 N
def dC (N:Nat)(raw:List aC)(x22:(List aC)×(List Int)×Int)(x25:Int)(bD:List aC)(x32 x35 x38:Int)(rec:Int→(List aC)→Option (List aC))(c2:Int):Option (List aC):=
 (gM 32 bD [(aC.mk x32 x35 c2 (aOg.wrap (x38-1)))]).bind fun x50=>
 rec (aOg.wrap (x25+1)) x50
def bL (N:Nat)(raw:List aC)(x22:(List aC)×(List Int)×Int):Nat→Int→(List aC)→Option (List aC)
 |0,_,_=>none
 |m+1,x25,bD=>
  if decide (x25<(raw.length:Int)) then
   (eG raw x25).bind fun x28=>
   (fA N x28.Kind 9).bind fun x32=>
   (fA N x28.A 3).bind fun x35=>
   (fA N x28.N 3).bind fun x38=>
   if decide (0<(aOS x25 3)) then
    dC N raw x22 x25 bD x32 x35 x38 (bL N raw x22 m) 0
   else
    dC N raw x22 x25 bD x32 x35 x38 (bL N raw x22 m) x28.B
  else
   some bD
def eX (N:Nat)(l:List Int)(raw:List aC):Option Bool:=
 (iD N).bind fun x15=>
 if !x15 then
  some false
 else
  if decide (30<(raw.length:Int)) then
   some true
  else
   (lM N l).bind fun x21=>
   (iI N x21.1 x21.2).bind fun x22=>
   (bL N raw x22 N 0 []).bind fun p5=>
   fM N raw x22 p5
def jX (N:Nat)(aI:List ByteArray):Option (List ByteArray):=
 some aI
def j6 (N:Nat)(vs:ByteArray)(gV:Int)(l0:List ByteArray):Option (List ByteArray):=
 if decide (gV<(vs.size:Int)) then
  (o3 vs gV (vs.size:Int)).bind fun x32=>
  (gM 16 l0 [x32]).bind fun x34=>
  jX N x34
 else
  jX N l0
def iP (N:Nat)(vs:ByteArray)(vi:Int)(rec:Int→Int→(List ByteArray)→Option (Int×(List ByteArray)))(rL:Int)(bO:List ByteArray):Option (Int×(List ByteArray)):=
 rec rL (aOg.wrap (vi+1)) bO
def d9 (N:Nat)(vs:ByteArray):Nat→Int→Int→(List ByteArray)→Option (Int×(List ByteArray))
 |0,_,_,_=>none
 |m+1,fD,vi,bC=>
  if decide (vi<(vs.size:Int)) then
   (m8 vs vi).bind fun x14=>
   if x14 == 10 then
    (o3 vs fD vi).bind fun x20=>
    (gM 16 bC [x20]).bind fun x22=>
    iP N vs vi (d9 N vs m) (aOg.wrap (vi+1)) x22
   else
    iP N vs vi (d9 N vs m) fD bC
  else
   some (fD,bC)
def nG (N:Nat)(vs:ByteArray):Option (List ByteArray):=
 (d9 N vs N 0 0 []).bind fun p3=>
 j6 N vs p3.1 p3.2
def mK (N:Nat)(l0:List ByteArray):Option (List ByteArray):=
 some l0
def fW (N:Nat)(aV:ByteArray)(vi:Int)(rec:Int→Int→(List ByteArray)→Option (List ByteArray))(fD:Int)(bC:List ByteArray):Option (List ByteArray):=
 rec fD (aOg.wrap (vi+1)) bC
def eR (N:Nat)(aV:ByteArray)(vi:Int)(rec:Int→Int→(List ByteArray)→Option (List ByteArray))(bO:List ByteArray):Option (List ByteArray):=
 fW N aV vi rec (aOg.wrap (vi+1)) bO
def iO (N:Nat)(aV:ByteArray)(gV vi:Int)(aI:List ByteArray)(rec:Int→Int→(List ByteArray)→Option (List ByteArray))(x21:Bool):Option (List ByteArray):=
 if x21 then
  fW N aV vi rec gV aI
 else
  if decide (gV<vi) then
   (o3 aV gV vi).bind fun x29=>
   (gM 16 aI [x29]).bind fun x31=>
   eR N aV vi rec x31
  else
   eR N aV vi rec aI
def b5 (N:Nat)(aV:ByteArray):Nat→Int→Int→(List ByteArray)→Option (List ByteArray)
 |0,_,_,_=>none
 |m+1,gV,vi,aI=>
  if decide (vi≤(aV.size:Int)) then
   if decide (vi<(aV.size:Int)) then
    (m8 aV vi).bind fun x19=>
    iO N aV gV vi aI (b5 N aV m) (x19 != 32)
   else
    iO N aV gV vi aI (b5 N aV m) false
  else
   some aI
def nF (N:Nat)(aV:ByteArray):Option (List ByteArray):=
 (b5 N aV N 0 0 []).bind fun p2=>
 mK N p2
def oI (N:Nat)(l:List ByteArray):Option (Int×Int×Int×Int×Bool):=match l with
 | []=>none
 |w0::ws=>if ws.length≤100000∧(ws.all fun s=>(cS N s).isSome)=true∧((List.range 7).all fun k=>decide (gE N ((k:Int)+1)=some (Tryz.forms[k]!.1,Tryz.forms[k]!.2.2)))=true then some ((Tryz.actR (fun s=>(cS N s).getD (0,false)) w0 ws).1.kind,(Tryz.actR (fun s=>(cS N s).getD (0,false)) w0 ws).1.a,(Tryz.actR (fun s=>(cS N s).getD (0,false)) w0 ws).1.b,(Tryz.actR (fun s=>(cS N s).getD (0,false)) w0 ws).1.n,(Tryz.actR (fun s=>(cS N s).getD (0,false)) w0 ws).2)else none
def pO (N:Nat)(x15:(List ByteArray))(l0:List aC):Option ((List aC)×Int×Int):=
 some (l0,(x15.length:Int),0)
def f9 (N:Nat)(x15:(List ByteArray))(vi:Int)(rec:Int→(List aC)→Option (LR ((List aC)) ((List aC)×Int×Int)))(bC:List aC):Option (LR ((List aC)) ((List aC)×Int×Int)):=
 rec (aOg.wrap (vi+1)) bC
def iQ (N:Nat)(x15:(List ByteArray))(vi:Int)(aI:List aC)(x26:(List ByteArray))(rec:Int→(List aC)→Option (LR ((List aC)) ((List aC)×Int×Int)))(x36:Bool):Option (LR ((List aC)) ((List aC)×Int×Int)):=
 if x36 then
  f9 N x15 vi rec aI
 else
  (oI N x26).bind fun x39=>
  if !x39.2.2.2.2 then
   some (.ret ([],vi,450))
  else
   if decide (256≤(aI.length:Int)) then
    some (.ret ([],vi,4))
   else
    (gM 32 aI [(aC.mk x39.1 x39.2.1 x39.2.2.1 x39.2.2.2.1)]).bind fun x52=>
    f9 N x15 vi rec x52
def bX (N:Nat)(x15:(List ByteArray)):Nat→Int→(List aC)→Option (LR ((List aC)) ((List aC)×Int×Int))
 |0,_,_=>none
 |m+1,vi,aI=>
  if decide (vi<(x15.length:Int)) then
   (eG x15 vi).bind fun x24=>
   (nF N x24).bind fun x26=>
   if(x26.length:Int) == 0 then
    iQ N x15 vi aI x26 (bX N x15 m) true
   else
    (eG x26 0).bind fun x32=>
    (m8 x32 0).bind fun x34=>
    iQ N x15 vi aI x26 (bX N x15 m) (x34 == 35)
  else
   some (.brk aI)
def nO (N:Nat)(vs:ByteArray):Option ((List aC)×Int×Int):=
 if decide (16384<(vs.size:Int)) then
  some ([],0,4)
 else
  (nG N vs).bind fun x15=>
  (bX N x15 N 0 []).bind fun q=>match q with
   | .ret v=>some v
   | .brk p2=>
    pO N x15 p2
def lK (N:Nat)(l0:List Int):Option ByteArray:=
 some (mO l0)
def eH (N:Nat)(vi:Int)(rec:Int→(List Int)→Int→(List Int)→Option (List Int))(o9:List Int)(o7:Int)(bD:List Int):Option (List Int):=
 rec (aOg.wrap (vi+1)) o9 o7 bD
def fB (N:Nat)(vi:Int)(c0:List Int)(k5:Int)(l1:List Int)(rec:Int→(List Int)→Int→(List Int)→Option (List Int))(x25:Bool):Option (List Int):=
 if x25 then
  (c7 N c0 k5 (l1.length:Int)).bind fun x31=>
  (c7 N x31.2.1 x31.2.2 5).bind fun x33=>
  if x33.1 == 0 then
   (c7 N x33.2.1 x33.2.2 7).bind fun x41=>
   (eG [32,48,45,35,10,120,57] x41.1).bind fun x42=>
   (eG l1 x31.1).bind fun x44=>
   eH N vi rec x41.2.1 x41.2.2 (l1.set (aOn x31.1) x42)
  else
   if x33.1 == 1 then
    (sub l1 0 x31.1).bind fun x50=>
    (gM 1 [] x50).bind fun x51=>
    (gM 1 x51 [32]).bind fun x53=>
    (sub l1 x31.1 (l1.length:Int)).bind fun x56=>
    (gM 1 x53 x56).bind fun x57=>
    eH N vi rec x33.2.1 x33.2.2 x57
   else
    if x33.1 == 2 then
     (sub l1 0 x31.1).bind fun x63=>
     (gM 1 [] x63).bind fun x64=>
     (sub l1 (aOg.wrap (x31.1+1)) (l1.length:Int)).bind fun x68=>
     (gM 1 x64 x68).bind fun x69=>
     eH N vi rec x33.2.1 x33.2.2 x69
    else
     eH N vi rec x33.2.1 x33.2.2 l1
 else
  some l1
def cF (N:Nat):Nat→Int→(List Int)→Int→(List Int)→Option (List Int)
 |0,_,_,_,_=>none
 |m+1,vi,c0,k5,l1=>
  if decide (vi<3) then
   (iR N c0 k5).bind fun x24=>
   fB N vi c0 k5 l1 (cF N m) x24
  else
   fB N vi c0 k5 l1 (cF N m) false
def l8 (N:Nat)(l:List Int):Option ByteArray:=
 (lM N l).bind fun x10=>
 (iI N x10.1 x10.2).bind fun x13=>
 (j8 N x13.1).bind fun x14=>
 (qM (⟨#[35,32,97,32,115,99,114,105,112,116,10,10]⟩) x14.1).bind fun x18=>
 (stb x18).bind fun x19=>
 (cF N N 0 x13.2.1 x13.2.2 x19).bind fun p2=>
 lK N p2
def jT (N:Nat):Option Bool:=
 some true
def dN (N:Nat)(raw x19 x25:ByteArray)(x28:Int)(rec:Int→Option (LR (Unit) (Bool)))(x57:Bool):Option (LR (Unit) (Bool)):=
 if x57 then
  some (.ret false)
 else
  rec (aOg.wrap (x28+1))
def aX (N:Nat)(raw x19 x25:ByteArray):Nat→Int→Option (LR (Unit) (Bool))
 |0,_=>none
 |m+1,x28=>
  if decide (x28<(3:Int)) then
   (eG [x19,raw,x25] x28).bind fun x30=>
   (bP N x30).bind fun x34=>
   (nO N x30).bind fun x40=>
   if x34.2.1 != x40.2.1 then
    dN N raw x19 x25 x28 (aX N raw x19 x25 m) true
   else
    if x34.2.2 != x40.2.2 then
     dN N raw x19 x25 x28 (aX N raw x19 x25 m) true
    else
     (fU N x34.1 x40.1).bind fun x55=>
     dN N raw x19 x25 x28 (aX N raw x19 x25 m) (!x55)
  else
   some (.brk ())
def fO (N:Nat)(l:List Int)(raw:ByteArray):Option Bool:=
 (iD N).bind fun x13=>
 if !x13 then
  some false
 else
  if decide (300<(raw.size:Int)) then
   some true
  else
   (l8 N l).bind fun x19=>
   (qM raw (⟨#[10]⟩)).bind fun x22=>
   (qM x22 x19).bind fun x25=>
   (aX N raw x19 x25 N 0).bind fun q=>match q with
    | .ret v=>some v
    | .brk p2=>
     jT N
end Go.Proofs.YtjcfonniipabpaaGreatDoor
namespace Go.Vm
open Go Go.ChangeShapes Go.WideShapes Go.ChangeAt Go.RowKit
section
variable {P:Program}{t e:TypeId}
theorem aAU {w:World}: ∀{A B:List V}{us bs:List Value},VCells mA [] w A us→VCells mA [] w B bs→VCells mA [] w (A++B) (us++bs)
 | [],B,us,bs,h,k=>by
  unfold VCells at h
  subst h
  exact k
 |a::A,B,us,bs,h,k=>by
  unfold VCells at h
  obtain⟨v,rest,rfl,h1,h2⟩:=h
  exact dM h1 (aAU h2 k)
theorem tD {w:World}{A B:List V}{cs:List Value}{o n:Nat}(h:VCells mA [] w A ((cs.drop o).take n))(k:VCells mA [] w B (cs.drop (o+n))):VCells mA [] w (A++B) (cs.drop o):=by
 have e:cs.drop o=(cs.drop o).take n++cs.drop (o+n):=by rw[←aOM,List.take_append_drop]
 rw[e]
 exact aAU h k
theorem aEJ {w:World}{cs:List Value}{n:Nat}(h:cs.length=n):VCells mA [] w [] (cs.drop n):=by
 rw[aOm (by omega)];exact gF
end
end Go.Vm
namespace Go.Proofs.YtjcfonniipabpaaGreatDoor
open Go Go.Vm
open Go.ChangeShapes Go.WideShapes Go.ChangeAt Go.RowKit
def aFV (x:aC):Prop:=((Lit.int .i64 x.Kind).wf=true)∧((Lit.int .i64 x.A).wf=true)∧((Lit.int .i64 x.B).wf=true)∧((Lit.int .i64 x.N).wf=true)
set_option maxRecDepth 100000 in
theorem aB8 :yP Tryz.prog 39 aFV aJ:=by
 intro H enc w spare held fuel cs x h
 obtain⟨xs,n,_,_,hl,hlen,hf⟩:=DataW.trod_struct Tryz.underlying39 h
 rw[show Tryz.prog.cellsOf 39=4 by kernel_rfl]at hl
 match xs,hlen,hf with
 | [y0,y1,y2,y3],_,hf=>
  have h0:DataW.trod enc Tryz.prog w 0 spare held n 3 ((cs.drop 0).take (Tryz.prog.cellsOf 3))=some y0:=hf 0 _ rfl
  obtain⟨a0,q0,c0⟩:=(kD Tryz.underlying3) h0
  rw[show Tryz.prog.cellsOf 3=1 by kernel_rfl]at c0
  have h1:DataW.trod enc Tryz.prog w 0 spare held n 3 ((cs.drop 1).take (Tryz.prog.cellsOf 3))=some y1:=hf 1 _ rfl
  obtain⟨a1,q1,c1⟩:=(kD Tryz.underlying3) h1
  rw[show Tryz.prog.cellsOf 3=1 by kernel_rfl]at c1
  have h2:DataW.trod enc Tryz.prog w 0 spare held n 3 ((cs.drop 2).take (Tryz.prog.cellsOf 3))=some y2:=hf 2 _ rfl
  obtain⟨a2,q2,c2⟩:=(kD Tryz.underlying3) h2
  rw[show Tryz.prog.cellsOf 3=1 by kernel_rfl]at c2
  have h3:DataW.trod enc Tryz.prog w 0 spare held n 3 ((cs.drop 3).take (Tryz.prog.cellsOf 3))=some y3:=hf 3 _ rfl
  obtain⟨a3,q3,c3⟩:=(kD Tryz.underlying3) h3
  rw[show Tryz.prog.cellsOf 3=1 by kernel_rfl]at c3
  refine⟨⟨a0,a1,a2,a3⟩,⟨q0,q1,q2,q3⟩, ?_⟩
  have c:=(tD (o:=0) c0 (tD (o:=1) c1 (tD (o:=2) c2 (tD (o:=3) c3 (aEJ hl)))))
  exact c
end Go.Proofs.YtjcfonniipabpaaGreatDoor
namespace Go.Vm
open Go
theorem eW :10000000≤gX:=by decide
theorem i1 {j:Nat}(hj:j≤100000):aOg.wrap ((j:Int)+1)=((j+1:Nat):Int):=by rw[fK (by omega) (by omega)];simp
theorem dT {j n:Nat}(h:j<n):decide ((j:Int)<(n:Int))=true:=by simpa using h
theorem dF {j n:Nat}(h: ¬j<n):decide ((j:Int)<(n:Int))=false:=by simp;omega
end Go.Vm
namespace Go.Proofs.YtjcfonniipabpaaGreatDoor
open Go Go.Vm
def aH (l:List UInt8):ByteArray:=⟨l.toArray⟩
theorem aZ (l:List UInt8):(aH l).size=l.length:=by simp[aH,ByteArray.size]
theorem cB (l:List UInt8):(aH l).data.toList=l:=by simp[aH]
theorem rM (s:ByteArray):s=aH s.data.toList:=by cases s;simp[aH]
theorem oE (s:ByteArray):s.data.toList.length=s.size:=by rw[Array.length_toList];rfl
theorem aFT (b:ByteArray): ∀(n i:Nat)(r:List UInt8),b.size-i=n→aOA b i r=r.reverse++b.data.toList.drop i
 |0,i,r,h=>by
  rw[aOA,if_neg (by omega),aOm (by rw[oE];omega),List.append_nil]
 |n+1,i,r,h=>by
  have hi:i<b.data.toList.length:=by rw[oE];omega
  rw[aOA,if_pos (by omega),aFT b n (i+1) _ (by omega),aOF hi]
  have:b.get! i=b.data.toList[i]:=by
   simp only[ByteArray.get!]
   rw[getElem!_pos b.data i (by simpa using hi)]
   simp
  rw[this];simp
theorem rV (b:ByteArray):b.toList=b.data.toList:=by
 unfold ByteArray.toList
 rw[aFT b b.size 0 [] (by omega)];simp
theorem wV (l:List UInt8):(!((aH l).toList == ByteArray.empty.toList))= !(l == []):=by
 rw[rV,rV,cB];rfl
theorem yS {a b:List UInt8}(h:a.length+b.length≤10000000):qM (aH a) (aH b)=some (aH (a++b)):=by
 have:=eW
 unfold qM
 rw[aZ,aZ,if_pos (by omega)]
 congr 1
theorem g6 (l:List UInt8){i:Nat}(h:i<l.length):m8 (aH l) (i:Int)=some ((l[i].toNat:Nat):Int):=by
 unfold m8
 rw[if_pos (by omega)]
 have:(aH l)[(i:Int).toNat]? =some l[i]:=by
  rw[aOy]
  rw[getElem?_pos (aH l) i (by rw[aZ];exact h)]
  congr 1
 rw[this];rfl
theorem aDY (l:List UInt8)(a b:Nat):(aH l).extract a b=aH ((l.take b).drop a):=by
 have h:((aH l).extract a b).data=(l.toArray).extract a b:=by rw[ByteArray.data_extract];rfl
 have:(aH l).extract a b=⟨((aH l).extract a b).data⟩:=rfl
 rw[this,h]
 rw[List.extract_toArray,List.extract_eq_take_drop,←List.drop_take];rfl
theorem jR (l:List UInt8){a b:Nat}(h1:a≤b)(h2:b≤l.length):o3 (aH l) (a:Int) (b:Int)=some (aH ((l.take b).drop a)):=by
 unfold o3
 rw[if_pos ⟨by omega,by omega,by rw[aZ];omega⟩,aOy,aOy,aDY]
theorem s5 (c:UInt8){n:Nat}(hn:n<256):(((c.toNat:Nat):Int) != (n:Int))=(c != UInt8.ofNat n):=by
 by_cases h:c=UInt8.ofNat n
 ·subst h
  have:(UInt8.ofNat n).toNat=n:=by simp;omega
  rw[this];simp
 have h2:c.toNat≠n:=fun e=>h (by rw[←e];simp)
 have h3:((c.toNat:Nat):Int)≠(n:Int):=by omega
 rw[bne_iff_ne.2 h3,bne_iff_ne.2 h]
def wd (c:UInt8):Bool:=c != 32
def W :Nat→List UInt8→List (List UInt8)
 |0,_=>[]
 |n+1,l=>if l=[]then []else if l.takeWhile wd=[]then W n (l.drop 1)else l.takeWhile wd::W n (l.drop ((l.takeWhile wd).length+1))
theorem wA (l:List UInt8):(l.takeWhile wd).length≤l.length:=(List.takeWhile_sublist _).length_le
theorem aHo {N:Nat}{l:List UInt8}{vi:Int}{l0:List ByteArray}(hl:l.length≤1000000): ∀(m k:Nat),k≤l.length→l.length-k<m→dK N (aH l) vi l0 m (k:Int)=some ((k+((l.drop k).takeWhile wd).length:Nat):Int)
 |0,k,_,h=>by omega
 |m+1,k,hk,h=>by
  rw[dK,aZ]
  by_cases hlt:k<l.length
  ·rw[if_pos (by simpa using hlt),g6 l hlt,aOi,show(((l[k].toNat:Nat):Int) != 32)=wd l[k]from s5 l[k] (n:=32) (by decide)]
   have hd:l.drop k=l[k]::l.drop (k+1):=aOF hlt
   unfold fZ
   cases hw:wd l[k] with
   |true=>
    rw[if_pos rfl,show aOg.wrap ((k:Int)+1)=((k+1:Nat):Int) by rw[fK (by omega) (by omega)];simp]
    rw[aHo hl m (k+1) (by omega) (by omega),hd,aOx hw]
    congr 2
    simp;omega
   |false=>
    rw[if_neg (by simp),hd,List.takeWhile_cons_of_neg (by simp[hw])]
    simp
  have:k=l.length:=by omega
  subst this
  rw[if_neg (by simp)]
  unfold fZ
  rw[if_neg (by simp)]
  simp
theorem aFN {l:List UInt8}: ∀{n:Nat},l.length<n→ ∀m,l.length<m→W n l=W m l:=by
 intro n
 induction n using Nat.strongRecOn generalizing l with
 |_ n ih=>
  intro hn m hm
  cases n with
  |zero=>omega
  |succ n=>
   cases m with
   |zero=>omega
   |succ m=>
    unfold W
    by_cases h0:l=[]
    ·rw[if_pos h0,if_pos h0]
    rw[if_neg h0,if_neg h0]
    have hl:0<l.length:=aON.2 h0
    rw[ih n (by omega) (l:=l.drop 1) (by simp;omega) m (by simp;omega),ih n (by omega) (l:=l.drop _) (by simp;omega) m (by simp;omega)]
theorem aEO {N:Nat}{l:List UInt8}(hl:l.length≤100000)(hN:l.length<N): ∀(m k:Nat)(l0:List ByteArray),l.length-k<m→k≤l.length+1→l0.length≤k→dH N (aH l) m (k:Int) l0=some (l0++(W m (l.drop k)).map aH)
 |0,k,l0,h,_,_=>by omega
 |m+1,k,l0,h,hk,h0=>by
  have hlb:=eW
  rw[dH,aZ]
  by_cases hlt:k<l.length
  ·rw[if_pos (by simpa using hlt),aHo (by omega) N k (by omega) (by omega),aOi]
   have hne:l.drop k≠ []:=by simp;omega
   have htw:=wA (l.drop k)
   simp only[List.length_drop]at htw
   unfold kG
   generalize ht:((l.drop k).takeWhile wd)=t at htw
   have hw1:aOg.wrap (((k+t.length:Nat):Int)+1)=((k+t.length+1:Nat):Int):=by rw[fK (by omega) (by omega)];simp
   unfold W
   rw[if_neg hne,ht]
   by_cases hz:t=[]
   ·subst hz
    rw[if_neg (by simp),if_pos rfl]
    unfold fV
    rw[hw1]
    simp only[List.length_nil,Nat.add_zero]
    rw[aEO hl hN m (k+1) l0 (by omega) (by omega) (by omega),aOM,Nat.add_comm]
   have hpos:0<t.length:=aON.2 hz
   rw[if_pos (by simp;omega),jR l (by omega) (by omega),aOi,iY (by simp;omega),aOi,if_neg hz]
   unfold fV
   rw[hw1,aEO hl hN m (k+t.length+1) _ (by omega) (by omega) (by simp;omega),aOM,aOw,aOr]
   have e:(l.take (k+t.length)).drop k=t:=by
    rw[List.drop_take,←ht]
    rw[aOG,ht]
    have:=aOz (p:=wd) (l:=l.drop k)
    rw[ht]at this
    conv=>lhs;rw[←this]
    simp
   rw[e]
   rfl
  rw[if_neg (by simp;omega)]
  have:l.drop k=[]:=aOm (by omega)
  rw[this]
  simp[W]
theorem aAc {N:Nat}{l:List UInt8}(hl:l.length≤100000)(hN:l.length<N):jC N (aH l)=some ((W (l.length+1) l).map aH):=by
 unfold jC
 have:=aEO (N:=N) hl hN N 0 [] (by omega) (by omega) (by simp)
 rw[show((0:Nat):Int)=0 from rfl]at this
 rw[this,aOi]
 unfold kL
 rw[aOE,aOv,aFN hN (l.length+1) (by omega)]
def ln (c:UInt8):Bool:=c != 10
theorem aFv : ∀l:List UInt8,(Lib.indexByte l 10= -1∧l.takeWhile ln=l)∨(Lib.indexByte l 10=((l.takeWhile ln).length:Int)∧(l.takeWhile ln).length<l.length)
 | []=> .inl ⟨rfl,rfl⟩
 |c::l=>by
  unfold Lib.indexByte
  by_cases h:c=10
  ·subst h
   exact .inr ⟨by simp[ln],by simp[ln]⟩
  have h1:ln c=true:=by simp[ln,h]
  have h2:(c == 10)=false:=by simp[h]
  rw[aOx h1,h2]
  rcases aFv l with⟨e1,e2⟩|⟨e1,e2⟩
  ·exact .inl ⟨by rw[e1];rfl,by rw[e2]⟩
  refine .inr ⟨?_,by simpa using e2⟩
  rw[e1]
  have:((((l.takeWhile ln).length:Int)) == -1)=false:=by simp
  rw[this]
  simp
theorem aDC {N:Nat}{l:List UInt8}(hl:l.length≤1000000):kU N (aH l) ⟨#[10]⟩=some (aH (l.takeWhile ln),aH (l.drop ((l.takeWhile ln).length+1)),decide ((l.takeWhile ln).length<l.length)):=by
 have hi:g9 N (aH l) ⟨#[10]⟩=some (Lib.indexByte l 10):=by
  unfold g9
  simp only[cB]
 unfold kU eY
 rw[hi,aOi]
 rcases aFv l with⟨e1,e2⟩|⟨e1,e2⟩
 ·rw[e1,if_neg (by decide),e2,aOi,aOm (by omega)]
  simp[aH]
  rfl
 have hw:aOg.wrap (((l.takeWhile ln).length:Int)+((⟨#[10]⟩:ByteArray).size:Int))=(((l.takeWhile ln).length+1:Nat):Int):=by
  rw[show(⟨#[10]⟩:ByteArray).size=1 from rfl,fK (by omega) (by omega)];simp
 rw[e1,if_pos (by simp),hw,aZ,show(0:Int)=((0:Nat):Int)from rfl,jR l (by omega) (by omega),aOi,jR l (by omega) (Nat.le_refl _),aOi,aOi]
 have ht:l.take (l.takeWhile ln).length=l.takeWhile ln:=by
  have h2:=List.take_left (l₁:=l.takeWhile ln) (l₂:=l.dropWhile ln)
  rw[aOz]at h2
  exact h2
 rw[aOE,ht,List.take_length]
 simp[e2]
set_option maxRecDepth 100000
abbrev NN :Nat:=70000
theorem aBH : ∀(l:List Int)(b:List UInt8),l.foldl (fun r n=>r.push (UInt8.ofNat n.toNat)) (aH b)=aH (b++l.map fun n=>UInt8.ofNat n.toNat)
 | [],b=>by simp
 |n::l,b=>by
  rw[List.foldl_cons,show(aH b).push (UInt8.ofNat n.toNat)=aH (b++[UInt8.ofNat n.toNat]) by simp[aH,ByteArray.push],aBH l]
  simp
theorem xL (l:List Int):mO l=aH (l.map fun n=>UInt8.ofNat n.toNat):=by
 have:=aBH l []
 rw[aOv]at this
 exact this
def LN :List UInt8:=[115,116,101,112,115,32,48,10]
def tF (n:Nat):List UInt8:=(aOh n LN).flatten
theorem vT (n:Nat):tF (n+1)=LN++tF n:=by simp[tF,aOu]
theorem aDy : ∀n:Nat,tF n++LN=tF (n+1)
 |0=>by simp[tF]
 |n+1=>by rw[vT n,aOr,aDy n,←vT]
theorem yU : ∀n:Nat,(tF n).length=8*n
 |0=>rfl
 |n+1=>by rw[vT,aOD,yU n];simp[LN];omega
def A0 :aC:=⟨1,0,0,0⟩
theorem aFI :iK NN [aH [115,116,101,112,115],aH [48]]=some (1,0,0,0,true):=by decide +kernel
theorem aD5 :jC NN (aH [115,116,101,112,115,32,48])=some [aH [115,116,101,112,115],aH [48]]:=by
 rw[aAc (by decide) (by decide)];rfl
theorem aFp (x:List UInt8)(hx:x.length≤100000):kU NN (aH (LN++x)) ⟨#[10]⟩=some (aH [115,116,101,112,115,32,48],aH x,true):=by
 have h:(LN++x).takeWhile ln=[115,116,101,112,115,32,48]:=rfl
 rw[aDC (by simp[LN];omega),h]
 simp[LN]
theorem aFY : ∀(r m i:Nat),r<m→i≤256→i+r≤257→aT NN m (aH (tF r)) (i:Int) (aOh i A0)=if i+r≤256 then some (.brk (((i+r:Nat):Int),aOh (i+r) A0))else some (.ret ([],256,4))
 |_,0,_,h,_,_=>by omega
 |0,m+1,i,_,hi,_=>by
  rw[aT,show tF 0=[]from rfl,wV,if_neg (by decide),if_pos (by omega)]
  rfl
 |r+1,m+1,i,h,hi,hr=>by
  have hb:=eW
  rw[aT,vT,wV,if_pos (by simp[LN]),aFp _ (by rw[yU];omega),aOi,aD5,aOi,if_pos (by decide)]
  rw[show eG [aH [115,116,101,112,115],aH [48]] 0=some (aH [115,116,101,112,115])from rfl,aOi,show m8 (aH [115,116,101,112,115]) 0=some 115 from g6 _ (i:=0) (by decide),aOi]
  unfold d3
  rw[show((115:Int) != 35)=true by decide,if_pos rfl,aFI,aOi,if_neg (by decide)]
  by_cases h6:i=256
  ·subst h6
   rw[if_pos (by rw[aOo];decide),if_neg (by omega)]
   rfl
  rw[if_neg (by simp;omega),iY (by simp;omega),aOi]
  unfold dG
  have hw:aOg.wrap ((i:Int)+1)=((i+1:Nat):Int):=by rw[fK (by omega) (by omega)];simp
  have hl:aOh i A0++[A0]=aOh (i+1) A0:=by rw[List.replicate_succ']
  rw[hw]
  show aT NN m (aH (tF r)) ((i+1:Nat):Int) (aOh i A0++[A0])=_
  rw[hl,aFY r m (i+1) (by omega) (by omega) (by omega),show i+1+r=i+(r+1) by omega]
theorem aFK (n:Nat)(hn:n≤257):bP NN (aH (tF n))=if n≤256 then some (aOh n A0,(n:Int),0)else some ([],256,4):=by
 unfold bP
 rw[aZ,yU,if_neg (by simp;omega)]
 have:=aFY n NN 0 (by show n<70000;omega) (by omega) (by omega)
 rw[show((0:Nat):Int)=0 from rfl]at this
 rw[show aOh 0 A0=[]from rfl]at this
 rw[this]
 simp only[Nat.zero_add]
 by_cases h:n≤256
 ·rw[if_pos h,if_pos h];rfl
 rw[if_neg h,if_neg h];rfl
theorem aJ7 : ∀(m n:Nat),W m (aOh n 32)=[]
 |0,_=>rfl
 |m+1,0=>by simp[W]
 |m+1,n+1=>by
  unfold W
  rw[if_neg (by simp),if_pos (by simp[aOu,wd]),aOu,List.drop_one,List.tail_cons,aJ7 m n]
theorem aHm : ∀n:Nat,(aOh n (32:UInt8)).takeWhile ln=aOh n 32
 |0=>rfl
 |n+1=>by rw[aOu,aOx (by rfl),aHm n]
theorem aGL (n:Nat)(h0:0<n)(hn:n≤20000):bP NN (aH (aOh n 32))=if 16384<n then some ([],0,4)else some ([],1,0):=by
 unfold bP
 rw[aZ,aOo]
 by_cases h:16384<n
 ·rw[if_pos h,if_pos (by simp;omega)]
 rw[if_neg h,if_neg (by simp;omega)]
 have ht:=aHm n
 have hne:(aOh n (32:UInt8) == [])=false:=by cases n with
  |zero=>omega
  |succ n=>simp[aOu]
 rw[aT,wV,hne,if_pos (by rfl),aDC (by simp;omega),aOi,ht,aAc (by rw[aOo];omega) (by rw[aOo];show n<70000;omega),aOi,aJ7,if_neg (by simp)]
 unfold d3
 rw[if_neg (by simp)]
 unfold dG
 rw[aOo,aOm (by simp),show aOg.wrap (0+1)=1 by decide +kernel]
 rw[aT,wV,if_neg (by decide)]
 rfl
theorem aFF {k:Int}{q:(List aC)×Int×Int}(x34:List Int)(hn:x34.length≤20000): ∀(m i:Nat)(l:List Int),l.length=x34.length→i≤l.length→(∀j,j<i→l[j]? =some 32)→l.length-i<m→cT NN k q x34 m (i:Int) l=some (aOh x34.length 32)
 |0,i,l,_,_,_,h=>by omega
 |m+1,i,l,hl,hi,hj,h=>by
  rw[cT]
  by_cases hlt:i<x34.length
  ·rw[if_pos (by simpa using hlt),qF l (by omega),aOi,show aOg.wrap ((i:Int)+1)=((i+1:Nat):Int) by rw[fK (by omega) (by omega)];simp,show aOn (i:Int)=i from aOy i]
   refine aFF x34 hn m (i+1) _ (by rw[aOB];exact hl) (by rw[aOB];omega) (fun j hj'=> ?_) (by rw[aOB];omega)
   by_cases e:j=i
   ·rw[e,List.getElem?_set_self (by omega)]
   rw[aOL (by omega)];exact hj j (by omega)
  rw[if_neg (by simpa using hlt)]
  congr 1
  refine List.ext_getElem? fun j=> ?_
  by_cases hjl:j<i
  ·rw[hj j hjl,List.getElem?_replicate,if_pos (by omega)]
  rw[aOK (by omega),aOK (by simp;omega)]
theorem aMO (N:Nat)(v:Int): ∃k:Nat,k<3∧fA N v 3=some (k:Int):=by
 unfold fA rem
 rw[if_neg (by decide),aOi]
 have h1:v.tmod 3<3:=Int.tmod_lt_of_pos v (by decide)
 have h2: -3<v.tmod 3:=by
  have:=Int.lt_tmod_of_pos v (b:=3) (by decide)
  exact this
 unfold kY
 by_cases h:v.tmod 3<0
 ·rw[if_pos (by simpa using h),fK (by omega) (by omega)]
  exact⟨(v.tmod 3+3).toNat,by omega,by congr 1;omega⟩
 rw[if_neg (by simpa using h)]
 exact⟨(v.tmod 3).toNat,by omega,by congr 1;omega⟩
theorem aFS (k:Nat)(hk:k<3): ∀(m i:Nat),i≤255+k→255+k-i<m→cU NN (k:Int) m (aH (tF i)) (i:Int)=some (aH (tF (255+k)))
 |0,i,_,h=>by omega
 |m+1,i,hi,h=>by
  have hw:aOg.wrap (255+(k:Int))=((255+k:Nat):Int):=by rw[fK (by omega) (by omega)];simp
  rw[cU,hw]
  by_cases hlt:i<255+k
  ·rw[if_pos (dT hlt),show(⟨#[115,116,101,112,115,32,48,10]⟩:ByteArray)=aH LN from rfl,yS (by rw[yU];simp[LN];omega),aOi,aDy,show aOg.wrap ((i:Int)+1)=((i+1:Nat):Int) by rw[fK (by omega) (by omega)];simp]
   exact aFS k hk m (i+1) (by omega) (by omega)
  have:i=255+k:=by omega
  subst this
  rw[if_neg (by rw[dF (by omega)];decide)]
theorem xV (vn:Int):fQ NN vn=some true:=by
 have hlb:=eW
 obtain⟨k,hk,hm⟩:=aMO NN vn
 unfold fQ
 rw[show iD NN=some true from rfl,aOi,if_neg (by decide),hm,aOi]
 have h6:=aFS k hk NN 0 (by omega) (by show _<70000;omega)
 rw[show tF 0=[]from rfl,show((0:Nat):Int)=0 from rfl,show aH []=aOl from rfl]at h6
 rw[h6,aOi]
 unfold gG
 have hw2:aOg.wrap (16383+(k:Int))=((16383+k:Nat):Int):=by rw[fK (by omega) (by omega)];simp
 have hw3:aOg.wrap (255+(k:Int))=((255+k:Nat):Int):=by rw[fK (by omega) (by omega)];simp
 have hsp:=aFF (k:=(k:Int)) (q:=if 255+k≤256 then(aOh (255+k) A0,((255+k:Nat):Int),0)else([],256,4)) (aOh (16383+k) 0) (by rw[aOo];omega) NN 0 (aOh (16383+k) 0) rfl (by omega) (fun j hj=>by omega) (by rw[aOo];show _<70000;omega)
 rw[show((0:Nat):Int)=0 from rfl,aOo]at hsp
 rw[aFK _ (by omega),hw2,aI6 (by omega)]
 have e0:(if 255+k≤256 then some (aOh (255+k) A0,((255+k:Nat):Int),(0:Int))else some (([]:List aC),(256:Int),(4:Int)))=some (if 255+k≤256 then(aOh (255+k) A0,((255+k:Nat):Int),0)else([],256,4)):=by split<;>rfl
 rw[e0,aOi,aOi,hsp,aOi]
 unfold gH
 rw[xL,List.map_replicate,show UInt8.ofNat (aOn 32)=32 from rfl,aGL _ (by omega) (by omega),hw3]
 by_cases h2:k=2
 ·subst h2
  rw[if_neg (show¬255+2≤256 by decide),if_pos (show 16384<16383+2 by decide),aOi,if_pos (by decide),if_pos (by decide),if_pos (by decide),if_pos (by decide),if_pos (by decide),if_pos (by decide)]
  rfl
 rw[if_pos (show 255+k≤256 by omega),if_neg (show¬16384<16383+k by omega),aOi,if_neg (by simp;omega),if_pos (by rfl),if_pos (by simp),if_pos (by simp),if_pos (by rfl),if_pos (by rfl)]
 rfl
end Go.Proofs.YtjcfonniipabpaaGreatDoor
