/- Texts of ours, joined: VmX, VmY, VmZ, Sh, OpenArr, OpenS, Plain1, Plain2, PlainU1, PlainU2, PlainU3. -/
import Derived.Test.YtnllpckhipmpgaaGreatDoorQScriptOps2
import Derived.OpenShut
open Go.IntKind renaming i64 → aQr,u32 → aQt,u64 → aQw,u8 → aQz,max → aQ2
open List renaming replicate → aQs,drop_eq_nil_of_le → aQB,drop_eq_getElem_cons → aQD,append_assoc → aQH,length_append → aQM,map_cons → aQN,nil_append → aQP,getElem?_eq_getElem → aQT,drop_append → aQX,take_of_length_le → aQY,length_map → aQZ,flatMap_cons → aQ7,take_append → aRa,all_eq_true → aRb,length_set → aRc
open Option renaming bind_some → aQu
open Int renaming toNat → aQv,tdiv → aQF,tmod → aQK,toNat_of_nonneg → aQL,toNat_natCast → aQ8
open Nat renaming le_of_ble_eq_true → aQx,mod_eq_of_lt → aQA,ble → aQC,mul_comm → aQG,mul_left_comm → aQI,mul_le_mul → aQJ,le_pred_of_lt → aQO,zero_le → aQQ,add_mul → aQR,mod_eq_sub_mod → aQS,mul_add → aQU,mul_assoc → aQV,div_add_mod → aQ0,mod_lt → aQ1,pred_eq_sub_one → aQ3,pow_pos → aQ4,mul_right_comm → aQ5,beq → aQ6,pow_succ → aQ9,add_mod → aRd
open Bool renaming false_eq_true → aQy,and_eq_true → aQW
open Option.some renaming injEq → aQE
set_option linter.unusedSimpArgs false
set_option linter.unusedVariables false
namespace Go.Vm
open Go
def OpsG (P:Program)(F G:FuncId→Bool)(ops:Array Oper):List Oper→List V→Hp→(List V→Hp→Prop)→Prop
 | [],s,h,K=>K s h
 |o::l,s,h,K=> ∃s1 h1,StepR P F G ops o s h s1 h1∧OpsG P F G ops l s1 h1 K
def OpsX (P:Program)(N:Nat)(m:Option (List Nat×List Nat))(ops:Array Oper)(l:List Oper)(s:List V)(h:Hp)(K:List V→Hp→Prop):Prop:=
 match m with
 |none=>OpsW P N ops l s h K
 |some (F,G)=>OpsG P (eE F) (eE G) ops l s h K
def aEP (l:List Oper):List Nat→List Oper
 | []=>[]
 |i::s=>match l[i]? with
  |some o=>o::aEP l s
  |none=>[]
def aCB (F G:FuncId→Bool)(ops:Array Oper):List Nat→Array Bool→Bool
 | [],_=>true
 |i::s,L=>aFp F G ops L i&&(ops.toList[i]?).isSome&&aCB F G ops s (L.setIfInBounds i true)
def aBo :List Nat→Array Bool→Array Bool
 | [],L=>L
 |i::s,L=>aBo s (L.setIfInBounds i true)
theorem aAY {P:Program}{N:Nat}{F G:FuncId→Bool}{ops:Array Oper}{K:List V→Hp→Prop}{m:Nat}: ∀(sc:List Nat)(L:Array Bool)(s:List V)(h:Hp),aCB F G ops sc L=true→
  OpsG P F G ops (aEP ops.toList sc) s h (fun s h=>DrawG P N F G ops m (aBo sc L) s h K)→DrawG P N F G ops (m+sc.length) L s h K
 | [],L,s,h,_,hk=>hk
 |i::sc,L,s,h,hb,hk=>by
  simp only[aCB,aQW]at hb
  obtain⟨⟨h1,h2⟩,h3⟩:=hb
  obtain⟨o,ho⟩:=Option.isSome_iff_exists.1 h2
  simp only[aEP,ho]at hk
  obtain⟨s1,g1,e,hk⟩:=hk
  refine DrawG.pick h1 (o:=o) (by simpa using ho) e ?_
  exact aAY sc _ s1 g1 h3 hk
def aCk (F G:FuncId→Bool)(ops:Array Oper):List (List Nat)→Array Bool→Bool
 | [],L=>(fD ops.size L).isEmpty
 | [a],L=>aCB F G ops a L&&(fD ops.size (aBo a L)).isEmpty
 |a::b::ss,L=>aCB F G ops a L&&aHh ops (aBo a L)&& !b.isEmpty&&aCk F G ops (b::ss) (aBo a L)
def aLQ (P:Program)(N:Nat)(F G:List Nat)(ops:Array Oper):List (List Nat)→List V→Hp→(List V→Hp→Prop)→Prop
 | [],s,h,K=>K s h
 | [a],s,h,K=>OpsX P N (some (F,G)) ops (aEP ops.toList a) s h K
 |a::b::ss,s,h,K=>OpsX P N (some (F,G)) ops (aEP ops.toList a) s h (fun s h=> ∃s' h',Ghost N s h s' h'∧aLQ P N F G ops (b::ss) s' h' K)
theorem OpsG.mono {P:Program}{F G:FuncId→Bool}{ops:Array Oper}{K K':List V→Hp→Prop}: ∀{l:List Oper}{s:List V}{h:Hp},OpsG P F G ops l s h K→(∀s h,K s h→K' s h)→OpsG P F G ops l s h K'
 | [],_,_,hk,hm=>hm _ _ hk
 |_::_,_,_,⟨s1,h1,e,hk⟩,hm=>⟨s1,h1,e,hk.mono hm⟩
theorem aCE {P:Program}{N:Nat}{F G:List Nat}{ops:Array Oper}{K:List V→Hp→Prop}: ∀(ss:List (List Nat))(L:Array Bool)(s:List V)(h:Hp),aCk (eE F) (eE G) ops ss L=true→
  aLQ P N F G ops ss s h K→DrawG P N (eE F) (eE G) ops (ss.map List.length).sum L s h K
 | [],L,s,h,hb,hk=>DrawG.nil (List.isEmpty_iff.1 hb) hk
 | [a],L,s,h,hb,hk=>by
  simp only[aCk,Bool.and_eq_true]at hb
  have:=aAY (N:=N) (m:=0) a L s h hb.1 (OpsG.mono (K':=fun s h=>DrawG P N (eE F) (eE G) ops 0 (aBo a L) s h K) hk fun s h hk=>DrawG.nil (List.isEmpty_iff.1 hb.2) hk)
  simpa using this
 |a::b::ss,L,s,h,hb,hk=>by
  simp only[aCk,Bool.and_eq_true]at hb
  obtain⟨⟨⟨h1,h2⟩,h3⟩,h4⟩:=hb
  have:=aAY (N:=N) (m:=((b::ss).map List.length).sum) a L s h h1 (OpsG.mono (K':=fun s h=>DrawG P N (eE F) (eE G) ops ((b::ss).map List.length).sum (aBo a L) s h K) hk fun s h ⟨s',h',hg,hk⟩=>by
   have hd:=aCE (b::ss) _ s' h' h4 hk
   obtain⟨x,xs,rfl⟩: ∃x xs,b=x::xs:=by
    cases b with
    |nil=>cases h3
    |cons x xs=>exact⟨x,xs,rfl⟩
   simp only[List.map_cons,List.length_cons,List.sum_cons,Nat.add_right_comm _ 1]at hd⊢
   exact DrawG.gh h2 hg hd)
  simpa[Nat.add_comm]using this
theorem AB.rs {P:Program}{N:Nat}{Q:Ex→List V→Hp→Prop}{s:List V}{h:Hp}(hm:P.follows .mixedOrders=true)(F G:List Nat)(ss:List (List Nat)){id:Nat}{l:List Oper}(hr:aLQ P N F G l.toArray ss s h (Q .normal))
  (hb:(aCk (eE F) (eE G) l.toArray ss (Array.replicate l.toArray.size false)&&(ss.map List.length).sum == l.toArray.size)=true:=by decide +kernel):AB P N (.region id l.toArray true) Q s h:=by
 simp only[Bool.and_eq_true,beq_iff_eq]at hb
 refine AB.rd (eE F) (eE G) hm ?_
 have:=aCE ss _ s h hb.1 hr
 rw[hb.2]at this
 exact this
section
variable {P:Program}{N n t:Nat}{m:Option (List Nat×List Nat)}{ops:Array Oper}{l:List Oper}{fr:List (Nat×V)}{h h':Hp}{K:List V→Hp→Prop}{op:Op}{ty:TypeId}{pos:String}{aft:Array Edge}{gd:Option (Nat×Bool)}{v a b:V}{x y z:Operand}{Q:Ex→List V→Hp→Prop}{s:List V}
theorem OpsX.nil (hk:K s h):OpsX P N m ops [] s h K:=by
 cases m with
 |none=>exact OpsW.nil hk
 |some p=>exact hk
theorem xS0 (hs:b4 P O0 ops ⟨some t,op,ty,pos,aft,gd⟩ (aE n fr) h=some (v,h'))(k:OpsX P N m ops l (aE n ((t,v)::fr)) h' K):OpsX P N m ops (⟨some t,op,ty,pos,aft,gd⟩::l) (aE n fr) h K:=by
 cases m with
 |none=>exact wS hs k
 |some p=>exact⟨_,_,gS hs,k⟩
theorem xN0 (hs:b4 P O0 ops ⟨none,op,ty,pos,aft,gd⟩ (aE n fr) h=some (v,h'))(k:OpsX P N m ops l (aE n fr) h' K):OpsX P N m ops (⟨none,op,ty,pos,aft,gd⟩::l) (aE n fr) h K:=by
 cases m with
 |none=>exact wN hs k
 |some p=>exact⟨_,_,gN hs,k⟩
theorem xq {c:Code}{id:Nat}(hr:OpsX P N none l.toArray l s h (Ex.then (AB P N c Q) Q .normal)):AB P N (.seq (.region id l.toArray false) c) Q s h:=AB.seq (AB.rw hr)
theorem xr {id:Nat}(hr:OpsX P N none l.toArray l s h (Q .normal)):AB P N (.region id l.toArray false) Q s h:=AB.rw hr
def Gd (ops:Array Oper)(n:Nat)(fr:List (Nat×V)):Option (Nat×Bool)→Prop
 |none=>True
 |some (j,w)=> ∃u,(ops[j]?).bind (·.dst)=some u∧ ∃c,bG n fr (.tmp u)=some (.sc (.bool c))∧c=w
theorem Gd.step {dd:Option Tmp}{r:V×Hp}(hg:Gd ops n fr gd)(hd:bC P O0 ⟨dd,op,ty,pos,aft,gd⟩ (aE n fr) h=some r):b4 P O0 ops ⟨dd,op,ty,pos,aft,gd⟩ (aE n fr) h=some r:=by
 obtain⟨v,h1⟩:=r
 cases gd with
 |none=>exact sv hd
 |some p=>
  obtain⟨j,w⟩:=p
  obtain⟨u,hu,c,hc,he⟩:=hg
  exact svG hu hc he hd
theorem xS (hd:bC P O0 ⟨some t,op,ty,pos,aft,gd⟩ (aE n fr) h=some (v,h'))(k:OpsX P N m ops l (aE n ((t,v)::fr)) h' K) (hg:Gd ops n fr gd:=by first|exact True.intro|exact⟨_,rfl,_,rfl,by assumption⟩):OpsX P N m ops (⟨some t,op,ty,pos,aft,gd⟩::l) (aE n fr) h K:=xS0 (hg.step hd) k
theorem xN (hd:bC P O0 ⟨none,op,ty,pos,aft,gd⟩ (aE n fr) h=some (v,h'))(k:OpsX P N m ops l (aE n fr) h' K) (hg:Gd ops n fr gd:=by first|exact True.intro|exact⟨_,rfl,_,rfl,by assumption⟩):OpsX P N m ops (⟨none,op,ty,pos,aft,gd⟩::l) (aE n fr) h K:=xN0 (hg.step hd) k
theorem xw (hd:bC P O0 ⟨some t,op,ty,pos,aft,none⟩ (aE n fr) h=some (v,h'))(k:OpsX P N m ops l (aE n ((t,v)::fr)) h' K):OpsX P N m ops (⟨some t,op,ty,pos,aft,none⟩::l) (aE n fr) h K:=xS0 (sv hd) k
theorem xy (hd:bC P O0 ⟨none,op,ty,pos,aft,none⟩ (aE n fr) h=some (v,h'))(k:OpsX P N m ops l (aE n fr) h' K):OpsX P N m ops (⟨none,op,ty,pos,aft,none⟩::l) (aE n fr) h K:=xN0 (sv hd) k
theorem xC {f:FuncId}{ts:Array TypeId}{ws:List Operand}{xs:List V}(hx:p9 n fr ws=some xs)(hc:Fn P f h xs v h')(k:OpsX P N none ops l (aE n ((t,v)::fr)) h' K):OpsX P N none ops (⟨some t,.call ⟨.value (.func f),ws.toArray,ts⟩,ty,pos,aft,none⟩::l) (aE n fr) h K:=wC hx hc k
theorem wQ {f:FuncId}{ts:Array TypeId}{ws:List Operand}{xs:List V}{jj ww:Nat}{want cc:Bool}(hj:(ops[jj]?).bind (·.dst)=some ww)(hl:bG n fr (.tmp ww)=some (.sc (.bool cc)))(hb:cc=want)(hx:p9 n fr ws=some xs)(hc:Fn P f h xs v h')(k:OpsX P N none ops l (aE n ((t,v)::fr)) h' K):OpsX P N none ops (⟨some t,.call ⟨.value (.func f),ws.toArray,ts⟩,ty,pos,aft,some (jj,want)⟩::l) (aE n fr) h K:=wCG hj hl hb hx hc k
theorem xG {f:FuncId}{F G:List Nat}{ts:Array TypeId}{ws:List Operand}{xs:List V}(hx:p9 n fr ws=some xs)(hc:Fn P f h xs v h')(k:OpsX P N (some (F,G)) ops l (aE n ((t,v)::fr)) h' K) (hF:eE F f=false:=by rfl) (hG:eE G f=true→ ∃news,h'=h++news:=by first|exact(fun _=>⟨_,rfl⟩)|exact(fun _=>⟨[],(List.append_nil _).symm⟩)|exact(fun h=>absurd h (by decide))) (hg:Gd ops n fr gd:=by first|exact True.intro|exact⟨_,rfl,_,rfl,by assumption⟩):OpsX P N (some (F,G)) ops (⟨some t,.call ⟨.value (.func f),ws.toArray,ts⟩,ty,pos,aft,gd⟩::l) (aE n fr) h K:=by
 refine⟨_,_,gC hc hF hG ?_,k⟩
 cases gd with
 |none=>exact sv (m9 hx r8)
 |some p=>
  obtain⟨j,w⟩:=p
  obtain⟨u,hu,c,hb,he⟩:=hg
  exact svG hu hb he (m9 hx r8)
theorem xU {f:FuncId}{F G:List Nat}{ts:Array TypeId}{ws:List Operand}{xs:List V}(hx:p9 n fr ws=some xs)(hc: ∀h,Fn P f h xs v h)(k:OpsX P N (some (F,G)) ops l (aE n ((t,v)::fr)) h K) (hG:eE G f=false:=by rfl) (hg:Gd ops n fr gd:=by first|exact True.intro|exact⟨_,rfl,_,rfl,by assumption⟩):OpsX P N (some (F,G)) ops (⟨some t,.call ⟨.value (.func f),ws.toArray,ts⟩,ty,pos,aft,gd⟩::l) (aE n fr) h K:=by
 refine⟨_,_,gU hc hG ?_,k⟩
 cases gd with
 |none=>exact sv (m9 hx r5)
 |some p=>
  obtain⟨j,w⟩:=p
  obtain⟨u,hu,c,hb,he⟩:=hg
  exact svG hu hb he (m9 hx r5)
variable {j w:Nat}{want c:Bool}
theorem xX (hc:c= !want)(k:OpsX P N m ops l (aE n ((t,.sc undef)::fr)) h K) (hj:(ops[j]?).bind (·.dst)=some w:=by rfl) (hl:bG n fr (.tmp w)=some (.sc (.bool c)):=by rfl):OpsX P N m ops (⟨some t,op,ty,pos,aft,some (j,want)⟩::l) (aE n fr) h K:=xS0 (svX hj hl hc) k
theorem xSg (hj:(ops[j]?).bind (·.dst)=some w)(hl:bG n fr (.tmp w)=some (.sc (.bool c)))(hc:c=want)(hd:bC P O0 ⟨some t,op,ty,pos,aft,some (j,want)⟩ (aE n fr) h=some (v,h'))(k:OpsX P N m ops l (aE n ((t,v)::fr)) h' K):OpsX P N m ops (⟨some t,op,ty,pos,aft,some (j,want)⟩::l) (aE n fr) h K:=xS0 (svG hj hl hc hd) k
theorem OpsX.ghost {s':List V}(hg:Ghost N s h s' h')(k:OpsX P N none ops l s' h' K):OpsX P N none ops l s h K:=OpsW.ghost hg k
end
theorem gD {p:Prop} (h:p:=by first|exact True.intro|exact⟨_,rfl,_,rfl,by assumption⟩):p:=h
inductive LSet {α:Type}:List α→Nat→α→List α→Prop
 |z {a b:α} {l:List α}:LSet (a::l) 0 b (b::l)
 |s {a b:α} {l l':List α} {i:Nat}:LSet l i b l'→LSet (a::l) (i+1) b (a::l')
theorem LSet.eq {α:Type}{l l':List α}{i:Nat}{b:α}(h:LSet l i b l'):l.set i b=l':=by
 induction h with
 |z=>rfl
 |s _ ih=>rw[List.set_cons_succ,ih]
inductive Snoc {α:Type}:List α→α→List α→Prop
 |n {b:α}:Snoc [] b [b]
 |c {a b:α} {l l':List α}:Snoc l b l'→Snoc (a::l) b (a::l')
theorem Snoc.eq {α:Type}{l l':List α}{b:α}(h:Snoc l b l'):l++[b]=l':=by
 induction h with
 |n=>rfl
 |c _ ih=>rw[List.cons_append,ih]
inductive IsA :(List V→List V)→Nat→Prop
 |c {a:V}:IsA (List.cons a) 1
 |a4 {k:IntKind} {q:List Int}:IsA (cA (eI k) q) 4
 |a8 {k:IntKind} {q:List Int}:IsA (ar8 (eI k) q) 8
 |a20 {k:IntKind} {q:List Int}:IsA (y9 (eI k) q) 20
 |a32 {k:IntKind} {q:List Int}:IsA (bJ (eI k) q) 32
 |a64 {k:IntKind} {q:List Int}:IsA (zF (eI k) q) 64
theorem IsA.eq {A:List V→List V}{n:Nat}(h:IsA A n): ∃p:List V,p.length=n∧ ∀r,A r=p++r:=by
 cases h with
 |c=>exact⟨[_],rfl,fun _=>rfl⟩
 |a4=>exact⟨cA _ _ [],rfl,fun _=>rfl⟩
 |a8=>exact⟨ar8 _ _ [],rfl,fun _=>rfl⟩
 |a20=>exact⟨y9 _ _ [],rfl,fun _=>rfl⟩
 |a32=>exact⟨bJ _ _ [],rfl,fun _=>rfl⟩
 |a64=>exact⟨zF _ _ [],rfl,fun _=>rfl⟩
inductive Spl :List V→Nat→List V→List V→Prop
 |w {l r:List V}:r.length=l.length→Spl l 0 r r
 |d {l:List V}:Spl l 0 [] l
 |p {A B:List V→List V} {n:Nat} {l r l':List V}:IsA A n→IsA B n→Spl l 0 r l'→Spl (A l) 0 (B r) (B l')
 |s {A:List V→List V} {n:Nat} {l r l':List V} {o o':Nat}:IsA A n→o'=o+n→Spl l o r l'→Spl (A l) o' r (A l')
theorem Spl.eq {l r l':List V}{o:Nat}(h:Spl l o r l'):splice l o r=l':=by
 induction h with
 |w h=>simp[splice,h]
 |d=>simp[splice]
 |p hA hB _ ih=>
  obtain⟨p,hp,e⟩:=hA.eq
  obtain⟨q,hq,e'⟩:=hB.eq
  simp only[splice,List.take_zero,aQP,Nat.zero_add]at ih⊢
  rw[e,e',e',←ih,aQM,hq,←hp,aQX,aQB (by omega),aQP,Nat.add_sub_cancel_left,aQH]
 | @s A n l r l' o o' hA he _ ih=>
  subst he
  obtain⟨p,hp,e⟩:=hA.eq
  simp only[splice]at ih⊢
  have h1:(p++l).take (o+n)=p++l.take o:=by rw[aRa,aQY (by omega),show o+n-p.length=o by omega]
  have h2:(p++l).drop (o+n+r.length)=l.drop (o+r.length):=by rw[aQX,aQB (by omega),aQP,show o+n+r.length-p.length=o+r.length by omega]
  rw[e,e,h1,h2,←ih,aQH,aQH,aQH]
inductive Tak :List V→Nat→Nat→List V→Prop
 |w {l:List V} {k:Nat}:l.length=k→Tak l 0 k l
 |d {l:List V}:Tak l 0 0 []
 |t {A:List V→List V} {n:Nat} {l r:List V} {k k':Nat}:IsA A n→k'=k+n→Tak l 0 k r→Tak (A l) 0 k' (A r)
 |s {A:List V→List V} {n:Nat} {l r:List V} {o o' k:Nat}:IsA A n→o'=o+n→Tak l o k r→Tak (A l) o' k r
theorem Tak.eq {l r:List V}{o k:Nat}(h:Tak l o k r):(l.drop o).take k=r∧k≤(l.drop o).length:=by
 induction h with
 |w h=>subst h;exact⟨by simp,by simp⟩
 |d=>exact⟨rfl,aQQ _⟩
 |t hA he _ ih=>
  subst he
  obtain⟨p,hp,e⟩:=hA.eq
  simp only[List.drop_zero]at ih⊢
  rw[e,e,aRa,aQY (by omega),hp,Nat.add_sub_cancel,ih.1,aQM,hp]
  exact⟨rfl,by omega⟩
 | @s A n l r o o' k hA he _ ih=>
  subst he
  obtain⟨p,hp,e⟩:=hA.eq
  have h1:(p++l).drop (o+n)=l.drop o:=by rw[aQX,aQB (by omega),aQP,show o+n-p.length=o by omega]
  rw[e,h1]
  exact ih
inductive OfC :Value→V→Prop
 |i {k:IntKind} {x:Int}:OfC (.int k x) (eI k x)
 |b {x:Bool}:OfC (.bool x) (eB x)
 |s {x:ByteArray}:OfC (.string x) (eS x)
 |l:OfC (.slice none 0 0) (.row (some true) 1 [])
 |p:OfC (.pointer none) (.sc (.pointer none))
theorem OfC.eq {v:Value}{a:V}(h:OfC v a):dU v=a:=by cases h<;>rfl
theorem OfC.eq' {v:Value}{a:V}(h:OfC v a):ofValue v=a:=by cases h<;>rfl
theorem OfC.one {v:Value}{a:V}(h:OfC v a):a.one=true∧v.cells= #[v]:=by cases h<;>exact⟨rfl,rfl⟩
inductive OfCs :List Value→List V→Prop
 |n:OfCs [] []
 |c {v:Value} {a:V} {vs:List Value} {as_:List V}:OfC v a→OfCs vs as_→OfCs (v::vs) (a::as_)
theorem OfCs.eq {vs:List Value}{as_:List V}(h:OfCs vs as_):vs.map dU=as_:=by
 induction h with
 |n=>rfl
 |c h _ ih=>rw[aQN,h.eq,ih]
theorem OfCs.one {vs:List Value}{as_:List V}(h:OfCs vs as_):as_.all V.one=true:=by
 induction h with
 |n=>rfl
 |c h _ ih=>rw[List.all_cons,h.one.1,ih];rfl
inductive Zro :Value→List V→Prop
 |a {vs:List Value} {cs:List V}:OfCs vs cs→Zro (.agg vs.toArray) cs
 |o {v:Value} {a:V}:OfC v a→Zro v [a]
theorem Zro.eq {v:Value}{cs:List V}(h:Zro v cs):v.cells.toList.map dU=cs∧cs.all V.one=true:=by
 cases h with
 |a h=>exact⟨h.eq,h.one⟩
 |o h=>rw[h.one.2];exact⟨by simp[h.eq],by simp[h.one.1]⟩
inductive Cel :V→List V→Prop
 |a {cs:List V}:cs.all V.one=true→Cel (.agg cs) cs
 |o {x:V}:x.one=true→x.cells=[x]→Cel x [x]
 |m {α:Type} {E:α→V} {q:List α}:(∀x,(E x).one=true)→Cel (.agg (q.map E)) (q.map E)
theorem Cel.eq {x:V}{cs:List V}(h:Cel x cs):x.cells=cs∧x.flatOk=true:=by
 cases h with
 |a h=>exact⟨rfl,h⟩
 |o h1 h2=>exact⟨h2,by simp[V.flatOk,h2,h1]⟩
 |m h=>exact⟨rfl,aOK h⟩
inductive Fil (pl:Array (Nat×Nat)):List V→List (Nat×V)→List V→Prop
 |n {cs:List V}:Fil pl cs [] cs
 |c {cs ds es fs:List V} {i o k:Nat} {x:V} {ps:List (Nat×V)}:pl[i]? =some (o,k)→Cel x ds→ds.length=k→aQC (o+k) cs.length=true→Spl cs o ds es→Fil pl es ps fs→Fil pl cs ((i,x)::ps) fs
theorem Fil.eq {pl:Array (Nat×Nat)}{cs fs:List V}{ps:List (Nat×V)}(h:Fil pl cs ps fs):nE (fun i=>pl[i]?) cs ps=some fs:=by
 induction h with
 |n=>rfl
 |c h1 h2 h3 h4 h5 _ ih=>
  simp only[nE,h1]
  rw[if_pos ⟨h2.eq.2,by rw[h2.eq.1,h3],aQx h4⟩,h2.eq.1,h5.eq,ih]
class TiC (P:Program) (t:TypeId) (d:outParam TI):Prop where
 h:aN P t=some d
class FaC (P:Program) (t:TypeId) (f:Nat) (k:outParam Nat):Prop where
 p: ∀b off,aU P t (.ptr b off) f=some (.ptr b (off+k))
 e: ∀es i off,aU P t (.eptr es i off) f=some (.eptr es i (off+k))
class NoA (P:Program) (t:TypeId):Prop where
 h:True
class PlC (P:Program) (t:TypeId) (pl:outParam (Array (Nat×Nat))):Prop where
 h:oW P t=some pl
def aKT (op:BinOp)(k:IntKind)(a b:Int):Option V:=match op with
 | .add=>some (eI k (k.wrap (a+b)))
 | .sub=>some (eI k (k.wrap (a-b)))
 | .mul=>some (eI k (k.wrap (a*b)))
 | .and=>some (eI k (bits .and k a b))
 | .or=>some (eI k (bits .or k a b))
 | .xor=>some (eI k (bits .xor k a b))
 | .eql=>some (eB (a == b))
 | .neq=>some (eB (a != b))
 | .lss=>some (eB (decide (a<b)))
 | .leq=>some (eB (decide (a≤b)))
 | .gtr=>some (eB (decide (b<a)))
 | .geq=>some (eB (decide (b≤a)))
 |_=>none
theorem aMo {P:Program}{op:BinOp}{t:TypeId}{x y:Operand}{k:IntKind}{a b:Int}{v:V}(h:aKT op k a b=some v):dW P op t x y (eI k a) (eI k b)=some v:=by
 cases op<;>simp only[aKT,aQE,reduceCtorEq]at h<;>subst h
 ·exact aNd ..
 ·exact aMv ..
 ·exact aMA ..
 ·exact aMU ..
 ·exact aNX ..
 ·exact aNt ..
 ·exact aMq ..
 ·exact aIL ..
 ·exact aNi ..
 ·exact aNm ..
 ·exact aM0 ..
 exact aM4 ..
section
variable {P:Program}{N n t:Nat}{m:Option (List Nat×List Nat)}{ops:Array Oper}{l:List Oper}{fr:List (Nat×V)}{h h':Hp}{K:List V→Hp→Prop}{op:Op}{ty:TypeId}{pos:String}{aft:Array Edge}{gd:Option (Nat×Bool)}{v a b:V}{x y z:Operand}{Q:Ex→List V→Hp→Prop}{s:List V}{k:IntKind}{i j:Int}{o e:Nat}{cs ds:List V}{ti di:TI}{u w:TypeId}{bo:BinOp}{p q:Nat}{c:Bool}
theorem xm (hx:bG n fr x=some a)(hg:Gd ops n fr gd)(q:OpsX P N m ops l (aE n ((t,a)::fr)) h K):OpsX P N m ops (⟨some t,.move x,ty,pos,aft,gd⟩::l) (aE n fr) h K:=xS (kK hx) q hg
theorem xa (hx:bG n fr x=some a)(hg:Gd ops n fr gd)(q:OpsX P N m ops l (aE n ((t,a)::fr)) h K):OpsX P N m ops (⟨some t,.assign x,ty,pos,aft,gd⟩::l) (aE n fr) h K:=xS (qG hx) q hg
theorem xmc {v:Value}(hv:OfC v a)(hg:Gd ops n fr gd)(q:OpsX P N m ops l (aE n ((t,a)::fr)) h K):OpsX P N m ops (⟨some t,.move (.const v),ty,pos,aft,gd⟩::l) (aE n fr) h K:=xm (by rw[←hv.eq'];rfl) hg q
theorem xac {v:Value}(hv:OfC v a)(hg:Gd ops n fr gd)(q:OpsX P N m ops l (aE n ((t,a)::fr)) h K):OpsX P N m ops (⟨some t,.assign (.const v),ty,pos,aft,gd⟩::l) (aE n fr) h K:=xa (by rw[←hv.eq'];rfl) hg q
theorem xb (hx:bG n fr x=some (eI k i))(hy:bG n fr y=some (eI k j))(hv:aKT bo k i j=some v)(hg:Gd ops n fr gd)(q:OpsX P N m ops l (aE n ((t,v)::fr)) h K):OpsX P N m ops (⟨some t,.binOp bo u x y w,ty,pos,aft,gd⟩::l) (aE n fr) h K:=xS (xT hx hy (aMo hv)) q hg
theorem xno (hx:bG n fr x=some (eB c))(hg:Gd ops n fr gd)(q:OpsX P N m ops l (aE n ((t,eB (!c))::fr)) h K):OpsX P N m ops (⟨some t,.unOp .not u x,ty,pos,aft,gd⟩::l) (aE n fr) h K:=xS (aHB hx (aNO _ _)) q hg
theorem xci {sz by_:Nat}{zz:Value}{k':IntKind} [D:TiC P u di] [T:TiC P w ⟨.int k',sz,by_,zz⟩] (hx:bG n fr x=some (eI k i)) (hg:Gd ops n fr gd) (q:OpsX P N m ops l (aE n ((t,eI k' (k'.wrap i))::fr)) h K):OpsX P N m ops (⟨some t,.convert u w x,ty,pos,aft,gd⟩::l) (aE n fr) h K:=xS (f9 hx (eZ _ ⟨_,D.h⟩ T.h rfl)) q hg
theorem xlR {α:Type}{E:α→V}{nl:Option Bool}{ml:List α}{sz by_:Nat}{zz:Value} [T:TiC P u ⟨.slice e,sz,by_,zz⟩] (hx:bG n fr x=some (.row nl o (ml.map E))) (hg:Gd ops n fr gd) (q:OpsX P N m ops l (aE n ((t,eI .i64 (ml.length:Int))::fr)) h K):OpsX P N m ops (⟨some t,.call ⟨.builtin .len,#[x],#[u]⟩,ty,pos,aft,gd⟩::l) (aE n fr) h K:=xS (aIU hx (aPt T.h)) q hg
theorem xlS {sz by_:Nat}{zz:Value}{ag:Bool} [T:TiC P u ⟨.slice e,sz,by_,zz⟩] (hx:bG n fr x=some (.sl o p q w ag)) (hg:Gd ops n fr gd) (kk:OpsX P N m ops l (aE n ((t,eI .i64 (q:Int))::fr)) h K):OpsX P N m ops (⟨some t,.call ⟨.builtin .len,#[x],#[u]⟩,ty,pos,aft,gd⟩::l) (aE n fr) h K:=xS (aIU hx (aQi T.h)) kk hg
theorem xlT {sz by_:Nat}{zz:Value}{st:ByteArray} [T:TiC P u ⟨.string,sz,by_,zz⟩] (hx:bG n fr x=some (eS st)) (hg:Gd ops n fr gd) (q:OpsX P N m ops l (aE n ((t,eI .i64 (st.size:Int))::fr)) h K):OpsX P N m ops (⟨some t,.call ⟨.builtin .len,#[x],#[u]⟩,ty,pos,aft,gd⟩::l) (aE n fr) h K:=xS (aIU hx (aQk T.h)) q hg
theorem xe {vs:List V}(hx:bG n fr x=some (.tup vs))(hv:vs[o]? =some v)(hg:Gd ops n fr gd)(q:OpsX P N m ops l (aE n ((t,v)::fr)) h K):OpsX P N m ops (⟨some t,.extract x o,ty,pos,aft,gd⟩::l) (aE n fr) h K:=xS (aC5 hx hv) q hg
theorem xfp {f kk r:Nat} [F:FaC P u f kk] (hx:bG n fr x=some (.ptr o p)) (hr:p+kk=r) (hg:Gd ops n fr gd) (q:OpsX P N m ops l (aE n ((t,.ptr o r)::fr)) h K):OpsX P N m ops (⟨some t,.fieldAddr u x f,ty,pos,aft,gd⟩::l) (aE n fr) h K:=xS (lV hx (hr▸F.p _ _)) q hg
theorem xfe {f kk r ix:Nat} [F:FaC P u f kk] (hx:bG n fr x=some (.eptr cs ix p)) (hr:p+kk=r) (hg:Gd ops n fr gd) (q:OpsX P N m ops l (aE n ((t,.eptr cs ix r)::fr)) h K):OpsX P N m ops (⟨some t,.fieldAddr u x f,ty,pos,aft,gd⟩::l) (aE n fr) h K:=xS (lV hx (hr▸F.e _ _ _)) q hg
theorem xnp (hx:bG n fr x=some (.ptr o p))(hg:Gd ops n fr gd)(q:OpsX P N m ops l (aE n ((t,.ptr o p)::fr)) h K):OpsX P N m ops (⟨some t,.nilCheck x,ty,pos,aft,gd⟩::l) (aE n fr) h K:=xS (aOv hx) q hg
theorem xne {ix:Nat}(hx:bG n fr x=some (.eptr cs ix p))(hg:Gd ops n fr gd)(q:OpsX P N m ops l (aE n ((t,.eptr cs ix p)::fr)) h K):OpsX P N m ops (⟨some t,.nilCheck x,ty,pos,aft,gd⟩::l) (aE n fr) h K:=xS (aOu hx) q hg
theorem xl1 [T:TiC P u ti] (hx:bG n fr x=some (.ptr o p)) (hb:h[o]? =some (some ⟨e,cs⟩)) (hc:(cs.drop p).head? =some v) (hd:b8 ti.desc=false) (hg:Gd ops n fr gd) (q:OpsX P N m ops l (aE n ((t,v)::fr)) h K):OpsX P N m ops (⟨some t,.load u x,ty,pos,aft,gd⟩::l) (aE n fr) h K:=xS (bO hx (ldP hb (l5 T.h hd hc))) q hg
theorem xlN {fs:Array Field}{sz by_:Nat}{zz:Value} [T:TiC P u ⟨.struct fs,sz,by_,zz⟩] (hx:bG n fr x=some (.ptr o p)) (hb:h[o]? =some (some ⟨e,cs⟩)) (hc:Tak cs p sz ds) (hg:Gd ops n fr gd) (q:OpsX P N m ops l (aE n ((t,.agg ds)::fr)) h K):OpsX P N m ops (⟨some t,.load u x,ty,pos,aft,gd⟩::l) (aE n fr) h K:=xS (bO hx (ldP hb (zN T.h rfl hc.eq.2 hc.eq.1))) q hg
theorem xlX {α:Type}{E:α→V}{ml:List α}{r:α} [T:TiC P u ti] (hx:bG n fr x=some (.ptr o j.toNat)) (hb:h[o]? =some (some ⟨e,ml.map E⟩)) (hd:b8 ti.desc=false) (hi:bS ml j=some r) (hg:Gd ops n fr gd) (q:OpsX P N m ops l (aE n ((t,E r)::fr)) h K):OpsX P N m ops (⟨some t,.load u x,ty,pos,aft,gd⟩::l) (aE n fr) h K:=xS (bO hx (ldX T.h hd hb hi)) q hg
theorem aQp {α:Type}{E:α→V}{ml:List α}{r:α} [T:TiC P u ti] (hx:bG n fr x=some (.eptr (ml.map E) j.toNat p)) (hd:b8 ti.desc=false) (hi:bS ml j=some r) (hc:((E r).cells.drop p).head? =some v) (hg:Gd ops n fr gd) (q:OpsX P N m ops l (aE n ((t,v)::fr)) h K):OpsX P N m ops (⟨some t,.load u x,ty,pos,aft,gd⟩::l) (aE n fr) h K:=xS (bO hx (ldR hi (l5 T.h hd hc))) q hg
theorem aPm {α:Type}{E:α→V}{ml:List α}{r:α}{fs:Array Field}{sz by_:Nat}{zz:Value} [T:TiC P u ⟨.struct fs,sz,by_,zz⟩] (hx:bG n fr x=some (.eptr (ml.map E) j.toNat p)) (hi:bS ml j=some r) (hE:E r= .agg cs) (hc:Tak cs p sz ds) (hg:Gd ops n fr gd) (q:OpsX P N m ops l (aE n ((t,.agg ds)::fr)) h K):OpsX P N m ops (⟨some t,.load u x,ty,pos,aft,gd⟩::l) (aE n fr) h K:=xS (bO hx (ldR hi (by rw[hE];exact zN T.h rfl hc.eq.2 hc.eq.1))) q hg
inductive ArM :List V→List V→Prop
 |a4 {k:IntKind} {q:List Int}:q.length=4→ArM (cA (eI k) q []) (q.map (eI k))
 |a8 {k:IntKind} {q:List Int}:q.length=8→ArM (ar8 (eI k) q []) (q.map (eI k))
 |a20 {k:IntKind} {q:List Int}:q.length=20→ArM (y9 (eI k) q []) (q.map (eI k))
 |a32 {k:IntKind} {q:List Int}:q.length=32→ArM (bJ (eI k) q []) (q.map (eI k))
 |a64 {k:IntKind} {q:List Int}:q.length=64→ArM (zF (eI k) q []) (q.map (eI k))
theorem ArM.eq {a b:List V}(h:ArM a b):a=b:=by
 cases h with
 |a4 h=>exact aBg h
 |a8 h=>exact aNe h
 |a20 h=>exact aK5 h
 |a32 h=>exact uY h
 |a64 h=>exact aLs h
theorem xlA {es:List V}{N' sz by_:Nat}{zz:Value} [T:TiC P u ⟨.array N' w,sz,by_,zz⟩] (hx:bG n fr x=some (.ptr o p)) (hb:h[o]? =some (some ⟨e,cs⟩)) (hc:Tak cs p sz ds) (ha:ArM ds es) (hg:Gd ops n fr gd) (q:OpsX P N m ops l (aE n ((t,.agg es)::fr)) h K):OpsX P N m ops (⟨some t,.load u x,ty,pos,aft,gd⟩::l) (aE n fr) h K:=xS (bO hx (ldP hb (by rw[←ha.eq];exact zN T.h rfl hc.eq.2 hc.eq.1))) q hg
theorem aPU {α:Type}{E:α→V}{ml:List α}{r:α}{es:List V}{N' sz by_:Nat}{zz:Value} [T:TiC P u ⟨.array N' w,sz,by_,zz⟩] (hx:bG n fr x=some (.eptr (ml.map E) j.toNat p)) (hi:bS ml j=some r) (hE:E r= .agg cs) (hc:Tak cs p sz ds) (ha:ArM ds es) (hg:Gd ops n fr gd) (q:OpsX P N m ops l (aE n ((t,.agg es)::fr)) h K):OpsX P N m ops (⟨some t,.load u x,ty,pos,aft,gd⟩::l) (aE n fr) h K:=xS (bO hx (ldR hi (by rw[hE,←ha.eq];exact zN T.h rfl hc.eq.2 hc.eq.1))) q hg
theorem xlB {α:Type}{E:α→V}{ml:List α}{N' sz by_:Nat}{zz:Value} [T:TiC P u ⟨.array N' w,sz,by_,zz⟩] (hx:bG n fr x=some (.ptr o 0)) (hb:h[o]? =some (some ⟨e,ml.map E⟩)) (hz:sz=N') (hl:ml.length=N') (hg:Gd ops n fr gd) (q:OpsX P N m ops l (aE n ((t,.agg (ml.map E))::fr)) h K):OpsX P N m ops (⟨some t,.load u x,ty,pos,aft,gd⟩::l) (aE n fr) h K:=xS (bO hx (vS T.h hz hb hl)) q hg
theorem xiR {α:Type}{E:α→V}{nl:Option Bool}{ml:List α}{r:α}{sz by_:Nat}{zz:Value} [T:TiC P u ⟨.slice e,sz,by_,zz⟩] [D:TiC P e di] (hx:bG n fr x=some (.row nl o (ml.map E))) (hy:bG n fr y=some (eI k j)) (hs:di.size=o) (hi:bS ml j=some r) (hg:Gd ops n fr gd) (q:OpsX P N m ops l (aE n ((t,.eptr (ml.map E) j.toNat 0)::fr)) h K):OpsX P N m ops (⟨some t,.indexAddr u x y,ty,pos,aft,gd⟩::l) (aE n fr) h K:=xS (yZ hx hy (by subst hs;exact iaR T.h D.h hi)) q hg
theorem xiS {α:Type}{E:α→V}{ml:List α}{r:α}{q0 sz by_:Nat}{zz:Value}{ag:Bool} [T:TiC P u ⟨.slice e,sz,by_,zz⟩] [D:TiC P e di] (hx:bG n fr x=some (.sl o 0 q0 1 ag)) (hy:bG n fr y=some (eI k j)) {e':Nat} (hb:h[o]? =some (some ⟨e',ml.map E⟩)) (hi:bS ml j=some r) (hn:ml.length=q0) (hs:di.size=1) (hg:Gd ops n fr gd) (q:OpsX P N m ops l (aE n ((t,.ptr o j.toNat)::fr)) h K):OpsX P N m ops (⟨some t,.indexAddr u x y,ty,pos,aft,gd⟩::l) (aE n fr) h K:=xS (yZ hx hy (iaS hn T.h D.h hs hi)) q hg
theorem xiB {α:Type}{E:α→V}{ml:List α}{r:α}{N' sz by_:Nat}{zz:Value} [T:TiC P u ⟨.array N' e,sz,by_,zz⟩] [D:TiC P e di] (hx:bG n fr x=some (.ptr o 0)) (hy:bG n fr y=some (eI k j)) {e':Nat} (hb:h[o]? =some (some ⟨e',ml.map E⟩)) (hi:bB N' ml j=some r) (hs:di.size=1) (hg:Gd ops n fr gd) (q:OpsX P N m ops l (aE n ((t,.ptr o j.toNat)::fr)) h K):OpsX P N m ops (⟨some t,.indexAddr u x y,ty,pos,aft,gd⟩::l) (aE n fr) h K:=xS (yZ hx hy (iaB T.h D.h hs hi)) q hg
theorem xVv {jj ww:Nat}{want:Bool}(hj:(ops[jj]?).bind (·.dst)=some ww)(hl:bG n fr (.tmp ww)=some (.sc undef))(q:OpsX P N m ops l (aE n ((t,.sc undef)::fr)) h K):OpsX P N m ops (⟨some t,op,ty,pos,aft,some (jj,want)⟩::l) (aE n fr) h K:=xS0 (svU hj hl) q
theorem xXx {jj ww:Nat}{want:Bool}(hj:(ops[jj]?).bind (·.dst)=some ww)(hl:bG n fr (.tmp ww)=some (.sc (.bool c)))(hc:c= !want)(q:OpsX P N m ops l (aE n ((t,.sc undef)::fr)) h K):OpsX P N m ops (⟨some t,op,ty,pos,aft,some (jj,want)⟩::l) (aE n fr) h K:=xS0 (svX hj hl hc) q
def aKQ :List Oper→Bool
 | []=>true
 |o::l=>(match o.guard,o.op with
  |none,.pick _ _ _=>false
  |none,_=>true
  |some _,_=>false)&&aKQ l
theorem xqn {cc:Code}{id:Nat}(hn:aKQ l=true)(hr:OpsX P N none l.toArray l s h (Ex.then (AB P N cc Q) Q .normal)):AB P N (.seq (.region id l.toArray false) cc) Q s h:=xq hr
theorem xrn {id:Nat}(hn:aKQ l=true)(hr:OpsX P N none l.toArray l s h (Q .normal)):AB P N (.region id l.toArray false) Q s h:=xr hr
theorem xsA {α:Type}{E:α→V}{ml mm:List α}{N' sz by_ i':Nat}{zz:Value} [T:TiC P u ⟨.array N' e,sz,by_,zz⟩] (hx:bG n fr x=some (.ptr o 0)) (hb:h[o]? =some (some ⟨i',ml.map E⟩)) (hy:bG n fr y=some (.agg (mm.map E))) (hz:sz=N') (hE: ∀x,(E x).one=true) (h1:ml.length=N') (h2:mm.length=N') (hh:LSet h o (some ⟨i',mm.map E⟩) h') (hg:Gd ops n fr gd) (q:OpsX P N m ops l (aE n fr) h' K):OpsX P N m ops (⟨none,.store u x y,ty,pos,aft,gd⟩::l) (aE n fr) h K:=xN (v:= .sc undef) (h':=h') (aY hx hy (t8 T.h hz hb hE h1 h2 hh.eq)) q hg
theorem xs [T:TiC P u ti] (hx:bG n fr x=some (.ptr o p)) (hy:bG n fr y=some v) (hb:h[o]? =some (some ⟨e,cs⟩)) {es fs:List V} (hv:Cel v es) (h1:es.length=ti.size) (h2:aQC (p+ti.size) cs.length=true) (hs:Spl cs p es fs) (hh:LSet h o (some ⟨e,fs⟩) h') (hg:Gd ops n fr gd) (q:OpsX P N m ops l (aE n fr) h' K):OpsX P N m ops (⟨none,.store u x y,ty,pos,aft,gd⟩::l) (aE n fr) h K:=by
 obtain⟨hv1,hv2⟩:=hv.eq
 refine xN (v:= .sc undef) (h':=h') (aY hx hy (fV T.h hb hv2 (by rw[hv1,h1]) (aQx h2) ?_)) q hg
 rw[hv1,hs.eq,hh.eq]
theorem xsX {α:Type}{E:α→V}{ml:List α}{r r':α} [T:TiC P u ti] (hx:bG n fr x=some (.ptr o j.toNat)) (hb:h[o]? =some (some ⟨e,ml.map E⟩)) (hy:bG n fr y=some (E r')) (hz:ti.size=1) (hi:bS ml j=some r) (ho:(E r').one=true) (hc:(E r').cells=[E r']) (hh:LSet h o (some ⟨e,(ml.set j.toNat r').map E⟩) h') (hg:Gd ops n fr gd) (q:OpsX P N m ops l (aE n fr) h' K):OpsX P N m ops (⟨none,.store u x y,ty,pos,aft,gd⟩::l) (aE n fr) h K:=xN (v:= .sc undef) (h':=h') (aY hx hy (aPN T.h hz hb hi ho hc hh.eq)) q hg
theorem xal {r:Nat} [A:NoA P e] [T:TiC P e ti] (hz:Zro ti.zero cs) (hh:Snoc h (some ⟨e,cs⟩) h') (hl:h.length=r) (hg:Gd ops n fr gd) (q:OpsX P N m ops l (aE n ((t,.ptr r 0)::fr)) h' K):OpsX P N m ops (⟨some t,.alloc e,ty,pos,aft,gd⟩::l) (aE n fr) h K:=
 xS (iL T.h (by rw[hz.eq.1];exact hz.eq.2) hl (by rw[hz.eq.1];exact hh.eq)) q hg
theorem aPX {r N' sz by_ sz' by':Nat}{k':IntKind}{e':TypeId}{vs:List Value}{z':Value} [T:TiC P e ⟨.array N' e',sz,by_,.agg vs.toArray⟩] [D:TiC P e' ⟨.int k',sz',by',z'⟩] (hz:vs.map dU=(aQs N' 0).map (eI k')) (hh:Snoc h (some ⟨e,(aQs N' 0).map (eI k')⟩) h') (hl:h.length=r) (hg:Gd ops n fr gd) (q:OpsX P N m ops l (aE n ((t,.ptr r 0)::fr)) h' K):OpsX P N m ops (⟨some t,.alloc e,ty,pos,aft,gd⟩::l) (aE n fr) h K:=
 xS (iL T.h (by
  have e1:(TI.zero ⟨.array N' e',sz,by_,.agg vs.toArray⟩).cells.toList.map dU=(aQs N' 0).map (eI k'):=hz
  rw[e1];exact all_map (fun _=>rfl) _) hl (by
  have e1:(TI.zero ⟨.array N' e',sz,by_,.agg vs.toArray⟩).cells.toList.map dU=(aQs N' 0).map (eI k'):=hz
  rw[e1];exact hh.eq)) q hg
theorem xbx {r:Nat}(hx:bG n fr x=some a)(hv:Cel a cs)(hh:Snoc h (some ⟨e,cs⟩) h')(hl:h.length=r)(hg:Gd ops n fr gd)(q:OpsX P N m ops l (aE n ((t,.ptr r 0)::fr)) h' K):OpsX P N m ops (⟨some t,.box e x,ty,pos,aft,gd⟩::l) (aE n fr) h K:=
 xS (aON hx hv.eq.2 hl (by rw[hv.eq.1];exact hh.eq)) q hg
theorem xbd {fs:Array Field}{sz by_:Nat}{zz:Value}{pl:Array (Nat×Nat)}{ps:List (Nat×Operand)}{xs:List (Nat×V)} [T:TiC P u ⟨.struct fs,sz,by_,zz⟩] [L:PlC P u pl] [A:NoA P u] (hp:aBd n fr ps=some xs) (hz:Zro zz cs) (hf:Fil pl cs xs ds) (hg:Gd ops n fr gd) (q:OpsX P N m ops l (aE n ((t,.agg ds)::fr)) h K):OpsX P N m ops (⟨some t,.build u ps.toArray,ty,pos,aft,gd⟩::l) (aE n fr) h K:=
 xS (cH hp (aA6 T.h L.h (by rw[hz.eq.1];exact hf.eq))) q hg
theorem xfd {fs:Array Field}{sz by_ f:Nat}{zz:Value}{fl:Field} [T:TiC P u ⟨.struct fs,sz,by_,zz⟩] [D:TiC P fl.type di] (hx:bG n fr x=some (.agg cs)) (hf:fs[f]? =some fl) (hd:b8 di.desc=false) (hc:(cs.drop fl.offset).head? =some v) (hg:Gd ops n fr gd) (q:OpsX P N m ops l (aE n ((t,v)::fr)) h K):OpsX P N m ops (⟨some t,.field u x f,ty,pos,aft,gd⟩::l) (aE n fr) h K:=xS (aOB hx (aPH T.h hf (l5 D.h hd hc))) q hg
theorem xpT (hz:bG n fr z=some (eB c))(hc:c=true)(hx:bG n fr x=some a)(hg:Gd ops n fr gd)(q:OpsX P N m ops l (aE n ((t,a)::fr)) h K):OpsX P N m ops (⟨some t,.pick z x y,ty,pos,aft,gd⟩::l) (aE n fr) h K:=xS (aNg hz hc hx) q hg
theorem xpF (hz:bG n fr z=some (eB c))(hc:c=false)(hy:bG n fr y=some a)(hg:Gd ops n fr gd)(q:OpsX P N m ops l (aE n ((t,a)::fr)) h K):OpsX P N m ops (⟨some t,.pick z x y,ty,pos,aft,gd⟩::l) (aE n fr) h K:=xS (aMF hz hc hy) q hg
inductive NumK (k:IntKind):Nat→List (Nat×V)→List Int→Prop
 |n {i:Nat}:NumK k i [] []
 |c {i:Nat} {x:Int} {ps:List (Nat×V)} {xs:List Int}:NumK k (i+1) ps xs→NumK k i ((i,eI k x)::ps) (x::xs)
theorem NumK.eq {k:IntKind}{i:Nat}{ps:List (Nat×V)}{xs:List Int}(h:NumK k i ps xs):q9 i (xs.map (eI k))=ps:=by
 induction h with
 |n=>rfl
 |c _ ih=>simp only[aQN,q9];rw[ih]
inductive NumB :Nat→List (Nat×V)→List Bool→Prop
 |n {i:Nat}:NumB i [] []
 |c {i:Nat} {x:Bool} {ps:List (Nat×V)} {xs:List Bool}:NumB (i+1) ps xs→NumB i ((i,eB x)::ps) (x::xs)
theorem NumB.eq {i:Nat}{ps:List (Nat×V)}{xs:List Bool}(h:NumB i ps xs):q9 i (xs.map eB)=ps:=by
 induction h with
 |n=>rfl
 |c _ ih=>simp only[aQN,q9];rw[ih]
inductive NumR {α:Type}(kk:Nat)(E:α→V):Nat→List (Nat×V)→List (List α)→Prop
 |n {i:Nat}:NumR kk E i [] []
 |c {i:Nat} {x:List α} {ps:List (Nat×V)} {xs:List (List α)}:NumR kk E (i+1) ps xs→NumR kk E i ((i,.row none kk (x.map E))::ps) (x::xs)
 |z {i:Nat} {ps:List (Nat×V)} {xs:List (List α)}:NumR kk E (i+1) ps xs→NumR kk E i ((i,.row none kk [])::ps) ([]::xs)
theorem NumR.eq {α:Type}{kk:Nat}{E:α→V}{i:Nat}{ps:List (Nat×V)}{xs:List (List α)}(h:NumR kk E i ps xs):q9 i (xs.map (eL kk E))=ps:=by
 induction h with
 |n=>rfl
 |z _ ih=>simp only[aQN,q9];rw[ih];rfl
 |c _ ih=>simp only[aQN,q9];rw[ih]
theorem aPw {α:Type}{E:α→V}(hE: ∀x,(E x).one=true)(hc: ∀x,(E x).cells=[E x])(xs:List α):(xs.map E).all (fun x=>x.one&&(x.cells.length == 1))=true:=by
 simp[aRb,hE,hc]
theorem aK8 {α:Type}{E:α→V}{js:List α}{len sz by_ r:Nat}{zz:Value}{ps:List (Nat×Operand)}{xs:List (Nat×V)} [T:TiC P u ⟨.slice e,sz,by_,zz⟩] [D:TiC P e di] (hp:tH n fr ps=some xs) (hn:q9 0 (js.map E)=xs) (hE: ∀x,(E x).one=true) (hc: ∀x,(E x).cells=[E x]) (hs:di.size=1) {ag:Bool} (ha:b8 di.desc=ag) (h1:aQC (len*1) (2^24)=true) (h2:aQC 1 len=true) (hlen:js.length=len) (hh:Snoc h (some ⟨e,js.map E⟩) h') (hl:h.length=r) (hg:Gd ops n fr gd) (q:OpsX P N m ops l (aE n ((t,.sl r 0 len 1 ag)::fr)) h' K):OpsX P N m ops (⟨some t,.buildSlice u len ps.toArray,ty,pos,aft,gd⟩::l) (aE n fr) h K:=
 xS (qM hp (aIT T.h D.h (aQx h1) (aQx h2) hs ha hn (aPw hE hc _) (by rw[aQZ];exact hlen) hl hh.eq)) q hg
theorem aPv {js:List Int}{len sz by_ r sz' by':Nat}{zz z':Value}{ps:List (Nat×Operand)}{xs:List (Nat×V)} [T:TiC P u ⟨.slice e,sz,by_,zz⟩] [D:TiC P e ⟨.int k,sz',by',z'⟩] (hp:tH n fr ps=some xs) (hn:NumK k 0 xs js) (hs:sz'=1) (h1:aQC (len*1) (2^24)=true) (h2:aQC 1 len=true) (hlen:js.length=len) (hh:Snoc h (some ⟨e,js.map (eI k)⟩) h') (hl:h.length=r) (hg:Gd ops n fr gd) (q:OpsX P N m ops l (aE n ((t,.sl r 0 len 1 false)::fr)) h' K):OpsX P N m ops (⟨some t,.buildSlice u len ps.toArray,ty,pos,aft,gd⟩::l) (aE n fr) h K:=aK8 (ag:=false) hp hn.eq (fun _=>rfl) (fun _=>rfl) hs rfl h1 h2 hlen hh hl hg q
theorem aP8 {js:List Bool}{len sz by_ r sz' by':Nat}{zz z':Value}{ps:List (Nat×Operand)}{xs:List (Nat×V)} [T:TiC P u ⟨.slice e,sz,by_,zz⟩] [D:TiC P e ⟨.bool,sz',by',z'⟩] (hp:tH n fr ps=some xs) (hn:NumB 0 xs js) (hs:sz'=1) (h1:aQC (len*1) (2^24)=true) (h2:aQC 1 len=true) (hlen:js.length=len) (hh:Snoc h (some ⟨e,js.map eB⟩) h') (hl:h.length=r) (hg:Gd ops n fr gd) (q:OpsX P N m ops l (aE n ((t,.sl r 0 len 1 false)::fr)) h' K):OpsX P N m ops (⟨some t,.buildSlice u len ps.toArray,ty,pos,aft,gd⟩::l) (aE n fr) h K:=aK8 (ag:=false) hp hn.eq (fun _=>rfl) (fun _=>rfl) hs rfl h1 h2 hlen hh hl hg q
theorem aPx {α:Type}{E:α→V}{kk:Nat}{js:List (List α)}{len sz by_ r sz' by':Nat}{zz z':Value}{e':TypeId}{ps:List (Nat×Operand)}{xs:List (Nat×V)} [T:TiC P u ⟨.slice e,sz,by_,zz⟩] [D:TiC P e ⟨.slice e',sz',by',z'⟩] (hp:tH n fr ps=some xs) (hn:NumR kk E 0 xs js) (hs:sz'=1) (h1:aQC (len*1) (2^24)=true) (h2:aQC 1 len=true) (hlen:js.length=len) (hh:Snoc h (some ⟨e,js.map (eL kk E)⟩) h') (hl:h.length=r) (hg:Gd ops n fr gd) (q:OpsX P N m ops l (aE n ((t,.sl r 0 len 1 false)::fr)) h' K):OpsX P N m ops (⟨some t,.buildSlice u len ps.toArray,ty,pos,aft,gd⟩::l) (aE n fr) h K:=aK8 (ag:=false) hp hn.eq (fun _=>rfl) (fun _=>rfl) hs rfl h1 h2 hlen hh hl hg q
theorem aQa {k':IntKind}{r:Int}(hx:bG n fr x=some (eI k i))(hy:bG n fr y=some (eI k' j))(hv:shl k i j=some r)(hg:Gd ops n fr gd)(q:OpsX P N m ops l (aE n ((t,eI k r)::fr)) h K):OpsX P N m ops (⟨some t,.binOp .shl u x y w,ty,pos,aft,gd⟩::l) (aE n fr) h K:=xS (xT hx hy (aLG _ _ _ _ hv)) q hg
theorem aPf {k':IntKind}{r:Int}(hx:bG n fr x=some (eI k i))(hy:bG n fr y=some (eI k' j))(hv:shr k i j=some r)(hg:Gd ops n fr gd)(q:OpsX P N m ops l (aE n ((t,eI k r)::fr)) h K):OpsX P N m ops (⟨some t,.binOp .shr u x y w,ty,pos,aft,gd⟩::l) (aE n fr) h K:=xS (xT hx hy (aLJ _ _ _ _ hv)) q hg
theorem aPd {r:Int}(hx:bG n fr x=some (eI k i))(hy:bG n fr y=some (eI k j))(hv:quo k i j=some r)(hg:Gd ops n fr gd)(q:OpsX P N m ops l (aE n ((t,eI k r)::fr)) h K):OpsX P N m ops (⟨some t,.binOp .quo u x y w,ty,pos,aft,gd⟩::l) (aE n fr) h K:=xS (xT hx hy (aLF _ _ _ _ hv)) q hg
theorem aPE {r:Int}(hx:bG n fr x=some (eI k i))(hy:bG n fr y=some (eI k j))(hv:rem i j=some r)(hg:Gd ops n fr gd)(q:OpsX P N m ops l (aE n ((t,eI k r)::fr)) h K):OpsX P N m ops (⟨some t,.binOp .rem u x y w,ty,pos,aft,gd⟩::l) (aE n fr) h K:=xS (xT hx hy (aKD _ _ _ _ hv)) q hg
class DepC (P:Program):Prop where
 h:2≤P.depth
theorem xeA {k':IntKind}{N' sz by_ sz' by':Nat}{zz z':Value}{ml mm:List Int} [A:DepC P] [T:TiC P u ⟨.array N' e,sz,by_,zz⟩] [D:TiC P e ⟨.int k',sz',by',z'⟩] (hx:bG n fr x=some (.agg (ml.map (eI k)))) (hy:bG n fr y=some (.agg (mm.map (eI k)))) (hz:sz'=1) (h1:ml.length=N') (h2:mm.length=N') (hg:Gd ops n fr gd) (q:OpsX P N m ops l (aE n ((t,eB (ml == mm))::fr)) h K):OpsX P N m ops (⟨some t,.binOp .eql u x y w,ty,pos,aft,gd⟩::l) (aE n fr) h K:=xS (xT hx hy (aLl _ _ T.h D.h hz A.h h1 h2)) q hg
theorem xnA {k':IntKind}{N' sz by_ sz' by':Nat}{zz z':Value}{ml mm:List Int} [A:DepC P] [T:TiC P u ⟨.array N' e,sz,by_,zz⟩] [D:TiC P e ⟨.int k',sz',by',z'⟩] (hx:bG n fr x=some (.agg (ml.map (eI k)))) (hy:bG n fr y=some (.agg (mm.map (eI k)))) (hz:sz'=1) (h1:ml.length=N') (h2:mm.length=N') (hg:Gd ops n fr gd) (q:OpsX P N m ops l (aE n ((t,eB (!(ml == mm)))::fr)) h K):OpsX P N m ops (⟨some t,.binOp .neq u x y w,ty,pos,aft,gd⟩::l) (aE n fr) h K:=xS (xT hx hy (aKA _ _ T.h D.h hz A.h h1 h2)) q hg
theorem xsR {α:Type}{E:α→V}{ml r:List α}{nl:Option Bool}{sz by_:Nat}{zz:Value}{lo hi:Option Operand}{vl vh:Option V}{c1 c2:Int} [T:TiC P u ⟨.slice e,sz,by_,zz⟩] [D:TiC P e di] (hx:bG n fr x=some (.row nl o (ml.map E))) (h1:aCN n fr lo=some vl) (h2:aCN n fr hi=some vh) (ha:lZ vl=some c1) (hb:sZ vh ml.length=some c2) (hs:sub ml c1 c2=some r) (ho:di.size=o) {nl':Option Bool} (hq:nlS nl=nl') (hg:Gd ops n fr gd) (q:OpsX P N m ops l (aE n ((t,.row nl' o (r.map E))::fr)) h K):OpsX P N m ops (⟨some t,.slice u x lo hi none,ty,pos,aft,gd⟩::l) (aE n fr) h K:=by
 subst ho hq;exact xS (b7 hx h1 h2 (qW T.h D.h ha hb hs)) q hg
theorem xsM {α:Type}{E:α→V}{ml r:List α}{nl:Option Bool}{sz by_:Nat}{zz:Value}{lo:Option Operand}{hi mx:Operand}{vl:Option V}{c1 c2:Int}{k1 k2:IntKind} [T:TiC P u ⟨.slice e,sz,by_,zz⟩] [D:TiC P e di] (hx:bG n fr x=some (.row nl o (ml.map E))) (h1:aCN n fr lo=some vl) (ha:lZ vl=some c1) (h2:bG n fr hi=some (eI k1 c2)) (h3:bG n fr mx=some (eI k2 c2)) (hs:sub ml c1 c2=some r) (ho:di.size=o) (hg:Gd ops n fr gd) (q:OpsX P N m ops l (aE n ((t,.row (some false) o (r.map E))::fr)) h K):OpsX P N m ops (⟨some t,.slice u x lo (some hi) (some mx),ty,pos,aft,gd⟩::l) (aE n fr) h K:=by
 subst ho;exact xS (aLK hx h1 h2 h3 (slM T.h D.h ha hs)) q hg
theorem xsE {α:Type}{E:α→V}{ml:List α}{N' sz by_:Nat}{zz:Value} [T:TiC P u ⟨.array N' e,sz,by_,zz⟩] [D:TiC P e di] (hx:bG n fr x=some (.eptr [.agg (ml.map E)] 0 0)) (hs:di.size=1) (ha:b8 di.desc=false) (h1:ml.length=N') (h2:aQC 1 N'=true) (hg:Gd ops n fr gd) (q:OpsX P N m ops l (aE n ((t,.row none 1 (ml.map E))::fr)) h K):OpsX P N m ops (⟨some t,.slice u x none none none,ty,pos,aft,gd⟩::l) (aE n fr) h K:=xS (b7 hx rfl rfl (slE T.h D.h hs ha h1 (aQx h2))) q hg
theorem xsL {α:Type}{E:α→V}{ml:List α}{N' sz by_ i':Nat}{zz:Value}{ag:Bool} [T:TiC P u ⟨.array N' e,sz,by_,zz⟩] [D:TiC P e di] (hx:bG n fr x=some (.ptr o 0)) (hb:h[o]? =some (some ⟨i',ml.map E⟩)) (hs:di.size=1) (ha:b8 di.desc=ag) (h1:ml.length=N') (h2:aQC 1 N'=true) (h3:aQC N' lH=true) (hg:Gd ops n fr gd) (q:OpsX P N m ops l (aE n ((t,.sl o 0 N' 1 ag)::fr)) h K):OpsX P N m ops (⟨some t,.slice u x none none none,ty,pos,aft,gd⟩::l) (aE n fr) h K:=xS (b7 hx rfl rfl (slA T.h D.h hs ha hb h1 ⟨aQx h2,aQx h3⟩)) q hg
theorem xiK {α:Type}{C:α→List V}{ml:List α}{r:α}{q0 sz by_ e':Nat}{zz:Value} [T:TiC P u ⟨.slice e,sz,by_,zz⟩] [D:TiC P e di] (hx:bG n fr x=some (.sl o 0 q0 p true)) (hy:bG n fr y=some (eI k j)) (hb:h[o]? =some (some ⟨e',ml.flatMap C⟩)) (hi:bS ml j=some r) (hn:ml.length=q0) (hs:di.size=p) (hg:Gd ops n fr gd) (q:OpsX P N m ops l (aE n ((t,.ptr o (0+j.toNat*p))::fr)) h K):OpsX P N m ops (⟨some t,.indexAddr u x y,ty,pos,aft,gd⟩::l) (aE n fr) h K:=xS (yZ hx hy (aPA hn T.h D.h hs hi)) q hg
inductive Sr1 {α:Type}(E:α→V)(h:Hp):V→List α→Prop
 |r {nl:Option Bool} {ml:List α}:(∀x,(E x).cells=[E x])→Sr1 E h (.row nl 1 (ml.map E)) ml
 |s {b q e:Nat} {ag:Bool} {ml:List α}:h[b]? =some (some ⟨e,ml.map E⟩)→ml.length=q→Sr1 E h (.sl b 0 q 1 ag) ml
 |n {nl:Option Bool} {k:Nat}:Sr1 E h (.row nl k []) []
theorem Sr1.eq {α:Type}{E:α→V}{h:Hp}{v:V}{ml:List α}(hs:Sr1 E h v ml):e9 h 1 v=some (ml.map E,ml.length):=by
 cases hs with
 |r hE=>exact aA4 hE
 |s hb hq=>exact aPL hq hb
 |n=>exact aPn
inductive SrK {α:Type}(C:α→List V)(K:Nat)(h:Hp):V→List α→Prop
 |r {nl:Option Bool} {ml:List α}:SrK C K h (.row nl K (ml.map fun x=>V.agg (C x))) ml
 |s {b q e:Nat} {ml:List α}:(∀x,(C x).length=K)→h[b]? =some (some ⟨e,ml.flatMap C⟩)→ml.length=q→SrK C K h (.sl b 0 q K true) ml
 |n {nl:Option Bool} {k:Nat}:SrK C K h (.row nl k []) []
theorem SrK.eq {α:Type}{C:α→List V}{K:Nat}{h:Hp}{v:V}{ml:List α}(hs:SrK C K h v ml):e9 h K v=some (ml.flatMap C,ml.length):=by
 cases hs with
 |r=>exact aOU
 |s hC hb hq=>exact aOC hC hq hb
 |n=>exact aOI
theorem xap {α:Type}{E:α→V}{ml mm r:List α}{q0 sz by_ r0:Nat}{zz:Value}{ag:Bool}{h2:Hp} [T:TiC P u ⟨.slice e,sz,by_,zz⟩] [D:TiC P e di] (hx:bG n fr x=some (.sl o 0 q0 1 ag)) (hy:bG n fr y=some v) (hb:h[o]? =some (some ⟨e,ml.map E⟩)) (hs:Sr1 E h v mm) (hn:ml.length=q0) (h1:di.zero.cells.size=1) (h3:di.size=1) (h4:aQC 1 di.bytes=true) {bb:Nat} (hbb:di.bytes=bb) (ha:eM bb ml mm=some r) (hh:LSet h o none h2) (hh':Snoc h2 (some ⟨e,r.map E⟩) h') (hl:h.length=r0) (hg:Gd ops n fr gd) (q:OpsX P N m ops l (aE n ((t,.sl r0 0 r.length 1 ag)::fr)) h' K):OpsX P N m ops (⟨some t,.call ⟨.builtin .append,#[x,y],#[u,u]⟩,ty,pos,aft,gd⟩::l) (aE n fr) h K:=by
 subst hbb;exact xS (wR hx hy (aPc hn T.h D.h ⟨h1,h3,aQx h4⟩ hb hs.eq ha hl (by rw[hh.eq,hh'.eq]))) q hg
theorem xan {α:Type}{E:α→V}{mm r:List α}{sz by_ r0 kk:Nat}{zz:Value}{ag:Bool}{h2:Hp} [T:TiC P u ⟨.slice e,sz,by_,zz⟩] [D:TiC P e di] (hx:bG n fr x=some (.row (some true) kk [])) (hy:bG n fr y=some v) (hs:Sr1 E h v mm) (h1:di.zero.cells.size=1) (h3:di.size=1) (h4:aQC 1 di.bytes=true) (hag:b8 di.desc=ag) {bb:Nat} (hbb:di.bytes=bb) (ha:eM bb [] mm=some r) (hh:Snoc h none h2) (hh':Snoc h2 (some ⟨e,r.map E⟩) h') (hl:h2.length=r0) (hg:Gd ops n fr gd) (q:OpsX P N m ops l (aE n ((t,.sl r0 0 r.length 1 ag)::fr)) h' K):OpsX P N m ops (⟨some t,.call ⟨.builtin .append,#[x,y],#[u,u]⟩,ty,pos,aft,gd⟩::l) (aE n fr) h K:=by
 subst hbb;exact xS (wR hx hy (aPy T.h D.h ⟨h1,h3,aQx h4⟩ hs.eq hag ha (by rw[←hl,←hh.eq];simp) (by rw[hh.eq,hh'.eq]))) q hg
theorem xaf {α:Type}{E:α→V}{ml mm r:List α}{sz by_ r0:Nat}{zz:Value}{ag:Bool} [T:TiC P u ⟨.slice e,sz,by_,zz⟩] [D:TiC P e di] (hx:bG n fr x=some (.row (some false) 1 (ml.map E))) (hy:bG n fr y=some v) (hE: ∀x,(E x).cells=[E x]) (hs:Sr1 E h v mm) (hm:aQC 1 mm.length=true) (h1:di.zero.cells.size=1) (h3:di.size=1) (h4:aQC 1 di.bytes=true) (hag:b8 di.desc=ag) {bb:Nat} (hbb:di.bytes=bb) (ha:eM bb ml mm=some r) (hh:Snoc h (some ⟨e,r.map E⟩) h') (hl:h.length=r0) (hg:Gd ops n fr gd) (q:OpsX P N m ops l (aE n ((t,.sl r0 0 r.length 1 ag)::fr)) h' K):OpsX P N m ops (⟨some t,.call ⟨.builtin .append,#[x,y],#[u,u]⟩,ty,pos,aft,gd⟩::l) (aE n fr) h K:=by
 subst hbb;exact xS (wR hx hy (aPV T.h D.h ⟨h1,h3,aQx h4⟩ hE hs.eq (aQx hm) hag ha hl (by rw[hh.eq]))) q hg
theorem aPP {α:Type}{C:α→List V}{ml mm r:List α}{q0 sz by_ r0:Nat}{zz:Value}{h2:Hp} [T:TiC P u ⟨.slice e,sz,by_,zz⟩] [D:TiC P e di] (hx:bG n fr x=some (.sl o 0 q0 p true)) (hy:bG n fr y=some v) (hb:h[o]? =some (some ⟨e,ml.flatMap C⟩)) (hC: ∀x,(C x).length=p) (hs:SrK C p h v mm) (hn:ml.length=q0) (h1:di.zero.cells.size=p) (h3:di.size=p) (h4:aQC 1 di.bytes=true) (h5:aQC 1 p=true) {bb:Nat} (hbb:di.bytes=bb) (ha:eM bb ml mm=some r) (hh:LSet h o none h2) (hh':Snoc h2 (some ⟨e,r.flatMap C⟩) h') (hl:h.length=r0) (hg:Gd ops n fr gd) (q:OpsX P N m ops l (aE n ((t,.sl r0 0 r.length p true)::fr)) h' K):OpsX P N m ops (⟨some t,.call ⟨.builtin .append,#[x,y],#[u,u]⟩,ty,pos,aft,gd⟩::l) (aE n fr) h K:=by
 subst hbb;exact xS (wR hx hy (aOJ hC hn T.h D.h ⟨h1,h3,aQx h4,aQx h5⟩ hb hs.eq ha hl (by rw[hh.eq,hh'.eq]))) q hg
theorem aQl {α:Type}{C:α→List V}{mm r:List α}{sz by_ r0 kk:Nat}{zz:Value}{h2:Hp} [T:TiC P u ⟨.slice e,sz,by_,zz⟩] [D:TiC P e di] (hx:bG n fr x=some (.row (some true) kk [])) (hy:bG n fr y=some v) (hs:SrK C p h v mm) (h1:di.zero.cells.size=p) (h3:di.size=p) (h4:aQC 1 di.bytes=true) (h5:aQC 1 p=true) (hag:b8 di.desc=true) {bb:Nat} (hbb:di.bytes=bb) (ha:eM bb [] mm=some r) (hh:Snoc h none h2) (hh':Snoc h2 (some ⟨e,r.flatMap C⟩) h') (hl:h2.length=r0) (hg:Gd ops n fr gd) (q:OpsX P N m ops l (aE n ((t,.sl r0 0 r.length p true)::fr)) h' K):OpsX P N m ops (⟨some t,.call ⟨.builtin .append,#[x,y],#[u,u]⟩,ty,pos,aft,gd⟩::l) (aE n fr) h K:=by
 subst hbb;exact xS (wR hx hy (aO7 T.h D.h ⟨h1,h3,aQx h4,aQx h5⟩ hs.eq hag ha (by rw[←hl,←hh.eq];simp) (by rw[hh.eq,hh'.eq]))) q hg
end
structure aPQ (q:Prop):Prop where
 h:q
section
variable {P:Program}{N n t:Nat}{m:Option (List Nat×List Nat)}{ops:Array Oper}{l:List Oper}{h:Hp}{K:List V→Hp→Prop}{op:Op}{ty:TypeId}{pos:String}{aft:Array Edge}{gd:Option (Nat×Bool)}{x y z:Operand}{Q:Ex→List V→Hp→Prop}{s:List V}{o e:Nat}{u w:TypeId}{bo:BinOp}{ob:Oper}{c:Code}{ws:List Operand}{ts:Array TypeId}{ps:List (Nat×Operand)}{lo hi:Option Operand}{hj mj:Operand}
theorem isX (k:OpsX P N m ops (ob::l) s h K):OpsX P N m ops (ob::l) s h K:=k
theorem isA (k:AB P N c Q s h):AB P N c Q s h:=k
theorem aMx (k:OpsX P N m ops (⟨some t,.call ⟨.builtin .len,ws.toArray,ts⟩,ty,pos,aft,gd⟩::l) s h K):OpsX P N m ops (⟨some t,.call ⟨.builtin .len,ws.toArray,ts⟩,ty,pos,aft,gd⟩::l) s h K:=k
theorem aOi (k:OpsX P N m ops (⟨some t,.call ⟨.builtin .append,ws.toArray,ts⟩,ty,pos,aft,gd⟩::l) s h K):OpsX P N m ops (⟨some t,.call ⟨.builtin .append,ws.toArray,ts⟩,ty,pos,aft,gd⟩::l) s h K:=k
theorem aNw (k:OpsX P N m ops (⟨some t,.move x,ty,pos,aft,gd⟩::l) s h K):OpsX P N m ops (⟨some t,.move x,ty,pos,aft,gd⟩::l) s h K:=k
theorem aMO (k:OpsX P N m ops (⟨some t,.load u x,ty,pos,aft,gd⟩::l) s h K):OpsX P N m ops (⟨some t,.load u x,ty,pos,aft,gd⟩::l) s h K:=k
theorem aNL (k:OpsX P N m ops (⟨some t,.binOp bo u x y w,ty,pos,aft,gd⟩::l) s h K):OpsX P N m ops (⟨some t,.binOp bo u x y w,ty,pos,aft,gd⟩::l) s h K:=k
theorem aOH (k:OpsX P N m ops (⟨some t,.fieldAddr u x o,ty,pos,aft,gd⟩::l) s h K):OpsX P N m ops (⟨some t,.fieldAddr u x o,ty,pos,aft,gd⟩::l) s h K:=k
theorem aNS (k:OpsX P N m ops (⟨some t,.assign x,ty,pos,aft,gd⟩::l) s h K):OpsX P N m ops (⟨some t,.assign x,ty,pos,aft,gd⟩::l) s h K:=k
theorem aOR (k:OpsX P N m ops (⟨some t,.indexAddr u x y,ty,pos,aft,gd⟩::l) s h K):OpsX P N m ops (⟨some t,.indexAddr u x y,ty,pos,aft,gd⟩::l) s h K:=k
theorem aOV (k:OpsX P N m ops (⟨none,.store u x y,ty,pos,aft,gd⟩::l) s h K):OpsX P N m ops (⟨none,.store u x y,ty,pos,aft,gd⟩::l) s h K:=k
theorem aO5 (k:OpsX P N m ops (⟨some t,.alloc e,ty,pos,aft,gd⟩::l) s h K):OpsX P N m ops (⟨some t,.alloc e,ty,pos,aft,gd⟩::l) s h K:=k
theorem aOA (k:OpsX P N m ops (⟨some t,.buildSlice u o ps.toArray,ty,pos,aft,gd⟩::l) s h K):OpsX P N m ops (⟨some t,.buildSlice u o ps.toArray,ty,pos,aft,gd⟩::l) s h K:=k
theorem aOY (k:OpsX P N m ops (⟨some t,.slice u x lo (some hj) (some mj),ty,pos,aft,gd⟩::l) s h K):OpsX P N m ops (⟨some t,.slice u x lo (some hj) (some mj),ty,pos,aft,gd⟩::l) s h K:=k
theorem aO1 (k:OpsX P N m ops (⟨some t,.slice u x lo hi none,ty,pos,aft,gd⟩::l) s h K):OpsX P N m ops (⟨some t,.slice u x lo hi none,ty,pos,aft,gd⟩::l) s h K:=k
theorem aOS (k:OpsX P N m ops (⟨some t,.pick x y z,ty,pos,aft,gd⟩::l) s h K):OpsX P N m ops (⟨some t,.pick x y z,ty,pos,aft,gd⟩::l) s h K:=k
theorem aO3 (k:OpsX P N m ops (⟨some t,.nilCheck x,ty,pos,aft,gd⟩::l) s h K):OpsX P N m ops (⟨some t,.nilCheck x,ty,pos,aft,gd⟩::l) s h K:=k
end
theorem zz {p q:Prop}(k:q) (h:aPQ q→p:=by(intro kk;(repeat (first|(apply isX;first|((with_reducible apply aMx);first|(apply xlR;exact rfl;(first|exact True.intro|exact⟨_,rfl,_,rfl,by assumption⟩))|(apply xlS;exact rfl;(first|exact True.intro|exact⟨_,rfl,_,rfl,by assumption⟩))|(apply xlT;exact rfl;(first|exact True.intro|exact⟨_,rfl,_,rfl,by assumption⟩)))|((with_reducible apply aOi);first|(apply xap;exact rfl;exact rfl;exact rfl;(first|exact Sr1.n|(apply Sr1.r;exact(fun _=>rfl))|(apply Sr1.s;exact rfl;(first|exact rfl|exact(by simp only[bE,bF,List.length_replicate];done)|exact aV (by assumption)|exact bW (by assumption))));(first|exact rfl|exact(by simp only[bE,bF,List.length_replicate];done)|exact aV (by assumption)|exact bW (by assumption));exact rfl;exact rfl;exact rfl;exact rfl;assumption;(repeat (first|exact LSet.z|apply LSet.s));(repeat (first|exact Snoc.n|apply Snoc.c));(first|exact(by simp only[List.length_cons,List.length_nil,Nat.zero_add,Nat.reduceAdd]<;>rfl)|exact rfl);(first|exact True.intro|exact⟨_,rfl,_,rfl,by assumption⟩))|(apply xan;exact rfl;exact rfl;(first|exact Sr1.n|(apply Sr1.r;exact(fun _=>rfl))|(apply Sr1.s;exact rfl;(first|exact rfl|exact(by simp only[bE,bF,List.length_replicate];done)|exact aV (by assumption)|exact bW (by assumption))));exact rfl;exact rfl;exact rfl;exact rfl;exact rfl;assumption;(repeat (first|exact Snoc.n|apply Snoc.c));(repeat (first|exact Snoc.n|apply Snoc.c));(first|exact(by simp only[List.length_cons,List.length_nil,Nat.zero_add,Nat.reduceAdd]<;>rfl)|exact rfl);(first|exact True.intro|exact⟨_,rfl,_,rfl,by assumption⟩))|(apply xaf;exact rfl;exact rfl;exact(fun _=>rfl);(first|exact Sr1.n|(apply Sr1.r;exact(fun _=>rfl))|(apply Sr1.s;exact rfl;(first|exact rfl|exact(by simp only[bE,bF,List.length_replicate];done)|exact aV (by assumption)|exact bW (by assumption))));(first|exact rfl);exact rfl;exact rfl;exact rfl;exact rfl;exact rfl;assumption;(repeat (first|exact Snoc.n|apply Snoc.c));(first|exact(by simp only[List.length_cons,List.length_nil,Nat.zero_add,Nat.reduceAdd]<;>rfl)|exact rfl);(first|exact True.intro|exact⟨_,rfl,_,rfl,by assumption⟩))|(apply aPP;exact rfl;exact rfl;exact rfl;exact(fun _=>rfl);(first|exact SrK.n|exact SrK.r|(apply SrK.s;exact(fun _=>rfl);exact rfl;(first|exact rfl|exact(by simp only[bE,bF,List.length_replicate];done)|exact aV (by assumption)|exact bW (by assumption))));(first|exact rfl|exact(by simp only[bE,bF,List.length_replicate];done)|exact aV (by assumption)|exact bW (by assumption));exact rfl;exact rfl;exact rfl;exact rfl;exact rfl;assumption;(repeat (first|exact LSet.z|apply LSet.s));(repeat (first|exact Snoc.n|apply Snoc.c));(first|exact(by simp only[List.length_cons,List.length_nil,Nat.zero_add,Nat.reduceAdd]<;>rfl)|exact rfl);(first|exact True.intro|exact⟨_,rfl,_,rfl,by assumption⟩))|(apply aQl;exact rfl;exact rfl;(first|exact SrK.n|exact SrK.r|(apply SrK.s;exact(fun _=>rfl);exact rfl;(first|exact rfl|exact(by simp only[bE,bF,List.length_replicate];done)|exact aV (by assumption)|exact bW (by assumption))));exact rfl;exact rfl;exact rfl;exact rfl;exact rfl;exact rfl;assumption;(repeat (first|exact Snoc.n|apply Snoc.c));(repeat (first|exact Snoc.n|apply Snoc.c));(first|exact(by simp only[List.length_cons,List.length_nil,Nat.zero_add,Nat.reduceAdd]<;>rfl)|exact rfl);(first|exact True.intro|exact⟨_,rfl,_,rfl,by assumption⟩)))|((with_reducible apply aNw);first|(apply xmc;(first|exact OfC.i|exact OfC.b|exact OfC.l|exact OfC.s|exact OfC.p);(first|exact True.intro|exact⟨_,rfl,_,rfl,by assumption⟩))|(apply xm;exact rfl;(first|exact True.intro|exact⟨_,rfl,_,rfl,by assumption⟩)))|((with_reducible apply aMO);first|(apply xl1;exact rfl;exact rfl;exact rfl;exact rfl;(first|exact True.intro|exact⟨_,rfl,_,rfl,by assumption⟩))|(apply aQp;exact rfl;exact rfl;(first|assumption|exact nK (by assumption));exact rfl;(first|exact True.intro|exact⟨_,rfl,_,rfl,by assumption⟩))|(apply xlX;exact rfl;exact rfl;exact rfl;(first|assumption|exact nK (by assumption));(first|exact True.intro|exact⟨_,rfl,_,rfl,by assumption⟩))|(apply xlN;exact rfl;exact rfl;(first|exact Tak.w rfl|(repeat (first|exact Tak.d|(apply Tak.t;(first|exact IsA.c|exact IsA.a4|exact IsA.a32|exact IsA.a8|exact IsA.a20|exact IsA.a64);exact rfl)|(apply Tak.s;(first|exact IsA.c|exact IsA.a4|exact IsA.a32|exact IsA.a8|exact IsA.a20|exact IsA.a64);exact rfl))));(first|exact True.intro|exact⟨_,rfl,_,rfl,by assumption⟩))|(apply aPm;exact rfl;(first|assumption|exact nK (by assumption));exact rfl;(first|exact Tak.w rfl|(repeat (first|exact Tak.d|(apply Tak.t;(first|exact IsA.c|exact IsA.a4|exact IsA.a32|exact IsA.a8|exact IsA.a20|exact IsA.a64);exact rfl)|(apply Tak.s;(first|exact IsA.c|exact IsA.a4|exact IsA.a32|exact IsA.a8|exact IsA.a20|exact IsA.a64);exact rfl))));(first|exact True.intro|exact⟨_,rfl,_,rfl,by assumption⟩))|(apply xlB;exact rfl;exact rfl;exact rfl;(first|exact rfl|exact(by simp only[bE,bF,List.length_replicate];done)|exact aV (by assumption)|exact bW (by assumption));(first|exact True.intro|exact⟨_,rfl,_,rfl,by assumption⟩))|(apply xlA;exact rfl;exact rfl;(first|exact Tak.w rfl|(repeat (first|exact Tak.d|(apply Tak.t;(first|exact IsA.c|exact IsA.a4|exact IsA.a32|exact IsA.a8|exact IsA.a20|exact IsA.a64);exact rfl)|(apply Tak.s;(first|exact IsA.c|exact IsA.a4|exact IsA.a32|exact IsA.a8|exact IsA.a20|exact IsA.a64);exact rfl))));(first|(apply ArM.a32;(first|exact rfl|exact(by simp only[bE,bF,List.length_replicate];done)|exact aV (by assumption)|exact bW (by assumption)))|(apply ArM.a4;(first|exact rfl|exact(by simp only[bE,bF,List.length_replicate];done)|exact aV (by assumption)|exact bW (by assumption)))|(apply ArM.a8;(first|exact rfl|exact(by simp only[bE,bF,List.length_replicate];done)|exact aV (by assumption)|exact bW (by assumption)))|(apply ArM.a20;(first|exact rfl|exact(by simp only[bE,bF,List.length_replicate];done)|exact aV (by assumption)|exact bW (by assumption)))|(apply ArM.a64;(first|exact rfl|exact(by simp only[bE,bF,List.length_replicate];done)|exact aV (by assumption)|exact bW (by assumption))));(first|exact True.intro|exact⟨_,rfl,_,rfl,by assumption⟩))|(apply aPU;exact rfl;(first|assumption|exact nK (by assumption));exact rfl;(first|exact Tak.w rfl|(repeat (first|exact Tak.d|(apply Tak.t;(first|exact IsA.c|exact IsA.a4|exact IsA.a32|exact IsA.a8|exact IsA.a20|exact IsA.a64);exact rfl)|(apply Tak.s;(first|exact IsA.c|exact IsA.a4|exact IsA.a32|exact IsA.a8|exact IsA.a20|exact IsA.a64);exact rfl))));(first|(apply ArM.a32;(first|exact rfl|exact(by simp only[bE,bF,List.length_replicate];done)|exact aV (by assumption)|exact bW (by assumption)))|(apply ArM.a4;(first|exact rfl|exact(by simp only[bE,bF,List.length_replicate];done)|exact aV (by assumption)|exact bW (by assumption)))|(apply ArM.a8;(first|exact rfl|exact(by simp only[bE,bF,List.length_replicate];done)|exact aV (by assumption)|exact bW (by assumption)))|(apply ArM.a20;(first|exact rfl|exact(by simp only[bE,bF,List.length_replicate];done)|exact aV (by assumption)|exact bW (by assumption)))|(apply ArM.a64;(first|exact rfl|exact(by simp only[bE,bF,List.length_replicate];done)|exact aV (by assumption)|exact bW (by assumption))));(first|exact True.intro|exact⟨_,rfl,_,rfl,by assumption⟩)))|((with_reducible apply aNL);first|(apply xb;exact rfl;exact rfl;exact rfl;(first|exact True.intro|exact⟨_,rfl,_,rfl,by assumption⟩))|(apply aPf;exact rfl;exact rfl;assumption;(first|exact True.intro|exact⟨_,rfl,_,rfl,by assumption⟩))|(apply aQa;exact rfl;exact rfl;assumption;(first|exact True.intro|exact⟨_,rfl,_,rfl,by assumption⟩))|(apply aPd;exact rfl;exact rfl;(first|assumption|exact rfl);(first|exact True.intro|exact⟨_,rfl,_,rfl,by assumption⟩))|(apply aPE;exact rfl;exact rfl;(first|assumption|exact rfl);(first|exact True.intro|exact⟨_,rfl,_,rfl,by assumption⟩))|(apply xeA;exact rfl;exact rfl;exact rfl;(first|exact rfl|exact(by simp only[bE,bF,List.length_replicate];done)|exact aV (by assumption)|exact bW (by assumption));(first|exact rfl|exact(by simp only[bE,bF,List.length_replicate];done)|exact aV (by assumption)|exact bW (by assumption));(first|exact True.intro|exact⟨_,rfl,_,rfl,by assumption⟩))|(apply xnA;exact rfl;exact rfl;exact rfl;(first|exact rfl|exact(by simp only[bE,bF,List.length_replicate];done)|exact aV (by assumption)|exact bW (by assumption));(first|exact rfl|exact(by simp only[bE,bF,List.length_replicate];done)|exact aV (by assumption)|exact bW (by assumption));(first|exact True.intro|exact⟨_,rfl,_,rfl,by assumption⟩)))|((with_reducible apply aOH);first|(apply xfp;exact rfl;(first|(with_reducible exact Nat.zero_add _)|exact rfl);(first|exact True.intro|exact⟨_,rfl,_,rfl,by assumption⟩))|(apply xfe;exact rfl;(first|(with_reducible exact Nat.zero_add _)|exact rfl);(first|exact True.intro|exact⟨_,rfl,_,rfl,by assumption⟩)))|((with_reducible apply aNS);first|(apply xac;(first|exact OfC.i|exact OfC.b|exact OfC.l|exact OfC.s|exact OfC.p);(first|exact True.intro|exact⟨_,rfl,_,rfl,by assumption⟩))|(apply xa;exact rfl;(first|exact True.intro|exact⟨_,rfl,_,rfl,by assumption⟩)))|(apply xe;exact rfl;exact rfl;(first|exact True.intro|exact⟨_,rfl,_,rfl,by assumption⟩))|((with_reducible apply aOR);first|(apply xiR;exact rfl;exact rfl;exact rfl;(first|assumption|exact nK (by assumption));(first|exact True.intro|exact⟨_,rfl,_,rfl,by assumption⟩))|(apply xiS;exact rfl;exact rfl;exact rfl;(first|assumption|exact nK (by assumption));(first|exact rfl|exact(by simp only[bE,bF,List.length_replicate];done)|exact aV (by assumption)|exact bW (by assumption));exact rfl;(first|exact True.intro|exact⟨_,rfl,_,rfl,by assumption⟩))|(apply xiB;exact rfl;exact rfl;exact rfl;assumption;exact rfl;(first|exact True.intro|exact⟨_,rfl,_,rfl,by assumption⟩))|(apply xiK;exact rfl;exact rfl;exact rfl;(first|assumption|exact nK (by assumption));(first|exact rfl|exact(by simp only[bE,bF,List.length_replicate];done)|exact aV (by assumption)|exact bW (by assumption));exact rfl;(first|exact True.intro|exact⟨_,rfl,_,rfl,by assumption⟩)))|(apply xci;exact rfl;(first|exact True.intro|exact⟨_,rfl,_,rfl,by assumption⟩))|((with_reducible apply aOV);first|(apply xsA;exact rfl;exact rfl;exact rfl;exact rfl;exact(fun _=>rfl);(first|exact rfl|exact(by simp only[bE,bF,List.length_replicate];done)|exact aV (by assumption)|exact bW (by assumption));(first|exact rfl|exact(by simp only[bE,bF,List.length_replicate];done)|exact aV (by assumption)|exact bW (by assumption));(repeat (first|exact LSet.z|apply LSet.s));(first|exact True.intro|exact⟨_,rfl,_,rfl,by assumption⟩))|(apply xs;exact rfl;exact rfl;exact rfl;(first|exact Cel.a rfl|exact Cel.o rfl rfl|exact Cel.m (fun _=>rfl));exact rfl;exact rfl;(first|exact Spl.w rfl|(repeat (first|exact Spl.d|(apply Spl.p;(first|exact IsA.c|exact IsA.a4|exact IsA.a32|exact IsA.a8|exact IsA.a20|exact IsA.a64);(first|exact IsA.c|exact IsA.a4|exact IsA.a32|exact IsA.a8|exact IsA.a20|exact IsA.a64))|(apply Spl.s;(first|exact IsA.c|exact IsA.a4|exact IsA.a32|exact IsA.a8|exact IsA.a20|exact IsA.a64);exact rfl))));(repeat (first|exact LSet.z|apply LSet.s));(first|exact True.intro|exact⟨_,rfl,_,rfl,by assumption⟩))|(apply xsX;exact rfl;exact rfl;exact rfl;exact rfl;(first|assumption|exact nK (by assumption));exact rfl;exact rfl;(repeat (first|exact LSet.z|apply LSet.s));(first|exact True.intro|exact⟨_,rfl,_,rfl,by assumption⟩)))|((with_reducible apply aO5);first|(apply aPX;exact rfl;(repeat (first|exact Snoc.n|apply Snoc.c));(first|exact(by simp only[List.length_cons,List.length_nil,Nat.zero_add,Nat.reduceAdd]<;>rfl)|exact rfl);(first|exact True.intro|exact⟨_,rfl,_,rfl,by assumption⟩))|(apply xal;(first|(apply Zro.o;(first|exact OfC.i|exact OfC.b|exact OfC.l|exact OfC.s|exact OfC.p))|(apply Zro.a;repeat (first|exact OfCs.n|(apply OfCs.c;(first|exact OfC.i|exact OfC.b|exact OfC.l|exact OfC.s|exact OfC.p)))));(repeat (first|exact Snoc.n|apply Snoc.c));(first|exact(by simp only[List.length_cons,List.length_nil,Nat.zero_add,Nat.reduceAdd]<;>rfl)|exact rfl);(first|exact True.intro|exact⟨_,rfl,_,rfl,by assumption⟩)))|(apply xbx;exact rfl;(first|exact Cel.a rfl|exact Cel.o rfl rfl|exact Cel.m (fun _=>rfl));(repeat (first|exact Snoc.n|apply Snoc.c));(first|exact(by simp only[List.length_cons,List.length_nil,Nat.zero_add,Nat.reduceAdd]<;>rfl)|exact rfl);(first|exact True.intro|exact⟨_,rfl,_,rfl,by assumption⟩))|((with_reducible apply aOA);first|(apply aPv;exact rfl;(repeat (first|exact NumK.n|apply NumK.c));exact rfl;exact rfl;exact rfl;exact rfl;(repeat (first|exact Snoc.n|apply Snoc.c));(first|exact(by simp only[List.length_cons,List.length_nil,Nat.zero_add,Nat.reduceAdd]<;>rfl)|exact rfl);(first|exact True.intro|exact⟨_,rfl,_,rfl,by assumption⟩))|(apply aPx;exact rfl;(repeat (first|exact NumR.n|apply NumR.z|apply NumR.c));exact rfl;exact rfl;exact rfl;exact rfl;(repeat (first|exact Snoc.n|apply Snoc.c));(first|exact(by simp only[List.length_cons,List.length_nil,Nat.zero_add,Nat.reduceAdd]<;>rfl)|exact rfl);(first|exact True.intro|exact⟨_,rfl,_,rfl,by assumption⟩))|(apply aP8;exact rfl;(repeat (first|exact NumB.n|apply NumB.c));exact rfl;exact rfl;exact rfl;exact rfl;(repeat (first|exact Snoc.n|apply Snoc.c));(first|exact(by simp only[List.length_cons,List.length_nil,Nat.zero_add,Nat.reduceAdd]<;>rfl)|exact rfl);(first|exact True.intro|exact⟨_,rfl,_,rfl,by assumption⟩)))|((with_reducible apply aOY);first|(apply xsM;exact rfl;exact rfl;exact rfl;exact rfl;exact rfl;assumption;exact rfl;(first|exact True.intro|exact⟨_,rfl,_,rfl,by assumption⟩)))|((with_reducible apply aO1);first|(apply xsR;exact rfl;exact rfl;exact rfl;exact rfl;exact rfl;assumption;exact rfl;exact rfl;(first|exact True.intro|exact⟨_,rfl,_,rfl,by assumption⟩))|(apply xsL;exact rfl;exact rfl;exact rfl;exact rfl;(first|exact rfl|exact(by simp only[bE,bF,List.length_replicate];done)|exact aV (by assumption)|exact bW (by assumption));exact rfl;exact rfl;(first|exact True.intro|exact⟨_,rfl,_,rfl,by assumption⟩))|(apply xsE;exact rfl;exact rfl;exact rfl;(first|exact rfl|exact(by simp only[bE,bF,List.length_replicate];done)|exact aV (by assumption)|exact bW (by assumption));exact rfl;(first|exact True.intro|exact⟨_,rfl,_,rfl,by assumption⟩)))|(apply xno;exact rfl;(first|exact True.intro|exact⟨_,rfl,_,rfl,by assumption⟩))|(apply xbd;exact rfl;(first|(apply Zro.o;(first|exact OfC.i|exact OfC.b|exact OfC.l|exact OfC.s|exact OfC.p))|(apply Zro.a;repeat (first|exact OfCs.n|(apply OfCs.c;(first|exact OfC.i|exact OfC.b|exact OfC.l|exact OfC.s|exact OfC.p)))));(repeat (first|exact Fil.n|(apply Fil.c;exact rfl;(first|exact Cel.a rfl|exact Cel.o rfl rfl|exact Cel.m (fun _=>rfl));exact rfl;exact rfl;(first|exact Spl.w rfl|(repeat (first|exact Spl.d|(apply Spl.p;(first|exact IsA.c|exact IsA.a4|exact IsA.a32|exact IsA.a8|exact IsA.a20|exact IsA.a64);(first|exact IsA.c|exact IsA.a4|exact IsA.a32|exact IsA.a8|exact IsA.a20|exact IsA.a64))|(apply Spl.s;(first|exact IsA.c|exact IsA.a4|exact IsA.a32|exact IsA.a8|exact IsA.a20|exact IsA.a64);exact rfl)))))));(first|exact True.intro|exact⟨_,rfl,_,rfl,by assumption⟩))|(apply xfd;exact rfl;exact rfl;exact rfl;exact rfl;(first|exact True.intro|exact⟨_,rfl,_,rfl,by assumption⟩))|((with_reducible apply aOS);first|(apply xpT;exact rfl;(first|assumption|exact rfl);exact rfl;(first|exact True.intro|exact⟨_,rfl,_,rfl,by assumption⟩))|(apply xpF;exact rfl;(first|assumption|exact rfl);exact rfl;(first|exact True.intro|exact⟨_,rfl,_,rfl,by assumption⟩)))|((with_reducible apply aO3);first|(apply xnp;exact rfl;(first|exact True.intro|exact⟨_,rfl,_,rfl,by assumption⟩))|(apply xne;exact rfl;(first|exact True.intro|exact⟨_,rfl,_,rfl,by assumption⟩)))|(apply xVv;exact rfl;exact rfl)|(apply xXx;exact rfl;exact rfl;assumption))|apply OpsX.nil|((with_reducible apply isA);first|((with_reducible apply xqn);exact rfl)|(with_reducible apply AB.skip)|((with_reducible apply xrn);exact rfl)|(with_reducible apply AB.ret)|(with_reducible apply AB.exit))|(with_reducible apply Ex.then_mk)|(with_reducible apply Ex.inBlock_mk)|(with_reducible apply Ex.then_exit_mk)|(with_reducible apply Ex.inBlock_same_mk)|((with_reducible apply Ex.inBlock_other_mk);exact rfl)|(with_reducible apply Ex.then_ret_mk)|(with_reducible apply Ex.inBlock_ret_mk)));exact kk.1)):p:=h ⟨k⟩
theorem Conv.ptr {α:Type}{E:α→V}{l:List α}{h h':Hp}(hs:Sub h h'){b:Nat}{e:TypeId}(hb:h[b]? =some (some ⟨e,l.map E⟩))(hb':h'[b]? =some none)(hsh: ∀x,(E x).shut=true)(hn:0<l.length):Conv h h' (.ptr b 0) (.eptr [.agg (l.map E)] 0 0):=by
 intro A M w v H hv
 obtain⟨hone,_⟩:=H.blk b _ hb
 unfold VR at hv⊢
 obtain⟨g,sh,hm,rfl,hshp⟩:=hv
 obtain⟨_,⟨hm',_⟩|⟨g',aS,hm',hA,_⟩⟩:=H.blk b _ hb
 ·rw[hm]at hm';cases hm'
 rw[hm]at hm'
 injection hm' with hm'
 injection hm' with hm'
 subst hm'
 obtain⟨vs,hvs,hl⟩:=aBC H hb hm hshp 0
 rw[List.drop_zero]at hvs
 have hX: ¬Xs A M h' g:=by
  rintro(ha|⟨c,C,hc,hmc⟩)
  ·exact hA ha
  obtain⟨C',hc'⟩:=hs c C hc
  have:=H.inj c b C' _ g hc' hb hmc hm
  subst this
  rw[hb']at hc;cases hc
 have hc2:VCells (Xs A M h') [] w (l.map E) vs:=VCells.mk hvs.len fun i c u hc hu=>by
  obtain⟨u',hu',hr⟩:=hvs.get hc
  rw[hu]at hu'
  injection hu' with hu'
  subst hu'
  have:c.shut=true:=by
   rw[List.getElem?_map]at hc
   cases hq:l[i]? with
   |none=>rw[hq]at hc;cases hc
   |some y=>rw[hq]at hc;injection hc with hc;subst hc;exact hsh y
  exact(hr.shut this).avoid (fun _ _ hx=>hs.xs hx)
 refine⟨⟨g,0,none⟩,l.length, ?_,hn,fun _=>hX,rfl, ?_, ?_⟩
 ·simp[Addr.add]
 ·intro e' he'
  rw[List.mem_singleton]at he'
  subst he'
  simp only[V.okElem,V.flatOk,V.cells,aQW,beq_iff_eq,aQZ,and_true]
  exact aRb.2 hone
 unfold VRow
 refine⟨⟨.agg vs.toArray,by unfold VR;exact⟨vs,rfl,hc2⟩, ?_, ?_⟩,by unfold VRow;trivial⟩
 ·show vs.toArray.size=l.length
  rw[List.size_toArray,←hvs.len,aQZ]
 exact hl
inductive PCv (h h':Hp):List (Nat×V)→List (Nat×V)→Prop
 |n:PCv h h' [] []
 |s {t:Nat} {x:V} {fr fr':List (Nat×V)}:PCv h h' fr fr'→PCv h h' ((t,x)::fr) ((t,x)::fr')
 |r {t b q:Nat} {e:TypeId} {cs:List V} {ag:Bool} {fr fr':List (Nat×V)}:h[b]? =some (some ⟨e,cs⟩)→h'[b]? =some none→cs.all V.shut=true→q=cs.length→PCv h h' fr fr'→PCv h h' ((t,.sl b 0 q 1 ag)::fr) ((t,.row none 1 cs)::fr')
 |p {α:Type} {E:α→V} {l:List α} {t b:Nat} {e:TypeId} {fr fr':List (Nat×V)}:h[b]? =some (some ⟨e,l.map E⟩)→h'[b]? =some none→(∀x,(E x).shut=true)→aQC 1 l.length=true→PCv h h' fr fr'→PCv h h' ((t,.ptr b 0)::fr) ((t,.eptr [.agg (l.map E)] 0 0)::fr')
 |k {α:Type} {C:α→List V} {K:Nat} {l:List α} {t b q:Nat} {e:TypeId} {fr fr':List (Nat×V)}:h[b]? =some (some ⟨e,l.flatMap C⟩)→h'[b]? =some none→(∀x,(C x).length=K)→(∀x,(C x).all V.one=true)→(∀x,(C x).all V.shut=true)→q=l.length→PCv h h' fr fr'→PCv h h' ((t,.sl b 0 q K true)::fr) ((t,.row none K (l.map fun x=>V.agg (C x)))::fr')
theorem PCv.get {h h':Hp}(hs:Sub h h'){fr fr':List (Nat×V)}(p:PCv h h' fr fr'): ∀(t:Nat)(y:V),fM fr' t=some y→ ∃x,fM fr t=some x∧Conv h h' x y:=by
 induction p with
 |n=>intro t y hy;cases hy
 | @s u x fr fr' _ ih=>
  intro t y hy
  simp only[fM]at hy⊢
  cases hb:aQ6 u t with
  |true=>rw[hb]at hy;simp only[cond_true,aQE]at hy ⊢; subst hy;exact⟨x,rfl,Conv.same hs⟩
  |false=>rw[hb]at hy;exact ih t y hy
 | @r u b q e cs ag fr fr' h1 h2 h3 h4 _ ih=>
  intro t y hy
  simp only[fM]at hy⊢
  cases hb:aQ6 u t with
  |true=>rw[hb]at hy;simp only[cond_true,aQE]at hy ⊢; subst hy;exact⟨_,rfl,Conv.row hs h1 h2 h3 h4⟩
  |false=>rw[hb]at hy;exact ih t y hy
 | @p α E l u b e fr fr' h1 h2 h3 h4 _ ih=>
  intro t y hy
  simp only[fM]at hy⊢
  cases hb:aQ6 u t with
  |true=>rw[hb]at hy;simp only[cond_true,aQE]at hy ⊢; subst hy;exact⟨_,rfl,Conv.ptr hs h1 h2 h3 (aQx h4)⟩
  |false=>rw[hb]at hy;exact ih t y hy
 | @k α C K l u b q e fr fr' h1 h2 h3 h4 h5 h6 _ ih=>
  intro t y hy
  simp only[fM]at hy⊢
  cases hb:aQ6 u t with
  |true=>rw[hb]at hy;simp only[cond_true,aQE]at hy ⊢; subst hy;exact⟨_,rfl,Conv.rowK h3 h4 h5 hs h1 h2 h6⟩
  |false=>rw[hb]at hy;exact ih t y hy
theorem Ghost.fz {N n b:Nat}{fr fr':List (Nat×V)}{h h':Hp}(he:h.set b none=h')(hp:PCv h h' fr fr'):Ghost N (aE n fr) h (aE n fr') h':=by
 subst he
 have hg: ∀{j:Nat}{B:Blk},(h.set b none)[j]? =some (some B)→h[j]? =some (some B):=by
  intro j B hj
  by_cases hij:b=j
  ·subst hij
   rw[List.getElem?_set]at hj
   split at hj
   ·split at hj<;>cases hj
   rename_i hne;exact absurd rfl hne
  rwa[List.getElem?_set_ne hij]at hj
 have hs:Sub h (h.set b none):=fun j B hj=>⟨B,hg hj⟩
 intro A M a w hN R
 refine⟨M,rfl,⟨⟨by rw[aRc];exact R.hr.len,R.hr.alt, ?_, ?_,R.hr.glob.avoid fun g _ hx=>hx.elim .inl (fun hl=> .inr (hs.live hl))⟩, ?_,R.defers⟩,fun g hl=>hs.live hl⟩
 ·intro j B hj
  obtain⟨h1,h2⟩:=R.hr.blk j B (hg hj)
  refine⟨h1, ?_⟩
  rcases h2 with⟨hn,hc0⟩|⟨g,cs,hgm,hA,hw,hle,hcs⟩
  ·exact .inl ⟨hn,hc0⟩
  exact .inr ⟨g,cs,hgm,hA,hw,hle,hcs.avoid (fun g _ hx=>hs.xs hx)⟩
 ·intro i j B C g hi hj mi mj
  exact R.hr.inj i j B C g (hg hi) (hg hj) mi mj
 exact aC9 R.sr (fun t y hy=>by
  obtain⟨x,hx,hl⟩:=hp.get hs t y hy
  exact⟨x,hx,fun v hv=>hl A M w v R.hr hv⟩)
theorem zv {N n:Nat}{fr fr':List (Nat×V)}{h h':Hp}(b:Nat) (he:LSet h b none h':=by(repeat (first|exact LSet.z|apply LSet.s)))
  (hp:PCv h h' fr fr':=by(repeat (first|exact PCv.n|(apply PCv.p;exact rfl;exact rfl;exact(fun _=>rfl);(first|exact rfl|exact aM9 (by assumption) rfl|exact aMC (by assumption) rfl))|(apply PCv.r;exact rfl;exact rfl;exact dB (fun _=>rfl);(first|exact rfl|exact(by rw[List.length_map];first|exact(aV (by assumption)).symm|exact(bW (by assumption)).symm)|exact(by simp only[List.length_map,bE,bF];done)))|(apply PCv.k;exact rfl;exact rfl;exact(fun _=>rfl);exact(fun _=>rfl);exact(fun _=>rfl);(first|exact rfl|exact(by simp only[bE,bF])))|apply PCv.s))):Ghost N (aE n fr) h (aE n fr') h':=Ghost.fz he.eq hp
theorem aOG {vn:Nat→Bool}{f:Nat→Nat}{c d:V}{cs ds:List V}(h:V.le vn c (d.rn f))(k:V.les vn cs (V.rns f ds)):V.les vn (c::cs) (V.rns f (d::ds)):=by
 simp only[V.rns];exact V.les_cons h k
section
variable {vn:Nat→Bool}{f:Nat→Nat}{k:IntKind}{q:List Int}{r r':List V}
theorem aNB (h:V.les vn r (V.rns f r')):V.les vn (cA (eI k) q r) (V.rns f (cA (eI k) q r')):=by rw[nG];exact aMK h
theorem aOa (h:V.les vn r (V.rns f r')):V.les vn (ar8 (eI k) q r) (V.rns f (ar8 (eI k) q r')):=by rw[nJ];exact aNj h
theorem aMn (h:V.les vn r (V.rns f r')):V.les vn (y9 (eI k) q r) (V.rns f (y9 (eI k) q r')):=by rw[lT];exact aLy h
theorem aM2 (h:V.les vn r (V.rns f r')):V.les vn (bJ (eI k) q r) (V.rns f (bJ (eI k) q r')):=by rw[lQ];exact aHn h
theorem aNh (h:V.les vn r (V.rns f r')):V.les vn (zF (eI k) q r) (V.rns f (zF (eI k) q r')):=by rw[lO];exact aKX h
end
theorem aPz {vn:Nat→Bool}{f:Nat→Nat}{cs ds:List V}(h:V.les vn cs (V.rns f ds)):V.le vn (.agg cs) ((V.agg ds).rn f):=by simp only[V.rn];exact V.le_agg h
theorem aQo {vn:Nat→Bool}{f:Nat→Nat}{cs ds:List V}(h:V.les vn cs (V.rns f ds)):V.le vn (.tup cs) ((V.tup ds).rn f):=by simp only[V.rn];exact V.le_tup h
theorem lev {p:Prop} (h:p:=by(repeat (first|exact V.les_refl _ _|exact V.les_nil|exact V.le_refl _ _|exact V.le_nil|exact V.le_row|exact V.le_arr (fun _=>rfl)|exact V.le_virt rfl|exact aBh (fun _=>rfl) _|exact aAd (fun _=>rfl) _|apply aOG|apply aM2|apply aNB|apply aOa|apply aMn|apply aNh|apply aPz|apply aQo|exact(by simp only[bE,bF];exact V.le_refl _ _)))):p:=h
theorem aHq {p:Prop} (h:p:=by first|exact rfl|exact all_map (fun _=>rfl) _|exact mU (fun _=>rfl) _):p:=h
theorem lI {N n:Nat}{fr fr':List (Nat×V)}{h h':Hp}(σ:List Nat)
  (hf:FLe uG (V.rn (sg σ h.length)) fr fr':=by(repeat (first|exact FLe.nil|refine FLe.same rfl ?_|refine FLe.le rfl lev ?_)))
  (hh:HLe (sg σ h.length) h σ h':=by(repeat (first|exact HLe.nil|refine HLe.dead ?_|refine HLe.live rfl lev aHq ?_)))
  (hσ:σ.take N=List.range N:=by rfl) (hlt:σ.all (fun b=>Nat.blt b h.length)=true:=by rfl) (hnd:ndB (lvs σ h')=true:=by rfl):Ghost N (aE n fr) h (aE n fr') h':=Ghost.rn σ hσ hlt hf hh hnd
theorem FLe.mapg {vn:Nat→Bool}{g:V→V}{fr:List (Nat×V)}: ∀{fr':List (Nat×V)},FLe vn g fr fr'→FLe vn id fr (fr'.map fun p=>(p.1,g p.2))
 | [],_=>FLe.nil
 |(t,y)::r,h=>⟨h.1,FLe.mapg h.2⟩
theorem aHg {g:V→V}: ∀{fr:List (Nat×V)}{t:Nat}{y:V},fM fr t=some y→fM (fr.map fun p=>(p.1,g p.2)) t=some (g y)
 | [],_,_,h=>by cases h
 |(u,x)::r,t,y,h=>by
  simp only[fM,aQN]at h⊢
  cases hb:aQ6 u t with
  |true=>rw[hb]at h;simp only[cond_true,aQE]at h ⊢; rw[h]
  |false=>rw[hb]at h;exact aHg h
theorem FLe.ofmap {g:V→V}{L:List (Nat×V)}: ∀{fr:List (Nat×V)},(∀t y,(t,y)∈fr→fM L t=some y)→FLe uG g (L.map fun p=>(p.1,g p.2)) fr
 | [],_=>FLe.nil
 |(t,y)::r,h=>FLe.same (aHg (h t y (by simp))) (FLe.ofmap fun u z hz=>h u z (by simp[hz]))
def aCu :List (Nat×V)→List (Nat×V)→Bool
 |_,[]=>true
 |L,(t,_)::r=> !((r.map (·.1)).elem t)&&aCu L r
theorem aKe : ∀{L:List (Nat×V)},aCu L L=true→ ∀t y,(t,y)∈L→fM L t=some y:=by
 have key: ∀{K L:List (Nat×V)},aCu K L=true→ ∀t y,(t,y)∈L→fM L t=some y:=by
  intro K L
  induction L with
  |nil=>intro _ t y h;cases h
  |cons p r ih=>
   obtain⟨u,x⟩:=p
   intro h t y hm
   simp only[aCu,aQW,Bool.not_eq_true']at h
   simp only[fM]
   rcases List.mem_cons.1 hm with he|hm
   ·cases he;simp
   have:u≠t:=fun he=>by
    subst he
    have h1:(r.map (·.1)).elem u=true:=List.elem_eq_true_of_mem (List.mem_map.2 ⟨_,hm,rfl⟩)
    rw[h1]at h;exact absurd h.1 (by simp)
   have hb:aQ6 u t=false:=by
    cases hb:aQ6 u t with
    |true=>exact absurd (Nat.eq_of_beq_eq_true hb) this
    |false=>rfl
   rw[hb];exact ih h.2 t y hm
 exact fun{L} h=>key h
theorem zW {N n:Nat}{fr fr':List (Nat×V)}{h h':Hp}(e:TypeId)(σ:List Nat)
  (hf:FLe (fun b=>Nat.beq b h.length) (V.rn (sg σ (h++[some (Blk.mk e [])]).length)) fr fr':=by(repeat (first|exact FLe.nil|refine FLe.same rfl ?_|refine FLe.le rfl lev ?_)))
  (h1:HLv (fun b=>Nat.beq b h.length) h h:=by(repeat (first|exact HLv.nil|refine HLv.dead ?_|refine HLv.live (V.les_refl _ _) aHq ?_)))
  (hh:HLe (sg σ (h++[some (Blk.mk e [])]).length) (h++[some (Blk.mk e [])]) σ h':=by(repeat (first|exact HLe.nil|refine HLe.dead ?_|refine HLe.live rfl lev aHq ?_)))
  (hσ:σ.take N=List.range N:=by rfl) (hlt:σ.all (fun b=>Nat.blt b (h++[some (Blk.mk e [])]).length)=true:=by rfl) (hnd:ndB (lvs σ h')=true:=by rfl) (hk:aCu fr' fr'=true:=by rfl):Ghost N (aE n fr) h (aE n fr') h':=
 Ghost.trans (Ghost.virt e hf.mapg h1) (Ghost.rn σ hσ hlt (FLe.ofmap (aKe hk)) hh hnd)
section
variable {P:Program}{fn:Func}{n N:Nat}{fr:List (Nat×V)}{s:List V}{h h':Hp}{r a b c x:V}{o p:Nat}{e:TypeId}{cs ds:List V}{t u w:Nat}{ty:TypeId}
inductive RsV (P:Program)(n:Nat)(fr:List (Nat×V))(h:Hp):ResultVar→V→Prop
 |t {t:Nat} {x:V}:bG n fr (.tmp t)=some x→RsV P n fr h (.tmp t) x
 |c {t i o:Nat} {ty:TypeId} {v:V}:bG n fr (.tmp t)=some (.ptr i o)→dZ P ty h (.ptr i o)=some v→RsV P n fr h (.cell t ty) v
theorem RsV.eq {q:ResultVar}(hr:RsV P n fr h q x):kJ P (aE n fr) h q=some x:=by
 cases hr with
 |t h1=>exact rvT h1
 |c h1 h2=>exact rvC h1 h2
theorem lv1 {d:TI} [T:TiC P ty d] (hb:h[o]? =some (some ⟨e,cs⟩)) (hc:(cs.drop p).head? =some x) (hd:b8 d.desc=false):dZ P ty h (.ptr o p)=some x:=ldP hb (l5 T.h hd hc)
theorem lvN {fs:Array Field}{sz by_:Nat}{zz:Value} [T:TiC P ty ⟨.struct fs,sz,by_,zz⟩] (hb:h[o]? =some (some ⟨e,cs⟩)) (hc:Tak cs p sz ds):dZ P ty h (.ptr o p)=some (.agg ds):=ldP hb (zN T.h rfl hc.eq.2 hc.eq.1)
theorem lvB {α:Type}{E:α→V}{ml:List α}{N' sz by_:Nat}{zz:Value}{w:TypeId} [T:TiC P ty ⟨.array N' w,sz,by_,zz⟩] (hb:h[o]? =some (some ⟨e,ml.map E⟩)) (hz:sz=N') (hl:ml.length=N'):dZ P ty h (.ptr o 0)=some (.agg (ml.map E)):=vS T.h hz hb hl
theorem eW {q:ResultVar}(hr:fn.results= #[q])(ha:RsV P n fr h q a)(hg:Ghost N (aE 1 [(0,a)]) h (aE 1 [(0,r)]) h'):aAA P fn N r h' .ret (aE n fr) h:=xD (aOq hr ha.eq) hg
theorem mZ {q q':ResultVar}(hr:fn.results= #[q,q'])(ha:RsV P n fr h q a)(hb:RsV P n fr h q' b)(hg:Ghost N (aE 1 [(0,.tup [a,b])]) h (aE 1 [(0,r)]) h'):aAA P fn N r h' .ret (aE n fr) h:=xD (a9 hr ha.eq hb.eq) hg
theorem sK {q q' q'':ResultVar}(hr:fn.results= #[q,q',q''])(ha:RsV P n fr h q a)(hb:RsV P n fr h q' b)(hc:RsV P n fr h q'' c)(hg:Ghost N (aE 1 [(0,.tup [a,b,c])]) h (aE 1 [(0,r)]) h'):aAA P fn N r h' .ret (aE n fr) h:=xD (rB hr ha.eq hb.eq hc.eq) hg
theorem zn0 (hr:fn.results= #[])(hg:Ghost N (aE 1 [(0,.tup [])]) h (aE 1 [(0,r)]) h'):aAA P fn N r h' .normal s h:=aKf (aQe hr) hg
end
theorem aW {p:Prop} (h:p:=by first|exact RsV.t rfl|(apply RsV.c;exact rfl;first|(apply lv1;exact rfl;exact rfl;exact rfl)|(apply lvB;exact rfl;exact rfl;first|exact rfl|exact aV (by assumption)|exact bW (by assumption))|(apply lvN;exact rfl;exact Tak.w rfl))):p:=h
end Go.Vm
set_option maxRecDepth 20000
set_option maxHeartbeats 1000000
namespace Go.Proofs.YtnllpckhipmpgaaGreatDoor
open Go Go.Vm
structure aK where
 Code:Int
 Data:List Int
 M:Int
 N:Int
abbrev bT (x:aK):List V:=[(eI .i64 x.Code),(.row none 1 (x.Data.map (eI .u8))),(eI .i64 x.M),(eI .i64 x.N)]
abbrev eQ (x:aK):V:= .agg (bT x)
@[simp] theorem f5 {f:Nat→Nat}(l:List aK):V.rns f (l.flatMap bT)=l.flatMap bT:=jV (fun _=>rfl) l
@[simp] theorem f8 {f:Nat→Nat}(x:aK):V.rns f (bT x)=bT x:=rfl
structure aG where
 outer:Bool
 taken:Bool
abbrev aM (x:aG):List V:=[(eB x.outer),(eB x.taken)]
@[simp] theorem cT {f:Nat→Nat}(l:List aG):V.rns f (l.flatMap aM)=l.flatMap aM:=jV (fun _=>rfl) l
@[simp] theorem cR {f:Nat→Nat}(x:aG):V.rns f (aM x)=aM x:=rfl
structure aR where
 reached:Bool
 done:Bool
abbrev aZ (x:aR):List V:=[(eB x.reached),(eB x.done)]
abbrev aAg (x:aR):V:= .agg (aZ x)
@[simp] theorem bP {f:Nat→Nat}(l:List aR):V.rns f (l.flatMap aZ)=l.flatMap aZ:=jV (fun _=>rfl) l
@[simp] theorem bR {f:Nat→Nat}(x:aR):V.rns f (aZ x)=aZ x:=rfl
def oO (N:Nat)(x2:Bool):Option Bool:=
 some x2
def sR (N:Nat)(code:Int):Option Bool:=
 if decide (1≤code) then
  oO N (decide (code≤17))
 else
  oO N false
def y5 (N:Nat)(l0:List Int):Option (List Int):=
 some l0
def kE (N:Nat)(parts:List (List Int)):Nat→Int→(List Int)→Option (List Int)
 |0,_,_=>none
 |m+1,x8,aL=>
  if decide (x8<(parts.length:Int)) then
   (bS parts x8).bind fun cC=>
   (eM 1 aL cC).bind fun bH=>
   (kE N parts m) (aQr.wrap (x8+1)) bH
  else
   some aL
def qH (N:Nat)(parts:List (List Int)):Option (List Int):=
 (kE N parts N 0 []).bind fun p2=>
 y5 N p2
def iE (N:Nat)(x4:Bool):Option Bool:=
 some x4
def pT (N:Nat)(vm vn:Int):Option Bool:=
 if decide (1≤vn) then
  if decide (vn≤15) then
   if decide (1≤vm) then
    iE N (decide (vm≤vn))
   else
    iE N false
  else
   iE N false
 else
  iE N false
def kT (N:Nat)(x8:Int)(b_1:List Int)(c1 xI:Int)(l2:List Int):Option (Int×(List Int)×Int×Int×(List Int)×Int):=
 some (aQr.wrap x8,l2,c1,xI,b_1,0)
def pI (N:Nat)(x8:Int)(x18:List Int)(x35:Bool):Option (Int×(List Int)×Int×Int×(List Int)×Int):=
 if x35 then
  some (0,[],0,0,[],1)
 else
  (bS x18 0).bind fun x38=>
  (sub x18 1 (aQr.wrap (1+(aQr.wrap x38)))).bind fun x44=>
  (qH N [x44]).bind fun x46=>
  (sub x18 (aQr.wrap (1+(aQr.wrap x38))) (x18.length:Int)).bind fun x49=>
  kT N x8 x49 0 0 x46
def t6 (N:Nat)(b:List Int):Option (Int×(List Int)×Int×Int×(List Int)×Int):=
 (bS b 0).bind fun x8=>
 (sR N (aQr.wrap x8)).bind fun bH=>
 if !bH then
  some (0,[],0,0,[],80)
 else
  (sub b 1 (b.length:Int)).bind fun x18=>
  if(aQr.wrap x8) == 1 then
   if(x18.length:Int) == 0 then
    pI N x8 x18 true
   else
    (bS x18 0).bind fun dD=>
    pI N x8 x18 (decide ((aQr.wrap ((x18.length:Int)-1))<(aQr.wrap dD)))
  else
   if(aQr.wrap x8) == 11 then
    if decide ((x18.length:Int)<2) then
     some (0,[],0,0,[],1)
    else
     (bS x18 0).bind fun x58=>
     (bS x18 1).bind fun x62=>
     (sub x18 2 (x18.length:Int)).bind fun x66=>
     (pT N (aQr.wrap x58) (aQr.wrap x62)).bind fun x73=>
     if !x73 then
      some (0,[],0,0,[],5)
     else
      kT N x8 x66 (aQr.wrap x58) (aQr.wrap x62) []
   else
    kT N x8 x18 0 0 []
def vJ (N:Nat)(l0:List aK):Option ((List aK)×Int):=
 some (l0,0)
def jH (N:Nat):Nat→(List Int)→(List aK)→Option (LR ((List aK)) ((List aK)×Int))
 |0,_,_=>none
 |m+1,b_1,aL=>
  if decide (0<(b_1.length:Int)) then
   (t6 N b_1).bind fun x16=>
   if x16.2.2.2.2.2 != 0 then
    some (.ret ([],x16.2.2.2.2.2))
   else
    (eM 48 aL [(aK.mk x16.1 x16.2.1 x16.2.2.1 x16.2.2.2.1)]).bind fun x26=>
    (jH N m) x16.2.2.2.2.1 x26
  else
   some (.brk aL)
def rN (N:Nat)(b:List Int):Option ((List aK)×Int):=
 if decide (520<(b.length:Int)) then
  some ([],4)
 else
  (jH N N b []).bind fun q=>match q with
   | .ret v=>some v
   | .brk p2=>
    vJ N p2
def u3 (N:Nat)(l0:List Bool):Option Bool:=
 some ((l0.length:Int) == 0)
def i3 (N:Nat)(l:List aK)(x9:Int)(rec:Int→(List Bool)→Option (LR ((List Bool)) (Bool)))(iZ:List Bool):Option (LR ((List Bool)) (Bool)):=
 rec (aQr.wrap (x9+1)) iZ
def mR (N:Nat)(l:List aK)(x9:Int)(aL:List Bool)(rec:Int→(List Bool)→Option (LR ((List Bool)) (Bool)))(pR:Bool):Option (LR ((List Bool)) (Bool)):=
 if pR then
  some (.ret false)
 else
  (bS aL (aQr.wrap ((aL.length:Int)-1))).bind fun x35=>
  i3 N l x9 rec (aL.set (aQv (aQr.wrap ((aL.length:Int)-1))) true)
def cY (N:Nat)(l:List aK):Nat→Int→(List Bool)→Option (LR ((List Bool)) (Bool))
 |0,_,_=>none
 |m+1,x9,aL=>
  if decide (x9<(l.length:Int)) then
   (bS l x9).bind fun bX=>
   if bX.Code == 14 then
    (eM 1 aL [false]).bind fun bN=>
    i3 N l x9 (cY N l m) bN
   else
    if bX.Code == 15 then
     if decide ((aQr.wrap ((aL.length:Int)-1))<0) then
      mR N l x9 aL (cY N l m) true
     else
      (bS aL (aQr.wrap ((aL.length:Int)-1))).bind fun mX=>
      mR N l x9 aL (cY N l m) mX
    else
     if bX.Code == 16 then
      if decide ((aQr.wrap ((aL.length:Int)-1))<0) then
       some (.ret false)
      else
       (sub aL 0 (aQr.wrap ((aL.length:Int)-1))).bind fun x42=>
       i3 N l x9 (cY N l m) x42
     else
      i3 N l x9 (cY N l m) aL
  else
   some (.brk aL)
def qU (N:Nat)(l:List aK):Option Bool:=
 (cY N l N 0 []).bind fun q=>match q with
  | .ret v=>some v
  | .brk p2=>
   u3 N p2
def tR (N:Nat):Option Bool:=
 some true
def fJ (N:Nat)(stack:List (List Int)):Nat→Int→Option (LR (Unit) (Bool))
 |0,_=>none
 |m+1,cC=>
  if decide (cC<(stack.length:Int)) then
   (bS stack cC).bind fun dL=>
   if decide (520<(dL.length:Int)) then
    some (.ret false)
   else
    (fJ N stack m) (aQr.wrap (cC+1))
  else
   some (.brk ())
def pO (N:Nat)(stack:List (List Int)):Option Bool:=
 if decide (64<(stack.length:Int)) then
  some false
 else
  (fJ N stack N 0).bind fun q=>match q with
   | .ret v=>some v
   | .brk p2=>
    tR N
def qF (N:Nat)(l0:List (List Int)):Option (List (List Int)):=
 some l0
def i0 (N:Nat)(stack:List (List Int)):Nat→Int→(List (List Int))→Option (List (List Int))
 |0,_,_=>none
 |m+1,x8,aL=>
  if decide (x8<(stack.length:Int)) then
   (bS stack x8).bind fun cC=>
   (qH N [cC]).bind fun x15=>
   (eM 24 aL [x15]).bind fun x17=>
   (i0 N stack m) (aQr.wrap (x8+1)) x17
  else
   some aL
def nI (N:Nat)(stack:List (List Int)):Option (List (List Int)):=
 (i0 N stack N 0 []).bind fun p2=>
 qF N p2
def gF (N:Nat)(aB:List Int)(aD aI:Int)(aF:List (List Int))(aC:List aG)(aP:Int)(x2:Bool):Option Bool:=
 some x2
def lN (N:Nat)(aB:List Int)(aD aI:Int)(aF:List (List Int))(aC:List aG)(aP:Int):Option Bool:=
 if(aC.length:Int) == 0 then
  some true
 else
  (bS aC (aQr.wrap ((aC.length:Int)-1))).bind fun bI=>
  if bI.outer then
   gF N aB aD aI aF aC aP bI.taken
  else
   gF N aB aD aI aF aC aP false
def sV (N:Nat)(aQ:Int)(bM:List Int)(dJ dC:Int):Option Int:=
 if aQ == 8 then
  some 6
 else
  if aQ == 10 then
   some 21
  else
   if aQ == 11 then
    some (aQr.wrap (1+(aQr.wrap (20*dC))))
   else
    some 1
def lG (N:Nat)(aQ:Int)(bM:List Int)(dJ dC:Int)(cC:Bool):Option Int:=
 if cC then
  some 2
 else
  if aQ == 11 then
   some (aQr.wrap (2*dC))
  else
   some 1
def jM (N:Nat)(aQ:Int)(bM:List Int)(dJ dC:Int)(x5:Bool):Option Int:=
 if x5 then
  some 0
 else
  if aQ == 4 then
   lG N aQ bM dJ dC (aQ == 4)
  else
   if aQ == 5 then
    lG N aQ bM dJ dC (aQ == 5)
   else
    lG N aQ bM dJ dC (aQ == 10)
def rY (N:Nat)(aQ:Int)(bM:List Int)(dJ dC:Int):Option Int:=
 if aQ == 1 then
  jM N aQ bM dJ dC (aQ == 1)
 else
  if aQ == 15 then
   jM N aQ bM dJ dC (aQ == 15)
  else
   if aQ == 16 then
    jM N aQ bM dJ dC (aQ == 16)
   else
    jM N aQ bM dJ dC (aQ == 17)
def bZ (N:Nat)(aB:List Int)(aD aI:Int)(aF:List (List Int))(aC:List aG)(aP:Int):Option (List Int):=
 (bS aF (aQr.wrap ((aF.length:Int)-1))).bind fun cB=>
 some cB
def vI (N:Nat):Option Bool:=
 some false
def eV (N:Nat)(eJ:List Int):Nat→Int→Option (LR (Unit) (Bool))
 |0,_=>none
 |m+1,x7=>
  if decide (x7<(eJ.length:Int)) then
   (bS eJ x7).bind fun x9=>
   if x9 != 0 then
    some (.ret true)
   else
    (eV N eJ m) (aQr.wrap (x7+1))
  else
   some (.brk ())
def jL (N:Nat)(eJ:List Int):Option Bool:=
 (eV N eJ N 0).bind fun q=>match q with
  | .ret v=>some v
  | .brk p2=>
   vI N
def dI (N:Nat)(aB:List Int)(aD aI:Int)(aF:List (List Int))(aC:List aG)(aP vn:Int):Option ((List Int)×Int×Int×(List (List Int))×(List aG)×Int):=
 (sub aF 0 (aQr.wrap ((aF.length:Int)-vn))).bind fun x16=>
 some (aB,aD,aI,x16,aC,aP)
def fL (N:Nat)(aB:List Int)(aD aI:Int)(aF:List (List Int))(aC:List aG)(aP:Int)(eJ:List Int):Option (Int×(List Int)×Int×Int×(List (List Int))×(List aG)×Int):=
 if decide (64≤(aF.length:Int)) then
  some (4,aB,aD,aI,aF,aC,aP)
 else
  (eM 24 aF [eJ]).bind fun x18=>
  some (0,aB,aD,aI,x18,aC,aP)
def yF (N:Nat)(va b:List Int):Option Bool:=
 some ((nP va).toList == (nP b).toList)
def s7 (N:Nat)(l0:List Int):Option (List Int):=
 some l0
def dR (N:Nat):Nat→Int→(List Int)→Option (List Int)
 |0,_,_=>none
 |m+1,cZ,aL=>
  if decide (0<cZ) then
   (eM 1 aL [aQz.wrap cZ]).bind fun dL=>
   (shr .u32 cZ 8).bind fun x7=>
   (dR N m) x7 dL
  else
   some aL
def eU (N:Nat)(vn:Int):Option (List Int):=
 (dR N N vn []).bind fun p2=>
 s7 N p2
def jF (N:Nat)(v:Bool):Option (List Int):=
 if v then
  (eU N 1).bind fun x4=>
  some x4
 else
  (eU N 0).bind fun x5=>
  some x5
def cJ (N:Nat)(aB:List Int)(aD aI:Int)(aF:List (List Int))(aC:List aG)(aP vn:Int)(eJ:List Int):Option ((List Int)×Int×Int×(List (List Int))×(List aG)×Int):=
 (dI N aB aD aI aF aC aP vn).bind fun x8=>
 (eM 24 x8.2.2.2.1 [eJ]).bind fun x16=>
 some (x8.1,x8.2.1,x8.2.2.1,x16,x8.2.2.2.2.1,x8.2.2.2.2.2)
def aBW (N:Nat)(l0:List Int):Option (List Int):=
 some l0
def oD (N:Nat)(vn:Int):Nat→Int→(List Int)→Option (List Int)
 |0,_,_=>none
 |m+1,x18,aL=>
  if decide (x18<8) then
   (shr .u64 (aQw.wrap (8*vn)) (aQr.wrap (56-(aQr.wrap (8*x18))))).bind fun x27=>
   (eM 1 aL [aQz.wrap x27]).bind fun mX=>
   (oD N vn m) (aQr.wrap (x18+1)) mX
  else
   some aL
def aBi (N:Nat)(vn:Int):Option (List Int):=
 (mkl 1 0 (aQw.wrap (1+(aQK (aQw.wrap (64-(aQK (aQw.wrap (vn+9)) 64))) 64))) (aQw.wrap (9+(aQK (aQw.wrap (64-(aQK (aQw.wrap (vn+9)) 64))) 64)))).bind fun x15=>
 (bS x15 0).bind fun x17=>
 (oD N vn N 0 (x15.set (aQv 0) 128)).bind fun p2=>
 aBW N p2
def aBX (N:Nat)(l0:List Int):Option (List Int):=
 some l0
def oB (N:Nat)(parts:List (List Int)):Nat→Int→(List Int)→Option (List Int)
 |0,_,_=>none
 |m+1,x8,aL=>
  if decide (x8<(parts.length:Int)) then
   (bS parts x8).bind fun cC=>
   (eM 1 aL cC).bind fun bH=>
   (oB N parts m) (aQr.wrap (x8+1)) bH
  else
   some aL
def aAa (N:Nat)(parts:List (List Int)):Option (List Int):=
 (oB N parts N 0 []).bind fun p2=>
 aBX N p2
def iR (N:Nat)(x k:Int):Option Int:=
 (shl .u32 x (bits .and .u64 (aQw.wrap k) 31)).bind fun bX=>
 (shr .u32 x (aQw.wrap (32-(bits .and .u64 (aQw.wrap k) 31)))).bind fun x15=>
 some (bits .or .u32 bX x15)
def cM (N:Nat)(x vn:Int):Option Int:=
 (iR N x (aQr.wrap (0-vn))).bind fun x8=>
 some x8
def n9 (N:Nat)(d5:List Int):Option (List Int):=
 (aS 64 d5).bind fun q=>
 some d5
def fS (N:Nat):Nat→Int→(List Int)→Option (List Int)
 |0,_,_=>none
 |m+1,vi,l1_2=>
  if decide (vi<64) then
   (bB 64 l1_2 (aQr.wrap (vi-15))).bind fun x37=>
   (cM N x37 7).bind fun x39=>
   (cM N x37 18).bind fun x44=>
   (shr .u32 x37 3).bind fun x50=>
   (bB 64 l1_2 (aQr.wrap (vi-2))).bind fun x54=>
   (cM N x54 17).bind fun x56=>
   (cM N x54 19).bind fun x61=>
   (shr .u32 x54 10).bind fun x67=>
   (bB 64 l1_2 (aQr.wrap (vi-16))).bind fun x72=>
   (bB 64 l1_2 (aQr.wrap (vi-7))).bind fun x78=>
   (bB 64 l1_2 vi).bind fun x83=>
   (fS N m) (aQr.wrap (vi+1)) (l1_2.set (aQv vi) (aQt.wrap ((aQt.wrap ((aQt.wrap (x72+(bits .xor .u32 (bits .xor .u32 x39 x44) x50)))+x78))+(bits .xor .u32 (bits .xor .u32 x56 x61) x67))))
  else
   some l1_2
def oP (N:Nat)(l1:List Int):Option (List Int):=
 (fS N N 16 l1).bind fun p3=>
 n9 N p3
def rK (N:Nat)(block:List Int)(x9:Int)(rec:Int→(List Int)→Option (List Int))(fU:List Int):Option (List Int):=
 rec (aQr.wrap (x9+1)) fU
def dH (N:Nat)(block:List Int)(x9:Int):Nat→Int→(List Int)→Option (List Int)
 |0,_,_=>none
 |m+1,dL,g9=>
  if decide (dL<4) then
   (bB 64 g9 x9).bind fun x17=>
   (shl .u32 x17 8).bind fun x19=>
   (bB 64 block (aQr.wrap ((aQr.wrap (4*x9))+dL))).bind fun dO=>
   (dH N block x9 m) (aQr.wrap (dL+1)) (g9.set (aQv x9) (bits .or .u32 x19 (aQt.wrap dO)))
  else
   some g9
def eX (N:Nat)(block:List Int):Nat→Int→(List Int)→Option (List Int)
 |0,_,_=>none
 |m+1,x9,l2=>
  if decide (x9<16) then
   (dH N block x9 N 0 l2).bind fun p6=>
   rK N block x9 (eX N block m) p6
  else
   some l2
def mT (N:Nat)(block:List Int):Option (List Int):=
 (eX N block N 0 (aQs 64 0)).bind fun p4=>
 oP N p4
def n6 (N:Nat)(bY:List Int)(va b c d ve f g vh:Int):Option (List Int):=
 (bB 8 bY 0).bind fun x98=>
 (bB 8 bY 1).bind fun aFq=>
 (bB 8 bY 2).bind fun rO=>
 (bB 8 bY 3).bind fun aLo=>
 (bB 8 bY 4).bind fun aFa=>
 (bB 8 bY 5).bind fun zD=>
 (bB 8 bY 6).bind fun aKB=>
 (bB 8 bY 7).bind fun aCz=>
 some [aQt.wrap (x98+va),aQt.wrap (aFq+b),aQt.wrap (rO+c),aQt.wrap (aLo+d),aQt.wrap (aFa+ve),aQt.wrap (zD+f),aQt.wrap (aKB+g),aQt.wrap (aCz+vh)]
def fP (N:Nat)(bY:List Int)(x18:(List Int)):Nat→Int→Int→Int→Int→Int→Int→Int→Int→Int→Option (Int×Int×Int×Int×Int×Int×Int×Int)
 |0,_,_,_,_,_,_,_,_,_=>none
 |m+1,va_1,b_1,c_1,d_1,ve_1,f_1,g_1,vh_1,x35=>
  if decide (x35<64) then
   (cM N ve_1 6).bind fun x40=>
   (cM N ve_1 11).bind fun x42=>
   (cM N ve_1 25).bind fun x45=>
   (bB 64 aA3 x35).bind fun x58=>
   (bB 64 x18 x35).bind fun x62=>
   (cM N va_1 2).bind fun x66=>
   (cM N va_1 13).bind fun x68=>
   (cM N va_1 22).bind fun x71=>
   (fP N bY x18 m) (aQt.wrap ((aQt.wrap ((aQt.wrap ((aQt.wrap ((aQt.wrap (vh_1+(bits .xor .u32 (bits .xor .u32 x40 x42) x45)))+(bits .xor .u32 (bits .and .u32 ve_1 f_1) (bits .and .u32 (bits .xor .u32 (aQ2 .u32) ve_1) g_1))))+x58))+x62))+(aQt.wrap ((bits .xor .u32 (bits .xor .u32 x66 x68) x71)+(bits .xor .u32 (bits .xor .u32 (bits .and .u32 va_1 b_1) (bits .and .u32 va_1 c_1)) (bits .and .u32 b_1 c_1)))))) va_1 b_1 c_1 (aQt.wrap (d_1+(aQt.wrap ((aQt.wrap ((aQt.wrap ((aQt.wrap (vh_1+(bits .xor .u32 (bits .xor .u32 x40 x42) x45)))+(bits .xor .u32 (bits .and .u32 ve_1 f_1) (bits .and .u32 (bits .xor .u32 (aQ2 .u32) ve_1) g_1))))+x58))+x62)))) ve_1 f_1 g_1 (aQr.wrap (x35+1))
  else
   some (va_1,b_1,c_1,d_1,ve_1,f_1,g_1,vh_1)
def jW (N:Nat)(bY block:List Int):Option (List Int):=
 (aS 64 block).bind fun q=>
 (mT N block).bind fun x18=>
 (aS 64 x18).bind fun q_1=>
 (bB 8 bY 0).bind fun x19=>
 (bB 8 bY 1).bind fun dM=>
 (bB 8 bY 2).bind fun fR=>
 (bB 8 bY 3).bind fun x25=>
 (bB 8 bY 4).bind fun x27=>
 (bB 8 bY 5).bind fun x29=>
 (bB 8 bY 6).bind fun dD=>
 (bB 8 bY 7).bind fun lC=>
 (fP N bY x18 N x19 dM fR x25 x27 x29 dD lC 0).bind fun p2=>
 n6 N bY p2.1 p2.2.1 p2.2.2.1 p2.2.2.2.1 p2.2.2.2.2.1 p2.2.2.2.2.2.1 p2.2.2.2.2.2.2.1 p2.2.2.2.2.2.2.2
def zP (N:Nat)(d5:List Int):Option (List Int):=
 (aS 32 d5).bind fun q=>
 some d5
def qL (N:Nat)(l1:List Int):Nat→Int→(List Int)→Option (List Int)
 |0,_,_=>none
 |m+1,dD,l2=>
  if decide (dD<32) then
   (bB 8 l1 (aQr.wrap (aQF dD 4))).bind fun x37=>
   (shr .u32 x37 (aQr.wrap (24-(aQr.wrap ((aQK dD 4)*8))))).bind fun x43=>
   (bB 32 l2 dD).bind fun x45=>
   (qL N l1 m) (aQr.wrap (dD+1)) (l2.set (aQv dD) (aQz.wrap x43))
  else
   some l2
def zM (N:Nat)(l1:List Int):Option (List Int):=
 (qL N l1 N 0 (aQs 32 0)).bind fun p3=>
 zP N p3
def qO (N:Nat)(bH:(List Int)):Nat→Int→(List Int)→Option (List Int)
 |0,_,_=>none
 |m+1,x19,l1_2=>
  if decide (x19<(aQr.wrap (aQF (bH.length:Int) 64))) then
   (aS 8 l1_2).bind fun q_1=>
   (sub bH (aQr.wrap (64*x19)) (bH.length:Int)).bind fun x26=>
   (nQ 64 x26).bind fun x27=>
   (jW N l1_2 x27).bind fun x29=>
   (aS 8 x29).bind fun q_2=>
   (qO N bH m) (aQr.wrap (x19+1)) x29
  else
   some l1_2
def wU (N:Nat)(b:List Int):Option (List Int):=
 (aBi N (aQw.wrap (b.length:Int))).bind fun dL=>
 (aAa N [b,dL]).bind fun bH=>
 (qO N bH N 0 tQ).bind fun p4=>
 zM N p4
def lX (N:Nat)(l1:List Int):Option (List Int):=
 (aS 4 l1).bind fun q=>
 some l1
def eN (N:Nat)(vh:List Int):Nat→Int→(List Int)→Option (List Int)
 |0,_,_=>none
 |m+1,x8,d5=>
  if decide (x8<32) then
   (bB 32 vh x8).bind fun bX=>
   (bB 4 d5 (aQr.wrap (3-(aQr.wrap (aQF x8 8))))).bind fun x17=>
   (shl .u64 x17 8).bind fun x19=>
   (eN N vh m) (aQr.wrap (x8+1)) (d5.set (aQv (aQr.wrap (3-(aQr.wrap (aQF x8 8))))) (bits .or .u64 x19 (aQw.wrap bX)))
  else
   some d5
def eD (N:Nat)(vh:List Int):Option (List Int):=
 (aS 32 vh).bind fun q_1=>
 (eN N vh N 0 (aQs 4 0)).bind fun p2=>
 lX N p2
def d6 (N:Nat)(vn:Int):Option (List Int):=
 some [vn,0,0,0]
def nN (N:Nat):Option (List Int):=
 some [18446744073709515503,18446744073709551615,18446744073709551615,18446744073709551615]
def xO (N:Nat):Option Int:=
 some 0
def kU (N:Nat)(va b:List Int):Nat→Int→Option (LR (Unit) (Int))
 |0,_=>none
 |m+1,vi=>
  if decide (0≤vi) then
   (bB 4 va vi).bind fun bX=>
   (bB 4 b vi).bind fun bH=>
   if decide (bX<bH) then
    some (.ret (-1))
   else
    if decide (bH<bX) then
     some (.ret 1)
    else
     (kU N va b m) (aQr.wrap (vi-1))
  else
   some (.brk ())
def lS (N:Nat)(va b:List Int):Option Int:=
 (kU N va b N 3).bind fun q=>match q with
  | .ret v=>some v
  | .brk p2=>
   xO N
def l9 (N:Nat):Option (List Int):=
 some [18446744073709533559,18446744073709551615,18446744073709551615,9223372036854775807]
def gM (N:Nat)(x_3 y4:Int):Option Int:=
 (aJh (⟨#[0,1,2,2,3,3,3,3,4,4,4,4,4,4,4,4,5,5,5,5,5,5,5,5,5,5,5,5,5,5,5,5,6,6,6,6,6,6,6,6,6,6,6,6,6,6,6,6,6,6,6,6,6,6,6,6,6,6,6,6,6,6,6,6,7,7,7,7,7,7,7,7,7,7,7,7,7,7,7,7,7,7,7,7,7,7,7,7,7,7,7,7,7,7,7,7,7,7,7,7,7,7,7,7,7,7,7,7,7,7,7,7,7,7,7,7,7,7,7,7,7,7,7,7,7,7,7,7,8,8,8,8,8,8,8,8,8,8,8,8,8,8,8,8,8,8,8,8,8,8,8,8,8,8,8,8,8,8,8,8,8,8,8,8,8,8,8,8,8,8,8,8,8,8,8,8,8,8,8,8,8,8,8,8,8,8,8,8,8,8,8,8,8,8,8,8,8,8,8,8,8,8,8,8,8,8,8,8,8,8,8,8,8,8,8,8,8,8,8,8,8,8,8,8,8,8,8,8,8,8,8,8,8,8,8,8,8,8,8,8,8,8,8,8,8,8,8,8,8,8,8,8,8,8,8,8]⟩) (aQz.wrap x_3)).bind fun bN=>
 some (aQr.wrap (y4+(aQr.wrap bN)))
def i5 (N:Nat)(x_2 cZ:Int):Option Int:=
 if decide (256≤x_2) then
  (shr .u64 x_2 8).bind fun x16=>
  gM N x16 (aQr.wrap (cZ+8))
 else
  gM N x_2 cZ
def i8 (N:Nat)(x_1 vn:Int):Option Int:=
 if decide (65536≤x_1) then
  (shr .u64 x_1 16).bind fun cC=>
  i5 N cC (aQr.wrap (vn+16))
 else
  i5 N x_1 vn
def oC (N:Nat)(x:Int):Option Int:=
 if decide (4294967296≤x) then
  (shr .u64 x 32).bind fun x6=>
  i8 N x6 32
 else
  i8 N x 0
def yG (N:Nat):Option Int:=
 some 0
def oZ (N:Nat)(va:List Int):Nat→Int→Option (LR (Unit) (Int))
 |0,_=>none
 |m+1,vi=>
  if decide (0≤vi) then
   (bB 4 va vi).bind fun x9=>
   if x9 != 0 then
    (oC N x9).bind fun x17=>
    some (.ret (aQr.wrap ((aQr.wrap (64*vi))+x17)))
   else
    (oZ N va m) (aQr.wrap (vi-1))
  else
   some (.brk ())
def aAx (N:Nat)(va:List Int):Option Int:=
 (oZ N va N 3).bind fun q=>match q with
  | .ret v=>some v
  | .brk p2=>
   yG N
def jJ (N:Nat)(x y:Int):Option (Int×Int):=
 (shr .u64 x 32).bind fun x17=>
 (shr .u64 y 32).bind fun dM=>
 (shr .u64 (aQw.wrap ((bits .and .u64 x 4294967295)*(bits .and .u64 y 4294967295))) 32).bind fun x29=>
 (shr .u64 (aQw.wrap ((aQw.wrap (x17*(bits .and .u64 y 4294967295)))+x29)) 32).bind fun fB=>
 (shr .u64 (aQw.wrap ((bits .and .u64 (aQw.wrap ((aQw.wrap (x17*(bits .and .u64 y 4294967295)))+x29)) 4294967295)+(aQw.wrap ((bits .and .u64 x 4294967295)*dM)))) 32).bind fun x46=>
 some (aQw.wrap ((aQw.wrap ((aQw.wrap (x17*dM))+fB))+x46),aQw.wrap (x*y))
def cV (N:Nat)(x y c:Int):Option (Int×Int):=pA x y c
def t3 (N:Nat)(l2:List Int):Option ((List Int)×(List Int)):=
 (aS 8 l2).bind fun q=>
 (rA l2 4 8).bind fun x63=>
 (nQ 4 x63).bind fun x64=>
 (rA l2 0 4).bind fun x66=>
 (nQ 4 x66).bind fun x67=>
 some (x64,x67)
def tW (N:Nat)(va b:List Int)(bH:Int)(rec:Int→(List Int)→Option (List Int))(pS:List Int):Option (List Int):=
 rec (aQr.wrap (bH+1)) pS
def t0 (N:Nat)(va b:List Int)(bH:Int)(rec:Int→(List Int)→Option (List Int))(iY:Int)(uX:List Int):Option (List Int):=
 (bB 8 uX (aQr.wrap (bH+4))).bind fun x61=>
 tW N va b bH rec (uX.set (aQv (aQr.wrap (bH+4))) iY)
def cD (N:Nat)(va b:List Int)(bH:Int):Nat→Int→Int→(List Int)→Option (Int×(List Int))
 |0,_,_,_=>none
 |m+1,carry_1,x17,l4_3=>
  if decide (x17<4) then
   (bB 4 va bH).bind fun bN=>
   (bB 4 b x17).bind fun x25=>
   (jJ N bN x25).bind fun x27=>
   (bB 8 l4_3 (aQr.wrap (bH+x17))).bind fun x35=>
   (cV N x27.2 x35 0).bind fun x37=>
   (cV N x37.1 carry_1 0).bind fun x46=>
   (cD N va b bH m) (aQw.wrap ((aQw.wrap (x27.1+x37.2))+x46.2)) (aQr.wrap (x17+1)) (l4_3.set (aQv (aQr.wrap (bH+x17))) x46.1)
  else
   some (carry_1,l4_3)
def iT (N:Nat)(va b:List Int):Nat→Int→(List Int)→Option (List Int)
 |0,_,_=>none
 |m+1,bH,l4=>
  if decide (bH<4) then
   (cD N va b bH N 0 0 l4).bind fun p5=>
   t0 N va b bH (iT N va b m) p5.1 p5.2
  else
   some l4
def uV (N:Nat)(va b:List Int):Option ((List Int)×(List Int)):=
 (iT N va b N 0 (aQs 8 0)).bind fun p2=>
 t3 N p2
def tN (N:Nat)(aEf:Int)(l0:List Int):Option ((List Int)×Int):=
 (aS 4 l0).bind fun q=>
 some (l0,aEf)
def kN (N:Nat):Nat→Int→Int→(List Int)→Option (Int×(List Int))
 |0,_,_,_=>none
 |m+1,low_2,x7,aL=>
  if decide (x7<4) then
   (bB 4 aL x7).bind fun dL=>
   (shl .u64 dL 1).bind fun bH=>
   (shr .u64 dL 63).bind fun bI=>
   (kN N m) bI (aQr.wrap (x7+1)) (aL.set (aQv x7) (bits .or .u64 bH low_2))
  else
   some (low_2,aL)
def oS (N:Nat)(va:List Int)(low:Int):Option ((List Int)×Int):=
 (kN N N low 0 va).bind fun p2=>
 tN N p2.1 p2.2
def nZ (N:Nat)(x y c:Int):Option (Int×Int):=aBA x y c
def uB (N:Nat)(borrow:Int)(l1:List Int):Option ((List Int)×Bool):=
 (aS 4 l1).bind fun q=>
 some (l1,borrow != 0)
def iP (N:Nat)(va b:List Int):Nat→Int→Int→(List Int)→Option (Int×(List Int))
 |0,_,_,_=>none
 |m+1,borrow_1,x9,l3=>
  if decide (x9<4) then
   (bB 4 va x9).bind fun x15=>
   (bB 4 b x9).bind fun x18=>
   (nZ N x15 x18 borrow_1).bind fun dM=>
   (bB 4 l3 x9).bind fun dO=>
   (iP N va b m) dM.2 (aQr.wrap (x9+1)) (l3.set (aQv x9) dM.1)
  else
   some (borrow_1,l3)
def o5 (N:Nat)(va b:List Int):Option ((List Int)×Bool):=
 (iP N va b N 0 0 (aQs 4 0)).bind fun p2=>
 uB N p2.1 p2.2
def xQ (N:Nat)(l0 l1:List Int):Option ((List Int)×(List Int)×Bool):=
 (aS 4 l0).bind fun q_2=>
 (aS 4 l1).bind fun q_3=>
 some (l0,l1,true)
def xP (N:Nat)(b:List Int)(b9:Int)(rec:Int→(List Int)→(List Int)→(List Int)→Option ((List Int)×(List Int)))(iZ fU jS:List Int):Option ((List Int)×(List Int)):=
 rec (aQr.wrap (b9-1)) iZ fU jS
def qY (N:Nat)(b:List Int)(b9 bit:Int)(rec:Int→(List Int)→(List Int)→(List Int)→Option (LR ((List Int)×(List Int)×(List Int)) ((List Int)×(List Int))))(aFg aFj aFl:List Int):Option (LR ((List Int)×(List Int)×(List Int)) ((List Int)×(List Int))):=
 rec (aQr.wrap (bit-1)) aFg aFj aFl
def oT (N:Nat)(b:List Int)(b9 bit:Int)(g9:List Int)(x40 x46:(List Int)×Int)(rec:Int→(List Int)→(List Int)→(List Int)→Option (LR ((List Int)×(List Int)×(List Int)) ((List Int)×(List Int))))(x56:Bool):Option (LR ((List Int)×(List Int)×(List Int)) ((List Int)×(List Int))):=
 if x56 then
  (o5 N x46.1 b).bind fun x60=>
  (aS 4 x60.1).bind fun q_8=>
  (bB 4 g9 b9).bind fun x64=>
  (shl .u64 1 bit).bind fun x67=>
  qY N b b9 bit rec x40.1 (g9.set (aQv b9) (bits .or .u64 x64 x67)) x60.1
 else
  qY N b b9 bit rec x40.1 g9 x46.1
def q7 (N:Nat)(b:List Int)(b9 bit:Int)(k9 g9 gH:List Int)(rec:Int→(List Int)→(List Int)→(List Int)→Option (LR ((List Int)×(List Int)×(List Int)) ((List Int)×(List Int))))(x37:Bool):Option (LR ((List Int)×(List Int)×(List Int)) ((List Int)×(List Int))):=
 if x37 then
  some (.ret (g9,gH))
 else
  (aS 4 k9).bind fun q_4=>
  (oS N k9 0).bind fun x40=>
  (aS 4 x40.1).bind fun q_5=>
  (aS 4 gH).bind fun q_6=>
  (oS N gH x40.2).bind fun x46=>
  (aS 4 x46.1).bind fun q_7=>
  if x46.2 != 0 then
   oT N b b9 bit g9 x40 x46 rec true
  else
   (lS N x46.1 b).bind fun x54=>
   oT N b b9 bit g9 x40 x46 rec (decide (0≤x54))
def cN (N:Nat)(b:List Int)(b9:Int):Nat→Int→(List Int)→(List Int)→(List Int)→Option (LR ((List Int)×(List Int)×(List Int)) ((List Int)×(List Int)))
 |0,_,_,_,_=>none
 |m+1,bit,k9,g9,gH=>
  if decide (0≤bit) then
   (aS 4 gH).bind fun q_9=>
   if gH == [0,0,0,0] then
    (aS 4 k9).bind fun aPs=>
    q7 N b b9 bit k9 g9 gH (cN N b b9 m) (k9 == [0,0,0,0])
   else
    q7 N b b9 bit k9 g9 gH (cN N b b9 m) false
  else
   some (.brk (k9,g9,gH))
def kY (N:Nat)(b:List Int):Nat→Int→(List Int)→(List Int)→(List Int)→Option ((List Int)×(List Int))
 |0,_,_,_,_=>none
 |m+1,b9,aL,l2,l3=>
  if decide (0≤b9) then
   (cN N b b9 N 63 aL l2 l3).bind fun q=>match q with
    | .ret p4_1=>
     some (p4_1.1,p4_1.2)
    | .brk p4=>
     xP N b b9 (kY N b m) p4.1 p4.2.1 p4.2.2
  else
   some (l2,l3)
def xK (N:Nat)(hi lo b:List Int):Option ((List Int)×(List Int)×Bool):=
 (aS 4 b).bind fun q=>
 (aS 4 hi).bind fun q_1=>
 (lS N b hi).bind fun x16=>
 if decide (x16≤0) then
  some ([0,0,0,0],[0,0,0,0],false)
 else
  (kY N b N 3 lo (aQs 4 0) hi).bind fun p2=>
  xQ N p2.1 p2.2
def o6 (N:Nat)(va vm:List Int):Option (List Int):=
 (aS 4 va).bind fun q=>
 (aS 4 vm).bind fun q_1=>
 (lS N va vm).bind fun cC=>
 if decide (cC<0) then
  some va
 else
  (xK N [0,0,0,0] va vm).bind fun x17=>
  (aS 4 x17.1).bind fun q_2=>
  (aS 4 x17.2.1).bind fun q_3=>
  some x17.2.1
def uF (N:Nat)(va b vm:List Int):Option (List Int):=
 (aS 4 vm).bind fun q=>
 if vm == [0,0,0,0] then
  some [0,0,0,0]
 else
  (aS 4 va).bind fun q_1=>
  (aS 4 b).bind fun q_2=>
  (uV N va b).bind fun x19=>
  (aS 4 x19.1).bind fun q_3=>
  (aS 4 x19.2).bind fun q_4=>
  (o6 N x19.1 vm).bind fun x25=>
  (xK N x25 x19.2 vm).bind fun x28=>
  (aS 4 x28.1).bind fun q_5=>
  (aS 4 x28.2.1).bind fun q_6=>
  some x28.2.1
def sA (N:Nat)(va b:List Int):Option (List Int):=
 (aS 4 va).bind fun q=>
 (aS 4 b).bind fun q_1=>
 (nN N).bind fun x7=>
 (uF N va b x7).bind fun x8=>
 (aS 4 x8).bind fun q_2=>
 some x8
def v5 (N:Nat)(l1:List Int):Option (List Int):=
 (aS 4 l1).bind fun q_2=>
 some l1
def pE (N:Nat)(va ve:List Int)(bX cB:Int)(rec:Int→(List Int)→Option (List Int))(jS:List Int):Option (List Int):=
 rec (aQr.wrap (cB+1)) jS
def jR (N:Nat)(va ve:List Int)(bX:Int):Nat→Int→(List Int)→Option (List Int)
 |0,_,_=>none
 |m+1,cB,l3=>
  if decide (cB<bX) then
   (aS 4 l3).bind fun q_3=>
   (sA N l3 l3).bind fun bN=>
   (aS 4 bN).bind fun q_4=>
   (bB 4 ve (aQr.wrap (aQF (aQr.wrap ((aQr.wrap (bX-1))-cB)) 64))).bind fun x25=>
   (shr .u64 x25 (aQK (aQr.wrap ((aQr.wrap (bX-1))-cB)) 64)).bind fun x29=>
   if(bits .and .u64 x29 1) == 1 then
    (aS 4 va).bind fun q_5=>
    (sA N bN va).bind fun fB=>
    (aS 4 fB).bind fun q_6=>
    pE N va ve bX cB (jR N va ve bX m) fB
   else
    pE N va ve bX cB (jR N va ve bX m) bN
  else
   some l3
def rT (N:Nat)(va ve:List Int):Option (List Int):=
 (d6 N 1).bind fun x9=>
 (aS 4 x9).bind fun q=>
 (aS 4 ve).bind fun q_1=>
 (aAx N ve).bind fun bX=>
 (jR N va ve bX N 0 x9).bind fun p2=>
 v5 N p2
def jI (N:Nat)(va:List Int)(bX:Bool):Option Bool:=
 if bX then
  some false
 else
  (aS 4 va).bind fun q=>
  (l9 N).bind fun cB=>
  (rT N va cB).bind fun bH=>
  (d6 N 1).bind fun x15=>
  (aS 4 bH).bind fun q_1=>
  (aS 4 x15).bind fun q_2=>
  some (bH == x15)
def mS (N:Nat)(va:List Int):Option Bool:=
 (aS 4 va).bind fun q_3=>
 if va == [0,0,0,0] then
  jI N va true
 else
  (nN N).bind fun x8=>
  (lS N va x8).bind fun x9=>
  jI N va (decide (0≤x9))
def uR (N:Nat)(x2:Bool):Option Bool:=
 some x2
def nX (N:Nat)(p:List Int):Option Bool:=
 (aS 4 p).bind fun q=>
 (d6 N 1).bind fun x4=>
 (aS 4 x4).bind fun q_1=>
 if !(p == x4) then
  (mS N p).bind fun x8=>
  uR N x8
 else
  uR N false
def mA (N:Nat)(va:List Int):Option Bool:=
 (aS 4 va).bind fun q=>
 (l9 N).bind fun x4=>
 (lS N va x4).bind fun x5=>
 some (decide (x5<0))
def mF (N:Nat)(cB x18:(List Int))(x29:Bool):Option ((List Int)×(List Int)×Int):=
 if x29 then
  some (aQs 4 0,aQs 4 0,5)
 else
  some (cB,x18,0)
def oY (N:Nat)(b:List Int):Option ((List Int)×(List Int)×Int):=
 if(b.length:Int) != 64 then
  some (aQs 4 0,aQs 4 0,8)
 else
  (sub b 0 32).bind fun cC=>
  (nQ 32 cC).bind fun bX=>
  (eD N bX).bind fun cB=>
  (sub b 32 (b.length:Int)).bind fun x15=>
  (nQ 32 x15).bind fun x16=>
  (eD N x16).bind fun x18=>
  (aS 4 cB).bind fun q=>
  (aS 4 x18).bind fun q_1=>
  (mA N cB).bind fun bN=>
  if !bN then
   mF N cB x18 true
  else
   (mA N x18).bind fun x27=>
   mF N cB x18 (!x27)
def q6 (N:Nat)(ve:List Int):Option (List Int):=
 (d6 N 4).bind fun x3=>
 (aS 4 ve).bind fun q=>
 (rT N x3 ve).bind fun x5=>
 (aS 4 x5).bind fun q_1=>
 some x5
def uP (N:Nat)(l1:List Int):Option (List Int):=
 (aS 32 l1).bind fun q=>
 some l1
def iX (N:Nat)(va:List Int):Nat→Int→(List Int)→Option (List Int)
 |0,_,_=>none
 |m+1,x5,l2=>
  if decide (x5<32) then
   (bB 4 va (aQr.wrap (3-(aQr.wrap (aQF x5 8))))).bind fun dL=>
   (shr .u64 dL (aQr.wrap (56-(aQr.wrap ((aQK x5 8)*8))))).bind fun x18=>
   (bB 32 l2 x5).bind fun bI=>
   (iX N va m) (aQr.wrap (x5+1)) (l2.set (aQv x5) (aQz.wrap x18))
  else
   some l2
def qN (N:Nat)(va:List Int):Option (List Int):=
 (iX N va N 0 (aQs 32 0)).bind fun p2=>
 uP N p2
def aA5 (N:Nat)(l0:List Int):Option (List Int):=
 some l0
def mC (N:Nat)(parts:List (List Int)):Nat→Int→(List Int)→Option (List Int)
 |0,_,_=>none
 |m+1,x8,aL=>
  if decide (x8<(parts.length:Int)) then
   (bS parts x8).bind fun cC=>
   (aS 32 cC).bind fun q=>
   (eM 1 aL cC).bind fun bH=>
   (mC N parts m) (aQr.wrap (x8+1)) bH
  else
   some aL
def uZ (N:Nat)(parts:List (List Int)):Option (List Int):=
 (mC N parts N 0 []).bind fun p2=>
 aA5 N p2
def wF (N:Nat)(tag:ByteArray)(b:List Int):Option (List Int):=
 (stb tag).bind fun x7=>
 (wU N x7).bind fun x8=>
 (aS 32 x8).bind fun q=>
 (aAa N [x8,x8,b]).bind fun cB=>
 (wU N cB).bind fun bH=>
 (aS 32 bH).bind fun q_1=>
 some bH
def t9 (N:Nat)(iY:Int)(l1:List Int):Option ((List Int)×Bool):=
 (aS 4 l1).bind fun q=>
 some (l1,iY != 0)
def iW (N:Nat)(va b:List Int):Nat→Int→Int→(List Int)→Option (Int×(List Int))
 |0,_,_,_=>none
 |m+1,carry_1,x9,l3=>
  if decide (x9<4) then
   (bB 4 va x9).bind fun x15=>
   (bB 4 b x9).bind fun x18=>
   (cV N x15 x18 carry_1).bind fun dM=>
   (bB 4 l3 x9).bind fun dO=>
   (iW N va b m) dM.2 (aQr.wrap (x9+1)) (l3.set (aQv x9) dM.1)
  else
   some (carry_1,l3)
def sS (N:Nat)(va b:List Int):Option ((List Int)×Bool):=
 (iW N va b N 0 0 (aQs 4 0)).bind fun p2=>
 t9 N p2.1 p2.2
def kS (N:Nat)(l1:List Int):Option (List Int):=
 (aS 4 l1).bind fun q_4=>
 some l1
def kO (N:Nat)(vm:List Int)(bI:(List Int)×Bool)(x29:Bool):Option (List Int):=
 if x29 then
  (o5 N bI.1 vm).bind fun lC=>
  (aS 4 lC.1).bind fun q_5=>
  kS N lC.1
 else
  kS N bI.1
def uA (N:Nat)(va b vm:List Int):Option (List Int):=
 (aS 4 vm).bind fun q=>
 if vm == [0,0,0,0] then
  some [0,0,0,0]
 else
  (aS 4 va).bind fun q_1=>
  (o6 N va vm).bind fun x16=>
  (aS 4 b).bind fun q_2=>
  (o6 N b vm).bind fun x19=>
  (sS N x16 x19).bind fun bI=>
  (aS 4 bI.1).bind fun q_3=>
  if bI.2 then
   kO N vm bI true
  else
   (lS N bI.1 vm).bind fun x27=>
   kO N vm bI (decide (0≤x27))
def lM (N:Nat)(va b:List Int):Option (List Int):=
 (aS 4 va).bind fun q=>
 (aS 4 b).bind fun q_1=>
 (l9 N).bind fun x7=>
 (uA N va b x7).bind fun x8=>
 (aS 4 x8).bind fun q_2=>
 some x8
def nB (N:Nat)(vh:List Int):Option (List Int):=
 (aS 32 vh).bind fun q=>
 (eD N vh).bind fun x4=>
 (lM N x4 [0,0,0,0]).bind fun x6=>
 (aS 4 x6).bind fun q_1=>
 some x6
def kP (N:Nat)(vr p vm:List Int):Option (List Int):=
 (aS 4 vr).bind fun q=>
 (qN N vr).bind fun x8=>
 (aS 4 p).bind fun q_1=>
 (qN N p).bind fun cC=>
 (aS 32 vm).bind fun q_2=>
 (aS 32 x8).bind fun q_3=>
 (aS 32 cC).bind fun q_4=>
 (uZ N [x8,cC,vm]).bind fun cB=>
 (wF N (⟨#[108,105,103,104,116,99,108,105,101,110,116,47,99,104,97,108,108,101,110,103,101]⟩) cB).bind fun bH=>
 (nB N bH).bind fun x15=>
 (aS 4 x15).bind fun q_5=>
 some x15
def g8 (N:Nat)(p vm s_E s_S:List Int)(dO:Bool):Option Bool:=
 if dO then
  some false
 else
  (l9 N).bind fun x26=>
  (aS 4 s_E).bind fun q=>
  (o5 N x26 s_E).bind fun x29=>
  (aS 4 x29.1).bind fun q_1=>
  (aS 4 s_S).bind fun q_2=>
  (q6 N s_S).bind fun fB=>
  (aS 4 p).bind fun q_3=>
  (rT N p x29.1).bind fun x37=>
  (sA N fB x37).bind fun x38=>
  (aS 4 x38).bind fun q_4=>
  (aS 32 vm).bind fun q_5=>
  (kP N x38 p vm).bind fun x44=>
  (aS 4 x44).bind fun q_6=>
  some (s_E == x44)
def oX (N:Nat)(p vm s_E s_S:List Int):Option Bool:=
 (aS 4 s_E).bind fun q_7=>
 (mA N s_E).bind fun dL=>
 if !dL then
  g8 N p vm s_E s_S true
 else
  (aS 4 s_S).bind fun q_8=>
  (mA N s_S).bind fun x17=>
  if !x17 then
   g8 N p vm s_E s_S true
  else
   (aS 4 p).bind fun q_9=>
   (nX N p).bind fun bN=>
   g8 N p vm s_E s_S (!bN)
def eP (N:Nat)(aB:List Int)(aD aI:Int)(aF:List (List Int))(aC:List aG)(aP:Int)(x40:Bool):Option Int:=
 if x40 then
  some 61
 else
  some 0
def cE (N:Nat)(aB:List Int)(aD aI:Int)(aF:List (List Int))(aC:List aG)(aP:Int)(key yH:List Int):Option Int:=
 if(key.length:Int) != 32 then
  some 60
 else
  (nQ 32 key).bind fun bH=>
  (eD N bH).bind fun x16=>
  (aS 4 x16).bind fun q=>
  (nX N x16).bind fun x18=>
  if !x18 then
   some 60
  else
   if(yH.length:Int) == 0 then
    some 0
   else
    (oY N yH).bind fun x25=>
    if x25.2.2 != 0 then
     eP N aB aD aI aF aC aP true
    else
     (aS 32 aB).bind fun q_1=>
     (oX N x16 aB x25.1 x25.2.1).bind fun x38=>
     eP N aB aD aI aF aC aP (!x38)
def j5 (N:Nat)(aB:List Int)(aD aI:Int)(aF:List (List Int))(aC:List aG)(aP dS vn count:Int):Option (Int×(List Int)×Int×Int×(List (List Int))×(List aG)×Int):=
 (jF N (decide (dS≤count))).bind fun x76=>
 (cJ N aB aD aI aF aC aP (aQr.wrap (2*vn)) x76).bind fun x77=>
 some (0,x77.1,x77.2.1,x77.2.2.1,x77.2.2.2.1,x77.2.2.2.2.1,x77.2.2.2.2.2)
def gB (N:Nat)(aB:List Int)(aD aI:Int)(aF:List (List Int))(aC:List aG)(aP dS vn:Int)(fR x43:List (List Int))(x45:Int)(rec:Int→Int→Option (LR (Int) (Int×(List Int)×Int×Int×(List (List Int))×(List aG)×Int)))(z7:Int):Option (LR (Int) (Int×(List Int)×Int×Int×(List (List Int))×(List aG)×Int)):=
 rec z7 (aQr.wrap (x45+1))
def cL (N:Nat)(aB:List Int)(aD aI:Int)(aF:List (List Int))(aC:List aG)(aP dS vn:Int)(fR x43:List (List Int)):Nat→Int→Int→Option (LR (Int) (Int×(List Int)×Int×Int×(List (List Int))×(List aG)×Int))
 |0,_,_=>none
 |m+1,count_1,x45=>
  if decide (x45<vn) then
   (bS fR x45).bind fun x51=>
   (bS x43 x45).bind fun x55=>
   (cE N aB aD aI aF aC aP x51 x55).bind fun x57=>
   if x57 != 0 then
    some (.ret (x57,aB,aD,aI,aF,aC,aP))
   else
    if decide (0<(x55.length:Int)) then
     gB N aB aD aI aF aC aP dS vn fR x43 x45 (cL N aB aD aI aF aC aP dS vn fR x43 m) (aQr.wrap (count_1+1))
    else
     gB N aB aD aI aF aC aP dS vn fR x43 x45 (cL N aB aD aI aF aC aP dS vn fR x43 m) count_1
  else
   some (.brk count_1)
def fX (N:Nat)(aB:List Int)(aD aI:Int)(aF:List (List Int))(aC:List aG)(aP dS vn:Int):Option (Int×(List Int)×Int×Int×(List (List Int))×(List aG)×Int):=
 (rA aF (aQr.wrap ((aF.length:Int)-vn)) (aF.length:Int)).bind fun fR=>
 (rA aF (aQr.wrap ((aF.length:Int)-(aQr.wrap (2*vn)))) (aQr.wrap ((aF.length:Int)-vn))).bind fun x43=>
 (cL N aB aD aI aF aC aP dS vn fR x43 N 0 0).bind fun q=>match q with
  | .ret v=>some v
  | .brk p2=>
   j5 N aB aD aI aF aC aP dS vn p2
def qR (N:Nat)(vn:Int):Option (Int×Int):=
 some (vn,0)
def eY (N:Nat)(b:List Int):Nat→Int→Int→Option Int
 |0,_,_=>none
 |m+1,cZ,x26=>
  if decide (x26<(b.length:Int)) then
   (bS b x26).bind fun x29=>
   (shl .u32 (aQt.wrap x29) (aQr.wrap (8*x26))).bind fun x36=>
   (eY N b m) (bits .or .u32 cZ x36) (aQr.wrap (x26+1))
  else
   some cZ
def eH (N:Nat)(b:List Int)(fR:Bool):Option (Int×Int):=
 if fR then
  some (0,82)
 else
  (eY N b N 0 0).bind fun p3=>
  qR N p3
def gO (N:Nat)(b:List Int):Option (Int×Int):=
 if decide (4<(b.length:Int)) then
  eH N b true
 else
  if decide (0<(b.length:Int)) then
   (bS b (aQr.wrap ((b.length:Int)-1))).bind fun x19=>
   eH N b (x19 == 0)
  else
   eH N b false
def j8 (N:Nat)(eJ:List Int)(now:Int):Option Int:=
 (gO N eJ).bind fun x9=>
 if x9.2 != 0 then
  some x9.2
 else
  if decide (now<(aQr.wrap x9.1)) then
   some 85
  else
   some 0
def cP (N:Nat)(c0:List Int)(rU rZ rC:Int)(l3:List (List Int))(l4:List aG):Option (Int×(List Int)×Int×Int×(List (List Int))×(List aG)×Int):=
 some (0,c0,rU,rZ,l3,l4,rC)
def jT (N:Nat)(aB:List Int)(aD aI:Int)(aF:List (List Int))(aC:List aG)(aP aQ:Int)(bM:List Int)(dJ dC:Int):Option (Int×(List Int)×Int×Int×(List (List Int))×(List aG)×Int):=
 if aQ == 1 then
  (fL N aB aD aI aF aC aP bM).bind fun bH=>
  some (bH.1,bH.2.1,bH.2.2.1,bH.2.2.2.1,bH.2.2.2.2.1,bH.2.2.2.2.2.1,bH.2.2.2.2.2.2)
 else
  if aQ == 2 then
   (bZ N aB aD aI aF aC aP).bind fun x19=>
   (fL N aB aD aI aF aC aP x19).bind fun bI=>
   some (bI.1,bI.2.1,bI.2.2.1,bI.2.2.2.1,bI.2.2.2.2.1,bI.2.2.2.2.2.1,bI.2.2.2.2.2.2)
  else
   if aQ == 3 then
    (dI N aB aD aI aF aC aP 1).bind fun dO=>
    cP N dO.1 dO.2.1 dO.2.2.1 dO.2.2.2.2.2 dO.2.2.2.1 dO.2.2.2.2.1
   else
    if aQ == 4 then
     (bS aF (aQr.wrap ((aF.length:Int)-2))).bind fun x50=>
     (bS aF (aQr.wrap ((aF.length:Int)-1))).bind fun x58=>
     (bS (aF.set (aQv (aQr.wrap ((aF.length:Int)-1))) x50) (aQr.wrap ((aF.length:Int)-2))).bind fun x61=>
     cP N aB aD aI aP ((aF.set (aQv (aQr.wrap ((aF.length:Int)-1))) x50).set (aQv (aQr.wrap ((aF.length:Int)-2))) x58) aC
    else
     if aQ == 5 then
      (bZ N aB aD aI aF aC aP).bind fun x66=>
      (bS aF (aQr.wrap ((aF.length:Int)-2))).bind fun x77=>
      (yF N x66 x77).bind fun x79=>
      (jF N x79).bind fun x80=>
      (cJ N aB aD aI aF aC aP 2 x80).bind fun x81=>
      cP N x81.1 x81.2.1 x81.2.2.1 x81.2.2.2.2.2 x81.2.2.2.1 x81.2.2.2.2.1
     else
      if aQ == 6 then
       (bZ N aB aD aI aF aC aP).bind fun x86=>
       (jL N x86).bind fun x87=>
       (jF N (!x87)).bind fun x89=>
       (cJ N aB aD aI aF aC aP 1 x89).bind fun x90=>
       cP N x90.1 x90.2.1 x90.2.2.1 x90.2.2.2.2.2 x90.2.2.2.1 x90.2.2.2.2.1
      else
       if aQ == 7 then
        (bZ N aB aD aI aF aC aP).bind fun x94=>
        (jL N x94).bind fun x95=>
        if !x95 then
         some (84,aB,aD,aI,aF,aC,aP)
        else
         (dI N aB aD aI aF aC aP 1).bind fun x98=>
         cP N x98.1 x98.2.1 x98.2.2.1 x98.2.2.2.2.2 x98.2.2.2.1 x98.2.2.2.2.1
       else
        if aQ == 8 then
         (bZ N aB aD aI aF aC aP).bind fun aFq=>
         (wU N aFq).bind fun aDD=>
         (aS 32 aDD).bind fun q=>
         (cJ N aB aD aI aF aC aP 1 aDD).bind fun rO=>
         cP N rO.1 rO.2.1 rO.2.2.1 rO.2.2.2.2.2 rO.2.2.2.1 rO.2.2.2.2.1
        else
         if aQ == 9 then
          (bZ N aB aD aI aF aC aP).bind fun aG5=>
          (eU N (aQt.wrap (aG5.length:Int))).bind fun aFa=>
          (fL N aB aD aI aF aC aP aFa).bind fun aCf=>
          some (aCf.1,aCf.2.1,aCf.2.2.1,aCf.2.2.2.1,aCf.2.2.2.2.1,aCf.2.2.2.2.2.1,aCf.2.2.2.2.2.2)
         else
          if aQ == 10 then
           (fX N aB aD aI aF aC aP 1 1).bind fun aCL=>
           some (aCL.1,aCL.2.1,aCL.2.2.1,aCL.2.2.2.1,aCL.2.2.2.2.1,aCL.2.2.2.2.2.1,aCL.2.2.2.2.2.2)
          else
           if aQ == 11 then
            (fX N aB aD aI aF aC aP dJ dC).bind fun aCq=>
            some (aCq.1,aCq.2.1,aCq.2.2.1,aCq.2.2.2.1,aCq.2.2.2.2.1,aCq.2.2.2.2.2.1,aCq.2.2.2.2.2.2)
           else
            if aQ == 12 then
             (bZ N aB aD aI aF aC aP).bind fun aOz=>
             (j8 N aOz aD).bind fun aN9=>
             some (aN9,aB,aD,aI,aF,aC,aP)
            else
             if aQ == 13 then
              (bZ N aB aD aI aF aC aP).bind fun aOk=>
              (j8 N aOk aI).bind fun aCA=>
              some (aCA,aB,aD,aI,aF,aC,aP)
             else
              if aQ == 17 then
               some (84,aB,aD,aI,aF,aC,aP)
              else
               cP N aB aD aI aP aF aC
def eK (N:Nat)(rU:List Int)(rZ rC wT:Int)(l3:List (List Int))(l4:List aG):Option (Int×(List Int)×Int×Int×(List (List Int))×(List aG)×Int):=
 some (0,rU,rZ,rC,l3,l4,wT)
def iS (N:Nat)(aB:List Int)(aD aI:Int)(aF:List (List Int))(counted:Bool)(c0:Int)(jS:List aG):Option (Int×(List Int)×Int×Int×(List (List Int))×(List aG)×Int):=
 if counted then
  (dI N aB aD aI aF jS c0 1).bind fun x86=>
  eK N x86.1 x86.2.1 x86.2.2.1 x86.2.2.2.2.2 x86.2.2.2.1 x86.2.2.2.2.1
 else
  eK N aB aD aI c0 aF jS
def fH (N:Nat)(aB:List Int)(aD aI:Int)(aF:List (List Int))(aC:List aG)(aQ:Int)(bM:List Int)(dJ dC:Int)(counted:Bool)(c0:Int):Option (Int×(List Int)×Int×Int×(List (List Int))×(List aG)×Int):=
 if aQ == 14 then
  if counted then
   (bZ N aB aD aI aF aC c0).bind fun x76=>
   (jL N x76).bind fun x77=>
   (eM 2 aC [(aG.mk counted x77)]).bind fun x81=>
   iS N aB aD aI aF counted c0 x81
  else
   (eM 2 aC [(aG.mk counted false)]).bind fun aJu=>
   iS N aB aD aI aF counted c0 aJu
 else
  if aQ == 15 then
   (bS aC (aQr.wrap ((aC.length:Int)-1))).bind fun x99=>
   eK N aB aD aI c0 aF (aC.set (aQv (aQr.wrap ((aC.length:Int)-1))) (aG.mk x99.outer (!x99.taken)))
  else
   if aQ == 16 then
    (sub aC 0 (aQr.wrap ((aC.length:Int)-1))).bind fun aCF=>
    eK N aB aD aI c0 aF aCF
   else
    if counted then
     (jT N aB aD aI aF aC c0 aQ bM dJ dC).bind fun x64=>
     some (x64.1,x64.2.1,x64.2.2.1,x64.2.2.2.1,x64.2.2.2.2.1,x64.2.2.2.2.2.1,x64.2.2.2.2.2.2)
    else
     eK N aB aD aI c0 aF aC
def fE (N:Nat)(aB:List Int)(aD aI:Int)(aF:List (List Int))(aC:List aG)(aP aQ:Int)(bM:List Int)(dJ dC:Int)(counted:Bool):Option (Int×(List Int)×Int×Int×(List (List Int))×(List aG)×Int):=
 if counted then
  (sV N aQ bM dJ dC).bind fun x36=>
  if decide (500<(aQr.wrap (aP+x36))) then
   some (83,aB,aD,aI,aF,aC,aQr.wrap (aP+x36))
  else
   (rY N aQ bM dJ dC).bind fun x51=>
   if decide ((aF.length:Int)<x51) then
    some (81,aB,aD,aI,aF,aC,aQr.wrap (aP+x36))
   else
    fH N aB aD aI aF aC aQ bM dJ dC counted (aQr.wrap (aP+x36))
 else
  fH N aB aD aI aF aC aQ bM dJ dC counted aP
def fG (N:Nat)(aB:List Int)(aD aI:Int)(aF:List (List Int))(aC:List aG)(aP aQ:Int)(bM:List Int)(dJ dC:Int)(x8 x16:Bool):Option (Int×(List Int)×Int×Int×(List (List Int))×(List aG)×Int):=
 if x16 then
  (bS aC (aQr.wrap ((aC.length:Int)-1))).bind fun x27=>
  fE N aB aD aI aF aC aP aQ bM dJ dC x27.outer
 else
  fE N aB aD aI aF aC aP aQ bM dJ dC x8
def fN (N:Nat)(aB:List Int)(aD aI:Int)(aF:List (List Int))(aC:List aG)(aP aQ:Int)(bM:List Int)(dJ dC:Int):Option (Int×(List Int)×Int×Int×(List (List Int))×(List aG)×Int):=
 (lN N aB aD aI aF aC aP).bind fun x8=>
 if aQ == 15 then
  fG N aB aD aI aF aC aP aQ bM dJ dC x8 true
 else
  fG N aB aD aI aF aC aP aQ bM dJ dC x8 (aQ == 16)
def uQ (N:Nat)(c0:List Int)(rU rZ rC:Int)(l1:List (List Int))(l2:List aG):Option ((List (List Int))×Int×Int):=
 (nI N l1).bind fun x47=>
 some (x47,rC,0)
def kD (N:Nat)(x17:(List aK)×Int):Nat→Int→(List Int)→Int→Int→Int→(List (List Int))→(List aG)→Option (LR ((List Int)×Int×Int×Int×(List (List Int))×(List aG)) ((List (List Int))×Int×Int))
 |0,_,_,_,_,_,_,_=>none
 |m+1,x35,wT,c0_5,c0_6,c0_7,fU,l3=>
  if decide (x35<(x17.1.length:Int)) then
   (bS x17.1 x35).bind fun x37=>
   (fN N wT c0_5 c0_6 fU l3 c0_7 x37.Code x37.Data x37.M x37.N).bind fun x40=>
   if x40.1 != 0 then
    some (.ret ([],0,x40.1))
   else
    (kD N x17 m) (aQr.wrap (x35+1)) x40.2.1 x40.2.2.1 x40.2.2.2.1 x40.2.2.2.2.2.2 x40.2.2.2.2.1 x40.2.2.2.2.2.1
  else
   some (.brk (wT,c0_5,c0_6,c0_7,fU,l3))
def tB (N:Nat)(b:List Int)(stack:List (List Int))(fI:List Int)(iI pD:Int):Option ((List (List Int))×Int×Int):=
 (rN N b).bind fun x17=>
 if x17.2 != 0 then
  some ([],0,x17.2)
 else
  (qU N x17.1).bind fun dO=>
  if !dO then
   some ([],0,86)
  else
   (pO N stack).bind fun x27=>
   if !x27 then
    some ([],0,4)
   else
    (nI N stack).bind fun dD=>
    (kD N x17 N 0 fI iI pD 0 dD []).bind fun q=>match q with
     | .ret v=>some v
     | .brk p2=>
      uQ N p2.1 p2.2.1 p2.2.2.1 p2.2.2.2.1 p2.2.2.2.2.1 p2.2.2.2.2.2
def kC (N:Nat)(x0:Bool):Option Bool:=
 some x0
def zO (N:Nat):Option Bool:=
 (tB N [2,5] [[7]] (aQs 32 0) 0 0).bind fun bX=>
 (gO N [1,0]).bind fun x17=>
 if bX.2.2 == 0 then
  if bX.2.1 == 2 then
   if(bX.1.length:Int) == 1 then
    (bS bX.1 0).bind fun lC=>
    if(lC.length:Int) == 1 then
     if x17.2 == 82 then
      (eU N 0).bind fun x43=>
      kC N ((x43.length:Int) == 0)
     else
      kC N false
    else
     kC N false
   else
    kC N false
  else
   kC N false
 else
  kC N false
def aA1 (N:Nat):Option Bool:=
 some true
def l6 (N:Nat)(l:List aK):Nat→Int→Option (LR (Unit) (Bool))
 |0,_=>none
 |m+1,cB=>
  if decide (cB<(l.length:Int)) then
   (bS l cB).bind fun x15=>
   if decide (300<(x15.Data.length:Int)) then
    some (.ret false)
   else
    (l6 N l m) (aQr.wrap (cB+1))
  else
   some (.brk ())
def aAu (N:Nat)(l:List aK)(vn:Int):Option Bool:=
 if decide (vn<(l.length:Int)) then
  some false
 else
  (l6 N l N 0).bind fun q=>match q with
   | .ret v=>some v
   | .brk p2=>
    aA1 N
def y6 (N:Nat):Option Bool:=
 some true
def kB (N:Nat)(l:List (List Int))(vm:Int):Nat→Int→Option (LR (Unit) (Bool))
 |0,_=>none
 |m+1,x15=>
  if decide (x15<(l.length:Int)) then
   (bS l x15).bind fun x17=>
   if decide (vm<(x17.length:Int)) then
    some (.ret false)
   else
    (kB N l vm m) (aQr.wrap (x15+1))
  else
   some (.brk ())
def vG (N:Nat)(l:List (List Int))(vn vm:Int):Option Bool:=
 if decide (vn<(l.length:Int)) then
  some false
 else
  (kB N l vm N 0).bind fun q=>match q with
   | .ret v=>some v
   | .brk p2=>
    y6 N
def eR (N:Nat)(x40:Bool):Option Int:=
 if x40 then
  some 5
 else
  some 0
def d7 (N:Nat)(aJ:Int)(aX:List Int)(o_M o_N:Int)(dL:Bool):Option Int:=
 if dL then
  some 6
 else
  if decide (255<(aX.length:Int)) then
   some 4
  else
   if aJ == 11 then
    if decide (o_N<1) then
     eR N true
    else
     if decide (15<o_N) then
      eR N true
     else
      if decide (o_M<1) then
       eR N true
      else
       eR N (decide (o_N<o_M))
   else
    eR N false
def hY (N:Nat)(aJ:Int)(aX:List Int)(o_M o_N:Int)(aBE:Bool):Option Int:=
 if aBE then
  d7 N aJ aX o_M o_N aBE
 else
  if o_M != 0 then
   d7 N aJ aX o_M o_N (aJ != 11)
  else
   if o_N != 0 then
    d7 N aJ aX o_M o_N (aJ != 11)
   else
    d7 N aJ aX o_M o_N false
def hH (N:Nat)(aJ:Int)(aX:List Int)(o_M o_N:Int)(x3:Bool):Option Int:=
 if x3 then
  some 80
 else
  if decide (0<(aX.length:Int)) then
   hY N aJ aX o_M o_N (aJ != 1)
  else
   hY N aJ aX o_M o_N false
def gT (N:Nat)(aJ:Int)(aX:List Int)(o_M o_N:Int):Option Int:=
 if decide (aJ<1) then
  hH N aJ aX o_M o_N true
 else
  hH N aJ aX o_M o_N (decide (17<aJ))
def wJ (N:Nat)(va b:List Int):Option (List Int):=
 (mks 1 0 (aQr.wrap ((va.length:Int)+(b.length:Int)))).bind fun bX=>
 (eM 1 (bX.take 0) va).bind fun bH=>
 (eM 1 bH b).bind fun x16=>
 some x16
def zI (N:Nat)(l0:List Int):Option (List Int):=
 some l0
def kG (N:Nat)(l:List (List Int)):Nat→Int→(List Int)→Option (List Int)
 |0,_,_=>none
 |m+1,x8,aL=>
  if decide (x8<(l.length:Int)) then
   (bS l x8).bind fun cC=>
   (wJ N aL cC).bind fun bH=>
   (kG N l m) (aQr.wrap (x8+1)) bH
  else
   some aL
def k5 (N:Nat)(l:List (List Int)):Option (List Int):=
 (kG N l N 0 []).bind fun p2=>
 zI N p2
def s6 (N:Nat)(aJ:Int)(aX:List Int)(o_M o_N:Int):Option (List Int):=
 if aJ == 1 then
  (k5 N [[1,aQz.wrap (aX.length:Int)],aX]).bind fun x15=>
  some x15
 else
  if aJ == 11 then
   some [11,aQz.wrap o_M,aQz.wrap o_N]
  else
   some [aQz.wrap aJ]
def tS (N:Nat)(l0:List Int):Option ((List Int)×Int):=
 some (l0,0)
def iH (N:Nat)(l:List aK):Nat→Int→(List Int)→Option (LR ((List Int)) ((List Int)×Int))
 |0,_,_=>none
 |m+1,dO,aL=>
  if decide (dO<(l.length:Int)) then
   (bS l dO).bind fun x26=>
   (s6 N x26.Code x26.Data x26.M x26.N).bind fun mX=>
   (eM 1 aL mX).bind fun dD=>
   if decide (520<(dD.length:Int)) then
    some (.ret ([],4))
   else
    (iH N l m) (aQr.wrap (dO+1)) dD
  else
   some (.brk aL)
def lW (N:Nat)(l:List aK):Option ((List Int)×Int):=
 (iH N l N 0 []).bind fun q=>match q with
  | .ret v=>some v
  | .brk p3=>
   tS N p3
def iJ (N:Nat)(l:List aK):Nat→Int→Option (LR (Unit) ((List Int)×Int))
 |0,_=>none
 |m+1,dL=>
  if decide (dL<(l.length:Int)) then
   (bS l dL).bind fun bH=>
   (gT N bH.Code bH.Data bH.M bH.N).bind fun x17=>
   if x17 != 0 then
    some (.ret ([],x17))
   else
    (iJ N l m) (aQr.wrap (dL+1))
  else
   some (.brk ())
def pU (N:Nat)(l:List aK):Option ((List Int)×Int):=
 (iJ N l N 0).bind fun q=>match q with
  | .ret v=>some v
  | .brk p4=>
   lW N l
def lB (N:Nat)(x8:Int)(b_1:List Int)(c1 xI:Int)(l2:List Int):Option (Int×(List Int)×Int×Int×(List Int)×Int):=
 (gT N (aQr.wrap x8) l2 c1 xI).bind fun x76=>
 some (aQr.wrap x8,l2,c1,xI,b_1,x76)
def r9 (N:Nat)(x8:Int)(bN:List Int)(x39:Bool):Option (Int×(List Int)×Int×Int×(List Int)×Int):=
 if x39 then
  some (0,[],0,0,[],1)
 else
  (bS bN 0).bind fun x42=>
  (sub bN 1 (aQr.wrap (1+(aQr.wrap x42)))).bind fun x48=>
  (k5 N [x48]).bind fun x50=>
  (sub bN (aQr.wrap (1+(aQr.wrap x42))) (bN.length:Int)).bind fun x53=>
  lB N x8 x53 0 0 x50
def r6 (N:Nat)(b:List Int)(x8:Int)(x19:Bool):Option (Int×(List Int)×Int×Int×(List Int)×Int):=
 if x19 then
  some (0,[],0,0,[],80)
 else
  (sub b 1 (b.length:Int)).bind fun bN=>
  if(aQr.wrap x8) == 1 then
   if(bN.length:Int) == 0 then
    r9 N x8 bN true
   else
    (bS bN 0).bind fun x35=>
    r9 N x8 bN (decide ((aQr.wrap ((bN.length:Int)-1))<(aQr.wrap x35)))
  else
   if(aQr.wrap x8) == 11 then
    if decide ((bN.length:Int)<2) then
     some (0,[],0,0,[],1)
    else
     (bS bN 0).bind fun x62=>
     (bS bN 1).bind fun x66=>
     (sub bN 2 (bN.length:Int)).bind fun x70=>
     lB N x8 x70 (aQr.wrap x62) (aQr.wrap x66) []
   else
    lB N x8 bN 0 0 []
def yQ (N:Nat)(b:List Int):Option (Int×(List Int)×Int×Int×(List Int)×Int):=
 (bS b 0).bind fun x8=>
 if decide ((aQr.wrap x8)<1) then
  r6 N b x8 true
 else
  r6 N b x8 (decide (17<(aQr.wrap x8)))
def xB (N:Nat)(l0:List aK):Option ((List aK)×Int):=
 some (l0,0)
def kM (N:Nat):Nat→(List Int)→(List aK)→Option (LR ((List aK)) ((List aK)×Int))
 |0,_,_=>none
 |m+1,b_1,aL=>
  if decide (0<(b_1.length:Int)) then
   (yQ N b_1).bind fun x16=>
   if x16.2.2.2.2.2 != 0 then
    some (.ret ([],x16.2.2.2.2.2))
   else
    (eM 48 aL [(aK.mk x16.1 x16.2.1 x16.2.2.1 x16.2.2.2.1)]).bind fun x26=>
    (kM N m) x16.2.2.2.2.1 x26
  else
   some (.brk aL)
def uJ (N:Nat)(b:List Int):Option ((List aK)×Int):=
 if decide (520<(b.length:Int)) then
  some ([],4)
 else
  (kM N N b []).bind fun q=>match q with
   | .ret v=>some v
   | .brk p2=>
    xB N p2
def v4 (N:Nat)(l0:List Bool):Option Bool:=
 some ((l0.length:Int) == 0)
def jN (N:Nat)(l:List aK)(x8:Int)(rec:Int→(List Bool)→Option (LR ((List Bool)) (Bool)))(iZ:List Bool):Option (LR ((List Bool)) (Bool)):=
 rec (aQr.wrap (x8+1)) iZ
def oI (N:Nat)(l:List aK)(x8:Int)(aL:List Bool)(rec:Int→(List Bool)→Option (LR ((List Bool)) (Bool)))(dD:Bool):Option (LR ((List Bool)) (Bool)):=
 if dD then
  some (.ret false)
 else
  (bS aL (aQr.wrap ((aL.length:Int)-1))).bind fun x36=>
  jN N l x8 rec (aL.set (aQv (aQr.wrap ((aL.length:Int)-1))) true)
def dE (N:Nat)(l:List aK):Nat→Int→(List Bool)→Option (LR ((List Bool)) (Bool))
 |0,_,_=>none
 |m+1,x8,aL=>
  if decide (x8<(l.length:Int)) then
   (bS l x8).bind fun cC=>
   if cC.Code == 14 then
    (eM 1 aL [false]).bind fun x18=>
    jN N l x8 (dE N l m) x18
   else
    if cC.Code == 15 then
     if(aL.length:Int) == 0 then
      oI N l x8 aL (dE N l m) true
     else
      (bS aL (aQr.wrap ((aL.length:Int)-1))).bind fun x29=>
      oI N l x8 aL (dE N l m) x29
    else
     if cC.Code == 16 then
      if(aL.length:Int) == 0 then
       some (.ret false)
      else
       (sub aL 0 (aQr.wrap ((aL.length:Int)-1))).bind fun x46=>
       jN N l x8 (dE N l m) x46
     else
      jN N l x8 (dE N l m) aL
  else
   some (.brk aL)
def sF (N:Nat)(l:List aK):Option Bool:=
 (dE N l N 0 []).bind fun q=>match q with
  | .ret v=>some v
  | .brk p2=>
   v4 N p2
def yW (N:Nat):Option Bool:=
 some false
def kA (N:Nat)(vs:List (List Int)):Nat→Int→Option (LR (Unit) (Bool))
 |0,_=>none
 |m+1,cC=>
  if decide (cC<(vs.length:Int)) then
   (bS vs cC).bind fun dL=>
   if decide (520<(dL.length:Int)) then
    some (.ret true)
   else
    (kA N vs m) (aQr.wrap (cC+1))
  else
   some (.brk ())
def vV (N:Nat)(vs:List (List Int)):Option Bool:=
 if decide (64<(vs.length:Int)) then
  some true
 else
  (kA N vs N 0).bind fun q=>match q with
   | .ret v=>some v
   | .brk p2=>
    yW N
def wB (N:Nat)(l0:List (List Int)):Option (List (List Int)):=
 some l0
def iK (N:Nat)(l:List (List Int)):Nat→Int→(List (List Int))→Option (List (List Int))
 |0,_,_=>none
 |m+1,bX,aL=>
  if decide (bX<(l.length:Int)) then
   (bS l bX).bind fun cB=>
   (k5 N [cB]).bind fun x18=>
   (eM 24 aL [x18]).bind fun bI=>
   (iK N l m) (aQr.wrap (bX+1)) bI
  else
   some aL
def rL (N:Nat)(l:List (List Int)):Option (List (List Int)):=
 (mks 24 ([]:List Int) (l.length:Int)).bind fun x8=>
 (iK N l N 0 []).bind fun p2=>
 wB N p2
def lL (N:Nat)(x2:Bool):Option Bool:=
 some x2
def sI (N:Nat)(l:List aR):Option Bool:=
 if(l.length:Int) == 0 then
  lL N true
 else
  (bS l (aQr.wrap ((l.length:Int)-1))).bind fun bX=>
  if bX.reached then
   lL N bX.done
  else
   lL N false
def xZ (N:Nat)(aJ:Int)(aX:List Int)(o_M o_N:Int):Option Int:=
 if aJ == 8 then
  some 6
 else
  if aJ == 10 then
   some 21
  else
   if aJ == 11 then
    some (aQr.wrap (1+(aQr.wrap (20*o_N))))
   else
    some 1
def mD (N:Nat)(aJ:Int)(aX:List Int)(o_M o_N:Int)(x15:Bool):Option Int:=
 if x15 then
  some 2
 else
  if aJ == 11 then
   some (aQr.wrap (2*o_N))
  else
   some 0
def d8 (N:Nat)(aJ:Int)(aX:List Int)(o_M o_N:Int)(x5:Bool):Option Int:=
 if x5 then
  some 1
 else
  if aJ == 4 then
   mD N aJ aX o_M o_N (aJ == 4)
  else
   if aJ == 5 then
    mD N aJ aX o_M o_N (aJ == 5)
   else
    mD N aJ aX o_M o_N (aJ == 10)
def t7 (N:Nat)(aJ:Int)(aX:List Int)(o_M o_N:Int):Option Int:=
 if aJ == 2 then
  d8 N aJ aX o_M o_N (aJ == 2)
 else
  if aJ == 3 then
   d8 N aJ aX o_M o_N (aJ == 3)
  else
   if aJ == 6 then
    d8 N aJ aX o_M o_N (aJ == 6)
   else
    if aJ == 7 then
     d8 N aJ aX o_M o_N (aJ == 7)
    else
     if aJ == 8 then
      d8 N aJ aX o_M o_N (aJ == 8)
     else
      if aJ == 9 then
       d8 N aJ aX o_M o_N (aJ == 9)
      else
       if aJ == 12 then
        d8 N aJ aX o_M o_N (aJ == 12)
       else
        if aJ == 13 then
         d8 N aJ aX o_M o_N (aJ == 13)
        else
         d8 N aJ aX o_M o_N (aJ == 14)
def yY (N:Nat):Option Bool:=
 some false
def lP (N:Nat)(b:List Int):Nat→Int→Option (LR (Unit) (Bool))
 |0,_=>none
 |m+1,x7=>
  if decide (x7<(b.length:Int)) then
   (bS b x7).bind fun x9=>
   if x9 != 0 then
    some (.ret true)
   else
    (lP N b m) (aQr.wrap (x7+1))
  else
   some (.brk ())
def nY (N:Nat)(b:List Int):Option Bool:=
 (lP N b N 0).bind fun q=>match q with
  | .ret v=>some v
  | .brk p2=>
   yY N
def lD (N:Nat)(vs:List (List Int))(eJ:List Int):Option ((List (List Int))×Int):=
 if decide (64≤(vs.length:Int)) then
  some ([],4)
 else
  (sub vs 0 (vs.length:Int)).bind fun bH=>
  (eM 24 bH [eJ]).bind fun x17=>
  some (x17,0)
def tF (N:Nat)(va b:List Int):Option Bool:=
 some ((nP va).toList == (nP b).toList)
def zC (N:Nat)(l0:List Int):Option (List Int):=
 some l0
def lR (N:Nat):Nat→Int→(List Int)→Option (List Int)
 |0,_,_=>none
 |m+1,cZ,aL=>
  if decide (0<cZ) then
   (eM 1 aL [aQz.wrap cZ]).bind fun dL=>
   (lR N m) (aQt.wrap (aQF cZ 256)) dL
  else
   some aL
def qC (N:Nat)(vn:Int):Option (List Int):=
 (lR N N vn []).bind fun p2=>
 zC N p2
def kV (N:Nat)(b:Bool):Option (List Int):=
 if b then
  (qC N 1).bind fun x4=>
  some x4
 else
  (qC N 0).bind fun x5=>
  some x5
def aAl (N:Nat)(aL:List Int):Option (List Int):=
 some aL
def lA (N:Nat)(vn:Int):Nat→Int→(List Int)→Option (List Int)
 |0,_,_=>none
 |m+1,vi,iZ=>
  if decide (0≤vi) then
   (shr .u64 (aQw.wrap (8*vn)) (aQr.wrap (8*vi))).bind fun x26=>
   (eM 1 iZ [aQz.wrap x26]).bind fun x29=>
   (lA N vn m) (aQr.wrap (vi-1)) x29
  else
   some iZ
def vD (N:Nat)(vn:Int)(l0:List Int):Option (List Int):=
 (lA N vn N 7 l0).bind fun p3=>
 aAl N p3
def mW (N:Nat)(vn:Int):Nat→(List Int)→Option (List Int)
 |0,_=>none
 |m+1,k9=>
  if(aQK (aQw.wrap ((aQw.wrap (vn+(aQw.wrap (k9.length:Int))))+8)) 64) != 0 then
   (eM 1 k9 [0]).bind fun x16=>
   (mW N vn m) x16
  else
   some k9
def yS (N:Nat)(vn:Int):Option (List Int):=
 (mW N vn N [128]).bind fun p4=>
 vD N vn p4
def uT (N:Nat):Option (List Int):=
 some [1779033703,3144134277,1013904242,2773480762,1359893119,2600822924,528734635,1541459225]
def gZ (N:Nat)(x vn:Int):Option Int:=
 (iR N x (aQr.wrap (0-vn))).bind fun x8=>
 some x8
def pB (N:Nat)(d5:List Int):Option (List Int):=
 (aS 64 d5).bind fun q=>
 some d5
def iF (N:Nat):Nat→Int→(List Int)→Option (List Int)
 |0,_,_=>none
 |m+1,vi,l1_2=>
  if decide (vi<64) then
   (bB 64 l1_2 (aQr.wrap (vi-15))).bind fun x49=>
   (gZ N x49 7).bind fun x51=>
   (gZ N x49 18).bind fun x56=>
   (shr .u32 x49 3).bind fun x62=>
   (bB 64 l1_2 (aQr.wrap (vi-2))).bind fun x66=>
   (gZ N x66 17).bind fun x68=>
   (gZ N x66 19).bind fun x73=>
   (shr .u32 x66 10).bind fun x79=>
   (bB 64 l1_2 (aQr.wrap (vi-16))).bind fun x84=>
   (bB 64 l1_2 (aQr.wrap (vi-7))).bind fun x90=>
   (bB 64 l1_2 vi).bind fun x95=>
   (iF N m) (aQr.wrap (vi+1)) (l1_2.set (aQv vi) (aQt.wrap ((aQt.wrap ((aQt.wrap (x84+(bits .xor .u32 (bits .xor .u32 x51 x56) x62)))+x90))+(bits .xor .u32 (bits .xor .u32 x68 x73) x79))))
  else
   some l1_2
def pC (N:Nat)(l1:List Int):Option (List Int):=
 (iF N N 16 l1).bind fun p3=>
 pB N p3
def eO (N:Nat)(block:List Int):Nat→Int→(List Int)→Option (List Int)
 |0,_,_=>none
 |m+1,vi_1,l2=>
  if decide (vi_1<16) then
   (bB 64 block (aQr.wrap (4*vi_1))).bind fun x15=>
   (shl .u32 (aQt.wrap x15) 24).bind fun x18=>
   (bB 64 block (aQr.wrap ((aQr.wrap (4*vi_1))+1))).bind fun bN=>
   (shl .u32 (aQt.wrap bN) 16).bind fun x25=>
   (bB 64 block (aQr.wrap ((aQr.wrap (4*vi_1))+2))).bind fun mX=>
   (shl .u32 (aQt.wrap mX) 8).bind fun lC=>
   (bB 64 block (aQr.wrap ((aQr.wrap (4*vi_1))+3))).bind fun x38=>
   (bB 64 l2 vi_1).bind fun x42=>
   (eO N block m) (aQr.wrap (vi_1+1)) (l2.set (aQv vi_1) (bits .or .u32 (bits .or .u32 (bits .or .u32 x18 x25) lC) (aQt.wrap x38)))
  else
   some l2
def pG (N:Nat)(block:List Int):Option (List Int):=
 (eO N block N 0 (aQs 64 0)).bind fun p4=>
 pC N p4
def rI (N:Nat):Option (List Int):=
 some [1116352408,1899447441,3049323471,3921009573,961987163,1508970993,2453635748,2870763221,3624381080,310598401,607225278,1426881987,1925078388,2162078206,2614888103,3248222580,3835390401,4022224774,264347078,604807628,770255983,1249150122,1555081692,1996064986,2554220882,2821834349,2952996808,3210313671,3336571891,3584528711,113926993,338241895,666307205,773529912,1294757372,1396182291,1695183700,1986661051,2177026350,2456956037,2730485921,2820302411,3259730800,3345764771,3516065817,3600352804,4094571909,275423344,430227734,506948616,659060556,883997877,958139571,1322822218,1537002063,1747873779,1955562222,2024104815,2227730452,2361852424,2428436474,2756734187,3204031479,3329325298]
def o7 (N:Nat)(bY:List Int)(va b c d ve f g vh:Int):Option (List Int):=
 (bB 8 bY 0).bind fun aKK=>
 (bB 8 bY 1).bind fun zA=>
 (bB 8 bY 2).bind fun aKI=>
 (bB 8 bY 3).bind fun aK3=>
 (bB 8 bY 4).bind fun aK0=>
 (bB 8 bY 5).bind fun aLI=>
 (bB 8 bY 6).bind fun aFk=>
 (bB 8 bY 7).bind fun aKZ=>
 some [aQt.wrap (aKK+va),aQt.wrap (zA+b),aQt.wrap (aKI+c),aQt.wrap (aK3+d),aQt.wrap (aK0+ve),aQt.wrap (aLI+f),aQt.wrap (aFk+g),aQt.wrap (aKZ+vh)]
def iC (N:Nat)(bY:List Int)(x19 bI:(List Int)):Nat→Int→Int→Int→Int→Int→Int→Int→Int→Int→Option (Int×Int×Int×Int×Int×Int×Int×Int)
 |0,_,_,_,_,_,_,_,_,_=>none
 |m+1,va_1,b_1,c_1,d_1,ve_1,f_1,g_1,vh_1,vi=>
  if decide (vi<64) then
   (gZ N ve_1 6).bind fun x43=>
   (gZ N ve_1 11).bind fun x45=>
   (gZ N ve_1 25).bind fun x48=>
   (bB 64 bI vi).bind fun x61=>
   (bB 64 x19 vi).bind fun x65=>
   (gZ N va_1 2).bind fun x69=>
   (gZ N va_1 13).bind fun x71=>
   (gZ N va_1 22).bind fun x74=>
   (iC N bY x19 bI m) (aQt.wrap ((aQt.wrap ((aQt.wrap ((aQt.wrap ((aQt.wrap (vh_1+(bits .xor .u32 (bits .xor .u32 x43 x45) x48)))+(bits .xor .u32 (bits .and .u32 ve_1 f_1) (bits .and .u32 (bits .xor .u32 (aQ2 .u32) ve_1) g_1))))+x61))+x65))+(aQt.wrap ((bits .xor .u32 (bits .xor .u32 x69 x71) x74)+(bits .xor .u32 (bits .xor .u32 (bits .and .u32 va_1 b_1) (bits .and .u32 va_1 c_1)) (bits .and .u32 b_1 c_1)))))) va_1 b_1 c_1 (aQt.wrap (d_1+(aQt.wrap ((aQt.wrap ((aQt.wrap ((aQt.wrap (vh_1+(bits .xor .u32 (bits .xor .u32 x43 x45) x48)))+(bits .xor .u32 (bits .and .u32 ve_1 f_1) (bits .and .u32 (bits .xor .u32 (aQ2 .u32) ve_1) g_1))))+x61))+x65)))) ve_1 f_1 g_1 (aQr.wrap (vi+1))
  else
   some (va_1,b_1,c_1,d_1,ve_1,f_1,g_1,vh_1)
def mH (N:Nat)(bY block:List Int):Option (List Int):=
 (aS 64 block).bind fun q=>
 (pG N block).bind fun x19=>
 (rI N).bind fun bI=>
 (aS 64 x19).bind fun q_1=>
 (aS 64 bI).bind fun q_2=>
 (bB 8 bY 0).bind fun dM=>
 (bB 8 bY 1).bind fun fR=>
 (bB 8 bY 2).bind fun x25=>
 (bB 8 bY 3).bind fun x27=>
 (bB 8 bY 4).bind fun x29=>
 (bB 8 bY 5).bind fun dD=>
 (bB 8 bY 6).bind fun lC=>
 (bB 8 bY 7).bind fun x35=>
 (iC N bY x19 bI N dM fR x25 x27 x29 dD lC x35 0).bind fun p2=>
 o7 N bY p2.1 p2.2.1 p2.2.2.1 p2.2.2.2.1 p2.2.2.2.2.1 p2.2.2.2.2.2.1 p2.2.2.2.2.2.2.1 p2.2.2.2.2.2.2.2
def vH (N:Nat)(d5:List Int):Option (List Int):=
 (aS 32 d5).bind fun q_1=>
 some d5
def mL (N:Nat)(l1:List Int):Nat→Int→(List Int)→Option (List Int)
 |0,_,_=>none
 |m+1,fB,l1_2=>
  if decide (fB<8) then
   (bB 8 l1 fB).bind fun x37=>
   (shr .u32 x37 24).bind fun x50=>
   (shr .u32 x37 16).bind fun x53=>
   (shr .u32 x37 8).bind fun x56=>
   (bB 32 l1_2 (aQr.wrap (4*fB))).bind fun x60=>
   (bB 32 (l1_2.set (aQv (aQr.wrap (4*fB))) (aQz.wrap x50)) (aQr.wrap ((aQr.wrap (4*fB))+1))).bind fun x61=>
   (bB 32 ((l1_2.set (aQv (aQr.wrap (4*fB))) (aQz.wrap x50)).set (aQv (aQr.wrap ((aQr.wrap (4*fB))+1))) (aQz.wrap x53)) (aQr.wrap ((aQr.wrap (4*fB))+2))).bind fun x62=>
   (bB 32 (((l1_2.set (aQv (aQr.wrap (4*fB))) (aQz.wrap x50)).set (aQv (aQr.wrap ((aQr.wrap (4*fB))+1))) (aQz.wrap x53)).set (aQv (aQr.wrap ((aQr.wrap (4*fB))+2))) (aQz.wrap x56)) (aQr.wrap ((aQr.wrap (4*fB))+3))).bind fun x63=>
   (mL N l1 m) (aQr.wrap (fB+1)) ((((l1_2.set (aQv (aQr.wrap (4*fB))) (aQz.wrap x50)).set (aQv (aQr.wrap ((aQr.wrap (4*fB))+1))) (aQz.wrap x53)).set (aQv (aQr.wrap ((aQr.wrap (4*fB))+2))) (aQz.wrap x56)).set (aQv (aQr.wrap ((aQr.wrap (4*fB))+3))) (aQz.wrap x37))
  else
   some l1_2
def wM (N:Nat)(l1:List Int):Option (List Int):=
 (aS 8 l1).bind fun q_2=>
 (mL N l1 N 0 (aQs 32 0)).bind fun p3=>
 vH N p3
def mQ (N:Nat)(x16:List Int):Nat→Int→(List Int)→Option (List Int)
 |0,_,_=>none
 |m+1,vi,l1_3=>
  if decide ((aQr.wrap (vi+64))≤(x16.length:Int)) then
   (sub x16 vi (x16.length:Int)).bind fun x28=>
   (aS 8 l1_3).bind fun q_3=>
   (aS 64 (kL (aQs 64 0) x28)).bind fun q_4=>
   (mH N l1_3 (kL (aQs 64 0) x28)).bind fun pR=>
   (aS 8 pR).bind fun q_5=>
   (mQ N x16 m) (aQr.wrap (vi+64)) pR
  else
   some l1_3
def rW (N:Nat)(b:List Int):Option (List Int):=
 (eM 1 [] b).bind fun bX=>
 (yS N (aQw.wrap (b.length:Int))).bind fun x15=>
 (eM 1 bX x15).bind fun x16=>
 (uT N).bind fun x17=>
 (aS 8 x17).bind fun q=>
 (mQ N x16 N 0 x17).bind fun p4=>
 wM N p4
def nW (N:Nat)(l1:List Int):Option (List Int):=
 (aS 4 l1).bind fun q=>
 some l1
def gL (N:Nat)(vh:List Int):Nat→Int→(List Int)→Option (List Int)
 |0,_,_=>none
 |m+1,x6,l2=>
  if decide (x6<32) then
   (bB 4 l2 (aQr.wrap (aQF (aQr.wrap (31-x6)) 8))).bind fun cB=>
   (bB 32 vh x6).bind fun x16=>
   (shl .u64 (aQw.wrap x16) (aQr.wrap (8*(aQK (aQr.wrap (31-x6)) 8)))).bind fun bN=>
   (gL N vh m) (aQr.wrap (x6+1)) (l2.set (aQv (aQr.wrap (aQF (aQr.wrap (31-x6)) 8))) (bits .or .u64 cB bN))
  else
   some l2
def fT (N:Nat)(vh:List Int):Option (List Int):=
 (gL N vh N 0 (aQs 4 0)).bind fun p2=>
 nW N p2
def eT (N:Nat)(vn:Int):Option (List Int):=
 some [vn,0,0,0]
def oL (N:Nat)(va:List Int):Option Bool:=
 (aS 4 va).bind fun q=>
 some (va == [0,0,0,0])
def vP (N:Nat)(borrow:Int)(l1:List Int):Option ((List Int)×Bool):=
 (aS 4 l1).bind fun q=>
 some (l1,borrow == 1)
def mO (N:Nat)(va b:List Int):Nat→Int→Int→(List Int)→Option (Int×(List Int))
 |0,_,_,_=>none
 |m+1,borrow_1,x9,l3=>
  if decide (x9<4) then
   (bB 4 va x9).bind fun x15=>
   (bB 4 b x9).bind fun x18=>
   (nZ N x15 x18 borrow_1).bind fun dM=>
   (bB 4 l3 x9).bind fun dO=>
   (mO N va b m) dM.2 (aQr.wrap (x9+1)) (l3.set (aQv x9) dM.1)
  else
   some (borrow_1,l3)
def n7 (N:Nat)(va b:List Int):Option ((List Int)×Bool):=
 (mO N va b N 0 0 (aQs 4 0)).bind fun p2=>
 vP N p2.1 p2.2
def j9 (N:Nat):Option (List Int):=
 (eT N 36113).bind fun x5=>
 (n7 N [0,0,0,0] x5).bind fun x6=>
 (aS 4 x6.1).bind fun q=>
 some x6.1
def aAF (N:Nat):Option Int:=
 some 0
def mP (N:Nat)(va b:List Int):Nat→Int→Option (LR (Unit) (Int))
 |0,_=>none
 |m+1,vi=>
  if decide (0≤vi) then
   (bB 4 va vi).bind fun bX=>
   (bB 4 b vi).bind fun bH=>
   if decide (bX<bH) then
    some (.ret (-1))
   else
    if decide (bH<bX) then
     some (.ret 1)
    else
     (mP N va b m) (aQr.wrap (vi-1))
  else
   some (.brk ())
def oK (N:Nat)(va b:List Int):Option Int:=
 (mP N va b N 3).bind fun q=>match q with
  | .ret v=>some v
  | .brk p2=>
   aAF N
def k7 (N:Nat)(va:List Int)(vi:Int):Option Bool:=
 (bB 4 va (aQr.wrap (aQF vi 64))).bind fun x7=>
 (shr .u64 x7 (aQK vi 64)).bind fun bX=>
 some ((bits .and .u64 bX 1) == 1)
def aAi (N:Nat)(l1:List Int):Option (List Int):=
 (aS 4 l1).bind fun q_1=>
 some l1
def vY (N:Nat)(va:List Int)(vn vi:Int)(rec:Int→(List Int)→Option (List Int))(fU:List Int):Option (List Int):=
 rec (aQr.wrap (vi+1)) fU
def gE (N:Nat)(va:List Int)(vn:Int):Nat→Int→(List Int)→Option (List Int)
 |0,_,_=>none
 |m+1,vi,l2=>
  if decide ((aQr.wrap (vi+vn))<256) then
   (aS 4 va).bind fun q_2=>
   (k7 N va (aQr.wrap (vi+vn))).bind fun fR=>
   if fR then
    (bB 4 l2 (aQr.wrap (aQF vi 64))).bind fun x26=>
    (shl .u64 1 (aQK vi 64)).bind fun mX=>
    vY N va vn vi (gE N va vn m) (l2.set (aQv (aQr.wrap (aQF vi 64))) (bits .or .u64 x26 mX))
   else
    vY N va vn vi (gE N va vn m) l2
  else
   some l2
def aAJ (N:Nat)(va:List Int)(vn:Int):Option (List Int):=
 if decide (vn≤0) then
  (aS 4 va).bind fun q=>
  some va
 else
  if decide (256≤vn) then
   some [0,0,0,0]
  else
   (gE N va vn N 0 (aQs 4 0)).bind fun p2=>
   aAi N p2
def l8 (N:Nat):Option (List Int):=
 (j9 N).bind fun x1=>
 (aAJ N x1 1).bind fun x2=>
 (aS 4 x2).bind fun q=>
 some x2
def wH (N:Nat)(iY:Int)(l1:List Int):Option ((List Int)×Bool):=
 (aS 4 l1).bind fun q=>
 some (l1,iY == 1)
def nA (N:Nat)(va b:List Int):Nat→Int→Int→(List Int)→Option (Int×(List Int))
 |0,_,_,_=>none
 |m+1,carry_1,x9,l3=>
  if decide (x9<4) then
   (bB 4 va x9).bind fun x15=>
   (bB 4 b x9).bind fun x18=>
   (cV N x15 x18 carry_1).bind fun dM=>
   (bB 4 l3 x9).bind fun dO=>
   (nA N va b m) dM.2 (aQr.wrap (x9+1)) (l3.set (aQv x9) dM.1)
  else
   some (carry_1,l3)
def sY (N:Nat)(va b:List Int):Option ((List Int)×Bool):=
 (nA N va b N 0 0 (aQs 4 0)).bind fun p2=>
 wH N p2.1 p2.2
def wA (N:Nat)(l0 l1:List Int):Option ((List Int)×(List Int)×Bool):=
 (aS 4 l0).bind fun q_2=>
 (aS 4 l1).bind fun q_3=>
 some (l0,l1,true)
def pM (N:Nat)(lo b:List Int)(vi:Int)(rec:Int→(List Int)→(List Int)→Option ((List Int)×(List Int)))(fU jS:List Int):Option ((List Int)×(List Int)):=
 rec (aQr.wrap (vi-1)) fU jS
def m8 (N:Nat)(lo b:List Int)(vi:Int)(l2 gH:List Int)(rec:Int→(List Int)→(List Int)→Option ((List Int)×(List Int)))(x43:Bool):Option ((List Int)×(List Int)):=
 if x43 then
  (aS 4 gH).bind fun q_6=>
  (n7 N gH b).bind fun x47=>
  (aS 4 x47.1).bind fun q_7=>
  (bB 4 l2 (aQr.wrap (aQF vi 64))).bind fun x52=>
  (shl .u64 1 (aQK vi 64)).bind fun x56=>
  pM N lo b vi rec (l2.set (aQv (aQr.wrap (aQF vi 64))) (bits .or .u64 x52 x56)) x47.1
 else
  pM N lo b vi rec l2 gH
def pV (N:Nat)(lo b:List Int)(vi:Int)(l2:List Int)(fR:Bool)(rec:Int→(List Int)→(List Int)→Option ((List Int)×(List Int)))(gH:List Int):Option ((List Int)×(List Int)):=
 if fR then
  m8 N lo b vi l2 gH rec true
 else
  (aS 4 gH).bind fun q_8=>
  (oK N gH b).bind fun x41=>
  m8 N lo b vi l2 gH rec (decide (0≤x41))
def dX (N:Nat)(lo b:List Int):Nat→Int→(List Int)→(List Int)→Option ((List Int)×(List Int))
 |0,_,_,_=>none
 |m+1,vi,l2,l3=>
  if decide (0≤vi) then
   (aS 4 l3).bind fun q_4=>
   (k7 N l3 255).bind fun fR=>
   (sY N l3 l3).bind fun x27=>
   (aS 4 x27.1).bind fun q_5=>
   (aS 4 lo).bind fun q_9=>
   (k7 N lo vi).bind fun pR=>
   if pR then
    (bB 4 x27.1 0).bind fun lC=>
    pV N lo b vi l2 fR (dX N lo b m) (x27.1.set (aQv 0) (bits .or .u64 lC 1))
   else
    pV N lo b vi l2 fR (dX N lo b m) x27.1
  else
   some (l2,l3)
def u9 (N:Nat)(hi lo b:List Int):Option ((List Int)×(List Int)×Bool):=
 (aS 4 b).bind fun q=>
 (aS 4 hi).bind fun q_1=>
 (oK N b hi).bind fun cB=>
 if decide (cB≤0) then
  some (aQs 4 0,aQs 4 0,false)
 else
  (dX N lo b N 255 (aQs 4 0) hi).bind fun p2=>
  wA N p2.1 p2.2
def jZ (N:Nat)(va vm:List Int):Option (List Int):=
 (aS 4 va).bind fun q=>
 (aS 4 vm).bind fun q_1=>
 (u9 N [0,0,0,0] va vm).bind fun dL=>
 (aS 4 dL.1).bind fun q_2=>
 (aS 4 dL.2.1).bind fun q_3=>
 some dL.2.1
def wI (N:Nat):Option Int:=
 some 0
def nD (N:Nat)(va:List Int):Nat→Int→Option (LR (Unit) (Int))
 |0,_=>none
 |m+1,vi=>
  if decide (0≤vi) then
   (aS 4 va).bind fun q=>
   (k7 N va vi).bind fun cC=>
   if cC then
    some (.ret (aQr.wrap (vi+1)))
   else
    (nD N va m) (aQr.wrap (vi-1))
  else
   some (.brk ())
def aAK (N:Nat)(va:List Int):Option Int:=
 (nD N va N 255).bind fun q=>match q with
  | .ret v=>some v
  | .brk p2=>
   wI N
def r3 (N:Nat)(l2:List Int):Option ((List Int)×(List Int)):=
 (aS 8 l2).bind fun q=>
 (rA l2 0 4).bind fun x64=>
 (rA l2 4 8).bind fun x67=>
 (aS 4 (kL (aQs 4 0) x67)).bind fun q_1=>
 (aS 4 (kL (aQs 4 0) x64)).bind fun q_2=>
 some (kL (aQs 4 0) x67,kL (aQs 4 0) x64)
def wL (N:Nat)(va b:List Int)(x15:Int)(rec:Int→(List Int)→Option (List Int))(pS:List Int):Option (List Int):=
 rec (aQr.wrap (x15+1)) pS
def vT (N:Nat)(va b:List Int)(x15:Int)(rec:Int→(List Int)→Option (List Int))(iY:Int)(uX:List Int):Option (List Int):=
 (bB 8 uX (aQr.wrap (x15+4))).bind fun x61=>
 wL N va b x15 rec (uX.set (aQv (aQr.wrap (x15+4))) iY)
def mV (N:Nat)(va b:List Int)(x15:Int):Nat→Int→Int→(List Int)→Option (Int×(List Int))
 |0,_,_,_=>none
 |m+1,carry_1,x18,l4_3=>
  if decide (x18<4) then
   (bB 4 va x15).bind fun fR=>
   (bB 4 b x18).bind fun x26=>
   (jJ N fR x26).bind fun x28=>
   (bB 8 l4_3 (aQr.wrap (x15+x18))).bind fun x35=>
   (cV N x35 x28.2 0).bind fun x38=>
   (cV N x38.1 carry_1 0).bind fun x44=>
   (mV N va b x15 m) (aQw.wrap ((aQw.wrap (x28.1+x38.2))+x44.2)) (aQr.wrap (x18+1)) (l4_3.set (aQv (aQr.wrap (x15+x18))) x44.1)
  else
   some (carry_1,l4_3)
def jP (N:Nat)(va b:List Int):Nat→Int→(List Int)→Option (List Int)
 |0,_,_=>none
 |m+1,x15,l4=>
  if decide (x15<4) then
   (mV N va b x15 N 0 0 l4).bind fun p5=>
   vT N va b x15 (jP N va b m) p5.1 p5.2
  else
   some l4
def yL (N:Nat)(va b:List Int):Option ((List Int)×(List Int)):=
 (jP N va b N 0 (aQs 8 0)).bind fun p2=>
 r3 N p2
def mK (N:Nat)(va b vm:List Int):Option (List Int):=
 (aS 4 vm).bind fun q=>
 (oL N vm).bind fun cB=>
 if cB then
  some vm
 else
  (aS 4 va).bind fun q_1=>
  (jZ N va vm).bind fun x18=>
  (aS 4 b).bind fun q_2=>
  (jZ N b vm).bind fun dM=>
  (yL N x18 dM).bind fun bN=>
  (aS 4 bN.1).bind fun q_3=>
  (aS 4 bN.2).bind fun q_4=>
  (u9 N bN.1 bN.2 vm).bind fun x29=>
  (aS 4 x29.1).bind fun q_5=>
  (aS 4 x29.2.1).bind fun q_6=>
  some x29.2.1
def wD (N:Nat)(l1:List Int):Option (List Int):=
 (aS 4 l1).bind fun q_2=>
 some l1
def lF (N:Nat)(va ve vm:List Int)(vi:Int)(rec:Int→(List Int)→Option (List Int))(pS:List Int):Option (List Int):=
 rec (aQr.wrap (vi-1)) pS
def fO (N:Nat)(va ve vm:List Int):Nat→Int→(List Int)→Option (List Int)
 |0,_,_=>none
 |m+1,vi,l4=>
  if decide (0≤vi) then
   (aS 4 l4).bind fun q_4=>
   (mK N l4 l4 vm).bind fun x25=>
   (aS 4 x25).bind fun q_5=>
   (k7 N ve vi).bind fun x28=>
   if x28 then
    (aS 4 va).bind fun q_6=>
    (mK N x25 va vm).bind fun pR=>
    (aS 4 pR).bind fun q_7=>
    lF N va ve vm vi (fO N va ve vm m) pR
   else
    lF N va ve vm vi (fO N va ve vm m) x25
  else
   some l4
def sX (N:Nat)(va ve vm:List Int):Option (List Int):=
 (aS 4 vm).bind fun q=>
 (oL N vm).bind fun cC=>
 if cC then
  some vm
 else
  (eT N 1).bind fun dL=>
  (jZ N dL vm).bind fun bH=>
  (aS 4 bH).bind fun q_1=>
  (aS 4 ve).bind fun q_3=>
  (aAK N ve).bind fun x16=>
  (fO N va ve vm N (aQr.wrap (x16-1)) bH).bind fun p2=>
  wD N p2
def qA (N:Nat)(va ve:List Int):Option (List Int):=
 (aS 4 va).bind fun q=>
 (aS 4 ve).bind fun q_1=>
 (j9 N).bind fun x7=>
 (sX N va ve x7).bind fun x8=>
 (aS 4 x8).bind fun q_2=>
 some x8
def aAL (N:Nat):Option (List Int):=
 (eT N 1).bind fun x1=>
 (aS 4 x1).bind fun q=>
 some x1
def oN (N:Nat)(x2:Bool):Option Bool:=
 some x2
def rM (N:Nat)(va:List Int):Option Bool:=
 (aS 4 va).bind fun q=>
 (oL N va).bind fun x4=>
 if !x4 then
  (j9 N).bind fun x8=>
  (oK N va x8).bind fun x9=>
  if decide (x9<0) then
   (l8 N).bind fun bH=>
   (qA N va bH).bind fun x15=>
   (aAL N).bind fun x16=>
   (aS 4 x15).bind fun q_1=>
   (aS 4 x16).bind fun q_2=>
   oN N (x15 == x16)
  else
   oN N false
 else
  oN N false
def tM (N:Nat)(x2:Bool):Option Bool:=
 some x2
def qX (N:Nat)(p:List Int):Option Bool:=
 (aS 4 p).bind fun q=>
 (eT N 1).bind fun x4=>
 (aS 4 x4).bind fun q_1=>
 if !(p == x4) then
  (rM N p).bind fun x8=>
  tM N x8
 else
  tM N false
def l7 (N:Nat)(va:List Int):Option Bool:=
 (aS 4 va).bind fun q=>
 (l8 N).bind fun x4=>
 (oK N va x4).bind fun x5=>
 some (decide (x5<0))
def rH (N:Nat)(bI bN:(List Int))(lC:Bool):Option ((List Int)×(List Int)×Int):=
 if lC then
  some (aQs 4 0,aQs 4 0,5)
 else
  some (bI,bN,0)
def sC (N:Nat)(b:List Int):Option ((List Int)×(List Int)×Int):=
 if(b.length:Int) != 64 then
  some (aQs 4 0,aQs 4 0,8)
 else
  (sub b 0 32).bind fun cB=>
  (sub b 32 (b.length:Int)).bind fun x17=>
  (aS 32 (kL (aQs 32 0) cB)).bind fun q=>
  (fT N (kL (aQs 32 0) cB)).bind fun bI=>
  (aS 32 (kL (aQs 32 0) x17)).bind fun q_1=>
  (fT N (kL (aQs 32 0) x17)).bind fun bN=>
  (aS 4 bI).bind fun q_2=>
  (aS 4 bN).bind fun q_3=>
  (l7 N bI).bind fun x26=>
  if !x26 then
   rH N bI bN true
  else
   (l7 N bN).bind fun dD=>
   rH N bI bN (!dD)
def uD (N:Nat)(ve:List Int):Option (List Int):=
 (eT N 4).bind fun x3=>
 (aS 4 ve).bind fun q=>
 (qA N x3 ve).bind fun x5=>
 (aS 4 x5).bind fun q_1=>
 some x5
def yJ (N:Nat)(va b:List Int):Option (List Int):=
 (aS 4 va).bind fun q=>
 (aS 4 b).bind fun q_1=>
 (j9 N).bind fun x7=>
 (mK N va b x7).bind fun x8=>
 (aS 4 x8).bind fun q_2=>
 some x8
def wZ (N:Nat)(l1:List Int):Option (List Int):=
 (aS 32 l1).bind fun q=>
 some l1
def i6 (N:Nat)(va:List Int):Nat→Int→(List Int)→Option (List Int)
 |0,_,_=>none
 |m+1,x6,l2=>
  if decide (x6<32) then
   (bB 4 va (aQr.wrap (aQF (aQr.wrap (31-x6)) 8))).bind fun bH=>
   (shr .u64 bH (aQr.wrap (8*(aQK (aQr.wrap (31-x6)) 8)))).bind fun x19=>
   (bB 32 l2 x6).bind fun dM=>
   (i6 N va m) (aQr.wrap (x6+1)) (l2.set (aQv x6) (aQz.wrap x19))
  else
   some l2
def uM (N:Nat)(va:List Int):Option (List Int):=
 (i6 N va N 0 (aQs 32 0)).bind fun p2=>
 wZ N p2
def pN (N:Nat)(va:List Int):Option (List Int):=
 (aS 4 va).bind fun q=>
 (uM N va).bind fun x5=>
 (aS 32 x5).bind fun q_1=>
 some x5
def sG (N:Nat)(tag:ByteArray)(b:List Int):Option (List Int):=
 (stb tag).bind fun x7=>
 (rW N x7).bind fun x8=>
 (aS 32 x8).bind fun q=>
 (eM 1 [] x8).bind fun cC=>
 (eM 1 cC x8).bind fun dL=>
 (eM 1 dL b).bind fun bH=>
 (rW N bH).bind fun x15=>
 (aS 32 x15).bind fun q_1=>
 some x15
def lE (N:Nat)(l1:List Int):Option (List Int):=
 (aS 4 l1).bind fun q_6=>
 some l1
def jG (N:Nat)(vm:List Int)(dM:(List Int)×Bool)(mX:Bool):Option (List Int):=
 if mX then
  (n7 N dM.1 vm).bind fun fB=>
  (aS 4 fB.1).bind fun q_7=>
  lE N fB.1
 else
  lE N dM.1
def r4 (N:Nat)(va b vm:List Int):Option (List Int):=
 (aS 4 vm).bind fun q=>
 (oL N vm).bind fun cC=>
 if cC then
  some vm
 else
  (aS 4 va).bind fun q_1=>
  (jZ N va vm).bind fun bH=>
  (aS 4 b).bind fun q_2=>
  (jZ N b vm).bind fun x17=>
  (aS 4 bH).bind fun q_3=>
  (aS 4 x17).bind fun q_4=>
  (sY N bH x17).bind fun dM=>
  (aS 4 dM.1).bind fun q_5=>
  if dM.2 then
   jG N vm dM true
  else
   (oK N dM.1 vm).bind fun x28=>
   jG N vm dM (decide (0≤x28))
def oG (N:Nat)(va b:List Int):Option (List Int):=
 (aS 4 va).bind fun q=>
 (aS 4 b).bind fun q_1=>
 (l8 N).bind fun x7=>
 (r4 N va b x7).bind fun x8=>
 (aS 4 x8).bind fun q_2=>
 some x8
def sD (N:Nat)(vh:List Int):Option (List Int):=
 (aS 32 vh).bind fun q=>
 (fT N vh).bind fun x4=>
 (oG N x4 [0,0,0,0]).bind fun x6=>
 (aS 4 x6).bind fun q_1=>
 some x6
def oJ (N:Nat)(vr p vm:List Int):Option (List Int):=
 (aS 4 vr).bind fun q=>
 (pN N vr).bind fun x8=>
 (aS 4 p).bind fun q_1=>
 (pN N p).bind fun cC=>
 (aS 32 vm).bind fun q_2=>
 (k5 N [x8,cC,vm]).bind fun cB=>
 (sG N (⟨#[108,105,103,104,116,99,108,105,101,110,116,47,99,104,97,108,108,101,110,103,101]⟩) cB).bind fun bH=>
 (sD N bH).bind fun x15=>
 (aS 4 x15).bind fun q_3=>
 some x15
def jO (N:Nat)(p vm s_E s_S:List Int)(dO:Bool):Option Bool:=
 if dO then
  some false
 else
  (l8 N).bind fun x26=>
  (aS 4 s_E).bind fun q=>
  (n7 N x26 s_E).bind fun x29=>
  (aS 4 x29.1).bind fun q_1=>
  (aS 4 s_S).bind fun q_2=>
  (uD N s_S).bind fun fB=>
  (aS 4 p).bind fun q_3=>
  (qA N p x29.1).bind fun x37=>
  (yJ N fB x37).bind fun x38=>
  (aS 4 x38).bind fun q_4=>
  (aS 32 vm).bind fun q_5=>
  (oJ N x38 p vm).bind fun x44=>
  (aS 4 x44).bind fun q_6=>
  some (s_E == x44)
def sJ (N:Nat)(p vm s_E s_S:List Int):Option Bool:=
 (aS 4 p).bind fun q_7=>
 (qX N p).bind fun bX=>
 if !bX then
  jO N p vm s_E s_S true
 else
  (aS 4 s_E).bind fun q_8=>
  (l7 N s_E).bind fun x16=>
  if !x16 then
   jO N p vm s_E s_S true
  else
   (aS 4 s_S).bind fun q_9=>
   (l7 N s_S).bind fun bN=>
   jO N p vm s_E s_S (!bN)
def oQ (N:Nat)(x39:Bool):Option (Bool×Int):=
 if x39 then
  some (false,61)
 else
  some (true,0)
def m7 (N:Nat)(sig key vm:List Int):Option (Bool×Int):=
 if(key.length:Int) != 32 then
  some (false,60)
 else
  (aS 32 (kL (aQs 32 0) key)).bind fun q=>
  (fT N (kL (aQs 32 0) key)).bind fun x19=>
  (aS 4 x19).bind fun q_1=>
  (qX N x19).bind fun dM=>
  if !dM then
   some (false,60)
  else
   if(sig.length:Int) == 0 then
    some (false,0)
   else
    (sC N sig).bind fun x28=>
    if x28.2.2 != 0 then
     oQ N true
    else
     (aS 32 vm).bind fun q_2=>
     (sJ N x19 vm x28.1 x28.2.1).bind fun x37=>
     oQ N (!x37)
def xH (N:Nat)(aJ:Int)(aX:List Int)(o_M o_N vn:Int):Option (Bool×Int):=
 some (decide (o_M≤vn),0)
def pX (N:Nat)(aJ:Int)(aX:List Int)(o_M o_N:Int)(nR:List (List Int))(vm:List Int)(vi:Int)(rec:Int→Int→Option (LR (Int) (Bool×Int)))(y4:Int):Option (LR (Int) (Bool×Int)):=
 rec y4 (aQr.wrap (vi+1))
def g7 (N:Nat)(aJ:Int)(aX:List Int)(o_M o_N:Int)(nR:List (List Int))(vm:List Int):Nat→Int→Int→Option (LR (Int) (Bool×Int))
 |0,_,_=>none
 |m+1,cZ,vi=>
  if decide (vi<o_N) then
   (bS nR vi).bind fun dM=>
   (bS nR (aQr.wrap (o_N+vi))).bind fun x28=>
   (aS 32 vm).bind fun q=>
   (m7 N dM x28 vm).bind fun dD=>
   if dD.2 != 0 then
    some (.ret (false,dD.2))
   else
    if dD.1 then
     pX N aJ aX o_M o_N nR vm vi (g7 N aJ aX o_M o_N nR vm m) (aQr.wrap (cZ+1))
    else
     pX N aJ aX o_M o_N nR vm vi (g7 N aJ aX o_M o_N nR vm m) cZ
  else
   some (.brk cZ)
def uL (N:Nat)(aJ:Int)(aX:List Int)(o_M o_N:Int)(nR:List (List Int))(vm:List Int):Option (Bool×Int):=
 (g7 N aJ aX o_M o_N nR vm N 0 0).bind fun q=>match q with
  | .ret v=>some v
  | .brk p2=>
   xH N aJ aX o_M o_N p2
def vZ (N:Nat)(vn:Int):Option (Int×Int):=
 some (vn,0)
def jY (N:Nat)(b:List Int):Nat→Int→Int→Option Int
 |0,_,_=>none
 |m+1,cZ,x25=>
  if decide (x25<(b.length:Int)) then
   (bS b x25).bind fun dD=>
   (shl .u32 (aQt.wrap dD) (aQr.wrap (8*x25))).bind fun x36=>
   (jY N b m) (bits .or .u32 cZ x36) (aQr.wrap (x25+1))
  else
   some cZ
def jK (N:Nat)(b:List Int)(bN:Bool):Option (Int×Int):=
 if bN then
  some (0,82)
 else
  (jY N b N 0 0).bind fun p3=>
  vZ N p3
def sT (N:Nat)(b:List Int):Option (Int×Int):=
 if decide (4<(b.length:Int)) then
  jK N b true
 else
  if decide (0<(b.length:Int)) then
   (bS b (aQr.wrap ((b.length:Int)-1))).bind fun x18=>
   jK N b (x18 == 0)
  else
   jK N b false
def pF (N:Nat)(eJ:List Int)(now:Int):Option Int:=
 (sT N eJ).bind fun x9=>
 if x9.2 != 0 then
  some x9.2
 else
  if decide (now<(aQr.wrap x9.1)) then
   some 85
  else
   some 0
def vR (N:Nat)(aJ:Int)(aX:List Int)(o_M o_N:Int)(vs:List (List Int))(aO:List Int)(aT bL:Int):Option ((List (List Int))×Int):=
 if aJ == 1 then
  (k5 N [aX]).bind fun x25=>
  (lD N vs x25).bind fun x26=>
  some (x26.1,x26.2)
 else
  if aJ == 2 then
   (bS vs (aQr.wrap ((vs.length:Int)-1))).bind fun x35=>
   (lD N vs x35).bind fun x37=>
   some (x37.1,x37.2)
  else
   if aJ == 3 then
    (sub vs 0 (aQr.wrap ((vs.length:Int)-1))).bind fun x45=>
    some (x45,0)
   else
    if aJ == 4 then
     (sub vs 0 (aQr.wrap ((vs.length:Int)-2))).bind fun x53=>
     (bS vs (aQr.wrap ((vs.length:Int)-1))).bind fun x57=>
     (bS vs (aQr.wrap ((vs.length:Int)-2))).bind fun x62=>
     (eM 24 x53 [x57,x62]).bind fun x65=>
     some (x65,0)
    else
     if aJ == 5 then
      (sub vs 0 (aQr.wrap ((vs.length:Int)-2))).bind fun x73=>
      (bS vs (aQr.wrap ((vs.length:Int)-2))).bind fun x77=>
      (bS vs (aQr.wrap ((vs.length:Int)-1))).bind fun x82=>
      (tF N x77 x82).bind fun x84=>
      (kV N x84).bind fun x85=>
      (eM 24 x73 [x85]).bind fun x87=>
      some (x87,0)
     else
      if aJ == 6 then
       (sub vs 0 (aQr.wrap ((vs.length:Int)-1))).bind fun x95=>
       (bS vs (aQr.wrap ((vs.length:Int)-1))).bind fun x99=>
       (nY N x99).bind fun aOh=>
       (kV N (!aOh)).bind fun aDD=>
       (eM 24 x95 [aDD]).bind fun aKM=>
       some (aKM,0)
      else
       if aJ == 7 then
        (bS vs (aQr.wrap ((vs.length:Int)-1))).bind fun aG5=>
        (nY N aG5).bind fun aCF=>
        if !aCF then
         some ([],84)
        else
         (sub vs 0 (aQr.wrap ((vs.length:Int)-1))).bind fun zD=>
         some (zD,0)
       else
        if aJ == 8 then
         (bS vs (aQr.wrap ((vs.length:Int)-1))).bind fun aFk=>
         (rW N aFk).bind fun aCz=>
         (aS 32 aCz).bind fun q=>
         (sub vs 0 (aQr.wrap ((vs.length:Int)-1))).bind fun aOw=>
         (eM 24 aOw [aCz]).bind fun aK6=>
         some (aK6,0)
        else
         if aJ == 9 then
          (bS vs (aQr.wrap ((vs.length:Int)-1))).bind fun aOj=>
          (qC N (aQt.wrap (aOj.length:Int))).bind fun aOg=>
          (lD N vs aOg).bind fun aCA=>
          some (aCA.1,aCA.2)
         else
          if aJ == 10 then
           (bS vs (aQr.wrap ((vs.length:Int)-2))).bind fun aOc=>
           (bS vs (aQr.wrap ((vs.length:Int)-1))).bind fun aOb=>
           (aS 32 aO).bind fun q_1=>
           (m7 N aOc aOb aO).bind fun aIQ=>
           (sub vs 0 (aQr.wrap ((vs.length:Int)-2))).bind fun aN8=>
           (kV N aIQ.1).bind fun aLt=>
           (eM 24 aN8 [aLt]).bind fun aLq=>
           some (aLq,aIQ.2)
          else
           if aJ == 11 then
            (sub vs (aQr.wrap ((vs.length:Int)-(aQr.wrap (2*o_N)))) (vs.length:Int)).bind fun aNK=>
            (aS 32 aO).bind fun q_2=>
            (uL N aJ aX o_M o_N aNK aO).bind fun aIY=>
            (sub vs 0 (aQr.wrap ((vs.length:Int)-(aQr.wrap (2*o_N))))).bind fun aNZ=>
            (kV N aIY.1).bind fun aKP=>
            (eM 24 aNZ [aKP]).bind fun aLe=>
            some (aLe,aIY.2)
           else
            if aJ == 12 then
             (bS vs (aQr.wrap ((vs.length:Int)-1))).bind fun aNU=>
             (pF N aNU aT).bind fun aOn=>
             some (vs,aOn)
            else
             if aJ == 13 then
              (bS vs (aQr.wrap ((vs.length:Int)-1))).bind fun aND=>
              (pF N aND bL).bind fun aNT=>
              some (vs,aNT)
             else
              some ([],84)
def aAp (N:Nat)(vs:List (List Int))(cost:Int):Option ((List (List Int))×Int×Int):=
 some (vs,cost,0)
def fC (N:Nat)(aO:List Int)(aT bL:Int)(bI:(List aK)×Int)(x35:Int)(rec:(List (List Int))→Int→Int→(List aR)→Option (LR ((List (List Int))×Int) ((List (List Int))×Int×Int)))(aFi:List (List Int))(aBb:Int)(d5:List aR):Option (LR ((List (List Int))×Int) ((List (List Int))×Int×Int)):=
 rec aFi aBb (aQr.wrap (x35+1)) d5
def pK (N:Nat)(aO:List Int)(aT bL:Int)(bI:(List aK)×Int)(x35:Int)(l1:List aR)(fF:Bool)(jU:Int)(rec:(List (List Int))→Int→Int→(List aR)→Option (LR ((List (List Int))×Int) ((List (List Int))×Int×Int)))(aE3:List (List Int))(c2:Bool):Option (LR ((List (List Int))×Int) ((List (List Int))×Int×Int)):=
 (eM 2 l1 [(aR.mk fF c2)]).bind fun x91=>
 fC N aO aT bL bI x35 rec aE3 jU x91
def pH (N:Nat)(aO:List Int)(aT bL:Int)(bI:(List aK)×Int)(f6:List (List Int))(x35:Int)(l1:List aR)(x37:aK)(fF:Bool)(rec:(List (List Int))→Int→Int→(List aR)→Option (LR ((List (List Int))×Int) ((List (List Int))×Int×Int)))(jU:Int):Option (LR ((List (List Int))×Int) ((List (List Int))×Int×Int)):=
 if x37.Code == 14 then
  if fF then
   (bS f6 (aQr.wrap ((f6.length:Int)-1))).bind fun x79=>
   (nY N x79).bind fun x81=>
   (sub f6 0 (aQr.wrap ((f6.length:Int)-1))).bind fun x87=>
   pK N aO aT bL bI x35 l1 fF jU rec x87 x81
  else
   pK N aO aT bL bI x35 l1 fF jU rec f6 false
 else
  if x37.Code == 15 then
   (bS l1 (aQr.wrap ((l1.length:Int)-1))).bind fun zA=>
   fC N aO aT bL bI x35 rec f6 jU (l1.set (aQv (aQr.wrap ((l1.length:Int)-1))) (aR.mk zA.reached (!zA.done)))
  else
   if x37.Code == 16 then
    (sub l1 0 (aQr.wrap ((l1.length:Int)-1))).bind fun zD=>
    fC N aO aT bL bI x35 rec f6 jU zD
   else
    if fF then
     (vR N x37.Code x37.Data x37.M x37.N f6 aO aT bL).bind fun aHj=>
     if aHj.2 != 0 then
      some (.ret ([],0,aHj.2))
     else
      fC N aO aT bL bI x35 rec aHj.1 jU l1
    else
     fC N aO aT bL bI x35 rec f6 jU l1
def pW (N:Nat)(aO:List Int)(aT bL:Int)(bI:(List aK)×Int)(f6:List (List Int))(iO x35:Int)(l1:List aR)(x37:aK)(rec:(List (List Int))→Int→Int→(List aR)→Option (LR ((List (List Int))×Int) ((List (List Int))×Int×Int)))(fF:Bool):Option (LR ((List (List Int))×Int) ((List (List Int))×Int×Int)):=
 if fF then
  (xZ N x37.Code x37.Data x37.M x37.N).bind fun x59=>
  if decide (500<(aQr.wrap (iO+x59))) then
   some (.ret ([],0,83))
  else
   (t7 N x37.Code x37.Data x37.M x37.N).bind fun x66=>
   if decide ((f6.length:Int)<x66) then
    some (.ret ([],0,81))
   else
    pH N aO aT bL bI f6 x35 l1 x37 fF rec (aQr.wrap (iO+x59))
 else
  pH N aO aT bL bI f6 x35 l1 x37 fF rec iO
def mN (N:Nat)(aO:List Int)(aT bL:Int)(bI:(List aK)×Int)(f6:List (List Int))(iO x35:Int)(l1:List aR)(x37:aK)(x40:Bool)(rec:(List (List Int))→Int→Int→(List aR)→Option (LR ((List (List Int))×Int) ((List (List Int))×Int×Int)))(x48:Bool):Option (LR ((List (List Int))×Int) ((List (List Int))×Int×Int)):=
 if x48 then
  (bS l1 (aQr.wrap ((l1.length:Int)-1))).bind fun x53=>
  pW N aO aT bL bI f6 iO x35 l1 x37 rec x53.reached
 else
  pW N aO aT bL bI f6 iO x35 l1 x37 rec x40
def cS (N:Nat)(aO:List Int)(aT bL:Int)(bI:(List aK)×Int):Nat→(List (List Int))→Int→Int→(List aR)→Option (LR ((List (List Int))×Int) ((List (List Int))×Int×Int))
 |0,_,_,_,_=>none
 |m+1,f6,iO,x35,l1=>
  if decide (x35<(bI.1.length:Int)) then
   (bS bI.1 x35).bind fun x37=>
   (sI N l1).bind fun x40=>
   if x37.Code == 15 then
    mN N aO aT bL bI f6 iO x35 l1 x37 x40 (cS N aO aT bL bI m) true
   else
    mN N aO aT bL bI f6 iO x35 l1 x37 x40 (cS N aO aT bL bI m) (x37.Code == 16)
  else
   some (.brk (f6,iO))
def yK (N:Nat)(b:List Int)(stack:List (List Int))(aO:List Int)(aT bL:Int):Option ((List (List Int))×Int×Int):=
 (uJ N b).bind fun bI=>
 if bI.2 != 0 then
  some ([],0,bI.2)
 else
  (sF N bI.1).bind fun x27=>
  if !x27 then
   some ([],0,86)
  else
   (vV N stack).bind fun mX=>
   if mX then
    some ([],0,4)
   else
    (rL N stack).bind fun pR=>
    (cS N aO aT bL bI N pR 0 0 []).bind fun q=>match q with
     | .ret v=>some v
     | .brk p2=>
      aAp N p2.1 p2.2
def sL (N:Nat):Option Bool:=
 some true
def fZ (N:Nat)(va b:List (List Int)):Nat→Int→Option (LR (Unit) (Bool))
 |0,_=>none
 |m+1,cB=>
  if decide (cB<(va.length:Int)) then
   (bS va cB).bind fun x18=>
   (bS b cB).bind fun bN=>
   (tF N x18 bN).bind fun dO=>
   if !dO then
    some (.ret false)
   else
    (fZ N va b m) (aQr.wrap (cB+1))
  else
   some (.brk ())
def oA (N:Nat)(va b:List (List Int)):Option Bool:=
 if(va.length:Int) != (b.length:Int) then
  some false
 else
  (fZ N va b N 0).bind fun q=>match q with
   | .ret v=>some v
   | .brk p2=>
    sL N
def f7 (N:Nat)(x6:Bool):Option Bool:=
 some x6
def gJ (N:Nat)(l:List aK)(stack:List (List Int))(aO:List Int)(aT bL:Int)(dO:Bool):Option Bool:=
 if dO then
  some true
 else
  (pU N l).bind fun x27=>
  if x27.2 != 0 then
   some true
  else
   (tB N x27.1 stack aO aT bL).bind fun x36=>
   (yK N x27.1 stack aO aT bL).bind fun x44=>
   if x36.2.2 == x44.2.2 then
    if x36.2.1 == x44.2.1 then
     (oA N x36.1 x44.1).bind fun x59=>
     if x59 then
      if decide (x36.2.1≤500) then
       f7 N (decide ((x36.1.length:Int)≤64))
      else
       f7 N false
     else
      f7 N false
    else
     f7 N false
   else
    f7 N false
def nO (N:Nat)(l:List aK)(stack:List (List Int))(aO:List Int)(aT bL:Int):Option Bool:=
 (zO N).bind fun x15=>
 if !x15 then
  some false
 else
  (aAu N l 40).bind fun x18=>
  if !x18 then
   gJ N l stack aO aT bL true
  else
   (vG N stack 70 600).bind fun bN=>
   gJ N l stack aO aT bL (!bN)
end Go.Proofs.YtnllpckhipmpgaaGreatDoor
namespace Go.Vm
open Go Go.ChangeShapes Go.WideShapes Go.ChangeAt Go.RowKit
section
variable {P:Program}{t e:TypeId}
theorem aD3 {α:Type}{w:World}{E:α→V}: ∀(l:List α)(vs:List Value),l.length=vs.length→(∀(i:Nat)(x:α)(v:Value),l[i]? =some x→vs[i]? =some v→VR rP [] w (E x) v)→VCells rP [] w (l.map E) vs
 | [],[],_,_=>qP
 | [],_::_,h,_=>by cases h
 |_::_,[],h,_=>by cases h
 |x::l,v::vs,h,k=>kX (k 0 x v rfl rfl) (aD3 l vs (by simpa using h) fun i x' v' h1 h2=>k (i+1) x' v' (by simpa using h1) (by simpa using h2))
theorem aIb {n:Nat}{k:IntKind}(ht:P.underlying t=some (.array n e))(he:P.underlying e=some (.int k))(h1:P.cellsOf e=1)(hn:P.cellsOf t=n):
  zY P t (fun x:{l:List Int // l.length=n}=> ∀y∈x.1,(Lit.int k y).wf=true) (fun x=>x.1.map (eI k)):=by
 intro H enc w spare held fuel cs x h
 obtain⟨xs,m,_,_,hl,hxs,hf⟩:=DataW.trod_array ht h
 rw[hn]at hl
 have each: ∀i,i<n→ ∃a:Int,(Lit.int k a).wf=true∧ ∀v,cs[i]? =some v→VR rP [] w (eI k a) v:=by
  intro i hi
  have h2:=hf i hi
  rw[h1,Nat.mul_one,aQT (by omega)]at h2
  obtain⟨a,hw,hc⟩:=qB he h2
  refine⟨a,hw,fun v hv=> ?_⟩
  have e2:(cs.drop i).take 1=[v]:=by
   obtain⟨hic,rfl⟩:=List.getElem?_eq_some_iff.1 hv
   rw[aQD hic];rfl
  rw[e2]at hc
  exact aDs hc
 obtain⟨l,hll,hr⟩:=aAS n each
 refine⟨⟨l,hll⟩,fun y hy=> ?_,aD3 l cs (by omega) fun i x v h1 h2=>(hr i x h1).2 v h2⟩
 obtain⟨i,hi,rfl⟩:=List.mem_iff_getElem.1 hy
 exact(hr i _ (aQT hi)).1
theorem aKv {n:Nat}{k:IntKind}(ht:P.underlying t=some (.array n e))(he:P.underlying e=some (.int k))(h1:P.cellsOf e=1)(hn:P.cellsOf t=n):
  zY P t (fun x:List Int=>x.length=n∧ ∀y∈x,(Lit.int k y).wf=true) (fun x=>x.map (eI k)):=by
 intro H enc w spare held fuel cs x h
 obtain⟨a,hq,hc⟩:=aIb ht he h1 hn h
 exact⟨a.1,⟨a.2,hq⟩,hc⟩
theorem aEJ {w:World}: ∀{A B:List V}{us bs:List Value},VCells rP [] w A us→VCells rP [] w B bs→VCells rP [] w (A++B) (us++bs)
 | [],B,us,bs,h,k=>by
  unfold VCells at h
  subst h
  exact k
 |a::A,B,us,bs,h,k=>by
  unfold VCells at h
  obtain⟨v,rest,rfl,h1,h2⟩:=h
  exact kX h1 (aEJ h2 k)
theorem sP {w:World}{A B:List V}{cs:List Value}{o n:Nat}(h:VCells rP [] w A ((cs.drop o).take n))(k:VCells rP [] w B (cs.drop (o+n))):VCells rP [] w (A++B) (cs.drop o):=by
 have e:cs.drop o=(cs.drop o).take n++cs.drop (o+n):=by rw[←List.drop_drop,List.take_append_drop]
 rw[e]
 exact aEJ h k
theorem aD9 {w:World}{cs:List Value}{n:Nat}(h:cs.length=n):VCells rP [] w [] (cs.drop n):=by
 rw[aQB (by omega)];exact qP
end
end Go.Vm
namespace Go.Proofs.YtnllpckhipmpgaaGreatDoor
open Go Go.Vm
open Go.ChangeShapes Go.WideShapes Go.ChangeAt Go.RowKit
def aLE (x:aK):Prop:=((Lit.int .i64 x.Code).wf=true)∧(∀z0∈x.Data,(Lit.int .u8 z0).wf=true)∧((Lit.int .i64 x.M).wf=true)∧((Lit.int .i64 x.N).wf=true)
set_option maxRecDepth 100000 in
theorem aHK :zY Tryz.prog 46 aLE bT:=by
 intro H enc w spare held fuel cs x h
 obtain⟨xs,n,_,_,hl,hlen,hf⟩:=DataW.trod_struct Tryz.underlying46 h
 rw[show Tryz.prog.cellsOf 46=4 by kernel_rfl]at hl
 match xs,hlen,hf with
 | [y0,y1,y2,y3],_,hf=>
  have h0:DataW.trod enc Tryz.prog w 0 spare held n 3 ((cs.drop 0).take (Tryz.prog.cellsOf 3))=some y0:=hf 0 _ rfl
  obtain⟨a0,q0,c0⟩:=(qB Tryz.underlying3) h0
  rw[show Tryz.prog.cellsOf 3=1 by kernel_rfl]at c0
  have h1:DataW.trod enc Tryz.prog w 0 spare held n 31 ((cs.drop 1).take (Tryz.prog.cellsOf 31))=some y1:=hf 1 _ rfl
  obtain⟨a1,q1,c1⟩:=(aAU Tryz.underlying31 (qB Tryz.underlying5) (by kernel_rfl) (by decide) (aDy (E:=(eI .u8)) fun _=>rfl)) h1
  rw[show Tryz.prog.cellsOf 31=1 by kernel_rfl]at c1
  have h2:DataW.trod enc Tryz.prog w 0 spare held n 3 ((cs.drop 2).take (Tryz.prog.cellsOf 3))=some y2:=hf 2 _ rfl
  obtain⟨a2,q2,c2⟩:=(qB Tryz.underlying3) h2
  rw[show Tryz.prog.cellsOf 3=1 by kernel_rfl]at c2
  have h3:DataW.trod enc Tryz.prog w 0 spare held n 3 ((cs.drop 3).take (Tryz.prog.cellsOf 3))=some y3:=hf 3 _ rfl
  obtain⟨a3,q3,c3⟩:=(qB Tryz.underlying3) h3
  rw[show Tryz.prog.cellsOf 3=1 by kernel_rfl]at c3
  refine⟨⟨a0,a1,a2,a3⟩,⟨q0,q1,q2,q3⟩, ?_⟩
  have c:=(sP (o:=0) c0 (sP (o:=1) c1 (sP (o:=2) c2 (sP (o:=3) c3 (aD9 hl)))))
  exact c
structure aAP where
 Message:List Int
 Height:Int
 Age:Int
abbrev rX (x:aAP):List V:=(bJ (eI .u8) x.Message [(eI .i64 x.Height),(eI .i64 x.Age)])
@[simp] theorem aNz {f:Nat→Nat}(l:List aAP):V.rns f (l.flatMap rX)=l.flatMap rX:=jV (fun _=>rfl) l
@[simp] theorem aNx {f:Nat→Nat}(x:aAP):V.rns f (rX x)=rX x:=rfl
def aJP (x:aAP):Prop:=(x.Message.length=32∧ ∀z0∈x.Message,(Lit.int .u8 z0).wf=true)∧((Lit.int .i64 x.Height).wf=true)∧((Lit.int .i64 x.Age).wf=true)
set_option maxRecDepth 100000 in
theorem aGy :zY Tryz.prog 27 aJP rX:=by
 intro H enc w spare held fuel cs x h
 obtain⟨xs,n,_,_,hl,hlen,hf⟩:=DataW.trod_struct Tryz.underlying27 h
 rw[show Tryz.prog.cellsOf 27=34 by kernel_rfl]at hl
 match xs,hlen,hf with
 | [y0,y1,y2],_,hf=>
  have h0:DataW.trod enc Tryz.prog w 0 spare held n 25 ((cs.drop 0).take (Tryz.prog.cellsOf 25))=some y0:=hf 0 _ rfl
  obtain⟨a0,q0,c0⟩:=(aKv Tryz.underlying25 Tryz.underlying5 (by kernel_rfl) (by kernel_rfl)) h0
  rw[show Tryz.prog.cellsOf 25=32 by kernel_rfl]at c0
  have h1:DataW.trod enc Tryz.prog w 0 spare held n 3 ((cs.drop 32).take (Tryz.prog.cellsOf 3))=some y1:=hf 1 _ rfl
  obtain⟨a1,q1,c1⟩:=(qB Tryz.underlying3) h1
  rw[show Tryz.prog.cellsOf 3=1 by kernel_rfl]at c1
  have h2:DataW.trod enc Tryz.prog w 0 spare held n 3 ((cs.drop 33).take (Tryz.prog.cellsOf 3))=some y2:=hf 2 _ rfl
  obtain⟨a2,q2,c2⟩:=(qB Tryz.underlying3) h2
  rw[show Tryz.prog.cellsOf 3=1 by kernel_rfl]at c2
  refine⟨⟨a0,a1,a2⟩,⟨q0,q1,q2⟩, ?_⟩
  have c:=(sP (o:=0) c0 (sP (o:=32) c1 (sP (o:=33) c2 (aD9 hl))))
  simp only[rX,aHH q0.1]
  exact c
end Go.Proofs.YtnllpckhipmpgaaGreatDoor
namespace Go.Vm
open Go
def iN (l:List Nat):List Int:=l.map fun(x:Nat)=>(x:Int)
theorem aEq (l:List Nat):(iN l).length=l.length:=by simp[iN]
theorem aJ2 {d:List Int}(h:Byt d):iN (d.map aQv)=d∧ ∀x∈d.map aQv,x<256:=by
 constructor
 ·simp only[iN,List.map_map]
  conv=>rhs;rw[←List.map_id d]
  refine List.map_congr_left fun x hx=> ?_
  have:=h x hx
  simp only[Function.comp,id];omega
 intro x hx
 simp only[List.mem_map]at hx
 obtain⟨y,hy,rfl⟩:=hx
 have:=h y hy
 omega
theorem aID {d:List Int}(h:Byt d): ∃l:List Nat,d=iN l∧ ∀x∈l,x<256:=⟨_,(aJ2 h).1.symm,(aJ2 h).2⟩
theorem i1 {j:Nat}(hj:j≤100000):aQr.wrap ((j:Int)+1)=((j+1:Nat):Int):=by rw[b5 (by omega) (by omega)];simp
theorem dT {j n:Nat}(h:j<n):decide ((j:Int)<(n:Int))=true:=by simpa using h
theorem dF {j n:Nat}(h: ¬j<n):decide ((j:Int)<(n:Int))=false:=by simp;omega
theorem kQ :100000000≤lH:=by decide
theorem tU {l m:List Int}(h:l.length+m.length≤100000000):eM 1 l m=some (l++m):=by
 have:=kQ
 exact vX (by omega)
theorem aGf {α:Type}{f:Nat→Int→List Int→Option (List Int)}{xs:List α}{g:α→List Int}{B:Nat}(hn:xs.length≤100000)
  (hs: ∀m j acc (hj:j<xs.length),acc.length+(g xs[j]).length≤B→f (m+1) (j:Int) acc=f m ((j+1:Nat):Int) (acc++g xs[j])) (he: ∀m j acc,xs.length≤j→f (m+1) (j:Int) acc=some acc):
  ∀(m j:Nat)(acc:List Int),xs.length-j<m→j≤xs.length→acc.length+((xs.drop j).flatMap g).length≤B→f m (j:Int) acc=some (acc++(xs.drop j).flatMap g)
 |0,j,acc,hm,_,_=>by omega
 |m+1,j,acc,hm,hj,hB=>by
  by_cases h:j<xs.length
  ·rw[aQD h,aQ7,aQM]at hB
   rw[hs m j acc h (by omega),aGf hn hs he m (j+1) _ (by omega) (by omega) (by rw[aQM];omega),aQD h,aQ7,aQH]
  rw[he m j acc (by omega),aQB (by omega)];simp
theorem xF {α R:Type}{f:Nat→Int→Option (LR Unit R)}{xs:List α}{p:α→Bool}{r:R}
  (hs: ∀m j (hj:j<xs.length),f (m+1) (j:Int)=if p xs[j]=true then f m ((j+1:Nat):Int)else some (.ret r)) (he: ∀m j,xs.length≤j→f (m+1) (j:Int)=some (.brk ())):
  ∀(m j:Nat),xs.length-j<m→j≤xs.length→f m (j:Int)=some (if(xs.drop j).all p=true then .brk ()else .ret r)
 |0,j,hm,_=>by omega
 |m+1,j,hm,hj=>by
  by_cases h:j<xs.length
  ·rw[hs m j h,xF hs he m (j+1) (by omega) (by omega),aQD h,List.all_cons]
   cases p xs[j]<;>simp
  rw[he m j (by omega),aQB (by omega)];simp
end Go.Vm
set_option linter.unusedSectionVars false
namespace Go.Proofs.YtnllpckhipmpgaaGreatDoor
open Go Go.Vm
def w4 (a b c d:Nat):List Int:=[(a:Int),(b:Int),(c:Int),(d:Int)]
def vl (a b c d:Nat):Nat:=a+18446744073709551616*b+340282366920938463463374607431768211456*c+6277101735386680763835789423207666416102355444464034512896*d
def U (n:Nat):List Int:=w4 (n%18446744073709551616) (n/18446744073709551616%18446744073709551616) (n/340282366920938463463374607431768211456%18446744073709551616) (n/6277101735386680763835789423207666416102355444464034512896%18446744073709551616)
theorem aOM (n:Nat):(U n).length=4:=rfl
theorem aDF {a b c d:Nat}(ha:a<18446744073709551616)(hb:b<18446744073709551616)(hc:c<18446744073709551616)(hd:d<18446744073709551616):w4 a b c d=U (vl a b c d):=by
 unfold U vl
 have h0:(a+18446744073709551616*b+340282366920938463463374607431768211456*c+6277101735386680763835789423207666416102355444464034512896*d)%18446744073709551616=a:=by omega
 have h1:(a+18446744073709551616*b+340282366920938463463374607431768211456*c+6277101735386680763835789423207666416102355444464034512896*d)/18446744073709551616%18446744073709551616=b:=by omega
 have h2:(a+18446744073709551616*b+340282366920938463463374607431768211456*c+6277101735386680763835789423207666416102355444464034512896*d)/340282366920938463463374607431768211456%18446744073709551616=c:=by omega
 have h3:(a+18446744073709551616*b+340282366920938463463374607431768211456*c+6277101735386680763835789423207666416102355444464034512896*d)/6277101735386680763835789423207666416102355444464034512896%18446744073709551616=d:=by omega
 rw[h0,h1,h2,h3]
theorem v6 {n:Nat}(h:n<115792089237316195423570985008687907853269984665640564039457584007913129639936): ∃a b c d,a<18446744073709551616∧b<18446744073709551616∧c<18446744073709551616∧d<18446744073709551616∧U n=w4 a b c d∧n=vl a b c d:=by
 refine⟨n%18446744073709551616,n/18446744073709551616%18446744073709551616,n/340282366920938463463374607431768211456%18446744073709551616,n/6277101735386680763835789423207666416102355444464034512896%18446744073709551616,by omega,by omega,by omega,by omega,rfl, ?_⟩
 unfold vl
 omega
theorem aCX {a b c d:Nat}(ha:a<18446744073709551616)(hb:b<18446744073709551616)(hc:c<18446744073709551616)(hd:d<18446744073709551616):vl a b c d<115792089237316195423570985008687907853269984665640564039457584007913129639936:=by unfold vl;omega
def Wd (l:List Int):Prop:=l.length=4∧ ∀x∈l,0≤x∧x<18446744073709551616
theorem Wd.ex {l:List Int}(h:Wd l): ∃n,n<115792089237316195423570985008687907853269984665640564039457584007913129639936∧l=U n:=by
 obtain⟨hl,hx⟩:=h
 match l,hl,hx with
 | [a,b,c,d],_,hx=>
  have ha:=hx a (by simp)
  have hb:=hx b (by simp)
  have hc:=hx c (by simp)
  have hd:=hx d (by simp)
  refine⟨vl a.toNat b.toNat c.toNat d.toNat,aCX (by omega) (by omega) (by omega) (by omega), ?_⟩
  rw[←aDF (by omega) (by omega) (by omega) (by omega)]
  unfold w4
  rw[aQL ha.1,aQL hb.1,aQL hc.1,aQL hd.1]
theorem aOT {a b:Nat}(ha:a<115792089237316195423570985008687907853269984665640564039457584007913129639936)(hb:b<115792089237316195423570985008687907853269984665640564039457584007913129639936)(h:U a=U b):a=b:=by
 simp only[U,w4,List.cons.injEq,and_true]at h
 omega
theorem wG {a b:Nat}(ha:a<115792089237316195423570985008687907853269984665640564039457584007913129639936)(hb:b<115792089237316195423570985008687907853269984665640564039457584007913129639936):(U a == U b)=decide (a=b):=by
 by_cases h:a=b
 ·subst h;simp
 rw[decide_eq_false h]
 apply beq_eq_false_iff_ne.2
 exact fun e=>h (aOT ha hb e)
theorem tV :U 0=[0,0,0,0]:=rfl
theorem a40 (a b c d:Nat):bB 4 (w4 a b c d) 0=some (a:Int):=rfl
theorem a41 (a b c d:Nat):bB 4 (w4 a b c d) 1=some (b:Int):=rfl
theorem a42 (a b c d:Nat):bB 4 (w4 a b c d) 2=some (c:Int):=rfl
theorem a43 (a b c d:Nat):bB 4 (w4 a b c d) 3=some (d:Int):=rfl
theorem bA (n:Nat):aS 4 (U n)=some (U n):=rfl
theorem q40 (a b c d:Int):bB 4 [a,b,c,d] 0=some a:=rfl
theorem q41 (a b c d:Int):bB 4 [a,b,c,d] 1=some b:=rfl
theorem q42 (a b c d:Int):bB 4 [a,b,c,d] 2=some c:=rfl
theorem q43 (a b c d:Int):bB 4 [a,b,c,d] 3=some d:=rfl
theorem t40 (a b c d x:Int):[a,b,c,d].set (aQv 0) x=[x,b,c,d]:=rfl
theorem t41 (a b c d x:Int):[a,b,c,d].set (aQv 1) x=[a,x,c,d]:=rfl
theorem t42 (a b c d x:Int):[a,b,c,d].set (aQv 2) x=[a,b,x,d]:=rfl
theorem t43 (a b c d x:Int):[a,b,c,d].set (aQv 3) x=[a,b,c,x]:=rfl
theorem r40 :aQs 4 (0:Int)=[0,0,0,0]:=rfl
theorem aNR (a b c d:Nat):w4 a b c d=[(a:Int),(b:Int),(c:Int),(d:Int)]:=rfl
theorem d04 :decide ((0:Int)<4)=true:=rfl
theorem d14 :decide ((1:Int)<4)=true:=rfl
theorem d24 :decide ((2:Int)<4)=true:=rfl
theorem d34 :decide ((3:Int)<4)=true:=rfl
theorem d44 :decide ((4:Int)<4)=false:=rfl
theorem i01 :aQr.wrap (0+1)=1:=by decide +kernel
theorem i12 :aQr.wrap (1+1)=2:=by decide +kernel
theorem i23 :aQr.wrap (2+1)=3:=by decide +kernel
theorem i34 :aQr.wrap (3+1)=4:=by decide +kernel
theorem i32 :aQr.wrap (3-1)=2:=by decide +kernel
theorem i21 :aQr.wrap (2-1)=1:=by decide +kernel
theorem i10 :aQr.wrap (1-1)=0:=by decide +kernel
theorem i0m :aQr.wrap (0-1)= -1:=by decide +kernel
theorem rJ {α:Type}(f:Nat→α){N:Nat}(h:70000≤N): ∃m,f N=f (m+1+1+1+1+1):=⟨N-5,by congr 1;omega⟩
theorem oU {x y c:Nat}(hx:x<18446744073709551616)(hy:y<18446744073709551616)(hc:c≤1): ∃s k:Nat,pA (x:Int) (y:Int) (c:Int)=some ((s:Int),(k:Int))∧x+y+c=s+18446744073709551616*k∧s<18446744073709551616∧k≤1:=by
 refine⟨(x+y+c)%18446744073709551616,(x+y+c)/18446744073709551616, ?_,by omega,by omega,by omega⟩
 unfold pA
 simp only[aQ8]
 rw[if_pos hc]
theorem sE {x y c:Nat}(hx:x<18446744073709551616)(hy:y<18446744073709551616)(hc:c≤1): ∃s k:Nat,aBA (x:Int) (y:Int) (c:Int)=some ((s:Int),(k:Int))∧x+18446744073709551616*k=y+c+s∧s<18446744073709551616∧k≤1:=by
 refine⟨(x+18446744073709551616-y-c)%18446744073709551616,if x<y+c then 1 else 0, ?_, ?_,by omega, ?_⟩
 ·unfold aBA
  simp only[aQ8]
  rw[if_pos hc]
 ·split<;>omega
 split<;>omega
theorem aN7 {N:Nat}(hN:70000≤N){a0 a1 a2 a3 b0 b1 b2 b3:Nat}(ha0:a0<18446744073709551616)(ha1:a1<18446744073709551616)(ha2:a2<18446744073709551616)(ha3:a3<18446744073709551616)(hb0:b0<18446744073709551616)(hb1:b1<18446744073709551616)(hb2:b2<18446744073709551616)(hb3:b3<18446744073709551616):
  ∃s0 s1 s2 s3 k:Nat,sS N (w4 a0 a1 a2 a3) (w4 b0 b1 b2 b3)=some (w4 s0 s1 s2 s3,((k:Int) != 0))∧vl a0 a1 a2 a3+vl b0 b1 b2 b3=vl s0 s1 s2 s3+115792089237316195423570985008687907853269984665640564039457584007913129639936*k∧s0<18446744073709551616∧s1<18446744073709551616∧s2<18446744073709551616∧s3<18446744073709551616∧k≤1:=by
 obtain⟨s0,k0,e0,f0,g0,l0⟩:=oU ha0 hb0 (aQQ 1)
 obtain⟨s1,k1,e1,f1,g1,l1⟩:=oU ha1 hb1 l0
 obtain⟨s2,k2,e2,f2,g2,l2⟩:=oU ha2 hb2 l1
 obtain⟨s3,k3,e3,f3,g3,l3⟩:=oU ha3 hb3 l2
 refine⟨s0,s1,s2,s3,k3, ?_,by unfold vl;omega,g0,g1,g2,g3,l3⟩
 obtain⟨m,hm⟩:=rJ (fun q=>iW N (w4 a0 a1 a2 a3) (w4 b0 b1 b2 b3) q 0 0 (aQs 4 0)) hN
 unfold sS
 rw[hm]
 have e0':pA (a0:Int) (b0:Int) 0=some ((s0:Int),(k0:Int)):=e0
 simp only[iW,cV,a40,a41,a42,a43,q40,q41,q42,q43,t40,t41,t42,t43,r40,i01,i12,i23,i34,d04,d14,d24,d34,d44,if_true,aQy,if_false,aQu,e0',e1,e2,e3,t9]
 rfl
theorem aLX {N:Nat}(hN:70000≤N){a b:Nat}(ha:a<115792089237316195423570985008687907853269984665640564039457584007913129639936)(hb:b<115792089237316195423570985008687907853269984665640564039457584007913129639936):sS N (U a) (U b)=some (U ((a+b)%115792089237316195423570985008687907853269984665640564039457584007913129639936),decide (115792089237316195423570985008687907853269984665640564039457584007913129639936≤a+b)):=by
 obtain⟨a0,a1,a2,a3,x0,x1,x2,x3,ea,va⟩:=v6 ha
 obtain⟨b0,b1,b2,b3,y0,y1,y2,y3,eb,vb⟩:=v6 hb
 obtain⟨s0,s1,s2,s3,k,h1,h2,z0,z1,z2,z3,hk⟩:=aN7 hN x0 x1 x2 x3 y0 y1 y2 y3
 have hv:=aCX z0 z1 z2 z3
 rw[ea,eb,h1,aDF z0 z1 z2 z3,show(a+b)%115792089237316195423570985008687907853269984665640564039457584007913129639936=vl s0 s1 s2 s3 by omega]
 congr 2
 by_cases h:115792089237316195423570985008687907853269984665640564039457584007913129639936≤a+b
 ·rw[decide_eq_true h,show k=1 by omega];rfl
 rw[decide_eq_false h,show k=0 by omega];rfl
theorem aNQ {N:Nat}(hN:70000≤N){a0 a1 a2 a3 b0 b1 b2 b3:Nat}(ha0:a0<18446744073709551616)(ha1:a1<18446744073709551616)(ha2:a2<18446744073709551616)(ha3:a3<18446744073709551616)(hb0:b0<18446744073709551616)(hb1:b1<18446744073709551616)(hb2:b2<18446744073709551616)(hb3:b3<18446744073709551616):
  ∃s0 s1 s2 s3 k:Nat,o5 N (w4 a0 a1 a2 a3) (w4 b0 b1 b2 b3)=some (w4 s0 s1 s2 s3,((k:Int) != 0))∧vl a0 a1 a2 a3+115792089237316195423570985008687907853269984665640564039457584007913129639936*k=vl b0 b1 b2 b3+vl s0 s1 s2 s3∧s0<18446744073709551616∧s1<18446744073709551616∧s2<18446744073709551616∧s3<18446744073709551616∧k≤1:=by
 obtain⟨s0,k0,e0,f0,g0,l0⟩:=sE ha0 hb0 (aQQ 1)
 obtain⟨s1,k1,e1,f1,g1,l1⟩:=sE ha1 hb1 l0
 obtain⟨s2,k2,e2,f2,g2,l2⟩:=sE ha2 hb2 l1
 obtain⟨s3,k3,e3,f3,g3,l3⟩:=sE ha3 hb3 l2
 refine⟨s0,s1,s2,s3,k3, ?_,by unfold vl;omega,g0,g1,g2,g3,l3⟩
 obtain⟨m,hm⟩:=rJ (fun q=>iP N (w4 a0 a1 a2 a3) (w4 b0 b1 b2 b3) q 0 0 (aQs 4 0)) hN
 unfold o5
 rw[hm]
 have e0':aBA (a0:Int) (b0:Int) 0=some ((s0:Int),(k0:Int)):=e0
 simp only[iP,nZ,a40,a41,a42,a43,q40,q41,q42,q43,t40,t41,t42,t43,r40,i01,i12,i23,i34,d04,d14,d24,d34,d44,if_true,aQy,if_false,aQu,e0',e1,e2,e3,uB]
 rfl
theorem aC2 {N:Nat}(hN:70000≤N){a b:Nat}(ha:a<115792089237316195423570985008687907853269984665640564039457584007913129639936)(hb:b<115792089237316195423570985008687907853269984665640564039457584007913129639936):o5 N (U a) (U b)=some (U ((a+115792089237316195423570985008687907853269984665640564039457584007913129639936-b)%115792089237316195423570985008687907853269984665640564039457584007913129639936),decide (a<b)):=by
 obtain⟨a0,a1,a2,a3,x0,x1,x2,x3,ea,va⟩:=v6 ha
 obtain⟨b0,b1,b2,b3,y0,y1,y2,y3,eb,vb⟩:=v6 hb
 obtain⟨s0,s1,s2,s3,k,h1,h2,z0,z1,z2,z3,hk⟩:=aNQ hN x0 x1 x2 x3 y0 y1 y2 y3
 have hv:=aCX z0 z1 z2 z3
 rw[ea,eb,h1,aDF z0 z1 z2 z3,show(a+115792089237316195423570985008687907853269984665640564039457584007913129639936-b)%115792089237316195423570985008687907853269984665640564039457584007913129639936=vl s0 s1 s2 s3 by omega]
 congr 2
 by_cases h:a<b
 ·rw[decide_eq_true h,show k=1 by omega];rfl
 rw[decide_eq_false h,show k=0 by omega];rfl
theorem uO {N:Nat}(hN:70000≤N){a b:Nat}(ha:a<115792089237316195423570985008687907853269984665640564039457584007913129639936)(hb:b<115792089237316195423570985008687907853269984665640564039457584007913129639936):lS N (U a) (U b)=some (if a<b then -1 else if b<a then 1 else 0):=by
 obtain⟨a0,a1,a2,a3,x0,x1,x2,x3,ea,va⟩:=v6 ha
 obtain⟨b0,b1,b2,b3,y0,y1,y2,y3,eb,vb⟩:=v6 hb
 rw[ea,eb]
 obtain⟨m,hm⟩:=rJ (fun q=>kU N (w4 a0 a1 a2 a3) (w4 b0 b1 b2 b3) q 3) hN
 unfold lS
 rw[hm]
 unfold vl at va vb
 simp only[kU,a40,a41,a42,a43,i32,i21,i10,i0m,show decide ((0:Int)≤3)=true from rfl,show decide ((0:Int)≤2)=true from rfl,show decide ((0:Int)≤1)=true from rfl,show decide ((0:Int)≤0)=true from rfl,show decide ((0:Int)≤ -1)=false from rfl,if_true,aQy,if_false,aQu,xO,decide_eq_true_eq,Int.ofNat_lt]
 by_cases c3:a3<b3
 ·rw[if_pos c3,if_pos (by omega)];rfl
 rw[if_neg c3]
 by_cases d3:b3<a3
 ·rw[if_pos d3,if_neg (by omega),if_pos (by omega)];rfl
 rw[if_neg d3]
 by_cases c2:a2<b2
 ·rw[if_pos c2,if_pos (by omega)];rfl
 rw[if_neg c2]
 by_cases d2:b2<a2
 ·rw[if_pos d2,if_neg (by omega),if_pos (by omega)];rfl
 rw[if_neg d2]
 by_cases c1:a1<b1
 ·rw[if_pos c1,if_pos (by omega)];rfl
 rw[if_neg c1]
 by_cases d1:b1<a1
 ·rw[if_pos d1,if_neg (by omega),if_pos (by omega)];rfl
 rw[if_neg d1]
 by_cases c0:a0<b0
 ·rw[if_pos c0,if_pos (by omega)];rfl
 rw[if_neg c0]
 by_cases d0:b0<a0
 ·rw[if_pos d0,if_neg (by omega),if_pos (by omega)];rfl
 rw[if_neg d0,if_neg (by omega),if_neg (by omega)];rfl
theorem aEj {x l:Nat}(hx:x<18446744073709551616)(hl:l≤1): ∃y s k:Nat,shl .u64 (x:Int) 1=some (y:Int)∧shr .u64 (x:Int) 63=some (k:Int)∧bits .or .u64 (y:Int) (l:Int)=(s:Int)∧2*x+l=s+18446744073709551616*k∧s<18446744073709551616∧k≤1:=by
 have h1:x*2^1%18446744073709551616=(x%9223372036854775808)*2^1:=by omega
 refine⟨x*2^1%18446744073709551616,(x%9223372036854775808)*2^1+l,x/9223372036854775808,aBf rfl x 1,u5 x 63 hx, ?_,by omega,by omega,by omega⟩
 rw[uH rfl _ _ (show x*2^1%18446744073709551616<2^64 by omega) (show l<2^64 by omega),h1]
 congr 1
 rw[aQG,←Nat.two_pow_add_eq_or_of_lt (show l<2^1 by omega)]
theorem aL9 {N:Nat}(hN:70000≤N){a l:Nat}(ha:a<115792089237316195423570985008687907853269984665640564039457584007913129639936)(hl:l≤1): ∃k:Nat,oS N (U a) (l:Int)=some (U ((2*a+l)%115792089237316195423570985008687907853269984665640564039457584007913129639936),(k:Int))∧k=(2*a+l)/115792089237316195423570985008687907853269984665640564039457584007913129639936:=by
 obtain⟨a0,a1,a2,a3,x0,x1,x2,x3,ea,va⟩:=v6 ha
 obtain⟨y0,s0,k0,e0,f0,g0,h0,j0,l0⟩:=aEj x0 hl
 obtain⟨y1,s1,k1,e1,f1,g1,h1,j1,l1⟩:=aEj x1 l0
 obtain⟨y2,s2,k2,e2,f2,g2,h2,j2,l2⟩:=aEj x2 l1
 obtain⟨y3,s3,k3,e3,f3,g3,h3,j3,l3⟩:=aEj x3 l2
 unfold vl at va
 have hv:=aCX j0 j1 j2 j3
 have hvv:2*a+l=vl s0 s1 s2 s3+115792089237316195423570985008687907853269984665640564039457584007913129639936*k3:=by unfold vl;omega
 refine⟨k3, ?_,by omega⟩
 rw[ea,show(2*a+l)%115792089237316195423570985008687907853269984665640564039457584007913129639936=vl s0 s1 s2 s3 by omega,←aDF j0 j1 j2 j3]
 obtain⟨m,hm⟩:=rJ (fun q=>kN N q (l:Int) 0 (w4 a0 a1 a2 a3)) hN
 unfold oS
 rw[hm]
 simp only[kN,aNR,q40,q41,q42,q43,t40,t41,t42,t43,i01,i12,i23,i34,d04,d14,d24,d34,d44,if_true,aQy,if_false,aQu,e0,f0,g0,e1,f1,g1,e2,f2,g2,e3,f3,g3,tN]
 rfl
theorem um {a b:Nat}(h:a*b<18446744073709551616):aQw.wrap ((a:Int)*(b:Int))=((a*b:Nat):Int):=by rw[←Int.natCast_mul,uW (by omega) (by omega)]
theorem up {a b:Nat}(h:a+b<18446744073709551616):aQw.wrap ((a:Int)+(b:Int))=((a+b:Nat):Int):=by rw[←Int.natCast_add,uW (by omega) (by omega)]
theorem aIW {x:Nat}(h:x<18446744073709551616):bits .and .u64 (x:Int) 4294967295=((x%4294967296:Nat):Int):=by
 rw[show(4294967295:Int)=((4294967295:Nat):Int)from rfl,aCt (k:= .u64) rfl x _ (show x<2^64 from h) (by decide),show 4294967295=2^32-1 from rfl,Nat.and_two_pow_sub_one_eq_mod]
theorem aCo {x:Nat}(h:x<18446744073709551616):shr .u64 (x:Int) 32=some ((x/4294967296:Nat):Int):=u5 x 32 h
theorem aLn {N x y:Nat}(hx:x<18446744073709551616)(hy:y<18446744073709551616): ∃h l:Nat,jJ N (x:Int) (y:Int)=some ((h:Int),(l:Int))∧x*y=l+18446744073709551616*h∧l<18446744073709551616∧h<18446744073709551616:=by
 have x0:x%4294967296≤4294967295:=by omega
 have y0:y%4294967296≤4294967295:=by omega
 have x1:x/4294967296≤4294967295:=by omega
 have y1:y/4294967296≤4294967295:=by omega
 have ex:x=4294967296*(x/4294967296)+x%4294967296:=by omega
 have ey:y=4294967296*(y/4294967296)+y%4294967296:=by omega
 have lo:aQw.wrap ((x:Int)*(y:Int))=((x*y%18446744073709551616:Nat):Int):=by rw[←Int.natCast_mul,IntKind.wrap_u64];omega
 unfold jJ
 rw[aIW hx,aIW hy,aCo hx,aCo hy,lo]
 simp only[aQu]
 generalize x/4294967296=u1 at *
 generalize x%4294967296=u0 at *
 generalize y/4294967296=v1 at *
 generalize y%4294967296=v0 at *
 have p00:=aQJ x0 y0
 have p10:=aQJ x1 y0
 have p01:=aQJ x0 y1
 have p11:=aQJ x1 y1
 have hxy:x*y=18446744073709551616*(u1*v1)+4294967296*(u1*v0)+4294967296*(u0*v1)+u0*v0:=by
  rw[ex,ey,aQR,aQU,aQU,Nat.mul_mul_mul_comm,aQV 4294967296 u1 v0,aQI u0 4294967296 v1]
  omega
 rw[um (a:=u0) (b:=v0) (by omega),um (a:=u1) (b:=v0) (by omega),um (a:=u0) (b:=v1) (by omega),um (a:=u1) (b:=v1) (by omega)]
 clear ex ey lo
 generalize u0*v0=q00 at *
 generalize u1*v0=q10 at *
 generalize u0*v1=q01 at *
 generalize u1*v1=q11 at *
 rw[aCo (x:=q00) (by omega)]
 simp only[aQu]
 rw[up (a:=q10) (by omega),aCo (x:=q10+q00/4294967296) (by omega),aIW (x:=q10+q00/4294967296) (by omega)]
 simp only[aQu]
 rw[up (a:=(q10+q00/4294967296)%4294967296) (by omega),aCo (x:=(q10+q00/4294967296)%4294967296+q01) (by omega)]
 simp only[aQu]
 rw[up (a:=q11) (by omega),up (a:=q11+(q10+q00/4294967296)/4294967296) (by omega)]
 exact⟨_,_,rfl,by omega,by omega,by omega⟩
theorem o8 {N A b w c:Nat}(hA:A<18446744073709551616)(hb:b<18446744073709551616)(hw:w<18446744073709551616)(hc:c<18446744073709551616): ∃h l s k s' k' d:Nat,jJ N (A:Int) (b:Int)=some ((h:Int),(l:Int))∧pA (l:Int) (w:Int) 0=some ((s:Int),(k:Int))∧pA (s:Int) (c:Int) 0=some ((s':Int),(k':Int))∧
  aQw.wrap (aQw.wrap ((h:Int)+(k:Int))+(k':Int))=(d:Int)∧A*b+w+c=s'+18446744073709551616*d∧s'<18446744073709551616∧d<18446744073709551616:=by
 obtain⟨h,l,e1,f1,l1,h1⟩:=aLn (N:=N) hA hb
 obtain⟨s,k,e2,f2,l2,h2⟩:=oU l1 hw (aQQ 1)
 obtain⟨s',k',e3,f3,l3,h3⟩:=oU l2 hc (aQQ 1)
 have hP:=aQJ (aQO hA) (aQO hb)
 simp only[aQ3,Nat.reduceSub,Nat.reduceMul]at hP
 have hd:h+k+k'<18446744073709551616:=by omega
 refine⟨h,l,s,k,s',k',h+k+k',e1,e2,e3, ?_,by omega,l3,hd⟩
 rw[up (by omega),up (by omega)]
theorem q80 (a b c d e f g h:Int):bB 8 [a,b,c,d,e,f,g,h] 0=some a:=rfl
theorem q81 (a b c d e f g h:Int):bB 8 [a,b,c,d,e,f,g,h] 1=some b:=rfl
theorem q82 (a b c d e f g h:Int):bB 8 [a,b,c,d,e,f,g,h] 2=some c:=rfl
theorem q83 (a b c d e f g h:Int):bB 8 [a,b,c,d,e,f,g,h] 3=some d:=rfl
theorem q84 (a b c d e f g h:Int):bB 8 [a,b,c,d,e,f,g,h] 4=some e:=rfl
theorem q85 (a b c d e f g h:Int):bB 8 [a,b,c,d,e,f,g,h] 5=some f:=rfl
theorem q86 (a b c d e f g h:Int):bB 8 [a,b,c,d,e,f,g,h] 6=some g:=rfl
theorem q87 (a b c d e f g h:Int):bB 8 [a,b,c,d,e,f,g,h] 7=some h:=rfl
theorem t80 (a b c d e f g h x:Int):[a,b,c,d,e,f,g,h].set (aQv 0) x=[x,b,c,d,e,f,g,h]:=rfl
theorem t81 (a b c d e f g h x:Int):[a,b,c,d,e,f,g,h].set (aQv 1) x=[a,x,c,d,e,f,g,h]:=rfl
theorem t82 (a b c d e f g h x:Int):[a,b,c,d,e,f,g,h].set (aQv 2) x=[a,b,x,d,e,f,g,h]:=rfl
theorem t83 (a b c d e f g h x:Int):[a,b,c,d,e,f,g,h].set (aQv 3) x=[a,b,c,x,e,f,g,h]:=rfl
theorem t84 (a b c d e f g h x:Int):[a,b,c,d,e,f,g,h].set (aQv 4) x=[a,b,c,d,x,f,g,h]:=rfl
theorem t85 (a b c d e f g h x:Int):[a,b,c,d,e,f,g,h].set (aQv 5) x=[a,b,c,d,e,x,g,h]:=rfl
theorem t86 (a b c d e f g h x:Int):[a,b,c,d,e,f,g,h].set (aQv 6) x=[a,b,c,d,e,f,x,h]:=rfl
theorem t87 (a b c d e f g h x:Int):[a,b,c,d,e,f,g,h].set (aQv 7) x=[a,b,c,d,e,f,g,x]:=rfl
theorem x00 :aQr.wrap (0+0)=0:=by decide +kernel
theorem x01 :aQr.wrap (0+1)=1:=by decide +kernel
theorem x02 :aQr.wrap (0+2)=2:=by decide +kernel
theorem x03 :aQr.wrap (0+3)=3:=by decide +kernel
theorem x04 :aQr.wrap (0+4)=4:=by decide +kernel
theorem cC :aQr.wrap (1+0)=1:=by decide +kernel
theorem bX :aQr.wrap (1+1)=2:=by decide +kernel
theorem dL :aQr.wrap (1+2)=3:=by decide +kernel
theorem cB :aQr.wrap (1+3)=4:=by decide +kernel
theorem bH :aQr.wrap (1+4)=5:=by decide +kernel
theorem bI :aQr.wrap (2+0)=2:=by decide +kernel
theorem dM :aQr.wrap (2+1)=3:=by decide +kernel
theorem bN :aQr.wrap (2+2)=4:=by decide +kernel
theorem fR :aQr.wrap (2+3)=5:=by decide +kernel
theorem dO :aQr.wrap (2+4)=6:=by decide +kernel
theorem mX :aQr.wrap (3+0)=3:=by decide +kernel
theorem dD :aQr.wrap (3+1)=4:=by decide +kernel
theorem pR :aQr.wrap (3+2)=5:=by decide +kernel
theorem lC :aQr.wrap (3+3)=6:=by decide +kernel
theorem fB :aQr.wrap (3+4)=7:=by decide +kernel
theorem aPk {N:Nat}(hN:70000≤N){va:List Int}{A b0 b1 b2 b3 w0 w1 w2 w3 w4' w5 w6 w7:Nat}(hA:bB 4 va 0=some (A:Int))(gA:A<18446744073709551616)(g0:b0<18446744073709551616)(g1:b1<18446744073709551616)(g2:b2<18446744073709551616)(g3:b3<18446744073709551616)(h0:w0<18446744073709551616)(h1:w1<18446744073709551616)(h2:w2<18446744073709551616)(h3:w3<18446744073709551616):
  ∃s0 s1 s2 s3 c:Nat,cD N va (w4 b0 b1 b2 b3) 0 N 0 0 [(w0:Int),(w1:Int),(w2:Int),(w3:Int),(w4':Int),(w5:Int),(w6:Int),(w7:Int)]=some ((c:Int),[(s0:Int),(s1:Int),(s2:Int),(s3:Int),(w4':Int),(w5:Int),(w6:Int),(w7:Int)])∧vl w0 w1 w2 w3+(A*b0+18446744073709551616*(A*b1)+340282366920938463463374607431768211456*(A*b2)+6277101735386680763835789423207666416102355444464034512896*(A*b3))=vl s0 s1 s2 s3+115792089237316195423570985008687907853269984665640564039457584007913129639936*c∧s0<18446744073709551616∧s1<18446744073709551616∧s2<18446744073709551616∧s3<18446744073709551616∧c<18446744073709551616:=by
 obtain⟨hh0,ll0,ss0,kk0,s0,jj0,c0,e0,f0,m0,n0,v0,y0,z0⟩:=o8 (N:=N) gA g0 h0 (show(0:Nat)<18446744073709551616 by omega)
 obtain⟨hh1,ll1,ss1,kk1,s1,jj1,c1,e1,f1,m1,n1,v1,y1,z1⟩:=o8 (N:=N) gA g1 h1 z0
 obtain⟨hh2,ll2,ss2,kk2,s2,jj2,c2,e2,f2,m2,n2,v2,y2,z2⟩:=o8 (N:=N) gA g2 h2 z1
 obtain⟨hh3,ll3,ss3,kk3,s3,jj3,c3,e3,f3,m3,n3,v3,y3,z3⟩:=o8 (N:=N) gA g3 h3 z2
 refine⟨s0,s1,s2,s3,c3, ?_,by unfold vl;omega,y0,y1,y2,y3,z3⟩
 obtain⟨m,hm⟩:=rJ (fun q=>cD N va (w4 b0 b1 b2 b3) 0 q 0 0 [(w0:Int),(w1:Int),(w2:Int),(w3:Int),(w4':Int),(w5:Int),(w6:Int),(w7:Int)]) hN
 rw[hm]
 have m0':pA (ss0:Int) 0 0=some ((s0:Int),(jj0:Int)):=m0
 simp only[cD,cV,hA,a40,a41,a42,a43,q80,q81,q82,q83,q84,q85,q86,q87,t80,t81,t82,t83,t84,t85,t86,t87,i01,i12,i23,i34,d04,d14,d24,d34,d44,x00,x01,x02,x03,x04,cC,bX,dL,cB,bH,bI,dM,bN,fR,dO,mX,dD,pR,lC,fB,if_true,aQy,if_false,aQu,e0,e1,e2,e3,f0,f1,f2,f3,m0',m1,m2,m3,n0,n1,n2,n3]
theorem aQh {N:Nat}(hN:70000≤N){va:List Int}{A b0 b1 b2 b3 w0 w1 w2 w3 w4' w5 w6 w7:Nat}(hA:bB 4 va 1=some (A:Int))(gA:A<18446744073709551616)(g0:b0<18446744073709551616)(g1:b1<18446744073709551616)(g2:b2<18446744073709551616)(g3:b3<18446744073709551616)(h0:w1<18446744073709551616)(h1:w2<18446744073709551616)(h2:w3<18446744073709551616)(h3:w4'<18446744073709551616):
  ∃s0 s1 s2 s3 c:Nat,cD N va (w4 b0 b1 b2 b3) 1 N 0 0 [(w0:Int),(w1:Int),(w2:Int),(w3:Int),(w4':Int),(w5:Int),(w6:Int),(w7:Int)]=some ((c:Int),[(w0:Int),(s0:Int),(s1:Int),(s2:Int),(s3:Int),(w5:Int),(w6:Int),(w7:Int)])∧vl w1 w2 w3 w4'+(A*b0+18446744073709551616*(A*b1)+340282366920938463463374607431768211456*(A*b2)+6277101735386680763835789423207666416102355444464034512896*(A*b3))=vl s0 s1 s2 s3+115792089237316195423570985008687907853269984665640564039457584007913129639936*c∧s0<18446744073709551616∧s1<18446744073709551616∧s2<18446744073709551616∧s3<18446744073709551616∧c<18446744073709551616:=by
 obtain⟨hh0,ll0,ss0,kk0,s0,jj0,c0,e0,f0,m0,n0,v0,y0,z0⟩:=o8 (N:=N) gA g0 h0 (show(0:Nat)<18446744073709551616 by omega)
 obtain⟨hh1,ll1,ss1,kk1,s1,jj1,c1,e1,f1,m1,n1,v1,y1,z1⟩:=o8 (N:=N) gA g1 h1 z0
 obtain⟨hh2,ll2,ss2,kk2,s2,jj2,c2,e2,f2,m2,n2,v2,y2,z2⟩:=o8 (N:=N) gA g2 h2 z1
 obtain⟨hh3,ll3,ss3,kk3,s3,jj3,c3,e3,f3,m3,n3,v3,y3,z3⟩:=o8 (N:=N) gA g3 h3 z2
 refine⟨s0,s1,s2,s3,c3, ?_,by unfold vl;omega,y0,y1,y2,y3,z3⟩
 obtain⟨m,hm⟩:=rJ (fun q=>cD N va (w4 b0 b1 b2 b3) 1 q 0 0 [(w0:Int),(w1:Int),(w2:Int),(w3:Int),(w4':Int),(w5:Int),(w6:Int),(w7:Int)]) hN
 rw[hm]
 have m0':pA (ss0:Int) 0 0=some ((s0:Int),(jj0:Int)):=m0
 simp only[cD,cV,hA,a40,a41,a42,a43,q80,q81,q82,q83,q84,q85,q86,q87,t80,t81,t82,t83,t84,t85,t86,t87,i01,i12,i23,i34,d04,d14,d24,d34,d44,x00,x01,x02,x03,x04,cC,bX,dL,cB,bH,bI,dM,bN,fR,dO,mX,dD,pR,lC,fB,if_true,aQy,if_false,aQu,e0,e1,e2,e3,f0,f1,f2,f3,m0',m1,m2,m3,n0,n1,n2,n3]
theorem aQc {N:Nat}(hN:70000≤N){va:List Int}{A b0 b1 b2 b3 w0 w1 w2 w3 w4' w5 w6 w7:Nat}(hA:bB 4 va 2=some (A:Int))(gA:A<18446744073709551616)(g0:b0<18446744073709551616)(g1:b1<18446744073709551616)(g2:b2<18446744073709551616)(g3:b3<18446744073709551616)(h0:w2<18446744073709551616)(h1:w3<18446744073709551616)(h2:w4'<18446744073709551616)(h3:w5<18446744073709551616):
  ∃s0 s1 s2 s3 c:Nat,cD N va (w4 b0 b1 b2 b3) 2 N 0 0 [(w0:Int),(w1:Int),(w2:Int),(w3:Int),(w4':Int),(w5:Int),(w6:Int),(w7:Int)]=some ((c:Int),[(w0:Int),(w1:Int),(s0:Int),(s1:Int),(s2:Int),(s3:Int),(w6:Int),(w7:Int)])∧vl w2 w3 w4' w5+(A*b0+18446744073709551616*(A*b1)+340282366920938463463374607431768211456*(A*b2)+6277101735386680763835789423207666416102355444464034512896*(A*b3))=vl s0 s1 s2 s3+115792089237316195423570985008687907853269984665640564039457584007913129639936*c∧s0<18446744073709551616∧s1<18446744073709551616∧s2<18446744073709551616∧s3<18446744073709551616∧c<18446744073709551616:=by
 obtain⟨hh0,ll0,ss0,kk0,s0,jj0,c0,e0,f0,m0,n0,v0,y0,z0⟩:=o8 (N:=N) gA g0 h0 (show(0:Nat)<18446744073709551616 by omega)
 obtain⟨hh1,ll1,ss1,kk1,s1,jj1,c1,e1,f1,m1,n1,v1,y1,z1⟩:=o8 (N:=N) gA g1 h1 z0
 obtain⟨hh2,ll2,ss2,kk2,s2,jj2,c2,e2,f2,m2,n2,v2,y2,z2⟩:=o8 (N:=N) gA g2 h2 z1
 obtain⟨hh3,ll3,ss3,kk3,s3,jj3,c3,e3,f3,m3,n3,v3,y3,z3⟩:=o8 (N:=N) gA g3 h3 z2
 refine⟨s0,s1,s2,s3,c3, ?_,by unfold vl;omega,y0,y1,y2,y3,z3⟩
 obtain⟨m,hm⟩:=rJ (fun q=>cD N va (w4 b0 b1 b2 b3) 2 q 0 0 [(w0:Int),(w1:Int),(w2:Int),(w3:Int),(w4':Int),(w5:Int),(w6:Int),(w7:Int)]) hN
 rw[hm]
 have m0':pA (ss0:Int) 0 0=some ((s0:Int),(jj0:Int)):=m0
 simp only[cD,cV,hA,a40,a41,a42,a43,q80,q81,q82,q83,q84,q85,q86,q87,t80,t81,t82,t83,t84,t85,t86,t87,i01,i12,i23,i34,d04,d14,d24,d34,d44,x00,x01,x02,x03,x04,cC,bX,dL,cB,bH,bI,dM,bN,fR,dO,mX,dD,pR,lC,fB,if_true,aQy,if_false,aQu,e0,e1,e2,e3,f0,f1,f2,f3,m0',m1,m2,m3,n0,n1,n2,n3]
theorem aPM {N:Nat}(hN:70000≤N){va:List Int}{A b0 b1 b2 b3 w0 w1 w2 w3 w4' w5 w6 w7:Nat}(hA:bB 4 va 3=some (A:Int))(gA:A<18446744073709551616)(g0:b0<18446744073709551616)(g1:b1<18446744073709551616)(g2:b2<18446744073709551616)(g3:b3<18446744073709551616)(h0:w3<18446744073709551616)(h1:w4'<18446744073709551616)(h2:w5<18446744073709551616)(h3:w6<18446744073709551616):
  ∃s0 s1 s2 s3 c:Nat,cD N va (w4 b0 b1 b2 b3) 3 N 0 0 [(w0:Int),(w1:Int),(w2:Int),(w3:Int),(w4':Int),(w5:Int),(w6:Int),(w7:Int)]=some ((c:Int),[(w0:Int),(w1:Int),(w2:Int),(s0:Int),(s1:Int),(s2:Int),(s3:Int),(w7:Int)])∧vl w3 w4' w5 w6+(A*b0+18446744073709551616*(A*b1)+340282366920938463463374607431768211456*(A*b2)+6277101735386680763835789423207666416102355444464034512896*(A*b3))=vl s0 s1 s2 s3+115792089237316195423570985008687907853269984665640564039457584007913129639936*c∧s0<18446744073709551616∧s1<18446744073709551616∧s2<18446744073709551616∧s3<18446744073709551616∧c<18446744073709551616:=by
 obtain⟨hh0,ll0,ss0,kk0,s0,jj0,c0,e0,f0,m0,n0,v0,y0,z0⟩:=o8 (N:=N) gA g0 h0 (show(0:Nat)<18446744073709551616 by omega)
 obtain⟨hh1,ll1,ss1,kk1,s1,jj1,c1,e1,f1,m1,n1,v1,y1,z1⟩:=o8 (N:=N) gA g1 h1 z0
 obtain⟨hh2,ll2,ss2,kk2,s2,jj2,c2,e2,f2,m2,n2,v2,y2,z2⟩:=o8 (N:=N) gA g2 h2 z1
 obtain⟨hh3,ll3,ss3,kk3,s3,jj3,c3,e3,f3,m3,n3,v3,y3,z3⟩:=o8 (N:=N) gA g3 h3 z2
 refine⟨s0,s1,s2,s3,c3, ?_,by unfold vl;omega,y0,y1,y2,y3,z3⟩
 obtain⟨m,hm⟩:=rJ (fun q=>cD N va (w4 b0 b1 b2 b3) 3 q 0 0 [(w0:Int),(w1:Int),(w2:Int),(w3:Int),(w4':Int),(w5:Int),(w6:Int),(w7:Int)]) hN
 rw[hm]
 have m0':pA (ss0:Int) 0 0=some ((s0:Int),(jj0:Int)):=m0
 simp only[cD,cV,hA,a40,a41,a42,a43,q80,q81,q82,q83,q84,q85,q86,q87,t80,t81,t82,t83,t84,t85,t86,t87,i01,i12,i23,i34,d04,d14,d24,d34,d44,x00,x01,x02,x03,x04,cC,bX,dL,cB,bH,bI,dM,bN,fR,dO,mX,dD,pR,lC,fB,if_true,aQy,if_false,aQu,e0,e1,e2,e3,f0,f1,f2,f3,m0',m1,m2,m3,n0,n1,n2,n3]
theorem aOs (A b0 b1 b2 b3:Nat):A*vl b0 b1 b2 b3=A*b0+18446744073709551616*(A*b1)+340282366920938463463374607431768211456*(A*b2)+6277101735386680763835789423207666416102355444464034512896*(A*b3):=by
 unfold vl
 rw[aQU,aQU,aQU,aQI A 18446744073709551616 b1,aQI A 340282366920938463463374607431768211456 b2,aQI A 6277101735386680763835789423207666416102355444464034512896 b3]
theorem aL4 {N:Nat}(hN:70000≤N){a b:Nat}(ha:a<115792089237316195423570985008687907853269984665640564039457584007913129639936)(hb:b<115792089237316195423570985008687907853269984665640564039457584007913129639936):uV N (U a) (U b)=some (U (a*b/115792089237316195423570985008687907853269984665640564039457584007913129639936),U (a*b%115792089237316195423570985008687907853269984665640564039457584007913129639936)):=by
 obtain⟨a0,a1,a2,a3,x0,x1,x2,x3,ea,va⟩:=v6 ha
 obtain⟨b0,b1,b2,b3,y0,y1,y2,y3,eb,vb⟩:=v6 hb
 have zW:(0:Nat)<18446744073709551616:=by omega
 obtain⟨s00,s01,s02,s03,c0,e0,f0,g00,g01,g02,g03,h0⟩:=aPk (N:=N) hN (w0:=0) (w1:=0) (w2:=0) (w3:=0) (w4':=0) (w5:=0) (w6:=0) (w7:=0) (a40 a0 a1 a2 a3) x0 y0 y1 y2 y3 zW zW zW zW
 obtain⟨s10,s11,s12,s13,c1,e1,f1,g10,g11,g12,g13,h1⟩:=aQh (N:=N) hN (w0:=s00) (w5:=0) (w6:=0) (w7:=0) (a41 a0 a1 a2 a3) x1 y0 y1 y2 y3 g01 g02 g03 h0
 obtain⟨s20,s21,s22,s23,c2,e2,f2,g20,g21,g22,g23,h2⟩:=aQc (N:=N) hN (w0:=s00) (w1:=s10) (w6:=0) (w7:=0) (a42 a0 a1 a2 a3) x2 y0 y1 y2 y3 g11 g12 g13 h1
 obtain⟨s30,s31,s32,s33,c3,e3,f3,g30,g31,g32,g33,h3⟩:=aPM (N:=N) hN (w0:=s00) (w1:=s10) (w2:=s20) (w7:=0) (a43 a0 a1 a2 a3) x3 y0 y1 y2 y3 g21 g22 g23 h2
 rw[←aOs]at f0 f1 f2 f3
 rw[←vb]at f0 f1 f2 f3
 have hab:a*b=a0*b+18446744073709551616*(a1*b)+340282366920938463463374607431768211456*(a2*b)+6277101735386680763835789423207666416102355444464034512896*(a3*b):=by
  rw[va];unfold vl
  rw[aQR,aQR,aQR,aQV,aQV,aQV]
 have k1:=aCX g00 g10 g20 g30
 have hsum:a*b=vl s00 s10 s20 s30+115792089237316195423570985008687907853269984665640564039457584007913129639936*vl s31 s32 s33 c3:=by
  rw[hab]
  unfold vl at *
  omega
 rw[ea,eb,show a*b/115792089237316195423570985008687907853269984665640564039457584007913129639936=vl s31 s32 s33 c3 by omega,show a*b%115792089237316195423570985008687907853269984665640564039457584007913129639936=vl s00 s10 s20 s30 by omega,←aDF g00 g10 g20 g30,←aDF g31 g32 g33 h3]
 obtain⟨m,hm⟩:=rJ (fun q=>iT N (w4 a0 a1 a2 a3) (w4 b0 b1 b2 b3) q 0 (aQs 8 0)) hN
 unfold uV
 rw[hm]
 have e0':cD N (w4 a0 a1 a2 a3) (w4 b0 b1 b2 b3) 0 N 0 0 [0,0,0,0,0,0,0,0]=some ((c0:Int),[(s00:Int),(s01:Int),(s02:Int),(s03:Int),0,0,0,0]):=e0
 have e1':cD N (w4 a0 a1 a2 a3) (w4 b0 b1 b2 b3) 1 N 0 0 [(s00:Int),(s01:Int),(s02:Int),(s03:Int),(c0:Int),0,0,0]=some ((c1:Int),[(s00:Int),(s10:Int),(s11:Int),(s12:Int),(s13:Int),0,0,0]):=e1
 have e2':cD N (w4 a0 a1 a2 a3) (w4 b0 b1 b2 b3) 2 N 0 0 [(s00:Int),(s10:Int),(s11:Int),(s12:Int),(s13:Int),(c1:Int),0,0]=some ((c2:Int),[(s00:Int),(s10:Int),(s20:Int),(s21:Int),(s22:Int),(s23:Int),0,0]):=e2
 have e3':cD N (w4 a0 a1 a2 a3) (w4 b0 b1 b2 b3) 3 N 0 0 [(s00:Int),(s10:Int),(s20:Int),(s21:Int),(s22:Int),(s23:Int),(c2:Int),0]=some ((c3:Int),[(s00:Int),(s10:Int),(s20:Int),(s30:Int),(s31:Int),(s32:Int),(s33:Int),0]):=e3
 simp only[iT,t0,tW,show aQs 8 (0:Int)=[0,0,0,0,0,0,0,0]from rfl,e0',e1',e2',e3',q84,q85,q86,q87,t84,t85,t86,t87,i01,i12,i23,i34,d04,d14,d24,d34,d44,x04,bH,dO,fB,if_true,aQy,if_false,aQu]
 rfl
theorem aBc :(2:Nat)^256=115792089237316195423570985008687907853269984665640564039457584007913129639936:=by decide +kernel
theorem aOf {K v:Nat}(hK:K+1≤256)(hv:v<2^(K+1)): ∃t v',t≤1∧v'<2^K∧v=t*2^K+v'∧2*(v*2^(256-(K+1)))=t*115792089237316195423570985008687907853269984665640564039457584007913129639936+v'*2^(256-K)∧v'*2^(256-K)<115792089237316195423570985008687907853269984665640564039457584007913129639936:=by
 have hp:0<2^K:=aQ4 (by omega)
 rw[aQ9]at hv
 have h256:2^K*2^(256-K)=115792089237316195423570985008687907853269984665640564039457584007913129639936:=by rw[←Nat.pow_add,show K+(256-K)=256 by omega,aBc]
 have hlt:v%2^K<2^K:=aQ1 _ hp
 refine⟨v/2^K,v%2^K, ?_,hlt, ?_, ?_, ?_⟩
 ·exact Nat.le_of_lt_succ ((Nat.div_lt_iff_lt_mul hp).2 (by rw[aQG];exact hv))
 ·rw[aQG];exact(aQ0 v (2^K)).symm
 ·have hx:2^(256-K)=2*2^(256-(K+1)):=by rw[show 256-K=(256-(K+1))+1 by omega,aQ9,aQG]
  rw[aQI,←hx]
  conv=>lhs;rw[←aQ0 v (2^K),aQR,aQ5,h256]
  rw[aQG]
 rw[←h256]
 exact Nat.mul_lt_mul_of_pos_right hlt (aQ4 (by omega))
theorem tL {α:Type}{n:Nat}{l:List α}(h:l.length=n):aS n l=some l:=by unfold aS;rw[if_pos h]
theorem aDM (T b p v:Nat):((T%b)*p+v)%b=(T*p+v)%b:=by
 rw[aRd,Nat.mul_mod,Nat.mod_mod,←Nat.mul_mod,←aRd]
theorem aEy (a b:Nat):decide ((0:Int)≤if a<b then -1 else if b<a then 1 else 0)=decide (b≤a):=by
 by_cases h:a<b
 ·rw[if_pos h,decide_eq_false (show¬b≤a by omega)];rfl
 rw[if_neg h,decide_eq_true (show b≤a by omega)]
 split<;>rfl
theorem aGD (a b:Nat):decide ((if a<b then(-1:Int)else if b<a then 1 else 0)<0)=decide (a<b):=by
 by_cases h:a<b
 ·rw[if_pos h,decide_eq_true h];rfl
 rw[if_neg h,decide_eq_false h]
 split<;>rfl
theorem aL5 (a b:Nat):decide ((if a<b then(-1:Int)else if b<a then 1 else 0)≤0)=decide (a≤b):=by
 by_cases h:a<b
 ·rw[if_pos h,decide_eq_true (show a≤b by omega)];rfl
 rw[if_neg h]
 by_cases h2:b<a
 ·rw[if_pos h2,decide_eq_false (show¬a≤b by omega)];rfl
 rw[if_neg h2,decide_eq_true (show a≤b by omega)];rfl
section
variable {N:Nat}(hN:70000≤N){b:Nat}(hb:b<115792089237316195423570985008687907853269984665640564039457584007913129639936)(hb0:0<b)
include hN hb hb0
theorem aMl {b9:Nat}(hw:b9<4){m c K v r:Nat}(hc:c<64)(hK:K=64*b9+c)(hv:v<2^(K+1))(hr:r<b){q:List Int}(hq:q.length=4)(hnz: ¬(r=0∧v=0)):
  ∃q' v' r',q'.length=4∧v'<2^K∧r'<b∧(r'*2^K+v')%b=(r*2^(K+1)+v)%b∧
   cN N (U b) (b9:Int) (m+1) (c:Int) (U (v*2^(256-(K+1)))) q (U r)=cN N (U b) (b9:Int) m ((c:Int)-1) (U (v'*2^(256-K))) q' (U r'):=by
 obtain⟨t,v',ht,hv',hvv,h2,h3⟩:=aOf (by omega:K+1≤256) hv
 have hlo:v*2^(256-(K+1))<115792089237316195423570985008687907853269984665640564039457584007913129639936:=by
  have h5:=(Nat.mul_lt_mul_right (aQ4 (n:=256-(K+1)) (show 0<2 by omega))).2 hv
  rw[←Nat.pow_add,show K+1+(256-(K+1))=256 by omega,aBc]at h5
  exact h5
 generalize hlov:v*2^(256-(K+1))=lo at *
 generalize hlov':v'*2^(256-K)=lo' at *
 have hr4:r<115792089237316195423570985008687907853269984665640564039457584007913129639936:=by omega
 obtain⟨k,d1,d2⟩:=aL9 hN hlo (aQQ 1)
 rw[show(2*lo+0)%115792089237316195423570985008687907853269984665640564039457584007913129639936=lo' by omega,show(2*lo+0)/115792089237316195423570985008687907853269984665640564039457584007913129639936=t by omega]at *
 rw[d2]at d1
 clear d2
 obtain⟨k,d3,d4⟩:=aL9 hN hr4 ht
 have d1':oS N (U lo) 0=some (U lo',((t:Nat):Int)):=d1
 have hT:(2*r+t)%b<b:=aQ1 _ hb0
 have hTv:((2*r+t)%b*2^K+v')%b=(r*2^(K+1)+v)%b:=by
  rw[aDM,hvv,aQR,aQ9,Nat.add_assoc,aQ5 2 r,aQG (2^K) 2,aQG (2*2^K) r]
 have main: ∀(q:List Int),q.length=4→ ∃q',q'.length=4∧q7 N (U b) (b9:Int) (c:Int) (U lo) q (U r) (cN N (U b) (b9:Int) m) false=cN N (U b) (b9:Int) m ((c:Int)-1) (U lo') q' (U ((2*r+t)%b)):=by
  intro q hq
  simp only[q7,aQy,if_false,bA,d1',d3,aQu]
  have hcw:aQr.wrap ((c:Int)-1)=(c:Int)-1:=b5 (by omega) (by omega)
  have hsub: ∀(x:Nat),x<115792089237316195423570985008687907853269984665640564039457584007913129639936→(x+115792089237316195423570985008687907853269984665640564039457584007913129639936-b)%115792089237316195423570985008687907853269984665640564039457584007913129639936=(2*r+t)%b→ ∃q',q'.length=4∧oT N (U b) (b9:Int) (c:Int) q (U lo',((t:Nat):Int)) (U x,(k:Int)) (cN N (U b) (b9:Int) m) true=cN N (U b) (b9:Int) m ((c:Int)-1) (U lo') q' (U ((2*r+t)%b)):=by
   intro x hx he
   have hs:shl .u64 1 (c:Int)=some ((1*2^c%2^aQw.bits:Nat):Int):=aBf rfl 1 c
   have ha:bB 4 q (b9:Int)=some (q[b9]'(by omega)):=by
    unfold bB
    rw[if_pos (by omega),dP q (by omega)]
   refine⟨q.set (aQv (b9:Int)) (bits .or .u64 (q[b9]'(by omega)) ((1*2^c%2^aQw.bits:Nat):Int)),by rw[aRc];exact hq, ?_⟩
   simp only[oT,if_true,aC2 hN hx hb,aQu,bA,ha,hs,qY,hcw,he]
  by_cases h1:2*r+t<115792089237316195423570985008687907853269984665640564039457584007913129639936
  ·have hk0:k=0:=by omega
   subst hk0
   simp only[show(((0:Nat):Int) != 0)=false from rfl,aQy,if_false,uO hN (show(2*r+t)%115792089237316195423570985008687907853269984665640564039457584007913129639936<115792089237316195423570985008687907853269984665640564039457584007913129639936 by omega) hb,aQu,aEy]
   rw[aQA h1]at *
   by_cases h4:b≤2*r+t
   ·rw[decide_eq_true h4]
    refine hsub _ h1 ?_
    rw[aQS h4,aQA (show 2*r+t-b<b by omega)]
    omega
   rw[decide_eq_false h4]
   refine⟨q,hq, ?_⟩
   simp only[oT,aQy,if_false,qY,hcw]
   rw[aQA (show 2*r+t<b by omega)]
  have hk1:k=1:=by omega
  subst hk1
  simp only[show(((1:Nat):Int) != 0)=true from rfl,if_true]
  refine hsub _ (by omega) ?_
  rw[aQS (show b≤2*r+t by omega),aQA (show 2*r+t-b<b by omega)]
  omega
 obtain⟨q',hq',he⟩:=main q hq
 refine⟨q',v',(2*r+t)%b,hq',hv',hT,hTv, ?_⟩
 rw[hlov']
 rw[cN,show decide ((0:Int)≤(c:Int))=true from decide_eq_true (by omega),if_pos rfl,bA,aQu,←tV]
 rw[wG hr4 (show 0<115792089237316195423570985008687907853269984665640564039457584007913129639936 by omega),bA,aQu,wG hlo (show 0<115792089237316195423570985008687907853269984665640564039457584007913129639936 by omega)]
 by_cases h0:r=0
 ·have hl0:lo≠0:=by
   intro h
   have:v=0:=by
    rcases Nat.mul_eq_zero.1 (hlov.trans h)with h|h
    ·exact h
    exact absurd h (Nat.ne_of_gt (aQ4 (by omega)))
   exact hnz ⟨h0,this⟩
  rw[decide_eq_true h0,if_pos rfl,decide_eq_false hl0]
  exact he
 rw[decide_eq_false h0]
 exact he
theorem aHG {b9:Nat}(hw:b9<4): ∀(c m v r:Nat)(q:List Int),c≤64→c<m→v<2^(64*b9+c)→r<b→q.length=4→
  (∃q',q'.length=4∧(r*2^(64*b9+c)+v)%b=0∧cN N (U b) (b9:Int) m ((c:Int)-1) (U (v*2^(256-(64*b9+c)))) q (U r)=some (.ret (q',U 0)))∨
  (∃q' v' r',q'.length=4∧v'<2^(64*b9)∧r'<b∧(r'*2^(64*b9)+v')%b=(r*2^(64*b9+c)+v)%b∧
   cN N (U b) (b9:Int) m ((c:Int)-1) (U (v*2^(256-(64*b9+c)))) q (U r)=some (.brk (U (v'*2^(256-64*b9)),q',U r')))
 |0,m,v,r,q,_,hm,hv,hr,hq=>by
  obtain⟨m,rfl⟩: ∃k,m=k+1:=⟨m-1,by omega⟩
  refine .inr ⟨q,v,r,hq,hv,hr,rfl, ?_⟩
  rw[cN,show decide ((0:Int)≤((0:Nat):Int)-1)=false from rfl]
  rfl
 |c+1,m,v,r,q,hc,hm,hv,hr,hq=>by
  obtain⟨m,rfl⟩: ∃k,m=k+1:=⟨m-1,by omega⟩
  rw[show((c+1:Nat):Int)-1=(c:Int) by omega]
  by_cases hz:r=0∧v=0
  ·obtain⟨rfl,rfl⟩:=hz
   refine .inl ⟨q,hq,by simp, ?_⟩
   rw[cN,show decide ((0:Int)≤(c:Int))=true from decide_eq_true (by omega),if_pos rfl,Nat.zero_mul]
   rfl
  obtain⟨q',v',r',h1,h2,h3,h4,h5⟩:=aMl hN hb hb0 hw (m:=m) (show c<64 by omega) rfl (show v<2^(64*b9+c+1)from hv) hr hq hz
  rw[show 64*b9+(c+1)=64*b9+c+1 from rfl,h5,←h4]
  exact aHG hw c m v' r' q' (by omega) (by omega) h2 h3 h1
theorem aIz : ∀(w m v r:Nat)(q:List Int),w≤4→w<m→v<2^(64*w)→r<b→q.length=4→
  ∃q',q'.length=4∧kY N (U b) m ((w:Int)-1) (U (v*2^(256-64*w))) q (U r)=some (q',U ((r*2^(64*w)+v)%b))
 |0,m,v,r,q,_,hm,hv,hr,hq=>by
  obtain⟨m,rfl⟩: ∃k,m=k+1:=⟨m-1,by omega⟩
  refine⟨q,hq, ?_⟩
  have hv0:v=0:=by simpa using hv
  subst hv0
  rw[kY,show decide ((0:Int)≤((0:Nat):Int)-1)=false from rfl]
  simp[aQA hr]
 |w+1,m,v,r,q,hw,hm,hv,hr,hq=>by
  obtain⟨m,rfl⟩: ∃k,m=k+1:=⟨m-1,by omega⟩
  rw[kY,show((w+1:Nat):Int)-1=(w:Int) by omega,show decide ((0:Int)≤(w:Int))=true from decide_eq_true (by omega),if_pos rfl]
  have e63:(63:Int)=((64:Nat):Int)-1:=rfl
  have ek:64*(w+1)=64*w+64:=by omega
  rw[ek]at hv
  rw[e63,ek]
  rcases aHG hN hb hb0 (show w<4 by omega) 64 N v r q (Nat.le_refl _) (by omega) hv hr hq with⟨q',h1,h2,h3⟩|⟨q',v',r',h1,h2,h3,h4,h5⟩
  ·rw[h3,h2]
   exact⟨q',h1,rfl⟩
  rw[h5,←h4]
  simp only[aQu,xP]
  rw[b5 (a:=(w:Int)-1) (by omega) (by omega)]
  exact aIz w m v' r' q' (by omega) (by omega) h2 h3 h1
theorem aL3 {hi lo:Nat}(hh:hi<b)(hl:lo<115792089237316195423570985008687907853269984665640564039457584007913129639936): ∃q',q'.length=4∧xK N (U hi) (U lo) (U b)=some (q',U ((hi*115792089237316195423570985008687907853269984665640564039457584007913129639936+lo)%b),true):=by
 obtain⟨q',h1,h2⟩:=aIz hN hb hb0 4 N lo hi (aQs 4 0) (Nat.le_refl _) (by omega) (by rw[show 64*4=256 from rfl,aBc];exact hl) hh (by simp)
 rw[show((4:Nat):Int)-1=3 from rfl,show 256-64*4=0 from rfl,Nat.pow_zero,Nat.mul_one,show 64*4=256 from rfl,aBc]at h2
 refine⟨q',h1, ?_⟩
 simp only[xK,bA,aQu,uO hN hb (show hi<115792089237316195423570985008687907853269984665640564039457584007913129639936 by omega),aL5]
 rw[decide_eq_false (show¬b≤hi by omega)]
 simp only[aQy,if_false,h2,aQu,xQ,tL h1,bA]
theorem aDJ {a:Nat}(ha:a<115792089237316195423570985008687907853269984665640564039457584007913129639936):o6 N (U a) (U b)=some (U (a%b)):=by
 simp only[o6,bA,aQu,uO hN ha hb,aGD]
 by_cases h:a<b
 ·rw[decide_eq_true h,if_pos rfl,aQA h]
 rw[decide_eq_false h]
 obtain⟨q',h1,h2⟩:=aL3 hN hb hb0 hb0 ha
 rw[tV,Nat.zero_mul,Nat.zero_add]at h2
 simp only[aQy,if_false,h2,aQu,tL h1,bA]
theorem aOr :(U b == [0,0,0,0])=false:=by
 rw[←tV,wG hb (by omega)]
 exact decide_eq_false (by omega)
theorem aKC {x y:Nat}(hx:x<115792089237316195423570985008687907853269984665640564039457584007913129639936)(hy:y<115792089237316195423570985008687907853269984665640564039457584007913129639936):uF N (U x) (U y) (U b)=some (U (x*y%b)):=by
 have hp:x*y/115792089237316195423570985008687907853269984665640564039457584007913129639936<115792089237316195423570985008687907853269984665640564039457584007913129639936:=by
  have h5:=aQJ (aQO hx) (aQO hy)
  simp only[aQ3,Nat.reduceSub,Nat.reduceMul]at h5
  omega
 obtain⟨q',h1,h2⟩:=aL3 hN hb hb0 (aQ1 (x*y/115792089237316195423570985008687907853269984665640564039457584007913129639936) hb0) (show x*y%115792089237316195423570985008687907853269984665640564039457584007913129639936<115792089237316195423570985008687907853269984665640564039457584007913129639936 by omega)
 rw[aDM,aQG (x*y/115792089237316195423570985008687907853269984665640564039457584007913129639936) 115792089237316195423570985008687907853269984665640564039457584007913129639936,aQ0]at h2
 simp only[uF,bA,aQu,aOr hN hb hb0,aQy,if_false,aL4 hN hx hy,aDJ hN hb hb0 hp,h2,tL h1]
theorem aGV {x y:Nat}(hx:x<115792089237316195423570985008687907853269984665640564039457584007913129639936)(hy:y<115792089237316195423570985008687907853269984665640564039457584007913129639936):uA N (U x) (U y) (U b)=some (U ((x+y)%b)):=by
 have h1:=aQ1 x hb0
 have h2:=aQ1 y hb0
 have key:(x+y)%b=if x%b+y%b<b then x%b+y%b else x%b+y%b-b:=by
  rw[aRd]
  split
  ·rename_i h;exact aQA h
  rename_i h;rw[aQS (by omega),aQA (by omega)]
 simp only[uA,bA,aQu,aOr hN hb hb0,aQy,if_false,aDJ hN hb hb0 hx,aDJ hN hb hb0 hy,aLX hN (show x%b<115792089237316195423570985008687907853269984665640564039457584007913129639936 by omega) (show y%b<115792089237316195423570985008687907853269984665640564039457584007913129639936 by omega)]
 rw[key]
 generalize x%b=u at *
 generalize y%b=v at *
 by_cases h:115792089237316195423570985008687907853269984665640564039457584007913129639936≤u+v
 ·rw[decide_eq_true h,if_neg (show¬u+v<b by omega)]
  simp only[if_true,kO,aC2 hN (show(u+v)%115792089237316195423570985008687907853269984665640564039457584007913129639936<115792089237316195423570985008687907853269984665640564039457584007913129639936 by omega) hb,aQu,bA,kS]
  rw[show((u+v)%115792089237316195423570985008687907853269984665640564039457584007913129639936+115792089237316195423570985008687907853269984665640564039457584007913129639936-b)%115792089237316195423570985008687907853269984665640564039457584007913129639936=u+v-b by omega]
 rw[decide_eq_false h]
 simp only[aQy,if_false,uO hN (show(u+v)%115792089237316195423570985008687907853269984665640564039457584007913129639936<115792089237316195423570985008687907853269984665640564039457584007913129639936 by omega) hb,aQu,aEy]
 rw[aQA (show u+v<115792089237316195423570985008687907853269984665640564039457584007913129639936 by omega)]
 by_cases h3:b≤u+v
 ·rw[decide_eq_true h3,if_neg (show¬u+v<b by omega)]
  simp only[if_true,kO,aC2 hN (show u+v<115792089237316195423570985008687907853269984665640564039457584007913129639936 by omega) hb,aQu,bA,kS]
  rw[show(u+v+115792089237316195423570985008687907853269984665640564039457584007913129639936-b)%115792089237316195423570985008687907853269984665640564039457584007913129639936=u+v-b by omega]
 rw[decide_eq_false h3,if_pos (show u+v<b by omega)]
 simp only[aQy,if_false,kO,aQu,bA,kS]
end
end Go.Proofs.YtnllpckhipmpgaaGreatDoor
