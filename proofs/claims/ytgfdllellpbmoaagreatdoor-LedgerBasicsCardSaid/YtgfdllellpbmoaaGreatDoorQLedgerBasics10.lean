/- Texts of ours, joined: VmRunG, VmRunK, VmRange, SaneW, SaneL. -/
import Derived.Test.YtgfdllellpbmoaaGreatDoorQLedgerBasics9
import Derived.Maps.RangeRun
import Derived.LoopN
open Option renaming map_eq_some_iff → aYV,map_some → aZl,bind_eq_some_iff → aZt
open Bool renaming and_eq_true → aYW,false_eq_true → aYX,or_eq_true → aZm,not_eq_false' → aZq,not_eq_true → aZw
open List renaming getElem?_eq_some_iff → aYY,prefix_refl → aY1,getElem?_eq_getElem → aY3,all_eq_true → aY4,mem_map → aY5,length_take → aY8,range → aY9,getElem?_eq_none → aZa,mem_cons → aZc,getElem?_append_left → aZd,mem_cons_self → aZf,getElem?_cons_succ → aZg,length_set → aZh,getElem?_set_self → aZi,range_eq_range' → aZk,filter_eq_self → aZn,mem_singleton → aZp,getElem?_take_of_lt → aZs,range' → aZu,range'_succ → aZv,length_cons → aZx,map_append → aZz,mem_of_getElem? → aZA,mem_of_mem_take → aZB,mem_of_mem_drop → aZC,getElem?_set_ne → aZD,size_toArray → aZF
open Option.some renaming injEq → aYZ
open Nat renaming lt_of_lt_of_le → aY0,le_of_ble_eq_true → aY2,le_trans → aZr,eq_of_beq_eq_true → aZy,blt → aZE,zero_add → aZG,add_comm → aZH,le_refl → aZI
open Array renaming getElem?_eq_some_iff → aY6,getElem?_setIfInBounds_self_of_lt → aZb,replicate → aZe,getElem?_setIfInBounds_ne → aZj,getD_eq_getD_getElem? → aZo
open Prod.mk renaming injEq → aY7
set_option linter.unusedSimpArgs false
set_option linter.unusedVariables false
namespace Go.Vm
open Go
def aQd :Value→Value→Bool
 | .int k a,.int k' b=>decide (k=k')&&decide (a=b)
 | .bool a,.bool b=>decide (a=b)
 | .string a,.string b=>decide (a=b)
 | .pointer none,.pointer none=>true
 | .slice none a b,.slice none c d=>decide (a=c)&&decide (b=d)
 | .nilIface,.nilIface=>true
 | .tuple ⟨[]⟩,.tuple ⟨[]⟩=>true
 |_,_=>false
theorem aSE {a b:Value}(h:aQd a b=true):a=b:=by
 unfold aQd at h
 split at h
 ·simp only[aYW,decide_eq_true_eq]at h;rw[h.1,h.2]
 ·simp only[decide_eq_true_eq]at h;rw[h]
 ·simp only[decide_eq_true_eq]at h;rw[h]
 ·rfl
 ·simp only[aYW,decide_eq_true_eq]at h;rw[h.1,h.2]
 ·rfl
 ·rfl
 cases h
mutual
def eqV :V→V→Bool
 | .sc a,.sc b=>aQd a b
 | .row n k es,.row n' k' es'=>decide (n=n')&&decide (k=k')&&tH es es'
 | .agg a,.agg b=>tH a b
 | .tup a,.tup b=>tH a b
 | .ptr b o,.ptr b' o'=>decide (b=b')&&decide (o=o')
 | .sl b o n k a,.sl b' o' n' k' a'=>decide (b=b')&&decide (o=o')&&decide (n=n')&&decide (k=k')&&decide (a=a')
 | .eptr es i o,.eptr es' i' o'=>tH es es'&&decide (i=i')&&decide (o=o')
 | .any,.any=>true
 | .mp b,.mp b'=>decide (b=b')
 |_,_=>false
def tH :List V→List V→Bool
 | [],[]=>true
 |x::xs,y::ys=>eqV x y&&tH xs ys
 |_,_=>false
end
mutual
theorem aG2 : ∀(x y:V),eqV x y=true→x=y
 | .sc a,y,h=>by cases y<;>simp only[eqV,aYX]at h;rw[aSE h]
 | .row n k es,y,h=>by
  cases y<;>simp only[eqV,aYX,aYW,decide_eq_true_eq]at h
  rw[h.1.1,h.1.2,pZ es _ h.2]
 | .agg a,y,h=>by cases y<;>simp only[eqV,aYX]at h;rw[pZ a _ h]
 | .tup a,y,h=>by cases y<;>simp only[eqV,aYX]at h;rw[pZ a _ h]
 | .ptr b o,y,h=>by cases y<;>simp only[eqV,aYX,aYW,decide_eq_true_eq]at h;rw[h.1,h.2]
 | .sl b o n k a,y,h=>by
  cases y<;>simp only[eqV,aYX,aYW,decide_eq_true_eq]at h
  rw[h.1.1.1.1,h.1.1.1.2,h.1.1.2,h.1.2,h.2]
 | .eptr es i o,y,h=>by
  cases y<;>simp only[eqV,aYX,aYW,decide_eq_true_eq]at h
  rw[pZ es _ h.1.1,h.1.2,h.2]
 | .any,y,h=>by cases y<;>simp only[eqV,aYX]at h;rfl
 | .mp b,y,h=>by cases y<;>simp only[eqV,aYX,decide_eq_true_eq]at h;rw[h]
theorem pZ : ∀(xs ys:List V),tH xs ys=true→xs=ys
 | [],ys,h=>by cases ys<;>simp only[tH,aYX]at h;rfl
 |x::xs,ys,h=>by
  cases ys<;>simp only[tH,aYX,aYW]at h
  rw[aG2 x _ h.1,pZ xs _ h.2]
end
def eqH :Hp→Hp→Bool
 | [],[]=>true
 |none::h,none::h'=>eqH h h'
 |some B::h,some B'::h'=>decide (B.e=B'.e)&&tH B.cells B'.cells&&eqH h h'
 |_,_=>false
theorem aC8 : ∀(h h':Hp),eqH h h'=true→h=h'
 | [],h',hh=>by cases h'<;>simp only[eqH,aYX]at hh;rfl
 |none::h,h',hh=>by
  cases h' with
  |nil=>simp only[eqH,aYX]at hh
  |cons o h'=>cases o<;>simp only[eqH,aYX]at hh;rw[aC8 h _ hh]
 |some B::h,h',hh=>by
  cases h' with
  |nil=>simp only[eqH,aYX]at hh
  |cons o h'=>
   cases o<;>simp only[eqH,aYX,aYW,decide_eq_true_eq]at hh
   rename_i B'
   cases B;cases B'
   simp only at hh
   rw[hh.1.1,pZ _ _ hh.1.2,aC8 h _ hh.2]
def aGm {α β:Type}(f:α→Option (List β)):List α→Option (List β)
 | []=>some []
 |r::rs=>match f r,aGm f rs with
  |some a,some b=>some (a++b)
  |_,_=>none
theorem aDd {α β:Type}{f:α→Option (List β)}: ∀{rs:List α}{out:List β},aGm f rs=some out→ ∀r∈rs,∃a,f r=some a∧ ∀x∈a,x∈out
 | [],out,_,r,hr=>by cases hr
 |q::rs,out,h,r,hr=>by
  simp only[aGm]at h
  split at h
  ·rename_i a b ha hb
   injection h with h
   subst h
   rcases aZc.1 hr with rfl|hr
   ·exact⟨a,ha,fun x hx=>List.mem_append_left _ hx⟩
   obtain⟨c,hc,hm⟩:=aDd hb r hr
   exact⟨c,hc,fun x hx=>List.mem_append_right _ (hm x hx)⟩
  cases h
section
variable {P:Program}{F G:FuncId→Bool}{O:sQ}
def aPg (id:Nat)(r:Ex×List V×Hp):Ex×List V×Hp:=match r with
 |(.exit i,s,h)=>if i=id then(.normal,s,h)else(.exit i,s,h)
 |r=>r
theorem aQ8 {f:FuncId} {fn:Func} {c:Code} {args:List V} {r:V} (hf:P.funcs[f]? =some fn) (hb:fn.body=some c) (hn:(fn.name == "runtime.NumGoroutine")=false) (hal:args.length≤fn.ntmps)
  (hh:AB P 0 c (fun x s' h''=>(∀id,x≠ .exit id)∧(v6 P fn s' h'').bind (xH h'')=some r) (aD fn.ntmps (wJ 0 args)) []):PFn P f args r:=by
 intro A w vs hA hGl hargs
 refine .inl ⟨aHi hf (by rw[hb];rfl) hn _ _,calls_of_wp hf hb ?_⟩
 have hargs':VCells (Xs A [] []) [] w args vs:=hargs.avoid fun g _ hx=>aFw.1 hx
 have R0:=aLK (fn:=fn) (HR.nil hA hGl) hargs'
 have R1:Rel A [] (aD fn.ntmps (wJ 0 args)) [] {tmps:=vs.toArray++aZe (fn.ntmps-vs.toArray.size) undef,defers:=[]} w:=by
  refine⟨R0.hr,⟨?_,fun t x hx=> ?_⟩,R0.defers⟩
  ·rw[n9,←R0.sr.len]
   simp[aDW];omega
  have ht:t<fn.ntmps:=by have:=(aYY.1 hx).1;rw[n9]at this;exact this
  rw[zF ht]at hx
  injection hx with hx
  cases hl:eJ (wJ 0 args) t with
  |none=>rw[hl]at hx;subst hx;unfold VR;trivial
  |some z=>
   rw[hl]at hx
   subst hx
   obtain⟨_,h2⟩:=aIz hl
   refine R0.sr.val t z ?_
   unfold aDW
   rw[aZd (by have:=(aYY.1 h2).1;omega)]
   simpa using h2
 refine Code.wp_mono (fun e a' w' ⟨x,s1,h1,M1,he,⟨hx,hres⟩,G,R2⟩=> ?_) (hh A [] [] [] w _ w rfl rfl (Grow.refl (HR.nil hA hGl)) R1)
 subst he
 simp only[aZt]at hres
 obtain⟨r0,hr0,hex⟩:=hres
 obtain⟨v,hv,hr⟩:=aJy R2 hr0
 have hfin:Ext (fun _=>False) w w'∧VR A [] w' r v:=
  ⟨G.ext.mono fun g _ hl=>by obtain⟨b,B,hb,_⟩:=hl;simp at hb,aDC R2.hr hr hex⟩
 cases x with
 |normal=>exact⟨R2.defers,v,hv,v,rfl,hfin⟩
 |ret=>exact⟨R2.defers,v,hv,v,rfl,hfin⟩
 |exit id=>exact absurd rfl (hx id)
end
abbrev uF :=FuncId→Hp→List V→Option (V×Option Hp)
def aVZ (P:Program)(F:FuncId→Bool)(f:FuncId)(h:Hp)(xs:List V):V×Option Hp→Prop
 |(v,none)=>Fn P f h xs v h∧(F f=true→ ∀h2,Fn P f h2 xs v h2)
 |(v,some h')=>F f=false∧Fn P f h xs v h'
def pG (P:Program)(F:FuncId→Bool)(O:uF):Prop:= ∀f h xs r,O f h xs=some r→aVZ P F f h xs r
def aKT (s:List V):Callee→Option FuncId
 | .value (.func f)=>some f
 | .value (.tmp t)=>aK5 s t
 |_=>none
def aMC (P:Program)(G:FuncId→Bool)(O:uF)(ops:Array Oper)(o:Oper)(s:List V)(h:Hp):Option (List V×Hp):=
 match i7 ops o s with
 |none=>none
 |some false=>some (fQ s o.dst (.sc undef),h)
 |some true=>
  match o.op with
  | .call c=>match aKT s c.callee with
   |none=>(bE P O0 o s h).map fun p=>(fQ s o.dst p.1,p.2)
   |some f=>match evs s c.args.toList with
    |none=>none
    |some xs=>match O f h xs with
     |none=>none
     |some (v,none)=>some (fQ s o.dst v,h)
     |some (v,some h')=>if !G f || eqH (h'.take h.length) h then some (fQ s o.dst v,h')else none
  |_=>(bE P O0 o s h).map fun p=>(fQ s o.dst p.1,p.2)
section
variable {P:Program}{F G:FuncId→Bool}{O:uF}
theorem aL6 {f:FuncId}{xs:List V}{v:V}{k:FuncId}{h1:Hp}{args:List V}{r1:V}{h2:Hp}(hh:aFW f xs v k h1 args=some (r1,h2)):k=f∧args=xs∧r1=v∧h2=h1:=by
 unfold aFW at hh
 split at hh
 ·rename_i he
  simp only[aYZ,aY7]at hh
  exact⟨he.1,he.2,hh.1.symm,hh.2.symm⟩
 cases hh
theorem aFG {ops:Array Oper}{o:Oper}{s:List V}{h:Hp}{f:FuncId}{xs:List V}{v:V}{h':Hp}{Q:sQ}(hQ:uZ P Q)(h1Q: ∀k a b r c,Q k a b=some (r,c)→k=f∧(F f=true→c=a)∧(G f=true→ ∃news,c=a++news)∧(F f=true→ ∀h2,Q k h2 b=some (r,h2)))
  {c:Call} (hw:i7 ops o s=some true) (hop:o.op= .call c) (hf:aKT s c.callee=some f) (hx:evs s c.args.toList=some xs) (hh:Q f h xs=some (v,h')):StepR P F G ops o s h (fQ s o.dst v) h':=by
 refine⟨Q,hQ, ?_, ?_, ?_, ?_⟩
 ·intro k a b r c hk hq
  obtain⟨rfl,h2,_⟩:=h1Q _ _ _ _ _ hq
  exact h2 hk
 ·intro k a b r c hk hq
  obtain⟨rfl,_,h2,_⟩:=h1Q _ _ _ _ _ hq
  exact h2 hk
 ·intro k a b r c hk hq
  obtain⟨rfl,_,_,h2⟩:=h1Q _ _ _ _ _ hq
  exact h2 hk
 rw[cI]
 have:bE P Q o s h=some (v,h'):=by
  obtain⟨callee,args,ts⟩:=c
  simp only[bE,hop,r6,hx]
  unfold aKT at hf
  simp only at hf
  split at hf
  ·injection hf with hf;subst hf;exact hh
  ·simp only[hf,Option.bind_some];exact hh
  cases hf
 simp only[cJ,hw,this,aZl]
theorem aL5 {ops:Array Oper}{o:Oper}{s s1:List V}{h h1:Hp}(hw:i7 ops o s=some true)(hs:((bE P O0 o s h).map fun p=>(fQ s o.dst p.1,p.2))=some (s1,h1)):StepR P F G ops o s h s1 h1:=by
 simp only[aYV,aY7]at hs
 obtain⟨p,hp,rfl,rfl⟩:=hs
 exact⟨O0,aFL,aHM,aJc,aMJ,by rw[cI];simp only[cJ,hw,hp,aZl]⟩
theorem aIb (hO:pG P F O){ops:Array Oper}{o:Oper}{s s1:List V}{h h1:Hp}(hs:aMC P G O ops o s h=some (s1,h1)):StepR P F G ops o s h s1 h1:=by
 unfold aMC at hs
 split at hs
 ·cases hs
 ·rename_i hw
  injection hs with hs
  injection hs with e1 e2
  subst e1 e2
  exact⟨O0,aFL,aHM,aJc,aMJ,by rw[cI];simp only[cJ,hw,aZl]⟩
 rename_i hw
 split at hs
 ·rename_i c hop
  split at hs
  ·exact aL5 hw hs
  rename_i f hf
  split at hs
  ·cases hs
  rename_i xs hxs
  split at hs
  ·cases hs
  ·rename_i v hv
   obtain⟨hc,hu⟩:=hO _ _ _ _ hv
   injection hs with hs
   injection hs with e1 e2
   subst e1 e2
   by_cases hF:F f=true
   ·refine aFG (Q:=aFW f xs v) ?_ ?_ hw hop hf hxs aDY
    ·intro k a b r c hh
     obtain⟨rfl,rfl,rfl,rfl⟩:=aL6 hh
     exact hu hF _
    intro k a b r c hh
    obtain⟨rfl,rfl,rfl,rfl⟩:=aL6 hh
    exact⟨rfl,fun _=>rfl,fun _=>⟨[],by simp⟩,fun _ _=>aDY⟩
   refine aFG (Q:=aCh f h xs v h) (aE8 hc) ?_ hw hop hf hxs xV
   intro k a b r c hh
   unfold aCh at hh
   split at hh
   ·rename_i he
    obtain⟨rfl,rfl,rfl⟩:=he
    simp only[aYZ,aY7]at hh
    obtain⟨rfl,rfl⟩:=hh
    exact⟨rfl,fun _=>rfl,fun _=>⟨[],by simp⟩,fun hf=>absurd hf hF⟩
   cases hh
  rename_i v h' hv
  obtain⟨hF,hc⟩:=hO _ _ _ _ hv
  split at hs
  ·rename_i hcond
   injection hs with hs
   injection hs with e1 e2
   subst e1 e2
   refine aFG (Q:=aCh f h xs v h') (aE8 hc) ?_ hw hop hf hxs xV
   intro k a b r c hh
   unfold aCh at hh
   split at hh
   ·rename_i he
    obtain⟨rfl,rfl,rfl⟩:=he
    simp only[aYZ,aY7]at hh
    obtain⟨rfl,rfl⟩:=hh
    refine⟨rfl,fun hf=>(by rw[hF]at hf;cases hf),fun hg=> ?_,fun hf=>(by rw[hF]at hf;cases hf)⟩
    simp only[aZm,Bool.not_eq_true']at hcond
    rcases hcond with h1|h1
    ·rw[hg]at h1;cases h1
    exact⟨h'.drop a.length,by conv=>lhs;rw[←List.take_append_drop a.length h',aC8 _ _ h1]⟩
   cases hh
  cases hs
 exact aL5 hw hs
def goX (P:Program)(G:FuncId→Bool)(O:uF)(ops:Array Oper):List Oper→List V→Hp→Option (List V×Hp)
 | [],s,h=>some (s,h)
 |o::l,s,h=>match aMC P G O ops o s h with
  |none=>none
  |some p=>goX P G O ops l p.1 p.2
theorem aDh (hO:pG P F O){ops:Array Oper}{K:List V→Hp→Prop}: ∀(l:List Oper)(s:List V)(h:Hp)(p:List V×Hp),goX P G O ops l s h=some p→K p.1 p.2→OpsG P F G ops l s h K
 | [],s,h,p,hr,hk=>by simp only[goX,aYZ]at hr;subst hr;exact hk
 |o::l,s,h,p,hr,hk=>by
  simp only[goX]at hr
  split at hr
  ·cases hr
  rename_i q hq
  exact⟨_,_,aIb hO hq,aDh hO l _ _ p hr hk⟩
theorem OpsG.toW {N:Nat}{ops:Array Oper}{K:List V→Hp→Prop}: ∀{l:List Oper}{s:List V}{h:Hp},OpsG P F G ops l s h K→OpsW P N ops l s h K
 | [],_,_,hk=>OpsW.nil hk
 |_::_,_,_,⟨s1,h1,⟨Q,hQ,_,_,_,e⟩,hk⟩=>by
  rw[cI]at e
  simp only[aYV,aY7]at e
  obtain⟨⟨v,h'⟩,hv,rfl,rfl⟩:=e
  exact OpsW.cons hQ hv hk.toW
abbrev Dst :=Array Bool×List V×Hp
def aKV :List Bool→List Bool→Bool
 | [],[]=>true
 |a::l,b::m=>(a == b)&&aKV l m
 |_,_=>false
theorem aPn : ∀(l m:List Bool),aKV l m=true→l=m
 | [],[],_=>rfl
 |a::l,b::m,h=>by
  simp only[aKV,aYW,beq_iff_eq]at h
  rw[h.1,aPn l m h.2]
 | [],_::_,h=>by simp[aKV]at h
 |_::_,[],h=>by simp[aKV]at h
def eqD (x y:Dst):Bool:=aKV x.1.toList y.1.toList&&eqH x.2.2 y.2.2&&tH x.2.1 y.2.1
theorem aWh {x y:Dst}(h:eqD x y=true):x=y:=by
 obtain⟨⟨a⟩,b,c⟩:=x
 obtain⟨⟨a'⟩,b',c'⟩:=y
 simp only[eqD,aYW]at h
 have h1:a=a':=aPn _ _ h.1.1
 rw[h1,aC8 _ _ h.1.2,pZ _ _ h.2]
def uniq :List Dst→List Dst
 | []=>[]
 |x::l=>if(uniq l).any (eqD x)then uniq l else x::uniq l
theorem aGq : ∀{l:List Dst}{x:Dst},x∈l→x∈uniq l
 |y::l,x,hx=>by
  simp only[uniq]
  split
  ·rename_i ha
   rcases aZc.1 hx with rfl|hx
   ·obtain⟨z,hz,he⟩:=List.any_eq_true.1 ha
    rw[aWh he];exact hz
   exact aGq hx
  rcases aZc.1 hx with rfl|hx
  ·exact aZf
  exact List.mem_cons_of_mem _ (aGq hx)
def aP2 (P:Program)(G:FuncId→Bool)(O:uF)(ops:Array Oper)(d:Dst)(i:Nat):Option (List Dst):=
 match ops[i]? with
 |none=>none
 |some o=>match aMC P G O ops o d.2.1 d.2.2 with
  |none=>none
  |some p=>some [(d.1.setIfInBounds i true,p.1,p.2)]
def aTO (P:Program)(F G:FuncId→Bool)(O:uF)(ops:Array Oper)(d:Dst):Option (List Dst):=
 match(aY9 ops.size).find? fun i=>aH0 F G ops d.1 i with
 |some i=>aP2 P G O ops d i
 |none=>if(Region.ready .any ops d.1).isEmpty then none else aGm (aP2 P G O ops d) (Region.ready .any ops d.1)
def aKi (P:Program)(F G:FuncId→Bool)(O:uF)(ops:Array Oper):Nat→List Dst→Option (List (List V×Hp))
 |0,ds=>if ds.all (fun d=>(gG ops.size d.1).isEmpty)then some (ds.map fun d=>d.2)else none
 |n+1,ds=>match aGm (aTO P F G O ops) ds with
  |none=>none
  |some es=>aKi P F G O ops n (uniq es)
theorem aLL {ops:Array Oper}{d:Dst}{i:Nat}{a:List Dst}(hO:pG P F O)(h:aP2 P G O ops d i=some a): ∃(o:Oper)(p:List V×Hp),ops[i]? =some o∧StepR P F G ops o d.2.1 d.2.2 p.1 p.2∧a=[(d.1.setIfInBounds i true,p.1,p.2)]:=by
 unfold aP2 at h
 split at h
 ·cases h
 rename_i o ho
 split at h
 ·cases h
 rename_i p hp
 injection h with h
 exact⟨o,p,ho,aIb hO hp,h.symm⟩
theorem aId {N:Nat}(hO:pG P F O){ops:Array Oper}{K:List V→Hp→Prop}: ∀(n:Nat)(ds:List Dst)(rs:List (List V×Hp)),aKi P F G O ops n ds=some rs→(∀p∈rs,K p.1 p.2)→ ∀d∈ds,DrawG P N F G ops n d.1 d.2.1 d.2.2 K
 |0,ds,rs,hr,hK,d,hd=>by
  simp only[aKi]at hr
  split at hr
  ·rename_i he
   injection hr with hr
   subst hr
   exact DrawG.nil (by simpa using aY4.1 he d hd) (hK d.2 (aY5.2 ⟨d,hd,rfl⟩))
  cases hr
 |n+1,ds,rs,hr,hK,d,hd=>by
  simp only[aKi]at hr
  split at hr
  ·cases hr
  rename_i es hes
  obtain⟨a,ha,hm⟩:=aDd hes d hd
  have ih:=aId (N:=N) hO n (uniq es) rs hr hK
  unfold aTO at ha
  split at ha
  ·rename_i i hi
   have hp:=List.find?_some hi
   obtain⟨o,p,ho,hs,rfl⟩:=aLL hO ha
   exact DrawG.pick hp ho hs (ih _ (aGq (hm _ aZf)))
  split at ha
  ·cases ha
  rename_i hne
  refine DrawG.fork _ rfl (by intro h0;rw[h0]at hne;exact hne rfl) ?_
  have hall:=aDd ha
  clear ha hne
  generalize Region.ready .any ops d.1=l at hall
  induction l with
  |nil=>exact Fork.nil
  |cons i l ih2=>
   obtain⟨b,hb,hmb⟩:=hall i (by simp)
   obtain⟨o,p,ho,hs,rfl⟩:=aLL hO hb
   exact Fork.cons ho hs (ih _ (aGq (hm _ (hmb _ aZf)))) (ih2 fun j hj=>hall j (by simp[hj]))
theorem aK7 (s:List V):aD s.length (wJ 0 s)=s:=by
 have hl: ∀(l:List V)(k t:Nat)(x:V),l[t]? =some x→eJ (wJ k l) (k+t)=some x:=by
  intro l
  induction l with
  |nil=>intro k t x h;simp at h
  |cons y l ih=>
   intro k t x h
   cases t with
   |zero=>simp at h;subst h;simp[wJ,eJ]
   |succ t=>
    simp only[aZg]at h
    simp only[wJ,eJ]
    rw[show Nat.beq k (k+(t+1))=false by cases hb:Nat.beq k (k+(t+1)) with
     |false=>rfl
     |true=>have:=aZy hb;omega]
    have:=ih (k+1) t x h
    rw[show k+1+t=k+(t+1) by omega]at this
    simpa using this
 refine List.ext_getElem? fun t=> ?_
 by_cases ht:t<s.length
 ·rw[zF ht]
  have:=hl s 0 t s[t] (aY3 ht)
  rw[aZG]at this
  rw[this,aY3 ht];rfl
 rw[aZa (by rw[n9];omega),aZa (by omega)]
theorem FLe.map {f:V→V}: ∀(l:List V)(k:Nat)(fr:List (Nat×V)),(∀t x,l[t]? =some x→eJ fr (k+t)=some (f x))→FLe wZ f fr (wJ k l)
 | [],_,_,_=>FLe.nil
 |x::l,k,fr,h=>FLe.same (by simpa using h 0 x rfl) (FLe.map l (k+1) fr fun t y hy=>by rw[show k+1+t=k+(t+1) by omega];exact h (t+1) y (by simpa using hy))
theorem aPs {f:Nat→Nat}: ∀(l:List V)(t:Nat)(x:V),l[t]? =some x→(V.rns f l)[t]? =some (x.rn f)
 | [],_,_,h=>by simp at h
 |y::l,0,x,h=>by simp at h;subst h;simp[V.rns]
 |y::l,t+1,x,h=>by simp only[V.rns,aZg]at h ⊢; exact aPs l t x h
def aG6 (f:Nat→Nat)(h:Hp):List Nat→Hp→Bool
 | [],[]=>true
 |_::σ,none::h'=>aG6 f h σ h'
 |b::σ,some B'::h'=>(match h[b]? with
  |some (some B)=>decide (B.e=B'.e)&&tH B.cells (V.rns f B'.cells)&&B'.cells.all V.one
  |_=>false)&&aG6 f h σ h'
 |_,_=>false
theorem aKG {f:Nat→Nat}{h:Hp}: ∀(σ:List Nat)(h':Hp),aG6 f h σ h'=true→HLe f h σ h'
 | [],[],_=>HLe.nil
 |_::σ,none::h',hh=>HLe.dead (aKG σ h' (by simpa[aG6]using hh))
 |b::σ,some ⟨e',cs'⟩::h',hh=>by
  simp only[aG6,aYW]at hh
  obtain⟨h1,h2⟩:=hh
  split at h1
  ·rename_i B hB
   obtain⟨e,cs⟩:=B
   simp only[aYW,decide_eq_true_eq]at h1
   obtain⟨⟨rfl,he⟩,ho⟩:=h1
   exact HLe.live hB (by rw[pZ _ _ he];exact V.les_refl _ _) ho (aKG σ h' h2)
  cases h1
 | [],_::_,hh=>by simp[aG6]at hh
 |_::_,[],hh=>by simp[aG6]at hh
def aKt :List Nat→List Nat→Bool
 | [],[]=>true
 |a::l,b::m=>Nat.beq a b&&aKt l m
 |_,_=>false
theorem aPi : ∀(l m:List Nat),aKt l m=true→l=m
 | [],[],_=>rfl
 |a::l,b::m,h=>by
  simp only[aKt,aYW]at h
  rw[aZy h.1,aPi l m h.2]
 | [],_::_,h=>by simp[aKt]at h
 |_::_,[],h=>by simp[aKt]at h
def aPZ (N:Nat)(σ:List Nat)(s:List V)(h:Hp)(s':List V)(h':Hp):Bool:=
 aKt (σ.take N) (aY9 N)&&σ.all (fun b=>aZE b h.length)&&tH s (V.rns (sg σ h.length) s')&&aG6 (sg σ h.length) h σ h'&&ndB (lvs σ h')
theorem aSk {N:Nat}{σ:List Nat}{s:List V}{h:Hp}{s':List V}{h':Hp}(hh:aPZ N σ s h s' h'=true):Ghost N s h s' h':=by
 simp only[aPZ,Bool.and_eq_true]at hh
 obtain⟨⟨⟨⟨h1,h2⟩,h3⟩,h4⟩,h5⟩:=hh
 have hs:=pZ _ _ h3
 have hl:s.length=s'.length:=by rw[hs,V.rns_length]
 have:=Ghost.rn (N:=N) (n:=s.length) (fr:=wJ 0 s) (fr':=wJ 0 s') σ (aPi _ _ h1) h2 (FLe.map s' 0 _ fun t x hx=>by
  have hx':=aPs (f:=sg σ h.length) s' t x hx
  rw[←hs]at hx'
  have h6:(aD s.length (wJ 0 s))[t]? =some (x.rn (sg σ h.length)):=by rw[aK7];exact hx'
  have ht:t<s.length:=(List.getElem?_eq_some_iff.1 hx').1
  rw[zF ht]at h6
  rw[Nat.zero_add]
  cases hq:eJ (wJ 0 s) t with
  |some y=>rw[hq]at h6;simpa using h6
  |none=>
   exfalso
   have: ∀(l:List V)(k t:Nat),t<l.length→eJ (wJ k l) (k+t)≠none:=by
    intro l
    induction l with
    |nil=>intro k t ht;simp at ht
    |cons y l ih=>
     intro k t ht
     simp only[wJ,eJ]
     cases hb:Nat.beq k (k+t) with
     |true=>simp
     |false=>
      cases t with
      |zero=>simp at hb
      |succ t=>
       simp only[cond_false]
       have:=ih (k+1) t (by simpa using ht)
       rwa[show k+1+t=k+(t+1) by omega]at this
   exact this s 0 t ht (by rw[Nat.zero_add];exact hq)) (aKG _ _ h4) h5
 rw[aK7,hl,aK7]at this
 exact this
def aUm :V→V→List (Nat×Nat)
 | .sl b _ _ _ _,.sl c _ _ _ _=>[(c,b)]
 | .ptr b _,.ptr c _=>[(c,b)]
 |_,_=>[]
def aMK :List V→List V→List (Nat×Nat)
 |x::l,y::m=>aUm x y++aMK l m
 |_,_=>[]
def aHN :List V→List V→List (Nat×Nat)
 | .agg a::l,.agg b::m=>aMK a b++aHN l m
 | .tup a::l,.tup b::m=>aMK a b++aHN l m
 |x::l,y::m=>aUm x y++aHN l m
 |_,_=>[]
def aMX (h h':Hp):Nat→List (Nat×Nat)→List (Nat×Nat)
 |0,_=>[]
 |n+1,ps=>ps++aMX h h' n (ps.flatMap fun p=>match h[p.2]?,h'[p.1]? with
  |some (some B),some (some B')=>aMK B.cells B'.cells
  |_,_=>[])
def aTG :List (Nat×Nat)→Nat→Option Nat
 | [],_=>none
 |(a,b)::l,k=>bif Nat.beq a k then some b else aTG l k
def gcI (N:Nat)(ls:List Nat):Nat→Hp→Hp
 |_,[]=>[]
 |i,o::h=>(bif aZE i N || ls.elem i then o else none)::gcI N ls (i+1) h
def aWD (N L:Nat)(ps:List (Nat×Nat))(j:Nat):Nat:=bif aZE j N then j else match aTG ps j with
 |some b=>b
 |none=>bif aZE j L then j else 0
def aXi (N:Nat)(s1:List V)(h1 h1':Hp):Ex×List V×Hp→Bool
 |(.normal,s,h)=>aPZ N ((aY9 h1.length).map (aWD N h.length (aMX h h1 4 (aHN s s1)))) s h s1 h1'
 |_=>false
def aPN (N:Nat):List (Ex×List V×Hp)→List (Ex×List V×Hp)
 |(.normal,s1,h1)::r2::rest=>
  if((.normal,s1,h1)::r2::rest).all (aXi N s1 h1 (gcI N ((aMX h1 h1 4 (aHN s1 s1)).map (·.1)) 0 h1))then [(.normal,s1,gcI N ((aMX h1 h1 4 (aHN s1 s1)).map (·.1)) 0 h1)]else(.normal,s1,h1)::r2::rest
 |rs=>rs
theorem aSb {N:Nat}{rs:List (Ex×List V×Hp)}: ∀r∈rs,∃q∈aPN N rs,r=q∨(r.1= .normal∧q.1= .normal∧Ghost N r.2.1 r.2.2 q.2.1 q.2.2):=by
 unfold aPN
 split
 ·rename_i s1 h1 r2 rest
  split
  ·rename_i ha
   intro r hr
   have:=aY4.1 ha r hr
   refine⟨_,aZp.2 rfl,.inr ?_⟩
   obtain⟨x,s,h⟩:=r
   cases x with
   |normal=>exact⟨rfl,rfl,aSk this⟩
   |ret=>cases this
   |exit i=>cases this
  exact fun r hr=>⟨r,hr,.inl rfl⟩
 exact fun r hr=>⟨r,hr,.inl rfl⟩
theorem aIk : ∀(m i:Nat)(l:List Oper),i+m=l.length→yS l (aZu i m)=l.drop i
 |0,i,l,h=>by simp[yS];omega
 |m+1,i,l,h=>by
  have hi:i<l.length:=by omega
  rw[aZv,yS,aY3 hi]
  simp only
  rw[aIk m (i+1) l (by omega),List.drop_eq_getElem_cons hi]
def aTJ (F G:FuncId→Bool)(ops:Array Oper):Bool:=aEd F G ops (aY9 ops.size) (aZe ops.size false)&&(gG ops.size (aDM (aY9 ops.size) (aZe ops.size false))).isEmpty
def qP (F G:FuncId→Bool)(ids:List Nat):Code→Bool
 | .region id ops draw=> !(draw&&ids.elem id) || aTJ F G ops
 | .seq a b=>qP F G ids a&&qP F G ids b
 | .cond _ a b=>qP F G ids a&&qP F G ids b
 | .block _ c=>qP F G ids c
 | .loop c=>qP F G ids c
 | .scope c=>qP F G ids c
 |_=>true
def oM (P:Program)(F G:FuncId→Bool)(O:uF)(ids:List Nat)(N:Nat):Nat→Code→List V→Hp→Option (List (Ex×List V×Hp))
 |0,_,_,_=>none
 |n+1,c,s,h=>match c with
  | .skip=>some [(.normal,s,h)]
  | .region id ops draw=>if draw&& !(ids.elem id)then(aKi P F G O ops ops.size [(aZe ops.size false,s,h)]).map (List.map fun p=>(.normal,p.1,p.2))else(goX P G O ops ops.toList s h).map fun p=>[(.normal,p.1,p.2)]
  | .seq a b=>match oM P F G O ids N n a s h with
   |none=>none
   |some rs=>aGm (fun r=>match r with
    |(.normal,s1,h1)=>oM P F G O ids N n b s1 h1
    |r=>some [r]) (aPN N rs)
  | .cond c x y=>match ev s c with
   |some (.sc (.bool true))=>oM P F G O ids N n x s h
   |some (.sc (.bool false))=>oM P F G O ids N n y s h
   |_=>none
  | .block id c=>(oM P F G O ids N n c s h).map (List.map (aPg id))
  | .loop c=>match oM P F G O ids N n c s h with
   |none=>none
   |some rs=>aGm (fun r=>match r with
    |(.normal,s1,h1)=>oM P F G O ids N n (.loop c) s1 h1
    |r=>some [r]) rs
  | .exit id=>some [(.exit id,s,h)]
  | .ret=>some [(.ret,s,h)]
  | .scope c=>oM P F G O ids N n c s h
  | .label _=>some [(.normal,s,h)]
  |_=>none
theorem aAc {N:Nat}{ids:List Nat}(hO:pG P F O)(hm:P.follows .mixedOrders=true): ∀(n:Nat)(c:Code)(s:List V)(h:Hp)(rs:List (Ex×List V×Hp))(Q:Ex→List V→Hp→Prop),qP F G ids c=true→oM P F G O ids N n c s h=some rs→(∀r∈rs,Q r.1 r.2.1 r.2.2)→AB P N c Q s h:=by
 intro n
 induction n using Nat.strongRecOn with
 |_ n ih=>
  intro c s h rs Q hok hr hQ
  cases n with
  |zero=>simp[oM]at hr
  |succ n=>
   cases c<;>simp only[oM]at hr<;>simp only[qP,aYW]at hok
   case skip=>injection hr with hr;subst hr;exact AB.skip (hQ (.normal,s,h) (by simp))
   case region id ops draw=>
    obtain⟨l⟩:=ops
    split at hr
    ·rename_i hd
     simp only[aYW]at hd
     obtain⟨rfl,_⟩:=hd
     simp only[aYV]at hr
     obtain⟨ps,hp,rfl⟩:=hr
     exact AB.rd F G hm (aId hO _ _ ps hp (fun p hp'=>hQ (.normal,p.1,p.2) (aY5.2 ⟨p,hp',rfl⟩)) _ aZf)
    rename_i hd
    simp only[aYV]at hr
    obtain⟨p,hp,rfl⟩:=hr
    have hg:=aDh (K:=Q .normal) hO l s h p hp (hQ (.normal,p.1,p.2) (by simp))
    cases draw with
    |false=>exact AB.rw hg.toW
    |true=>
     have he:ids.elem id=true:=by simpa using hd
     rw[he]at hok
     simp only[Bool.and_self,Bool.not_true,Bool.false_or,aTJ,aYW]at hok
     refine AB.rd F G hm ?_
     have hp:yS l (aY9 l.length)=l:=by rw[aZk,aIk l.length 0 l (by omega)];rfl
     have:=aAh (P:=P) (N:=N) (K:=Q .normal) (m:=0) (aY9 l.toArray.size) (aZe l.toArray.size false) s h hok.1 (by
      show OpsG P F G l.toArray (yS l (aY9 l.length)) s h _
      rw[hp]
      exact hg.mono fun s h hk=>DrawG.nil (List.isEmpty_iff.1 hok.2) hk)
     simpa using this
   case seq a b=>
    split at hr
    ·cases hr
    rename_i os ho
    refine AB.seq (ih n (by omega) a s h os _ hok.1 ho fun r hr'=> ?_)
    obtain⟨r',hr',hg⟩:=aSb (N:=N) r hr'
    obtain⟨q,hq,hm'⟩:=aDd hr r' hr'
    rcases hg with rfl|⟨e1,e2,hg⟩
    rotate_left
    ·obtain⟨x,s1,h1⟩:=r
     obtain⟨x',s2,h2⟩:=r'
     simp only at e1 e2
     subst e1 e2
     exact AB.ghost hg (ih n (by omega) b s2 h2 q Q hok.2 hq (fun z hz=>hQ z (hm' z hz)))
    obtain⟨x,s1,h1⟩:=r
    cases x with
    |normal=>exact ih n (by omega) b s1 h1 q Q hok.2 hq (fun z hz=>hQ z (hm' z hz))
    |exit i=>simp only[aYZ]at hq;subst hq;exact hQ (.exit i,s1,h1) (hm' _ (by simp))
    |ret=>simp only[aYZ]at hq;subst hq;exact hQ (.ret,s1,h1) (hm' _ (by simp))
   case cond c x y=>
    split at hr
    ·rename_i hc;exact AB.cond hc (fun _=>ih n (by omega) x s h rs Q hok.1 hr hQ) (fun hh=>by cases hh)
    ·rename_i hc;exact AB.cond hc (fun hh=>by cases hh) (fun _=>ih n (by omega) y s h rs Q hok.2 hr hQ)
    cases hr
   case block id c=>
    simp only[aYV]at hr
    obtain⟨os,ho,rfl⟩:=hr
    refine AB.block (ih n (by omega) c s h os _ hok ho fun r hr'=> ?_)
    have:=hQ _ (aY5.2 ⟨r,hr',rfl⟩)
    obtain⟨x,s1,h1⟩:=r
    cases x with
    |normal=>exact this
    |ret=>exact this
    |exit i=>
     simp only[aPg]at this
     simp only[Ex.inBlock]
     split at this
     ·rename_i hi;rw[if_pos hi];exact this
     rename_i hi;rw[if_neg hi];exact this
   case loop c=>
    have h0:oM P F G O ids N (n+1) (.loop c) s h=some rs:=by simp only[oM];exact hr
    refine AB.loop (fun m s h=>m≤n+1∧ ∃rs,oM P F G O ids N m (.loop c) s h=some rs∧ ∀r∈rs,Q r.1 r.2.1 r.2.2) ⟨aZI _,rs,h0,hQ⟩ ?_
    rintro m s1 h1 ⟨hm',rs1,he,hQ1⟩
    cases m with
    |zero=>simp[oM]at he
    |succ m=>
     simp only[oM]at he
     split at he
     ·cases he
     rename_i os ho
     refine ih m (by omega) c s1 h1 os _ hok ho fun r hr'=> ?_
     obtain⟨q,hq,hmm⟩:=aDd he r hr'
     obtain⟨x,s2,h2⟩:=r
     cases x with
     |normal=>exact⟨m,by omega,by omega,q,hq,fun z hz=>hQ1 z (hmm z hz)⟩
     |exit i=>simp only[aYZ]at hq;subst hq;exact hQ1 (.exit i,s2,h2) (hmm _ (by simp))
     |ret=>simp only[aYZ]at hq;subst hq;exact hQ1 (.ret,s2,h2) (hmm _ (by simp))
   case exit id=>injection hr with hr;subst hr;exact AB.exit (hQ (.exit id,s,h) (by simp))
   case ret=>injection hr with hr;subst hr;exact AB.ret (hQ (.ret,s,h) (by simp))
   case scope c=>exact AB.scope (ih n (by omega) c s h rs Q hok hr hQ)
   case label l=>injection hr with hr;subst hr;exact AB.label (hQ (.normal,s,h) (by simp))
   all_goals cases hr
end
def aKB (r:V):Option (V×Hp)→Bool
 |none=>false
 |some p=>match xH p.2 p.1 with
  |none=>false
  |some v=>eqV v r
def aDU :Option (List (Option (V×Hp)))→Option V
 |some (some p::rest)=>match xH p.2 p.1 with
  |some r=>if rest.all (aKB r)then some r else none
  |none=>none
 |_=>none
def aQp :Option (List (Option (V×Hp)))→Option (V×Hp)
 |some [some r]=>some r
 |_=>none
def aOr (N:Nat):V→Bool
 | .sc _=>true
 | .row _ _ _=>true
 | .eptr _ _ _=>true
 | .any=>true
 | .ptr b _=>aZE b N
 | .sl b _ _ _ _=>aZE b N
 | .mp b=>aZE b N
 |_=>false
def aM4 (N:Nat)(h:Hp):Bool:=(h.take N).all fun o=>match o with
 |none=>true
 |some B=>B.cells.all (aOr N)
def aEh (N:Nat)(h:Hp):Hp:=only (aZu N (h.length-N)) h
theorem vK {α:Type}{M:List α}{N b:Nat}(hb:b<N):(M.take N)[b]? =M[b]? :=by rw[List.getElem?_take];simp[hb]
theorem VR.low {X:Nat→Prop}{M:List (Option Nat)}{w:World}{N:Nat}{x:V}{v:Value}(hl:aOr N x=true)(hx:VR X M w x v):VR X (M.take N) w x v:=by
 cases x with
 |sc c=>unfold VR at hx ⊢; exact hx
 |row nil k es=>unfold VR at hx ⊢; exact hx
 |eptr es i off=>unfold VR at hx ⊢; exact hx
 |any=>unfold VR;trivial
 |ptr b off=>
  have hb:b<N:=by simpa[aOr]using hl
  unfold VR at hx⊢
  rw[vK hb];exact hx
 |sl b off n k ag=>
  have hb:b<N:=by simpa[aOr]using hl
  unfold VR at hx⊢
  rw[vK hb];exact hx
 |mp b=>
  have hb:b<N:=by simpa[aOr]using hl
  unfold VR at hx⊢
  rw[vK hb];exact hx
 |agg cs=>cases hl
 |tup cs=>cases hl
theorem Ghost.exp {N:Nat}{h:Hp}{r1 r:V}(hNh:N≤h.length)(he:xH (aEh N h) r1=some r)(hlow:aM4 N h=true):Ghost N (aD 1 [(0,r1)]) h (aD 1 [(0,r)]) (h.take N):=fun A M a w hle R=>by
 have hb: ∀{b:Nat}{B:Blk},(h.take N)[b]? =some (some B)→b<N∧h[b]? =some (some B):=fun{b B} hb=>by
  have:b<N:=by
   have:=(aYY.1 hb).1
   rw[aY8]at this;omega
  exact⟨this,by rw[vK this]at hb;exact hb⟩
 have hlive: ∀g,cX (M.take N) (h.take N) g→cX M h g:=fun g ⟨b,B,h1,h2⟩=>by
  obtain⟨h3,h4⟩:=hb h1
  exact⟨b,B,h4,by rw[vK h3]at h2;exact h2⟩
 have hX: ∀g,Xs A (M.take N) (h.take N) g→Xs A M h g:=fun g hx=>hx.elim .inl fun hl=> .inr (hlive g hl)
 have H':HR A (M.take N) (h.take N) w:=by
  refine⟨by rw[aY8,aY8,R.hr.len],R.hr.alt,fun b B hb'=> ?_,fun b b' B B' g h1 h2 h3 h4=> ?_,R.hr.glob.avoid fun g _ hx=>hX g hx⟩
  ·obtain⟨hbN,hb2⟩:=hb hb'
   obtain⟨k0,hn|⟨g,cs,hg,hA,hh,hle',hcs⟩⟩:=R.hr.blk b B hb2
   ·exact⟨k0,.inl ⟨by rw[vK hbN];exact hn.1,hn.2⟩⟩
   refine⟨k0,.inr ⟨g,cs,by rw[vK hbN];exact hg,hA,hh,hle', ?_⟩⟩
   have hc2:=hcs.avoid (X':=Xs A (M.take N) (h.take N)) (fun g _ hx=>hX g hx)
   refine VCells.mk hc2.len (fun i c v hc hv=> ?_)
   obtain⟨u,hu,hr⟩:=hc2.get hc
   rw[hv]at hu;injection hu with hu;subst hu
   refine VR.low ?_ hr
   have h5:=aY4.1 hlow (some B) (aZA hb')
   exact aY4.1 h5 c (aZA hc)
  obtain⟨a1,a2⟩:=hb h1
  obtain⟨b1,b2⟩:=hb h2
  rw[vK a1]at h3
  rw[vK b1]at h4
  exact R.hr.inj b b' B B' g a2 b2 h3 h4
 have hX3: ∀g,Xs (Xs A (M.take N) (h.take N)) M (aEh N h) g→Xs A M h g:=fun g hx=>hx.elim (hX g) fun⟨b,B,h1,h2⟩=> .inr ⟨b,B,(xW h1).2,h2⟩
 have Ho:HR (Xs A (M.take N) (h.take N)) M (aEh N h) w:=by
  refine R.hr.only _ (fun g hg=>R.hr.lt (hX g hg)) (fun b B g hbm hb1 hm hx=> ?_) hX3
  have hbN:N≤b:=(List.mem_range'_1.1 hbm).1
  rcases hx with hA|⟨b',B',h1,h2⟩
  ·obtain⟨_,⟨hn,_⟩|⟨g',cs,hg,hA',_⟩⟩:=R.hr.blk b B hb1
   ·rw[hm]at hn;cases hn
   rw[hm]at hg;injection hg with hg;injection hg with hg;subst hg;exact hA' hA
  obtain⟨h3,h4⟩:=hb h1
  rw[vK h3]at h2
  have:=R.hr.inj b b' B B' g hb1 h4 hm h2
  omega
 refine⟨M.take N,by rw[List.take_take,Nat.min_self],⟨H',⟨?_,fun t x hx=> ?_⟩,R.defers⟩,hlive⟩
 ·have:=R.sr.len;rw[n9]at this ⊢; exact this
 cases t with
 |zero=>
  simp[aD,eJ]at hx
  subst hx
  exact(aDC Ho ((R.sr.val 0 r1 rfl).avoid fun g _ hx=>hX3 g hx) he).lift
 |succ t=>rw[aZa (by rw[n9];omega)]at hx;cases hx
def aBq (P:Program)(F G:FuncId→Bool)(T:FuncId→List Nat)(O:uF)(n:Nat)(f:FuncId)(h:Hp)(args:List V):Option (List (Option (V×Hp))):=
 match P.funcs[f]? with
 |none=>none
 |some fn=>match fn.body with
  |none=>none
  |some c=>if fn.name == "runtime.NumGoroutine" || !(Nat.ble args.length fn.ntmps)then none else
   (oM P F G O (T f) h.length n c (aD fn.ntmps (wJ 0 args)) h).map (List.map fun r=>match r.1 with
    | .exit _=>none
    |_=>(v6 P fn r.2.1 r.2.2).map fun v=>(v,r.2.2))
def aOh (N:Nat)(p:V×Hp):Option V:=if aM4 N p.2&&Nat.ble N p.2.length then xH (aEh N p.2) p.1 else none
def aQS (N:Nat)(r:V)(h:Hp):Option (V×Hp)→Bool
 |none=>false
 |some p=>match aOh N p with
  |none=>false
  |some v=>eqV v r&&eqH (p.2.take N) h
def aMD (N:Nat):Option (List (Option (V×Hp)))→Option (V×Hp)
 |some (some p::rest)=>match aOh N p with
  |some r=>if rest.all (aQS N r (p.2.take N))then some (r,p.2.take N)else none
  |none=>none
 |_=>none
def aEw (β:List Nat):Nat→Hp→Hp
 |_,[]=>[]
 |i,o::h=>(bif β.elem i then none else o)::aEw β (i+1) h
def aAm (β:List Nat)(h:Hp):Hp:=aEw β 0 h
theorem aL7 (β:List Nat): ∀(h:Hp)(i j:Nat),(aEw β i h)[j]? =(h[j]?).map fun o=>bif β.elem (i+j)then none else o
 | [],i,j=>by simp[aEw]
 |o::h,i,0=>by simp[aEw]
 |o::h,i,j+1=>by
  simp only[aEw,aZg]
  rw[aL7 β h (i+1) j]
  simp[Nat.add_assoc,aZH 1 j]
theorem aBM {β:List Nat}{h:Hp}{j:Nat}{B:Blk}(hj:(aAm β h)[j]? =some (some B)):j∉β∧h[j]? =some (some B):=by
 unfold aAm at hj
 rw[aL7]at hj
 cases ho:h[j]? with
 |none=>rw[ho]at hj;cases hj
 |some o=>
  rw[ho]at hj
  simp only[aZG,aZl,aYZ]at hj
  cases he:β.elem j with
  |true=>rw[he]at hj;cases hj
  |false=>
   rw[he]at hj
   simp only[cond_false]at hj
   subst hj
   exact⟨fun hm=>(by rw[List.elem_iff.2 hm]at he;cases he),rfl⟩
theorem aQN (β:List Nat)(h:Hp):(aAm β h).length=h.length:=by
 have: ∀(h:Hp)(i:Nat),(aEw β i h).length=h.length:=by
  intro h
  induction h with
  |nil=>intro i;rfl
  |cons o h ih=>intro i;simp[aEw,ih]
 exact this h 0
def aSQ :V→List Nat
 | .sl b _ _ _ _=>[b]
 | .ptr b _=>[b]
 |_=>[]
def aQH :V→List Nat
 | .agg cs=>cs.flatMap aSQ
 |x=>aSQ x
def aMQ (h:Hp):Nat→List Nat→List Nat
 |0,_=>[]
 |n+1,bs=>bs++aMQ h n (bs.flatMap fun b=>match h[b]? with
  |some (some B)=>B.cells.flatMap aSQ
  |_=>[])
theorem aPv {P:Program}{f:FuncId}{h:Hp}{xs ys:List V}{r:V}(β:List Nat)(hp:PFn P f ys r)(hx:xs.mapM (xH (only β h))=some ys):Fn P f h xs r (aAm β h):=by
 intro A M w vs H hargs
 have hlv: ∀g,cX M (aAm β h) g→cX M h g:=fun g ⟨b,B,h1,h2⟩=>⟨b,B,(aBM h1).2,h2⟩
 have hX: ∀g,Xs A M (aAm β h) g→Xs A M h g:=fun g hx=>hx.elim .inl fun hl=> .inr (hlv g hl)
 have hX3: ∀g,Xs (Xs A M (aAm β h)) M (only β h) g→Xs A M h g:=fun g hx=>hx.elim (hX g) fun⟨b,B,h1,h2⟩=> .inr ⟨b,B,(xW h1).2,h2⟩
 have Ho:HR (Xs A M (aAm β h)) M (only β h) w:=by
  refine H.only β (fun g hg=>H.lt (hX g hg)) (fun b B g hbm hb1 hm hx=> ?_) hX3
  rcases hx with hA|⟨b',B',h1,h2⟩
  ·obtain⟨_,⟨hn,_⟩|⟨g',cs,hg,hA',_⟩⟩:=H.blk b B hb1
   ·rw[hm]at hn;cases hn
   rw[hm]at hg;injection hg with hg;injection hg with hg;subst hg;exact hA' hA
  obtain⟨h3,h4⟩:=aBM h1
  have:=H.inj b b' B B' g hb1 h4 hm h2
  subst this
  exact h3 hbm
 have hargs':VCells (Xs A M (aAm β h)) [] w ys vs:=by
  obtain⟨hl,hget⟩:=aAH hx
  refine VCells.mk (by rw[←hl,hargs.len]) (fun i c v hd hv=> ?_)
  have hi:i<xs.length:=by rw[hl];exact(aYY.1 hd).1
  obtain⟨u,hu,hr⟩:=hargs.get (aY3 hi)
  rw[hv]at hu;injection hu with hu;subst hu
  exact aDC Ho (hr.avoid fun g _ hx=>hX3 g hx) (hget i _ _ (aY3 hi) hd)
 refine(hp (Xs A M (aAm β h)) w vs (fun g hg=>H.lt (hX g hg)) (H.glob.avoid fun g _ hg=>hX g hg) hargs').mono fun v w' ⟨hE,hv⟩=>⟨M, ?_,hv.lift⟩
 have G:=Grow.none_changed H hE
 refine⟨aY1 _,⟨by rw[aQN];exact H.len,G.hr.alt,fun b B hb=> ?_,fun b b' B B' g h1 h2=>G.hr.inj b b' B B' g (aBM h1).2 (aBM h2).2,G.hr.glob.avoid fun g _ hg=>hX g hg⟩,hE.mono fun _ _ hh=>hh.elim,fun g _ hl=>hlv g hl⟩
 obtain⟨k0,hn|⟨g,cs,hg,hA,hh,hle,hcs⟩⟩:=G.hr.blk b B (aBM hb).2
 ·exact⟨k0,.inl hn⟩
 exact⟨k0,.inr ⟨g,cs,hg,hA,hh,hle,hcs.avoid fun g _ hg=>hX g hg⟩⟩
theorem aEB {P:Program}{f:FuncId}{xs:List V}{r:V}(hc:Fn P f [] xs r []):PFn P f xs r:=by
 intro A w vs hA hGl hargs
 refine(hc A [] w vs (HR.nil hA hGl) (hargs.avoid fun g _ hx=>aFw.1 hx)).mono fun v w' ⟨M',G,hv⟩=> ?_
 have hM:M'=[]:=List.length_eq_zero_iff.1 G.hr.len
 subst hM
 exact⟨G.ext.mono fun g _ hl=>by obtain⟨b,B,hb,_⟩:=hl;simp at hb,hv.avoid fun g _ hx=>aFw.2 hx⟩
def aEx (P:Program)(F G L K:FuncId→Bool)(T:FuncId→List Nat)(B:uF):Nat→uF
 |0,_,_,_=>none
 |n+1,f,h,xs=>match B f h xs with
  |some r=>some r
  |none=>
   if L f then(if F f then none else(aQp (aBq P F G T (aEx P F G L K T B n) n f h xs)).map fun p=>(p.1,some p.2))
   else if xs.all aDS then(aDU (aBq P F G T (aEx P F G L K T B n) n f [] xs)).map fun v=>(v,none)
   else if F f then none else
   if K f then(match xs.mapM (xH (only (aMQ h 5 (xs.flatMap aQH)) h)) with
    |none=>none
    |some ys=>match B f [] ys with
     |some (v,none)=>some (v,some (aAm (aMQ h 5 (xs.flatMap aQH)) h))
     |_=>(aDU (aBq P F G T (aEx P F G L K T B n) n f [] ys)).map fun v=>(v,some (aAm (aMQ h 5 (xs.flatMap aQH)) h)))
   else(aMD h.length (aBq P F G T (aEx P F G L K T B n) n f h xs)).map fun p=>(p.1,some p.2)
section
variable {P:Program}{F G L K:FuncId→Bool}{T:FuncId→List Nat}{B:uF}
theorem aUx {O:uF}(hO:pG P F O)(hT: ∀(f:FuncId) fn c,P.funcs[f]? =some fn→fn.body=some c→qP F G (T f) c=true)(hm:P.follows .mixedOrders=true){n:Nat}{f:FuncId}{h h':Hp}{args:List V}{r:V}(hh:aQp (aBq P F G T O n f h args)=some (r,h')):Fn P f h args r h':=by
 unfold aQp at hh
 split at hh
 ·rename_i p hp
  injection hh with hh
  subst hh
  unfold aBq at hp
  split at hp
  ·cases hp
  rename_i fn hf
  split at hp
  ·cases hp
  rename_i c hb
  split at hp
  ·cases hp
  rename_i hn
  simp only[aZm,not_or,aZw,aZq]at hn
  simp only[aYV]at hp
  obtain⟨rs,hrs,hmap⟩:=hp
  refine aMP (fn:=fn) (n:=fn.ntmps) hf hb hn.1 rfl (aY2 (by simpa using hn.2)) rfl rfl (aAc hO hm n c _ h rs _ (hT f fn c hf hb) hrs fun q hq=> ?_)
  have hmem:(match q.1 with | .exit _=>none|_=>(v6 P fn q.2.1 q.2.2).map fun v=>(v,q.2.2))∈ [some (r,h')]:=by
   rw[←hmap];exact aY5.2 ⟨q,hq,rfl⟩
  obtain⟨x,s1,h1⟩:=q
  simp only[aZp]at hmem
  cases x with
  |exit i=>cases hmem
  |normal=>
   simp only[aYV,aY7]at hmem
   obtain⟨v,hv,rfl,rfl⟩:=hmem
   exact aGO hv (Ghost.weak (FLe.same rfl FLe.nil))
  |ret=>
   simp only[aYV,aY7]at hmem
   obtain⟨v,hv,rfl,rfl⟩:=hmem
   exact uM hv (Ghost.weak (FLe.same rfl FLe.nil))
 cases hh
theorem aP8 {r:V}{o:Option (V×Hp)}(h:aKB r o=true): ∃p,o=some p∧xH p.2 p.1=some r:=by
 unfold aKB at h
 split at h
 ·cases h
 rename_i p
 split at h
 ·cases h
 rename_i v hv
 exact⟨p,rfl,by rw[hv,aG2 _ _ h]⟩
theorem aOK {x:Option (List (Option (V×Hp)))}{r:V}(hh:aDU x=some r): ∃os,x=some os∧ ∀o∈os,∃p,o=some p∧xH p.2 p.1=some r:=by
 unfold aDU at hh
 split at hh
 ·rename_i p rest
  split at hh
  ·rename_i v hv
   split at hh
   ·rename_i ha
    injection hh with hh
    subst hh
    refine⟨_,rfl,fun o ho=> ?_⟩
    rcases aZc.1 ho with rfl|ho
    ·exact⟨p,rfl,hv⟩
    exact aP8 (aY4.1 ha o ho)
   cases hh
  cases hh
 cases hh
theorem aRh {N:Nat}{x:Option (List (Option (V×Hp)))}{r:V}{h:Hp}(hh:aMD N x=some (r,h)): ∃os,x=some os∧ ∀o∈os,∃p,o=some p∧aM4 N p.2=true∧N≤p.2.length∧xH (aEh N p.2) p.1=some r∧p.2.take N=h:=by
 have key: ∀{p:V×Hp}{r:V},aOh N p=some r→aM4 N p.2=true∧N≤p.2.length∧xH (aEh N p.2) p.1=some r:=fun{p r} he=>by
  unfold aOh at he
  split at he
  ·rename_i hc
   simp only[aYW]at hc
   exact⟨hc.1,aY2 hc.2,he⟩
  cases he
 unfold aMD at hh
 split at hh
 ·rename_i p rest
  split at hh
  ·rename_i v hv
   split at hh
   ·rename_i ha
    simp only[aYZ,aY7]at hh
    obtain⟨rfl,rfl⟩:=hh
    refine⟨_,rfl,fun o ho=> ?_⟩
    rcases aZc.1 ho with rfl|ho
    ·obtain⟨h1,h2,h3⟩:=key hv
     exact⟨p,rfl,h1,h2,h3,rfl⟩
    have:=aY4.1 ha o ho
    cases o with
    |none=>cases this
    |some q=>
     simp only[aQS]at this
     cases hu:aOh N q with
     |none=>rw[hu]at this;cases this
     |some u=>
      rw[hu]at this
      simp only[aYW]at this
      obtain⟨h1,h2,h3⟩:=key hu
      exact⟨q,rfl,h1,h2,by rw[h3,aG2 _ _ this.1],aC8 _ _ this.2⟩
   cases hh
  cases hh
 cases hh
theorem aSB {O:uF}(hO:pG P F O)(hT: ∀(f:FuncId) fn c,P.funcs[f]? =some fn→fn.body=some c→qP F G (T f) c=true)(hm:P.follows .mixedOrders=true){n:Nat}{f:FuncId}{h h':Hp}{args:List V}{r:V}(hh:aMD h.length (aBq P F G T O n f h args)=some (r,h')):Fn P f h args r h':=by
 obtain⟨os,hos,hall⟩:=aRh hh
 unfold aBq at hos
 split at hos
 ·cases hos
 rename_i fn hf
 split at hos
 ·cases hos
 rename_i c hb
 split at hos
 ·cases hos
 rename_i hn
 simp only[aZm,not_or,aZw,aZq]at hn
 simp only[aYV]at hos
 obtain⟨rs,hrs,hmap⟩:=hos
 refine aMP (fn:=fn) (n:=fn.ntmps) hf hb hn.1 rfl (aY2 (by simpa using hn.2)) rfl rfl (aAc hO hm n c _ h rs _ (hT f fn c hf hb) hrs fun q hq=> ?_)
 have hmem:(match q.1 with | .exit _=>none|_=>(v6 P fn q.2.1 q.2.2).map fun v=>(v,q.2.2))∈os:=by
  rw[←hmap];exact aY5.2 ⟨q,hq,rfl⟩
 obtain⟨p,hp,hl,hle,hv,ht⟩:=hall _ hmem
 obtain⟨x,s1,h1'⟩:=q
 cases x with
 |exit i=>cases hp
 |normal=>
  simp only[aYV]at hp
  obtain⟨v,hv',rfl⟩:=hp
  subst ht
  exact aGO hv' (Ghost.exp hle hv hl)
 |ret=>
  simp only[aYV]at hp
  obtain⟨v,hv',rfl⟩:=hp
  subst ht
  exact uM hv' (Ghost.exp hle hv hl)
theorem aG9 {O:uF}(hO:pG P F O)(hT: ∀(f:FuncId) fn c,P.funcs[f]? =some fn→fn.body=some c→qP F G (T f) c=true)(hm:P.follows .mixedOrders=true){n:Nat}{f:FuncId}{args:List V}{r:V}(hh:aDU (aBq P F G T O n f [] args)=some r):PFn P f args r:=by
 obtain⟨os,hos,hall⟩:=aOK hh
 unfold aBq at hos
 split at hos
 ·cases hos
 rename_i fn hf
 split at hos
 ·cases hos
 rename_i c hb
 split at hos
 ·cases hos
 rename_i hn
 simp only[aZm,not_or,aZw,aZq]at hn
 simp only[aYV]at hos
 obtain⟨rs,hrs,hmap⟩:=hos
 have hab:AB P 0 c (fun x s' h''=>(∀id,x≠ .exit id)∧(v6 P fn s' h'').bind (xH h'')=some r) (aD fn.ntmps (wJ 0 args)) []:=aAc hO hm n c _ [] rs _ (hT f fn c hf hb) hrs fun q hq=>by
  have hmem:(match q.1 with | .exit _=>none|_=>(v6 P fn q.2.1 q.2.2).map fun v=>(v,q.2.2))∈os:=by
   rw[←hmap];exact aY5.2 ⟨q,hq,rfl⟩
  obtain⟨p,hp,hv⟩:=hall _ hmem
  obtain⟨x,s1,h1'⟩:=q
  cases x with
  |exit i=>cases hp
  |normal=>
   simp only[aYV]at hp
   obtain⟨v,hv',rfl⟩:=hp
   exact⟨fun id hh=>(by cases hh),by simp only at hv ⊢; rw[hv'];exact hv⟩
  |ret=>
   simp only[aYV]at hp
   obtain⟨v,hv',rfl⟩:=hp
   exact⟨fun id hh=>(by cases hh),by simp only at hv ⊢; rw[hv'];exact hv⟩
 exact aQ8 hf hb hn.1 (aY2 (by simpa using hn.2)) hab
theorem aIZ (hB:pG P F B)(hT: ∀(f:FuncId) fn c,P.funcs[f]? =some fn→fn.body=some c→qP F G (T f) c=true)(hm:P.follows .mixedOrders=true): ∀n,pG P F (aEx P F G L K T B n)
 |0=>fun f h xs r hh=>by cases hh
 |n+1=>fun f h xs r hh=>by
  have ih:=aIZ hB hT hm n
  simp only[aEx]at hh
  split at hh
  ·rename_i q hq
   injection hh with hh
   subst hh
   exact hB _ _ _ _ hq
  split at hh
  ·split at hh
   ·cases hh
   rename_i hF
   simp only[aYV]at hh
   obtain⟨p,hp,rfl⟩:=hh
   exact⟨by simpa using hF,aUx ih hT hm hp⟩
  split at hh
  ·rename_i hc
   simp only[aYV]at hh
   obtain⟨v,hv,rfl⟩:=hh
   have hp:=aG9 ih hT hm hv
   exact⟨aED hp hc,fun _ h2=>aED hp hc⟩
  split at hh
  ·cases hh
  rename_i hF
  split at hh
  ·split at hh
   ·cases hh
   rename_i ys hys
   split at hh
   ·rename_i v hv
    injection hh with hh
    subst hh
    exact⟨by simpa using hF,aPv _ (aEB (hB _ _ _ _ hv).1) hys⟩
   simp only[aYV]at hh
   obtain⟨v,hv,rfl⟩:=hh
   exact⟨by simpa using hF,aPv _ (aG9 ih hT hm hv) hys⟩
  simp only[aYV]at hh
  obtain⟨p,hp,rfl⟩:=hh
  exact⟨by simpa using hF,aSB ih hT hm hp⟩
end
end Go.Vm
set_option linter.unusedSectionVars false
namespace Go.Vm
open Go
open Go.ChangeMaps (setBlock)
def itV (r:Nat):V:= .sc (.pointer (some ⟨r,0,none⟩))
def Clo (x:V):Prop:= ∀(X:Nat→Prop)(M:List (Option Nat))(w:World)(v:Value),VR X M w x v→VR X [] w x v
theorem Clo.sc (c:Value):Clo (.sc c):=fun X M w v h=>by unfold VR at h ⊢; exact h
theorem Clo.row (nl:Option Bool)(k:Nat)(es:List V):Clo (.row nl k es):=fun X M w v h=>by unfold VR at h ⊢; exact h
theorem aHk : ∀{cs:List V},(∀c∈cs,Clo c)→ ∀(X:Nat→Prop)(M:List (Option Nat))(w:World)(vs:List Value),VCells X M w cs vs→VCells X [] w cs vs
 | [],_,X,M,w,vs,h=>by unfold VCells at h ⊢; exact h
 |c::cs,hc,X,M,w,vs,h=>by
  unfold VCells at h⊢
  obtain⟨v,rest,e,h1,h2⟩:=h
  exact⟨v,rest,e,hc c (by simp) X M w v h1,aHk (fun d hd=>hc d (by simp[hd])) X M w rest h2⟩
theorem Clo.agg {cs:List V}(h: ∀c∈cs,Clo c):Clo (.agg cs):=fun X M w v hv=>by
 unfold VR at hv⊢
 obtain⟨vs,e,hc⟩:=hv
 exact⟨vs,e,aHk h X M w vs hc⟩
section
variable {P:Program}{N:Nat}
theorem aCB {w:World}{r:Nat}{o:Obj}(hr:r<w.heap.size):(setBlock w r o).heap[r]? =some o:=by
 show(w.heap.setIfInBounds r o)[r]? =_
 rw[aZb hr]
theorem aC3 {w:World}{r g:Nat}{o:Obj}(h:g≠r):(setBlock w r o).heap[g]? =w.heap[g]? :=by
 show(w.heap.setIfInBounds r o)[g]? =_
 rw[aZj (fun e=>h e.symm)]
def aGu (o:Obj):Bool:=match o with | .mapIter .. =>true|_=>false
theorem aFT {w:World}{r:Nat}{o:Obj}(h:w.heap[r]? =some o)(hi:aGu o=true):w.shape? r=none:=by
 cases o<;>simp[aGu]at hi
 unfold World.shape?
 rw[h]
theorem aHV {w:World}{r:Nat}{o o':Obj}(h:w.heap[r]? =some o)(hi:aGu o=true)(hi':aGu o'=true):Ext (fun x=>x=r) w (setBlock w r o'):=by
 have hlt:r<w.heap.size:=(aY6.1 h).1
 refine⟨rfl,rfl,rfl,by simp[setBlock],fun g _ hn=>aC3 hn,fun g sh hs=> ?_,fun g hg hs=> ?_⟩
 ·by_cases hgr:g=r
  ·subst hgr;rw[aFT h hi]at hs;cases hs
  unfold World.shape? at hs⊢
  rw[aC3 hgr];exact hs
 by_cases hgr:g=r
 ·subst hgr;exact aFT (aCB hlt) hi'
 unfold World.shape? at hs⊢
 rw[aC3 hgr];exact hs
theorem Rel.world {A:Nat→Prop}{M:List (Option Nat)}{s:List V}{h:Hp}{a:Act}{w w':World}{S:Nat→Prop}(R:Rel A M s h a w)(E:Ext S w w')(hS: ∀g,S g→A g):Rel A M s h a w':=by
 have k: ∀g,g<w.heap.size→S g→Xs A M h g:=fun g _ hs=> .inl (hS g hs)
 refine⟨⟨R.hr.len,fun g hg=>aY0 (R.hr.alt g hg) E.size,fun b B hb=> ?_,R.hr.inj,R.hr.glob.ext E k (fun _ _ h=>h)⟩,⟨R.sr.len,fun t x hx=>VR.ext E (aY1 _) k (fun _ _ h=>h) _ _ (R.sr.val t x hx)⟩,R.defers⟩
 obtain⟨h1,h2|⟨g,cs,h2,h3,h4,h5,h6⟩⟩:=R.hr.blk b B hb
 ·exact⟨h1,.inl h2⟩
 exact⟨h1,.inr ⟨g,cs,h2,h3,h4.to (E.block g h4.lt (fun hs=>h3 (hS g hs))),h5,VCells.ext E (aY1 _) k (fun _ _ h=>h) _ _ h6⟩⟩
theorem Grow.setIt {A:Nat→Prop}{M0 M:List (Option Nat)}{h0 h:Hp}{w0 w:World}{r:Nat}{o o':Obj}(G:Grow A M0 h0 w0 M h w)(hA:A r)(h1:w0.heap[r]? =some o)(hi:aGu o=true)(h2:w.heap[r]? =some o)(hi':aGu o'=true):
  Grow A M0 h0 (setBlock w0 r o') M h (setBlock w r o'):=by
 have l0:r<w0.heap.size:=(aY6.1 h1).1
 have l1:r<w.heap.size:=(aY6.1 h2).1
 have e0:=aHV h1 hi hi'
 have e1:=aHV h2 hi hi'
 have hr:HR A M h (setBlock w r o'):=by
  have k: ∀g,g<w.heap.size→g=r→Xs A M h g:=fun g _ hs=> .inl (hs▸hA)
  refine⟨G.hr.len,fun g hg=>aY0 (G.hr.alt g hg) e1.size,fun b B hb=> ?_,G.hr.inj,G.hr.glob.ext e1 k (fun _ _ h=>h)⟩
  obtain⟨h1,h2|⟨g,cs,h2,h3,h4,h5,h6⟩⟩:=G.hr.blk b B hb
  ·exact⟨h1,.inl h2⟩
  exact⟨h1,.inr ⟨g,cs,h2,h3,h4.to (e1.block g h4.lt (fun hs=>h3 (hs▸hA))),h5,VCells.ext e1 (aY1 _) k (fun _ _ h=>h) _ _ h6⟩⟩
 refine⟨G.pre,hr,⟨G.ext.os,G.ext.tape,G.ext.output,by simpa[setBlock]using G.ext.size,fun g hg hn=> ?_,fun g sh hs=> ?_,fun g hg hs=> ?_⟩,fun g hg hl=>G.live g (by simpa[setBlock]using hg) hl⟩
 ·by_cases hgr:g=r
  ·subst hgr;rw[aCB l0,aCB l1]
  rw[aC3 hgr,aC3 hgr]
  exact G.ext.block g (by simpa[setBlock]using hg) hn
 ·by_cases hgr:g=r
  ·subst hgr;rw[aFT (aCB l0) hi']at hs;cases hs
  unfold World.shape? at hs⊢
  rw[aC3 hgr]at hs⊢
  exact G.ext.shape g sh hs
 by_cases hgr:g=r
 ·subst hgr;exact aFT (aCB l1) hi'
 unfold World.shape? at hs⊢
 rw[aC3 hgr]at hs⊢
 exact G.ext.nshape g (by simpa[setBlock]using hg) hs
theorem Rel.drewR {A:Nat→Prop}{M:List (Option Nat)}{s:List V}{h:Hp}{a:Act}{w:World}(R:Rel A M s h a w):Rel A M s h a w.drew:=R.world (Ext.drew (fun _=>False) w) (fun _ h=>h.elim)
theorem aCu {ops:Array Oper}{i:Nat}{o:Oper}{Q:Exit→Act→World→Prop}{K:Act→World→Prop}{a:Act}{w w':World}{v:Value}(hi:ops[i]? =some o)(hg:o.guard=none)(he:(execOp a.eval o).run P w= .ok (.value v) w')(hK:K (a.put o.dst v) w'):wpOp P ops Q i K a w:=by
 unfold wpOp
 rw[hi]
 simp only
 rw[if_pos (by simp[Region.wanted,hg])]
 left
 unfold Oper.wp
 rw[he]
 exact hK
def rA (Z:List ((V×V)×MapEntry))(seen:Array Nat):List ((V×V)×MapEntry):=Z.filter fun z=> !seen.contains z.2.born
theorem aTq {Z:List ((V×V)×MapEntry)}{es:Array MapEntry}(h:Z.map (·.2)=es.toList)(seen:Array Nat):(leftOf es seen).toList=(rA Z seen).map (·.2):=by
 unfold leftOf rA
 rw[Array.toList_filter,←h,List.filter_map]
 rfl
theorem aPQ {Z Z1 Z2:List ((V×V)×MapEntry)}{z:(V×V)×MapEntry}{seen:Array Nat}(hn:(Z.map (·.2.born)).Nodup)(h:rA Z seen=Z1++z::Z2):rA Z (seen.push z.2.born)=Z1++Z2:=by
 have e:rA Z (seen.push z.2.born)=(rA Z seen).filter fun y=> !(y.2.born == z.2.born):=by
  unfold rA
  rw[List.filter_filter]
  congr 1
  funext y
  have:(seen.push z.2.born).contains y.2.born=(seen.contains y.2.born || (y.2.born == z.2.born)):=by
   rw[Bool.eq_iff_iff];simp[Array.mem_push]
  rw[this,Bool.not_or,Bool.and_comm]
 have hs:((rA Z seen).map (·.2.born)).Nodup:=List.Pairwise.sublist ((List.filter_sublist).map _) hn
 rw[e,h]
 rw[h,aZz,List.map_cons]at hs
 obtain⟨h1,h2,h3⟩:=List.pairwise_append.1 hs
 obtain⟨h4,h5⟩:=List.pairwise_cons.1 h2
 rw[List.filter_append,List.filter_cons_of_neg (by simp)]
 congr 1
 ·rw[aZn]
  intro y hy
  have:=h3 y.2.born (aY5.2 ⟨y,hy,rfl⟩) z.2.born (by simp)
  simpa using this
 rw[aZn]
 intro y hy
 have:=h4 y.2.born (aY5.2 ⟨y,hy,rfl⟩)
 simpa using fun h=>this h.symm
theorem ERel.zipped {X:Nat→Prop}{M:List (Option Nat)}{w:World}: ∀{ps:List (V×V)}{es:List MapEntry},ERel X M w ps es→(ps.zip es).map (·.1)=ps∧(ps.zip es).map (·.2)=es∧ ∀z∈ps.zip es,VR X M w z.1.1 z.2.key∧VR X M w z.1.2 z.2.val
 | [],[],_=>⟨rfl,rfl,by simp⟩
 |p::ps,e::es,h=>by
  obtain⟨h1,h2,h3⟩:=h
  obtain⟨i1,i2,i3⟩:=ERel.zipped h3
  refine⟨by simp[i1],by simp[i2],fun z hz=> ?_⟩
  rw[List.zip_cons_cons]at hz
  rcases aZc.1 hz with rfl|hz
  ·exact⟨h1,h2⟩
  exact i3 z hz
 | [],_::_,h=>h.elim
 |_::_,[],h=>h.elim
theorem Clo.any :Clo .any:=fun _ _ _ _ _=>by unfold VR;trivial
theorem aOi {n:Nat}{cs:List V}(h: ∀c∈cs,Clo c):Clo (aG8 n cs):=by
 unfold aG8
 split
 ·cases cs with
  |nil=>exact Clo.any
  |cons c cs=>exact h c (by simp)
 exact Clo.agg h
theorem aNW {k l:Nat}: ∀(n:Nat)(cs:List V),(∀c∈cs,Clo c)→ ∀p∈aDp k l n cs,Clo p.1∧Clo p.2
 |0,_,_,p,hp=>by simp[aDp]at hp
 |n+1,cs,h,p,hp=>by
  simp only[aDp,aZc]at hp
  rcases hp with rfl|hp
  ·exact⟨aOi fun c hc=>h c (aZB hc),aOi fun c hc=>h c (aZC (aZB hc))⟩
  exact aNW n _ (fun c hc=>h c (aZC hc)) p hp
theorem set_set {w:World}{r:Nat}{o o':Obj}:setBlock (setBlock w r o) r o'=setBlock w r o':=by
 simp[setBlock]
def PreW (P:Program)(N:Nat)(ops:Array Oper)(m:Nat)(l:List Oper)(s:List V)(h:Hp)(K:List V→Hp→Prop):Prop:=
 ∀(k:Nat),k+l.length=m→(∀j,j<l.length→l[j]? =ops[k+j]?)→ ∀(A:Nat→Prop)(M0 M:List (Option Nat))(h0:Hp)(w0:World)(a:Act)(w:World)(Q:Exit→Act→World→Prop),h0.length=N→M0.length=N→Grow A M0 h0 w0 M h w→Rel A M s h a w→
  (∀s' h' M' a' w',K s' h'→Grow A M0 h0 w0 M' h' w'→Rel A M' s' h' a' w'→wpOps P ops Q [m] a' w')→wpOps P ops Q (aZu k (l.length+1)) a w
theorem PreW.nil {ops:Array Oper}{m:Nat}{s:List V}{h:Hp}{K:List V→Hp→Prop}(hk:K s h):PreW P N ops m [] s h K:=fun k hm _ A M0 M h0 w0 a w Q _ _ G R hQ=>by
 obtain rfl:k=m:=by simpa using hm
 exact hQ s h M a w hk G R
theorem PreW.cons {ops:Array Oper}{m:Nat}{o:Oper}{l:List Oper}{s:List V}{h h':Hp}{v:V}{O:sQ}{K:List V→Hp→Prop}(hO:uZ P O)(hs:cJ P O ops o s h=some (v,h'))(hk:PreW P N ops m l (fQ s o.dst v) h' K):PreW P N ops m (o::l) s h K:=fun k hm hl A M0 M h0 w0 a w Q hN hM G R hQ=>by
 have h0':ops[k]? =some o:=by simpa using (hl 0 (by simp)).symm
 simp only[aZx]at hm⊢
 rw[aZv,wpOps_cons]
 refine u2 hO R h0' (s':=fQ s o.dst v) (h':=h') (by rw[cI,hs];rfl) fun a' w' M' G' R'=> ?_
 exact hk (k+1) (by omega) (fun j hj=>by have:=hl (j+1) (by simpa using hj);simpa[Nat.add_assoc,aZH 1 j]using this) A M0 M' h0 w0 a' w' Q hN hM (G.trans G') R' hQ
theorem AB.mrange {i2 i3 i4 b0 b1:Nat}{pre rest:List Oper}{REST:Code}{oR oN oX oE:Oper}{t9 t10 t11 t12 t13:Tmp}{mt:TypeId}
  (hoR:oR.op= .range mt (.tmp t9)∧oR.dst=some t10∧oR.guard=none) (hoN:oN.op= .next (.tmp t10) false∧oN.dst=some t11∧oN.guard=none)
  (hoX:oX.op= .extract (.tmp t11) 0∧oX.dst=some t12∧oX.guard=none) (hoE:oE.op= .entry (.tmp t10)∧oE.dst=some t13∧oE.guard=none) (ht:t11≠t10∧t12≠t10)
  {s:List V} {h:Hp} {K2:List V→Hp→Prop} (hpre:PreW P N (pre++[oR]).toArray pre.length pre s h K2) {Q:Ex→List V→Hp→Prop}
  (hK: ∀s2 h2,K2 s2 h2→ ∃(a:MAt)(x:V)(I:Nat→List (V×V)→List V→Hp→Prop),s2[t9]? =some x∧zI P mt h2 x=some a∧a.b<N∧(∀b B,N≤b→h2[b]? ≠some (some B))∧(∀c∈a.B.cells,Clo c)∧
   (∀r,I r a.es (s2.set t10 (itV r)) (h2.set a.b none))∧
   (∀r rs s h,I r rs s h→s[t10]? =some (itV r)∧h[a.b]? =some none∧t11<s.length∧t12<s.length)∧
   (∀r rs1 y rs2 s h,I r (rs1++y::rs2) s h→OpsW P N (oE::rest).toArray rest (((s.set t11 .any).set t12 (.sc (.bool true))).set t13 (.tup [y.1,y.2])) h fun s' h'=>AB P N REST (fun e s'' h''=>(e= .normal∨e= .exit b1)∧I r (rs1++rs2) s'' h'') s' h')∧
   ∀r s h,I r [] s h→Q .normal ((s.set t11 .any).set t12 (.sc (.bool false))) (h.set a.b (some a.B))):
  AB P N (.seq (.region i2 (pre++[oR]).toArray false) (.block b0 (.loop (.seq (.region i3 #[oN,oX] false) (.seq (.cond (.tmp t12) .skip (.exit b0)) (.block b1 (.seq (.region i4 (oE::rest).toArray false) REST))))))) Q s h:=by
 intro A M0 M h0 w0 a w hN hM G R
 refine wp_seq (wp_region ?_)
 have hsz:aY9 (pre++[oR]).toArray.size=aZu 0 (pre.length+1):=by
  simp only[aZF,List.length_append,aZx,List.length_nil,aZG]
  rw[aZk]
 rw[hsz]
 refine hpre 0 (by omega) (fun j hj=>by simp[aZd hj]) A M0 M h0 w0 a w _ hN hM G R fun s2 h2 M2 a2 w2 hk G2 R2=> ?_
 obtain⟨ma,x,I,hx,hma,hbN,hnl,hclo,hI0,hIs,hbody,hend⟩:=hK s2 h2 hk
 have hv:=R2.sr.val t9 x hx
 obtain⟨hmt,hBe,hb2,hone,g,es,clock,cs,hMg,hAg,hvm,hwg,hok,hlen,hshp,hcs,hER⟩:=aFF R2.hr hma hv
 obtain⟨hu,hdk,hde,_,_⟩:=aDK hmt
 have hg2:g<w2.heap.size:=(aY6.1 hwg).1
 have hr0:(execOp a2.eval oR).run P w2= .ok (.value (.pointer (some ⟨w2.heap.size,0,none⟩))) (w2.alloc (.mapIter (some g) clock #[] clock)):=by
  have e1:(Instr.range mt (a2.eval (.tmp t9))).run P w2= .ok (.pointer (some ⟨w2.heap.size,0,none⟩)) (w2.alloc (.mapIter (some g) clock #[] clock)):=by
   rw[show a2.eval (.tmp t9)= .map (some g)from hvm]
   exact run_range_map w2 mt ma.m.kt ma.m.et g es clock hu hwg
  simp[execOp,hoR.1,e1]
 rw[wpOps_cons]
 refine aCu (by simp) hoR.2.2 hr0 ?_
 rw[hoR.2.1]
 generalize hQf:(fun(e:Exit)(a':Act)(w':World)=> ∃x s' h' M',e=Ex.toExit x∧Q x s' h'∧Grow A M0 h0 w0 M' h' w'∧Rel A M' s' h' a' w')=Qf
 show(Code.block b0 (.loop _)).wp P Qf (a2.put (some t10) (.pointer (some ⟨w2.heap.size,0,none⟩))) (w2.alloc (.mapIter (some g) clock #[] clock))
 have hrlt: ∀{y:Nat},y<w2.heap.size→y≠w2.heap.size:=fun h e=>by omega
 obtain⟨r,hr⟩: ∃r,r=w2.heap.size:=⟨_,rfl⟩
 obtain⟨wB,hwB⟩: ∃wB,wB=w2.alloc (.mapIter (some g) clock #[] clock):=⟨_,rfl⟩
 rw[←hr,←hwB]
 have hrB:wB.heap[r]? =some (.mapIter (some g) clock #[] clock):=by rw[hwB,hr];exact heap_alloc_new _ _
 have hold: ∀y,y<w2.heap.size→wB.heap[y]? =w2.heap[y]? :=fun y hy=>by rw[hwB];exact heap_alloc_old _ _ hy
 have hgB:wB.heap[g]? =some (.map es clock):=by rw[hold g hg2];exact hwg
 have hsB:wB.heap.size=w2.heap.size+1:=by rw[hwB];simp
 have EB: ∀S,Ext S w2 wB:=fun S=>by rw[hwB];exact Ext.alloc S _ _
 have live3: ∀{b:Nat}{B:Blk},(h2.set ma.b none)[b]? =some (some B)→b≠ma.b∧h2[b]? =some (some B):=by
  intro b B hb
  by_cases e:b=ma.b
  ·subst e
   rw[aZi (aYY.1 hb2).1]at hb
   cases hb
  rw[aZD (fun h=>e h.symm)]at hb
  exact⟨e,hb⟩
 obtain⟨A',hA'⟩: ∃A':Nat→Prop,A'=fun y=>A y∨y=r∨y=g:=⟨_,rfl⟩
 obtain⟨h3,hh3⟩: ∃h3,h3=h2.set ma.b none:=⟨_,rfl⟩
 rw[←hh3]at live3
 have hNM:N≤M2.length:=by rw[←hM];exact G2.pre.length_le
 have hX: ∀y,y<w2.heap.size→Xs A' M2 h3 y→Xs A M2 h2 y:=by
  rintro y hy (hA|⟨b,B,hb,hm⟩)
  ·rw[hA']at hA
   rcases hA with hA|rfl|rfl
   ·exact .inl hA
   ·omega
   exact .inr ⟨ma.b,ma.B,hb2,hMg⟩
  exact .inr ⟨b,B,(live3 hb).2,hm⟩
 have hHR:HR A' M2 h3 wB:=by
  refine⟨by rw[hh3,aZh];exact R2.hr.len,fun y hy=> ?_,fun b B hb=> ?_,fun b b' B B' gg hb hb'=>R2.hr.inj b b' B B' gg (live3 hb).2 (live3 hb').2,R2.hr.glob.ext (EB (fun _=>False)) (fun _ _ h=>h.elim) hX⟩
  ·rw[hA']at hy
   rcases hy with hy|rfl|rfl
   ·have:=R2.hr.alt y hy;omega
   ·omega
   omega
  obtain⟨hne,hb'⟩:=live3 hb
  obtain⟨k0,k1|⟨gg,cs',k1,k2,k3,k4,k5⟩⟩:=R2.hr.blk b B hb'
  ·exact⟨k0,.inl k1⟩
  refine⟨k0,.inr ⟨gg,cs',k1, ?_,k3.to (hold gg k3.lt),k4,VCells.ext (EB (fun _=>False)) (aY1 _) (fun _ _ h=>h.elim) hX _ _ k5⟩⟩
  rw[hA']
  rintro(hq|hq|hq)
  ·exact k2 hq
  ·have:=k3.lt;omega
  subst hq;exact hne (R2.hr.inj b ma.b B ma.B gg hb' hb2 k1 hMg)
 have hRel:Rel A' M2 (s2.set t10 (itV r)) h3 (a2.put (some t10) (.pointer (some ⟨r,0,none⟩))) wB:=by
  refine⟨hHR,SR.put (d:=some t10) ⟨R2.sr.len,fun t x hx=>VR.ext (EB (fun _=>False)) (aY1 _) (fun _ _ h=>h.elim) hX _ _ (R2.sr.val t x hx)⟩ (by unfold itV VR;rfl),by rw[pB];exact R2.defers⟩
 have hMt: ∀b,b<N→(M2.take N)[b]? =M2[b]? :=fun b hb=>by rw[aZs hb]
 have hht: ∀b,b<N→(h3.take N)[b]? =h3[b]? :=fun b hb=>by rw[aZs hb]
 have hlow: ∀{b:Nat}{B:Blk},h3[b]? =some (some B)→b<N:=fun{b B} hb=>by
  rcases Nat.lt_or_ge b N with h|h
  ·exact h
  exact absurd (live3 hb).2 (hnl b B h)
 have hLv: ∀y,cX (M2.take N) (h3.take N) y→cX M2 h3 y:=by
  rintro y ⟨b,B,hb,hm⟩
  have hbN':b<N:=by
   have:=(aYY.1 hb).1
   rw[aY8]at this;omega
  rw[hht b hbN']at hb
  rw[hMt b hbN']at hm
  exact⟨b,B,hb,hm⟩
 have hLv2: ∀y,cX M2 h3 y→cX M2 h2 y:=by
  rintro y ⟨b,B,hb,hm⟩
  exact⟨b,B,(live3 hb).2,hm⟩
 have hLA: ∀y,cX (M2.take N) (h3.take N) y→ ¬A' y:=by
  intro y hy hA
  obtain⟨b,B,hb,hm⟩:=hLv y hy
  obtain⟨_,⟨k1,_⟩|⟨gg,cs',k1,k2,_⟩⟩:=hHR.blk b B hb
  ·rw[hm]at k1;cases k1
  rw[hm]at k1;injection k1 with k1;injection k1 with k1;subst k1;exact k2 hA
 have hGrow:Grow A' (M2.take N) (h3.take N) wB M2 h3 wB:=by
  refine⟨List.take_prefix _ _,hHR,Ext.refl _ _,fun y _ hl=> ?_⟩
  obtain⟨b,B,hb,hm⟩:=hl
  have:=hlow hb
  exact⟨b,B,by rw[hht b this];exact hb,by rw[hMt b this];exact hm⟩
 have hAr:A' r:=by rw[hA'];exact .inr (.inl rfl)
 have hAgg:A' g:=by rw[hA'];exact .inr (.inr rfl)
 have hgr:g≠r:=by omega
 have lN:(h3.take N).length=N:=by
  have:=R2.hr.len
  rw[aY8,hh3,aZh];omega
 have lM:(M2.take N).length=N:=by rw[aY8];omega
 have hE2: ∀{it:Obj}{M':List (Option Nat)}{h':Hp}{w':World},aGu it=true→Grow A' (M2.take N) (h3.take N) (setBlock wB r it) M' h' w'→Ext (cX M2 h2) w2 w':=by
  intro it M' h' w' hit G'
  have E1:=aHV hrB rfl hit
  refine⟨G'.ext.os.trans (E1.os.trans (EB (fun _=>False)).os),G'.ext.tape.trans (E1.tape.trans (EB (fun _=>False)).tape),G'.ext.output.trans (E1.output.trans (EB (fun _=>False)).output),aZr (EB (fun _=>False)).size (aZr E1.size G'.ext.size),fun y hy hn=> ?_,fun y sh hs=>G'.ext.shape y sh (E1.shape y sh ((EB (fun _=>False)).shape y sh hs)),fun y hy hs=>G'.ext.nshape y (aY0 hy (aZr (EB (fun _=>False)).size E1.size)) (E1.nshape y (aY0 hy (EB (fun _=>False)).size) ((EB (fun _=>False)).nshape y hy hs))⟩
  rw[G'.ext.block y (aY0 hy (aZr (EB (fun _=>False)).size E1.size)) (fun hl=>hn (hLv2 y (hLv y hl))),E1.block y (aY0 hy (EB (fun _=>False)).size) (by omega)]
  exact hold y hy
 have hX2: ∀{it:Obj}{M':List (Option Nat)}{h':Hp}{w':World},aGu it=true→Grow A' (M2.take N) (h3.take N) (setBlock wB r it) M' h' w'→ ∀y,y<w2.heap.size→Xs A' M' h' y→Xs A M2 h2 y:=by
  intro it M' h' w' hit G' y hy hx
  rcases hx with hA|hl
  ·exact hX y hy (.inl hA)
  have:=G'.live y (by show y<(wB.heap.setIfInBounds r it).size;simp;omega) hl
  exact .inr (hLv2 y (hLv y this))
 have hmap: ∀{it:Obj}{M':List (Option Nat)}{h':Hp}{w':World},Grow A' (M2.take N) (h3.take N) (setBlock wB r it) M' h' w'→w'.heap[g]? =some (.map es clock)∧w'.heap[r]? =some it:=by
  intro it M' h' w' G'
  refine⟨?_, ?_⟩
  ·rw[G'.ext.block g (by show g<(wB.heap.setIfInBounds r it).size;simp;omega) (fun hl=>hLA g hl hAgg),aC3 hgr,hgB]
  rw[G'.ext.block r (by show r<(wB.heap.setIfInBounds r it).size;simp;omega) (fun hl=>hLA r hl hAr),aCB (by omega)]
 obtain⟨z1,z2,z3⟩:=hER.zipped
 obtain⟨Z,hZ⟩: ∃Z,Z=ma.es.zip es.toList:=⟨_,rfl⟩
 rw[←hZ]at z1 z2 z3
 have hnd:(Z.map (·.2.born)).Nodup:=by
  have:=hok.nd
  rw[←z2,List.map_map]at this
  exact this
 have hcl:=aNW (k:=sR ma.m.dk) (l:=sR ma.m.de) (ma.B.cells.length/(eN (sR ma.m.dk)+eN (sR ma.m.de))) ma.B.cells hclo
 rw[←aNk hma]at hcl
 have fin: ∀{it:Obj}{M':List (Option Nat)}{h':Hp}{s':List V}{a':Act}{w':World}{v11:Value},aGu it=true→Grow A' (M2.take N) (h3.take N) (setBlock wB r it) M' h' w'→Rel A' M' s' h' a' w'→I r [] s' h'→Qf .normal ((a'.put (some t11) v11).put (some t12) (.bool false)) w':=by
  intro it M' h' s' a' w' v11 hit G' R' hI
  obtain⟨_,i2,_,_⟩:=hIs _ _ _ _ hI
  have E2:=hE2 hit G'
  have hx2:=hX2 hit G'
  obtain⟨hm1,_⟩:=hmap G'
  have hMb:M'[ma.b]? =some (some g):=by
   obtain⟨tl,htl⟩:=G'.pre
   rw[←htl,aZd (by rw[lM];exact hbN),hMt _ hbN]
   exact hMg
  have hbl:ma.b<h'.length:=(aYY.1 i2).1
  have liveF: ∀{b:Nat}{B:Blk},(h'.set ma.b (some ma.B))[b]? =some (some B)→(b=ma.b∧B=ma.B)∨(b≠ma.b∧h'[b]? =some (some B)):=by
   intro b B hb
   by_cases e:b=ma.b
   ·subst e
    rw[aZi hbl]at hb
    injection hb with hb;injection hb with hb
    exact .inl ⟨rfl,hb.symm⟩
   rw[aZD (fun h=>e h.symm)]at hb
   exact .inr ⟨e,hb⟩
  have hXF: ∀y,Xs A M' (h'.set ma.b (some ma.B)) y→Xs A' M' h' y:=by
   rintro y (hy|⟨b,B,hb,hm⟩)
   ·left;rw[hA'];exact .inl hy
   rcases liveF hb with⟨rfl,rfl⟩|⟨_,hb'⟩
   ·rw[hMb]at hm;injection hm with hm;injection hm with hm;subst hm
    exact .inl hAgg
   exact .inr ⟨b,B,hb',hm⟩
  have hXF2: ∀y,y<w2.heap.size→Xs A M' (h'.set ma.b (some ma.B)) y→Xs A M2 h2 y:=fun y hy hx=>hx2 y hy (hXF y hx)
  have ne_g: ∀{b:Nat}{B:Blk},h'[b]? =some (some B)→M'[b]? =some (some g)→False:=by
   intro b B hb hm
   obtain⟨_,⟨k1,_⟩|⟨gg,cs',k1,k2,_⟩⟩:=R'.hr.blk b B hb
   ·rw[hm]at k1;cases k1
   rw[hm]at k1;injection k1 with k1;injection k1 with k1;subst k1;exact k2 hAgg
  have hHRF:HR A M' (h'.set ma.b (some ma.B)) w':=by
   refine⟨by rw[aZh];exact R'.hr.len,fun y hy=>R'.hr.alt y (by rw[hA'];exact .inl hy),fun b B hb=> ?_,fun b b' B B' gg hb hb' hm hm'=> ?_,R'.hr.glob.avoid fun y _ hx=>hXF y hx⟩
   ·rcases liveF hb with⟨rfl,rfl⟩|⟨_,hb'⟩
    ·refine⟨hone,.inr ⟨g,cs,hMb,hAg,.inr ⟨es,clock,hm1,hok,hlen⟩,by omega, ?_⟩⟩
     rw[hlen,List.take_of_length_le (by simp),hok.cells]
     exact VCells.lift (VCells.ext E2 (aY1 _) (fun _ _ h=> .inr h) hXF2 _ _ (aHk hclo _ _ _ _ hcs))
    obtain⟨k0,k1|⟨gg,cs',k1,k2,k3,k4,k5⟩⟩:=R'.hr.blk b B hb'
    ·exact⟨k0,.inl k1⟩
    exact⟨k0,.inr ⟨gg,cs',k1,fun hq=>k2 (by rw[hA'];exact .inl hq),k3,k4,VCells.avoid (fun y _ hx=>hXF y hx) k5⟩⟩
   rcases liveF hb with⟨rfl,rfl⟩|⟨_,hb1⟩<;>rcases liveF hb' with⟨rfl,rfl⟩|⟨_,hb2'⟩
   ·rfl
   ·rw[hMb]at hm;injection hm with hm;injection hm with hm;subst hm
    exact(ne_g hb2' hm').elim
   ·rw[hMb]at hm';injection hm' with hm';injection hm' with hm';subst hm'
    exact(ne_g hb1 hm).elim
   exact R'.hr.inj b b' B B' gg hb1 hb2' hm hm'
  have hRF:Rel A M' ((s'.set t11 .any).set t12 (.sc (.bool false))) (h'.set ma.b (some ma.B)) ((a'.put (some t11) v11).put (some t12) (.bool false)) w':=by
   refine⟨hHRF,SR.put (d:=some t12) (SR.put (d:=some t11) ⟨R'.sr.len,fun t x hx=>VR.avoid (fun y _ hx=>hXF y hx) (R'.sr.val t x hx)⟩ (by unfold VR;trivial)) (by unfold VR;rfl),by rw[pB,pB];exact R'.defers⟩
  have hlv: ∀y,y<w2.heap.size→cX M' (h'.set ma.b (some ma.B)) y→cX M2 h2 y:=by
   rintro y hy ⟨b,B,hb,hm⟩
   rcases liveF hb with⟨rfl,rfl⟩|⟨_,hb'⟩
   ·rw[hMb]at hm;injection hm with hm;injection hm with hm;subst hm
    exact⟨ma.b,ma.B,hb2,hMg⟩
   have:=G'.live y (by show y<(wB.heap.setIfInBounds r it).size;simp;omega) ⟨b,B,hb',hm⟩
   exact hLv2 y (hLv y this)
  have hGF:Grow A M0 h0 w0 M' (h'.set ma.b (some ma.B)) w':=by
   refine⟨?_,hHRF, ?_,fun y hy hl=>G2.live y hy (hlv y (aY0 hy G2.ext.size) hl)⟩
   ·have:M0=M2.take N:=by
     obtain⟨tl,htl⟩:=G2.pre
     rw[←htl,←hM];simp
    rw[this];exact G'.pre
   refine⟨E2.os.trans G2.ext.os,E2.tape.trans G2.ext.tape,E2.output.trans G2.ext.output,aZr G2.ext.size E2.size,fun y hy hn=> ?_,fun y sh e=>E2.shape y sh (G2.ext.shape y sh e),fun y hy e=>E2.nshape y (aY0 hy G2.ext.size) (G2.ext.nshape y hy e)⟩
   exact(E2.block y (aY0 hy G2.ext.size) (fun hl=>hn (G2.live y hy hl))).trans (G2.ext.block y hy hn)
  rw[←hQf]
  exact⟨.normal,_,_,M',rfl,hend r s' h' hI,hGF,hRF⟩
 have round: ∀(seen:Array Nat)(c0:Nat)(a':Act)(w':World)(s':List V)(h':Hp)(M':List (Option Nat))(NX:Act→World→Prop),clock≤c0→I r ((rA Z seen).map (·.1)) s' h'→
   Grow A' (M2.take N) (h3.take N) (setBlock wB r (.mapIter (some g) clock seen c0)) M' h' w'→Rel A' M' s' h' a' w'→
   (∀(z:(V×V)×MapEntry)(Z1 Z2:List ((V×V)×MapEntry))(a'':Act)(w'':World)(s'':List V)(h'':Hp)(M'':List (Option Nat)),rA Z seen=Z1++z::Z2→I r ((Z1++Z2).map (·.1)) s'' h''→
    Grow A' (M2.take N) (h3.take N) (setBlock wB r (.mapIter (some g) clock (seen.push z.2.born) clock)) M'' h'' w''→Rel A' M'' s'' h'' a'' w''→NX a'' w'')→
   (Code.seq (.region i3 #[oN,oX] false) (.seq (.cond (.tmp t12) .skip (.exit b0)) (.block b1 (.seq (.region i4 (oE::rest).toArray false) REST)))).wp P (Exit.then NX (Exit.inBlock b0 Qf)) a' w':=by
  intro seen c0 a' w' s' h' M' NX hc0 hI G' R' hnext
  obtain⟨it10,i2,l11,l12⟩:=hIs _ _ _ _ hI
  obtain⟨hm1,hm2⟩:=hmap G'
  have l11':t11<a'.tmps.size:=by rw[←R'.sr.len];exact l11
  have l12':t12<a'.tmps.size:=by rw[←R'.sr.len];exact l12
  have e10:a'.eval (.tmp t10)= .pointer (some ⟨r,0,none⟩):=by
   have:=R'.sr.val t10 _ it10
   unfold itV VR at this
   exact this
  have get11: ∀v,(a'.put (some t11) v).eval (.tmp t11)=v:=fun v=>by simp[Act.eval,Act.put,aZo,l11']
  have get12: ∀v u,((a'.put (some t11) v).put (some t12) u).eval (.tmp t12)=u:=fun v u=>by simp[Act.eval,Act.put,aZo,l12']
  have get10: ∀v u,((a'.put (some t11) v).put (some t12) u).eval (.tmp t10)= .pointer (some ⟨r,0,none⟩):=fun v u=>by
   rw[Act.eval_put (fun d hd e=>by injection hd with hd;injection e with e;exact ht.2 (hd.trans e.symm)),Act.eval_put (fun d hd e=>by injection hd with hd;injection e with e;exact ht.1 (hd.trans e.symm))]
   exact e10
  refine wp_seq (wp_region ?_)
  rw[show aY9 (#[oN,oX]:Array Oper).size=[0,1]from rfl,wpOps_cons]
  have hz2:(leftOf es seen).toList=(rA Z seen).map (·.2):=aTq z2 seen
  rcases run_next_at (P:=P) w' oN.type r g clock c0 seen es clock hm2 hm1 hok.born hc0 with⟨hz,e1⟩|⟨e,he,w1,hw1,e1⟩
  ·have hemp:rA Z seen=[]:=by
    have:((rA Z seen).map (·.2)).length=0:=by rw[←hz2];simpa using hz
    exact List.eq_nil_of_length_eq_zero (by simpa using this)
   refine aCu (o:=oN) rfl hoN.2.2 (v:= .tuple #[.bool false]) (w':=w') (by simp[execOp,hoN.1,e10,e1]) ?_
   rw[hoN.2.1,wpOps_cons]
   refine aCu (o:=oX) rfl hoX.2.2 (v:= .bool false) (w':=w') (by simp[execOp,hoX.1,get11,Instr.extract]) ?_
   rw[hoX.2.1]
   refine wp_seq (wp_cond_false (get12 _ _) (wp_exit ?_))
   show Exit.inBlock b0 Qf (.exit b0) _ _
   simp only[Exit.inBlock,if_true]
   rw[hemp]at hI
   exact fin rfl G' R' hI
  rw[hz2]at he
  obtain⟨z,hzm,rfl⟩:=aY5.1 he
  obtain⟨Z1,Z2,hsp⟩:=List.append_of_mem hzm
  have hzZ:z∈Z:=(List.mem_filter.1 hzm).1
  have hzes:z.2∈es.toList:=by rw[←z2];exact aY5.2 ⟨z,hzZ,rfl⟩
  have G1:Grow A' (M2.take N) (h3.take N) (setBlock wB r (.mapIter (some g) clock seen c0)) M' h' w1:=by
   rcases hw1 with rfl|rfl
   ·exact G'
   exact G'.trans (Grow.drew G'.hr)
  have R1:Rel A' M' s' h' a' w1:=by
   rcases hw1 with rfl|rfl
   ·exact R'
   exact R'.drewR
  obtain⟨_,hm3⟩:=hmap G1
  have hbB:r<wB.heap.size:=by omega
  have G3:=G1.setIt (o:= .mapIter (some g) clock seen c0) (o':= .mapIter (some g) clock (seen.push z.2.born) clock) hAr (aCB hbB) rfl hm3 rfl
  rw[set_set]at G3
  have R3:Rel A' M' s' h' a' (setBlock w1 r (.mapIter (some g) clock (seen.push z.2.born) clock)):=R1.world (aHV hm3 rfl rfl) (fun y hy=>by rw[hy];exact hAr)
  obtain⟨hm4,hm5⟩:=hmap G3
  generalize setBlock w1 r (.mapIter (some g) clock (seen.push z.2.born) clock)=w3 at e1 G3 R3 hm4 hm5
  refine aCu (o:=oN) rfl hoN.2.2 (v:= .tuple #[.bool true,z.2.key,z.2.val]) (w':=w3) (by simp[execOp,hoN.1,e10,e1]) ?_
  rw[hoN.2.1,wpOps_cons]
  refine aCu (o:=oX) rfl hoX.2.2 (v:= .bool true) (w':=w3) (by simp[execOp,hoX.1,get11,Instr.extract]) ?_
  rw[hoX.2.1]
  refine wp_seq (wp_cond_true (get12 _ _) (wp_skip ?_))
  refine wp_block (wp_seq (wp_region ?_))
  have hsz2:aY9 (oE::rest).toArray.size=0::aZu 1 rest.length:=by
   rw[aZF,aZx,aZk,aZv]
  rw[hsz2,wpOps_cons]
  have he3:(Instr.entry (.pointer (some ⟨r,0,none⟩))).run P w3= .ok (.tuple #[z.2.key,z.2.val]) w3:=run_entry_at w3 r g clock seen es clock z.2 hm5 hm4 hzes hok.nd
  refine aCu (o:=oE) rfl hoE.2.2 (v:= .tuple #[z.2.key,z.2.val]) (w':=w3) (by simp[execOp,hoE.1,get10,he3]) ?_
  rw[hoE.2.1]
  have E3:=hE2 rfl G3
  have hx3:=hX2 rfl G3
  obtain⟨v1,v2⟩:=z3 z hzZ
  have hzm:z.1∈ma.es:=by rw[←z1];exact aY5.2 ⟨z,hzZ,rfl⟩
  obtain⟨c1,c2⟩:=hcl _ hzm
  have k1:VR (Xs A' M' h') M' w3 z.1.1 z.2.key:=VR.lift (VR.ext E3 (aY1 _) (fun _ _ h=> .inr h) hx3 _ _ (c1 _ _ _ _ v1))
  have k2:VR (Xs A' M' h') M' w3 z.1.2 z.2.val:=VR.lift (VR.ext E3 (aY1 _) (fun _ _ h=> .inr h) hx3 _ _ (c2 _ _ _ _ v2))
  have R4:Rel A' M' (((s'.set t11 .any).set t12 (.sc (.bool true))).set t13 (.tup [z.1.1,z.1.2])) h' (((a'.put (some t11) (.tuple #[.bool true,z.2.key,z.2.val])).put (some t12) (.bool true)).put (some t13) (.tuple #[z.2.key,z.2.val])) w3:=by
   refine⟨R3.hr,SR.put (d:=some t13) (SR.put (d:=some t12) (SR.put (d:=some t11) R3.sr (by unfold VR;trivial)) (by unfold VR;rfl)) ?_,by rw[pB,pB,pB];exact R3.defers⟩
   unfold VR
   exact⟨[z.2.key,z.2.val],rfl,by unfold VCells;exact⟨_,_,rfl,k1,by unfold VCells;exact⟨_,_,rfl,k2,by unfold VCells;rfl⟩⟩⟩
  rw[hsp,aZz,List.map_cons]at hI
  refine hbody r _ _ _ _ _ hI 1 (fun j=>by simp[aZH 1 j]) A' (M2.take N) M' (h3.take N) _ _ w3 _ lN lM G3 R4 fun s5 h5 M5 a5 w5 hab G5 R5=> ?_
  refine Code.wp_mono (fun ex a6 w6 ⟨x6,s6,h6,M6,hx6,⟨hx7,hI6⟩,G6,R6⟩=> ?_) (hab A' (M2.take N) M5 (h3.take N) _ a5 w5 lN lM G5 R5)
  rw[←aZz]at hI6
  have hN6:=hnext z Z1 Z2 a6 w6 s6 h6 M6 hsp hI6 G6 R6
  subst hx6
  rcases hx7 with rfl|rfl
  ·exact hN6
  show Exit.inBlock b1 _ (.exit b1) a6 w6
  simp only[Exit.inBlock,if_true]
  exact hN6
 have loop: ∀(n:Nat)(seen:Array Nat)(c0:Nat)(a':Act)(w':World)(s':List V)(h':Hp)(M':List (Option Nat)),(rA Z seen).length=n→clock≤c0→I r ((rA Z seen).map (·.1)) s' h'→
   Grow A' (M2.take N) (h3.take N) (setBlock wB r (.mapIter (some g) clock seen c0)) M' h' w'→Rel A' M' s' h' a' w'→
   Code.rounds P (.seq (.region i3 #[oN,oX] false) (.seq (.cond (.tmp t12) .skip (.exit b0)) (.block b1 (.seq (.region i4 (oE::rest).toArray false) REST)))) (Exit.inBlock b0 Qf) (n+1) a' w':=by
  intro n
  induction n with
  |zero=>
   intro seen c0 a' w' s' h' M' hn hc0 hI G' R'
   refine round seen c0 a' w' s' h' M' _ hc0 hI G' R' fun z Z1 Z2 a'' w'' s'' h'' M'' hsp _ _ _=> ?_
   rw[hsp]at hn
   simp at hn
  |succ n ih=>
   intro seen c0 a' w' s' h' M' hn hc0 hI G' R'
   refine round seen c0 a' w' s' h' M' _ hc0 hI G' R' fun z Z1 Z2 a'' w'' s'' h'' M'' hsp hI2 G'' R''=> ?_
   have hpu:=aPQ hnd hsp
   refine ih (seen.push z.2.born) clock a'' w'' s'' h'' M'' ?_ (aZI _) (by rw[hpu];exact hI2) G'' R''
   rw[hpu]
   rw[hsp]at hn
   simp at hn⊢
   omega
 refine wp_block (wp_loop_rounds ((rA Z #[]).length+1) (loop _ #[] clock _ wB (s2.set t10 (itV r)) h3 M2 rfl (aZI _) ?_ ?_ hRel))
 ·have:(rA Z #[]).map (·.1)=ma.es:=by
   rw[←z1]
   congr 1
   unfold rA
   rw[aZn]
   intro y _
   simp
  rw[this,hh3]
  exact hI0 r
 have:setBlock wB r (.mapIter (some g) clock #[] clock)=wB:=by
  unfold setBlock
  have:wB.heap.setIfInBounds r (.mapIter (some g) clock #[] clock)=wB.heap:=by
   apply Array.ext_getElem?
   intro j
   by_cases hj:r=j
   ·subst hj;rw[aZb (by omega),hrB]
   rw[aZj hj]
  rw[this]
 rw[this]
 exact hGrow
end
end Go.Vm
namespace Go.Proofs.YtgfdllellpbmoaaGreatDoor
open Go Go.Vm
set_option maxRecDepth 100000
def aKU :V:= .row (some true) 1 []
def hL :Hp:=[some ⟨32,aT wp⟩,some ⟨35,eI .i64 0::(wg.map (eI .u8)++[aKU])⟩,some ⟨78,bG wb⟩,some ⟨35,eI .i64 0::(wz.map (eI .u8)++[aKU])⟩,some ⟨80,[aKU]⟩,some ⟨33037,cC wc.Out++aQ wc⟩,some ⟨113,aT wp++[eI .i64 1,.mp 5,aKU,eI .i64 0]⟩,some ⟨117,aZ wt⟩,some ⟨57,[eI .i64 1000,.row none 1 [eI .u8 1,eI .u8 1,eI .u8 1,eI .u8 5]]⟩]
def rL :V:= .row none 37 [aR wc]
def nF :FuncId→Bool:=fun _=>false
def nG :FuncId→Bool:=fun _=>true
def nT :FuncId→List Nat:=fun _=>[]
def nB :uF:=fun _ _ _=>none
def NF :Nat:=100000
noncomputable def nO :uF:=aEx Tryz.prog nF nG nF nF nT nB NF
theorem aEg (F G:FuncId→Bool): ∀c:Code,qP F G [] c=true:=by
 intro c
 induction c<;>simp_all[qP]
theorem aXA :pG Tryz.prog nF nB:=fun _ _ _ _ h=>by cases h
theorem aJd :pG Tryz.prog nF nO:=aIZ aXA (fun _ _ c _ _=>aEg _ _ c) mixed _
set_option maxRecDepth 100000
def aHv :Code→Code
 | .seq a _=>a
 |c=>c
def aGQ :Code→Code
 | .seq _ b=>b
 |c=>c
def cIn :Code→Code
 | .block _ c=>c
 | .loop c=>c
 |c=>c
def aKp :Code→List Oper
 | .region _ o _=>o.toList
 |_=>[]
noncomputable def lC0 :Code:=(Tryz.f61.body).getD .skip
noncomputable def lC2 :Code:=aGQ (aGQ lC0)
noncomputable def zN :List Oper:=aKp (aHv (aHv lC2))
noncomputable def aQi :Code:=cIn (cIn (aGQ (aHv lC2)))
noncomputable def aTD :Code:=cIn (aGQ (aGQ aQi))
noncomputable def aDL :List Oper:=aKp (aHv aTD)
noncomputable def aQB :Code:=aGQ aTD
noncomputable def aP5 :Code:=aGQ lC2
noncomputable def lOp (l:List Oper) (i:Nat):Oper:=l.getD i ⟨none,.move (.tmp 0),0, "",#[],none⟩
noncomputable def lR0 :List Oper:=aKp (aHv lC0)
noncomputable def lR1 :List Oper:=aKp (aHv (aGQ lC0))
noncomputable def lON :Oper:=lOp (aKp (aHv aQi)) 0
noncomputable def lOX :Oper:=lOp (aKp (aHv aQi)) 1
noncomputable def lP0 :List V×Hp:=(goX Tryz.prog nG nO lR0.toArray lR0 (aD 23 (wJ 0 [.ptr 6 0])) hL).getD ([],[])
noncomputable def lP1 :List V×Hp:=(goX Tryz.prog nG nO lR1.toArray lR1 lP0.1 lP0.2).getD ([],[])
noncomputable def lP2 :List V×Hp:=(vI Tryz.prog O0 zN.toArray (zN.take 4) lP1.1 lP1.2).getD ([],[])
theorem aVf :(zI Tryz.prog 111 hL (.mp 5)).isSome=true:=by kernel_rfl
noncomputable def lM :MAt:=(zI Tryz.prog 111 hL (.mp 5)).get aVf
noncomputable def lE :V×V:=lM.es.headD (.any,.any)
noncomputable def lS (r:Nat):List V:=lP2.1.set 10 (itV r)
noncomputable def lS4 (r:Nat):List V:=(((lS r).set 11 .any).set 12 (.sc (.bool true))).set 13 (.tup [lE.1,lE.2])
noncomputable def lP4 (r:Nat):List V×Hp:=(goX Tryz.prog nG nO aDL.toArray (aDL.drop 1) (lS4 r) (hL.set 5 none)).getD ([],[])
noncomputable def lP5 (r:Nat):List V×Hp:=match oM Tryz.prog nF nG nO [] 9 NF aQB (lP4 r).1 (lP4 r).2 with
 |some [(.normal,s,h)]=>(s,h)
 |_=>([],[])
noncomputable def aMO (r:Nat):List V×Hp:=(((lP5 r).1.set 11 .any).set 12 (.sc (.bool false)),(lP5 r).2.set 5 (some lM.B))
noncomputable def aRC (e:Ex×List V×Hp):Bool:=match e.1 with
 | .exit _=>false
 |_=>match v6 Tryz.prog Tryz.f61 e.2.1 e.2.2 with
  |none=>false
  |some v=>aM4 9 e.2.2&&Nat.ble 9 e.2.2.length&&(match xH (aEh 9 e.2.2) v with
   |some r=>eqV r rL
   |none=>false)&&eqH (e.2.2.take 9) hL
noncomputable def aTX (r:Nat):Bool:=match oM Tryz.prog nF nG nO [] 9 NF aP5 (aMO r).1 (aMO r).2 with
 |none=>false
 |some es=>es.all aRC
theorem l0 :goX Tryz.prog nG nO lR0.toArray lR0 (aD 23 (wJ 0 [.ptr 6 0])) hL=some lP0:=by kernel_rfl
theorem l1 :goX Tryz.prog nG nO lR1.toArray lR1 lP0.1 lP0.2=some lP1:=by kernel_rfl
theorem l2 :vI Tryz.prog O0 zN.toArray (zN.take 4) lP1.1 lP1.2=some lP2:=by kernel_rfl
theorem l3 :lP2.1[9]? =some (.mp 5)∧lP2.2=hL:=⟨by kernel_rfl,by kernel_rfl⟩
theorem l4 :zI Tryz.prog 111 hL (.mp 5)=some lM:=by kernel_rfl
theorem l5 :lM.b=5∧lM.es=[lE]:=⟨by kernel_rfl,by kernel_rfl⟩
theorem l6 (r:Nat):goX Tryz.prog nG nO aDL.toArray (aDL.drop 1) (lS4 r) (hL.set 5 none)=some (lP4 r):=by kernel_rfl
theorem l7 (r:Nat):oM Tryz.prog nF nG nO [] 9 NF aQB (lP4 r).1 (lP4 r).2=some [(.normal,(lP5 r).1,(lP5 r).2)]:=by kernel_rfl
theorem l8 (r:Nat):(lP5 r).1[10]? =some (itV r)∧(lP5 r).2[5]? =some none∧(lP5 r).1.length=23:=⟨by kernel_rfl,by kernel_rfl,by kernel_rfl⟩
theorem l9 (r:Nat):aTX r=true:=by kernel_rfl
def aOv (P:Program)(O:sQ)(ops:Array Oper):List Oper→List V→Hp→Option (List V×Hp)
 | [],s,h=>some (s,h)
 |o::l,s,h=>(cJ P O ops o s h).bind fun p=>aOv P O ops l (fQ s o.dst p.1) p.2
theorem aPm {P:Program}{N m:Nat}{O:sQ}(hO:uZ P O){ops:Array Oper}: ∀(l:List Oper)(s:List V)(h:Hp)(p:List V×Hp),aOv P O ops l s h=some p→PreW P N ops m l s h fun s' h'=>s'=p.1∧h'=p.2
 | [],s,h,p,e=>by
  simp only[aOv,aYZ]at e
  subst e
  exact PreW.nil ⟨rfl,rfl⟩
 |o::l,s,h,p,e=>by
  simp only[aOv,aZt]at e
  obtain⟨q,hq,e⟩:=e
  exact PreW.cons hO hq (aPm hO l _ _ p e)
def aS4 :V→Bool
 | .sc _=>true
 | .row .. =>true
 |_=>false
theorem aVA {x:V}(h:aS4 x=true):Clo x:=by
 cases x<;>simp only[aS4,aYX]at h
 ·exact Clo.sc _
 exact Clo.row _ _ _
theorem aYE :(lM.B.cells.all aS4)=true:=by kernel_rfl
theorem aYj :aOv Tryz.prog O0 (zN.take 4++[lOp zN 4]).toArray (zN.take 4) lP1.1 lP1.2=some lP2:=by kernel_rfl
theorem aUD :Tryz.f61.body=some (.seq (.region 0 lR0.toArray false) (.seq (.region 1 lR1.toArray false) (.seq (.seq (.region 2 (zN.take 4++[lOp zN 4]).toArray false) (.block 0 (.loop (.seq (.region 3 #[lON,lOX] false) (.seq (.cond (.tmp 12) .skip (.exit 0)) (.block 1 (.seq (.region 4 (lOp aDL 0::aDL.drop 1).toArray false) aQB))))))) aP5))):=by kernel_rfl
theorem lOR :(lOp zN 4).op= .range 111 (.tmp 9)∧(lOp zN 4).dst=some 10∧(lOp zN 4).guard=none:=⟨by kernel_rfl,by kernel_rfl,by kernel_rfl⟩
theorem aX6 :lON.op= .next (.tmp 10) false∧lON.dst=some 11∧lON.guard=none:=⟨by kernel_rfl,by kernel_rfl,by kernel_rfl⟩
theorem aYc :lOX.op= .extract (.tmp 11) 0∧lOX.dst=some 12∧lOX.guard=none:=⟨by kernel_rfl,by kernel_rfl,by kernel_rfl⟩
theorem lOE :(lOp aDL 0).op= .entry (.tmp 10)∧(lOp aDL 0).dst=some 13∧(lOp aDL 0).guard=none:=⟨by kernel_rfl,by kernel_rfl,by kernel_rfl⟩
theorem aP0 :lP2.1.length=23∧hL.length=9:=⟨by kernel_rfl,by kernel_rfl⟩
theorem aXB :(hL.set 5 none)[5]? =some none:=by kernel_rfl
theorem aVN (r:Nat):((lP5 r).1.set 11 .any).set 12 (.sc (.bool false))=(aMO r).1:=by kernel_rfl
theorem aW5 (r:Nat):(lP5 r).2.set 5 (some lM.B)=(aMO r).2:=by kernel_rfl
theorem aU3 :Vm.Fn Tryz.prog 61 hL [.ptr 6 0] rL hL:=by
 refine aMP (fn:=Tryz.f61) (n:=23) (N:=9) Tryz.func61 aUD (by kernel_rfl) (by kernel_rfl) (show[V.ptr 6 0].length≤23 by decide) (by kernel_rfl) rfl ?_
 refine AB.seq (AB.rw (aDh (F:=nF) (G:=nG) aJd _ _ _ _ l0 ?_).toW)
 show AB Tryz.prog 9 _ _ lP0.1 lP0.2
 refine AB.seq (AB.rw (aDh (F:=nF) (G:=nG) aJd _ _ _ _ l1 ?_).toW)
 show AB Tryz.prog 9 _ _ lP1.1 lP1.2
 refine AB.seq ?_
 refine AB.mrange (t9:=9) (t10:=10) (t11:=11) (t12:=12) (t13:=13) (mt:=111) (oR:=lOp zN 4) lOR aX6 aYc lOE (by decide) (aPm (O:=O0) aFL _ _ _ _ aYj) ?_
 rintro s2 h2 ⟨rfl,rfl⟩
 obtain⟨e1,e2⟩:=l3
 refine⟨lM,.mp 5,fun r rs s h=>(rs=lM.es∧s=lS r∧h=hL.set 5 none)∨(rs=[]∧s=(lP5 r).1∧h=(lP5 r).2),e1,by rw[e2];exact l4,by rw[l5.1];decide,fun b B hb=> ?_,fun c hc=>aVA (aY4.1 aYE c hc),fun r=> .inl ⟨rfl,rfl,by rw[e2,l5.1]⟩, ?_, ?_, ?_⟩
 ·rw[e2,aZa (by rw[aP0.2];exact hb)]
  intro h;cases h
 ·intro r rs s h hI
  rcases hI with⟨_,rfl,rfl⟩|⟨_,rfl,rfl⟩
  ·refine⟨?_,by rw[l5.1];exact aXB, ?_, ?_⟩
   ·unfold lS
    rw[aZi (by rw[aP0.1];decide)]
   ·unfold lS;rw[aZh,aP0.1];decide
   unfold lS;rw[aZh,aP0.1];decide
  obtain⟨a1,a2,a3⟩:=l8 r
  exact⟨a1,by rw[l5.1];exact a2,by rw[a3];decide,by rw[a3];decide⟩
 ·intro r rs1 y rs2 s h hI
  rcases hI with⟨e,rfl,rfl⟩|⟨e,_,_⟩
  ·rw[l5.2]at e
   cases rs1 with
   |cons a l=>simp at e
   |nil=>
    simp only[List.nil_append,List.cons.injEq]at e
    obtain⟨rfl,rfl⟩:=e
    refine(aDh (F:=nF) (G:=nG) aJd _ _ _ _ (l6 r) ?_).toW
    refine aAc (F:=nF) (G:=nG) aJd mixed _ _ _ _ _ _ (aEg _ _ _) (l7 r) fun q hq=> ?_
    simp only[aZp]at hq
    subst hq
    dsimp only
    exact⟨.inl rfl,.inr ⟨rfl,rfl,rfl⟩⟩
  simp at e
 intro r s h hI
 have hI':s=(lP5 r).1∧h=(lP5 r).2:=hI.elim (fun k=>absurd k.1 (by rw[l5.2];simp)) fun k=>k.2
 obtain⟨hs,hh⟩:=hI'
 rw[hs,hh]
 refine(fun(k:AB Tryz.prog 9 aP5 _ _ _)=>k) ?_
 rw[l5.1,aVN,aW5]
 have h9:=l9 r
 unfold aTX at h9
 split at h9
 ·cases h9
 rename_i es he
 refine aAc (F:=nF) (G:=nG) aJd mixed _ _ _ _ _ _ (aEg _ _ _) he fun q hq=> ?_
 have h1:=aY4.1 h9 q hq
 obtain⟨x,s1,h1'⟩:=q
 unfold aRC at h1
 cases x with
 |exit i=>cases h1
 |normal=>
  simp only at h1
  split at h1
  ·cases h1
  rename_i v hv
  simp only[aYW]at h1
  obtain⟨⟨⟨a1,a2⟩,a3⟩,a4⟩:=h1
  split at a3
  ·rename_i q hq
   have:=aG2 _ _ a3
   subst this
   have:=aC8 _ _ a4
   have g:=Ghost.exp (aY2 a2) hq a1
   rw[this]at g
   exact aGO hv g
  cases a3
 |ret=>
  simp only at h1
  split at h1
  ·cases h1
  rename_i v hv
  simp only[aYW]at h1
  obtain⟨⟨⟨a1,a2⟩,a3⟩,a4⟩:=h1
  split at a3
  ·rename_i q hq
   have:=aG2 _ _ a3
   subst this
   have:=aC8 _ _ a4
   have g:=Ghost.exp (aY2 a2) hq a1
   rw[this]at g
   exact uM hv g
  cases a3
end Go.Proofs.YtgfdllellpbmoaaGreatDoor
