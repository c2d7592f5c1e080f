/- Texts of ours, joined: VmCut, VmQ, VmX, VmY, VmZ, Sh, OpenArr, OpenS. -/
import Derived.Test.YtbjiaghljpoliaaGreatDoorQSpendChecks2
import Derived.Scope
import Derived.OpenShut
open Go.IntKind renaming i64 → aXj,u32 → aXl,u64 → aXm,u8 → aXp,max → aXJ
open List renaming replicate → aXk,drop_eq_nil_of_le → aXs,map_cons → aXw,append_assoc → aXx,nil_append → aXy,getElem?_eq_some_iff → aXz,getElem?_eq_getElem → aXA,map_take → aXB,length_take → aXC,drop_append → aXE,take_of_length_le → aXF,length_map → aXG,getElem?_set_ne → aXH,drop_zero → aXI,length_append → aXK,take_append → aXN,all_eq_true → aXO,length_set → aXQ
open Int renaming toNat → aXn,tdiv → aXt,tmod → aXu
open Nat renaming le_of_ble_eq_true → aXo,ble → aXr,beq → aXL,zero_add → aXM,mul_one → aXP
open Option.some renaming injEq → aXq,inj → aXv
open Bool renaming and_eq_true → aXD
set_option linter.unusedSimpArgs false
set_option linter.unusedVariables false
namespace Go.Vm
open Go
def wH {α:Type}(l:List α)(a c:Int):Option (List α):=if 0≤a∧a<c∧c≤l.length then some ((l.take c.toNat).drop a.toNat)else none
theorem aDc {α:Type}{l x:List α}{a c:Int}(h:wH l a c=some x):0≤a∧a<c∧c≤l.length∧x=(l.take c.toNat).drop a.toNat∧x.length=c.toNat-a.toNat:=by
 unfold wH at h
 split at h
 ·rename_i hc
  injection h with h
  refine⟨hc.1,hc.2.1,hc.2.2,h.symm, ?_⟩
  rw[←h,List.length_drop,aXC];omega
 cases h
theorem aRv {α:Type}{l x:List α}{a c j:Int}{y:α}(h:wH l a c=some x)(hx:bU x j=some y):l[a.toNat+j.toNat]? =some y:=by
 obtain⟨_,_,_,e,_⟩:=aDc h
 obtain⟨_,_,h3⟩:=lH hx
 rw[e,List.getElem?_drop,List.getElem?_take]at h3
 split at h3
 ·exact h3
 cases h3
section
variable {P:Program}{h h':Hp}{t e:TypeId}{ti:TI}{α:Type}{E:α→V}{l x m:List α}{sz by_ b:Nat}{z:Value}{ag:Bool}{lo hi:Option V}{a c j:Int}{y:α}{k:IntKind}{N n i q K:Nat}
theorem aUQ (hq:l.length=q)(ht:aU P t=some ⟨.slice e,sz,by_,z⟩)(he:aU P e=some ti)(hK:ti.size=K)(h1:qB lo=some a)(h2:xO hi q=some c)(hs:wH l a c=some x):lN P t h (.sl b 0 q K ag) lo hi=some (.sl b (a.toNat*K) x.length K ag):=by
 subst hK hq
 obtain⟨s1,s2,s3,s4,s5⟩:=aDc hs
 simp only[lN,ht,he,h1,h2]
 rw[if_pos ⟨trivial,s1,by omega,s3⟩,s5]
 by_cases h0:a=0
 ·subst h0;simp
 rw[if_neg h0,if_pos s2,aXM]
theorem aJo (hq:l.length=q)(ht:aU P t=some ⟨.slice e,sz,by_,z⟩)(he:aU P e=some ti)(hK:ti.size=K)(h1:qB lo=some 0)(h2:xO hi q=some c)(hs:sub l 0 c=some x):lN P t h (.sl b 0 q K ag) lo hi=some (.sl b 0 x.length K ag):=by
 subst hK hq
 unfold sub at hs
 split at hs
 ·rename_i hc
  injection hs with hs
  have hl:x.length=c.toNat:=by rw[←hs];simp;omega
  simp only[lN,ht,he,h1,h2]
  rw[if_pos ⟨trivial,by omega,hc.2.1,hc.2.2⟩,if_pos trivial,hl]
 cases hs
theorem aMv (ht:aU P t=some ⟨.array N e,sz,by_,z⟩)(he:aU P e=some ti)(hsz:ti.size=1)(hag:cI ti.desc=ag)(hb:h[b]? =some (some ⟨i,l.map E⟩))(hl:l.length=N)(hN:N≤pJ)(h1:qB lo=some a)(h2:xO hi N=some c)(hs:wH l a c=some x):lN P t h (.ptr b 0) lo hi=some (.sl b (a.toNat*1) x.length 1 ag):=by
 subst hag
 obtain⟨s1,s2,s3,s4,s5⟩:=aDc hs
 simp only[lN,ht,he,h1,h2,hb]
 rw[if_pos ⟨by omega,hN,s1,s2,by omega,by simp[hsz,hl]⟩,hsz,s5,aXM]
theorem iaY (hq:x.length=q)(ht:aU P t=some ⟨.slice e,sz,by_,z⟩)(he:aU P e=some ti)(hK:ti.size=1)(hx:bU x j=some y):jW P t (.sl b (a.toNat*1) q 1 ag) (.sc (.int k j))=some (.ptr b (a.toNat+j.toNat)):=by
 obtain⟨h2,h3,_⟩:=lH hx
 subst hq
 simp[jW,ht,tE,he,hK,h2,h3]
theorem ldY (ht:aU P t=some ti)(hd:cI ti.desc=false)(hb:h[b]? =some (some ⟨i,l.map E⟩))(hs:wH l a c=some x)(hx:bU x j=some y):gB P t h (.ptr b (a.toNat+j.toNat))=some (E y):=by
 have h3:=aRv hs hx
 simp[gB,hb,jJ,ht,hd,h3]
theorem apS (ht:aU P t=some ⟨.array N e,sz,by_,z⟩)(hN:0<N)(hq:x.length=q)(hx:tV N x=some m):aDO P t (.sl b n q 1 ag)=some (.ptr b n):=by
 unfold tV at hx
 split at hx
 ·rename_i hl
  simp only[aDO,ht]
  rw[if_pos ⟨hN,by omega⟩]
 cases hx
theorem aPk (ht:aU P t=some ⟨.array N e,sz,by_,z⟩)(hsz:sz=N)(hb:h[b]? =some (some ⟨i,l.map E⟩))(hs:wH l a c=some x)(hx:tV N x=some m):gB P t h (.ptr b (a.toNat*1))=some (.agg (m.map E)):=by
 subst hsz
 obtain⟨s1,s2,s3,s4,s5⟩:=aDc hs
 unfold tV at hx
 split at hx
 ·rename_i hl
  injection hx with hx
  simp only[gB,hb,jJ,ht,cI,if_true,aXP]
  have hlen:sz≤((l.map E).drop a.toNat).length:=by simp;omega
  rw[if_pos hlen]
  congr 2
  rw[←hx,s4,aXB,List.map_drop,aXB,List.drop_take,List.take_take,Nat.min_eq_left (by omega)]
 cases hx
theorem aUB (hb:h[b]? =some (some ⟨i,l.map E⟩))(hE: ∀x,(E x).one=true)(hs:wH l a c=some x):i3 h 1 (.sl b (a.toNat*1) x.length 1 ag)=some (x.map E,x.length):=by
 obtain⟨s1,s2,s3,s4,s5⟩:=aDc hs
 simp only[i3,hb,aXP]
 rw[if_pos (by simp;omega)]
 simp only[aXq,Prod.mk.injEq,and_true]
 rw[s5,s4,List.map_drop,aXB,List.drop_take]
end
theorem Ghost.cut {N n:Nat}{fr:List (Nat×V)}{h:Hp}{b e t q K k:Nat}{ag:Bool}{cs:List V}(hl:b5 n fr (.tmp t)=some (.sl b 0 q K ag))(hb:h[b]? =some (some ⟨e,cs⟩)):Ghost N (aI n fr) h (aI n fr) (h.set b (some ⟨e,cs.take k⟩)):=by
 intro A M a w hN R
 have hbl:b<h.length:=(aXz.1 hb).1
 have hget: ∀{j:Nat}{B:Blk},(h.set b (some ⟨e,cs.take k⟩))[j]? =some (some B)→(j=b∧B=⟨e,cs.take k⟩)∨(h[j]? =some (some B)∧j≠b):=by
  intro j B hj
  by_cases hij:b=j
  ·subst hij
   rw[List.getElem?_set_self hbl]at hj
   exact .inl ⟨rfl,(aXv (aXv hj)).symm⟩
  rw[aXH hij]at hj
  exact .inr ⟨hj,fun hh=>hij hh.symm⟩
 have hlive: ∀g,eM M (h.set b (some ⟨e,cs.take k⟩)) g→eM M h g:=by
  rintro g ⟨j,B,hj,hm⟩
  rcases hget hj with⟨rfl,_⟩|⟨h1,_⟩
  ·exact⟨j,_,hb,hm⟩
  exact⟨j,B,h1,hm⟩
 have hX: ∀g,Xs A M (h.set b (some ⟨e,cs.take k⟩)) g→Xs A M h g:=fun g hx=>hx.elim .inl (fun hl=> .inr (hlive g hl))
 refine⟨M,rfl,⟨⟨by rw[R.hr.len,aXQ],R.hr.alt, ?_, ?_,R.hr.glob.avoid fun g _ hx=>hX g hx⟩,⟨R.sr.len,fun t x hx=>(R.sr.val t x hx).avoid (fun g _ hx=>hX g hx)⟩,R.defers⟩,hlive⟩
 ·intro j B hj
  rcases hget hj with⟨rfl,rfl⟩|⟨h1,hne⟩
  ·obtain⟨hone,hcase⟩:=R.hr.blk j _ hb
   refine⟨fun c hc=>hone c (List.mem_of_mem_take hc), ?_⟩
   rcases hcase with⟨hn,hc0⟩|⟨g,ds,hg,hA,hw,hle,hcs⟩
   ·simp only at hc0
    subst hc0
    exact .inl ⟨hn,by simp⟩
   refine .inr ⟨g,ds,hg,hA, ?_,by simp only[aXC]at hle ⊢; omega, ?_⟩
   ·rcases hw with hw|⟨es,clock,hm,hok,heq⟩
    ·exact .inl hw
    exfalso
    have hev:=dH hl
    simp only[ev]at hev
    have hv:=R.sr.val t (.sl j 0 q K ag) hev
    unfold VR at hv
    rcases hv with⟨hm0,_⟩|⟨g',cap,e',sz,hm',_,_,_,_,hshp,_⟩
    ·rw[hg]at hm0;cases hm0
    rw[hg]at hm'
    obtain rfl:=aXv (aXv hm')
    unfold World.shape? at hshp
    rw[hm]at hshp
    cases hshp
   have:=hcs.take k
   rw[List.take_take]at this
   simp only[aXC]
   exact this.avoid (fun g _ hx=>hX g hx)
  obtain⟨hone,hcase⟩:=R.hr.blk j B h1
  refine⟨hone, ?_⟩
  rcases hcase with hn|⟨g,ds,hg,hA,hw,hle,hcs⟩
  ·exact .inl hn
  exact .inr ⟨g,ds,hg,hA,hw,hle,hcs.avoid (fun g _ hx=>hX g hx)⟩
 intro i j B C g hi hj mi mj
 have f: ∀{j:Nat}{B:Blk},(h.set b (some ⟨e,cs.take k⟩))[j]? =some (some B)→ ∃B0,h[j]? =some (some B0):=by
  intro j B hj
  rcases hget hj with⟨e1,_⟩|⟨e1,_⟩
  ·exact⟨_,by rw[e1];exact hb⟩
  exact⟨_,e1⟩
 obtain⟨B1,h1⟩:=f hi
 obtain⟨C1,k1⟩:=f hj
 exact R.hr.inj i j B1 C1 g h1 k1 mi mj
section
variable {N n b e t q K:Nat}{fr:List (Nat×V)}{h h':Hp}{ag:Bool}{α:Type}{E:α→V}{C:α→List V}{l x:List α}{c:Int}
theorem aVw {α:Type}{l:List α}:sub l 0 0=some []:=by
 unfold sub
 rw[if_pos ⟨Int.le_refl _,Int.le_refl _,by omega⟩]
 rfl
theorem Ghost.cutM (hl:b5 n fr (.tmp t)=some (.sl b 0 q 1 ag))(hb:h[b]? =some (some ⟨e,l.map E⟩))(hs:sub l 0 c=some x)(hh:h.set b (some ⟨e,x.map E⟩)=h'):Ghost N (aI n fr) h (aI n fr) h':=by
 subst hh
 unfold sub at hs
 split at hs
 ·injection hs with hs
  have:x.map E=(l.map E).take c.toNat:=by rw[←hs,←aXB];simp
  rw[this]
  exact Ghost.cut hl hb
 cases hs
theorem Ghost.cutF (hC: ∀x,(C x).length=K)(hl:b5 n fr (.tmp t)=some (.sl b 0 q K ag))(hb:h[b]? =some (some ⟨e,l.flatMap C⟩))(hs:sub l 0 c=some x)(hh:h.set b (some ⟨e,x.flatMap C⟩)=h'):Ghost N (aI n fr) h (aI n fr) h':=by
 subst hh
 unfold sub at hs
 split at hs
 ·injection hs with hs
  have:x.flatMap C=(l.flatMap C).take (c.toNat*K):=by rw[←hs];simp only[Int.toNat_zero,aXI];exact(aKT hC _ _).symm
  rw[this]
  exact Ghost.cut hl hb
 cases hs
end
abbrev CA4 (E:Int→V)(x:List Int):List V:=dL E x []
abbrev aGf (E:Int→V)(x:List Int):List V:=bG E x []
@[simp] theorem uL {f:Nat→Nat}{k:IntKind}(l:List (List Int)):V.rns f (l.flatMap (CA4 (eI k)))=l.flatMap (CA4 (eI k)):=iG (fun _=>rfl) l
@[simp] theorem rS {f:Nat→Nat}{k:IntKind}(l:List (List Int)):V.rns f (l.flatMap (aGf (eI k)))=l.flatMap (aGf (eI k)):=iG (fun _=>rfl) l
theorem aRY {k:IntKind}(l:List Int):V.softA (.agg (l.map (eI k)))= .agg (l.map (eI k)):=by
 simp only[V.softA,List.map_map]
 rfl
theorem aVm {P:Program}{t:TypeId}{n:Nat}{ps ps':List (Nat×V)}{h:Hp}{r:V×Hp}(e:ps=ps')(hb:kX P t n ps' h=some r):kX P t n ps h=some r:=by rw[e];exact hb
theorem Conv.rowKA {C:List Int→List V}{E:Int→V}{K:Nat}{l:List (List Int)}(hC: ∀x,(C x).length=K)(h1K: ∀x,(C x).all V.one=true)(hsh: ∀x,(C x).all V.shut=true)(hcx: ∀x∈l,C x=x.map E){h h':Hp}(hs:Sub h h'){b n:Nat}{e:TypeId}(hb:h[b]? =some (some ⟨e,l.flatMap C⟩))(hb':h'[b]? =some none)(hn:n=l.length):Conv h h' (.sl b 0 n K true) (.row none K (l.map (eA E))):=by
 have:=Conv.rowK hC h1K hsh hs hb hb' hn
 rwa[show(l.map fun x=>V.agg (C x))=l.map (eA E)from List.map_congr_left fun x hx=>by rw[hcx x hx]]at this
theorem AB.scope {P:Program}{N:Nat}{Q:Ex→List V→Hp→Prop}{s:List V}{h:Hp}{c:Code}(hh:AB P N c Q s h):AB P N (.scope c) Q s h:=by
 intro A M0 M h0 w0 a w hN hM G R
 refine wp_scope_straight (Code.wp_mono (fun e a' w' ⟨x,s1,h1,M1,he,hq,G1,R1⟩=> ?_) (hh A M0 M h0 w0 a w hN hM G R))
 subst he
 cases x with
 |normal=>exact⟨.normal,s1,h1,M1,rfl,hq,G1,R1⟩
 |exit i=>exact⟨.exit i,s1,h1,M1,rfl,hq,G1,R1⟩
 |ret=>exact⟨.ret,s1,h1,M1,rfl,hq,G1,R1⟩
theorem AB.label {P:Program}{N:Nat}{Q:Ex→List V→Hp→Prop}{s:List V}{h:Hp}{l:Nat}(hq:Q .normal s h):AB P N (.label l) Q s h:=by
 intro A M0 M h0 w0 a w hN hM G R
 exact wp_label ⟨.normal,s,h,M,rfl,hq,G,R⟩
def tX (x y c:Int):Option (Int×Int):=if c.toNat≤1 then some ((((x.toNat+y.toNat+c.toNat)%18446744073709551616:Nat):Int),(((x.toNat+y.toNat+c.toNat)/18446744073709551616:Nat):Int))else none
def aFz (x y c:Int):Option (Int×Int):=if c.toNat≤1 then some ((((x.toNat+18446744073709551616-y.toNat-c.toNat)%18446744073709551616:Nat):Int),((if x.toNat<y.toNat+c.toNat then 1 else 0:Nat):Int))else none
def aUe :Array Value→Sem Value:=(Extern.MathBitsCarry.rows.get ⟨0,by decide⟩).2
def aUf :Array Value→Sem Value:=(Extern.MathBitsCarry.rows.get ⟨1,by decide⟩).2
theorem aSg {P:Program} {f:FuncId} {fn:Func} (hf:P.funcs[f]? =some fn) (hn:(fn.name == "runtime.NumGoroutine")=false) (hb:fn.body.isNone=true) (h1:Extern.findNext fn=none) (h2:Extern.find fn=some aUe) {x y c:Int} {r:Int×Int} (hr:tX x y c=some r):Fn P f [] [eI .u64 x,eI .u64 y,eI .u64 c] (.tup [eI .u64 r.1,eI .u64 r.2]) []:=by
 unfold tX at hr
 split at hr
 ·rename_i hc
  injection hr with hr
  subst hr
  refine aPT hf hn hb h1 h2 fun X M w vs hv=> ?_
  unfold VCells at hv
  obtain⟨v,rest,rfl,hv,hr⟩:=hv
  unfold VCells at hr
  obtain⟨u,rest,rfl,hu,hr⟩:=hr
  unfold VCells at hr
  obtain⟨z,rest,rfl,hz,hr⟩:=hr
  unfold VCells at hr
  subst hr
  unfold VR at hv hu hz
  subst hv hu hz
  have hgt: ¬c.toNat>1:=by omega
  refine⟨.tuple #[.int .u64 (((x.toNat+y.toNat+c.toNat)%18446744073709551616:Nat):Int),.int .u64 (((x.toNat+y.toNat+c.toNat)/18446744073709551616:Nat):Int)], ?_, ?_⟩
  ·match c,hgt with
   | .ofNat 0,_=>rfl
   | .ofNat 1,_=>rfl
   | .ofNat (k+2),hgt=>exact absurd (show(Int.ofNat (k+2)).toNat>1 by simp;omega) hgt
   | .negSucc k,_=>rfl
  unfold VR
  exact⟨_,rfl,by unfold VCells;exact⟨_,_,rfl,by unfold VR;rfl,by unfold VCells;exact⟨_,_,rfl,by unfold VR;rfl,by unfold VCells;rfl⟩⟩⟩
 cases hr
theorem aRC {P:Program} {f:FuncId} {fn:Func} (hf:P.funcs[f]? =some fn) (hn:(fn.name == "runtime.NumGoroutine")=false) (hb:fn.body.isNone=true) (h1:Extern.findNext fn=none) (h2:Extern.find fn=some aUf) {x y c:Int} {r:Int×Int} (hr:aFz x y c=some r):Fn P f [] [eI .u64 x,eI .u64 y,eI .u64 c] (.tup [eI .u64 r.1,eI .u64 r.2]) []:=by
 unfold aFz at hr
 split at hr
 ·rename_i hc
  injection hr with hr
  subst hr
  refine aPT hf hn hb h1 h2 fun X M w vs hv=> ?_
  unfold VCells at hv
  obtain⟨v,rest,rfl,hv,hr⟩:=hv
  unfold VCells at hr
  obtain⟨u,rest,rfl,hu,hr⟩:=hr
  unfold VCells at hr
  obtain⟨z,rest,rfl,hz,hr⟩:=hr
  unfold VCells at hr
  subst hr
  unfold VR at hv hu hz
  subst hv hu hz
  have hgt: ¬c.toNat>1:=by omega
  refine⟨.tuple #[.int .u64 (((x.toNat+18446744073709551616-y.toNat-c.toNat)%18446744073709551616:Nat):Int),.int .u64 ((if x.toNat<y.toNat+c.toNat then 1 else 0:Nat):Int)], ?_, ?_⟩
  ·match c,hgt with
   | .ofNat 0,_=>rfl
   | .ofNat 1,_=>rfl
   | .ofNat (k+2),hgt=>exact absurd (show(Int.ofNat (k+2)).toNat>1 by simp;omega) hgt
   | .negSucc k,_=>rfl
  unfold VR
  exact⟨_,rfl,by unfold VCells;exact⟨_,_,rfl,by unfold VR;rfl,by unfold VCells;exact⟨_,_,rfl,by unfold VR;rfl,by unfold VCells;rfl⟩⟩⟩
 cases hr
theorem sj {α:Type}{a b:α}(h:some a=some b):a=b:=aXv h
section
variable {P:Program}{ops:Array Oper}{l:List Oper}{n N:Nat}{fr:List (Nat×V)}{h h' h1:Hp}{K:List V→Hp→Prop}{op:Op}{ty:TypeId}{pos:String}{aft:Array Edge}{t:Nat}{v c d:V}{x y z:Operand}{Q:Ex→List V→Hp→Prop}{ty' u:TypeId}
variable {j w:Nat}{want b:Bool}
theorem zg (hc:b=want)(hd:bY P O0 ⟨some t,op,ty,pos,aft,some (j,want)⟩ (aI n fr) h=some (v,h'))(q:OpsW P N ops l (aI n ((t,v)::fr)) h' K) (hj:(ops[j]?).bind (·.dst)=some w:=by rfl) (hl:b5 n fr (.tmp w)=some (.sc (.bool b)):=by rfl):OpsW P N ops (⟨some t,op,ty,pos,aft,some (j,want)⟩::l) (aI n fr) h K:=wS (svG hj hl hc hd) q
theorem zk {co:Operand}{X Y:Code}{α:Type}{A B:Option α}{r:α}(hr:(if b=true then A else B)=some r)(hc:b5 n fr co=some (.sc (.bool b)))(g1:b=true→A=some r→AB P N X Q (aI n fr) h)(g2:b=false→B=some r→AB P N Y Q (aI n fr) h):AB P N (.cond co X Y) Q (aI n fr) h:=AB.cnd hc (fun e=>g1 e (cQ hr e)) (fun e=>g2 e (cR hr e))
theorem zf {f:FuncId} {fn:Func} {co:Code} {args:List V} {r:V} (hf:P.funcs[f]? =some fn) (hnt:fn.ntmps=n) (hh:AB P N co (aEo P fn N r h') (aI n fr) h) (hb:fn.body=some co:=by rfl) (hn:(fn.name == "runtime.NumGoroutine")=false:=by kernel_rfl) (hal:args.length≤n:=by exact zl) (hN:h.length=N:=by rfl) (hfr:num 0 args=fr:=by(simp only[num,Nat.reduceAdd,Nat.zero_add]<;>rfl)):Fn P f h args r h':=aVn hf hb hn hnt hal hN hfr hh
variable {F G:FuncId→Bool}{m:Nat}{listed:Array Bool}{s:List V}{o:Oper}{s1:List V}
end
section
variable {P:Program}{fn:Func}{n N:Nat}{fr:List (Nat×V)}{h h':Hp}{r a b c:V}{t u w:Nat}
theorem bE (hr:fn.results= #[.tmp t])(σ:List Nat) (hx:b5 n fr (.tmp t)=some a:=by rfl) (hf:FLe noN (V.rn (sg σ h.length)) [(0,a)] [(0,r)]:=by repeat (first|exact FLe.nil|refine FLe.same rfl ?_|refine FLe.le rfl V.le_nil ?_|refine FLe.le rfl V.le_row ?_|refine FLe.le rfl (V.le_arr (fun _=>rfl)) ?_)) (hh:HLe (sg σ h.length) h σ h':=by repeat (first|exact HLe.nil|refine HLe.dead ?_|refine HLe.live rfl V.les_nil rfl ?_|refine HLe.live rfl (aFs (fun _=>rfl) _) (all_map (fun _=>rfl) _) ?_|refine HLe.live rfl (aEk (fun _=>rfl) _) (rL (fun _=>rfl) _) ?_|refine HLe.live rfl (V.les_refl _ _) rfl ?_)) (hσ:σ.take N=List.range N:=by rfl) (hlt:σ.all (fun b=>Nat.blt b h.length)=true:=by rfl) (hnd:ndB (lvs σ h')=true:=by rfl):aEo P fn N r h' .ret (aI n fr) h:=aCx (aUV hr (rvT hx)) (Ghost.rn σ hσ hlt hf hh hnd)
theorem kG (hr:fn.results= #[.tmp t,.tmp u])(σ:List Nat) (hx:b5 n fr (.tmp t)=some a:=by rfl) (hy:b5 n fr (.tmp u)=some b:=by rfl) (hf:FLe noN (V.rn (sg σ h.length)) [(0,(.tup [a,b]))] [(0,r)]:=by repeat (first|exact FLe.nil|refine FLe.same rfl ?_|refine FLe.le rfl V.le_nil ?_|refine FLe.le rfl V.le_row ?_|refine FLe.le rfl (V.le_arr (fun _=>rfl)) ?_)) (hh:HLe (sg σ h.length) h σ h':=by repeat (first|exact HLe.nil|refine HLe.dead ?_|refine HLe.live rfl V.les_nil rfl ?_|refine HLe.live rfl (aFs (fun _=>rfl) _) (all_map (fun _=>rfl) _) ?_|refine HLe.live rfl (aEk (fun _=>rfl) _) (rL (fun _=>rfl) _) ?_|refine HLe.live rfl (V.les_refl _ _) rfl ?_)) (hσ:σ.take N=List.range N:=by rfl) (hlt:σ.all (fun b=>Nat.blt b h.length)=true:=by rfl) (hnd:ndB (lvs σ h')=true:=by rfl):aEo P fn N r h' .ret (aI n fr) h:=aCx (bL hr (rvT hx) (rvT hy)) (Ghost.rn σ hσ hlt hf hh hnd)
theorem zd3 (hr:fn.results= #[.tmp t,.tmp u,.tmp w])(σ:List Nat) (hx:b5 n fr (.tmp t)=some a:=by rfl) (hy:b5 n fr (.tmp u)=some b:=by rfl) (hz:b5 n fr (.tmp w)=some c:=by rfl) (hf:FLe noN (V.rn (sg σ h.length)) [(0,(.tup [a,b,c]))] [(0,r)]:=by repeat (first|exact FLe.nil|refine FLe.same rfl ?_|refine FLe.le rfl V.le_nil ?_|refine FLe.le rfl V.le_row ?_|refine FLe.le rfl (V.le_arr (fun _=>rfl)) ?_)) (hh:HLe (sg σ h.length) h σ h':=by repeat (first|exact HLe.nil|refine HLe.dead ?_|refine HLe.live rfl V.les_nil rfl ?_|refine HLe.live rfl (aFs (fun _=>rfl) _) (all_map (fun _=>rfl) _) ?_|refine HLe.live rfl (aEk (fun _=>rfl) _) (rL (fun _=>rfl) _) ?_|refine HLe.live rfl (V.les_refl _ _) rfl ?_)) (hσ:σ.take N=List.range N:=by rfl) (hlt:σ.all (fun b=>Nat.blt b h.length)=true:=by rfl) (hnd:ndB (lvs σ h')=true:=by rfl):aEo P fn N r h' .ret (aI n fr) h:=aCx (wL hr (rvT hx) (rvT hy) (rvT hz)) (Ghost.rn σ hσ hlt hf hh hnd)
end
def OpsG (P:Program)(F G:FuncId→Bool)(ops:Array Oper):List Oper→List V→Hp→(List V→Hp→Prop)→Prop
 | [],s,h,K=>K s h
 |o::l,s,h,K=> ∃s1 h1,StepR P F G ops o s h s1 h1∧OpsG P F G ops l s1 h1 K
def OpsX (P:Program)(N:Nat)(m:Option (List Nat×List Nat))(ops:Array Oper)(l:List Oper)(s:List V)(h:Hp)(K:List V→Hp→Prop):Prop:=
 match m with
 |none=>OpsW P N ops l s h K
 |some (F,G)=>OpsG P (fQ F) (fQ G) ops l s h K
def aIR (l:List Oper):List Nat→List Oper
 | []=>[]
 |i::s=>match l[i]? with
  |some o=>o::aIR l s
  |none=>[]
def aGJ (F G:FuncId→Bool)(ops:Array Oper):List Nat→Array Bool→Bool
 | [],_=>true
 |i::s,L=>aKk F G ops L i&&(ops.toList[i]?).isSome&&aGJ F G ops s (L.setIfInBounds i true)
def aF1 :List Nat→Array Bool→Array Bool
 | [],L=>L
 |i::s,L=>aF1 s (L.setIfInBounds i true)
theorem aE2 {P:Program}{N:Nat}{F G:FuncId→Bool}{ops:Array Oper}{K:List V→Hp→Prop}{m:Nat}: ∀(sc:List Nat)(L:Array Bool)(s:List V)(h:Hp),aGJ F G ops sc L=true→
  OpsG P F G ops (aIR ops.toList sc) s h (fun s h=>DrawG P N F G ops m (aF1 sc L) s h K)→DrawG P N F G ops (m+sc.length) L s h K
 | [],L,s,h,_,hk=>hk
 |i::sc,L,s,h,hb,hk=>by
  simp only[aGJ,aXD]at hb
  obtain⟨⟨h1,h2⟩,h3⟩:=hb
  obtain⟨o,ho⟩:=Option.isSome_iff_exists.1 h2
  simp only[aIR,ho]at hk
  obtain⟨s1,g1,e,hk⟩:=hk
  refine DrawG.pick h1 (o:=o) (by simpa using ho) e ?_
  exact aE2 sc _ s1 g1 h3 hk
def aGG (F G:FuncId→Bool)(ops:Array Oper):List (List Nat)→Array Bool→Bool
 | [],L=>(aEQ ops.size L).isEmpty
 | [a],L=>aGJ F G ops a L&&(aEQ ops.size (aF1 a L)).isEmpty
 |a::b::ss,L=>aGJ F G ops a L&&aMY ops (aF1 a L)&& !b.isEmpty&&aGG F G ops (b::ss) (aF1 a L)
def aR5 (P:Program)(N:Nat)(F G:List Nat)(ops:Array Oper):List (List Nat)→List V→Hp→(List V→Hp→Prop)→Prop
 | [],s,h,K=>K s h
 | [a],s,h,K=>OpsX P N (some (F,G)) ops (aIR ops.toList a) s h K
 |a::b::ss,s,h,K=>OpsX P N (some (F,G)) ops (aIR ops.toList a) s h (fun s h=> ∃s' h',Ghost N s h s' h'∧aR5 P N F G ops (b::ss) s' h' K)
theorem OpsG.mono {P:Program}{F G:FuncId→Bool}{ops:Array Oper}{K K':List V→Hp→Prop}: ∀{l:List Oper}{s:List V}{h:Hp},OpsG P F G ops l s h K→(∀s h,K s h→K' s h)→OpsG P F G ops l s h K'
 | [],_,_,hk,hm=>hm _ _ hk
 |_::_,_,_,⟨s1,h1,e,hk⟩,hm=>⟨s1,h1,e,hk.mono hm⟩
theorem aHc {P:Program}{N:Nat}{F G:List Nat}{ops:Array Oper}{K:List V→Hp→Prop}: ∀(ss:List (List Nat))(L:Array Bool)(s:List V)(h:Hp),aGG (fQ F) (fQ G) ops ss L=true→
  aR5 P N F G ops ss s h K→DrawG P N (fQ F) (fQ G) ops (ss.map List.length).sum L s h K
 | [],L,s,h,hb,hk=>DrawG.nil (List.isEmpty_iff.1 hb) hk
 | [a],L,s,h,hb,hk=>by
  simp only[aGG,Bool.and_eq_true]at hb
  have:=aE2 (N:=N) (m:=0) a L s h hb.1 (OpsG.mono (K':=fun s h=>DrawG P N (fQ F) (fQ G) ops 0 (aF1 a L) s h K) hk fun s h hk=>DrawG.nil (List.isEmpty_iff.1 hb.2) hk)
  simpa using this
 |a::b::ss,L,s,h,hb,hk=>by
  simp only[aGG,Bool.and_eq_true]at hb
  obtain⟨⟨⟨h1,h2⟩,h3⟩,h4⟩:=hb
  have:=aE2 (N:=N) (m:=((b::ss).map List.length).sum) a L s h h1 (OpsG.mono (K':=fun s h=>DrawG P N (fQ F) (fQ G) ops ((b::ss).map List.length).sum (aF1 a L) s h K) hk fun s h ⟨s',h',hg,hk⟩=>by
   have hd:=aHc (b::ss) _ s' h' h4 hk
   obtain⟨x,xs,rfl⟩: ∃x xs,b=x::xs:=by
    cases b with
    |nil=>cases h3
    |cons x xs=>exact⟨x,xs,rfl⟩
   simp only[List.map_cons,List.length_cons,List.sum_cons,Nat.add_right_comm _ 1]at hd⊢
   exact DrawG.gh h2 hg hd)
  simpa[Nat.add_comm]using this
theorem AB.rs {P:Program}{N:Nat}{Q:Ex→List V→Hp→Prop}{s:List V}{h:Hp}(hm:P.follows .mixedOrders=true)(F G:List Nat)(ss:List (List Nat)){id:Nat}{l:List Oper}(hr:aR5 P N F G l.toArray ss s h (Q .normal))
  (hb:(aGG (fQ F) (fQ G) l.toArray ss (Array.replicate l.toArray.size false)&&(ss.map List.length).sum == l.toArray.size)=true:=by decide +kernel):AB P N (.region id l.toArray true) Q s h:=by
 simp only[Bool.and_eq_true,beq_iff_eq]at hb
 refine AB.rd (fQ F) (fQ G) hm ?_
 have:=aHc ss _ s h hb.1 hr
 rw[hb.2]at this
 exact this
section
variable {P:Program}{N n t:Nat}{m:Option (List Nat×List Nat)}{ops:Array Oper}{l:List Oper}{fr:List (Nat×V)}{h h':Hp}{K:List V→Hp→Prop}{op:Op}{ty:TypeId}{pos:String}{aft:Array Edge}{gd:Option (Nat×Bool)}{v a b:V}{x y z:Operand}{Q:Ex→List V→Hp→Prop}{s:List V}
theorem OpsX.nil (hk:K s h):OpsX P N m ops [] s h K:=by
 cases m with
 |none=>exact OpsW.nil hk
 |some p=>exact hk
theorem xS0 (hs:dE P O0 ops ⟨some t,op,ty,pos,aft,gd⟩ (aI n fr) h=some (v,h'))(k:OpsX P N m ops l (aI n ((t,v)::fr)) h' K):OpsX P N m ops (⟨some t,op,ty,pos,aft,gd⟩::l) (aI n fr) h K:=by
 cases m with
 |none=>exact wS hs k
 |some p=>exact⟨_,_,gS hs,k⟩
theorem xN0 (hs:dE P O0 ops ⟨none,op,ty,pos,aft,gd⟩ (aI n fr) h=some (v,h'))(k:OpsX P N m ops l (aI n fr) h' K):OpsX P N m ops (⟨none,op,ty,pos,aft,gd⟩::l) (aI n fr) h K:=by
 cases m with
 |none=>exact wN hs k
 |some p=>exact⟨_,_,gN hs,k⟩
theorem xq {c:Code}{id:Nat}(hr:OpsX P N none l.toArray l s h (Ex.then (AB P N c Q) Q .normal)):AB P N (.seq (.region id l.toArray false) c) Q s h:=AB.seq (AB.rw hr)
theorem xr {id:Nat}(hr:OpsX P N none l.toArray l s h (Q .normal)):AB P N (.region id l.toArray false) Q s h:=AB.rw hr
def Gd (ops:Array Oper)(n:Nat)(fr:List (Nat×V)):Option (Nat×Bool)→Prop
 |none=>True
 |some (j,w)=> ∃u,(ops[j]?).bind (·.dst)=some u∧ ∃c,b5 n fr (.tmp u)=some (.sc (.bool c))∧c=w
theorem Gd.step {dd:Option Tmp}{r:V×Hp}(hg:Gd ops n fr gd)(hd:bY P O0 ⟨dd,op,ty,pos,aft,gd⟩ (aI n fr) h=some r):dE P O0 ops ⟨dd,op,ty,pos,aft,gd⟩ (aI n fr) h=some r:=by
 obtain⟨v,h1⟩:=r
 cases gd with
 |none=>exact sv hd
 |some p=>
  obtain⟨j,w⟩:=p
  obtain⟨u,hu,c,hc,he⟩:=hg
  exact svG hu hc he hd
theorem xS (hd:bY P O0 ⟨some t,op,ty,pos,aft,gd⟩ (aI n fr) h=some (v,h'))(k:OpsX P N m ops l (aI n ((t,v)::fr)) h' K) (hg:Gd ops n fr gd:=by first|exact True.intro|exact⟨_,rfl,_,rfl,by assumption⟩):OpsX P N m ops (⟨some t,op,ty,pos,aft,gd⟩::l) (aI n fr) h K:=xS0 (hg.step hd) k
theorem xN (hd:bY P O0 ⟨none,op,ty,pos,aft,gd⟩ (aI n fr) h=some (v,h'))(k:OpsX P N m ops l (aI n fr) h' K) (hg:Gd ops n fr gd:=by first|exact True.intro|exact⟨_,rfl,_,rfl,by assumption⟩):OpsX P N m ops (⟨none,op,ty,pos,aft,gd⟩::l) (aI n fr) h K:=xN0 (hg.step hd) k
theorem xw (hd:bY P O0 ⟨some t,op,ty,pos,aft,none⟩ (aI n fr) h=some (v,h'))(k:OpsX P N m ops l (aI n ((t,v)::fr)) h' K):OpsX P N m ops (⟨some t,op,ty,pos,aft,none⟩::l) (aI n fr) h K:=xS0 (sv hd) k
theorem xy (hd:bY P O0 ⟨none,op,ty,pos,aft,none⟩ (aI n fr) h=some (v,h'))(k:OpsX P N m ops l (aI n fr) h' K):OpsX P N m ops (⟨none,op,ty,pos,aft,none⟩::l) (aI n fr) h K:=xN0 (sv hd) k
theorem xC {f:FuncId}{ts:Array TypeId}{ws:List Operand}{xs:List V}(hx:t5 n fr ws=some xs)(hc:Fn P f h xs v h')(k:OpsX P N none ops l (aI n ((t,v)::fr)) h' K):OpsX P N none ops (⟨some t,.call ⟨.value (.func f),ws.toArray,ts⟩,ty,pos,aft,none⟩::l) (aI n fr) h K:=wC hx hc k
theorem xCg {f:FuncId}{ts:Array TypeId}{ws:List Operand}{xs:List V}{jj ww:Nat}{want cc:Bool}(hj:(ops[jj]?).bind (·.dst)=some ww)(hl:b5 n fr (.tmp ww)=some (.sc (.bool cc)))(hb:cc=want)(hx:t5 n fr ws=some xs)(hc:Fn P f h xs v h')(k:OpsX P N none ops l (aI n ((t,v)::fr)) h' K):OpsX P N none ops (⟨some t,.call ⟨.value (.func f),ws.toArray,ts⟩,ty,pos,aft,some (jj,want)⟩::l) (aI n fr) h K:=wCG hj hl hb hx hc k
theorem xG {f:FuncId}{F G:List Nat}{ts:Array TypeId}{ws:List Operand}{xs:List V}(hx:t5 n fr ws=some xs)(hc:Fn P f h xs v h')(k:OpsX P N (some (F,G)) ops l (aI n ((t,v)::fr)) h' K) (hF:fQ F f=false:=by rfl) (hG:fQ G f=true→ ∃news,h'=h++news:=by first|exact(fun _=>⟨_,rfl⟩)|exact(fun _=>⟨[],(List.append_nil _).symm⟩)|exact(fun h=>absurd h (by decide))) (hg:Gd ops n fr gd:=by first|exact True.intro|exact⟨_,rfl,_,rfl,by assumption⟩):OpsX P N (some (F,G)) ops (⟨some t,.call ⟨.value (.func f),ws.toArray,ts⟩,ty,pos,aft,gd⟩::l) (aI n fr) h K:=by
 refine⟨_,_,gC hc hF hG ?_,k⟩
 cases gd with
 |none=>exact sv (mA hx pV)
 |some p=>
  obtain⟨j,w⟩:=p
  obtain⟨u,hu,c,hb,he⟩:=hg
  exact svG hu hb he (mA hx pV)
theorem xU {f:FuncId}{F G:List Nat}{ts:Array TypeId}{ws:List Operand}{xs:List V}(hx:t5 n fr ws=some xs)(hc: ∀h,Fn P f h xs v h)(k:OpsX P N (some (F,G)) ops l (aI n ((t,v)::fr)) h K) (hG:fQ G f=false:=by rfl) (hg:Gd ops n fr gd:=by first|exact True.intro|exact⟨_,rfl,_,rfl,by assumption⟩):OpsX P N (some (F,G)) ops (⟨some t,.call ⟨.value (.func f),ws.toArray,ts⟩,ty,pos,aft,gd⟩::l) (aI n fr) h K:=by
 refine⟨_,_,gU hc hG ?_,k⟩
 cases gd with
 |none=>exact sv (mA hx yT)
 |some p=>
  obtain⟨j,w⟩:=p
  obtain⟨u,hu,c,hb,he⟩:=hg
  exact svG hu hb he (mA hx yT)
variable {j w:Nat}{want c:Bool}
theorem xX (hc:c= !want)(k:OpsX P N m ops l (aI n ((t,.sc undef)::fr)) h K) (hj:(ops[j]?).bind (·.dst)=some w:=by rfl) (hl:b5 n fr (.tmp w)=some (.sc (.bool c)):=by rfl):OpsX P N m ops (⟨some t,op,ty,pos,aft,some (j,want)⟩::l) (aI n fr) h K:=xS0 (svX hj hl hc) k
theorem xSg (hj:(ops[j]?).bind (·.dst)=some w)(hl:b5 n fr (.tmp w)=some (.sc (.bool c)))(hc:c=want)(hd:bY P O0 ⟨some t,op,ty,pos,aft,some (j,want)⟩ (aI n fr) h=some (v,h'))(k:OpsX P N m ops l (aI n ((t,v)::fr)) h' K):OpsX P N m ops (⟨some t,op,ty,pos,aft,some (j,want)⟩::l) (aI n fr) h K:=xS0 (svG hj hl hc hd) k
theorem OpsX.ghost {s':List V}(hg:Ghost N s h s' h')(k:OpsX P N none ops l s' h' K):OpsX P N none ops l s h K:=OpsW.ghost hg k
end
theorem gD {p:Prop} (h:p:=by first|exact True.intro|exact⟨_,rfl,_,rfl,by assumption⟩):p:=h
inductive LSet {α:Type}:List α→Nat→α→List α→Prop
 |z {a b:α} {l:List α}:LSet (a::l) 0 b (b::l)
 |s {a b:α} {l l':List α} {i:Nat}:LSet l i b l'→LSet (a::l) (i+1) b (a::l')
theorem LSet.eq {α:Type}{l l':List α}{i:Nat}{b:α}(h:LSet l i b l'):l.set i b=l':=by
 induction h with
 |z=>rfl
 |s _ ih=>rw[List.set_cons_succ,ih]
inductive Snoc {α:Type}:List α→α→List α→Prop
 |n {b:α}:Snoc [] b [b]
 |c {a b:α} {l l':List α}:Snoc l b l'→Snoc (a::l) b (a::l')
theorem Snoc.eq {α:Type}{l l':List α}{b:α}(h:Snoc l b l'):l++[b]=l':=by
 induction h with
 |n=>rfl
 |c _ ih=>rw[List.cons_append,ih]
inductive IsA :(List V→List V)→Nat→Prop
 |c {a:V}:IsA (List.cons a) 1
 |a4 {k:IntKind} {q:List Int}:IsA (dL (eI k) q) 4
 |a8 {k:IntKind} {q:List Int}:IsA (ar8 (eI k) q) 8
 |a20 {k:IntKind} {q:List Int}:IsA (aH7 (eI k) q) 20
 |a32 {k:IntKind} {q:List Int}:IsA (bG (eI k) q) 32
 |a64 {k:IntKind} {q:List Int}:IsA (aIm (eI k) q) 64
theorem IsA.eq {A:List V→List V}{n:Nat}(h:IsA A n): ∃p:List V,p.length=n∧ ∀r,A r=p++r:=by
 cases h with
 |c=>exact⟨[_],rfl,fun _=>rfl⟩
 |a4=>exact⟨dL _ _ [],rfl,fun _=>rfl⟩
 |a8=>exact⟨ar8 _ _ [],rfl,fun _=>rfl⟩
 |a20=>exact⟨aH7 _ _ [],rfl,fun _=>rfl⟩
 |a32=>exact⟨bG _ _ [],rfl,fun _=>rfl⟩
 |a64=>exact⟨aIm _ _ [],rfl,fun _=>rfl⟩
inductive Spl :List V→Nat→List V→List V→Prop
 |w {l r:List V}:r.length=l.length→Spl l 0 r r
 |d {l:List V}:Spl l 0 [] l
 |p {A B:List V→List V} {n:Nat} {l r l':List V}:IsA A n→IsA B n→Spl l 0 r l'→Spl (A l) 0 (B r) (B l')
 |s {A:List V→List V} {n:Nat} {l r l':List V} {o o':Nat}:IsA A n→o'=o+n→Spl l o r l'→Spl (A l) o' r (A l')
theorem Spl.eq {l r l':List V}{o:Nat}(h:Spl l o r l'):splice l o r=l':=by
 induction h with
 |w h=>simp[splice,h]
 |d=>simp[splice]
 |p hA hB _ ih=>
  obtain⟨p,hp,e⟩:=hA.eq
  obtain⟨q,hq,e'⟩:=hB.eq
  simp only[splice,List.take_zero,aXy,aXM]at ih⊢
  rw[e,e',e',←ih,aXK,hq,←hp,aXE,aXs (by omega),aXy,Nat.add_sub_cancel_left,aXx]
 | @s A n l r l' o o' hA he _ ih=>
  subst he
  obtain⟨p,hp,e⟩:=hA.eq
  simp only[splice]at ih⊢
  have h1:(p++l).take (o+n)=p++l.take o:=by rw[aXN,aXF (by omega),show o+n-p.length=o by omega]
  have h2:(p++l).drop (o+n+r.length)=l.drop (o+r.length):=by rw[aXE,aXs (by omega),aXy,show o+n+r.length-p.length=o+r.length by omega]
  rw[e,e,h1,h2,←ih,aXx,aXx,aXx]
inductive Tak :List V→Nat→Nat→List V→Prop
 |w {l:List V} {k:Nat}:l.length=k→Tak l 0 k l
 |d {l:List V}:Tak l 0 0 []
 |t {A:List V→List V} {n:Nat} {l r:List V} {k k':Nat}:IsA A n→k'=k+n→Tak l 0 k r→Tak (A l) 0 k' (A r)
 |s {A:List V→List V} {n:Nat} {l r:List V} {o o' k:Nat}:IsA A n→o'=o+n→Tak l o k r→Tak (A l) o' k r
theorem Tak.eq {l r:List V}{o k:Nat}(h:Tak l o k r):(l.drop o).take k=r∧k≤(l.drop o).length:=by
 induction h with
 |w h=>subst h;exact⟨by simp,by simp⟩
 |d=>exact⟨rfl,Nat.zero_le _⟩
 |t hA he _ ih=>
  subst he
  obtain⟨p,hp,e⟩:=hA.eq
  simp only[aXI]at ih⊢
  rw[e,e,aXN,aXF (by omega),hp,Nat.add_sub_cancel,ih.1,aXK,hp]
  exact⟨rfl,by omega⟩
 | @s A n l r o o' k hA he _ ih=>
  subst he
  obtain⟨p,hp,e⟩:=hA.eq
  have h1:(p++l).drop (o+n)=l.drop o:=by rw[aXE,aXs (by omega),aXy,show o+n-p.length=o by omega]
  rw[e,h1]
  exact ih
inductive OfC :Value→V→Prop
 |i {k:IntKind} {x:Int}:OfC (.int k x) (eI k x)
 |b {x:Bool}:OfC (.bool x) (eB x)
 |s {x:ByteArray}:OfC (.string x) (eS x)
 |l:OfC (.slice none 0 0) (.row (some true) 1 [])
 |p:OfC (.pointer none) (.sc (.pointer none))
theorem OfC.eq {v:Value}{a:V}(h:OfC v a):fB v=a:=by cases h<;>rfl
theorem OfC.eq' {v:Value}{a:V}(h:OfC v a):ofValue v=a:=by cases h<;>rfl
theorem OfC.one {v:Value}{a:V}(h:OfC v a):a.one=true∧v.cells= #[v]:=by cases h<;>exact⟨rfl,rfl⟩
inductive OfCs :List Value→List V→Prop
 |n:OfCs [] []
 |c {v:Value} {a:V} {vs:List Value} {as_:List V}:OfC v a→OfCs vs as_→OfCs (v::vs) (a::as_)
theorem OfCs.eq {vs:List Value}{as_:List V}(h:OfCs vs as_):vs.map fB=as_:=by
 induction h with
 |n=>rfl
 |c h _ ih=>rw[aXw,h.eq,ih]
theorem OfCs.one {vs:List Value}{as_:List V}(h:OfCs vs as_):as_.all V.one=true:=by
 induction h with
 |n=>rfl
 |c h _ ih=>rw[List.all_cons,h.one.1,ih];rfl
inductive Zro :Value→List V→Prop
 |a {vs:List Value} {cs:List V}:OfCs vs cs→Zro (.agg vs.toArray) cs
 |o {v:Value} {a:V}:OfC v a→Zro v [a]
theorem Zro.eq {v:Value}{cs:List V}(h:Zro v cs):v.cells.toList.map fB=cs∧cs.all V.one=true:=by
 cases h with
 |a h=>exact⟨h.eq,h.one⟩
 |o h=>rw[h.one.2];exact⟨by simp[h.eq],by simp[h.one.1]⟩
inductive Cel :V→List V→Prop
 |a {cs:List V}:cs.all V.one=true→Cel (.agg cs) cs
 |o {x:V}:x.one=true→x.cells=[x]→Cel x [x]
 |m {α:Type} {E:α→V} {q:List α}:(∀x,(E x).one=true)→Cel (.agg (q.map E)) (q.map E)
theorem Cel.eq {x:V}{cs:List V}(h:Cel x cs):x.cells=cs∧x.flatOk=true:=by
 cases h with
 |a h=>exact⟨rfl,h⟩
 |o h1 h2=>exact⟨h2,by simp[V.flatOk,h2,h1]⟩
 |m h=>exact⟨rfl,aVQ h⟩
inductive Fil (pl:Array (Nat×Nat)):List V→List (Nat×V)→List V→Prop
 |n {cs:List V}:Fil pl cs [] cs
 |c {cs ds es fs:List V} {i o k:Nat} {x:V} {ps:List (Nat×V)}:pl[i]? =some (o,k)→Cel x ds→ds.length=k→aXr (o+k) cs.length=true→Spl cs o ds es→Fil pl es ps fs→Fil pl cs ((i,x)::ps) fs
theorem Fil.eq {pl:Array (Nat×Nat)}{cs fs:List V}{ps:List (Nat×V)}(h:Fil pl cs ps fs):r4 (fun i=>pl[i]?) cs ps=some fs:=by
 induction h with
 |n=>rfl
 |c h1 h2 h3 h4 h5 _ ih=>
  simp only[r4,h1]
  rw[if_pos ⟨h2.eq.2,by rw[h2.eq.1,h3],aXo h4⟩,h2.eq.1,h5.eq,ih]
class TiC (P:Program) (t:TypeId) (d:outParam TI):Prop where
 h:aU P t=some d
class FaC (P:Program) (t:TypeId) (f:Nat) (k:outParam Nat):Prop where
 p: ∀b off,aR P t (.ptr b off) f=some (.ptr b (off+k))
 e: ∀es i off,aR P t (.eptr es i off) f=some (.eptr es i (off+k))
class NoA (P:Program) (t:TypeId):Prop where
 h:True
class PlC (P:Program) (t:TypeId) (pl:outParam (Array (Nat×Nat))):Prop where
 h:lD P t=some pl
def aRn (op:BinOp)(k:IntKind)(a b:Int):Option V:=match op with
 | .add=>some (eI k (k.wrap (a+b)))
 | .sub=>some (eI k (k.wrap (a-b)))
 | .mul=>some (eI k (k.wrap (a*b)))
 | .and=>some (eI k (bits .and k a b))
 | .or=>some (eI k (bits .or k a b))
 | .xor=>some (eI k (bits .xor k a b))
 | .eql=>some (eB (a == b))
 | .neq=>some (eB (a != b))
 | .lss=>some (eB (decide (a<b)))
 | .leq=>some (eB (decide (a≤b)))
 | .gtr=>some (eB (decide (b<a)))
 | .geq=>some (eB (decide (b≤a)))
 |_=>none
theorem aSK {P:Program}{op:BinOp}{t:TypeId}{x y:Operand}{k:IntKind}{a b:Int}{v:V}(h:aRn op k a b=some v):eT P op t x y (eI k a) (eI k b)=some v:=by
 cases op<;>simp only[aRn,aXq,reduceCtorEq]at h<;>subst h
 ·exact aTx ..
 ·exact aTN ..
 ·exact aS0 ..
 ·exact aTi ..
 ·exact aUN ..
 ·exact aTt ..
 ·exact aSM ..
 ·exact aN3 ..
 ·exact aUa ..
 ·exact aSO ..
 ·exact aS2 ..
 exact aTP ..
section
variable {P:Program}{N n t:Nat}{m:Option (List Nat×List Nat)}{ops:Array Oper}{l:List Oper}{fr:List (Nat×V)}{h h':Hp}{K:List V→Hp→Prop}{op:Op}{ty:TypeId}{pos:String}{aft:Array Edge}{gd:Option (Nat×Bool)}{v a b:V}{x y z:Operand}{Q:Ex→List V→Hp→Prop}{s:List V}{k:IntKind}{i j:Int}{o e:Nat}{cs ds:List V}{ti di:TI}{u w:TypeId}{bo:BinOp}{p q:Nat}{c:Bool}
theorem xm (hx:b5 n fr x=some a)(hg:Gd ops n fr gd)(q:OpsX P N m ops l (aI n ((t,a)::fr)) h K):OpsX P N m ops (⟨some t,.move x,ty,pos,aft,gd⟩::l) (aI n fr) h K:=xS (mR hx) q hg
theorem xa (hx:b5 n fr x=some a)(hg:Gd ops n fr gd)(q:OpsX P N m ops l (aI n ((t,a)::fr)) h K):OpsX P N m ops (⟨some t,.assign x,ty,pos,aft,gd⟩::l) (aI n fr) h K:=xS (pS hx) q hg
theorem xmc {v:Value}(hv:OfC v a)(hg:Gd ops n fr gd)(q:OpsX P N m ops l (aI n ((t,a)::fr)) h K):OpsX P N m ops (⟨some t,.move (.const v),ty,pos,aft,gd⟩::l) (aI n fr) h K:=xm (by rw[←hv.eq'];rfl) hg q
theorem xac {v:Value}(hv:OfC v a)(hg:Gd ops n fr gd)(q:OpsX P N m ops l (aI n ((t,a)::fr)) h K):OpsX P N m ops (⟨some t,.assign (.const v),ty,pos,aft,gd⟩::l) (aI n fr) h K:=xa (by rw[←hv.eq'];rfl) hg q
theorem xb (hx:b5 n fr x=some (eI k i))(hy:b5 n fr y=some (eI k j))(hv:aRn bo k i j=some v)(hg:Gd ops n fr gd)(q:OpsX P N m ops l (aI n ((t,v)::fr)) h K):OpsX P N m ops (⟨some t,.binOp bo u x y w,ty,pos,aft,gd⟩::l) (aI n fr) h K:=xS (tD hx hy (aSK hv)) q hg
theorem xno (hx:b5 n fr x=some (eB c))(hg:Gd ops n fr gd)(q:OpsX P N m ops l (aI n ((t,eB (!c))::fr)) h K):OpsX P N m ops (⟨some t,.unOp .not u x,ty,pos,aft,gd⟩::l) (aI n fr) h K:=xS (aMG hx (aUq _ _)) q hg
theorem xci {sz by_:Nat}{zz:Value}{k':IntKind} [D:TiC P u di] [T:TiC P w ⟨.int k',sz,by_,zz⟩] (hx:b5 n fr x=some (eI k i)) (hg:Gd ops n fr gd) (q:OpsX P N m ops l (aI n ((t,eI k' (k'.wrap i))::fr)) h K):OpsX P N m ops (⟨some t,.convert u w x,ty,pos,aft,gd⟩::l) (aI n fr) h K:=xS (jX hx (iI _ ⟨_,D.h⟩ T.h rfl)) q hg
theorem xlR {α:Type}{E:α→V}{nl:Option Bool}{ml:List α}{sz by_:Nat}{zz:Value} [T:TiC P u ⟨.slice e,sz,by_,zz⟩] (hx:b5 n fr x=some (.row nl o (ml.map E))) (hg:Gd ops n fr gd) (q:OpsX P N m ops l (aI n ((t,eI .i64 (ml.length:Int))::fr)) h K):OpsX P N m ops (⟨some t,.call ⟨.builtin .len,#[x],#[u]⟩,ty,pos,aft,gd⟩::l) (aI n fr) h K:=xS (aSu hx (aWQ T.h)) q hg
theorem xlS {sz by_:Nat}{zz:Value}{ag:Bool} [T:TiC P u ⟨.slice e,sz,by_,zz⟩] (hx:b5 n fr x=some (.sl o p q w ag)) (hg:Gd ops n fr gd) (kk:OpsX P N m ops l (aI n ((t,eI .i64 (q:Int))::fr)) h K):OpsX P N m ops (⟨some t,.call ⟨.builtin .len,#[x],#[u]⟩,ty,pos,aft,gd⟩::l) (aI n fr) h K:=xS (aSu hx (aW0 T.h)) kk hg
theorem xe {vs:List V}(hx:b5 n fr x=some (.tup vs))(hv:vs[o]? =some v)(hg:Gd ops n fr gd)(q:OpsX P N m ops l (aI n ((t,v)::fr)) h K):OpsX P N m ops (⟨some t,.extract x o,ty,pos,aft,gd⟩::l) (aI n fr) h K:=xS (aHu hx hv) q hg
theorem xfp {f kk r:Nat} [F:FaC P u f kk] (hx:b5 n fr x=some (.ptr o p)) (hr:p+kk=r) (hg:Gd ops n fr gd) (q:OpsX P N m ops l (aI n ((t,.ptr o r)::fr)) h K):OpsX P N m ops (⟨some t,.fieldAddr u x f,ty,pos,aft,gd⟩::l) (aI n fr) h K:=xS (nZ hx (hr▸F.p _ _)) q hg
theorem xfe {f kk r ix:Nat} [F:FaC P u f kk] (hx:b5 n fr x=some (.eptr cs ix p)) (hr:p+kk=r) (hg:Gd ops n fr gd) (q:OpsX P N m ops l (aI n ((t,.eptr cs ix r)::fr)) h K):OpsX P N m ops (⟨some t,.fieldAddr u x f,ty,pos,aft,gd⟩::l) (aI n fr) h K:=xS (nZ hx (hr▸F.e _ _ _)) q hg
theorem xnp (hx:b5 n fr x=some (.ptr o p))(hg:Gd ops n fr gd)(q:OpsX P N m ops l (aI n ((t,.ptr o p)::fr)) h K):OpsX P N m ops (⟨some t,.nilCheck x,ty,pos,aft,gd⟩::l) (aI n fr) h K:=xS (aVe hx) q hg
theorem xl1 [T:TiC P u ti] (hx:b5 n fr x=some (.ptr o p)) (hb:h[o]? =some (some ⟨e,cs⟩)) (hc:(cs.drop p).head? =some v) (hd:cI ti.desc=false) (hg:Gd ops n fr gd) (q:OpsX P N m ops l (aI n ((t,v)::fr)) h K):OpsX P N m ops (⟨some t,.load u x,ty,pos,aft,gd⟩::l) (aI n fr) h K:=xS (cA hx (ldP hb (qG T.h hd hc))) q hg
theorem xlN {fs:Array Field}{sz by_:Nat}{zz:Value} [T:TiC P u ⟨.struct fs,sz,by_,zz⟩] (hx:b5 n fr x=some (.ptr o p)) (hb:h[o]? =some (some ⟨e,cs⟩)) (hc:Tak cs p sz ds) (hg:Gd ops n fr gd) (q:OpsX P N m ops l (aI n ((t,.agg ds)::fr)) h K):OpsX P N m ops (⟨some t,.load u x,ty,pos,aft,gd⟩::l) (aI n fr) h K:=xS (cA hx (ldP hb (aDI T.h rfl hc.eq.2 hc.eq.1))) q hg
theorem xlX {α:Type}{E:α→V}{ml:List α}{r:α} [T:TiC P u ti] (hx:b5 n fr x=some (.ptr o j.toNat)) (hb:h[o]? =some (some ⟨e,ml.map E⟩)) (hd:cI ti.desc=false) (hi:bU ml j=some r) (hg:Gd ops n fr gd) (q:OpsX P N m ops l (aI n ((t,E r)::fr)) h K):OpsX P N m ops (⟨some t,.load u x,ty,pos,aft,gd⟩::l) (aI n fr) h K:=xS (cA hx (ldX T.h hd hb hi)) q hg
theorem aV7 {α:Type}{E:α→V}{ml:List α}{r:α} [T:TiC P u ti] (hx:b5 n fr x=some (.eptr (ml.map E) j.toNat p)) (hd:cI ti.desc=false) (hi:bU ml j=some r) (hc:((E r).cells.drop p).head? =some v) (hg:Gd ops n fr gd) (q:OpsX P N m ops l (aI n ((t,v)::fr)) h K):OpsX P N m ops (⟨some t,.load u x,ty,pos,aft,gd⟩::l) (aI n fr) h K:=xS (cA hx (ldR hi (qG T.h hd hc))) q hg
theorem aW6 {α:Type}{E:α→V}{ml:List α}{r:α}{fs:Array Field}{sz by_:Nat}{zz:Value} [T:TiC P u ⟨.struct fs,sz,by_,zz⟩] (hx:b5 n fr x=some (.eptr (ml.map E) j.toNat p)) (hi:bU ml j=some r) (hE:E r= .agg cs) (hc:Tak cs p sz ds) (hg:Gd ops n fr gd) (q:OpsX P N m ops l (aI n ((t,.agg ds)::fr)) h K):OpsX P N m ops (⟨some t,.load u x,ty,pos,aft,gd⟩::l) (aI n fr) h K:=xS (cA hx (ldR hi (by rw[hE];exact aDI T.h rfl hc.eq.2 hc.eq.1))) q hg
inductive ArM :List V→List V→Prop
 |a4 {k:IntKind} {q:List Int}:q.length=4→ArM (dL (eI k) q []) (q.map (eI k))
 |a8 {k:IntKind} {q:List Int}:q.length=8→ArM (ar8 (eI k) q []) (q.map (eI k))
 |a20 {k:IntKind} {q:List Int}:q.length=20→ArM (aH7 (eI k) q []) (q.map (eI k))
 |a32 {k:IntKind} {q:List Int}:q.length=32→ArM (bG (eI k) q []) (q.map (eI k))
 |a64 {k:IntKind} {q:List Int}:q.length=64→ArM (aIm (eI k) q []) (q.map (eI k))
theorem ArM.eq {a b:List V}(h:ArM a b):a=b:=by
 cases h with
 |a4 h=>exact aFe h
 |a8 h=>exact aSJ h
 |a20 h=>exact aSd h
 |a32 h=>exact u9 h
 |a64 h=>exact aRO h
theorem xlA {es:List V}{N' sz by_:Nat}{zz:Value} [T:TiC P u ⟨.array N' w,sz,by_,zz⟩] (hx:b5 n fr x=some (.ptr o p)) (hb:h[o]? =some (some ⟨e,cs⟩)) (hc:Tak cs p sz ds) (ha:ArM ds es) (hg:Gd ops n fr gd) (q:OpsX P N m ops l (aI n ((t,.agg es)::fr)) h K):OpsX P N m ops (⟨some t,.load u x,ty,pos,aft,gd⟩::l) (aI n fr) h K:=xS (cA hx (ldP hb (by rw[←ha.eq];exact aDI T.h rfl hc.eq.2 hc.eq.1))) q hg
theorem xlB {α:Type}{E:α→V}{ml:List α}{N' sz by_:Nat}{zz:Value} [T:TiC P u ⟨.array N' w,sz,by_,zz⟩] (hx:b5 n fr x=some (.ptr o 0)) (hb:h[o]? =some (some ⟨e,ml.map E⟩)) (hz:sz=N') (hl:ml.length=N') (hg:Gd ops n fr gd) (q:OpsX P N m ops l (aI n ((t,.agg (ml.map E))::fr)) h K):OpsX P N m ops (⟨some t,.load u x,ty,pos,aft,gd⟩::l) (aI n fr) h K:=xS (cA hx (ldA T.h hz hb hl)) q hg
theorem xiR {α:Type}{E:α→V}{nl:Option Bool}{ml:List α}{r:α}{sz by_:Nat}{zz:Value} [T:TiC P u ⟨.slice e,sz,by_,zz⟩] [D:TiC P e di] (hx:b5 n fr x=some (.row nl o (ml.map E))) (hy:b5 n fr y=some (eI k j)) (hs:di.size=o) (hi:bU ml j=some r) (hg:Gd ops n fr gd) (q:OpsX P N m ops l (aI n ((t,.eptr (ml.map E) j.toNat 0)::fr)) h K):OpsX P N m ops (⟨some t,.indexAddr u x y,ty,pos,aft,gd⟩::l) (aI n fr) h K:=xS (aDs hx hy (by subst hs;exact iaR T.h D.h hi)) q hg
theorem xiS {α:Type}{E:α→V}{ml:List α}{r:α}{q0 sz by_:Nat}{zz:Value}{ag:Bool} [T:TiC P u ⟨.slice e,sz,by_,zz⟩] [D:TiC P e di] (hx:b5 n fr x=some (.sl o 0 q0 1 ag)) (hy:b5 n fr y=some (eI k j)) {e':Nat} (hb:h[o]? =some (some ⟨e',ml.map E⟩)) (hi:bU ml j=some r) (hn:ml.length=q0) (hs:di.size=1) (hg:Gd ops n fr gd) (q:OpsX P N m ops l (aI n ((t,.ptr o j.toNat)::fr)) h K):OpsX P N m ops (⟨some t,.indexAddr u x y,ty,pos,aft,gd⟩::l) (aI n fr) h K:=xS (aDs hx hy (iaS hn T.h D.h hs hi)) q hg
theorem xiB {α:Type}{E:α→V}{ml:List α}{r:α}{N' sz by_:Nat}{zz:Value} [T:TiC P u ⟨.array N' e,sz,by_,zz⟩] [D:TiC P e di] (hx:b5 n fr x=some (.ptr o 0)) (hy:b5 n fr y=some (eI k j)) {e':Nat} (hb:h[o]? =some (some ⟨e',ml.map E⟩)) (hi:bX N' ml j=some r) (hs:di.size=1) (hg:Gd ops n fr gd) (q:OpsX P N m ops l (aI n ((t,.ptr o j.toNat)::fr)) h K):OpsX P N m ops (⟨some t,.indexAddr u x y,ty,pos,aft,gd⟩::l) (aI n fr) h K:=xS (aDs hx hy (iaB T.h D.h hs hi)) q hg
theorem xVv {jj ww:Nat}{want:Bool}(hj:(ops[jj]?).bind (·.dst)=some ww)(hl:b5 n fr (.tmp ww)=some (.sc undef))(q:OpsX P N m ops l (aI n ((t,.sc undef)::fr)) h K):OpsX P N m ops (⟨some t,op,ty,pos,aft,some (jj,want)⟩::l) (aI n fr) h K:=xS0 (svU hj hl) q
theorem xXx {jj ww:Nat}{want:Bool}(hj:(ops[jj]?).bind (·.dst)=some ww)(hl:b5 n fr (.tmp ww)=some (.sc (.bool c)))(hc:c= !want)(q:OpsX P N m ops l (aI n ((t,.sc undef)::fr)) h K):OpsX P N m ops (⟨some t,op,ty,pos,aft,some (jj,want)⟩::l) (aI n fr) h K:=xS0 (svX hj hl hc) q
def aR8 :List Oper→Bool
 | []=>true
 |o::l=>(match o.guard,o.op with
  |none,.pick _ _ _=>false
  |none,_=>true
  |some _,_=>false)&&aR8 l
theorem xqn {cc:Code}{id:Nat}(hn:aR8 l=true)(hr:OpsX P N none l.toArray l s h (Ex.then (AB P N cc Q) Q .normal)):AB P N (.seq (.region id l.toArray false) cc) Q s h:=xq hr
theorem xrn {id:Nat}(hn:aR8 l=true)(hr:OpsX P N none l.toArray l s h (Q .normal)):AB P N (.region id l.toArray false) Q s h:=xr hr
theorem xsA {α:Type}{E:α→V}{ml mm:List α}{N' sz by_ i':Nat}{zz:Value} [T:TiC P u ⟨.array N' e,sz,by_,zz⟩] (hx:b5 n fr x=some (.ptr o 0)) (hb:h[o]? =some (some ⟨i',ml.map E⟩)) (hy:b5 n fr y=some (.agg (mm.map E))) (hz:sz=N') (hE: ∀x,(E x).one=true) (h1:ml.length=N') (h2:mm.length=N') (hh:LSet h o (some ⟨i',mm.map E⟩) h') (hg:Gd ops n fr gd) (q:OpsX P N m ops l (aI n fr) h' K):OpsX P N m ops (⟨none,.store u x y,ty,pos,aft,gd⟩::l) (aI n fr) h K:=xN (v:= .sc undef) (h':=h') (bO hx hy (stA T.h hz hb hE h1 h2 hh.eq)) q hg
theorem xs [T:TiC P u ti] (hx:b5 n fr x=some (.ptr o p)) (hy:b5 n fr y=some v) (hb:h[o]? =some (some ⟨e,cs⟩)) {es fs:List V} (hv:Cel v es) (h1:es.length=ti.size) (h2:aXr (p+ti.size) cs.length=true) (hs:Spl cs p es fs) (hh:LSet h o (some ⟨e,fs⟩) h') (hg:Gd ops n fr gd) (q:OpsX P N m ops l (aI n fr) h' K):OpsX P N m ops (⟨none,.store u x y,ty,pos,aft,gd⟩::l) (aI n fr) h K:=by
 obtain⟨hv1,hv2⟩:=hv.eq
 refine xN (v:= .sc undef) (h':=h') (bO hx hy (jE T.h hb hv2 (by rw[hv1,h1]) (aXo h2) ?_)) q hg
 rw[hv1,hs.eq,hh.eq]
theorem xsX {α:Type}{E:α→V}{ml:List α}{r r':α} [T:TiC P u ti] (hx:b5 n fr x=some (.ptr o j.toNat)) (hb:h[o]? =some (some ⟨e,ml.map E⟩)) (hy:b5 n fr y=some (E r')) (hz:ti.size=1) (hi:bU ml j=some r) (ho:(E r').one=true) (hc:(E r').cells=[E r']) (hh:LSet h o (some ⟨e,(ml.set j.toNat r').map E⟩) h') (hg:Gd ops n fr gd) (q:OpsX P N m ops l (aI n fr) h' K):OpsX P N m ops (⟨none,.store u x y,ty,pos,aft,gd⟩::l) (aI n fr) h K:=xN (v:= .sc undef) (h':=h') (bO hx hy (aWB T.h hz hb hi ho hc hh.eq)) q hg
theorem xal {r:Nat} [A:NoA P e] [T:TiC P e ti] (hz:Zro ti.zero cs) (hh:Snoc h (some ⟨e,cs⟩) h') (hl:h.length=r) (hg:Gd ops n fr gd) (q:OpsX P N m ops l (aI n ((t,.ptr r 0)::fr)) h' K):OpsX P N m ops (⟨some t,.alloc e,ty,pos,aft,gd⟩::l) (aI n fr) h K:=
 xS (cY T.h (by rw[hz.eq.1];exact hz.eq.2) hl (by rw[hz.eq.1];exact hh.eq)) q hg
theorem aWZ {r N' sz by_ sz' by':Nat}{k':IntKind}{e':TypeId}{vs:List Value}{z':Value} [T:TiC P e ⟨.array N' e',sz,by_,.agg vs.toArray⟩] [D:TiC P e' ⟨.int k',sz',by',z'⟩] (hz:vs.map fB=(aXk N' 0).map (eI k')) (hh:Snoc h (some ⟨e,(aXk N' 0).map (eI k')⟩) h') (hl:h.length=r) (hg:Gd ops n fr gd) (q:OpsX P N m ops l (aI n ((t,.ptr r 0)::fr)) h' K):OpsX P N m ops (⟨some t,.alloc e,ty,pos,aft,gd⟩::l) (aI n fr) h K:=
 xS (cY T.h (by
  have e1:(TI.zero ⟨.array N' e',sz,by_,.agg vs.toArray⟩).cells.toList.map fB=(aXk N' 0).map (eI k'):=hz
  rw[e1];exact all_map (fun _=>rfl) _) hl (by
  have e1:(TI.zero ⟨.array N' e',sz,by_,.agg vs.toArray⟩).cells.toList.map fB=(aXk N' 0).map (eI k'):=hz
  rw[e1];exact hh.eq)) q hg
theorem xbx {r:Nat}(hx:b5 n fr x=some a)(hv:Cel a cs)(hh:Snoc h (some ⟨e,cs⟩) h')(hl:h.length=r)(hg:Gd ops n fr gd)(q:OpsX P N m ops l (aI n ((t,.ptr r 0)::fr)) h' K):OpsX P N m ops (⟨some t,.box e x,ty,pos,aft,gd⟩::l) (aI n fr) h K:=
 xS (aVt hx hv.eq.2 hl (by rw[hv.eq.1];exact hh.eq)) q hg
theorem xbd {fs:Array Field}{sz by_:Nat}{zz:Value}{pl:Array (Nat×Nat)}{ps:List (Nat×Operand)}{xs:List (Nat×V)} [T:TiC P u ⟨.struct fs,sz,by_,zz⟩] [L:PlC P u pl] [A:NoA P u] (hp:aFv n fr ps=some xs) (hz:Zro zz cs) (hf:Fil pl cs xs ds) (hg:Gd ops n fr gd) (q:OpsX P N m ops l (aI n ((t,.agg ds)::fr)) h K):OpsX P N m ops (⟨some t,.build u ps.toArray,ty,pos,aft,gd⟩::l) (aI n fr) h K:=
 xS (cE hp (tH T.h L.h (by rw[hz.eq.1];exact hf.eq))) q hg
theorem xpT (hz:b5 n fr z=some (eB c))(hc:c=true)(hx:b5 n fr x=some a)(hg:Gd ops n fr gd)(q:OpsX P N m ops l (aI n ((t,a)::fr)) h K):OpsX P N m ops (⟨some t,.pick z x y,ty,pos,aft,gd⟩::l) (aI n fr) h K:=xS (aTk hz hc hx) q hg
theorem xpF (hz:b5 n fr z=some (eB c))(hc:c=false)(hy:b5 n fr y=some a)(hg:Gd ops n fr gd)(q:OpsX P N m ops l (aI n ((t,a)::fr)) h K):OpsX P N m ops (⟨some t,.pick z x y,ty,pos,aft,gd⟩::l) (aI n fr) h K:=xS (aTd hz hc hy) q hg
inductive NumK (k:IntKind):Nat→List (Nat×V)→List Int→Prop
 |n {i:Nat}:NumK k i [] []
 |c {i:Nat} {x:Int} {ps:List (Nat×V)} {xs:List Int}:NumK k (i+1) ps xs→NumK k i ((i,eI k x)::ps) (x::xs)
theorem NumK.eq {k:IntKind}{i:Nat}{ps:List (Nat×V)}{xs:List Int}(h:NumK k i ps xs):wO i (xs.map (eI k))=ps:=by
 induction h with
 |n=>rfl
 |c _ ih=>simp only[aXw,wO];rw[ih]
inductive NumB :Nat→List (Nat×V)→List Bool→Prop
 |n {i:Nat}:NumB i [] []
 |c {i:Nat} {x:Bool} {ps:List (Nat×V)} {xs:List Bool}:NumB (i+1) ps xs→NumB i ((i,eB x)::ps) (x::xs)
theorem NumB.eq {i:Nat}{ps:List (Nat×V)}{xs:List Bool}(h:NumB i ps xs):wO i (xs.map eB)=ps:=by
 induction h with
 |n=>rfl
 |c _ ih=>simp only[aXw,wO];rw[ih]
inductive NumR {α:Type}(kk:Nat)(E:α→V):Nat→List (Nat×V)→List (List α)→Prop
 |n {i:Nat}:NumR kk E i [] []
 |c {i:Nat} {x:List α} {ps:List (Nat×V)} {xs:List (List α)}:NumR kk E (i+1) ps xs→NumR kk E i ((i,.row none kk (x.map E))::ps) (x::xs)
 |z {i:Nat} {ps:List (Nat×V)} {xs:List (List α)}:NumR kk E (i+1) ps xs→NumR kk E i ((i,.row none kk [])::ps) ([]::xs)
theorem NumR.eq {α:Type}{kk:Nat}{E:α→V}{i:Nat}{ps:List (Nat×V)}{xs:List (List α)}(h:NumR kk E i ps xs):wO i (xs.map (eL kk E))=ps:=by
 induction h with
 |n=>rfl
 |z _ ih=>simp only[aXw,wO];rw[ih];rfl
 |c _ ih=>simp only[aXw,wO];rw[ih]
theorem aWa {α:Type}{E:α→V}(hE: ∀x,(E x).one=true)(hc: ∀x,(E x).cells=[E x])(xs:List α):(xs.map E).all (fun x=>x.one&&(x.cells.length == 1))=true:=by
 simp[aXO,hE,hc]
theorem aR4 {α:Type}{E:α→V}{js:List α}{len sz by_ r:Nat}{zz:Value}{ps:List (Nat×Operand)}{xs:List (Nat×V)} [T:TiC P u ⟨.slice e,sz,by_,zz⟩] [D:TiC P e di] (hp:zX n fr ps=some xs) (hn:wO 0 (js.map E)=xs) (hE: ∀x,(E x).one=true) (hc: ∀x,(E x).cells=[E x]) (hs:di.size=1) {ag:Bool} (ha:cI di.desc=ag) (h1:aXr (len*1) (2^24)=true) (h2:aXr 1 len=true) (hlen:js.length=len) (hh:Snoc h (some ⟨e,js.map E⟩) h') (hl:h.length=r) (hg:Gd ops n fr gd) (q:OpsX P N m ops l (aI n ((t,.sl r 0 len 1 ag)::fr)) h' K):OpsX P N m ops (⟨some t,.buildSlice u len ps.toArray,ty,pos,aft,gd⟩::l) (aI n fr) h K:=
 xS (pT hp (aPb T.h D.h (aXo h1) (aXo h2) hs ha hn (aWa hE hc _) (by rw[aXG];exact hlen) hl hh.eq)) q hg
theorem aW1 {js:List Int}{len sz by_ r sz' by':Nat}{zz z':Value}{ps:List (Nat×Operand)}{xs:List (Nat×V)} [T:TiC P u ⟨.slice e,sz,by_,zz⟩] [D:TiC P e ⟨.int k,sz',by',z'⟩] (hp:zX n fr ps=some xs) (hn:NumK k 0 xs js) (hs:sz'=1) (h1:aXr (len*1) (2^24)=true) (h2:aXr 1 len=true) (hlen:js.length=len) (hh:Snoc h (some ⟨e,js.map (eI k)⟩) h') (hl:h.length=r) (hg:Gd ops n fr gd) (q:OpsX P N m ops l (aI n ((t,.sl r 0 len 1 false)::fr)) h' K):OpsX P N m ops (⟨some t,.buildSlice u len ps.toArray,ty,pos,aft,gd⟩::l) (aI n fr) h K:=aR4 (ag:=false) hp hn.eq (fun _=>rfl) (fun _=>rfl) hs rfl h1 h2 hlen hh hl hg q
theorem aWR {js:List Bool}{len sz by_ r sz' by':Nat}{zz z':Value}{ps:List (Nat×Operand)}{xs:List (Nat×V)} [T:TiC P u ⟨.slice e,sz,by_,zz⟩] [D:TiC P e ⟨.bool,sz',by',z'⟩] (hp:zX n fr ps=some xs) (hn:NumB 0 xs js) (hs:sz'=1) (h1:aXr (len*1) (2^24)=true) (h2:aXr 1 len=true) (hlen:js.length=len) (hh:Snoc h (some ⟨e,js.map eB⟩) h') (hl:h.length=r) (hg:Gd ops n fr gd) (q:OpsX P N m ops l (aI n ((t,.sl r 0 len 1 false)::fr)) h' K):OpsX P N m ops (⟨some t,.buildSlice u len ps.toArray,ty,pos,aft,gd⟩::l) (aI n fr) h K:=aR4 (ag:=false) hp hn.eq (fun _=>rfl) (fun _=>rfl) hs rfl h1 h2 hlen hh hl hg q
theorem aV8 {α:Type}{E:α→V}{kk:Nat}{js:List (List α)}{len sz by_ r sz' by':Nat}{zz z':Value}{e':TypeId}{ps:List (Nat×Operand)}{xs:List (Nat×V)} [T:TiC P u ⟨.slice e,sz,by_,zz⟩] [D:TiC P e ⟨.slice e',sz',by',z'⟩] (hp:zX n fr ps=some xs) (hn:NumR kk E 0 xs js) (hs:sz'=1) (h1:aXr (len*1) (2^24)=true) (h2:aXr 1 len=true) (hlen:js.length=len) (hh:Snoc h (some ⟨e,js.map (eL kk E)⟩) h') (hl:h.length=r) (hg:Gd ops n fr gd) (q:OpsX P N m ops l (aI n ((t,.sl r 0 len 1 false)::fr)) h' K):OpsX P N m ops (⟨some t,.buildSlice u len ps.toArray,ty,pos,aft,gd⟩::l) (aI n fr) h K:=aR4 (ag:=false) hp hn.eq (fun _=>rfl) (fun _=>rfl) hs rfl h1 h2 hlen hh hl hg q
theorem aWt {k':IntKind}{r:Int}(hx:b5 n fr x=some (eI k i))(hy:b5 n fr y=some (eI k' j))(hv:shl k i j=some r)(hg:Gd ops n fr gd)(q:OpsX P N m ops l (aI n ((t,eI k r)::fr)) h K):OpsX P N m ops (⟨some t,.binOp .shl u x y w,ty,pos,aft,gd⟩::l) (aI n fr) h K:=xS (tD hx hy (aQU _ _ _ _ hv)) q hg
theorem aWz {k':IntKind}{r:Int}(hx:b5 n fr x=some (eI k i))(hy:b5 n fr y=some (eI k' j))(hv:shr k i j=some r)(hg:Gd ops n fr gd)(q:OpsX P N m ops l (aI n ((t,eI k r)::fr)) h K):OpsX P N m ops (⟨some t,.binOp .shr u x y w,ty,pos,aft,gd⟩::l) (aI n fr) h K:=xS (tD hx hy (aQG _ _ _ _ hv)) q hg
theorem aWE {r:Int}(hx:b5 n fr x=some (eI k i))(hy:b5 n fr y=some (eI k j))(hv:quo k i j=some r)(hg:Gd ops n fr gd)(q:OpsX P N m ops l (aI n ((t,eI k r)::fr)) h K):OpsX P N m ops (⟨some t,.binOp .quo u x y w,ty,pos,aft,gd⟩::l) (aI n fr) h K:=xS (tD hx hy (aRl _ _ _ _ hv)) q hg
theorem aWs {r:Int}(hx:b5 n fr x=some (eI k i))(hy:b5 n fr y=some (eI k j))(hv:rem i j=some r)(hg:Gd ops n fr gd)(q:OpsX P N m ops l (aI n ((t,eI k r)::fr)) h K):OpsX P N m ops (⟨some t,.binOp .rem u x y w,ty,pos,aft,gd⟩::l) (aI n fr) h K:=xS (tD hx hy (aRi _ _ _ _ hv)) q hg
class DepC (P:Program):Prop where
 h:2≤P.depth
theorem xeA {k':IntKind}{N' sz by_ sz' by':Nat}{zz z':Value}{ml mm:List Int} [A:DepC P] [T:TiC P u ⟨.array N' e,sz,by_,zz⟩] [D:TiC P e ⟨.int k',sz',by',z'⟩] (hx:b5 n fr x=some (.agg (ml.map (eI k)))) (hy:b5 n fr y=some (.agg (mm.map (eI k)))) (hz:sz'=1) (h1:ml.length=N') (h2:mm.length=N') (hg:Gd ops n fr gd) (q:OpsX P N m ops l (aI n ((t,eB (ml == mm))::fr)) h K):OpsX P N m ops (⟨some t,.binOp .eql u x y w,ty,pos,aft,gd⟩::l) (aI n fr) h K:=xS (tD hx hy (aSe _ _ T.h D.h hz A.h h1 h2)) q hg
theorem xnA {k':IntKind}{N' sz by_ sz' by':Nat}{zz z':Value}{ml mm:List Int} [A:DepC P] [T:TiC P u ⟨.array N' e,sz,by_,zz⟩] [D:TiC P e ⟨.int k',sz',by',z'⟩] (hx:b5 n fr x=some (.agg (ml.map (eI k)))) (hy:b5 n fr y=some (.agg (mm.map (eI k)))) (hz:sz'=1) (h1:ml.length=N') (h2:mm.length=N') (hg:Gd ops n fr gd) (q:OpsX P N m ops l (aI n ((t,eB (!(ml == mm)))::fr)) h K):OpsX P N m ops (⟨some t,.binOp .neq u x y w,ty,pos,aft,gd⟩::l) (aI n fr) h K:=xS (tD hx hy (aRy _ _ T.h D.h hz A.h h1 h2)) q hg
theorem xsR {α:Type}{E:α→V}{ml r:List α}{nl:Option Bool}{sz by_:Nat}{zz:Value}{lo hi:Option Operand}{vl vh:Option V}{c1 c2:Int} [T:TiC P u ⟨.slice e,sz,by_,zz⟩] [D:TiC P e di] (hx:b5 n fr x=some (.row nl o (ml.map E))) (h1:aHb n fr lo=some vl) (h2:aHb n fr hi=some vh) (ha:qB vl=some c1) (hb:xO vh ml.length=some c2) (hs:sub ml c1 c2=some r) (ho:di.size=o) {nl':Option Bool} (hq:nlS nl=nl') (hg:Gd ops n fr gd) (q:OpsX P N m ops l (aI n ((t,.row nl' o (r.map E))::fr)) h K):OpsX P N m ops (⟨some t,.slice u x lo hi none,ty,pos,aft,gd⟩::l) (aI n fr) h K:=by
 subst ho hq;exact xS (cW hx h1 h2 (vX T.h D.h ha hb hs)) q hg
theorem xsM {α:Type}{E:α→V}{ml r:List α}{nl:Option Bool}{sz by_:Nat}{zz:Value}{lo:Option Operand}{hi mx:Operand}{vl:Option V}{c1 c2:Int}{k1 k2:IntKind} [T:TiC P u ⟨.slice e,sz,by_,zz⟩] [D:TiC P e di] (hx:b5 n fr x=some (.row nl o (ml.map E))) (h1:aHb n fr lo=some vl) (ha:qB vl=some c1) (h2:b5 n fr hi=some (eI k1 c2)) (h3:b5 n fr mx=some (eI k2 c2)) (hs:sub ml c1 c2=some r) (ho:di.size=o) (hg:Gd ops n fr gd) (q:OpsX P N m ops l (aI n ((t,.row (some false) o (r.map E))::fr)) h K):OpsX P N m ops (⟨some t,.slice u x lo (some hi) (some mx),ty,pos,aft,gd⟩::l) (aI n fr) h K:=by
 subst ho;exact xS (aQK hx h1 h2 h3 (slM T.h D.h ha hs)) q hg
theorem xsE {α:Type}{E:α→V}{ml:List α}{N' sz by_:Nat}{zz:Value} [T:TiC P u ⟨.array N' e,sz,by_,zz⟩] [D:TiC P e di] (hx:b5 n fr x=some (.eptr [.agg (ml.map E)] 0 0)) (hs:di.size=1) (ha:cI di.desc=false) (h1:ml.length=N') (h2:aXr 1 N'=true) (hg:Gd ops n fr gd) (q:OpsX P N m ops l (aI n ((t,.row none 1 (ml.map E))::fr)) h K):OpsX P N m ops (⟨some t,.slice u x none none none,ty,pos,aft,gd⟩::l) (aI n fr) h K:=xS (cW hx rfl rfl (slE T.h D.h hs ha h1 (aXo h2))) q hg
theorem xsL {α:Type}{E:α→V}{ml:List α}{N' sz by_ i':Nat}{zz:Value}{ag:Bool} [T:TiC P u ⟨.array N' e,sz,by_,zz⟩] [D:TiC P e di] (hx:b5 n fr x=some (.ptr o 0)) (hb:h[o]? =some (some ⟨i',ml.map E⟩)) (hs:di.size=1) (ha:cI di.desc=ag) (h1:ml.length=N') (h2:aXr 1 N'=true) (h3:aXr N' pJ=true) (hg:Gd ops n fr gd) (q:OpsX P N m ops l (aI n ((t,.sl o 0 N' 1 ag)::fr)) h K):OpsX P N m ops (⟨some t,.slice u x none none none,ty,pos,aft,gd⟩::l) (aI n fr) h K:=xS (cW hx rfl rfl (slA T.h D.h hs ha hb h1 ⟨aXo h2,aXo h3⟩)) q hg
theorem xiK {α:Type}{C:α→List V}{ml:List α}{r:α}{q0 sz by_ e':Nat}{zz:Value} [T:TiC P u ⟨.slice e,sz,by_,zz⟩] [D:TiC P e di] (hx:b5 n fr x=some (.sl o 0 q0 p true)) (hy:b5 n fr y=some (eI k j)) (hb:h[o]? =some (some ⟨e',ml.flatMap C⟩)) (hi:bU ml j=some r) (hn:ml.length=q0) (hs:di.size=p) (hg:Gd ops n fr gd) (q:OpsX P N m ops l (aI n ((t,.ptr o (0+j.toNat*p))::fr)) h K):OpsX P N m ops (⟨some t,.indexAddr u x y,ty,pos,aft,gd⟩::l) (aI n fr) h K:=xS (aDs hx hy (aWL hn T.h D.h hs hi)) q hg
inductive Sr1 {α:Type}(E:α→V)(h:Hp):V→List α→Prop
 |r {nl:Option Bool} {ml:List α}:(∀x,(E x).cells=[E x])→Sr1 E h (.row nl 1 (ml.map E)) ml
 |s {b q e:Nat} {ag:Bool} {ml:List α}:h[b]? =some (some ⟨e,ml.map E⟩)→ml.length=q→Sr1 E h (.sl b 0 q 1 ag) ml
 |n {nl:Option Bool} {k:Nat}:Sr1 E h (.row nl k []) []
theorem Sr1.eq {α:Type}{E:α→V}{h:Hp}{v:V}{ml:List α}(hs:Sr1 E h v ml):i3 h 1 v=some (ml.map E,ml.length):=by
 cases hs with
 |r hE=>exact aEA hE
 |s hb hq=>exact aRc hq hb
 |n=>exact aWD
inductive SrK {α:Type}(C:α→List V)(K:Nat)(h:Hp):V→List α→Prop
 |r {nl:Option Bool} {ml:List α}:SrK C K h (.row nl K (ml.map fun x=>V.agg (C x))) ml
 |s {b q e:Nat} {ml:List α}:(∀x,(C x).length=K)→h[b]? =some (some ⟨e,ml.flatMap C⟩)→ml.length=q→SrK C K h (.sl b 0 q K true) ml
 |n {nl:Option Bool} {k:Nat}:SrK C K h (.row nl k []) []
theorem SrK.eq {α:Type}{C:α→List V}{K:Nat}{h:Hp}{v:V}{ml:List α}(hs:SrK C K h v ml):i3 h K v=some (ml.flatMap C,ml.length):=by
 cases hs with
 |r=>exact aVV
 |s hC hb hq=>exact aVT hC hq hb
 |n=>exact aVS
theorem xap {α:Type}{E:α→V}{ml mm r:List α}{q0 sz by_ r0:Nat}{zz:Value}{ag:Bool}{h2:Hp} [T:TiC P u ⟨.slice e,sz,by_,zz⟩] [D:TiC P e di] (hx:b5 n fr x=some (.sl o 0 q0 1 ag)) (hy:b5 n fr y=some v) (hb:h[o]? =some (some ⟨e,ml.map E⟩)) (hs:Sr1 E h v mm) (hn:ml.length=q0) (h1:di.zero.cells.size=1) (h3:di.size=1) (h4:aXr 1 di.bytes=true) {bb:Nat} (hbb:di.bytes=bb) (ha:eD bb ml mm=some r) (hh:LSet h o none h2) (hh':Snoc h2 (some ⟨e,r.map E⟩) h') (hl:h.length=r0) (hg:Gd ops n fr gd) (q:OpsX P N m ops l (aI n ((t,.sl r0 0 r.length 1 ag)::fr)) h' K):OpsX P N m ops (⟨some t,.call ⟨.builtin .append,#[x,y],#[u,u]⟩,ty,pos,aft,gd⟩::l) (aI n fr) h K:=by
 subst hbb;exact xS (yC hx hy (aR9 hn T.h D.h ⟨h1,h3,aXo h4⟩ hb hs.eq ha hl (by rw[hh.eq,hh'.eq]))) q hg
theorem xan {α:Type}{E:α→V}{mm r:List α}{sz by_ r0 kk:Nat}{zz:Value}{ag:Bool}{h2:Hp} [T:TiC P u ⟨.slice e,sz,by_,zz⟩] [D:TiC P e di] (hx:b5 n fr x=some (.row (some true) kk [])) (hy:b5 n fr y=some v) (hs:Sr1 E h v mm) (h1:di.zero.cells.size=1) (h3:di.size=1) (h4:aXr 1 di.bytes=true) (hag:cI di.desc=ag) {bb:Nat} (hbb:di.bytes=bb) (ha:eD bb [] mm=some r) (hh:Snoc h none h2) (hh':Snoc h2 (some ⟨e,r.map E⟩) h') (hl:h2.length=r0) (hg:Gd ops n fr gd) (q:OpsX P N m ops l (aI n ((t,.sl r0 0 r.length 1 ag)::fr)) h' K):OpsX P N m ops (⟨some t,.call ⟨.builtin .append,#[x,y],#[u,u]⟩,ty,pos,aft,gd⟩::l) (aI n fr) h K:=by
 subst hbb;exact xS (yC hx hy (aWg T.h D.h ⟨h1,h3,aXo h4⟩ hs.eq hag ha (by rw[←hl,←hh.eq];simp) (by rw[hh.eq,hh'.eq]))) q hg
theorem xaf {α:Type}{E:α→V}{ml mm r:List α}{sz by_ r0:Nat}{zz:Value}{ag:Bool} [T:TiC P u ⟨.slice e,sz,by_,zz⟩] [D:TiC P e di] (hx:b5 n fr x=some (.row (some false) 1 (ml.map E))) (hy:b5 n fr y=some v) (hE: ∀x,(E x).cells=[E x]) (hs:Sr1 E h v mm) (hm:aXr 1 mm.length=true) (h1:di.zero.cells.size=1) (h3:di.size=1) (h4:aXr 1 di.bytes=true) (hag:cI di.desc=ag) {bb:Nat} (hbb:di.bytes=bb) (ha:eD bb ml mm=some r) (hh:Snoc h (some ⟨e,r.map E⟩) h') (hl:h.length=r0) (hg:Gd ops n fr gd) (q:OpsX P N m ops l (aI n ((t,.sl r0 0 r.length 1 ag)::fr)) h' K):OpsX P N m ops (⟨some t,.call ⟨.builtin .append,#[x,y],#[u,u]⟩,ty,pos,aft,gd⟩::l) (aI n fr) h K:=by
 subst hbb;exact xS (yC hx hy (aW7 T.h D.h ⟨h1,h3,aXo h4⟩ hE hs.eq (aXo hm) hag ha hl (by rw[hh.eq]))) q hg
theorem aWk {α:Type}{C:α→List V}{ml mm r:List α}{q0 sz by_ r0:Nat}{zz:Value}{h2:Hp} [T:TiC P u ⟨.slice e,sz,by_,zz⟩] [D:TiC P e di] (hx:b5 n fr x=some (.sl o 0 q0 p true)) (hy:b5 n fr y=some v) (hb:h[o]? =some (some ⟨e,ml.flatMap C⟩)) (hC: ∀x,(C x).length=p) (hs:SrK C p h v mm) (hn:ml.length=q0) (h1:di.zero.cells.size=p) (h3:di.size=p) (h4:aXr 1 di.bytes=true) (h5:aXr 1 p=true) {bb:Nat} (hbb:di.bytes=bb) (ha:eD bb ml mm=some r) (hh:LSet h o none h2) (hh':Snoc h2 (some ⟨e,r.flatMap C⟩) h') (hl:h.length=r0) (hg:Gd ops n fr gd) (q:OpsX P N m ops l (aI n ((t,.sl r0 0 r.length p true)::fr)) h' K):OpsX P N m ops (⟨some t,.call ⟨.builtin .append,#[x,y],#[u,u]⟩,ty,pos,aft,gd⟩::l) (aI n fr) h K:=by
 subst hbb;exact xS (yC hx hy (aVO hC hn T.h D.h ⟨h1,h3,aXo h4,aXo h5⟩ hb hs.eq ha hl (by rw[hh.eq,hh'.eq]))) q hg
end
structure aWh (q:Prop):Prop where
 h:q
section
variable {P:Program}{N n t:Nat}{m:Option (List Nat×List Nat)}{ops:Array Oper}{l:List Oper}{h:Hp}{K:List V→Hp→Prop}{op:Op}{ty:TypeId}{pos:String}{aft:Array Edge}{gd:Option (Nat×Bool)}{x y z:Operand}{Q:Ex→List V→Hp→Prop}{s:List V}{o e:Nat}{u w:TypeId}{bo:BinOp}{ob:Oper}{c:Code}{ws:List Operand}{ts:Array TypeId}{ps:List (Nat×Operand)}{lo hi:Option Operand}{hj mj:Operand}
theorem isX (k:OpsX P N m ops (ob::l) s h K):OpsX P N m ops (ob::l) s h K:=k
theorem isA (k:AB P N c Q s h):AB P N c Q s h:=k
theorem aSU (k:OpsX P N m ops (⟨some t,.call ⟨.builtin .len,ws.toArray,ts⟩,ty,pos,aft,gd⟩::l) s h K):OpsX P N m ops (⟨some t,.call ⟨.builtin .len,ws.toArray,ts⟩,ty,pos,aft,gd⟩::l) s h K:=k
theorem aUG (k:OpsX P N m ops (⟨some t,.call ⟨.builtin .append,ws.toArray,ts⟩,ty,pos,aft,gd⟩::l) s h K):OpsX P N m ops (⟨some t,.call ⟨.builtin .append,ws.toArray,ts⟩,ty,pos,aft,gd⟩::l) s h K:=k
theorem aTB (k:OpsX P N m ops (⟨some t,.move x,ty,pos,aft,gd⟩::l) s h K):OpsX P N m ops (⟨some t,.move x,ty,pos,aft,gd⟩::l) s h K:=k
theorem aS8 (k:OpsX P N m ops (⟨some t,.load u x,ty,pos,aft,gd⟩::l) s h K):OpsX P N m ops (⟨some t,.load u x,ty,pos,aft,gd⟩::l) s h K:=k
theorem aUm (k:OpsX P N m ops (⟨some t,.binOp bo u x y w,ty,pos,aft,gd⟩::l) s h K):OpsX P N m ops (⟨some t,.binOp bo u x y w,ty,pos,aft,gd⟩::l) s h K:=k
theorem aVq (k:OpsX P N m ops (⟨some t,.fieldAddr u x o,ty,pos,aft,gd⟩::l) s h K):OpsX P N m ops (⟨some t,.fieldAddr u x o,ty,pos,aft,gd⟩::l) s h K:=k
theorem aU2 (k:OpsX P N m ops (⟨some t,.assign x,ty,pos,aft,gd⟩::l) s h K):OpsX P N m ops (⟨some t,.assign x,ty,pos,aft,gd⟩::l) s h K:=k
theorem aVy (k:OpsX P N m ops (⟨some t,.indexAddr u x y,ty,pos,aft,gd⟩::l) s h K):OpsX P N m ops (⟨some t,.indexAddr u x y,ty,pos,aft,gd⟩::l) s h K:=k
theorem aVW (k:OpsX P N m ops (⟨none,.store u x y,ty,pos,aft,gd⟩::l) s h K):OpsX P N m ops (⟨none,.store u x y,ty,pos,aft,gd⟩::l) s h K:=k
theorem aVA (k:OpsX P N m ops (⟨some t,.alloc e,ty,pos,aft,gd⟩::l) s h K):OpsX P N m ops (⟨some t,.alloc e,ty,pos,aft,gd⟩::l) s h K:=k
theorem aVp (k:OpsX P N m ops (⟨some t,.buildSlice u o ps.toArray,ty,pos,aft,gd⟩::l) s h K):OpsX P N m ops (⟨some t,.buildSlice u o ps.toArray,ty,pos,aft,gd⟩::l) s h K:=k
theorem aVY (k:OpsX P N m ops (⟨some t,.slice u x lo (some hj) (some mj),ty,pos,aft,gd⟩::l) s h K):OpsX P N m ops (⟨some t,.slice u x lo (some hj) (some mj),ty,pos,aft,gd⟩::l) s h K:=k
theorem aVu (k:OpsX P N m ops (⟨some t,.slice u x lo hi none,ty,pos,aft,gd⟩::l) s h K):OpsX P N m ops (⟨some t,.slice u x lo hi none,ty,pos,aft,gd⟩::l) s h K:=k
theorem aVI (k:OpsX P N m ops (⟨some t,.pick x y z,ty,pos,aft,gd⟩::l) s h K):OpsX P N m ops (⟨some t,.pick x y z,ty,pos,aft,gd⟩::l) s h K:=k
theorem aVU (k:OpsX P N m ops (⟨some t,.nilCheck x,ty,pos,aft,gd⟩::l) s h K):OpsX P N m ops (⟨some t,.nilCheck x,ty,pos,aft,gd⟩::l) s h K:=k
end
theorem zz {p q:Prop}(k:q) (h:aWh q→p:=by(intro kk;(repeat (first|(apply isX;first|((with_reducible apply aSU);first|(apply xlR;exact rfl;(first|exact True.intro|exact⟨_,rfl,_,rfl,by assumption⟩))|(apply xlS;exact rfl;(first|exact True.intro|exact⟨_,rfl,_,rfl,by assumption⟩))|(apply xlT;exact rfl;(first|exact True.intro|exact⟨_,rfl,_,rfl,by assumption⟩)))|((with_reducible apply aUG);first|(apply xap;exact rfl;exact rfl;exact rfl;(first|exact Sr1.n|(apply Sr1.r;exact(fun _=>rfl))|(apply Sr1.s;exact rfl;(first|exact rfl|exact(by simp only[b7,b6,List.length_replicate];done)|exact bH (by assumption)|exact cP (by assumption))));(first|exact rfl|exact(by simp only[b7,b6,List.length_replicate];done)|exact bH (by assumption)|exact cP (by assumption));exact rfl;exact rfl;exact rfl;exact rfl;assumption;(repeat (first|exact LSet.z|apply LSet.s));(repeat (first|exact Snoc.n|apply Snoc.c));(first|exact(by simp only[List.length_cons,List.length_nil,Nat.zero_add,Nat.reduceAdd]<;>rfl)|exact rfl);(first|exact True.intro|exact⟨_,rfl,_,rfl,by assumption⟩))|(apply xan;exact rfl;exact rfl;(first|exact Sr1.n|(apply Sr1.r;exact(fun _=>rfl))|(apply Sr1.s;exact rfl;(first|exact rfl|exact(by simp only[b7,b6,List.length_replicate];done)|exact bH (by assumption)|exact cP (by assumption))));exact rfl;exact rfl;exact rfl;exact rfl;exact rfl;assumption;(repeat (first|exact Snoc.n|apply Snoc.c));(repeat (first|exact Snoc.n|apply Snoc.c));(first|exact(by simp only[List.length_cons,List.length_nil,Nat.zero_add,Nat.reduceAdd]<;>rfl)|exact rfl);(first|exact True.intro|exact⟨_,rfl,_,rfl,by assumption⟩))|(apply xaf;exact rfl;exact rfl;exact(fun _=>rfl);(first|exact Sr1.n|(apply Sr1.r;exact(fun _=>rfl))|(apply Sr1.s;exact rfl;(first|exact rfl|exact(by simp only[b7,b6,List.length_replicate];done)|exact bH (by assumption)|exact cP (by assumption))));(first|exact rfl);exact rfl;exact rfl;exact rfl;exact rfl;exact rfl;assumption;(repeat (first|exact Snoc.n|apply Snoc.c));(first|exact(by simp only[List.length_cons,List.length_nil,Nat.zero_add,Nat.reduceAdd]<;>rfl)|exact rfl);(first|exact True.intro|exact⟨_,rfl,_,rfl,by assumption⟩))|(apply aWk;exact rfl;exact rfl;exact rfl;exact(fun _=>rfl);(first|exact SrK.n|exact SrK.r|(apply SrK.s;exact(fun _=>rfl);exact rfl;(first|exact rfl|exact(by simp only[b7,b6,List.length_replicate];done)|exact bH (by assumption)|exact cP (by assumption))));(first|exact rfl|exact(by simp only[b7,b6,List.length_replicate];done)|exact bH (by assumption)|exact cP (by assumption));exact rfl;exact rfl;exact rfl;exact rfl;exact rfl;assumption;(repeat (first|exact LSet.z|apply LSet.s));(repeat (first|exact Snoc.n|apply Snoc.c));(first|exact(by simp only[List.length_cons,List.length_nil,Nat.zero_add,Nat.reduceAdd]<;>rfl)|exact rfl);(first|exact True.intro|exact⟨_,rfl,_,rfl,by assumption⟩))|(apply xanK;exact rfl;exact rfl;(first|exact SrK.n|exact SrK.r|(apply SrK.s;exact(fun _=>rfl);exact rfl;(first|exact rfl|exact(by simp only[b7,b6,List.length_replicate];done)|exact bH (by assumption)|exact cP (by assumption))));exact rfl;exact rfl;exact rfl;exact rfl;exact rfl;exact rfl;assumption;(repeat (first|exact Snoc.n|apply Snoc.c));(repeat (first|exact Snoc.n|apply Snoc.c));(first|exact(by simp only[List.length_cons,List.length_nil,Nat.zero_add,Nat.reduceAdd]<;>rfl)|exact rfl);(first|exact True.intro|exact⟨_,rfl,_,rfl,by assumption⟩)))|((with_reducible apply aTB);first|(apply xmc;(first|exact OfC.i|exact OfC.b|exact OfC.l|exact OfC.s|exact OfC.p);(first|exact True.intro|exact⟨_,rfl,_,rfl,by assumption⟩))|(apply xm;exact rfl;(first|exact True.intro|exact⟨_,rfl,_,rfl,by assumption⟩)))|((with_reducible apply aS8);first|(apply xl1;exact rfl;exact rfl;exact rfl;exact rfl;(first|exact True.intro|exact⟨_,rfl,_,rfl,by assumption⟩))|(apply aV7;exact rfl;exact rfl;(first|assumption|exact r6 (by assumption));exact rfl;(first|exact True.intro|exact⟨_,rfl,_,rfl,by assumption⟩))|(apply xlX;exact rfl;exact rfl;exact rfl;(first|assumption|exact r6 (by assumption));(first|exact True.intro|exact⟨_,rfl,_,rfl,by assumption⟩))|(apply xlN;exact rfl;exact rfl;(first|exact Tak.w rfl|(repeat (first|exact Tak.d|(apply Tak.t;(first|exact IsA.c|exact IsA.a4|exact IsA.a32|exact IsA.a8|exact IsA.a20|exact IsA.a64);exact rfl)|(apply Tak.s;(first|exact IsA.c|exact IsA.a4|exact IsA.a32|exact IsA.a8|exact IsA.a20|exact IsA.a64);exact rfl))));(first|exact True.intro|exact⟨_,rfl,_,rfl,by assumption⟩))|(apply aW6;exact rfl;(first|assumption|exact r6 (by assumption));exact rfl;(first|exact Tak.w rfl|(repeat (first|exact Tak.d|(apply Tak.t;(first|exact IsA.c|exact IsA.a4|exact IsA.a32|exact IsA.a8|exact IsA.a20|exact IsA.a64);exact rfl)|(apply Tak.s;(first|exact IsA.c|exact IsA.a4|exact IsA.a32|exact IsA.a8|exact IsA.a20|exact IsA.a64);exact rfl))));(first|exact True.intro|exact⟨_,rfl,_,rfl,by assumption⟩))|(apply xlB;exact rfl;exact rfl;exact rfl;(first|exact rfl|exact(by simp only[b7,b6,List.length_replicate];done)|exact bH (by assumption)|exact cP (by assumption));(first|exact True.intro|exact⟨_,rfl,_,rfl,by assumption⟩))|(apply xlA;exact rfl;exact rfl;(first|exact Tak.w rfl|(repeat (first|exact Tak.d|(apply Tak.t;(first|exact IsA.c|exact IsA.a4|exact IsA.a32|exact IsA.a8|exact IsA.a20|exact IsA.a64);exact rfl)|(apply Tak.s;(first|exact IsA.c|exact IsA.a4|exact IsA.a32|exact IsA.a8|exact IsA.a20|exact IsA.a64);exact rfl))));(first|(apply ArM.a32;(first|exact rfl|exact(by simp only[b7,b6,List.length_replicate];done)|exact bH (by assumption)|exact cP (by assumption)))|(apply ArM.a4;(first|exact rfl|exact(by simp only[b7,b6,List.length_replicate];done)|exact bH (by assumption)|exact cP (by assumption)))|(apply ArM.a8;(first|exact rfl|exact(by simp only[b7,b6,List.length_replicate];done)|exact bH (by assumption)|exact cP (by assumption)))|(apply ArM.a20;(first|exact rfl|exact(by simp only[b7,b6,List.length_replicate];done)|exact bH (by assumption)|exact cP (by assumption)))|(apply ArM.a64;(first|exact rfl|exact(by simp only[b7,b6,List.length_replicate];done)|exact bH (by assumption)|exact cP (by assumption))));(first|exact True.intro|exact⟨_,rfl,_,rfl,by assumption⟩))|(apply xleA;exact rfl;(first|assumption|exact r6 (by assumption));exact rfl;(first|exact Tak.w rfl|(repeat (first|exact Tak.d|(apply Tak.t;(first|exact IsA.c|exact IsA.a4|exact IsA.a32|exact IsA.a8|exact IsA.a20|exact IsA.a64);exact rfl)|(apply Tak.s;(first|exact IsA.c|exact IsA.a4|exact IsA.a32|exact IsA.a8|exact IsA.a20|exact IsA.a64);exact rfl))));(first|(apply ArM.a32;(first|exact rfl|exact(by simp only[b7,b6,List.length_replicate];done)|exact bH (by assumption)|exact cP (by assumption)))|(apply ArM.a4;(first|exact rfl|exact(by simp only[b7,b6,List.length_replicate];done)|exact bH (by assumption)|exact cP (by assumption)))|(apply ArM.a8;(first|exact rfl|exact(by simp only[b7,b6,List.length_replicate];done)|exact bH (by assumption)|exact cP (by assumption)))|(apply ArM.a20;(first|exact rfl|exact(by simp only[b7,b6,List.length_replicate];done)|exact bH (by assumption)|exact cP (by assumption)))|(apply ArM.a64;(first|exact rfl|exact(by simp only[b7,b6,List.length_replicate];done)|exact bH (by assumption)|exact cP (by assumption))));(first|exact True.intro|exact⟨_,rfl,_,rfl,by assumption⟩)))|((with_reducible apply aUm);first|(apply xb;exact rfl;exact rfl;exact rfl;(first|exact True.intro|exact⟨_,rfl,_,rfl,by assumption⟩))|(apply aWz;exact rfl;exact rfl;assumption;(first|exact True.intro|exact⟨_,rfl,_,rfl,by assumption⟩))|(apply aWt;exact rfl;exact rfl;assumption;(first|exact True.intro|exact⟨_,rfl,_,rfl,by assumption⟩))|(apply aWE;exact rfl;exact rfl;(first|assumption|exact rfl);(first|exact True.intro|exact⟨_,rfl,_,rfl,by assumption⟩))|(apply aWs;exact rfl;exact rfl;(first|assumption|exact rfl);(first|exact True.intro|exact⟨_,rfl,_,rfl,by assumption⟩))|(apply xeA;exact rfl;exact rfl;exact rfl;(first|exact rfl|exact(by simp only[b7,b6,List.length_replicate];done)|exact bH (by assumption)|exact cP (by assumption));(first|exact rfl|exact(by simp only[b7,b6,List.length_replicate];done)|exact bH (by assumption)|exact cP (by assumption));(first|exact True.intro|exact⟨_,rfl,_,rfl,by assumption⟩))|(apply xnA;exact rfl;exact rfl;exact rfl;(first|exact rfl|exact(by simp only[b7,b6,List.length_replicate];done)|exact bH (by assumption)|exact cP (by assumption));(first|exact rfl|exact(by simp only[b7,b6,List.length_replicate];done)|exact bH (by assumption)|exact cP (by assumption));(first|exact True.intro|exact⟨_,rfl,_,rfl,by assumption⟩)))|((with_reducible apply aVq);first|(apply xfp;exact rfl;(first|(with_reducible exact Nat.zero_add _)|exact rfl);(first|exact True.intro|exact⟨_,rfl,_,rfl,by assumption⟩))|(apply xfe;exact rfl;(first|(with_reducible exact Nat.zero_add _)|exact rfl);(first|exact True.intro|exact⟨_,rfl,_,rfl,by assumption⟩)))|((with_reducible apply aU2);first|(apply xac;(first|exact OfC.i|exact OfC.b|exact OfC.l|exact OfC.s|exact OfC.p);(first|exact True.intro|exact⟨_,rfl,_,rfl,by assumption⟩))|(apply xa;exact rfl;(first|exact True.intro|exact⟨_,rfl,_,rfl,by assumption⟩)))|(apply xe;exact rfl;exact rfl;(first|exact True.intro|exact⟨_,rfl,_,rfl,by assumption⟩))|((with_reducible apply aVy);first|(apply xiR;exact rfl;exact rfl;exact rfl;(first|assumption|exact r6 (by assumption));(first|exact True.intro|exact⟨_,rfl,_,rfl,by assumption⟩))|(apply xiS;exact rfl;exact rfl;exact rfl;(first|assumption|exact r6 (by assumption));(first|exact rfl|exact(by simp only[b7,b6,List.length_replicate];done)|exact bH (by assumption)|exact cP (by assumption));exact rfl;(first|exact True.intro|exact⟨_,rfl,_,rfl,by assumption⟩))|(apply xiB;exact rfl;exact rfl;exact rfl;assumption;exact rfl;(first|exact True.intro|exact⟨_,rfl,_,rfl,by assumption⟩))|(apply xiK;exact rfl;exact rfl;exact rfl;(first|assumption|exact r6 (by assumption));(first|exact rfl|exact(by simp only[b7,b6,List.length_replicate];done)|exact bH (by assumption)|exact cP (by assumption));exact rfl;(first|exact True.intro|exact⟨_,rfl,_,rfl,by assumption⟩)))|(apply xci;exact rfl;(first|exact True.intro|exact⟨_,rfl,_,rfl,by assumption⟩))|((with_reducible apply aVW);first|(apply xsA;exact rfl;exact rfl;exact rfl;exact rfl;exact(fun _=>rfl);(first|exact rfl|exact(by simp only[b7,b6,List.length_replicate];done)|exact bH (by assumption)|exact cP (by assumption));(first|exact rfl|exact(by simp only[b7,b6,List.length_replicate];done)|exact bH (by assumption)|exact cP (by assumption));(repeat (first|exact LSet.z|apply LSet.s));(first|exact True.intro|exact⟨_,rfl,_,rfl,by assumption⟩))|(apply xs;exact rfl;exact rfl;exact rfl;(first|exact Cel.a rfl|exact Cel.o rfl rfl|exact Cel.m (fun _=>rfl));exact rfl;exact rfl;(first|exact Spl.w rfl|(repeat (first|exact Spl.d|(apply Spl.p;(first|exact IsA.c|exact IsA.a4|exact IsA.a32|exact IsA.a8|exact IsA.a20|exact IsA.a64);(first|exact IsA.c|exact IsA.a4|exact IsA.a32|exact IsA.a8|exact IsA.a20|exact IsA.a64))|(apply Spl.s;(first|exact IsA.c|exact IsA.a4|exact IsA.a32|exact IsA.a8|exact IsA.a20|exact IsA.a64);exact rfl))));(repeat (first|exact LSet.z|apply LSet.s));(first|exact True.intro|exact⟨_,rfl,_,rfl,by assumption⟩))|(apply xsX;exact rfl;exact rfl;exact rfl;exact rfl;(first|assumption|exact r6 (by assumption));exact rfl;exact rfl;(repeat (first|exact LSet.z|apply LSet.s));(first|exact True.intro|exact⟨_,rfl,_,rfl,by assumption⟩)))|((with_reducible apply aVA);first|(apply aWZ;exact rfl;(repeat (first|exact Snoc.n|apply Snoc.c));(first|exact(by simp only[List.length_cons,List.length_nil,Nat.zero_add,Nat.reduceAdd]<;>rfl)|exact rfl);(first|exact True.intro|exact⟨_,rfl,_,rfl,by assumption⟩))|(apply xal;(first|(apply Zro.o;(first|exact OfC.i|exact OfC.b|exact OfC.l|exact OfC.s|exact OfC.p))|(apply Zro.a;repeat (first|exact OfCs.n|(apply OfCs.c;(first|exact OfC.i|exact OfC.b|exact OfC.l|exact OfC.s|exact OfC.p)))));(repeat (first|exact Snoc.n|apply Snoc.c));(first|exact(by simp only[List.length_cons,List.length_nil,Nat.zero_add,Nat.reduceAdd]<;>rfl)|exact rfl);(first|exact True.intro|exact⟨_,rfl,_,rfl,by assumption⟩)))|(apply xbx;exact rfl;(first|exact Cel.a rfl|exact Cel.o rfl rfl|exact Cel.m (fun _=>rfl));(repeat (first|exact Snoc.n|apply Snoc.c));(first|exact(by simp only[List.length_cons,List.length_nil,Nat.zero_add,Nat.reduceAdd]<;>rfl)|exact rfl);(first|exact True.intro|exact⟨_,rfl,_,rfl,by assumption⟩))|((with_reducible apply aVp);first|(apply aW1;exact rfl;(repeat (first|exact NumK.n|apply NumK.c));exact rfl;exact rfl;exact rfl;exact rfl;(repeat (first|exact Snoc.n|apply Snoc.c));(first|exact(by simp only[List.length_cons,List.length_nil,Nat.zero_add,Nat.reduceAdd]<;>rfl)|exact rfl);(first|exact True.intro|exact⟨_,rfl,_,rfl,by assumption⟩))|(apply aV8;exact rfl;(repeat (first|exact NumR.n|apply NumR.z|apply NumR.c));exact rfl;exact rfl;exact rfl;exact rfl;(repeat (first|exact Snoc.n|apply Snoc.c));(first|exact(by simp only[List.length_cons,List.length_nil,Nat.zero_add,Nat.reduceAdd]<;>rfl)|exact rfl);(first|exact True.intro|exact⟨_,rfl,_,rfl,by assumption⟩))|(apply aWR;exact rfl;(repeat (first|exact NumB.n|apply NumB.c));exact rfl;exact rfl;exact rfl;exact rfl;(repeat (first|exact Snoc.n|apply Snoc.c));(first|exact(by simp only[List.length_cons,List.length_nil,Nat.zero_add,Nat.reduceAdd]<;>rfl)|exact rfl);(first|exact True.intro|exact⟨_,rfl,_,rfl,by assumption⟩)))|((with_reducible apply aVY);first|(apply xsM;exact rfl;exact rfl;exact rfl;exact rfl;exact rfl;assumption;exact rfl;(first|exact True.intro|exact⟨_,rfl,_,rfl,by assumption⟩)))|((with_reducible apply aVu);first|(apply xsR;exact rfl;exact rfl;exact rfl;exact rfl;exact rfl;assumption;exact rfl;exact rfl;(first|exact True.intro|exact⟨_,rfl,_,rfl,by assumption⟩))|(apply xsL;exact rfl;exact rfl;exact rfl;exact rfl;(first|exact rfl|exact(by simp only[b7,b6,List.length_replicate];done)|exact bH (by assumption)|exact cP (by assumption));exact rfl;exact rfl;(first|exact True.intro|exact⟨_,rfl,_,rfl,by assumption⟩))|(apply xsE;exact rfl;exact rfl;exact rfl;(first|exact rfl|exact(by simp only[b7,b6,List.length_replicate];done)|exact bH (by assumption)|exact cP (by assumption));exact rfl;(first|exact True.intro|exact⟨_,rfl,_,rfl,by assumption⟩)))|(apply xno;exact rfl;(first|exact True.intro|exact⟨_,rfl,_,rfl,by assumption⟩))|(apply xbd;exact rfl;(first|(apply Zro.o;(first|exact OfC.i|exact OfC.b|exact OfC.l|exact OfC.s|exact OfC.p))|(apply Zro.a;repeat (first|exact OfCs.n|(apply OfCs.c;(first|exact OfC.i|exact OfC.b|exact OfC.l|exact OfC.s|exact OfC.p)))));(repeat (first|exact Fil.n|(apply Fil.c;exact rfl;(first|exact Cel.a rfl|exact Cel.o rfl rfl|exact Cel.m (fun _=>rfl));exact rfl;exact rfl;(first|exact Spl.w rfl|(repeat (first|exact Spl.d|(apply Spl.p;(first|exact IsA.c|exact IsA.a4|exact IsA.a32|exact IsA.a8|exact IsA.a20|exact IsA.a64);(first|exact IsA.c|exact IsA.a4|exact IsA.a32|exact IsA.a8|exact IsA.a20|exact IsA.a64))|(apply Spl.s;(first|exact IsA.c|exact IsA.a4|exact IsA.a32|exact IsA.a8|exact IsA.a20|exact IsA.a64);exact rfl)))))));(first|exact True.intro|exact⟨_,rfl,_,rfl,by assumption⟩))|(apply xfd;exact rfl;exact rfl;exact rfl;exact rfl;(first|exact True.intro|exact⟨_,rfl,_,rfl,by assumption⟩))|((with_reducible apply aVI);first|(apply xpT;exact rfl;(first|assumption|exact rfl);exact rfl;(first|exact True.intro|exact⟨_,rfl,_,rfl,by assumption⟩))|(apply xpF;exact rfl;(first|assumption|exact rfl);exact rfl;(first|exact True.intro|exact⟨_,rfl,_,rfl,by assumption⟩)))|((with_reducible apply aVU);first|(apply xnp;exact rfl;(first|exact True.intro|exact⟨_,rfl,_,rfl,by assumption⟩))|(apply xne;exact rfl;(first|exact True.intro|exact⟨_,rfl,_,rfl,by assumption⟩)))|(apply xVv;exact rfl;exact rfl)|(apply xXx;exact rfl;exact rfl;assumption))|apply OpsX.nil|((with_reducible apply isA);first|((with_reducible apply xqn);exact rfl)|(with_reducible apply AB.skip)|((with_reducible apply xrn);exact rfl)|(with_reducible apply AB.ret)|(with_reducible apply AB.exit))|(with_reducible apply Ex.then_mk)|(with_reducible apply Ex.inBlock_mk)|(with_reducible apply Ex.then_exit_mk)|(with_reducible apply Ex.inBlock_same_mk)|((with_reducible apply Ex.inBlock_other_mk);exact rfl)|(with_reducible apply Ex.then_ret_mk)|(with_reducible apply Ex.inBlock_ret_mk)));exact kk.1)):p:=h ⟨k⟩
theorem Conv.ptr {α:Type}{E:α→V}{l:List α}{h h':Hp}(hs:Sub h h'){b:Nat}{e:TypeId}(hb:h[b]? =some (some ⟨e,l.map E⟩))(hb':h'[b]? =some none)(hsh: ∀x,(E x).shut=true)(hn:0<l.length):Conv h h' (.ptr b 0) (.eptr [.agg (l.map E)] 0 0):=by
 intro A M w v H hv
 obtain⟨hone,_⟩:=H.blk b _ hb
 unfold VR at hv⊢
 obtain⟨g,sh,hm,rfl,hshp⟩:=hv
 obtain⟨_,⟨hm',_⟩|⟨g',a9,hm',hA,_⟩⟩:=H.blk b _ hb
 ·rw[hm]at hm';cases hm'
 rw[hm]at hm'
 injection hm' with hm'
 injection hm' with hm'
 subst hm'
 obtain⟨vs,hvs,hl⟩:=aGa H hb hm hshp 0
 rw[aXI]at hvs
 have hX: ¬Xs A M h' g:=by
  rintro(ha|⟨c,C,hc,hmc⟩)
  ·exact hA ha
  obtain⟨C',hc'⟩:=hs c C hc
  have:=H.inj c b C' _ g hc' hb hmc hm
  subst this
  rw[hb']at hc;cases hc
 have hc2:VCells (Xs A M h') [] w (l.map E) vs:=VCells.mk hvs.len fun i c u hc hu=>by
  obtain⟨u',hu',hr⟩:=hvs.get hc
  rw[hu]at hu'
  injection hu' with hu'
  subst hu'
  have:c.shut=true:=by
   rw[List.getElem?_map]at hc
   cases hq:l[i]? with
   |none=>rw[hq]at hc;cases hc
   |some y=>rw[hq]at hc;injection hc with hc;subst hc;exact hsh y
  exact(hr.shut this).avoid (fun _ _ hx=>hs.xs hx)
 refine⟨⟨g,0,none⟩,l.length, ?_,hn,fun _=>hX,rfl, ?_, ?_⟩
 ·simp[Addr.add]
 ·intro e' he'
  rw[List.mem_singleton]at he'
  subst he'
  simp only[V.okElem,V.flatOk,V.cells,aXD,beq_iff_eq,aXG,and_true]
  exact aXO.2 hone
 unfold VRow
 refine⟨⟨.agg vs.toArray,by unfold VR;exact⟨vs,rfl,hc2⟩, ?_, ?_⟩,by unfold VRow;trivial⟩
 ·show vs.toArray.size=l.length
  rw[List.size_toArray,←hvs.len,aXG]
 exact hl
inductive PCv (h h':Hp):List (Nat×V)→List (Nat×V)→Prop
 |n:PCv h h' [] []
 |s {t:Nat} {x:V} {fr fr':List (Nat×V)}:PCv h h' fr fr'→PCv h h' ((t,x)::fr) ((t,x)::fr')
 |r {t b q:Nat} {e:TypeId} {cs:List V} {ag:Bool} {fr fr':List (Nat×V)}:h[b]? =some (some ⟨e,cs⟩)→h'[b]? =some none→cs.all V.shut=true→q=cs.length→PCv h h' fr fr'→PCv h h' ((t,.sl b 0 q 1 ag)::fr) ((t,.row none 1 cs)::fr')
 |p {α:Type} {E:α→V} {l:List α} {t b:Nat} {e:TypeId} {fr fr':List (Nat×V)}:h[b]? =some (some ⟨e,l.map E⟩)→h'[b]? =some none→(∀x,(E x).shut=true)→aXr 1 l.length=true→PCv h h' fr fr'→PCv h h' ((t,.ptr b 0)::fr) ((t,.eptr [.agg (l.map E)] 0 0)::fr')
 |k {α:Type} {C:α→List V} {K:Nat} {l:List α} {t b q:Nat} {e:TypeId} {fr fr':List (Nat×V)}:h[b]? =some (some ⟨e,l.flatMap C⟩)→h'[b]? =some none→(∀x,(C x).length=K)→(∀x,(C x).all V.one=true)→(∀x,(C x).all V.shut=true)→q=l.length→PCv h h' fr fr'→PCv h h' ((t,.sl b 0 q K true)::fr) ((t,.row none K (l.map fun x=>V.agg (C x)))::fr')
theorem PCv.get {h h':Hp}(hs:Sub h h'){fr fr':List (Nat×V)}(p:PCv h h' fr fr'): ∀(t:Nat)(y:V),i5 fr' t=some y→ ∃x,i5 fr t=some x∧Conv h h' x y:=by
 induction p with
 |n=>intro t y hy;cases hy
 | @s u x fr fr' _ ih=>
  intro t y hy
  simp only[i5]at hy⊢
  cases hb:aXL u t with
  |true=>rw[hb]at hy;simp only[cond_true,aXq]at hy ⊢; subst hy;exact⟨x,rfl,Conv.same hs⟩
  |false=>rw[hb]at hy;exact ih t y hy
 | @r u b q e cs ag fr fr' h1 h2 h3 h4 _ ih=>
  intro t y hy
  simp only[i5]at hy⊢
  cases hb:aXL u t with
  |true=>rw[hb]at hy;simp only[cond_true,aXq]at hy ⊢; subst hy;exact⟨_,rfl,Conv.row hs h1 h2 h3 h4⟩
  |false=>rw[hb]at hy;exact ih t y hy
 | @p α E l u b e fr fr' h1 h2 h3 h4 _ ih=>
  intro t y hy
  simp only[i5]at hy⊢
  cases hb:aXL u t with
  |true=>rw[hb]at hy;simp only[cond_true,aXq]at hy ⊢; subst hy;exact⟨_,rfl,Conv.ptr hs h1 h2 h3 (aXo h4)⟩
  |false=>rw[hb]at hy;exact ih t y hy
 | @k α C K l u b q e fr fr' h1 h2 h3 h4 h5 h6 _ ih=>
  intro t y hy
  simp only[i5]at hy⊢
  cases hb:aXL u t with
  |true=>rw[hb]at hy;simp only[cond_true,aXq]at hy ⊢; subst hy;exact⟨_,rfl,Conv.rowK h3 h4 h5 hs h1 h2 h6⟩
  |false=>rw[hb]at hy;exact ih t y hy
theorem Ghost.fz {N n b:Nat}{fr fr':List (Nat×V)}{h h':Hp}(he:h.set b none=h')(hp:PCv h h' fr fr'):Ghost N (aI n fr) h (aI n fr') h':=by
 subst he
 have hg: ∀{j:Nat}{B:Blk},(h.set b none)[j]? =some (some B)→h[j]? =some (some B):=by
  intro j B hj
  by_cases hij:b=j
  ·subst hij
   rw[List.getElem?_set]at hj
   split at hj
   ·split at hj<;>cases hj
   rename_i hne;exact absurd rfl hne
  rwa[aXH hij]at hj
 have hs:Sub h (h.set b none):=fun j B hj=>⟨B,hg hj⟩
 intro A M a w hN R
 refine⟨M,rfl,⟨⟨by rw[aXQ];exact R.hr.len,R.hr.alt, ?_, ?_,R.hr.glob.avoid fun g _ hx=>hx.elim .inl (fun hl=> .inr (hs.live hl))⟩, ?_,R.defers⟩,fun g hl=>hs.live hl⟩
 ·intro j B hj
  obtain⟨h1,h2⟩:=R.hr.blk j B (hg hj)
  refine⟨h1, ?_⟩
  rcases h2 with⟨hn,hc0⟩|⟨g,cs,hgm,hA,hw,hle,hcs⟩
  ·exact .inl ⟨hn,hc0⟩
  exact .inr ⟨g,cs,hgm,hA,hw,hle,hcs.avoid (fun g _ hx=>hs.xs hx)⟩
 ·intro i j B C g hi hj mi mj
  exact R.hr.inj i j B C g (hg hi) (hg hj) mi mj
 exact aHr R.sr (fun t y hy=>by
  obtain⟨x,hx,hl⟩:=hp.get hs t y hy
  exact⟨x,hx,fun v hv=>hl A M w v R.hr hv⟩)
theorem zv {N n:Nat}{fr fr':List (Nat×V)}{h h':Hp}(b:Nat) (he:LSet h b none h':=by(repeat (first|exact LSet.z|apply LSet.s)))
  (hp:PCv h h' fr fr':=by(repeat (first|exact PCv.n|(apply PCv.p;exact rfl;exact rfl;exact(fun _=>rfl);(first|exact rfl|exact aTw (by assumption) rfl|exact arp_pos (by assumption) rfl))|(apply PCv.r;exact rfl;exact rfl;exact gO (fun _=>rfl);(first|exact rfl|exact(by rw[List.length_map];first|exact(bH (by assumption)).symm|exact(cP (by assumption)).symm)|exact(by simp only[List.length_map,b7,b6];done)))|(apply PCv.k;exact rfl;exact rfl;exact(fun _=>rfl);exact(fun _=>rfl);exact(fun _=>rfl);(first|exact rfl|exact(by simp only[b7,b6])))|apply PCv.s))):Ghost N (aI n fr) h (aI n fr') h':=Ghost.fz he.eq hp
theorem aVL {vn:Nat→Bool}{f:Nat→Nat}{c d:V}{cs ds:List V}(h:V.le vn c (d.rn f))(k:V.les vn cs (V.rns f ds)):V.les vn (c::cs) (V.rns f (d::ds)):=by
 simp only[V.rns];exact V.les_cons h k
theorem lev {p:Prop} (h:p:=by(repeat (first|exact V.les_refl _ _|exact V.les_nil|exact V.le_refl _ _|exact V.le_nil|exact V.le_row|exact V.le_arr (fun _=>rfl)|exact V.le_virt rfl|exact aFs (fun _=>rfl) _|exact aEk (fun _=>rfl) _|apply aVL|apply les_b32|apply les_b4|apply les_b8|apply les_b20|apply les_b64|apply le_a|apply le_t|exact(by simp only[b7,b6];exact V.le_refl _ _)))):p:=h
theorem aMb {p:Prop} (h:p:=by first|exact rfl|exact all_map (fun _=>rfl) _|exact rL (fun _=>rfl) _):p:=h
theorem lU {N n:Nat}{fr fr':List (Nat×V)}{h h':Hp}(σ:List Nat)
  (hf:FLe noN (V.rn (sg σ h.length)) fr fr':=by(repeat (first|exact FLe.nil|refine FLe.same rfl ?_|refine FLe.le rfl lev ?_)))
  (hh:HLe (sg σ h.length) h σ h':=by(repeat (first|exact HLe.nil|refine HLe.dead ?_|refine HLe.live rfl lev aMb ?_)))
  (hσ:σ.take N=List.range N:=by rfl) (hlt:σ.all (fun b=>Nat.blt b h.length)=true:=by rfl) (hnd:ndB (lvs σ h')=true:=by rfl):Ghost N (aI n fr) h (aI n fr') h':=Ghost.rn σ hσ hlt hf hh hnd
theorem FLe.mapg {vn:Nat→Bool}{g:V→V}{fr:List (Nat×V)}: ∀{fr':List (Nat×V)},FLe vn g fr fr'→FLe vn id fr (fr'.map fun p=>(p.1,g p.2))
 | [],_=>FLe.nil
 |(t,y)::r,h=>⟨h.1,FLe.mapg h.2⟩
theorem aMQ {g:V→V}: ∀{fr:List (Nat×V)}{t:Nat}{y:V},i5 fr t=some y→i5 (fr.map fun p=>(p.1,g p.2)) t=some (g y)
 | [],_,_,h=>by cases h
 |(u,x)::r,t,y,h=>by
  simp only[i5,aXw]at h⊢
  cases hb:aXL u t with
  |true=>rw[hb]at h;simp only[cond_true,aXq]at h ⊢; rw[h]
  |false=>rw[hb]at h;exact aMQ h
theorem FLe.ofmap {g:V→V}{L:List (Nat×V)}: ∀{fr:List (Nat×V)},(∀t y,(t,y)∈fr→i5 L t=some y)→FLe noN g (L.map fun p=>(p.1,g p.2)) fr
 | [],_=>FLe.nil
 |(t,y)::r,h=>FLe.same (aMQ (h t y (by simp))) (FLe.ofmap fun u z hz=>h u z (by simp[hz]))
def aHq :List (Nat×V)→List (Nat×V)→Bool
 |_,[]=>true
 |L,(t,_)::r=> !((r.map (·.1)).elem t)&&aHq L r
theorem aQw : ∀{L:List (Nat×V)},aHq L L=true→ ∀t y,(t,y)∈L→i5 L t=some y:=by
 have key: ∀{K L:List (Nat×V)},aHq K L=true→ ∀t y,(t,y)∈L→i5 L t=some y:=by
  intro K L
  induction L with
  |nil=>intro _ t y h;cases h
  |cons p r ih=>
   obtain⟨u,x⟩:=p
   intro h t y hm
   simp only[aHq,aXD,Bool.not_eq_true']at h
   simp only[i5]
   rcases List.mem_cons.1 hm with he|hm
   ·cases he;simp
   have:u≠t:=fun he=>by
    subst he
    have h1:(r.map (·.1)).elem u=true:=List.elem_eq_true_of_mem (List.mem_map.2 ⟨_,hm,rfl⟩)
    rw[h1]at h;exact absurd h.1 (by simp)
   have hb:aXL u t=false:=by
    cases hb:aXL u t with
    |true=>exact absurd (Nat.eq_of_beq_eq_true hb) this
    |false=>rfl
   rw[hb];exact ih h.2 t y hm
 exact fun{L} h=>key h
theorem zW {N n:Nat}{fr fr':List (Nat×V)}{h h':Hp}(e:TypeId)(σ:List Nat)
  (hf:FLe (fun b=>Nat.beq b h.length) (V.rn (sg σ (h++[some (Blk.mk e [])]).length)) fr fr':=by(repeat (first|exact FLe.nil|refine FLe.same rfl ?_|refine FLe.le rfl lev ?_)))
  (h1:HLv (fun b=>Nat.beq b h.length) h h:=by(repeat (first|exact HLv.nil|refine HLv.dead ?_|refine HLv.live (V.les_refl _ _) aMb ?_)))
  (hh:HLe (sg σ (h++[some (Blk.mk e [])]).length) (h++[some (Blk.mk e [])]) σ h':=by(repeat (first|exact HLe.nil|refine HLe.dead ?_|refine HLe.live rfl lev aMb ?_)))
  (hσ:σ.take N=List.range N:=by rfl) (hlt:σ.all (fun b=>Nat.blt b (h++[some (Blk.mk e [])]).length)=true:=by rfl) (hnd:ndB (lvs σ h')=true:=by rfl) (hk:aHq fr' fr'=true:=by rfl):Ghost N (aI n fr) h (aI n fr') h':=
 Ghost.trans (Ghost.virt e hf.mapg h1) (Ghost.rn σ hσ hlt (FLe.ofmap (aQw hk)) hh hnd)
section
variable {P:Program}{fn:Func}{n N:Nat}{fr:List (Nat×V)}{s:List V}{h h':Hp}{r a b c x:V}{o p:Nat}{e:TypeId}{cs ds:List V}{t u w:Nat}{ty:TypeId}
inductive RsV (P:Program)(n:Nat)(fr:List (Nat×V))(h:Hp):ResultVar→V→Prop
 |t {t:Nat} {x:V}:b5 n fr (.tmp t)=some x→RsV P n fr h (.tmp t) x
 |c {t i o:Nat} {ty:TypeId} {v:V}:b5 n fr (.tmp t)=some (.ptr i o)→gB P ty h (.ptr i o)=some v→RsV P n fr h (.cell t ty) v
theorem RsV.eq {q:ResultVar}(hr:RsV P n fr h q x):nS P (aI n fr) h q=some x:=by
 cases hr with
 |t h1=>exact rvT h1
 |c h1 h2=>exact rvC h1 h2
theorem lvN {fs:Array Field}{sz by_:Nat}{zz:Value} [T:TiC P ty ⟨.struct fs,sz,by_,zz⟩] (hb:h[o]? =some (some ⟨e,cs⟩)) (hc:Tak cs p sz ds):gB P ty h (.ptr o p)=some (.agg ds):=ldP hb (aDI T.h rfl hc.eq.2 hc.eq.1)
theorem lvB {α:Type}{E:α→V}{ml:List α}{N' sz by_:Nat}{zz:Value}{w:TypeId} [T:TiC P ty ⟨.array N' w,sz,by_,zz⟩] (hb:h[o]? =some (some ⟨e,ml.map E⟩)) (hz:sz=N') (hl:ml.length=N'):gB P ty h (.ptr o 0)=some (.agg (ml.map E)):=ldA T.h hz hb hl
theorem iE {q:ResultVar}(hr:fn.results= #[q])(ha:RsV P n fr h q a)(hg:Ghost N (aI 1 [(0,a)]) h (aI 1 [(0,r)]) h'):aEo P fn N r h' .ret (aI n fr) h:=aCx (aUV hr ha.eq) hg
theorem oL {q q':ResultVar}(hr:fn.results= #[q,q'])(ha:RsV P n fr h q a)(hb:RsV P n fr h q' b)(hg:Ghost N (aI 1 [(0,.tup [a,b])]) h (aI 1 [(0,r)]) h'):aEo P fn N r h' .ret (aI n fr) h:=aCx (bL hr ha.eq hb.eq) hg
theorem zF {q q' q'':ResultVar}(hr:fn.results= #[q,q',q''])(ha:RsV P n fr h q a)(hb:RsV P n fr h q' b)(hc:RsV P n fr h q'' c)(hg:Ghost N (aI 1 [(0,.tup [a,b,c])]) h (aI 1 [(0,r)]) h'):aEo P fn N r h' .ret (aI n fr) h:=aCx (wL hr ha.eq hb.eq hc.eq) hg
theorem zn0 (hr:fn.results= #[])(hg:Ghost N (aI 1 [(0,.tup [])]) h (aI 1 [(0,r)]) h'):aEo P fn N r h' .normal s h:=aPD (aV6 hr) hg
end
theorem bJ {p:Prop} (h:p:=by first|exact RsV.t rfl|(apply RsV.c;exact rfl;first|(apply lv1;exact rfl;exact rfl;exact rfl)|(apply lvB;exact rfl;exact rfl;first|exact rfl|exact bH (by assumption)|exact cP (by assumption))|(apply lvN;exact rfl;exact Tak.w rfl))):p:=h
end Go.Vm
set_option maxRecDepth 20000
set_option maxHeartbeats 1000000
namespace Go.Proofs.YtbjiaghljpoliaaGreatDoor
open Go Go.Vm
structure aV where
 Tx:List Int
 Index:Int
abbrev fU (x:aV):List V:=(bG (eI .u8) x.Tx [(eI .u32 x.Index)])
abbrev aJ3 (x:aV):V:= .agg (fU x)
@[simp] theorem eK {f:Nat→Nat}(l:List aV):V.rns f (l.flatMap fU)=l.flatMap fU:=iG (fun _=>rfl) l
@[simp] theorem eH {f:Nat→Nat}(x:aV):V.rns f (fU x)=fU x:=rfl
structure aG where
 Prev:aV
 Sequence:Int
 Witness:List (List Int)
abbrev dJ (x:aG):List V:=(bG (eI .u8) x.Prev.Tx [(eI .u32 x.Prev.Index),(eI .u32 x.Sequence),(.row none 1 (x.Witness.map (eL 1 (eI .u8))))])
abbrev aL (x:aG):V:= .agg (dJ x)
@[simp] theorem fX {f:Nat→Nat}(l:List aG):V.rns f (l.flatMap dJ)=l.flatMap dJ:=iG (fun _=>rfl) l
@[simp] theorem gF {f:Nat→Nat}(x:aG):V.rns f (dJ x)=dJ x:=rfl
structure aF where
 Value:Int
 Script:List Int
abbrev eX (x:aF):List V:=[(eI .i64 x.Value),(.row none 1 (x.Script.map (eI .u8)))]
abbrev aM (x:aF):V:= .agg (eX x)
@[simp] theorem fM {f:Nat→Nat}(l:List aF):V.rns f (l.flatMap eX)=l.flatMap eX:=iG (fun _=>rfl) l
@[simp] theorem fJ {f:Nat→Nat}(x:aF):V.rns f (eX x)=eX x:=rfl
abbrev aDr (e:aV×Bool):List V:=(bG (eI .u8) e.1.Tx [(eI .u32 e.1.Index),(eB e.2)])
def vA (a b:aV):Bool:=(lS a.Tx b.Tx ((a.Index == b.Index)&&true))
@[simp] theorem q7 {f:Nat→Nat}(l:List (aV×Bool)):V.rns f (l.flatMap aDr)=l.flatMap aDr:=iG (fun _=>rfl) l
structure bA where
 Out:aV
 Output:aF
 Height:Int
 Coinbase:Bool
abbrev gV (x:bA):List V:=(bG (eI .u8) x.Out.Tx [(eI .u32 x.Out.Index),(eI .i64 x.Output.Value),(.row none 1 (x.Output.Script.map (eI .u8))),(eI .i64 x.Height),(eB x.Coinbase)])
abbrev d9 (x:bA):V:= .agg (gV x)
@[simp] theorem gZ {f:Nat→Nat}(l:List bA):V.rns f (l.flatMap gV)=l.flatMap gV:=iG (fun _=>rfl) l
@[simp] theorem gY {f:Nat→Nat}(x:bA):V.rns f (gV x)=gV x:=rfl
structure aX where
 Code:Int
 Data:List Int
 M:Int
 N:Int
abbrev cO (x:aX):List V:=[(eI .i64 x.Code),(.row none 1 (x.Data.map (eI .u8))),(eI .i64 x.M),(eI .i64 x.N)]
abbrev yI (x:aX):V:= .agg (cO x)
@[simp] theorem jM {f:Nat→Nat}(l:List aX):V.rns f (l.flatMap cO)=l.flatMap cO:=iG (fun _=>rfl) l
@[simp] theorem jY {f:Nat→Nat}(x:aX):V.rns f (cO x)=cO x:=rfl
structure aO where
 outer:Bool
 taken:Bool
abbrev aW (x:aO):List V:=[(eB x.outer),(eB x.taken)]
@[simp] theorem dX {f:Nat→Nat}(l:List aO):V.rns f (l.flatMap aW)=l.flatMap aW:=iG (fun _=>rfl) l
@[simp] theorem dY {f:Nat→Nat}(x:aO):V.rns f (aW x)=aW x:=rfl
structure bC where
 reached:Bool
 done:Bool
abbrev bR (x:bC):List V:=[(eB x.reached),(eB x.done)]
abbrev aEf (x:bC):V:= .agg (bR x)
@[simp] theorem cF {f:Nat→Nat}(l:List bC):V.rns f (l.flatMap bR)=l.flatMap bR:=iG (fun _=>rfl) l
@[simp] theorem cG {f:Nat→Nat}(x:bC):V.rns f (bR x)=bR x:=rfl
def xE (N:Nat)(l0:List Int):Option (List Int):=
 some l0
def kO (N:Nat)(vn d6:Int):Nat→Int→(List Int)→Option (List Int)
 |0,_,_=>none
 |m+1,cD,aS=>
  if decide (cD<d6) then
   (shr .u64 vn (aXj.wrap (8*cD))).bind fun x18=>
   (bU aS cD).bind fun bT=>
   (kO N vn d6 m) (aXj.wrap (cD+1)) (aS.set (aXn cD) (aXp.wrap x18))
  else
   some aS
def rO (N:Nat)(vn d6:Int):Option (List Int):=
 (mks 1 0 d6).bind fun x8=>
 (kO N vn d6 N 0 x8).bind fun p2=>
 xE N p2
def gX (N:Nat)(b vs:List Int):Option (List Int):=
 (mks 1 0 (aXj.wrap ((b.length:Int)+(vs.length:Int)))).bind fun b4=>
 (eD 1 (b4.take 0) b).bind fun bQ=>
 (eD 1 bQ vs).bind fun x17=>
 some x17
def g9 (N:Nat)(b:List Int)(vn:Int):Option (List Int):=
 (rO N (aXm.wrap vn) 4).bind fun x8=>
 (gX N b x8).bind fun x9=>
 some x9
def w8 (N:Nat)(b:List Int)(vn:Int):Option (List Int):=
 (rO N (aXm.wrap vn) 2).bind fun x8=>
 (gX N b x8).bind fun x9=>
 some x9
def mK (N:Nat)(b:List Int)(vn:Int):Option (List Int):=
 (rO N vn 8).bind fun x7=>
 (gX N b x7).bind fun x8=>
 some x8
def jP (N:Nat)(b:List Int)(vn:Int):Option (List Int):=
 if decide (vn<253) then
  (gX N b [aXp.wrap vn]).bind fun fR=>
  some fR
 else
  if decide (vn<65536) then
   (gX N b [253]).bind fun x18=>
   (w8 N x18 (IntKind.u16.wrap vn)).bind fun d5=>
   some d5
  else
   if decide (vn<4294967296) then
    (gX N b [254]).bind fun x27=>
    (g9 N x27 (aXl.wrap vn)).bind fun jL=>
    some jL
   else
    (gX N b [255]).bind fun iA=>
    (mK N iA vn).bind fun x35=>
    some x35
def vO (N:Nat)(b vh:List Int):Option (List Int):=
 (a9 32 vh).bind fun q=>
 (gX N b vh).bind fun x7=>
 some x7
def aCs (N:Nat)(tG:List Int)(j9:Int):Option (List Int):=
 (a9 32 tG).bind fun q=>
 (vO N [] tG).bind fun x5=>
 (g9 N x5 j9).bind fun x8=>
 some x8
def kM (N:Nat)(b vs:List Int):Option (List Int):=
 (jP N b (aXm.wrap (vs.length:Int))).bind fun x9=>
 (gX N x9 vs).bind fun b4=>
 some b4
def aD4 (N:Nat)(l0:List Int):Option (List Int):=
 some l0
def aBZ (N:Nat)(aA:List aG)(x79:Int)(rec:Int→(List Int)→Option (List Int))(fL:List Int):Option (List Int):=
 rec (aXj.wrap (x79+1)) fL
def lZ (N:Nat)(aA:List aG)(x79:Int)(x81:aG):Nat→Int→(List Int)→Option (List Int)
 |0,_,_=>none
 |m+1,x93,gE=>
  if decide (x93<(x81.Witness.length:Int)) then
   (bU x81.Witness x93).bind fun x95=>
   (kM N [] x95).bind fun x99=>
   (eD 1 gE x99).bind fun aIC=>
   (lZ N aA x79 x81 m) (aXj.wrap (x93+1)) aIC
  else
   some gE
def k5 (N:Nat)(aA:List aG):Nat→Int→(List Int)→Option (List Int)
 |0,_,_=>none
 |m+1,x79,aS=>
  if decide (x79<(aA.length:Int)) then
   (bU aA x79).bind fun x81=>
   (jP N [] (aXm.wrap (x81.Witness.length:Int))).bind fun x88=>
   (eD 1 aS x88).bind fun x89=>
   (lZ N aA x79 x81 N 0 x89).bind fun p6=>
   aBZ N aA x79 (k5 N aA m) p6
  else
   some aS
def aBK (N:Nat)(aC:Int)(aA:List aG)(aB:List aF)(aE:Int)(bK:Bool)(cS:List Int):Option (List Int):=
 (g9 N [] aE).bind fun x71=>
 (eD 1 cS x71).bind fun x72=>
 if !bK then
  some x72
 else
  (k5 N aA N 0 x72).bind fun p4=>
  aD4 N p4
def mI (N:Nat)(aC:Int)(aA:List aG)(aB:List aF)(aE:Int)(bK:Bool):Nat→Int→(List Int)→Option (List Int)
 |0,_,_=>none
 |m+1,x52,l1_2=>
  if decide (x52<(aB.length:Int)) then
   (bU aB x52).bind fun x54=>
   (mK N [] (aXm.wrap x54.Value)).bind fun x60=>
   (eD 1 l1_2 x60).bind fun x61=>
   (kM N [] x54.Script).bind fun x65=>
   (eD 1 x61 x65).bind fun x66=>
   (mI N aC aA aB aE bK m) (aXj.wrap (x52+1)) x66
  else
   some l1_2
def aBl (N:Nat)(aC:Int)(aA:List aG)(aB:List aF)(aE:Int)(bK:Bool)(l1:List Int):Option (List Int):=
 (jP N [] (aXm.wrap (aB.length:Int))).bind fun x47=>
 (eD 1 l1 x47).bind fun x48=>
 (mI N aC aA aB aE bK N 0 x48).bind fun p7=>
 aBK N aC aA aB aE bK p7
def mB (N:Nat)(aC:Int)(aA:List aG)(aB:List aF)(aE:Int)(bK:Bool):Nat→Int→(List Int)→Option (List Int)
 |0,_,_=>none
 |m+1,x27,l1_3=>
  if decide (x27<(aA.length:Int)) then
   (bU aA x27).bind fun x29=>
   (aCs N x29.Prev.Tx x29.Prev.Index).bind fun cU=>
   (eD 1 l1_3 cU).bind fun x35=>
   (g9 N [] x29.Sequence).bind fun x39=>
   (eD 1 x35 x39).bind fun x40=>
   (mB N aC aA aB aE bK m) (aXj.wrap (x27+1)) x40
  else
   some l1_3
def aA9 (N:Nat)(aC:Int)(aA:List aG)(aB:List aF)(aE:Int)(bK:Bool):Option (List Int):=
 (g9 N [] aC).bind fun x16=>
 (jP N [] (aXm.wrap (aA.length:Int))).bind fun bV=>
 (eD 1 x16 bV).bind fun iD=>
 (mB N aC aA aB aE bK N 0 iD).bind fun p8=>
 aBl N aC aA aB aE bK p8
def aDP (N:Nat)(aC:Int)(aA:List aG)(aB:List aF)(aE:Int):Option Bool:=
 (aA9 N aC aA aB aE true).bind fun x60=>
 some (decide ((x60.length:Int)≤20000))
def aDJ (N:Nat)(aC:Int)(aA:List aG)(aB:List aF)(aE x39:Int)(rec:Int→Option (LR (Unit) (Bool))):Option (LR (Unit) (Bool)):=
 rec (aXj.wrap (x39+1))
def qH (N:Nat)(aC:Int)(aA:List aG)(aB:List aF)(aE x39:Int)(x41:aG):Nat→Int→Option (LR (Unit) (Bool))
 |0,_=>none
 |m+1,x50=>
  if decide (x50<(x41.Witness.length:Int)) then
   (bU x41.Witness x50).bind fun x52=>
   if decide (520<(x52.length:Int)) then
    some (.ret false)
   else
    (qH N aC aA aB aE x39 x41 m) (aXj.wrap (x50+1))
  else
   some (.brk ())
def qD (N:Nat)(aC:Int)(aA:List aG)(aB:List aF)(aE:Int):Nat→Int→Option (LR (Unit) (Bool))
 |0,_=>none
 |m+1,x39=>
  if decide (x39<(aA.length:Int)) then
   (bU aA x39).bind fun x41=>
   if decide (32<(x41.Witness.length:Int)) then
    some (.ret false)
   else
    (qH N aC aA aB aE x39 x41 N 0).bind fun q=>match q with
     | .ret v=>some (.ret v)
     | .brk p6=>
      aDJ N aC aA aB aE x39 (qD N aC aA aB aE m)
  else
   some (.brk ())
def aDK (N:Nat)(aC:Int)(aA:List aG)(aB:List aF)(aE:Int):Option Bool:=
 (qD N aC aA aB aE N 0).bind fun q=>match q with
  | .ret v=>some v
  | .brk p4=>
   aDP N aC aA aB aE
def aCh (N:Nat)(aC:Int)(aA:List aG)(aB:List aF)(aE bV:Int)(rec:Int→Option (LR (Unit) (Bool)))(cU:Bool):Option (LR (Unit) (Bool)):=
 if cU then
  some (.ret false)
 else
  rec (aXj.wrap (bV+1))
def oR (N:Nat)(aC:Int)(aA:List aG)(aB:List aF)(aE:Int):Nat→Int→Option (LR (Unit) (Bool))
 |0,_=>none
 |m+1,bV=>
  if decide (bV<(aB.length:Int)) then
   (bU aB bV).bind fun fG=>
   if decide (fG.Value<0) then
    aCh N aC aA aB aE bV (oR N aC aA aB aE m) true
   else
    aCh N aC aA aB aE bV (oR N aC aA aB aE m) (decide (520<(fG.Script.length:Int)))
  else
   some (.brk ())
def aBi (N:Nat)(aC:Int)(aA:List aG)(aB:List aF)(aE:Int)(x18:Bool):Option Bool:=
 if x18 then
  some false
 else
  (oR N aC aA aB aE N 0).bind fun q=>match q with
   | .ret v=>some v
   | .brk p7=>
    aDK N aC aA aB aE
def aDW (N:Nat)(aC:Int)(aA:List aG)(aB:List aF)(aE:Int):Option Bool:=
 if decide (64<(aA.length:Int)) then
  aBi N aC aA aB aE true
 else
  aBi N aC aA aB aE (decide (64<(aB.length:Int)))
def aE8 (N:Nat):Option Bool:=
 some true
def tU (N:Nat)(l:List aF):Nat→Int→Int→Option (LR (Unit) (Bool))
 |0,_,_=>none
 |m+1,sum,x8=>
  if decide (x8<(l.length:Int)) then
   (bU l x8).bind fun cD=>
   if decide ((aXj.wrap (2100000000000000-sum))<cD.Value) then
    some (.ret false)
   else
    (tU N l m) (aXj.wrap (sum+cD.Value)) (aXj.wrap (x8+1))
  else
   some (.brk ())
def aEq (N:Nat)(l:List aF):Option Bool:=
 (tU N l N 0 0).bind fun q=>match q with
  | .ret v=>some v
  | .brk p2=>
   aE8 N
def aKh (N:Nat)(tG:List Int)(j9:Int):Option Bool:=
 some (lS tG (aXk 32 0) ((j9 == 4294967295)&&true))
def zU (N:Nat)(x2:Bool):Option Bool:=
 some x2
def wA (N:Nat)(aC:Int)(aA:List aG)(aB:List aF)(aE:Int):Option Bool:=
 if(aA.length:Int) == 1 then
  (bU aA 0).bind fun cD=>
  (aKh N cD.Prev.Tx cD.Prev.Index).bind fun dA=>
  zU N dA
 else
  zU N false
def aCZ (N:Nat)(x46:Bool):Option Int:=
 if x46 then
  some 92
 else
  some 0
def aCR (N:Nat)(aC:Int)(aA:List aG)(aB:List aF)(aE:Int)(l1:List (aV×Bool)):Option Int:=
 if aEt vA l1 (aV.mk (aXk 32 0) 4294967295) false then
  (wA N aC aA aB aE).bind fun x44=>
  aCZ N (!x44)
 else
  aCZ N false
def tO (N:Nat)(aC:Int)(aA:List aG)(aB:List aF)(aE:Int):Nat→Int→(List (aV×Bool))→Option (LR ((List (aV×Bool))) (Int))
 |0,_,_=>none
 |m+1,x27,cS=>
  if decide (x27<(aA.length:Int)) then
   (bU aA x27).bind fun x29=>
   if aEt vA cS x29.Prev false then
    some (.ret 91)
   else
    (tO N aC aA aB aE m) (aXj.wrap (x27+1)) (aGA vA cS x29.Prev true)
  else
   some (.brk cS)
def aAm (N:Nat)(aC:Int)(aA:List aG)(aB:List aF)(aE:Int)(x18:Bool):Option Int:=
 if x18 then
  some 93
 else
  (aEq N aB).bind fun d5=>
  if !d5 then
   some 90
  else
   (tO N aC aA aB aE N 0 []).bind fun q=>match q with
    | .ret v=>some v
    | .brk p4=>
     aCR N aC aA aB aE p4
def aEa (N:Nat)(aC:Int)(aA:List aG)(aB:List aF)(aE:Int):Option Int:=
 (aDW N aC aA aB aE).bind fun x7=>
 if !x7 then
  some 4
 else
  if(aA.length:Int) == 0 then
   aAm N aC aA aB aE true
  else
   aAm N aC aA aB aE ((aB.length:Int) == 0)
def aCg (N:Nat)(aJG:Int):Option (Int×Bool):=
 some (aJG,true)
def xY (N:Nat)(l:List bA)(nW x9:Int)(b4:bA)(rec:Int→Int→Option (LR (Int) (Int×Bool)))(fG:Bool):Option (LR (Int) (Int×Bool)):=
 if fG then
  some (.ret (0,false))
 else
  rec (aXj.wrap (nW+b4.Output.Value)) (aXj.wrap (x9+1))
def mZ (N:Nat)(l:List bA):Nat→Int→Int→Option (LR (Int) (Int×Bool))
 |0,_,_=>none
 |m+1,nW,x9=>
  if decide (x9<(l.length:Int)) then
   (bU l x9).bind fun b4=>
   if decide (b4.Output.Value<0) then
    xY N l nW x9 b4 (mZ N l m) true
   else
    xY N l nW x9 b4 (mZ N l m) (decide ((aXj.wrap (2100000000000000-nW))<b4.Output.Value))
  else
   some (.brk nW)
def aEJ (N:Nat)(l:List bA):Option (Int×Bool):=
 (mZ N l N 0 0).bind fun q=>match q with
  | .ret v=>some v
  | .brk p2=>
   aCg N p2
def aBq (N:Nat)(fee:Int):Option (Int×Int):=
 if decide (fee<0) then
  some (0,100)
 else
  some (fee,0)
def pB (N:Nat)(aB:List aF):Nat→Int→Int→Option Int
 |0,_,_=>none
 |m+1,fee_1,x51=>
  if decide (x51<(aB.length:Int)) then
   (bU aB x51).bind fun x53=>
   (pB N aB m) (aXj.wrap (fee_1-x53.Value)) (aXj.wrap (x51+1))
  else
   some fee_1
def aB0 (N:Nat)(aC:Int)(aA:List aG)(aB:List aF)(aE:Int)(l:List bA):Option (Int×Int):=
 (aEJ N l).bind fun x43=>
 if !x43.2 then
  some (0,90)
 else
  (pB N aB N x43.1 0).bind fun p3=>
  aBq N p3
def o8 (N:Nat)(aC:Int)(aA:List aG)(aB:List aF)(aE:Int)(l:List bA):Nat→Int→Option (LR (Unit) (Int×Int))
 |0,_=>none
 |m+1,x26=>
  if decide (x26<(l.length:Int)) then
   (bU l x26).bind fun x29=>
   (bU aA x26).bind fun x36=>
   if !(lS x29.Out.Tx x36.Prev.Tx ((x29.Out.Index == x36.Prev.Index)&&true)) then
    some (.ret (0,101))
   else
    (o8 N aC aA aB aE l m) (aXj.wrap (x26+1))
  else
   some (.brk ())
def xL (N:Nat)(aC:Int)(aA:List aG)(aB:List aF)(aE:Int)(l:List bA):Option (Int×Int):=
 (aEa N aC aA aB aE).bind fun bQ=>
 if bQ != 0 then
  some (0,bQ)
 else
  if(l.length:Int) != (aA.length:Int) then
   some (0,8)
  else
   (o8 N aC aA aB aE l N 0).bind fun q=>match q with
    | .ret v=>some v
    | .brk p4=>
     aB0 N aC aA aB aE l
def vW (N:Nat)(x0:Bool):Option Bool:=
 some x0
def aDL (N:Nat):Option Bool:=
 (xL N 0 [(aG.mk (aV.mk (aXk 32 0) 1) 0 []),(aG.mk (aV.mk (aXk 32 0) 2) 0 [])] [(aF.mk 10 [])] 0 [(bA.mk (aV.mk (aXk 32 0) 1) (aF.mk 5 []) 0 false),(bA.mk (aV.mk (aXk 32 0) 2) (aF.mk 7 []) 0 false)]).bind fun x29=>
 (bU [(aF.mk 10 [])] 0).bind fun cU=>
 (xL N 0 [(aG.mk (aV.mk (aXk 32 0) 1) 0 []),(aG.mk (aV.mk (aXk 32 0) 2) 0 [])] ([(aF.mk 10 [])].set (aXn 0) (aF.mk 13 cU.Script)) 0 [(bA.mk (aV.mk (aXk 32 0) 1) (aF.mk 5 []) 0 false),(bA.mk (aV.mk (aXk 32 0) 2) (aF.mk 7 []) 0 false)]).bind fun x39=>
 if x29.2 == 0 then
  if x29.1 == 2 then
   vW N (x39.2 == 100)
  else
   vW N false
 else
  vW N false
def aDw (N:Nat):Option Bool:=
 some true
def nJ (N:Nat)(l:List (List Int))(vm:Int):Nat→Int→Option (LR (Unit) (Bool))
 |0,_=>none
 |m+1,x15=>
  if decide (x15<(l.length:Int)) then
   (bU l x15).bind fun x17=>
   if decide (vm<(x17.length:Int)) then
    some (.ret false)
   else
    (nJ N l vm m) (aXj.wrap (x15+1))
  else
   some (.brk ())
def aCa (N:Nat)(l:List (List Int))(vn vm:Int):Option Bool:=
 if decide (vn<(l.length:Int)) then
  some false
 else
  (nJ N l vm N 0).bind fun q=>match q with
   | .ret v=>some v
   | .brk p2=>
    aDw N
def aF0 (N:Nat):Option Bool:=
 some true
def sC (N:Nat)(aB:List aF):Nat→Int→Option (LR (Unit) (Bool))
 |0,_=>none
 |m+1,lB=>
  if decide (lB<(aB.length:Int)) then
   (bU aB lB).bind fun cU=>
   if decide (600<(cU.Script.length:Int)) then
    some (.ret false)
   else
    (sC N aB m) (aXj.wrap (lB+1))
  else
   some (.brk ())
def aDN (N:Nat)(aC:Int)(aA:List aG)(aB:List aF)(aE:Int):Option Bool:=
 (sC N aB N 0).bind fun q=>match q with
  | .ret v=>some v
  | .brk p4=>
   aF0 N
def sS (N:Nat)(aC:Int)(aA:List aG)(aB:List aF)(aE:Int):Nat→Int→Option (LR (Unit) (Bool))
 |0,_=>none
 |m+1,bT=>
  if decide (bT<(aA.length:Int)) then
   (bU aA bT).bind fun bV=>
   (aCa N bV.Witness 40 600).bind fun x26=>
   if !x26 then
    some (.ret false)
   else
    (sS N aC aA aB aE m) (aXj.wrap (bT+1))
  else
   some (.brk ())
def aCd (N:Nat)(aC:Int)(aA:List aG)(aB:List aF)(aE:Int)(x16:Bool):Option Bool:=
 if x16 then
  some false
 else
  (sS N aC aA aB aE N 0).bind fun q=>match q with
   | .ret v=>some v
   | .brk p5=>
    aDN N aC aA aB aE
def aFu (N:Nat)(aC:Int)(aA:List aG)(aB:List aF)(aE:Int):Option Bool:=
 if decide (70<(aA.length:Int)) then
  aCd N aC aA aB aE true
 else
  aCd N aC aA aB aE (decide (70<(aB.length:Int)))
def aEX (N:Nat)(aC:Int)(aA:List aG)(aB:List aF)(aE:Int)(bK:Bool):Option ((List Int)×Int):=
 (aDW N aC aA aB aE).bind fun x7=>
 if !x7 then
  some ([],4)
 else
  (aA9 N aC aA aB aE bK).bind fun b4=>
  some (b4,0)
def aBM (N:Nat)(aC:Int)(aA:List aG)(aB:List aF)(aE:Int):Option Bool:=
 (aEX N aC aA aB aE true).bind fun x7=>
 some (x7.2 == 0)
def pA (N:Nat)(vn:Int):Option (List Int):=
 (g9 N [] vn).bind fun x4=>
 some x4
def aEE (N:Nat)(l0:List Int):Option (List Int):=
 some l0
def o7 (N:Nat)(parts:List (List Int)):Nat→Int→(List Int)→Option (List Int)
 |0,_,_=>none
 |m+1,x8,aS=>
  if decide (x8<(parts.length:Int)) then
   (bU parts x8).bind fun cD=>
   (eD 1 aS cD).bind fun bQ=>
   (o7 N parts m) (aXj.wrap (x8+1)) bQ
  else
   some aS
def yD (N:Nat)(parts:List (List Int)):Option (List Int):=
 (o7 N parts N 0 []).bind fun p2=>
 aEE N p2
def uO (N:Nat)(bI:Int)(aZ:List Int):Option (List Int):=
 (mK N [] (aXm.wrap bI)).bind fun x6=>
 (kM N [] aZ).bind fun x9=>
 (yD N [x6,x9]).bind fun b4=>
 some b4
def aGj (N:Nat)(l0:List Int):Option (List Int):=
 some l0
def sH (N:Nat)(vn:Int):Nat→Int→(List Int)→Option (List Int)
 |0,_,_=>none
 |m+1,x18,aS=>
  if decide (x18<8) then
   (shr .u64 (aXm.wrap (8*vn)) (aXj.wrap (56-(aXj.wrap (8*x18))))).bind fun x27=>
   (eD 1 aS [aXp.wrap x27]).bind fun jL=>
   (sH N vn m) (aXj.wrap (x18+1)) jL
  else
   some aS
def aFk (N:Nat)(vn:Int):Option (List Int):=
 (mkl 1 0 (aXm.wrap (1+(aXu (aXm.wrap (64-(aXu (aXm.wrap (vn+9)) 64))) 64))) (aXm.wrap (9+(aXu (aXm.wrap (64-(aXu (aXm.wrap (vn+9)) 64))) 64)))).bind fun x15=>
 (bU x15 0).bind fun x17=>
 (sH N vn N 0 (x15.set (aXn 0) 128)).bind fun p2=>
 aGj N p2
def aFQ (N:Nat)(l0:List Int):Option (List Int):=
 some l0
def tA (N:Nat)(parts:List (List Int)):Nat→Int→(List Int)→Option (List Int)
 |0,_,_=>none
 |m+1,x8,aS=>
  if decide (x8<(parts.length:Int)) then
   (bU parts x8).bind fun cD=>
   (eD 1 aS cD).bind fun bQ=>
   (tA N parts m) (aXj.wrap (x8+1)) bQ
  else
   some aS
def aD0 (N:Nat)(parts:List (List Int)):Option (List Int):=
 (tA N parts N 0 []).bind fun p2=>
 aFQ N p2
def kV (N:Nat)(x k:Int):Option Int:=
 (shl .u32 x (bits .and .u64 (aXm.wrap k) 31)).bind fun b4=>
 (shr .u32 x (aXm.wrap (32-(bits .and .u64 (aXm.wrap k) 31)))).bind fun x15=>
 some (bits .or .u32 b4 x15)
def dR (N:Nat)(x vn:Int):Option Int:=
 (kV N x (aXj.wrap (0-vn))).bind fun x8=>
 some x8
def sE (N:Nat)(cS:List Int):Option (List Int):=
 (a9 64 cS).bind fun q=>
 some cS
def jC (N:Nat):Nat→Int→(List Int)→Option (List Int)
 |0,_,_=>none
 |m+1,vi,l1_2=>
  if decide (vi<64) then
   (bX 64 l1_2 (aXj.wrap (vi-15))).bind fun x37=>
   (dR N x37 7).bind fun x39=>
   (dR N x37 18).bind fun x44=>
   (shr .u32 x37 3).bind fun x50=>
   (bX 64 l1_2 (aXj.wrap (vi-2))).bind fun x54=>
   (dR N x54 17).bind fun x56=>
   (dR N x54 19).bind fun x61=>
   (shr .u32 x54 10).bind fun x67=>
   (bX 64 l1_2 (aXj.wrap (vi-16))).bind fun x72=>
   (bX 64 l1_2 (aXj.wrap (vi-7))).bind fun x78=>
   (bX 64 l1_2 vi).bind fun x83=>
   (jC N m) (aXj.wrap (vi+1)) (l1_2.set (aXn vi) (aXl.wrap ((aXl.wrap ((aXl.wrap (x72+(bits .xor .u32 (bits .xor .u32 x39 x44) x50)))+x78))+(bits .xor .u32 (bits .xor .u32 x56 x61) x67))))
  else
   some l1_2
def tB (N:Nat)(l1:List Int):Option (List Int):=
 (jC N N 16 l1).bind fun p3=>
 sE N p3
def wZ (N:Nat)(block:List Int)(x9:Int)(rec:Int→(List Int)→Option (List Int))(jD:List Int):Option (List Int):=
 rec (aXj.wrap (x9+1)) jD
def eO (N:Nat)(block:List Int)(x9:Int):Nat→Int→(List Int)→Option (List Int)
 |0,_,_=>none
 |m+1,fR,kC=>
  if decide (fR<4) then
   (bX 64 kC x9).bind fun x17=>
   (shl .u32 x17 8).bind fun x19=>
   (bX 64 block (aXj.wrap ((aXj.wrap (4*x9))+fR))).bind fun fG=>
   (eO N block x9 m) (aXj.wrap (fR+1)) (kC.set (aXn x9) (bits .or .u32 x19 (aXl.wrap fG)))
  else
   some kC
def hY (N:Nat)(block:List Int):Nat→Int→(List Int)→Option (List Int)
 |0,_,_=>none
 |m+1,x9,l2=>
  if decide (x9<16) then
   (eO N block x9 N 0 l2).bind fun p6=>
   wZ N block x9 (hY N block m) p6
  else
   some l2
def q5 (N:Nat)(block:List Int):Option (List Int):=
 (hY N block N 0 (aXk 64 0)).bind fun p4=>
 tB N p4
def sD (N:Nat)(cT:List Int)(va b c d ve f g vh:Int):Option (List Int):=
 (bX 8 cT 0).bind fun x98=>
 (bX 8 cT 1).bind fun aJ5=>
 (bX 8 cT 2).bind fun yY=>
 (bX 8 cT 3).bind fun aQ8=>
 (bX 8 cT 4).bind fun aKo=>
 (bX 8 cT 5).bind fun aDj=>
 (bX 8 cT 6).bind fun aQD=>
 (bX 8 cT 7).bind fun aHk=>
 some [aXl.wrap (x98+va),aXl.wrap (aJ5+b),aXl.wrap (yY+c),aXl.wrap (aQ8+d),aXl.wrap (aKo+ve),aXl.wrap (aDj+f),aXl.wrap (aQD+g),aXl.wrap (aHk+vh)]
def i8 (N:Nat)(cT:List Int)(x18:(List Int)):Nat→Int→Int→Int→Int→Int→Int→Int→Int→Int→Option (Int×Int×Int×Int×Int×Int×Int×Int)
 |0,_,_,_,_,_,_,_,_,_=>none
 |m+1,va_1,b_1,c_1,d_1,ve_1,f_1,g_1,vh_1,x35=>
  if decide (x35<64) then
   (dR N ve_1 6).bind fun x40=>
   (dR N ve_1 11).bind fun x42=>
   (dR N ve_1 25).bind fun x45=>
   (bX 64 aE1 x35).bind fun x58=>
   (bX 64 x18 x35).bind fun x62=>
   (dR N va_1 2).bind fun x66=>
   (dR N va_1 13).bind fun x68=>
   (dR N va_1 22).bind fun x71=>
   (i8 N cT x18 m) (aXl.wrap ((aXl.wrap ((aXl.wrap ((aXl.wrap ((aXl.wrap (vh_1+(bits .xor .u32 (bits .xor .u32 x40 x42) x45)))+(bits .xor .u32 (bits .and .u32 ve_1 f_1) (bits .and .u32 (bits .xor .u32 (aXJ .u32) ve_1) g_1))))+x58))+x62))+(aXl.wrap ((bits .xor .u32 (bits .xor .u32 x66 x68) x71)+(bits .xor .u32 (bits .xor .u32 (bits .and .u32 va_1 b_1) (bits .and .u32 va_1 c_1)) (bits .and .u32 b_1 c_1)))))) va_1 b_1 c_1 (aXl.wrap (d_1+(aXl.wrap ((aXl.wrap ((aXl.wrap ((aXl.wrap (vh_1+(bits .xor .u32 (bits .xor .u32 x40 x42) x45)))+(bits .xor .u32 (bits .and .u32 ve_1 f_1) (bits .and .u32 (bits .xor .u32 (aXJ .u32) ve_1) g_1))))+x58))+x62)))) ve_1 f_1 g_1 (aXj.wrap (x35+1))
  else
   some (va_1,b_1,c_1,d_1,ve_1,f_1,g_1,vh_1)
def mQ (N:Nat)(cT block:List Int):Option (List Int):=
 (a9 64 block).bind fun q=>
 (q5 N block).bind fun x18=>
 (a9 64 x18).bind fun q_1=>
 (bX 8 cT 0).bind fun x19=>
 (bX 8 cT 1).bind fun d5=>
 (bX 8 cT 2).bind fun iD=>
 (bX 8 cT 3).bind fun x25=>
 (bX 8 cT 4).bind fun x27=>
 (bX 8 cT 5).bind fun x29=>
 (bX 8 cT 6).bind fun eG=>
 (bX 8 cT 7).bind fun iA=>
 (i8 N cT x18 N x19 d5 iD x25 x27 x29 eG iA 0).bind fun p2=>
 sD N cT p2.1 p2.2.1 p2.2.2.1 p2.2.2.2.1 p2.2.2.2.2.1 p2.2.2.2.2.2.1 p2.2.2.2.2.2.2.1 p2.2.2.2.2.2.2.2
def aDC (N:Nat)(cS:List Int):Option (List Int):=
 (a9 32 cS).bind fun q=>
 some cS
def vQ (N:Nat)(l1:List Int):Nat→Int→(List Int)→Option (List Int)
 |0,_,_=>none
 |m+1,eG,l2=>
  if decide (eG<32) then
   (bX 8 l1 (aXj.wrap (aXt eG 4))).bind fun x37=>
   (shr .u32 x37 (aXj.wrap (24-(aXj.wrap ((aXu eG 4)*8))))).bind fun x43=>
   (bX 32 l2 eG).bind fun x45=>
   (vQ N l1 m) (aXj.wrap (eG+1)) (l2.set (aXn eG) (aXp.wrap x43))
  else
   some l2
def aDB (N:Nat)(l1:List Int):Option (List Int):=
 (vQ N l1 N 0 (aXk 32 0)).bind fun p3=>
 aDC N p3
def u5 (N:Nat)(bQ:(List Int)):Nat→Int→(List Int)→Option (List Int)
 |0,_,_=>none
 |m+1,x19,l1_2=>
  if decide (x19<(aXj.wrap (aXt (bQ.length:Int) 64))) then
   (a9 8 l1_2).bind fun q_1=>
   (sub bQ (aXj.wrap (64*x19)) (bQ.length:Int)).bind fun x26=>
   (tV 64 x26).bind fun x27=>
   (mQ N l1_2 x27).bind fun x29=>
   (a9 8 x29).bind fun q_2=>
   (u5 N bQ m) (aXj.wrap (x19+1)) x29
  else
   some l1_2
def aBd (N:Nat)(b:List Int):Option (List Int):=
 (aFk N (aXm.wrap (b.length:Int))).bind fun fR=>
 (aD0 N [b,fR]).bind fun bQ=>
 (u5 N bQ N 0 aAf).bind fun p4=>
 aDB N p4
def rV (N:Nat)(b:List Int):Option (List Int):=
 (aBd N b).bind fun x5=>
 (a9 32 x5).bind fun q=>
 some x5
def z4 (N:Nat)(tag:ByteArray)(b:List Int):Option (List Int):=
 (stb tag).bind fun x7=>
 (aBd N x7).bind fun x8=>
 (a9 32 x8).bind fun q=>
 (aD0 N [x8,x8,b]).bind fun dA=>
 (aBd N dA).bind fun bQ=>
 (a9 32 bQ).bind fun q_1=>
 some bQ
def vI (N:Nat)(aC:Int)(aA:List aG)(aB:List aF)(aE vi bI:Int)(aZ l3 l4 l5:List Int):Option ((List Int)×Int):=
 (pA N aC).bind fun x72=>
 (rV N l3).bind fun x74=>
 (rV N l4).bind fun x76=>
 (rV N l5).bind fun x78=>
 (pA N aE).bind fun x81=>
 (pA N (aXl.wrap vi)).bind fun x84=>
 (uO N bI aZ).bind fun x86=>
 (yD N [x72,x74,x76,x78,x81,x84,x86]).bind fun x88=>
 (z4 N (⟨#[108,105,103,104,116,99,108,105,101,110,116,47,115,112,101,110,100]⟩) x88).bind fun x89=>
 (a9 32 x89).bind fun q=>
 some (x89,0)
def iF (N:Nat)(aC:Int)(aA:List aG)(aB:List aF)(aE vi bI:Int)(aZ l3 l4:List Int):Nat→Int→(List Int)→Option (List Int)
 |0,_,_=>none
 |m+1,x61,l5_1=>
  if decide (x61<(aB.length:Int)) then
   (bU aB x61).bind fun x63=>
   (uO N x63.Value x63.Script).bind fun x67=>
   (eD 1 l5_1 x67).bind fun x68=>
   (iF N aC aA aB aE vi bI aZ l3 l4 m) (aXj.wrap (x61+1)) x68
  else
   some l5_1
def vH (N:Nat)(aC:Int)(aA:List aG)(aB:List aF)(aE vi bI:Int)(aZ l3 l4:List Int):Option ((List Int)×Int):=
 (iF N aC aA aB aE vi bI aZ l3 l4 N 0 []).bind fun p5=>
 vI N aC aA aB aE vi bI aZ l3 l4 p5
def lG (N:Nat)(aC:Int)(aA:List aG)(aB:List aF)(aE vi bI:Int)(aZ:List Int):Nat→Int→(List Int)→(List Int)→Option ((List Int)×(List Int))
 |0,_,_,_=>none
 |m+1,x43,e9,iB=>
  if decide (x43<(aA.length:Int)) then
   (bU aA x43).bind fun x45=>
   (aCs N x45.Prev.Tx x45.Prev.Index).bind fun x50=>
   (eD 1 e9 x50).bind fun x51=>
   (pA N x45.Sequence).bind fun x55=>
   (eD 1 iB x55).bind fun x56=>
   (lG N aC aA aB aE vi bI aZ m) (aXj.wrap (x43+1)) x51 x56
  else
   some (e9,iB)
def oA (N:Nat)(aC:Int)(aA:List aG)(aB:List aF)(aE vi bI:Int)(aZ:List Int)(x38:Bool):Option ((List Int)×Int):=
 if x38 then
  some ([0,0,0,0,0,0,0,0,0,0,0,0,0,0,0,0,0,0,0,0,0,0,0,0,0,0,0,0,0,0,0,0],5)
 else
  (lG N aC aA aB aE vi bI aZ N 0 [] []).bind fun p6=>
  vH N aC aA aB aE vi bI aZ p6.1 p6.2
def n9 (N:Nat)(aC:Int)(aA:List aG)(aB:List aF)(aE vi bI:Int)(aZ:List Int)(x28:Bool):Option ((List Int)×Int):=
 if x28 then
  some ([0,0,0,0,0,0,0,0,0,0,0,0,0,0,0,0,0,0,0,0,0,0,0,0,0,0,0,0,0,0,0,0],4)
 else
  if decide (vi<0) then
   oA N aC aA aB aE vi bI aZ true
  else
   oA N aC aA aB aE vi bI aZ (decide ((aA.length:Int)≤vi))
def vT (N:Nat)(aC:Int)(aA:List aG)(aB:List aF)(aE vi bI:Int)(aZ:List Int):Option ((List Int)×Int):=
 (aBM N aC aA aB aE).bind fun x16=>
 if !x16 then
  n9 N aC aA aB aE vi bI aZ true
 else
  if decide (bI<0) then
   n9 N aC aA aB aE vi bI aZ true
  else
   n9 N aC aA aB aE vi bI aZ (decide (520<(aZ.length:Int)))
def sK (N:Nat)(x2:Bool):Option Bool:=
 some x2
def yF (N:Nat)(code:Int):Option Bool:=
 if decide (1≤code) then
  sK N (decide (code≤17))
 else
  sK N false
def aDk (N:Nat)(l0:List Int):Option (List Int):=
 some l0
def nH (N:Nat)(parts:List (List Int)):Nat→Int→(List Int)→Option (List Int)
 |0,_,_=>none
 |m+1,x8,aS=>
  if decide (x8<(parts.length:Int)) then
   (bU parts x8).bind fun cD=>
   (eD 1 aS cD).bind fun bQ=>
   (nH N parts m) (aXj.wrap (x8+1)) bQ
  else
   some aS
def vE (N:Nat)(parts:List (List Int)):Option (List Int):=
 (nH N parts N 0 []).bind fun p2=>
 aDk N p2
def kK (N:Nat)(x4:Bool):Option Bool:=
 some x4
def t6 (N:Nat)(vm vn:Int):Option Bool:=
 if decide (1≤vn) then
  if decide (vn≤15) then
   if decide (1≤vm) then
    kK N (decide (vm≤vn))
   else
    kK N false
  else
   kK N false
 else
  kK N false
def n8 (N:Nat)(x8:Int)(b_1:List Int)(c1 aCq:Int)(l2:List Int):Option (Int×(List Int)×Int×Int×(List Int)×Int):=
 some (aXj.wrap x8,l2,c1,aCq,b_1,0)
def uC (N:Nat)(x8:Int)(x18:List Int)(x35:Bool):Option (Int×(List Int)×Int×Int×(List Int)×Int):=
 if x35 then
  some (0,[],0,0,[],1)
 else
  (bU x18 0).bind fun x38=>
  (sub x18 1 (aXj.wrap (1+(aXj.wrap x38)))).bind fun x44=>
  (vE N [x44]).bind fun x46=>
  (sub x18 (aXj.wrap (1+(aXj.wrap x38))) (x18.length:Int)).bind fun x49=>
  n8 N x8 x49 0 0 x46
def aAw (N:Nat)(b:List Int):Option (Int×(List Int)×Int×Int×(List Int)×Int):=
 (bU b 0).bind fun x8=>
 (yF N (aXj.wrap x8)).bind fun bQ=>
 if !bQ then
  some (0,[],0,0,[],80)
 else
  (sub b 1 (b.length:Int)).bind fun x18=>
  if(aXj.wrap x8) == 1 then
   if(x18.length:Int) == 0 then
    uC N x8 x18 true
   else
    (bU x18 0).bind fun eG=>
    uC N x8 x18 (decide ((aXj.wrap ((x18.length:Int)-1))<(aXj.wrap eG)))
  else
   if(aXj.wrap x8) == 11 then
    if decide ((x18.length:Int)<2) then
     some (0,[],0,0,[],1)
    else
     (bU x18 0).bind fun x58=>
     (bU x18 1).bind fun x62=>
     (sub x18 2 (x18.length:Int)).bind fun x66=>
     (t6 N (aXj.wrap x58) (aXj.wrap x62)).bind fun x73=>
     if !x73 then
      some (0,[],0,0,[],5)
     else
      n8 N x8 x66 (aXj.wrap x58) (aXj.wrap x62) []
   else
    n8 N x8 x18 0 0 []
def aBR (N:Nat)(l0:List aX):Option ((List aX)×Int):=
 some (l0,0)
def nB (N:Nat):Nat→(List Int)→(List aX)→Option (LR ((List aX)) ((List aX)×Int))
 |0,_,_=>none
 |m+1,b_1,aS=>
  if decide (0<(b_1.length:Int)) then
   (aAw N b_1).bind fun x16=>
   if x16.2.2.2.2.2 != 0 then
    some (.ret ([],x16.2.2.2.2.2))
   else
    (eD 48 aS [(aX.mk x16.1 x16.2.1 x16.2.2.1 x16.2.2.2.1)]).bind fun x26=>
    (nB N m) x16.2.2.2.2.1 x26
  else
   some (.brk aS)
def yJ (N:Nat)(b:List Int):Option ((List aX)×Int):=
 if decide (520<(b.length:Int)) then
  some ([],4)
 else
  (nB N N b []).bind fun q=>match q with
   | .ret v=>some v
   | .brk p2=>
    aBR N p2
def aA1 (N:Nat)(l0:List Bool):Option Bool:=
 some ((l0.length:Int) == 0)
def lF (N:Nat)(l:List aX)(x9:Int)(rec:Int→(List Bool)→Option (LR ((List Bool)) (Bool)))(fL:List Bool):Option (LR ((List Bool)) (Bool)):=
 rec (aXj.wrap (x9+1)) fL
def rA (N:Nat)(l:List aX)(x9:Int)(aS:List Bool)(rec:Int→(List Bool)→Option (LR ((List Bool)) (Bool)))(lB:Bool):Option (LR ((List Bool)) (Bool)):=
 if lB then
  some (.ret false)
 else
  (bU aS (aXj.wrap ((aS.length:Int)-1))).bind fun x35=>
  lF N l x9 rec (aS.set (aXn (aXj.wrap ((aS.length:Int)-1))) true)
def d8 (N:Nat)(l:List aX):Nat→Int→(List Bool)→Option (LR ((List Bool)) (Bool))
 |0,_,_=>none
 |m+1,x9,aS=>
  if decide (x9<(l.length:Int)) then
   (bU l x9).bind fun b4=>
   if b4.Code == 14 then
    (eD 1 aS [false]).bind fun bV=>
    lF N l x9 (d8 N l m) bV
   else
    if b4.Code == 15 then
     if decide ((aXj.wrap ((aS.length:Int)-1))<0) then
      rA N l x9 aS (d8 N l m) true
     else
      (bU aS (aXj.wrap ((aS.length:Int)-1))).bind fun jL=>
      rA N l x9 aS (d8 N l m) jL
    else
     if b4.Code == 16 then
      if decide ((aXj.wrap ((aS.length:Int)-1))<0) then
       some (.ret false)
      else
       (sub aS 0 (aXj.wrap ((aS.length:Int)-1))).bind fun x42=>
       lF N l x9 (d8 N l m) x42
     else
      lF N l x9 (d8 N l m) aS
  else
   some (.brk aS)
def vV (N:Nat)(l:List aX):Option Bool:=
 (d8 N l N 0 []).bind fun q=>match q with
  | .ret v=>some v
  | .brk p2=>
   aA1 N p2
def aAg (N:Nat):Option Bool:=
 some true
def iX (N:Nat)(stack:List (List Int)):Nat→Int→Option (LR (Unit) (Bool))
 |0,_=>none
 |m+1,cD=>
  if decide (cD<(stack.length:Int)) then
   (bU stack cD).bind fun fR=>
   if decide (520<(fR.length:Int)) then
    some (.ret false)
   else
    (iX N stack m) (aXj.wrap (cD+1))
  else
   some (.brk ())
def uN (N:Nat)(stack:List (List Int)):Option Bool:=
 if decide (64<(stack.length:Int)) then
  some false
 else
  (iX N stack N 0).bind fun q=>match q with
   | .ret v=>some v
   | .brk p2=>
    aAg N
def u4 (N:Nat)(l0:List (List Int)):Option (List (List Int)):=
 some l0
def lE (N:Nat)(stack:List (List Int)):Nat→Int→(List (List Int))→Option (List (List Int))
 |0,_,_=>none
 |m+1,x8,aS=>
  if decide (x8<(stack.length:Int)) then
   (bU stack x8).bind fun cD=>
   (vE N [cD]).bind fun x15=>
   (eD 24 aS [x15]).bind fun x17=>
   (lE N stack m) (aXj.wrap (x8+1)) x17
  else
   some aS
def sA (N:Nat)(stack:List (List Int)):Option (List (List Int)):=
 (lE N stack N 0 []).bind fun p2=>
 u4 N p2
def jT (N:Nat)(aH:List Int)(aK aP:Int)(aN:List (List Int))(aJ:List aO)(aY:Int)(x2:Bool):Option Bool:=
 some x2
def pI (N:Nat)(aH:List Int)(aK aP:Int)(aN:List (List Int))(aJ:List aO)(aY:Int):Option Bool:=
 if(aJ.length:Int) == 0 then
  some true
 else
  (bU aJ (aXj.wrap ((aJ.length:Int)-1))).bind fun bT=>
  if bT.outer then
   jT N aH aK aP aN aJ aY bT.taken
  else
   jT N aH aK aP aN aJ aY false
def yW (N:Nat)(bB:Int)(cC:List Int)(eU eJ:Int):Option Int:=
 if bB == 8 then
  some 6
 else
  if bB == 10 then
   some 21
  else
   if bB == 11 then
    some (aXj.wrap (1+(aXj.wrap (20*eJ))))
   else
    some 1
def pO (N:Nat)(bB:Int)(cC:List Int)(eU eJ:Int)(cD:Bool):Option Int:=
 if cD then
  some 2
 else
  if bB == 11 then
   some (aXj.wrap (2*eJ))
  else
   some 1
def mY (N:Nat)(bB:Int)(cC:List Int)(eU eJ:Int)(x5:Bool):Option Int:=
 if x5 then
  some 0
 else
  if bB == 4 then
   pO N bB cC eU eJ (bB == 4)
  else
   if bB == 5 then
    pO N bB cC eU eJ (bB == 5)
   else
    pO N bB cC eU eJ (bB == 10)
def yZ (N:Nat)(bB:Int)(cC:List Int)(eU eJ:Int):Option Int:=
 if bB == 1 then
  mY N bB cC eU eJ (bB == 1)
 else
  if bB == 15 then
   mY N bB cC eU eJ (bB == 15)
  else
   if bB == 16 then
    mY N bB cC eU eJ (bB == 16)
   else
    mY N bB cC eU eJ (bB == 17)
def cV (N:Nat)(aH:List Int)(aK aP:Int)(aN:List (List Int))(aJ:List aO)(aY:Int):Option (List Int):=
 (bU aN (aXj.wrap ((aN.length:Int)-1))).bind fun dA=>
 some dA
def aBL (N:Nat):Option Bool:=
 some false
def g8 (N:Nat)(gM:List Int):Nat→Int→Option (LR (Unit) (Bool))
 |0,_=>none
 |m+1,x7=>
  if decide (x7<(gM.length:Int)) then
   (bU gM x7).bind fun x9=>
   if x9 != 0 then
    some (.ret true)
   else
    (g8 N gM m) (aXj.wrap (x7+1))
  else
   some (.brk ())
def kZ (N:Nat)(gM:List Int):Option Bool:=
 (g8 N gM N 0).bind fun q=>match q with
  | .ret v=>some v
  | .brk p2=>
   aBL N
def eR (N:Nat)(aH:List Int)(aK aP:Int)(aN:List (List Int))(aJ:List aO)(aY vn:Int):Option ((List Int)×Int×Int×(List (List Int))×(List aO)×Int):=
 (sub aN 0 (aXj.wrap ((aN.length:Int)-vn))).bind fun x16=>
 some (aH,aK,aP,x16,aJ,aY)
def i4 (N:Nat)(aH:List Int)(aK aP:Int)(aN:List (List Int))(aJ:List aO)(aY:Int)(gM:List Int):Option (Int×(List Int)×Int×Int×(List (List Int))×(List aO)×Int):=
 if decide (64≤(aN.length:Int)) then
  some (4,aH,aK,aP,aN,aJ,aY)
 else
  (eD 24 aN [gM]).bind fun x18=>
  some (0,aH,aK,aP,x18,aJ,aY)
def aCO (N:Nat)(va b:List Int):Option Bool:=
 some ((sY va).toList == (sY b).toList)
def zJ (N:Nat)(l0:List Int):Option (List Int):=
 some l0
def fF (N:Nat):Nat→Int→(List Int)→Option (List Int)
 |0,_,_=>none
 |m+1,eC,aS=>
  if decide (0<eC) then
   (eD 1 aS [aXp.wrap eC]).bind fun fR=>
   (shr .u32 eC 8).bind fun x7=>
   (fF N m) x7 fR
  else
   some aS
def iQ (N:Nat)(vn:Int):Option (List Int):=
 (fF N N vn []).bind fun p2=>
 zJ N p2
def lV (N:Nat)(v:Bool):Option (List Int):=
 if v then
  (iQ N 1).bind fun x4=>
  some x4
 else
  (iQ N 0).bind fun x5=>
  some x5
def dP (N:Nat)(aH:List Int)(aK aP:Int)(aN:List (List Int))(aJ:List aO)(aY vn:Int)(gM:List Int):Option ((List Int)×Int×Int×(List (List Int))×(List aO)×Int):=
 (eR N aH aK aP aN aJ aY vn).bind fun x8=>
 (eD 24 x8.2.2.2.1 [gM]).bind fun x16=>
 some (x8.1,x8.2.1,x8.2.2.1,x16,x8.2.2.2.2.1,x8.2.2.2.2.2)
def pZ (N:Nat)(l1:List Int):Option (List Int):=
 (a9 4 l1).bind fun q=>
 some l1
def gT (N:Nat)(vh:List Int):Nat→Int→(List Int)→Option (List Int)
 |0,_,_=>none
 |m+1,x8,cS=>
  if decide (x8<32) then
   (bX 32 vh x8).bind fun b4=>
   (bX 4 cS (aXj.wrap (3-(aXj.wrap (aXt x8 8))))).bind fun x17=>
   (shl .u64 x17 8).bind fun x19=>
   (gT N vh m) (aXj.wrap (x8+1)) (cS.set (aXn (aXj.wrap (3-(aXj.wrap (aXt x8 8))))) (bits .or .u64 x19 (aXm.wrap b4)))
  else
   some cS
def fV (N:Nat)(vh:List Int):Option (List Int):=
 (a9 32 vh).bind fun q_1=>
 (gT N vh N 0 (aXk 4 0)).bind fun p2=>
 pZ N p2
def fS (N:Nat)(vn:Int):Option (List Int):=
 some [vn,0,0,0]
def r7 (N:Nat):Option (List Int):=
 some [18446744073709515503,18446744073709551615,18446744073709551615,18446744073709551615]
def aCU (N:Nat):Option Int:=
 some 0
def oU (N:Nat)(va b:List Int):Nat→Int→Option (LR (Unit) (Int))
 |0,_=>none
 |m+1,vi=>
  if decide (0≤vi) then
   (bX 4 va vi).bind fun b4=>
   (bX 4 b vi).bind fun bQ=>
   if decide (b4<bQ) then
    some (.ret (-1))
   else
    if decide (bQ<b4) then
     some (.ret 1)
    else
     (oU N va b m) (aXj.wrap (vi-1))
  else
   some (.brk ())
def pR (N:Nat)(va b:List Int):Option Int:=
 (oU N va b N 3).bind fun q=>match q with
  | .ret v=>some v
  | .brk p2=>
   aCU N
def qN (N:Nat):Option (List Int):=
 some [18446744073709533559,18446744073709551615,18446744073709551615,9223372036854775807]
def jK (N:Nat)(x_3 aDq:Int):Option Int:=
 (aOO (⟨#[0,1,2,2,3,3,3,3,4,4,4,4,4,4,4,4,5,5,5,5,5,5,5,5,5,5,5,5,5,5,5,5,6,6,6,6,6,6,6,6,6,6,6,6,6,6,6,6,6,6,6,6,6,6,6,6,6,6,6,6,6,6,6,6,7,7,7,7,7,7,7,7,7,7,7,7,7,7,7,7,7,7,7,7,7,7,7,7,7,7,7,7,7,7,7,7,7,7,7,7,7,7,7,7,7,7,7,7,7,7,7,7,7,7,7,7,7,7,7,7,7,7,7,7,7,7,7,7,8,8,8,8,8,8,8,8,8,8,8,8,8,8,8,8,8,8,8,8,8,8,8,8,8,8,8,8,8,8,8,8,8,8,8,8,8,8,8,8,8,8,8,8,8,8,8,8,8,8,8,8,8,8,8,8,8,8,8,8,8,8,8,8,8,8,8,8,8,8,8,8,8,8,8,8,8,8,8,8,8,8,8,8,8,8,8,8,8,8,8,8,8,8,8,8,8,8,8,8,8,8,8,8,8,8,8,8,8,8,8,8,8,8,8,8,8,8,8,8,8,8,8,8,8,8,8,8]⟩) (aXp.wrap x_3)).bind fun bV=>
 some (aXj.wrap (aDq+(aXj.wrap bV)))
def lI (N:Nat)(x_2 eC:Int):Option Int:=
 if decide (256≤x_2) then
  (shr .u64 x_2 8).bind fun x16=>
  jK N x16 (aXj.wrap (eC+8))
 else
  jK N x_2 eC
def lM (N:Nat)(x_1 vn:Int):Option Int:=
 if decide (65536≤x_1) then
  (shr .u64 x_1 16).bind fun cD=>
  lI N cD (aXj.wrap (vn+16))
 else
  lI N x_1 vn
def s8 (N:Nat)(x:Int):Option Int:=
 if decide (4294967296≤x) then
  (shr .u64 x 32).bind fun x6=>
  lM N x6 32
 else
  lM N x 0
def aCY (N:Nat):Option Int:=
 some 0
def tL (N:Nat)(va:List Int):Nat→Int→Option (LR (Unit) (Int))
 |0,_=>none
 |m+1,vi=>
  if decide (0≤vi) then
   (bX 4 va vi).bind fun x9=>
   if x9 != 0 then
    (s8 N x9).bind fun x17=>
    some (.ret (aXj.wrap ((aXj.wrap (64*vi))+x17)))
   else
    (tL N va m) (aXj.wrap (vi-1))
  else
   some (.brk ())
def aEl (N:Nat)(va:List Int):Option Int:=
 (tL N va N 3).bind fun q=>match q with
  | .ret v=>some v
  | .brk p2=>
   aCY N
def mS (N:Nat)(x y:Int):Option (Int×Int):=
 (shr .u64 x 32).bind fun x17=>
 (shr .u64 y 32).bind fun d5=>
 (shr .u64 (aXm.wrap ((bits .and .u64 x 4294967295)*(bits .and .u64 y 4294967295))) 32).bind fun x29=>
 (shr .u64 (aXm.wrap ((aXm.wrap (x17*(bits .and .u64 y 4294967295)))+x29)) 32).bind fun cU=>
 (shr .u64 (aXm.wrap ((bits .and .u64 (aXm.wrap ((aXm.wrap (x17*(bits .and .u64 y 4294967295)))+x29)) 4294967295)+(aXm.wrap ((bits .and .u64 x 4294967295)*d5)))) 32).bind fun x46=>
 some (aXm.wrap ((aXm.wrap ((aXm.wrap (x17*d5))+cU))+x46),aXm.wrap (x*y))
def d7 (N:Nat)(x y c:Int):Option (Int×Int):=tX x y c
def aAK (N:Nat)(l2:List Int):Option ((List Int)×(List Int)):=
 (a9 8 l2).bind fun q=>
 (wH l2 4 8).bind fun x63=>
 (tV 4 x63).bind fun x64=>
 (wH l2 0 4).bind fun x66=>
 (tV 4 x66).bind fun x67=>
 some (x64,x67)
def aAl (N:Nat)(va b:List Int)(bQ:Int)(rec:Int→(List Int)→Option (List Int))(iB:List Int):Option (List Int):=
 rec (aXj.wrap (bQ+1)) iB
def aAs (N:Nat)(va b:List Int)(bQ:Int)(rec:Int→(List Int)→Option (List Int))(lA:Int)(aA3:List Int):Option (List Int):=
 (bX 8 aA3 (aXj.wrap (bQ+4))).bind fun x61=>
 aAl N va b bQ rec (aA3.set (aXn (aXj.wrap (bQ+4))) lA)
def dK (N:Nat)(va b:List Int)(bQ:Int):Nat→Int→Int→(List Int)→Option (Int×(List Int))
 |0,_,_,_=>none
 |m+1,carry_1,x17,l4_3=>
  if decide (x17<4) then
   (bX 4 va bQ).bind fun bV=>
   (bX 4 b x17).bind fun x25=>
   (mS N bV x25).bind fun x27=>
   (bX 8 l4_3 (aXj.wrap (bQ+x17))).bind fun x35=>
   (d7 N x27.2 x35 0).bind fun x37=>
   (d7 N x37.1 carry_1 0).bind fun x46=>
   (dK N va b bQ m) (aXm.wrap ((aXm.wrap (x27.1+x37.2))+x46.2)) (aXj.wrap (x17+1)) (l4_3.set (aXn (aXj.wrap (bQ+x17))) x46.1)
  else
   some (carry_1,l4_3)
def kW (N:Nat)(va b:List Int):Nat→Int→(List Int)→Option (List Int)
 |0,_,_=>none
 |m+1,bQ,l4=>
  if decide (bQ<4) then
   (dK N va b bQ N 0 0 l4).bind fun p5=>
   aAs N va b bQ (kW N va b m) p5.1 p5.2
  else
   some l4
def aA4 (N:Nat)(va b:List Int):Option ((List Int)×(List Int)):=
 (kW N va b N 0 (aXk 8 0)).bind fun p2=>
 aAK N p2
def zV (N:Nat)(aJA:Int)(l0:List Int):Option ((List Int)×Int):=
 (a9 4 l0).bind fun q=>
 some (l0,aJA)
def oJ (N:Nat):Nat→Int→Int→(List Int)→Option (Int×(List Int))
 |0,_,_,_=>none
 |m+1,low_2,x7,aS=>
  if decide (x7<4) then
   (bX 4 aS x7).bind fun fR=>
   (shl .u64 fR 1).bind fun bQ=>
   (shr .u64 fR 63).bind fun bT=>
   (oJ N m) bT (aXj.wrap (x7+1)) (aS.set (aXn x7) (bits .or .u64 bQ low_2))
  else
   some (low_2,aS)
def tF (N:Nat)(va:List Int)(low:Int):Option ((List Int)×Int):=
 (oJ N N low 0 va).bind fun p2=>
 zV N p2.1 p2.2
def sQ (N:Nat)(x y c:Int):Option (Int×Int):=aFz x y c
def aAD (N:Nat)(borrow:Int)(l1:List Int):Option ((List Int)×Bool):=
 (a9 4 l1).bind fun q=>
 some (l1,borrow != 0)
def kU (N:Nat)(va b:List Int):Nat→Int→Int→(List Int)→Option (Int×(List Int))
 |0,_,_,_=>none
 |m+1,borrow_1,x9,l3=>
  if decide (x9<4) then
   (bX 4 va x9).bind fun x15=>
   (bX 4 b x9).bind fun x18=>
   (sQ N x15 x18 borrow_1).bind fun d5=>
   (bX 4 l3 x9).bind fun fG=>
   (kU N va b m) d5.2 (aXj.wrap (x9+1)) (l3.set (aXn x9) d5.1)
  else
   some (borrow_1,l3)
def tK (N:Nat)(va b:List Int):Option ((List Int)×Bool):=
 (kU N va b N 0 0 (aXk 4 0)).bind fun p2=>
 aAD N p2.1 p2.2
def aCX (N:Nat)(l0 l1:List Int):Option ((List Int)×(List Int)×Bool):=
 (a9 4 l0).bind fun q_2=>
 (a9 4 l1).bind fun q_3=>
 some (l0,l1,true)
def aC0 (N:Nat)(b:List Int)(dC:Int)(rec:Int→(List Int)→(List Int)→(List Int)→Option ((List Int)×(List Int)))(fL jD e9:List Int):Option ((List Int)×(List Int)):=
 rec (aXj.wrap (dC-1)) fL jD e9
def wG (N:Nat)(b:List Int)(dC bit:Int)(rec:Int→(List Int)→(List Int)→(List Int)→Option (LR ((List Int)×(List Int)×(List Int)) ((List Int)×(List Int))))(aJQ aKv aJ4:List Int):Option (LR ((List Int)×(List Int)×(List Int)) ((List Int)×(List Int))):=
 rec (aXj.wrap (bit-1)) aJQ aKv aJ4
def tT (N:Nat)(b:List Int)(dC bit:Int)(kC:List Int)(x40 x46:(List Int)×Int)(rec:Int→(List Int)→(List Int)→(List Int)→Option (LR ((List Int)×(List Int)×(List Int)) ((List Int)×(List Int))))(x56:Bool):Option (LR ((List Int)×(List Int)×(List Int)) ((List Int)×(List Int))):=
 if x56 then
  (tK N x46.1 b).bind fun x60=>
  (a9 4 x60.1).bind fun q_8=>
  (bX 4 kC dC).bind fun x64=>
  (shl .u64 1 bit).bind fun x67=>
  wG N b dC bit rec x40.1 (kC.set (aXn dC) (bits .or .u64 x64 x67)) x60.1
 else
  wG N b dC bit rec x40.1 kC x46.1
def v5 (N:Nat)(b:List Int)(dC bit:Int)(gE kC jZ:List Int)(rec:Int→(List Int)→(List Int)→(List Int)→Option (LR ((List Int)×(List Int)×(List Int)) ((List Int)×(List Int))))(x37:Bool):Option (LR ((List Int)×(List Int)×(List Int)) ((List Int)×(List Int))):=
 if x37 then
  some (.ret (kC,jZ))
 else
  (a9 4 gE).bind fun q_4=>
  (tF N gE 0).bind fun x40=>
  (a9 4 x40.1).bind fun q_5=>
  (a9 4 jZ).bind fun q_6=>
  (tF N jZ x40.2).bind fun x46=>
  (a9 4 x46.1).bind fun q_7=>
  if x46.2 != 0 then
   tT N b dC bit kC x40 x46 rec true
  else
   (pR N x46.1 b).bind fun x54=>
   tT N b dC bit kC x40 x46 rec (decide (0≤x54))
def dU (N:Nat)(b:List Int)(dC:Int):Nat→Int→(List Int)→(List Int)→(List Int)→Option (LR ((List Int)×(List Int)×(List Int)) ((List Int)×(List Int)))
 |0,_,_,_,_=>none
 |m+1,bit,gE,kC,jZ=>
  if decide (0≤bit) then
   (a9 4 jZ).bind fun q_9=>
   if jZ == [0,0,0,0] then
    (a9 4 gE).bind fun aWK=>
    v5 N b dC bit gE kC jZ (dU N b dC m) (gE == [0,0,0,0])
   else
    v5 N b dC bit gE kC jZ (dU N b dC m) false
  else
   some (.brk (gE,kC,jZ))
def oP (N:Nat)(b:List Int):Nat→Int→(List Int)→(List Int)→(List Int)→Option ((List Int)×(List Int))
 |0,_,_,_,_=>none
 |m+1,dC,aS,l2,l3=>
  if decide (0≤dC) then
   (dU N b dC N 63 aS l2 l3).bind fun q=>match q with
    | .ret p4_1=>
     some (p4_1.1,p4_1.2)
    | .brk p4=>
     aC0 N b dC (oP N b m) p4.1 p4.2.1 p4.2.2
  else
   some (l2,l3)
def aCp (N:Nat)(hi lo b:List Int):Option ((List Int)×(List Int)×Bool):=
 (a9 4 b).bind fun q=>
 (a9 4 hi).bind fun q_1=>
 (pR N b hi).bind fun x16=>
 if decide (x16≤0) then
  some ([0,0,0,0],[0,0,0,0],false)
 else
  (oP N b N 3 lo (aXk 4 0) hi).bind fun p2=>
  aCX N p2.1 p2.2
def tN (N:Nat)(va vm:List Int):Option (List Int):=
 (a9 4 va).bind fun q=>
 (a9 4 vm).bind fun q_1=>
 (pR N va vm).bind fun cD=>
 if decide (cD<0) then
  some va
 else
  (aCp N [0,0,0,0] va vm).bind fun x17=>
  (a9 4 x17.1).bind fun q_2=>
  (a9 4 x17.2.1).bind fun q_3=>
  some x17.2.1
def aAu (N:Nat)(va b vm:List Int):Option (List Int):=
 (a9 4 vm).bind fun q=>
 if vm == [0,0,0,0] then
  some [0,0,0,0]
 else
  (a9 4 va).bind fun q_1=>
  (a9 4 b).bind fun q_2=>
  (aA4 N va b).bind fun x19=>
  (a9 4 x19.1).bind fun q_3=>
  (a9 4 x19.2).bind fun q_4=>
  (tN N x19.1 vm).bind fun x25=>
  (aCp N x25 x19.2 vm).bind fun x28=>
  (a9 4 x28.1).bind fun q_5=>
  (a9 4 x28.2.1).bind fun q_6=>
  some x28.2.1
def xI (N:Nat)(va b:List Int):Option (List Int):=
 (a9 4 va).bind fun q=>
 (a9 4 b).bind fun q_1=>
 (r7 N).bind fun x7=>
 (aAu N va b x7).bind fun x8=>
 (a9 4 x8).bind fun q_2=>
 some x8
def aBg (N:Nat)(l1:List Int):Option (List Int):=
 (a9 4 l1).bind fun q_2=>
 some l1
def uK (N:Nat)(va ve:List Int)(b4 dA:Int)(rec:Int→(List Int)→Option (List Int))(e9:List Int):Option (List Int):=
 rec (aXj.wrap (dA+1)) e9
def mL (N:Nat)(va ve:List Int)(b4:Int):Nat→Int→(List Int)→Option (List Int)
 |0,_,_=>none
 |m+1,dA,l3=>
  if decide (dA<b4) then
   (a9 4 l3).bind fun q_3=>
   (xI N l3 l3).bind fun bV=>
   (a9 4 bV).bind fun q_4=>
   (bX 4 ve (aXj.wrap (aXt (aXj.wrap ((aXj.wrap (b4-1))-dA)) 64))).bind fun x25=>
   (shr .u64 x25 (aXu (aXj.wrap ((aXj.wrap (b4-1))-dA)) 64)).bind fun x29=>
   if(bits .and .u64 x29 1) == 1 then
    (a9 4 va).bind fun q_5=>
    (xI N bV va).bind fun cU=>
    (a9 4 cU).bind fun q_6=>
    uK N va ve b4 dA (mL N va ve b4 m) cU
   else
    uK N va ve b4 dA (mL N va ve b4 m) bV
  else
   some l3
def yS (N:Nat)(va ve:List Int):Option (List Int):=
 (fS N 1).bind fun x9=>
 (a9 4 x9).bind fun q=>
 (a9 4 ve).bind fun q_1=>
 (aEl N ve).bind fun b4=>
 (mL N va ve b4 N 0 x9).bind fun p2=>
 aBg N p2
def mT (N:Nat)(va:List Int)(b4:Bool):Option Bool:=
 if b4 then
  some false
 else
  (a9 4 va).bind fun q=>
  (qN N).bind fun dA=>
  (yS N va dA).bind fun bQ=>
  (fS N 1).bind fun x15=>
  (a9 4 bQ).bind fun q_1=>
  (a9 4 x15).bind fun q_2=>
  some (bQ == x15)
def rR (N:Nat)(va:List Int):Option Bool:=
 (a9 4 va).bind fun q_3=>
 if va == [0,0,0,0] then
  mT N va true
 else
  (r7 N).bind fun x8=>
  (pR N va x8).bind fun x9=>
  mT N va (decide (0≤x9))
def aAW (N:Nat)(x2:Bool):Option Bool:=
 some x2
def sR (N:Nat)(p:List Int):Option Bool:=
 (a9 4 p).bind fun q=>
 (fS N 1).bind fun x4=>
 (a9 4 x4).bind fun q_1=>
 if !(p == x4) then
  (rR N p).bind fun x8=>
  aAW N x8
 else
  aAW N false
def qP (N:Nat)(va:List Int):Option Bool:=
 (a9 4 va).bind fun q=>
 (qN N).bind fun x4=>
 (pR N va x4).bind fun x5=>
 some (decide (x5<0))
def qV (N:Nat)(dA x18:(List Int))(x29:Bool):Option ((List Int)×(List Int)×Int):=
 if x29 then
  some (aXk 4 0,aXk 4 0,5)
 else
  some (dA,x18,0)
def tP (N:Nat)(b:List Int):Option ((List Int)×(List Int)×Int):=
 if(b.length:Int) != 64 then
  some (aXk 4 0,aXk 4 0,8)
 else
  (sub b 0 32).bind fun cD=>
  (tV 32 cD).bind fun b4=>
  (fV N b4).bind fun dA=>
  (sub b 32 (b.length:Int)).bind fun x15=>
  (tV 32 x15).bind fun x16=>
  (fV N x16).bind fun x18=>
  (a9 4 dA).bind fun q=>
  (a9 4 x18).bind fun q_1=>
  (qP N dA).bind fun bV=>
  if !bV then
   qV N dA x18 true
  else
   (qP N x18).bind fun x27=>
   qV N dA x18 (!x27)
def wE (N:Nat)(ve:List Int):Option (List Int):=
 (fS N 4).bind fun x3=>
 (a9 4 ve).bind fun q=>
 (yS N x3 ve).bind fun x5=>
 (a9 4 x5).bind fun q_1=>
 some x5
def aAS (N:Nat)(l1:List Int):Option (List Int):=
 (a9 32 l1).bind fun q=>
 some l1
def k6 (N:Nat)(va:List Int):Nat→Int→(List Int)→Option (List Int)
 |0,_,_=>none
 |m+1,x5,l2=>
  if decide (x5<32) then
   (bX 4 va (aXj.wrap (3-(aXj.wrap (aXt x5 8))))).bind fun fR=>
   (shr .u64 fR (aXj.wrap (56-(aXj.wrap ((aXu x5 8)*8))))).bind fun x18=>
   (bX 32 l2 x5).bind fun bT=>
   (k6 N va m) (aXj.wrap (x5+1)) (l2.set (aXn x5) (aXp.wrap x18))
  else
   some l2
def vM (N:Nat)(va:List Int):Option (List Int):=
 (k6 N va N 0 (aXk 32 0)).bind fun p2=>
 aAS N p2
def aFc (N:Nat)(l0:List Int):Option (List Int):=
 some l0
def qI (N:Nat)(parts:List (List Int)):Nat→Int→(List Int)→Option (List Int)
 |0,_,_=>none
 |m+1,x8,aS=>
  if decide (x8<(parts.length:Int)) then
   (bU parts x8).bind fun cD=>
   (a9 32 cD).bind fun q=>
   (eD 1 aS cD).bind fun bQ=>
   (qI N parts m) (aXj.wrap (x8+1)) bQ
  else
   some aS
def aA2 (N:Nat)(parts:List (List Int)):Option (List Int):=
 (qI N parts N 0 []).bind fun p2=>
 aFc N p2
def aAx (N:Nat)(lA:Int)(l1:List Int):Option ((List Int)×Bool):=
 (a9 4 l1).bind fun q=>
 some (l1,lA != 0)
def kT (N:Nat)(va b:List Int):Nat→Int→Int→(List Int)→Option (Int×(List Int))
 |0,_,_,_=>none
 |m+1,carry_1,x9,l3=>
  if decide (x9<4) then
   (bX 4 va x9).bind fun x15=>
   (bX 4 b x9).bind fun x18=>
   (d7 N x15 x18 carry_1).bind fun d5=>
   (bX 4 l3 x9).bind fun fG=>
   (kT N va b m) d5.2 (aXj.wrap (x9+1)) (l3.set (aXn x9) d5.1)
  else
   some (carry_1,l3)
def y9 (N:Nat)(va b:List Int):Option ((List Int)×Bool):=
 (kT N va b N 0 0 (aXk 4 0)).bind fun p2=>
 aAx N p2.1 p2.2
def oC (N:Nat)(l1:List Int):Option (List Int):=
 (a9 4 l1).bind fun q_4=>
 some l1
def nY (N:Nat)(vm:List Int)(bT:(List Int)×Bool)(x29:Bool):Option (List Int):=
 if x29 then
  (tK N bT.1 vm).bind fun iA=>
  (a9 4 iA.1).bind fun q_5=>
  oC N iA.1
 else
  oC N bT.1
def aAi (N:Nat)(va b vm:List Int):Option (List Int):=
 (a9 4 vm).bind fun q=>
 if vm == [0,0,0,0] then
  some [0,0,0,0]
 else
  (a9 4 va).bind fun q_1=>
  (tN N va vm).bind fun x16=>
  (a9 4 b).bind fun q_2=>
  (tN N b vm).bind fun x19=>
  (y9 N x16 x19).bind fun bT=>
  (a9 4 bT.1).bind fun q_3=>
  if bT.2 then
   nY N vm bT true
  else
   (pR N bT.1 vm).bind fun x27=>
   nY N vm bT (decide (0≤x27))
def pH (N:Nat)(va b:List Int):Option (List Int):=
 (a9 4 va).bind fun q=>
 (a9 4 b).bind fun q_1=>
 (qN N).bind fun x7=>
 (aAi N va b x7).bind fun x8=>
 (a9 4 x8).bind fun q_2=>
 some x8
def rX (N:Nat)(vh:List Int):Option (List Int):=
 (a9 32 vh).bind fun q=>
 (fV N vh).bind fun x4=>
 (pH N x4 [0,0,0,0]).bind fun x6=>
 (a9 4 x6).bind fun q_1=>
 some x6
def oH (N:Nat)(vr p vm:List Int):Option (List Int):=
 (a9 4 vr).bind fun q=>
 (vM N vr).bind fun x8=>
 (a9 4 p).bind fun q_1=>
 (vM N p).bind fun cD=>
 (a9 32 vm).bind fun q_2=>
 (a9 32 x8).bind fun q_3=>
 (a9 32 cD).bind fun q_4=>
 (aA2 N [x8,cD,vm]).bind fun dA=>
 (z4 N (⟨#[108,105,103,104,116,99,108,105,101,110,116,47,99,104,97,108,108,101,110,103,101]⟩) dA).bind fun bQ=>
 (rX N bQ).bind fun x15=>
 (a9 4 x15).bind fun q_5=>
 some x15
def kD (N:Nat)(p vm s_E s_S:List Int)(fG:Bool):Option Bool:=
 if fG then
  some false
 else
  (qN N).bind fun x26=>
  (a9 4 s_E).bind fun q=>
  (tK N x26 s_E).bind fun x29=>
  (a9 4 x29.1).bind fun q_1=>
  (a9 4 s_S).bind fun q_2=>
  (wE N s_S).bind fun cU=>
  (a9 4 p).bind fun q_3=>
  (yS N p x29.1).bind fun x37=>
  (xI N cU x37).bind fun x38=>
  (a9 4 x38).bind fun q_4=>
  (a9 32 vm).bind fun q_5=>
  (oH N x38 p vm).bind fun x44=>
  (a9 4 x44).bind fun q_6=>
  some (s_E == x44)
def tM (N:Nat)(p vm s_E s_S:List Int):Option Bool:=
 (a9 4 s_E).bind fun q_7=>
 (qP N s_E).bind fun fR=>
 if !fR then
  kD N p vm s_E s_S true
 else
  (a9 4 s_S).bind fun q_8=>
  (qP N s_S).bind fun x17=>
  if !x17 then
   kD N p vm s_E s_S true
  else
   (a9 4 p).bind fun q_9=>
   (sR N p).bind fun bV=>
   kD N p vm s_E s_S (!bV)
def g7 (N:Nat)(aH:List Int)(aK aP:Int)(aN:List (List Int))(aJ:List aO)(aY:Int)(x40:Bool):Option Int:=
 if x40 then
  some 61
 else
  some 0
def dM (N:Nat)(aH:List Int)(aK aP:Int)(aN:List (List Int))(aJ:List aO)(aY:Int)(key aDb:List Int):Option Int:=
 if(key.length:Int) != 32 then
  some 60
 else
  (tV 32 key).bind fun bQ=>
  (fV N bQ).bind fun x16=>
  (a9 4 x16).bind fun q=>
  (sR N x16).bind fun x18=>
  if !x18 then
   some 60
  else
   if(aDb.length:Int) == 0 then
    some 0
   else
    (tP N aDb).bind fun x25=>
    if x25.2.2 != 0 then
     g7 N aH aK aP aN aJ aY true
    else
     (a9 32 aH).bind fun q_1=>
     (tM N x16 aH x25.1 x25.2.1).bind fun x38=>
     g7 N aH aK aP aN aJ aY (!x38)
def lY (N:Nat)(aH:List Int)(aK aP:Int)(aN:List (List Int))(aJ:List aO)(aY fO vn count:Int):Option (Int×(List Int)×Int×Int×(List (List Int))×(List aO)×Int):=
 (lV N (decide (fO≤count))).bind fun x76=>
 (dP N aH aK aP aN aJ aY (aXj.wrap (2*vn)) x76).bind fun x77=>
 some (0,x77.1,x77.2.1,x77.2.2.1,x77.2.2.2.1,x77.2.2.2.2.1,x77.2.2.2.2.2)
def jN (N:Nat)(aH:List Int)(aK aP:Int)(aN:List (List Int))(aJ:List aO)(aY fO vn:Int)(iD x43:List (List Int))(x45:Int)(rec:Int→Int→Option (LR (Int) (Int×(List Int)×Int×Int×(List (List Int))×(List aO)×Int)))(aDZ:Int):Option (LR (Int) (Int×(List Int)×Int×Int×(List (List Int))×(List aO)×Int)):=
 rec aDZ (aXj.wrap (x45+1))
def dQ (N:Nat)(aH:List Int)(aK aP:Int)(aN:List (List Int))(aJ:List aO)(aY fO vn:Int)(iD x43:List (List Int)):Nat→Int→Int→Option (LR (Int) (Int×(List Int)×Int×Int×(List (List Int))×(List aO)×Int))
 |0,_,_=>none
 |m+1,count_1,x45=>
  if decide (x45<vn) then
   (bU iD x45).bind fun x51=>
   (bU x43 x45).bind fun x55=>
   (dM N aH aK aP aN aJ aY x51 x55).bind fun x57=>
   if x57 != 0 then
    some (.ret (x57,aH,aK,aP,aN,aJ,aY))
   else
    if decide (0<(x55.length:Int)) then
     jN N aH aK aP aN aJ aY fO vn iD x43 x45 (dQ N aH aK aP aN aJ aY fO vn iD x43 m) (aXj.wrap (count_1+1))
    else
     jN N aH aK aP aN aJ aY fO vn iD x43 x45 (dQ N aH aK aP aN aJ aY fO vn iD x43 m) count_1
  else
   some (.brk count_1)
def jH (N:Nat)(aH:List Int)(aK aP:Int)(aN:List (List Int))(aJ:List aO)(aY fO vn:Int):Option (Int×(List Int)×Int×Int×(List (List Int))×(List aO)×Int):=
 (wH aN (aXj.wrap ((aN.length:Int)-vn)) (aN.length:Int)).bind fun iD=>
 (wH aN (aXj.wrap ((aN.length:Int)-(aXj.wrap (2*vn)))) (aXj.wrap ((aN.length:Int)-vn))).bind fun x43=>
 (dQ N aH aK aP aN aJ aY fO vn iD x43 N 0 0).bind fun q=>match q with
  | .ret v=>some v
  | .brk p2=>
   lY N aH aK aP aN aJ aY fO vn p2
def vB (N:Nat)(vn:Int):Option (Int×Int):=
 some (vn,0)
def iL (N:Nat)(b:List Int):Nat→Int→Int→Option Int
 |0,_,_=>none
 |m+1,eC,x26=>
  if decide (x26<(b.length:Int)) then
   (bU b x26).bind fun x29=>
   (shl .u32 (aXl.wrap x29) (aXj.wrap (8*x26))).bind fun x36=>
   (iL N b m) (bits .or .u32 eC x36) (aXj.wrap (x26+1))
  else
   some eC
def gG (N:Nat)(b:List Int)(iD:Bool):Option (Int×Int):=
 if iD then
  some (0,82)
 else
  (iL N b N 0 0).bind fun p3=>
  vB N p3
def k8 (N:Nat)(b:List Int):Option (Int×Int):=
 if decide (4<(b.length:Int)) then
  gG N b true
 else
  if decide (0<(b.length:Int)) then
   (bU b (aXj.wrap ((b.length:Int)-1))).bind fun x19=>
   gG N b (x19 == 0)
  else
   gG N b false
def nG (N:Nat)(gM:List Int)(now:Int):Option Int:=
 (k8 N gM).bind fun x9=>
 if x9.2 != 0 then
  some x9.2
 else
  if decide (now<(aXj.wrap x9.1)) then
   some 85
  else
   some 0
def dW (N:Nat)(c0:List Int)(yG yB wK:Int)(l3:List (List Int))(l4:List aO):Option (Int×(List Int)×Int×Int×(List (List Int))×(List aO)×Int):=
 some (0,c0,yG,yB,l3,l4,wK)
def mU (N:Nat)(aH:List Int)(aK aP:Int)(aN:List (List Int))(aJ:List aO)(aY bB:Int)(cC:List Int)(eU eJ:Int):Option (Int×(List Int)×Int×Int×(List (List Int))×(List aO)×Int):=
 if bB == 1 then
  (i4 N aH aK aP aN aJ aY cC).bind fun bQ=>
  some (bQ.1,bQ.2.1,bQ.2.2.1,bQ.2.2.2.1,bQ.2.2.2.2.1,bQ.2.2.2.2.2.1,bQ.2.2.2.2.2.2)
 else
  if bB == 2 then
   (cV N aH aK aP aN aJ aY).bind fun x19=>
   (i4 N aH aK aP aN aJ aY x19).bind fun bT=>
   some (bT.1,bT.2.1,bT.2.2.1,bT.2.2.2.1,bT.2.2.2.2.1,bT.2.2.2.2.2.1,bT.2.2.2.2.2.2)
  else
   if bB == 3 then
    (eR N aH aK aP aN aJ aY 1).bind fun fG=>
    dW N fG.1 fG.2.1 fG.2.2.1 fG.2.2.2.2.2 fG.2.2.2.1 fG.2.2.2.2.1
   else
    if bB == 4 then
     (bU aN (aXj.wrap ((aN.length:Int)-2))).bind fun x50=>
     (bU aN (aXj.wrap ((aN.length:Int)-1))).bind fun x58=>
     (bU (aN.set (aXn (aXj.wrap ((aN.length:Int)-1))) x50) (aXj.wrap ((aN.length:Int)-2))).bind fun x61=>
     dW N aH aK aP aY ((aN.set (aXn (aXj.wrap ((aN.length:Int)-1))) x50).set (aXn (aXj.wrap ((aN.length:Int)-2))) x58) aJ
    else
     if bB == 5 then
      (cV N aH aK aP aN aJ aY).bind fun x66=>
      (bU aN (aXj.wrap ((aN.length:Int)-2))).bind fun x77=>
      (aCO N x66 x77).bind fun x79=>
      (lV N x79).bind fun x80=>
      (dP N aH aK aP aN aJ aY 2 x80).bind fun x81=>
      dW N x81.1 x81.2.1 x81.2.2.1 x81.2.2.2.2.2 x81.2.2.2.1 x81.2.2.2.2.1
     else
      if bB == 6 then
       (cV N aH aK aP aN aJ aY).bind fun x86=>
       (kZ N x86).bind fun x87=>
       (lV N (!x87)).bind fun x89=>
       (dP N aH aK aP aN aJ aY 1 x89).bind fun x90=>
       dW N x90.1 x90.2.1 x90.2.2.1 x90.2.2.2.2.2 x90.2.2.2.1 x90.2.2.2.2.1
      else
       if bB == 7 then
        (cV N aH aK aP aN aJ aY).bind fun x94=>
        (kZ N x94).bind fun x95=>
        if !x95 then
         some (84,aH,aK,aP,aN,aJ,aY)
        else
         (eR N aH aK aP aN aJ aY 1).bind fun x98=>
         dW N x98.1 x98.2.1 x98.2.2.1 x98.2.2.2.2.2 x98.2.2.2.1 x98.2.2.2.2.1
       else
        if bB == 8 then
         (cV N aH aK aP aN aJ aY).bind fun aJ5=>
         (aBd N aJ5).bind fun aH4=>
         (a9 32 aH4).bind fun q=>
         (dP N aH aK aP aN aJ aY 1 aH4).bind fun yY=>
         dW N yY.1 yY.2.1 yY.2.2.1 yY.2.2.2.2.2 yY.2.2.2.1 yY.2.2.2.2.1
        else
         if bB == 9 then
          (cV N aH aK aP aN aJ aY).bind fun aMW=>
          (iQ N (aXl.wrap (aMW.length:Int))).bind fun aKo=>
          (i4 N aH aK aP aN aJ aY aKo).bind fun aGP=>
          some (aGP.1,aGP.2.1,aGP.2.2.1,aGP.2.2.2.1,aGP.2.2.2.2.1,aGP.2.2.2.2.2.1,aGP.2.2.2.2.2.2)
         else
          if bB == 10 then
           (jH N aH aK aP aN aJ aY 1 1).bind fun aGZ=>
           some (aGZ.1,aGZ.2.1,aGZ.2.2.1,aGZ.2.2.2.1,aGZ.2.2.2.2.1,aGZ.2.2.2.2.2.1,aGZ.2.2.2.2.2.2)
          else
           if bB == 11 then
            (jH N aH aK aP aN aJ aY eU eJ).bind fun aG3=>
            some (aG3.1,aG3.2.1,aG3.2.2.1,aG3.2.2.2.1,aG3.2.2.2.2.1,aG3.2.2.2.2.2.1,aG3.2.2.2.2.2.2)
           else
            if bB == 12 then
             (cV N aH aK aP aN aJ aY).bind fun aUr=>
             (nG N aUr aK).bind fun aUy=>
             some (aUy,aH,aK,aP,aN,aJ,aY)
            else
             if bB == 13 then
              (cV N aH aK aP aN aJ aY).bind fun aUs=>
              (nG N aUs aP).bind fun aG5=>
              some (aG5,aH,aK,aP,aN,aJ,aY)
             else
              if bB == 17 then
               some (84,aH,aK,aP,aN,aJ,aY)
              else
               dW N aH aK aP aY aN aJ
def gH (N:Nat)(yG:List Int)(yB wK aCo:Int)(l3:List (List Int))(l4:List aO):Option (Int×(List Int)×Int×Int×(List (List Int))×(List aO)×Int):=
 some (0,yG,yB,wK,l3,l4,aCo)
def kS (N:Nat)(aH:List Int)(aK aP:Int)(aN:List (List Int))(counted:Bool)(c0:Int)(e9:List aO):Option (Int×(List Int)×Int×Int×(List (List Int))×(List aO)×Int):=
 if counted then
  (eR N aH aK aP aN e9 c0 1).bind fun x86=>
  gH N x86.1 x86.2.1 x86.2.2.1 x86.2.2.2.2.2 x86.2.2.2.1 x86.2.2.2.2.1
 else
  gH N aH aK aP c0 aN e9
def iS (N:Nat)(aH:List Int)(aK aP:Int)(aN:List (List Int))(aJ:List aO)(bB:Int)(cC:List Int)(eU eJ:Int)(counted:Bool)(c0:Int):Option (Int×(List Int)×Int×Int×(List (List Int))×(List aO)×Int):=
 if bB == 14 then
  if counted then
   (cV N aH aK aP aN aJ c0).bind fun x76=>
   (kZ N x76).bind fun x77=>
   (eD 2 aJ [(aO.mk counted x77)]).bind fun x81=>
   kS N aH aK aP aN counted c0 x81
  else
   (eD 2 aJ [(aO.mk counted false)]).bind fun aOy=>
   kS N aH aK aP aN counted c0 aOy
 else
  if bB == 15 then
   (bU aJ (aXj.wrap ((aJ.length:Int)-1))).bind fun x99=>
   gH N aH aK aP c0 aN (aJ.set (aXn (aXj.wrap ((aJ.length:Int)-1))) (aO.mk x99.outer (!x99.taken)))
  else
   if bB == 16 then
    (sub aJ 0 (aXj.wrap ((aJ.length:Int)-1))).bind fun aHi=>
    gH N aH aK aP c0 aN aHi
   else
    if counted then
     (mU N aH aK aP aN aJ c0 bB cC eU eJ).bind fun x64=>
     some (x64.1,x64.2.1,x64.2.2.1,x64.2.2.2.1,x64.2.2.2.2.1,x64.2.2.2.2.2.1,x64.2.2.2.2.2.2)
    else
     gH N aH aK aP c0 aN aJ
def iR (N:Nat)(aH:List Int)(aK aP:Int)(aN:List (List Int))(aJ:List aO)(aY bB:Int)(cC:List Int)(eU eJ:Int)(counted:Bool):Option (Int×(List Int)×Int×Int×(List (List Int))×(List aO)×Int):=
 if counted then
  (yW N bB cC eU eJ).bind fun x36=>
  if decide (500<(aXj.wrap (aY+x36))) then
   some (83,aH,aK,aP,aN,aJ,aXj.wrap (aY+x36))
  else
   (yZ N bB cC eU eJ).bind fun x51=>
   if decide ((aN.length:Int)<x51) then
    some (81,aH,aK,aP,aN,aJ,aXj.wrap (aY+x36))
   else
    iS N aH aK aP aN aJ bB cC eU eJ counted (aXj.wrap (aY+x36))
 else
  iS N aH aK aP aN aJ bB cC eU eJ counted aY
def iU (N:Nat)(aH:List Int)(aK aP:Int)(aN:List (List Int))(aJ:List aO)(aY bB:Int)(cC:List Int)(eU eJ:Int)(x8 x16:Bool):Option (Int×(List Int)×Int×Int×(List (List Int))×(List aO)×Int):=
 if x16 then
  (bU aJ (aXj.wrap ((aJ.length:Int)-1))).bind fun x27=>
  iR N aH aK aP aN aJ aY bB cC eU eJ x27.outer
 else
  iR N aH aK aP aN aJ aY bB cC eU eJ x8
def i0 (N:Nat)(aH:List Int)(aK aP:Int)(aN:List (List Int))(aJ:List aO)(aY bB:Int)(cC:List Int)(eU eJ:Int):Option (Int×(List Int)×Int×Int×(List (List Int))×(List aO)×Int):=
 (pI N aH aK aP aN aJ aY).bind fun x8=>
 if bB == 15 then
  iU N aH aK aP aN aJ aY bB cC eU eJ x8 true
 else
  iU N aH aK aP aN aJ aY bB cC eU eJ x8 (bB == 16)
def aAO (N:Nat)(c0:List Int)(yG yB wK:Int)(l1:List (List Int))(l2:List aO):Option ((List (List Int))×Int×Int):=
 (sA N l1).bind fun x47=>
 some (x47,wK,0)
def nL (N:Nat)(x17:(List aX)×Int):Nat→Int→(List Int)→Int→Int→Int→(List (List Int))→(List aO)→Option (LR ((List Int)×Int×Int×Int×(List (List Int))×(List aO)) ((List (List Int))×Int×Int))
 |0,_,_,_,_,_,_,_=>none
 |m+1,x35,aCo,c0_5,c0_6,c0_7,jD,l3=>
  if decide (x35<(x17.1.length:Int)) then
   (bU x17.1 x35).bind fun x37=>
   (i0 N aCo c0_5 c0_6 jD l3 c0_7 x37.Code x37.Data x37.M x37.N).bind fun x40=>
   if x40.1 != 0 then
    some (.ret ([],0,x40.1))
   else
    (nL N x17 m) (aXj.wrap (x35+1)) x40.2.1 x40.2.2.1 x40.2.2.2.1 x40.2.2.2.2.2.2 x40.2.2.2.2.1 x40.2.2.2.2.2.1
  else
   some (.brk (aCo,c0_5,c0_6,c0_7,jD,l3))
def aBJ (N:Nat)(b:List Int)(stack:List (List Int))(fC:List Int)(gJ oQ:Int):Option ((List (List Int))×Int×Int):=
 (yJ N b).bind fun x17=>
 if x17.2 != 0 then
  some ([],0,x17.2)
 else
  (vV N x17.1).bind fun fG=>
  if !fG then
   some ([],0,86)
  else
   (uN N stack).bind fun x27=>
   if !x27 then
    some ([],0,4)
   else
    (sA N stack).bind fun eG=>
    (nL N x17 N 0 fC gJ oQ 0 eG []).bind fun q=>match q with
     | .ret v=>some v
     | .brk p2=>
      aAO N p2.1 p2.2.1 p2.2.2.1 p2.2.2.2.1 p2.2.2.2.2.1 p2.2.2.2.2.2
def n7 (N:Nat)(b:List Int)(bK:List (List Int))(fC:List Int)(gJ oQ:Int):Option Int:=
 (aBJ N b bK fC gJ oQ).bind fun bQ=>
 if bQ.2.2 != 0 then
  some bQ.2.2
 else
  if(bQ.1.length:Int) != 1 then
   some 81
  else
   (bU bQ.1 0).bind fun x28=>
   (kZ N x28).bind fun jL=>
   if !jL then
    some 84
   else
    some 0
def qS (N:Nat)(aC:Int)(aA:List aG)(aB:List aF)(aE vi:Int)(eY:List Int)(dD cL:Int)(b9:List Int)(cX:Int)(eQ:Bool)(bS:Int)(x17:(List Int)×Int)(cU:Bool):Option Int:=
 if cU then
  some 102
 else
  (bU aA vi).bind fun x61=>
  (n7 N b9 x61.Witness x17.1 bS (aXj.wrap (bS-cX))).bind fun x65=>
  some x65
def aAk (N:Nat)(aC:Int)(aA:List aG)(aB:List aF)(aE vi:Int)(eY:List Int)(dD cL:Int)(b9:List Int)(cX:Int)(eQ:Bool)(bS:Int):Option Int:=
 (vT N aC aA aB aE vi cL b9).bind fun x17=>
 (a9 32 x17.1).bind fun q=>
 if x17.2 != 0 then
  some x17.2
 else
  (bU aA vi).bind fun x28=>
  if !(lS x28.Prev.Tx eY ((x28.Prev.Index == dD)&&true)) then
   some 101
  else
   if decide (cX<0) then
    qS N aC aA aB aE vi eY dD cL b9 cX eQ bS x17 true
   else
    if decide (bS<cX) then
     qS N aC aA aB aE vi eY dD cL b9 cX eQ bS x17 true
    else
     qS N aC aA aB aE vi eY dD cL b9 cX eQ bS x17 (decide (16777216<bS))
def w9 (N:Nat)(l0:List Int):Option (List Int):=
 some l0
def kP (N:Nat)(v:Int)(x8:List Int):Nat→Int→(List Int)→Option (List Int)
 |0,_,_=>none
 |m+1,b4,aS=>
  if decide (b4<(x8.length:Int)) then
   (shr .u64 v (aXj.wrap (8*b4))).bind fun x19=>
   (bU aS b4).bind fun d5=>
   (kP N v x8 m) (aXj.wrap (b4+1)) (aS.set (aXn b4) (aXp.wrap x19))
  else
   some aS
def kY (N:Nat)(v vn:Int):Option (List Int):=
 (mks 1 0 vn).bind fun x8=>
 (kP N v x8 N 0 x8).bind fun p2=>
 w9 N p2
def eF (N:Nat)(va b:List Int):Option (List Int):=
 (mks 1 0 (aXj.wrap ((va.length:Int)+(b.length:Int)))).bind fun b4=>
 (eD 1 (b4.take 0) va).bind fun bQ=>
 (eD 1 bQ b).bind fun x16=>
 some x16
def fI (N:Nat)(b:List Int)(vn:Int):Option (List Int):=
 (kY N (aXm.wrap vn) 4).bind fun x8=>
 (eF N b x8).bind fun x9=>
 some x9
def jR (N:Nat)(b:List Int)(vn:Int):Option (List Int):=
 if decide (vn<253) then
  (kY N vn 1).bind fun cD=>
  (eF N b cD).bind fun b4=>
  some b4
 else
  if decide (vn<65536) then
   (kY N vn 2).bind fun x18=>
   (eF N [253] x18).bind fun x19=>
   (eF N b x19).bind fun bT=>
   some bT
  else
   if decide (vn<4294967296) then
    (kY N vn 4).bind fun x27=>
    (eF N [254] x27).bind fun x28=>
    (eF N b x28).bind fun x29=>
    some x29
   else
    (kY N vn 8).bind fun iA=>
    (eF N [255] iA).bind fun cU=>
    (eF N b cU).bind fun x35=>
    some x35
def iK (N:Nat)(b vh:List Int):Option (List Int):=
 (a9 32 vh).bind fun q=>
 (eF N b vh).bind fun x7=>
 some x7
def wD (N:Nat)(tG:List Int)(j9:Int):Option (List Int):=
 (a9 32 tG).bind fun q=>
 (iK N [] tG).bind fun x5=>
 (fI N x5 j9).bind fun x8=>
 some x8
def sX (N:Nat)(b:List Int)(vn:Int):Option (List Int):=
 (kY N vn 8).bind fun x7=>
 (eF N b x7).bind fun x8=>
 some x8
def nD (N:Nat)(b vs:List Int):Option (List Int):=
 (jR N b (aXm.wrap (vs.length:Int))).bind fun x9=>
 (eF N x9 vs).bind fun b4=>
 some b4
def xQ (N:Nat)(bI:Int)(aZ:List Int):Option (List Int):=
 (sX N [] (aXm.wrap bI)).bind fun x6=>
 (nD N x6 aZ).bind fun x9=>
 some x9
def aCj (N:Nat)(l0:List Int):Option (List Int):=
 some l0
def wW (N:Nat)(aA:List aG)(bK:Bool)(x64:Int)(rec:Int→(List Int)→Option (List Int))(fL:List Int):Option (List Int):=
 rec (aXj.wrap (x64+1)) fL
def jA (N:Nat)(aA:List aG)(bK:Bool)(x64:Int)(x66:aG):Nat→Int→(List Int)→Option (List Int)
 |0,_,_=>none
 |m+1,x79,gE=>
  if decide (x79<(x66.Witness.length:Int)) then
   (bU x66.Witness x79).bind fun x81=>
   (nD N gE x81).bind fun x85=>
   (jA N aA bK x64 x66 m) (aXj.wrap (x79+1)) x85
  else
   some gE
def hH (N:Nat)(aA:List aG)(bK:Bool):Nat→Int→(List Int)→Option (List Int)
 |0,_,_=>none
 |m+1,x64,aS=>
  if decide (x64<(aA.length:Int)) then
   (bU aA x64).bind fun x66=>
   if !bK then
    some aS
   else
    (jR N aS (aXm.wrap (x66.Witness.length:Int))).bind fun x75=>
    (jA N aA bK x64 x66 N 0 x75).bind fun p6=>
    wW N aA bK x64 (hH N aA bK m) p6
  else
   some aS
def xH (N:Nat)(aC:Int)(aA:List aG)(aB:List aF)(aE:Int)(bK:Bool)(cS:List Int):Option (List Int):=
 (fI N cS aE).bind fun x60=>
 (hH N aA bK N 0 x60).bind fun p4=>
 aCj N p4
def i6 (N:Nat)(aC:Int)(aA:List aG)(aB:List aF)(aE:Int)(bK:Bool):Nat→Int→(List Int)→Option (List Int)
 |0,_,_=>none
 |m+1,x48,l1_2=>
  if decide (x48<(aB.length:Int)) then
   (bU aB x48).bind fun x50=>
   (xQ N x50.Value x50.Script).bind fun x54=>
   (eD 1 l1_2 x54).bind fun x55=>
   (i6 N aC aA aB aE bK m) (aXj.wrap (x48+1)) x55
  else
   some l1_2
def wU (N:Nat)(aC:Int)(aA:List aG)(aB:List aF)(aE:Int)(bK:Bool)(l1:List Int):Option (List Int):=
 (jR N l1 (aXm.wrap (aB.length:Int))).bind fun x44=>
 (i6 N aC aA aB aE bK N 0 x44).bind fun p7=>
 xH N aC aA aB aE bK p7
def xA (N:Nat)(aC:Int)(aA:List aG)(aB:List aF)(aE:Int)(bK:Bool)(x26:Int)(rec:Int→(List Int)→Option (List Int))(aIo:List Int):Option (List Int):=
 rec (aXj.wrap (x26+1)) aIo
def hZ (N:Nat)(aC:Int)(aA:List aG)(aB:List aF)(aE:Int)(bK:Bool):Nat→Int→(List Int)→Option (List Int)
 |0,_,_=>none
 |m+1,x26,l1_3=>
  if decide (x26<(aA.length:Int)) then
   (bU aA x26).bind fun x28=>
   (wD N x28.Prev.Tx x28.Prev.Index).bind fun iA=>
   (eD 1 l1_3 iA).bind fun cU=>
   (fI N cU x28.Sequence).bind fun x37=>
   xA N aC aA aB aE bK x26 (hZ N aC aA aB aE bK m) x37
  else
   some l1_3
def zI (N:Nat)(aC:Int)(aA:List aG)(aB:List aF)(aE:Int)(bK:Bool):Option (List Int):=
 (fI N [] aC).bind fun x16=>
 (jR N x16 (aXm.wrap (aA.length:Int))).bind fun bV=>
 (hZ N aC aA aB aE bK N 0 bV).bind fun p8=>
 wU N aC aA aB aE bK p8
def aAP (N:Nat)(aC:Int)(aA:List aG)(aB:List aF)(aE:Int):Option Bool:=
 (zI N aC aA aB aE true).bind fun x60=>
 some (decide ((x60.length:Int)≤20000))
def aAU (N:Nat)(aC:Int)(aA:List aG)(aB:List aF)(aE x39:Int)(rec:Int→Option (LR (Unit) (Bool))):Option (LR (Unit) (Bool)):=
 rec (aXj.wrap (x39+1))
def k7 (N:Nat)(aC:Int)(aA:List aG)(aB:List aF)(aE x39:Int)(x41:aG):Nat→Int→Option (LR (Unit) (Bool))
 |0,_=>none
 |m+1,x50=>
  if decide (x50<(x41.Witness.length:Int)) then
   (bU x41.Witness x50).bind fun x52=>
   if decide (520<(x52.length:Int)) then
    some (.ret false)
   else
    (k7 N aC aA aB aE x39 x41 m) (aXj.wrap (x50+1))
  else
   some (.brk ())
def k9 (N:Nat)(aC:Int)(aA:List aG)(aB:List aF)(aE:Int):Nat→Int→Option (LR (Unit) (Bool))
 |0,_=>none
 |m+1,x39=>
  if decide (x39<(aA.length:Int)) then
   (bU aA x39).bind fun x41=>
   if decide (32<(x41.Witness.length:Int)) then
    some (.ret false)
   else
    (k7 N aC aA aB aE x39 x41 N 0).bind fun q=>match q with
     | .ret v=>some (.ret v)
     | .brk p6=>
      aAU N aC aA aB aE x39 (k9 N aC aA aB aE m)
  else
   some (.brk ())
def aAT (N:Nat)(aC:Int)(aA:List aG)(aB:List aF)(aE:Int):Option Bool:=
 (k9 N aC aA aB aE N 0).bind fun q=>match q with
  | .ret v=>some v
  | .brk p4=>
   aAP N aC aA aB aE
def vY (N:Nat)(aC:Int)(aA:List aG)(aB:List aF)(aE bV:Int)(rec:Int→Option (LR (Unit) (Bool)))(cU:Bool):Option (LR (Unit) (Bool)):=
 if cU then
  some (.ret false)
 else
  rec (aXj.wrap (bV+1))
def j6 (N:Nat)(aC:Int)(aA:List aG)(aB:List aF)(aE:Int):Nat→Int→Option (LR (Unit) (Bool))
 |0,_=>none
 |m+1,bV=>
  if decide (bV<(aB.length:Int)) then
   (bU aB bV).bind fun fG=>
   if decide (fG.Value<0) then
    vY N aC aA aB aE bV (j6 N aC aA aB aE m) true
   else
    vY N aC aA aB aE bV (j6 N aC aA aB aE m) (decide (520<(fG.Script.length:Int)))
  else
   some (.brk ())
def vZ (N:Nat)(aC:Int)(aA:List aG)(aB:List aF)(aE:Int)(x18:Bool):Option Bool:=
 if x18 then
  some false
 else
  (j6 N aC aA aB aE N 0).bind fun q=>match q with
   | .ret v=>some v
   | .brk p7=>
    aAT N aC aA aB aE
def aAc (N:Nat)(aC:Int)(aA:List aG)(aB:List aF)(aE:Int):Option Bool:=
 if decide (64<(aA.length:Int)) then
  vZ N aC aA aB aE true
 else
  vZ N aC aA aB aE (decide (64<(aB.length:Int)))
def aEd (N:Nat)(aS:List Int):Option (List Int):=
 some aS
def pE (N:Nat)(vn:Int):Nat→Int→(List Int)→Option (List Int)
 |0,_,_=>none
 |m+1,vi,fL=>
  if decide (0≤vi) then
   (shr .u64 (aXm.wrap (8*vn)) (aXj.wrap (8*vi))).bind fun x26=>
   (eD 1 fL [aXp.wrap x26]).bind fun x29=>
   (pE N vn m) (aXj.wrap (vi-1)) x29
  else
   some fL
def aBm (N:Nat)(vn:Int)(l0:List Int):Option (List Int):=
 (pE N vn N 7 l0).bind fun p3=>
 aEd N p3
def q6 (N:Nat)(vn:Int):Nat→(List Int)→Option (List Int)
 |0,_=>none
 |m+1,gE=>
  if(aXu (aXm.wrap ((aXm.wrap (vn+(aXm.wrap (gE.length:Int))))+8)) 64) != 0 then
   (eD 1 gE [0]).bind fun x16=>
   (q6 N vn m) x16
  else
   some gE
def aDe (N:Nat)(vn:Int):Option (List Int):=
 (q6 N vn N [128]).bind fun p4=>
 aBm N vn p4
def aAL (N:Nat):Option (List Int):=
 some [1779033703,3144134277,1013904242,2773480762,1359893119,2600822924,528734635,1541459225]
def kA (N:Nat)(x vn:Int):Option Int:=
 (kV N x (aXj.wrap (0-vn))).bind fun x8=>
 some x8
def tZ (N:Nat)(cS:List Int):Option (List Int):=
 (a9 64 cS).bind fun q=>
 some cS
def kJ (N:Nat):Nat→Int→(List Int)→Option (List Int)
 |0,_,_=>none
 |m+1,vi,l1_2=>
  if decide (vi<64) then
   (bX 64 l1_2 (aXj.wrap (vi-15))).bind fun x49=>
   (kA N x49 7).bind fun x51=>
   (kA N x49 18).bind fun x56=>
   (shr .u32 x49 3).bind fun x62=>
   (bX 64 l1_2 (aXj.wrap (vi-2))).bind fun x66=>
   (kA N x66 17).bind fun x68=>
   (kA N x66 19).bind fun x73=>
   (shr .u32 x66 10).bind fun x79=>
   (bX 64 l1_2 (aXj.wrap (vi-16))).bind fun x84=>
   (bX 64 l1_2 (aXj.wrap (vi-7))).bind fun x90=>
   (bX 64 l1_2 vi).bind fun x95=>
   (kJ N m) (aXj.wrap (vi+1)) (l1_2.set (aXn vi) (aXl.wrap ((aXl.wrap ((aXl.wrap (x84+(bits .xor .u32 (bits .xor .u32 x51 x56) x62)))+x90))+(bits .xor .u32 (bits .xor .u32 x68 x73) x79))))
  else
   some l1_2
def t4 (N:Nat)(l1:List Int):Option (List Int):=
 (kJ N N 16 l1).bind fun p3=>
 tZ N p3
def gR (N:Nat)(block:List Int):Nat→Int→(List Int)→Option (List Int)
 |0,_,_=>none
 |m+1,vi_1,l2=>
  if decide (vi_1<16) then
   (bX 64 block (aXj.wrap (4*vi_1))).bind fun x15=>
   (shl .u32 (aXl.wrap x15) 24).bind fun x18=>
   (bX 64 block (aXj.wrap ((aXj.wrap (4*vi_1))+1))).bind fun bV=>
   (shl .u32 (aXl.wrap bV) 16).bind fun x25=>
   (bX 64 block (aXj.wrap ((aXj.wrap (4*vi_1))+2))).bind fun jL=>
   (shl .u32 (aXl.wrap jL) 8).bind fun iA=>
   (bX 64 block (aXj.wrap ((aXj.wrap (4*vi_1))+3))).bind fun x38=>
   (bX 64 l2 vi_1).bind fun x42=>
   (gR N block m) (aXj.wrap (vi_1+1)) (l2.set (aXn vi_1) (bits .or .u32 (bits .or .u32 (bits .or .u32 x18 x25) iA) (aXl.wrap x38)))
  else
   some l2
def uH (N:Nat)(block:List Int):Option (List Int):=
 (gR N block N 0 (aXk 64 0)).bind fun p4=>
 t4 N p4
def wX (N:Nat):Option (List Int):=
 some [1116352408,1899447441,3049323471,3921009573,961987163,1508970993,2453635748,2870763221,3624381080,310598401,607225278,1426881987,1925078388,2162078206,2614888103,3248222580,3835390401,4022224774,264347078,604807628,770255983,1249150122,1555081692,1996064986,2554220882,2821834349,2952996808,3210313671,3336571891,3584528711,113926993,338241895,666307205,773529912,1294757372,1396182291,1695183700,1986661051,2177026350,2456956037,2730485921,2820302411,3259730800,3345764771,3516065817,3600352804,4094571909,275423344,430227734,506948616,659060556,883997877,958139571,1322822218,1537002063,1747873779,1955562222,2024104815,2227730452,2361852424,2428436474,2756734187,3204031479,3329325298]
def tY (N:Nat)(cT:List Int)(va b c d ve f g vh:Int):Option (List Int):=
 (bX 8 cT 0).bind fun aIC=>
 (bX 8 cT 1).bind fun aDo=>
 (bX 8 cT 2).bind fun aRx=>
 (bX 8 cT 3).bind fun aQJ=>
 (bX 8 cT 4).bind fun aSc=>
 (bX 8 cT 5).bind fun aQ4=>
 (bX 8 cT 6).bind fun aKG=>
 (bX 8 cT 7).bind fun aRF=>
 some [aXl.wrap (aIC+va),aXl.wrap (aDo+b),aXl.wrap (aRx+c),aXl.wrap (aQJ+d),aXl.wrap (aSc+ve),aXl.wrap (aQ4+f),aXl.wrap (aKG+g),aXl.wrap (aRF+vh)]
def kL (N:Nat)(cT:List Int)(x19 bT:(List Int)):Nat→Int→Int→Int→Int→Int→Int→Int→Int→Int→Option (Int×Int×Int×Int×Int×Int×Int×Int)
 |0,_,_,_,_,_,_,_,_,_=>none
 |m+1,va_1,b_1,c_1,d_1,ve_1,f_1,g_1,vh_1,vi=>
  if decide (vi<64) then
   (kA N ve_1 6).bind fun x43=>
   (kA N ve_1 11).bind fun x45=>
   (kA N ve_1 25).bind fun x48=>
   (bX 64 bT vi).bind fun x61=>
   (bX 64 x19 vi).bind fun x65=>
   (kA N va_1 2).bind fun x69=>
   (kA N va_1 13).bind fun x71=>
   (kA N va_1 22).bind fun x74=>
   (kL N cT x19 bT m) (aXl.wrap ((aXl.wrap ((aXl.wrap ((aXl.wrap ((aXl.wrap (vh_1+(bits .xor .u32 (bits .xor .u32 x43 x45) x48)))+(bits .xor .u32 (bits .and .u32 ve_1 f_1) (bits .and .u32 (bits .xor .u32 (aXJ .u32) ve_1) g_1))))+x61))+x65))+(aXl.wrap ((bits .xor .u32 (bits .xor .u32 x69 x71) x74)+(bits .xor .u32 (bits .xor .u32 (bits .and .u32 va_1 b_1) (bits .and .u32 va_1 c_1)) (bits .and .u32 b_1 c_1)))))) va_1 b_1 c_1 (aXl.wrap (d_1+(aXl.wrap ((aXl.wrap ((aXl.wrap ((aXl.wrap (vh_1+(bits .xor .u32 (bits .xor .u32 x43 x45) x48)))+(bits .xor .u32 (bits .and .u32 ve_1 f_1) (bits .and .u32 (bits .xor .u32 (aXJ .u32) ve_1) g_1))))+x61))+x65)))) ve_1 f_1 g_1 (aXj.wrap (vi+1))
  else
   some (va_1,b_1,c_1,d_1,ve_1,f_1,g_1,vh_1)
def qY (N:Nat)(cT block:List Int):Option (List Int):=
 (a9 64 block).bind fun q=>
 (uH N block).bind fun x19=>
 (wX N).bind fun bT=>
 (a9 64 x19).bind fun q_1=>
 (a9 64 bT).bind fun q_2=>
 (bX 8 cT 0).bind fun d5=>
 (bX 8 cT 1).bind fun iD=>
 (bX 8 cT 2).bind fun x25=>
 (bX 8 cT 3).bind fun x27=>
 (bX 8 cT 4).bind fun x29=>
 (bX 8 cT 5).bind fun eG=>
 (bX 8 cT 6).bind fun iA=>
 (bX 8 cT 7).bind fun x35=>
 (kL N cT x19 bT N d5 iD x25 x27 x29 eG iA x35 0).bind fun p2=>
 tY N cT p2.1 p2.2.1 p2.2.2.1 p2.2.2.2.1 p2.2.2.2.2.1 p2.2.2.2.2.2.1 p2.2.2.2.2.2.2.1 p2.2.2.2.2.2.2.2
def aBY (N:Nat)(cS:List Int):Option (List Int):=
 (a9 32 cS).bind fun q_1=>
 some cS
def rB (N:Nat)(l1:List Int):Nat→Int→(List Int)→Option (List Int)
 |0,_,_=>none
 |m+1,cU,l1_2=>
  if decide (cU<8) then
   (bX 8 l1 cU).bind fun x37=>
   (shr .u32 x37 24).bind fun x50=>
   (shr .u32 x37 16).bind fun x53=>
   (shr .u32 x37 8).bind fun x56=>
   (bX 32 l1_2 (aXj.wrap (4*cU))).bind fun x60=>
   (bX 32 (l1_2.set (aXn (aXj.wrap (4*cU))) (aXp.wrap x50)) (aXj.wrap ((aXj.wrap (4*cU))+1))).bind fun x61=>
   (bX 32 ((l1_2.set (aXn (aXj.wrap (4*cU))) (aXp.wrap x50)).set (aXn (aXj.wrap ((aXj.wrap (4*cU))+1))) (aXp.wrap x53)) (aXj.wrap ((aXj.wrap (4*cU))+2))).bind fun x62=>
   (bX 32 (((l1_2.set (aXn (aXj.wrap (4*cU))) (aXp.wrap x50)).set (aXn (aXj.wrap ((aXj.wrap (4*cU))+1))) (aXp.wrap x53)).set (aXn (aXj.wrap ((aXj.wrap (4*cU))+2))) (aXp.wrap x56)) (aXj.wrap ((aXj.wrap (4*cU))+3))).bind fun x63=>
   (rB N l1 m) (aXj.wrap (cU+1)) ((((l1_2.set (aXn (aXj.wrap (4*cU))) (aXp.wrap x50)).set (aXn (aXj.wrap ((aXj.wrap (4*cU))+1))) (aXp.wrap x53)).set (aXn (aXj.wrap ((aXj.wrap (4*cU))+2))) (aXp.wrap x56)).set (aXn (aXj.wrap ((aXj.wrap (4*cU))+3))) (aXp.wrap x37))
  else
   some l1_2
def aBz (N:Nat)(l1:List Int):Option (List Int):=
 (a9 8 l1).bind fun q_2=>
 (rB N l1 N 0 (aXk 32 0)).bind fun p3=>
 aBY N p3
def rQ (N:Nat)(x16:List Int):Nat→Int→(List Int)→Option (List Int)
 |0,_,_=>none
 |m+1,vi,l1_3=>
  if decide ((aXj.wrap (vi+64))≤(x16.length:Int)) then
   (sub x16 vi (x16.length:Int)).bind fun x28=>
   (a9 8 l1_3).bind fun q_3=>
   (a9 64 (nT (aXk 64 0) x28)).bind fun q_4=>
   (qY N l1_3 (nT (aXk 64 0) x28)).bind fun lB=>
   (a9 8 lB).bind fun q_5=>
   (rQ N x16 m) (aXj.wrap (vi+64)) lB
  else
   some l1_3
def qQ (N:Nat)(b:List Int):Option (List Int):=
 (eD 1 [] b).bind fun b4=>
 (aDe N (aXm.wrap (b.length:Int))).bind fun x15=>
 (eD 1 b4 x15).bind fun x16=>
 (aAL N).bind fun x17=>
 (a9 8 x17).bind fun q=>
 (rQ N x16 N 0 x17).bind fun p4=>
 aBz N p4
def uM (N:Nat)(tag:ByteArray)(b:List Int):Option (List Int):=
 (stb tag).bind fun x7=>
 (qQ N x7).bind fun x8=>
 (a9 32 x8).bind fun q=>
 (eD 1 [] x8).bind fun cD=>
 (eD 1 cD x8).bind fun fR=>
 (eD 1 fR b).bind fun bQ=>
 (qQ N bQ).bind fun x15=>
 (a9 32 x15).bind fun q_1=>
 some x15
def vS (N:Nat)(aC:Int)(aA:List aG)(aB:List aF)(aE vi bI:Int)(aZ l3 l4 l5:List Int):Option ((List Int)×Int):=
 (fI N [] aC).bind fun x72=>
 (qQ N l3).bind fun x75=>
 (iK N x72 x75).bind fun x76=>
 (qQ N l4).bind fun x79=>
 (iK N x76 x79).bind fun x80=>
 (qQ N l5).bind fun x83=>
 (iK N x80 x83).bind fun x84=>
 (fI N x84 aE).bind fun x88=>
 (fI N x88 (aXl.wrap vi)).bind fun x92=>
 (xQ N bI aZ).bind fun x95=>
 (eD 1 x92 x95).bind fun x96=>
 (uM N (⟨#[108,105,103,104,116,99,108,105,101,110,116,47,115,112,101,110,100]⟩) x96).bind fun x97=>
 (a9 32 x97).bind fun q=>
 some (x97,0)
def iH (N:Nat)(aC:Int)(aA:List aG)(aB:List aF)(aE vi bI:Int)(aZ l3 l4:List Int):Nat→Int→(List Int)→Option (List Int)
 |0,_,_=>none
 |m+1,x61,l5_1=>
  if decide (x61<(aB.length:Int)) then
   (bU aB x61).bind fun x63=>
   (xQ N x63.Value x63.Script).bind fun x67=>
   (eD 1 l5_1 x67).bind fun x68=>
   (iH N aC aA aB aE vi bI aZ l3 l4 m) (aXj.wrap (x61+1)) x68
  else
   some l5_1
def vR (N:Nat)(aC:Int)(aA:List aG)(aB:List aF)(aE vi bI:Int)(aZ l3 l4:List Int):Option ((List Int)×Int):=
 (iH N aC aA aB aE vi bI aZ l3 l4 N 0 []).bind fun p5=>
 vS N aC aA aB aE vi bI aZ l3 l4 p5
def lC (N:Nat)(aC:Int)(aA:List aG)(aB:List aF)(aE vi bI:Int)(aZ:List Int):Nat→Int→(List Int)→(List Int)→Option ((List Int)×(List Int))
 |0,_,_,_=>none
 |m+1,x44,e9,iB=>
  if decide (x44<(aA.length:Int)) then
   (bU aA x44).bind fun x46=>
   (wD N x46.Prev.Tx x46.Prev.Index).bind fun x51=>
   (eD 1 e9 x51).bind fun x52=>
   (fI N iB x46.Sequence).bind fun x56=>
   (lC N aC aA aB aE vi bI aZ m) (aXj.wrap (x44+1)) x52 x56
  else
   some (e9,iB)
def oF (N:Nat)(aC:Int)(aA:List aG)(aB:List aF)(aE vi bI:Int)(aZ:List Int)(x39:Bool):Option ((List Int)×Int):=
 if x39 then
  some ([0,0,0,0,0,0,0,0,0,0,0,0,0,0,0,0,0,0,0,0,0,0,0,0,0,0,0,0,0,0,0,0],5)
 else
  (lC N aC aA aB aE vi bI aZ N 0 [] []).bind fun p6=>
  vR N aC aA aB aE vi bI aZ p6.1 p6.2
def nV (N:Nat)(aC:Int)(aA:List aG)(aB:List aF)(aE vi bI:Int)(aZ:List Int)(x29:Bool):Option ((List Int)×Int):=
 if x29 then
  some ([0,0,0,0,0,0,0,0,0,0,0,0,0,0,0,0,0,0,0,0,0,0,0,0,0,0,0,0,0,0,0,0],4)
 else
  if decide (vi<0) then
   oF N aC aA aB aE vi bI aZ true
  else
   oF N aC aA aB aE vi bI aZ (decide ((aA.length:Int)≤vi))
def v4 (N:Nat)(aC:Int)(aA:List aG)(aB:List aF)(aE vi bI:Int)(aZ:List Int):Option ((List Int)×Int):=
 (aAc N aC aA aB aE).bind fun x17=>
 if !x17 then
  nV N aC aA aB aE vi bI aZ true
 else
  if decide (bI<0) then
   nV N aC aA aB aE vi bI aZ true
  else
   nV N aC aA aB aE vi bI aZ (decide (520<(aZ.length:Int)))
def aDt (N:Nat)(l0:List Int):Option (List Int):=
 some l0
def nN (N:Nat)(l:List (List Int)):Nat→Int→(List Int)→Option (List Int)
 |0,_,_=>none
 |m+1,x8,aS=>
  if decide (x8<(l.length:Int)) then
   (bU l x8).bind fun cD=>
   (eF N aS cD).bind fun bQ=>
   (nN N l m) (aXj.wrap (x8+1)) bQ
  else
   some aS
def qF (N:Nat)(l:List (List Int)):Option (List Int):=
 (nN N l N 0 []).bind fun p2=>
 aDt N p2
def iT (N:Nat)(x40:Bool):Option Int:=
 if x40 then
  some 5
 else
  some 0
def iO (N:Nat)(aT:Int)(bP:List Int)(o_M o_N:Int)(fR:Bool):Option Int:=
 if fR then
  some 6
 else
  if decide (255<(bP.length:Int)) then
   some 4
  else
   if aT == 11 then
    if decide (o_N<1) then
     iT N true
    else
     if decide (15<o_N) then
      iT N true
     else
      if decide (o_M<1) then
       iT N true
      else
       iT N (decide (o_N<o_M))
   else
    iT N false
def oG (N:Nat)(aT:Int)(bP:List Int)(o_M o_N:Int)(aFV:Bool):Option Int:=
 if aFV then
  iO N aT bP o_M o_N aFV
 else
  if o_M != 0 then
   iO N aT bP o_M o_N (aT != 11)
  else
   if o_N != 0 then
    iO N aT bP o_M o_N (aT != 11)
   else
    iO N aT bP o_M o_N false
def n6 (N:Nat)(aT:Int)(bP:List Int)(o_M o_N:Int)(x3:Bool):Option Int:=
 if x3 then
  some 80
 else
  if decide (0<(bP.length:Int)) then
   oG N aT bP o_M o_N (aT != 1)
  else
   oG N aT bP o_M o_N false
def oX (N:Nat)(aT:Int)(bP:List Int)(o_M o_N:Int):Option Int:=
 if decide (aT<1) then
  n6 N aT bP o_M o_N true
 else
  n6 N aT bP o_M o_N (decide (17<aT))
def o5 (N:Nat)(x8:Int)(b_1:List Int)(c1 aCq:Int)(l2:List Int):Option (Int×(List Int)×Int×Int×(List Int)×Int):=
 (oX N (aXj.wrap x8) l2 c1 aCq).bind fun x76=>
 some (aXj.wrap x8,l2,c1,aCq,b_1,x76)
def yQ (N:Nat)(x8:Int)(bV:List Int)(x39:Bool):Option (Int×(List Int)×Int×Int×(List Int)×Int):=
 if x39 then
  some (0,[],0,0,[],1)
 else
  (bU bV 0).bind fun x42=>
  (sub bV 1 (aXj.wrap (1+(aXj.wrap x42)))).bind fun x48=>
  (qF N [x48]).bind fun x50=>
  (sub bV (aXj.wrap (1+(aXj.wrap x42))) (bV.length:Int)).bind fun x53=>
  o5 N x8 x53 0 0 x50
def xW (N:Nat)(b:List Int)(x8:Int)(x19:Bool):Option (Int×(List Int)×Int×Int×(List Int)×Int):=
 if x19 then
  some (0,[],0,0,[],80)
 else
  (sub b 1 (b.length:Int)).bind fun bV=>
  if(aXj.wrap x8) == 1 then
   if(bV.length:Int) == 0 then
    yQ N x8 bV true
   else
    (bU bV 0).bind fun x35=>
    yQ N x8 bV (decide ((aXj.wrap ((bV.length:Int)-1))<(aXj.wrap x35)))
  else
   if(aXj.wrap x8) == 11 then
    if decide ((bV.length:Int)<2) then
     some (0,[],0,0,[],1)
    else
     (bU bV 0).bind fun x62=>
     (bU bV 1).bind fun x66=>
     (sub bV 2 (bV.length:Int)).bind fun x70=>
     o5 N x8 x70 (aXj.wrap x62) (aXj.wrap x66) []
   else
    o5 N x8 bV 0 0 []
def aC2 (N:Nat)(b:List Int):Option (Int×(List Int)×Int×Int×(List Int)×Int):=
 (bU b 0).bind fun x8=>
 if decide ((aXj.wrap x8)<1) then
  xW N b x8 true
 else
  xW N b x8 (decide (17<(aXj.wrap x8)))
def aCu (N:Nat)(l0:List aX):Option ((List aX)×Int):=
 some (l0,0)
def oD (N:Nat):Nat→(List Int)→(List aX)→Option (LR ((List aX)) ((List aX)×Int))
 |0,_,_=>none
 |m+1,b_1,aS=>
  if decide (0<(b_1.length:Int)) then
   (aC2 N b_1).bind fun x16=>
   if x16.2.2.2.2.2 != 0 then
    some (.ret ([],x16.2.2.2.2.2))
   else
    (eD 48 aS [(aX.mk x16.1 x16.2.1 x16.2.2.1 x16.2.2.2.1)]).bind fun x26=>
    (oD N m) x16.2.2.2.2.1 x26
  else
   some (.brk aS)
def aAy (N:Nat)(b:List Int):Option ((List aX)×Int):=
 if decide (520<(b.length:Int)) then
  some ([],4)
 else
  (oD N N b []).bind fun q=>match q with
   | .ret v=>some v
   | .brk p2=>
    aCu N p2
def aBT (N:Nat)(l0:List Bool):Option Bool:=
 some ((l0.length:Int) == 0)
def mV (N:Nat)(l:List aX)(x8:Int)(rec:Int→(List Bool)→Option (LR ((List Bool)) (Bool)))(fL:List Bool):Option (LR ((List Bool)) (Bool)):=
 rec (aXj.wrap (x8+1)) fL
def sW (N:Nat)(l:List aX)(x8:Int)(aS:List Bool)(rec:Int→(List Bool)→Option (LR ((List Bool)) (Bool)))(eG:Bool):Option (LR ((List Bool)) (Bool)):=
 if eG then
  some (.ret false)
 else
  (bU aS (aXj.wrap ((aS.length:Int)-1))).bind fun x36=>
  mV N l x8 rec (aS.set (aXn (aXj.wrap ((aS.length:Int)-1))) true)
def eP (N:Nat)(l:List aX):Nat→Int→(List Bool)→Option (LR ((List Bool)) (Bool))
 |0,_,_=>none
 |m+1,x8,aS=>
  if decide (x8<(l.length:Int)) then
   (bU l x8).bind fun cD=>
   if cD.Code == 14 then
    (eD 1 aS [false]).bind fun x18=>
    mV N l x8 (eP N l m) x18
   else
    if cD.Code == 15 then
     if(aS.length:Int) == 0 then
      sW N l x8 aS (eP N l m) true
     else
      (bU aS (aXj.wrap ((aS.length:Int)-1))).bind fun x29=>
      sW N l x8 aS (eP N l m) x29
    else
     if cD.Code == 16 then
      if(aS.length:Int) == 0 then
       some (.ret false)
      else
       (sub aS 0 (aXj.wrap ((aS.length:Int)-1))).bind fun x46=>
       mV N l x8 (eP N l m) x46
     else
      mV N l x8 (eP N l m) aS
  else
   some (.brk aS)
def y6 (N:Nat)(l:List aX):Option Bool:=
 (eP N l N 0 []).bind fun q=>match q with
  | .ret v=>some v
  | .brk p2=>
   aBT N p2
def aDn (N:Nat):Option Bool:=
 some false
def nK (N:Nat)(vs:List (List Int)):Nat→Int→Option (LR (Unit) (Bool))
 |0,_=>none
 |m+1,cD=>
  if decide (cD<(vs.length:Int)) then
   (bU vs cD).bind fun fR=>
   if decide (520<(fR.length:Int)) then
    some (.ret true)
   else
    (nK N vs m) (aXj.wrap (cD+1))
  else
   some (.brk ())
def aCe (N:Nat)(vs:List (List Int)):Option Bool:=
 if decide (64<(vs.length:Int)) then
  some true
 else
  (nK N vs N 0).bind fun q=>match q with
   | .ret v=>some v
   | .brk p2=>
    aDn N
def aBs (N:Nat)(l0:List (List Int)):Option (List (List Int)):=
 some l0
def kQ (N:Nat)(l:List (List Int)):Nat→Int→(List (List Int))→Option (List (List Int))
 |0,_,_=>none
 |m+1,b4,aS=>
  if decide (b4<(l.length:Int)) then
   (bU l b4).bind fun dA=>
   (qF N [dA]).bind fun x18=>
   (eD 24 aS [x18]).bind fun bT=>
   (kQ N l m) (aXj.wrap (b4+1)) bT
  else
   some aS
def xJ (N:Nat)(l:List (List Int)):Option (List (List Int)):=
 (mks 24 ([]:List Int) (l.length:Int)).bind fun x8=>
 (kQ N l N 0 []).bind fun p2=>
 aBs N p2
def pG (N:Nat)(x2:Bool):Option Bool:=
 some x2
def xP (N:Nat)(l:List bC):Option Bool:=
 if(l.length:Int) == 0 then
  pG N true
 else
  (bU l (aXj.wrap ((l.length:Int)-1))).bind fun b4=>
  if b4.reached then
   pG N b4.done
  else
   pG N false
def aCL (N:Nat)(aT:Int)(bP:List Int)(o_M o_N:Int):Option Int:=
 if aT == 8 then
  some 6
 else
  if aT == 10 then
   some 21
  else
   if aT == 11 then
    some (aXj.wrap (1+(aXj.wrap (20*o_N))))
   else
    some 1
def qW (N:Nat)(aT:Int)(bP:List Int)(o_M o_N:Int)(x15:Bool):Option Int:=
 if x15 then
  some 2
 else
  if aT == 11 then
   some (aXj.wrap (2*o_N))
  else
   some 0
def fW (N:Nat)(aT:Int)(bP:List Int)(o_M o_N:Int)(x5:Bool):Option Int:=
 if x5 then
  some 1
 else
  if aT == 4 then
   qW N aT bP o_M o_N (aT == 4)
  else
   if aT == 5 then
    qW N aT bP o_M o_N (aT == 5)
   else
    qW N aT bP o_M o_N (aT == 10)
def aAq (N:Nat)(aT:Int)(bP:List Int)(o_M o_N:Int):Option Int:=
 if aT == 2 then
  fW N aT bP o_M o_N (aT == 2)
 else
  if aT == 3 then
   fW N aT bP o_M o_N (aT == 3)
  else
   if aT == 6 then
    fW N aT bP o_M o_N (aT == 6)
   else
    if aT == 7 then
     fW N aT bP o_M o_N (aT == 7)
    else
     if aT == 8 then
      fW N aT bP o_M o_N (aT == 8)
     else
      if aT == 9 then
       fW N aT bP o_M o_N (aT == 9)
      else
       if aT == 12 then
        fW N aT bP o_M o_N (aT == 12)
       else
        if aT == 13 then
         fW N aT bP o_M o_N (aT == 13)
        else
         fW N aT bP o_M o_N (aT == 14)
def aDi (N:Nat):Option Bool:=
 some false
def pX (N:Nat)(b:List Int):Nat→Int→Option (LR (Unit) (Bool))
 |0,_=>none
 |m+1,x7=>
  if decide (x7<(b.length:Int)) then
   (bU b x7).bind fun x9=>
   if x9 != 0 then
    some (.ret true)
   else
    (pX N b m) (aXj.wrap (x7+1))
  else
   some (.brk ())
def qE (N:Nat)(b:List Int):Option Bool:=
 (pX N b N 0).bind fun q=>match q with
  | .ret v=>some v
  | .brk p2=>
   aDi N
def o4 (N:Nat)(vs:List (List Int))(gM:List Int):Option ((List (List Int))×Int):=
 if decide (64≤(vs.length:Int)) then
  some ([],4)
 else
  (sub vs 0 (vs.length:Int)).bind fun bQ=>
  (eD 24 bQ [gM]).bind fun x17=>
  some (x17,0)
def aDQ (N:Nat)(va b:List Int):Option Bool:=
 some ((sY va).toList == (sY b).toList)
def aDy (N:Nat)(l0:List Int):Option (List Int):=
 some l0
def pQ (N:Nat):Nat→Int→(List Int)→Option (List Int)
 |0,_,_=>none
 |m+1,eC,aS=>
  if decide (0<eC) then
   (eD 1 aS [aXp.wrap eC]).bind fun fR=>
   (pQ N m) (aXl.wrap (aXt eC 256)) fR
  else
   some aS
def vG (N:Nat)(vn:Int):Option (List Int):=
 (pQ N N vn []).bind fun p2=>
 aDy N p2
def oN (N:Nat)(b:Bool):Option (List Int):=
 if b then
  (vG N 1).bind fun x4=>
  some x4
 else
  (vG N 0).bind fun x5=>
  some x5
def sI (N:Nat)(l1:List Int):Option (List Int):=
 (a9 4 l1).bind fun q=>
 some l1
def j4 (N:Nat)(vh:List Int):Nat→Int→(List Int)→Option (List Int)
 |0,_,_=>none
 |m+1,x6,l2=>
  if decide (x6<32) then
   (bX 4 l2 (aXj.wrap (aXt (aXj.wrap (31-x6)) 8))).bind fun dA=>
   (bX 32 vh x6).bind fun x16=>
   (shl .u64 (aXm.wrap x16) (aXj.wrap (8*(aXu (aXj.wrap (31-x6)) 8)))).bind fun bV=>
   (j4 N vh m) (aXj.wrap (x6+1)) (l2.set (aXn (aXj.wrap (aXt (aXj.wrap (31-x6)) 8))) (bits .or .u64 dA bV))
  else
   some l2
def i7 (N:Nat)(vh:List Int):Option (List Int):=
 (j4 N vh N 0 (aXk 4 0)).bind fun p2=>
 sI N p2
def gW (N:Nat)(vn:Int):Option (List Int):=
 some [vn,0,0,0]
def s9 (N:Nat)(va:List Int):Option Bool:=
 (a9 4 va).bind fun q=>
 some (va == [0,0,0,0])
def aBA (N:Nat)(borrow:Int)(l1:List Int):Option ((List Int)×Bool):=
 (a9 4 l1).bind fun q=>
 some (l1,borrow == 1)
def q4 (N:Nat)(va b:List Int):Nat→Int→Int→(List Int)→Option (Int×(List Int))
 |0,_,_,_=>none
 |m+1,borrow_1,x9,l3=>
  if decide (x9<4) then
   (bX 4 va x9).bind fun x15=>
   (bX 4 b x9).bind fun x18=>
   (sQ N x15 x18 borrow_1).bind fun d5=>
   (bX 4 l3 x9).bind fun fG=>
   (q4 N va b m) d5.2 (aXj.wrap (x9+1)) (l3.set (aXn x9) d5.1)
  else
   some (borrow_1,l3)
def sV (N:Nat)(va b:List Int):Option ((List Int)×Bool):=
 (q4 N va b N 0 0 (aXk 4 0)).bind fun p2=>
 aBA N p2.1 p2.2
def nP (N:Nat):Option (List Int):=
 (gW N 36113).bind fun x5=>
 (sV N [0,0,0,0] x5).bind fun x6=>
 (a9 4 x6.1).bind fun q=>
 some x6.1
def aEw (N:Nat):Option Int:=
 some 0
def rD (N:Nat)(va b:List Int):Nat→Int→Option (LR (Unit) (Int))
 |0,_=>none
 |m+1,vi=>
  if decide (0≤vi) then
   (bX 4 va vi).bind fun b4=>
   (bX 4 b vi).bind fun bQ=>
   if decide (b4<bQ) then
    some (.ret (-1))
   else
    if decide (bQ<b4) then
     some (.ret 1)
    else
     (rD N va b m) (aXj.wrap (vi-1))
  else
   some (.brk ())
def sL (N:Nat)(va b:List Int):Option Int:=
 (rD N va b N 3).bind fun q=>match q with
  | .ret v=>some v
  | .brk p2=>
   aEw N
def o6 (N:Nat)(va:List Int)(vi:Int):Option Bool:=
 (bX 4 va (aXj.wrap (aXt vi 64))).bind fun x7=>
 (shr .u64 x7 (aXu vi 64)).bind fun b4=>
 some ((bits .and .u64 b4 1) == 1)
def aEv (N:Nat)(l1:List Int):Option (List Int):=
 (a9 4 l1).bind fun q_1=>
 some l1
def aB6 (N:Nat)(va:List Int)(vn vi:Int)(rec:Int→(List Int)→Option (List Int))(jD:List Int):Option (List Int):=
 rec (aXj.wrap (vi+1)) jD
def jQ (N:Nat)(va:List Int)(vn:Int):Nat→Int→(List Int)→Option (List Int)
 |0,_,_=>none
 |m+1,vi,l2=>
  if decide ((aXj.wrap (vi+vn))<256) then
   (a9 4 va).bind fun q_2=>
   (o6 N va (aXj.wrap (vi+vn))).bind fun iD=>
   if iD then
    (bX 4 l2 (aXj.wrap (aXt vi 64))).bind fun x26=>
    (shl .u64 1 (aXu vi 64)).bind fun jL=>
    aB6 N va vn vi (jQ N va vn m) (l2.set (aXn (aXj.wrap (aXt vi 64))) (bits .or .u64 x26 jL))
   else
    aB6 N va vn vi (jQ N va vn m) l2
  else
   some l2
def aEP (N:Nat)(va:List Int)(vn:Int):Option (List Int):=
 if decide (vn≤0) then
  (a9 4 va).bind fun q=>
  some va
 else
  if decide (256≤vn) then
   some [0,0,0,0]
  else
   (jQ N va vn N 0 (aXk 4 0)).bind fun p2=>
   aEv N p2
def qK (N:Nat):Option (List Int):=
 (nP N).bind fun x1=>
 (aEP N x1 1).bind fun x2=>
 (a9 4 x2).bind fun q=>
 some x2
def aBG (N:Nat)(lA:Int)(l1:List Int):Option ((List Int)×Bool):=
 (a9 4 l1).bind fun q=>
 some (l1,lA == 1)
def q9 (N:Nat)(va b:List Int):Nat→Int→Int→(List Int)→Option (Int×(List Int))
 |0,_,_,_=>none
 |m+1,carry_1,x9,l3=>
  if decide (x9<4) then
   (bX 4 va x9).bind fun x15=>
   (bX 4 b x9).bind fun x18=>
   (d7 N x15 x18 carry_1).bind fun d5=>
   (bX 4 l3 x9).bind fun fG=>
   (q9 N va b m) d5.2 (aXj.wrap (x9+1)) (l3.set (aXn x9) d5.1)
  else
   some (carry_1,l3)
def zE (N:Nat)(va b:List Int):Option ((List Int)×Bool):=
 (q9 N va b N 0 0 (aXk 4 0)).bind fun p2=>
 aBG N p2.1 p2.2
def aBh (N:Nat)(l0 l1:List Int):Option ((List Int)×(List Int)×Bool):=
 (a9 4 l0).bind fun q_2=>
 (a9 4 l1).bind fun q_3=>
 some (l0,l1,true)
def t9 (N:Nat)(lo b:List Int)(vi:Int)(rec:Int→(List Int)→(List Int)→Option ((List Int)×(List Int)))(jD e9:List Int):Option ((List Int)×(List Int)):=
 rec (aXj.wrap (vi-1)) jD e9
def rW (N:Nat)(lo b:List Int)(vi:Int)(l2 jZ:List Int)(rec:Int→(List Int)→(List Int)→Option ((List Int)×(List Int)))(x43:Bool):Option ((List Int)×(List Int)):=
 if x43 then
  (a9 4 jZ).bind fun q_6=>
  (sV N jZ b).bind fun x47=>
  (a9 4 x47.1).bind fun q_7=>
  (bX 4 l2 (aXj.wrap (aXt vi 64))).bind fun x52=>
  (shl .u64 1 (aXu vi 64)).bind fun x56=>
  t9 N lo b vi rec (l2.set (aXn (aXj.wrap (aXt vi 64))) (bits .or .u64 x52 x56)) x47.1
 else
  t9 N lo b vi rec l2 jZ
def uT (N:Nat)(lo b:List Int)(vi:Int)(l2:List Int)(iD:Bool)(rec:Int→(List Int)→(List Int)→Option ((List Int)×(List Int)))(jZ:List Int):Option ((List Int)×(List Int)):=
 if iD then
  rW N lo b vi l2 jZ rec true
 else
  (a9 4 jZ).bind fun q_8=>
  (sL N jZ b).bind fun x41=>
  rW N lo b vi l2 jZ rec (decide (0≤x41))
def fN (N:Nat)(lo b:List Int):Nat→Int→(List Int)→(List Int)→Option ((List Int)×(List Int))
 |0,_,_,_=>none
 |m+1,vi,l2,l3=>
  if decide (0≤vi) then
   (a9 4 l3).bind fun q_4=>
   (o6 N l3 255).bind fun iD=>
   (zE N l3 l3).bind fun x27=>
   (a9 4 x27.1).bind fun q_5=>
   (a9 4 lo).bind fun q_9=>
   (o6 N lo vi).bind fun lB=>
   if lB then
    (bX 4 x27.1 0).bind fun iA=>
    uT N lo b vi l2 iD (fN N lo b m) (x27.1.set (aXn 0) (bits .or .u64 iA 1))
   else
    uT N lo b vi l2 iD (fN N lo b m) x27.1
  else
   some (l2,l3)
def aBf (N:Nat)(hi lo b:List Int):Option ((List Int)×(List Int)×Bool):=
 (a9 4 b).bind fun q=>
 (a9 4 hi).bind fun q_1=>
 (sL N b hi).bind fun dA=>
 if decide (dA≤0) then
  some (aXk 4 0,aXk 4 0,false)
 else
  (fN N lo b N 255 (aXk 4 0) hi).bind fun p2=>
  aBh N p2.1 p2.2
def mG (N:Nat)(va vm:List Int):Option (List Int):=
 (a9 4 va).bind fun q=>
 (a9 4 vm).bind fun q_1=>
 (aBf N [0,0,0,0] va vm).bind fun fR=>
 (a9 4 fR.1).bind fun q_2=>
 (a9 4 fR.2.1).bind fun q_3=>
 some fR.2.1
def aBO (N:Nat):Option Int:=
 some 0
def q8 (N:Nat)(va:List Int):Nat→Int→Option (LR (Unit) (Int))
 |0,_=>none
 |m+1,vi=>
  if decide (0≤vi) then
   (a9 4 va).bind fun q=>
   (o6 N va vi).bind fun cD=>
   if cD then
    some (.ret (aXj.wrap (vi+1)))
   else
    (q8 N va m) (aXj.wrap (vi-1))
  else
   some (.brk ())
def aEI (N:Nat)(va:List Int):Option Int:=
 (q8 N va N 255).bind fun q=>match q with
  | .ret v=>some v
  | .brk p2=>
   aBO N
def y8 (N:Nat)(l2:List Int):Option ((List Int)×(List Int)):=
 (a9 8 l2).bind fun q=>
 (wH l2 0 4).bind fun x64=>
 (wH l2 4 8).bind fun x67=>
 (a9 4 (nT (aXk 4 0) x67)).bind fun q_1=>
 (a9 4 (nT (aXk 4 0) x64)).bind fun q_2=>
 some (nT (aXk 4 0) x67,nT (aXk 4 0) x64)
def aBU (N:Nat)(va b:List Int)(x15:Int)(rec:Int→(List Int)→Option (List Int))(iB:List Int):Option (List Int):=
 rec (aXj.wrap (x15+1)) iB
def aCf (N:Nat)(va b:List Int)(x15:Int)(rec:Int→(List Int)→Option (List Int))(lA:Int)(aA3:List Int):Option (List Int):=
 (bX 8 aA3 (aXj.wrap (x15+4))).bind fun x61=>
 aBU N va b x15 rec (aA3.set (aXn (aXj.wrap (x15+4))) lA)
def rJ (N:Nat)(va b:List Int)(x15:Int):Nat→Int→Int→(List Int)→Option (Int×(List Int))
 |0,_,_,_=>none
 |m+1,carry_1,x18,l4_3=>
  if decide (x18<4) then
   (bX 4 va x15).bind fun iD=>
   (bX 4 b x18).bind fun x26=>
   (mS N iD x26).bind fun x28=>
   (bX 8 l4_3 (aXj.wrap (x15+x18))).bind fun x35=>
   (d7 N x35 x28.2 0).bind fun x38=>
   (d7 N x38.1 carry_1 0).bind fun x44=>
   (rJ N va b x15 m) (aXm.wrap ((aXm.wrap (x28.1+x38.2))+x44.2)) (aXj.wrap (x18+1)) (l4_3.set (aXn (aXj.wrap (x15+x18))) x44.1)
  else
   some (carry_1,l4_3)
def mH (N:Nat)(va b:List Int):Nat→Int→(List Int)→Option (List Int)
 |0,_,_=>none
 |m+1,x15,l4=>
  if decide (x15<4) then
   (rJ N va b x15 N 0 0 l4).bind fun p5=>
   aCf N va b x15 (mH N va b m) p5.1 p5.2
  else
   some l4
def aC7 (N:Nat)(va b:List Int):Option ((List Int)×(List Int)):=
 (mH N va b N 0 (aXk 8 0)).bind fun p2=>
 y8 N p2
def rC (N:Nat)(va b vm:List Int):Option (List Int):=
 (a9 4 vm).bind fun q=>
 (s9 N vm).bind fun dA=>
 if dA then
  some vm
 else
  (a9 4 va).bind fun q_1=>
  (mG N va vm).bind fun x18=>
  (a9 4 b).bind fun q_2=>
  (mG N b vm).bind fun d5=>
  (aC7 N x18 d5).bind fun bV=>
  (a9 4 bV.1).bind fun q_3=>
  (a9 4 bV.2).bind fun q_4=>
  (aBf N bV.1 bV.2 vm).bind fun x29=>
  (a9 4 x29.1).bind fun q_5=>
  (a9 4 x29.2.1).bind fun q_6=>
  some x29.2.1
def aCb (N:Nat)(l1:List Int):Option (List Int):=
 (a9 4 l1).bind fun q_2=>
 some l1
def pL (N:Nat)(va ve vm:List Int)(vi:Int)(rec:Int→(List Int)→Option (List Int))(iB:List Int):Option (List Int):=
 rec (aXj.wrap (vi-1)) iB
def jB (N:Nat)(va ve vm:List Int):Nat→Int→(List Int)→Option (List Int)
 |0,_,_=>none
 |m+1,vi,l4=>
  if decide (0≤vi) then
   (a9 4 l4).bind fun q_4=>
   (rC N l4 l4 vm).bind fun x25=>
   (a9 4 x25).bind fun q_5=>
   (o6 N ve vi).bind fun x28=>
   if x28 then
    (a9 4 va).bind fun q_6=>
    (rC N x25 va vm).bind fun lB=>
    (a9 4 lB).bind fun q_7=>
    pL N va ve vm vi (jB N va ve vm m) lB
   else
    pL N va ve vm vi (jB N va ve vm m) x25
  else
   some l4
def zC (N:Nat)(va ve vm:List Int):Option (List Int):=
 (a9 4 vm).bind fun q=>
 (s9 N vm).bind fun cD=>
 if cD then
  some vm
 else
  (gW N 1).bind fun fR=>
  (mG N fR vm).bind fun bQ=>
  (a9 4 bQ).bind fun q_1=>
  (a9 4 ve).bind fun q_3=>
  (aEI N ve).bind fun x16=>
  (jB N va ve vm N (aXj.wrap (x16-1)) bQ).bind fun p2=>
  aCb N p2
def u3 (N:Nat)(va ve:List Int):Option (List Int):=
 (a9 4 va).bind fun q=>
 (a9 4 ve).bind fun q_1=>
 (nP N).bind fun x7=>
 (zC N va ve x7).bind fun x8=>
 (a9 4 x8).bind fun q_2=>
 some x8
def aEK (N:Nat):Option (List Int):=
 (gW N 1).bind fun x1=>
 (a9 4 x1).bind fun q=>
 some x1
def sN (N:Nat)(x2:Bool):Option Bool:=
 some x2
def xR (N:Nat)(va:List Int):Option Bool:=
 (a9 4 va).bind fun q=>
 (s9 N va).bind fun x4=>
 if !x4 then
  (nP N).bind fun x8=>
  (sL N va x8).bind fun x9=>
  if decide (x9<0) then
   (qK N).bind fun bQ=>
   (u3 N va bQ).bind fun x15=>
   (aEK N).bind fun x16=>
   (a9 4 x15).bind fun q_1=>
   (a9 4 x16).bind fun q_2=>
   sN N (x15 == x16)
  else
   sN N false
 else
  sN N false
def zN (N:Nat)(x2:Bool):Option Bool:=
 some x2
def v7 (N:Nat)(p:List Int):Option Bool:=
 (a9 4 p).bind fun q=>
 (gW N 1).bind fun x4=>
 (a9 4 x4).bind fun q_1=>
 if !(p == x4) then
  (xR N p).bind fun x8=>
  zN N x8
 else
  zN N false
def qL (N:Nat)(va:List Int):Option Bool:=
 (a9 4 va).bind fun q=>
 (qK N).bind fun x4=>
 (sL N va x4).bind fun x5=>
 some (decide (x5<0))
def xD (N:Nat)(bT bV:(List Int))(iA:Bool):Option ((List Int)×(List Int)×Int):=
 if iA then
  some (aXk 4 0,aXk 4 0,5)
 else
  some (bT,bV,0)
def xZ (N:Nat)(b:List Int):Option ((List Int)×(List Int)×Int):=
 if(b.length:Int) != 64 then
  some (aXk 4 0,aXk 4 0,8)
 else
  (sub b 0 32).bind fun dA=>
  (sub b 32 (b.length:Int)).bind fun x17=>
  (a9 32 (nT (aXk 32 0) dA)).bind fun q=>
  (i7 N (nT (aXk 32 0) dA)).bind fun bT=>
  (a9 32 (nT (aXk 32 0) x17)).bind fun q_1=>
  (i7 N (nT (aXk 32 0) x17)).bind fun bV=>
  (a9 4 bT).bind fun q_2=>
  (a9 4 bV).bind fun q_3=>
  (qL N bT).bind fun x26=>
  if !x26 then
   xD N bT bV true
  else
   (qL N bV).bind fun eG=>
   xD N bT bV (!eG)
def aAA (N:Nat)(ve:List Int):Option (List Int):=
 (gW N 4).bind fun x3=>
 (a9 4 ve).bind fun q=>
 (u3 N x3 ve).bind fun x5=>
 (a9 4 x5).bind fun q_1=>
 some x5
def aC5 (N:Nat)(va b:List Int):Option (List Int):=
 (a9 4 va).bind fun q=>
 (a9 4 b).bind fun q_1=>
 (nP N).bind fun x7=>
 (rC N va b x7).bind fun x8=>
 (a9 4 x8).bind fun q_2=>
 some x8
def aCC (N:Nat)(l1:List Int):Option (List Int):=
 (a9 32 l1).bind fun q=>
 some l1
def lK (N:Nat)(va:List Int):Nat→Int→(List Int)→Option (List Int)
 |0,_,_=>none
 |m+1,x6,l2=>
  if decide (x6<32) then
   (bX 4 va (aXj.wrap (aXt (aXj.wrap (31-x6)) 8))).bind fun bQ=>
   (shr .u64 bQ (aXj.wrap (8*(aXu (aXj.wrap (31-x6)) 8)))).bind fun x19=>
   (bX 32 l2 x6).bind fun d5=>
   (lK N va m) (aXj.wrap (x6+1)) (l2.set (aXn x6) (aXp.wrap x19))
  else
   some l2
def aAI (N:Nat)(va:List Int):Option (List Int):=
 (lK N va N 0 (aXk 32 0)).bind fun p2=>
 aCC N p2
def t7 (N:Nat)(va:List Int):Option (List Int):=
 (a9 4 va).bind fun q=>
 (aAI N va).bind fun x5=>
 (a9 32 x5).bind fun q_1=>
 some x5
def pP (N:Nat)(l1:List Int):Option (List Int):=
 (a9 4 l1).bind fun q_6=>
 some l1
def mO (N:Nat)(vm:List Int)(d5:(List Int)×Bool)(jL:Bool):Option (List Int):=
 if jL then
  (sV N d5.1 vm).bind fun cU=>
  (a9 4 cU.1).bind fun q_7=>
  pP N cU.1
 else
  pP N d5.1
def zD (N:Nat)(va b vm:List Int):Option (List Int):=
 (a9 4 vm).bind fun q=>
 (s9 N vm).bind fun cD=>
 if cD then
  some vm
 else
  (a9 4 va).bind fun q_1=>
  (mG N va vm).bind fun bQ=>
  (a9 4 b).bind fun q_2=>
  (mG N b vm).bind fun x17=>
  (a9 4 bQ).bind fun q_3=>
  (a9 4 x17).bind fun q_4=>
  (zE N bQ x17).bind fun d5=>
  (a9 4 d5.1).bind fun q_5=>
  if d5.2 then
   mO N vm d5 true
  else
   (sL N d5.1 vm).bind fun x28=>
   mO N vm d5 (decide (0≤x28))
def sP (N:Nat)(va b:List Int):Option (List Int):=
 (a9 4 va).bind fun q=>
 (a9 4 b).bind fun q_1=>
 (qK N).bind fun x7=>
 (zD N va b x7).bind fun x8=>
 (a9 4 x8).bind fun q_2=>
 some x8
def yR (N:Nat)(vh:List Int):Option (List Int):=
 (a9 32 vh).bind fun q=>
 (i7 N vh).bind fun x4=>
 (sP N x4 [0,0,0,0]).bind fun x6=>
 (a9 4 x6).bind fun q_1=>
 some x6
def sU (N:Nat)(vr p vm:List Int):Option (List Int):=
 (a9 4 vr).bind fun q=>
 (t7 N vr).bind fun x8=>
 (a9 4 p).bind fun q_1=>
 (t7 N p).bind fun cD=>
 (a9 32 vm).bind fun q_2=>
 (qF N [x8,cD,vm]).bind fun dA=>
 (uM N (⟨#[108,105,103,104,116,99,108,105,101,110,116,47,99,104,97,108,108,101,110,103,101]⟩) dA).bind fun bQ=>
 (yR N bQ).bind fun x15=>
 (a9 4 x15).bind fun q_3=>
 some x15
def nA (N:Nat)(p vm s_E s_S:List Int)(fG:Bool):Option Bool:=
 if fG then
  some false
 else
  (qK N).bind fun x26=>
  (a9 4 s_E).bind fun q=>
  (sV N x26 s_E).bind fun x29=>
  (a9 4 x29.1).bind fun q_1=>
  (a9 4 s_S).bind fun q_2=>
  (aAA N s_S).bind fun cU=>
  (a9 4 p).bind fun q_3=>
  (u3 N p x29.1).bind fun x37=>
  (aC5 N cU x37).bind fun x38=>
  (a9 4 x38).bind fun q_4=>
  (a9 32 vm).bind fun q_5=>
  (sU N x38 p vm).bind fun x44=>
  (a9 4 x44).bind fun q_6=>
  some (s_E == x44)
def yP (N:Nat)(p vm s_E s_S:List Int):Option Bool:=
 (a9 4 p).bind fun q_7=>
 (v7 N p).bind fun b4=>
 if !b4 then
  nA N p vm s_E s_S true
 else
  (a9 4 s_E).bind fun q_8=>
  (qL N s_E).bind fun x16=>
  if !x16 then
   nA N p vm s_E s_S true
  else
   (a9 4 s_S).bind fun q_9=>
   (qL N s_S).bind fun bV=>
   nA N p vm s_E s_S (!bV)
def s7 (N:Nat)(x39:Bool):Option (Bool×Int):=
 if x39 then
  some (false,61)
 else
  some (true,0)
def rU (N:Nat)(sig key vm:List Int):Option (Bool×Int):=
 if(key.length:Int) != 32 then
  some (false,60)
 else
  (a9 32 (nT (aXk 32 0) key)).bind fun q=>
  (i7 N (nT (aXk 32 0) key)).bind fun x19=>
  (a9 4 x19).bind fun q_1=>
  (v7 N x19).bind fun d5=>
  if !d5 then
   some (false,60)
  else
   if(sig.length:Int) == 0 then
    some (false,0)
   else
    (xZ N sig).bind fun x28=>
    if x28.2.2 != 0 then
     s7 N true
    else
     (a9 32 vm).bind fun q_2=>
     (yP N x19 vm x28.1 x28.2.1).bind fun x37=>
     s7 N (!x37)
def aCG (N:Nat)(aT:Int)(bP:List Int)(o_M o_N vn:Int):Option (Bool×Int):=
 some (decide (o_M≤vn),0)
def uB (N:Nat)(aT:Int)(bP:List Int)(o_M o_N:Int)(sG:List (List Int))(vm:List Int)(vi:Int)(rec:Int→Int→Option (LR (Int) (Bool×Int)))(aDq:Int):Option (LR (Int) (Bool×Int)):=
 rec aDq (aXj.wrap (vi+1))
def kE (N:Nat)(aT:Int)(bP:List Int)(o_M o_N:Int)(sG:List (List Int))(vm:List Int):Nat→Int→Int→Option (LR (Int) (Bool×Int))
 |0,_,_=>none
 |m+1,eC,vi=>
  if decide (vi<o_N) then
   (bU sG vi).bind fun d5=>
   (bU sG (aXj.wrap (o_N+vi))).bind fun x28=>
   (a9 32 vm).bind fun q=>
   (rU N d5 x28 vm).bind fun eG=>
   if eG.2 != 0 then
    some (.ret (false,eG.2))
   else
    if eG.1 then
     uB N aT bP o_M o_N sG vm vi (kE N aT bP o_M o_N sG vm m) (aXj.wrap (eC+1))
    else
     uB N aT bP o_M o_N sG vm vi (kE N aT bP o_M o_N sG vm m) eC
  else
   some (.brk eC)
def aAz (N:Nat)(aT:Int)(bP:List Int)(o_M o_N:Int)(sG:List (List Int))(vm:List Int):Option (Bool×Int):=
 (kE N aT bP o_M o_N sG vm N 0 0).bind fun q=>match q with
  | .ret v=>some v
  | .brk p2=>
   aCG N aT bP o_M o_N p2
def aBH (N:Nat)(vn:Int):Option (Int×Int):=
 some (vn,0)
def mN (N:Nat)(b:List Int):Nat→Int→Int→Option Int
 |0,_,_=>none
 |m+1,eC,x25=>
  if decide (x25<(b.length:Int)) then
   (bU b x25).bind fun eG=>
   (shl .u32 (aXl.wrap eG) (aXj.wrap (8*x25))).bind fun x36=>
   (mN N b m) (bits .or .u32 eC x36) (aXj.wrap (x25+1))
  else
   some eC
def l9 (N:Nat)(b:List Int)(bV:Bool):Option (Int×Int):=
 if bV then
  some (0,82)
 else
  (mN N b N 0 0).bind fun p3=>
  aBH N p3
def yA (N:Nat)(b:List Int):Option (Int×Int):=
 if decide (4<(b.length:Int)) then
  l9 N b true
 else
  if decide (0<(b.length:Int)) then
   (bU b (aXj.wrap ((b.length:Int)-1))).bind fun x18=>
   l9 N b (x18 == 0)
  else
   l9 N b false
def uY (N:Nat)(gM:List Int)(now:Int):Option Int:=
 (yA N gM).bind fun x9=>
 if x9.2 != 0 then
  some x9.2
 else
  if decide (now<(aXj.wrap x9.1)) then
   some 85
  else
   some 0
def aBx (N:Nat)(aT:Int)(bP:List Int)(o_M o_N:Int)(vs:List (List Int))(bF:List Int)(bN cJ:Int):Option ((List (List Int))×Int):=
 if aT == 1 then
  (qF N [bP]).bind fun x25=>
  (o4 N vs x25).bind fun x26=>
  some (x26.1,x26.2)
 else
  if aT == 2 then
   (bU vs (aXj.wrap ((vs.length:Int)-1))).bind fun x35=>
   (o4 N vs x35).bind fun x37=>
   some (x37.1,x37.2)
  else
   if aT == 3 then
    (sub vs 0 (aXj.wrap ((vs.length:Int)-1))).bind fun x45=>
    some (x45,0)
   else
    if aT == 4 then
     (sub vs 0 (aXj.wrap ((vs.length:Int)-2))).bind fun x53=>
     (bU vs (aXj.wrap ((vs.length:Int)-1))).bind fun x57=>
     (bU vs (aXj.wrap ((vs.length:Int)-2))).bind fun x62=>
     (eD 24 x53 [x57,x62]).bind fun x65=>
     some (x65,0)
    else
     if aT == 5 then
      (sub vs 0 (aXj.wrap ((vs.length:Int)-2))).bind fun x73=>
      (bU vs (aXj.wrap ((vs.length:Int)-2))).bind fun x77=>
      (bU vs (aXj.wrap ((vs.length:Int)-1))).bind fun x82=>
      (aDQ N x77 x82).bind fun x84=>
      (oN N x84).bind fun x85=>
      (eD 24 x73 [x85]).bind fun x87=>
      some (x87,0)
     else
      if aT == 6 then
       (sub vs 0 (aXj.wrap ((vs.length:Int)-1))).bind fun x95=>
       (bU vs (aXj.wrap ((vs.length:Int)-1))).bind fun x99=>
       (qE N x99).bind fun aUA=>
       (oN N (!aUA)).bind fun aH4=>
       (eD 24 x95 [aH4]).bind fun aRa=>
       some (aRa,0)
      else
       if aT == 7 then
        (bU vs (aXj.wrap ((vs.length:Int)-1))).bind fun aMW=>
        (qE N aMW).bind fun aHi=>
        if !aHi then
         some ([],84)
        else
         (sub vs 0 (aXj.wrap ((vs.length:Int)-1))).bind fun aDj=>
         some (aDj,0)
       else
        if aT == 8 then
         (bU vs (aXj.wrap ((vs.length:Int)-1))).bind fun aKG=>
         (qQ N aKG).bind fun aHk=>
         (a9 32 aHk).bind fun q=>
         (sub vs 0 (aXj.wrap ((vs.length:Int)-1))).bind fun aUX=>
         (eD 24 aUX [aHk]).bind fun aRH=>
         some (aRH,0)
        else
         if aT == 9 then
          (bU vs (aXj.wrap ((vs.length:Int)-1))).bind fun aUS=>
          (vG N (aXl.wrap (aUS.length:Int))).bind fun aUD=>
          (o4 N vs aUD).bind fun aG5=>
          some (aG5.1,aG5.2)
         else
          if aT == 10 then
           (bU vs (aXj.wrap ((vs.length:Int)-2))).bind fun aUK=>
           (bU vs (aXj.wrap ((vs.length:Int)-1))).bind fun aUZ=>
           (a9 32 bF).bind fun q_1=>
           (rU N aUK aUZ bF).bind fun aPl=>
           (sub vs 0 (aXj.wrap ((vs.length:Int)-2))).bind fun aUE=>
           (oN N aPl.1).bind fun aQ2=>
           (eD 24 aUE [aQ2]).bind fun aRr=>
           some (aRr,aPl.2)
          else
           if aT == 11 then
            (sub vs (aXj.wrap ((vs.length:Int)-(aXj.wrap (2*o_N)))) (vs.length:Int)).bind fun aUh=>
            (a9 32 bF).bind fun q_2=>
            (aAz N aT bP o_M o_N aUh bF).bind fun aOW=>
            (sub vs 0 (aXj.wrap ((vs.length:Int)-(aXj.wrap (2*o_N))))).bind fun aVg=>
            (oN N aOW.1).bind fun aRM=>
            (eD 24 aVg [aRM]).bind fun aQN=>
            some (aQN,aOW.2)
           else
            if aT == 12 then
             (bU vs (aXj.wrap ((vs.length:Int)-1))).bind fun aUC=>
             (uY N aUC bN).bind fun aUp=>
             some (vs,aUp)
            else
             if aT == 13 then
              (bU vs (aXj.wrap ((vs.length:Int)-1))).bind fun aUn=>
              (uY N aUn cJ).bind fun aUd=>
              some (vs,aUd)
             else
              some ([],84)
def aD9 (N:Nat)(vs:List (List Int))(cost:Int):Option ((List (List Int))×Int×Int):=
 some (vs,cost,0)
def iM (N:Nat)(bF:List Int)(bN cJ:Int)(bT:(List aX)×Int)(x35:Int)(rec:(List (List Int))→Int→Int→(List bC)→Option (LR ((List (List Int))×Int) ((List (List Int))×Int×Int)))(aKI:List (List Int))(aFr:Int)(cS:List bC):Option (LR ((List (List Int))×Int) ((List (List Int))×Int×Int)):=
 rec aKI aFr (aXj.wrap (x35+1)) cS
def uX (N:Nat)(bF:List Int)(bN cJ:Int)(bT:(List aX)×Int)(x35:Int)(l1:List bC)(iP:Bool)(mP:Int)(rec:(List (List Int))→Int→Int→(List bC)→Option (LR ((List (List Int))×Int) ((List (List Int))×Int×Int)))(aKK:List (List Int))(c2:Bool):Option (LR ((List (List Int))×Int) ((List (List Int))×Int×Int)):=
 (eD 2 l1 [(bC.mk iP c2)]).bind fun x91=>
 iM N bF bN cJ bT x35 rec aKK mP x91
def uP (N:Nat)(bF:List Int)(bN cJ:Int)(bT:(List aX)×Int)(jV:List (List Int))(x35:Int)(l1:List bC)(x37:aX)(iP:Bool)(rec:(List (List Int))→Int→Int→(List bC)→Option (LR ((List (List Int))×Int) ((List (List Int))×Int×Int)))(mP:Int):Option (LR ((List (List Int))×Int) ((List (List Int))×Int×Int)):=
 if x37.Code == 14 then
  if iP then
   (bU jV (aXj.wrap ((jV.length:Int)-1))).bind fun x79=>
   (qE N x79).bind fun x81=>
   (sub jV 0 (aXj.wrap ((jV.length:Int)-1))).bind fun x87=>
   uX N bF bN cJ bT x35 l1 iP mP rec x87 x81
  else
   uX N bF bN cJ bT x35 l1 iP mP rec jV false
 else
  if x37.Code == 15 then
   (bU l1 (aXj.wrap ((l1.length:Int)-1))).bind fun aDo=>
   iM N bF bN cJ bT x35 rec jV mP (l1.set (aXn (aXj.wrap ((l1.length:Int)-1))) (bC.mk aDo.reached (!aDo.done)))
  else
   if x37.Code == 16 then
    (sub l1 0 (aXj.wrap ((l1.length:Int)-1))).bind fun aDj=>
    iM N bF bN cJ bT x35 rec jV mP aDj
   else
    if iP then
     (aBx N x37.Code x37.Data x37.M x37.N jV bF bN cJ).bind fun aMN=>
     if aMN.2 != 0 then
      some (.ret ([],0,aMN.2))
     else
      iM N bF bN cJ bT x35 rec aMN.1 mP l1
    else
     iM N bF bN cJ bT x35 rec jV mP l1
def uU (N:Nat)(bF:List Int)(bN cJ:Int)(bT:(List aX)×Int)(jV:List (List Int))(k4 x35:Int)(l1:List bC)(x37:aX)(rec:(List (List Int))→Int→Int→(List bC)→Option (LR ((List (List Int))×Int) ((List (List Int))×Int×Int)))(iP:Bool):Option (LR ((List (List Int))×Int) ((List (List Int))×Int×Int)):=
 if iP then
  (aCL N x37.Code x37.Data x37.M x37.N).bind fun x59=>
  if decide (500<(aXj.wrap (k4+x59))) then
   some (.ret ([],0,83))
  else
   (aAq N x37.Code x37.Data x37.M x37.N).bind fun x66=>
   if decide ((jV.length:Int)<x66) then
    some (.ret ([],0,81))
   else
    uP N bF bN cJ bT jV x35 l1 x37 iP rec (aXj.wrap (k4+x59))
 else
  uP N bF bN cJ bT jV x35 l1 x37 iP rec k4
def rE (N:Nat)(bF:List Int)(bN cJ:Int)(bT:(List aX)×Int)(jV:List (List Int))(k4 x35:Int)(l1:List bC)(x37:aX)(x40:Bool)(rec:(List (List Int))→Int→Int→(List bC)→Option (LR ((List (List Int))×Int) ((List (List Int))×Int×Int)))(x48:Bool):Option (LR ((List (List Int))×Int) ((List (List Int))×Int×Int)):=
 if x48 then
  (bU l1 (aXj.wrap ((l1.length:Int)-1))).bind fun x53=>
  uU N bF bN cJ bT jV k4 x35 l1 x37 rec x53.reached
 else
  uU N bF bN cJ bT jV k4 x35 l1 x37 rec x40
def dZ (N:Nat)(bF:List Int)(bN cJ:Int)(bT:(List aX)×Int):Nat→(List (List Int))→Int→Int→(List bC)→Option (LR ((List (List Int))×Int) ((List (List Int))×Int×Int))
 |0,_,_,_,_=>none
 |m+1,jV,k4,x35,l1=>
  if decide (x35<(bT.1.length:Int)) then
   (bU bT.1 x35).bind fun x37=>
   (xP N l1).bind fun x40=>
   if x37.Code == 15 then
    rE N bF bN cJ bT jV k4 x35 l1 x37 x40 (dZ N bF bN cJ bT m) true
   else
    rE N bF bN cJ bT jV k4 x35 l1 x37 x40 (dZ N bF bN cJ bT m) (x37.Code == 16)
  else
   some (.brk (jV,k4))
def aDa (N:Nat)(b:List Int)(stack:List (List Int))(bF:List Int)(bN cJ:Int):Option ((List (List Int))×Int×Int):=
 (aAy N b).bind fun bT=>
 if bT.2 != 0 then
  some ([],0,bT.2)
 else
  (y6 N bT.1).bind fun x27=>
  if !x27 then
   some ([],0,86)
  else
   (aCe N stack).bind fun jL=>
   if jL then
    some ([],0,4)
   else
    (xJ N stack).bind fun lB=>
    (dZ N bF bN cJ bT N lB 0 0 []).bind fun q=>match q with
     | .ret v=>some v
     | .brk p2=>
      aD9 N p2.1 p2.2
def sM (N:Nat)(b:List Int)(bK:List (List Int))(bF:List Int)(bN cJ:Int):Option Int:=
 (aDa N b bK bF bN cJ).bind fun bQ=>
 if bQ.2.2 != 0 then
  some bQ.2.2
 else
  if(bQ.1.length:Int) != 1 then
   some 81
  else
   (bU bQ.1 0).bind fun x28=>
   (qE N x28).bind fun jL=>
   if !jL then
    some 84
   else
    some 0
def qT (N:Nat)(aC:Int)(aA:List aG)(aB:List aF)(aE vi:Int)(eY:List Int)(dD cL:Int)(b9:List Int)(cX:Int)(eQ:Bool)(bS:Int)(x16:(List Int)×Int)(x43:Bool):Option Int:=
 if x43 then
  some 102
 else
  (bU aA vi).bind fun x50=>
  (sM N b9 x50.Witness x16.1 bS (aXj.wrap (bS-cX))).bind fun x60=>
  some x60
def aAn (N:Nat)(aC:Int)(aA:List aG)(aB:List aF)(aE vi:Int)(eY:List Int)(dD cL:Int)(b9:List Int)(cX:Int)(eQ:Bool)(bS:Int):Option Int:=
 (v4 N aC aA aB aE vi cL b9).bind fun x16=>
 (a9 32 x16.1).bind fun q=>
 if x16.2 != 0 then
  some x16.2
 else
  (bU aA vi).bind fun x25=>
  if !(lS x25.Prev.Tx eY ((x25.Prev.Index == dD)&&true)) then
   some 101
  else
   if decide (16777216<bS) then
    qT N aC aA aB aE vi eY dD cL b9 cX eQ bS x16 true
   else
    if decide (cX<0) then
     qT N aC aA aB aE vi eY dD cL b9 cX eQ bS x16 true
    else
     qT N aC aA aB aE vi eY dD cL b9 cX eQ bS x16 (decide (bS<cX))
def aDm (N:Nat):Option Bool:=
 some true
def nM (N:Nat)(l:List bA):Nat→Int→Option (LR (Unit) (Bool))
 |0,_=>none
 |m+1,dA=>
  if decide (dA<(l.length:Int)) then
   (bU l dA).bind fun x15=>
   if decide (600<(x15.Output.Script.length:Int)) then
    some (.ret false)
   else
    (nM N l m) (aXj.wrap (dA+1))
  else
   some (.brk ())
def aBI (N:Nat)(l:List bA)(vn:Int):Option Bool:=
 if decide (vn<(l.length:Int)) then
  some false
 else
  (nM N l N 0).bind fun q=>match q with
   | .ret v=>some v
   | .brk p2=>
    aDm N
def aEY (N:Nat):Option Bool:=
 some true
def qO (N:Nat)(aA:List aG):Nat→Int→Option (LR (Unit) (Bool))
 |0,_=>none
 |m+1,x15=>
  if decide (x15<(aA.length:Int)) then
   (bU aA x15).bind fun x17=>
   if x17.Sequence != 4294967295 then
    some (.ret false)
   else
    (qO N aA m) (aXj.wrap (x15+1))
  else
   some (.brk ())
def aEu (N:Nat)(aC:Int)(aA:List aG)(aB:List aF)(aE bS:Int):Option Bool:=
 if decide ((aXj.wrap aE)≤bS) then
  some true
 else
  (qO N aA N 0).bind fun q=>match q with
   | .ret v=>some v
   | .brk p2=>
    aEY N
def aCB (N:Nat)(x18:Int×Int):Option (Int×Int):=
 some (x18.1,0)
def oE (N:Nat)(aC:Int)(aA:List aG)(aB:List aF)(aE:Int)(l:List bA)(bS:Int)(x18:Int×Int):Nat→Int→Option (LR (Unit) (Int×Int))
 |0,_=>none
 |m+1,jL=>
  if decide (jL<(l.length:Int)) then
   (bU l jL).bind fun iA=>
   (aAk N aC aA aB aE jL iA.Out.Tx iA.Out.Index iA.Output.Value iA.Output.Script iA.Height iA.Coinbase bS).bind fun x39=>
   if x39 != 0 then
    some (.ret (0,x39))
   else
    (oE N aC aA aB aE l bS x18 m) (aXj.wrap (jL+1))
  else
   some (.brk ())
def aAh (N:Nat)(aC:Int)(aA:List aG)(aB:List aF)(aE:Int)(l:List bA)(bS:Int):Option (Int×Int):=
 (wA N aC aA aB aE).bind fun bQ=>
 if bQ then
  some (0,92)
 else
  (xL N aC aA aB aE l).bind fun x18=>
  if x18.2 != 0 then
   some (0,x18.2)
  else
   (aEu N aC aA aB aE bS).bind fun x26=>
   if !x26 then
    some (0,85)
   else
    (oE N aC aA aB aE l bS x18 N 0).bind fun q=>match q with
     | .ret v=>some v
     | .brk p2=>
      aCB N x18
def aBS (N:Nat)(tG:List Int)(j9:Int):Option Bool:=
 some (lS tG (aXk 32 0) ((j9 == 4294967295)&&true))
def tW (N:Nat)(x2:Bool):Option Bool:=
 some x2
def qU (N:Nat)(aC:Int)(aA:List aG)(aB:List aF)(aE:Int):Option Bool:=
 if(aA.length:Int) == 1 then
  (bU aA 0).bind fun cD=>
  (aBS N cD.Prev.Tx cD.Prev.Index).bind fun dA=>
  tW N dA
 else
  tW N false
def aCm (N:Nat):Option Int:=
 some 0
def uS (N:Nat)(aC:Int)(aA:List aG)(aB:List aF)(aE x68:Int)(rec:Int→Option (LR (Unit) (Int)))(x79:Bool):Option (LR (Unit) (Int)):=
 if x79 then
  some (.ret 92)
 else
  rec (aXj.wrap (x68+1))
def iW (N:Nat)(aC:Int)(aA:List aG)(aB:List aF)(aE:Int):Nat→Int→Option (LR (Unit) (Int))
 |0,_=>none
 |m+1,x68=>
  if decide (x68<(aA.length:Int)) then
   (bU aA x68).bind fun x70=>
   (aBS N x70.Prev.Tx x70.Prev.Index).bind fun x74=>
   if x74 then
    (qU N aC aA aB aE).bind fun x77=>
    uS N aC aA aB aE x68 (iW N aC aA aB aE m) (!x77)
   else
    uS N aC aA aB aE x68 (iW N aC aA aB aE m) false
  else
   some (.brk ())
def zQ (N:Nat)(aC:Int)(aA:List aG)(aB:List aF)(aE:Int):Option Int:=
 (iW N aC aA aB aE N 0).bind fun q=>match q with
  | .ret v=>some v
  | .brk p5=>
   aCm N
def z9 (N:Nat)(aC:Int)(aA:List aG)(aB:List aF)(aE x43:Int)(rec:Int→Option (LR (Unit) (Int))):Option (LR (Unit) (Int)):=
 rec (aXj.wrap (x43+1))
def kB (N:Nat)(aC:Int)(aA:List aG)(aB:List aF)(aE x43:Int):Nat→Int→Option (LR (Unit) (Int))
 |0,_=>none
 |m+1,k=>
  if decide (k<x43) then
   (bU aA x43).bind fun x54=>
   (bU aA k).bind fun x60=>
   if(lS x54.Prev.Tx x60.Prev.Tx ((x54.Prev.Index == x60.Prev.Index)&&true)) then
    some (.ret 91)
   else
    (kB N aC aA aB aE x43 m) (aXj.wrap (k+1))
  else
   some (.brk ())
def iV (N:Nat)(aC:Int)(aA:List aG)(aB:List aF)(aE:Int):Nat→Int→Option (LR (Unit) (Int))
 |0,_=>none
 |m+1,x43=>
  if decide (x43<(aA.length:Int)) then
   (kB N aC aA aB aE x43 N 0).bind fun q=>match q with
    | .ret v=>some (.ret v)
    | .brk p9=>
     z9 N aC aA aB aE x43 (iV N aC aA aB aE m)
  else
   some (.brk ())
def zK (N:Nat)(aC:Int)(aA:List aG)(aB:List aF)(aE sum:Int):Option Int:=
 if decide (2100000000000000<sum) then
  some 90
 else
  (iV N aC aA aB aE N 0).bind fun q=>match q with
   | .ret v=>some v
   | .brk p7=>
    zQ N aC aA aB aE
def mM (N:Nat)(aC:Int)(aA:List aG)(aB:List aF)(aE:Int):Nat→Int→Int→Option (LR (Int) (Int))
 |0,_,_=>none
 |m+1,u6,x26=>
  if decide (x26<(aB.length:Int)) then
   (bU aB x26).bind fun x28=>
   if decide (2100000000000000<x28.Value) then
    some (.ret 90)
   else
    (mM N aC aA aB aE m) (aXj.wrap (u6+x28.Value)) (aXj.wrap (x26+1))
  else
   some (.brk u6)
def uR (N:Nat)(aC:Int)(aA:List aG)(aB:List aF)(aE:Int)(bV:Bool):Option Int:=
 if bV then
  some 93
 else
  (mM N aC aA aB aE N 0 0).bind fun q=>match q with
   | .ret v=>some v
   | .brk p10=>
    zK N aC aA aB aE p10
def aAH (N:Nat)(aC:Int)(aA:List aG)(aB:List aF)(aE:Int):Option Int:=
 (aAc N aC aA aB aE).bind fun b4=>
 if !b4 then
  some 4
 else
  if(aA.length:Int) == 0 then
   uR N aC aA aB aE true
  else
   uR N aC aA aB aE ((aB.length:Int) == 0)
def aBo (N:Nat)(u6:Int):Option (Int×Int):=
 if decide (u6<0) then
  some (0,100)
 else
  some (u6,0)
def o9 (N:Nat)(aB:List aF):Nat→Int→Int→Option Int
 |0,_,_=>none
 |m+1,sum_2,x69=>
  if decide (x69<(aB.length:Int)) then
   (bU aB x69).bind fun x71=>
   (o9 N aB m) (aXj.wrap (sum_2-x71.Value)) (aXj.wrap (x69+1))
  else
   some sum_2
def aBw (N:Nat)(aC:Int)(aA:List aG)(aB:List aF)(aE sum:Int):Option (Int×Int):=
 if decide (2100000000000000<sum) then
  some (0,90)
 else
  (o9 N aB N sum 0).bind fun p4=>
  aBo N p4
def yN (N:Nat)(aC:Int)(aA:List aG)(aB:List aF)(aE:Int)(l:List bA)(aAa x44:Int)(x46:bA)(rec:Int→Int→Option (LR (Int) (Int×Int)))(x57:Bool):Option (LR (Int) (Int×Int)):=
 if x57 then
  some (.ret (0,90))
 else
  rec (aXj.wrap (aAa+x46.Output.Value)) (aXj.wrap (x44+1))
def mF (N:Nat)(aC:Int)(aA:List aG)(aB:List aF)(aE:Int)(l:List bA):Nat→Int→Int→Option (LR (Int) (Int×Int))
 |0,_,_=>none
 |m+1,aAa,x44=>
  if decide (x44<(l.length:Int)) then
   (bU l x44).bind fun x46=>
   if decide (x46.Output.Value<0) then
    yN N aC aA aB aE l aAa x44 x46 (mF N aC aA aB aE l m) true
   else
    yN N aC aA aB aE l aAa x44 x46 (mF N aC aA aB aE l m) (decide (2100000000000000<x46.Output.Value))
  else
   some (.brk aAa)
def aBn (N:Nat)(aC:Int)(aA:List aG)(aB:List aF)(aE:Int)(l:List bA):Option (Int×Int):=
 (mF N aC aA aB aE l N 0 0).bind fun q=>match q with
  | .ret v=>some v
  | .brk p5=>
   aBw N aC aA aB aE p5
def pD (N:Nat)(aC:Int)(aA:List aG)(aB:List aF)(aE:Int)(l:List bA):Nat→Int→Option (LR (Unit) (Int×Int))
 |0,_=>none
 |m+1,x26=>
  if decide (x26<(l.length:Int)) then
   (bU l x26).bind fun eG=>
   (bU aA x26).bind fun x37=>
   if !(lS eG.Out.Tx x37.Prev.Tx ((eG.Out.Index == x37.Prev.Index)&&true)) then
    some (.ret (0,101))
   else
    (pD N aC aA aB aE l m) (aXj.wrap (x26+1))
  else
   some (.brk ())
def aDh (N:Nat)(aC:Int)(aA:List aG)(aB:List aF)(aE:Int)(l:List bA):Option (Int×Int):=
 (aAH N aC aA aB aE).bind fun bQ=>
 if bQ != 0 then
  some (0,bQ)
 else
  if(l.length:Int) != (aA.length:Int) then
   some (0,8)
  else
   (pD N aC aA aB aE l N 0).bind fun q=>match q with
    | .ret v=>some v
    | .brk p7=>
     aBn N aC aA aB aE l
def aCD (N:Nat):Option Bool:=
 some true
def lJ (N:Nat)(aA:List aG):Nat→Int→Option (LR (Unit) (Bool))
 |0,_=>none
 |m+1,x15=>
  if decide (x15<(aA.length:Int)) then
   (bU aA x15).bind fun x17=>
   if x17.Sequence != 4294967295 then
    some (.ret false)
   else
    (lJ N aA m) (aXj.wrap (x15+1))
  else
   some (.brk ())
def aAp (N:Nat)(aC:Int)(aA:List aG)(aB:List aF)(aE bS:Int):Option Bool:=
 if decide ((aXj.wrap aE)≤bS) then
  some true
 else
  (lJ N aA N 0).bind fun q=>match q with
   | .ret v=>some v
   | .brk p2=>
    aCD N
def aCI (N:Nat)(x17:Int×Int):Option (Int×Int):=
 some (x17.1,0)
def nX (N:Nat)(aC:Int)(aA:List aG)(aB:List aF)(aE:Int)(l:List bA)(bS:Int)(x17:Int×Int):Nat→Int→Option (LR (Unit) (Int×Int))
 |0,_=>none
 |m+1,x29=>
  if decide (x29<(l.length:Int)) then
   (bU l x29).bind fun x36=>
   (aAn N aC aA aB aE x29 x36.Out.Tx x36.Out.Index x36.Output.Value x36.Output.Script x36.Height x36.Coinbase bS).bind fun x39=>
   if x39 != 0 then
    some (.ret (0,x39))
   else
    (nX N aC aA aB aE l bS x17 m) (aXj.wrap (x29+1))
  else
   some (.brk ())
def aAE (N:Nat)(aC:Int)(aA:List aG)(aB:List aF)(aE:Int)(l:List bA)(bS:Int):Option (Int×Int):=
 (qU N aC aA aB aE).bind fun dA=>
 if dA then
  some (0,92)
 else
  (aDh N aC aA aB aE l).bind fun x17=>
  if x17.2 != 0 then
   some (0,x17.2)
  else
   (aAp N aC aA aB aE bS).bind fun x25=>
   if !x25 then
    some (0,85)
   else
    (nX N aC aA aB aE l bS x17 N 0).bind fun q=>match q with
     | .ret v=>some v
     | .brk p2=>
      aCI N x17
def mD (N:Nat)(x6:Bool):Option Bool:=
 some x6
def l8 (N:Nat)(aC:Int)(aA:List aG)(aB:List aF)(aE:Int)(l:List bA)(bS:Int)(bT:Bool):Option Bool:=
 if bT then
  some true
 else
  (aAh N aC aA aB aE l bS).bind fun x25=>
  (aAE N aC aA aB aE l bS).bind fun lB=>
  if x25.1 == lB.1 then
   mD N (x25.2 == lB.2)
  else
   mD N false
def pY (N:Nat)(aC:Int)(aA:List aG)(aB:List aF)(aE:Int)(l:List bA)(bS:Int):Option Bool:=
 (aDL N).bind fun b4=>
 if !b4 then
  some false
 else
  (aFu N aC aA aB aE).bind fun bQ=>
  if !bQ then
   l8 N aC aA aB aE l bS true
  else
   (aBI N l 70).bind fun x18=>
   l8 N aC aA aB aE l bS (!x18)
end Go.Proofs.YtbjiaghljpoliaaGreatDoor
namespace Go.Vm
open Go Go.ChangeShapes Go.WideShapes Go.ChangeAt Go.RowKit
section
variable {P:Program}{t e:TypeId}
theorem aI0 {α:Type}{w:World}{E:α→V}: ∀(l:List α)(vs:List Value),l.length=vs.length→(∀(i:Nat)(x:α)(v:Value),l[i]? =some x→vs[i]? =some v→VR xV [] w (E x) v)→VCells xV [] w (l.map E) vs
 | [],[],_,_=>sF
 | [],_::_,h,_=>by cases h
 |_::_,[],h,_=>by cases h
 |x::l,v::vs,h,k=>lW (k 0 x v rfl rfl) (aI0 l vs (by simpa using h) fun i x' v' h1 h2=>k (i+1) x' v' (by simpa using h1) (by simpa using h2))
theorem aNT {n:Nat}{k:IntKind}(ht:P.underlying t=some (.array n e))(he:P.underlying e=some (.int k))(h1:P.cellsOf e=1)(hn:P.cellsOf t=n):
  zZ P t (fun x:{l:List Int // l.length=n}=> ∀y∈x.1,(Lit.int k y).wf=true) (fun x=>x.1.map (eI k)):=by
 intro H enc w spare held fuel cs x h
 obtain⟨xs,m,_,_,hl,hxs,hf⟩:=DataW.trod_array ht h
 rw[hn]at hl
 have each: ∀i,i<n→ ∃a:Int,(Lit.int k a).wf=true∧ ∀v,cs[i]? =some v→VR xV [] w (eI k a) v:=by
  intro i hi
  have h2:=hf i hi
  rw[h1,aXP,aXA (by omega)]at h2
  obtain⟨a,hw,hc⟩:=qJ he h2
  refine⟨a,hw,fun v hv=> ?_⟩
  have e2:(cs.drop i).take 1=[v]:=by
   obtain⟨hic,rfl⟩:=aXz.1 hv
   rw[List.drop_eq_getElem_cons hic];rfl
  rw[e2]at hc
  exact aE5 hc
 obtain⟨l,hll,hr⟩:=aEZ n each
 refine⟨⟨l,hll⟩,fun y hy=> ?_,aI0 l cs (by omega) fun i x v h1 h2=>(hr i x h1).2 v h2⟩
 obtain⟨i,hi,rfl⟩:=List.mem_iff_getElem.1 hy
 exact(hr i _ (aXA hi)).1
theorem aQs {n:Nat}{k:IntKind}(ht:P.underlying t=some (.array n e))(he:P.underlying e=some (.int k))(h1:P.cellsOf e=1)(hn:P.cellsOf t=n):
  zZ P t (fun x:List Int=>x.length=n∧ ∀y∈x,(Lit.int k y).wf=true) (fun x=>x.map (eI k)):=by
 intro H enc w spare held fuel cs x h
 obtain⟨a,hq,hc⟩:=aNT ht he h1 hn h
 exact⟨a.1,⟨a.2,hq⟩,hc⟩
theorem aJp {w:World}: ∀{A B:List V}{us bs:List Value},VCells xV [] w A us→VCells xV [] w B bs→VCells xV [] w (A++B) (us++bs)
 | [],B,us,bs,h,k=>by
  unfold VCells at h
  subst h
  exact k
 |a::A,B,us,bs,h,k=>by
  unfold VCells at h
  obtain⟨v,rest,rfl,h1,h2⟩:=h
  exact lW h1 (aJp h2 k)
theorem jS {w:World}{A B:List V}{cs:List Value}{o n:Nat}(h:VCells xV [] w A ((cs.drop o).take n))(k:VCells xV [] w B (cs.drop (o+n))):VCells xV [] w (A++B) (cs.drop o):=by
 have e:cs.drop o=(cs.drop o).take n++cs.drop (o+n):=by rw[←List.drop_drop,List.take_append_drop]
 rw[e]
 exact aJp h k
theorem aCi {w:World}{cs:List Value}{n:Nat}(h:cs.length=n):VCells xV [] w [] (cs.drop n):=by
 rw[aXs (by omega)];exact sF
end
end Go.Vm
namespace Go.Proofs.YtbjiaghljpoliaaGreatDoor
open Go Go.Vm
open Go.ChangeShapes Go.WideShapes Go.ChangeAt Go.RowKit
def aCn (x:aV):Prop:=(x.Tx.length=32∧ ∀z0∈x.Tx,(Lit.int .u8 z0).wf=true)∧((Lit.int .u32 x.Index).wf=true)
set_option maxRecDepth 100000 in
theorem aDg :zZ Tryz.prog 30 aCn fU:=by
 intro H enc w spare held fuel cs x h
 obtain⟨xs,n,_,_,hl,hlen,hf⟩:=DataW.trod_struct Tryz.underlying30 h
 rw[show Tryz.prog.cellsOf 30=33 by kernel_rfl]at hl
 match xs,hlen,hf with
 | [y0,y1],_,hf=>
  have h0:DataW.trod enc Tryz.prog w 0 spare held n 28 ((cs.drop 0).take (Tryz.prog.cellsOf 28))=some y0:=hf 0 _ rfl
  obtain⟨a0,q0,c0⟩:=(aQs Tryz.underlying28 Tryz.underlying5 (by kernel_rfl) (by kernel_rfl)) h0
  rw[show Tryz.prog.cellsOf 28=32 by kernel_rfl]at c0
  have h1:DataW.trod enc Tryz.prog w 0 spare held n 22 ((cs.drop 32).take (Tryz.prog.cellsOf 22))=some y1:=hf 1 _ rfl
  obtain⟨a1,q1,c1⟩:=(qJ Tryz.underlying22) h1
  rw[show Tryz.prog.cellsOf 22=1 by kernel_rfl]at c1
  refine⟨⟨a0,a1⟩,⟨q0,q1⟩, ?_⟩
  have c:=(jS (o:=0) c0 (jS (o:=32) c1 (aCi hl)))
  simp only[fU,aMc q0.1]
  exact c
def aHY (x:aG):Prop:=(aCn x.Prev)∧((Lit.int .u32 x.Sequence).wf=true)∧(∀z0∈x.Witness,∀z1∈z0,(Lit.int .u8 z1).wf=true)
set_option maxRecDepth 100000 in
theorem aJB :zZ Tryz.prog 48 aHY dJ:=by
 intro H enc w spare held fuel cs x h
 obtain⟨xs,n,_,_,hl,hlen,hf⟩:=DataW.trod_struct Tryz.underlying48 h
 rw[show Tryz.prog.cellsOf 48=35 by kernel_rfl]at hl
 match xs,hlen,hf with
 | [y0,y1,y2],_,hf=>
  have h0:DataW.trod enc Tryz.prog w 0 spare held n 30 ((cs.drop 0).take (Tryz.prog.cellsOf 30))=some y0:=hf 0 _ rfl
  obtain⟨a0,q0,c0⟩:=aDg h0
  rw[show Tryz.prog.cellsOf 30=33 by kernel_rfl]at c0
  have h1:DataW.trod enc Tryz.prog w 0 spare held n 22 ((cs.drop 33).take (Tryz.prog.cellsOf 22))=some y1:=hf 1 _ rfl
  obtain⟨a1,q1,c1⟩:=(qJ Tryz.underlying22) h1
  rw[show Tryz.prog.cellsOf 22=1 by kernel_rfl]at c1
  have h2:DataW.trod enc Tryz.prog w 0 spare held n 46 ((cs.drop 34).take (Tryz.prog.cellsOf 46))=some y2:=hf 2 _ rfl
  obtain⟨a2,q2,c2⟩:=(v9 Tryz.underlying46 (v9 Tryz.underlying31 (qJ Tryz.underlying5) (by kernel_rfl) (by decide) (aIj (E:=(eI .u8)) fun _=>rfl)) (by kernel_rfl) (by decide) (aIj (E:=(eL 1 (eI .u8))) fun _=>rfl)) h2
  rw[show Tryz.prog.cellsOf 46=1 by kernel_rfl]at c2
  refine⟨⟨a0,a1,a2⟩,⟨q0,q1,q2⟩, ?_⟩
  have c:=(jS (o:=0) c0 (jS (o:=33) c1 (jS (o:=34) c2 (aCi hl))))
  exact c
def aD7 (x:aF):Prop:=((Lit.int .i64 x.Value).wf=true)∧(∀z0∈x.Script,(Lit.int .u8 z0).wf=true)
set_option maxRecDepth 100000 in
theorem aEB :zZ Tryz.prog 33 aD7 eX:=by
 intro H enc w spare held fuel cs x h
 obtain⟨xs,n,_,_,hl,hlen,hf⟩:=DataW.trod_struct Tryz.underlying33 h
 rw[show Tryz.prog.cellsOf 33=2 by kernel_rfl]at hl
 match xs,hlen,hf with
 | [y0,y1],_,hf=>
  have h0:DataW.trod enc Tryz.prog w 0 spare held n 2 ((cs.drop 0).take (Tryz.prog.cellsOf 2))=some y0:=hf 0 _ rfl
  obtain⟨a0,q0,c0⟩:=(qJ Tryz.underlying2) h0
  rw[show Tryz.prog.cellsOf 2=1 by kernel_rfl]at c0
  have h1:DataW.trod enc Tryz.prog w 0 spare held n 31 ((cs.drop 1).take (Tryz.prog.cellsOf 31))=some y1:=hf 1 _ rfl
  obtain⟨a1,q1,c1⟩:=(v9 Tryz.underlying31 (qJ Tryz.underlying5) (by kernel_rfl) (by decide) (aIj (E:=(eI .u8)) fun _=>rfl)) h1
  rw[show Tryz.prog.cellsOf 31=1 by kernel_rfl]at c1
  refine⟨⟨a0,a1⟩,⟨q0,q1⟩, ?_⟩
  have c:=(jS (o:=0) c0 (jS (o:=1) c1 (aCi hl)))
  exact c
structure aFE where
 Version:Int
 Inputs:List aG
 Outputs:List aF
 Lock:Int
abbrev aCt (x:aFE):List V:=[(eI .u32 x.Version),(.row none 35 (x.Inputs.map aL)),(.row none 2 (x.Outputs.map aM)),(eI .u32 x.Lock)]
@[simp] theorem aVa {f:Nat→Nat}(l:List aFE):V.rns f (l.flatMap aCt)=l.flatMap aCt:=iG (fun _=>rfl) l
@[simp] theorem aUM {f:Nat→Nat}(x:aFE):V.rns f (aCt x)=aCt x:=rfl
def aQ0 (x:aFE):Prop:=((Lit.int .u32 x.Version).wf=true)∧(∀z0∈x.Inputs,aHY z0)∧(∀z0∈x.Outputs,aD7 z0)∧((Lit.int .u32 x.Lock).wf=true)
set_option maxRecDepth 100000 in
theorem aM6 :zZ Tryz.prog 26 aQ0 aCt:=by
 intro H enc w spare held fuel cs x h
 obtain⟨xs,n,_,_,hl,hlen,hf⟩:=DataW.trod_struct Tryz.underlying26 h
 rw[show Tryz.prog.cellsOf 26=4 by kernel_rfl]at hl
 match xs,hlen,hf with
 | [y0,y1,y2,y3],_,hf=>
  have h0:DataW.trod enc Tryz.prog w 0 spare held n 22 ((cs.drop 0).take (Tryz.prog.cellsOf 22))=some y0:=hf 0 _ rfl
  obtain⟨a0,q0,c0⟩:=(qJ Tryz.underlying22) h0
  rw[show Tryz.prog.cellsOf 22=1 by kernel_rfl]at c0
  have h1:DataW.trod enc Tryz.prog w 0 spare held n 23 ((cs.drop 1).take (Tryz.prog.cellsOf 23))=some y1:=hf 1 _ rfl
  obtain⟨a1,q1,c1⟩:=(v9 Tryz.underlying23 aJB (by kernel_rfl) (by decide) (aIc (K:=35) (C:=dJ) (fun _=>rfl) (fun _=>rfl))) h1
  rw[show Tryz.prog.cellsOf 23=1 by kernel_rfl]at c1
  have h2:DataW.trod enc Tryz.prog w 0 spare held n 24 ((cs.drop 2).take (Tryz.prog.cellsOf 24))=some y2:=hf 2 _ rfl
  obtain⟨a2,q2,c2⟩:=(v9 Tryz.underlying24 aEB (by kernel_rfl) (by decide) (aIc (K:=2) (C:=eX) (fun _=>rfl) (fun _=>rfl))) h2
  rw[show Tryz.prog.cellsOf 24=1 by kernel_rfl]at c2
  have h3:DataW.trod enc Tryz.prog w 0 spare held n 22 ((cs.drop 3).take (Tryz.prog.cellsOf 22))=some y3:=hf 3 _ rfl
  obtain⟨a3,q3,c3⟩:=(qJ Tryz.underlying22) h3
  rw[show Tryz.prog.cellsOf 22=1 by kernel_rfl]at c3
  refine⟨⟨a0,a1,a2,a3⟩,⟨q0,q1,q2,q3⟩, ?_⟩
  have c:=(jS (o:=0) c0 (jS (o:=1) c1 (jS (o:=2) c2 (jS (o:=3) c3 (aCi hl)))))
  exact c
def aPd (x:bA):Prop:=(aCn x.Out)∧(aD7 x.Output)∧((Lit.int .i64 x.Height).wf=true)∧(True)
set_option maxRecDepth 100000 in
theorem aJ8 :zZ Tryz.prog 35 aPd gV:=by
 intro H enc w spare held fuel cs x h
 obtain⟨xs,n,_,_,hl,hlen,hf⟩:=DataW.trod_struct Tryz.underlying35 h
 rw[show Tryz.prog.cellsOf 35=37 by kernel_rfl]at hl
 match xs,hlen,hf with
 | [y0,y1,y2,y3],_,hf=>
  have h0:DataW.trod enc Tryz.prog w 0 spare held n 30 ((cs.drop 0).take (Tryz.prog.cellsOf 30))=some y0:=hf 0 _ rfl
  obtain⟨a0,q0,c0⟩:=aDg h0
  rw[show Tryz.prog.cellsOf 30=33 by kernel_rfl]at c0
  have h1:DataW.trod enc Tryz.prog w 0 spare held n 33 ((cs.drop 33).take (Tryz.prog.cellsOf 33))=some y1:=hf 1 _ rfl
  obtain⟨a1,q1,c1⟩:=aEB h1
  rw[show Tryz.prog.cellsOf 33=2 by kernel_rfl]at c1
  have h2:DataW.trod enc Tryz.prog w 0 spare held n 3 ((cs.drop 35).take (Tryz.prog.cellsOf 3))=some y2:=hf 2 _ rfl
  obtain⟨a2,q2,c2⟩:=(qJ Tryz.underlying3) h2
  rw[show Tryz.prog.cellsOf 3=1 by kernel_rfl]at c2
  have h3:DataW.trod enc Tryz.prog w 0 spare held n 4 ((cs.drop 36).take (Tryz.prog.cellsOf 4))=some y3:=hf 3 _ rfl
  obtain⟨a3,q3,c3⟩:=(aOI Tryz.underlying4) h3
  rw[show Tryz.prog.cellsOf 4=1 by kernel_rfl]at c3
  refine⟨⟨a0,a1,a2,a3⟩,⟨q0,q1,q2,q3⟩, ?_⟩
  have c:=(jS (o:=0) c0 (jS (o:=33) c1 (jS (o:=35) c2 (jS (o:=36) c3 (aCi hl)))))
  exact c
end Go.Proofs.YtbjiaghljpoliaaGreatDoor
