/- Texts of ours, joined: VmCut, VmQ, VmX, VmY, VmZ, Sh, OpenArr, OpenS, Plain1, Plain2, PlainX1. -/
import Derived.Test.YtbjiaghljpoliaaGreatDoorQSpendInputs2
import Derived.Scope
import Derived.OpenShut
open Go.IntKind renaming i64 → aVO,u32 → aVQ,u64 → aVR,u8 → aVV,bits → aV7,max → aWj
open List renaming replicate → aVP,drop_eq_nil_of_le → aVW,append_assoc → aVX,drop_eq_getElem_cons → aVZ,nil_append → aV0,length_append → aV2,map_cons → aV6,getElem?_eq_some_iff → aV8,getElem?_eq_getElem → aV9,map_take → aWa,length_take → aWb,drop_append → aWd,take_of_length_le → aWe,length_map → aWf,getElem?_set_ne → aWg,drop_zero → aWh,map_congr_left → aWi,flatMap_cons → aWm,range → aWn,take_append → aWp,all_eq_true → aWq,length_set → aWs,range_succ → aWt
open Int renaming toNat → aVS,tdiv → aV3,tmod → aV4
open Nat renaming le_of_ble_eq_true → aVT,ble → aV1,beq → aWl,zero_add → aWo,mul_one → aWr
open Option renaming bind_some → aVU
open Option.some renaming injEq → aVY,inj → aV5
open Bool renaming and_eq_true → aWc,false_eq_true → aWk
set_option linter.unusedSimpArgs false
set_option linter.unusedVariables false
namespace Go.Vm
open Go
def vM {α:Type}(l:List α)(a c:Int):Option (List α):=if 0≤a∧a<c∧c≤l.length then some ((l.take c.toNat).drop a.toNat)else none
theorem aCp {α:Type}{l x:List α}{a c:Int}(h:vM l a c=some x):0≤a∧a<c∧c≤l.length∧x=(l.take c.toNat).drop a.toNat∧x.length=c.toNat-a.toNat:=by
 unfold vM at h
 split at h
 ·rename_i hc
  injection h with h
  refine⟨hc.1,hc.2.1,hc.2.2,h.symm, ?_⟩
  rw[←h,List.length_drop,aWb];omega
 cases h
theorem aPD {α:Type}{l x:List α}{a c j:Int}{y:α}(h:vM l a c=some x)(hx:bY x j=some y):l[a.toNat+j.toNat]? =some y:=by
 obtain⟨_,_,_,e,_⟩:=aCp h
 obtain⟨_,_,h3⟩:=k8 hx
 rw[e,List.getElem?_drop,List.getElem?_take]at h3
 split at h3
 ·exact h3
 cases h3
section
variable {P:Program}{h h':Hp}{t e:TypeId}{ti:TI}{α:Type}{E:α→V}{l x m:List α}{sz by_ b:Nat}{z:Value}{ag:Bool}{lo hi:Option V}{a c j:Int}{y:α}{k:IntKind}{N n i q K:Nat}
theorem aTk (hq:l.length=q)(ht:aU P t=some ⟨.slice e,sz,by_,z⟩)(he:aU P e=some ti)(hK:ti.size=K)(h1:pM lo=some a)(h2:yA hi q=some c)(hs:vM l a c=some x):lE P t h (.sl b 0 q K ag) lo hi=some (.sl b (a.toNat*K) x.length K ag):=by
 subst hK hq
 obtain⟨s1,s2,s3,s4,s5⟩:=aCp hs
 simp only[lE,ht,he,h1,h2]
 rw[if_pos ⟨trivial,s1,by omega,s3⟩,s5]
 by_cases h0:a=0
 ·subst h0;simp
 rw[if_neg h0,if_pos s2,aWo]
theorem aIE (hq:l.length=q)(ht:aU P t=some ⟨.slice e,sz,by_,z⟩)(he:aU P e=some ti)(hK:ti.size=K)(h1:pM lo=some 0)(h2:yA hi q=some c)(hs:sub l 0 c=some x):lE P t h (.sl b 0 q K ag) lo hi=some (.sl b 0 x.length K ag):=by
 subst hK hq
 unfold sub at hs
 split at hs
 ·rename_i hc
  injection hs with hs
  have hl:x.length=c.toNat:=by rw[←hs];simp;omega
  simp only[lE,ht,he,h1,h2]
  rw[if_pos ⟨trivial,by omega,hc.2.1,hc.2.2⟩,if_pos trivial,hl]
 cases hs
theorem aLM (ht:aU P t=some ⟨.array N e,sz,by_,z⟩)(he:aU P e=some ti)(hsz:ti.size=1)(hag:cI ti.desc=ag)(hb:h[b]? =some (some ⟨i,l.map E⟩))(hl:l.length=N)(hN:N≤oU)(h1:pM lo=some a)(h2:yA hi N=some c)(hs:vM l a c=some x):lE P t h (.ptr b 0) lo hi=some (.sl b (a.toNat*1) x.length 1 ag):=by
 subst hag
 obtain⟨s1,s2,s3,s4,s5⟩:=aCp hs
 simp only[lE,ht,he,h1,h2,hb]
 rw[if_pos ⟨by omega,hN,s1,s2,by omega,by simp[hsz,hl]⟩,hsz,s5,aWo]
theorem iaY (hq:x.length=q)(ht:aU P t=some ⟨.slice e,sz,by_,z⟩)(he:aU P e=some ti)(hK:ti.size=1)(hx:bY x j=some y):jR P t (.sl b (a.toNat*1) q 1 ag) (.sc (.int k j))=some (.ptr b (a.toNat+j.toNat)):=by
 obtain⟨h2,h3,_⟩:=k8 hx
 subst hq
 simp[jR,ht,rN,he,hK,h2,h3]
theorem ldY (ht:aU P t=some ti)(hd:cI ti.desc=false)(hb:h[b]? =some (some ⟨i,l.map E⟩))(hs:vM l a c=some x)(hx:bY x j=some y):fY P t h (.ptr b (a.toNat+j.toNat))=some (E y):=by
 have h3:=aPD hs hx
 simp[fY,hb,jF,ht,hd,h3]
theorem apS (ht:aU P t=some ⟨.array N e,sz,by_,z⟩)(hN:0<N)(hq:x.length=q)(hx:sY N x=some m):aCM P t (.sl b n q 1 ag)=some (.ptr b n):=by
 unfold sY at hx
 split at hx
 ·rename_i hl
  simp only[aCM,ht]
  rw[if_pos ⟨hN,by omega⟩]
 cases hx
theorem aNQ (ht:aU P t=some ⟨.array N e,sz,by_,z⟩)(hsz:sz=N)(hb:h[b]? =some (some ⟨i,l.map E⟩))(hs:vM l a c=some x)(hx:sY N x=some m):fY P t h (.ptr b (a.toNat*1))=some (.agg (m.map E)):=by
 subst hsz
 obtain⟨s1,s2,s3,s4,s5⟩:=aCp hs
 unfold sY at hx
 split at hx
 ·rename_i hl
  injection hx with hx
  simp only[fY,hb,jF,ht,cI,if_true,aWr]
  have hlen:sz≤((l.map E).drop a.toNat).length:=by simp;omega
  rw[if_pos hlen]
  congr 2
  rw[←hx,s4,aWa,List.map_drop,aWa,List.drop_take,List.take_take,Nat.min_eq_left (by omega)]
 cases hx
theorem aTG (hb:h[b]? =some (some ⟨i,l.map E⟩))(hE: ∀x,(E x).one=true)(hs:vM l a c=some x):iV h 1 (.sl b (a.toNat*1) x.length 1 ag)=some (x.map E,x.length):=by
 obtain⟨s1,s2,s3,s4,s5⟩:=aCp hs
 simp only[iV,hb,aWr]
 rw[if_pos (by simp;omega)]
 simp only[aVY,Prod.mk.injEq,and_true]
 rw[s5,s4,List.map_drop,aWa,List.drop_take]
end
theorem Ghost.cut {N n:Nat}{fr:List (Nat×V)}{h:Hp}{b e t q K k:Nat}{ag:Bool}{cs:List V}(hl:bZ n fr (.tmp t)=some (.sl b 0 q K ag))(hb:h[b]? =some (some ⟨e,cs⟩)):Ghost N (aI n fr) h (aI n fr) (h.set b (some ⟨e,cs.take k⟩)):=by
 intro A M a w hN R
 have hbl:b<h.length:=(aV8.1 hb).1
 have hget: ∀{j:Nat}{B:Blk},(h.set b (some ⟨e,cs.take k⟩))[j]? =some (some B)→(j=b∧B=⟨e,cs.take k⟩)∨(h[j]? =some (some B)∧j≠b):=by
  intro j B hj
  by_cases hij:b=j
  ·subst hij
   rw[List.getElem?_set_self hbl]at hj
   exact .inl ⟨rfl,(aV5 (aV5 hj)).symm⟩
  rw[aWg hij]at hj
  exact .inr ⟨hj,fun hh=>hij hh.symm⟩
 have hlive: ∀g,eM M (h.set b (some ⟨e,cs.take k⟩)) g→eM M h g:=by
  rintro g ⟨j,B,hj,hm⟩
  rcases hget hj with⟨rfl,_⟩|⟨h1,_⟩
  ·exact⟨j,_,hb,hm⟩
  exact⟨j,B,h1,hm⟩
 have hX: ∀g,Xs A M (h.set b (some ⟨e,cs.take k⟩)) g→Xs A M h g:=fun g hx=>hx.elim .inl (fun hl=> .inr (hlive g hl))
 refine⟨M,rfl,⟨⟨by rw[R.hr.len,aWs],R.hr.alt, ?_, ?_,R.hr.glob.avoid fun g _ hx=>hX g hx⟩,⟨R.sr.len,fun t x hx=>(R.sr.val t x hx).avoid (fun g _ hx=>hX g hx)⟩,R.defers⟩,hlive⟩
 ·intro j B hj
  rcases hget hj with⟨rfl,rfl⟩|⟨h1,hne⟩
  ·obtain⟨hone,hcase⟩:=R.hr.blk j _ hb
   refine⟨fun c hc=>hone c (List.mem_of_mem_take hc), ?_⟩
   rcases hcase with⟨hn,hc0⟩|⟨g,ds,hg,hA,hw,hle,hcs⟩
   ·simp only at hc0
    subst hc0
    exact .inl ⟨hn,by simp⟩
   refine .inr ⟨g,ds,hg,hA, ?_,by simp only[aWb]at hle ⊢; omega, ?_⟩
   ·rcases hw with hw|⟨es,clock,hm,hok,heq⟩
    ·exact .inl hw
    exfalso
    have hev:=dH hl
    simp only[ev]at hev
    have hv:=R.sr.val t (.sl j 0 q K ag) hev
    unfold VR at hv
    rcases hv with⟨hm0,_⟩|⟨g',cap,e',sz,hm',_,_,_,_,hshp,_⟩
    ·rw[hg]at hm0;cases hm0
    rw[hg]at hm'
    obtain rfl:=aV5 (aV5 hm')
    unfold World.shape? at hshp
    rw[hm]at hshp
    cases hshp
   have:=hcs.take k
   rw[List.take_take]at this
   simp only[aWb]
   exact this.avoid (fun g _ hx=>hX g hx)
  obtain⟨hone,hcase⟩:=R.hr.blk j B h1
  refine⟨hone, ?_⟩
  rcases hcase with hn|⟨g,ds,hg,hA,hw,hle,hcs⟩
  ·exact .inl hn
  exact .inr ⟨g,ds,hg,hA,hw,hle,hcs.avoid (fun g _ hx=>hX g hx)⟩
 intro i j B C g hi hj mi mj
 have f: ∀{j:Nat}{B:Blk},(h.set b (some ⟨e,cs.take k⟩))[j]? =some (some B)→ ∃B0,h[j]? =some (some B0):=by
  intro j B hj
  rcases hget hj with⟨e1,_⟩|⟨e1,_⟩
  ·exact⟨_,by rw[e1];exact hb⟩
  exact⟨_,e1⟩
 obtain⟨B1,h1⟩:=f hi
 obtain⟨C1,k1⟩:=f hj
 exact R.hr.inj i j B1 C1 g h1 k1 mi mj
section
variable {N n b e t q K:Nat}{fr:List (Nat×V)}{h h':Hp}{ag:Bool}{α:Type}{E:α→V}{C:α→List V}{l x:List α}{c:Int}
theorem aT0 {α:Type}{l:List α}:sub l 0 0=some []:=by
 unfold sub
 rw[if_pos ⟨Int.le_refl _,Int.le_refl _,by omega⟩]
 rfl
theorem Ghost.cutM (hl:bZ n fr (.tmp t)=some (.sl b 0 q 1 ag))(hb:h[b]? =some (some ⟨e,l.map E⟩))(hs:sub l 0 c=some x)(hh:h.set b (some ⟨e,x.map E⟩)=h'):Ghost N (aI n fr) h (aI n fr) h':=by
 subst hh
 unfold sub at hs
 split at hs
 ·injection hs with hs
  have:x.map E=(l.map E).take c.toNat:=by rw[←hs,←aWa];simp
  rw[this]
  exact Ghost.cut hl hb
 cases hs
theorem Ghost.cutF (hC: ∀x,(C x).length=K)(hl:bZ n fr (.tmp t)=some (.sl b 0 q K ag))(hb:h[b]? =some (some ⟨e,l.flatMap C⟩))(hs:sub l 0 c=some x)(hh:h.set b (some ⟨e,x.flatMap C⟩)=h'):Ghost N (aI n fr) h (aI n fr) h':=by
 subst hh
 unfold sub at hs
 split at hs
 ·injection hs with hs
  have:x.flatMap C=(l.flatMap C).take (c.toNat*K):=by rw[←hs];simp only[Int.toNat_zero,aWh];exact(aJQ hC _ _).symm
  rw[this]
  exact Ghost.cut hl hb
 cases hs
end
abbrev CA4 (E:Int→V)(x:List Int):List V:=dK E x []
abbrev aFl (E:Int→V)(x:List Int):List V:=bG E x []
@[simp] theorem tT {f:Nat→Nat}{k:IntKind}(l:List (List Int)):V.rns f (l.flatMap (CA4 (eI k)))=l.flatMap (CA4 (eI k)):=iE (fun _=>rfl) l
@[simp] theorem qY {f:Nat→Nat}{k:IntKind}(l:List (List Int)):V.rns f (l.flatMap (aFl (eI k)))=l.flatMap (aFl (eI k)):=iE (fun _=>rfl) l
theorem aP8 {k:IntKind}(l:List Int):V.softA (.agg (l.map (eI k)))= .agg (l.map (eI k)):=by
 simp only[V.softA,List.map_map]
 rfl
theorem aT3 {P:Program}{t:TypeId}{n:Nat}{ps ps':List (Nat×V)}{h:Hp}{r:V×Hp}(e:ps=ps')(hb:kQ P t n ps' h=some r):kQ P t n ps h=some r:=by rw[e];exact hb
theorem Conv.rowKA {C:List Int→List V}{E:Int→V}{K:Nat}{l:List (List Int)}(hC: ∀x,(C x).length=K)(h1K: ∀x,(C x).all V.one=true)(hsh: ∀x,(C x).all V.shut=true)(hcx: ∀x∈l,C x=x.map E){h h':Hp}(hs:Sub h h'){b n:Nat}{e:TypeId}(hb:h[b]? =some (some ⟨e,l.flatMap C⟩))(hb':h'[b]? =some none)(hn:n=l.length):Conv h h' (.sl b 0 n K true) (.row none K (l.map (eA E))):=by
 have:=Conv.rowK hC h1K hsh hs hb hb' hn
 rwa[show(l.map fun x=>V.agg (C x))=l.map (eA E)from aWi fun x hx=>by rw[hcx x hx]]at this
theorem AB.scope {P:Program}{N:Nat}{Q:Ex→List V→Hp→Prop}{s:List V}{h:Hp}{c:Code}(hh:AB P N c Q s h):AB P N (.scope c) Q s h:=by
 intro A M0 M h0 w0 a w hN hM G R
 refine wp_scope_straight (Code.wp_mono (fun e a' w' ⟨x,s1,h1,M1,he,hq,G1,R1⟩=> ?_) (hh A M0 M h0 w0 a w hN hM G R))
 subst he
 cases x with
 |normal=>exact⟨.normal,s1,h1,M1,rfl,hq,G1,R1⟩
 |exit i=>exact⟨.exit i,s1,h1,M1,rfl,hq,G1,R1⟩
 |ret=>exact⟨.ret,s1,h1,M1,rfl,hq,G1,R1⟩
theorem AB.label {P:Program}{N:Nat}{Q:Ex→List V→Hp→Prop}{s:List V}{h:Hp}{l:Nat}(hq:Q .normal s h):AB P N (.label l) Q s h:=by
 intro A M0 M h0 w0 a w hN hM G R
 exact wp_label ⟨.normal,s,h,M,rfl,hq,G,R⟩
def s8 (x y c:Int):Option (Int×Int):=if c.toNat≤1 then some ((((x.toNat+y.toNat+c.toNat)%18446744073709551616:Nat):Int),(((x.toNat+y.toNat+c.toNat)/18446744073709551616:Nat):Int))else none
def aFj (x y c:Int):Option (Int×Int):=if c.toNat≤1 then some ((((x.toNat+18446744073709551616-y.toNat-c.toNat)%18446744073709551616:Nat):Int),((if x.toNat<y.toNat+c.toNat then 1 else 0:Nat):Int))else none
def aSP :Array Value→Sem Value:=(Extern.MathBitsCarry.rows.get ⟨0,by decide⟩).2
def aTc :Array Value→Sem Value:=(Extern.MathBitsCarry.rows.get ⟨1,by decide⟩).2
theorem aPY {P:Program} {f:FuncId} {fn:Func} (hf:P.funcs[f]? =some fn) (hn:(fn.name == "runtime.NumGoroutine")=false) (hb:fn.body.isNone=true) (h1:Extern.findNext fn=none) (h2:Extern.find fn=some aSP) {x y c:Int} {r:Int×Int} (hr:s8 x y c=some r):Fn P f [] [eI .u64 x,eI .u64 y,eI .u64 c] (.tup [eI .u64 r.1,eI .u64 r.2]) []:=by
 unfold s8 at hr
 split at hr
 ·rename_i hc
  injection hr with hr
  subst hr
  refine aOT hf hn hb h1 h2 fun X M w vs hv=> ?_
  unfold VCells at hv
  obtain⟨v,rest,rfl,hv,hr⟩:=hv
  unfold VCells at hr
  obtain⟨u,rest,rfl,hu,hr⟩:=hr
  unfold VCells at hr
  obtain⟨z,rest,rfl,hz,hr⟩:=hr
  unfold VCells at hr
  subst hr
  unfold VR at hv hu hz
  subst hv hu hz
  have hgt: ¬c.toNat>1:=by omega
  refine⟨.tuple #[.int .u64 (((x.toNat+y.toNat+c.toNat)%18446744073709551616:Nat):Int),.int .u64 (((x.toNat+y.toNat+c.toNat)/18446744073709551616:Nat):Int)], ?_, ?_⟩
  ·match c,hgt with
   | .ofNat 0,_=>rfl
   | .ofNat 1,_=>rfl
   | .ofNat (k+2),hgt=>exact absurd (show(Int.ofNat (k+2)).toNat>1 by simp;omega) hgt
   | .negSucc k,_=>rfl
  unfold VR
  exact⟨_,rfl,by unfold VCells;exact⟨_,_,rfl,by unfold VR;rfl,by unfold VCells;exact⟨_,_,rfl,by unfold VR;rfl,by unfold VCells;rfl⟩⟩⟩
 cases hr
theorem aQD {P:Program} {f:FuncId} {fn:Func} (hf:P.funcs[f]? =some fn) (hn:(fn.name == "runtime.NumGoroutine")=false) (hb:fn.body.isNone=true) (h1:Extern.findNext fn=none) (h2:Extern.find fn=some aTc) {x y c:Int} {r:Int×Int} (hr:aFj x y c=some r):Fn P f [] [eI .u64 x,eI .u64 y,eI .u64 c] (.tup [eI .u64 r.1,eI .u64 r.2]) []:=by
 unfold aFj at hr
 split at hr
 ·rename_i hc
  injection hr with hr
  subst hr
  refine aOT hf hn hb h1 h2 fun X M w vs hv=> ?_
  unfold VCells at hv
  obtain⟨v,rest,rfl,hv,hr⟩:=hv
  unfold VCells at hr
  obtain⟨u,rest,rfl,hu,hr⟩:=hr
  unfold VCells at hr
  obtain⟨z,rest,rfl,hz,hr⟩:=hr
  unfold VCells at hr
  subst hr
  unfold VR at hv hu hz
  subst hv hu hz
  have hgt: ¬c.toNat>1:=by omega
  refine⟨.tuple #[.int .u64 (((x.toNat+18446744073709551616-y.toNat-c.toNat)%18446744073709551616:Nat):Int),.int .u64 ((if x.toNat<y.toNat+c.toNat then 1 else 0:Nat):Int)], ?_, ?_⟩
  ·match c,hgt with
   | .ofNat 0,_=>rfl
   | .ofNat 1,_=>rfl
   | .ofNat (k+2),hgt=>exact absurd (show(Int.ofNat (k+2)).toNat>1 by simp;omega) hgt
   | .negSucc k,_=>rfl
  unfold VR
  exact⟨_,rfl,by unfold VCells;exact⟨_,_,rfl,by unfold VR;rfl,by unfold VCells;exact⟨_,_,rfl,by unfold VR;rfl,by unfold VCells;rfl⟩⟩⟩
 cases hr
theorem sj {α:Type}{a b:α}(h:some a=some b):a=b:=aV5 h
section
variable {P:Program}{ops:Array Oper}{l:List Oper}{n N:Nat}{fr:List (Nat×V)}{h h' h1:Hp}{K:List V→Hp→Prop}{op:Op}{ty:TypeId}{pos:String}{aft:Array Edge}{t:Nat}{v c d:V}{x y z:Operand}{Q:Ex→List V→Hp→Prop}{ty' u:TypeId}
variable {j w:Nat}{want b:Bool}
theorem zg (hc:b=want)(hd:bW P O0 ⟨some t,op,ty,pos,aft,some (j,want)⟩ (aI n fr) h=some (v,h'))(q:OpsW P N ops l (aI n ((t,v)::fr)) h' K) (hj:(ops[j]?).bind (·.dst)=some w:=by rfl) (hl:bZ n fr (.tmp w)=some (.sc (.bool b)):=by rfl):OpsW P N ops (⟨some t,op,ty,pos,aft,some (j,want)⟩::l) (aI n fr) h K:=wS (svG hj hl hc hd) q
theorem zk {co:Operand}{X Y:Code}{α:Type}{A B:Option α}{r:α}(hr:(if b=true then A else B)=some r)(hc:bZ n fr co=some (.sc (.bool b)))(g1:b=true→A=some r→AB P N X Q (aI n fr) h)(g2:b=false→B=some r→AB P N Y Q (aI n fr) h):AB P N (.cond co X Y) Q (aI n fr) h:=AB.cnd hc (fun e=>g1 e (dD hr e)) (fun e=>g2 e (dA hr e))
theorem zf {f:FuncId} {fn:Func} {co:Code} {args:List V} {r:V} (hf:P.funcs[f]? =some fn) (hnt:fn.ntmps=n) (hh:AB P N co (aDq P fn N r h') (aI n fr) h) (hb:fn.body=some co:=by rfl) (hn:(fn.name == "runtime.NumGoroutine")=false:=by kernel_rfl) (hal:args.length≤n:=by exact zl) (hN:h.length=N:=by rfl) (hfr:num 0 args=fr:=by(simp only[num,Nat.reduceAdd,Nat.zero_add]<;>rfl)):Fn P f h args r h':=aUf hf hb hn hnt hal hN hfr hh
variable {F G:FuncId→Bool}{m:Nat}{listed:Array Bool}{s:List V}{o:Oper}{s1:List V}
end
section
variable {P:Program}{fn:Func}{n N:Nat}{fr:List (Nat×V)}{h h':Hp}{r a b c:V}{t u w:Nat}
theorem bI (hr:fn.results= #[.tmp t])(σ:List Nat) (hx:bZ n fr (.tmp t)=some a:=by rfl) (hf:FLe noN (V.rn (sg σ h.length)) [(0,a)] [(0,r)]:=by repeat (first|exact FLe.nil|refine FLe.same rfl ?_|refine FLe.le rfl V.le_nil ?_|refine FLe.le rfl V.le_row ?_|refine FLe.le rfl (V.le_arr (fun _=>rfl)) ?_)) (hh:HLe (sg σ h.length) h σ h':=by repeat (first|exact HLe.nil|refine HLe.dead ?_|refine HLe.live rfl V.les_nil rfl ?_|refine HLe.live rfl (aEv (fun _=>rfl) _) (all_map (fun _=>rfl) _) ?_|refine HLe.live rfl (aDp (fun _=>rfl) _) (q7 (fun _=>rfl) _) ?_|refine HLe.live rfl (V.les_refl _ _) rfl ?_)) (hσ:σ.take N=List.range N:=by rfl) (hlt:σ.all (fun b=>Nat.blt b h.length)=true:=by rfl) (hnd:ndB (lvs σ h')=true:=by rfl):aDq P fn N r h' .ret (aI n fr) h:=aBH (aSK hr (rvT hx)) (Ghost.rn σ hσ hlt hf hh hnd)
theorem sZ (hr:fn.results= #[.tmp t,.tmp u])(σ:List Nat) (hx:bZ n fr (.tmp t)=some a:=by rfl) (hy:bZ n fr (.tmp u)=some b:=by rfl) (hf:FLe noN (V.rn (sg σ h.length)) [(0,(.tup [a,b]))] [(0,r)]:=by repeat (first|exact FLe.nil|refine FLe.same rfl ?_|refine FLe.le rfl V.le_nil ?_|refine FLe.le rfl V.le_row ?_|refine FLe.le rfl (V.le_arr (fun _=>rfl)) ?_)) (hh:HLe (sg σ h.length) h σ h':=by repeat (first|exact HLe.nil|refine HLe.dead ?_|refine HLe.live rfl V.les_nil rfl ?_|refine HLe.live rfl (aEv (fun _=>rfl) _) (all_map (fun _=>rfl) _) ?_|refine HLe.live rfl (aDp (fun _=>rfl) _) (q7 (fun _=>rfl) _) ?_|refine HLe.live rfl (V.les_refl _ _) rfl ?_)) (hσ:σ.take N=List.range N:=by rfl) (hlt:σ.all (fun b=>Nat.blt b h.length)=true:=by rfl) (hnd:ndB (lvs σ h')=true:=by rfl):aDq P fn N r h' .ret (aI n fr) h:=aBH (bQ hr (rvT hx) (rvT hy)) (Ghost.rn σ hσ hlt hf hh hnd)
theorem zd3 (hr:fn.results= #[.tmp t,.tmp u,.tmp w])(σ:List Nat) (hx:bZ n fr (.tmp t)=some a:=by rfl) (hy:bZ n fr (.tmp u)=some b:=by rfl) (hz:bZ n fr (.tmp w)=some c:=by rfl) (hf:FLe noN (V.rn (sg σ h.length)) [(0,(.tup [a,b,c]))] [(0,r)]:=by repeat (first|exact FLe.nil|refine FLe.same rfl ?_|refine FLe.le rfl V.le_nil ?_|refine FLe.le rfl V.le_row ?_|refine FLe.le rfl (V.le_arr (fun _=>rfl)) ?_)) (hh:HLe (sg σ h.length) h σ h':=by repeat (first|exact HLe.nil|refine HLe.dead ?_|refine HLe.live rfl V.les_nil rfl ?_|refine HLe.live rfl (aEv (fun _=>rfl) _) (all_map (fun _=>rfl) _) ?_|refine HLe.live rfl (aDp (fun _=>rfl) _) (q7 (fun _=>rfl) _) ?_|refine HLe.live rfl (V.les_refl _ _) rfl ?_)) (hσ:σ.take N=List.range N:=by rfl) (hlt:σ.all (fun b=>Nat.blt b h.length)=true:=by rfl) (hnd:ndB (lvs σ h')=true:=by rfl):aDq P fn N r h' .ret (aI n fr) h:=aBH (vK hr (rvT hx) (rvT hy) (rvT hz)) (Ghost.rn σ hσ hlt hf hh hnd)
end
def OpsG (P:Program)(F G:FuncId→Bool)(ops:Array Oper):List Oper→List V→Hp→(List V→Hp→Prop)→Prop
 | [],s,h,K=>K s h
 |o::l,s,h,K=> ∃s1 h1,StepR P F G ops o s h s1 h1∧OpsG P F G ops l s1 h1 K
def OpsX (P:Program)(N:Nat)(m:Option (List Nat×List Nat))(ops:Array Oper)(l:List Oper)(s:List V)(h:Hp)(K:List V→Hp→Prop):Prop:=
 match m with
 |none=>OpsW P N ops l s h K
 |some (F,G)=>OpsG P (fQ F) (fQ G) ops l s h K
def aH4 (l:List Oper):List Nat→List Oper
 | []=>[]
 |i::s=>match l[i]? with
  |some o=>o::aH4 l s
  |none=>[]
def aGs (F G:FuncId→Bool)(ops:Array Oper):List Nat→Array Bool→Bool
 | [],_=>true
 |i::s,L=>aJn F G ops L i&&(ops.toList[i]?).isSome&&aGs F G ops s (L.setIfInBounds i true)
def aEN :List Nat→Array Bool→Array Bool
 | [],L=>L
 |i::s,L=>aEN s (L.setIfInBounds i true)
theorem aD6 {P:Program}{N:Nat}{F G:FuncId→Bool}{ops:Array Oper}{K:List V→Hp→Prop}{m:Nat}: ∀(sc:List Nat)(L:Array Bool)(s:List V)(h:Hp),aGs F G ops sc L=true→
  OpsG P F G ops (aH4 ops.toList sc) s h (fun s h=>DrawG P N F G ops m (aEN sc L) s h K)→DrawG P N F G ops (m+sc.length) L s h K
 | [],L,s,h,_,hk=>hk
 |i::sc,L,s,h,hb,hk=>by
  simp only[aGs,aWc]at hb
  obtain⟨⟨h1,h2⟩,h3⟩:=hb
  obtain⟨o,ho⟩:=Option.isSome_iff_exists.1 h2
  simp only[aH4,ho]at hk
  obtain⟨s1,g1,e,hk⟩:=hk
  refine DrawG.pick h1 (o:=o) (by simpa using ho) e ?_
  exact aD6 sc _ s1 g1 h3 hk
def aGp (F G:FuncId→Bool)(ops:Array Oper):List (List Nat)→Array Bool→Bool
 | [],L=>(aDS ops.size L).isEmpty
 | [a],L=>aGs F G ops a L&&(aDS ops.size (aEN a L)).isEmpty
 |a::b::ss,L=>aGs F G ops a L&&aLR ops (aEN a L)&& !b.isEmpty&&aGp F G ops (b::ss) (aEN a L)
def aPj (P:Program)(N:Nat)(F G:List Nat)(ops:Array Oper):List (List Nat)→List V→Hp→(List V→Hp→Prop)→Prop
 | [],s,h,K=>K s h
 | [a],s,h,K=>OpsX P N (some (F,G)) ops (aH4 ops.toList a) s h K
 |a::b::ss,s,h,K=>OpsX P N (some (F,G)) ops (aH4 ops.toList a) s h (fun s h=> ∃s' h',Ghost N s h s' h'∧aPj P N F G ops (b::ss) s' h' K)
theorem OpsG.mono {P:Program}{F G:FuncId→Bool}{ops:Array Oper}{K K':List V→Hp→Prop}: ∀{l:List Oper}{s:List V}{h:Hp},OpsG P F G ops l s h K→(∀s h,K s h→K' s h)→OpsG P F G ops l s h K'
 | [],_,_,hk,hm=>hm _ _ hk
 |_::_,_,_,⟨s1,h1,e,hk⟩,hm=>⟨s1,h1,e,hk.mono hm⟩
theorem aF8 {P:Program}{N:Nat}{F G:List Nat}{ops:Array Oper}{K:List V→Hp→Prop}: ∀(ss:List (List Nat))(L:Array Bool)(s:List V)(h:Hp),aGp (fQ F) (fQ G) ops ss L=true→
  aPj P N F G ops ss s h K→DrawG P N (fQ F) (fQ G) ops (ss.map List.length).sum L s h K
 | [],L,s,h,hb,hk=>DrawG.nil (List.isEmpty_iff.1 hb) hk
 | [a],L,s,h,hb,hk=>by
  simp only[aGp,Bool.and_eq_true]at hb
  have:=aD6 (N:=N) (m:=0) a L s h hb.1 (OpsG.mono (K':=fun s h=>DrawG P N (fQ F) (fQ G) ops 0 (aEN a L) s h K) hk fun s h hk=>DrawG.nil (List.isEmpty_iff.1 hb.2) hk)
  simpa using this
 |a::b::ss,L,s,h,hb,hk=>by
  simp only[aGp,Bool.and_eq_true]at hb
  obtain⟨⟨⟨h1,h2⟩,h3⟩,h4⟩:=hb
  have:=aD6 (N:=N) (m:=((b::ss).map List.length).sum) a L s h h1 (OpsG.mono (K':=fun s h=>DrawG P N (fQ F) (fQ G) ops ((b::ss).map List.length).sum (aEN a L) s h K) hk fun s h ⟨s',h',hg,hk⟩=>by
   have hd:=aF8 (b::ss) _ s' h' h4 hk
   obtain⟨x,xs,rfl⟩: ∃x xs,b=x::xs:=by
    cases b with
    |nil=>cases h3
    |cons x xs=>exact⟨x,xs,rfl⟩
   simp only[List.map_cons,List.length_cons,List.sum_cons,Nat.add_right_comm _ 1]at hd⊢
   exact DrawG.gh h2 hg hd)
  simpa[Nat.add_comm]using this
theorem AB.rs {P:Program}{N:Nat}{Q:Ex→List V→Hp→Prop}{s:List V}{h:Hp}(hm:P.follows .mixedOrders=true)(F G:List Nat)(ss:List (List Nat)){id:Nat}{l:List Oper}(hr:aPj P N F G l.toArray ss s h (Q .normal))
  (hb:(aGp (fQ F) (fQ G) l.toArray ss (Array.replicate l.toArray.size false)&&(ss.map List.length).sum == l.toArray.size)=true:=by decide +kernel):AB P N (.region id l.toArray true) Q s h:=by
 simp only[Bool.and_eq_true,beq_iff_eq]at hb
 refine AB.rd (fQ F) (fQ G) hm ?_
 have:=aF8 ss _ s h hb.1 hr
 rw[hb.2]at this
 exact this
section
variable {P:Program}{N n t:Nat}{m:Option (List Nat×List Nat)}{ops:Array Oper}{l:List Oper}{fr:List (Nat×V)}{h h':Hp}{K:List V→Hp→Prop}{op:Op}{ty:TypeId}{pos:String}{aft:Array Edge}{gd:Option (Nat×Bool)}{v a b:V}{x y z:Operand}{Q:Ex→List V→Hp→Prop}{s:List V}
theorem OpsX.nil (hk:K s h):OpsX P N m ops [] s h K:=by
 cases m with
 |none=>exact OpsW.nil hk
 |some p=>exact hk
theorem xS0 (hs:dE P O0 ops ⟨some t,op,ty,pos,aft,gd⟩ (aI n fr) h=some (v,h'))(k:OpsX P N m ops l (aI n ((t,v)::fr)) h' K):OpsX P N m ops (⟨some t,op,ty,pos,aft,gd⟩::l) (aI n fr) h K:=by
 cases m with
 |none=>exact wS hs k
 |some p=>exact⟨_,_,gS hs,k⟩
theorem xN0 (hs:dE P O0 ops ⟨none,op,ty,pos,aft,gd⟩ (aI n fr) h=some (v,h'))(k:OpsX P N m ops l (aI n fr) h' K):OpsX P N m ops (⟨none,op,ty,pos,aft,gd⟩::l) (aI n fr) h K:=by
 cases m with
 |none=>exact wN hs k
 |some p=>exact⟨_,_,gN hs,k⟩
theorem xq {c:Code}{id:Nat}(hr:OpsX P N none l.toArray l s h (Ex.then (AB P N c Q) Q .normal)):AB P N (.seq (.region id l.toArray false) c) Q s h:=AB.seq (AB.rw hr)
theorem xr {id:Nat}(hr:OpsX P N none l.toArray l s h (Q .normal)):AB P N (.region id l.toArray false) Q s h:=AB.rw hr
def Gd (ops:Array Oper)(n:Nat)(fr:List (Nat×V)):Option (Nat×Bool)→Prop
 |none=>True
 |some (j,w)=> ∃u,(ops[j]?).bind (·.dst)=some u∧ ∃c,bZ n fr (.tmp u)=some (.sc (.bool c))∧c=w
theorem Gd.step {dd:Option Tmp}{r:V×Hp}(hg:Gd ops n fr gd)(hd:bW P O0 ⟨dd,op,ty,pos,aft,gd⟩ (aI n fr) h=some r):dE P O0 ops ⟨dd,op,ty,pos,aft,gd⟩ (aI n fr) h=some r:=by
 obtain⟨v,h1⟩:=r
 cases gd with
 |none=>exact sv hd
 |some p=>
  obtain⟨j,w⟩:=p
  obtain⟨u,hu,c,hc,he⟩:=hg
  exact svG hu hc he hd
theorem xS (hd:bW P O0 ⟨some t,op,ty,pos,aft,gd⟩ (aI n fr) h=some (v,h'))(k:OpsX P N m ops l (aI n ((t,v)::fr)) h' K) (hg:Gd ops n fr gd:=by first|exact True.intro|exact⟨_,rfl,_,rfl,by assumption⟩):OpsX P N m ops (⟨some t,op,ty,pos,aft,gd⟩::l) (aI n fr) h K:=xS0 (hg.step hd) k
theorem xN (hd:bW P O0 ⟨none,op,ty,pos,aft,gd⟩ (aI n fr) h=some (v,h'))(k:OpsX P N m ops l (aI n fr) h' K) (hg:Gd ops n fr gd:=by first|exact True.intro|exact⟨_,rfl,_,rfl,by assumption⟩):OpsX P N m ops (⟨none,op,ty,pos,aft,gd⟩::l) (aI n fr) h K:=xN0 (hg.step hd) k
theorem xw (hd:bW P O0 ⟨some t,op,ty,pos,aft,none⟩ (aI n fr) h=some (v,h'))(k:OpsX P N m ops l (aI n ((t,v)::fr)) h' K):OpsX P N m ops (⟨some t,op,ty,pos,aft,none⟩::l) (aI n fr) h K:=xS0 (sv hd) k
theorem xy (hd:bW P O0 ⟨none,op,ty,pos,aft,none⟩ (aI n fr) h=some (v,h'))(k:OpsX P N m ops l (aI n fr) h' K):OpsX P N m ops (⟨none,op,ty,pos,aft,none⟩::l) (aI n fr) h K:=xN0 (sv hd) k
theorem xC {f:FuncId}{ts:Array TypeId}{ws:List Operand}{xs:List V}(hx:tH n fr ws=some xs)(hc:Fn P f h xs v h')(k:OpsX P N none ops l (aI n ((t,v)::fr)) h' K):OpsX P N none ops (⟨some t,.call ⟨.value (.func f),ws.toArray,ts⟩,ty,pos,aft,none⟩::l) (aI n fr) h K:=wC hx hc k
theorem xCg {f:FuncId}{ts:Array TypeId}{ws:List Operand}{xs:List V}{jj ww:Nat}{want cc:Bool}(hj:(ops[jj]?).bind (·.dst)=some ww)(hl:bZ n fr (.tmp ww)=some (.sc (.bool cc)))(hb:cc=want)(hx:tH n fr ws=some xs)(hc:Fn P f h xs v h')(k:OpsX P N none ops l (aI n ((t,v)::fr)) h' K):OpsX P N none ops (⟨some t,.call ⟨.value (.func f),ws.toArray,ts⟩,ty,pos,aft,some (jj,want)⟩::l) (aI n fr) h K:=wCG hj hl hb hx hc k
theorem xG {f:FuncId}{F G:List Nat}{ts:Array TypeId}{ws:List Operand}{xs:List V}(hx:tH n fr ws=some xs)(hc:Fn P f h xs v h')(k:OpsX P N (some (F,G)) ops l (aI n ((t,v)::fr)) h' K) (hF:fQ F f=false:=by rfl) (hG:fQ G f=true→ ∃news,h'=h++news:=by first|exact(fun _=>⟨_,rfl⟩)|exact(fun _=>⟨[],(List.append_nil _).symm⟩)|exact(fun h=>absurd h (by decide))) (hg:Gd ops n fr gd:=by first|exact True.intro|exact⟨_,rfl,_,rfl,by assumption⟩):OpsX P N (some (F,G)) ops (⟨some t,.call ⟨.value (.func f),ws.toArray,ts⟩,ty,pos,aft,gd⟩::l) (aI n fr) h K:=by
 refine⟨_,_,gC hc hF hG ?_,k⟩
 cases gd with
 |none=>exact sv (lS hx o7)
 |some p=>
  obtain⟨j,w⟩:=p
  obtain⟨u,hu,c,hb,he⟩:=hg
  exact svG hu hb he (lS hx o7)
theorem xU {f:FuncId}{F G:List Nat}{ts:Array TypeId}{ws:List Operand}{xs:List V}(hx:tH n fr ws=some xs)(hc: ∀h,Fn P f h xs v h)(k:OpsX P N (some (F,G)) ops l (aI n ((t,v)::fr)) h K) (hG:fQ G f=false:=by rfl) (hg:Gd ops n fr gd:=by first|exact True.intro|exact⟨_,rfl,_,rfl,by assumption⟩):OpsX P N (some (F,G)) ops (⟨some t,.call ⟨.value (.func f),ws.toArray,ts⟩,ty,pos,aft,gd⟩::l) (aI n fr) h K:=by
 refine⟨_,_,gU hc hG ?_,k⟩
 cases gd with
 |none=>exact sv (lS hx xO)
 |some p=>
  obtain⟨j,w⟩:=p
  obtain⟨u,hu,c,hb,he⟩:=hg
  exact svG hu hb he (lS hx xO)
variable {j w:Nat}{want c:Bool}
theorem xX (hc:c= !want)(k:OpsX P N m ops l (aI n ((t,.sc undef)::fr)) h K) (hj:(ops[j]?).bind (·.dst)=some w:=by rfl) (hl:bZ n fr (.tmp w)=some (.sc (.bool c)):=by rfl):OpsX P N m ops (⟨some t,op,ty,pos,aft,some (j,want)⟩::l) (aI n fr) h K:=xS0 (svX hj hl hc) k
theorem xSg (hj:(ops[j]?).bind (·.dst)=some w)(hl:bZ n fr (.tmp w)=some (.sc (.bool c)))(hc:c=want)(hd:bW P O0 ⟨some t,op,ty,pos,aft,some (j,want)⟩ (aI n fr) h=some (v,h'))(k:OpsX P N m ops l (aI n ((t,v)::fr)) h' K):OpsX P N m ops (⟨some t,op,ty,pos,aft,some (j,want)⟩::l) (aI n fr) h K:=xS0 (svG hj hl hc hd) k
theorem OpsX.ghost {s':List V}(hg:Ghost N s h s' h')(k:OpsX P N none ops l s' h' K):OpsX P N none ops l s h K:=OpsW.ghost hg k
end
theorem gD {p:Prop} (h:p:=by first|exact True.intro|exact⟨_,rfl,_,rfl,by assumption⟩):p:=h
inductive LSet {α:Type}:List α→Nat→α→List α→Prop
 |z {a b:α} {l:List α}:LSet (a::l) 0 b (b::l)
 |s {a b:α} {l l':List α} {i:Nat}:LSet l i b l'→LSet (a::l) (i+1) b (a::l')
theorem LSet.eq {α:Type}{l l':List α}{i:Nat}{b:α}(h:LSet l i b l'):l.set i b=l':=by
 induction h with
 |z=>rfl
 |s _ ih=>rw[List.set_cons_succ,ih]
inductive Snoc {α:Type}:List α→α→List α→Prop
 |n {b:α}:Snoc [] b [b]
 |c {a b:α} {l l':List α}:Snoc l b l'→Snoc (a::l) b (a::l')
theorem Snoc.eq {α:Type}{l l':List α}{b:α}(h:Snoc l b l'):l++[b]=l':=by
 induction h with
 |n=>rfl
 |c _ ih=>rw[List.cons_append,ih]
inductive IsA :(List V→List V)→Nat→Prop
 |c {a:V}:IsA (List.cons a) 1
 |a4 {k:IntKind} {q:List Int}:IsA (dK (eI k) q) 4
 |a8 {k:IntKind} {q:List Int}:IsA (ar8 (eI k) q) 8
 |a20 {k:IntKind} {q:List Int}:IsA (aHl (eI k) q) 20
 |a32 {k:IntKind} {q:List Int}:IsA (bG (eI k) q) 32
 |a64 {k:IntKind} {q:List Int}:IsA (aHx (eI k) q) 64
theorem IsA.eq {A:List V→List V}{n:Nat}(h:IsA A n): ∃p:List V,p.length=n∧ ∀r,A r=p++r:=by
 cases h with
 |c=>exact⟨[_],rfl,fun _=>rfl⟩
 |a4=>exact⟨dK _ _ [],rfl,fun _=>rfl⟩
 |a8=>exact⟨ar8 _ _ [],rfl,fun _=>rfl⟩
 |a20=>exact⟨aHl _ _ [],rfl,fun _=>rfl⟩
 |a32=>exact⟨bG _ _ [],rfl,fun _=>rfl⟩
 |a64=>exact⟨aHx _ _ [],rfl,fun _=>rfl⟩
inductive Spl :List V→Nat→List V→List V→Prop
 |w {l r:List V}:r.length=l.length→Spl l 0 r r
 |d {l:List V}:Spl l 0 [] l
 |p {A B:List V→List V} {n:Nat} {l r l':List V}:IsA A n→IsA B n→Spl l 0 r l'→Spl (A l) 0 (B r) (B l')
 |s {A:List V→List V} {n:Nat} {l r l':List V} {o o':Nat}:IsA A n→o'=o+n→Spl l o r l'→Spl (A l) o' r (A l')
theorem Spl.eq {l r l':List V}{o:Nat}(h:Spl l o r l'):splice l o r=l':=by
 induction h with
 |w h=>simp[splice,h]
 |d=>simp[splice]
 |p hA hB _ ih=>
  obtain⟨p,hp,e⟩:=hA.eq
  obtain⟨q,hq,e'⟩:=hB.eq
  simp only[splice,List.take_zero,aV0,aWo]at ih⊢
  rw[e,e',e',←ih,aV2,hq,←hp,aWd,aVW (by omega),aV0,Nat.add_sub_cancel_left,aVX]
 | @s A n l r l' o o' hA he _ ih=>
  subst he
  obtain⟨p,hp,e⟩:=hA.eq
  simp only[splice]at ih⊢
  have h1:(p++l).take (o+n)=p++l.take o:=by rw[aWp,aWe (by omega),show o+n-p.length=o by omega]
  have h2:(p++l).drop (o+n+r.length)=l.drop (o+r.length):=by rw[aWd,aVW (by omega),aV0,show o+n+r.length-p.length=o+r.length by omega]
  rw[e,e,h1,h2,←ih,aVX,aVX,aVX]
inductive Tak :List V→Nat→Nat→List V→Prop
 |w {l:List V} {k:Nat}:l.length=k→Tak l 0 k l
 |d {l:List V}:Tak l 0 0 []
 |t {A:List V→List V} {n:Nat} {l r:List V} {k k':Nat}:IsA A n→k'=k+n→Tak l 0 k r→Tak (A l) 0 k' (A r)
 |s {A:List V→List V} {n:Nat} {l r:List V} {o o' k:Nat}:IsA A n→o'=o+n→Tak l o k r→Tak (A l) o' k r
theorem Tak.eq {l r:List V}{o k:Nat}(h:Tak l o k r):(l.drop o).take k=r∧k≤(l.drop o).length:=by
 induction h with
 |w h=>subst h;exact⟨by simp,by simp⟩
 |d=>exact⟨rfl,Nat.zero_le _⟩
 |t hA he _ ih=>
  subst he
  obtain⟨p,hp,e⟩:=hA.eq
  simp only[aWh]at ih⊢
  rw[e,e,aWp,aWe (by omega),hp,Nat.add_sub_cancel,ih.1,aV2,hp]
  exact⟨rfl,by omega⟩
 | @s A n l r o o' k hA he _ ih=>
  subst he
  obtain⟨p,hp,e⟩:=hA.eq
  have h1:(p++l).drop (o+n)=l.drop o:=by rw[aWd,aVW (by omega),aV0,show o+n-p.length=o by omega]
  rw[e,h1]
  exact ih
inductive OfC :Value→V→Prop
 |i {k:IntKind} {x:Int}:OfC (.int k x) (eI k x)
 |b {x:Bool}:OfC (.bool x) (eB x)
 |s {x:ByteArray}:OfC (.string x) (eS x)
 |l:OfC (.slice none 0 0) (.row (some true) 1 [])
 |p:OfC (.pointer none) (.sc (.pointer none))
theorem OfC.eq {v:Value}{a:V}(h:OfC v a):fB v=a:=by cases h<;>rfl
theorem OfC.eq' {v:Value}{a:V}(h:OfC v a):ofValue v=a:=by cases h<;>rfl
theorem OfC.one {v:Value}{a:V}(h:OfC v a):a.one=true∧v.cells= #[v]:=by cases h<;>exact⟨rfl,rfl⟩
inductive OfCs :List Value→List V→Prop
 |n:OfCs [] []
 |c {v:Value} {a:V} {vs:List Value} {as_:List V}:OfC v a→OfCs vs as_→OfCs (v::vs) (a::as_)
theorem OfCs.eq {vs:List Value}{as_:List V}(h:OfCs vs as_):vs.map fB=as_:=by
 induction h with
 |n=>rfl
 |c h _ ih=>rw[aV6,h.eq,ih]
theorem OfCs.one {vs:List Value}{as_:List V}(h:OfCs vs as_):as_.all V.one=true:=by
 induction h with
 |n=>rfl
 |c h _ ih=>rw[List.all_cons,h.one.1,ih];rfl
inductive Zro :Value→List V→Prop
 |a {vs:List Value} {cs:List V}:OfCs vs cs→Zro (.agg vs.toArray) cs
 |o {v:Value} {a:V}:OfC v a→Zro v [a]
theorem Zro.eq {v:Value}{cs:List V}(h:Zro v cs):v.cells.toList.map fB=cs∧cs.all V.one=true:=by
 cases h with
 |a h=>exact⟨h.eq,h.one⟩
 |o h=>rw[h.one.2];exact⟨by simp[h.eq],by simp[h.one.1]⟩
inductive Cel :V→List V→Prop
 |a {cs:List V}:cs.all V.one=true→Cel (.agg cs) cs
 |o {x:V}:x.one=true→x.cells=[x]→Cel x [x]
 |m {α:Type} {E:α→V} {q:List α}:(∀x,(E x).one=true)→Cel (.agg (q.map E)) (q.map E)
theorem Cel.eq {x:V}{cs:List V}(h:Cel x cs):x.cells=cs∧x.flatOk=true:=by
 cases h with
 |a h=>exact⟨rfl,h⟩
 |o h1 h2=>exact⟨h2,by simp[V.flatOk,h2,h1]⟩
 |m h=>exact⟨rfl,aUn h⟩
inductive Fil (pl:Array (Nat×Nat)):List V→List (Nat×V)→List V→Prop
 |n {cs:List V}:Fil pl cs [] cs
 |c {cs ds es fs:List V} {i o k:Nat} {x:V} {ps:List (Nat×V)}:pl[i]? =some (o,k)→Cel x ds→ds.length=k→aV1 (o+k) cs.length=true→Spl cs o ds es→Fil pl es ps fs→Fil pl cs ((i,x)::ps) fs
theorem Fil.eq {pl:Array (Nat×Nat)}{cs fs:List V}{ps:List (Nat×V)}(h:Fil pl cs ps fs):rE (fun i=>pl[i]?) cs ps=some fs:=by
 induction h with
 |n=>rfl
 |c h1 h2 h3 h4 h5 _ ih=>
  simp only[rE,h1]
  rw[if_pos ⟨h2.eq.2,by rw[h2.eq.1,h3],aVT h4⟩,h2.eq.1,h5.eq,ih]
class TiC (P:Program) (t:TypeId) (d:outParam TI):Prop where
 h:aU P t=some d
class FaC (P:Program) (t:TypeId) (f:Nat) (k:outParam Nat):Prop where
 p: ∀b off,aR P t (.ptr b off) f=some (.ptr b (off+k))
 e: ∀es i off,aR P t (.eptr es i off) f=some (.eptr es i (off+k))
class NoA (P:Program) (t:TypeId):Prop where
 h:True
class PlC (P:Program) (t:TypeId) (pl:outParam (Array (Nat×Nat))):Prop where
 h:k5 P t=some pl
def aPz (op:BinOp)(k:IntKind)(a b:Int):Option V:=match op with
 | .add=>some (eI k (k.wrap (a+b)))
 | .sub=>some (eI k (k.wrap (a-b)))
 | .mul=>some (eI k (k.wrap (a*b)))
 | .and=>some (eI k (bits .and k a b))
 | .or=>some (eI k (bits .or k a b))
 | .xor=>some (eI k (bits .xor k a b))
 | .eql=>some (eB (a == b))
 | .neq=>some (eB (a != b))
 | .lss=>some (eB (decide (a<b)))
 | .leq=>some (eB (decide (a≤b)))
 | .gtr=>some (eB (decide (b<a)))
 | .geq=>some (eB (decide (b≤a)))
 |_=>none
theorem aRR {P:Program}{op:BinOp}{t:TypeId}{x y:Operand}{k:IntKind}{a b:Int}{v:V}(h:aPz op k a b=some v):eT P op t x y (eI k a) (eI k b)=some v:=by
 cases op<;>simp only[aPz,aVY,reduceCtorEq]at h<;>subst h
 ·exact aRl ..
 ·exact aRD ..
 ·exact aRo ..
 ·exact aRe ..
 ·exact aTn ..
 ·exact aSd ..
 ·exact aR7 ..
 ·exact aM0 ..
 ·exact aRz ..
 ·exact aRS ..
 ·exact aRj ..
 exact aSf ..
section
variable {P:Program}{N n t:Nat}{m:Option (List Nat×List Nat)}{ops:Array Oper}{l:List Oper}{fr:List (Nat×V)}{h h':Hp}{K:List V→Hp→Prop}{op:Op}{ty:TypeId}{pos:String}{aft:Array Edge}{gd:Option (Nat×Bool)}{v a b:V}{x y z:Operand}{Q:Ex→List V→Hp→Prop}{s:List V}{k:IntKind}{i j:Int}{o e:Nat}{cs ds:List V}{ti di:TI}{u w:TypeId}{bo:BinOp}{p q:Nat}{c:Bool}
theorem xm (hx:bZ n fr x=some a)(hg:Gd ops n fr gd)(q:OpsX P N m ops l (aI n ((t,a)::fr)) h K):OpsX P N m ops (⟨some t,.move x,ty,pos,aft,gd⟩::l) (aI n fr) h K:=xS (mI hx) q hg
theorem xa (hx:bZ n fr x=some a)(hg:Gd ops n fr gd)(q:OpsX P N m ops l (aI n ((t,a)::fr)) h K):OpsX P N m ops (⟨some t,.assign x,ty,pos,aft,gd⟩::l) (aI n fr) h K:=xS (pA hx) q hg
theorem xmc {v:Value}(hv:OfC v a)(hg:Gd ops n fr gd)(q:OpsX P N m ops l (aI n ((t,a)::fr)) h K):OpsX P N m ops (⟨some t,.move (.const v),ty,pos,aft,gd⟩::l) (aI n fr) h K:=xm (by rw[←hv.eq'];rfl) hg q
theorem xac {v:Value}(hv:OfC v a)(hg:Gd ops n fr gd)(q:OpsX P N m ops l (aI n ((t,a)::fr)) h K):OpsX P N m ops (⟨some t,.assign (.const v),ty,pos,aft,gd⟩::l) (aI n fr) h K:=xa (by rw[←hv.eq'];rfl) hg q
theorem xb (hx:bZ n fr x=some (eI k i))(hy:bZ n fr y=some (eI k j))(hv:aPz bo k i j=some v)(hg:Gd ops n fr gd)(q:OpsX P N m ops l (aI n ((t,v)::fr)) h K):OpsX P N m ops (⟨some t,.binOp bo u x y w,ty,pos,aft,gd⟩::l) (aI n fr) h K:=xS (v5 hx hy (aRR hv)) q hg
theorem xno (hx:bZ n fr x=some (eB c))(hg:Gd ops n fr gd)(q:OpsX P N m ops l (aI n ((t,eB (!c))::fr)) h K):OpsX P N m ops (⟨some t,.unOp .not u x,ty,pos,aft,gd⟩::l) (aI n fr) h K:=xS (aLO hx (aTL _ _)) q hg
theorem xci {sz by_:Nat}{zz:Value}{k':IntKind} [D:TiC P u di] [T:TiC P w ⟨.int k',sz,by_,zz⟩] (hx:bZ n fr x=some (eI k i)) (hg:Gd ops n fr gd) (q:OpsX P N m ops l (aI n ((t,eI k' (k'.wrap i))::fr)) h K):OpsX P N m ops (⟨some t,.convert u w x,ty,pos,aft,gd⟩::l) (aI n fr) h K:=xS (jQ hx (iH _ ⟨_,D.h⟩ T.h rfl)) q hg
theorem xlR {α:Type}{E:α→V}{nl:Option Bool}{ml:List α}{sz by_:Nat}{zz:Value} [T:TiC P u ⟨.slice e,sz,by_,zz⟩] (hx:bZ n fr x=some (.row nl o (ml.map E))) (hg:Gd ops n fr gd) (q:OpsX P N m ops l (aI n ((t,eI .i64 (ml.length:Int))::fr)) h K):OpsX P N m ops (⟨some t,.call ⟨.builtin .len,#[x],#[u]⟩,ty,pos,aft,gd⟩::l) (aI n fr) h K:=xS (aQX hx (aUC T.h)) q hg
theorem xlS {sz by_:Nat}{zz:Value}{ag:Bool} [T:TiC P u ⟨.slice e,sz,by_,zz⟩] (hx:bZ n fr x=some (.sl o p q w ag)) (hg:Gd ops n fr gd) (kk:OpsX P N m ops l (aI n ((t,eI .i64 (q:Int))::fr)) h K):OpsX P N m ops (⟨some t,.call ⟨.builtin .len,#[x],#[u]⟩,ty,pos,aft,gd⟩::l) (aI n fr) h K:=xS (aQX hx (aUG T.h)) kk hg
theorem xe {vs:List V}(hx:bZ n fr x=some (.tup vs))(hv:vs[o]? =some v)(hg:Gd ops n fr gd)(q:OpsX P N m ops l (aI n ((t,v)::fr)) h K):OpsX P N m ops (⟨some t,.extract x o,ty,pos,aft,gd⟩::l) (aI n fr) h K:=xS (aGH hx hv) q hg
theorem xfp {f kk r:Nat} [F:FaC P u f kk] (hx:bZ n fr x=some (.ptr o p)) (hr:p+kk=r) (hg:Gd ops n fr gd) (q:OpsX P N m ops l (aI n ((t,.ptr o r)::fr)) h K):OpsX P N m ops (⟨some t,.fieldAddr u x f,ty,pos,aft,gd⟩::l) (aI n fr) h K:=xS (nL hx (hr▸F.p _ _)) q hg
theorem xfe {f kk r ix:Nat} [F:FaC P u f kk] (hx:bZ n fr x=some (.eptr cs ix p)) (hr:p+kk=r) (hg:Gd ops n fr gd) (q:OpsX P N m ops l (aI n ((t,.eptr cs ix r)::fr)) h K):OpsX P N m ops (⟨some t,.fieldAddr u x f,ty,pos,aft,gd⟩::l) (aI n fr) h K:=xS (nL hx (hr▸F.e _ _ _)) q hg
theorem xnp (hx:bZ n fr x=some (.ptr o p))(hg:Gd ops n fr gd)(q:OpsX P N m ops l (aI n ((t,.ptr o p)::fr)) h K):OpsX P N m ops (⟨some t,.nilCheck x,ty,pos,aft,gd⟩::l) (aI n fr) h K:=xS (aTp hx) q hg
theorem xl1 [T:TiC P u ti] (hx:bZ n fr x=some (.ptr o p)) (hb:h[o]? =some (some ⟨e,cs⟩)) (hc:(cs.drop p).head? =some v) (hd:cI ti.desc=false) (hg:Gd ops n fr gd) (q:OpsX P N m ops l (aI n ((t,v)::fr)) h K):OpsX P N m ops (⟨some t,.load u x,ty,pos,aft,gd⟩::l) (aI n fr) h K:=xS (cA hx (ldP hb (pH T.h hd hc))) q hg
theorem xlN {fs:Array Field}{sz by_:Nat}{zz:Value} [T:TiC P u ⟨.struct fs,sz,by_,zz⟩] (hx:bZ n fr x=some (.ptr o p)) (hb:h[o]? =some (some ⟨e,cs⟩)) (hc:Tak cs p sz ds) (hg:Gd ops n fr gd) (q:OpsX P N m ops l (aI n ((t,.agg ds)::fr)) h K):OpsX P N m ops (⟨some t,.load u x,ty,pos,aft,gd⟩::l) (aI n fr) h K:=xS (cA hx (ldP hb (aCJ T.h rfl hc.eq.2 hc.eq.1))) q hg
theorem xlX {α:Type}{E:α→V}{ml:List α}{r:α} [T:TiC P u ti] (hx:bZ n fr x=some (.ptr o j.toNat)) (hb:h[o]? =some (some ⟨e,ml.map E⟩)) (hd:cI ti.desc=false) (hi:bY ml j=some r) (hg:Gd ops n fr gd) (q:OpsX P N m ops l (aI n ((t,E r)::fr)) h K):OpsX P N m ops (⟨some t,.load u x,ty,pos,aft,gd⟩::l) (aI n fr) h K:=xS (cA hx (ldX T.h hd hb hi)) q hg
theorem aVI {α:Type}{E:α→V}{ml:List α}{r:α} [T:TiC P u ti] (hx:bZ n fr x=some (.eptr (ml.map E) j.toNat p)) (hd:cI ti.desc=false) (hi:bY ml j=some r) (hc:((E r).cells.drop p).head? =some v) (hg:Gd ops n fr gd) (q:OpsX P N m ops l (aI n ((t,v)::fr)) h K):OpsX P N m ops (⟨some t,.load u x,ty,pos,aft,gd⟩::l) (aI n fr) h K:=xS (cA hx (ldR hi (pH T.h hd hc))) q hg
theorem aU3 {α:Type}{E:α→V}{ml:List α}{r:α}{fs:Array Field}{sz by_:Nat}{zz:Value} [T:TiC P u ⟨.struct fs,sz,by_,zz⟩] (hx:bZ n fr x=some (.eptr (ml.map E) j.toNat p)) (hi:bY ml j=some r) (hE:E r= .agg cs) (hc:Tak cs p sz ds) (hg:Gd ops n fr gd) (q:OpsX P N m ops l (aI n ((t,.agg ds)::fr)) h K):OpsX P N m ops (⟨some t,.load u x,ty,pos,aft,gd⟩::l) (aI n fr) h K:=xS (cA hx (ldR hi (by rw[hE];exact aCJ T.h rfl hc.eq.2 hc.eq.1))) q hg
inductive ArM :List V→List V→Prop
 |a4 {k:IntKind} {q:List Int}:q.length=4→ArM (dK (eI k) q []) (q.map (eI k))
 |a8 {k:IntKind} {q:List Int}:q.length=8→ArM (ar8 (eI k) q []) (q.map (eI k))
 |a20 {k:IntKind} {q:List Int}:q.length=20→ArM (aHl (eI k) q []) (q.map (eI k))
 |a32 {k:IntKind} {q:List Int}:q.length=32→ArM (bG (eI k) q []) (q.map (eI k))
 |a64 {k:IntKind} {q:List Int}:q.length=64→ArM (aHx (eI k) q []) (q.map (eI k))
theorem ArM.eq {a b:List V}(h:ArM a b):a=b:=by
 cases h with
 |a4 h=>exact aEo h
 |a8 h=>exact aRP h
 |a20 h=>exact aPJ h
 |a32 h=>exact uB h
 |a64 h=>exact aP7 h
theorem xlA {es:List V}{N' sz by_:Nat}{zz:Value} [T:TiC P u ⟨.array N' w,sz,by_,zz⟩] (hx:bZ n fr x=some (.ptr o p)) (hb:h[o]? =some (some ⟨e,cs⟩)) (hc:Tak cs p sz ds) (ha:ArM ds es) (hg:Gd ops n fr gd) (q:OpsX P N m ops l (aI n ((t,.agg es)::fr)) h K):OpsX P N m ops (⟨some t,.load u x,ty,pos,aft,gd⟩::l) (aI n fr) h K:=xS (cA hx (ldP hb (by rw[←ha.eq];exact aCJ T.h rfl hc.eq.2 hc.eq.1))) q hg
theorem xlB {α:Type}{E:α→V}{ml:List α}{N' sz by_:Nat}{zz:Value} [T:TiC P u ⟨.array N' w,sz,by_,zz⟩] (hx:bZ n fr x=some (.ptr o 0)) (hb:h[o]? =some (some ⟨e,ml.map E⟩)) (hz:sz=N') (hl:ml.length=N') (hg:Gd ops n fr gd) (q:OpsX P N m ops l (aI n ((t,.agg (ml.map E))::fr)) h K):OpsX P N m ops (⟨some t,.load u x,ty,pos,aft,gd⟩::l) (aI n fr) h K:=xS (cA hx (ldA T.h hz hb hl)) q hg
theorem xiR {α:Type}{E:α→V}{nl:Option Bool}{ml:List α}{r:α}{sz by_:Nat}{zz:Value} [T:TiC P u ⟨.slice e,sz,by_,zz⟩] [D:TiC P e di] (hx:bZ n fr x=some (.row nl o (ml.map E))) (hy:bZ n fr y=some (eI k j)) (hs:di.size=o) (hi:bY ml j=some r) (hg:Gd ops n fr gd) (q:OpsX P N m ops l (aI n ((t,.eptr (ml.map E) j.toNat 0)::fr)) h K):OpsX P N m ops (⟨some t,.indexAddr u x y,ty,pos,aft,gd⟩::l) (aI n fr) h K:=xS (aCF hx hy (by subst hs;exact iaR T.h D.h hi)) q hg
theorem xiS {α:Type}{E:α→V}{ml:List α}{r:α}{q0 sz by_:Nat}{zz:Value}{ag:Bool} [T:TiC P u ⟨.slice e,sz,by_,zz⟩] [D:TiC P e di] (hx:bZ n fr x=some (.sl o 0 q0 1 ag)) (hy:bZ n fr y=some (eI k j)) {e':Nat} (hb:h[o]? =some (some ⟨e',ml.map E⟩)) (hi:bY ml j=some r) (hn:ml.length=q0) (hs:di.size=1) (hg:Gd ops n fr gd) (q:OpsX P N m ops l (aI n ((t,.ptr o j.toNat)::fr)) h K):OpsX P N m ops (⟨some t,.indexAddr u x y,ty,pos,aft,gd⟩::l) (aI n fr) h K:=xS (aCF hx hy (iaS hn T.h D.h hs hi)) q hg
theorem xiB {α:Type}{E:α→V}{ml:List α}{r:α}{N' sz by_:Nat}{zz:Value} [T:TiC P u ⟨.array N' e,sz,by_,zz⟩] [D:TiC P e di] (hx:bZ n fr x=some (.ptr o 0)) (hy:bZ n fr y=some (eI k j)) {e':Nat} (hb:h[o]? =some (some ⟨e',ml.map E⟩)) (hi:bV N' ml j=some r) (hs:di.size=1) (hg:Gd ops n fr gd) (q:OpsX P N m ops l (aI n ((t,.ptr o j.toNat)::fr)) h K):OpsX P N m ops (⟨some t,.indexAddr u x y,ty,pos,aft,gd⟩::l) (aI n fr) h K:=xS (aCF hx hy (iaB T.h D.h hs hi)) q hg
theorem xVv {jj ww:Nat}{want:Bool}(hj:(ops[jj]?).bind (·.dst)=some ww)(hl:bZ n fr (.tmp ww)=some (.sc undef))(q:OpsX P N m ops l (aI n ((t,.sc undef)::fr)) h K):OpsX P N m ops (⟨some t,op,ty,pos,aft,some (jj,want)⟩::l) (aI n fr) h K:=xS0 (svU hj hl) q
theorem xXx {jj ww:Nat}{want:Bool}(hj:(ops[jj]?).bind (·.dst)=some ww)(hl:bZ n fr (.tmp ww)=some (.sc (.bool c)))(hc:c= !want)(q:OpsX P N m ops l (aI n ((t,.sc undef)::fr)) h K):OpsX P N m ops (⟨some t,op,ty,pos,aft,some (jj,want)⟩::l) (aI n fr) h K:=xS0 (svX hj hl hc) q
def aPE :List Oper→Bool
 | []=>true
 |o::l=>(match o.guard,o.op with
  |none,.pick _ _ _=>false
  |none,_=>true
  |some _,_=>false)&&aPE l
theorem xqn {cc:Code}{id:Nat}(hn:aPE l=true)(hr:OpsX P N none l.toArray l s h (Ex.then (AB P N cc Q) Q .normal)):AB P N (.seq (.region id l.toArray false) cc) Q s h:=xq hr
theorem xrn {id:Nat}(hn:aPE l=true)(hr:OpsX P N none l.toArray l s h (Q .normal)):AB P N (.region id l.toArray false) Q s h:=xr hr
theorem xsA {α:Type}{E:α→V}{ml mm:List α}{N' sz by_ i':Nat}{zz:Value} [T:TiC P u ⟨.array N' e,sz,by_,zz⟩] (hx:bZ n fr x=some (.ptr o 0)) (hb:h[o]? =some (some ⟨i',ml.map E⟩)) (hy:bZ n fr y=some (.agg (mm.map E))) (hz:sz=N') (hE: ∀x,(E x).one=true) (h1:ml.length=N') (h2:mm.length=N') (hh:LSet h o (some ⟨i',mm.map E⟩) h') (hg:Gd ops n fr gd) (q:OpsX P N m ops l (aI n fr) h' K):OpsX P N m ops (⟨none,.store u x y,ty,pos,aft,gd⟩::l) (aI n fr) h K:=xN (v:= .sc undef) (h':=h') (bN hx hy (zA T.h hz hb hE h1 h2 hh.eq)) q hg
theorem xs [T:TiC P u ti] (hx:bZ n fr x=some (.ptr o p)) (hy:bZ n fr y=some v) (hb:h[o]? =some (some ⟨e,cs⟩)) {es fs:List V} (hv:Cel v es) (h1:es.length=ti.size) (h2:aV1 (p+ti.size) cs.length=true) (hs:Spl cs p es fs) (hh:LSet h o (some ⟨e,fs⟩) h') (hg:Gd ops n fr gd) (q:OpsX P N m ops l (aI n fr) h' K):OpsX P N m ops (⟨none,.store u x y,ty,pos,aft,gd⟩::l) (aI n fr) h K:=by
 obtain⟨hv1,hv2⟩:=hv.eq
 refine xN (v:= .sc undef) (h':=h') (bN hx hy (jB T.h hb hv2 (by rw[hv1,h1]) (aVT h2) ?_)) q hg
 rw[hv1,hs.eq,hh.eq]
theorem xsX {α:Type}{E:α→V}{ml:List α}{r r':α} [T:TiC P u ti] (hx:bZ n fr x=some (.ptr o j.toNat)) (hb:h[o]? =some (some ⟨e,ml.map E⟩)) (hy:bZ n fr y=some (E r')) (hz:ti.size=1) (hi:bY ml j=some r) (ho:(E r').one=true) (hc:(E r').cells=[E r']) (hh:LSet h o (some ⟨e,(ml.set j.toNat r').map E⟩) h') (hg:Gd ops n fr gd) (q:OpsX P N m ops l (aI n fr) h' K):OpsX P N m ops (⟨none,.store u x y,ty,pos,aft,gd⟩::l) (aI n fr) h K:=xN (v:= .sc undef) (h':=h') (bN hx hy (aVF T.h hz hb hi ho hc hh.eq)) q hg
theorem xal {r:Nat} [A:NoA P e] [T:TiC P e ti] (hz:Zro ti.zero cs) (hh:Snoc h (some ⟨e,cs⟩) h') (hl:h.length=r) (hg:Gd ops n fr gd) (q:OpsX P N m ops l (aI n ((t,.ptr r 0)::fr)) h' K):OpsX P N m ops (⟨some t,.alloc e,ty,pos,aft,gd⟩::l) (aI n fr) h K:=
 xS (dR T.h (by rw[hz.eq.1];exact hz.eq.2) hl (by rw[hz.eq.1];exact hh.eq)) q hg
theorem aVs {r N' sz by_ sz' by':Nat}{k':IntKind}{e':TypeId}{vs:List Value}{z':Value} [T:TiC P e ⟨.array N' e',sz,by_,.agg vs.toArray⟩] [D:TiC P e' ⟨.int k',sz',by',z'⟩] (hz:vs.map fB=(aVP N' 0).map (eI k')) (hh:Snoc h (some ⟨e,(aVP N' 0).map (eI k')⟩) h') (hl:h.length=r) (hg:Gd ops n fr gd) (q:OpsX P N m ops l (aI n ((t,.ptr r 0)::fr)) h' K):OpsX P N m ops (⟨some t,.alloc e,ty,pos,aft,gd⟩::l) (aI n fr) h K:=
 xS (dR T.h (by
  have e1:(TI.zero ⟨.array N' e',sz,by_,.agg vs.toArray⟩).cells.toList.map fB=(aVP N' 0).map (eI k'):=hz
  rw[e1];exact all_map (fun _=>rfl) _) hl (by
  have e1:(TI.zero ⟨.array N' e',sz,by_,.agg vs.toArray⟩).cells.toList.map fB=(aVP N' 0).map (eI k'):=hz
  rw[e1];exact hh.eq)) q hg
theorem xbx {r:Nat}(hx:bZ n fr x=some a)(hv:Cel a cs)(hh:Snoc h (some ⟨e,cs⟩) h')(hl:h.length=r)(hg:Gd ops n fr gd)(q:OpsX P N m ops l (aI n ((t,.ptr r 0)::fr)) h' K):OpsX P N m ops (⟨some t,.box e x,ty,pos,aft,gd⟩::l) (aI n fr) h K:=
 xS (aUr hx hv.eq.2 hl (by rw[hv.eq.1];exact hh.eq)) q hg
theorem xbd {fs:Array Field}{sz by_:Nat}{zz:Value}{pl:Array (Nat×Nat)}{ps:List (Nat×Operand)}{xs:List (Nat×V)} [T:TiC P u ⟨.struct fs,sz,by_,zz⟩] [L:PlC P u pl] [A:NoA P u] (hp:aEz n fr ps=some xs) (hz:Zro zz cs) (hf:Fil pl cs xs ds) (hg:Gd ops n fr gd) (q:OpsX P N m ops l (aI n ((t,.agg ds)::fr)) h K):OpsX P N m ops (⟨some t,.build u ps.toArray,ty,pos,aft,gd⟩::l) (aI n fr) h K:=
 xS (cE hp (tO T.h L.h (by rw[hz.eq.1];exact hf.eq))) q hg
theorem xpT (hz:bZ n fr z=some (eB c))(hc:c=true)(hx:bZ n fr x=some a)(hg:Gd ops n fr gd)(q:OpsX P N m ops l (aI n ((t,a)::fr)) h K):OpsX P N m ops (⟨some t,.pick z x y,ty,pos,aft,gd⟩::l) (aI n fr) h K:=xS (aRU hz hc hx) q hg
theorem xpF (hz:bZ n fr z=some (eB c))(hc:c=false)(hy:bZ n fr y=some a)(hg:Gd ops n fr gd)(q:OpsX P N m ops l (aI n ((t,a)::fr)) h K):OpsX P N m ops (⟨some t,.pick z x y,ty,pos,aft,gd⟩::l) (aI n fr) h K:=xS (aSv hz hc hy) q hg
inductive NumK (k:IntKind):Nat→List (Nat×V)→List Int→Prop
 |n {i:Nat}:NumK k i [] []
 |c {i:Nat} {x:Int} {ps:List (Nat×V)} {xs:List Int}:NumK k (i+1) ps xs→NumK k i ((i,eI k x)::ps) (x::xs)
theorem NumK.eq {k:IntKind}{i:Nat}{ps:List (Nat×V)}{xs:List Int}(h:NumK k i ps xs):vI i (xs.map (eI k))=ps:=by
 induction h with
 |n=>rfl
 |c _ ih=>simp only[aV6,vI];rw[ih]
inductive NumB :Nat→List (Nat×V)→List Bool→Prop
 |n {i:Nat}:NumB i [] []
 |c {i:Nat} {x:Bool} {ps:List (Nat×V)} {xs:List Bool}:NumB (i+1) ps xs→NumB i ((i,eB x)::ps) (x::xs)
theorem NumB.eq {i:Nat}{ps:List (Nat×V)}{xs:List Bool}(h:NumB i ps xs):vI i (xs.map eB)=ps:=by
 induction h with
 |n=>rfl
 |c _ ih=>simp only[aV6,vI];rw[ih]
inductive NumR {α:Type}(kk:Nat)(E:α→V):Nat→List (Nat×V)→List (List α)→Prop
 |n {i:Nat}:NumR kk E i [] []
 |c {i:Nat} {x:List α} {ps:List (Nat×V)} {xs:List (List α)}:NumR kk E (i+1) ps xs→NumR kk E i ((i,.row none kk (x.map E))::ps) (x::xs)
 |z {i:Nat} {ps:List (Nat×V)} {xs:List (List α)}:NumR kk E (i+1) ps xs→NumR kk E i ((i,.row none kk [])::ps) ([]::xs)
theorem NumR.eq {α:Type}{kk:Nat}{E:α→V}{i:Nat}{ps:List (Nat×V)}{xs:List (List α)}(h:NumR kk E i ps xs):vI i (xs.map (eL kk E))=ps:=by
 induction h with
 |n=>rfl
 |z _ ih=>simp only[aV6,vI];rw[ih];rfl
 |c _ ih=>simp only[aV6,vI];rw[ih]
theorem aUN {α:Type}{E:α→V}(hE: ∀x,(E x).one=true)(hc: ∀x,(E x).cells=[E x])(xs:List α):(xs.map E).all (fun x=>x.one&&(x.cells.length == 1))=true:=by
 simp[aWq,hE,hc]
theorem aQu {α:Type}{E:α→V}{js:List α}{len sz by_ r:Nat}{zz:Value}{ps:List (Nat×Operand)}{xs:List (Nat×V)} [T:TiC P u ⟨.slice e,sz,by_,zz⟩] [D:TiC P e di] (hp:yP n fr ps=some xs) (hn:vI 0 (js.map E)=xs) (hE: ∀x,(E x).one=true) (hc: ∀x,(E x).cells=[E x]) (hs:di.size=1) {ag:Bool} (ha:cI di.desc=ag) (h1:aV1 (len*1) (2^24)=true) (h2:aV1 1 len=true) (hlen:js.length=len) (hh:Snoc h (some ⟨e,js.map E⟩) h') (hl:h.length=r) (hg:Gd ops n fr gd) (q:OpsX P N m ops l (aI n ((t,.sl r 0 len 1 ag)::fr)) h' K):OpsX P N m ops (⟨some t,.buildSlice u len ps.toArray,ty,pos,aft,gd⟩::l) (aI n fr) h K:=
 xS (pD hp (aNH T.h D.h (aVT h1) (aVT h2) hs ha hn (aUN hE hc _) (by rw[aWf];exact hlen) hl hh.eq)) q hg
theorem aUZ {js:List Int}{len sz by_ r sz' by':Nat}{zz z':Value}{ps:List (Nat×Operand)}{xs:List (Nat×V)} [T:TiC P u ⟨.slice e,sz,by_,zz⟩] [D:TiC P e ⟨.int k,sz',by',z'⟩] (hp:yP n fr ps=some xs) (hn:NumK k 0 xs js) (hs:sz'=1) (h1:aV1 (len*1) (2^24)=true) (h2:aV1 1 len=true) (hlen:js.length=len) (hh:Snoc h (some ⟨e,js.map (eI k)⟩) h') (hl:h.length=r) (hg:Gd ops n fr gd) (q:OpsX P N m ops l (aI n ((t,.sl r 0 len 1 false)::fr)) h' K):OpsX P N m ops (⟨some t,.buildSlice u len ps.toArray,ty,pos,aft,gd⟩::l) (aI n fr) h K:=aQu (ag:=false) hp hn.eq (fun _=>rfl) (fun _=>rfl) hs rfl h1 h2 hlen hh hl hg q
theorem aVJ {js:List Bool}{len sz by_ r sz' by':Nat}{zz z':Value}{ps:List (Nat×Operand)}{xs:List (Nat×V)} [T:TiC P u ⟨.slice e,sz,by_,zz⟩] [D:TiC P e ⟨.bool,sz',by',z'⟩] (hp:yP n fr ps=some xs) (hn:NumB 0 xs js) (hs:sz'=1) (h1:aV1 (len*1) (2^24)=true) (h2:aV1 1 len=true) (hlen:js.length=len) (hh:Snoc h (some ⟨e,js.map eB⟩) h') (hl:h.length=r) (hg:Gd ops n fr gd) (q:OpsX P N m ops l (aI n ((t,.sl r 0 len 1 false)::fr)) h' K):OpsX P N m ops (⟨some t,.buildSlice u len ps.toArray,ty,pos,aft,gd⟩::l) (aI n fr) h K:=aQu (ag:=false) hp hn.eq (fun _=>rfl) (fun _=>rfl) hs rfl h1 h2 hlen hh hl hg q
theorem aUL {α:Type}{E:α→V}{kk:Nat}{js:List (List α)}{len sz by_ r sz' by':Nat}{zz z':Value}{e':TypeId}{ps:List (Nat×Operand)}{xs:List (Nat×V)} [T:TiC P u ⟨.slice e,sz,by_,zz⟩] [D:TiC P e ⟨.slice e',sz',by',z'⟩] (hp:yP n fr ps=some xs) (hn:NumR kk E 0 xs js) (hs:sz'=1) (h1:aV1 (len*1) (2^24)=true) (h2:aV1 1 len=true) (hlen:js.length=len) (hh:Snoc h (some ⟨e,js.map (eL kk E)⟩) h') (hl:h.length=r) (hg:Gd ops n fr gd) (q:OpsX P N m ops l (aI n ((t,.sl r 0 len 1 false)::fr)) h' K):OpsX P N m ops (⟨some t,.buildSlice u len ps.toArray,ty,pos,aft,gd⟩::l) (aI n fr) h K:=aQu (ag:=false) hp hn.eq (fun _=>rfl) (fun _=>rfl) hs rfl h1 h2 hlen hh hl hg q
theorem aVn {k':IntKind}{r:Int}(hx:bZ n fr x=some (eI k i))(hy:bZ n fr y=some (eI k' j))(hv:shl k i j=some r)(hg:Gd ops n fr gd)(q:OpsX P N m ops l (aI n ((t,eI k r)::fr)) h K):OpsX P N m ops (⟨some t,.binOp .shl u x y w,ty,pos,aft,gd⟩::l) (aI n fr) h K:=xS (v5 hx hy (aPm _ _ _ _ hv)) q hg
theorem aUS {k':IntKind}{r:Int}(hx:bZ n fr x=some (eI k i))(hy:bZ n fr y=some (eI k' j))(hv:shr k i j=some r)(hg:Gd ops n fr gd)(q:OpsX P N m ops l (aI n ((t,eI k r)::fr)) h K):OpsX P N m ops (⟨some t,.binOp .shr u x y w,ty,pos,aft,gd⟩::l) (aI n fr) h K:=xS (v5 hx hy (aPC _ _ _ _ hv)) q hg
theorem aVi {r:Int}(hx:bZ n fr x=some (eI k i))(hy:bZ n fr y=some (eI k j))(hv:quo k i j=some r)(hg:Gd ops n fr gd)(q:OpsX P N m ops l (aI n ((t,eI k r)::fr)) h K):OpsX P N m ops (⟨some t,.binOp .quo u x y w,ty,pos,aft,gd⟩::l) (aI n fr) h K:=xS (v5 hx hy (aPc _ _ _ _ hv)) q hg
theorem aUJ {r:Int}(hx:bZ n fr x=some (eI k i))(hy:bZ n fr y=some (eI k j))(hv:rem i j=some r)(hg:Gd ops n fr gd)(q:OpsX P N m ops l (aI n ((t,eI k r)::fr)) h K):OpsX P N m ops (⟨some t,.binOp .rem u x y w,ty,pos,aft,gd⟩::l) (aI n fr) h K:=xS (v5 hx hy (aQP _ _ _ _ hv)) q hg
class DepC (P:Program):Prop where
 h:2≤P.depth
theorem xeA {k':IntKind}{N' sz by_ sz' by':Nat}{zz z':Value}{ml mm:List Int} [A:DepC P] [T:TiC P u ⟨.array N' e,sz,by_,zz⟩] [D:TiC P e ⟨.int k',sz',by',z'⟩] (hx:bZ n fr x=some (.agg (ml.map (eI k)))) (hy:bZ n fr y=some (.agg (mm.map (eI k)))) (hz:sz'=1) (h1:ml.length=N') (h2:mm.length=N') (hg:Gd ops n fr gd) (q:OpsX P N m ops l (aI n ((t,eB (ml == mm))::fr)) h K):OpsX P N m ops (⟨some t,.binOp .eql u x y w,ty,pos,aft,gd⟩::l) (aI n fr) h K:=xS (v5 hx hy (aPw _ _ T.h D.h hz A.h h1 h2)) q hg
theorem xnA {k':IntKind}{N' sz by_ sz' by':Nat}{zz z':Value}{ml mm:List Int} [A:DepC P] [T:TiC P u ⟨.array N' e,sz,by_,zz⟩] [D:TiC P e ⟨.int k',sz',by',z'⟩] (hx:bZ n fr x=some (.agg (ml.map (eI k)))) (hy:bZ n fr y=some (.agg (mm.map (eI k)))) (hz:sz'=1) (h1:ml.length=N') (h2:mm.length=N') (hg:Gd ops n fr gd) (q:OpsX P N m ops l (aI n ((t,eB (!(ml == mm)))::fr)) h K):OpsX P N m ops (⟨some t,.binOp .neq u x y w,ty,pos,aft,gd⟩::l) (aI n fr) h K:=xS (v5 hx hy (aQb _ _ T.h D.h hz A.h h1 h2)) q hg
theorem xsR {α:Type}{E:α→V}{ml r:List α}{nl:Option Bool}{sz by_:Nat}{zz:Value}{lo hi:Option Operand}{vl vh:Option V}{c1 c2:Int} [T:TiC P u ⟨.slice e,sz,by_,zz⟩] [D:TiC P e di] (hx:bZ n fr x=some (.row nl o (ml.map E))) (h1:aFT n fr lo=some vl) (h2:aFT n fr hi=some vh) (ha:pM vl=some c1) (hb:yA vh ml.length=some c2) (hs:sub ml c1 c2=some r) (ho:di.size=o) {nl':Option Bool} (hq:nlS nl=nl') (hg:Gd ops n fr gd) (q:OpsX P N m ops l (aI n ((t,.row nl' o (r.map E))::fr)) h K):OpsX P N m ops (⟨some t,.slice u x lo hi none,ty,pos,aft,gd⟩::l) (aI n fr) h K:=by
 subst ho hq;exact xS (cZ hx h1 h2 (u6 T.h D.h ha hb hs)) q hg
theorem xsM {α:Type}{E:α→V}{ml r:List α}{nl:Option Bool}{sz by_:Nat}{zz:Value}{lo:Option Operand}{hi mx:Operand}{vl:Option V}{c1 c2:Int}{k1 k2:IntKind} [T:TiC P u ⟨.slice e,sz,by_,zz⟩] [D:TiC P e di] (hx:bZ n fr x=some (.row nl o (ml.map E))) (h1:aFT n fr lo=some vl) (ha:pM vl=some c1) (h2:bZ n fr hi=some (eI k1 c2)) (h3:bZ n fr mx=some (eI k2 c2)) (hs:sub ml c1 c2=some r) (ho:di.size=o) (hg:Gd ops n fr gd) (q:OpsX P N m ops l (aI n ((t,.row (some false) o (r.map E))::fr)) h K):OpsX P N m ops (⟨some t,.slice u x lo (some hi) (some mx),ty,pos,aft,gd⟩::l) (aI n fr) h K:=by
 subst ho;exact xS (aQG hx h1 h2 h3 (slM T.h D.h ha hs)) q hg
theorem xsE {α:Type}{E:α→V}{ml:List α}{N' sz by_:Nat}{zz:Value} [T:TiC P u ⟨.array N' e,sz,by_,zz⟩] [D:TiC P e di] (hx:bZ n fr x=some (.eptr [.agg (ml.map E)] 0 0)) (hs:di.size=1) (ha:cI di.desc=false) (h1:ml.length=N') (h2:aV1 1 N'=true) (hg:Gd ops n fr gd) (q:OpsX P N m ops l (aI n ((t,.row none 1 (ml.map E))::fr)) h K):OpsX P N m ops (⟨some t,.slice u x none none none,ty,pos,aft,gd⟩::l) (aI n fr) h K:=xS (cZ hx rfl rfl (slE T.h D.h hs ha h1 (aVT h2))) q hg
theorem xsL {α:Type}{E:α→V}{ml:List α}{N' sz by_ i':Nat}{zz:Value}{ag:Bool} [T:TiC P u ⟨.array N' e,sz,by_,zz⟩] [D:TiC P e di] (hx:bZ n fr x=some (.ptr o 0)) (hb:h[o]? =some (some ⟨i',ml.map E⟩)) (hs:di.size=1) (ha:cI di.desc=ag) (h1:ml.length=N') (h2:aV1 1 N'=true) (h3:aV1 N' oU=true) (hg:Gd ops n fr gd) (q:OpsX P N m ops l (aI n ((t,.sl o 0 N' 1 ag)::fr)) h K):OpsX P N m ops (⟨some t,.slice u x none none none,ty,pos,aft,gd⟩::l) (aI n fr) h K:=xS (cZ hx rfl rfl (slA T.h D.h hs ha hb h1 ⟨aVT h2,aVT h3⟩)) q hg
theorem xiK {α:Type}{C:α→List V}{ml:List α}{r:α}{q0 sz by_ e':Nat}{zz:Value} [T:TiC P u ⟨.slice e,sz,by_,zz⟩] [D:TiC P e di] (hx:bZ n fr x=some (.sl o 0 q0 p true)) (hy:bZ n fr y=some (eI k j)) (hb:h[o]? =some (some ⟨e',ml.flatMap C⟩)) (hi:bY ml j=some r) (hn:ml.length=q0) (hs:di.size=p) (hg:Gd ops n fr gd) (q:OpsX P N m ops l (aI n ((t,.ptr o (0+j.toNat*p))::fr)) h K):OpsX P N m ops (⟨some t,.indexAddr u x y,ty,pos,aft,gd⟩::l) (aI n fr) h K:=xS (aCF hx hy (aVH hn T.h D.h hs hi)) q hg
inductive Sr1 {α:Type}(E:α→V)(h:Hp):V→List α→Prop
 |r {nl:Option Bool} {ml:List α}:(∀x,(E x).cells=[E x])→Sr1 E h (.row nl 1 (ml.map E)) ml
 |s {b q e:Nat} {ag:Bool} {ml:List α}:h[b]? =some (some ⟨e,ml.map E⟩)→ml.length=q→Sr1 E h (.sl b 0 q 1 ag) ml
 |n {nl:Option Bool} {k:Nat}:Sr1 E h (.row nl k []) []
theorem Sr1.eq {α:Type}{E:α→V}{h:Hp}{v:V}{ml:List α}(hs:Sr1 E h v ml):iV h 1 v=some (ml.map E,ml.length):=by
 cases hs with
 |r hE=>exact aDH hE
 |s hb hq=>exact aQo hq hb
 |n=>exact aUF
inductive SrK {α:Type}(C:α→List V)(K:Nat)(h:Hp):V→List α→Prop
 |r {nl:Option Bool} {ml:List α}:SrK C K h (.row nl K (ml.map fun x=>V.agg (C x))) ml
 |s {b q e:Nat} {ml:List α}:(∀x,(C x).length=K)→h[b]? =some (some ⟨e,ml.flatMap C⟩)→ml.length=q→SrK C K h (.sl b 0 q K true) ml
 |n {nl:Option Bool} {k:Nat}:SrK C K h (.row nl k []) []
theorem SrK.eq {α:Type}{C:α→List V}{K:Nat}{h:Hp}{v:V}{ml:List α}(hs:SrK C K h v ml):iV h K v=some (ml.flatMap C,ml.length):=by
 cases hs with
 |r=>exact aUq
 |s hC hb hq=>exact aT5 hC hq hb
 |n=>exact aTP
theorem xap {α:Type}{E:α→V}{ml mm r:List α}{q0 sz by_ r0:Nat}{zz:Value}{ag:Bool}{h2:Hp} [T:TiC P u ⟨.slice e,sz,by_,zz⟩] [D:TiC P e di] (hx:bZ n fr x=some (.sl o 0 q0 1 ag)) (hy:bZ n fr y=some v) (hb:h[o]? =some (some ⟨e,ml.map E⟩)) (hs:Sr1 E h v mm) (hn:ml.length=q0) (h1:di.zero.cells.size=1) (h3:di.size=1) (h4:aV1 1 di.bytes=true) {bb:Nat} (hbb:di.bytes=bb) (ha:eE bb ml mm=some r) (hh:LSet h o none h2) (hh':Snoc h2 (some ⟨e,r.map E⟩) h') (hl:h.length=r0) (hg:Gd ops n fr gd) (q:OpsX P N m ops l (aI n ((t,.sl r0 0 r.length 1 ag)::fr)) h' K):OpsX P N m ops (⟨some t,.call ⟨.builtin .append,#[x,y],#[u,u]⟩,ty,pos,aft,gd⟩::l) (aI n fr) h K:=by
 subst hbb;exact xS (yC hx hy (aPd hn T.h D.h ⟨h1,h3,aVT h4⟩ hb hs.eq ha hl (by rw[hh.eq,hh'.eq]))) q hg
theorem xan {α:Type}{E:α→V}{mm r:List α}{sz by_ r0 kk:Nat}{zz:Value}{ag:Bool}{h2:Hp} [T:TiC P u ⟨.slice e,sz,by_,zz⟩] [D:TiC P e di] (hx:bZ n fr x=some (.row (some true) kk [])) (hy:bZ n fr y=some v) (hs:Sr1 E h v mm) (h1:di.zero.cells.size=1) (h3:di.size=1) (h4:aV1 1 di.bytes=true) (hag:cI di.desc=ag) {bb:Nat} (hbb:di.bytes=bb) (ha:eE bb [] mm=some r) (hh:Snoc h none h2) (hh':Snoc h2 (some ⟨e,r.map E⟩) h') (hl:h2.length=r0) (hg:Gd ops n fr gd) (q:OpsX P N m ops l (aI n ((t,.sl r0 0 r.length 1 ag)::fr)) h' K):OpsX P N m ops (⟨some t,.call ⟨.builtin .append,#[x,y],#[u,u]⟩,ty,pos,aft,gd⟩::l) (aI n fr) h K:=by
 subst hbb;exact xS (yC hx hy (aUB T.h D.h ⟨h1,h3,aVT h4⟩ hs.eq hag ha (by rw[←hl,←hh.eq];simp) (by rw[hh.eq,hh'.eq]))) q hg
theorem xaf {α:Type}{E:α→V}{ml mm r:List α}{sz by_ r0:Nat}{zz:Value}{ag:Bool} [T:TiC P u ⟨.slice e,sz,by_,zz⟩] [D:TiC P e di] (hx:bZ n fr x=some (.row (some false) 1 (ml.map E))) (hy:bZ n fr y=some v) (hE: ∀x,(E x).cells=[E x]) (hs:Sr1 E h v mm) (hm:aV1 1 mm.length=true) (h1:di.zero.cells.size=1) (h3:di.size=1) (h4:aV1 1 di.bytes=true) (hag:cI di.desc=ag) {bb:Nat} (hbb:di.bytes=bb) (ha:eE bb ml mm=some r) (hh:Snoc h (some ⟨e,r.map E⟩) h') (hl:h.length=r0) (hg:Gd ops n fr gd) (q:OpsX P N m ops l (aI n ((t,.sl r0 0 r.length 1 ag)::fr)) h' K):OpsX P N m ops (⟨some t,.call ⟨.builtin .append,#[x,y],#[u,u]⟩,ty,pos,aft,gd⟩::l) (aI n fr) h K:=by
 subst hbb;exact xS (yC hx hy (aVc T.h D.h ⟨h1,h3,aVT h4⟩ hE hs.eq (aVT hm) hag ha hl (by rw[hh.eq]))) q hg
theorem aU2 {α:Type}{C:α→List V}{ml mm r:List α}{q0 sz by_ r0:Nat}{zz:Value}{h2:Hp} [T:TiC P u ⟨.slice e,sz,by_,zz⟩] [D:TiC P e di] (hx:bZ n fr x=some (.sl o 0 q0 p true)) (hy:bZ n fr y=some v) (hb:h[o]? =some (some ⟨e,ml.flatMap C⟩)) (hC: ∀x,(C x).length=p) (hs:SrK C p h v mm) (hn:ml.length=q0) (h1:di.zero.cells.size=p) (h3:di.size=p) (h4:aV1 1 di.bytes=true) (h5:aV1 1 p=true) {bb:Nat} (hbb:di.bytes=bb) (ha:eE bb ml mm=some r) (hh:LSet h o none h2) (hh':Snoc h2 (some ⟨e,r.flatMap C⟩) h') (hl:h.length=r0) (hg:Gd ops n fr gd) (q:OpsX P N m ops l (aI n ((t,.sl r0 0 r.length p true)::fr)) h' K):OpsX P N m ops (⟨some t,.call ⟨.builtin .append,#[x,y],#[u,u]⟩,ty,pos,aft,gd⟩::l) (aI n fr) h K:=by
 subst hbb;exact xS (yC hx hy (aUu hC hn T.h D.h ⟨h1,h3,aVT h4,aVT h5⟩ hb hs.eq ha hl (by rw[hh.eq,hh'.eq]))) q hg
end
structure aVA (q:Prop):Prop where
 h:q
section
variable {P:Program}{N n t:Nat}{m:Option (List Nat×List Nat)}{ops:Array Oper}{l:List Oper}{h:Hp}{K:List V→Hp→Prop}{op:Op}{ty:TypeId}{pos:String}{aft:Array Edge}{gd:Option (Nat×Bool)}{x y z:Operand}{Q:Ex→List V→Hp→Prop}{s:List V}{o e:Nat}{u w:TypeId}{bo:BinOp}{ob:Oper}{c:Code}{ws:List Operand}{ts:Array TypeId}{ps:List (Nat×Operand)}{lo hi:Option Operand}{hj mj:Operand}
theorem isX (k:OpsX P N m ops (ob::l) s h K):OpsX P N m ops (ob::l) s h K:=k
theorem isA (k:AB P N c Q s h):AB P N c Q s h:=k
theorem aRm (k:OpsX P N m ops (⟨some t,.call ⟨.builtin .len,ws.toArray,ts⟩,ty,pos,aft,gd⟩::l) s h K):OpsX P N m ops (⟨some t,.call ⟨.builtin .len,ws.toArray,ts⟩,ty,pos,aft,gd⟩::l) s h K:=k
theorem aTl (k:OpsX P N m ops (⟨some t,.call ⟨.builtin .append,ws.toArray,ts⟩,ty,pos,aft,gd⟩::l) s h K):OpsX P N m ops (⟨some t,.call ⟨.builtin .append,ws.toArray,ts⟩,ty,pos,aft,gd⟩::l) s h K:=k
theorem aSE (k:OpsX P N m ops (⟨some t,.move x,ty,pos,aft,gd⟩::l) s h K):OpsX P N m ops (⟨some t,.move x,ty,pos,aft,gd⟩::l) s h K:=k
theorem aRY (k:OpsX P N m ops (⟨some t,.load u x,ty,pos,aft,gd⟩::l) s h K):OpsX P N m ops (⟨some t,.load u x,ty,pos,aft,gd⟩::l) s h K:=k
theorem aS5 (k:OpsX P N m ops (⟨some t,.binOp bo u x y w,ty,pos,aft,gd⟩::l) s h K):OpsX P N m ops (⟨some t,.binOp bo u x y w,ty,pos,aft,gd⟩::l) s h K:=k
theorem aT9 (k:OpsX P N m ops (⟨some t,.fieldAddr u x o,ty,pos,aft,gd⟩::l) s h K):OpsX P N m ops (⟨some t,.fieldAddr u x o,ty,pos,aft,gd⟩::l) s h K:=k
theorem aS3 (k:OpsX P N m ops (⟨some t,.assign x,ty,pos,aft,gd⟩::l) s h K):OpsX P N m ops (⟨some t,.assign x,ty,pos,aft,gd⟩::l) s h K:=k
theorem aTU (k:OpsX P N m ops (⟨some t,.indexAddr u x y,ty,pos,aft,gd⟩::l) s h K):OpsX P N m ops (⟨some t,.indexAddr u x y,ty,pos,aft,gd⟩::l) s h K:=k
theorem aTN (k:OpsX P N m ops (⟨none,.store u x y,ty,pos,aft,gd⟩::l) s h K):OpsX P N m ops (⟨none,.store u x y,ty,pos,aft,gd⟩::l) s h K:=k
theorem aUh (k:OpsX P N m ops (⟨some t,.alloc e,ty,pos,aft,gd⟩::l) s h K):OpsX P N m ops (⟨some t,.alloc e,ty,pos,aft,gd⟩::l) s h K:=k
theorem aTR (k:OpsX P N m ops (⟨some t,.buildSlice u o ps.toArray,ty,pos,aft,gd⟩::l) s h K):OpsX P N m ops (⟨some t,.buildSlice u o ps.toArray,ty,pos,aft,gd⟩::l) s h K:=k
theorem aUb (k:OpsX P N m ops (⟨some t,.slice u x lo (some hj) (some mj),ty,pos,aft,gd⟩::l) s h K):OpsX P N m ops (⟨some t,.slice u x lo (some hj) (some mj),ty,pos,aft,gd⟩::l) s h K:=k
theorem aUt (k:OpsX P N m ops (⟨some t,.slice u x lo hi none,ty,pos,aft,gd⟩::l) s h K):OpsX P N m ops (⟨some t,.slice u x lo hi none,ty,pos,aft,gd⟩::l) s h K:=k
theorem aTY (k:OpsX P N m ops (⟨some t,.pick x y z,ty,pos,aft,gd⟩::l) s h K):OpsX P N m ops (⟨some t,.pick x y z,ty,pos,aft,gd⟩::l) s h K:=k
theorem aUl (k:OpsX P N m ops (⟨some t,.nilCheck x,ty,pos,aft,gd⟩::l) s h K):OpsX P N m ops (⟨some t,.nilCheck x,ty,pos,aft,gd⟩::l) s h K:=k
end
theorem zz {p q:Prop}(k:q) (h:aVA q→p:=by(intro kk;(repeat (first|(apply isX;first|((with_reducible apply aRm);first|(apply xlR;exact rfl;(first|exact True.intro|exact⟨_,rfl,_,rfl,by assumption⟩))|(apply xlS;exact rfl;(first|exact True.intro|exact⟨_,rfl,_,rfl,by assumption⟩))|(apply xlT;exact rfl;(first|exact True.intro|exact⟨_,rfl,_,rfl,by assumption⟩)))|((with_reducible apply aTl);first|(apply xap;exact rfl;exact rfl;exact rfl;(first|exact Sr1.n|(apply Sr1.r;exact(fun _=>rfl))|(apply Sr1.s;exact rfl;(first|exact rfl|exact(by simp only[b7,b6,List.length_replicate];done)|exact bE (by assumption)|exact cQ (by assumption))));(first|exact rfl|exact(by simp only[b7,b6,List.length_replicate];done)|exact bE (by assumption)|exact cQ (by assumption));exact rfl;exact rfl;exact rfl;exact rfl;assumption;(repeat (first|exact LSet.z|apply LSet.s));(repeat (first|exact Snoc.n|apply Snoc.c));(first|exact(by simp only[List.length_cons,List.length_nil,Nat.zero_add,Nat.reduceAdd]<;>rfl)|exact rfl);(first|exact True.intro|exact⟨_,rfl,_,rfl,by assumption⟩))|(apply xan;exact rfl;exact rfl;(first|exact Sr1.n|(apply Sr1.r;exact(fun _=>rfl))|(apply Sr1.s;exact rfl;(first|exact rfl|exact(by simp only[b7,b6,List.length_replicate];done)|exact bE (by assumption)|exact cQ (by assumption))));exact rfl;exact rfl;exact rfl;exact rfl;exact rfl;assumption;(repeat (first|exact Snoc.n|apply Snoc.c));(repeat (first|exact Snoc.n|apply Snoc.c));(first|exact(by simp only[List.length_cons,List.length_nil,Nat.zero_add,Nat.reduceAdd]<;>rfl)|exact rfl);(first|exact True.intro|exact⟨_,rfl,_,rfl,by assumption⟩))|(apply xaf;exact rfl;exact rfl;exact(fun _=>rfl);(first|exact Sr1.n|(apply Sr1.r;exact(fun _=>rfl))|(apply Sr1.s;exact rfl;(first|exact rfl|exact(by simp only[b7,b6,List.length_replicate];done)|exact bE (by assumption)|exact cQ (by assumption))));(first|exact rfl);exact rfl;exact rfl;exact rfl;exact rfl;exact rfl;assumption;(repeat (first|exact Snoc.n|apply Snoc.c));(first|exact(by simp only[List.length_cons,List.length_nil,Nat.zero_add,Nat.reduceAdd]<;>rfl)|exact rfl);(first|exact True.intro|exact⟨_,rfl,_,rfl,by assumption⟩))|(apply aU2;exact rfl;exact rfl;exact rfl;exact(fun _=>rfl);(first|exact SrK.n|exact SrK.r|(apply SrK.s;exact(fun _=>rfl);exact rfl;(first|exact rfl|exact(by simp only[b7,b6,List.length_replicate];done)|exact bE (by assumption)|exact cQ (by assumption))));(first|exact rfl|exact(by simp only[b7,b6,List.length_replicate];done)|exact bE (by assumption)|exact cQ (by assumption));exact rfl;exact rfl;exact rfl;exact rfl;exact rfl;assumption;(repeat (first|exact LSet.z|apply LSet.s));(repeat (first|exact Snoc.n|apply Snoc.c));(first|exact(by simp only[List.length_cons,List.length_nil,Nat.zero_add,Nat.reduceAdd]<;>rfl)|exact rfl);(first|exact True.intro|exact⟨_,rfl,_,rfl,by assumption⟩))|(apply xanK;exact rfl;exact rfl;(first|exact SrK.n|exact SrK.r|(apply SrK.s;exact(fun _=>rfl);exact rfl;(first|exact rfl|exact(by simp only[b7,b6,List.length_replicate];done)|exact bE (by assumption)|exact cQ (by assumption))));exact rfl;exact rfl;exact rfl;exact rfl;exact rfl;exact rfl;assumption;(repeat (first|exact Snoc.n|apply Snoc.c));(repeat (first|exact Snoc.n|apply Snoc.c));(first|exact(by simp only[List.length_cons,List.length_nil,Nat.zero_add,Nat.reduceAdd]<;>rfl)|exact rfl);(first|exact True.intro|exact⟨_,rfl,_,rfl,by assumption⟩)))|((with_reducible apply aSE);first|(apply xmc;(first|exact OfC.i|exact OfC.b|exact OfC.l|exact OfC.s|exact OfC.p);(first|exact True.intro|exact⟨_,rfl,_,rfl,by assumption⟩))|(apply xm;exact rfl;(first|exact True.intro|exact⟨_,rfl,_,rfl,by assumption⟩)))|((with_reducible apply aRY);first|(apply xl1;exact rfl;exact rfl;exact rfl;exact rfl;(first|exact True.intro|exact⟨_,rfl,_,rfl,by assumption⟩))|(apply aVI;exact rfl;exact rfl;(first|assumption|exact rL (by assumption));exact rfl;(first|exact True.intro|exact⟨_,rfl,_,rfl,by assumption⟩))|(apply xlX;exact rfl;exact rfl;exact rfl;(first|assumption|exact rL (by assumption));(first|exact True.intro|exact⟨_,rfl,_,rfl,by assumption⟩))|(apply xlN;exact rfl;exact rfl;(first|exact Tak.w rfl|(repeat (first|exact Tak.d|(apply Tak.t;(first|exact IsA.c|exact IsA.a4|exact IsA.a32|exact IsA.a8|exact IsA.a20|exact IsA.a64);exact rfl)|(apply Tak.s;(first|exact IsA.c|exact IsA.a4|exact IsA.a32|exact IsA.a8|exact IsA.a20|exact IsA.a64);exact rfl))));(first|exact True.intro|exact⟨_,rfl,_,rfl,by assumption⟩))|(apply aU3;exact rfl;(first|assumption|exact rL (by assumption));exact rfl;(first|exact Tak.w rfl|(repeat (first|exact Tak.d|(apply Tak.t;(first|exact IsA.c|exact IsA.a4|exact IsA.a32|exact IsA.a8|exact IsA.a20|exact IsA.a64);exact rfl)|(apply Tak.s;(first|exact IsA.c|exact IsA.a4|exact IsA.a32|exact IsA.a8|exact IsA.a20|exact IsA.a64);exact rfl))));(first|exact True.intro|exact⟨_,rfl,_,rfl,by assumption⟩))|(apply xlB;exact rfl;exact rfl;exact rfl;(first|exact rfl|exact(by simp only[b7,b6,List.length_replicate];done)|exact bE (by assumption)|exact cQ (by assumption));(first|exact True.intro|exact⟨_,rfl,_,rfl,by assumption⟩))|(apply xlA;exact rfl;exact rfl;(first|exact Tak.w rfl|(repeat (first|exact Tak.d|(apply Tak.t;(first|exact IsA.c|exact IsA.a4|exact IsA.a32|exact IsA.a8|exact IsA.a20|exact IsA.a64);exact rfl)|(apply Tak.s;(first|exact IsA.c|exact IsA.a4|exact IsA.a32|exact IsA.a8|exact IsA.a20|exact IsA.a64);exact rfl))));(first|(apply ArM.a32;(first|exact rfl|exact(by simp only[b7,b6,List.length_replicate];done)|exact bE (by assumption)|exact cQ (by assumption)))|(apply ArM.a4;(first|exact rfl|exact(by simp only[b7,b6,List.length_replicate];done)|exact bE (by assumption)|exact cQ (by assumption)))|(apply ArM.a8;(first|exact rfl|exact(by simp only[b7,b6,List.length_replicate];done)|exact bE (by assumption)|exact cQ (by assumption)))|(apply ArM.a20;(first|exact rfl|exact(by simp only[b7,b6,List.length_replicate];done)|exact bE (by assumption)|exact cQ (by assumption)))|(apply ArM.a64;(first|exact rfl|exact(by simp only[b7,b6,List.length_replicate];done)|exact bE (by assumption)|exact cQ (by assumption))));(first|exact True.intro|exact⟨_,rfl,_,rfl,by assumption⟩))|(apply xleA;exact rfl;(first|assumption|exact rL (by assumption));exact rfl;(first|exact Tak.w rfl|(repeat (first|exact Tak.d|(apply Tak.t;(first|exact IsA.c|exact IsA.a4|exact IsA.a32|exact IsA.a8|exact IsA.a20|exact IsA.a64);exact rfl)|(apply Tak.s;(first|exact IsA.c|exact IsA.a4|exact IsA.a32|exact IsA.a8|exact IsA.a20|exact IsA.a64);exact rfl))));(first|(apply ArM.a32;(first|exact rfl|exact(by simp only[b7,b6,List.length_replicate];done)|exact bE (by assumption)|exact cQ (by assumption)))|(apply ArM.a4;(first|exact rfl|exact(by simp only[b7,b6,List.length_replicate];done)|exact bE (by assumption)|exact cQ (by assumption)))|(apply ArM.a8;(first|exact rfl|exact(by simp only[b7,b6,List.length_replicate];done)|exact bE (by assumption)|exact cQ (by assumption)))|(apply ArM.a20;(first|exact rfl|exact(by simp only[b7,b6,List.length_replicate];done)|exact bE (by assumption)|exact cQ (by assumption)))|(apply ArM.a64;(first|exact rfl|exact(by simp only[b7,b6,List.length_replicate];done)|exact bE (by assumption)|exact cQ (by assumption))));(first|exact True.intro|exact⟨_,rfl,_,rfl,by assumption⟩)))|((with_reducible apply aS5);first|(apply xb;exact rfl;exact rfl;exact rfl;(first|exact True.intro|exact⟨_,rfl,_,rfl,by assumption⟩))|(apply aUS;exact rfl;exact rfl;assumption;(first|exact True.intro|exact⟨_,rfl,_,rfl,by assumption⟩))|(apply aVn;exact rfl;exact rfl;assumption;(first|exact True.intro|exact⟨_,rfl,_,rfl,by assumption⟩))|(apply aVi;exact rfl;exact rfl;(first|assumption|exact rfl);(first|exact True.intro|exact⟨_,rfl,_,rfl,by assumption⟩))|(apply aUJ;exact rfl;exact rfl;(first|assumption|exact rfl);(first|exact True.intro|exact⟨_,rfl,_,rfl,by assumption⟩))|(apply xeA;exact rfl;exact rfl;exact rfl;(first|exact rfl|exact(by simp only[b7,b6,List.length_replicate];done)|exact bE (by assumption)|exact cQ (by assumption));(first|exact rfl|exact(by simp only[b7,b6,List.length_replicate];done)|exact bE (by assumption)|exact cQ (by assumption));(first|exact True.intro|exact⟨_,rfl,_,rfl,by assumption⟩))|(apply xnA;exact rfl;exact rfl;exact rfl;(first|exact rfl|exact(by simp only[b7,b6,List.length_replicate];done)|exact bE (by assumption)|exact cQ (by assumption));(first|exact rfl|exact(by simp only[b7,b6,List.length_replicate];done)|exact bE (by assumption)|exact cQ (by assumption));(first|exact True.intro|exact⟨_,rfl,_,rfl,by assumption⟩)))|((with_reducible apply aT9);first|(apply xfp;exact rfl;(first|(with_reducible exact Nat.zero_add _)|exact rfl);(first|exact True.intro|exact⟨_,rfl,_,rfl,by assumption⟩))|(apply xfe;exact rfl;(first|(with_reducible exact Nat.zero_add _)|exact rfl);(first|exact True.intro|exact⟨_,rfl,_,rfl,by assumption⟩)))|((with_reducible apply aS3);first|(apply xac;(first|exact OfC.i|exact OfC.b|exact OfC.l|exact OfC.s|exact OfC.p);(first|exact True.intro|exact⟨_,rfl,_,rfl,by assumption⟩))|(apply xa;exact rfl;(first|exact True.intro|exact⟨_,rfl,_,rfl,by assumption⟩)))|(apply xe;exact rfl;exact rfl;(first|exact True.intro|exact⟨_,rfl,_,rfl,by assumption⟩))|((with_reducible apply aTU);first|(apply xiR;exact rfl;exact rfl;exact rfl;(first|assumption|exact rL (by assumption));(first|exact True.intro|exact⟨_,rfl,_,rfl,by assumption⟩))|(apply xiS;exact rfl;exact rfl;exact rfl;(first|assumption|exact rL (by assumption));(first|exact rfl|exact(by simp only[b7,b6,List.length_replicate];done)|exact bE (by assumption)|exact cQ (by assumption));exact rfl;(first|exact True.intro|exact⟨_,rfl,_,rfl,by assumption⟩))|(apply xiB;exact rfl;exact rfl;exact rfl;assumption;exact rfl;(first|exact True.intro|exact⟨_,rfl,_,rfl,by assumption⟩))|(apply xiK;exact rfl;exact rfl;exact rfl;(first|assumption|exact rL (by assumption));(first|exact rfl|exact(by simp only[b7,b6,List.length_replicate];done)|exact bE (by assumption)|exact cQ (by assumption));exact rfl;(first|exact True.intro|exact⟨_,rfl,_,rfl,by assumption⟩)))|(apply xci;exact rfl;(first|exact True.intro|exact⟨_,rfl,_,rfl,by assumption⟩))|((with_reducible apply aTN);first|(apply xsA;exact rfl;exact rfl;exact rfl;exact rfl;exact(fun _=>rfl);(first|exact rfl|exact(by simp only[b7,b6,List.length_replicate];done)|exact bE (by assumption)|exact cQ (by assumption));(first|exact rfl|exact(by simp only[b7,b6,List.length_replicate];done)|exact bE (by assumption)|exact cQ (by assumption));(repeat (first|exact LSet.z|apply LSet.s));(first|exact True.intro|exact⟨_,rfl,_,rfl,by assumption⟩))|(apply xs;exact rfl;exact rfl;exact rfl;(first|exact Cel.a rfl|exact Cel.o rfl rfl|exact Cel.m (fun _=>rfl));exact rfl;exact rfl;(first|exact Spl.w rfl|(repeat (first|exact Spl.d|(apply Spl.p;(first|exact IsA.c|exact IsA.a4|exact IsA.a32|exact IsA.a8|exact IsA.a20|exact IsA.a64);(first|exact IsA.c|exact IsA.a4|exact IsA.a32|exact IsA.a8|exact IsA.a20|exact IsA.a64))|(apply Spl.s;(first|exact IsA.c|exact IsA.a4|exact IsA.a32|exact IsA.a8|exact IsA.a20|exact IsA.a64);exact rfl))));(repeat (first|exact LSet.z|apply LSet.s));(first|exact True.intro|exact⟨_,rfl,_,rfl,by assumption⟩))|(apply xsX;exact rfl;exact rfl;exact rfl;exact rfl;(first|assumption|exact rL (by assumption));exact rfl;exact rfl;(repeat (first|exact LSet.z|apply LSet.s));(first|exact True.intro|exact⟨_,rfl,_,rfl,by assumption⟩)))|((with_reducible apply aUh);first|(apply aVs;exact rfl;(repeat (first|exact Snoc.n|apply Snoc.c));(first|exact(by simp only[List.length_cons,List.length_nil,Nat.zero_add,Nat.reduceAdd]<;>rfl)|exact rfl);(first|exact True.intro|exact⟨_,rfl,_,rfl,by assumption⟩))|(apply xal;(first|(apply Zro.o;(first|exact OfC.i|exact OfC.b|exact OfC.l|exact OfC.s|exact OfC.p))|(apply Zro.a;repeat (first|exact OfCs.n|(apply OfCs.c;(first|exact OfC.i|exact OfC.b|exact OfC.l|exact OfC.s|exact OfC.p)))));(repeat (first|exact Snoc.n|apply Snoc.c));(first|exact(by simp only[List.length_cons,List.length_nil,Nat.zero_add,Nat.reduceAdd]<;>rfl)|exact rfl);(first|exact True.intro|exact⟨_,rfl,_,rfl,by assumption⟩)))|(apply xbx;exact rfl;(first|exact Cel.a rfl|exact Cel.o rfl rfl|exact Cel.m (fun _=>rfl));(repeat (first|exact Snoc.n|apply Snoc.c));(first|exact(by simp only[List.length_cons,List.length_nil,Nat.zero_add,Nat.reduceAdd]<;>rfl)|exact rfl);(first|exact True.intro|exact⟨_,rfl,_,rfl,by assumption⟩))|((with_reducible apply aTR);first|(apply aUZ;exact rfl;(repeat (first|exact NumK.n|apply NumK.c));exact rfl;exact rfl;exact rfl;exact rfl;(repeat (first|exact Snoc.n|apply Snoc.c));(first|exact(by simp only[List.length_cons,List.length_nil,Nat.zero_add,Nat.reduceAdd]<;>rfl)|exact rfl);(first|exact True.intro|exact⟨_,rfl,_,rfl,by assumption⟩))|(apply aUL;exact rfl;(repeat (first|exact NumR.n|apply NumR.z|apply NumR.c));exact rfl;exact rfl;exact rfl;exact rfl;(repeat (first|exact Snoc.n|apply Snoc.c));(first|exact(by simp only[List.length_cons,List.length_nil,Nat.zero_add,Nat.reduceAdd]<;>rfl)|exact rfl);(first|exact True.intro|exact⟨_,rfl,_,rfl,by assumption⟩))|(apply aVJ;exact rfl;(repeat (first|exact NumB.n|apply NumB.c));exact rfl;exact rfl;exact rfl;exact rfl;(repeat (first|exact Snoc.n|apply Snoc.c));(first|exact(by simp only[List.length_cons,List.length_nil,Nat.zero_add,Nat.reduceAdd]<;>rfl)|exact rfl);(first|exact True.intro|exact⟨_,rfl,_,rfl,by assumption⟩)))|((with_reducible apply aUb);first|(apply xsM;exact rfl;exact rfl;exact rfl;exact rfl;exact rfl;assumption;exact rfl;(first|exact True.intro|exact⟨_,rfl,_,rfl,by assumption⟩)))|((with_reducible apply aUt);first|(apply xsR;exact rfl;exact rfl;exact rfl;exact rfl;exact rfl;assumption;exact rfl;exact rfl;(first|exact True.intro|exact⟨_,rfl,_,rfl,by assumption⟩))|(apply xsL;exact rfl;exact rfl;exact rfl;exact rfl;(first|exact rfl|exact(by simp only[b7,b6,List.length_replicate];done)|exact bE (by assumption)|exact cQ (by assumption));exact rfl;exact rfl;(first|exact True.intro|exact⟨_,rfl,_,rfl,by assumption⟩))|(apply xsE;exact rfl;exact rfl;exact rfl;(first|exact rfl|exact(by simp only[b7,b6,List.length_replicate];done)|exact bE (by assumption)|exact cQ (by assumption));exact rfl;(first|exact True.intro|exact⟨_,rfl,_,rfl,by assumption⟩)))|(apply xno;exact rfl;(first|exact True.intro|exact⟨_,rfl,_,rfl,by assumption⟩))|(apply xbd;exact rfl;(first|(apply Zro.o;(first|exact OfC.i|exact OfC.b|exact OfC.l|exact OfC.s|exact OfC.p))|(apply Zro.a;repeat (first|exact OfCs.n|(apply OfCs.c;(first|exact OfC.i|exact OfC.b|exact OfC.l|exact OfC.s|exact OfC.p)))));(repeat (first|exact Fil.n|(apply Fil.c;exact rfl;(first|exact Cel.a rfl|exact Cel.o rfl rfl|exact Cel.m (fun _=>rfl));exact rfl;exact rfl;(first|exact Spl.w rfl|(repeat (first|exact Spl.d|(apply Spl.p;(first|exact IsA.c|exact IsA.a4|exact IsA.a32|exact IsA.a8|exact IsA.a20|exact IsA.a64);(first|exact IsA.c|exact IsA.a4|exact IsA.a32|exact IsA.a8|exact IsA.a20|exact IsA.a64))|(apply Spl.s;(first|exact IsA.c|exact IsA.a4|exact IsA.a32|exact IsA.a8|exact IsA.a20|exact IsA.a64);exact rfl)))))));(first|exact True.intro|exact⟨_,rfl,_,rfl,by assumption⟩))|(apply xfd;exact rfl;exact rfl;exact rfl;exact rfl;(first|exact True.intro|exact⟨_,rfl,_,rfl,by assumption⟩))|((with_reducible apply aTY);first|(apply xpT;exact rfl;(first|assumption|exact rfl);exact rfl;(first|exact True.intro|exact⟨_,rfl,_,rfl,by assumption⟩))|(apply xpF;exact rfl;(first|assumption|exact rfl);exact rfl;(first|exact True.intro|exact⟨_,rfl,_,rfl,by assumption⟩)))|((with_reducible apply aUl);first|(apply xnp;exact rfl;(first|exact True.intro|exact⟨_,rfl,_,rfl,by assumption⟩))|(apply xne;exact rfl;(first|exact True.intro|exact⟨_,rfl,_,rfl,by assumption⟩)))|(apply xVv;exact rfl;exact rfl)|(apply xXx;exact rfl;exact rfl;assumption))|apply OpsX.nil|((with_reducible apply isA);first|((with_reducible apply xqn);exact rfl)|(with_reducible apply AB.skip)|((with_reducible apply xrn);exact rfl)|(with_reducible apply AB.ret)|(with_reducible apply AB.exit))|(with_reducible apply Ex.then_mk)|(with_reducible apply Ex.inBlock_mk)|(with_reducible apply Ex.then_exit_mk)|(with_reducible apply Ex.inBlock_same_mk)|((with_reducible apply Ex.inBlock_other_mk);exact rfl)|(with_reducible apply Ex.then_ret_mk)|(with_reducible apply Ex.inBlock_ret_mk)));exact kk.1)):p:=h ⟨k⟩
theorem Conv.ptr {α:Type}{E:α→V}{l:List α}{h h':Hp}(hs:Sub h h'){b:Nat}{e:TypeId}(hb:h[b]? =some (some ⟨e,l.map E⟩))(hb':h'[b]? =some none)(hsh: ∀x,(E x).shut=true)(hn:0<l.length):Conv h h' (.ptr b 0) (.eptr [.agg (l.map E)] 0 0):=by
 intro A M w v H hv
 obtain⟨hone,_⟩:=H.blk b _ hb
 unfold VR at hv⊢
 obtain⟨g,sh,hm,rfl,hshp⟩:=hv
 obtain⟨_,⟨hm',_⟩|⟨g',a9,hm',hA,_⟩⟩:=H.blk b _ hb
 ·rw[hm]at hm';cases hm'
 rw[hm]at hm'
 injection hm' with hm'
 injection hm' with hm'
 subst hm'
 obtain⟨vs,hvs,hl⟩:=aFk H hb hm hshp 0
 rw[aWh]at hvs
 have hX: ¬Xs A M h' g:=by
  rintro(ha|⟨c,C,hc,hmc⟩)
  ·exact hA ha
  obtain⟨C',hc'⟩:=hs c C hc
  have:=H.inj c b C' _ g hc' hb hmc hm
  subst this
  rw[hb']at hc;cases hc
 have hc2:VCells (Xs A M h') [] w (l.map E) vs:=VCells.mk hvs.len fun i c u hc hu=>by
  obtain⟨u',hu',hr⟩:=hvs.get hc
  rw[hu]at hu'
  injection hu' with hu'
  subst hu'
  have:c.shut=true:=by
   rw[List.getElem?_map]at hc
   cases hq:l[i]? with
   |none=>rw[hq]at hc;cases hc
   |some y=>rw[hq]at hc;injection hc with hc;subst hc;exact hsh y
  exact(hr.shut this).avoid (fun _ _ hx=>hs.xs hx)
 refine⟨⟨g,0,none⟩,l.length, ?_,hn,fun _=>hX,rfl, ?_, ?_⟩
 ·simp[Addr.add]
 ·intro e' he'
  rw[List.mem_singleton]at he'
  subst he'
  simp only[V.okElem,V.flatOk,V.cells,aWc,beq_iff_eq,aWf,and_true]
  exact aWq.2 hone
 unfold VRow
 refine⟨⟨.agg vs.toArray,by unfold VR;exact⟨vs,rfl,hc2⟩, ?_, ?_⟩,by unfold VRow;trivial⟩
 ·show vs.toArray.size=l.length
  rw[List.size_toArray,←hvs.len,aWf]
 exact hl
inductive PCv (h h':Hp):List (Nat×V)→List (Nat×V)→Prop
 |n:PCv h h' [] []
 |s {t:Nat} {x:V} {fr fr':List (Nat×V)}:PCv h h' fr fr'→PCv h h' ((t,x)::fr) ((t,x)::fr')
 |r {t b q:Nat} {e:TypeId} {cs:List V} {ag:Bool} {fr fr':List (Nat×V)}:h[b]? =some (some ⟨e,cs⟩)→h'[b]? =some none→cs.all V.shut=true→q=cs.length→PCv h h' fr fr'→PCv h h' ((t,.sl b 0 q 1 ag)::fr) ((t,.row none 1 cs)::fr')
 |p {α:Type} {E:α→V} {l:List α} {t b:Nat} {e:TypeId} {fr fr':List (Nat×V)}:h[b]? =some (some ⟨e,l.map E⟩)→h'[b]? =some none→(∀x,(E x).shut=true)→aV1 1 l.length=true→PCv h h' fr fr'→PCv h h' ((t,.ptr b 0)::fr) ((t,.eptr [.agg (l.map E)] 0 0)::fr')
 |k {α:Type} {C:α→List V} {K:Nat} {l:List α} {t b q:Nat} {e:TypeId} {fr fr':List (Nat×V)}:h[b]? =some (some ⟨e,l.flatMap C⟩)→h'[b]? =some none→(∀x,(C x).length=K)→(∀x,(C x).all V.one=true)→(∀x,(C x).all V.shut=true)→q=l.length→PCv h h' fr fr'→PCv h h' ((t,.sl b 0 q K true)::fr) ((t,.row none K (l.map fun x=>V.agg (C x)))::fr')
theorem PCv.get {h h':Hp}(hs:Sub h h'){fr fr':List (Nat×V)}(p:PCv h h' fr fr'): ∀(t:Nat)(y:V),iW fr' t=some y→ ∃x,iW fr t=some x∧Conv h h' x y:=by
 induction p with
 |n=>intro t y hy;cases hy
 | @s u x fr fr' _ ih=>
  intro t y hy
  simp only[iW]at hy⊢
  cases hb:aWl u t with
  |true=>rw[hb]at hy;simp only[cond_true,aVY]at hy ⊢; subst hy;exact⟨x,rfl,Conv.same hs⟩
  |false=>rw[hb]at hy;exact ih t y hy
 | @r u b q e cs ag fr fr' h1 h2 h3 h4 _ ih=>
  intro t y hy
  simp only[iW]at hy⊢
  cases hb:aWl u t with
  |true=>rw[hb]at hy;simp only[cond_true,aVY]at hy ⊢; subst hy;exact⟨_,rfl,Conv.row hs h1 h2 h3 h4⟩
  |false=>rw[hb]at hy;exact ih t y hy
 | @p α E l u b e fr fr' h1 h2 h3 h4 _ ih=>
  intro t y hy
  simp only[iW]at hy⊢
  cases hb:aWl u t with
  |true=>rw[hb]at hy;simp only[cond_true,aVY]at hy ⊢; subst hy;exact⟨_,rfl,Conv.ptr hs h1 h2 h3 (aVT h4)⟩
  |false=>rw[hb]at hy;exact ih t y hy
 | @k α C K l u b q e fr fr' h1 h2 h3 h4 h5 h6 _ ih=>
  intro t y hy
  simp only[iW]at hy⊢
  cases hb:aWl u t with
  |true=>rw[hb]at hy;simp only[cond_true,aVY]at hy ⊢; subst hy;exact⟨_,rfl,Conv.rowK h3 h4 h5 hs h1 h2 h6⟩
  |false=>rw[hb]at hy;exact ih t y hy
theorem Ghost.fz {N n b:Nat}{fr fr':List (Nat×V)}{h h':Hp}(he:h.set b none=h')(hp:PCv h h' fr fr'):Ghost N (aI n fr) h (aI n fr') h':=by
 subst he
 have hg: ∀{j:Nat}{B:Blk},(h.set b none)[j]? =some (some B)→h[j]? =some (some B):=by
  intro j B hj
  by_cases hij:b=j
  ·subst hij
   rw[List.getElem?_set]at hj
   split at hj
   ·split at hj<;>cases hj
   rename_i hne;exact absurd rfl hne
  rwa[aWg hij]at hj
 have hs:Sub h (h.set b none):=fun j B hj=>⟨B,hg hj⟩
 intro A M a w hN R
 refine⟨M,rfl,⟨⟨by rw[aWs];exact R.hr.len,R.hr.alt, ?_, ?_,R.hr.glob.avoid fun g _ hx=>hx.elim .inl (fun hl=> .inr (hs.live hl))⟩, ?_,R.defers⟩,fun g hl=>hs.live hl⟩
 ·intro j B hj
  obtain⟨h1,h2⟩:=R.hr.blk j B (hg hj)
  refine⟨h1, ?_⟩
  rcases h2 with⟨hn,hc0⟩|⟨g,cs,hgm,hA,hw,hle,hcs⟩
  ·exact .inl ⟨hn,hc0⟩
  exact .inr ⟨g,cs,hgm,hA,hw,hle,hcs.avoid (fun g _ hx=>hs.xs hx)⟩
 ·intro i j B C g hi hj mi mj
  exact R.hr.inj i j B C g (hg hi) (hg hj) mi mj
 exact aGx R.sr (fun t y hy=>by
  obtain⟨x,hx,hl⟩:=hp.get hs t y hy
  exact⟨x,hx,fun v hv=>hl A M w v R.hr hv⟩)
theorem zv {N n:Nat}{fr fr':List (Nat×V)}{h h':Hp}(b:Nat) (he:LSet h b none h':=by(repeat (first|exact LSet.z|apply LSet.s)))
  (hp:PCv h h' fr fr':=by(repeat (first|exact PCv.n|(apply PCv.p;exact rfl;exact rfl;exact(fun _=>rfl);(first|exact rfl|exact aSI (by assumption) rfl|exact arp_pos (by assumption) rfl))|(apply PCv.r;exact rfl;exact rfl;exact gL (fun _=>rfl);(first|exact rfl|exact(by rw[List.length_map];first|exact(bE (by assumption)).symm|exact(cQ (by assumption)).symm)|exact(by simp only[List.length_map,b7,b6];done)))|(apply PCv.k;exact rfl;exact rfl;exact(fun _=>rfl);exact(fun _=>rfl);exact(fun _=>rfl);(first|exact rfl|exact(by simp only[b7,b6])))|apply PCv.s))):Ghost N (aI n fr) h (aI n fr') h':=Ghost.fz he.eq hp
theorem aTW {vn:Nat→Bool}{f:Nat→Nat}{c d:V}{cs ds:List V}(h:V.le vn c (d.rn f))(k:V.les vn cs (V.rns f ds)):V.les vn (c::cs) (V.rns f (d::ds)):=by
 simp only[V.rns];exact V.les_cons h k
theorem lev {p:Prop} (h:p:=by(repeat (first|exact V.les_refl _ _|exact V.les_nil|exact V.le_refl _ _|exact V.le_nil|exact V.le_row|exact V.le_arr (fun _=>rfl)|exact V.le_virt rfl|exact aEv (fun _=>rfl) _|exact aDp (fun _=>rfl) _|apply aTW|apply les_b32|apply les_b4|apply les_b8|apply les_b20|apply les_b64|apply le_a|apply le_t|exact(by simp only[b7,b6];exact V.le_refl _ _)))):p:=h
theorem aLE {p:Prop} (h:p:=by first|exact rfl|exact all_map (fun _=>rfl) _|exact q7 (fun _=>rfl) _):p:=h
theorem lK {N n:Nat}{fr fr':List (Nat×V)}{h h':Hp}(σ:List Nat)
  (hf:FLe noN (V.rn (sg σ h.length)) fr fr':=by(repeat (first|exact FLe.nil|refine FLe.same rfl ?_|refine FLe.le rfl lev ?_)))
  (hh:HLe (sg σ h.length) h σ h':=by(repeat (first|exact HLe.nil|refine HLe.dead ?_|refine HLe.live rfl lev aLE ?_)))
  (hσ:σ.take N=List.range N:=by rfl) (hlt:σ.all (fun b=>Nat.blt b h.length)=true:=by rfl) (hnd:ndB (lvs σ h')=true:=by rfl):Ghost N (aI n fr) h (aI n fr') h':=Ghost.rn σ hσ hlt hf hh hnd
theorem FLe.mapg {vn:Nat→Bool}{g:V→V}{fr:List (Nat×V)}: ∀{fr':List (Nat×V)},FLe vn g fr fr'→FLe vn id fr (fr'.map fun p=>(p.1,g p.2))
 | [],_=>FLe.nil
 |(t,y)::r,h=>⟨h.1,FLe.mapg h.2⟩
theorem aLs {g:V→V}: ∀{fr:List (Nat×V)}{t:Nat}{y:V},iW fr t=some y→iW (fr.map fun p=>(p.1,g p.2)) t=some (g y)
 | [],_,_,h=>by cases h
 |(u,x)::r,t,y,h=>by
  simp only[iW,aV6]at h⊢
  cases hb:aWl u t with
  |true=>rw[hb]at h;simp only[cond_true,aVY]at h ⊢; rw[h]
  |false=>rw[hb]at h;exact aLs h
theorem FLe.ofmap {g:V→V}{L:List (Nat×V)}: ∀{fr:List (Nat×V)},(∀t y,(t,y)∈fr→iW L t=some y)→FLe noN g (L.map fun p=>(p.1,g p.2)) fr
 | [],_=>FLe.nil
 |(t,y)::r,h=>FLe.same (aLs (h t y (by simp))) (FLe.ofmap fun u z hz=>h u z (by simp[hz]))
def aGl :List (Nat×V)→List (Nat×V)→Bool
 |_,[]=>true
 |L,(t,_)::r=> !((r.map (·.1)).elem t)&&aGl L r
theorem aOl : ∀{L:List (Nat×V)},aGl L L=true→ ∀t y,(t,y)∈L→iW L t=some y:=by
 have key: ∀{K L:List (Nat×V)},aGl K L=true→ ∀t y,(t,y)∈L→iW L t=some y:=by
  intro K L
  induction L with
  |nil=>intro _ t y h;cases h
  |cons p r ih=>
   obtain⟨u,x⟩:=p
   intro h t y hm
   simp only[aGl,aWc,Bool.not_eq_true']at h
   simp only[iW]
   rcases List.mem_cons.1 hm with he|hm
   ·cases he;simp
   have:u≠t:=fun he=>by
    subst he
    have h1:(r.map (·.1)).elem u=true:=List.elem_eq_true_of_mem (List.mem_map.2 ⟨_,hm,rfl⟩)
    rw[h1]at h;exact absurd h.1 (by simp)
   have hb:aWl u t=false:=by
    cases hb:aWl u t with
    |true=>exact absurd (Nat.eq_of_beq_eq_true hb) this
    |false=>rfl
   rw[hb];exact ih h.2 t y hm
 exact fun{L} h=>key h
theorem zW {N n:Nat}{fr fr':List (Nat×V)}{h h':Hp}(e:TypeId)(σ:List Nat)
  (hf:FLe (fun b=>Nat.beq b h.length) (V.rn (sg σ (h++[some (Blk.mk e [])]).length)) fr fr':=by(repeat (first|exact FLe.nil|refine FLe.same rfl ?_|refine FLe.le rfl lev ?_)))
  (h1:HLv (fun b=>Nat.beq b h.length) h h:=by(repeat (first|exact HLv.nil|refine HLv.dead ?_|refine HLv.live (V.les_refl _ _) aLE ?_)))
  (hh:HLe (sg σ (h++[some (Blk.mk e [])]).length) (h++[some (Blk.mk e [])]) σ h':=by(repeat (first|exact HLe.nil|refine HLe.dead ?_|refine HLe.live rfl lev aLE ?_)))
  (hσ:σ.take N=List.range N:=by rfl) (hlt:σ.all (fun b=>Nat.blt b (h++[some (Blk.mk e [])]).length)=true:=by rfl) (hnd:ndB (lvs σ h')=true:=by rfl) (hk:aGl fr' fr'=true:=by rfl):Ghost N (aI n fr) h (aI n fr') h':=
 Ghost.trans (Ghost.virt e hf.mapg h1) (Ghost.rn σ hσ hlt (FLe.ofmap (aOl hk)) hh hnd)
section
variable {P:Program}{fn:Func}{n N:Nat}{fr:List (Nat×V)}{s:List V}{h h':Hp}{r a b c x:V}{o p:Nat}{e:TypeId}{cs ds:List V}{t u w:Nat}{ty:TypeId}
inductive RsV (P:Program)(n:Nat)(fr:List (Nat×V))(h:Hp):ResultVar→V→Prop
 |t {t:Nat} {x:V}:bZ n fr (.tmp t)=some x→RsV P n fr h (.tmp t) x
 |c {t i o:Nat} {ty:TypeId} {v:V}:bZ n fr (.tmp t)=some (.ptr i o)→fY P ty h (.ptr i o)=some v→RsV P n fr h (.cell t ty) v
theorem RsV.eq {q:ResultVar}(hr:RsV P n fr h q x):nD P (aI n fr) h q=some x:=by
 cases hr with
 |t h1=>exact rvT h1
 |c h1 h2=>exact rvC h1 h2
theorem lvN {fs:Array Field}{sz by_:Nat}{zz:Value} [T:TiC P ty ⟨.struct fs,sz,by_,zz⟩] (hb:h[o]? =some (some ⟨e,cs⟩)) (hc:Tak cs p sz ds):fY P ty h (.ptr o p)=some (.agg ds):=ldP hb (aCJ T.h rfl hc.eq.2 hc.eq.1)
theorem lvB {α:Type}{E:α→V}{ml:List α}{N' sz by_:Nat}{zz:Value}{w:TypeId} [T:TiC P ty ⟨.array N' w,sz,by_,zz⟩] (hb:h[o]? =some (some ⟨e,ml.map E⟩)) (hz:sz=N') (hl:ml.length=N'):fY P ty h (.ptr o 0)=some (.agg (ml.map E)):=ldA T.h hz hb hl
theorem iA {q:ResultVar}(hr:fn.results= #[q])(ha:RsV P n fr h q a)(hg:Ghost N (aI 1 [(0,a)]) h (aI 1 [(0,r)]) h'):aDq P fn N r h' .ret (aI n fr) h:=aBH (aSK hr ha.eq) hg
theorem nX {q q':ResultVar}(hr:fn.results= #[q,q'])(ha:RsV P n fr h q a)(hb:RsV P n fr h q' b)(hg:Ghost N (aI 1 [(0,.tup [a,b])]) h (aI 1 [(0,r)]) h'):aDq P fn N r h' .ret (aI n fr) h:=aBH (bQ hr ha.eq hb.eq) hg
theorem wP {q q' q'':ResultVar}(hr:fn.results= #[q,q',q''])(ha:RsV P n fr h q a)(hb:RsV P n fr h q' b)(hc:RsV P n fr h q'' c)(hg:Ghost N (aI 1 [(0,.tup [a,b,c])]) h (aI 1 [(0,r)]) h'):aDq P fn N r h' .ret (aI n fr) h:=aBH (vK hr ha.eq hb.eq hc.eq) hg
theorem zn0 (hr:fn.results= #[])(hg:Ghost N (aI 1 [(0,.tup [])]) h (aI 1 [(0,r)]) h'):aDq P fn N r h' .normal s h:=aOP (aUW hr) hg
end
theorem bH {p:Prop} (h:p:=by first|exact RsV.t rfl|(apply RsV.c;exact rfl;first|(apply lv1;exact rfl;exact rfl;exact rfl)|(apply lvB;exact rfl;exact rfl;first|exact rfl|exact bE (by assumption)|exact cQ (by assumption))|(apply lvN;exact rfl;exact Tak.w rfl))):p:=h
end Go.Vm
set_option maxRecDepth 20000
set_option maxHeartbeats 1000000
namespace Go.Proofs.YtbjiaghljpoliaaGreatDoor
open Go Go.Vm
structure aW where
 Tx:List Int
 Index:Int
abbrev fV (x:aW):List V:=(bG (eI .u8) x.Tx [(eI .u32 x.Index)])
abbrev aIM (x:aW):V:= .agg (fV x)
@[simp] theorem eK {f:Nat→Nat}(l:List aW):V.rns f (l.flatMap fV)=l.flatMap fV:=iE (fun _=>rfl) l
@[simp] theorem eH {f:Nat→Nat}(x:aW):V.rns f (fV x)=fV x:=rfl
structure aK where
 Prev:aW
 Sequence:Int
 Witness:List (List Int)
abbrev dL (x:aK):List V:=(bG (eI .u8) x.Prev.Tx [(eI .u32 x.Prev.Index),(eI .u32 x.Sequence),(.row none 1 (x.Witness.map (eL 1 (eI .u8))))])
abbrev aO (x:aK):V:= .agg (dL x)
@[simp] theorem gE {f:Nat→Nat}(l:List aK):V.rns f (l.flatMap dL)=l.flatMap dL:=iE (fun _=>rfl) l
@[simp] theorem f9 {f:Nat→Nat}(x:aK):V.rns f (dL x)=dL x:=rfl
structure aG where
 Value:Int
 Script:List Int
abbrev eW (x:aG):List V:=[(eI .i64 x.Value),(.row none 1 (x.Script.map (eI .u8)))]
abbrev aP (x:aG):V:= .agg (eW x)
@[simp] theorem fK {f:Nat→Nat}(l:List aG):V.rns f (l.flatMap eW)=l.flatMap eW:=iE (fun _=>rfl) l
@[simp] theorem fJ {f:Nat→Nat}(x:aG):V.rns f (eW x)=eW x:=rfl
abbrev aCs (e:aW×Bool):List V:=(bG (eI .u8) e.1.Tx [(eI .u32 e.1.Index),(eB e.2)])
def aEe (a b:aW):Bool:=(aCR a.Tx b.Tx ((a.Index == b.Index)&&true))
@[simp] theorem qT {f:Nat→Nat}(l:List (aW×Bool)):V.rns f (l.flatMap aCs)=l.flatMap aCs:=iE (fun _=>rfl) l
structure cU where
 Out:aW
 Output:aG
 Height:Int
 Coinbase:Bool
abbrev iJ (x:cU):List V:=(bG (eI .u8) x.Out.Tx [(eI .u32 x.Out.Index),(eI .i64 x.Output.Value),(.row none 1 (x.Output.Script.map (eI .u8))),(eI .i64 x.Height),(eB x.Coinbase)])
abbrev uM (x:cU):V:= .agg (iJ x)
@[simp] theorem gY {f:Nat→Nat}(l:List cU):V.rns f (l.flatMap iJ)=l.flatMap iJ:=iE (fun _=>rfl) l
@[simp] theorem gT {f:Nat→Nat}(x:cU):V.rns f (iJ x)=iJ x:=rfl
structure aX where
 Code:Int
 Data:List Int
 M:Int
 N:Int
abbrev cO (x:aX):List V:=[(eI .i64 x.Code),(.row none 1 (x.Data.map (eI .u8))),(eI .i64 x.M),(eI .i64 x.N)]
abbrev wZ (x:aX):V:= .agg (cO x)
@[simp] theorem jG {f:Nat→Nat}(l:List aX):V.rns f (l.flatMap cO)=l.flatMap cO:=iE (fun _=>rfl) l
@[simp] theorem jM {f:Nat→Nat}(x:aX):V.rns f (cO x)=cO x:=rfl
structure aM where
 outer:Bool
 taken:Bool
abbrev aV (x:aM):List V:=[(eB x.outer),(eB x.taken)]
@[simp] theorem d6 {f:Nat→Nat}(l:List aM):V.rns f (l.flatMap aV)=l.flatMap aV:=iE (fun _=>rfl) l
@[simp] theorem dZ {f:Nat→Nat}(x:aM):V.rns f (aV x)=aV x:=rfl
structure bB where
 reached:Bool
 done:Bool
abbrev bP (x:bB):List V:=[(eB x.reached),(eB x.done)]
abbrev aDC (x:bB):V:= .agg (bP x)
@[simp] theorem cG {f:Nat→Nat}(l:List bB):V.rns f (l.flatMap bP)=l.flatMap bP:=iE (fun _=>rfl) l
@[simp] theorem cF {f:Nat→Nat}(x:bB):V.rns f (bP x)=bP x:=rfl
def vR (N:Nat)(l0:List Int):Option (List Int):=
 some l0
def kH (N:Nat)(vn d7:Int):Nat→Int→(List Int)→Option (List Int)
 |0,_,_=>none
 |m+1,cD,aS=>
  if decide (cD<d7) then
   (shr .u64 vn (aVO.wrap (8*cD))).bind fun x18=>
   (bY aS cD).bind fun bS=>
   (kH N vn d7 m) (aVO.wrap (cD+1)) (aS.set (aVS cD) (aVV.wrap x18))
  else
   some aS
def qF (N:Nat)(vn d7:Int):Option (List Int):=
 (mks 1 0 d7).bind fun x8=>
 (kH N vn d7 N 0 x8).bind fun p2=>
 vR N p2
def gX (N:Nat)(b vs:List Int):Option (List Int):=
 (mks 1 0 (aVO.wrap ((b.length:Int)+(vs.length:Int)))).bind fun b4=>
 (eE 1 (b4.take 0) b).bind fun bR=>
 (eE 1 bR vs).bind fun x17=>
 some x17
def hH (N:Nat)(b:List Int)(vn:Int):Option (List Int):=
 (qF N (aVR.wrap vn) 4).bind fun x8=>
 (gX N b x8).bind fun x9=>
 some x9
def vY (N:Nat)(b:List Int)(vn:Int):Option (List Int):=
 (qF N (aVR.wrap vn) 2).bind fun x8=>
 (gX N b x8).bind fun x9=>
 some x9
def mD (N:Nat)(b:List Int)(vn:Int):Option (List Int):=
 (qF N vn 8).bind fun x7=>
 (gX N b x7).bind fun x8=>
 some x8
def jJ (N:Nat)(b:List Int)(vn:Int):Option (List Int):=
 if decide (vn<253) then
  (gX N b [aVV.wrap vn]).bind fun fC=>
  some fC
 else
  if decide (vn<65536) then
   (gX N b [253]).bind fun x18=>
   (vY N x18 (IntKind.u16.wrap vn)).bind fun d9=>
   some d9
  else
   if decide (vn<4294967296) then
    (gX N b [254]).bind fun x27=>
    (hH N x27 (aVQ.wrap vn)).bind fun lL=>
    some lL
   else
    (gX N b [255]).bind fun jY=>
    (mD N jY vn).bind fun x35=>
    some x35
def uT (N:Nat)(b vh:List Int):Option (List Int):=
 (a9 32 vh).bind fun q=>
 (gX N b vh).bind fun x7=>
 some x7
def aBA (N:Nat)(y4:List Int)(oZ:Int):Option (List Int):=
 (a9 32 y4).bind fun q=>
 (uT N [] y4).bind fun x5=>
 (hH N x5 oZ).bind fun x8=>
 some x8
def kC (N:Nat)(b vs:List Int):Option (List Int):=
 (jJ N b (aVR.wrap (vs.length:Int))).bind fun x9=>
 (gX N x9 vs).bind fun b4=>
 some b4
def aDr (N:Nat)(l0:List Int):Option (List Int):=
 some l0
def aBm (N:Nat)(aA:List aK)(x79:Int)(rec:Int→(List Int)→Option (List Int))(fM:List Int):Option (List Int):=
 rec (aVO.wrap (x79+1)) fM
def lV (N:Nat)(aA:List aK)(x79:Int)(x81:aK):Nat→Int→(List Int)→Option (List Int)
 |0,_,_=>none
 |m+1,x93,fX=>
  if decide (x93<(x81.Witness.length:Int)) then
   (bY x81.Witness x93).bind fun x95=>
   (kC N [] x95).bind fun x99=>
   (eE 1 fX x99).bind fun aHt=>
   (lV N aA x79 x81 m) (aVO.wrap (x93+1)) aHt
  else
   some fX
def kO (N:Nat)(aA:List aK):Nat→Int→(List Int)→Option (List Int)
 |0,_,_=>none
 |m+1,x79,aS=>
  if decide (x79<(aA.length:Int)) then
   (bY aA x79).bind fun x81=>
   (jJ N [] (aVR.wrap (x81.Witness.length:Int))).bind fun x88=>
   (eE 1 aS x88).bind fun x89=>
   (lV N aA x79 x81 N 0 x89).bind fun p6=>
   aBm N aA x79 (kO N aA m) p6
  else
   some aS
def aAH (N:Nat)(aD:Int)(aA:List aK)(aB:List aG)(aE:Int)(bJ:Bool)(cS:List Int):Option (List Int):=
 (hH N [] aE).bind fun x71=>
 (eE 1 cS x71).bind fun x72=>
 if !bJ then
  some x72
 else
  (kO N aA N 0 x72).bind fun p4=>
  aDr N p4
def mA (N:Nat)(aD:Int)(aA:List aK)(aB:List aG)(aE:Int)(bJ:Bool):Nat→Int→(List Int)→Option (List Int)
 |0,_,_=>none
 |m+1,x52,l1_2=>
  if decide (x52<(aB.length:Int)) then
   (bY aB x52).bind fun x54=>
   (mD N [] (aVR.wrap x54.Value)).bind fun x60=>
   (eE 1 l1_2 x60).bind fun x61=>
   (kC N [] x54.Script).bind fun x65=>
   (eE 1 x61 x65).bind fun x66=>
   (mA N aD aA aB aE bJ m) (aVO.wrap (x52+1)) x66
  else
   some l1_2
def aAV (N:Nat)(aD:Int)(aA:List aK)(aB:List aG)(aE:Int)(bJ:Bool)(l1:List Int):Option (List Int):=
 (jJ N [] (aVR.wrap (aB.length:Int))).bind fun x47=>
 (eE 1 l1 x47).bind fun x48=>
 (mA N aD aA aB aE bJ N 0 x48).bind fun p7=>
 aAH N aD aA aB aE bJ p7
def mE (N:Nat)(aD:Int)(aA:List aK)(aB:List aG)(aE:Int)(bJ:Bool):Nat→Int→(List Int)→Option (List Int)
 |0,_,_=>none
 |m+1,x27,l1_3=>
  if decide (x27<(aA.length:Int)) then
   (bY aA x27).bind fun x29=>
   (aBA N x29.Prev.Tx x29.Prev.Index).bind fun cV=>
   (eE 1 l1_3 cV).bind fun x35=>
   (hH N [] x29.Sequence).bind fun x39=>
   (eE 1 x35 x39).bind fun x40=>
   (mE N aD aA aB aE bJ m) (aVO.wrap (x27+1)) x40
  else
   some l1_3
def aAB (N:Nat)(aD:Int)(aA:List aK)(aB:List aG)(aE:Int)(bJ:Bool):Option (List Int):=
 (hH N [] aD).bind fun x16=>
 (jJ N [] (aVR.wrap (aA.length:Int))).bind fun bX=>
 (eE 1 x16 bX).bind fun iB=>
 (mE N aD aA aB aE bJ N 0 iB).bind fun p8=>
 aAV N aD aA aB aE bJ p8
def aCZ (N:Nat)(aD:Int)(aA:List aK)(aB:List aG)(aE:Int):Option Bool:=
 (aAB N aD aA aB aE true).bind fun x60=>
 some (decide ((x60.length:Int)≤20000))
def aCN (N:Nat)(aD:Int)(aA:List aK)(aB:List aG)(aE x39:Int)(rec:Int→Option (LR (Unit) (Bool))):Option (LR (Unit) (Bool)):=
 rec (aVO.wrap (x39+1))
def pK (N:Nat)(aD:Int)(aA:List aK)(aB:List aG)(aE x39:Int)(x41:aK):Nat→Int→Option (LR (Unit) (Bool))
 |0,_=>none
 |m+1,x50=>
  if decide (x50<(x41.Witness.length:Int)) then
   (bY x41.Witness x50).bind fun x52=>
   if decide (520<(x52.length:Int)) then
    some (.ret false)
   else
    (pK N aD aA aB aE x39 x41 m) (aVO.wrap (x50+1))
  else
   some (.brk ())
def pN (N:Nat)(aD:Int)(aA:List aK)(aB:List aG)(aE:Int):Nat→Int→Option (LR (Unit) (Bool))
 |0,_=>none
 |m+1,x39=>
  if decide (x39<(aA.length:Int)) then
   (bY aA x39).bind fun x41=>
   if decide (32<(x41.Witness.length:Int)) then
    some (.ret false)
   else
    (pK N aD aA aB aE x39 x41 N 0).bind fun q=>match q with
     | .ret v=>some (.ret v)
     | .brk p6=>
      aCN N aD aA aB aE x39 (pN N aD aA aB aE m)
  else
   some (.brk ())
def aCI (N:Nat)(aD:Int)(aA:List aK)(aB:List aG)(aE:Int):Option Bool:=
 (pN N aD aA aB aE N 0).bind fun q=>match q with
  | .ret v=>some v
  | .brk p4=>
   aCZ N aD aA aB aE
def aAG (N:Nat)(aD:Int)(aA:List aK)(aB:List aG)(aE bX:Int)(rec:Int→Option (LR (Unit) (Bool)))(cV:Bool):Option (LR (Unit) (Bool)):=
 if cV then
  some (.ret false)
 else
  rec (aVO.wrap (bX+1))
def oD (N:Nat)(aD:Int)(aA:List aK)(aB:List aG)(aE:Int):Nat→Int→Option (LR (Unit) (Bool))
 |0,_=>none
 |m+1,bX=>
  if decide (bX<(aB.length:Int)) then
   (bY aB bX).bind fun fG=>
   if decide (fG.Value<0) then
    aAG N aD aA aB aE bX (oD N aD aA aB aE m) true
   else
    aAG N aD aA aB aE bX (oD N aD aA aB aE m) (decide (520<(fG.Script.length:Int)))
  else
   some (.brk ())
def aA7 (N:Nat)(aD:Int)(aA:List aK)(aB:List aG)(aE:Int)(x18:Bool):Option Bool:=
 if x18 then
  some false
 else
  (oD N aD aA aB aE N 0).bind fun q=>match q with
   | .ret v=>some v
   | .brk p7=>
    aCI N aD aA aB aE
def aC4 (N:Nat)(aD:Int)(aA:List aK)(aB:List aG)(aE:Int):Option Bool:=
 if decide (64<(aA.length:Int)) then
  aA7 N aD aA aB aE true
 else
  aA7 N aD aA aB aE (decide (64<(aB.length:Int)))
def aEa (N:Nat):Option Bool:=
 some true
def y9 (N:Nat)(l:List aG):Nat→Int→Int→Option (LR (Unit) (Bool))
 |0,_,_=>none
 |m+1,sum,x8=>
  if decide (x8<(l.length:Int)) then
   (bY l x8).bind fun cD=>
   if decide ((aVO.wrap (2100000000000000-sum))<cD.Value) then
    some (.ret false)
   else
    (y9 N l m) (aVO.wrap (sum+cD.Value)) (aVO.wrap (x8+1))
  else
   some (.brk ())
def aHg (N:Nat)(l:List aG):Option Bool:=
 (y9 N l N 0 0).bind fun q=>match q with
  | .ret v=>some v
  | .brk p2=>
   aEa N
def aJC (N:Nat)(y4:List Int)(oZ:Int):Option Bool:=
 some (aCR y4 (aVP 32 0) ((oZ == 4294967295)&&true))
def yW (N:Nat)(x2:Bool):Option Bool:=
 some x2
def aEf (N:Nat)(aD:Int)(aA:List aK)(aB:List aG)(aE:Int):Option Bool:=
 if(aA.length:Int) == 1 then
  (bY aA 0).bind fun cD=>
  (aJC N cD.Prev.Tx cD.Prev.Index).bind fun d5=>
  yW N d5
 else
  yW N false
def aB6 (N:Nat)(x46:Bool):Option Int:=
 if x46 then
  some 92
 else
  some 0
def aEi (N:Nat)(aD:Int)(aA:List aK)(aB:List aG)(aE:Int)(l1:List (aW×Bool)):Option Int:=
 if aFi aEe l1 (aW.mk (aVP 32 0) 4294967295) false then
  (aEf N aD aA aB aE).bind fun x44=>
  aB6 N (!x44)
 else
  aB6 N false
def zK (N:Nat)(aD:Int)(aA:List aK)(aB:List aG)(aE:Int):Nat→Int→(List (aW×Bool))→Option (LR ((List (aW×Bool))) (Int))
 |0,_,_=>none
 |m+1,x27,cS=>
  if decide (x27<(aA.length:Int)) then
   (bY aA x27).bind fun x29=>
   if aFi aEe cS x29.Prev false then
    some (.ret 91)
   else
    (zK N aD aA aB aE m) (aVO.wrap (x27+1)) (aIX aEe cS x29.Prev true)
  else
   some (.brk cS)
def aB9 (N:Nat)(aD:Int)(aA:List aK)(aB:List aG)(aE:Int)(x18:Bool):Option Int:=
 if x18 then
  some 93
 else
  (aHg N aB).bind fun d9=>
  if !d9 then
   some 90
  else
   (zK N aD aA aB aE N 0 []).bind fun q=>match q with
    | .ret v=>some v
    | .brk p4=>
     aEi N aD aA aB aE p4
def aHp (N:Nat)(aD:Int)(aA:List aK)(aB:List aG)(aE:Int):Option Int:=
 (aC4 N aD aA aB aE).bind fun x7=>
 if !x7 then
  some 4
 else
  if(aA.length:Int) == 0 then
   aB9 N aD aA aB aE true
  else
   aB9 N aD aA aB aE ((aB.length:Int) == 0)
def aDn (N:Nat)(aIJ:Int):Option (Int×Bool):=
 some (aIJ,true)
def aBj (N:Nat)(l:List cU)(nM x9:Int)(b4:cU)(rec:Int→Int→Option (LR (Int) (Int×Bool)))(fG:Bool):Option (LR (Int) (Int×Bool)):=
 if fG then
  some (.ret (0,false))
 else
  rec (aVO.wrap (nM+b4.Output.Value)) (aVO.wrap (x9+1))
def q6 (N:Nat)(l:List cU):Nat→Int→Int→Option (LR (Int) (Int×Bool))
 |0,_,_=>none
 |m+1,nM,x9=>
  if decide (x9<(l.length:Int)) then
   (bY l x9).bind fun b4=>
   if decide (b4.Output.Value<0) then
    aBj N l nM x9 b4 (q6 N l m) true
   else
    aBj N l nM x9 b4 (q6 N l m) (decide ((aVO.wrap (2100000000000000-nM))<b4.Output.Value))
  else
   some (.brk nM)
def aFO (N:Nat)(l:List cU):Option (Int×Bool):=
 (q6 N l N 0 0).bind fun q=>match q with
  | .ret v=>some v
  | .brk p2=>
   aDn N p2
def aDA (N:Nat)(fee:Int):Option (Int×Int):=
 if decide (fee<0) then
  some (0,100)
 else
  some (fee,0)
def xB (N:Nat)(aB:List aG):Nat→Int→Int→Option Int
 |0,_,_=>none
 |m+1,fee_1,x51=>
  if decide (x51<(aB.length:Int)) then
   (bY aB x51).bind fun x53=>
   (xB N aB m) (aVO.wrap (fee_1-x53.Value)) (aVO.wrap (x51+1))
  else
   some fee_1
def aDb (N:Nat)(aD:Int)(aA:List aK)(aB:List aG)(aE:Int)(l:List cU):Option (Int×Int):=
 (aFO N l).bind fun x43=>
 if !x43.2 then
  some (0,90)
 else
  (xB N aB N x43.1 0).bind fun p3=>
  aDA N p3
def yB (N:Nat)(aD:Int)(aA:List aK)(aB:List aG)(aE:Int)(l:List cU):Nat→Int→Option (LR (Unit) (Int×Int))
 |0,_=>none
 |m+1,x26=>
  if decide (x26<(l.length:Int)) then
   (bY l x26).bind fun x29=>
   (bY aA x26).bind fun x36=>
   if !(aCR x29.Out.Tx x36.Prev.Tx ((x29.Out.Index == x36.Prev.Index)&&true)) then
    some (.ret (0,101))
   else
    (yB N aD aA aB aE l m) (aVO.wrap (x26+1))
  else
   some (.brk ())
def aDO (N:Nat)(aD:Int)(aA:List aK)(aB:List aG)(aE:Int)(l:List cU):Option (Int×Int):=
 (aHp N aD aA aB aE).bind fun bR=>
 if bR != 0 then
  some (0,bR)
 else
  if(l.length:Int) != (aA.length:Int) then
   some (0,8)
  else
   (yB N aD aA aB aE l N 0).bind fun q=>match q with
    | .ret v=>some v
    | .brk p4=>
     aDb N aD aA aB aE l
def uZ (N:Nat)(x0:Bool):Option Bool:=
 some x0
def aCV (N:Nat):Option Bool:=
 (aDO N 0 [(aK.mk (aW.mk (aVP 32 0) 1) 0 []),(aK.mk (aW.mk (aVP 32 0) 2) 0 [])] [(aG.mk 10 [])] 0 [(cU.mk (aW.mk (aVP 32 0) 1) (aG.mk 5 []) 0 false),(cU.mk (aW.mk (aVP 32 0) 2) (aG.mk 7 []) 0 false)]).bind fun x29=>
 (bY [(aG.mk 10 [])] 0).bind fun cV=>
 (aDO N 0 [(aK.mk (aW.mk (aVP 32 0) 1) 0 []),(aK.mk (aW.mk (aVP 32 0) 2) 0 [])] ([(aG.mk 10 [])].set (aVS 0) (aG.mk 13 cV.Script)) 0 [(cU.mk (aW.mk (aVP 32 0) 1) (aG.mk 5 []) 0 false),(cU.mk (aW.mk (aVP 32 0) 2) (aG.mk 7 []) 0 false)]).bind fun x39=>
 if x29.2 == 0 then
  if x29.1 == 2 then
   uZ N (x39.2 == 100)
  else
   uZ N false
 else
  uZ N false
def aCy (N:Nat):Option Bool:=
 some true
def mW (N:Nat)(l:List (List Int))(vm:Int):Nat→Int→Option (LR (Unit) (Bool))
 |0,_=>none
 |m+1,x15=>
  if decide (x15<(l.length:Int)) then
   (bY l x15).bind fun x17=>
   if decide (vm<(x17.length:Int)) then
    some (.ret false)
   else
    (mW N l vm m) (aVO.wrap (x15+1))
  else
   some (.brk ())
def aAW (N:Nat)(l:List (List Int))(vn vm:Int):Option Bool:=
 if decide (vn<(l.length:Int)) then
  some false
 else
  (mW N l vm N 0).bind fun q=>match q with
   | .ret v=>some v
   | .brk p2=>
    aCy N
def aE0 (N:Nat):Option Bool:=
 some true
def sA (N:Nat)(aB:List aG):Nat→Int→Option (LR (Unit) (Bool))
 |0,_=>none
 |m+1,nW=>
  if decide (nW<(aB.length:Int)) then
   (bY aB nW).bind fun cV=>
   if decide (600<(cV.Script.length:Int)) then
    some (.ret false)
   else
    (sA N aB m) (aVO.wrap (nW+1))
  else
   some (.brk ())
def aCK (N:Nat)(aD:Int)(aA:List aK)(aB:List aG)(aE:Int):Option Bool:=
 (sA N aB N 0).bind fun q=>match q with
  | .ret v=>some v
  | .brk p4=>
   aE0 N
def r8 (N:Nat)(aD:Int)(aA:List aK)(aB:List aG)(aE:Int):Nat→Int→Option (LR (Unit) (Bool))
 |0,_=>none
 |m+1,bS=>
  if decide (bS<(aA.length:Int)) then
   (bY aA bS).bind fun bX=>
   (aAW N bX.Witness 40 600).bind fun x26=>
   if !x26 then
    some (.ret false)
   else
    (r8 N aD aA aB aE m) (aVO.wrap (bS+1))
  else
   some (.brk ())
def aA8 (N:Nat)(aD:Int)(aA:List aK)(aB:List aG)(aE:Int)(x16:Bool):Option Bool:=
 if x16 then
  some false
 else
  (r8 N aD aA aB aE N 0).bind fun q=>match q with
   | .ret v=>some v
   | .brk p5=>
    aCK N aD aA aB aE
def aEA (N:Nat)(aD:Int)(aA:List aK)(aB:List aG)(aE:Int):Option Bool:=
 if decide (70<(aA.length:Int)) then
  aA8 N aD aA aB aE true
 else
  aA8 N aD aA aB aE (decide (70<(aB.length:Int)))
def aD1 (N:Nat)(aD:Int)(aA:List aK)(aB:List aG)(aE:Int)(bJ:Bool):Option ((List Int)×Int):=
 (aC4 N aD aA aB aE).bind fun x7=>
 if !x7 then
  some ([],4)
 else
  (aAB N aD aA aB aE bJ).bind fun b4=>
  some (b4,0)
def aBq (N:Nat)(aD:Int)(aA:List aK)(aB:List aG)(aE:Int):Option Bool:=
 (aD1 N aD aA aB aE true).bind fun x7=>
 some (x7.2 == 0)
def oK (N:Nat)(vn:Int):Option (List Int):=
 (hH N [] vn).bind fun x4=>
 some x4
def aDL (N:Nat)(l0:List Int):Option (List Int):=
 some l0
def oN (N:Nat)(parts:List (List Int)):Nat→Int→(List Int)→Option (List Int)
 |0,_,_=>none
 |m+1,x8,aS=>
  if decide (x8<(parts.length:Int)) then
   (bY parts x8).bind fun cD=>
   (eE 1 aS cD).bind fun bR=>
   (oN N parts m) (aVO.wrap (x8+1)) bR
  else
   some aS
def wY (N:Nat)(parts:List (List Int)):Option (List Int):=
 (oN N parts N 0 []).bind fun p2=>
 aDL N p2
def tM (N:Nat)(bF:Int)(aZ:List Int):Option (List Int):=
 (mD N [] (aVR.wrap bF)).bind fun x6=>
 (kC N [] aZ).bind fun x9=>
 (wY N [x6,x9]).bind fun b4=>
 some b4
def aE9 (N:Nat)(l0:List Int):Option (List Int):=
 some l0
def rU (N:Nat)(vn:Int):Nat→Int→(List Int)→Option (List Int)
 |0,_,_=>none
 |m+1,x18,aS=>
  if decide (x18<8) then
   (shr .u64 (aVR.wrap (8*vn)) (aVO.wrap (56-(aVO.wrap (8*x18))))).bind fun x27=>
   (eE 1 aS [aVV.wrap x27]).bind fun lL=>
   (rU N vn m) (aVO.wrap (x18+1)) lL
  else
   some aS
def aEu (N:Nat)(vn:Int):Option (List Int):=
 (mkl 1 0 (aVR.wrap (1+(aV4 (aVR.wrap (64-(aV4 (aVR.wrap (vn+9)) 64))) 64))) (aVR.wrap (9+(aV4 (aVR.wrap (64-(aV4 (aVR.wrap (vn+9)) 64))) 64)))).bind fun x15=>
 (bY x15 0).bind fun x17=>
 (rU N vn N 0 (x15.set (aVS 0) 128)).bind fun p2=>
 aE9 N p2
def aEP (N:Nat)(l0:List Int):Option (List Int):=
 some l0
def rQ (N:Nat)(parts:List (List Int)):Nat→Int→(List Int)→Option (List Int)
 |0,_,_=>none
 |m+1,x8,aS=>
  if decide (x8<(parts.length:Int)) then
   (bY parts x8).bind fun cD=>
   (eE 1 aS cD).bind fun bR=>
   (rQ N parts m) (aVO.wrap (x8+1)) bR
  else
   some aS
def aC3 (N:Nat)(parts:List (List Int)):Option (List Int):=
 (rQ N parts N 0 []).bind fun p2=>
 aEP N p2
def kS (N:Nat)(x k:Int):Option Int:=
 (shl .u32 x (bits .and .u64 (aVR.wrap k) 31)).bind fun b4=>
 (shr .u32 x (aVR.wrap (32-(bits .and .u64 (aVR.wrap k) 31)))).bind fun x15=>
 some (bits .or .u32 b4 x15)
def dS (N:Nat)(x vn:Int):Option Int:=
 (kS N x (aVO.wrap (0-vn))).bind fun x8=>
 some x8
def rX (N:Nat)(cS:List Int):Option (List Int):=
 (a9 64 cS).bind fun q=>
 some cS
def i4 (N:Nat):Nat→Int→(List Int)→Option (List Int)
 |0,_,_=>none
 |m+1,vi,l1_2=>
  if decide (vi<64) then
   (bV 64 l1_2 (aVO.wrap (vi-15))).bind fun x37=>
   (dS N x37 7).bind fun x39=>
   (dS N x37 18).bind fun x44=>
   (shr .u32 x37 3).bind fun x50=>
   (bV 64 l1_2 (aVO.wrap (vi-2))).bind fun x54=>
   (dS N x54 17).bind fun x56=>
   (dS N x54 19).bind fun x61=>
   (shr .u32 x54 10).bind fun x67=>
   (bV 64 l1_2 (aVO.wrap (vi-16))).bind fun x72=>
   (bV 64 l1_2 (aVO.wrap (vi-7))).bind fun x78=>
   (bV 64 l1_2 vi).bind fun x83=>
   (i4 N m) (aVO.wrap (vi+1)) (l1_2.set (aVS vi) (aVQ.wrap ((aVQ.wrap ((aVQ.wrap (x72+(bits .xor .u32 (bits .xor .u32 x39 x44) x50)))+x78))+(bits .xor .u32 (bits .xor .u32 x56 x61) x67))))
  else
   some l1_2
def rM (N:Nat)(l1:List Int):Option (List Int):=
 (i4 N N 16 l1).bind fun p3=>
 rX N p3
def wA (N:Nat)(block:List Int)(x9:Int)(rec:Int→(List Int)→Option (List Int))(i9:List Int):Option (List Int):=
 rec (aVO.wrap (x9+1)) i9
def eP (N:Nat)(block:List Int)(x9:Int):Nat→Int→(List Int)→Option (List Int)
 |0,_,_=>none
 |m+1,fC,j5=>
  if decide (fC<4) then
   (bV 64 j5 x9).bind fun x17=>
   (shl .u32 x17 8).bind fun x19=>
   (bV 64 block (aVO.wrap ((aVO.wrap (4*x9))+fC))).bind fun fG=>
   (eP N block x9 m) (aVO.wrap (fC+1)) (j5.set (aVS x9) (bits .or .u32 x19 (aVQ.wrap fG)))
  else
   some j5
def gZ (N:Nat)(block:List Int):Nat→Int→(List Int)→Option (List Int)
 |0,_,_=>none
 |m+1,x9,l2=>
  if decide (x9<16) then
   (eP N block x9 N 0 l2).bind fun p6=>
   wA N block x9 (gZ N block m) p6
  else
   some l2
def qI (N:Nat)(block:List Int):Option (List Int):=
 (gZ N block N 0 (aVP 64 0)).bind fun p4=>
 rM N p4
def rS (N:Nat)(cT:List Int)(va b c d ve f g vh:Int):Option (List Int):=
 (bV 8 cT 0).bind fun x98=>
 (bV 8 cT 1).bind fun aIU=>
 (bV 8 cT 2).bind fun xL=>
 (bV 8 cT 3).bind fun aQr=>
 (bV 8 cT 4).bind fun aJJ=>
 (bV 8 cT 5).bind fun aCE=>
 (bV 8 cT 6).bind fun aPR=>
 (bV 8 cT 7).bind fun aGa=>
 some [aVQ.wrap (x98+va),aVQ.wrap (aIU+b),aVQ.wrap (xL+c),aVQ.wrap (aQr+d),aVQ.wrap (aJJ+ve),aVQ.wrap (aCE+f),aVQ.wrap (aPR+g),aVQ.wrap (aGa+vh)]
def i6 (N:Nat)(cT:List Int)(x18:(List Int)):Nat→Int→Int→Int→Int→Int→Int→Int→Int→Int→Option (Int×Int×Int×Int×Int×Int×Int×Int)
 |0,_,_,_,_,_,_,_,_,_=>none
 |m+1,va_1,b_1,c_1,d_1,ve_1,f_1,g_1,vh_1,x35=>
  if decide (x35<64) then
   (dS N ve_1 6).bind fun x40=>
   (dS N ve_1 11).bind fun x42=>
   (dS N ve_1 25).bind fun x45=>
   (bV 64 aD7 x35).bind fun x58=>
   (bV 64 x18 x35).bind fun x62=>
   (dS N va_1 2).bind fun x66=>
   (dS N va_1 13).bind fun x68=>
   (dS N va_1 22).bind fun x71=>
   (i6 N cT x18 m) (aVQ.wrap ((aVQ.wrap ((aVQ.wrap ((aVQ.wrap ((aVQ.wrap (vh_1+(bits .xor .u32 (bits .xor .u32 x40 x42) x45)))+(bits .xor .u32 (bits .and .u32 ve_1 f_1) (bits .and .u32 (bits .xor .u32 (aWj .u32) ve_1) g_1))))+x58))+x62))+(aVQ.wrap ((bits .xor .u32 (bits .xor .u32 x66 x68) x71)+(bits .xor .u32 (bits .xor .u32 (bits .and .u32 va_1 b_1) (bits .and .u32 va_1 c_1)) (bits .and .u32 b_1 c_1)))))) va_1 b_1 c_1 (aVQ.wrap (d_1+(aVQ.wrap ((aVQ.wrap ((aVQ.wrap ((aVQ.wrap (vh_1+(bits .xor .u32 (bits .xor .u32 x40 x42) x45)))+(bits .xor .u32 (bits .and .u32 ve_1 f_1) (bits .and .u32 (bits .xor .u32 (aWj .u32) ve_1) g_1))))+x58))+x62)))) ve_1 f_1 g_1 (aVO.wrap (x35+1))
  else
   some (va_1,b_1,c_1,d_1,ve_1,f_1,g_1,vh_1)
def lQ (N:Nat)(cT block:List Int):Option (List Int):=
 (a9 64 block).bind fun q=>
 (qI N block).bind fun x18=>
 (a9 64 x18).bind fun q_1=>
 (bV 8 cT 0).bind fun x19=>
 (bV 8 cT 1).bind fun d9=>
 (bV 8 cT 2).bind fun iB=>
 (bV 8 cT 3).bind fun x25=>
 (bV 8 cT 4).bind fun x27=>
 (bV 8 cT 5).bind fun x29=>
 (bV 8 cT 6).bind fun e9=>
 (bV 8 cT 7).bind fun jY=>
 (i6 N cT x18 N x19 d9 iB x25 x27 x29 e9 jY 0).bind fun p2=>
 rS N cT p2.1 p2.2.1 p2.2.2.1 p2.2.2.2.1 p2.2.2.2.2.1 p2.2.2.2.2.2.1 p2.2.2.2.2.2.2.1 p2.2.2.2.2.2.2.2
def aCX (N:Nat)(cS:List Int):Option (List Int):=
 (a9 32 cS).bind fun q=>
 some cS
def uV (N:Nat)(l1:List Int):Nat→Int→(List Int)→Option (List Int)
 |0,_,_=>none
 |m+1,e9,l2=>
  if decide (e9<32) then
   (bV 8 l1 (aVO.wrap (aV3 e9 4))).bind fun x37=>
   (shr .u32 x37 (aVO.wrap (24-(aVO.wrap ((aV4 e9 4)*8))))).bind fun x43=>
   (bV 32 l2 e9).bind fun x45=>
   (uV N l1 m) (aVO.wrap (e9+1)) (l2.set (aVS e9) (aVV.wrap x43))
  else
   some l2
def aCT (N:Nat)(l1:List Int):Option (List Int):=
 (uV N l1 N 0 (aVP 32 0)).bind fun p3=>
 aCX N p3
def uG (N:Nat)(bR:(List Int)):Nat→Int→(List Int)→Option (List Int)
 |0,_,_=>none
 |m+1,x19,l1_2=>
  if decide (x19<(aVO.wrap (aV3 (bR.length:Int) 64))) then
   (a9 8 l1_2).bind fun q_1=>
   (sub bR (aVO.wrap (64*x19)) (bR.length:Int)).bind fun x26=>
   (sY 64 x26).bind fun x27=>
   (lQ N l1_2 x27).bind fun x29=>
   (a9 8 x29).bind fun q_2=>
   (uG N bR m) (aVO.wrap (x19+1)) x29
  else
   some l1_2
def aAA (N:Nat)(b:List Int):Option (List Int):=
 (aEu N (aVR.wrap (b.length:Int))).bind fun fC=>
 (aC3 N [b,fC]).bind fun bR=>
 (uG N bR N 0 yY).bind fun p4=>
 aCT N p4
def qG (N:Nat)(b:List Int):Option (List Int):=
 (aAA N b).bind fun x5=>
 (a9 32 x5).bind fun q=>
 some x5
def yI (N:Nat)(tag:ByteArray)(b:List Int):Option (List Int):=
 (stb tag).bind fun x7=>
 (aAA N x7).bind fun x8=>
 (a9 32 x8).bind fun q=>
 (aC3 N [x8,x8,b]).bind fun d5=>
 (aAA N d5).bind fun bR=>
 (a9 32 bR).bind fun q_1=>
 some bR
def uJ (N:Nat)(aD:Int)(aA:List aK)(aB:List aG)(aE vi bF:Int)(aZ l3 l4 l5:List Int):Option ((List Int)×Int):=
 (oK N aD).bind fun x72=>
 (qG N l3).bind fun x74=>
 (qG N l4).bind fun x76=>
 (qG N l5).bind fun x78=>
 (oK N aE).bind fun x81=>
 (oK N (aVQ.wrap vi)).bind fun x84=>
 (tM N bF aZ).bind fun x86=>
 (wY N [x72,x74,x76,x78,x81,x84,x86]).bind fun x88=>
 (yI N (⟨#[108,105,103,104,116,99,108,105,101,110,116,47,115,112,101,110,100]⟩) x88).bind fun x89=>
 (a9 32 x89).bind fun q=>
 some (x89,0)
def iG (N:Nat)(aD:Int)(aA:List aK)(aB:List aG)(aE vi bF:Int)(aZ l3 l4:List Int):Nat→Int→(List Int)→Option (List Int)
 |0,_,_=>none
 |m+1,x61,l5_1=>
  if decide (x61<(aB.length:Int)) then
   (bY aB x61).bind fun x63=>
   (tM N x63.Value x63.Script).bind fun x67=>
   (eE 1 l5_1 x67).bind fun x68=>
   (iG N aD aA aB aE vi bF aZ l3 l4 m) (aVO.wrap (x61+1)) x68
  else
   some l5_1
def uH (N:Nat)(aD:Int)(aA:List aK)(aB:List aG)(aE vi bF:Int)(aZ l3 l4:List Int):Option ((List Int)×Int):=
 (iG N aD aA aB aE vi bF aZ l3 l4 N 0 []).bind fun p5=>
 uJ N aD aA aB aE vi bF aZ l3 l4 p5
def k9 (N:Nat)(aD:Int)(aA:List aK)(aB:List aG)(aE vi bF:Int)(aZ:List Int):Nat→Int→(List Int)→(List Int)→Option ((List Int)×(List Int))
 |0,_,_,_=>none
 |m+1,x43,eZ,hY=>
  if decide (x43<(aA.length:Int)) then
   (bY aA x43).bind fun x45=>
   (aBA N x45.Prev.Tx x45.Prev.Index).bind fun x50=>
   (eE 1 eZ x50).bind fun x51=>
   (oK N x45.Sequence).bind fun x55=>
   (eE 1 hY x55).bind fun x56=>
   (k9 N aD aA aB aE vi bF aZ m) (aVO.wrap (x43+1)) x51 x56
  else
   some (eZ,hY)
def nV (N:Nat)(aD:Int)(aA:List aK)(aB:List aG)(aE vi bF:Int)(aZ:List Int)(x38:Bool):Option ((List Int)×Int):=
 if x38 then
  some ([0,0,0,0,0,0,0,0,0,0,0,0,0,0,0,0,0,0,0,0,0,0,0,0,0,0,0,0,0,0,0,0],5)
 else
  (k9 N aD aA aB aE vi bF aZ N 0 [] []).bind fun p6=>
  uH N aD aA aB aE vi bF aZ p6.1 p6.2
def nS (N:Nat)(aD:Int)(aA:List aK)(aB:List aG)(aE vi bF:Int)(aZ:List Int)(x28:Bool):Option ((List Int)×Int):=
 if x28 then
  some ([0,0,0,0,0,0,0,0,0,0,0,0,0,0,0,0,0,0,0,0,0,0,0,0,0,0,0,0,0,0,0,0],4)
 else
  if decide (vi<0) then
   nV N aD aA aB aE vi bF aZ true
  else
   nV N aD aA aB aE vi bF aZ (decide ((aA.length:Int)≤vi))
def u5 (N:Nat)(aD:Int)(aA:List aK)(aB:List aG)(aE vi bF:Int)(aZ:List Int):Option ((List Int)×Int):=
 (aBq N aD aA aB aE).bind fun x16=>
 if !x16 then
  nS N aD aA aB aE vi bF aZ true
 else
  if decide (bF<0) then
   nS N aD aA aB aE vi bF aZ true
  else
   nS N aD aA aB aE vi bF aZ (decide (520<(aZ.length:Int)))
def rR (N:Nat)(x2:Bool):Option Bool:=
 some x2
def w8 (N:Nat)(code:Int):Option Bool:=
 if decide (1≤code) then
  rR N (decide (code≤17))
 else
  rR N false
def aCt (N:Nat)(l0:List Int):Option (List Int):=
 some l0
def mU (N:Nat)(parts:List (List Int)):Nat→Int→(List Int)→Option (List Int)
 |0,_,_=>none
 |m+1,x8,aS=>
  if decide (x8<(parts.length:Int)) then
   (bY parts x8).bind fun cD=>
   (eE 1 aS cD).bind fun bR=>
   (mU N parts m) (aVO.wrap (x8+1)) bR
  else
   some aS
def uL (N:Nat)(parts:List (List Int)):Option (List Int):=
 (mU N parts N 0 []).bind fun p2=>
 aCt N p2
def kD (N:Nat)(x4:Bool):Option Bool:=
 some x4
def tK (N:Nat)(vm vn:Int):Option Bool:=
 if decide (1≤vn) then
  if decide (vn≤15) then
   if decide (1≤vm) then
    kD N (decide (vm≤vn))
   else
    kD N false
  else
   kD N false
 else
  kD N false
def nJ (N:Nat)(x8:Int)(b_1:List Int)(c1 aBP:Int)(l2:List Int):Option (Int×(List Int)×Int×Int×(List Int)×Int):=
 some (aVO.wrap x8,l2,c1,aBP,b_1,0)
def tR (N:Nat)(x8:Int)(x18:List Int)(x35:Bool):Option (Int×(List Int)×Int×Int×(List Int)×Int):=
 if x35 then
  some (0,[],0,0,[],1)
 else
  (bY x18 0).bind fun x38=>
  (sub x18 1 (aVO.wrap (1+(aVO.wrap x38)))).bind fun x44=>
  (uL N [x44]).bind fun x46=>
  (sub x18 (aVO.wrap (1+(aVO.wrap x38))) (x18.length:Int)).bind fun x49=>
  nJ N x8 x49 0 0 x46
def zO (N:Nat)(b:List Int):Option (Int×(List Int)×Int×Int×(List Int)×Int):=
 (bY b 0).bind fun x8=>
 (w8 N (aVO.wrap x8)).bind fun bR=>
 if !bR then
  some (0,[],0,0,[],80)
 else
  (sub b 1 (b.length:Int)).bind fun x18=>
  if(aVO.wrap x8) == 1 then
   if(x18.length:Int) == 0 then
    tR N x8 x18 true
   else
    (bY x18 0).bind fun e9=>
    tR N x8 x18 (decide ((aVO.wrap ((x18.length:Int)-1))<(aVO.wrap e9)))
  else
   if(aVO.wrap x8) == 11 then
    if decide ((x18.length:Int)<2) then
     some (0,[],0,0,[],1)
    else
     (bY x18 0).bind fun x58=>
     (bY x18 1).bind fun x62=>
     (sub x18 2 (x18.length:Int)).bind fun x66=>
     (tK N (aVO.wrap x58) (aVO.wrap x62)).bind fun x73=>
     if !x73 then
      some (0,[],0,0,[],5)
     else
      nJ N x8 x66 (aVO.wrap x58) (aVO.wrap x62) []
   else
    nJ N x8 x18 0 0 []
def aA9 (N:Nat)(l0:List aX):Option ((List aX)×Int):=
 some (l0,0)
def lT (N:Nat):Nat→(List Int)→(List aX)→Option (LR ((List aX)) ((List aX)×Int))
 |0,_,_=>none
 |m+1,b_1,aS=>
  if decide (0<(b_1.length:Int)) then
   (zO N b_1).bind fun x16=>
   if x16.2.2.2.2.2 != 0 then
    some (.ret ([],x16.2.2.2.2.2))
   else
    (eE 48 aS [(aX.mk x16.1 x16.2.1 x16.2.2.1 x16.2.2.2.1)]).bind fun x26=>
    (lT N m) x16.2.2.2.2.1 x26
  else
   some (.brk aS)
def wB (N:Nat)(b:List Int):Option ((List aX)×Int):=
 if decide (520<(b.length:Int)) then
  some ([],4)
 else
  (lT N N b []).bind fun q=>match q with
   | .ret v=>some v
   | .brk p2=>
    aA9 N p2
def aAu (N:Nat)(l0:List Bool):Option Bool:=
 some ((l0.length:Int) == 0)
def k4 (N:Nat)(l:List aX)(x9:Int)(rec:Int→(List Bool)→Option (LR ((List Bool)) (Bool)))(fM:List Bool):Option (LR ((List Bool)) (Bool)):=
 rec (aVO.wrap (x9+1)) fM
def qH (N:Nat)(l:List aX)(x9:Int)(aS:List Bool)(rec:Int→(List Bool)→Option (LR ((List Bool)) (Bool)))(nW:Bool):Option (LR ((List Bool)) (Bool)):=
 if nW then
  some (.ret false)
 else
  (bY aS (aVO.wrap ((aS.length:Int)-1))).bind fun x35=>
  k4 N l x9 rec (aS.set (aVS (aVO.wrap ((aS.length:Int)-1))) true)
def eC (N:Nat)(l:List aX):Nat→Int→(List Bool)→Option (LR ((List Bool)) (Bool))
 |0,_,_=>none
 |m+1,x9,aS=>
  if decide (x9<(l.length:Int)) then
   (bY l x9).bind fun b4=>
   if b4.Code == 14 then
    (eE 1 aS [false]).bind fun bX=>
    k4 N l x9 (eC N l m) bX
   else
    if b4.Code == 15 then
     if decide ((aVO.wrap ((aS.length:Int)-1))<0) then
      qH N l x9 aS (eC N l m) true
     else
      (bY aS (aVO.wrap ((aS.length:Int)-1))).bind fun lL=>
      qH N l x9 aS (eC N l m) lL
    else
     if b4.Code == 16 then
      if decide ((aVO.wrap ((aS.length:Int)-1))<0) then
       some (.ret false)
      else
       (sub aS 0 (aVO.wrap ((aS.length:Int)-1))).bind fun x42=>
       k4 N l x9 (eC N l m) x42
     else
      k4 N l x9 (eC N l m) aS
  else
   some (.brk aS)
def u7 (N:Nat)(l:List aX):Option Bool:=
 (eC N l N 0 []).bind fun q=>match q with
  | .ret v=>some v
  | .brk p2=>
   aAu N p2
def y5 (N:Nat):Option Bool:=
 some true
def iT (N:Nat)(stack:List (List Int)):Nat→Int→Option (LR (Unit) (Bool))
 |0,_=>none
 |m+1,cD=>
  if decide (cD<(stack.length:Int)) then
   (bY stack cD).bind fun fC=>
   if decide (520<(fC.length:Int)) then
    some (.ret false)
   else
    (iT N stack m) (aVO.wrap (cD+1))
  else
   some (.brk ())
def t4 (N:Nat)(stack:List (List Int)):Option Bool:=
 if decide (64<(stack.length:Int)) then
  some false
 else
  (iT N stack N 0).bind fun q=>match q with
   | .ret v=>some v
   | .brk p2=>
    y5 N
def uS (N:Nat)(l0:List (List Int)):Option (List (List Int)):=
 some l0
def k6 (N:Nat)(stack:List (List Int)):Nat→Int→(List (List Int))→Option (List (List Int))
 |0,_,_=>none
 |m+1,x8,aS=>
  if decide (x8<(stack.length:Int)) then
   (bY stack x8).bind fun cD=>
   (uL N [cD]).bind fun x15=>
   (eE 24 aS [x15]).bind fun x17=>
   (k6 N stack m) (aVO.wrap (x8+1)) x17
  else
   some aS
def rH (N:Nat)(stack:List (List Int)):Option (List (List Int)):=
 (k6 N stack N 0 []).bind fun p2=>
 uS N p2
def jH (N:Nat)(aF:List Int)(aJ aN:Int)(aL:List (List Int))(aH:List aM)(aY:Int)(x2:Bool):Option Bool:=
 some x2
def oY (N:Nat)(aF:List Int)(aJ aN:Int)(aL:List (List Int))(aH:List aM)(aY:Int):Option Bool:=
 if(aH.length:Int) == 0 then
  some true
 else
  (bY aH (aVO.wrap ((aH.length:Int)-1))).bind fun bS=>
  if bS.outer then
   jH N aF aJ aN aL aH aY bS.taken
  else
   jH N aF aJ aN aL aH aY false
def wJ (N:Nat)(bA:Int)(cC:List Int)(eU eG:Int):Option Int:=
 if bA == 8 then
  some 6
 else
  if bA == 10 then
   some 21
  else
   if bA == 11 then
    some (aVO.wrap (1+(aVO.wrap (20*eG))))
   else
    some 1
def oX (N:Nat)(bA:Int)(cC:List Int)(eU eG:Int)(cD:Bool):Option Int:=
 if cD then
  some 2
 else
  if bA == 11 then
   some (aVO.wrap (2*eG))
  else
   some 1
def l9 (N:Nat)(bA:Int)(cC:List Int)(eU eG:Int)(x5:Bool):Option Int:=
 if x5 then
  some 0
 else
  if bA == 4 then
   oX N bA cC eU eG (bA == 4)
  else
   if bA == 5 then
    oX N bA cC eU eG (bA == 5)
   else
    oX N bA cC eU eG (bA == 10)
def wQ (N:Nat)(bA:Int)(cC:List Int)(eU eG:Int):Option Int:=
 if bA == 1 then
  l9 N bA cC eU eG (bA == 1)
 else
  if bA == 15 then
   l9 N bA cC eU eG (bA == 15)
  else
   if bA == 16 then
    l9 N bA cC eU eG (bA == 16)
   else
    l9 N bA cC eU eG (bA == 17)
def cW (N:Nat)(aF:List Int)(aJ aN:Int)(aL:List (List Int))(aH:List aM)(aY:Int):Option (List Int):=
 (bY aL (aVO.wrap ((aL.length:Int)-1))).bind fun d5=>
 some d5
def aBx (N:Nat):Option Bool:=
 some false
def g8 (N:Nat)(gG:List Int):Nat→Int→Option (LR (Unit) (Bool))
 |0,_=>none
 |m+1,x7=>
  if decide (x7<(gG.length:Int)) then
   (bY gG x7).bind fun x9=>
   if x9 != 0 then
    some (.ret true)
   else
    (g8 N gG m) (aVO.wrap (x7+1))
  else
   some (.brk ())
def kR (N:Nat)(gG:List Int):Option Bool:=
 (g8 N gG N 0).bind fun q=>match q with
  | .ret v=>some v
  | .brk p2=>
   aBx N
def eQ (N:Nat)(aF:List Int)(aJ aN:Int)(aL:List (List Int))(aH:List aM)(aY vn:Int):Option ((List Int)×Int×Int×(List (List Int))×(List aM)×Int):=
 (sub aL 0 (aVO.wrap ((aL.length:Int)-vn))).bind fun x16=>
 some (aF,aJ,aN,x16,aH,aY)
def iY (N:Nat)(aF:List Int)(aJ aN:Int)(aL:List (List Int))(aH:List aM)(aY:Int)(gG:List Int):Option (Int×(List Int)×Int×Int×(List (List Int))×(List aM)×Int):=
 if decide (64≤(aL.length:Int)) then
  some (4,aF,aJ,aN,aL,aH,aY)
 else
  (eE 24 aL [gG]).bind fun x18=>
  some (0,aF,aJ,aN,x18,aH,aY)
def aB4 (N:Nat)(va b:List Int):Option Bool:=
 some ((rV va).toList == (rV b).toList)
def yT (N:Nat)(l0:List Int):Option (List Int):=
 some l0
def fF (N:Nat):Nat→Int→(List Int)→Option (List Int)
 |0,_,_=>none
 |m+1,eD,aS=>
  if decide (0<eD) then
   (eE 1 aS [aVV.wrap eD]).bind fun fC=>
   (shr .u32 eD 8).bind fun x7=>
   (fF N m) x7 fC
  else
   some aS
def iP (N:Nat)(vn:Int):Option (List Int):=
 (fF N N vn []).bind fun p2=>
 yT N p2
def lN (N:Nat)(v:Bool):Option (List Int):=
 if v then
  (iP N 1).bind fun x4=>
  some x4
 else
  (iP N 0).bind fun x5=>
  some x5
def dP (N:Nat)(aF:List Int)(aJ aN:Int)(aL:List (List Int))(aH:List aM)(aY vn:Int)(gG:List Int):Option ((List Int)×Int×Int×(List (List Int))×(List aM)×Int):=
 (eQ N aF aJ aN aL aH aY vn).bind fun x8=>
 (eE 24 x8.2.2.2.1 [gG]).bind fun x16=>
 some (x8.1,x8.2.1,x8.2.2.1,x16,x8.2.2.2.2.1,x8.2.2.2.2.2)
def pE (N:Nat)(l1:List Int):Option (List Int):=
 (a9 4 l1).bind fun q=>
 some l1
def gO (N:Nat)(vh:List Int):Nat→Int→(List Int)→Option (List Int)
 |0,_,_=>none
 |m+1,x8,cS=>
  if decide (x8<32) then
   (bV 32 vh x8).bind fun b4=>
   (bV 4 cS (aVO.wrap (3-(aVO.wrap (aV3 x8 8))))).bind fun x17=>
   (shl .u64 x17 8).bind fun x19=>
   (gO N vh m) (aVO.wrap (x8+1)) (cS.set (aVS (aVO.wrap (3-(aVO.wrap (aV3 x8 8))))) (bits .or .u64 x19 (aVR.wrap b4)))
  else
   some cS
def fU (N:Nat)(vh:List Int):Option (List Int):=
 (a9 32 vh).bind fun q_1=>
 (gO N vh N 0 (aVP 4 0)).bind fun p2=>
 pE N p2
def fT (N:Nat)(vn:Int):Option (List Int):=
 some [vn,0,0,0]
def rI (N:Nat):Option (List Int):=
 some [18446744073709515503,18446744073709551615,18446744073709551615,18446744073709551615]
def aB7 (N:Nat):Option Int:=
 some 0
def oA (N:Nat)(va b:List Int):Nat→Int→Option (LR (Unit) (Int))
 |0,_=>none
 |m+1,vi=>
  if decide (0≤vi) then
   (bV 4 va vi).bind fun b4=>
   (bV 4 b vi).bind fun bR=>
   if decide (b4<bR) then
    some (.ret (-1))
   else
    if decide (bR<b4) then
     some (.ret 1)
    else
     (oA N va b m) (aVO.wrap (vi-1))
  else
   some (.brk ())
def pC (N:Nat)(va b:List Int):Option Int:=
 (oA N va b N 3).bind fun q=>match q with
  | .ret v=>some v
  | .brk p2=>
   aB7 N
def pO (N:Nat):Option (List Int):=
 some [18446744073709533559,18446744073709551615,18446744073709551615,9223372036854775807]
def jI (N:Nat)(x_3 aCu:Int):Option Int:=
 (aN5 (⟨#[0,1,2,2,3,3,3,3,4,4,4,4,4,4,4,4,5,5,5,5,5,5,5,5,5,5,5,5,5,5,5,5,6,6,6,6,6,6,6,6,6,6,6,6,6,6,6,6,6,6,6,6,6,6,6,6,6,6,6,6,6,6,6,6,7,7,7,7,7,7,7,7,7,7,7,7,7,7,7,7,7,7,7,7,7,7,7,7,7,7,7,7,7,7,7,7,7,7,7,7,7,7,7,7,7,7,7,7,7,7,7,7,7,7,7,7,7,7,7,7,7,7,7,7,7,7,7,7,8,8,8,8,8,8,8,8,8,8,8,8,8,8,8,8,8,8,8,8,8,8,8,8,8,8,8,8,8,8,8,8,8,8,8,8,8,8,8,8,8,8,8,8,8,8,8,8,8,8,8,8,8,8,8,8,8,8,8,8,8,8,8,8,8,8,8,8,8,8,8,8,8,8,8,8,8,8,8,8,8,8,8,8,8,8,8,8,8,8,8,8,8,8,8,8,8,8,8,8,8,8,8,8,8,8,8,8,8,8,8,8,8,8,8,8,8,8,8,8,8,8,8,8,8,8,8,8]⟩) (aVV.wrap x_3)).bind fun bX=>
 some (aVO.wrap (aCu+(aVO.wrap bX)))
def lC (N:Nat)(x_2 eD:Int):Option Int:=
 if decide (256≤x_2) then
  (shr .u64 x_2 8).bind fun x16=>
  jI N x16 (aVO.wrap (eD+8))
 else
  jI N x_2 eD
def lH (N:Nat)(x_1 vn:Int):Option Int:=
 if decide (65536≤x_1) then
  (shr .u64 x_1 16).bind fun cD=>
  lC N cD (aVO.wrap (vn+16))
 else
  lC N x_1 vn
def rT (N:Nat)(x:Int):Option Int:=
 if decide (4294967296≤x) then
  (shr .u64 x 32).bind fun x6=>
  lH N x6 32
 else
  lH N x 0
def aB3 (N:Nat):Option Int:=
 some 0
def sS (N:Nat)(va:List Int):Nat→Int→Option (LR (Unit) (Int))
 |0,_=>none
 |m+1,vi=>
  if decide (0≤vi) then
   (bV 4 va vi).bind fun x9=>
   if x9 != 0 then
    (rT N x9).bind fun x17=>
    some (.ret (aVO.wrap ((aVO.wrap (64*vi))+x17)))
   else
    (sS N va m) (aVO.wrap (vi-1))
  else
   some (.brk ())
def aDd (N:Nat)(va:List Int):Option Int:=
 (sS N va N 3).bind fun q=>match q with
  | .ret v=>some v
  | .brk p2=>
   aB3 N
def lU (N:Nat)(x y:Int):Option (Int×Int):=
 (shr .u64 x 32).bind fun x17=>
 (shr .u64 y 32).bind fun d9=>
 (shr .u64 (aVR.wrap ((bits .and .u64 x 4294967295)*(bits .and .u64 y 4294967295))) 32).bind fun x29=>
 (shr .u64 (aVR.wrap ((aVR.wrap (x17*(bits .and .u64 y 4294967295)))+x29)) 32).bind fun cV=>
 (shr .u64 (aVR.wrap ((bits .and .u64 (aVR.wrap ((aVR.wrap (x17*(bits .and .u64 y 4294967295)))+x29)) 4294967295)+(aVR.wrap ((bits .and .u64 x 4294967295)*d9)))) 32).bind fun x46=>
 some (aVR.wrap ((aVR.wrap ((aVR.wrap (x17*d9))+cV))+x46),aVR.wrap (x*y))
def d8 (N:Nat)(x y c:Int):Option (Int×Int):=s8 x y c
def zQ (N:Nat)(l2:List Int):Option ((List Int)×(List Int)):=
 (a9 8 l2).bind fun q=>
 (vM l2 4 8).bind fun x63=>
 (sY 4 x63).bind fun x64=>
 (vM l2 0 4).bind fun x66=>
 (sY 4 x66).bind fun x67=>
 some (x64,x67)
def zX (N:Nat)(va b:List Int)(bR:Int)(rec:Int→(List Int)→Option (List Int))(hY:List Int):Option (List Int):=
 rec (aVO.wrap (bR+1)) hY
def zU (N:Nat)(va b:List Int)(bR:Int)(rec:Int→(List Int)→Option (List Int))(kY:Int)(aAp:List Int):Option (List Int):=
 (bV 8 aAp (aVO.wrap (bR+4))).bind fun x61=>
 zX N va b bR rec (aAp.set (aVS (aVO.wrap (bR+4))) kY)
def dJ (N:Nat)(va b:List Int)(bR:Int):Nat→Int→Int→(List Int)→Option (Int×(List Int))
 |0,_,_,_=>none
 |m+1,carry_1,x17,l4_3=>
  if decide (x17<4) then
   (bV 4 va bR).bind fun bX=>
   (bV 4 b x17).bind fun x25=>
   (lU N bX x25).bind fun x27=>
   (bV 8 l4_3 (aVO.wrap (bR+x17))).bind fun x35=>
   (d8 N x27.2 x35 0).bind fun x37=>
   (d8 N x37.1 carry_1 0).bind fun x46=>
   (dJ N va b bR m) (aVR.wrap ((aVR.wrap (x27.1+x37.2))+x46.2)) (aVO.wrap (x17+1)) (l4_3.set (aVS (aVO.wrap (bR+x17))) x46.1)
  else
   some (carry_1,l4_3)
def kP (N:Nat)(va b:List Int):Nat→Int→(List Int)→Option (List Int)
 |0,_,_=>none
 |m+1,bR,l4=>
  if decide (bR<4) then
   (dJ N va b bR N 0 0 l4).bind fun p5=>
   zU N va b bR (kP N va b m) p5.1 p5.2
  else
   some l4
def aAs (N:Nat)(va b:List Int):Option ((List Int)×(List Int)):=
 (kP N va b N 0 (aVP 8 0)).bind fun p2=>
 zQ N p2
def yU (N:Nat)(aHN:Int)(l0:List Int):Option ((List Int)×Int):=
 (a9 4 l0).bind fun q=>
 some (l0,aHN)
def nN (N:Nat):Nat→Int→Int→(List Int)→Option (Int×(List Int))
 |0,_,_,_=>none
 |m+1,low_2,x7,aS=>
  if decide (x7<4) then
   (bV 4 aS x7).bind fun fC=>
   (shl .u64 fC 1).bind fun bR=>
   (shr .u64 fC 63).bind fun bS=>
   (nN N m) bS (aVO.wrap (x7+1)) (aS.set (aVS x7) (bits .or .u64 bR low_2))
  else
   some (low_2,aS)
def sQ (N:Nat)(va:List Int)(low:Int):Option ((List Int)×Int):=
 (nN N N low 0 va).bind fun p2=>
 yU N p2.1 p2.2
def sD (N:Nat)(x y c:Int):Option (Int×Int):=aFj x y c
def zI (N:Nat)(borrow:Int)(l1:List Int):Option ((List Int)×Bool):=
 (a9 4 l1).bind fun q=>
 some (l1,borrow != 0)
def kU (N:Nat)(va b:List Int):Nat→Int→Int→(List Int)→Option (Int×(List Int))
 |0,_,_,_=>none
 |m+1,borrow_1,x9,l3=>
  if decide (x9<4) then
   (bV 4 va x9).bind fun x15=>
   (bV 4 b x9).bind fun x18=>
   (sD N x15 x18 borrow_1).bind fun d9=>
   (bV 4 l3 x9).bind fun fG=>
   (kU N va b m) d9.2 (aVO.wrap (x9+1)) (l3.set (aVS x9) d9.1)
  else
   some (borrow_1,l3)
def sV (N:Nat)(va b:List Int):Option ((List Int)×Bool):=
 (kU N va b N 0 0 (aVP 4 0)).bind fun p2=>
 zI N p2.1 p2.2
def aBV (N:Nat)(l0 l1:List Int):Option ((List Int)×(List Int)×Bool):=
 (a9 4 l0).bind fun q_2=>
 (a9 4 l1).bind fun q_3=>
 some (l0,l1,true)
def aBW (N:Nat)(b:List Int)(dB:Int)(rec:Int→(List Int)→(List Int)→(List Int)→Option ((List Int)×(List Int)))(fM i9 eZ:List Int):Option ((List Int)×(List Int)):=
 rec (aVO.wrap (dB-1)) fM i9 eZ
def vD (N:Nat)(b:List Int)(dB bit:Int)(rec:Int→(List Int)→(List Int)→(List Int)→Option (LR ((List Int)×(List Int)×(List Int)) ((List Int)×(List Int))))(aJr aI6 aJh:List Int):Option (LR ((List Int)×(List Int)×(List Int)) ((List Int)×(List Int))):=
 rec (aVO.wrap (bit-1)) aJr aI6 aJh
def sT (N:Nat)(b:List Int)(dB bit:Int)(j5:List Int)(x40 x46:(List Int)×Int)(rec:Int→(List Int)→(List Int)→(List Int)→Option (LR ((List Int)×(List Int)×(List Int)) ((List Int)×(List Int))))(x56:Bool):Option (LR ((List Int)×(List Int)×(List Int)) ((List Int)×(List Int))):=
 if x56 then
  (sV N x46.1 b).bind fun x60=>
  (a9 4 x60.1).bind fun q_8=>
  (bV 4 j5 dB).bind fun x64=>
  (shl .u64 1 bit).bind fun x67=>
  vD N b dB bit rec x40.1 (j5.set (aVS dB) (bits .or .u64 x64 x67)) x60.1
 else
  vD N b dB bit rec x40.1 j5 x46.1
def vC (N:Nat)(b:List Int)(dB bit:Int)(fX j5 jU:List Int)(rec:Int→(List Int)→(List Int)→(List Int)→Option (LR ((List Int)×(List Int)×(List Int)) ((List Int)×(List Int))))(x37:Bool):Option (LR ((List Int)×(List Int)×(List Int)) ((List Int)×(List Int))):=
 if x37 then
  some (.ret (j5,jU))
 else
  (a9 4 fX).bind fun q_4=>
  (sQ N fX 0).bind fun x40=>
  (a9 4 x40.1).bind fun q_5=>
  (a9 4 jU).bind fun q_6=>
  (sQ N jU x40.2).bind fun x46=>
  (a9 4 x46.1).bind fun q_7=>
  if x46.2 != 0 then
   sT N b dB bit j5 x40 x46 rec true
  else
   (pC N x46.1 b).bind fun x54=>
   sT N b dB bit j5 x40 x46 rec (decide (0≤x54))
def dV (N:Nat)(b:List Int)(dB:Int):Nat→Int→(List Int)→(List Int)→(List Int)→Option (LR ((List Int)×(List Int)×(List Int)) ((List Int)×(List Int)))
 |0,_,_,_,_=>none
 |m+1,bit,fX,j5,jU=>
  if decide (0≤bit) then
   (a9 4 jU).bind fun q_9=>
   if jU == [0,0,0,0] then
    (a9 4 fX).bind fun aUH=>
    vC N b dB bit fX j5 jU (dV N b dB m) (fX == [0,0,0,0])
   else
    vC N b dB bit fX j5 jU (dV N b dB m) false
  else
   some (.brk (fX,j5,jU))
def oC (N:Nat)(b:List Int):Nat→Int→(List Int)→(List Int)→(List Int)→Option ((List Int)×(List Int))
 |0,_,_,_,_=>none
 |m+1,dB,aS,l2,l3=>
  if decide (0≤dB) then
   (dV N b dB N 63 aS l2 l3).bind fun q=>match q with
    | .ret p4_1=>
     some (p4_1.1,p4_1.2)
    | .brk p4=>
     aBW N b dB (oC N b m) p4.1 p4.2.1 p4.2.2
  else
   some (l2,l3)
def aBO (N:Nat)(hi lo b:List Int):Option ((List Int)×(List Int)×Bool):=
 (a9 4 b).bind fun q=>
 (a9 4 hi).bind fun q_1=>
 (pC N b hi).bind fun x16=>
 if decide (x16≤0) then
  some ([0,0,0,0],[0,0,0,0],false)
 else
  (oC N b N 3 lo (aVP 4 0) hi).bind fun p2=>
  aBV N p2.1 p2.2
def sW (N:Nat)(va vm:List Int):Option (List Int):=
 (a9 4 va).bind fun q=>
 (a9 4 vm).bind fun q_1=>
 (pC N va vm).bind fun cD=>
 if decide (cD<0) then
  some va
 else
  (aBO N [0,0,0,0] va vm).bind fun x17=>
  (a9 4 x17.1).bind fun q_2=>
  (a9 4 x17.2.1).bind fun q_3=>
  some x17.2.1
def z7 (N:Nat)(va b vm:List Int):Option (List Int):=
 (a9 4 vm).bind fun q=>
 if vm == [0,0,0,0] then
  some [0,0,0,0]
 else
  (a9 4 va).bind fun q_1=>
  (a9 4 b).bind fun q_2=>
  (aAs N va b).bind fun x19=>
  (a9 4 x19.1).bind fun q_3=>
  (a9 4 x19.2).bind fun q_4=>
  (sW N x19.1 vm).bind fun x25=>
  (aBO N x25 x19.2 vm).bind fun x28=>
  (a9 4 x28.1).bind fun q_5=>
  (a9 4 x28.2.1).bind fun q_6=>
  some x28.2.1
def wF (N:Nat)(va b:List Int):Option (List Int):=
 (a9 4 va).bind fun q=>
 (a9 4 b).bind fun q_1=>
 (rI N).bind fun x7=>
 (z7 N va b x7).bind fun x8=>
 (a9 4 x8).bind fun q_2=>
 some x8
def aA1 (N:Nat)(l1:List Int):Option (List Int):=
 (a9 4 l1).bind fun q_2=>
 some l1
def tX (N:Nat)(va ve:List Int)(b4 d5:Int)(rec:Int→(List Int)→Option (List Int))(eZ:List Int):Option (List Int):=
 rec (aVO.wrap (d5+1)) eZ
def mJ (N:Nat)(va ve:List Int)(b4:Int):Nat→Int→(List Int)→Option (List Int)
 |0,_,_=>none
 |m+1,d5,l3=>
  if decide (d5<b4) then
   (a9 4 l3).bind fun q_3=>
   (wF N l3 l3).bind fun bX=>
   (a9 4 bX).bind fun q_4=>
   (bV 4 ve (aVO.wrap (aV3 (aVO.wrap ((aVO.wrap (b4-1))-d5)) 64))).bind fun x25=>
   (shr .u64 x25 (aV4 (aVO.wrap ((aVO.wrap (b4-1))-d5)) 64)).bind fun x29=>
   if(bits .and .u64 x29 1) == 1 then
    (a9 4 va).bind fun q_5=>
    (wF N bX va).bind fun cV=>
    (a9 4 cV).bind fun q_6=>
    tX N va ve b4 d5 (mJ N va ve b4 m) cV
   else
    tX N va ve b4 d5 (mJ N va ve b4 m) bX
  else
   some l3
def xF (N:Nat)(va ve:List Int):Option (List Int):=
 (fT N 1).bind fun x9=>
 (a9 4 x9).bind fun q=>
 (a9 4 ve).bind fun q_1=>
 (aDd N ve).bind fun b4=>
 (mJ N va ve b4 N 0 x9).bind fun p2=>
 aA1 N p2
def l8 (N:Nat)(va:List Int)(b4:Bool):Option Bool:=
 if b4 then
  some false
 else
  (a9 4 va).bind fun q=>
  (pO N).bind fun d5=>
  (xF N va d5).bind fun bR=>
  (fT N 1).bind fun x15=>
  (a9 4 bR).bind fun q_1=>
  (a9 4 x15).bind fun q_2=>
  some (bR == x15)
def qO (N:Nat)(va:List Int):Option Bool:=
 (a9 4 va).bind fun q_3=>
 if va == [0,0,0,0] then
  l8 N va true
 else
  (rI N).bind fun x8=>
  (pC N va x8).bind fun x9=>
  l8 N va (decide (0≤x9))
def aAh (N:Nat)(x2:Bool):Option Bool:=
 some x2
def sF (N:Nat)(p:List Int):Option Bool:=
 (a9 4 p).bind fun q=>
 (fT N 1).bind fun x4=>
 (a9 4 x4).bind fun q_1=>
 if !(p == x4) then
  (qO N p).bind fun x8=>
  aAh N x8
 else
  aAh N false
def pR (N:Nat)(va:List Int):Option Bool:=
 (a9 4 va).bind fun q=>
 (pO N).bind fun x4=>
 (pC N va x4).bind fun x5=>
 some (decide (x5<0))
def pZ (N:Nat)(d5 x18:(List Int))(x29:Bool):Option ((List Int)×(List Int)×Int):=
 if x29 then
  some (aVP 4 0,aVP 4 0,5)
 else
  some (d5,x18,0)
def sR (N:Nat)(b:List Int):Option ((List Int)×(List Int)×Int):=
 if(b.length:Int) != 64 then
  some (aVP 4 0,aVP 4 0,8)
 else
  (sub b 0 32).bind fun cD=>
  (sY 32 cD).bind fun b4=>
  (fU N b4).bind fun d5=>
  (sub b 32 (b.length:Int)).bind fun x15=>
  (sY 32 x15).bind fun x16=>
  (fU N x16).bind fun x18=>
  (a9 4 d5).bind fun q=>
  (a9 4 x18).bind fun q_1=>
  (pR N d5).bind fun bX=>
  if !bX then
   pZ N d5 x18 true
  else
   (pR N x18).bind fun x27=>
   pZ N d5 x18 (!x27)
def vF (N:Nat)(ve:List Int):Option (List Int):=
 (fT N 4).bind fun x3=>
 (a9 4 ve).bind fun q=>
 (xF N x3 ve).bind fun x5=>
 (a9 4 x5).bind fun q_1=>
 some x5
def aAd (N:Nat)(l1:List Int):Option (List Int):=
 (a9 32 l1).bind fun q=>
 some l1
def kZ (N:Nat)(va:List Int):Nat→Int→(List Int)→Option (List Int)
 |0,_,_=>none
 |m+1,x5,l2=>
  if decide (x5<32) then
   (bV 4 va (aVO.wrap (3-(aVO.wrap (aV3 x5 8))))).bind fun fC=>
   (shr .u64 fC (aVO.wrap (56-(aVO.wrap ((aV4 x5 8)*8))))).bind fun x18=>
   (bV 32 l2 x5).bind fun bS=>
   (kZ N va m) (aVO.wrap (x5+1)) (l2.set (aVS x5) (aVV.wrap x18))
  else
   some l2
def uE (N:Nat)(va:List Int):Option (List Int):=
 (kZ N va N 0 (aVP 32 0)).bind fun p2=>
 aAd N p2
def aEg (N:Nat)(l0:List Int):Option (List Int):=
 some l0
def pU (N:Nat)(parts:List (List Int)):Nat→Int→(List Int)→Option (List Int)
 |0,_,_=>none
 |m+1,x8,aS=>
  if decide (x8<(parts.length:Int)) then
   (bY parts x8).bind fun cD=>
   (a9 32 cD).bind fun q=>
   (eE 1 aS cD).bind fun bR=>
   (pU N parts m) (aVO.wrap (x8+1)) bR
  else
   some aS
def aAt (N:Nat)(parts:List (List Int)):Option (List Int):=
 (pU N parts N 0 []).bind fun p2=>
 aEg N p2
def zV (N:Nat)(kY:Int)(l1:List Int):Option ((List Int)×Bool):=
 (a9 4 l1).bind fun q=>
 some (l1,kY != 0)
def kM (N:Nat)(va b:List Int):Nat→Int→Int→(List Int)→Option (Int×(List Int))
 |0,_,_,_=>none
 |m+1,carry_1,x9,l3=>
  if decide (x9<4) then
   (bV 4 va x9).bind fun x15=>
   (bV 4 b x9).bind fun x18=>
   (d8 N x15 x18 carry_1).bind fun d9=>
   (bV 4 l3 x9).bind fun fG=>
   (kM N va b m) d9.2 (aVO.wrap (x9+1)) (l3.set (aVS x9) d9.1)
  else
   some (carry_1,l3)
def xW (N:Nat)(va b:List Int):Option ((List Int)×Bool):=
 (kM N va b N 0 0 (aVP 4 0)).bind fun p2=>
 zV N p2.1 p2.2
def nQ (N:Nat)(l1:List Int):Option (List Int):=
 (a9 4 l1).bind fun q_4=>
 some l1
def nH (N:Nat)(vm:List Int)(bS:(List Int)×Bool)(x29:Bool):Option (List Int):=
 if x29 then
  (sV N bS.1 vm).bind fun jY=>
  (a9 4 jY.1).bind fun q_5=>
  nQ N jY.1
 else
  nQ N bS.1
def zD (N:Nat)(va b vm:List Int):Option (List Int):=
 (a9 4 vm).bind fun q=>
 if vm == [0,0,0,0] then
  some [0,0,0,0]
 else
  (a9 4 va).bind fun q_1=>
  (sW N va vm).bind fun x16=>
  (a9 4 b).bind fun q_2=>
  (sW N b vm).bind fun x19=>
  (xW N x16 x19).bind fun bS=>
  (a9 4 bS.1).bind fun q_3=>
  if bS.2 then
   nH N vm bS true
  else
   (pC N bS.1 vm).bind fun x27=>
   nH N vm bS (decide (0≤x27))
def o5 (N:Nat)(va b:List Int):Option (List Int):=
 (a9 4 va).bind fun q=>
 (a9 4 b).bind fun q_1=>
 (pO N).bind fun x7=>
 (zD N va b x7).bind fun x8=>
 (a9 4 x8).bind fun q_2=>
 some x8
def qM (N:Nat)(vh:List Int):Option (List Int):=
 (a9 32 vh).bind fun q=>
 (fU N vh).bind fun x4=>
 (o5 N x4 [0,0,0,0]).bind fun x6=>
 (a9 4 x6).bind fun q_1=>
 some x6
def nI (N:Nat)(vr p vm:List Int):Option (List Int):=
 (a9 4 vr).bind fun q=>
 (uE N vr).bind fun x8=>
 (a9 4 p).bind fun q_1=>
 (uE N p).bind fun cD=>
 (a9 32 vm).bind fun q_2=>
 (a9 32 x8).bind fun q_3=>
 (a9 32 cD).bind fun q_4=>
 (aAt N [x8,cD,vm]).bind fun d5=>
 (yI N (⟨#[108,105,103,104,116,99,108,105,101,110,116,47,99,104,97,108,108,101,110,103,101]⟩) d5).bind fun bR=>
 (qM N bR).bind fun x15=>
 (a9 4 x15).bind fun q_5=>
 some x15
def j7 (N:Nat)(p vm s_E s_S:List Int)(fG:Bool):Option Bool:=
 if fG then
  some false
 else
  (pO N).bind fun x26=>
  (a9 4 s_E).bind fun q=>
  (sV N x26 s_E).bind fun x29=>
  (a9 4 x29.1).bind fun q_1=>
  (a9 4 s_S).bind fun q_2=>
  (vF N s_S).bind fun cV=>
  (a9 4 p).bind fun q_3=>
  (xF N p x29.1).bind fun x37=>
  (wF N cV x37).bind fun x38=>
  (a9 4 x38).bind fun q_4=>
  (a9 32 vm).bind fun q_5=>
  (nI N x38 p vm).bind fun x44=>
  (a9 4 x44).bind fun q_6=>
  some (s_E == x44)
def sU (N:Nat)(p vm s_E s_S:List Int):Option Bool:=
 (a9 4 s_E).bind fun q_7=>
 (pR N s_E).bind fun fC=>
 if !fC then
  j7 N p vm s_E s_S true
 else
  (a9 4 s_S).bind fun q_8=>
  (pR N s_S).bind fun x17=>
  if !x17 then
   j7 N p vm s_E s_S true
  else
   (a9 4 p).bind fun q_9=>
   (sF N p).bind fun bX=>
   j7 N p vm s_E s_S (!bX)
def gW (N:Nat)(aF:List Int)(aJ aN:Int)(aL:List (List Int))(aH:List aM)(aY:Int)(x40:Bool):Option Int:=
 if x40 then
  some 61
 else
  some 0
def dM (N:Nat)(aF:List Int)(aJ aN:Int)(aL:List (List Int))(aH:List aM)(aY:Int)(key aCb:List Int):Option Int:=
 if(key.length:Int) != 32 then
  some 60
 else
  (sY 32 key).bind fun bR=>
  (fU N bR).bind fun x16=>
  (a9 4 x16).bind fun q=>
  (sF N x16).bind fun x18=>
  if !x18 then
   some 60
  else
   if(aCb.length:Int) == 0 then
    some 0
   else
    (sR N aCb).bind fun x25=>
    if x25.2.2 != 0 then
     gW N aF aJ aN aL aH aY true
    else
     (a9 32 aF).bind fun q_1=>
     (sU N x16 aF x25.1 x25.2.1).bind fun x38=>
     gW N aF aJ aN aL aH aY (!x38)
def lW (N:Nat)(aF:List Int)(aJ aN:Int)(aL:List (List Int))(aH:List aM)(aY fO vn count:Int):Option (Int×(List Int)×Int×Int×(List (List Int))×(List aM)×Int):=
 (lN N (decide (fO≤count))).bind fun x76=>
 (dP N aF aJ aN aL aH aY (aVO.wrap (2*vn)) x76).bind fun x77=>
 some (0,x77.1,x77.2.1,x77.2.2.1,x77.2.2.2.1,x77.2.2.2.2.1,x77.2.2.2.2.2)
def jO (N:Nat)(aF:List Int)(aJ aN:Int)(aL:List (List Int))(aH:List aM)(aY fO vn:Int)(iB x43:List (List Int))(x45:Int)(rec:Int→Int→Option (LR (Int) (Int×(List Int)×Int×Int×(List (List Int))×(List aM)×Int)))(aC5:Int):Option (LR (Int) (Int×(List Int)×Int×Int×(List (List Int))×(List aM)×Int)):=
 rec aC5 (aVO.wrap (x45+1))
def dQ (N:Nat)(aF:List Int)(aJ aN:Int)(aL:List (List Int))(aH:List aM)(aY fO vn:Int)(iB x43:List (List Int)):Nat→Int→Int→Option (LR (Int) (Int×(List Int)×Int×Int×(List (List Int))×(List aM)×Int))
 |0,_,_=>none
 |m+1,count_1,x45=>
  if decide (x45<vn) then
   (bY iB x45).bind fun x51=>
   (bY x43 x45).bind fun x55=>
   (dM N aF aJ aN aL aH aY x51 x55).bind fun x57=>
   if x57 != 0 then
    some (.ret (x57,aF,aJ,aN,aL,aH,aY))
   else
    if decide (0<(x55.length:Int)) then
     jO N aF aJ aN aL aH aY fO vn iB x43 x45 (dQ N aF aJ aN aL aH aY fO vn iB x43 m) (aVO.wrap (count_1+1))
    else
     jO N aF aJ aN aL aH aY fO vn iB x43 x45 (dQ N aF aJ aN aL aH aY fO vn iB x43 m) count_1
  else
   some (.brk count_1)
def jA (N:Nat)(aF:List Int)(aJ aN:Int)(aL:List (List Int))(aH:List aM)(aY fO vn:Int):Option (Int×(List Int)×Int×Int×(List (List Int))×(List aM)×Int):=
 (vM aL (aVO.wrap ((aL.length:Int)-vn)) (aL.length:Int)).bind fun iB=>
 (vM aL (aVO.wrap ((aL.length:Int)-(aVO.wrap (2*vn)))) (aVO.wrap ((aL.length:Int)-vn))).bind fun x43=>
 (dQ N aF aJ aN aL aH aY fO vn iB x43 N 0 0).bind fun q=>match q with
  | .ret v=>some v
  | .brk p2=>
   lW N aF aJ aN aL aH aY fO vn p2
def uR (N:Nat)(vn:Int):Option (Int×Int):=
 some (vn,0)
def iC (N:Nat)(b:List Int):Nat→Int→Int→Option Int
 |0,_,_=>none
 |m+1,eD,x26=>
  if decide (x26<(b.length:Int)) then
   (bY b x26).bind fun x29=>
   (shl .u32 (aVQ.wrap x29) (aVO.wrap (8*x26))).bind fun x36=>
   (iC N b m) (bits .or .u32 eD x36) (aVO.wrap (x26+1))
  else
   some eD
def gF (N:Nat)(b:List Int)(iB:Bool):Option (Int×Int):=
 if iB then
  some (0,82)
 else
  (iC N b N 0 0).bind fun p3=>
  uR N p3
def kW (N:Nat)(b:List Int):Option (Int×Int):=
 if decide (4<(b.length:Int)) then
  gF N b true
 else
  if decide (0<(b.length:Int)) then
   (bY b (aVO.wrap ((b.length:Int)-1))).bind fun x19=>
   gF N b (x19 == 0)
  else
   gF N b false
def mS (N:Nat)(gG:List Int)(now:Int):Option Int:=
 (kW N gG).bind fun x9=>
 if x9.2 != 0 then
  some x9.2
 else
  if decide (now<(aVO.wrap x9.1)) then
   some 85
  else
   some 0
def dX (N:Nat)(c0:List Int)(xI wE vN:Int)(l3:List (List Int))(l4:List aM):Option (Int×(List Int)×Int×Int×(List (List Int))×(List aM)×Int):=
 some (0,c0,xI,wE,l3,l4,vN)
def mF (N:Nat)(aF:List Int)(aJ aN:Int)(aL:List (List Int))(aH:List aM)(aY bA:Int)(cC:List Int)(eU eG:Int):Option (Int×(List Int)×Int×Int×(List (List Int))×(List aM)×Int):=
 if bA == 1 then
  (iY N aF aJ aN aL aH aY cC).bind fun bR=>
  some (bR.1,bR.2.1,bR.2.2.1,bR.2.2.2.1,bR.2.2.2.2.1,bR.2.2.2.2.2.1,bR.2.2.2.2.2.2)
 else
  if bA == 2 then
   (cW N aF aJ aN aL aH aY).bind fun x19=>
   (iY N aF aJ aN aL aH aY x19).bind fun bS=>
   some (bS.1,bS.2.1,bS.2.2.1,bS.2.2.2.1,bS.2.2.2.2.1,bS.2.2.2.2.2.1,bS.2.2.2.2.2.2)
  else
   if bA == 3 then
    (eQ N aF aJ aN aL aH aY 1).bind fun fG=>
    dX N fG.1 fG.2.1 fG.2.2.1 fG.2.2.2.2.2 fG.2.2.2.1 fG.2.2.2.2.1
   else
    if bA == 4 then
     (bY aL (aVO.wrap ((aL.length:Int)-2))).bind fun x50=>
     (bY aL (aVO.wrap ((aL.length:Int)-1))).bind fun x58=>
     (bY (aL.set (aVS (aVO.wrap ((aL.length:Int)-1))) x50) (aVO.wrap ((aL.length:Int)-2))).bind fun x61=>
     dX N aF aJ aN aY ((aL.set (aVS (aVO.wrap ((aL.length:Int)-1))) x50).set (aVS (aVO.wrap ((aL.length:Int)-2))) x58) aH
    else
     if bA == 5 then
      (cW N aF aJ aN aL aH aY).bind fun x66=>
      (bY aL (aVO.wrap ((aL.length:Int)-2))).bind fun x77=>
      (aB4 N x66 x77).bind fun x79=>
      (lN N x79).bind fun x80=>
      (dP N aF aJ aN aL aH aY 2 x80).bind fun x81=>
      dX N x81.1 x81.2.1 x81.2.2.1 x81.2.2.2.2.2 x81.2.2.2.1 x81.2.2.2.2.1
     else
      if bA == 6 then
       (cW N aF aJ aN aL aH aY).bind fun x86=>
       (kR N x86).bind fun x87=>
       (lN N (!x87)).bind fun x89=>
       (dP N aF aJ aN aL aH aY 1 x89).bind fun x90=>
       dX N x90.1 x90.2.1 x90.2.2.1 x90.2.2.2.2.2 x90.2.2.2.1 x90.2.2.2.2.1
      else
       if bA == 7 then
        (cW N aF aJ aN aL aH aY).bind fun x94=>
        (kR N x94).bind fun x95=>
        if !x95 then
         some (84,aF,aJ,aN,aL,aH,aY)
        else
         (eQ N aF aJ aN aL aH aY 1).bind fun x98=>
         dX N x98.1 x98.2.1 x98.2.2.1 x98.2.2.2.2.2 x98.2.2.2.1 x98.2.2.2.2.1
       else
        if bA == 8 then
         (cW N aF aJ aN aL aH aY).bind fun aIU=>
         (aAA N aIU).bind fun aHr=>
         (a9 32 aHr).bind fun q=>
         (dP N aF aJ aN aL aH aY 1 aHr).bind fun xL=>
         dX N xL.1 xL.2.1 xL.2.2.1 xL.2.2.2.2.2 xL.2.2.2.1 xL.2.2.2.2.1
        else
         if bA == 9 then
          (cW N aF aJ aN aL aH aY).bind fun aLb=>
          (iP N (aVQ.wrap (aLb.length:Int))).bind fun aJJ=>
          (iY N aF aJ aN aL aH aY aJJ).bind fun aFV=>
          some (aFV.1,aFV.2.1,aFV.2.2.1,aFV.2.2.2.1,aFV.2.2.2.2.1,aFV.2.2.2.2.2.1,aFV.2.2.2.2.2.2)
         else
          if bA == 10 then
           (jA N aF aJ aN aL aH aY 1 1).bind fun aF1=>
           some (aF1.1,aF1.2.1,aF1.2.2.1,aF1.2.2.2.1,aF1.2.2.2.2.1,aF1.2.2.2.2.2.1,aF1.2.2.2.2.2.2)
          else
           if bA == 11 then
            (jA N aF aJ aN aL aH aY eU eG).bind fun aGk=>
            some (aGk.1,aGk.2.1,aGk.2.2.1,aGk.2.2.2.1,aGk.2.2.2.2.1,aGk.2.2.2.2.2.1,aGk.2.2.2.2.2.2)
           else
            if bA == 12 then
             (cW N aF aJ aN aL aH aY).bind fun aS1=>
             (mS N aS1 aJ).bind fun aS0=>
             some (aS0,aF,aJ,aN,aL,aH,aY)
            else
             if bA == 13 then
              (cW N aF aJ aN aL aH aY).bind fun aSM=>
              (mS N aSM aN).bind fun aGc=>
              some (aGc,aF,aJ,aN,aL,aH,aY)
             else
              if bA == 17 then
               some (84,aF,aJ,aN,aL,aH,aY)
              else
               dX N aF aJ aN aY aL aH
def gM (N:Nat)(xI:List Int)(wE vN aBL:Int)(l3:List (List Int))(l4:List aM):Option (Int×(List Int)×Int×Int×(List (List Int))×(List aM)×Int):=
 some (0,xI,wE,vN,l3,l4,aBL)
def kT (N:Nat)(aF:List Int)(aJ aN:Int)(aL:List (List Int))(counted:Bool)(c0:Int)(eZ:List aM):Option (Int×(List Int)×Int×Int×(List (List Int))×(List aM)×Int):=
 if counted then
  (eQ N aF aJ aN aL eZ c0 1).bind fun x86=>
  gM N x86.1 x86.2.1 x86.2.2.1 x86.2.2.2.2.2 x86.2.2.2.1 x86.2.2.2.2.1
 else
  gM N aF aJ aN c0 aL eZ
def iM (N:Nat)(aF:List Int)(aJ aN:Int)(aL:List (List Int))(aH:List aM)(bA:Int)(cC:List Int)(eU eG:Int)(counted:Bool)(c0:Int):Option (Int×(List Int)×Int×Int×(List (List Int))×(List aM)×Int):=
 if bA == 14 then
  if counted then
   (cW N aF aJ aN aL aH c0).bind fun x76=>
   (kR N x76).bind fun x77=>
   (eE 2 aH [(aM.mk counted x77)]).bind fun x81=>
   kT N aF aJ aN aL counted c0 x81
  else
   (eE 2 aH [(aM.mk counted false)]).bind fun aNC=>
   kT N aF aJ aN aL counted c0 aNC
 else
  if bA == 15 then
   (bY aH (aVO.wrap ((aH.length:Int)-1))).bind fun x99=>
   gM N aF aJ aN c0 aL (aH.set (aVS (aVO.wrap ((aH.length:Int)-1))) (aM.mk x99.outer (!x99.taken)))
  else
   if bA == 16 then
    (sub aH 0 (aVO.wrap ((aH.length:Int)-1))).bind fun aF5=>
    gM N aF aJ aN c0 aL aF5
   else
    if counted then
     (mF N aF aJ aN aL aH c0 bA cC eU eG).bind fun x64=>
     some (x64.1,x64.2.1,x64.2.2.1,x64.2.2.2.1,x64.2.2.2.2.1,x64.2.2.2.2.2.1,x64.2.2.2.2.2.2)
    else
     gM N aF aJ aN c0 aL aH
def iS (N:Nat)(aF:List Int)(aJ aN:Int)(aL:List (List Int))(aH:List aM)(aY bA:Int)(cC:List Int)(eU eG:Int)(counted:Bool):Option (Int×(List Int)×Int×Int×(List (List Int))×(List aM)×Int):=
 if counted then
  (wJ N bA cC eU eG).bind fun x36=>
  if decide (500<(aVO.wrap (aY+x36))) then
   some (83,aF,aJ,aN,aL,aH,aVO.wrap (aY+x36))
  else
   (wQ N bA cC eU eG).bind fun x51=>
   if decide ((aL.length:Int)<x51) then
    some (81,aF,aJ,aN,aL,aH,aVO.wrap (aY+x36))
   else
    iM N aF aJ aN aL aH bA cC eU eG counted (aVO.wrap (aY+x36))
 else
  iM N aF aJ aN aL aH bA cC eU eG counted aY
def iQ (N:Nat)(aF:List Int)(aJ aN:Int)(aL:List (List Int))(aH:List aM)(aY bA:Int)(cC:List Int)(eU eG:Int)(x8 x16:Bool):Option (Int×(List Int)×Int×Int×(List (List Int))×(List aM)×Int):=
 if x16 then
  (bY aH (aVO.wrap ((aH.length:Int)-1))).bind fun x27=>
  iS N aF aJ aN aL aH aY bA cC eU eG x27.outer
 else
  iS N aF aJ aN aL aH aY bA cC eU eG x8
def iX (N:Nat)(aF:List Int)(aJ aN:Int)(aL:List (List Int))(aH:List aM)(aY bA:Int)(cC:List Int)(eU eG:Int):Option (Int×(List Int)×Int×Int×(List (List Int))×(List aM)×Int):=
 (oY N aF aJ aN aL aH aY).bind fun x8=>
 if bA == 15 then
  iQ N aF aJ aN aL aH aY bA cC eU eG x8 true
 else
  iQ N aF aJ aN aL aH aY bA cC eU eG x8 (bA == 16)
def aAj (N:Nat)(c0:List Int)(xI wE vN:Int)(l1:List (List Int))(l2:List aM):Option ((List (List Int))×Int×Int):=
 (rH N l1).bind fun x47=>
 some (x47,vN,0)
def mZ (N:Nat)(x17:(List aX)×Int):Nat→Int→(List Int)→Int→Int→Int→(List (List Int))→(List aM)→Option (LR ((List Int)×Int×Int×Int×(List (List Int))×(List aM)) ((List (List Int))×Int×Int))
 |0,_,_,_,_,_,_,_=>none
 |m+1,x35,aBL,c0_5,c0_6,c0_7,i9,l3=>
  if decide (x35<(x17.1.length:Int)) then
   (bY x17.1 x35).bind fun x37=>
   (iX N aBL c0_5 c0_6 i9 l3 c0_7 x37.Code x37.Data x37.M x37.N).bind fun x40=>
   if x40.1 != 0 then
    some (.ret ([],0,x40.1))
   else
    (mZ N x17 m) (aVO.wrap (x35+1)) x40.2.1 x40.2.2.1 x40.2.2.2.1 x40.2.2.2.2.2.2 x40.2.2.2.2.1 x40.2.2.2.2.2.1
  else
   some (.brk (aBL,c0_5,c0_6,c0_7,i9,l3))
def aBf (N:Nat)(b:List Int)(stack:List (List Int))(fD:List Int)(gJ n8:Int):Option ((List (List Int))×Int×Int):=
 (wB N b).bind fun x17=>
 if x17.2 != 0 then
  some ([],0,x17.2)
 else
  (u7 N x17.1).bind fun fG=>
  if !fG then
   some ([],0,86)
  else
   (t4 N stack).bind fun x27=>
   if !x27 then
    some ([],0,4)
   else
    (rH N stack).bind fun e9=>
    (mZ N x17 N 0 fD gJ n8 0 e9 []).bind fun q=>match q with
     | .ret v=>some v
     | .brk p2=>
      aAj N p2.1 p2.2.1 p2.2.2.1 p2.2.2.2.1 p2.2.2.2.2.1 p2.2.2.2.2.2
def nG (N:Nat)(b:List Int)(bJ:List (List Int))(fD:List Int)(gJ n8:Int):Option Int:=
 (aBf N b bJ fD gJ n8).bind fun bR=>
 if bR.2.2 != 0 then
  some bR.2.2
 else
  if(bR.1.length:Int) != 1 then
   some 81
  else
   (bY bR.1 0).bind fun x28=>
   (kR N x28).bind fun lL=>
   if !lL then
    some 84
   else
    some 0
def qB (N:Nat)(aD:Int)(aA:List aK)(aB:List aG)(aE vi:Int)(cX:List Int)(b5 bT:Int)(bK:List Int)(b9:Int)(cM:Bool)(cP:Int)(x17:(List Int)×Int)(cV:Bool):Option Int:=
 if cV then
  some 102
 else
  (bY aA vi).bind fun x61=>
  (nG N bK x61.Witness x17.1 cP (aVO.wrap (cP-b9))).bind fun x65=>
  some x65
def zP (N:Nat)(aD:Int)(aA:List aK)(aB:List aG)(aE vi:Int)(cX:List Int)(b5 bT:Int)(bK:List Int)(b9:Int)(cM:Bool)(cP:Int):Option Int:=
 (u5 N aD aA aB aE vi bT bK).bind fun x17=>
 (a9 32 x17.1).bind fun q=>
 if x17.2 != 0 then
  some x17.2
 else
  (bY aA vi).bind fun x28=>
  if !(aCR x28.Prev.Tx cX ((x28.Prev.Index == b5)&&true)) then
   some 101
  else
   if decide (b9<0) then
    qB N aD aA aB aE vi cX b5 bT bK b9 cM cP x17 true
   else
    if decide (cP<b9) then
     qB N aD aA aB aE vi cX b5 bT bK b9 cM cP x17 true
    else
     qB N aD aA aB aE vi cX b5 bT bK b9 cM cP x17 (decide (16777216<cP))
def v4 (N:Nat)(l0:List Int):Option (List Int):=
 some l0
def kG (N:Nat)(v:Int)(x8:List Int):Nat→Int→(List Int)→Option (List Int)
 |0,_,_=>none
 |m+1,b4,aS=>
  if decide (b4<(x8.length:Int)) then
   (shr .u64 v (aVO.wrap (8*b4))).bind fun x19=>
   (bY aS b4).bind fun d9=>
   (kG N v x8 m) (aVO.wrap (b4+1)) (aS.set (aVS b4) (aVV.wrap x19))
  else
   some aS
def kN (N:Nat)(v vn:Int):Option (List Int):=
 (mks 1 0 vn).bind fun x8=>
 (kG N v x8 N 0 x8).bind fun p2=>
 v4 N p2
def eJ (N:Nat)(va b:List Int):Option (List Int):=
 (mks 1 0 (aVO.wrap ((va.length:Int)+(b.length:Int)))).bind fun b4=>
 (eE 1 (b4.take 0) va).bind fun bR=>
 (eE 1 bR b).bind fun x16=>
 some x16
def fI (N:Nat)(b:List Int)(vn:Int):Option (List Int):=
 (kN N (aVR.wrap vn) 4).bind fun x8=>
 (eJ N b x8).bind fun x9=>
 some x9
def jN (N:Nat)(b:List Int)(vn:Int):Option (List Int):=
 if decide (vn<253) then
  (kN N vn 1).bind fun cD=>
  (eJ N b cD).bind fun b4=>
  some b4
 else
  if decide (vn<65536) then
   (kN N vn 2).bind fun x18=>
   (eJ N [253] x18).bind fun x19=>
   (eJ N b x19).bind fun bS=>
   some bS
  else
   if decide (vn<4294967296) then
    (kN N vn 4).bind fun x27=>
    (eJ N [254] x27).bind fun x28=>
    (eJ N b x28).bind fun x29=>
    some x29
   else
    (kN N vn 8).bind fun jY=>
    (eJ N [255] jY).bind fun cV=>
    (eJ N b cV).bind fun x35=>
    some x35
def iF (N:Nat)(b vh:List Int):Option (List Int):=
 (a9 32 vh).bind fun q=>
 (eJ N b vh).bind fun x7=>
 some x7
def vH (N:Nat)(y4:List Int)(oZ:Int):Option (List Int):=
 (a9 32 y4).bind fun q=>
 (iF N [] y4).bind fun x5=>
 (fI N x5 oZ).bind fun x8=>
 some x8
def r7 (N:Nat)(b:List Int)(vn:Int):Option (List Int):=
 (kN N vn 8).bind fun x7=>
 (eJ N b x7).bind fun x8=>
 some x8
def mO (N:Nat)(b vs:List Int):Option (List Int):=
 (jN N b (aVR.wrap (vs.length:Int))).bind fun x9=>
 (eJ N x9 vs).bind fun b4=>
 some b4
def xY (N:Nat)(bF:Int)(aZ:List Int):Option (List Int):=
 (r7 N [] (aVR.wrap bF)).bind fun x6=>
 (mO N x6 aZ).bind fun x9=>
 some x9
def aA5 (N:Nat)(l0:List Int):Option (List Int):=
 some l0
def vO (N:Nat)(aA:List aK)(bJ:Bool)(x64:Int)(rec:Int→(List Int)→Option (List Int))(fM:List Int):Option (List Int):=
 rec (aVO.wrap (x64+1)) fM
def i3 (N:Nat)(aA:List aK)(bJ:Bool)(x64:Int)(x66:aK):Nat→Int→(List Int)→Option (List Int)
 |0,_,_=>none
 |m+1,x79,fX=>
  if decide (x79<(x66.Witness.length:Int)) then
   (bY x66.Witness x79).bind fun x81=>
   (mO N fX x81).bind fun x85=>
   (i3 N aA bJ x64 x66 m) (aVO.wrap (x79+1)) x85
  else
   some fX
def g9 (N:Nat)(aA:List aK)(bJ:Bool):Nat→Int→(List Int)→Option (List Int)
 |0,_,_=>none
 |m+1,x64,aS=>
  if decide (x64<(aA.length:Int)) then
   (bY aA x64).bind fun x66=>
   if !bJ then
    some aS
   else
    (jN N aS (aVR.wrap (x66.Witness.length:Int))).bind fun x75=>
    (i3 N aA bJ x64 x66 N 0 x75).bind fun p6=>
    vO N aA bJ x64 (g9 N aA bJ m) p6
  else
   some aS
def vZ (N:Nat)(aD:Int)(aA:List aK)(aB:List aG)(aE:Int)(bJ:Bool)(cS:List Int):Option (List Int):=
 (fI N cS aE).bind fun x60=>
 (g9 N aA bJ N 0 x60).bind fun p4=>
 aA5 N p4
def i0 (N:Nat)(aD:Int)(aA:List aK)(aB:List aG)(aE:Int)(bJ:Bool):Nat→Int→(List Int)→Option (List Int)
 |0,_,_=>none
 |m+1,x48,l1_2=>
  if decide (x48<(aB.length:Int)) then
   (bY aB x48).bind fun x50=>
   (xY N x50.Value x50.Script).bind fun x54=>
   (eE 1 l1_2 x54).bind fun x55=>
   (i0 N aD aA aB aE bJ m) (aVO.wrap (x48+1)) x55
  else
   some l1_2
def vP (N:Nat)(aD:Int)(aA:List aK)(aB:List aG)(aE:Int)(bJ:Bool)(l1:List Int):Option (List Int):=
 (jN N l1 (aVR.wrap (aB.length:Int))).bind fun x44=>
 (i0 N aD aA aB aE bJ N 0 x44).bind fun p7=>
 vZ N aD aA aB aE bJ p7
def vQ (N:Nat)(aD:Int)(aA:List aK)(aB:List aG)(aE:Int)(bJ:Bool)(x26:Int)(rec:Int→(List Int)→Option (List Int))(aHF:List Int):Option (List Int):=
 rec (aVO.wrap (x26+1)) aHF
def g7 (N:Nat)(aD:Int)(aA:List aK)(aB:List aG)(aE:Int)(bJ:Bool):Nat→Int→(List Int)→Option (List Int)
 |0,_,_=>none
 |m+1,x26,l1_3=>
  if decide (x26<(aA.length:Int)) then
   (bY aA x26).bind fun x28=>
   (vH N x28.Prev.Tx x28.Prev.Index).bind fun jY=>
   (eE 1 l1_3 jY).bind fun cV=>
   (fI N cV x28.Sequence).bind fun x37=>
   vQ N aD aA aB aE bJ x26 (g7 N aD aA aB aE bJ m) x37
  else
   some l1_3
def xQ (N:Nat)(aD:Int)(aA:List aK)(aB:List aG)(aE:Int)(bJ:Bool):Option (List Int):=
 (fI N [] aD).bind fun x16=>
 (jN N x16 (aVR.wrap (aA.length:Int))).bind fun bX=>
 (g7 N aD aA aB aE bJ N 0 bX).bind fun p8=>
 vP N aD aA aB aE bJ p8
def aAe (N:Nat)(aD:Int)(aA:List aK)(aB:List aG)(aE:Int):Option Bool:=
 (xQ N aD aA aB aE true).bind fun x60=>
 some (decide ((x60.length:Int)≤20000))
def aAb (N:Nat)(aD:Int)(aA:List aK)(aB:List aG)(aE x39:Int)(rec:Int→Option (LR (Unit) (Bool))):Option (LR (Unit) (Bool)):=
 rec (aVO.wrap (x39+1))
def kX (N:Nat)(aD:Int)(aA:List aK)(aB:List aG)(aE x39:Int)(x41:aK):Nat→Int→Option (LR (Unit) (Bool))
 |0,_=>none
 |m+1,x50=>
  if decide (x50<(x41.Witness.length:Int)) then
   (bY x41.Witness x50).bind fun x52=>
   if decide (520<(x52.length:Int)) then
    some (.ret false)
   else
    (kX N aD aA aB aE x39 x41 m) (aVO.wrap (x50+1))
  else
   some (.brk ())
def kV (N:Nat)(aD:Int)(aA:List aK)(aB:List aG)(aE:Int):Nat→Int→Option (LR (Unit) (Bool))
 |0,_=>none
 |m+1,x39=>
  if decide (x39<(aA.length:Int)) then
   (bY aA x39).bind fun x41=>
   if decide (32<(x41.Witness.length:Int)) then
    some (.ret false)
   else
    (kX N aD aA aB aE x39 x41 N 0).bind fun q=>match q with
     | .ret v=>some (.ret v)
     | .brk p6=>
      aAb N aD aA aB aE x39 (kV N aD aA aB aE m)
  else
   some (.brk ())
def aAf (N:Nat)(aD:Int)(aA:List aK)(aB:List aG)(aE:Int):Option Bool:=
 (kV N aD aA aB aE N 0).bind fun q=>match q with
  | .ret v=>some v
  | .brk p4=>
   aAe N aD aA aB aE
def u2 (N:Nat)(aD:Int)(aA:List aK)(aB:List aG)(aE bX:Int)(rec:Int→Option (LR (Unit) (Bool)))(cV:Bool):Option (LR (Unit) (Bool)):=
 if cV then
  some (.ret false)
 else
  rec (aVO.wrap (bX+1))
def jW (N:Nat)(aD:Int)(aA:List aK)(aB:List aG)(aE:Int):Nat→Int→Option (LR (Unit) (Bool))
 |0,_=>none
 |m+1,bX=>
  if decide (bX<(aB.length:Int)) then
   (bY aB bX).bind fun fG=>
   if decide (fG.Value<0) then
    u2 N aD aA aB aE bX (jW N aD aA aB aE m) true
   else
    u2 N aD aA aB aE bX (jW N aD aA aB aE m) (decide (520<(fG.Script.length:Int)))
  else
   some (.brk ())
def u3 (N:Nat)(aD:Int)(aA:List aK)(aB:List aG)(aE:Int)(x18:Bool):Option Bool:=
 if x18 then
  some false
 else
  (jW N aD aA aB aE N 0).bind fun q=>match q with
   | .ret v=>some v
   | .brk p7=>
    aAf N aD aA aB aE
def aAD (N:Nat)(aD:Int)(aA:List aK)(aB:List aG)(aE:Int):Option Bool:=
 if decide (64<(aA.length:Int)) then
  u3 N aD aA aB aE true
 else
  u3 N aD aA aB aE (decide (64<(aB.length:Int)))
def aDh (N:Nat)(aS:List Int):Option (List Int):=
 some aS
def oE (N:Nat)(vn:Int):Nat→Int→(List Int)→Option (List Int)
 |0,_,_=>none
 |m+1,vi,fM=>
  if decide (0≤vi) then
   (shr .u64 (aVR.wrap (8*vn)) (aVO.wrap (8*vi))).bind fun x26=>
   (eE 1 fM [aVV.wrap x26]).bind fun x29=>
   (oE N vn m) (aVO.wrap (vi-1)) x29
  else
   some fM
def aBe (N:Nat)(vn:Int)(l0:List Int):Option (List Int):=
 (oE N vn N 7 l0).bind fun p3=>
 aDh N p3
def qL (N:Nat)(vn:Int):Nat→(List Int)→Option (List Int)
 |0,_=>none
 |m+1,fX=>
  if(aV4 (aVR.wrap ((aVR.wrap (vn+(aVR.wrap (fX.length:Int))))+8)) 64) != 0 then
   (eE 1 fX [0]).bind fun x16=>
   (qL N vn m) x16
  else
   some fX
def aCe (N:Nat)(vn:Int):Option (List Int):=
 (qL N vn N [128]).bind fun p4=>
 aBe N vn p4
def aAg (N:Nat):Option (List Int):=
 some [1779033703,3144134277,1013904242,2773480762,1359893119,2600822924,528734635,1541459225]
def j4 (N:Nat)(x vn:Int):Option Int:=
 (kS N x (aVO.wrap (0-vn))).bind fun x8=>
 some x8
def tA (N:Nat)(cS:List Int):Option (List Int):=
 (a9 64 cS).bind fun q=>
 some cS
def kF (N:Nat):Nat→Int→(List Int)→Option (List Int)
 |0,_,_=>none
 |m+1,vi,l1_2=>
  if decide (vi<64) then
   (bV 64 l1_2 (aVO.wrap (vi-15))).bind fun x49=>
   (j4 N x49 7).bind fun x51=>
   (j4 N x49 18).bind fun x56=>
   (shr .u32 x49 3).bind fun x62=>
   (bV 64 l1_2 (aVO.wrap (vi-2))).bind fun x66=>
   (j4 N x66 17).bind fun x68=>
   (j4 N x66 19).bind fun x73=>
   (shr .u32 x66 10).bind fun x79=>
   (bV 64 l1_2 (aVO.wrap (vi-16))).bind fun x84=>
   (bV 64 l1_2 (aVO.wrap (vi-7))).bind fun x90=>
   (bV 64 l1_2 vi).bind fun x95=>
   (kF N m) (aVO.wrap (vi+1)) (l1_2.set (aVS vi) (aVQ.wrap ((aVQ.wrap ((aVQ.wrap (x84+(bits .xor .u32 (bits .xor .u32 x51 x56) x62)))+x90))+(bits .xor .u32 (bits .xor .u32 x68 x73) x79))))
  else
   some l1_2
def s7 (N:Nat)(l1:List Int):Option (List Int):=
 (kF N N 16 l1).bind fun p3=>
 tA N p3
def gR (N:Nat)(block:List Int):Nat→Int→(List Int)→Option (List Int)
 |0,_,_=>none
 |m+1,vi_1,l2=>
  if decide (vi_1<16) then
   (bV 64 block (aVO.wrap (4*vi_1))).bind fun x15=>
   (shl .u32 (aVQ.wrap x15) 24).bind fun x18=>
   (bV 64 block (aVO.wrap ((aVO.wrap (4*vi_1))+1))).bind fun bX=>
   (shl .u32 (aVQ.wrap bX) 16).bind fun x25=>
   (bV 64 block (aVO.wrap ((aVO.wrap (4*vi_1))+2))).bind fun lL=>
   (shl .u32 (aVQ.wrap lL) 8).bind fun jY=>
   (bV 64 block (aVO.wrap ((aVO.wrap (4*vi_1))+3))).bind fun x38=>
   (bV 64 l2 vi_1).bind fun x42=>
   (gR N block m) (aVO.wrap (vi_1+1)) (l2.set (aVS vi_1) (bits .or .u32 (bits .or .u32 (bits .or .u32 x18 x25) jY) (aVQ.wrap x38)))
  else
   some l2
def tZ (N:Nat)(block:List Int):Option (List Int):=
 (gR N block N 0 (aVP 64 0)).bind fun p4=>
 s7 N p4
def v6 (N:Nat):Option (List Int):=
 some [1116352408,1899447441,3049323471,3921009573,961987163,1508970993,2453635748,2870763221,3624381080,310598401,607225278,1426881987,1925078388,2162078206,2614888103,3248222580,3835390401,4022224774,264347078,604807628,770255983,1249150122,1555081692,1996064986,2554220882,2821834349,2952996808,3210313671,3336571891,3584528711,113926993,338241895,666307205,773529912,1294757372,1396182291,1695183700,1986661051,2177026350,2456956037,2730485921,2820302411,3259730800,3345764771,3516065817,3600352804,4094571909,275423344,430227734,506948616,659060556,883997877,958139571,1322822218,1537002063,1747873779,1955562222,2024104815,2227730452,2361852424,2428436474,2756734187,3204031479,3329325298]
def s6 (N:Nat)(cT:List Int)(va b c d ve f g vh:Int):Option (List Int):=
 (bV 8 cT 0).bind fun aHt=>
 (bV 8 cT 1).bind fun aCr=>
 (bV 8 cT 2).bind fun aP9=>
 (bV 8 cT 3).bind fun aPp=>
 (bV 8 cT 4).bind fun aQt=>
 (bV 8 cT 5).bind fun aPv=>
 (bV 8 cT 6).bind fun aJl=>
 (bV 8 cT 7).bind fun aP1=>
 some [aVQ.wrap (aHt+va),aVQ.wrap (aCr+b),aVQ.wrap (aP9+c),aVQ.wrap (aPp+d),aVQ.wrap (aQt+ve),aVQ.wrap (aPv+f),aVQ.wrap (aJl+g),aVQ.wrap (aP1+vh)]
def kE (N:Nat)(cT:List Int)(x19 bS:(List Int)):Nat→Int→Int→Int→Int→Int→Int→Int→Int→Int→Option (Int×Int×Int×Int×Int×Int×Int×Int)
 |0,_,_,_,_,_,_,_,_,_=>none
 |m+1,va_1,b_1,c_1,d_1,ve_1,f_1,g_1,vh_1,vi=>
  if decide (vi<64) then
   (j4 N ve_1 6).bind fun x43=>
   (j4 N ve_1 11).bind fun x45=>
   (j4 N ve_1 25).bind fun x48=>
   (bV 64 bS vi).bind fun x61=>
   (bV 64 x19 vi).bind fun x65=>
   (j4 N va_1 2).bind fun x69=>
   (j4 N va_1 13).bind fun x71=>
   (j4 N va_1 22).bind fun x74=>
   (kE N cT x19 bS m) (aVQ.wrap ((aVQ.wrap ((aVQ.wrap ((aVQ.wrap ((aVQ.wrap (vh_1+(bits .xor .u32 (bits .xor .u32 x43 x45) x48)))+(bits .xor .u32 (bits .and .u32 ve_1 f_1) (bits .and .u32 (bits .xor .u32 (aWj .u32) ve_1) g_1))))+x61))+x65))+(aVQ.wrap ((bits .xor .u32 (bits .xor .u32 x69 x71) x74)+(bits .xor .u32 (bits .xor .u32 (bits .and .u32 va_1 b_1) (bits .and .u32 va_1 c_1)) (bits .and .u32 b_1 c_1)))))) va_1 b_1 c_1 (aVQ.wrap (d_1+(aVQ.wrap ((aVQ.wrap ((aVQ.wrap ((aVQ.wrap (vh_1+(bits .xor .u32 (bits .xor .u32 x43 x45) x48)))+(bits .xor .u32 (bits .and .u32 ve_1 f_1) (bits .and .u32 (bits .xor .u32 (aWj .u32) ve_1) g_1))))+x61))+x65)))) ve_1 f_1 g_1 (aVO.wrap (vi+1))
  else
   some (va_1,b_1,c_1,d_1,ve_1,f_1,g_1,vh_1)
def qA (N:Nat)(cT block:List Int):Option (List Int):=
 (a9 64 block).bind fun q=>
 (tZ N block).bind fun x19=>
 (v6 N).bind fun bS=>
 (a9 64 x19).bind fun q_1=>
 (a9 64 bS).bind fun q_2=>
 (bV 8 cT 0).bind fun d9=>
 (bV 8 cT 1).bind fun iB=>
 (bV 8 cT 2).bind fun x25=>
 (bV 8 cT 3).bind fun x27=>
 (bV 8 cT 4).bind fun x29=>
 (bV 8 cT 5).bind fun e9=>
 (bV 8 cT 6).bind fun jY=>
 (bV 8 cT 7).bind fun x35=>
 (kE N cT x19 bS N d9 iB x25 x27 x29 e9 jY x35 0).bind fun p2=>
 s6 N cT p2.1 p2.2.1 p2.2.2.1 p2.2.2.2.1 p2.2.2.2.2.1 p2.2.2.2.2.2.1 p2.2.2.2.2.2.2.1 p2.2.2.2.2.2.2.2
def aAT (N:Nat)(cS:List Int):Option (List Int):=
 (a9 32 cS).bind fun q_1=>
 some cS
def qU (N:Nat)(l1:List Int):Nat→Int→(List Int)→Option (List Int)
 |0,_,_=>none
 |m+1,cV,l1_2=>
  if decide (cV<8) then
   (bV 8 l1 cV).bind fun x37=>
   (shr .u32 x37 24).bind fun x50=>
   (shr .u32 x37 16).bind fun x53=>
   (shr .u32 x37 8).bind fun x56=>
   (bV 32 l1_2 (aVO.wrap (4*cV))).bind fun x60=>
   (bV 32 (l1_2.set (aVS (aVO.wrap (4*cV))) (aVV.wrap x50)) (aVO.wrap ((aVO.wrap (4*cV))+1))).bind fun x61=>
   (bV 32 ((l1_2.set (aVS (aVO.wrap (4*cV))) (aVV.wrap x50)).set (aVS (aVO.wrap ((aVO.wrap (4*cV))+1))) (aVV.wrap x53)) (aVO.wrap ((aVO.wrap (4*cV))+2))).bind fun x62=>
   (bV 32 (((l1_2.set (aVS (aVO.wrap (4*cV))) (aVV.wrap x50)).set (aVS (aVO.wrap ((aVO.wrap (4*cV))+1))) (aVV.wrap x53)).set (aVS (aVO.wrap ((aVO.wrap (4*cV))+2))) (aVV.wrap x56)) (aVO.wrap ((aVO.wrap (4*cV))+3))).bind fun x63=>
   (qU N l1 m) (aVO.wrap (cV+1)) ((((l1_2.set (aVS (aVO.wrap (4*cV))) (aVV.wrap x50)).set (aVS (aVO.wrap ((aVO.wrap (4*cV))+1))) (aVV.wrap x53)).set (aVS (aVO.wrap ((aVO.wrap (4*cV))+2))) (aVV.wrap x56)).set (aVS (aVO.wrap ((aVO.wrap (4*cV))+3))) (aVV.wrap x37))
  else
   some l1_2
def aAP (N:Nat)(l1:List Int):Option (List Int):=
 (a9 8 l1).bind fun q_2=>
 (qU N l1 N 0 (aVP 32 0)).bind fun p3=>
 aAT N p3
def qK (N:Nat)(x16:List Int):Nat→Int→(List Int)→Option (List Int)
 |0,_,_=>none
 |m+1,vi,l1_3=>
  if decide ((aVO.wrap (vi+64))≤(x16.length:Int)) then
   (sub x16 vi (x16.length:Int)).bind fun x28=>
   (a9 8 l1_3).bind fun q_3=>
   (a9 64 (nE (aVP 64 0) x28)).bind fun q_4=>
   (qA N l1_3 (nE (aVP 64 0) x28)).bind fun nW=>
   (a9 8 nW).bind fun q_5=>
   (qK N x16 m) (aVO.wrap (vi+64)) nW
  else
   some l1_3
def pT (N:Nat)(b:List Int):Option (List Int):=
 (eE 1 [] b).bind fun b4=>
 (aCe N (aVR.wrap (b.length:Int))).bind fun x15=>
 (eE 1 b4 x15).bind fun x16=>
 (aAg N).bind fun x17=>
 (a9 8 x17).bind fun q=>
 (qK N x16 N 0 x17).bind fun p4=>
 aAP N p4
def t7 (N:Nat)(tag:ByteArray)(b:List Int):Option (List Int):=
 (stb tag).bind fun x7=>
 (pT N x7).bind fun x8=>
 (a9 32 x8).bind fun q=>
 (eE 1 [] x8).bind fun cD=>
 (eE 1 cD x8).bind fun fC=>
 (eE 1 fC b).bind fun bR=>
 (pT N bR).bind fun x15=>
 (a9 32 x15).bind fun q_1=>
 some x15
def uC (N:Nat)(aD:Int)(aA:List aK)(aB:List aG)(aE vi bF:Int)(aZ l3 l4 l5:List Int):Option ((List Int)×Int):=
 (fI N [] aD).bind fun x72=>
 (pT N l3).bind fun x75=>
 (iF N x72 x75).bind fun x76=>
 (pT N l4).bind fun x79=>
 (iF N x76 x79).bind fun x80=>
 (pT N l5).bind fun x83=>
 (iF N x80 x83).bind fun x84=>
 (fI N x84 aE).bind fun x88=>
 (fI N x88 (aVQ.wrap vi)).bind fun x92=>
 (xY N bF aZ).bind fun x95=>
 (eE 1 x92 x95).bind fun x96=>
 (t7 N (⟨#[108,105,103,104,116,99,108,105,101,110,116,47,115,112,101,110,100]⟩) x96).bind fun x97=>
 (a9 32 x97).bind fun q=>
 some (x97,0)
def iI (N:Nat)(aD:Int)(aA:List aK)(aB:List aG)(aE vi bF:Int)(aZ l3 l4:List Int):Nat→Int→(List Int)→Option (List Int)
 |0,_,_=>none
 |m+1,x61,l5_1=>
  if decide (x61<(aB.length:Int)) then
   (bY aB x61).bind fun x63=>
   (xY N x63.Value x63.Script).bind fun x67=>
   (eE 1 l5_1 x67).bind fun x68=>
   (iI N aD aA aB aE vi bF aZ l3 l4 m) (aVO.wrap (x61+1)) x68
  else
   some l5_1
def uQ (N:Nat)(aD:Int)(aA:List aK)(aB:List aG)(aE vi bF:Int)(aZ l3 l4:List Int):Option ((List Int)×Int):=
 (iI N aD aA aB aE vi bF aZ l3 l4 N 0 []).bind fun p5=>
 uC N aD aA aB aE vi bF aZ l3 l4 p5
def k7 (N:Nat)(aD:Int)(aA:List aK)(aB:List aG)(aE vi bF:Int)(aZ:List Int):Nat→Int→(List Int)→(List Int)→Option ((List Int)×(List Int))
 |0,_,_,_=>none
 |m+1,x44,eZ,hY=>
  if decide (x44<(aA.length:Int)) then
   (bY aA x44).bind fun x46=>
   (vH N x46.Prev.Tx x46.Prev.Index).bind fun x51=>
   (eE 1 eZ x51).bind fun x52=>
   (fI N hY x46.Sequence).bind fun x56=>
   (k7 N aD aA aB aE vi bF aZ m) (aVO.wrap (x44+1)) x52 x56
  else
   some (eZ,hY)
def nP (N:Nat)(aD:Int)(aA:List aK)(aB:List aG)(aE vi bF:Int)(aZ:List Int)(x39:Bool):Option ((List Int)×Int):=
 if x39 then
  some ([0,0,0,0,0,0,0,0,0,0,0,0,0,0,0,0,0,0,0,0,0,0,0,0,0,0,0,0,0,0,0,0],5)
 else
  (k7 N aD aA aB aE vi bF aZ N 0 [] []).bind fun p6=>
  uQ N aD aA aB aE vi bF aZ p6.1 p6.2
def nT (N:Nat)(aD:Int)(aA:List aK)(aB:List aG)(aE vi bF:Int)(aZ:List Int)(x29:Bool):Option ((List Int)×Int):=
 if x29 then
  some ([0,0,0,0,0,0,0,0,0,0,0,0,0,0,0,0,0,0,0,0,0,0,0,0,0,0,0,0,0,0,0,0],4)
 else
  if decide (vi<0) then
   nP N aD aA aB aE vi bF aZ true
  else
   nP N aD aA aB aE vi bF aZ (decide ((aA.length:Int)≤vi))
def uY (N:Nat)(aD:Int)(aA:List aK)(aB:List aG)(aE vi bF:Int)(aZ:List Int):Option ((List Int)×Int):=
 (aAD N aD aA aB aE).bind fun x17=>
 if !x17 then
  nT N aD aA aB aE vi bF aZ true
 else
  if decide (bF<0) then
   nT N aD aA aB aE vi bF aZ true
  else
   nT N aD aA aB aE vi bF aZ (decide (520<(aZ.length:Int)))
def aCB (N:Nat)(l0:List Int):Option (List Int):=
 some l0
def mY (N:Nat)(l:List (List Int)):Nat→Int→(List Int)→Option (List Int)
 |0,_,_=>none
 |m+1,x8,aS=>
  if decide (x8<(l.length:Int)) then
   (bY l x8).bind fun cD=>
   (eJ N aS cD).bind fun bR=>
   (mY N l m) (aVO.wrap (x8+1)) bR
  else
   some aS
def pJ (N:Nat)(l:List (List Int)):Option (List Int):=
 (mY N l N 0 []).bind fun p2=>
 aCB N p2
def iL (N:Nat)(x40:Bool):Option Int:=
 if x40 then
  some 5
 else
  some 0
def iR (N:Nat)(aT:Int)(bO:List Int)(o_M o_N:Int)(fC:Bool):Option Int:=
 if fC then
  some 6
 else
  if decide (255<(bO.length:Int)) then
   some 4
  else
   if aT == 11 then
    if decide (o_N<1) then
     iL N true
    else
     if decide (15<o_N) then
      iL N true
     else
      if decide (o_M<1) then
       iL N true
      else
       iL N (decide (o_N<o_M))
   else
    iL N false
def nR (N:Nat)(aT:Int)(bO:List Int)(o_M o_N:Int)(aEU:Bool):Option Int:=
 if aEU then
  iR N aT bO o_M o_N aEU
 else
  if o_M != 0 then
   iR N aT bO o_M o_N (aT != 11)
  else
   if o_N != 0 then
    iR N aT bO o_M o_N (aT != 11)
   else
    iR N aT bO o_M o_N false
def nO (N:Nat)(aT:Int)(bO:List Int)(o_M o_N:Int)(x3:Bool):Option Int:=
 if x3 then
  some 80
 else
  if decide (0<(bO.length:Int)) then
   nR N aT bO o_M o_N (aT != 1)
  else
   nR N aT bO o_M o_N false
def nZ (N:Nat)(aT:Int)(bO:List Int)(o_M o_N:Int):Option Int:=
 if decide (aT<1) then
  nO N aT bO o_M o_N true
 else
  nO N aT bO o_M o_N (decide (17<aT))
def oM (N:Nat)(x8:Int)(b_1:List Int)(c1 aBP:Int)(l2:List Int):Option (Int×(List Int)×Int×Int×(List Int)×Int):=
 (nZ N (aVO.wrap x8) l2 c1 aBP).bind fun x76=>
 some (aVO.wrap x8,l2,c1,aBP,b_1,x76)
def wO (N:Nat)(x8:Int)(bX:List Int)(x39:Bool):Option (Int×(List Int)×Int×Int×(List Int)×Int):=
 if x39 then
  some (0,[],0,0,[],1)
 else
  (bY bX 0).bind fun x42=>
  (sub bX 1 (aVO.wrap (1+(aVO.wrap x42)))).bind fun x48=>
  (pJ N [x48]).bind fun x50=>
  (sub bX (aVO.wrap (1+(aVO.wrap x42))) (bX.length:Int)).bind fun x53=>
  oM N x8 x53 0 0 x50
def wK (N:Nat)(b:List Int)(x8:Int)(x19:Bool):Option (Int×(List Int)×Int×Int×(List Int)×Int):=
 if x19 then
  some (0,[],0,0,[],80)
 else
  (sub b 1 (b.length:Int)).bind fun bX=>
  if(aVO.wrap x8) == 1 then
   if(bX.length:Int) == 0 then
    wO N x8 bX true
   else
    (bY bX 0).bind fun x35=>
    wO N x8 bX (decide ((aVO.wrap ((bX.length:Int)-1))<(aVO.wrap x35)))
  else
   if(aVO.wrap x8) == 11 then
    if decide ((bX.length:Int)<2) then
     some (0,[],0,0,[],1)
    else
     (bY bX 0).bind fun x62=>
     (bY bX 1).bind fun x66=>
     (sub bX 2 (bX.length:Int)).bind fun x70=>
     oM N x8 x70 (aVO.wrap x62) (aVO.wrap x66) []
   else
    oM N x8 bX 0 0 []
def aCm (N:Nat)(b:List Int):Option (Int×(List Int)×Int×Int×(List Int)×Int):=
 (bY b 0).bind fun x8=>
 if decide ((aVO.wrap x8)<1) then
  wK N b x8 true
 else
  wK N b x8 (decide (17<(aVO.wrap x8)))
def aBQ (N:Nat)(l0:List aX):Option ((List aX)×Int):=
 some (l0,0)
def nK (N:Nat):Nat→(List Int)→(List aX)→Option (LR ((List aX)) ((List aX)×Int))
 |0,_,_=>none
 |m+1,b_1,aS=>
  if decide (0<(b_1.length:Int)) then
   (aCm N b_1).bind fun x16=>
   if x16.2.2.2.2.2 != 0 then
    some (.ret ([],x16.2.2.2.2.2))
   else
    (eE 48 aS [(aX.mk x16.1 x16.2.1 x16.2.2.1 x16.2.2.2.1)]).bind fun x26=>
    (nK N m) x16.2.2.2.2.1 x26
  else
   some (.brk aS)
def z6 (N:Nat)(b:List Int):Option ((List aX)×Int):=
 if decide (520<(b.length:Int)) then
  some ([],4)
 else
  (nK N N b []).bind fun q=>match q with
   | .ret v=>some v
   | .brk p2=>
    aBQ N p2
def aBk (N:Nat)(l0:List Bool):Option Bool:=
 some ((l0.length:Int) == 0)
def lZ (N:Nat)(l:List aX)(x8:Int)(rec:Int→(List Bool)→Option (LR ((List Bool)) (Bool)))(fM:List Bool):Option (LR ((List Bool)) (Bool)):=
 rec (aVO.wrap (x8+1)) fM
def sC (N:Nat)(l:List aX)(x8:Int)(aS:List Bool)(rec:Int→(List Bool)→Option (LR ((List Bool)) (Bool)))(e9:Bool):Option (LR ((List Bool)) (Bool)):=
 if e9 then
  some (.ret false)
 else
  (bY aS (aVO.wrap ((aS.length:Int)-1))).bind fun x36=>
  lZ N l x8 rec (aS.set (aVS (aVO.wrap ((aS.length:Int)-1))) true)
def eO (N:Nat)(l:List aX):Nat→Int→(List Bool)→Option (LR ((List Bool)) (Bool))
 |0,_,_=>none
 |m+1,x8,aS=>
  if decide (x8<(l.length:Int)) then
   (bY l x8).bind fun cD=>
   if cD.Code == 14 then
    (eE 1 aS [false]).bind fun x18=>
    lZ N l x8 (eO N l m) x18
   else
    if cD.Code == 15 then
     if(aS.length:Int) == 0 then
      sC N l x8 aS (eO N l m) true
     else
      (bY aS (aVO.wrap ((aS.length:Int)-1))).bind fun x29=>
      sC N l x8 aS (eO N l m) x29
    else
     if cD.Code == 16 then
      if(aS.length:Int) == 0 then
       some (.ret false)
      else
       (sub aS 0 (aVO.wrap ((aS.length:Int)-1))).bind fun x46=>
       lZ N l x8 (eO N l m) x46
     else
      lZ N l x8 (eO N l m) aS
  else
   some (.brk aS)
def xK (N:Nat)(l:List aX):Option Bool:=
 (eO N l N 0 []).bind fun q=>match q with
  | .ret v=>some v
  | .brk p2=>
   aBk N p2
def aCw (N:Nat):Option Bool:=
 some false
def mT (N:Nat)(vs:List (List Int)):Nat→Int→Option (LR (Unit) (Bool))
 |0,_=>none
 |m+1,cD=>
  if decide (cD<(vs.length:Int)) then
   (bY vs cD).bind fun fC=>
   if decide (520<(fC.length:Int)) then
    some (.ret true)
   else
    (mT N vs m) (aVO.wrap (cD+1))
  else
   some (.brk ())
def aBu (N:Nat)(vs:List (List Int)):Option Bool:=
 if decide (64<(vs.length:Int)) then
  some true
 else
  (mT N vs N 0).bind fun q=>match q with
   | .ret v=>some v
   | .brk p2=>
    aCw N
def aAO (N:Nat)(l0:List (List Int)):Option (List (List Int)):=
 some l0
def kI (N:Nat)(l:List (List Int)):Nat→Int→(List (List Int))→Option (List (List Int))
 |0,_,_=>none
 |m+1,b4,aS=>
  if decide (b4<(l.length:Int)) then
   (bY l b4).bind fun d5=>
   (pJ N [d5]).bind fun x18=>
   (eE 24 aS [x18]).bind fun bS=>
   (kI N l m) (aVO.wrap (b4+1)) bS
  else
   some aS
def wT (N:Nat)(l:List (List Int)):Option (List (List Int)):=
 (mks 24 ([]:List Int) (l.length:Int)).bind fun x8=>
 (kI N l N 0 []).bind fun p2=>
 aAO N p2
def o4 (N:Nat)(x2:Bool):Option Bool:=
 some x2
def wW (N:Nat)(l:List bB):Option Bool:=
 if(l.length:Int) == 0 then
  o4 N true
 else
  (bY l (aVO.wrap ((l.length:Int)-1))).bind fun b4=>
  if b4.reached then
   o4 N b4.done
  else
   o4 N false
def aBT (N:Nat)(aT:Int)(bO:List Int)(o_M o_N:Int):Option Int:=
 if aT == 8 then
  some 6
 else
  if aT == 10 then
   some 21
  else
   if aT == 11 then
    some (aVO.wrap (1+(aVO.wrap (20*o_N))))
   else
    some 1
def pY (N:Nat)(aT:Int)(bO:List Int)(o_M o_N:Int)(x15:Bool):Option Int:=
 if x15 then
  some 2
 else
  if aT == 11 then
   some (aVO.wrap (2*o_N))
  else
   some 0
def fR (N:Nat)(aT:Int)(bO:List Int)(o_M o_N:Int)(x5:Bool):Option Int:=
 if x5 then
  some 1
 else
  if aT == 4 then
   pY N aT bO o_M o_N (aT == 4)
  else
   if aT == 5 then
    pY N aT bO o_M o_N (aT == 5)
   else
    pY N aT bO o_M o_N (aT == 10)
def zM (N:Nat)(aT:Int)(bO:List Int)(o_M o_N:Int):Option Int:=
 if aT == 2 then
  fR N aT bO o_M o_N (aT == 2)
 else
  if aT == 3 then
   fR N aT bO o_M o_N (aT == 3)
  else
   if aT == 6 then
    fR N aT bO o_M o_N (aT == 6)
   else
    if aT == 7 then
     fR N aT bO o_M o_N (aT == 7)
    else
     if aT == 8 then
      fR N aT bO o_M o_N (aT == 8)
     else
      if aT == 9 then
       fR N aT bO o_M o_N (aT == 9)
      else
       if aT == 12 then
        fR N aT bO o_M o_N (aT == 12)
       else
        if aT == 13 then
         fR N aT bO o_M o_N (aT == 13)
        else
         fR N aT bO o_M o_N (aT == 14)
def aCx (N:Nat):Option Bool:=
 some false
def o6 (N:Nat)(b:List Int):Nat→Int→Option (LR (Unit) (Bool))
 |0,_=>none
 |m+1,x7=>
  if decide (x7<(b.length:Int)) then
   (bY b x7).bind fun x9=>
   if x9 != 0 then
    some (.ret true)
   else
    (o6 N b m) (aVO.wrap (x7+1))
  else
   some (.brk ())
def pL (N:Nat)(b:List Int):Option Bool:=
 (o6 N b N 0).bind fun q=>match q with
  | .ret v=>some v
  | .brk p2=>
   aCx N
def oH (N:Nat)(vs:List (List Int))(gG:List Int):Option ((List (List Int))×Int):=
 if decide (64≤(vs.length:Int)) then
  some ([],4)
 else
  (sub vs 0 (vs.length:Int)).bind fun bR=>
  (eE 24 bR [gG]).bind fun x17=>
  some (x17,0)
def aCS (N:Nat)(va b:List Int):Option Bool:=
 some ((rV va).toList == (rV b).toList)
def aCD (N:Nat)(l0:List Int):Option (List Int):=
 some l0
def o8 (N:Nat):Nat→Int→(List Int)→Option (List Int)
 |0,_,_=>none
 |m+1,eD,aS=>
  if decide (0<eD) then
   (eE 1 aS [aVV.wrap eD]).bind fun fC=>
   (o8 N m) (aVQ.wrap (aV3 eD 256)) fC
  else
   some aS
def uF (N:Nat)(vn:Int):Option (List Int):=
 (o8 N N vn []).bind fun p2=>
 aCD N p2
def n9 (N:Nat)(b:Bool):Option (List Int):=
 if b then
  (uF N 1).bind fun x4=>
  some x4
 else
  (uF N 0).bind fun x5=>
  some x5
def sH (N:Nat)(l1:List Int):Option (List Int):=
 (a9 4 l1).bind fun q=>
 some l1
def jP (N:Nat)(vh:List Int):Nat→Int→(List Int)→Option (List Int)
 |0,_,_=>none
 |m+1,x6,l2=>
  if decide (x6<32) then
   (bV 4 l2 (aVO.wrap (aV3 (aVO.wrap (31-x6)) 8))).bind fun d5=>
   (bV 32 vh x6).bind fun x16=>
   (shl .u64 (aVR.wrap x16) (aVO.wrap (8*(aV4 (aVO.wrap (31-x6)) 8)))).bind fun bX=>
   (jP N vh m) (aVO.wrap (x6+1)) (l2.set (aVS (aVO.wrap (aV3 (aVO.wrap (31-x6)) 8))) (bits .or .u64 d5 bX))
  else
   some l2
def i7 (N:Nat)(vh:List Int):Option (List Int):=
 (jP N vh N 0 (aVP 4 0)).bind fun p2=>
 sH N p2
def gV (N:Nat)(vn:Int):Option (List Int):=
 some [vn,0,0,0]
def sI (N:Nat)(va:List Int):Option Bool:=
 (a9 4 va).bind fun q=>
 some (va == [0,0,0,0])
def aA4 (N:Nat)(borrow:Int)(l1:List Int):Option ((List Int)×Bool):=
 (a9 4 l1).bind fun q=>
 some (l1,borrow == 1)
def q8 (N:Nat)(va b:List Int):Nat→Int→Int→(List Int)→Option (Int×(List Int))
 |0,_,_,_=>none
 |m+1,borrow_1,x9,l3=>
  if decide (x9<4) then
   (bV 4 va x9).bind fun x15=>
   (bV 4 b x9).bind fun x18=>
   (sD N x15 x18 borrow_1).bind fun d9=>
   (bV 4 l3 x9).bind fun fG=>
   (q8 N va b m) d9.2 (aVO.wrap (x9+1)) (l3.set (aVS x9) d9.1)
  else
   some (borrow_1,l3)
def sM (N:Nat)(va b:List Int):Option ((List Int)×Bool):=
 (q8 N va b N 0 0 (aVP 4 0)).bind fun p2=>
 aA4 N p2.1 p2.2
def mX (N:Nat):Option (List Int):=
 (gV N 36113).bind fun x5=>
 (sM N [0,0,0,0] x5).bind fun x6=>
 (a9 4 x6.1).bind fun q=>
 some x6.1
def aDk (N:Nat):Option Int:=
 some 0
def qR (N:Nat)(va b:List Int):Nat→Int→Option (LR (Unit) (Int))
 |0,_=>none
 |m+1,vi=>
  if decide (0≤vi) then
   (bV 4 va vi).bind fun b4=>
   (bV 4 b vi).bind fun bR=>
   if decide (b4<bR) then
    some (.ret (-1))
   else
    if decide (bR<b4) then
     some (.ret 1)
    else
     (qR N va b m) (aVO.wrap (vi-1))
  else
   some (.brk ())
def sJ (N:Nat)(va b:List Int):Option Int:=
 (qR N va b N 3).bind fun q=>match q with
  | .ret v=>some v
  | .brk p2=>
   aDk N
def oL (N:Nat)(va:List Int)(vi:Int):Option Bool:=
 (bV 4 va (aVO.wrap (aV3 vi 64))).bind fun x7=>
 (shr .u64 x7 (aV4 vi 64)).bind fun b4=>
 some ((bits .and .u64 b4 1) == 1)
def aDG (N:Nat)(l1:List Int):Option (List Int):=
 (a9 4 l1).bind fun q_1=>
 some l1
def aAS (N:Nat)(va:List Int)(vn vi:Int)(rec:Int→(List Int)→Option (List Int))(i9:List Int):Option (List Int):=
 rec (aVO.wrap (vi+1)) i9
def jL (N:Nat)(va:List Int)(vn:Int):Nat→Int→(List Int)→Option (List Int)
 |0,_,_=>none
 |m+1,vi,l2=>
  if decide ((aVO.wrap (vi+vn))<256) then
   (a9 4 va).bind fun q_2=>
   (oL N va (aVO.wrap (vi+vn))).bind fun iB=>
   if iB then
    (bV 4 l2 (aVO.wrap (aV3 vi 64))).bind fun x26=>
    (shl .u64 1 (aV4 vi 64)).bind fun lL=>
    aAS N va vn vi (jL N va vn m) (l2.set (aVS (aVO.wrap (aV3 vi 64))) (bits .or .u64 x26 lL))
   else
    aAS N va vn vi (jL N va vn m) l2
  else
   some l2
def aD2 (N:Nat)(va:List Int)(vn:Int):Option (List Int):=
 if decide (vn≤0) then
  (a9 4 va).bind fun q=>
  some va
 else
  if decide (256≤vn) then
   some [0,0,0,0]
  else
   (jL N va vn N 0 (aVP 4 0)).bind fun p2=>
   aDG N p2
def pV (N:Nat):Option (List Int):=
 (mX N).bind fun x1=>
 (aD2 N x1 1).bind fun x2=>
 (a9 4 x2).bind fun q=>
 some x2
def aAY (N:Nat)(kY:Int)(l1:List Int):Option ((List Int)×Bool):=
 (a9 4 l1).bind fun q=>
 some (l1,kY == 1)
def qV (N:Nat)(va b:List Int):Nat→Int→Int→(List Int)→Option (Int×(List Int))
 |0,_,_,_=>none
 |m+1,carry_1,x9,l3=>
  if decide (x9<4) then
   (bV 4 va x9).bind fun x15=>
   (bV 4 b x9).bind fun x18=>
   (d8 N x15 x18 carry_1).bind fun d9=>
   (bV 4 l3 x9).bind fun fG=>
   (qV N va b m) d9.2 (aVO.wrap (x9+1)) (l3.set (aVS x9) d9.1)
  else
   some (carry_1,l3)
def xJ (N:Nat)(va b:List Int):Option ((List Int)×Bool):=
 (qV N va b N 0 0 (aVP 4 0)).bind fun p2=>
 aAY N p2.1 p2.2
def aBn (N:Nat)(l0 l1:List Int):Option ((List Int)×(List Int)×Bool):=
 (a9 4 l0).bind fun q_2=>
 (a9 4 l1).bind fun q_3=>
 some (l0,l1,true)
def tU (N:Nat)(lo b:List Int)(vi:Int)(rec:Int→(List Int)→(List Int)→Option ((List Int)×(List Int)))(i9 eZ:List Int):Option ((List Int)×(List Int)):=
 rec (aVO.wrap (vi-1)) i9 eZ
def qQ (N:Nat)(lo b:List Int)(vi:Int)(l2 jU:List Int)(rec:Int→(List Int)→(List Int)→Option ((List Int)×(List Int)))(x43:Bool):Option ((List Int)×(List Int)):=
 if x43 then
  (a9 4 jU).bind fun q_6=>
  (sM N jU b).bind fun x47=>
  (a9 4 x47.1).bind fun q_7=>
  (bV 4 l2 (aVO.wrap (aV3 vi 64))).bind fun x52=>
  (shl .u64 1 (aV4 vi 64)).bind fun x56=>
  tU N lo b vi rec (l2.set (aVS (aVO.wrap (aV3 vi 64))) (bits .or .u64 x52 x56)) x47.1
 else
  tU N lo b vi rec l2 jU
def tG (N:Nat)(lo b:List Int)(vi:Int)(l2:List Int)(iB:Bool)(rec:Int→(List Int)→(List Int)→Option ((List Int)×(List Int)))(jU:List Int):Option ((List Int)×(List Int)):=
 if iB then
  qQ N lo b vi l2 jU rec true
 else
  (a9 4 jU).bind fun q_8=>
  (sJ N jU b).bind fun x41=>
  qQ N lo b vi l2 jU rec (decide (0≤x41))
def fL (N:Nat)(lo b:List Int):Nat→Int→(List Int)→(List Int)→Option ((List Int)×(List Int))
 |0,_,_,_=>none
 |m+1,vi,l2,l3=>
  if decide (0≤vi) then
   (a9 4 l3).bind fun q_4=>
   (oL N l3 255).bind fun iB=>
   (xJ N l3 l3).bind fun x27=>
   (a9 4 x27.1).bind fun q_5=>
   (a9 4 lo).bind fun q_9=>
   (oL N lo vi).bind fun nW=>
   if nW then
    (bV 4 x27.1 0).bind fun jY=>
    tG N lo b vi l2 iB (fL N lo b m) (x27.1.set (aVS 0) (bits .or .u64 jY 1))
   else
    tG N lo b vi l2 iB (fL N lo b m) x27.1
  else
   some (l2,l3)
def aAv (N:Nat)(hi lo b:List Int):Option ((List Int)×(List Int)×Bool):=
 (a9 4 b).bind fun q=>
 (a9 4 hi).bind fun q_1=>
 (sJ N b hi).bind fun d5=>
 if decide (d5≤0) then
  some (aVP 4 0,aVP 4 0,false)
 else
  (fL N lo b N 255 (aVP 4 0) hi).bind fun p2=>
  aBn N p2.1 p2.2
def mB (N:Nat)(va vm:List Int):Option (List Int):=
 (a9 4 va).bind fun q=>
 (a9 4 vm).bind fun q_1=>
 (aAv N [0,0,0,0] va vm).bind fun fC=>
 (a9 4 fC.1).bind fun q_2=>
 (a9 4 fC.2.1).bind fun q_3=>
 some fC.2.1
def aAF (N:Nat):Option Int:=
 some 0
def qP (N:Nat)(va:List Int):Nat→Int→Option (LR (Unit) (Int))
 |0,_=>none
 |m+1,vi=>
  if decide (0≤vi) then
   (a9 4 va).bind fun q=>
   (oL N va vi).bind fun cD=>
   if cD then
    some (.ret (aVO.wrap (vi+1)))
   else
    (qP N va m) (aVO.wrap (vi-1))
  else
   some (.brk ())
def aDY (N:Nat)(va:List Int):Option Int:=
 (qP N va N 255).bind fun q=>match q with
  | .ret v=>some v
  | .brk p2=>
   aAF N
def wX (N:Nat)(l2:List Int):Option ((List Int)×(List Int)):=
 (a9 8 l2).bind fun q=>
 (vM l2 0 4).bind fun x64=>
 (vM l2 4 8).bind fun x67=>
 (a9 4 (nE (aVP 4 0) x67)).bind fun q_1=>
 (a9 4 (nE (aVP 4 0) x64)).bind fun q_2=>
 some (nE (aVP 4 0) x67,nE (aVP 4 0) x64)
def aBg (N:Nat)(va b:List Int)(x15:Int)(rec:Int→(List Int)→Option (List Int))(hY:List Int):Option (List Int):=
 rec (aVO.wrap (x15+1)) hY
def aAC (N:Nat)(va b:List Int)(x15:Int)(rec:Int→(List Int)→Option (List Int))(kY:Int)(aAp:List Int):Option (List Int):=
 (bV 8 aAp (aVO.wrap (x15+4))).bind fun x61=>
 aBg N va b x15 rec (aAp.set (aVS (aVO.wrap (x15+4))) kY)
def qZ (N:Nat)(va b:List Int)(x15:Int):Nat→Int→Int→(List Int)→Option (Int×(List Int))
 |0,_,_,_=>none
 |m+1,carry_1,x18,l4_3=>
  if decide (x18<4) then
   (bV 4 va x15).bind fun iB=>
   (bV 4 b x18).bind fun x26=>
   (lU N iB x26).bind fun x28=>
   (bV 8 l4_3 (aVO.wrap (x15+x18))).bind fun x35=>
   (d8 N x35 x28.2 0).bind fun x38=>
   (d8 N x38.1 carry_1 0).bind fun x44=>
   (qZ N va b x15 m) (aVR.wrap ((aVR.wrap (x28.1+x38.2))+x44.2)) (aVO.wrap (x18+1)) (l4_3.set (aVS (aVO.wrap (x15+x18))) x44.1)
  else
   some (carry_1,l4_3)
def mL (N:Nat)(va b:List Int):Nat→Int→(List Int)→Option (List Int)
 |0,_,_=>none
 |m+1,x15,l4=>
  if decide (x15<4) then
   (qZ N va b x15 N 0 0 l4).bind fun p5=>
   aAC N va b x15 (mL N va b m) p5.1 p5.2
  else
   some l4
def aCn (N:Nat)(va b:List Int):Option ((List Int)×(List Int)):=
 (mL N va b N 0 (aVP 8 0)).bind fun p2=>
 wX N p2
def q4 (N:Nat)(va b vm:List Int):Option (List Int):=
 (a9 4 vm).bind fun q=>
 (sI N vm).bind fun d5=>
 if d5 then
  some vm
 else
  (a9 4 va).bind fun q_1=>
  (mB N va vm).bind fun x18=>
  (a9 4 b).bind fun q_2=>
  (mB N b vm).bind fun d9=>
  (aCn N x18 d9).bind fun bX=>
  (a9 4 bX.1).bind fun q_3=>
  (a9 4 bX.2).bind fun q_4=>
  (aAv N bX.1 bX.2 vm).bind fun x29=>
  (a9 4 x29.1).bind fun q_5=>
  (a9 4 x29.2.1).bind fun q_6=>
  some x29.2.1
def aAK (N:Nat)(l1:List Int):Option (List Int):=
 (a9 4 l1).bind fun q_2=>
 some l1
def oR (N:Nat)(va ve vm:List Int)(vi:Int)(rec:Int→(List Int)→Option (List Int))(hY:List Int):Option (List Int):=
 rec (aVO.wrap (vi-1)) hY
def i8 (N:Nat)(va ve vm:List Int):Nat→Int→(List Int)→Option (List Int)
 |0,_,_=>none
 |m+1,vi,l4=>
  if decide (0≤vi) then
   (a9 4 l4).bind fun q_4=>
   (q4 N l4 l4 vm).bind fun x25=>
   (a9 4 x25).bind fun q_5=>
   (oL N ve vi).bind fun x28=>
   if x28 then
    (a9 4 va).bind fun q_6=>
    (q4 N x25 va vm).bind fun nW=>
    (a9 4 nW).bind fun q_7=>
    oR N va ve vm vi (i8 N va ve vm m) nW
   else
    oR N va ve vm vi (i8 N va ve vm m) x25
  else
   some l4
def xA (N:Nat)(va ve vm:List Int):Option (List Int):=
 (a9 4 vm).bind fun q=>
 (sI N vm).bind fun cD=>
 if cD then
  some vm
 else
  (gV N 1).bind fun fC=>
  (mB N fC vm).bind fun bR=>
  (a9 4 bR).bind fun q_1=>
  (a9 4 ve).bind fun q_3=>
  (aDY N ve).bind fun x16=>
  (i8 N va ve vm N (aVO.wrap (x16-1)) bR).bind fun p2=>
  aAK N p2
def uA (N:Nat)(va ve:List Int):Option (List Int):=
 (a9 4 va).bind fun q=>
 (a9 4 ve).bind fun q_1=>
 (mX N).bind fun x7=>
 (xA N va ve x7).bind fun x8=>
 (a9 4 x8).bind fun q_2=>
 some x8
def aDP (N:Nat):Option (List Int):=
 (gV N 1).bind fun x1=>
 (a9 4 x1).bind fun q=>
 some x1
def r6 (N:Nat)(x2:Bool):Option Bool:=
 some x2
def yD (N:Nat)(va:List Int):Option Bool:=
 (a9 4 va).bind fun q=>
 (sI N va).bind fun x4=>
 if !x4 then
  (mX N).bind fun x8=>
  (sJ N va x8).bind fun x9=>
  if decide (x9<0) then
   (pV N).bind fun bR=>
   (uA N va bR).bind fun x15=>
   (aDP N).bind fun x16=>
   (a9 4 x15).bind fun q_1=>
   (a9 4 x16).bind fun q_2=>
   r6 N (x15 == x16)
  else
   r6 N false
 else
  r6 N false
def yM (N:Nat)(x2:Bool):Option Bool:=
 some x2
def u9 (N:Nat)(p:List Int):Option Bool:=
 (a9 4 p).bind fun q=>
 (gV N 1).bind fun x4=>
 (a9 4 x4).bind fun q_1=>
 if !(p == x4) then
  (yD N p).bind fun x8=>
  yM N x8
 else
  yM N false
def pS (N:Nat)(va:List Int):Option Bool:=
 (a9 4 va).bind fun q=>
 (pV N).bind fun x4=>
 (sJ N va x4).bind fun x5=>
 some (decide (x5<0))
def v8 (N:Nat)(bS bX:(List Int))(jY:Bool):Option ((List Int)×(List Int)×Int):=
 if jY then
  some (aVP 4 0,aVP 4 0,5)
 else
  some (bS,bX,0)
def wM (N:Nat)(b:List Int):Option ((List Int)×(List Int)×Int):=
 if(b.length:Int) != 64 then
  some (aVP 4 0,aVP 4 0,8)
 else
  (sub b 0 32).bind fun d5=>
  (sub b 32 (b.length:Int)).bind fun x17=>
  (a9 32 (nE (aVP 32 0) d5)).bind fun q=>
  (i7 N (nE (aVP 32 0) d5)).bind fun bS=>
  (a9 32 (nE (aVP 32 0) x17)).bind fun q_1=>
  (i7 N (nE (aVP 32 0) x17)).bind fun bX=>
  (a9 4 bS).bind fun q_2=>
  (a9 4 bX).bind fun q_3=>
  (pS N bS).bind fun x26=>
  if !x26 then
   v8 N bS bX true
  else
   (pS N bX).bind fun e9=>
   v8 N bS bX (!e9)
def y6 (N:Nat)(ve:List Int):Option (List Int):=
 (gV N 4).bind fun x3=>
 (a9 4 ve).bind fun q=>
 (uA N x3 ve).bind fun x5=>
 (a9 4 x5).bind fun q_1=>
 some x5
def aCd (N:Nat)(va b:List Int):Option (List Int):=
 (a9 4 va).bind fun q=>
 (a9 4 b).bind fun q_1=>
 (mX N).bind fun x7=>
 (q4 N va b x7).bind fun x8=>
 (a9 4 x8).bind fun q_2=>
 some x8
def aBN (N:Nat)(l1:List Int):Option (List Int):=
 (a9 32 l1).bind fun q=>
 some l1
def lB (N:Nat)(va:List Int):Nat→Int→(List Int)→Option (List Int)
 |0,_,_=>none
 |m+1,x6,l2=>
  if decide (x6<32) then
   (bV 4 va (aVO.wrap (aV3 (aVO.wrap (31-x6)) 8))).bind fun bR=>
   (shr .u64 bR (aVO.wrap (8*(aV4 (aVO.wrap (31-x6)) 8)))).bind fun x19=>
   (bV 32 l2 x6).bind fun d9=>
   (lB N va m) (aVO.wrap (x6+1)) (l2.set (aVS x6) (aVV.wrap x19))
  else
   some l2
def zF (N:Nat)(va:List Int):Option (List Int):=
 (lB N va N 0 (aVP 32 0)).bind fun p2=>
 aBN N p2
def tL (N:Nat)(va:List Int):Option (List Int):=
 (a9 4 va).bind fun q=>
 (zF N va).bind fun x5=>
 (a9 32 x5).bind fun q_1=>
 some x5
def oQ (N:Nat)(l1:List Int):Option (List Int):=
 (a9 4 l1).bind fun q_6=>
 some l1
def lP (N:Nat)(vm:List Int)(d9:(List Int)×Bool)(lL:Bool):Option (List Int):=
 if lL then
  (sM N d9.1 vm).bind fun cV=>
  (a9 4 cV.1).bind fun q_7=>
  oQ N cV.1
 else
  oQ N d9.1
def yF (N:Nat)(va b vm:List Int):Option (List Int):=
 (a9 4 vm).bind fun q=>
 (sI N vm).bind fun cD=>
 if cD then
  some vm
 else
  (a9 4 va).bind fun q_1=>
  (mB N va vm).bind fun bR=>
  (a9 4 b).bind fun q_2=>
  (mB N b vm).bind fun x17=>
  (a9 4 bR).bind fun q_3=>
  (a9 4 x17).bind fun q_4=>
  (xJ N bR x17).bind fun d9=>
  (a9 4 d9.1).bind fun q_5=>
  if d9.2 then
   lP N vm d9 true
  else
   (sJ N d9.1 vm).bind fun x28=>
   lP N vm d9 (decide (0≤x28))
def sK (N:Nat)(va b:List Int):Option (List Int):=
 (a9 4 va).bind fun q=>
 (a9 4 b).bind fun q_1=>
 (pV N).bind fun x7=>
 (yF N va b x7).bind fun x8=>
 (a9 4 x8).bind fun q_2=>
 some x8
def wL (N:Nat)(vh:List Int):Option (List Int):=
 (a9 32 vh).bind fun q=>
 (i7 N vh).bind fun x4=>
 (sK N x4 [0,0,0,0]).bind fun x6=>
 (a9 4 x6).bind fun q_1=>
 some x6
def sE (N:Nat)(vr p vm:List Int):Option (List Int):=
 (a9 4 vr).bind fun q=>
 (tL N vr).bind fun x8=>
 (a9 4 p).bind fun q_1=>
 (tL N p).bind fun cD=>
 (a9 32 vm).bind fun q_2=>
 (pJ N [x8,cD,vm]).bind fun d5=>
 (t7 N (⟨#[108,105,103,104,116,99,108,105,101,110,116,47,99,104,97,108,108,101,110,103,101]⟩) d5).bind fun bR=>
 (wL N bR).bind fun x15=>
 (a9 4 x15).bind fun q_3=>
 some x15
def mM (N:Nat)(p vm s_E s_S:List Int)(fG:Bool):Option Bool:=
 if fG then
  some false
 else
  (pV N).bind fun x26=>
  (a9 4 s_E).bind fun q=>
  (sM N x26 s_E).bind fun x29=>
  (a9 4 x29.1).bind fun q_1=>
  (a9 4 s_S).bind fun q_2=>
  (y6 N s_S).bind fun cV=>
  (a9 4 p).bind fun q_3=>
  (uA N p x29.1).bind fun x37=>
  (aCd N cV x37).bind fun x38=>
  (a9 4 x38).bind fun q_4=>
  (a9 32 vm).bind fun q_5=>
  (sE N x38 p vm).bind fun x44=>
  (a9 4 x44).bind fun q_6=>
  some (s_E == x44)
def xP (N:Nat)(p vm s_E s_S:List Int):Option Bool:=
 (a9 4 p).bind fun q_7=>
 (u9 N p).bind fun b4=>
 if !b4 then
  mM N p vm s_E s_S true
 else
  (a9 4 s_E).bind fun q_8=>
  (pS N s_E).bind fun x16=>
  if !x16 then
   mM N p vm s_E s_S true
  else
   (a9 4 s_S).bind fun q_9=>
   (pS N s_S).bind fun bX=>
   mM N p vm s_E s_S (!bX)
def rY (N:Nat)(x39:Bool):Option (Bool×Int):=
 if x39 then
  some (false,61)
 else
  some (true,0)
def qE (N:Nat)(sig key vm:List Int):Option (Bool×Int):=
 if(key.length:Int) != 32 then
  some (false,60)
 else
  (a9 32 (nE (aVP 32 0) key)).bind fun q=>
  (i7 N (nE (aVP 32 0) key)).bind fun x19=>
  (a9 4 x19).bind fun q_1=>
  (u9 N x19).bind fun d9=>
  if !d9 then
   some (false,60)
  else
   if(sig.length:Int) == 0 then
    some (false,0)
   else
    (wM N sig).bind fun x28=>
    if x28.2.2 != 0 then
     rY N true
    else
     (a9 32 vm).bind fun q_2=>
     (xP N x19 vm x28.1 x28.2.1).bind fun x37=>
     rY N (!x37)
def aBR (N:Nat)(aT:Int)(bO:List Int)(o_M o_N vn:Int):Option (Bool×Int):=
 some (decide (o_M≤vn),0)
def tJ (N:Nat)(aT:Int)(bO:List Int)(o_M o_N:Int)(rZ:List (List Int))(vm:List Int)(vi:Int)(rec:Int→Int→Option (LR (Int) (Bool×Int)))(aCu:Int):Option (LR (Int) (Bool×Int)):=
 rec aCu (aVO.wrap (vi+1))
def j6 (N:Nat)(aT:Int)(bO:List Int)(o_M o_N:Int)(rZ:List (List Int))(vm:List Int):Nat→Int→Int→Option (LR (Int) (Bool×Int))
 |0,_,_=>none
 |m+1,eD,vi=>
  if decide (vi<o_N) then
   (bY rZ vi).bind fun d9=>
   (bY rZ (aVO.wrap (o_N+vi))).bind fun x28=>
   (a9 32 vm).bind fun q=>
   (qE N d9 x28 vm).bind fun e9=>
   if e9.2 != 0 then
    some (.ret (false,e9.2))
   else
    if e9.1 then
     tJ N aT bO o_M o_N rZ vm vi (j6 N aT bO o_M o_N rZ vm m) (aVO.wrap (eD+1))
    else
     tJ N aT bO o_M o_N rZ vm vi (j6 N aT bO o_M o_N rZ vm m) eD
  else
   some (.brk eD)
def zZ (N:Nat)(aT:Int)(bO:List Int)(o_M o_N:Int)(rZ:List (List Int))(vm:List Int):Option (Bool×Int):=
 (j6 N aT bO o_M o_N rZ vm N 0 0).bind fun q=>match q with
  | .ret v=>some v
  | .brk p2=>
   aBR N aT bO o_M o_N p2
def aBs (N:Nat)(vn:Int):Option (Int×Int):=
 some (vn,0)
def lR (N:Nat)(b:List Int):Nat→Int→Int→Option Int
 |0,_,_=>none
 |m+1,eD,x25=>
  if decide (x25<(b.length:Int)) then
   (bY b x25).bind fun e9=>
   (shl .u32 (aVQ.wrap e9) (aVO.wrap (8*x25))).bind fun x36=>
   (lR N b m) (bits .or .u32 eD x36) (aVO.wrap (x25+1))
  else
   some eD
def mG (N:Nat)(b:List Int)(bX:Bool):Option (Int×Int):=
 if bX then
  some (0,82)
 else
  (lR N b N 0 0).bind fun p3=>
  aBs N p3
def yE (N:Nat)(b:List Int):Option (Int×Int):=
 if decide (4<(b.length:Int)) then
  mG N b true
 else
  if decide (0<(b.length:Int)) then
   (bY b (aVO.wrap ((b.length:Int)-1))).bind fun x18=>
   mG N b (x18 == 0)
  else
   mG N b false
def tC (N:Nat)(gG:List Int)(now:Int):Option Int:=
 (yE N gG).bind fun x9=>
 if x9.2 != 0 then
  some x9.2
 else
  if decide (now<(aVO.wrap x9.1)) then
   some 85
  else
   some 0
def aAR (N:Nat)(aT:Int)(bO:List Int)(o_M o_N:Int)(vs:List (List Int))(bD:List Int)(bM cJ:Int):Option ((List (List Int))×Int):=
 if aT == 1 then
  (pJ N [bO]).bind fun x25=>
  (oH N vs x25).bind fun x26=>
  some (x26.1,x26.2)
 else
  if aT == 2 then
   (bY vs (aVO.wrap ((vs.length:Int)-1))).bind fun x35=>
   (oH N vs x35).bind fun x37=>
   some (x37.1,x37.2)
  else
   if aT == 3 then
    (sub vs 0 (aVO.wrap ((vs.length:Int)-1))).bind fun x45=>
    some (x45,0)
   else
    if aT == 4 then
     (sub vs 0 (aVO.wrap ((vs.length:Int)-2))).bind fun x53=>
     (bY vs (aVO.wrap ((vs.length:Int)-1))).bind fun x57=>
     (bY vs (aVO.wrap ((vs.length:Int)-2))).bind fun x62=>
     (eE 24 x53 [x57,x62]).bind fun x65=>
     some (x65,0)
    else
     if aT == 5 then
      (sub vs 0 (aVO.wrap ((vs.length:Int)-2))).bind fun x73=>
      (bY vs (aVO.wrap ((vs.length:Int)-2))).bind fun x77=>
      (bY vs (aVO.wrap ((vs.length:Int)-1))).bind fun x82=>
      (aCS N x77 x82).bind fun x84=>
      (n9 N x84).bind fun x85=>
      (eE 24 x73 [x85]).bind fun x87=>
      some (x87,0)
     else
      if aT == 6 then
       (sub vs 0 (aVO.wrap ((vs.length:Int)-1))).bind fun x95=>
       (bY vs (aVO.wrap ((vs.length:Int)-1))).bind fun x99=>
       (pL N x99).bind fun aSL=>
       (n9 N (!aSL)).bind fun aHr=>
       (eE 24 x95 [aHr]).bind fun aQl=>
       some (aQl,0)
      else
       if aT == 7 then
        (bY vs (aVO.wrap ((vs.length:Int)-1))).bind fun aLb=>
        (pL N aLb).bind fun aF5=>
        if !aF5 then
         some ([],84)
        else
         (sub vs 0 (aVO.wrap ((vs.length:Int)-1))).bind fun aCE=>
         some (aCE,0)
       else
        if aT == 8 then
         (bY vs (aVO.wrap ((vs.length:Int)-1))).bind fun aJl=>
         (pT N aJl).bind fun aGa=>
         (a9 32 aGa).bind fun q=>
         (sub vs 0 (aVO.wrap ((vs.length:Int)-1))).bind fun aTx=>
         (eE 24 aTx [aGa]).bind fun aQi=>
         some (aQi,0)
        else
         if aT == 9 then
          (bY vs (aVO.wrap ((vs.length:Int)-1))).bind fun aTd=>
          (uF N (aVQ.wrap (aTd.length:Int))).bind fun aTw=>
          (oH N vs aTw).bind fun aGc=>
          some (aGc.1,aGc.2)
         else
          if aT == 10 then
           (bY vs (aVO.wrap ((vs.length:Int)-2))).bind fun aTH=>
           (bY vs (aVO.wrap ((vs.length:Int)-1))).bind fun aSV=>
           (a9 32 bD).bind fun q_1=>
           (qE N aTH aSV bD).bind fun aOa=>
           (sub vs 0 (aVO.wrap ((vs.length:Int)-2))).bind fun aTD=>
           (n9 N aOa.1).bind fun aP2=>
           (eE 24 aTD [aP2]).bind fun aQq=>
           some (aQq,aOa.2)
          else
           if aT == 11 then
            (sub vs (aVO.wrap ((vs.length:Int)-(aVO.wrap (2*o_N)))) (vs.length:Int)).bind fun aTt=>
            (a9 32 bD).bind fun q_2=>
            (zZ N aT bO o_M o_N aTt bD).bind fun aNv=>
            (sub vs 0 (aVO.wrap ((vs.length:Int)-(aVO.wrap (2*o_N))))).bind fun aTA=>
            (n9 N aNv.1).bind fun aPU=>
            (eE 24 aTA [aPU]).bind fun aPO=>
            some (aPO,aNv.2)
           else
            if aT == 12 then
             (bY vs (aVO.wrap ((vs.length:Int)-1))).bind fun aTB=>
             (tC N aTB bM).bind fun aTq=>
             some (vs,aTq)
            else
             if aT == 13 then
              (bY vs (aVO.wrap ((vs.length:Int)-1))).bind fun aTI=>
              (tC N aTI cJ).bind fun aTM=>
              some (vs,aTM)
             else
              some ([],84)
def aDl (N:Nat)(vs:List (List Int))(cost:Int):Option ((List (List Int))×Int×Int):=
 some (vs,cost,0)
def iK (N:Nat)(bD:List Int)(bM cJ:Int)(bS:(List aX)×Int)(x35:Int)(rec:(List (List Int))→Int→Int→(List bB)→Option (LR ((List (List Int))×Int) ((List (List Int))×Int×Int)))(aIN:List (List Int))(aEC:Int)(cS:List bB):Option (LR ((List (List Int))×Int) ((List (List Int))×Int×Int)):=
 rec aIN aEC (aVO.wrap (x35+1)) cS
def tW (N:Nat)(bD:List Int)(bM cJ:Int)(bS:(List aX)×Int)(x35:Int)(l1:List bB)(iO:Bool)(mK:Int)(rec:(List (List Int))→Int→Int→(List bB)→Option (LR ((List (List Int))×Int) ((List (List Int))×Int×Int)))(aI3:List (List Int))(c2:Bool):Option (LR ((List (List Int))×Int) ((List (List Int))×Int×Int)):=
 (eE 2 l1 [(bB.mk iO c2)]).bind fun x91=>
 iK N bD bM cJ bS x35 rec aI3 mK x91
def t0 (N:Nat)(bD:List Int)(bM cJ:Int)(bS:(List aX)×Int)(jS:List (List Int))(x35:Int)(l1:List bB)(x37:aX)(iO:Bool)(rec:(List (List Int))→Int→Int→(List bB)→Option (LR ((List (List Int))×Int) ((List (List Int))×Int×Int)))(mK:Int):Option (LR ((List (List Int))×Int) ((List (List Int))×Int×Int)):=
 if x37.Code == 14 then
  if iO then
   (bY jS (aVO.wrap ((jS.length:Int)-1))).bind fun x79=>
   (pL N x79).bind fun x81=>
   (sub jS 0 (aVO.wrap ((jS.length:Int)-1))).bind fun x87=>
   tW N bD bM cJ bS x35 l1 iO mK rec x87 x81
  else
   tW N bD bM cJ bS x35 l1 iO mK rec jS false
 else
  if x37.Code == 15 then
   (bY l1 (aVO.wrap ((l1.length:Int)-1))).bind fun aCr=>
   iK N bD bM cJ bS x35 rec jS mK (l1.set (aVS (aVO.wrap ((l1.length:Int)-1))) (bB.mk aCr.reached (!aCr.done)))
  else
   if x37.Code == 16 then
    (sub l1 0 (aVO.wrap ((l1.length:Int)-1))).bind fun aCE=>
    iK N bD bM cJ bS x35 rec jS mK aCE
   else
    if iO then
     (aAR N x37.Code x37.Data x37.M x37.N jS bD bM cJ).bind fun aLU=>
     if aLU.2 != 0 then
      some (.ret ([],0,aLU.2))
     else
      iK N bD bM cJ bS x35 rec aLU.1 mK l1
    else
     iK N bD bM cJ bS x35 rec jS mK l1
def tE (N:Nat)(bD:List Int)(bM cJ:Int)(bS:(List aX)×Int)(jS:List (List Int))(kK x35:Int)(l1:List bB)(x37:aX)(rec:(List (List Int))→Int→Int→(List bB)→Option (LR ((List (List Int))×Int) ((List (List Int))×Int×Int)))(iO:Bool):Option (LR ((List (List Int))×Int) ((List (List Int))×Int×Int)):=
 if iO then
  (aBT N x37.Code x37.Data x37.M x37.N).bind fun x59=>
  if decide (500<(aVO.wrap (kK+x59))) then
   some (.ret ([],0,83))
  else
   (zM N x37.Code x37.Data x37.M x37.N).bind fun x66=>
   if decide ((jS.length:Int)<x66) then
    some (.ret ([],0,81))
   else
    t0 N bD bM cJ bS jS x35 l1 x37 iO rec (aVO.wrap (kK+x59))
 else
  t0 N bD bM cJ bS jS x35 l1 x37 iO rec kK
def qN (N:Nat)(bD:List Int)(bM cJ:Int)(bS:(List aX)×Int)(jS:List (List Int))(kK x35:Int)(l1:List bB)(x37:aX)(x40:Bool)(rec:(List (List Int))→Int→Int→(List bB)→Option (LR ((List (List Int))×Int) ((List (List Int))×Int×Int)))(x48:Bool):Option (LR ((List (List Int))×Int) ((List (List Int))×Int×Int)):=
 if x48 then
  (bY l1 (aVO.wrap ((l1.length:Int)-1))).bind fun x53=>
  tE N bD bM cJ bS jS kK x35 l1 x37 rec x53.reached
 else
  tE N bD bM cJ bS jS kK x35 l1 x37 rec x40
def dY (N:Nat)(bD:List Int)(bM cJ:Int)(bS:(List aX)×Int):Nat→(List (List Int))→Int→Int→(List bB)→Option (LR ((List (List Int))×Int) ((List (List Int))×Int×Int))
 |0,_,_,_,_=>none
 |m+1,jS,kK,x35,l1=>
  if decide (x35<(bS.1.length:Int)) then
   (bY bS.1 x35).bind fun x37=>
   (wW N l1).bind fun x40=>
   if x37.Code == 15 then
    qN N bD bM cJ bS jS kK x35 l1 x37 x40 (dY N bD bM cJ bS m) true
   else
    qN N bD bM cJ bS jS kK x35 l1 x37 x40 (dY N bD bM cJ bS m) (x37.Code == 16)
  else
   some (.brk (jS,kK))
def aCf (N:Nat)(b:List Int)(stack:List (List Int))(bD:List Int)(bM cJ:Int):Option ((List (List Int))×Int×Int):=
 (z6 N b).bind fun bS=>
 if bS.2 != 0 then
  some ([],0,bS.2)
 else
  (xK N bS.1).bind fun x27=>
  if !x27 then
   some ([],0,86)
  else
   (aBu N stack).bind fun lL=>
   if lL then
    some ([],0,4)
   else
    (wT N stack).bind fun nW=>
    (dY N bD bM cJ bS N nW 0 0 []).bind fun q=>match q with
     | .ret v=>some v
     | .brk p2=>
      aDl N p2.1 p2.2
def sB (N:Nat)(b:List Int)(bJ:List (List Int))(bD:List Int)(bM cJ:Int):Option Int:=
 (aCf N b bJ bD bM cJ).bind fun bR=>
 if bR.2.2 != 0 then
  some bR.2.2
 else
  if(bR.1.length:Int) != 1 then
   some 81
  else
   (bY bR.1 0).bind fun x28=>
   (pL N x28).bind fun lL=>
   if !lL then
    some 84
   else
    some 0
def p9 (N:Nat)(aD:Int)(aA:List aK)(aB:List aG)(aE vi:Int)(cX:List Int)(b5 bT:Int)(bK:List Int)(b9:Int)(cM:Bool)(cP:Int)(x16:(List Int)×Int)(x43:Bool):Option Int:=
 if x43 then
  some 102
 else
  (bY aA vi).bind fun x50=>
  (sB N bK x50.Witness x16.1 cP (aVO.wrap (cP-b9))).bind fun x60=>
  some x60
def zY (N:Nat)(aD:Int)(aA:List aK)(aB:List aG)(aE vi:Int)(cX:List Int)(b5 bT:Int)(bK:List Int)(b9:Int)(cM:Bool)(cP:Int):Option Int:=
 (uY N aD aA aB aE vi bT bK).bind fun x16=>
 (a9 32 x16.1).bind fun q=>
 if x16.2 != 0 then
  some x16.2
 else
  (bY aA vi).bind fun x25=>
  if !(aCR x25.Prev.Tx cX ((x25.Prev.Index == b5)&&true)) then
   some 101
  else
   if decide (16777216<cP) then
    p9 N aD aA aB aE vi cX b5 bT bK b9 cM cP x16 true
   else
    if decide (b9<0) then
     p9 N aD aA aB aE vi cX b5 bT bK b9 cM cP x16 true
    else
     p9 N aD aA aB aE vi cX b5 bT bK b9 cM cP x16 (decide (cP<b9))
def mC (N:Nat)(aD:Int)(aA:List aK)(aB:List aG)(aE vi:Int)(cX:List Int)(b5 bT:Int)(bK:List Int)(b9:Int)(cM:Bool)(cP:Int)(bS:Bool):Option Bool:=
 if bS then
  some true
 else
  (zP N aD aA aB aE vi cX b5 bT bK b9 cM cP).bind fun x25=>
  (zY N aD aA aB aE vi cX b5 bT bK b9 cM cP).bind fun lL=>
  some (x25 == lL)
def pF (N:Nat)(aD:Int)(aA:List aK)(aB:List aG)(aE vi:Int)(cX:List Int)(b5 bT:Int)(bK:List Int)(b9:Int)(cM:Bool)(cP:Int):Option Bool:=
 (aCV N).bind fun x9=>
 if !x9 then
  some false
 else
  (aEA N aD aA aB aE).bind fun fC=>
  if !fC then
   mC N aD aA aB aE vi cX b5 bT bK b9 cM cP true
  else
   mC N aD aA aB aE vi cX b5 bT bK b9 cM cP (decide (600<(bK.length:Int)))
end Go.Proofs.YtbjiaghljpoliaaGreatDoor
namespace Go.Vm
open Go Go.ChangeShapes Go.WideShapes Go.ChangeAt Go.RowKit
section
variable {P:Program}{t e:TypeId}
theorem aIA {α:Type}{w:World}{E:α→V}: ∀(l:List α)(vs:List Value),l.length=vs.length→(∀(i:Nat)(x:α)(v:Value),l[i]? =some x→vs[i]? =some v→VR w9 [] w (E x) v)→VCells w9 [] w (l.map E) vs
 | [],[],_,_=>sG
 | [],_::_,h,_=>by cases h
 |_::_,[],h,_=>by cases h
 |x::l,v::vs,h,k=>kJ (k 0 x v rfl rfl) (aIA l vs (by simpa using h) fun i x' v' h1 h2=>k (i+1) x' v' (by simpa using h1) (by simpa using h2))
theorem aMF {n:Nat}{k:IntKind}(ht:P.underlying t=some (.array n e))(he:P.underlying e=some (.int k))(h1:P.cellsOf e=1)(hn:P.cellsOf t=n):
  aAi P t (fun x:{l:List Int // l.length=n}=> ∀y∈x.1,(Lit.int k y).wf=true) (fun x=>x.1.map (eI k)):=by
 intro H enc w spare held fuel cs x h
 obtain⟨xs,m,_,_,hl,hxs,hf⟩:=DataW.trod_array ht h
 rw[hn]at hl
 have each: ∀i,i<n→ ∃a:Int,(Lit.int k a).wf=true∧ ∀v,cs[i]? =some v→VR w9 [] w (eI k a) v:=by
  intro i hi
  have h2:=hf i hi
  rw[h1,aWr,aV9 (by omega)]at h2
  obtain⟨a,hw,hc⟩:=pP he h2
  refine⟨a,hw,fun v hv=> ?_⟩
  have e2:(cs.drop i).take 1=[v]:=by
   obtain⟨hic,rfl⟩:=aV8.1 hv
   rw[aVZ hic];rfl
  rw[e2]at hc
  exact aG0 hc
 obtain⟨l,hll,hr⟩:=aEb n each
 refine⟨⟨l,hll⟩,fun y hy=> ?_,aIA l cs (by omega) fun i x v h1 h2=>(hr i x h1).2 v h2⟩
 obtain⟨i,hi,rfl⟩:=List.mem_iff_getElem.1 hy
 exact(hr i _ (aV9 hi)).1
theorem aOJ {n:Nat}{k:IntKind}(ht:P.underlying t=some (.array n e))(he:P.underlying e=some (.int k))(h1:P.cellsOf e=1)(hn:P.cellsOf t=n):
  aAi P t (fun x:List Int=>x.length=n∧ ∀y∈x,(Lit.int k y).wf=true) (fun x=>x.map (eI k)):=by
 intro H enc w spare held fuel cs x h
 obtain⟨a,hq,hc⟩:=aMF ht he h1 hn h
 exact⟨a.1,⟨a.2,hq⟩,hc⟩
theorem aHK {w:World}: ∀{A B:List V}{us bs:List Value},VCells w9 [] w A us→VCells w9 [] w B bs→VCells w9 [] w (A++B) (us++bs)
 | [],B,us,bs,h,k=>by
  unfold VCells at h
  subst h
  exact k
 |a::A,B,us,bs,h,k=>by
  unfold VCells at h
  obtain⟨v,rest,rfl,h1,h2⟩:=h
  exact kJ h1 (aHK h2 k)
theorem jK {w:World}{A B:List V}{cs:List Value}{o n:Nat}(h:VCells w9 [] w A ((cs.drop o).take n))(k:VCells w9 [] w B (cs.drop (o+n))):VCells w9 [] w (A++B) (cs.drop o):=by
 have e:cs.drop o=(cs.drop o).take n++cs.drop (o+n):=by rw[←List.drop_drop,List.take_append_drop]
 rw[e]
 exact aHK h k
theorem aAL {w:World}{cs:List Value}{n:Nat}(h:cs.length=n):VCells w9 [] w [] (cs.drop n):=by
 rw[aVW (by omega)];exact sG
end
end Go.Vm
namespace Go.Proofs.YtbjiaghljpoliaaGreatDoor
open Go Go.Vm
open Go.ChangeShapes Go.WideShapes Go.ChangeAt Go.RowKit
def aBS (x:aW):Prop:=(x.Tx.length=32∧ ∀z0∈x.Tx,(Lit.int .u8 z0).wf=true)∧((Lit.int .u32 x.Index).wf=true)
set_option maxRecDepth 100000 in
theorem aCj :aAi Tryz.prog 30 aBS fV:=by
 intro H enc w spare held fuel cs x h
 obtain⟨xs,n,_,_,hl,hlen,hf⟩:=DataW.trod_struct Tryz.underlying30 h
 rw[show Tryz.prog.cellsOf 30=33 by kernel_rfl]at hl
 match xs,hlen,hf with
 | [y0,y1],_,hf=>
  have h0:DataW.trod enc Tryz.prog w 0 spare held n 28 ((cs.drop 0).take (Tryz.prog.cellsOf 28))=some y0:=hf 0 _ rfl
  obtain⟨a0,q0,c0⟩:=(aOJ Tryz.underlying28 Tryz.underlying5 (by kernel_rfl) (by kernel_rfl)) h0
  rw[show Tryz.prog.cellsOf 28=32 by kernel_rfl]at c0
  have h1:DataW.trod enc Tryz.prog w 0 spare held n 22 ((cs.drop 32).take (Tryz.prog.cellsOf 22))=some y1:=hf 1 _ rfl
  obtain⟨a1,q1,c1⟩:=(pP Tryz.underlying22) h1
  rw[show Tryz.prog.cellsOf 22=1 by kernel_rfl]at c1
  refine⟨⟨a0,a1⟩,⟨q0,q1⟩, ?_⟩
  have c:=(jK (o:=0) c0 (jK (o:=32) c1 (aAL hl)))
  simp only[fV,aLm q0.1]
  exact c
def aGY (x:aK):Prop:=(aBS x.Prev)∧((Lit.int .u32 x.Sequence).wf=true)∧(∀z0∈x.Witness,∀z1∈z0,(Lit.int .u8 z1).wf=true)
set_option maxRecDepth 100000 in
theorem aIf :aAi Tryz.prog 48 aGY dL:=by
 intro H enc w spare held fuel cs x h
 obtain⟨xs,n,_,_,hl,hlen,hf⟩:=DataW.trod_struct Tryz.underlying48 h
 rw[show Tryz.prog.cellsOf 48=35 by kernel_rfl]at hl
 match xs,hlen,hf with
 | [y0,y1,y2],_,hf=>
  have h0:DataW.trod enc Tryz.prog w 0 spare held n 30 ((cs.drop 0).take (Tryz.prog.cellsOf 30))=some y0:=hf 0 _ rfl
  obtain⟨a0,q0,c0⟩:=aCj h0
  rw[show Tryz.prog.cellsOf 30=33 by kernel_rfl]at c0
  have h1:DataW.trod enc Tryz.prog w 0 spare held n 22 ((cs.drop 33).take (Tryz.prog.cellsOf 22))=some y1:=hf 1 _ rfl
  obtain⟨a1,q1,c1⟩:=(pP Tryz.underlying22) h1
  rw[show Tryz.prog.cellsOf 22=1 by kernel_rfl]at c1
  have h2:DataW.trod enc Tryz.prog w 0 spare held n 46 ((cs.drop 34).take (Tryz.prog.cellsOf 46))=some y2:=hf 2 _ rfl
  obtain⟨a2,q2,c2⟩:=(zS Tryz.underlying46 (zS Tryz.underlying31 (pP Tryz.underlying5) (by kernel_rfl) (by decide) (aHw (E:=(eI .u8)) fun _=>rfl)) (by kernel_rfl) (by decide) (aHw (E:=(eL 1 (eI .u8))) fun _=>rfl)) h2
  rw[show Tryz.prog.cellsOf 46=1 by kernel_rfl]at c2
  refine⟨⟨a0,a1,a2⟩,⟨q0,q1,q2⟩, ?_⟩
  have c:=(jK (o:=0) c0 (jK (o:=33) c1 (jK (o:=34) c2 (aAL hl))))
  exact c
def aDm (x:aG):Prop:=((Lit.int .i64 x.Value).wf=true)∧(∀z0∈x.Script,(Lit.int .u8 z0).wf=true)
set_option maxRecDepth 100000 in
theorem aDj :aAi Tryz.prog 33 aDm eW:=by
 intro H enc w spare held fuel cs x h
 obtain⟨xs,n,_,_,hl,hlen,hf⟩:=DataW.trod_struct Tryz.underlying33 h
 rw[show Tryz.prog.cellsOf 33=2 by kernel_rfl]at hl
 match xs,hlen,hf with
 | [y0,y1],_,hf=>
  have h0:DataW.trod enc Tryz.prog w 0 spare held n 2 ((cs.drop 0).take (Tryz.prog.cellsOf 2))=some y0:=hf 0 _ rfl
  obtain⟨a0,q0,c0⟩:=(pP Tryz.underlying2) h0
  rw[show Tryz.prog.cellsOf 2=1 by kernel_rfl]at c0
  have h1:DataW.trod enc Tryz.prog w 0 spare held n 31 ((cs.drop 1).take (Tryz.prog.cellsOf 31))=some y1:=hf 1 _ rfl
  obtain⟨a1,q1,c1⟩:=(zS Tryz.underlying31 (pP Tryz.underlying5) (by kernel_rfl) (by decide) (aHw (E:=(eI .u8)) fun _=>rfl)) h1
  rw[show Tryz.prog.cellsOf 31=1 by kernel_rfl]at c1
  refine⟨⟨a0,a1⟩,⟨q0,q1⟩, ?_⟩
  have c:=(jK (o:=0) c0 (jK (o:=1) c1 (aAL hl)))
  exact c
structure aEE where
 Version:Int
 Inputs:List aK
 Outputs:List aG
 Lock:Int
abbrev aBz (x:aEE):List V:=[(eI .u32 x.Version),(.row none 35 (x.Inputs.map aO)),(.row none 2 (x.Outputs.map aP)),(eI .u32 x.Lock)]
@[simp] theorem aS8 {f:Nat→Nat}(l:List aEE):V.rns f (l.flatMap aBz)=l.flatMap aBz:=iE (fun _=>rfl) l
@[simp] theorem aSU {f:Nat→Nat}(x:aEE):V.rns f (aBz x)=aBz x:=rfl
def aQK (x:aEE):Prop:=((Lit.int .u32 x.Version).wf=true)∧(∀z0∈x.Inputs,aGY z0)∧(∀z0∈x.Outputs,aDm z0)∧((Lit.int .u32 x.Lock).wf=true)
set_option maxRecDepth 100000 in
theorem aKX :aAi Tryz.prog 26 aQK aBz:=by
 intro H enc w spare held fuel cs x h
 obtain⟨xs,n,_,_,hl,hlen,hf⟩:=DataW.trod_struct Tryz.underlying26 h
 rw[show Tryz.prog.cellsOf 26=4 by kernel_rfl]at hl
 match xs,hlen,hf with
 | [y0,y1,y2,y3],_,hf=>
  have h0:DataW.trod enc Tryz.prog w 0 spare held n 22 ((cs.drop 0).take (Tryz.prog.cellsOf 22))=some y0:=hf 0 _ rfl
  obtain⟨a0,q0,c0⟩:=(pP Tryz.underlying22) h0
  rw[show Tryz.prog.cellsOf 22=1 by kernel_rfl]at c0
  have h1:DataW.trod enc Tryz.prog w 0 spare held n 23 ((cs.drop 1).take (Tryz.prog.cellsOf 23))=some y1:=hf 1 _ rfl
  obtain⟨a1,q1,c1⟩:=(zS Tryz.underlying23 aIf (by kernel_rfl) (by decide) (aK1 (K:=35) (C:=dL) (fun _=>rfl) (fun _=>rfl))) h1
  rw[show Tryz.prog.cellsOf 23=1 by kernel_rfl]at c1
  have h2:DataW.trod enc Tryz.prog w 0 spare held n 24 ((cs.drop 2).take (Tryz.prog.cellsOf 24))=some y2:=hf 2 _ rfl
  obtain⟨a2,q2,c2⟩:=(zS Tryz.underlying24 aDj (by kernel_rfl) (by decide) (aK1 (K:=2) (C:=eW) (fun _=>rfl) (fun _=>rfl))) h2
  rw[show Tryz.prog.cellsOf 24=1 by kernel_rfl]at c2
  have h3:DataW.trod enc Tryz.prog w 0 spare held n 22 ((cs.drop 3).take (Tryz.prog.cellsOf 22))=some y3:=hf 3 _ rfl
  obtain⟨a3,q3,c3⟩:=(pP Tryz.underlying22) h3
  rw[show Tryz.prog.cellsOf 22=1 by kernel_rfl]at c3
  refine⟨⟨a0,a1,a2,a3⟩,⟨q0,q1,q2,q3⟩, ?_⟩
  have c:=(jK (o:=0) c0 (jK (o:=1) c1 (jK (o:=2) c2 (jK (o:=3) c3 (aAL hl)))))
  exact c
def aNp (x:cU):Prop:=(aBS x.Out)∧(aDm x.Output)∧((Lit.int .i64 x.Height).wf=true)∧(True)
set_option maxRecDepth 100000 in
theorem aIV :aAi Tryz.prog 35 aNp iJ:=by
 intro H enc w spare held fuel cs x h
 obtain⟨xs,n,_,_,hl,hlen,hf⟩:=DataW.trod_struct Tryz.underlying35 h
 rw[show Tryz.prog.cellsOf 35=37 by kernel_rfl]at hl
 match xs,hlen,hf with
 | [y0,y1,y2,y3],_,hf=>
  have h0:DataW.trod enc Tryz.prog w 0 spare held n 30 ((cs.drop 0).take (Tryz.prog.cellsOf 30))=some y0:=hf 0 _ rfl
  obtain⟨a0,q0,c0⟩:=aCj h0
  rw[show Tryz.prog.cellsOf 30=33 by kernel_rfl]at c0
  have h1:DataW.trod enc Tryz.prog w 0 spare held n 33 ((cs.drop 33).take (Tryz.prog.cellsOf 33))=some y1:=hf 1 _ rfl
  obtain⟨a1,q1,c1⟩:=aDj h1
  rw[show Tryz.prog.cellsOf 33=2 by kernel_rfl]at c1
  have h2:DataW.trod enc Tryz.prog w 0 spare held n 3 ((cs.drop 35).take (Tryz.prog.cellsOf 3))=some y2:=hf 2 _ rfl
  obtain⟨a2,q2,c2⟩:=(pP Tryz.underlying3) h2
  rw[show Tryz.prog.cellsOf 3=1 by kernel_rfl]at c2
  have h3:DataW.trod enc Tryz.prog w 0 spare held n 4 ((cs.drop 36).take (Tryz.prog.cellsOf 4))=some y3:=hf 3 _ rfl
  obtain⟨a3,q3,c3⟩:=(aNk Tryz.underlying4) h3
  rw[show Tryz.prog.cellsOf 4=1 by kernel_rfl]at c3
  refine⟨⟨a0,a1,a2,a3⟩,⟨q0,q1,q2,q3⟩, ?_⟩
  have c:=(jK (o:=0) c0 (jK (o:=33) c1 (jK (o:=35) c2 (jK (o:=36) c3 (aAL hl)))))
  exact c
end Go.Proofs.YtbjiaghljpoliaaGreatDoor
namespace Go.Vm
open Go
def iN (l:List Nat):List Int:=l.map fun(x:Nat)=>(x:Int)
theorem aHJ (l:List Nat):(iN l).length=l.length:=by simp[iN]
theorem aOY {d:List Int}(h:Byt d):iN (d.map aVS)=d∧ ∀x∈d.map aVS,x<256:=by
 constructor
 ·simp only[iN,List.map_map]
  conv=>rhs;rw[←List.map_id d]
  refine aWi fun x hx=> ?_
  have:=h x hx
  simp only[Function.comp,id];omega
 intro x hx
 simp only[List.mem_map]at hx
 obtain⟨y,hy,rfl⟩:=hx
 have:=h y hy
 omega
theorem aMS {d:List Int}(h:Byt d): ∃l:List Nat,d=iN l∧ ∀x∈l,x<256:=⟨_,(aOY h).1.symm,(aOY h).2⟩
theorem i1 {j:Nat}(hj:j≤100000):aVO.wrap ((j:Int)+1)=((j+1:Nat):Int):=by rw[cR (by omega) (by omega)];simp
theorem dT {j n:Nat}(h:j<n):decide ((j:Int)<(n:Int))=true:=by simpa using h
theorem dF {j n:Nat}(h: ¬j<n):decide ((j:Int)<(n:Int))=false:=by simp;omega
theorem jT :100000000≤oU:=by decide
theorem iZ {l m:List Int}(h:l.length+m.length≤100000000):eE 1 l m=some (l++m):=by
 have:=jT
 exact aBt (by omega)
theorem m9 {α:Type}{f:Nat→Int→List Int→Option (List Int)}{xs:List α}{g:α→List Int}{B:Nat}(hn:xs.length≤100000)
  (hs: ∀m j acc (hj:j<xs.length),acc.length+(g xs[j]).length≤B→f (m+1) (j:Int) acc=f m ((j+1:Nat):Int) (acc++g xs[j])) (he: ∀m j acc,xs.length≤j→f (m+1) (j:Int) acc=some acc):
  ∀(m j:Nat)(acc:List Int),xs.length-j<m→j≤xs.length→acc.length+((xs.drop j).flatMap g).length≤B→f m (j:Int) acc=some (acc++(xs.drop j).flatMap g)
 |0,j,acc,hm,_,_=>by omega
 |m+1,j,acc,hm,hj,hB=>by
  by_cases h:j<xs.length
  ·rw[aVZ h,aWm,aV2]at hB
   rw[hs m j acc h (by omega),m9 hn hs he m (j+1) _ (by omega) (by omega) (by rw[aV2];omega),aVZ h,aWm,aVX]
  rw[he m j acc (by omega),aVW (by omega)];simp
theorem nF {α R:Type}{f:Nat→Int→Option (LR Unit R)}{xs:List α}{p:α→Bool}{r:R}
  (hs: ∀m j (hj:j<xs.length),f (m+1) (j:Int)=if p xs[j]=true then f m ((j+1:Nat):Int)else some (.ret r)) (he: ∀m j,xs.length≤j→f (m+1) (j:Int)=some (.brk ())):
  ∀(m j:Nat),xs.length-j<m→j≤xs.length→f m (j:Int)=some (if(xs.drop j).all p=true then .brk ()else .ret r)
 |0,j,hm,_=>by omega
 |m+1,j,hm,hj=>by
  by_cases h:j<xs.length
  ·rw[hs m j h,nF hs he m (j+1) (by omega) (by omega),aVZ h,List.all_cons]
   cases p xs[j]<;>simp
  rw[he m j (by omega),aVW (by omega)];simp
end Go.Vm
namespace Go.Proofs.YtbjiaghljpoliaaGreatDoor
open Go Go.Vm
def shV (v:Int)(i:Nat):Int:=aVV.wrap (v.fdiv (2^(min (8*i) 64)))
def aAq (w:Nat)(v:Int):List Int:=(aWn w).map (shV v)
theorem mH (w:Nat)(v:Int):(aAq w v).length=w:=by simp[aAq]
theorem aSZ (v:Int)(i:Nat)(hi:i≤100): ∃y,shr .u64 v (aVO.wrap (8*(i:Int)))=some y∧aVV.wrap y=shV v i:=by
 refine⟨_, ?_,rfl⟩
 rw[cR (by omega) (by omega)]
 unfold shr
 rw[if_neg (by omega)]
 congr 3
theorem aQN (w:Nat)(v:Int)(j:Nat)(hj:j<w):(((aWn j).map (shV v))++aVP (w-j) 0).set j (shV v j)=((aWn (j+1)).map (shV v))++aVP (w-(j+1)) 0:=by
 rw[List.set_append_right _ _ (by simp),show w-j=(w-(j+1))+1 by omega,List.replicate_succ,aWt,List.map_append,aVX]
 simp
theorem aG8 {f:Nat→Int→List Int→Option (List Int)}(w:Nat)(v:Int)(hw:w≤100)
  (hs: ∀m j acc,j<w→acc.length=w→f (m+1) (j:Int) acc=f m ((j+1:Nat):Int) (acc.set j (shV v j))) (he: ∀m acc,acc.length=w→f (m+1) (w:Int) acc=some acc):
  ∀(m j:Nat),w-j<m→j≤w→f m (j:Int) (((aWn j).map (shV v))++aVP (w-j) 0)=some (aAq w v)
 |0,j,hm,_=>by omega
 |m+1,j,hm,hj=>by
  by_cases h:j<w
  ·rw[hs m j _ h (by simp;omega),aQN w v j h]
   exact aG8 w v hw hs he m (j+1) (by omega) (by omega)
  have:j=w:=by omega
  subst this
  rw[he m _ (by simp),Nat.sub_self]
  simp[aAq]
theorem aF6 (N:Nat)(hN:70000≤N)(v:Int)(w:Nat)(hw:w≤100):qF N v (w:Int)=some (aAq w v):=by
 have hmk:mks 1 (0:Int) (w:Int)=some (aVP w 0):=aEy (by have:=jT;omega)
 have:=aG8 (f:=kH N v (w:Int)) w v hw (fun m j acc hj hl=>by
   obtain⟨y,h1,h2⟩:=aSZ v j (by omega)
   rw[kH,dT hj,if_pos rfl,h1,cL acc (by omega:j<acc.length)]
   simp only[aVU,Int.toNat_natCast,h2,i1 (show j≤100000 by omega)])
  (fun m acc hl=>by rw[kH,dF (Nat.lt_irrefl w)];rfl) N 0 (by omega) (by omega)
 simp only[qF,hmk,aVU,vR]
 simp only[List.range_zero,List.map_nil,aV0,Nat.sub_zero]at this
 rw[show((0:Nat):Int)=0 from rfl]at this
 rw[this];rfl
theorem t9 (N:Nat)(b v:List Int)(h:b.length+v.length≤50000000):gX N b v=some (b++v):=by
 have hmk:mks 1 (0:Int) (aVO.wrap ((b.length:Int)+(v.length:Int)))=some (aVP (b.length+v.length) 0):=by
  rw[cR (by omega) (by omega),show(b.length:Int)+(v.length:Int)=((b.length+v.length:Nat):Int) by omega]
  exact aEy (by have:=jT;omega)
 simp only[gX,hmk,aVU,List.take_zero]
 rw[iZ (by simp;omega)]
 simp only[aVU,aV0]
 rw[iZ (by omega)];rfl
def pG (v:Int):List Int:=aAq 4 (aVR.wrap v)
def aNi (v:Int):List Int:=aAq 8 v
theorem cY (v:Int):(pG v).length=4:=mH _ _
theorem aDo (v:Int):(aNi v).length=8:=mH _ _
section
variable (N:Nat)(hN:70000≤N)
include hN
theorem aJI (b:List Int)(v:Int)(h:b.length≤40000000):hH N b v=some (b++pG v):=by
 simp only[hH,show(4:Int)=((4:Nat):Int)from rfl,aF6 N hN _ 4 (by omega),aVU]
 rw[t9 N _ _ (by rw[mH];omega)];rfl
theorem aTe (b:List Int)(v:Int)(h:b.length≤40000000):mD N b v=some (b++aNi v):=by
 simp only[mD,show(8:Int)=((8:Nat):Int)from rfl,aF6 N hN _ 8 (by omega),aVU]
 rw[t9 N _ _ (by rw[mH];omega)];rfl
end
theorem wu (k:IntKind)(n:Nat)(hk:k.signed=false)(h:(n:Int)<2^k.bits):k.wrap (n:Int)=n:=by
 rw[aIp hk];exact Int.emod_eq_of_lt (by omega) h
def szB (n:Nat):List Int:=if n<253 then aAq 1 n else if n<65536 then 253::aAq 2 n else 254::aAq 4 n
theorem pW (n:Nat):1≤(szB n).length∧(szB n).length≤5:=by
 unfold szB
 split
 ·simp[mH]
 split<;>simp[mH]
theorem aUz (n:Nat)(h:n<256):aAq 1 (n:Int)=[aVV.wrap (n:Int)]:=by
 simp[aAq,shV,aWt]
section
variable (N:Nat)(hN:70000≤N)
include hN
theorem aKK (b:List Int)(n:Nat)(hn:n≤1000000)(h:b.length≤30000000):jJ N b (aVR.wrap (n:Int))=some (b++szB n):=by
 rw[wu .u64 n rfl (by simp[aV7];omega)]
 unfold jJ szB
 by_cases h1:n<253
 ·have e1:decide ((n:Int)<253)=true:=decide_eq_true (by omega)
  rw[e1,if_pos rfl,if_pos h1,t9 N _ _ (by simp;omega),aUz n (by omega)];rfl
 have e1:decide ((n:Int)<253)=false:=decide_eq_false (by omega)
 rw[e1,if_neg h1]
 by_cases h2:n<65536
 ·have e2:decide ((n:Int)<65536)=true:=decide_eq_true (by omega)
  simp only[e2,aWk,if_false,if_true,if_pos h2]
  rw[t9 N _ _ (by simp;omega)]
  simp only[aVU,vY,show(2:Int)=((2:Nat):Int)from rfl,aF6 N hN _ 2 (by omega)]
  rw[wu .u16 n rfl (by simp[aV7];omega),wu .u64 n rfl (by simp[aV7];omega),t9 N _ _ (by simp[mH];omega)]
  simp
 have e2:decide ((n:Int)<65536)=false:=decide_eq_false (by omega)
 have e3:decide ((n:Int)<4294967296)=true:=decide_eq_true (by omega)
 simp only[e2,e3,aWk,if_false,if_true,if_neg h2]
 rw[t9 N _ _ (by simp;omega)]
 simp only[aVU]
 rw[aJI N hN (b++[254]) _ (by simp;omega),wu .u32 n rfl (by simp[aV7];omega)]
 simp only[pG,wu .u64 n rfl (show(n:Int)<2^aVR.bits by simp[aV7];omega),aVU,aVX]
 rfl
theorem aLY (b s:List Int)(hs:s.length≤1000000)(h:b.length≤30000000):kC N b s=some (b++(szB s.length++s)):=by
 have:=pW s.length
 simp only[kC,aKK N hN b _ hs (by omega),aVU]
 rw[t9 N _ _ (by rw[aV2];omega),aVU,aVX]
theorem aOS (t:List Int)(i:Int)(ht:t.length=32):aBA N t i=some (t++pG i):=by
 simp only[aBA,uT,a9,if_pos ht,aVU]
 rw[t9 N _ _ (by simp;omega)]
 simp only[aVU,aV0]
 rw[aJI N hN _ _ (by omega)];rfl
def oJ (o:aG):List Int:=aNi (aVR.wrap o.Value)++(szB o.Script.length++o.Script)
end
end Go.Proofs.YtbjiaghljpoliaaGreatDoor
