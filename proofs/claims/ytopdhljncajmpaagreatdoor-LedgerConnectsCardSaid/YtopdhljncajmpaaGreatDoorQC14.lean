/- Texts of ours, joined. -/
import Derived.Test.YtopdhljncajmpaaGreatDoorQC13
open Option.some renaming inj → a1K
open List renaming flatMap_cons → a1L,replicate → a1M,length_set → a1N,mem_or_eq_of_mem_set → a1O,length_map → a1Q,set_set → a1U,map_cons → a1V,set_cons_succ → a1W,mem_of_getElem? → a1Y,getElem?_eq_some_iff → a10,map_map → a12,mem_map → a13,map_set → a14,mem_of_mem_take → a15,mem_cons → a17,set_cons_zero → a18,getElem?_map → a2a
open Go.IntKind renaming i64 → a1P,u32 → a1X
open Go.Vm.Convs renaming cons → a1R
open Int renaming toNat → a1S
open Go.Vm.Conv renaming same → a1T
open Go.Vm.DrawG renaming ps → a1Z,fk → a2c,jh → a2d,nil → a2e
open Go.Vm.HCv renaming dead → a11
open Prod renaming snd → a16,mk → a19
open Go.Vm.OpsX renaming ghost → a2b
set_option linter.unusedSimpArgs false
set_option linter.unusedVariables false
set_option maxRecDepth 20000
set_option maxHeartbeats 8000000
namespace Go.Proofs.YtopdhljncajmpaaGreatDoor
open Go Go.Vm
abbrev aZP (a:Nat)(m:Bool)(t:aB):V:=match m with
 |false=> .row none 2 (t.Outputs.map b7)
 |true=> .sl a 0 t.Outputs.length 2 true
abbrev k8 (a:Nat)(x:Bool×aB):List V:=[eI .u32 x.2.Version,.row none 35 (x.2.Inputs.map bU),aZP a x.1 x.2,eI .u32 x.2.Lock]
abbrev nE (x:aJ)(v:V):List V:=((eI .u32 x.Header.Version)::(aN (eI .u8) x.Header.Prev (aN (eI .u8) x.Header.Root [eI .u32 x.Header.Time,eI .u32 x.Header.Bits,eI .u32 x.Header.Nonce,v])))
def dV :List aB→List aI
 | []=>[]
 |t::_=>t.Outputs
theorem aXk : ∀l:List aB,(fs0 l).length=l.length
 | []=>rfl
 |_::ts=>by simp[fs0]
theorem aSz : ∀l:List aB,(fs0 l).map a16=l
 | []=>rfl
 |_::ts=>by simp[fs0,Function.comp_def]
theorem aDY {f:Nat→Nat}{a:Nat}: ∀l:List (Bool×aB),V.rns f (l.flatMap (k8 a))=l.flatMap (k8 (f a))
 | []=>rfl
 |(m,t)::l=>by
  have ih:=aDY (f:=f) (a:=a) l
  rw[a1L,a1L,aLF,ih]
  refine congrArg (· ++_) ?_
  cases m<;>rfl
theorem aWg {vn:Nat→Bool}{f:Nat→Nat}{a b:Nat}(l:List (Bool×aB))(h:f a=b):V.les vn (l.flatMap (k8 b)) (V.rns f (l.flatMap (k8 a))):=by rw[aDY,h];exact V.les_refl _ _
theorem aP4 {a:Nat}(l:List (Bool×aB)):(l.flatMap (k8 a)).all V.one=true:=hY (fun x=>by obtain⟨m,t⟩:=x;cases m<;>rfl) l
theorem aS5 {a:Nat}: ∀x:Bool×aB,(k8 a x).all V.one=true:=fun x=>by obtain⟨m,t⟩:=x;cases m<;>rfl
theorem aNt {α:Type}{C C':α→List V}{F:V→Option V}: ∀l:List α,(∀x∈l,(C x).mapM F=some (C' x))→(l.flatMap C).mapM F=some (l.flatMap C')
 | [],_=>rfl
 |x::l,h=>by rw[a1L,a1L];exact aQm (h x (by simp)) (aNt l fun y hy=>h y (by simp[hy]))
theorem aTS {hE:Hp}{b q:Nat}{e:TypeId}{α:Type}{C:α→List V}{g:α→aB}{l:List α}(hC: ∀x,(C x).length=4)(hn:l.length=q)(hb:hE[b]? =some (some ⟨e,l.flatMap C⟩))(hx: ∀x∈l,(C x).mapM (c9 hE 3)=some (aQ (g x))):
  sG hE (.sl b 0 q 4 true)=some (.row none 4 ((l.map g).map aZ)):=by
 subst hn
 show c9 hE 4 _=_
 simp only[c9,hb]
 rw[if_pos ⟨by rw[lC hC];omega,by decide,.inl trivial⟩]
 simp only[List.drop_zero]
 rw[List.take_of_length_le (by rw[lC hC];exact Nat.le_refl _),aNt l hx]
 simp only[Option.map_some,aHN (K:=4) (C:=fun x=>aQ (g x)) (fun _=>rfl)]
 rw[a12];rfl
theorem aN4 {hE:Hp}{a d:Nat}{e:TypeId}{os:List aI}(ha:hE[a]? =some (some ⟨e,os.flatMap aX⟩)):c9 hE (d+2) (.sl a 0 os.length 2 true)=some (.row none 2 (os.map b7)):=aLO (fun _=>rfl) (by decide) rfl ha (fun _=>rfl)
theorem a0e {hE:Hp}{a b q:Nat}{e e':TypeId}{l:List (Bool×aB)}{os:List aI}(hn:l.length=q)(hb:hE[b]? =some (some ⟨e,l.flatMap (k8 a)⟩))(ha:hE[a]? =some (some ⟨e',os.flatMap aX⟩))(hos: ∀x∈l,x.1=true→x.2.Outputs=os):
  sG hE (.sl b 0 q 4 true)=some (.row none 4 ((l.map a16).map aZ)):=aTS (fun _=>rfl) hn hb fun x hx=>by
 obtain⟨m,t⟩:=x
 cases m with
 |false=>rfl
 |true=>
  have:=hos _ hx rfl
  simp only at this
  subst this
  exact iS rfl (iS rfl (iS (aN4 ha) (iS rfl aLR)))
theorem aNG {l:List aB}: ∀x∈fs0 l,x.1=true→x.2.Outputs=dV l:=by
 intro x hx h
 cases l with
 |nil=>cases hx
 |cons t ts=>
  simp only[fs0,a17,a13]at hx
  rcases hx with rfl|⟨u,_,rfl⟩
  ·rfl
  cases h
theorem zGs {N n:Nat}{fr fr':List (Nat×V)}{h h':Hp}(σ:List Nat)
  (hf:FLe wP (V.rn (sg σ h.length)) fr fr':=by repeat (first|exact FLe.nil|refine FLe.same rfl ?_|refine FLe.le rfl V.le_nil ?_|refine FLe.le rfl V.le_row ?_|refine FLe.le rfl (V.le_arr (fun _=>rfl)) ?_))
  (hh:HLe (sg σ h.length) h σ h':=by repeat (first|exact HLe.nil|refine HLe.dead ?_|refine HLe.live rfl (aWg _ rfl) (aP4 _) ?_|refine HLe.live rfl V.les_nil rfl ?_|refine HLe.live rfl (aFL (fun _=>rfl) _) (all_map (fun _=>rfl) _) ?_|refine HLe.live rfl (aAX (fun _=>rfl) _) (hY (fun _=>rfl) _) ?_|refine HLe.live rfl (V.les_refl _ _) rfl ?_))
  (hσ:σ.take N=List.range N:=by rfl) (hlt:σ.all (fun b=>Nat.blt b h.length)=true:=by rfl) (hnd:ndB (lvs σ h')=true:=by rfl):Ghost N (aG n fr) h (aG n fr') h':=Ghost.rn σ hσ hlt hf hh hnd
theorem aIf {N height value script r} (hr:uZ N height value script=some r):
  Vm.Fn Tryz.prog 33 [] [eI .i64 height,eI .i64 value,.row none 1 (script.map (eI .u8))] (.agg (k8 0 (true,r))) [some ⟨78,r.Outputs.flatMap aX⟩]:=by
 refine zf Tryz.func33 Tryz.ntmps33 ?_
 unfold uZ at hr
 obtain⟨x7,h_1,hr⟩:=aL hr
 refine zz ?_
 refine xp (aBA h_1) ?_
 refine zz ?_
 refine xw (v:=(.agg (aN (eI .u8) x7.Tx [eI .u32 x7.Index,eI .u32 (a1X.wrap height),.row (some true) 1 []]))) (cS rfl (jC aJg aQi rfl))<|jU cP 35 [aT.mk x7 (a1X.wrap height) []] ?_
 refine zz ?_
 refine jU aX 2 [aI.mk value script] ?_
 refine zz ?_
 obtain rfl:=sj hr
 exact zr1 Tryz.results33 fW (Ghost.trans (zqf [1,0,1]) (zG [2]))
theorem aMh {N p l c vs r} (hr:tT N p l c vs=some r):
  Vm.Fn Tryz.prog 10 [] [cU p,dD l,fH c,eI .u8 vs] (.agg (nE r (.sl 0 0 (fs0 r.Txs).length 4 true))) [some ⟨91,(fs0 r.Txs).flatMap (k8 1)⟩,some ⟨78,(dV r.Txs).flatMap aX⟩]:=by
 refine zf Tryz.func10 Tryz.ntmps10 ?_
 unfold tT at hr
 obtain⟨x16,h_1,hr⟩:=aL hr
 refine zz ?_
 refine zc (nO h_1) [] ?_
 refine zz ?_
 refine AB.seq ?_
 obtain⟨x26,h_2,hr⟩:=aL hr
 obtain⟨x31,h_4,hr⟩:=aL hr
 obtain⟨x32,h_6,hr⟩:=aL hr
 obtain⟨x35,h_8,hr⟩:=aL hr
 obtain⟨h8,rfl⟩:b6 64 [(true,x32)] (x16.1.map (a19 false))=some (fs0 x35)∧x35=x32::x16.1:=by
  unfold b6 at h_8⊢
  rw[a1Q]
  split at h_8
  ·injection h_8 with h_8
   rw[if_pos (by assumption),←h_8];exact⟨rfl,rfl⟩
  cases h_8
 have l16:x16.1.length=(x16.1.map (a19 false)).length:=(a1Q _).symm
 have e16: ∀a,x16.1.flatMap aQ=(x16.1.map (a19 false)).flatMap (k8 a):=fun a=>by rw[List.flatMap_map]
 refine AB.rd (cA [20,34]) (cA [33]) mixed<|a1Z (m:=6) [0,1,2,3,4,5,6,7,8,9,10,11,12,15] ?_
 refine zz ?_
 refine xu (pW h_2) ?_
 refine zz ?_
 refine xu (lP h_4) ?_
 refine zz ?_
 refine DrawG.jn (m:=1) (L:=lst [0,1,2,3,4,5,6,7,8,9,10,11,12,13,14,15,16,17,18] 20) (s1:=aG 47 [(3,eI .u8 vs),(4,.ptr 0 0),(6,.ptr 1 0),(8,.ptr 2 0),(11,.ptr 3 0),(36,.agg ((eI .u32 0)::(aN (eI .u8) (a1M 32 0) (aN (eI .u8) (a1M 32 0) [eI .u32 0,eI .u32 0,eI .u32 0,.sl 4 0 (fs0 (x32::x16.1)).length 4 true]))))]) (h1:=[some ⟨34,bG p⟩,some ⟨51,cF c⟩,some ⟨47,(eI .u32 0)::(aN (eI .u8) (a1M 32 0) (aN (eI .u8) (a1M 32 0) [eI .u32 0,eI .u32 0,eI .u32 0,.row (some true) 1 []]))⟩,some ⟨47,(eI .u32 0)::(aN (eI .u8) (a1M 32 0) (aN (eI .u8) (a1M 32 0) [eI .u32 0,eI .u32 0,eI .u32 0,.row (some true) 1 []]))⟩,some ⟨91,(fs0 (x32::x16.1)).flatMap (k8 5)⟩,some ⟨78,x32.Outputs.flatMap aX⟩]) ?_ (fun J=> ?_)
 ·refine a1Z (m:=0) [19]<|zz ?_
  refine a2e (by decide +kernel) ?_
  refine zz ?_
  refine AB.seq ?_
  obtain⟨x41,h_9,hr⟩:=aL hr
  obtain⟨x43,h_11,hr⟩:=aL hr
  obtain⟨x44,h_13,hr⟩:=aL hr
  refine AB.rs mixed [35,37] [36] [[0,1,2,3,4,5,6,7,8,9]]<|zz ?_
  refine xZ (uW h_9) [] [4,5] (hx:=Brw.row ((a0e rfl rfl rfl aNG).trans (by rw[aSz])) Brw.nil) ?_
  refine zz ?_
  refine xu (wQ h_11)<|xu (aBt h_13) ?_
  refine zz ?_
  obtain rfl:=sj hr
  exact zr1 Tryz.results10 fW (zGs [4,5])
 refine a2c (n:=5) [13,18] ⟨?_, ?_,trivial⟩
 ·refine zg (aIf h_6) [] ?_
  refine zz ?_
  rw[e16 5,l16]
  refine a2c (n:=4) [14,18] ⟨?_, ?_,trivial⟩
  ·refine jU (k8 5) 4 [(true,x32)] ?_ (h1C:=aS5)
   refine zz ?_
   refine a2c (n:=3) [16,18] ⟨?_, ?_,trivial⟩
   ·refine zz ?_
    refine a1Z (m:=1) [17,18] ?_
    refine xw (v:=(.agg ((eI .u32 0)::(aN (eI .u8) (a1M 32 0) (aN (eI .u8) (a1M 32 0) [eI .u32 0,eI .u32 0,eI .u32 0,.sl 7 0 (fs0 (x32::x16.1)).length 4 true]))))) (cS rfl (jC aDc aJe rfl)) ?_
    refine zz ?_
    refine a2d J ?_
    exact(zGs [0,2,3,8,7,5])
   refine zz ?_
   refine a1Z (m:=1) [16,17]<|zz ?_
   refine xw (v:=(.agg ((eI .u32 0)::(aN (eI .u8) (a1M 32 0) (aN (eI .u8) (a1M 32 0) [eI .u32 0,eI .u32 0,eI .u32 0,.sl 8 0 (fs0 (x32::x16.1)).length 4 true]))))) (cS rfl (jC aDc aJe rfl)) ?_
   refine zz ?_
   refine a2d J ?_
   exact(zGs [0,2,3,7,8,5])
  refine zz ?_
  refine a1Z (m:=1) [14,16,17] ?_
  refine jU (k8 5) 4 [(true,x32)] ?_ (h1C:=aS5)
  refine zz ?_
  refine xw (v:=(.agg ((eI .u32 0)::(aN (eI .u8) (a1M 32 0) (aN (eI .u8) (a1M 32 0) [eI .u32 0,eI .u32 0,eI .u32 0,.sl 8 0 (fs0 (x32::x16.1)).length 4 true]))))) (cS rfl (jC aDc aJe rfl)) ?_
  refine zz ?_
  refine a2d J ?_
  exact(zGs [0,2,3,6,8,5])
 refine zz ?_
 refine a1Z (m:=1) [13,14,16,17] ?_
 refine zg (aIf h_6) [] ?_
 rw[e16 6,l16]
 refine zz ?_
 refine jU (k8 6) 4 [(true,x32)] ?_ (h1C:=aS5)
 refine zz ?_
 refine xw (v:=(.agg ((eI .u32 0)::(aN (eI .u8) (a1M 32 0) (aN (eI .u8) (a1M 32 0) [eI .u32 0,eI .u32 0,eI .u32 0,.sl 8 0 (fs0 (x32::x16.1)).length 4 true]))))) (cS rfl (jC aDc aJe rfl)) ?_
 refine zz ?_
 refine a2d J ?_
 exact(zGs [0,2,3,5,8,6])
inductive Mk where
 |pl|sh|ow|ou
abbrev aST (c:Nat)(m:Mk)(t:aB):V:=match m with
 | .ow=> .sl c 0 t.Inputs.length 35 true
 |_=> .row none 35 (t.Inputs.map bU)
abbrev aTc (a b:Nat)(m:Mk)(t:aB):V:=match m with
 | .pl=> .row none 2 (t.Outputs.map b7)
 | .sh=> .sl a 0 t.Outputs.length 2 true
 |_=> .sl b 0 t.Outputs.length 2 true
abbrev fC (a b c:Nat)(x:Mk×aB):List V:=[eI .u32 x.2.Version,aST c x.1 x.2,aTc a b x.1 x.2,eI .u32 x.2.Lock]
def toM (x:Bool×aB):Mk×aB:=(if x.1 then .sh else .pl,x.2)
def ofM (x:Mk×aB):Bool×aB:=(match x.1 with | .sh=>true|_=>false,x.2)
theorem aWK : ∀l:List (Bool×aB),(l.map toM).map ofM=l
 | []=>rfl
 |(m,t)::l=>by rw[a1V,a1V,aWK l];cases m<;>rfl
theorem aZo (a b c:Nat): ∀l:List (Bool×aB),l.flatMap (k8 a)=(l.map toM).flatMap (fC a b c)
 | []=>rfl
 |(m,t)::l=>by rw[a1V,a1L,a1L,aZo a b c l];cases m<;>rfl
abbrev zbQ :List V:=((eI .u32 0)::(aN (eI .u8) (a1M 32 0) (aN (eI .u8) (a1M 32 0) [eI .u32 0,eI .u32 0,eI .u32 0,.row (some true) 1 []])))
abbrev blQ (b:aJ)(p:List Int):List V:=nE (aJ.mk (bV.mk b.Header.Version p b.Header.Root b.Header.Time b.Header.Bits b.Header.Nonce) b.Txs) (.sl 0 0 (fs0 b.Txs).length 4 true)
abbrev tQ (o:List aI)(i:List aT):Hp:=[none,some ⟨78,o.flatMap aX⟩,none,some ⟨97,i.flatMap cP⟩]
abbrev hQ (vw:aR)(T:List aB)(o:List aI)(bl:List V)(G:List (Mk×aB))(tl:Hp):Hp:=some ⟨91,(fs0 T).flatMap (k8 1)⟩::some ⟨78,o.flatMap aX⟩::some ⟨40,eX vw⟩::some ⟨47,bl⟩::some ⟨47,zbQ⟩::none::some ⟨91,G.flatMap (fC 1 8 10)⟩::tl
def aLt (o1 o2:List aI)(i2:List aT)(g:Mk×aB):Prop:=match g.1 with
 | .pl=>True
 | .sh=>g.2.Outputs=o1
 | .ow=>g.2.Outputs=o2∧g.2.Inputs=i2
 | .ou=>False
theorem aZw {hE:Hp}{a d:Nat}{e:TypeId}{is:List aT}(ha:hE[a]? =some (some ⟨e,is.flatMap cP⟩)):c9 hE (d+2) (.sl a 0 is.length 35 true)=some (.row none 35 (is.map bU)):=aLO (fun _=>rfl) (by decide) rfl ha (fun _=>rfl)
theorem aY0 {hE:Hp}{a b c:Nat}{e1 e2 e3:TypeId}{G:List (Mk×aB)}{o1 o2:List aI}{i2:List aT}(h1:hE[a]? =some (some ⟨e1,o1.flatMap aX⟩))(h2:hE[b]? =some (some ⟨e2,o2.flatMap aX⟩))(h3:hE[c]? =some (some ⟨e3,i2.flatMap cP⟩))(hI: ∀g∈G,aLt o1 o2 i2 g): ∀g∈G,(fC a b c g).mapM (c9 hE 3)=some (aQ (a16 g)):=by
 intro g hg
 have q:=hI g hg
 obtain⟨k,t⟩:=g
 cases k with
 |pl=>rfl
 |sh=>
  have q:t.Outputs=o1:=q
  subst q
  exact iS rfl (iS rfl (iS (aN4 h1) (iS rfl aLR)))
 |ow=>
  obtain⟨q1,q2⟩:t.Outputs=o2∧t.Inputs=i2:=q
  subst q1
  subst q2
  exact iS rfl (iS (aZw h3) (iS (aN4 h2) (iS rfl aLR)))
 |ou=>cases q
theorem aRa {h h':Hp}(hs:Sub h h'){a b c:Nat}{e2 e3:TypeId}{o1 o2:List aI}{i2:List aT}(h2:h[b]? =some (some ⟨e2,o2.flatMap aX⟩))(h2':h'[b]? =some none)(h3:h[c]? =some (some ⟨e3,i2.flatMap cP⟩))(h3':h'[c]? =some none): ∀G:List (Mk×aB),(∀g∈G,aLt o1 o2 i2 g)→Convs h h' (G.flatMap (fC a b c)) ((G.map ofM).flatMap (k8 a))
 | [],_=>Convs.nil
 |(k,t)::G,hI=>by
  have ih:=aRa hs h2 h2' h3 h3' (a:=a) G fun g hg=>hI g (by simp[hg])
  have q:=hI (k,t) (by simp)
  rw[a1V,a1L,a1L]
  cases k with
  |pl=>exact a1R (a1T hs) (a1R (a1T hs) (a1R (a1T hs) (a1R (a1T hs) ih)))
  |sh=>exact a1R (a1T hs) (a1R (a1T hs) (a1R (a1T hs) (a1R (a1T hs) ih)))
  |ow=>
   obtain⟨q1,q2⟩:t.Outputs=o2∧t.Inputs=i2:=q
   subst q1
   subst q2
   exact a1R (a1T hs) (a1R (Conv.rowK (C:=cP) (K:=35) (l:=t.Inputs) (fun _=>rfl) (fun _=>rfl) (fun _=>rfl) hs h3 h3' rfl) (a1R (Conv.rowK (C:=aX) (K:=2) (l:=t.Outputs) (fun _=>rfl) (fun _=>rfl) (fun _=>rfl) hs h2 h2' rfl) (a1R (a1T hs) ih)))
  |ou=>cases q
theorem aTE {f:Nat→Nat}{a b c:Nat}: ∀l:List (Mk×aB),V.rns f (l.flatMap (fC a b c))=l.flatMap (fC (f a) (f b) (f c))
 | []=>rfl
 |(m,t)::l=>by
  have ih:=aTE (f:=f) (a:=a) (b:=b) (c:=c) l
  rw[a1L,a1L,aLF,ih]
  refine congrArg (· ++_) ?_
  cases m<;>rfl
theorem aZg {vn:Nat→Bool}{f:Nat→Nat}{a b c:Nat}(l:List (Mk×aB))(ha:f a=a)(hb:f b=b)(hc:f c=c):V.les vn (l.flatMap (fC a b c)) (V.rns f (l.flatMap (fC a b c))):=by rw[aTE,ha,hb,hc];exact V.les_refl _ _
theorem aYD {a b c:Nat}(l:List (Mk×aB)):(l.flatMap (fC a b c)).all V.one=true:=hY (fun x=>by obtain⟨m,t⟩:=x;cases m<;>rfl) l
theorem zGm {N n:Nat}{fr fr':List (Nat×V)}{h h':Hp}(σ:List Nat)
  (hf:FLe wP (V.rn (sg σ h.length)) fr fr':=by repeat (first|exact FLe.nil|refine FLe.same rfl ?_))
  (hh:HLe (sg σ h.length) h σ h':=by repeat (first|exact HLe.nil|refine HLe.dead ?_|refine HLe.live rfl (aWg _ rfl) (aP4 _) ?_|refine HLe.live rfl (aZg _ rfl rfl rfl) (aYD _) ?_|refine HLe.live rfl (aAX (fun _=>rfl) _) (hY (fun _=>rfl) _) ?_|refine HLe.live rfl (V.les_refl _ _) rfl ?_))
  (hσ:σ.take N=List.range N:=by rfl) (hlt:σ.all (fun b=>Nat.blt b h.length)=true:=by rfl) (hnd:ndB (lvs σ h')=true:=by rfl):Ghost N (aG n fr) h (aG n fr') h':=Ghost.rn σ hσ hlt hf hh hnd
theorem aNg {l:List (Bool×aB)}{L:List (Mk×aB)}(hL:L=l.map toM)(x:Nat)(u:aB):(L.set x (.ow,u)).map ofM=l.set x (false,u):=by
 subst hL
 rw[a14,aWK];rfl
theorem aTg {T:List aB}{l:List (Bool×aB)}{L:List (Mk×aB)}(hl:fs0 T=l)(hL:L=l.map toM){x:Nat}{u:aB}: ∀g∈L.set x (.ow,u),aLt (dV T) u.Outputs u.Inputs g:=by
 intro g hg
 subst hL
 subst hl
 rcases a1O hg with h|rfl
 ·obtain⟨y,hy,rfl⟩:=a13.1 h
  have:=aNG y hy
  obtain⟨m,t⟩:=y
  cases m with
  |true=>exact this rfl
  |false=>trivial
 exact⟨rfl,rfl⟩
theorem aYl {T:List aB}{l:List (Bool×aB)}(hl:fs0 T=l){x:Nat}{u:aB}:dV (tA (l.set x (false,u)) T)=dV T:=by
 subst hl
 cases T with
 |nil=>rfl
 |cons t ts=>cases x<;>rfl
theorem aQj {α:Type}{C:α→List V}{y z:α}(h:C y=C z): ∀(L:List α)(x:Nat),(L.set x y).flatMap C=(L.set x z).flatMap C
 | [],_=>rfl
 |a::L,0=>by rw[a18,a18,a1L,a1L,h]
 |a::L,x+1=>by rw[a1W,a1W,a1L,a1L,aQj h L x]
theorem aX2 {α β:Type}{f:α→β}{l:List α}{a b:Int}{m:List β}(h:sub (l.map f) a b=some m): ∃g,sub l a b=some g∧g.map f=m:=by
 unfold sub at h⊢
 rw[a1Q]at h
 split at h
 ·rename_i hc
  rw[if_pos hc]
  injection h with h
  exact⟨_,rfl,by rw[←h];simp[List.map_take,List.map_drop]⟩
 cases h
theorem aWC {T:List aB}{G:List (Mk×aB)}{o2:List aI}{i2:List aT}(hI: ∀g∈G,aLt (dV T) o2 i2 g):dV (tA (G.map ofM) T)=dV T:=by
 cases G with
 |nil=>cases T<;>rfl
 |cons g G=>
  have q:=hI g (by simp)
  obtain⟨k,t⟩:=g
  cases k with
  |sh=>
   cases T with
   |nil=>rfl
   |cons a ts=>exact q
  |pl=>cases T<;>rfl
  |ow=>cases T<;>rfl
  |ou=>cases q
theorem aV7 {α:Type}{l:List α}{j:Int}{y:α}(h:aW l j=some y):y∈l:=a1Y (d9 h).2.2
theorem aU5 {α β:Type}{f:α→β}{l:List α}{j:Int}{z:β}(h:aW (l.map f) j=some z): ∃y,aW l j=some y∧f y=z:=by
 unfold aW at h⊢
 split at h
 ·rename_i hc
  rw[a2a,Option.map_eq_some_iff]at h
  rw[if_pos hc]
  exact h
 cases h
theorem aSV {α:Type}{l:List α}{j:Int}{k:Nat}{y z:α}(h:aW l j=some y): ∃w,aW (l.set k z) j=some w:=by
 obtain⟨h1,h2,h3⟩:=d9 h
 have:=(a10.1 h3).1
 unfold aW
 rw[if_pos (by assumption)]
 exact⟨_,List.getElem?_eq_getElem (by rw[a1N];exact this)⟩
theorem aLE {a b c:Nat}(z:Mk×aB):(V.agg (fC a b c z)).flatOk=true:=by obtain⟨m,t⟩:=z;cases m<;>rfl
theorem aXV {α:Type}{l m:List α}{a b:Int}{g:α}(h:sub l a b=some m)(hg:g∈m):g∈l:=by
 unfold sub at h
 split at h
 ·injection h with h
  rw[←h]at hg
  exact a15 (List.mem_of_mem_drop hg)
 cases h
abbrev o0Q (o:aI)(vj:Int):aI:=aI.mk (a1P.wrap (o.Value+(a1P.wrap ((a1P.wrap (Int.tmod vj 9))-4)))) o.Script
abbrev o4Q (o:aI)(vj:Int):aI:=aI.mk (a1P.wrap (o.Value+(a1P.wrap vj))) o.Script
abbrev u4Q (t:aB)(o:aI)(vj:Int):aB:=aB.mk t.Version t.Inputs (t.Outputs.set (a1S 0) (o4Q o vj)) t.Lock
abbrev u3Q (t:aB)(vj:Int):aB:=aB.mk t.Version t.Inputs t.Outputs (a1X.wrap vj)
theorem aYQ {h:Hp}{l:List (Mk×aB)}{j:Int}{y:Mk×aB}{e:TypeId}(hb:h[6]? =some (some ⟨e,l.flatMap (fC 1 8 10)⟩))(hx:aW l j=some y):eM Tryz.prog 89 h (.ptr 6 (0+j.toNat*4+2))=some (aTc 1 8 y.1 y.2):=aJa (C:=fC 1 8 10) (fun _=>rfl) hb hx zl (lW aKZ rfl rfl)
theorem aVy {h:Hp}{l:List (Mk×aB)}{j:Int}{y:Mk×aB}{e:TypeId}(hb:h[6]? =some (some ⟨e,l.flatMap (fC 1 8 10)⟩))(hx:aW l j=some y):eM Tryz.prog 88 h (.ptr 6 (0+j.toNat*4+1))=some (aST 10 y.1 y.2):=aJa (C:=fC 1 8 10) (fun _=>rfl) hb hx zl (lW aOc rfl rfl)
theorem aUZ {h:Hp}{b:Nat}{l:List aI}{j:Int}{y:aI}{e:TypeId}(hb:h[b]? =some (some ⟨e,l.flatMap aX⟩))(hx:aW l j=some y):eM Tryz.prog 2 h (.ptr b (0+j.toNat*2+0))=some (eI .i64 y.Value):=aJa (C:=aX) (fun _=>rfl) hb hx zl (lW ti2 rfl rfl)
theorem cQ {t u:aB} (h1:t.Outputs.length=u.Outputs.length:=by first|rfl|exact(List.length_set ..).symm) (h2:t.Inputs.length=u.Inputs.length:=by first|rfl|exact(List.length_set ..).symm) (h3:t.Version=u.Version:=by rfl) (h4:t.Lock=u.Lock:=by rfl):fC 1 8 10 (.ow,t)=fC 1 8 10 (.ow,u):=by simp only[fC,aST,aTc,h1,h2,h3,h4]
theorem a0d {n N:Nat}{z:List (Bool×aB)}{x2 x3 x4:Option Blk}{G:List (Mk×aB)}{o1 o2:List aI}{i2:List aT}{v:V}(hI: ∀g∈G,aLt o1 o2 i2 g){m:List (Bool×aB)}(hG:G.map ofM=m):
  Ghost N (aG n [(0,v)]) [some ⟨91,z.flatMap (k8 1)⟩,some ⟨78,o1.flatMap aX⟩,x2,x3,x4,none,some ⟨91,G.flatMap (fC 1 8 10)⟩,none,some ⟨78,o2.flatMap aX⟩,none,some ⟨97,i2.flatMap cP⟩] (aG n [(0,v)]) [some ⟨91,z.flatMap (k8 1)⟩,some ⟨78,o1.flatMap aX⟩,none,none,none,none,some ⟨91,m.flatMap (k8 1)⟩,none,none,none,none]:=by
 subst hG
 have hs:=aDd (h:=[some ⟨91,z.flatMap (k8 1)⟩,some ⟨78,o1.flatMap aX⟩,x2,x3,x4,none,some ⟨91,G.flatMap (fC 1 8 10)⟩,none,some ⟨78,o2.flatMap aX⟩,none,some ⟨97,i2.flatMap cP⟩]) (h':=[some ⟨91,z.flatMap (k8 1)⟩,some ⟨78,o1.flatMap aX⟩,none,none,none,none,some ⟨91,(G.map ofM).flatMap (k8 1)⟩,none,none,none,none]) rfl
 exact Ghost.conv (FCv.cons rfl (a1T hs) FCv.nil) (HCv.live (Convs.same hs) (aP4 _) (HCv.live (Convs.same hs) (hY (fun _=>rfl) _) (a11 (a11 (a11 (a11 (HCv.live (aRa hs rfl rfl rfl rfl G hI) (aP4 _) (a11 (a11 (a11 (a11 HCv.nil)))))))))))
theorem aFP {α:Type}{l:List α}{j:Int}{y z:α}(h:aW l j=some y):aW (l.set j.toNat z) j=some z:=by
 obtain⟨h1,h2,h3⟩:=d9 h
 have:=(a10.1 h3).1
 unfold aW
 rw[if_pos (by assumption),List.getElem?_set_self this]
theorem zw {N n:Nat}{fr fr':List (Nat×V)}{h:Hp} (hf:FLe wP id fr fr':=by repeat (first|exact FLe.nil|refine FLe.same rfl ?_|refine FLe.le rfl V.le_nil ?_|refine FLe.le rfl V.le_row ?_)):Ghost N (aG n fr) h (aG n fr') h:=Ghost.weak hf
theorem OpsX.join {P:Program}{N:Nat}{m:Option (List Nat×List Nat)}{ops:Array Oper}{l:List Oper}{s:List V}{h:Hp}{d:Code}{Q:Ex→List V→Hp→Prop}(k: ∀K:List V→Hp→Prop,(∀{s h},AB P N d Q s h→K s h)→(∀{s h s' h'},Ghost N s h s' h'→K s' h'→K s h)→OpsX P N m ops l s h K):OpsX P N m ops l s h (AB P N d Q):=k _ (fun h=>h) (fun hg hk=>AB.ghost hg hk)
theorem aRB {N vw b what vi vj r} (hr:oP N vw b what vi vj=some r):
  Vm.Fn Tryz.prog 11 [some ⟨91,(fs0 b.Txs).flatMap (k8 1)⟩,some ⟨78,(dV b.Txs).flatMap aX⟩] [fS vw,.agg (nE b (.sl 0 0 (fs0 b.Txs).length 4 true)),eI .u8 what,eI .u8 vi,eI .u8 vj] (.agg (nE r.2.1 (.sl 2 0 r.2.2.length 4 true))) [some ⟨91,(fs0 b.Txs).flatMap (k8 1)⟩,some ⟨78,(dV r.1.Txs).flatMap aX⟩,some ⟨91,r.2.2.flatMap (k8 1)⟩]:=by
 refine zf Tryz.func11 Tryz.ntmps11 ?_
 unfold oP at hr
 obtain⟨l,h_1,hr⟩:=aL hr
 obtain⟨x,h_2,hr⟩:=aL hr
 obtain⟨e,h_3,hr⟩:=aL hr
 obtain⟨os,h_4,hr⟩:=aL hr
 obtain⟨is,h_5,hr⟩:=aL hr
 have hl:fs0 b.Txs=l:=by unfold b6 at h_1;split at h_1;exact a1K h_1;cases h_1
 refine zz ?_
 obtain⟨L,hL⟩: ∃L,L=l.map toM:=⟨_,rfl⟩
 have eL:l.length=L.length:=by rw[hL,a1Q]
 have h3:aW L x=some (toM e):=by
  unfold aW at h_3⊢
  split at h_3
  ·rw[if_pos (by assumption),hL,a2a,h_3];rfl
  cases h_3
 rw[show l.flatMap (k8 1)=L.flatMap (fC 1 8 10) by rw[hL,aZo],eL]
 obtain rfl:e.2.Outputs=os:=by unfold b6 at h_4;split at h_4;exact a1K h_4;cases h_4
 obtain rfl:e.2.Inputs=is:=by unfold b6 at h_5;split at h_5;exact a1K h_5;cases h_5
 refine OpsX.join fun K1 hK1 hG1=> ?_
 have J1:K1 (aG 188 [(11,.sl 6 0 L.length 4 true),(12,eI .i64 x),(10,.ptr 4 0),(6,.ptr 3 0),(5,.ptr 2 0),(2,eI .u8 what),(3,eI .u8 vi),(4,eI .u8 vj)])
   (hQ vw b.Txs (dV b.Txs) (nE b (.sl 0 0 (fs0 b.Txs).length 4 true)) (L.set x.toNat (.ou,e.2)) [none,some ⟨78,e.2.Outputs.flatMap aX⟩]):=by
  have h3':aW (L.set x.toNat (.ou,e.2)) x=some (.ou,e.2):=aFP h3
  refine hK1 ?_
  refine zz ?_
  refine xw (v:= .row none 35 (e.2.Inputs.map bU)) (b8 rfl (aJa (C:=fC 1 8 10) (K:=4) (off:=1) (fun _=>rfl) rfl h3' zl (lW aOc rfl rfl))) ?_
  refine zz ?_
  refine xy (h':=(hQ vw b.Txs (dV b.Txs) (nE b (.sl 0 0 (fs0 b.Txs).length 4 true)) ((L.set x.toNat (.ou,e.2)).set x.toNat (.ow,e.2)) (tQ e.2.Outputs e.2.Inputs))) (iJ rfl rfl (aCd (C:=fC 1 8 10) (K:=4) (off:=1) (y':=(.ow,e.2)) (fun _=>rfl) aOc rfl h3' rfl rfl zl rfl rfl)) ?_
  refine zz ?_
  refine AB.seq_g fun K2 hK2 hG2=> ?_
  obtain⟨m,hm,hr⟩:=aL hr
  obtain⟨pv,hp,hr⟩:=aL hr
  obtain⟨rt,h_6,hr⟩:=aL hr
  obtain⟨qr,h_7,hr⟩:=aL hr
  have J2: ∀(G:List (Mk×aB))(o1 o2:List aI)(i2:List aT),G.map ofM=m→(∀g∈G,aLt o1 o2 i2 g)→dV (tA m b.Txs)=o1→K2 (aG 188 [(11,.sl 6 0 m.length 4 true),(10,.ptr 4 0),(6,.ptr 3 0)])
    (hQ vw b.Txs o1 (blQ b pv) G (tQ o2 i2)):=by
   intro G o1 o2 i2 hG hI ho1
   have hGl:G.length=m.length:=by rw[←hG,a1Q]
   subst ho1
   refine hK2 ?_
   refine zz ?_
   have eT:m.map a16=G.map a16:=by rw[←hG,a12];rfl
   rw[eT]at h_6
   refine kY (uW h_6) [] [1,6,8,10] ?_ (hx:=Brw.row (aTS (C:=fC 1 8 10) (fun _=>rfl) hGl rfl (aY0 rfl rfl rfl hI)) Brw.nil)
   refine zz ?_
   refine xy (h':=hQ vw b.Txs (dV (tA m b.Txs)) (nE (aJ.mk (bV.mk b.Header.Version pv rt b.Header.Time b.Header.Bits b.Header.Nonce) b.Txs) (.sl 6 0 m.length 4 true)) G (tQ o2 i2)) (iJ rfl rfl (a0E (aU h_7) (stP gZ rfl rfl rfl zl rfl))) ?_
   refine zz ?_
   obtain rfl:=sj hr
   exact zr1 Tryz.results11 fW (Ghost.trans (a0d hI hG) (zGs [0,1,6]))
  rw[a1U]
  have hx0:aW (L.set x.toNat (.ow,e.2)) x=some (.ow,e.2):=aFP h3
  have own': ∀u:aB,some ((l.set x.toNat (false,e.2)).set x.toNat (false,u))=some m→K2 (aG 188 [(11,.sl 6 0 L.length 4 true),(10,.ptr 4 0),(6,.ptr 3 0)]) (hQ vw b.Txs (dV b.Txs) (blQ b pv) (L.set x.toNat (.ow,u)) (tQ u.Outputs u.Inputs)):=fun u hm=>by
   rw[a1U]at hm
   replace hm:=(a1K hm).symm
   have:=J2 (L.set x.toNat (.ow,u)) (dV b.Txs) u.Outputs u.Inputs (by rw[aNg hL,hm]) (aTg hl hL) (by rw[hm];exact aYl hl)
   rw[show L.length=m.length by rw[hm,a1N,eL]]
   exact this
  have own: ∀u:aB,(fC 1 8 10 (.ow,e.2)=fC 1 8 10 (.ow,u))→some ((l.set x.toNat (false,e.2)).set x.toNat (false,u))=some m→K2 (aG 188 [(11,.sl 6 0 L.length 4 true),(10,.ptr 4 0),(6,.ptr 3 0)]) (hQ vw b.Txs (dV b.Txs) (blQ b pv) (L.set x.toNat (.ow,e.2)) (tQ u.Outputs u.Inputs)):=fun u hu hm=>by
   unfold hQ
   rw[aQj hu]
   exact own' u hm
  have q0: ∀k:Int,(Int.tmod what 10 == k)=true→k≠6→b.Header.Prev=pv:=fun k h hk=>by
   unfold aNz at hp
   rw[if_neg (by rw[eq_of_beq h];simpa using hk)]at hp
   exact a1K hp
  unfold aLN at hm
  refine zz ?_
  refine AB.block ?_
  refine zz ?_
  refine zk hm ?_ ?_<;>intro h8 hm
  ·obtain rfl:=q0 _ h8 (by decide)
   obtain⟨u,hu,hm⟩:=aL hm
   unfold aJM at hu
   obtain⟨o,h_9,hu⟩:=aL hu
   obtain rfl:=sj hu
   refine zz ?_
   refine xw (v:= .sl 8 0 e.2.Outputs.length 2 true) (b8 rfl (aYQ rfl hx0)) ?_
   refine zz ?_
   refine xw (v:=eI .i64 o.Value) (b8 rfl (aUZ rfl h_9)) ?_
   refine zz ?_
   refine xy (h':=(hQ vw b.Txs (dV b.Txs) (nE b (.sl 0 0 (fs0 b.Txs).length 4 true)) (L.set x.toNat (.ow,e.2)) (tQ (e.2.Outputs.set (a1S 0) (o0Q o vj)) e.2.Inputs))) (iJ rfl rfl (aCd (C:=aX) (K:=2) (off:=0) (y':=(o0Q o vj)) (fun _=>rfl) ti2 rfl h_9 rfl rfl zl rfl rfl)) ?_
   refine zz ?_
   exact hG2 zw (own _ cQ hm)
  refine zz ?_
  refine zk hm ?_ ?_<;>intro h8 hm
  ·obtain rfl:=q0 _ h8 (by decide)
   obtain⟨u,hu,hm⟩:=aL hm
   unfold aLr at hu
   obtain⟨p,h_9,hu⟩:=aL hu
   obtain rfl:=sj hu
   refine zz ?_
   refine xw (v:= .sl 10 0 e.2.Inputs.length 35 true) (b8 rfl (aVy rfl hx0)) ?_
   refine zz ?_
   refine a2b (zv 11) ?_
   refine zz ?_
   refine a2b (zv 12) ?_
   refine xy (h':=(hQ vw b.Txs (dV b.Txs) (nE b (.sl 0 0 (fs0 b.Txs).length 4 true)) (L.set x.toNat (.ow,e.2)) (tQ e.2.Outputs (e.2.Inputs.set (a1S 0) (aT.mk p.Prev p.Sequence [[vj]]))))++[none,none]) (iJ rfl rfl (aCd (C:=cP) (K:=35) (off:=34) (y':=(aT.mk p.Prev p.Sequence [[vj]])) (fun _=>rfl) aMD rfl h_9 rfl rfl zl rfl rfl)) ?_
   refine zz ?_
   exact hG2 (zGm [0,1,2,3,4,5,6,7,8,9,10]) (own _ cQ hm)
  refine zz ?_
  refine zk hm ?_ ?_<;>intro h8 hm
  ·obtain rfl:=q0 _ h8 (by decide)
   obtain⟨u,hu,hm⟩:=aL hm
   unfold aLr at hu
   obtain⟨p,h_9,hu⟩:=aL hu
   obtain rfl:=sj hu
   refine zz ?_
   refine xw (v:= .sl 10 0 e.2.Inputs.length 35 true) (b8 rfl (aVy rfl hx0)) ?_
   refine zz ?_
   refine xw (v:=eI .u32 p.Sequence) (b8 rfl (aJa (C:=cP) (K:=35) (off:=33) (fun _=>rfl) rfl h_9 zl (lW jA rfl rfl))) ?_
   refine zz ?_
   refine xy (h':=(hQ vw b.Txs (dV b.Txs) (nE b (.sl 0 0 (fs0 b.Txs).length 4 true)) (L.set x.toNat (.ow,e.2)) (tQ e.2.Outputs (e.2.Inputs.set (a1S 0) (aT.mk p.Prev (a1X.wrap (p.Sequence+(a1X.wrap vj))) p.Witness))))) (iJ rfl rfl (aCd (C:=cP) (K:=35) (off:=33) (y':=(aT.mk p.Prev (a1X.wrap (p.Sequence+(a1X.wrap vj))) p.Witness)) (fun _=>rfl) jA rfl h_9 rfl rfl zl rfl rfl)) ?_
   refine zz ?_
   exact hG2 zw (own _ cQ hm)
  refine zz ?_
  refine zk hm ?_ ?_<;>intro h8 hm
  ·obtain rfl:=q0 _ h8 (by decide)
   refine zz ?_
   refine xy (h':=(hQ vw b.Txs (dV b.Txs) (nE b (.sl 0 0 (fs0 b.Txs).length 4 true)) ((L.set x.toNat (.ow,e.2)).set x.toNat (.ow,u3Q e.2 vj)) (tQ e.2.Outputs e.2.Inputs))) (iJ rfl rfl (aCd (C:=fC 1 8 10) (K:=4) (off:=3) (y':=(.ow,u3Q e.2 vj)) (fun _=>rfl) jA rfl hx0 rfl rfl zl rfl rfl)) ?_
   rw[a1U]
   refine zz ?_
   exact hG2 zw (own' (u3Q e.2 vj) hm)
  refine zz ?_
  refine zk hm ?_ ?_<;>intro h8 hm
  ·obtain rfl:=q0 _ h8 (by decide)
   obtain⟨e0,h_9,hm⟩:=aL hm
   obtain⟨u,hu,hm⟩:=aL hm
   unfold aJM at hu
   obtain⟨o,h_10,hu⟩:=aL hu
   obtain rfl:=sj hu
   rcases Nat.eq_zero_or_pos x.toNat with hx|hx
   ·have hx1:aW (L.set x.toNat (.ow,e.2)) 0=some (.ow,e.2):=by
     have q:=hx0
     rw[show x=0 by have:=(d9 h_3).1;omega]at q⊢
     exact q
    obtain rfl:e0=(false,e.2):=by
     have q:=aFP (z:=(false,e.2)) h_3
     rw[show x=0 by have:=(d9 h_3).1;omega]at q h_9
     exact a1K (h_9.symm.trans q)
    refine zz ?_
    refine xw (v:= .sl 8 0 e.2.Outputs.length 2 true) (b8 rfl (aYQ rfl hx1)) ?_
    refine zz ?_
    refine xw (v:=eI .i64 o.Value) (b8 rfl (aUZ rfl h_10)) ?_
    refine zz ?_
    refine xy (h':=(hQ vw b.Txs (dV b.Txs) (nE b (.sl 0 0 (fs0 b.Txs).length 4 true)) (L.set x.toNat (.ow,e.2)) (tQ (e.2.Outputs.set (a1S 0) (o4Q o vj)) e.2.Inputs))) (iJ rfl rfl (aCd (C:=aX) (K:=2) (off:=0) (y':=(o4Q o vj)) (fun _=>rfl) ti2 rfl h_10 rfl rfl zl rfl rfl)) ?_
    refine zz ?_
    exact hG2 zw (own (u4Q e.2 o vj) cQ ((congrArg (fun k=>some ((l.set x.toNat (false,e.2)).set k (false,u4Q e.2 o vj))) hx).trans hm))
   obtain⟨t0,ts,hT⟩: ∃t0 ts,b.Txs=t0::ts:=by
    cases hT:b.Txs with
    |nil=>
     rw[hT]at hl
     rw[←hl]at h_3
     have q:=(d9 h_3).2.2
     cases q
    |cons t ts=>exact⟨t,ts,rfl⟩
   obtain⟨k,hk⟩: ∃k,x.toNat=k+1:=⟨x.toNat-1,by omega⟩
   have hl2:l=(true,t0)::ts.map (a19 false):=by rw[←hl,hT];rfl
   obtain⟨R,hR⟩: ∃R,R=(ts.map (a19 Mk.pl)).set k (.ow,e.2):=⟨_,rfl⟩
   have eLs:L.set x.toNat (.ow,e.2)=(.sh,t0)::R:=by
    rw[hL,hl2,hk,a1V,a1W,a12,hR];rfl
   have eLl:L.length=((Mk.sh,t0)::R).length:=by rw[←eLs,a1N]
   have ho:dV b.Txs=t0.Outputs:=by rw[hT];rfl
   obtain rfl:e0=(true,t0):=by
    rw[hl2,hk]at h_9
    exact(a1K h_9).symm
   have hx1:aW ((Mk.sh,t0)::R) 0=some (.sh,t0):=rfl
   have fin:K2 (aG 188 [(11,.sl 6 0 ((Mk.sh,t0)::R).length 4 true),(10,.ptr 4 0),(6,.ptr 3 0)]) (hQ vw b.Txs (t0.Outputs.set (a1S 0) (o4Q o vj)) (nE b (.sl 0 0 (fs0 b.Txs).length 4 true)) ((Mk.sh,t0)::R) (tQ e.2.Outputs e.2.Inputs)):=by
    have em:m=(true,u4Q t0 o vj)::(ts.map (a19 false)).set k (false,e.2):=by
     rw[hl2,hk]at hm
     exact(a1K hm).symm
    have q:=J2 ((Mk.sh,u4Q t0 o vj)::R) (t0.Outputs.set (a1S 0) (o4Q o vj)) e.2.Outputs e.2.Inputs (by rw[em,hR,a1V,a14,a12];rfl) (fun g hg=>by
     rcases a17.1 hg with rfl|hg
     ·rfl
     rw[hR]at hg
     rcases a1O hg with h|rfl
     ·obtain⟨t,_,rfl⟩:=a13.1 h;trivial
     exact⟨rfl,rfl⟩) (by rw[em,hT];rfl)
    rw[show m.length=((Mk.sh,t0)::R).length by rw[em,hR];simp]at q
    unfold hQ
    rw[show((Mk.sh,t0)::R).flatMap (fC 1 8 10)=((Mk.sh,u4Q t0 o vj)::R).flatMap (fC 1 8 10) by
     rw[a1L,a1L]
     refine congrArg (· ++_) ?_
     simp only[fC,aST,aTc,a1N]]
    exact q
   rw[eLs,ho,eLl]
   refine zz ?_
   refine xw (v:=eI .i64 o.Value) (b8 rfl (aUZ rfl h_10)) ?_
   refine zz ?_
   refine xy (h':=(hQ vw b.Txs (t0.Outputs.set (a1S 0) (o4Q o vj)) (nE b (.sl 0 0 (fs0 b.Txs).length 4 true)) ((Mk.sh,t0)::R) (tQ e.2.Outputs e.2.Inputs))) (iJ rfl rfl (aCd (C:=aX) (K:=2) (off:=0) (y':=(o4Q o vj)) (fun _=>rfl) ti2 rfl h_10 rfl rfl zl rfl rfl)) ?_
   refine zz ?_
   exact hG2 zw fin
  refine zz ?_
  refine zk hm ?_ ?_<;>intro h8 hm
  ·obtain rfl:=q0 _ h8 (by decide)
   obtain⟨g,h_9,hm⟩:=aL hm
   refine zz ?_
   rcases Bool.eq_false_or_eq_true (decide (0<x))with h9|h9
   ·replace hm:=rQ hm h9
    refine AB.seq ?_
    refine xr<|zz ?_
    refine zk hm ?_ ?_<;>intro h10 hm
    ·obtain⟨y,h_11,hm⟩:=aL hm
     obtain⟨c,h_12,hm⟩:=aL hm
     obtain⟨qc,h_13,hm⟩:=aL hm
     obtain⟨u,hu,hm⟩:=aL hm
     unfold aLr at hu
     obtain⟨p,h_14,hu⟩:=aL hu
     obtain rfl:=sj hu
     refine AB.rs mixed [] [] [[0,1,2,3,4,5,6,7,8,9,10,11,12,13,14,15,16]] ?_
     refine zz ?_
     refine xw (v:= .sl 10 0 e.2.Inputs.length 35 true) (b8 rfl (aVy rfl hx0)) ?_
     refine zz ?_
     refine xy (h':=(hQ vw b.Txs (dV b.Txs) (nE b (.sl 0 0 (fs0 b.Txs).length 4 true)) (L.set x.toNat (.ow,e.2)) (tQ e.2.Outputs (e.2.Inputs.set (a1S 0) (aT.mk c.Out p.Sequence p.Witness))))) (iJ rfl rfl (aCd (C:=cP) (K:=35) (off:=0) (y':=(aT.mk c.Out p.Sequence p.Witness)) (fun _=>rfl) jL rfl h_14 rfl rfl zl rfl rfl)) ?_
     refine zz ?_
     exact hG2 zw (own _ cQ hm)
    refine zz ?_
    exact hG2 zw (own e.2 rfl (by rw[a1U];exact hm))
   replace hm:=sP hm h9
   refine AB.seq ?_
   refine xr<|zz ?_
   refine zk (show(if false=true then(none:Option Unit)else some ())=some ()from rfl) (fun h _=>by cases h) (fun _ _=> ?_)
   refine zz ?_
   exact hG2 zw (own e.2 rfl (by rw[a1U];exact hm))
  refine zz ?_
  unfold aNz at hp
  refine zk hp ?_ ?_<;>intro h8 hp
  ·have q6:=eq_of_beq h8
   rw[q6]at hm
   rw[if_neg (by decide),if_neg (by decide)]at hm
   obtain⟨qa,h_9,hp⟩:=aL hp
   obtain⟨y,h_10,hp⟩:=aL hp
   obtain rfl:=a1K hp
   refine zz ?_
   refine xw (v:=(.ptr 3 (1+a1S 0))) (aGp rfl rfl (iaO gZ mF rfl h_10))<|xw (v:=(eI .u8 y)) (b8 rfl (ldO (E:=(eI .u8)) (l:=b.Header.Prev) (y:=y) (aU h_9) rfl rfl mF rfl h_10)) ?_
   refine zz ?_
   refine xw (v:=(.ptr 3 (1+a1S 0))) (aGp rfl rfl (iaO gZ mF rfl h_10))<|xy (h':=hQ vw b.Txs (dV b.Txs) (blQ b (b.Header.Prev.set (a1S 0) (IntKind.u8.wrap (y+vj)))) (L.set x.toNat (.ow,e.2)) (tQ e.2.Outputs e.2.Inputs)) (iJ rfl rfl (stO (E:=(eI .u8)) (l:=b.Header.Prev) (v:=IntKind.u8.wrap (y+vj)) (aU h_9) mF rfl rfl rfl (fun _=>rfl) (fun _=>rfl) h_10 rfl)) ?_
   refine zz ?_
   exact hG2 zw (own e.2 rfl (by rw[a1U];exact hm))
  obtain rfl:=a1K hp
  refine zz ?_
  refine zk hm ?_ ?_<;>intro h8 hm
  ·obtain⟨Gm,h7,hGm⟩: ∃Gm,sub (L.set x.toNat (.ow,e.2)) 0 (a1P.wrap (x+1))=some Gm∧Gm.map ofM=m:=by
    rw[←aNg hL]at hm
    exact aX2 hm
   refine zz ?_
   refine xw (v:=(.sl 6 0 Gm.length 4 true)) (yS rfl rfl rfl (aWN (l:=L.set x.toNat (.ow,e.2)) (a1N ..) aS0 aCR rfl rfl rfl h7)) ?_
   refine a2b (Ghost.cutF (t:=160) (C:=fC 1 8 10) (l:=L.set x.toNat (.ow,e.2)) (K:=4) (h':=(hQ vw b.Txs (dV b.Txs) (nE b (.sl 0 0 (fs0 b.Txs).length 4 true)) Gm (tQ e.2.Outputs e.2.Inputs))) (fun _=>rfl) rfl rfl h7 rfl) ?_
   refine zz ?_
   have hok: ∀g∈Gm,aLt (dV b.Txs) e.2.Outputs e.2.Inputs g:=fun g hg=>aTg hl hL g (aXV h7 hg)
   have q:=J2 Gm (dV b.Txs) e.2.Outputs e.2.Inputs hGm hok (by rw[←hGm];exact aWC hok)
   rw[show m.length=Gm.length by rw[←hGm,a1Q]]at q
   exact hG2 zw q
  refine zz ?_
  refine zk hm ?_ ?_<;>intro h8 hm
  ·obtain⟨z,h_9,hm⟩:=aL hm
   have eL2:(l.set x.toNat (false,e.2)).length=L.length:=by rw[a1N,eL]
   rw[eL2,←aNg hL]at h_9
   obtain⟨zM,hz,ez⟩:=aU5 h_9
   obtain⟨wM,hw⟩:=aSV (k:=x.toNat) (z:=zM) hz
   have fin:K2 (aG 188 [(11,.sl 6 0 L.length 4 true),(10,.ptr 4 0),(6,.ptr 3 0)]) (hQ vw b.Txs (dV b.Txs) (nE b (.sl 0 0 (fs0 b.Txs).length 4 true)) (((L.set x.toNat (.ow,e.2)).set x.toNat zM).set (a1P.wrap ((L.length:Int)-1)).toNat (.ow,e.2)) (tQ e.2.Outputs e.2.Inputs)):=by
    have o0:=aTg (x:=x.toNat) (u:=e.2) hl hL
    have hok: ∀g∈((L.set x.toNat (.ow,e.2)).set x.toNat zM).set (a1P.wrap ((L.length:Int)-1)).toNat (.ow,e.2),aLt (dV b.Txs) e.2.Outputs e.2.Inputs g:=fun g hg=>by
     rcases a1O hg with h|rfl
     ·rcases a1O h with h|rfl
      ·exact o0 g h
      exact o0 _ (aV7 hz)
     exact⟨rfl,rfl⟩
    have hmm:(((L.set x.toNat (.ow,e.2)).set x.toNat zM).set (a1P.wrap ((L.length:Int)-1)).toNat (.ow,e.2)).map ofM=m:=by
     rw[a14,a14,aNg hL,ez]
     rw[eL2]at hm
     exact a1K hm
    have q:=J2 _ (dV b.Txs) e.2.Outputs e.2.Inputs hmm hok (by rw[←hmm];exact aWC hok)
    rw[show m.length=L.length by rw[←hmm,a1Q,a1N,a1N,a1N]]at q
    exact q
   refine AB.rd (cA []) (cA []) mixed<|a1Z (m:=5) [0,1,2,3,6,7,8,9,10,11,12,13,14,15,16] ?_
   refine zz ?_
   refine xw (v:= .agg (fC 1 8 10 zM)) (b8 rfl (rV (C:=fC 1 8 10) (K:=4) (fun _=>rfl) rfl hz (mU aCR rfl zl rfl))) ?_
   refine zz ?_
   refine xw (v:= .agg (fC 1 8 10 (.ow,e.2))) (b8 rfl (rV (C:=fC 1 8 10) (K:=4) (fun _=>rfl) rfl hx0 (mU aCR rfl zl rfl))) ?_
   refine zz ?_
   refine a2c (n:=4) [4,17] ⟨?_, ?_,trivial⟩
   ·refine zz ?_
    refine a1Z (m:=0) [5,17,18,19] ?_
    refine zz ?_
    refine xy (h':=(hQ vw b.Txs (dV b.Txs) (nE b (.sl 0 0 (fs0 b.Txs).length 4 true)) ((L.set x.toNat (.ow,e.2)).set x.toNat zM) (tQ e.2.Outputs e.2.Inputs))) (iJ rfl rfl (aCd (C:=fC 1 8 10) (K:=4) (off:=0) (y':=zM) (fun _=>rfl) aCR rfl hx0 (aLE _) rfl zl rfl rfl)) ?_
    refine zz ?_
    refine xy (h':=(hQ vw b.Txs (dV b.Txs) (nE b (.sl 0 0 (fs0 b.Txs).length 4 true)) (((L.set x.toNat (.ow,e.2)).set x.toNat zM).set (a1P.wrap ((L.length:Int)-1)).toNat (.ow,e.2)) (tQ e.2.Outputs e.2.Inputs))) (iJ rfl rfl (aCd (C:=fC 1 8 10) (K:=4) (off:=0) (y':=(.ow,e.2)) (fun _=>rfl) aCR rfl hw (aLE _) rfl zl rfl rfl)) ?_
    refine zz ?_
    refine a2e (by decide +kernel) ?_
    exact hG2 zw fin
   refine xy (h':=(hQ vw b.Txs (dV b.Txs) (nE b (.sl 0 0 (fs0 b.Txs).length 4 true)) ((L.set x.toNat (.ow,e.2)).set x.toNat zM) (tQ e.2.Outputs e.2.Inputs))) (iJ rfl rfl (aCd (C:=fC 1 8 10) (K:=4) (off:=0) (y':=zM) (fun _=>rfl) aCR rfl hx0 (aLE _) rfl zl rfl rfl)) ?_
   refine zz ?_
   refine a1Z (m:=0) [4,5,18,19] ?_
   refine zz ?_
   refine xy (h':=(hQ vw b.Txs (dV b.Txs) (nE b (.sl 0 0 (fs0 b.Txs).length 4 true)) (((L.set x.toNat (.ow,e.2)).set x.toNat zM).set (a1P.wrap ((L.length:Int)-1)).toNat (.ow,e.2)) (tQ e.2.Outputs e.2.Inputs))) (iJ rfl rfl (aCd (C:=fC 1 8 10) (K:=4) (off:=0) (y':=(.ow,e.2)) (fun _=>rfl) aCR rfl hw (aLE _) rfl zl rfl rfl)) ?_
   refine zz ?_
   refine a2e (by decide +kernel) ?_
   exact hG2 zw fin
  refine zz ?_
  exact hG2 zw (own e.2 rfl (by rw[a1U];exact hm))
 obtain⟨m,t⟩:=e
 cases m with
 |true=>
  have ho:dV b.Txs=t.Outputs:=(aNG _ (by rw[hl];exact a1Y (d9 h_3).2.2) rfl).symm
  rw[ho]at J1⊢
  refine xw (v:= .sl 1 0 t.Outputs.length 2 true) (b8 rfl (aJa (C:=fC 1 8 10) (K:=4) (off:=2) (fun _=>rfl) rfl h3 zl (lW aKZ rfl rfl))) ?_
  refine zz ?_
  refine xy (h':=(hQ vw b.Txs t.Outputs (nE b (.sl 0 0 (fs0 b.Txs).length 4 true)) (L.set x.toNat (.ou,t)) [none,some ⟨78,t.Outputs.flatMap aX⟩])) (iJ rfl rfl (aCd (C:=fC 1 8 10) (K:=4) (off:=2) (y':=(.ou,t)) (fun _=>rfl) aKZ rfl h3 rfl rfl zl rfl rfl)) ?_
  refine zz ?_
  exact hG1 zw J1
 |false=>
  refine xw (v:= .row none 2 (t.Outputs.map b7)) (b8 rfl (aJa (C:=fC 1 8 10) (K:=4) (off:=2) (fun _=>rfl) rfl h3 zl (lW aKZ rfl rfl))) ?_
  refine zz ?_
  refine xy (h':=(hQ vw b.Txs (dV b.Txs) (nE b (.sl 0 0 (fs0 b.Txs).length 4 true)) (L.set x.toNat (.ou,t)) [none,some ⟨78,t.Outputs.flatMap aX⟩])) (iJ rfl rfl (aCd (C:=fC 1 8 10) (K:=4) (off:=2) (y':=(.ou,t)) (fun _=>rfl) aKZ rfl h3 rfl rfl zl rfl rfl)) ?_
  refine zz ?_
  exact hG1 zw J1
def ShOk (T:List aB)(m:List (Bool×aB)):Prop:=(∀y∈m.tail,y.1=false)∧ ∀u es,m=(true,u)::es→ ∃a ts,T=a::ts∧u.Version=a.Version∧u.Inputs=a.Inputs∧u.Lock=a.Lock∧u.Outputs.length=a.Outputs.length
theorem ShOk.set {T:List aB}{m:List (Bool×aB)}(h:ShOk T m){k:Nat}{u:aB}:ShOk T (m.set k (false,u)):=by
 cases m with
 |nil=>exact h
 |cons a m=>
  cases k with
  |zero=>exact⟨h.1,fun u es e=>by cases e⟩
  |succ k=>
   refine⟨fun y hy=> ?_,fun u' es e=> ?_⟩
   ·rcases a1O (show y∈m.set k (false,u)from hy)with h'|rfl
    ·exact h.1 y h'
    rfl
   rw[a1W]at e
   injection e with e1 e2
   exact h.2 u' m (by rw[e1])
theorem ShOk.fs {T:List aB}:ShOk T (fs0 T):=by
 cases T with
 |nil=>exact⟨fun y hy=>(by cases hy),fun u es e=>(by cases e)⟩
 |cons t ts=>
  refine⟨fun y hy=> ?_,fun u es e=> ?_⟩
  ·obtain⟨v,_,rfl⟩:=a13.1 (show y∈ts.map (a19 false)from hy);rfl
  injection e with e1 e2
  injection e1 with _ e1
  subst e1
  exact⟨t,ts,rfl,rfl,rfl,rfl,rfl⟩
theorem aVG {vw:aR}{T:List aB}{x:Int}{t:aB}{what vj:Int}{m f:List (Bool×aB)}(F:ShOk T f)(hn:f.length≤100000000000000000)(h:aLN vw f x t what vj=some m):ShOk T m:=by
 unfold aLN at h
 split at h
 ·obtain⟨u,_,h⟩:=aL h
  obtain rfl:=a1K h
  exact F.set
 split at h
 ·obtain⟨u,_,h⟩:=aL h
  obtain rfl:=a1K h
  exact F.set
 split at h
 ·obtain⟨u,_,h⟩:=aL h
  obtain rfl:=a1K h
  exact F.set
 split at h
 ·obtain rfl:=a1K h
  exact F.set
 split at h
 ·obtain⟨e0,h0,h⟩:=aL h
  obtain⟨u,hu,h⟩:=aL h
  obtain rfl:=a1K h
  unfold aJM at hu
  obtain⟨o,_,hu⟩:=aL hu
  obtain rfl:=a1K hu
  have h0':=(d9 h0).2.2
  cases f with
  |nil=>cases h0'
  |cons a f=>
   obtain rfl:a=e0:=a1K h0'
   refine⟨F.1,fun u' es e=> ?_⟩
   obtain⟨m0,a⟩:=a
   injection e with e1 e2
   injection e1 with e1 e3
   subst e1
   subst e3
   obtain⟨b,ts,h1,h2,h3,h4,h5⟩:=F.2 a f rfl
   exact⟨b,ts,h1,h2,h3,h4,by simp only[a1N];exact h5⟩
 split at h
 ·obtain⟨g,_,h⟩:=aL h
  split at h
  ·split at h
   ·obtain⟨y,_,h⟩:=aL h
    obtain⟨c,_,h⟩:=aL h
    obtain⟨q,_,h⟩:=aL h
    obtain⟨u,_,h⟩:=aL h
    obtain rfl:=a1K h
    exact F.set
   obtain rfl:=a1K h
   exact F
  obtain rfl:=a1K h
  exact F
 split at h
 ·unfold sub at h
  split at h
  ·obtain rfl:=a1K h
   generalize (a1P.wrap (x+1)).toNat=k
   cases f with
   |nil=>cases k<;>exact F
   |cons a f=>
    cases k with
    |zero=>exact⟨fun y hy=>(by cases hy),fun u es e=>(by cases e)⟩
    |succ k=>
     refine⟨fun y hy=>F.1 y (a15 (show y∈f.take k from hy)),fun u es e=>F.2 u f ?_⟩
     have e':a::f.take k=(true,u)::es:=e
     injection e' with e1
     rw[e1]
  cases h
 split at h
 ·obtain⟨z,hz,h⟩:=aL h
  obtain rfl:=a1K h
  have hz':=d9 hz
  rw[Go.Vm.w64 (a:=(f.length:Int)-1) (by omega) (by omega)]at hz'⊢
  cases f with
  |nil=>exact F
  |cons a f=>
   cases f with
   |nil=>
    have e0:(([a]:List (Bool×aB)).length:Int)-1=0:=rfl
    rw[e0]
    exact⟨fun y hy=>(by cases hx:x.toNat<;>rw[hx]at hy<;>cases hy),fun u es e=>(by cases hx:x.toNat<;>rw[hx]at e<;>cases e)⟩
   |cons b f=>
    have e1:(((a::b::f).length:Int)-1).toNat=f.length+1:=by simp only[List.length_cons];omega
    rw[e1]at hz'⊢
    have hzt:z∈(a::b::f).tail:=a1Y (show(b::f)[f.length]? =some z from hz'.2.2)
    have z1:=F.1 z hzt
    obtain⟨zm,zt⟩:=z
    obtain rfl:zm=false:=z1
    exact(F.set).set
 obtain rfl:=a1K h
 exact F
theorem ShOk.os {T:List aB}{m:List (Bool×aB)}(h:ShOk T m): ∀x∈m,x.1=true→x.2.Outputs=dV (tA m T):=by
 intro x hx ht
 cases m with
 |nil=>cases hx
 |cons a m=>
  rcases a17.1 hx with rfl|hx
  ·obtain⟨q,u⟩:=x
   obtain rfl:q=true:=ht
   obtain⟨b,ts,rfl,_⟩:=h.2 u m rfl
   rfl
  rw[h.1 x hx]at ht;cases ht
theorem ShOk.fs0 {T:List aB}{m:List (Bool×aB)}(h:ShOk T m)(a:Nat):(fs0 T).flatMap (k8 a)=(Go.Proofs.YtopdhljncajmpaaGreatDoor.fs0 (tA m T)).flatMap (k8 a)∧(Go.Proofs.YtopdhljncajmpaaGreatDoor.fs0 T).length=(Go.Proofs.YtopdhljncajmpaaGreatDoor.fs0 (tA m T)).length:=by
 cases m with
 |nil=>cases T<;>exact⟨rfl,rfl⟩
 |cons y m=>
  obtain⟨q,u⟩:=y
  cases q with
  |false=>cases T<;>exact⟨rfl,rfl⟩
  |true=>
   obtain⟨b,ts,rfl,h1,h2,h3,h4⟩:=h.2 u m rfl
   refine⟨?_,rfl⟩
   show(k8 a (true,b))++_=(k8 a (true,u))++_
   simp only[k8,aZP,h1,h2,h3,h4]
theorem aTK {N vw b what vi vj r} (hr:oP N vw b what vi vj=some r):ShOk b.Txs r.2.2∧r.1=aJ.mk b.Header (tA r.2.2 b.Txs)∧r.2.1.Txs=r.2.2.map a16:=by
 unfold oP at hr
 obtain⟨l,h_1,hr⟩:=aL hr
 obtain⟨x,_,hr⟩:=aL hr
 obtain⟨e,_,hr⟩:=aL hr
 obtain⟨os,_,hr⟩:=aL hr
 obtain⟨is,_,hr⟩:=aL hr
 obtain⟨m,hm,hr⟩:=aL hr
 obtain⟨p,_,hr⟩:=aL hr
 obtain⟨rt,_,hr⟩:=aL hr
 obtain⟨q,_,hr⟩:=aL hr
 obtain rfl:=a1K hr
 have hl:fs0 b.Txs=l∧l.length≤100000000000000000:=by
  unfold b6 at h_1
  split at h_1
  ·rename_i hc
   have e:=a1K h_1
   rw[List.nil_append]at e
   refine⟨e, ?_⟩
   rw[←e]
   unfold lim at hc
   omega
  cases h_1
 refine⟨aVG ?_ (by rw[a1N];exact hl.2) hm,rfl,rfl⟩
 rw[←hl.1]
 exact ShOk.fs.set
end Go.Proofs.YtopdhljncajmpaaGreatDoor
