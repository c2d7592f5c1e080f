/- Texts of ours, joined: Wk5. -/
import Derived.Test.YtopdhljncajmpaaGreatDoorQLedgerMoney13
import Derived.Test.YtopdhljncajmpaaGreatDoorQLedgerMoney17
open List renaming replicate → a0F
open Go.IntKind renaming i64 → a0G
open Go.Vm.AB renaming seq → a0H,block → a0I,seq_g → a0K
open Go.Vm.DrawG renaming ps → a0J
set_option linter.unusedVariables false
set_option linter.unusedSimpArgs false
set_option maxRecDepth 20000
set_option maxHeartbeats 8000000
namespace Go.Proofs.YtopdhljncajmpaaGreatDoor
open Go Go.Vm Go.Proofs.Tryz
theorem aCG {N v mG r} (hr:aDo N v mG=some r):
  Fp 9 [] [eI .u8 v,.row none 1 (mG.map (eI .u8))] (iJ r) []:=
 fR func9 ntmps9 results9
instance :CtC 9 true (aX @aCG):=⟨@aCG⟩
theorem zJ {N p l b r} (hr:k7 N p l b=some r):
  Vm.Fn Tryz.prog 12 [] [cT p,eE l,dZ b] (.tup [eE r.1,aIW r.2.1,eI .i64 r.2.2]) []:=by
 refine zf Tryz.func12 Tryz.ntmps12 ?_
 unfold k7 at hr
 refine zz ?_
 obtain⟨x26,h_1,hr⟩:=aN hr
 refine a0H<|zz ?_
 refine xp (aC2 h_1) ?_
 refine zz ?_
 refine zk hr ?_ ?_<;>intro h2 hr<;>refine zz ?_
 ·refine xw (v:=(.agg ((eI .i64 0)::(aL (eI .u8) (a0F 32 0) [.row (some true) 1 []])))) (cI rfl (iM aAP aHm rfl)) ?_
  refine zz ?_
  obtain rfl:=sj hr
  exact zr3 Tryz.results12 dO dO dO (zg' [])
 refine xw (v:=(.agg ((eI .u32 p.Genesis.Version)::(aL (eI .u8) p.Genesis.Prev (aL (eI .u8) p.Genesis.Root ((eI .u32 p.Genesis.Time)::((eI .u32 p.Genesis.Bits)::((eI .u32 p.Genesis.Nonce)::(dU (eI .u64) p.Limit [eI .i64 p.Window,eI .u32 p.Spacing,eI .u32 p.Future,eI .u32 p.Version,.row none 33 (p.Checkpoints.map aW),eI .i64 p.Subsidy,eI .i64 p.Halving,eI .i64 p.Maturity,eI .i64 (a0G.wrap (l.Height+1)),.mp 5,.row (some true) 1 [],eI .i64 0]))))))))) (cI rfl (iM aG1 aSN rfl)) ?_
 refine zz ?_
 refine a0K fun K1 hK1 hG1=> ?_
 have J1: ∀l5,rG N p l b l5=some r→K1 (aG 143 [(3,.ptr 0 0),(5,.ptr 1 0),(6,.ptr 2 0),(7,.ptr 3 0),(10,.ptr 4 0)]) [some ⟨34,bE p⟩,some ⟨47,bK b⟩,some ⟨44,(eI .i64 0)::(aL (eI .u8) (a0F 32 0) [.row (some true) 1 []])⟩,some ⟨54,[.row (some true) 1 []]⟩,some ⟨102,(eI .u32 p.Genesis.Version)::(aL (eI .u8) p.Genesis.Prev (aL (eI .u8) p.Genesis.Root ((eI .u32 p.Genesis.Time)::((eI .u32 p.Genesis.Bits)::((eI .u32 p.Genesis.Nonce)::(dU (eI .u64) p.Limit [eI .i64 p.Window,eI .u32 p.Spacing,eI .u32 p.Future,eI .u32 p.Version,.row none 33 (p.Checkpoints.map aW),eI .i64 p.Subsidy,eI .i64 p.Halving,eI .i64 p.Maturity,eI .i64 (a0G.wrap (l.Height+1)),.mp 5,.row (some true) 1 [],eI .i64 0]))))))⟩,some ⟨33037,l5.flatMap fD⟩]:=by
  intro l5 hr
  unfold rG at hr
  refine hK1 ?_
  refine a0K fun K2 hK2 hG2=> ?_
  have J2: ∀c4 dP l6,mZ N p l b c4 dP l6=some r→K2 (aG 143 [(3,.ptr 0 0),(5,.ptr 1 0),(6,.ptr 2 0),(7,.ptr 3 0),(10,.ptr 4 0)]) [some ⟨34,bE p⟩,some ⟨47,bK b⟩,some ⟨44,(eI .i64 0)::(aL (eI .u8) (a0F 32 0) [.row (some true) 1 []])⟩,some ⟨54,[.row (some true) 1 []]⟩,some ⟨102,(eI .u32 p.Genesis.Version)::(aL (eI .u8) p.Genesis.Prev (aL (eI .u8) p.Genesis.Root ((eI .u32 p.Genesis.Time)::((eI .u32 p.Genesis.Bits)::((eI .u32 p.Genesis.Nonce)::(dU (eI .u64) p.Limit [eI .i64 p.Window,eI .u32 p.Spacing,eI .u32 p.Future,eI .u32 p.Version,.row none 33 (p.Checkpoints.map aW),eI .i64 p.Subsidy,eI .i64 p.Halving,eI .i64 p.Maturity,eI .i64 (a0G.wrap (l.Height+1)),.mp 5,.sl 6 0 l6.length 37 true,eI .i64 c4]))))))⟩,some ⟨33037,dP.flatMap fD⟩,some ⟨80,l6.flatMap aH⟩]:=by
   intro c4 dP l6 hr
   unfold mZ at hr
   refine hK2<|zz ?_
   refine a0K fun K3 hK3 hG3=> ?_
   have J3: ∀aQR,rJ N p l b c4 dP l6 aQR=some r→K3 (aG 143 [(3,.ptr 0 0),(5,.ptr 1 0),(6,.ptr 2 0),(7,.ptr 3 0),(10,.ptr 4 0),(17,eI .i64 aQR)]) [some ⟨34,bE p⟩,some ⟨47,bK b⟩,some ⟨44,(eI .i64 0)::(aL (eI .u8) (a0F 32 0) [.row (some true) 1 []])⟩,some ⟨54,[.row (some true) 1 []]⟩,some ⟨102,(eI .u32 p.Genesis.Version)::(aL (eI .u8) p.Genesis.Prev (aL (eI .u8) p.Genesis.Root ((eI .u32 p.Genesis.Time)::((eI .u32 p.Genesis.Bits)::((eI .u32 p.Genesis.Nonce)::(dU (eI .u64) p.Limit [eI .i64 p.Window,eI .u32 p.Spacing,eI .u32 p.Future,eI .u32 p.Version,.row none 33 (p.Checkpoints.map aW),eI .i64 p.Subsidy,eI .i64 p.Halving,eI .i64 p.Maturity,eI .i64 (a0G.wrap (l.Height+1)),.mp 5,.sl 6 0 l6.length 37 true,eI .i64 c4]))))))⟩,some ⟨33037,dP.flatMap fD⟩,some ⟨80,l6.flatMap aH⟩]:=by
    intro aQR hr
    unfold rJ at hr
    refine hK3<|a0H<|a0H ?_
    obtain⟨aKW,h_3,hr⟩:=aN hr
    refine AB.rs mixed [26] [] [[0,1,2,3,4,5,6,7,8,9,10,11,12]]<|zz ?_
    refine xu (zF h_3) ?_
    refine zz ?_
    refine zk hr ?_ ?_<;>intro h5 hr
    ·refine zz ?_
     refine xw (v:=(.agg ((eI .i64 0)::(aL (eI .u8) (a0F 32 0) [.row (some true) 1 []])))) (cI rfl (iM aAP aHm rfl)) ?_
     refine zz ?_
     obtain rfl:=sj hr
     exact zr3 Tryz.results12 dO dO dO (zg' [])
    obtain⟨aFu,h_6,hr⟩:=aN hr
    refine zz ?_
    refine zc (aIq h_6) [4,5,6] ?_
    refine zz ?_
    obtain⟨aXu,h_7,hr⟩:=aN hr
    refine a0H<|zz ?_
    refine xp (aBa h_7) ?_
    refine zz ?_
    refine zk hr ?_ ?_<;>intro h8 hr<;>refine zz ?_
    ·refine xw (v:=(.agg ((eI .i64 0)::(aL (eI .u8) (a0F 32 0) [.row (some true) 1 []])))) (cI rfl (iM aAP aHm rfl)) ?_
     refine zz ?_
     obtain rfl:=sj hr
     exact zr3 Tryz.results12 dO dO dO (zg' [])
    refine a0H<|zz ?_
    refine zk hr ?_ ?_<;>intro h9 hr<;>refine zz ?_
    ·refine xw (v:=(.agg ((eI .i64 0)::(aL (eI .u8) (a0F 32 0) [.row (some true) 1 []])))) (cI rfl (iM aAP aHm rfl)) ?_
     refine zz ?_
     obtain rfl:=sj hr
     exact zr3 Tryz.results12 dO dO dO (zg' [])
    refine a0H ?_
    obtain⟨aMc,h_10,q,h_12,hr⟩:=b8 hr
    refine AB.rd (cD [43]) (cD []) mixed<|a0J (m:=5) [0,1,2,3,4,5,6,7,8,9,10,11] ?_
    refine zz ?_
    refine xu (aEx h_10) ?_
    refine zz ?_
    refine xw (v:=(.agg ((eI .i64 (a0G.wrap (l.Height+1)))::(aL (eI .u8) aMc [.row none 37 (aFu.map aM)])))) (cI rfl (aI6 (ps':=[(0,eI .i64 (a0G.wrap (l.Height+1))),(1,.agg (aL (eI .u8) aMc [])),(2,.row none 37 (aFu.map aM))]) (by simp only[dG (l:=aMc) (aT h_12)]<;>rfl) (iM aAP aHm (by kernel_rfl)))) ?_
    refine zz ?_
    refine DrawG.jn (m:=2) (L:=lst [0,1,2,3,4,5,6,7,8,9,10,11,12,13,14] 17) (s1:=aG 143 [(6,.ptr 0 0),(7,.ptr 1 0),(142,.agg [.sl 2 0 l6.length 37 true])]) (h1:=[some ⟨44,(eI .i64 (a0G.wrap (l.Height+1)))::(aL (eI .u8) aMc [.row none 37 (aFu.map aM)])⟩,some ⟨54,[.row (some true) 1 []]⟩,some ⟨80,l6.flatMap aH⟩]) ?_ (fun J=> ?_)
    ·refine a0J (m:=0) [15,16]<|zz ?_
     refine DrawG.nil (by decide +kernel) ?_
     refine zz ?_
     obtain rfl:=sj hr
     exact zr3 Tryz.results12 dO dO dO (Ghost.trans (zQ [1,1,0]) (zG []))
    refine DrawG.fk (n:=4) [12,14] ⟨?_, ?_,trivial⟩
    ·refine zz ?_
     refine DrawG.fk (n:=3) [13,14] ⟨?_, ?_,trivial⟩
     ·refine zz ?_
      refine a0J (m:=2) [14]<|zz ?_
      refine DrawG.jh J ?_
      exact(zG [2,3,6])
     refine zz ?_
     refine a0J (m:=2) [13]<|zz ?_
     refine DrawG.jh J ?_
     exact(zG [2,3,6])
    refine zz ?_
    refine a0J (m:=2) [12,13]<|zz ?_
    refine DrawG.jh J ?_
    exact(zG [2,3,6])
   obtain⟨x85,h_13,res4,hL4,hr⟩:=b8 hr
   refine zz ?_
   refine a0I<|AB.loopM (fun m s h=> ∃made_1 x89,fB N p l b c4 dP l6 x85 m made_1 x89=some res4∧Ghost 0 s h (aG 143 [(3,.ptr 0 0),(5,.ptr 1 0),(6,.ptr 2 0),(7,.ptr 3 0),(10,.ptr 4 0),(17,eI .i64 made_1),(87,.row none 2 (x85.Outputs.map cH)),(88,eI .i64 (x85.Outputs.length:Int)),(89,eI .i64 x89)]) [some ⟨34,bE p⟩,some ⟨47,bK b⟩,some ⟨44,(eI .i64 0)::(aL (eI .u8) (a0F 32 0) [.row (some true) 1 []])⟩,some ⟨54,[.row (some true) 1 []]⟩,some ⟨102,(eI .u32 p.Genesis.Version)::(aL (eI .u8) p.Genesis.Prev (aL (eI .u8) p.Genesis.Root ((eI .u32 p.Genesis.Time)::((eI .u32 p.Genesis.Bits)::((eI .u32 p.Genesis.Nonce)::(dU (eI .u64) p.Limit [eI .i64 p.Window,eI .u32 p.Spacing,eI .u32 p.Future,eI .u32 p.Version,.row none 33 (p.Checkpoints.map aW),eI .i64 p.Subsidy,eI .i64 p.Halving,eI .i64 p.Maturity,eI .i64 (a0G.wrap (l.Height+1)),.mp 5,.sl 6 0 l6.length 37 true,eI .i64 c4]))))))⟩,some ⟨33037,dP.flatMap fD⟩,some ⟨80,l6.flatMap aH⟩]) ⟨0,0,hL4,zG [0,1,2,3,4,5,6]⟩ ?_
   rintro m4 s h ⟨made_1,x89,hr4,hg⟩
   refine AB.ghost hg ?_
   clear hg hL4
   rw[fB]at hr4
   refine zz ?_
   refine a0H ?_
   refine zk hr4 ?_ ?_<;>intro h14 hr4<;>refine zz ?_
   ·refine a0H<|a0I ?_
    obtain⟨x91,h_15,hr4⟩:=aN hr4
    refine zz ?_
    exact⟨a0G.wrap (made_1+x91.Value),a0G.wrap (x89+1),hr4,zG [0,1,2,3,4,5,6]⟩
   obtain rfl:=sj hr4
   refine zz ?_
   exact hG3 (zG [0,1,2,3,4,5,6]) (J3 made_1 hr)
  obtain⟨res5,hL5,hr⟩:=aN hr
  refine zz ?_
  refine a0I<|AB.loopM (fun m s h=> ∃x57 aBf xA l6_1,fA N p l b m x57 aBf xA l6_1=some res5∧Ghost 0 s h (aG 143 [(3,.ptr 0 0),(5,.ptr 1 0),(6,.ptr 2 0),(7,.ptr 3 0),(10,.ptr 4 0),(55,.row none 4 (b.Txs.map aY)),(56,eI .i64 (b.Txs.length:Int)),(57,eI .i64 x57)]) [some ⟨34,bE p⟩,some ⟨47,bK b⟩,some ⟨44,(eI .i64 0)::(aL (eI .u8) (a0F 32 0) [.row (some true) 1 []])⟩,some ⟨54,[.row (some true) 1 []]⟩,some ⟨102,(eI .u32 p.Genesis.Version)::(aL (eI .u8) p.Genesis.Prev (aL (eI .u8) p.Genesis.Root ((eI .u32 p.Genesis.Time)::((eI .u32 p.Genesis.Bits)::((eI .u32 p.Genesis.Nonce)::(dU (eI .u64) p.Limit [eI .i64 p.Window,eI .u32 p.Spacing,eI .u32 p.Future,eI .u32 p.Version,.row none 33 (p.Checkpoints.map aW),eI .i64 p.Subsidy,eI .i64 p.Halving,eI .i64 p.Maturity,eI .i64 (a0G.wrap (l.Height+1)),.mp 5,.sl 6 0 l6_1.length 37 true,eI .i64 aBf]))))))⟩,some ⟨33037,xA.flatMap fD⟩,some ⟨80,l6_1.flatMap aH⟩]) ⟨0,0,l5,[],hL5,Ghost.trans (Ghost.virt (fr':=[(3,.ptr 0 0),(5,.ptr 1 0),(6,.ptr 2 0),(7,.ptr 3 0),(10,.ptr 4 0),(55,.row none 4 (b.Txs.map aY)),(56,eI .i64 (b.Txs.length:Int)),(57,eI .i64 0)]) (h1:=[some ⟨34,bE p⟩,some ⟨47,bK b⟩,some ⟨44,(eI .i64 0)::(aL (eI .u8) (a0F 32 0) [.row (some true) 1 []])⟩,some ⟨54,[.row (some true) 1 []]⟩,some ⟨102,(eI .u32 p.Genesis.Version)::(aL (eI .u8) p.Genesis.Prev (aL (eI .u8) p.Genesis.Root ((eI .u32 p.Genesis.Time)::((eI .u32 p.Genesis.Bits)::((eI .u32 p.Genesis.Nonce)::(dU (eI .u64) p.Limit [eI .i64 p.Window,eI .u32 p.Spacing,eI .u32 p.Future,eI .u32 p.Version,.row none 33 (p.Checkpoints.map aW),eI .i64 p.Subsidy,eI .i64 p.Halving,eI .i64 p.Maturity,eI .i64 (a0G.wrap (l.Height+1)),.mp 5,.sl 6 0 0 37 true,eI .i64 0]))))))⟩,some ⟨33037,l5.flatMap fD⟩]) 80 (FLe.same rfl (FLe.same rfl (FLe.same rfl (FLe.same rfl (FLe.same rfl (FLe.same rfl (FLe.same rfl (FLe.same rfl FLe.nil)))))))) (HLv.live (V.les_refl _ _) rfl (HLv.live (V.les_refl _ _) rfl (HLv.live (V.les_refl _ _) rfl (HLv.live (V.les_refl _ _) rfl (HLv.live (V.les_cons (V.le_refl _ _) (aIn (aIn (V.les_cons (V.le_refl _ _) (V.les_cons (V.le_refl _ _) (V.les_cons (V.le_refl _ _) (aRF (V.les_cons (V.le_refl _ _) (V.les_cons (V.le_refl _ _) (V.les_cons (V.le_refl _ _) (V.les_cons (V.le_refl _ _) (V.les_cons (V.le_refl _ _) (V.les_cons (V.le_refl _ _) (V.les_cons (V.le_refl _ _) (V.les_cons (V.le_refl _ _) (V.les_cons (V.le_refl _ _) (V.les_cons (V.le_refl _ _) (V.les_cons (V.le_virt rfl) (V.les_cons (V.le_refl _ _) V.les_nil))))))))))))))))))) rfl (HLv.live (V.les_refl _ _) (tI (fun _=>rfl) _) HLv.nil))))))) (zg' [0,1,2,3,4,5,6])⟩ ?_
  rintro m5 s h ⟨x57,aBf,xA,l6_1,hr5,hg⟩
  refine AB.ghost hg ?_
  clear hg hL5
  rw[fA]at hr5
  refine zz ?_
  refine a0H ?_
  refine zk hr5 ?_ ?_<;>intro h16 hr5<;>refine zz ?_
  ·refine a0H<|a0I ?_
   obtain⟨x60,h_17,hr5⟩:=aN hr5
   refine zz ?_
   refine a0K fun K6 hK6 hG6=> ?_
   have J6: ∀aEw aPx l7,kN N p l b x57 x60 (fA N p l b m5) aEw aPx l7=some res5→K6 (aG 143 [(3,.ptr 0 0),(5,.ptr 1 0),(6,.ptr 2 0),(7,.ptr 3 0),(10,.ptr 4 0),(13,eI .i64 x57),(14,.ptr 5 0),(55,.row none 4 (b.Txs.map aY)),(56,eI .i64 (b.Txs.length:Int)),(57,eI .i64 x57)]) [some ⟨34,bE p⟩,some ⟨47,bK b⟩,some ⟨44,(eI .i64 0)::(aL (eI .u8) (a0F 32 0) [.row (some true) 1 []])⟩,some ⟨54,[.row (some true) 1 []]⟩,some ⟨102,(eI .u32 p.Genesis.Version)::(aL (eI .u8) p.Genesis.Prev (aL (eI .u8) p.Genesis.Root ((eI .u32 p.Genesis.Time)::((eI .u32 p.Genesis.Bits)::((eI .u32 p.Genesis.Nonce)::(dU (eI .u64) p.Limit [eI .i64 p.Window,eI .u32 p.Spacing,eI .u32 p.Future,eI .u32 p.Version,.row none 33 (p.Checkpoints.map aW),eI .i64 p.Subsidy,eI .i64 p.Halving,eI .i64 p.Maturity,eI .i64 (a0G.wrap (l.Height+1)),.mp 6,.sl 7 0 l7.length 37 true,eI .i64 aEw]))))))⟩,some ⟨91,aR x60⟩,some ⟨33037,aPx.flatMap fD⟩,some ⟨80,l7.flatMap aH⟩]:=by
    intro aEw aPx l7 hr5
    unfold kN at hr5
    refine hK6 ?_
    obtain⟨x76,h_18,hr5⟩:=aN hr5
    refine zz ?_
    refine zc (u5 h_18) [4,6,7] ?_
    refine zz ?_
    refine zk hr5 ?_ ?_<;>intro h19 hr5<;>refine zz ?_
    ·refine xw (v:=(.agg ((eI .i64 0)::(aL (eI .u8) (a0F 32 0) [.row (some true) 1 []])))) (cI rfl (iM aAP aHm rfl)) ?_
     refine zz ?_
     obtain rfl:=sj hr5
     obtain rfl:=sj hr
     exact zr3 Tryz.results12 dO dO dO (zg' [])
    exact⟨a0G.wrap (x57+1),aEw,x76.2,l7,hr5,zG [0,1,2,3,4,6,7]⟩
   refine zz ?_
   refine zk hr5 ?_ ?_<;>intro h20 hr5
   ·obtain⟨x66,h_21,hr5⟩:=aN hr5
    refine zz ?_
    refine zc (u7 h_21) [4,5,6] ?_
    refine zz ?_
    refine zk hr5 ?_ ?_<;>intro h22 hr5<;>refine zz ?_
    ·refine xw (v:=(.agg ((eI .i64 0)::(aL (eI .u8) (a0F 32 0) [.row (some true) 1 []])))) (cI rfl (iM aAP aHm rfl)) ?_
     refine zz ?_
     obtain rfl:=sj hr5
     obtain rfl:=sj hr
     exact zr3 Tryz.results12 dO dO dO (zg' [])
    exact hG6 (zG [0,1,2,3,4,7,5,8]) (J6 x66.2.2.2 x66.2.1 x66.2.2.1 hr5)
   refine zz ?_
   exact hG6 (zG [0,1,2,3,4,7,5,6]) (J6 aBf xA l6_1 hr5)
  obtain rfl:=sj hr5
  refine zz ?_
  exact hG2 (zG [0,1,2,3,4,5,6]) (J2 aBf xA l6_1 hr)
 obtain⟨res7,hL7,hr⟩:=aN hr
 refine zz ?_
 refine a0I<|AB.loopM (fun m s h=> ∃x42 l5_3,iL N p l b m x42 l5_3=some res7∧Ghost 0 s h (aG 143 [(3,.ptr 0 0),(5,.ptr 1 0),(6,.ptr 2 0),(7,.ptr 3 0),(10,.ptr 4 0),(40,.row none 37 (l.Coins.map aM)),(41,eI .i64 (l.Coins.length:Int)),(42,eI .i64 x42)]) [some ⟨34,bE p⟩,some ⟨47,bK b⟩,some ⟨44,(eI .i64 0)::(aL (eI .u8) (a0F 32 0) [.row (some true) 1 []])⟩,some ⟨54,[.row (some true) 1 []]⟩,some ⟨102,(eI .u32 p.Genesis.Version)::(aL (eI .u8) p.Genesis.Prev (aL (eI .u8) p.Genesis.Root ((eI .u32 p.Genesis.Time)::((eI .u32 p.Genesis.Bits)::((eI .u32 p.Genesis.Nonce)::(dU (eI .u64) p.Limit [eI .i64 p.Window,eI .u32 p.Spacing,eI .u32 p.Future,eI .u32 p.Version,.row none 33 (p.Checkpoints.map aW),eI .i64 p.Subsidy,eI .i64 p.Halving,eI .i64 p.Maturity,eI .i64 (a0G.wrap (l.Height+1)),.mp 5,.row (some true) 1 [],eI .i64 0]))))))⟩,some ⟨33037,l5_3.flatMap fD⟩]) ⟨0,[],hL7,zG [0,2,3,4,6,5]⟩ ?_
 rintro m7 s h ⟨x42,l5_3,hr7,hg⟩
 refine AB.ghost hg ?_
 clear hg hL7
 rw[iL]at hr7
 refine zz ?_
 refine a0H ?_
 refine zk hr7 ?_ ?_<;>intro h23 hr7<;>refine zz ?_
 ·refine a0H<|a0I ?_
  obtain⟨x44,h_24,hr7⟩:=aN hr7
  refine zz ?_
  refine AB.rs mixed [] [] [[0,1,2,3,4,5,6,7]]<|zz ?_
  refine xup x44.Out x44 ?_
  refine zz ?_
  exact⟨a0G.wrap (x42+1),wX iF l5_3 x44.Out x44,hr7,zG [0,1,2,3,4,5]⟩
 obtain rfl:=sj hr7
 refine zz ?_
 exact hG1 (zG [0,1,2,3,4,5]) (J1 l5_3 hr)
instance :CtC 12 true (aX @zJ):=⟨@zJ⟩
theorem aD9 {N p l r} (hr:y5 N p l=some r):
  Fp 18 [] [cT p,.row none 69 (l.map dZ)] (.tup [eE r.1,.sl 0 0 r.2.1.length 1 true,eI .i64 r.2.2.1,eI .i64 r.2.2.2]) [some ⟨54,r.2.1.flatMap dD⟩]:=by
 refine bR func18 ntmps18 results18 fun hR=> ?_
 obtain⟨x18,h_1,hr⟩:=aN hr
 refine zz ?_
 refine xp (vK h_1) ?_
 refine zz ?_
 refine a0H<|zz ?_
 obtain⟨h2,hr⟩:=cutF hr
 refine AB.cndF rfl h2 ?_
 refine zz ?_
 refine sk4 (aJE N l) (fun c1 u0 aHo l2=>[(1,.row none 69 (l.map dZ)),(4,.ptr 0 0),(8,.ptr 1 0),(10,.sl 2 0 l2.length 1 true)]) (fun c1 u0 aHo l2=>[some ⟨44,(eI .i64 0)::(aL (eI .u8) (a0F 32 0) [.row (some true) 1 []])⟩,some ⟨44,(eI .i64 c1)::(aL (eI .u8) u0 [.row none 37 (aHo.map aM)])⟩,some ⟨54,l2.flatMap dD⟩]) ?_
 obtain⟨cM,hL2,hr⟩:=aN hr
 refine zz ?_
 refine a0I<|lp5 hL2 (fun x27 c2 c2_1 c2_2 l3=>[(1,.row none 69 (l.map dZ)),(2,.ptr 0 0),(4,.ptr 1 0),(8,.ptr 2 0),(10,.sl 3 0 l3.length 1 true),(25,.row none 69 (l.map dZ)),(26,eI .i64 (l.length:Int)),(27,eI .i64 x27)]) (fun x27 c2 c2_1 c2_2 l3=>[some ⟨34,bE p⟩,some ⟨44,(eI .i64 0)::(aL (eI .u8) (a0F 32 0) [.row (some true) 1 []])⟩,some ⟨44,(eI .i64 c2)::(aL (eI .u8) c2_1 [.row none 37 (c2_2.map aM)])⟩,some ⟨54,l3.flatMap dD⟩]) (h0:=(zW 54 [0,1,2,3])) (round:= ?_)
 intro m2 x27 c2 c2_1 c2_2 l3 hr
 refine zz ?_
 refine a0H ?_
 refine zk hr ?_ ?_<;>clear hr<;>intro h3 hr<;>refine zz ?_
 ·refine a0H<|a0I ?_
  replace hr:=b8 hr
  obtain⟨x30,h_4,x36,h_5,hr⟩:=hr
  refine zz ?_
  refine xp (zJ h_5) ?_
  refine zz ?_
  refine a0H<|zz ?_
  obtain⟨h6,hr⟩:=cutF hr
  refine AB.cndF rfl h6 ?_
  replace hr:=aN hr
  obtain⟨x50,h_7,hr⟩:=hr
  refine zz ?_
  refine mC dD 1 [x36.2.1] ?_
  exact zE
 exact zE
instance :CtC 18 false (aX @aD9):=⟨@aD9⟩
theorem aEe {N r} (hr:xQ N=some r):
  Fp 8 [] [] (eB r) []:=by
 refine bR func8 ntmps8 results8 fun hR=> ?_
 obtain⟨x8,h_1,hr⟩:=aN hr
 refine zz ?_
 refine OpsX.ghost (zv 0) ?_
 refine xp (aEd h_1) ?_
 obtain⟨x14,h_2,hr⟩:=aN hr
 refine zz ?_
 refine zc (aD9 h_2) [] ?_
 refine zz ?_
 refine a0H ?_
 obtain⟨x20,h_3,x22,h_5,hr⟩:=b8 hr
 refine AB.rs mixed [20] [21] [[0,1,2],[3,4]]<|zz ?_
 refine xu (n4 h_3) ?_
 refine zz ?_
 refine⟨_,_,zv 4, ?_⟩
 refine zg (aFV h_5) [] ?_
 refine zz ?_
 obtain⟨h7,hr⟩:=aJ8 hr
 obtain⟨h8,hr⟩:=aJ8 hr
 obtain⟨h9,hr⟩:=aJ8 hr
 obtain⟨h10,hr⟩:=aJ8 hr
 obtain⟨x41,h_11,hr⟩:=aN hr
 obtain⟨h12,hr⟩:=aJ8 hr
 obtain⟨x47,h_13,hr⟩:=aN hr
 refine xq ?_
 refine zz ?_
 refine xSg (v:=(eB x41.Coinbase)) rfl rfl h10 (cP rfl (aX0 (C:=aH) (K:=37) (off:=36) (fun _=>rfl) rfl h_11 zl (tE ti4 rfl rfl))) ?_
 exact zE
instance :CtC 8 true (aX @aEe):=⟨@aEe⟩
theorem aIk {N v mG r} (hr:rS N v mG=some r):
  Fp 5 [] [eI .u8 v,.row none 1 (mG.map (eI .u8))] (eB r) []:=by
 refine bR func5 ntmps5 results5 fun hR=> ?_
 refine zz ?_
 obtain⟨x14,h_1,hr⟩:=aN hr
 refine a0H<|zz ?_
 refine xp (aEe h_1) ?_
 refine zz ?_
 obtain⟨h2,hr⟩:=cutF hr
 refine AB.cndF rfl h2 ?_
 obtain⟨x18,h_3,hr⟩:=aN hr
 refine zz ?_
 refine xp (aCG h_3) ?_
 obtain⟨x22,h_4,hr⟩:=aN hr
 refine zz ?_
 refine xp (vK h_4) ?_
 refine zz ?_
 refine fT (nF N x18) [(5,.ptr 0 0)] [some ⟨40,eU x18⟩] ?_
 obtain⟨cM,hL2,hr⟩:=aN hr
 refine zz ?_
 exact a0I<|lp5 hL2 (fun most x28 c1 u0 aHo=>[(5,.ptr 0 0),(6,.ptr 1 0),(8,eI .i64 most),(26,.row none 69 (x18.Blocks.map dZ)),(27,eI .i64 (x18.Blocks.length:Int)),(28,eI .i64 x28)]) (fun most x28 c1 u0 aHo=>[some ⟨40,eU x18⟩,some ⟨44,(eI .i64 c1)::(aL (eI .u8) u0 [.row none 37 (aHo.map aM)])⟩])
end Go.Proofs.YtopdhljncajmpaaGreatDoor
