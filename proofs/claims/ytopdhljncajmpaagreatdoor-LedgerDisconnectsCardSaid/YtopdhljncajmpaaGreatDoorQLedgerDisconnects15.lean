/- Texts of ours, joined: Wk4b. -/
import Derived.Test.YtopdhljncajmpaaGreatDoorQLedgerDisconnects14
open Go.Vm.AB renaming block → a1a,seq → a1c
open Bool renaming eq_false_or_eq_true → a1b
open List renaming replicate → a1d
open Go.IntKind renaming u32 → a1e
set_option linter.unusedVariables false
set_option linter.unusedSimpArgs false
set_option maxRecDepth 20000
set_option maxHeartbeats 8000000
namespace Go.Proofs.YtopdhljncajmpaaGreatDoor
open Go Go.Vm Go.Proofs.Tryz
theorem aBc {N l r} (hr:aEQ N l=some r):
  Fp 193 [] [.row none 32 (l.map (eA (eI .u8)))] (.sl 0 0 r.length 1 false) [some ⟨140,r.map (eL 32 (eA (eI .u8)))⟩]:=by
 refine bT func193 ntmps193 results193 fun hR=> ?_
 refine zz ?_
 refine bS (aAT N) (fun l0=>[(3,.sl 0 0 l0.length 1 false)]) (fun l0=>[some ⟨140,l0.map (eL 32 (eA (eI .u8)))⟩]) ?_
 obtain⟨cY,hL2,hr⟩:=aP hr
 refine a1a<|dB hL2 (fun l_1 aR=>[(0,.row none 32 (l_1.map (eA (eI .u8)))),(3,.sl 0 0 aR.length 1 false)]) (fun l_1 aR=>[some ⟨140,aR.map (eL 32 (eA (eI .u8)))⟩]) (round:= ?_)
 intro m2 l_1 aR hr
 refine a1c<|zz ?_
 refine zk hr ?_ ?_<;>clear hr<;>intro h1 hr<;>refine zz ?_
 ·refine a1a ?_
  refine zz ?_
  refine bS (aA6 N aR (oZ N m2)) (fun l1=>[(3,.sl 0 0 aR.length 1 false),(4,.sl 1 0 l1.length 32 true)]) (fun l1=>[some ⟨140,aR.map (eL 32 (eA (eI .u8)))⟩,some ⟨26,l1.flatMap (dV (eI .u8))⟩]) ?_ (body:= ?_)
  rotate_left
  ·clear hr
   intro l1 hr
   replace hr:=bW hr
   obtain⟨q,h_2,x45,h_3,hr⟩:=hr
   refine zz ?_
   refine OpsX.ghost (zqf [1,0]) ?_
   exact zE
  replace hr:=aP hr
  obtain⟨res4,hL4,hr⟩:=hr
  refine zz ?_
  refine a1a<|dB hL4 (fun vi bJ=>[(0,.row none 32 (l_1.map (eA (eI .u8)))),(3,.sl 0 0 aR.length 1 false),(4,.sl 1 0 bJ.length 32 true),(5,eI .i64 vi)]) (fun vi bJ=>[some ⟨140,aR.map (eL 32 (eA (eI .u8)))⟩,some ⟨26,bJ.flatMap (dV (eI .u8))⟩]) (h0:=(zW 26 [0,1])) (round:= ?_)
  intro m4 vi bJ hr
  refine a1c<|zz ?_
  refine zk hr ?_ ?_<;>clear hr<;>intro h4 hr<;>refine zz ?_
  ·refine bS (uP N l_1 aR vi (lU N l_1 aR m4)) (fun cE=>[(0,.row none 32 (l_1.map (eA (eI .u8)))),(3,.sl 0 0 aR.length 1 false),(4,.sl 1 0 cE.length 32 true),(5,eI .i64 vi)]) (fun cE=>[some ⟨140,aR.map (eL 32 (eA (eI .u8)))⟩,some ⟨26,cE.flatMap (dV (eI .u8))⟩]) ?_
   refine a1a ?_
   refine zz ?_
   refine zk hr ?_ ?_<;>clear hr<;>intro h5 hr
   ·replace hr:=aQI hr
    obtain⟨x25,h_6,q_1,h_7,x30,h_8,q_2,h_9,x32,h_10,q_3,h_12,hr⟩:=hr
    replace hr:=aP hr
    obtain⟨x34,h_13,hr⟩:=hr
    refine AB.rs mixed [233] [] [[0,1,2,3,4,5,6,7,8,9,10,11,12,13]]<|zz ?_
    refine xw (v:=(.agg (x25.map (eI .u8)))) (cF rfl (aI1 (E:=(eI .u8)) iH rfl h_6 (aT h_7))) ?_
    refine zz ?_
    refine xw (v:=(.agg (x30.map (eI .u8)))) (cF rfl (aI1 (E:=(eI .u8)) iH rfl h_8 (aT h_9)))<|xu (aCG h_10)<|xw (v:=(.sl 2 0 1 32 true)) (h':=[some ⟨140,aR.map (eL 32 (eA (eI .u8)))⟩,some ⟨26,bJ.flatMap (dV (eI .u8))⟩,some ⟨26,[x32].flatMap (dV (eI .u8))⟩]) (pD rfl (aJj (ps':=[(0,.agg (dV (eI .u8) x32))]) (by simp only[aA2,dV,dE (l:=x32) (aT h_12)]) (aHe (len:=1) (C:=(dV (eI .u8))) (xs:=[x32]) (K:=32) (fun _=>rfl) (fun _=>rfl) aFd iH ⟨zl,zl,zl⟩ rfl rfl rfl rfl rfl rfl))) ?_
    exact zE
   replace hr:=gZ hr
   obtain⟨x38,h_14,q_4,h_15,x41,h_16,hr⟩:=hr
   refine zz ?_
   refine xw (v:=(.agg (x38.map (eI .u8)))) (cF rfl (aI1 (E:=(eI .u8)) iH rfl h_14 (aT h_15)))<|xw (v:=(.sl 2 0 1 32 true)) (h':=[some ⟨140,aR.map (eL 32 (eA (eI .u8)))⟩,some ⟨26,bJ.flatMap (dV (eI .u8))⟩,some ⟨26,[x38].flatMap (dV (eI .u8))⟩]) (pD rfl (aJj (ps':=[(0,.agg (dV (eI .u8) x38))]) (by simp only[aA2,dV,dE (l:=x38) (aT h_15)]) (aHe (len:=1) (C:=(dV (eI .u8))) (xs:=[x38]) (K:=32) (fun _=>rfl) (fun _=>rfl) aFd iH ⟨zl,zl,zl⟩ rfl rfl rfl rfl rfl rfl))) ?_
   exact zE
  exact zE
 exact zE
instance :CtC 193 false (bC @aBc):=⟨@aBc⟩
theorem aDp {N l r} (hr:aAi N l=some r):
  Fp 148 [] [.row none 32 (l.map (eA (eI .u8)))] (.agg (r.map (eI .u8))) []:=by
 refine bT func148 ntmps148 results148 fun hR=> ?_
 unfold aAi at hr
 refine zz ?_
 refine a1c ?_
 refine bS (tA N l) (fun x11=>[(0,.row none 32 (l.map (eA (eI .u8)))),(2,.ptr 0 0),(11,eB x11)]) (fun x11=>[some ⟨26,(a1d 32 0).map (eI .u8)⟩]) ?_ (body:= ?_)
 rotate_left
 ·clear hr
  intro x11 hr
  unfold tA at hr
  refine zk hr ?_ ?_<;>intro h1 hr
  ·exact zE
  obtain⟨x14,h_2,hr⟩:=aP hr
  refine zz ?_
  refine zc (aBc h_2) [] ?_
  obtain⟨x19,h_3,x21,h_4,q,h_5,hr⟩:=gZ hr
  refine zz ?_
  refine xw (v:=(.agg (x21.map (eI .u8)))) (cF rfl (aI1 (E:=(eI .u8)) iH rfl h_4 (aT h_5))) ?_
  exact zE
 exact zE
instance :CtC 148 true (bC @aDp):=⟨@aDp⟩
theorem aJz {N l r} (hr:aE9 N l=some r):
  Fp 98 [] [.row none 4 (l.map aU)] (.agg (r.map (eI .u8))) []:=by
 refine bT func98 ntmps98 results98 fun hR=> ?_
 refine zz ?_
 refine bS (aEh N) (fun l1=>[(2,.ptr 0 0),(3,.sl 1 0 l1.length 32 true)]) (fun l1=>[some ⟨26,(a1d 32 0).map (eI .u8)⟩,some ⟨26,l1.flatMap (dV (eI .u8))⟩]) ?_ (body:= ?_)
 rotate_left
 ·clear hr
  intro l1 hr
  obtain⟨q,h_1,x19,h_2,q_1,h_3,hr⟩:=gZ hr
  refine zz ?_
  refine OpsX.ghost (zqf [1,0])<|xp (aDp h_2) ?_
  exact zE
 obtain⟨cY,hL2,hr⟩:=aP hr
 refine zz ?_
 refine a1a<|dB hL2 (fun x8 bJ=>[(2,.ptr 0 0),(3,.sl 1 0 bJ.length 32 true),(6,.row none 4 (l.map aU)),(7,eI .i64 (l.length:Int)),(8,eI .i64 x8)]) (fun x8 bJ=>[some ⟨26,(a1d 32 0).map (eI .u8)⟩,some ⟨26,bJ.flatMap (dV (eI .u8))⟩]) (h0:=(zW 26 [0,1])) (round:= ?_)
 intro m2 x8 bJ hr
 refine zz ?_
 refine a1c ?_
 refine zk hr ?_ ?_<;>clear hr<;>intro h4 hr<;>refine zz ?_
 ·refine a1c<|a1a ?_
  replace hr:=aA5 hr
  obtain⟨x10,h_5,x14,h_6,q_2,h_7,x16,h_8,hr⟩:=hr
  refine zz ?_
  refine xp (aJb h_6)<|xw (v:=(.sl 3 0 1 32 true)) (h':=[some ⟨26,(a1d 32 0).map (eI .u8)⟩,some ⟨26,bJ.flatMap (dV (eI .u8))⟩,some ⟨91,aZ x10⟩,some ⟨26,[x14].flatMap (dV (eI .u8))⟩]) (pD rfl (aJj (ps':=[(0,.agg (dV (eI .u8) x14))]) (by simp only[aA2,dV,dE (l:=x14) (aT h_7)]) (aHe (len:=1) (C:=(dV (eI .u8))) (xs:=[x14]) (K:=32) (fun _=>rfl) (fun _=>rfl) aFd iH ⟨zl,zl,zl⟩ rfl rfl rfl rfl rfl rfl))) ?_
  exact zE
 exact zE
instance :CtC 98 true (bC @aJz):=⟨@aJz⟩
theorem aCE {N b r} (hr:aAv N b=some r):
  Fp 59 [] [cW b] (eI .i64 r) []:=by
 refine bT func59 ntmps59 results59 fun hR=> ?_
 refine zz ?_
 obtain⟨x13,h_1,hr⟩:=aP hr
 refine a1c<|zz ?_
 refine zc (aBH h_1) [] ?_
 refine zz ?_
 refine zk hr ?_ ?_<;>intro h2 hr<;>refine zz ?_
 ·exact zE
 refine a1c<|zz ?_
 refine zk hr ?_ ?_<;>intro h3 hr<;>refine zz ?_
 ·exact zE
 refine hP (aC9 N b) [(1,.ptr 0 0)] [some ⟨47,aQ b⟩] ?_ (body:= ?_)
 rotate_left
 ·clear hr
  intro hr
  refine hP (zJ N b) [(1,.ptr 0 0)] [some ⟨47,aQ b⟩] ?_
  obtain⟨zX,hL3,hr⟩:=aP hr
  refine zz ?_
  exact a1a<|jA hL3 (fun x40=>[(1,.ptr 0 0),(38,.row none 4 (b.Txs.map aU)),(39,eI .i64 (b.Txs.length:Int)),(40,eI .i64 x40)]) (fun x40=>[some ⟨47,aQ b⟩])
 obtain⟨res4,hL4,hr⟩:=aP hr
 refine zz ?_
 refine a1a<|jA hL4 (fun x26=>[(1,.ptr 0 0),(24,.row none 4 (b.Txs.map aU)),(25,eI .i64 (b.Txs.length:Int)),(26,eI .i64 x26)]) (fun x26=>[some ⟨47,aQ b⟩]) (round:= ?_)
 intro m4 x26 hr
 refine zz ?_
 refine a1c ?_
 refine zk hr ?_ ?_<;>clear hr<;>intro h15 hr<;>refine zz ?_
 ·refine a1c<|a1a ?_
  replace hr:=bW hr
  obtain⟨x29,h_16,x32,h_17,hr⟩:=hr
  refine zz ?_
  refine xp (aCD h_17) ?_
  refine zz ?_
  refine xw (eY rfl rfl (aQS _ _ ti4 ..)) ?_
  exact zE
 exact zE
instance :CtC 59 true (bC @aCE):=⟨@aCE⟩
theorem aLs {N t height r} (hr:aP6 N t height=some r):
  Fp 78 [] [aU t,eI .i64 height] (eB r) []:=by
 refine bT func78 ntmps78 results78 fun hR=> ?_
 refine zz ?_
 refine a1c<|zz ?_
 refine zk hr ?_ ?_<;>intro h1 hr<;>refine zz ?_
 ·exact zE
 refine hP (aLH N) [] [] ?_
 obtain⟨cY,hL2,hr⟩:=aP hr
 refine zz ?_
 exact a1a<|jA hL2 (fun x15=>[(13,.row none 35 (t.Inputs.map bQ)),(14,eI .i64 (t.Inputs.length:Int)),(15,eI .i64 x15)]) (fun x15=>[])
instance :CtC 78 true (bC @aLs):=⟨@aLs⟩
theorem aDe {N p l b r} (hr:aHr N p l b=some r):
  Fp 38 [] [cP p,cG l,cW b] (eI .i64 r) []:=by
 refine bT func38 ntmps38 results38 fun hR=> ?_
 unfold aHr at hr
 refine zz ?_
 refine a1c ?_
 refine bS (aDc N l b) (fun x15=>[(4,.ptr 0 0),(5,.ptr 1 0),(15,eB x15)]) (fun x15=>[some ⟨44,aO l⟩,some ⟨47,aQ b⟩]) ?_
 exact zE
instance :CtC 38 true (bC @aDe):=⟨@aDe⟩
theorem sJ {N va b r} (hr:aHL N va b=some r):
  Fp 150 [] [.row none 1 (va.map (eI .u8)),.row none 1 (b.map (eI .u8))] (eB r) []:=by
 refine bT func150 ntmps150 results150 fun hR=> ?_
 refine zz ?_
 refine xw (v:=(eS (gM va))) (aF6 rfl (aK1 nQ ti9 nF (aHB (fun _=>rfl)))) ?_
 refine zz ?_
 refine xw (v:=(eS (gM b))) (aF6 rfl (aK1 nQ ti9 nF (aHB (fun _=>rfl))))<|xw (eY rfl rfl (aQM ..)) ?_
 exact zE
instance :CtC 150 true (bC @sJ):=⟨@sJ⟩
theorem lO {N c r} (hr:iL N c=some r):
  Vm.Fn Tryz.prog 55 [] [aJ c] (aJ r) []:=by
 refine zf Tryz.func55 Tryz.ntmps55 ?_
 unfold iL at hr
 obtain⟨x6,h_1,hr⟩:=aP hr
 refine zz ?_
 refine xp (aFs h_1) ?_
 refine zz ?_
 obtain rfl:=sj hr
 exact zr1 Tryz.results55 fA (zG [])
instance :CtC 55 true (bC @lO):=⟨@lO⟩
theorem aCC {N aI cH cX bZ dH t r} (hr:aF4 N aI cH cX bZ dH t=some r):
  Fp 39 [some ⟨102,(eI .u32 aI.Genesis.Version)::(aN (eI .u8) aI.Genesis.Prev (aN (eI .u8) aI.Genesis.Root ((eI .u32 aI.Genesis.Time)::((eI .u32 aI.Genesis.Bits)::((eI .u32 aI.Genesis.Nonce)::(eU (eI .u64) aI.Limit [eI .i64 aI.Window,eI .u32 aI.Spacing,eI .u32 aI.Future,eI .u32 aI.Version,.row none 33 (aI.Checkpoints.map bE),eI .i64 aI.Subsidy,eI .i64 aI.Halving,eI .i64 aI.Maturity,eI .i64 cH,.mp 1,.sl 2 0 bZ.length 37 true,eI .i64 dH]))))))⟩,some ⟨33037,cX.flatMap dO⟩,some ⟨80,bZ.flatMap aF⟩] [.ptr 0 0,aU t] (eI .i64 r) [some ⟨102,(eI .u32 aI.Genesis.Version)::(aN (eI .u8) aI.Genesis.Prev (aN (eI .u8) aI.Genesis.Root ((eI .u32 aI.Genesis.Time)::((eI .u32 aI.Genesis.Bits)::((eI .u32 aI.Genesis.Nonce)::(eU (eI .u64) aI.Limit [eI .i64 aI.Window,eI .u32 aI.Spacing,eI .u32 aI.Future,eI .u32 aI.Version,.row none 33 (aI.Checkpoints.map bE),eI .i64 aI.Subsidy,eI .i64 aI.Halving,eI .i64 aI.Maturity,eI .i64 cH,.mp 1,.sl 2 0 bZ.length 37 true,eI .i64 dH]))))))⟩,some ⟨33037,cX.flatMap dO⟩,some ⟨80,bZ.flatMap aF⟩]:=by
 refine bT func39 ntmps39 results39 fun hR=> ?_
 refine zz ?_
 obtain⟨aLV,hL1,hr⟩:=aP hr
 refine a1c<|zz ?_
 refine a1a<|lp0 hL1 [(0,.ptr 0 0),(3,.ptr 3 0),(5,.row (some true) 1 []),(17,.row none 35 (t.Inputs.map bQ)),(18,eI .i64 (t.Inputs.length:Int)),(19,eI .i64 0)] [some ⟨102,(eI .u32 aI.Genesis.Version)::(aN (eI .u8) aI.Genesis.Prev (aN (eI .u8) aI.Genesis.Root ((eI .u32 aI.Genesis.Time)::((eI .u32 aI.Genesis.Bits)::((eI .u32 aI.Genesis.Nonce)::(eU (eI .u64) aI.Limit [eI .i64 aI.Window,eI .u32 aI.Spacing,eI .u32 aI.Future,eI .u32 aI.Version,.row none 33 (aI.Checkpoints.map bE),eI .i64 aI.Subsidy,eI .i64 aI.Halving,eI .i64 aI.Maturity,eI .i64 cH,.mp 1,.sl 2 0 bZ.length 37 true,eI .i64 dH]))))))⟩,some ⟨33037,cX.flatMap dO⟩,some ⟨80,bZ.flatMap aF⟩,some ⟨91,aZ t⟩] (round:= ?_)
 intro m1 hr
 refine zz ?_
 refine a1c ?_
 cases hr
instance :CtC 39 false (bC @aCC):=⟨@aCC⟩
theorem rW {N t height jW r} (hr:s9 N t height jW=some r):
  Fp 60 [] [aU t,eI .i64 height,eB jW] (.sl 0 0 r.length 37 true) [some ⟨80,r.flatMap aF⟩]:=by
 refine bT func60 ntmps60 results60 fun hR=> ?_
 obtain⟨x13,h_1,q,h_2,hr⟩:=bW hr
 refine zz ?_
 refine xp (aIq h_1) ?_
 refine zz ?_
 refine bS (zQ N) (fun l0=>[(7,.sl 0 0 l0.length 37 true)]) (fun l0=>[some ⟨80,l0.flatMap aF⟩]) ?_
 obtain⟨cY,hL2,hr⟩:=aP hr
 refine zz ?_
 refine a1a<|dB hL2 (fun x17 aR=>[(1,eI .i64 height),(2,eB jW),(7,.sl 0 0 aR.length 37 true),(8,.ptr 1 0),(15,.row none 2 (t.Outputs.map cK)),(16,eI .i64 (t.Outputs.length:Int)),(17,eI .i64 x17)]) (fun x17 aR=>[some ⟨80,aR.flatMap aF⟩,some ⟨26,x13.map (eI .u8)⟩]) (h0:=(zW 80 [2,1])) (round:= ?_)
 intro m2 x17 aR hr
 refine zz ?_
 refine a1c ?_
 refine zk hr ?_ ?_<;>clear hr<;>intro h3 hr<;>refine zz ?_
 ·refine a1c<|a1a ?_
  replace hr:=aP hr
  obtain⟨x20,h_4,hr⟩:=hr
  refine zz ?_
  refine xw (v:=(.agg (aN (eI .u8) x13 [eI .u32 (a1e.wrap x17)]))) (cM rfl (aHI (ps':=[(0,.agg (aN (eI .u8) x13 [])),(1,eI .u32 (a1e.wrap x17))]) (by simp only[dE (l:=x13) (aT h_2)]<;>rfl) (jU g9 aI5 (by kernel_rfl)))) ?_
  replace hr:=aP hr
  obtain⟨x33,h_5,hr⟩:=hr
  refine zz ?_
  refine xw (v:=(.agg (aN (eI .u8) x13 [eI .u32 (a1e.wrap x17),eI .i64 x20.Value,.row none 1 (x20.Script.map (eI .u8)),eI .i64 height,eB jW]))) (cM rfl (jU pR aQ2 rfl))<|nC aF 37 [aA.mk (aB.mk x13 (a1e.wrap x17)) x20 height jW] ?_
  exact zE
 exact zE
instance :CtC 60 false (bC @rW):=⟨@rW⟩
theorem aCA {N aI cH cX bZ dH t jW r} (hr:aGL N aI cH cX bZ dH t jW=some r):
  Fp 40 [some ⟨102,(eI .u32 aI.Genesis.Version)::(aN (eI .u8) aI.Genesis.Prev (aN (eI .u8) aI.Genesis.Root ((eI .u32 aI.Genesis.Time)::((eI .u32 aI.Genesis.Bits)::((eI .u32 aI.Genesis.Nonce)::(eU (eI .u64) aI.Limit [eI .i64 aI.Window,eI .u32 aI.Spacing,eI .u32 aI.Future,eI .u32 aI.Version,.row none 33 (aI.Checkpoints.map bE),eI .i64 aI.Subsidy,eI .i64 aI.Halving,eI .i64 aI.Maturity,eI .i64 cH,.mp 1,.sl 2 0 bZ.length 37 true,eI .i64 dH]))))))⟩,some ⟨33037,cX.flatMap dO⟩,some ⟨80,bZ.flatMap aF⟩] [.ptr 0 0,aU t,eB jW] (eI .i64 r.1) [some ⟨102,(eI .u32 aI.Genesis.Version)::(aN (eI .u8) aI.Genesis.Prev (aN (eI .u8) aI.Genesis.Root ((eI .u32 aI.Genesis.Time)::((eI .u32 aI.Genesis.Bits)::((eI .u32 aI.Genesis.Nonce)::(eU (eI .u64) aI.Limit [eI .i64 aI.Window,eI .u32 aI.Spacing,eI .u32 aI.Future,eI .u32 aI.Version,.row none 33 (aI.Checkpoints.map bE),eI .i64 aI.Subsidy,eI .i64 aI.Halving,eI .i64 aI.Maturity,eI .i64 cH,.mp 1,.sl 2 0 bZ.length 37 true,eI .i64 dH]))))))⟩,some ⟨33037,r.2.flatMap dO⟩,some ⟨80,bZ.flatMap aF⟩]:=by
 refine bT func40 ntmps40 results40 fun hR=> ?_
 refine zz ?_
 refine bS (aCz N aI cH bZ dH) (fun l1=>[]) (fun l1=>[some ⟨102,(eI .u32 aI.Genesis.Version)::(aN (eI .u8) aI.Genesis.Prev (aN (eI .u8) aI.Genesis.Root ((eI .u32 aI.Genesis.Time)::((eI .u32 aI.Genesis.Bits)::((eI .u32 aI.Genesis.Nonce)::(eU (eI .u64) aI.Limit [eI .i64 aI.Window,eI .u32 aI.Spacing,eI .u32 aI.Future,eI .u32 aI.Version,.row none 33 (aI.Checkpoints.map bE),eI .i64 aI.Subsidy,eI .i64 aI.Halving,eI .i64 aI.Maturity,eI .i64 cH,.mp 1,.sl 2 0 bZ.length 37 true,eI .i64 dH]))))))⟩,some ⟨33037,l1.flatMap dO⟩,some ⟨80,bZ.flatMap aF⟩]) ?_
 refine a1c ?_
 obtain⟨x17,h_1,hr⟩:=aP hr
 refine AB.rs mixed [] [60] [[0,1,2,3,4,5,6,7,8]]<|zz ?_
 refine zg (rW h_1) [] ?_
 obtain⟨cY,hL2,hr⟩:=aP hr
 refine zz ?_
 refine a1a<|dB hL2 (fun x19 bJ=>[(0,.ptr 0 0),(17,.sl 3 0 x17.length 37 true),(18,eI .i64 (x17.length:Int)),(19,eI .i64 x19)]) (fun x19 bJ=>[some ⟨102,(eI .u32 aI.Genesis.Version)::(aN (eI .u8) aI.Genesis.Prev (aN (eI .u8) aI.Genesis.Root ((eI .u32 aI.Genesis.Time)::((eI .u32 aI.Genesis.Bits)::((eI .u32 aI.Genesis.Nonce)::(eU (eI .u64) aI.Limit [eI .i64 aI.Window,eI .u32 aI.Spacing,eI .u32 aI.Future,eI .u32 aI.Version,.row none 33 (aI.Checkpoints.map bE),eI .i64 aI.Subsidy,eI .i64 aI.Halving,eI .i64 aI.Maturity,eI .i64 cH,.mp 1,.sl 2 0 bZ.length 37 true,eI .i64 dH]))))))⟩,some ⟨33037,bJ.flatMap dO⟩,some ⟨80,bZ.flatMap aF⟩,some ⟨80,x17.flatMap aF⟩]) (round:= ?_)
 intro m2 x19 bJ hr
 refine zz ?_
 refine a1c ?_
 refine zk hr ?_ ?_<;>clear hr<;>intro h3 hr<;>refine zz ?_
 ·refine a1c<|a1a ?_
  replace hr:=aP hr
  obtain⟨x21,h_4,hr⟩:=hr
  refine zz ?_
  refine xw (v:=(aJ x21)) (cF rfl (yR (C:=aF) (K:=37) (fun _=>rfl) rfl h_4 (qJ (ds:=(aN (eI .u8) x21.Out.Tx [eI .u32 x21.Out.Index,eI .i64 x21.Output.Value,.row none 1 (x21.Output.Script.map (eI .u8)),eI .i64 x21.Height,eB x21.Coinbase])) pR rfl zl rfl))) ?_
  refine zz ?_
  refine a1c<|a1c<|AB.rs mixed [] [] [[0,1,2,3,4,5,6,7,8,9,10,11,12]] ?_
  refine zz ?_
  refine xlo x21.Out ?_
  refine zz ?_
  refine zk hr ?_ ?_<;>clear hr<;>intro h5 hr<;>refine zz ?_
  ·exact zE
  refine AB.rs mixed [] [] [[0,1,2,3,4,5,6,7]]<|zz ?_
  refine xup x21.Out x21 ?_
  exact zE
 exact zE
instance :CtC 40 false (bC @aCA):=⟨@aCA⟩
theorem zY {N p height r} (hr:tK N p height=some r):
  Fp 26 [] [cP p,eI .i64 height] (eI .i64 r) []:=by
 refine bT func26 ntmps26 results26 fun hR=> ?_
 unfold tK at hr
 refine zz ?_
 refine a1c ?_
 refine bS (rV N p height) (fun x11=>[(1,eI .i64 height),(2,.ptr 0 0),(11,eB x11)]) (fun x11=>[some ⟨34,bD p⟩]) ?_
 exact zE
instance :CtC 26 true (bC @zY):=⟨@zY⟩
theorem aDY {N va b r} (hr:qX N va b=some r):
  Fp 103 [] [aJ va,aJ b] (eI .i64 r) []:=
 jC func103 ntmps103 results103
theorem aGd {N l vI r} (hr:aHa N l vI=some r):
  Fp 21 [] [cG l,.row none 1 (vI.map (eL 1 (eI .u8)))] (.sl 0 0 r.length 37 true) [some ⟨80,r.flatMap aF⟩]:=by
 refine bT func21 ntmps21 results21 fun hR=> ?_
 refine zz ?_
 refine bS (aJW N l) (fun l1=>[(2,.ptr 0 0),(5,.mp 1)]) (fun l1=>[some ⟨44,aO l⟩,some ⟨0,l1.flatMap aLk⟩]) ?_ (body:= ?_)
 rotate_left
 ·clear hr
  intro l1 hr
  refine zz ?_
  refine bS (aKm N) (fun l0=>[(8,.sl 0 0 l0.length 37 true)]) (fun l0=>[some ⟨80,l0.flatMap aF⟩]) ?_
  obtain⟨zX,hL3,hr⟩:=aP hr
  refine zz ?_
  refine a1a<|dB hL3 (fun x25 bJ=>[(5,.mp 0),(8,.sl 1 0 bJ.length 37 true),(23,.row none 37 (l.Coins.map aJ)),(24,eI .i64 (l.Coins.length:Int)),(25,eI .i64 x25)]) (fun x25 bJ=>[some ⟨0,l1.flatMap aLk⟩,some ⟨80,bJ.flatMap aF⟩]) (h0:=(zW 80 [1,2])) (round:= ?_)
  intro m3 x25 bJ hr
  refine zz ?_
  refine a1c ?_
  refine zk hr ?_ ?_<;>clear hr<;>intro h1 hr<;>refine zz ?_
  ·refine a1c<|a1a ?_
   replace hr:=aP hr
   obtain⟨x27,h_2,hr⟩:=hr
   refine zz ?_
   refine xw (v:=(eS (gM x27.Output.Script))) (aF6 rfl (aK1 nQ ti9 nF (aHB (fun _=>rfl))))<|xlk (gM x27.Output.Script) ?_
   refine zz ?_
   obtain⟨h3,hr⟩:=aL3 hr
   refine AB.cndT rfl h3 ?_
   replace hr:=bW hr
   obtain⟨x37,h_4,x39,h_5,hr⟩:=hr
   refine zz ?_
   refine xp (lO h_4)<|nC aF 37 [x37] ?_
   exact zE
  exact zE
 obtain⟨res4,hL4,hr⟩:=aP hr
 refine zz ?_
 refine a1a<|dB hL4 (fun x14 cE=>[(2,.ptr 0 0),(5,.mp 1),(12,.row none 1 (vI.map (eL 1 (eI .u8)))),(13,eI .i64 (vI.length:Int)),(14,eI .i64 x14)]) (fun x14 cE=>[some ⟨44,aO l⟩,some ⟨0,cE.flatMap aLk⟩]) (round:= ?_)
 intro m4 x14 cE hr
 refine zz ?_
 refine a1c ?_
 refine zk hr ?_ ?_<;>clear hr<;>intro h6 hr<;>refine zz ?_
 ·refine a1c<|a1a ?_
  replace hr:=aP hr
  obtain⟨x16,h_7,hr⟩:=hr
  refine zz ?_
  refine xw (v:=(eS (gM x16))) (aF6 rfl (aK1 nQ ti9 nF (aHB (fun _=>rfl))))<|xup (gM x16) true ?_
  exact zE
 exact zE
instance :CtC 21 false (bC @aGd):=⟨@aGd⟩
theorem aEV {N l r} (hr:zN N l=some r):
  Fp 23 [] [.row none 37 (l.map aJ)] (eI .i64 r) []:=
 jC func23 ntmps23 results23
instance :CtC 23 true (bC @aEV):=⟨@aEV⟩
theorem zO {N va b r} (hr:rT N va b=some r):
  Fp 100 [] [aJ va,aJ b] (eB r) []:=by
 refine bT func100 ntmps100 results100 fun hR=> ?_
 refine zz ?_
 refine bS (lX N) (fun x4=>[(4,eB x4)]) (fun x4=>[]) ?_
 rcases a1b (fR va.Out.Tx b.Out.Tx ((va.Out.Index == b.Out.Index)&&true))with h1|h1
 ·replace hr:=kJ hr h1
  rcases a1b (va.Output.Value == b.Output.Value)with h2|h2
  ·replace hr:=kJ hr h2
   obtain⟨x26,h_3,hr⟩:=aP hr
   rcases a1b x26 with h4|h4
   ·replace hr:=kJ hr h4
    rcases a1b (va.Height == b.Height)with h5|h5
    ·replace hr:=kJ hr h5
     refine xr<|zz ?_
     refine xw (eY rfl rfl (k7 (d:=9) g9 rfl sH zl vS rfl rfl rfl rfl rfl)) ?_
     refine zz ?_
     refine xCg (v:=(eB x26)) (h':=[some ⟨80,aF va⟩,some ⟨80,aF b⟩]) rfl rfl h2 rfl (Vm.Fn.pure (sJ h_3) rfl rfl) ?_
     refine zz ?_
     refine xSg rfl rfl h5 (eY rfl rfl (aPU _ _ ti4 ..)) ?_
     refine zz ?_
     exact⟨_,hr,zG []⟩
    replace hr:=kR hr h5
    refine xr<|zz ?_
    refine xw (eY rfl rfl (k7 (d:=9) g9 rfl sH zl vS rfl rfl rfl rfl rfl)) ?_
    refine zz ?_
    refine xCg (v:=(eB x26)) (h':=[some ⟨80,aF va⟩,some ⟨80,aF b⟩]) rfl rfl h2 rfl (Vm.Fn.pure (sJ h_3) rfl rfl) ?_
    refine zz ?_
    exact⟨_,hr,zG []⟩
   replace hr:=kR hr h4
   refine xr<|zz ?_
   refine xw (eY rfl rfl (k7 (d:=9) g9 rfl sH zl vS rfl rfl rfl rfl rfl)) ?_
   refine zz ?_
   refine xCg (v:=(eB x26)) (h':=[some ⟨80,aF va⟩,some ⟨80,aF b⟩]) rfl rfl h2 rfl (Vm.Fn.pure (sJ h_3) rfl rfl) ?_
   refine zz ?_
   refine xX rfl<|xX rfl<|xX rfl<|xX rfl<|xX rfl ?_
   refine zz ?_
   exact⟨_,hr,zG []⟩
  replace hr:=kR hr h2
  refine xr<|zz ?_
  refine xw (eY rfl rfl (k7 (d:=9) g9 rfl sH zl vS rfl rfl rfl rfl rfl)) ?_
  refine zz ?_
  refine xX rfl<|xX rfl<|xX rfl<|xX rfl<|xX rfl ?_
  refine zz ?_
  refine xX rfl<|xX rfl<|xX rfl<|xX rfl<|xX rfl ?_
  refine zz ?_
  exact⟨_,hr,zG []⟩
 replace hr:=kR hr h1
 refine xr<|zz ?_
 refine xw (eY rfl rfl (k7 (d:=9) g9 rfl sH zl vS rfl rfl rfl rfl rfl)) ?_
 refine zz ?_
 refine xX rfl<|xX rfl<|xX rfl<|xX rfl<|xX rfl<|xX rfl<|xX rfl ?_
 refine zz ?_
 refine xX rfl<|xX rfl<|xX rfl<|xX rfl<|xX rfl ?_
 refine zz ?_
 refine xX rfl<|xX rfl<|xX rfl<|xX rfl<|xX rfl ?_
 refine zz ?_
 exact⟨_,hr,zG []⟩
instance :CtC 100 true (bC @zO):=⟨@zO⟩
theorem rY {N c o r} (hr:sI N c o=some r):
  Fp 152 [] [aJ c,cC o] (eI .i64 r) []:=
 jC func152 ntmps152 results152
instance :CtC 152 true (bC @rY):=⟨@rY⟩
theorem fO {N x nU r} (hr:dW N x nU=some r):
  Fp 151 [] [.row none 37 (x.map aJ),cC nU,.sc (.func (.func 152) #[] #[])] (.tup [eI .i64 r.1,eB r.2]) []:=by
 refine bT func151 ntmps151 results151 fun hR=> ?_
 refine zz ?_
 refine bS (dI N x nU) (fun vi=>[(0,.row none 37 (x.map aJ)),(2,.sc (.func (.func 152) #[] #[])),(4,.ptr 0 0),(8,eI .i64 (x.length:Int)),(9,eI .i64 vi)]) (fun vi=>[some ⟨76,bP nU⟩]) ?_ (body:= ?_)
 rotate_left
 ·clear hr
  intro vi hr
  refine bS (cN N vi) (fun x7=>[(6,eI .i64 vi),(7,eB x7)]) (fun x7=>[]) ?_
  rcases a1b (decide (vi<(x.length:Int)))with h1|h1
  ·replace hr:=kJ hr h1
   obtain⟨x43,h_2,x46,h_3,hr⟩:=bW hr
   refine AB.rs mixed [] [] [[0,1,2,3,4,5,6,7,8,9,10,11,12,13,14,15]]<|zz ?_
   refine xGt (v:=(eI .i64 x46)) (h':=[some ⟨76,bP nU⟩]) rfl rfl (Vm.Fn.pure (rY h_3) rfl rfl) ?_
   exact zE
  replace hr:=kR hr h1
  refine AB.rs mixed [] [] [[0,1,2,3,4,5,6,7,8,9,10,11,12,13,14,15]]<|zz ?_
  exact⟨_,hr,zG []⟩
 obtain⟨zX,hL3,hr⟩:=aP hr
 refine a1a<|dB hL3 (fun iV vj=>[(0,.row none 37 (x.map aJ)),(2,.sc (.func (.func 152) #[] #[])),(4,.ptr 0 0),(8,eI .i64 (x.length:Int)),(9,eI .i64 iV),(10,eI .i64 vj)]) (fun iV vj=>[some ⟨76,bP nU⟩]) (round:= ?_)
 intro m3 iV vj hr
 refine a1c<|zz ?_
 refine zk hr ?_ ?_<;>clear hr<;>intro h5 hr<;>refine zz ?_
 ·refine a1a ?_
  replace hr:=aP hr
  obtain⟨x22,h_6,hr⟩:=hr
  refine zz ?_
  refine a1c ?_
  replace hr:=bW hr
  obtain⟨x27,h_7,x30,h_8,hr⟩:=hr
  refine AB.rs mixed [] [] [[0,1,2,3,4,5,6,7]]<|zz ?_
  refine xGt (v:=(eI .i64 x30)) (h':=[some ⟨76,bP nU⟩]) rfl rfl (Vm.Fn.pure (rY h_8) rfl rfl) ?_
  exact zE
 exact zE
instance :CtC 151 true (bC @fO):=⟨@fO⟩
theorem aBw {N l o r} (hr:o9 N l o=some r):
  Fp 101 [] [cG l,cC o] (eI .i64 r) []:=
 jC func101 ntmps101 results101
instance :CtC 101 true (bC @aBw):=⟨@aBw⟩
end Go.Proofs.YtopdhljncajmpaaGreatDoor
