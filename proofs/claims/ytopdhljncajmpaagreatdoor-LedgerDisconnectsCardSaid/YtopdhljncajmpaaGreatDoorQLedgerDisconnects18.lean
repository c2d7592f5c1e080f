/- Texts of ours, joined: Wk5. -/
import Derived.Test.YtopdhljncajmpaaGreatDoorQLedgerDisconnects13
import Derived.Test.YtopdhljncajmpaaGreatDoorQLedgerDisconnects17
open List renaming replicate → a1a
open Go.IntKind renaming i64 → a1b,u8 → a1m
open Bool renaming eq_false_or_eq_true → a1c
open Go.Vm.AB renaming seq → a1d,block → a1e,seq_g → a1h,rs → a1k
open Int renaming toNat → a1f
open Go.Vm.DrawG renaming fk → a1g,p1 → a1i,ps → a1j
open Go.Vm.OpsX renaming ghost → a1l
set_option linter.unusedVariables false
set_option linter.unusedSimpArgs false
set_option maxRecDepth 20000
set_option maxHeartbeats 8000000
namespace Go.Proofs.YtopdhljncajmpaaGreatDoor
open Go Go.Vm Go.Proofs.Tryz
theorem aCN {N v nG r} (hr:aDC N v nG=some r):
  Fp 9 [] [eI .u8 v,.row none 1 (nG.map (eI .u8))] (i5 r) []:=
 jC func9 ntmps9 results9
instance :CtC 9 true (bC @aCN):=⟨@aCN⟩
theorem aAa {N p l b r} (hr:aHV N p l b=some r):
  Fp 12 [] [cP p,cG l,cW b] (.tup [cG r.1,rH r.2.1,eI .i64 r.2.2]) []:=by
 refine bT func12 ntmps12 results12 fun hR=> ?_
 refine zz ?_
 obtain⟨x26,h_1,hr⟩:=aP hr
 refine a1d<|zz ?_
 refine xp (aDe h_1) ?_
 refine zz ?_
 refine zk hr ?_ ?_<;>intro h2 hr<;>refine zz ?_
 ·exact zE
 refine xw (v:=(.agg ((eI .u32 p.Genesis.Version)::(aN (eI .u8) p.Genesis.Prev (aN (eI .u8) p.Genesis.Root ((eI .u32 p.Genesis.Time)::((eI .u32 p.Genesis.Bits)::((eI .u32 p.Genesis.Nonce)::(eU (eI .u64) p.Limit [eI .i64 p.Window,eI .u32 p.Spacing,eI .u32 p.Future,eI .u32 p.Version,.row none 33 (p.Checkpoints.map bE),eI .i64 p.Subsidy,eI .i64 p.Halving,eI .i64 p.Maturity,eI .i64 (a1b.wrap (l.Height+1)),.mp 5,.row (some true) 1 [],eI .i64 0]))))))))) (cM rfl (jU aHg aS5 rfl)) ?_
 refine zz ?_
 refine bS (aEW N p l b) (fun l5=>[(3,.ptr 0 0),(5,.ptr 1 0),(6,.ptr 2 0),(7,.ptr 3 0),(10,.ptr 4 0)]) (fun l5=>[some ⟨34,bD p⟩,some ⟨47,aQ b⟩,some ⟨44,(eI .i64 0)::(aN (eI .u8) (a1a 32 0) [.row (some true) 1 []])⟩,some ⟨54,[.row (some true) 1 []]⟩,some ⟨102,(eI .u32 p.Genesis.Version)::(aN (eI .u8) p.Genesis.Prev (aN (eI .u8) p.Genesis.Root ((eI .u32 p.Genesis.Time)::((eI .u32 p.Genesis.Bits)::((eI .u32 p.Genesis.Nonce)::(eU (eI .u64) p.Limit [eI .i64 p.Window,eI .u32 p.Spacing,eI .u32 p.Future,eI .u32 p.Version,.row none 33 (p.Checkpoints.map bE),eI .i64 p.Subsidy,eI .i64 p.Halving,eI .i64 p.Maturity,eI .i64 (a1b.wrap (l.Height+1)),.mp 5,.row (some true) 1 [],eI .i64 0]))))))⟩,some ⟨33037,l5.flatMap dO⟩]) ?_ (body:= ?_)
 rotate_left
 ·clear hr
  intro l5 hr
  refine bS (aE4 N p l b) (fun fD=>[(3,.ptr 0 0),(5,.ptr 1 0),(6,.ptr 2 0),(7,.ptr 3 0),(10,.ptr 4 0)]) (fun fD=>[some ⟨34,bD p⟩,some ⟨47,aQ b⟩,some ⟨44,(eI .i64 0)::(aN (eI .u8) (a1a 32 0) [.row (some true) 1 []])⟩,some ⟨54,[.row (some true) 1 []]⟩,some ⟨102,(eI .u32 p.Genesis.Version)::(aN (eI .u8) p.Genesis.Prev (aN (eI .u8) p.Genesis.Root ((eI .u32 p.Genesis.Time)::((eI .u32 p.Genesis.Bits)::((eI .u32 p.Genesis.Nonce)::(eU (eI .u64) p.Limit [eI .i64 p.Window,eI .u32 p.Spacing,eI .u32 p.Future,eI .u32 p.Version,.row none 33 (p.Checkpoints.map bE),eI .i64 p.Subsidy,eI .i64 p.Halving,eI .i64 p.Maturity,eI .i64 (a1b.wrap (l.Height+1)),.mp 5,.sl 6 0 (([]:List aA).length) 37 true,eI .i64 0]))))))⟩,some ⟨33037,fD.flatMap dO⟩,some ⟨80,([]:List aA).flatMap aF⟩]) ?_ (body:= ?_)
  rotate_left
  ·clear hr
   intro fD hr
   refine zz ?_
   refine bS (aEZ N p l b fD) (fun dJ=>[(3,.ptr 0 0),(5,.ptr 1 0),(6,.ptr 2 0),(7,.ptr 3 0),(10,.ptr 4 0),(17,eI .i64 dJ)]) (fun dJ=>[some ⟨34,bD p⟩,some ⟨47,aQ b⟩,some ⟨44,(eI .i64 0)::(aN (eI .u8) (a1a 32 0) [.row (some true) 1 []])⟩,some ⟨54,[.row (some true) 1 []]⟩,some ⟨102,(eI .u32 p.Genesis.Version)::(aN (eI .u8) p.Genesis.Prev (aN (eI .u8) p.Genesis.Root ((eI .u32 p.Genesis.Time)::((eI .u32 p.Genesis.Bits)::((eI .u32 p.Genesis.Nonce)::(eU (eI .u64) p.Limit [eI .i64 p.Window,eI .u32 p.Spacing,eI .u32 p.Future,eI .u32 p.Version,.row none 33 (p.Checkpoints.map bE),eI .i64 p.Subsidy,eI .i64 p.Halving,eI .i64 p.Maturity,eI .i64 (a1b.wrap (l.Height+1)),.mp 5,.sl 6 0 (([]:List aA).length) 37 true,eI .i64 0]))))))⟩,some ⟨33037,fD.flatMap dO⟩,some ⟨80,([]:List aA).flatMap aF⟩]) ?_ (body:= ?_)
   rotate_left
   ·clear hr
    intro dJ hr
    refine a1d<|a1d ?_
    obtain⟨aCl,h_3,hr⟩:=aP hr
    refine a1k mixed [26] [] [[0,1,2,3,4,5,6,7,8,9,10,11,12]]<|zz ?_
    refine xu (zY h_3) ?_
    refine zz ?_
    refine zk hr ?_ ?_<;>intro h5 hr
    ·exact zE
    obtain⟨aFP,h_6,hr⟩:=aP hr
    refine zz ?_
    refine zc (aIA h_6) [4,5,6] ?_
    refine zz ?_
    obtain⟨aX6,h_7,hr⟩:=aP hr
    refine a1d<|zz ?_
    refine xp (aBl h_7) ?_
    refine zz ?_
    refine zk hr ?_ ?_<;>intro h8 hr<;>refine zz ?_
    ·exact zE
    refine a1d<|zz ?_
    refine zk hr ?_ ?_<;>intro h9 hr<;>refine zz ?_
    ·exact zE
    refine a1d ?_
    obtain⟨aMn,h_10,q,h_12,hr⟩:=bW hr
    refine AB.rd (cD [43]) (cD []) mixed<|a1j (m:=5) [0,1,2,3,4,5,6,7,8,9,10,11] ?_
    refine zz ?_
    refine xu (aAK h_10) ?_
    refine zz ?_
    refine xw (v:=(.agg ((eI .i64 (a1b.wrap (l.Height+1)))::(aN (eI .u8) aMn [.row none 37 (aFP.map aJ)])))) (cM rfl (aHI (ps':=[(0,eI .i64 (a1b.wrap (l.Height+1))),(1,.agg (aN (eI .u8) aMn [])),(2,.row none 37 (aFP.map aJ))]) (by simp only[dE (l:=aMn) (aT h_12)]<;>rfl) (jU zZ aF5 (by kernel_rfl)))) ?_
    refine zz ?_
    refine DrawG.jn (m:=2) (L:=lst [0,1,2,3,4,5,6,7,8,9,10,11,12,13,14] 17) (s1:=aG 143 [(6,.ptr 0 0),(7,.ptr 1 0),(142,.agg [.sl 2 0 (([]:List aA).length) 37 true])]) (h1:=[some ⟨44,(eI .i64 (a1b.wrap (l.Height+1)))::(aN (eI .u8) aMn [.row none 37 (aFP.map aJ)])⟩,some ⟨54,[.row (some true) 1 []]⟩,some ⟨80,([]:List aA).flatMap aF⟩]) ?_ (fun J=> ?_)
    ·refine a1j (m:=0) [15,16]<|zz ?_
     refine DrawG.nil (by decide +kernel) ?_
     exact zE
    refine a1g (n:=4) [12,14] ⟨?_, ?_,trivial⟩
    ·refine zz ?_
     refine a1j (m:=2) [13,14]<|zz ?_
     refine DrawG.jh J ?_
     exact(zG [2,3,6])
    refine zz ?_
    refine a1j (m:=2) [12,13]<|zz ?_
    refine DrawG.jh J ?_
    exact(zG [2,3,6])
   obtain⟨x85,h_13,res4,hL4,hr⟩:=bW hr
   refine zz ?_
   exact a1e<|dB hL4 (fun made_1 x89=>[(3,.ptr 0 0),(5,.ptr 1 0),(6,.ptr 2 0),(7,.ptr 3 0),(10,.ptr 4 0),(17,eI .i64 made_1),(87,.row none 2 (x85.Outputs.map cK)),(88,eI .i64 (x85.Outputs.length:Int)),(89,eI .i64 x89)]) (fun made_1 x89=>[some ⟨34,bD p⟩,some ⟨47,aQ b⟩,some ⟨44,(eI .i64 0)::(aN (eI .u8) (a1a 32 0) [.row (some true) 1 []])⟩,some ⟨54,[.row (some true) 1 []]⟩,some ⟨102,(eI .u32 p.Genesis.Version)::(aN (eI .u8) p.Genesis.Prev (aN (eI .u8) p.Genesis.Root ((eI .u32 p.Genesis.Time)::((eI .u32 p.Genesis.Bits)::((eI .u32 p.Genesis.Nonce)::(eU (eI .u64) p.Limit [eI .i64 p.Window,eI .u32 p.Spacing,eI .u32 p.Future,eI .u32 p.Version,.row none 33 (p.Checkpoints.map bE),eI .i64 p.Subsidy,eI .i64 p.Halving,eI .i64 p.Maturity,eI .i64 (a1b.wrap (l.Height+1)),.mp 5,.sl 6 0 (([]:List aA).length) 37 true,eI .i64 0]))))))⟩,some ⟨33037,fD.flatMap dO⟩,some ⟨80,([]:List aA).flatMap aF⟩])
  obtain⟨res5,hL5,hr⟩:=aP hr
  refine zz ?_
  refine a1e<|dB hL5 (fun x57 tE=>[(3,.ptr 0 0),(5,.ptr 1 0),(6,.ptr 2 0),(7,.ptr 3 0),(10,.ptr 4 0),(55,.row none 4 (b.Txs.map aU)),(56,eI .i64 (b.Txs.length:Int)),(57,eI .i64 x57)]) (fun x57 tE=>[some ⟨34,bD p⟩,some ⟨47,aQ b⟩,some ⟨44,(eI .i64 0)::(aN (eI .u8) (a1a 32 0) [.row (some true) 1 []])⟩,some ⟨54,[.row (some true) 1 []]⟩,some ⟨102,(eI .u32 p.Genesis.Version)::(aN (eI .u8) p.Genesis.Prev (aN (eI .u8) p.Genesis.Root ((eI .u32 p.Genesis.Time)::((eI .u32 p.Genesis.Bits)::((eI .u32 p.Genesis.Nonce)::(eU (eI .u64) p.Limit [eI .i64 p.Window,eI .u32 p.Spacing,eI .u32 p.Future,eI .u32 p.Version,.row none 33 (p.Checkpoints.map bE),eI .i64 p.Subsidy,eI .i64 p.Halving,eI .i64 p.Maturity,eI .i64 (a1b.wrap (l.Height+1)),.mp 5,.sl 6 0 (([]:List aA).length) 37 true,eI .i64 0]))))))⟩,some ⟨33037,tE.flatMap dO⟩,some ⟨80,([]:List aA).flatMap aF⟩]) (h0:=(Ghost.trans (Ghost.virt (fr':=[(3,.ptr 0 0),(5,.ptr 1 0),(6,.ptr 2 0),(7,.ptr 3 0),(10,.ptr 4 0),(55,.row none 4 (b.Txs.map aU)),(56,eI .i64 (b.Txs.length:Int)),(57,eI .i64 0)]) (h1:=[some ⟨34,bD p⟩,some ⟨47,aQ b⟩,some ⟨44,(eI .i64 0)::(aN (eI .u8) (a1a 32 0) [.row (some true) 1 []])⟩,some ⟨54,[.row (some true) 1 []]⟩,some ⟨102,(eI .u32 p.Genesis.Version)::(aN (eI .u8) p.Genesis.Prev (aN (eI .u8) p.Genesis.Root ((eI .u32 p.Genesis.Time)::((eI .u32 p.Genesis.Bits)::((eI .u32 p.Genesis.Nonce)::(eU (eI .u64) p.Limit [eI .i64 p.Window,eI .u32 p.Spacing,eI .u32 p.Future,eI .u32 p.Version,.row none 33 (p.Checkpoints.map bE),eI .i64 p.Subsidy,eI .i64 p.Halving,eI .i64 p.Maturity,eI .i64 (a1b.wrap (l.Height+1)),.mp 5,.sl 6 0 0 37 true,eI .i64 0]))))))⟩,some ⟨33037,l5.flatMap dO⟩]) 80 (FLe.same rfl (FLe.same rfl (FLe.same rfl (FLe.same rfl (FLe.same rfl (FLe.same rfl (FLe.same rfl (FLe.same rfl FLe.nil)))))))) (HLv.live (V.les_refl _ _) rfl (HLv.live (V.les_refl _ _) rfl (HLv.live (V.les_refl _ _) rfl (HLv.live (V.les_refl _ _) rfl (HLv.live (V.les_cons (V.le_refl _ _) (aL0 (aL0 (V.les_cons (V.le_refl _ _) (V.les_cons (V.le_refl _ _) (V.les_cons (V.le_refl _ _) (aRM (V.les_cons (V.le_refl _ _) (V.les_cons (V.le_refl _ _) (V.les_cons (V.le_refl _ _) (V.les_cons (V.le_refl _ _) (V.les_cons (V.le_refl _ _) (V.les_cons (V.le_refl _ _) (V.les_cons (V.le_refl _ _) (V.les_cons (V.le_refl _ _) (V.les_cons (V.le_refl _ _) (V.les_cons (V.le_refl _ _) (V.les_cons (V.le_virt rfl) (V.les_cons (V.le_refl _ _) V.les_nil))))))))))))))))))) rfl (HLv.live (V.les_refl _ _) (rP (fun _=>rfl) _) HLv.nil))))))) (zg' [0,1,2,3,4,5,6]))) (round:= ?_)
  intro m5 x57 tE hr
  refine zz ?_
  refine a1d ?_
  refine zk hr ?_ ?_<;>clear hr<;>intro h16 hr<;>refine zz ?_
  ·refine a1d<|a1e ?_
   replace hr:=aP hr
   obtain⟨x60,h_17,hr⟩:=hr
   refine zz ?_
   refine hP (zS N p l b x57 tE x60 (r5 N p l b m5)) [(3,.ptr 0 0),(5,.ptr 1 0),(6,.ptr 2 0),(7,.ptr 3 0),(10,.ptr 4 0),(13,eI .i64 x57),(14,.ptr 5 0),(55,.row none 4 (b.Txs.map aU)),(56,eI .i64 (b.Txs.length:Int)),(57,eI .i64 x57)] [some ⟨34,bD p⟩,some ⟨47,aQ b⟩,some ⟨44,(eI .i64 0)::(aN (eI .u8) (a1a 32 0) [.row (some true) 1 []])⟩,some ⟨54,[.row (some true) 1 []]⟩,some ⟨102,(eI .u32 p.Genesis.Version)::(aN (eI .u8) p.Genesis.Prev (aN (eI .u8) p.Genesis.Root ((eI .u32 p.Genesis.Time)::((eI .u32 p.Genesis.Bits)::((eI .u32 p.Genesis.Nonce)::(eU (eI .u64) p.Limit [eI .i64 p.Window,eI .u32 p.Spacing,eI .u32 p.Future,eI .u32 p.Version,.row none 33 (p.Checkpoints.map bE),eI .i64 p.Subsidy,eI .i64 p.Halving,eI .i64 p.Maturity,eI .i64 (a1b.wrap (l.Height+1)),.mp 6,.sl 7 0 (([]:List aA).length) 37 true,eI .i64 0]))))))⟩,some ⟨91,aZ x60⟩,some ⟨33037,tE.flatMap dO⟩,some ⟨80,([]:List aA).flatMap aF⟩] ?_
   exact zE
  exact zE
 obtain⟨res7,hL7,hr⟩:=aP hr
 refine zz ?_
 refine a1e<|dB hL7 (fun x42 l5_3=>[(3,.ptr 0 0),(5,.ptr 1 0),(6,.ptr 2 0),(7,.ptr 3 0),(10,.ptr 4 0),(40,.row none 37 (l.Coins.map aJ)),(41,eI .i64 (l.Coins.length:Int)),(42,eI .i64 x42)]) (fun x42 l5_3=>[some ⟨34,bD p⟩,some ⟨47,aQ b⟩,some ⟨44,(eI .i64 0)::(aN (eI .u8) (a1a 32 0) [.row (some true) 1 []])⟩,some ⟨54,[.row (some true) 1 []]⟩,some ⟨102,(eI .u32 p.Genesis.Version)::(aN (eI .u8) p.Genesis.Prev (aN (eI .u8) p.Genesis.Root ((eI .u32 p.Genesis.Time)::((eI .u32 p.Genesis.Bits)::((eI .u32 p.Genesis.Nonce)::(eU (eI .u64) p.Limit [eI .i64 p.Window,eI .u32 p.Spacing,eI .u32 p.Future,eI .u32 p.Version,.row none 33 (p.Checkpoints.map bE),eI .i64 p.Subsidy,eI .i64 p.Halving,eI .i64 p.Maturity,eI .i64 (a1b.wrap (l.Height+1)),.mp 5,.row (some true) 1 [],eI .i64 0]))))))⟩,some ⟨33037,l5_3.flatMap dO⟩]) (round:= ?_)
 intro m7 x42 l5_3 hr
 refine zz ?_
 refine a1d ?_
 refine zk hr ?_ ?_<;>clear hr<;>intro h23 hr<;>refine zz ?_
 ·refine a1d<|a1e ?_
  replace hr:=aP hr
  obtain⟨x44,h_24,hr⟩:=hr
  refine zz ?_
  refine a1k mixed [] [] [[0,1,2,3,4,5,6,7]]<|zz ?_
  refine xup x44.Out x44 ?_
  exact zE
 exact zE
instance :CtC 12 true (bC @aAa):=⟨@aAa⟩
theorem aEp {N p l r} (hr:aFw N p l=some r):
  Fp 18 [] [cP p,.row none 69 (l.map cW)] (.tup [cG r.1,.sl 0 0 r.2.1.length 1 true,eI .i64 r.2.2.1,eI .i64 r.2.2.2]) [some ⟨54,r.2.1.flatMap bK⟩]:=by
 refine bT func18 ntmps18 results18 fun hR=> ?_
 obtain⟨x18,h_1,hr⟩:=aP hr
 refine zz ?_
 refine xp (aBL h_1) ?_
 refine zz ?_
 refine a1d<|zz ?_
 obtain⟨h2,hr⟩:=cutF hr
 refine AB.cndF rfl h2 ?_
 refine zz ?_
 refine sk4 (aJK N l) (fun c1 aCO aSR l2=>[(1,.row none 69 (l.map cW)),(4,.ptr 0 0),(8,.ptr 1 0),(10,.sl 2 0 l2.length 1 true)]) (fun c1 aCO aSR l2=>[some ⟨44,(eI .i64 0)::(aN (eI .u8) (a1a 32 0) [.row (some true) 1 []])⟩,some ⟨44,(eI .i64 c1)::(aN (eI .u8) aCO [.row none 37 (aSR.map aJ)])⟩,some ⟨54,l2.flatMap bK⟩]) ?_
 obtain⟨cY,hL2,hr⟩:=aP hr
 refine zz ?_
 refine a1e<|lp5 hL2 (fun x27 c2 c2_1 c2_2 l3=>[(1,.row none 69 (l.map cW)),(2,.ptr 0 0),(4,.ptr 1 0),(8,.ptr 2 0),(10,.sl 3 0 l3.length 1 true),(25,.row none 69 (l.map cW)),(26,eI .i64 (l.length:Int)),(27,eI .i64 x27)]) (fun x27 c2 c2_1 c2_2 l3=>[some ⟨34,bD p⟩,some ⟨44,(eI .i64 0)::(aN (eI .u8) (a1a 32 0) [.row (some true) 1 []])⟩,some ⟨44,(eI .i64 c2)::(aN (eI .u8) c2_1 [.row none 37 (c2_2.map aJ)])⟩,some ⟨54,l3.flatMap bK⟩]) (h0:=(zW 54 [0,1,2,3])) (round:= ?_)
 intro m2 x27 c2 c2_1 c2_2 l3 hr
 refine zz ?_
 refine a1d ?_
 refine zk hr ?_ ?_<;>clear hr<;>intro h3 hr<;>refine zz ?_
 ·refine a1d<|a1e ?_
  replace hr:=bW hr
  obtain⟨x30,h_4,x36,h_5,hr⟩:=hr
  refine zz ?_
  refine xp (aAa h_5) ?_
  refine zz ?_
  refine a1d<|zz ?_
  obtain⟨h6,hr⟩:=cutF hr
  refine AB.cndF rfl h6 ?_
  replace hr:=aP hr
  obtain⟨x50,h_7,hr⟩:=hr
  refine zz ?_
  refine nC bK 1 [x36.2.1] ?_
  exact zE
 exact zE
instance :CtC 18 false (bC @aEp):=⟨@aEp⟩
theorem aEv {N r} (hr:yP N=some r):
  Fp 8 [] [] (eB r) []:=by
 refine bT func8 ntmps8 results8 fun hR=> ?_
 obtain⟨x8,h_1,hr⟩:=aP hr
 refine zz ?_
 refine a1l (zv 0) ?_
 refine xp (aEu h_1) ?_
 obtain⟨x14,h_2,hr⟩:=aP hr
 refine zz ?_
 refine zc (aEp h_2) [] ?_
 refine zz ?_
 refine a1d ?_
 obtain⟨x20,h_3,x22,h_5,hr⟩:=bW hr
 refine a1k mixed [20] [21] [[0,1,2],[3,4]]<|zz ?_
 refine xu (oT h_3) ?_
 refine zz ?_
 refine⟨_,_,zv 4, ?_⟩
 refine zg (aGd h_5) [] ?_
 refine zz ?_
 obtain⟨h7,hr⟩:=aL3 hr
 obtain⟨h8,hr⟩:=aL3 hr
 obtain⟨h9,hr⟩:=aL3 hr
 obtain⟨h10,hr⟩:=aL3 hr
 obtain⟨x41,h_11,hr⟩:=aP hr
 obtain⟨h12,hr⟩:=aL3 hr
 obtain⟨x47,h_13,hr⟩:=aP hr
 refine xq ?_
 refine zz ?_
 refine xSg (v:=(eB x41.Coinbase)) rfl rfl h10 (cF rfl (aNT (C:=aF) (K:=37) (off:=36) (fun _=>rfl) rfl h_11 zl (nY ti4 rfl rfl))) ?_
 exact zE
instance :CtC 8 true (bC @aEv):=⟨@aEv⟩
theorem w8 {N l b u dJ r} (hr:wF N l b u dJ=some r):
  Fp 61 [some ⟨33037,dJ.flatMap dO⟩] [cG l,cW b,rH u,.mp 0] (.tup [.sl 1 0 r.1.length 37 true,eB r.2]) [some ⟨33037,dJ.flatMap dO⟩,some ⟨80,r.1.flatMap aF⟩]:=by
 refine bT func61 ntmps61 results61 fun hR=> ?_
 refine zz ?_
 refine sk3 (yI N l u dJ) (fun vn l3 l4=>[(3,.mp 0),(4,.ptr 1 0),(6,.ptr 2 0),(10,.sl 3 0 l3.length 37 true),(11,eI .i64 vn),(12,.mp 4)]) (fun vn l3 l4=>[some ⟨33037,dJ.flatMap dO⟩,some ⟨44,aO l⟩,some ⟨54,bK u⟩,some ⟨80,l3.flatMap aF⟩,some ⟨33000,l4.flatMap uA⟩]) ?_ (body:= ?_)
 rotate_left
 ·clear hr
  intro vn l3 l4 hr
  refine hP (xI N u dJ vn l3) [(6,.ptr 1 0),(10,.sl 2 0 l3.length 37 true),(11,eI .i64 vn)] [some ⟨33037,dJ.flatMap dO⟩,some ⟨54,bK u⟩,some ⟨80,l3.flatMap aF⟩] ?_
  obtain⟨q,hM1,hr⟩:=aP hr
  refine AB.mall (pre:=[_]) (rest:=[_,_,_,_,_,_]) (t9:=101) (t10:=102) (t11:=103) (t12:=104) (t13:=105) (mt:=100) (n:=132) (b:=0) (fr:=[(3,.mp 0),(4,.ptr 1 0),(6,.ptr 2 0),(10,.sl 3 0 l3.length 37 true),(11,eI .i64 vn),(12,.mp 4),(101,.mp 0)]) ⟨rfl,rfl,rfl⟩ ⟨rfl,rfl,rfl⟩ ⟨rfl,rfl,rfl⟩ ⟨rfl,rfl,rfl⟩ (by decide) [(8,.row (some true) 1 []),(9,eB false)] ⟨[],0⟩ hM1 ?_ (by decide) rfl rfl (fun _=>rfl) ?_ (fun hq=> ?_) (fun hq rit=> ?_)
  ·exact PreW.cons aE6 (sv (aPX rfl)) (by rw[aDa];exact PreW.nil ⟨rfl,rfl⟩)
  ·intro e he bb hr' _ rit
   have hr:(if mR kH l4 e.1 false=true then some true else(o9 N l e.1).bind fun vO=>if decide (vO<0)=true then some false else(bB l.Coins vO).bind fun z7=>(rT N z7 e.2).bind fun aJe=>if(!aJe)=true then some false else some true)=some bb:=hr'
   clear hr'
   refine OpsX.hide fun K' hK'=>zz ?_
   refine hK' _ _ (a1d<|a1d<|zz ?_)
   refine xlk e.1<|zz ?_
   refine zk hr ?_ ?_<;>intro h2 hr<;>refine zz ?_
   ·replace hr:=sj hr
    subst hr
    exact⟨_,_,zG [0,1,2,3,4],.inl ⟨rfl,.inr rfl,rfl,rfl⟩⟩
   obtain⟨vO,h_1,hr⟩:=aP hr
   refine xp (aBw h_1)<|zz ?_
   rcases a1c (decide (vO<0))with h3|h3
   ·replace hr:=kJ hr h3
    replace hr:=sj hr
    subst hr
    refine a1d<|a1k mixed [100] [] [[0,1,2,3,4,5,6,7,8,9,10,11]]<|zz ?_
    (refine AB.cndT rfl rfl<|zz ?_)
    exact⟨_,_,zG [0,1,2,3,4],.inr ⟨rfl,rfl,rfl,rfl⟩⟩
   replace hr:=kR hr h3
   obtain⟨z7,h_2,aJe,h_3,hr⟩:=bW hr
   refine a1d<|a1k mixed [100] [] [[0,1,2,3,4,5,6,7,8,9,10,11]]<|zz ?_
   (refine xu (zO h_3)<|zz ?_)
   refine zk hr ?_ ?_<;>intro h4 hr<;>obtain rfl:=sj hr<;>refine zz ?_
   ·exact⟨_,_,zG [0,1,2,3,4],.inr ⟨rfl,rfl,rfl,rfl⟩⟩
   exact⟨_,_,zG [0,1,2,3,4],.inl ⟨rfl,.inl rfl,rfl,rfl⟩⟩
  ·replace hr:=kR hr hq
   refine zz ?_
   replace hr:=sj hr
   subst hr
   exact xZ Tryz.results61 fA fA (zW 80 [0,5])
  replace hr:=kJ hr hq
  exact zE
 obtain⟨x26,h_2,zX,hL3,hr⟩:=bW hr
 refine zz ?_
 refine a1e<|lp4 hL3 (fun vn_1 x28 dA dN=>[(3,.mp 0),(4,.ptr 1 0),(6,.ptr 2 0),(10,.sl 3 0 dA.length 37 true),(11,eI .i64 vn_1),(12,.mp 4),(26,.row none 4 (x26.map aU)),(27,eI .i64 (x26.length:Int)),(28,eI .i64 x28)]) (fun vn_1 x28 dA dN=>[some ⟨33037,dJ.flatMap dO⟩,some ⟨44,aO l⟩,some ⟨54,bK u⟩,some ⟨80,dA.flatMap aF⟩,some ⟨33000,dN.flatMap uA⟩]) (h0:=(zW 80 [0,1,3,5,4])) (round:= ?_)
 intro m3 vn_1 x28 dA dN hr
 refine zz ?_
 refine a1d ?_
 refine zk hr ?_ ?_<;>clear hr<;>intro h3 hr<;>refine zz ?_
 ·refine sk3 (yM N l u dJ x26 x28 (eM N l u dJ x26 m3)) (fun aSv fN mT=>[(3,.mp 0),(4,.ptr 1 0),(6,.ptr 2 0),(10,.sl 3 0 fN.length 37 true),(11,eI .i64 aSv),(12,.mp 4),(26,.row none 4 (x26.map aU)),(27,eI .i64 (x26.length:Int)),(28,eI .i64 x28)]) (fun aSv fN mT=>[some ⟨33037,dJ.flatMap dO⟩,some ⟨44,aO l⟩,some ⟨54,bK u⟩,some ⟨80,fN.flatMap aF⟩,some ⟨33000,mT.flatMap uA⟩]) ?_
  refine a1e ?_
  replace hr:=bW hr
  obtain⟨x30,h_4,res5,hL5,hr⟩:=hr
  refine zz ?_
  refine a1e<|lp4 hL5 (fun mY x35 iD iE=>[(3,.mp 0),(4,.ptr 1 0),(6,.ptr 2 0),(10,.sl 3 0 iD.length 37 true),(11,eI .i64 mY),(12,.mp 4),(26,.row none 4 (x26.map aU)),(27,eI .i64 (x26.length:Int)),(28,eI .i64 x28),(33,.row none 35 (x30.Inputs.map bQ)),(34,eI .i64 (x30.Inputs.length:Int)),(35,eI .i64 x35)]) (fun mY x35 iD iE=>[some ⟨33037,dJ.flatMap dO⟩,some ⟨44,aO l⟩,some ⟨54,bK u⟩,some ⟨80,iD.flatMap aF⟩,some ⟨33000,iE.flatMap uA⟩]) (round:= ?_)
  intro m5 mY x35 iD iE hr
  refine zz ?_
  refine a1d ?_
  refine zk hr ?_ ?_<;>clear hr<;>intro h5 hr<;>refine zz ?_
  ·refine sk2 (mU N l u dJ x26 x28 x30 mY x35 (dS N l u dJ x26 x28 x30 m5)) (fun aCH aGM=>[(3,.mp 0),(4,.ptr 1 0),(6,.ptr 2 0),(10,.sl 3 0 aCH.length 37 true),(11,eI .i64 (a1b.wrap (mY+1))),(12,.mp 4),(26,.row none 4 (x26.map aU)),(27,eI .i64 (x26.length:Int)),(28,eI .i64 x28),(33,.row none 35 (x30.Inputs.map bQ)),(34,eI .i64 (x30.Inputs.length:Int)),(35,eI .i64 x35)]) (fun aCH aGM=>[some ⟨33037,dJ.flatMap dO⟩,some ⟨44,aO l⟩,some ⟨54,bK u⟩,some ⟨80,aCH.flatMap aF⟩,some ⟨33000,aGM.flatMap uA⟩]) ?_
   refine a1e ?_
   replace hr:=aP hr
   obtain⟨x37,h_6,hr⟩:=hr
   refine zz ?_
   refine a1d ?_
   refine bS (rG N l u dJ x26 x28 x30 mY x35 iD iE (dS N l u dJ x26 x28 x30 m5)) (fun x54=>[(3,.mp 0),(4,.ptr 1 0),(6,.ptr 2 0),(10,.sl 3 0 iD.length 37 true),(11,eI .i64 mY),(12,.mp 4),(26,.row none 4 (x26.map aU)),(27,eI .i64 (x26.length:Int)),(28,eI .i64 x28),(33,.row none 35 (x30.Inputs.map bQ)),(34,eI .i64 (x30.Inputs.length:Int)),(35,eI .i64 x35),(54,eB x54)]) (fun x54=>[some ⟨33037,dJ.flatMap dO⟩,some ⟨44,aO l⟩,some ⟨54,bK u⟩,some ⟨80,iD.flatMap aF⟩,some ⟨33000,iE.flatMap uA⟩]) ?_ (body:= ?_)
   rotate_left
   ·clear hr
    intro x54 hr
    refine zk hr ?_ ?_<;>clear hr<;>intro h7 hr
    ·refine zz ?_
     replace hr:=sj hr
     subst hr
     replace hr:=sj hr
     subst hr
     replace hr:=sj hr
     subst hr
     exact xZ Tryz.results61 fA fA (zW 80 [0,5])
    replace hr:=aP hr
    obtain⟨x58,h_8,hr⟩:=hr
    refine zz ?_
    refine a1d<|zz ?_
    refine xlo x58.Out ?_
    refine zz ?_
    refine zk hr ?_ ?_<;>clear hr<;>intro h9 hr
    ·replace hr:=aP hr
     obtain⟨x72,h_10,hr⟩:=hr
     refine a1d<|zz ?_
     refine xp (zO h_10) ?_
     refine zz ?_
     refine zk hr ?_ ?_<;>clear hr<;>intro h11 hr<;>refine zz ?_
     ·replace hr:=sj hr
      subst hr
      replace hr:=sj hr
      subst hr
      replace hr:=sj hr
      subst hr
      exact xZ Tryz.results61 fA fA (zW 80 [0,7])
     refine xup x58.Out true ?_
     exact zE
    refine zz ?_
    refine a1d ?_
    refine bS (kB N l u dJ x26 x28 x30 mY x35 iD iE x58 (dS N l u dJ x26 x28 x30 m5)) (fun x93=>[(3,.mp 0),(4,.ptr 1 0),(6,.ptr 2 0),(10,.sl 3 0 iD.length 37 true),(11,eI .i64 (a1b.wrap (mY+1))),(12,.mp 4),(17,.ptr 5 0),(26,.row none 4 (x26.map aU)),(27,eI .i64 (x26.length:Int)),(28,eI .i64 x28),(33,.row none 35 (x30.Inputs.map bQ)),(34,eI .i64 (x30.Inputs.length:Int)),(35,eI .i64 x35),(93,eB x93)]) (fun x93=>[some ⟨33037,dJ.flatMap dO⟩,some ⟨44,aO l⟩,some ⟨54,bK u⟩,some ⟨80,iD.flatMap aF⟩,some ⟨33000,iE.flatMap uA⟩,some ⟨80,aF x58⟩]) ?_ (body:= ?_)
    rotate_left
    ·clear hr
     intro x93 hr
     refine zk hr ?_ ?_<;>clear hr<;>intro h12 hr
     ·refine zz ?_
      replace hr:=sj hr
      subst hr
      replace hr:=sj hr
      subst hr
      replace hr:=sj hr
      subst hr
      exact xZ Tryz.results61 fA fA (zW 80 [0,6])
     replace hr:=bW hr
     obtain⟨x96,h_13,x98,h_14,hr⟩:=hr
     refine zz ?_
     refine xp (lO h_13)<|nC aF 37 [x96] ?_
     exact zE
    exact zE
   rcases a1c (decide ((u.Spent.length:Int)≤mY))with h18|h18
   ·replace hr:=kJ hr h18
    refine a1k mixed [] [] [[0,1,2,3,4,5,6,7,8,9,10,11,12,13,14,15]]<|zz ?_
    exact⟨_,hr,zG [0,1,2,3,4]⟩
   replace hr:=kR hr h18
   replace hr:=aP hr
   obtain⟨x48,h_19,hr⟩:=hr
   refine a1k mixed [] [] [[0,1,2,3,4,5,6,7,8,9,10,11,12,13,14,15]]<|zz ?_
   refine xSg (v:=(eB (!(fR x48.Out.Tx x37.Prev.Tx ((x48.Out.Index == x37.Prev.Index)&&true))))) rfl rfl h18 (eY rfl rfl (aI3 (d:=9) g9 rfl sH zl vS rfl rfl rfl rfl rfl)) ?_
   exact zE
  exact zE
 exact zE
instance :CtC 61 false (bC @w8):=⟨@w8⟩
theorem uK {N l b u r} (hr:nW N l b u=some r):
  Vm.Fn Tryz.prog 27 [] [cG l,cW b,rH u] (.tup [.agg ((eI .i64 r.1)::(aN (eI .u8) r.2.1 [.sl 0 0 r.2.2.1.length 37 true])),eI .i64 r.2.2.2]) [some ⟨80,r.2.2.1.flatMap aF⟩]:=by
 refine zf Tryz.func27 Tryz.ntmps27 ?_
 unfold nW at hr
 refine zz ?_
 obtain⟨x22,h_1,hr⟩:=aP hr
 refine a1d<|zz ?_
 refine xp (wU h_1) ?_
 refine zz ?_
 refine zk hr ?_ ?_<;>intro h2 hr<;>refine zz ?_
 ·refine xw (v:=(.agg ((eI .i64 0)::(aN (eI .u8) (a1a 32 0) [.row (some true) 1 []])))) (cM rfl (jU zZ aF5 rfl)) ?_
  refine zz ?_
  obtain rfl:=sj hr
  exact xZ Tryz.results27 fA fA (zW 80 [4])
 refine a1d ?_
 refine a1h fun K1 hK1 hG1=> ?_
 have J1: ∀x35,iS N l b u x35=some r→K1 (aG 117 [(3,.ptr 0 0),(4,.ptr 1 0),(5,.ptr 2 0),(6,.ptr 3 0),(35,eB x35)]) [some ⟨44,aO l⟩,some ⟨47,aQ b⟩,some ⟨54,bK u⟩,some ⟨44,(eI .i64 0)::(aN (eI .u8) (a1a 32 0) [.row (some true) 1 []])⟩]:=by
  intro x35 hr
  unfold iS at hr
  refine hK1 ?_
  refine zk hr ?_ ?_<;>intro h3 hr<;>refine zz ?_
  ·refine xw (v:=(.agg ((eI .i64 0)::(aN (eI .u8) (a1a 32 0) [.row (some true) 1 []])))) (cM rfl (jU zZ aF5 rfl)) ?_
   refine zz ?_
   obtain rfl:=sj hr
   exact xZ Tryz.results27 fA fA (zW 80 [4])
  obtain⟨x38,h_4,hr⟩:=aP hr
  refine a1d<|zz ?_
  refine xp (aCE h_4) ?_
  refine zz ?_
  refine zk hr ?_ ?_<;>intro h5 hr<;>refine zz ?_
  ·refine xw (v:=(.agg ((eI .i64 0)::(aN (eI .u8) (a1a 32 0) [.row (some true) 1 []])))) (cM rfl (jU zZ aF5 rfl)) ?_
   refine zz ?_
   obtain rfl:=sj hr
   exact xZ Tryz.results27 fA fA (zW 80 [4])
  refine a1h fun K2 hK2 hG2=> ?_
  have J2: ∀l4,n8 N l b u l4=some r→K2 (aG 117 [(3,.ptr 0 0),(4,.ptr 1 0),(5,.ptr 2 0),(6,.ptr 3 0),(9,.mp 4)]) [some ⟨44,aO l⟩,some ⟨47,aQ b⟩,some ⟨54,bK u⟩,some ⟨44,(eI .i64 0)::(aN (eI .u8) (a1a 32 0) [.row (some true) 1 []])⟩,some ⟨33037,l4.flatMap dO⟩]:=by
   intro l4 hr
   unfold n8 at hr
   refine hK2 ?_
   obtain⟨x74,h_6,hr⟩:=aP hr
   refine zz ?_
   refine zc (w8 h_6) [4] ?_
   refine zz ?_
   refine a1d<|zz ?_
   refine zk hr ?_ ?_<;>intro h7 hr<;>refine zz ?_
   ·refine xw (v:=(.agg ((eI .i64 0)::(aN (eI .u8) (a1a 32 0) [.row (some true) 1 []])))) (cM rfl (jU zZ aF5 rfl)) ?_
    refine zz ?_
    obtain rfl:=sj hr
    exact xZ Tryz.results27 fA fA (zW 80 [6])
   refine a1h fun K3 hK3 hG3=> ?_
   have J3: ∀l3,n9 N l b l3=some r→K3 (aG 117 [(3,.ptr 0 0),(4,.ptr 1 0),(6,.ptr 2 0),(14,.sl 3 0 l3.length 37 true)]) [some ⟨44,aO l⟩,some ⟨47,aQ b⟩,some ⟨44,(eI .i64 0)::(aN (eI .u8) (a1a 32 0) [.row (some true) 1 []])⟩,some ⟨80,l3.flatMap aF⟩]:=by
    intro l3 hr
    unfold n9 at hr
    refine hK3 ?_
    obtain⟨aMp,h_8,hr⟩:=aP hr
    refine zz ?_
    rw[aLo h_8]
    refine zc (aMf h_8) [3] ?_
    obtain⟨q,h_9,hr⟩:=aP hr
    refine zz ?_
    refine xw (v:=(.agg ((eI .i64 (a1b.wrap (l.Height-1)))::(aN (eI .u8) b.Header.Prev [.sl 3 0 aMp.length 37 true])))) (cM rfl (aHI (ps':=[(0,eI .i64 (a1b.wrap (l.Height-1))),(1,.agg (aN (eI .u8) b.Header.Prev [])),(2,.sl 3 0 aMp.length 37 true)]) (by simp only[dE (l:=b.Header.Prev) (aT h_9)]<;>rfl) (jU zZ aF5 (by kernel_rfl)))) ?_
    refine zz ?_
    obtain⟨vO,h_10,hr⟩:=aP hr
    refine a1d<|zz ?_
    refine xC (v:=(eB vO)) (h':=[some ⟨44,aO l⟩,some ⟨47,aQ b⟩,some ⟨44,(eI .i64 0)::(aN (eI .u8) (a1a 32 0) [.row (some true) 1 []])⟩,some ⟨80,aMp.flatMap aF⟩,some ⟨44,(eI .i64 (a1b.wrap (l.Height-1)))::(aN (eI .u8) b.Header.Prev [.sl 3 0 aMp.length 37 true])⟩]) rfl (Vm.Fn.lendR (wU h_10) [] [3] (by decide) rfl (by decide) Lend.nil (Brw.row (aOa (xY rfl (exp_ar32 (fun _=>rfl) (xY (aLh (d:=3) (C:=aF) (fun _=>rfl) zl rfl rfl (fun _=>rfl)) aN8)))) Brw.nil) rfl rfB.nil rfl zH) ?_
    refine zz ?_
    refine zk hr ?_ ?_<;>intro h11 hr<;>refine zz ?_
    ·refine xw (v:=(.agg ((eI .i64 0)::(aN (eI .u8) (a1a 32 0) [.row (some true) 1 []])))) (cM rfl (jU zZ aF5 rfl)) ?_
     refine zz ?_
     obtain rfl:=sj hr
     exact xZ Tryz.results27 fA fA (zW 80 [5])
    obtain rfl:=sj hr
    exact xZ Tryz.results27 fA fA (zG [3])
   obtain⟨res4,hL4,hr⟩:=aP hr
   refine zz ?_
   refine a1e<|AB.loopM (fun m s h=> ∃x83 dN,eF N l b l4 m x83 dN=some res4∧Ghost 0 s h (aG 117 [(3,.ptr 0 0),(4,.ptr 1 0),(6,.ptr 2 0),(9,.mp 3),(14,.sl 4 0 dN.length 37 true),(81,.row none 37 (l.Coins.map aJ)),(82,eI .i64 (l.Coins.length:Int)),(83,eI .i64 x83)]) [some ⟨44,aO l⟩,some ⟨47,aQ b⟩,some ⟨44,(eI .i64 0)::(aN (eI .u8) (a1a 32 0) [.row (some true) 1 []])⟩,some ⟨33037,l4.flatMap dO⟩,some ⟨80,dN.flatMap aF⟩]) ⟨0,x74.1,hL4,zG [0,1,3,4,5]⟩ ?_
   rintro m4 s h ⟨x83,dN,hr4,hg⟩
   refine AB.ghost hg ?_
   clear hg hL4
   rw[eF]at hr4
   refine zz ?_
   refine a1d ?_
   refine zk hr4 ?_ ?_<;>intro h12 hr4<;>refine zz ?_
   ·refine a1h fun K5 hK5 hG5=> ?_
    have J5: ∀mT,iR N l b l4 x83 (eF N l b l4 m4) mT=some res4→K5 (aG 117 [(3,.ptr 0 0),(4,.ptr 1 0),(6,.ptr 2 0),(9,.mp 3),(14,.sl 4 0 mT.length 37 true),(81,.row none 37 (l.Coins.map aJ)),(82,eI .i64 (l.Coins.length:Int)),(83,eI .i64 x83)]) [some ⟨44,aO l⟩,some ⟨47,aQ b⟩,some ⟨44,(eI .i64 0)::(aN (eI .u8) (a1a 32 0) [.row (some true) 1 []])⟩,some ⟨33037,l4.flatMap dO⟩,some ⟨80,mT.flatMap aF⟩]:=by
     intro mT hr4
     unfold iR at hr4
     refine hK5<|zz ?_
     exact⟨a1b.wrap (x83+1),mT,hr4,zG [0,1,2,3,4]⟩
    refine a1e ?_
    obtain⟨x85,h_13,hr4⟩:=aP hr4
    refine zz ?_
    refine xlo x85.Out ?_
    refine zz ?_
    refine zk hr4 ?_ ?_<;>intro h14 hr4
    ·obtain⟨x98,h_15,aCy,h_16,hr4⟩:=bW hr4
     refine zz ?_
     refine xp (lO h_15)<|nC aF 37 [x98] ?_
     refine zz ?_
     exact hG5 (zG [0,1,2,3,8]) (J5 aCy hr4)
    refine zz ?_
    exact hG5 (zG [0,1,2,3,4]) (J5 dN hr4)
   obtain rfl:=sj hr4
   refine zz ?_
   exact hG3 (zG [0,1,2,4]) (J3 dN hr)
  obtain⟨res6,hL6,hr⟩:=aP hr
  refine zz ?_
  refine a1e<|AB.loopM (fun m s h=> ∃x47 iE,fB N l b u m x47 iE=some res6∧Ghost 0 s h (aG 117 [(3,.ptr 0 0),(4,.ptr 1 0),(5,.ptr 2 0),(6,.ptr 3 0),(9,.mp 4),(45,.row none 4 (b.Txs.map aU)),(46,eI .i64 (b.Txs.length:Int)),(47,eI .i64 x47)]) [some ⟨44,aO l⟩,some ⟨47,aQ b⟩,some ⟨54,bK u⟩,some ⟨44,(eI .i64 0)::(aN (eI .u8) (a1a 32 0) [.row (some true) 1 []])⟩,some ⟨33037,iE.flatMap dO⟩]) ⟨0,[],hL6,zG [0,1,2,3,4]⟩ ?_
  rintro m6 s h ⟨x47,iE,hr6,hg⟩
  refine AB.ghost hg ?_
  clear hg hL6
  rw[fB]at hr6
  refine zz ?_
  refine a1d ?_
  refine zk hr6 ?_ ?_<;>intro h17 hr6<;>refine zz ?_
  ·refine a1h fun K7 hK7 hG7=> ?_
   have J7: ∀aGM,n5 N l b u x47 (fB N l b u m6) aGM=some res6→K7 (aG 117 [(3,.ptr 0 0),(4,.ptr 1 0),(5,.ptr 2 0),(6,.ptr 3 0),(9,.mp 4),(45,.row none 4 (b.Txs.map aU)),(46,eI .i64 (b.Txs.length:Int)),(47,eI .i64 x47)]) [some ⟨44,aO l⟩,some ⟨47,aQ b⟩,some ⟨54,bK u⟩,some ⟨44,(eI .i64 0)::(aN (eI .u8) (a1a 32 0) [.row (some true) 1 []])⟩,some ⟨33037,aGM.flatMap dO⟩]:=by
    intro aGM hr6
    unfold n5 at hr6
    refine hK7<|zz ?_
    exact⟨a1b.wrap (x47+1),aGM,hr6,zG [0,1,2,3,4]⟩
   refine a1e ?_
   obtain⟨x50,h_18,x57,h_19,hr6⟩:=bW hr6
   refine zz ?_
   refine zc (rW h_19) [] ?_
   obtain⟨res8,hL8,hr6⟩:=aP hr6
   refine zz ?_
   refine a1e<|AB.loopM (fun m s h=> ∃x59 l4_5,iT N l b u x47 x57 m x59 l4_5=some res8∧Ghost 0 s h (aG 117 [(3,.ptr 0 0),(4,.ptr 1 0),(5,.ptr 2 0),(6,.ptr 3 0),(9,.mp 4),(45,.row none 4 (b.Txs.map aU)),(46,eI .i64 (b.Txs.length:Int)),(47,eI .i64 x47),(57,.sl 5 0 x57.length 37 true),(58,eI .i64 (x57.length:Int)),(59,eI .i64 x59)]) [some ⟨44,aO l⟩,some ⟨47,aQ b⟩,some ⟨54,bK u⟩,some ⟨44,(eI .i64 0)::(aN (eI .u8) (a1a 32 0) [.row (some true) 1 []])⟩,some ⟨33037,l4_5.flatMap dO⟩,some ⟨80,x57.flatMap aF⟩]) ⟨0,iE,hL8,zG [0,1,2,3,4,6]⟩ ?_
   rintro m8 s h ⟨x59,l4_5,hr8,hg⟩
   refine AB.ghost hg ?_
   clear hg hL8
   rw[iT]at hr8
   refine zz ?_
   refine a1d ?_
   refine zk hr8 ?_ ?_<;>intro h20 hr8<;>refine zz ?_
   ·refine a1d<|a1e ?_
    obtain⟨x61,h_21,hr8⟩:=aP hr8
    refine zz ?_
    refine xw (v:=(aJ x61)) (cF rfl (yR (C:=aF) (K:=37) (fun _=>rfl) rfl h_21 (qJ (ds:=(aN (eI .u8) x61.Out.Tx [eI .u32 x61.Out.Index,eI .i64 x61.Output.Value,.row none 1 (x61.Output.Script.map (eI .u8)),eI .i64 x61.Height,eB x61.Coinbase])) pR rfl zl rfl))) ?_
    refine zz ?_
    refine xup x61.Out x61 ?_
    refine zz ?_
    exact⟨a1b.wrap (x59+1),uG r8 l4_5 x61.Out x61,hr8,zG [0,1,2,3,4,5]⟩
   obtain rfl:=sj hr8
   refine zz ?_
   exact hG7 (zG [0,1,2,3,4]) (J7 l4_5 hr6)
  obtain rfl:=sj hr6
  refine zz ?_
  exact hG2 (zG [0,1,2,3,4]) (J2 iE hr)
 rcases a1c (l.Height == 0)with h22|h22
 ·replace hr:=kJ hr h22
  refine a1k mixed [43] [] [[0,1,2,3,4,5,6,7,8,9,10]]<|zz ?_
  exact hG1 (zG [0,1,2,3]) (J1 true hr)
 replace hr:=kR hr h22
 obtain⟨x31,h_23,q_1,h_25,q_2,h_26,hr⟩:=gZ hr
 refine a1k mixed [43] [] [[0,1,2,3,4,5,6,7,8,9,10]]<|zz ?_
 refine xu (aAK h_23) ?_
 refine zz ?_
 exact hG1 (zG [0,1,2,3]) (J1 (!(x31 == l.Tip)) hr)
instance :CtC 27 false (bC @uK):=⟨@uK⟩
theorem aEn {N v nG what vi vj r} (hr:i6 N v nG what vi vj=some r):
  Vm.Fn Tryz.prog 6 [] [eI .u8 v,.row none 1 (nG.map (eI .u8)),eI .u8 what,eI .u8 vi,eI .u8 vj] (eB r) []:=by
 refine zf Tryz.func6 Tryz.ntmps6 ?_
 unfold i6 at hr
 refine zz ?_
 obtain⟨x23,h_1,hr⟩:=aP hr
 refine a1d<|zz ?_
 refine xp (aEv h_1) ?_
 refine zz ?_
 refine zk hr ?_ ?_<;>intro h2 hr
 ·refine zz ?_
  obtain rfl:=sj hr
  exact zd1 Tryz.results6 []
 obtain⟨x27,h_3,hr⟩:=aP hr
 refine zz ?_
 refine xp (aCN h_3) ?_
 refine zz ?_
 refine a1d<|zz ?_
 refine zk hr ?_ ?_<;>intro h4 hr<;>refine zz ?_
 ·obtain rfl:=sj hr
  exact zd1 Tryz.results6 []
 refine a1d ?_
 obtain⟨x36,h_5,x42,h_6,x48,h_7,x51,h_8,hr⟩:=aA5 hr
 refine AB.rd (cD []) (cD []) mixed<|a1j (m:=8) [0,1,2,3,4,5,6,7,8,9,10,11,12,13,14,15,16,17] ?_
 refine zz ?_
 refine DrawG.jn (m:=1) (L:=lst [0,1,2,3,4,5,6,7,8,9,10,11,12,13,14,15,16,17,18,19,20,21,22,23,24] 26) (s1:=aG 188 [(2,eI .u8 what),(3,eI .u8 vi),(4,eI .u8 vj),(13,.ptr 0 0),(14,.ptr 1 0),(15,.ptr 2 0),(52,.agg [.sl 3 0 x51.length 37 true])]) (h1:=[some ⟨44,aO x36⟩,some ⟨47,aQ x42⟩,some ⟨54,[.row (some true) 1 []]⟩,some ⟨80,x51.flatMap aF⟩]) ?_ (fun J=> ?_)
 ·refine a1j (m:=0) [25]<|zz ?_
  refine DrawG.nil (by decide +kernel) ?_
  obtain⟨x55,h_9,hr⟩:=aP hr
  refine zz ?_
  refine a1h fun K1 hK1 hG1=> ?_
  have J1: ∀l4,cA N what vi vj x36 x42 x55 l4=some r→K1 (aG 188 [(2,eI .u8 what),(3,eI .u8 vi),(4,eI .u8 vj),(13,.ptr 0 0),(14,.ptr 1 0),(15,.ptr 2 0)]) [some ⟨44,(eI .i64 x36.Height)::(aN (eI .u8) x36.Tip [.sl 3 0 x55.length 37 true])⟩,some ⟨47,aQ x42⟩,some ⟨54,[.sl 4 0 l4.length 37 true]⟩,some ⟨80,x55.flatMap aF⟩,some ⟨80,l4.flatMap aF⟩]:=by
   intro l4 hr
   unfold cA at hr
   refine hK1 ?_
   refine a1h fun K2 hK2 hG2=> ?_
   have J2: ∀c0 l3,dC N x36 x42 l4 c0 l3=some r→K2 (aG 188 [(13,.ptr 0 0),(14,.ptr 1 0),(15,.ptr 2 0)]) [some ⟨44,(eI .i64 x36.Height)::(aN (eI .u8) c0 [.sl 3 0 l3.length 37 true])⟩,some ⟨47,aQ x42⟩,some ⟨54,[.sl 4 0 l4.length 37 true]⟩,some ⟨80,l3.flatMap aF⟩,some ⟨80,l4.flatMap aF⟩]:=by
    intro c0 l3 hr
    unfold dC at hr
    refine hK2 ?_
    obtain⟨aHF,h_10,hr⟩:=aP hr
    refine zz ?_
    refine a1l (zqf [1,1,1,0,1])<|a1l (zqf [1,1,1,0,0])<|zc (uK h_10) [] ?_
    obtain⟨aP1,h_11,hr⟩:=aP hr
    refine zz ?_
    refine xp (vR h_11) ?_
    refine zz ?_
    refine a1h fun K3 hK3 hG3=> ?_
    have J3: ∀x10,jQ N x10=some r→K3 (aG 188 [(10,eB x10)]) []:=by
     intro x10 hr
     unfold jQ at hr
     refine hK3<|zz ?_
     obtain rfl:=sj hr
     exact zd1 Tryz.results6 []
    rcases a1c (aHF.2.2.2 == aP1.2)with h12|h12
    ·replace hr:=kJ hr h12
     obtain⟨aSP,h_13,hr⟩:=aP hr
     refine xr<|zz ?_
     refine xCg (v:=(eB aSP)) (h':=[some ⟨44,(eI .i64 x36.Height)::(aN (eI .u8) c0 [.row none 37 (l3.map aJ)])⟩,some ⟨47,aQ x42⟩,some ⟨54,[.row none 37 (l4.map aJ)]⟩,none,none,some ⟨80,aHF.2.2.1.flatMap aF⟩,some ⟨44,(eI .i64 aHF.1)::(aN (eI .u8) aHF.2.1 [.sl 5 0 aHF.2.2.1.length 37 true])⟩,some ⟨44,aO aP1.1⟩]) rfl rfl h12 rfl (Vm.Fn.lendR (aEt h_13) [] [5] (by decide) rfl (by decide) Lend.nil (Brw.row (aOa (xY rfl (exp_ar32 (fun _=>rfl) (xY (aLh (d:=3) (C:=aF) (fun _=>rfl) zl rfl rfl (fun _=>rfl)) aN8)))) (Brw.same rfl Brw.nil)) rfl rfB.nil rfl zH) ?_
     refine zz ?_
     exact hG3 (zG []) (J3 aSP hr)
    replace hr:=kR hr h12
    refine xr<|zz ?_
    exact hG3 (zG []) (J3 false hr)
   refine zz ?_
   refine a1h fun K4 hK4 hG4=> ?_
   have J4: ∀aIP,e7 N what vi vj x36 x42 x55 l4 aIP=some r→K4 (aG 188 [(2,eI .u8 what),(3,eI .u8 vi),(4,eI .u8 vj),(13,.ptr 0 0),(14,.ptr 1 0),(15,.ptr 2 0),(18,eI .i64 (x55.length:Int)),(126,eB aIP)]) [some ⟨44,(eI .i64 x36.Height)::(aN (eI .u8) x36.Tip [.sl 3 0 x55.length 37 true])⟩,some ⟨47,aQ x42⟩,some ⟨54,[.sl 4 0 l4.length 37 true]⟩,some ⟨80,x55.flatMap aF⟩,some ⟨80,l4.flatMap aF⟩]:=by
    intro aIP hr
    unfold e7 at hr
    refine hK4 ?_
    refine zk hr ?_ ?_<;>intro h14 hr
    ·obtain⟨aKz,h_15,yL,h_16,hr⟩:=bW hr
     refine a1k mixed [] [] [[0,1,2,3,4,5,6,7,8,9,10,11,12,13,14]]<|zz ?_
     refine xw (v:=(eI .i64 yL.Output.Value)) (cF rfl (aNT (C:=aF) (K:=37) (off:=33) (fun _=>rfl) rfl h_16 zl (nY ti2 rfl rfl))) ?_
     refine zz ?_
     refine xy (h':=[some ⟨44,(eI .i64 x36.Height)::(aN (eI .u8) x36.Tip [.sl 3 0 x55.length 37 true])⟩,some ⟨47,aQ x42⟩,some ⟨54,[.sl 4 0 l4.length 37 true]⟩,some ⟨80,(x55.set (a1f aKz) (aA.mk yL.Out (aW.mk (a1b.wrap (yL.Output.Value+1)) yL.Output.Script) yL.Height yL.Coinbase)).flatMap aF⟩,some ⟨80,l4.flatMap aF⟩]) (aBi rfl rfl (aSO (C:=aF) (K:=37) (off:=33) (fun _=>rfl) ti2 rfl h_16 rfl rfl zl rfl rfl)) ?_
     refine zz ?_
     exact hG2 (zg' [0,1,2,3,4]) (J2 x36.Tip (x55.set (a1f aKz) (aA.mk yL.Out (aW.mk (a1b.wrap (yL.Output.Value+1)) yL.Output.Script) yL.Height yL.Coinbase)) hr)
    refine a1h fun K5 hK5 hG5=> ?_
    have J5: ∀aQq,e8 N what vi vj x36 x42 x55 l4 aQq=some r→K5 (aG 188 [(2,eI .u8 what),(3,eI .u8 vi),(4,eI .u8 vj),(13,.ptr 0 0),(14,.ptr 1 0),(15,.ptr 2 0),(18,eI .i64 (x55.length:Int)),(147,eB aQq)]) [some ⟨44,(eI .i64 x36.Height)::(aN (eI .u8) x36.Tip [.sl 3 0 x55.length 37 true])⟩,some ⟨47,aQ x42⟩,some ⟨54,[.sl 4 0 l4.length 37 true]⟩,some ⟨80,x55.flatMap aF⟩,some ⟨80,l4.flatMap aF⟩]:=by
     intro aQq hr
     unfold e8 at hr
     refine hK5 ?_
     refine zk hr ?_ ?_<;>intro h17 hr
     ·obtain⟨aZs,h_18,aQB,h_19,hr⟩:=bW hr
      refine a1k mixed [] [] [[0,1,2,3,4,5,6],[7,8]]<|zz ?_
      refine xw (v:=(.sl 3 0 aQB.length 37 true)) (vE rfl rfl rfl (aWu (l:=x55) rfl aHA pR rfl rfl rfl h_19)) ?_
      refine zz ?_
      refine⟨_,_,Ghost.cutF (t:=154) (C:=aF) (l:=x55) (K:=37) (h':=[some ⟨44,(eI .i64 x36.Height)::(aN (eI .u8) x36.Tip [.sl 3 0 x55.length 37 true])⟩,some ⟨47,aQ x42⟩,some ⟨54,[.sl 4 0 l4.length 37 true]⟩,some ⟨80,aQB.flatMap aF⟩,some ⟨80,l4.flatMap aF⟩]) (fun _=>rfl) rfl rfl h_19 rfl, ?_⟩
      refine zz ?_
      exact hG2 (zG [0,1,2,3,4]) (J2 x36.Tip aQB hr)
     refine zz ?_
     refine zk hr ?_ ?_<;>intro h20 hr
     ·obtain⟨q,h_21,aMa,h_22,hr⟩:=bW hr
      refine zz ?_
      refine xw (v:=(.ptr 0 (1+a1f 0))) (aGg rfl rfl (iaO iH nF rfl h_22))<|xw (v:=(eI .u8 aMa)) (cF rfl (ldO (E:=(eI .u8)) (l:=x36.Tip) (y:=aMa) (aT h_21) rfl rfl nF rfl h_22)) ?_
      refine zz ?_
      refine xw (v:=(.ptr 0 (1+a1f 0))) (aGg rfl rfl (iaO iH nF rfl h_22))<|xy (h':=[some ⟨44,(eI .i64 x36.Height)::(aN (eI .u8) (x36.Tip.set (a1f 0) (a1m.wrap (aMa+vj))) [.sl 3 0 x55.length 37 true])⟩,some ⟨47,aQ x42⟩,some ⟨54,[.sl 4 0 l4.length 37 true]⟩,some ⟨80,x55.flatMap aF⟩,some ⟨80,l4.flatMap aF⟩]) (aBi rfl rfl (stO (E:=(eI .u8)) (l:=x36.Tip) (v:=a1m.wrap (aMa+vj)) (aT h_21) nF rfl rfl rfl (fun _=>rfl) (fun _=>rfl) h_22 rfl)) ?_
      refine zz ?_
      exact hG2 (zG [0,1,2,3,4]) (J2 (x36.Tip.set (a1f 0) (a1m.wrap (aMa+vj))) x55 hr)
     refine zz ?_
     exact hG2 (zG [0,1,2,3,4]) (J2 x36.Tip x55 hr)
    rcases a1c (decide (0<(x55.length:Int)))with h23|h23
    ·replace hr:=kJ hr h23
     refine xr<|zz ?_
     exact hG5 (zG [0,1,2,3,4]) (J5 ((Int.tmod what 8) == 5) hr)
    replace hr:=kR hr h23
    refine xr<|zz ?_
    exact hG5 (zG [0,1,2,3,4]) (J5 false hr)
   rcases a1c (decide (0<(x55.length:Int)))with h24|h24
   ·replace hr:=kJ hr h24
    refine xr<|zz ?_
    exact hG4 (zG [0,1,2,3,4]) (J4 ((Int.tmod what 8) == 4) hr)
   replace hr:=kR hr h24
   refine xr<|zz ?_
   exact hG4 (zG [0,1,2,3,4]) (J4 false hr)
  refine zz ?_
  refine zk hr ?_ ?_<;>intro h25 hr
  ·refine a1d ?_
   obtain⟨x67,h_26,x68,h_27,hr⟩:=bW hr
   refine a1k mixed [] [] [[0,1,2,3,4,5,6,7]]<|zz ?_
   refine a1e ?_
   refine zz ?_
   refine zk hr ?_ ?_<;>intro h28 hr<;>refine zz ?_
   ·refine xw (v:=(eI .i64 x68.Height)) (cF rfl (aNT (C:=aF) (K:=37) (off:=35) (fun _=>rfl) rfl h_27 zl (nY ti3 rfl rfl))) ?_
    refine zz ?_
    refine xy (h':=[some ⟨44,(eI .i64 x36.Height)::(aN (eI .u8) x36.Tip [.sl 5 0 x55.length 37 true])⟩,some ⟨47,aQ x42⟩,some ⟨54,[.sl 3 0 x51.length 37 true]⟩,some ⟨80,(x51.set (a1f x67) (aA.mk x68.Out x68.Output (a1b.wrap (x68.Height+(a1b.wrap ((a1b.wrap vj)-3)))) x68.Coinbase)).flatMap aF⟩,none,some ⟨80,x55.flatMap aF⟩]) (aBi rfl rfl (aSO (C:=aF) (K:=37) (off:=35) (fun _=>rfl) ti3 rfl h_27 rfl rfl zl rfl rfl)) ?_
    refine zz ?_
    exact hG1 (zg' [0,1,2,5,3]) (J1 (x51.set (a1f x67) (aA.mk x68.Out x68.Output (a1b.wrap (x68.Height+(a1b.wrap ((a1b.wrap vj)-3)))) x68.Coinbase)) hr)
   refine zk hr ?_ ?_<;>intro h29 hr<;>refine zz ?_
   ·refine xw (v:=(eI .i64 x68.Output.Value)) (cF rfl (aNT (C:=aF) (K:=37) (off:=33) (fun _=>rfl) rfl h_27 zl (nY ti2 rfl rfl))) ?_
    refine zz ?_
    refine xy (h':=[some ⟨44,(eI .i64 x36.Height)::(aN (eI .u8) x36.Tip [.sl 5 0 x55.length 37 true])⟩,some ⟨47,aQ x42⟩,some ⟨54,[.sl 3 0 x51.length 37 true]⟩,some ⟨80,(x51.set (a1f x67) (aA.mk x68.Out (aW.mk (a1b.wrap (x68.Output.Value+(a1b.wrap vj))) x68.Output.Script) x68.Height x68.Coinbase)).flatMap aF⟩,none,some ⟨80,x55.flatMap aF⟩]) (aBi rfl rfl (aSO (C:=aF) (K:=37) (off:=33) (fun _=>rfl) ti2 rfl h_27 rfl rfl zl rfl rfl)) ?_
    refine zz ?_
    exact hG1 (zg' [0,1,2,5,3]) (J1 (x51.set (a1f x67) (aA.mk x68.Out (aW.mk (a1b.wrap (x68.Output.Value+(a1b.wrap vj))) x68.Output.Script) x68.Height x68.Coinbase)) hr)
   refine zk hr ?_ ?_<;>intro h30 hr
   ·obtain⟨aCl,h_31,hr⟩:=aP hr
    refine a1k mixed [] [] [[0,1,2,3,4,5,6],[7,8]]<|zz ?_
    refine xw (v:=(.sl 3 0 aCl.length 37 true)) (vE rfl rfl rfl (aWu (l:=x51) rfl aHA pR rfl rfl rfl h_31)) ?_
    refine zz ?_
    refine⟨_,_,Ghost.cutF (t:=104) (C:=aF) (l:=x51) (K:=37) (h':=[some ⟨44,(eI .i64 x36.Height)::(aN (eI .u8) x36.Tip [.sl 5 0 x55.length 37 true])⟩,some ⟨47,aQ x42⟩,some ⟨54,[.sl 3 0 x51.length 37 true]⟩,some ⟨80,aCl.flatMap aF⟩,none,some ⟨80,x55.flatMap aF⟩]) (fun _=>rfl) rfl rfl h_31 rfl, ?_⟩
    refine zz ?_
    exact hG1 (zG [0,1,2,5,3]) (J1 aCl hr)
   refine zz ?_
   refine zk hr ?_ ?_<;>intro h32 hr<;>refine zz ?_
   ·refine xw (v:=(eI .u32 x68.Out.Index)) (cF rfl (aNT (C:=aF) (K:=37) (off:=32) (fun _=>rfl) rfl h_27 zl (nY jT rfl rfl))) ?_
    refine zz ?_
    refine xy (h':=[some ⟨44,(eI .i64 x36.Height)::(aN (eI .u8) x36.Tip [.sl 5 0 x55.length 37 true])⟩,some ⟨47,aQ x42⟩,some ⟨54,[.sl 3 0 x51.length 37 true]⟩,some ⟨80,(x51.set (a1f x67) (aA.mk (aB.mk x68.Out.Tx (IntKind.u32.wrap (x68.Out.Index+1))) x68.Output x68.Height x68.Coinbase)).flatMap aF⟩,none,some ⟨80,x55.flatMap aF⟩]) (aBi rfl rfl (aSO (C:=aF) (K:=37) (off:=32) (fun _=>rfl) jT rfl h_27 rfl rfl zl rfl rfl)) ?_
    refine zz ?_
    exact hG1 (zg' [0,1,2,5,3]) (J1 (x51.set (a1f x67) (aA.mk (aB.mk x68.Out.Tx (IntKind.u32.wrap (x68.Out.Index+1))) x68.Output x68.Height x68.Coinbase)) hr)
   exact hG1 (zG [0,1,2,5,3]) (J1 x51 hr)
  refine zz ?_
  exact hG1 (zG [0,1,2,5,3]) (J1 x51 hr)
 repeat' first
 |(refine DrawG.jh J ?_;first|exact q8 [3,4,5,2]|exact q8 [3,5,4,2]|exact q8 [4,3,5,2]|exact q8 [5,3,4,2]|exact q8 [4,5,3,2]|exact q8 [5,4,3,2]|exact q8 [1,4,5,3]|exact q8 [1,5,4,3]|exact q8 [1,2,5,4]|exact q8 [1,2,3,5]|exact q8 [1,5,2,4]|exact q8 [1,3,2,5]|exact q8 [4,1,5,3]|exact q8 [5,1,4,3]|exact q8 [2,1,5,4]|exact q8 [2,1,3,5]|exact q8 [5,1,2,4]|exact q8 [3,1,2,5]|exact q8 [4,5,1,3]|exact q8 [5,4,1,3]|exact q8 [2,5,1,4]|exact q8 [2,3,1,5]|exact q8 [5,2,1,4]|exact q8 [3,2,1,5])
 |((first|refine a1i 18 ?_|refine a1i 19 ?_|refine a1i 20 ?_|refine a1i 21 ?_|refine a1i 22 ?_|refine a1i 23 ?_|refine a1i 24 ?_)<;>(first|refine zz ?_))
 |((first|refine a1g [18,20,21,22] ⟨?_, ?_, ?_, ?_,trivial⟩|refine a1g [20,21,22] ⟨?_, ?_, ?_,trivial⟩|refine a1g [21,22] ⟨?_, ?_,trivial⟩|refine a1g [20,22] ⟨?_, ?_,trivial⟩|refine a1g [20,21] ⟨?_, ?_,trivial⟩|refine a1g [18,21,22] ⟨?_, ?_, ?_,trivial⟩|refine a1g [18,22] ⟨?_, ?_,trivial⟩|refine a1g [18,21] ⟨?_, ?_,trivial⟩|refine a1g [18,20,22] ⟨?_, ?_, ?_,trivial⟩|refine a1g [18,20] ⟨?_, ?_,trivial⟩|refine a1g [18,20,21] ⟨?_, ?_, ?_,trivial⟩)<;>(first|refine zz ?_))
end Go.Proofs.YtopdhljncajmpaaGreatDoor
