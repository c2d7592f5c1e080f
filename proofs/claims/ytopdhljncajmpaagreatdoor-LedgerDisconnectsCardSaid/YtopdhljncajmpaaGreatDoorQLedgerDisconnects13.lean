/- Texts of ours, joined: Wk3. -/
import Derived.Test.YtopdhljncajmpaaGreatDoorQLedgerDisconnects12
open List renaming replicate → a1a
open Go.Vm.DrawG renaming fk → a1b,p1 → a1c,ps → a1d,jh → a1f,nil → a1h
open Go.Vm.Ghost renaming trans → a1e
open Go.Vm.AB renaming seq → a1g
set_option linter.unusedVariables false
set_option linter.unusedSimpArgs false
set_option maxRecDepth 20000
set_option maxHeartbeats 8000000
namespace Go.Proofs.YtopdhljncajmpaaGreatDoor
open Go Go.Vm Go.Proofs.Tryz
theorem q8 {N n:Nat}{fr fr':List (Nat×V)}{h h':Hp}(σ:List Nat)
  (hf:FLe wV (V.rn (sg σ h.length)) fr fr':=by first|((repeat (first|exact FLe.nil|refine FLe.same rfl ?_|refine FLe.le rfl V.le_nil ?_|refine FLe.le rfl V.le_row ?_|refine FLe.le rfl (V.le_arr (fun _=>rfl)) ?_));done)|fail)
  (hh:HLe (sg σ h.length) h σ h':=by first|((repeat (first|exact HLe.nil|refine HLe.dead ?_|refine HLe.live rfl V.les_nil rfl ?_|refine HLe.live rfl (aFG (fun _=>rfl) _) (all_map (fun _=>rfl) _) ?_|refine HLe.live rfl (aCZ (fun _=>rfl) _) (rP (fun _=>rfl) _) ?_|refine HLe.live rfl (V.les_refl _ _) rfl ?_));done)|fail)
  (hσ:σ.take N=List.range N:=by rfl) (hlt:σ.all (fun b=>Nat.blt b h.length)=true:=by rfl) (hnd:ndB (lvs σ h')=true:=by rfl):Ghost N (aG n fr) h (aG n fr') h':=Ghost.rn σ hσ hlt hf hh hnd
theorem aKO {N vw l r} (hr:aDX N vw l=some r):
  Vm.Fn Tryz.prog 67 [] [i5 vw,.row none 1 (l.map (eI .u8))] (i5 r) []:=by
 refine zf Tryz.func67 Tryz.ntmps67 ?_
 unfold aDX at hr
 refine zz ?_
 refine a1g ?_
 obtain⟨x15,h_1,x18,h_2,hr⟩:=bW hr
 refine AB.rs mixed [] [] [[0,1,2,3,4,5,6,7,8,9]]<|zz ?_
 refine a1g ?_
 obtain⟨x23,h_3,x26,h_4,hr⟩:=bW hr
 refine AB.rs mixed [] [] [[0,1,2,3,4,5,6,7,8,9]]<|zz ?_
 refine AB.seq_g fun K1 hK1 hG1=> ?_
 have J1: ∀l2 l3 l4 l5,aGh N vw l2 l3 l4 l5=some r→K1 (aG 112 [(2,.ptr 0 0),(4,.ptr 1 0)]) [some ⟨40,(eI .u32 vw.Params.Genesis.Version)::(aN (eI .u8) vw.Params.Genesis.Prev (aN (eI .u8) vw.Params.Genesis.Root ((eI .u32 vw.Params.Genesis.Time)::((eI .u32 vw.Params.Genesis.Bits)::((eI .u32 vw.Params.Genesis.Nonce)::(eU (eI .u64) vw.Params.Limit [eI .i64 vw.Params.Window,eI .u32 vw.Params.Spacing,eI .u32 vw.Params.Future,eI .u32 vw.Params.Version,.row none 33 (vw.Params.Checkpoints.map bE),eI .i64 vw.Params.Subsidy,eI .i64 vw.Params.Halving,eI .i64 vw.Params.Maturity,.sl 2 0 l2.length 69 true,.sl 3 0 l3.length 34 true,.sl 4 0 l4.length 36 true,.sl 5 0 l5.length 1 true]))))))⟩,some ⟨40,(eI .u32 0)::(aN (eI .u8) (a1a 32 0) (aN (eI .u8) (a1a 32 0) ((eI .u32 0)::((eI .u32 0)::((eI .u32 0)::(eU (eI .u64) (a1a 4 0) [eI .i64 0,eI .u32 0,eI .u32 0,eI .u32 0,.row (some true) 1 [],eI .i64 0,eI .i64 0,eI .i64 0,.row (some true) 1 [],.row (some true) 1 [],.row (some true) 1 [],.row (some true) 1 []]))))))⟩,some ⟨47,l2.flatMap aQ⟩,some ⟨44,l3.flatMap aO⟩,some ⟨51,l4.flatMap cB⟩,some ⟨54,l5.flatMap bK⟩]:=by
  intro l2 l3 l4 l5 hr
  unfold aGh at hr
  refine hK1<|zz ?_
  obtain rfl:=sj hr
  exact zr1 Tryz.results67 fA (a1e (zqf [1,1,0,1,1,1]) (a1e (zqf [1,1,0,0,1,1]) (a1e (zqf [1,1,0,0,0,1]) (a1e (zqf [1,1,0,0,0,0]) (zG [])))))
 obtain⟨cY,hL2,hr⟩:=aP hr
 refine zz ?_
 refine AB.block<|AB.loopM (fun m s h=> ∃x31 eE dA dN fD,iB N vw l m x31 eE dA dN fD=some cY∧Ghost 0 s h (aG 112 [(2,.ptr 0 0),(4,.ptr 1 0),(29,.row none 1 (l.map (eI .u8))),(30,eI .i64 (l.length:Int)),(31,eI .i64 x31)]) [some ⟨40,(eI .u32 vw.Params.Genesis.Version)::(aN (eI .u8) vw.Params.Genesis.Prev (aN (eI .u8) vw.Params.Genesis.Root ((eI .u32 vw.Params.Genesis.Time)::((eI .u32 vw.Params.Genesis.Bits)::((eI .u32 vw.Params.Genesis.Nonce)::(eU (eI .u64) vw.Params.Limit [eI .i64 vw.Params.Window,eI .u32 vw.Params.Spacing,eI .u32 vw.Params.Future,eI .u32 vw.Params.Version,.row none 33 (vw.Params.Checkpoints.map bE),eI .i64 vw.Params.Subsidy,eI .i64 vw.Params.Halving,eI .i64 vw.Params.Maturity,.sl 2 0 eE.length 69 true,.sl 3 0 dA.length 34 true,.sl 4 0 dN.length 36 true,.sl 5 0 fD.length 1 true]))))))⟩,some ⟨40,(eI .u32 0)::(aN (eI .u8) (a1a 32 0) (aN (eI .u8) (a1a 32 0) ((eI .u32 0)::((eI .u32 0)::((eI .u32 0)::(eU (eI .u64) (a1a 4 0) [eI .i64 0,eI .u32 0,eI .u32 0,eI .u32 0,.row (some true) 1 [],eI .i64 0,eI .i64 0,eI .i64 0,.row (some true) 1 [],.row (some true) 1 [],.row (some true) 1 [],.row (some true) 1 []]))))))⟩,some ⟨47,eE.flatMap aQ⟩,some ⟨44,dA.flatMap aO⟩,some ⟨51,dN.flatMap cB⟩,some ⟨54,fD.flatMap bK⟩]) ⟨0,x15,x23,x26,x18,hL2,zG [0,1,3,7,9,5]⟩ ?_
 rintro m2 s h ⟨x31,eE,dA,dN,fD,hr2,hg⟩
 refine AB.ghost hg ?_
 clear hg hL2
 rw[iB]at hr2
 refine zz ?_
 refine a1g ?_
 refine zk hr2 ?_ ?_<;>intro h5 hr2<;>refine zz ?_
 ·refine AB.seq_g fun K3 hK3 hG3=> ?_
  have J3: ∀aB4 fN mT tE,wY N vw l x31 (iB N vw l m2) aB4 fN mT tE=some cY→K3 (aG 112 [(2,.ptr 0 0),(4,.ptr 1 0),(29,.row none 1 (l.map (eI .u8))),(30,eI .i64 (l.length:Int)),(31,eI .i64 x31)]) [some ⟨40,(eI .u32 vw.Params.Genesis.Version)::(aN (eI .u8) vw.Params.Genesis.Prev (aN (eI .u8) vw.Params.Genesis.Root ((eI .u32 vw.Params.Genesis.Time)::((eI .u32 vw.Params.Genesis.Bits)::((eI .u32 vw.Params.Genesis.Nonce)::(eU (eI .u64) vw.Params.Limit [eI .i64 vw.Params.Window,eI .u32 vw.Params.Spacing,eI .u32 vw.Params.Future,eI .u32 vw.Params.Version,.row none 33 (vw.Params.Checkpoints.map bE),eI .i64 vw.Params.Subsidy,eI .i64 vw.Params.Halving,eI .i64 vw.Params.Maturity,.sl 2 0 aB4.length 69 true,.sl 3 0 fN.length 34 true,.sl 4 0 mT.length 36 true,.sl 5 0 tE.length 1 true]))))))⟩,some ⟨40,(eI .u32 0)::(aN (eI .u8) (a1a 32 0) (aN (eI .u8) (a1a 32 0) ((eI .u32 0)::((eI .u32 0)::((eI .u32 0)::(eU (eI .u64) (a1a 4 0) [eI .i64 0,eI .u32 0,eI .u32 0,eI .u32 0,.row (some true) 1 [],eI .i64 0,eI .i64 0,eI .i64 0,.row (some true) 1 [],.row (some true) 1 [],.row (some true) 1 [],.row (some true) 1 []]))))))⟩,some ⟨47,aB4.flatMap aQ⟩,some ⟨44,fN.flatMap aO⟩,some ⟨51,mT.flatMap cB⟩,some ⟨54,tE.flatMap bK⟩]:=by
   intro aB4 fN mT tE hr2
   unfold wY at hr2
   refine hK3<|zz ?_
   exact⟨IntKind.i64.wrap (x31+1),aB4,fN,mT,tE,hr2,zG [0,1,2,3,4,5]⟩
  refine AB.block ?_
  obtain⟨x33,h_6,hr2⟩:=aP hr2
  refine zz ?_
  refine a1g ?_
  obtain⟨x41,h_7,x49,h_8,hr2⟩:=bW hr2
  refine AB.rd (cD []) (cD []) mixed<|a1d (m:=4) [0,1,2,3,4,5,6,7,8,9,10,11,12,13,14,15] ?_
  refine zz ?_
  refine xw (v:=(cG x41)) (cF rfl (yR (C:=aO) (K:=34) (fun _=>rfl) rfl h_7 (qJ (ds:=((eI .i64 x41.Height)::(aN (eI .u8) x41.Tip [.row none 37 (x41.Coins.map aJ)]))) zZ rfl zl rfl))) ?_
  refine zz ?_
  refine xw (v:=(gE x49)) (cF rfl (yR (C:=cB) (K:=36) (fun _=>rfl) rfl h_8 (qJ (ds:=((eI .i64 x49.Height)::(aN (eI .u8) x49.Hash [eI .u32 x49.Bits,eI .u32 x49.First,.row none 1 (x49.Times.map (eI .u32))]))) aHP rfl zl rfl))) ?_
  refine zz ?_
  refine DrawG.jn (m:=1) (L:=lst [0,1,2,3,4,5,6,7,8,9,10,11,12,13,14,15,16,17,18] 20) (s1:=aG 112 [(2,.ptr 0 0),(4,.ptr 1 0),(6,eI .u8 x33),(7,.ptr 2 0),(8,.ptr 3 0),(29,.row none 1 (l.map (eI .u8))),(30,eI .i64 (l.length:Int)),(31,eI .i64 x31),(50,gE x49)]) (h1:=[some ⟨40,(eI .u32 vw.Params.Genesis.Version)::(aN (eI .u8) vw.Params.Genesis.Prev (aN (eI .u8) vw.Params.Genesis.Root ((eI .u32 vw.Params.Genesis.Time)::((eI .u32 vw.Params.Genesis.Bits)::((eI .u32 vw.Params.Genesis.Nonce)::(eU (eI .u64) vw.Params.Limit [eI .i64 vw.Params.Window,eI .u32 vw.Params.Spacing,eI .u32 vw.Params.Future,eI .u32 vw.Params.Version,.row none 33 (vw.Params.Checkpoints.map bE),eI .i64 vw.Params.Subsidy,eI .i64 vw.Params.Halving,eI .i64 vw.Params.Maturity,.sl 4 0 eE.length 69 true,.sl 5 0 dA.length 34 true,.sl 6 0 dN.length 36 true,.sl 7 0 fD.length 1 true]))))))⟩,some ⟨40,(eI .u32 0)::(aN (eI .u8) (a1a 32 0) (aN (eI .u8) (a1a 32 0) ((eI .u32 0)::((eI .u32 0)::((eI .u32 0)::(eU (eI .u64) (a1a 4 0) [eI .i64 0,eI .u32 0,eI .u32 0,eI .u32 0,.row (some true) 1 [],eI .i64 0,eI .i64 0,eI .i64 0,.row (some true) 1 [],.row (some true) 1 [],.row (some true) 1 [],.row (some true) 1 []]))))))⟩,some ⟨44,aO x41⟩,some ⟨51,(eI .i64 0)::(aN (eI .u8) (a1a 32 0) [eI .u32 0,eI .u32 0,.row (some true) 1 []])⟩,some ⟨47,eE.flatMap aQ⟩,some ⟨44,dA.flatMap aO⟩,some ⟨51,dN.flatMap cB⟩,some ⟨54,fD.flatMap bK⟩]) ?_ (fun J=> ?_)
  ·refine a1d (m:=0) [19]<|zz ?_
   refine a1h (by decide +kernel) ?_
   obtain⟨x56,h_9,hr2⟩:=aP hr2
   refine zz ?_
   refine xp (aEw h_9) ?_
   obtain⟨x62,h_10,hr2⟩:=aP hr2
   refine zz ?_
   refine xp (aA3 h_10) ?_
   refine zz ?_
   refine a1g ?_
   refine AB.seq_g fun K4 hK4 hG4=> ?_
   have J4: ∀x76,tG N vw l x31 eE dA dN fD x49 x56 x62 (iB N vw l m2) x76=some cY→K4 (aG 112 [(2,.ptr 0 0),(4,.ptr 1 0),(8,.ptr 2 0),(9,.ptr 3 0),(10,.ptr 4 0),(11,.ptr 5 0),(29,.row none 1 (l.map (eI .u8))),(30,eI .i64 (l.length:Int)),(31,eI .i64 x31),(76,eB x76)]) [some ⟨40,(eI .u32 vw.Params.Genesis.Version)::(aN (eI .u8) vw.Params.Genesis.Prev (aN (eI .u8) vw.Params.Genesis.Root ((eI .u32 vw.Params.Genesis.Time)::((eI .u32 vw.Params.Genesis.Bits)::((eI .u32 vw.Params.Genesis.Nonce)::(eU (eI .u64) vw.Params.Limit [eI .i64 vw.Params.Window,eI .u32 vw.Params.Spacing,eI .u32 vw.Params.Future,eI .u32 vw.Params.Version,.row none 33 (vw.Params.Checkpoints.map bE),eI .i64 vw.Params.Subsidy,eI .i64 vw.Params.Halving,eI .i64 vw.Params.Maturity,.sl 6 0 eE.length 69 true,.sl 7 0 dA.length 34 true,.sl 8 0 dN.length 36 true,.sl 9 0 fD.length 1 true]))))))⟩,some ⟨40,(eI .u32 0)::(aN (eI .u8) (a1a 32 0) (aN (eI .u8) (a1a 32 0) ((eI .u32 0)::((eI .u32 0)::((eI .u32 0)::(eU (eI .u64) (a1a 4 0) [eI .i64 0,eI .u32 0,eI .u32 0,eI .u32 0,.row (some true) 1 [],eI .i64 0,eI .i64 0,eI .i64 0,.row (some true) 1 [],.row (some true) 1 [],.row (some true) 1 [],.row (some true) 1 []]))))))⟩,some ⟨51,cB x49⟩,some ⟨47,aQ x56⟩,some ⟨44,aO x62.1⟩,some ⟨54,bK x62.2.1⟩,some ⟨47,eE.flatMap aQ⟩,some ⟨44,dA.flatMap aO⟩,some ⟨51,dN.flatMap cB⟩,some ⟨54,fD.flatMap bK⟩]:=by
    intro x76 hr2
    unfold tG at hr2
    refine hK4 ?_
    refine zk hr2 ?_ ?_<;>intro h11 hr2
    ·refine zz ?_
     exact hG3 (zG [0,1,6,7,8,9]) (J3 eE dA dN fD hr2)
    obtain⟨x83,h_12,hr2⟩:=aP hr2
    refine zz ?_
    refine xp (uE h_12) ?_
    refine zz ?_
    refine a1g ?_
    obtain⟨x90,h_13,x95,h_14,hr2⟩:=bW hr2
    refine AB.rd (cD []) (cD []) mixed<|a1d (m:=10) [0,1,2,5] ?_
    refine zz ?_
    refine DrawG.jn (m:=3) (L:=lst [0,1,2,3,4,5,6,7,8,9,10] 14) (s1:=aG 112 [(2,.ptr 0 0),(4,.ptr 1 0),(8,.ptr 2 0),(11,.ptr 3 0),(29,.row none 1 (l.map (eI .u8))),(30,eI .i64 (l.length:Int)),(31,eI .i64 x31),(90,.sl 4 0 x90.length 69 true),(95,.sl 5 0 x95.length 34 true),(96,.ptr 0 80)]) (h1:=[some ⟨40,(eI .u32 vw.Params.Genesis.Version)::(aN (eI .u8) vw.Params.Genesis.Prev (aN (eI .u8) vw.Params.Genesis.Root ((eI .u32 vw.Params.Genesis.Time)::((eI .u32 vw.Params.Genesis.Bits)::((eI .u32 vw.Params.Genesis.Nonce)::(eU (eI .u64) vw.Params.Limit [eI .i64 vw.Params.Window,eI .u32 vw.Params.Spacing,eI .u32 vw.Params.Future,eI .u32 vw.Params.Version,.row none 33 (vw.Params.Checkpoints.map bE),eI .i64 vw.Params.Subsidy,eI .i64 vw.Params.Halving,eI .i64 vw.Params.Maturity,.sl 6 0 eE.length 69 true,.sl 7 0 dA.length 34 true,.sl 8 0 dN.length 36 true,.sl 9 0 fD.length 1 true]))))))⟩,some ⟨40,(eI .u32 0)::(aN (eI .u8) (a1a 32 0) (aN (eI .u8) (a1a 32 0) ((eI .u32 0)::((eI .u32 0)::((eI .u32 0)::(eU (eI .u64) (a1a 4 0) [eI .i64 0,eI .u32 0,eI .u32 0,eI .u32 0,.row (some true) 1 [],eI .i64 0,eI .i64 0,eI .i64 0,.row (some true) 1 [],.row (some true) 1 [],.row (some true) 1 [],.row (some true) 1 []]))))))⟩,some ⟨51,cB x83.1⟩,some ⟨54,bK x62.2.1⟩,some ⟨47,x90.flatMap aQ⟩,some ⟨44,x95.flatMap aO⟩,none,none,some ⟨51,dN.flatMap cB⟩,some ⟨54,fD.flatMap bK⟩]) ?_ (fun J=> ?_)
    ·refine a1d (m:=0) [11,12,13]<|zz ?_
     refine a1h (by decide +kernel) ?_
     obtain⟨aIQ,h_15,aQx,h_16,hr2⟩:=bW hr2
     refine zz ?_
     refine AB.rd (cD []) (cD []) mixed<|a1d (m:=10) [0,1,2,5] ?_
     refine zz ?_
     refine DrawG.jn (m:=3) (L:=lst [0,1,2,3,4,5,6,7,8,9,10] 14) (s1:=aG 112 [(2,.ptr 0 0),(4,.ptr 1 0),(29,.row none 1 (l.map (eI .u8))),(30,eI .i64 (l.length:Int)),(31,eI .i64 x31),(102,.sl 2 0 aIQ.length 36 true),(107,.sl 3 0 aQx.length 1 true),(108,.ptr 0 82)]) (h1:=[some ⟨40,(eI .u32 vw.Params.Genesis.Version)::(aN (eI .u8) vw.Params.Genesis.Prev (aN (eI .u8) vw.Params.Genesis.Root ((eI .u32 vw.Params.Genesis.Time)::((eI .u32 vw.Params.Genesis.Bits)::((eI .u32 vw.Params.Genesis.Nonce)::(eU (eI .u64) vw.Params.Limit [eI .i64 vw.Params.Window,eI .u32 vw.Params.Spacing,eI .u32 vw.Params.Future,eI .u32 vw.Params.Version,.row none 33 (vw.Params.Checkpoints.map bE),eI .i64 vw.Params.Subsidy,eI .i64 vw.Params.Halving,eI .i64 vw.Params.Maturity,.sl 4 0 x90.length 69 true,.sl 5 0 x95.length 34 true,.sl 6 0 dN.length 36 true,.sl 7 0 fD.length 1 true]))))))⟩,some ⟨40,(eI .u32 0)::(aN (eI .u8) (a1a 32 0) (aN (eI .u8) (a1a 32 0) ((eI .u32 0)::((eI .u32 0)::((eI .u32 0)::(eU (eI .u64) (a1a 4 0) [eI .i64 0,eI .u32 0,eI .u32 0,eI .u32 0,.row (some true) 1 [],eI .i64 0,eI .i64 0,eI .i64 0,.row (some true) 1 [],.row (some true) 1 [],.row (some true) 1 [],.row (some true) 1 []]))))))⟩,some ⟨51,aIQ.flatMap cB⟩,some ⟨54,aQx.flatMap bK⟩,some ⟨47,x90.flatMap aQ⟩,some ⟨44,x95.flatMap aO⟩,none,none]) ?_ (fun J=> ?_)
     ·refine a1d (m:=0) [11,12,13]<|zz ?_
      refine a1h (by decide +kernel) ?_
      refine zz ?_
      exact hG3 (zG [0,1,4,5,2,3]) (J3 x90 x95 aIQ aQx hr2)
     repeat' first
     |(refine a1f J ?_;first|exact q8 [0,1,11,13,4,5,8,9]|exact q8 [0,1,12,13,4,5,8,9])
     |((first|refine a1c 3 ?_|refine a1c 4 ?_|refine a1c 6 ?_|refine a1c 7 ?_|refine a1c 8 ?_|refine a1c 9 ?_|refine a1c 10 ?_)<;>(first|(refine nC cB 36 [x83.1] ?_;refine zz ?_)|(refine nC bK 1 [x62.2.1] ?_;refine zz ?_)|refine zz ?_))
     |((first|refine a1b [3,6,7] ⟨?_, ?_, ?_,trivial⟩|refine a1b [4,6,7] ⟨?_, ?_, ?_,trivial⟩|refine a1b [4,7] ⟨?_, ?_,trivial⟩|refine a1b [4,8] ⟨?_, ?_,trivial⟩|refine a1b [4,6,8] ⟨?_, ?_, ?_,trivial⟩|refine a1b [4,6] ⟨?_, ?_,trivial⟩|refine a1b [3,7] ⟨?_, ?_,trivial⟩|refine a1b [3,8] ⟨?_, ?_,trivial⟩|refine a1b [3,6,8] ⟨?_, ?_, ?_,trivial⟩)<;>(first|(refine nC cB 36 [x83.1] ?_;refine zz ?_)|(refine nC bK 1 [x62.2.1] ?_;refine zz ?_)|refine zz ?_))
    repeat' first
    |(refine a1f J ?_;first|exact q8 [0,1,2,5,11,13,6,7,8,9]|exact q8 [0,1,2,5,12,13,6,7,8,9])
    |((first|refine a1c 3 ?_|refine a1c 4 ?_|refine a1c 6 ?_|refine a1c 7 ?_|refine a1c 8 ?_|refine a1c 9 ?_|refine a1c 10 ?_)<;>(first|(refine nC aQ 69 [x56] ?_;refine zz ?_)|(refine nC aO 34 [x62.1] ?_;refine zz ?_)|refine zz ?_))
    |((first|refine a1b [3,6,7] ⟨?_, ?_, ?_,trivial⟩|refine a1b [4,6,7] ⟨?_, ?_, ?_,trivial⟩|refine a1b [4,7] ⟨?_, ?_,trivial⟩|refine a1b [4,8] ⟨?_, ?_,trivial⟩|refine a1b [4,6,8] ⟨?_, ?_, ?_,trivial⟩|refine a1b [4,6] ⟨?_, ?_,trivial⟩|refine a1b [3,7] ⟨?_, ?_,trivial⟩|refine a1b [3,8] ⟨?_, ?_,trivial⟩|refine a1b [3,6,8] ⟨?_, ?_, ?_,trivial⟩)<;>(first|(refine nC aQ 69 [x56] ?_;refine zz ?_)|(refine nC aO 34 [x62.1] ?_;refine zz ?_)|refine zz ?_))
   rcases Bool.eq_false_or_eq_true (x62.2.2 != 0)with h17|h17
   ·replace hr2:=kJ hr2 h17
    refine xr<|zz ?_
    exact hG4 (zG [0,1,3,8,9,10,4,5,6,7]) (J4 true hr2)
   replace hr2:=kR hr2 h17
   obtain⟨x74,h_18,hr2⟩:=aP hr2
   refine xr<|zz ?_
   refine xCg (v:=(eI .i64 x74)) (h':=[some ⟨40,(eI .u32 vw.Params.Genesis.Version)::(aN (eI .u8) vw.Params.Genesis.Prev (aN (eI .u8) vw.Params.Genesis.Root ((eI .u32 vw.Params.Genesis.Time)::((eI .u32 vw.Params.Genesis.Bits)::((eI .u32 vw.Params.Genesis.Nonce)::(eU (eI .u64) vw.Params.Limit [eI .i64 vw.Params.Window,eI .u32 vw.Params.Spacing,eI .u32 vw.Params.Future,eI .u32 vw.Params.Version,.row none 33 (vw.Params.Checkpoints.map bE),eI .i64 vw.Params.Subsidy,eI .i64 vw.Params.Halving,eI .i64 vw.Params.Maturity,.sl 4 0 eE.length 69 true,.sl 5 0 dA.length 34 true,.sl 6 0 dN.length 36 true,.sl 7 0 fD.length 1 true]))))))⟩,some ⟨40,(eI .u32 0)::(aN (eI .u8) (a1a 32 0) (aN (eI .u8) (a1a 32 0) ((eI .u32 0)::((eI .u32 0)::((eI .u32 0)::(eU (eI .u64) (a1a 4 0) [eI .i64 0,eI .u32 0,eI .u32 0,eI .u32 0,.row (some true) 1 [],eI .i64 0,eI .i64 0,eI .i64 0,.row (some true) 1 [],.row (some true) 1 [],.row (some true) 1 [],.row (some true) 1 []]))))))⟩,some ⟨44,aO x41⟩,some ⟨51,cB x49⟩,some ⟨47,eE.flatMap aQ⟩,some ⟨44,dA.flatMap aO⟩,some ⟨51,dN.flatMap cB⟩,some ⟨54,fD.flatMap bK⟩,some ⟨47,aQ x56⟩,some ⟨44,aO x62.1⟩,some ⟨54,bK x62.2.1⟩]) rfl rfl h17 rfl (Vm.Fn.pure (aC4 h_18) rfl rfl) ?_
   refine zz ?_
   exact hG4 (zG [0,1,3,8,9,10,4,5,6,7]) (J4 (x74 != 0) hr2)
  refine a1b (n:=3) [16,17] ⟨?_, ?_,trivial⟩
  ·refine zz ?_
   refine a1d (m:=1) [17,18]<|zz ?_
   refine a1f J ?_
   exact(zG [0,1,6,7,2,3,4,5])
  refine zz ?_
  refine a1d (m:=1) [16,18]<|zz ?_
  refine a1f J ?_
  exact(zG [0,1,7,6,2,3,4,5])
 obtain rfl:=sj hr2
 refine zz ?_
 exact hG1 (zG [0,1,2,3,4,5]) (J1 eE dA dN fD hr)
instance :CtC 67 true (bC @aKO):=⟨@aKO⟩
theorem aEu {N v l r} (hr:zM N v l=some r):
  Fp 30 [] [eI .u8 v,.row none 1 (l.map (eI .u8))] (i5 r) []:=
 jC func30 ntmps30 results30
instance :CtC 30 true (bC @aEu):=⟨@aEu⟩
end Go.Proofs.YtopdhljncajmpaaGreatDoor
