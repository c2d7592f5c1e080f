/- Texts of ours, joined: Wk3. -/
import Derived.Test.YtopdhljncajmpaaGreatDoorQLedgerMoney12
open List renaming replicate → a0F
open Go.Vm.DrawG renaming fk → a0G,p1 → a0H,ps → a0J,nil → a0L
open Go.Vm.Ghost renaming trans → a0I
open Go.Vm.AB renaming seq → a0K
set_option linter.unusedVariables false
set_option linter.unusedSimpArgs false
set_option maxRecDepth 20000
set_option maxHeartbeats 8000000
namespace Go.Proofs.YtopdhljncajmpaaGreatDoor
open Go Go.Vm Go.Proofs.Tryz
theorem zGd {N n:Nat}{fr fr':List (Nat×V)}{h h':Hp}(σ:List Nat)
  (hf:FLe y8 (V.rn (sg σ h.length)) fr fr':=by first|((repeat (first|exact FLe.nil|refine FLe.same rfl ?_|refine FLe.le rfl V.le_nil ?_|refine FLe.le rfl V.le_row ?_|refine FLe.le rfl (V.le_arr (fun _=>rfl)) ?_));done)|fail)
  (hh:HLe (sg σ h.length) h σ h':=by first|((repeat (first|exact HLe.nil|refine HLe.dead ?_|refine HLe.live rfl V.les_nil rfl ?_|refine HLe.live rfl (aLf (fun _=>rfl) _) (all_map (fun _=>rfl) _) ?_|refine HLe.live rfl (aIz (fun _=>rfl) _) (tI (fun _=>rfl) _) ?_|refine HLe.live rfl (V.les_refl _ _) rfl ?_));done)|fail)
  (hσ:σ.take N=List.range N:=by rfl) (hlt:σ.all (fun b=>Nat.blt b h.length)=true:=by rfl) (hnd:ndB (lvs σ h')=true:=by rfl):Ghost N (aG n fr) h (aG n fr') h':=Ghost.rn σ hσ hlt hf hh hnd
theorem aKS {N vw l r} (hr:aDL N vw l=some r):
  Vm.Fn Tryz.prog 67 [] [iJ vw,.row none 1 (l.map (eI .u8))] (iJ r) []:=by
 refine zf Tryz.func67 Tryz.ntmps67 ?_
 unfold aDL at hr
 refine zz ?_
 refine a0K ?_
 obtain⟨x15,h_1,x18,h_2,hr⟩:=b8 hr
 refine AB.rs mixed [] [] [[0,1,2,3,4,5,6,7,8,9]]<|zz ?_
 refine a0K ?_
 obtain⟨x23,h_3,x26,h_4,hr⟩:=b8 hr
 refine AB.rs mixed [] [] [[0,1,2,3,4,5,6,7,8,9]]<|zz ?_
 refine AB.seq_g fun K1 hK1 hG1=> ?_
 have J1: ∀l2 l3 l4 l5,aFZ N vw l2 l3 l4 l5=some r→K1 (aG 112 [(2,.ptr 0 0),(4,.ptr 1 0)]) [some ⟨40,(eI .u32 vw.Params.Genesis.Version)::(aL (eI .u8) vw.Params.Genesis.Prev (aL (eI .u8) vw.Params.Genesis.Root ((eI .u32 vw.Params.Genesis.Time)::((eI .u32 vw.Params.Genesis.Bits)::((eI .u32 vw.Params.Genesis.Nonce)::(dU (eI .u64) vw.Params.Limit [eI .i64 vw.Params.Window,eI .u32 vw.Params.Spacing,eI .u32 vw.Params.Future,eI .u32 vw.Params.Version,.row none 33 (vw.Params.Checkpoints.map aW),eI .i64 vw.Params.Subsidy,eI .i64 vw.Params.Halving,eI .i64 vw.Params.Maturity,.sl 2 0 l2.length 69 true,.sl 3 0 l3.length 34 true,.sl 4 0 l4.length 36 true,.sl 5 0 l5.length 1 true]))))))⟩,some ⟨40,(eI .u32 0)::(aL (eI .u8) (a0F 32 0) (aL (eI .u8) (a0F 32 0) ((eI .u32 0)::((eI .u32 0)::((eI .u32 0)::(dU (eI .u64) (a0F 4 0) [eI .i64 0,eI .u32 0,eI .u32 0,eI .u32 0,.row (some true) 1 [],eI .i64 0,eI .i64 0,eI .i64 0,.row (some true) 1 [],.row (some true) 1 [],.row (some true) 1 [],.row (some true) 1 []]))))))⟩,some ⟨47,l2.flatMap bK⟩,some ⟨44,l3.flatMap bI⟩,some ⟨51,l4.flatMap b9⟩,some ⟨54,l5.flatMap dD⟩]:=by
  intro l2 l3 l4 l5 hr
  unfold aFZ at hr
  refine hK1<|zz ?_
  obtain rfl:=sj hr
  exact zr1 Tryz.results67 dO (a0I (zQ [1,1,0,1,1,1]) (a0I (zQ [1,1,0,0,1,1]) (a0I (zQ [1,1,0,0,0,1]) (a0I (zQ [1,1,0,0,0,0]) (zG [])))))
 obtain⟨cM,hL2,hr⟩:=aN hr
 refine zz ?_
 refine AB.block<|AB.loopM (fun m s h=> ∃x31 eZ eF dQ dP,gX N vw l m x31 eZ eF dQ dP=some cM∧Ghost 0 s h (aG 112 [(2,.ptr 0 0),(4,.ptr 1 0),(29,.row none 1 (l.map (eI .u8))),(30,eI .i64 (l.length:Int)),(31,eI .i64 x31)]) [some ⟨40,(eI .u32 vw.Params.Genesis.Version)::(aL (eI .u8) vw.Params.Genesis.Prev (aL (eI .u8) vw.Params.Genesis.Root ((eI .u32 vw.Params.Genesis.Time)::((eI .u32 vw.Params.Genesis.Bits)::((eI .u32 vw.Params.Genesis.Nonce)::(dU (eI .u64) vw.Params.Limit [eI .i64 vw.Params.Window,eI .u32 vw.Params.Spacing,eI .u32 vw.Params.Future,eI .u32 vw.Params.Version,.row none 33 (vw.Params.Checkpoints.map aW),eI .i64 vw.Params.Subsidy,eI .i64 vw.Params.Halving,eI .i64 vw.Params.Maturity,.sl 2 0 eZ.length 69 true,.sl 3 0 eF.length 34 true,.sl 4 0 dQ.length 36 true,.sl 5 0 dP.length 1 true]))))))⟩,some ⟨40,(eI .u32 0)::(aL (eI .u8) (a0F 32 0) (aL (eI .u8) (a0F 32 0) ((eI .u32 0)::((eI .u32 0)::((eI .u32 0)::(dU (eI .u64) (a0F 4 0) [eI .i64 0,eI .u32 0,eI .u32 0,eI .u32 0,.row (some true) 1 [],eI .i64 0,eI .i64 0,eI .i64 0,.row (some true) 1 [],.row (some true) 1 [],.row (some true) 1 [],.row (some true) 1 []]))))))⟩,some ⟨47,eZ.flatMap bK⟩,some ⟨44,eF.flatMap bI⟩,some ⟨51,dQ.flatMap b9⟩,some ⟨54,dP.flatMap dD⟩]) ⟨0,x15,x23,x26,x18,hL2,zG [0,1,3,7,9,5]⟩ ?_
 rintro m2 s h ⟨x31,eZ,eF,dQ,dP,hr2,hg⟩
 refine AB.ghost hg ?_
 clear hg hL2
 rw[gX]at hr2
 refine zz ?_
 refine a0K ?_
 refine zk hr2 ?_ ?_<;>intro h5 hr2<;>refine zz ?_
 ·refine AB.seq_g fun K3 hK3 hG3=> ?_
  have J3: ∀aBW jV rB xA,v7 N vw l x31 (gX N vw l m2) aBW jV rB xA=some cM→K3 (aG 112 [(2,.ptr 0 0),(4,.ptr 1 0),(29,.row none 1 (l.map (eI .u8))),(30,eI .i64 (l.length:Int)),(31,eI .i64 x31)]) [some ⟨40,(eI .u32 vw.Params.Genesis.Version)::(aL (eI .u8) vw.Params.Genesis.Prev (aL (eI .u8) vw.Params.Genesis.Root ((eI .u32 vw.Params.Genesis.Time)::((eI .u32 vw.Params.Genesis.Bits)::((eI .u32 vw.Params.Genesis.Nonce)::(dU (eI .u64) vw.Params.Limit [eI .i64 vw.Params.Window,eI .u32 vw.Params.Spacing,eI .u32 vw.Params.Future,eI .u32 vw.Params.Version,.row none 33 (vw.Params.Checkpoints.map aW),eI .i64 vw.Params.Subsidy,eI .i64 vw.Params.Halving,eI .i64 vw.Params.Maturity,.sl 2 0 aBW.length 69 true,.sl 3 0 jV.length 34 true,.sl 4 0 rB.length 36 true,.sl 5 0 xA.length 1 true]))))))⟩,some ⟨40,(eI .u32 0)::(aL (eI .u8) (a0F 32 0) (aL (eI .u8) (a0F 32 0) ((eI .u32 0)::((eI .u32 0)::((eI .u32 0)::(dU (eI .u64) (a0F 4 0) [eI .i64 0,eI .u32 0,eI .u32 0,eI .u32 0,.row (some true) 1 [],eI .i64 0,eI .i64 0,eI .i64 0,.row (some true) 1 [],.row (some true) 1 [],.row (some true) 1 [],.row (some true) 1 []]))))))⟩,some ⟨47,aBW.flatMap bK⟩,some ⟨44,jV.flatMap bI⟩,some ⟨51,rB.flatMap b9⟩,some ⟨54,xA.flatMap dD⟩]:=by
   intro aBW jV rB xA hr2
   unfold v7 at hr2
   refine hK3<|zz ?_
   exact⟨IntKind.i64.wrap (x31+1),aBW,jV,rB,xA,hr2,zG [0,1,2,3,4,5]⟩
  refine AB.block ?_
  obtain⟨x33,h_6,hr2⟩:=aN hr2
  refine zz ?_
  refine a0K ?_
  obtain⟨x41,h_7,x49,h_8,hr2⟩:=b8 hr2
  refine AB.rd (cD []) (cD []) mixed<|a0J (m:=10) [0,1,2,3,4,5,6,7,8,10] ?_
  refine zz ?_
  refine xw (v:=(eE x41)) (cP rfl (vF (C:=bI) (K:=34) (fun _=>rfl) rfl h_7 (nJ (ds:=((eI .i64 x41.Height)::(aL (eI .u8) x41.Tip [.row none 37 (x41.Coins.map aM)]))) aAP rfl zl rfl))) ?_
  refine zz ?_
  refine DrawG.jn (m:=1) (L:=lst [0,1,2,3,4,5,6,7,8,9,10,11,12,13,14,15,16,17,18] 20) (s1:=aG 112 [(2,.ptr 0 0),(4,.ptr 1 0),(6,eI .u8 x33),(7,.ptr 2 0),(8,.ptr 3 0),(29,.row none 1 (l.map (eI .u8))),(30,eI .i64 (l.length:Int)),(31,eI .i64 x31),(50,hP x49)]) (h1:=[some ⟨40,(eI .u32 vw.Params.Genesis.Version)::(aL (eI .u8) vw.Params.Genesis.Prev (aL (eI .u8) vw.Params.Genesis.Root ((eI .u32 vw.Params.Genesis.Time)::((eI .u32 vw.Params.Genesis.Bits)::((eI .u32 vw.Params.Genesis.Nonce)::(dU (eI .u64) vw.Params.Limit [eI .i64 vw.Params.Window,eI .u32 vw.Params.Spacing,eI .u32 vw.Params.Future,eI .u32 vw.Params.Version,.row none 33 (vw.Params.Checkpoints.map aW),eI .i64 vw.Params.Subsidy,eI .i64 vw.Params.Halving,eI .i64 vw.Params.Maturity,.sl 4 0 eZ.length 69 true,.sl 5 0 eF.length 34 true,.sl 6 0 dQ.length 36 true,.sl 7 0 dP.length 1 true]))))))⟩,some ⟨40,(eI .u32 0)::(aL (eI .u8) (a0F 32 0) (aL (eI .u8) (a0F 32 0) ((eI .u32 0)::((eI .u32 0)::((eI .u32 0)::(dU (eI .u64) (a0F 4 0) [eI .i64 0,eI .u32 0,eI .u32 0,eI .u32 0,.row (some true) 1 [],eI .i64 0,eI .i64 0,eI .i64 0,.row (some true) 1 [],.row (some true) 1 [],.row (some true) 1 [],.row (some true) 1 []]))))))⟩,some ⟨44,bI x41⟩,some ⟨51,(eI .i64 0)::(aL (eI .u8) (a0F 32 0) [eI .u32 0,eI .u32 0,.row (some true) 1 []])⟩,some ⟨47,eZ.flatMap bK⟩,some ⟨44,eF.flatMap bI⟩,some ⟨51,dQ.flatMap b9⟩,some ⟨54,dP.flatMap dD⟩]) ?_ (fun J=> ?_)
  ·refine a0J (m:=0) [19]<|zz ?_
   refine a0L (by decide +kernel) ?_
   obtain⟨x56,h_9,hr2⟩:=aN hr2
   refine zz ?_
   refine xp (aEf h_9) ?_
   obtain⟨x62,h_10,hr2⟩:=aN hr2
   refine zz ?_
   refine xp (aAQ h_10) ?_
   refine zz ?_
   refine a0K ?_
   refine AB.seq_g fun K4 hK4 hG4=> ?_
   have J4: ∀x76,sK N vw l x31 eZ eF dQ dP x49 x56 x62 (gX N vw l m2) x76=some cM→K4 (aG 112 [(2,.ptr 0 0),(4,.ptr 1 0),(8,.ptr 2 0),(9,.ptr 3 0),(10,.ptr 4 0),(11,.ptr 5 0),(29,.row none 1 (l.map (eI .u8))),(30,eI .i64 (l.length:Int)),(31,eI .i64 x31),(76,eB x76)]) [some ⟨40,(eI .u32 vw.Params.Genesis.Version)::(aL (eI .u8) vw.Params.Genesis.Prev (aL (eI .u8) vw.Params.Genesis.Root ((eI .u32 vw.Params.Genesis.Time)::((eI .u32 vw.Params.Genesis.Bits)::((eI .u32 vw.Params.Genesis.Nonce)::(dU (eI .u64) vw.Params.Limit [eI .i64 vw.Params.Window,eI .u32 vw.Params.Spacing,eI .u32 vw.Params.Future,eI .u32 vw.Params.Version,.row none 33 (vw.Params.Checkpoints.map aW),eI .i64 vw.Params.Subsidy,eI .i64 vw.Params.Halving,eI .i64 vw.Params.Maturity,.sl 6 0 eZ.length 69 true,.sl 7 0 eF.length 34 true,.sl 8 0 dQ.length 36 true,.sl 9 0 dP.length 1 true]))))))⟩,some ⟨40,(eI .u32 0)::(aL (eI .u8) (a0F 32 0) (aL (eI .u8) (a0F 32 0) ((eI .u32 0)::((eI .u32 0)::((eI .u32 0)::(dU (eI .u64) (a0F 4 0) [eI .i64 0,eI .u32 0,eI .u32 0,eI .u32 0,.row (some true) 1 [],eI .i64 0,eI .i64 0,eI .i64 0,.row (some true) 1 [],.row (some true) 1 [],.row (some true) 1 [],.row (some true) 1 []]))))))⟩,some ⟨51,b9 x49⟩,some ⟨47,bK x56⟩,some ⟨44,bI x62.1⟩,some ⟨54,dD x62.2.1⟩,some ⟨47,eZ.flatMap bK⟩,some ⟨44,eF.flatMap bI⟩,some ⟨51,dQ.flatMap b9⟩,some ⟨54,dP.flatMap dD⟩]:=by
    intro x76 hr2
    unfold sK at hr2
    refine hK4 ?_
    refine zk hr2 ?_ ?_<;>intro h11 hr2
    ·refine zz ?_
     exact hG3 (zG [0,1,6,7,8,9]) (J3 eZ eF dQ dP hr2)
    obtain⟨x83,h_12,hr2⟩:=aN hr2
    refine zz ?_
    refine xp (tN h_12) ?_
    refine zz ?_
    refine a0K ?_
    obtain⟨x90,h_13,x95,h_14,hr2⟩:=b8 hr2
    refine AB.rd (cD []) (cD []) mixed<|a0J (m:=10) [0,1,2,5] ?_
    refine zz ?_
    refine DrawG.jn (m:=3) (L:=lst [0,1,2,3,4,5,6,7,8,9,10] 14) (s1:=aG 112 [(2,.ptr 0 0),(4,.ptr 1 0),(8,.ptr 2 0),(11,.ptr 3 0),(29,.row none 1 (l.map (eI .u8))),(30,eI .i64 (l.length:Int)),(31,eI .i64 x31),(90,.sl 4 0 x90.length 69 true),(95,.sl 5 0 x95.length 34 true),(96,.ptr 0 80)]) (h1:=[some ⟨40,(eI .u32 vw.Params.Genesis.Version)::(aL (eI .u8) vw.Params.Genesis.Prev (aL (eI .u8) vw.Params.Genesis.Root ((eI .u32 vw.Params.Genesis.Time)::((eI .u32 vw.Params.Genesis.Bits)::((eI .u32 vw.Params.Genesis.Nonce)::(dU (eI .u64) vw.Params.Limit [eI .i64 vw.Params.Window,eI .u32 vw.Params.Spacing,eI .u32 vw.Params.Future,eI .u32 vw.Params.Version,.row none 33 (vw.Params.Checkpoints.map aW),eI .i64 vw.Params.Subsidy,eI .i64 vw.Params.Halving,eI .i64 vw.Params.Maturity,.sl 6 0 eZ.length 69 true,.sl 7 0 eF.length 34 true,.sl 8 0 dQ.length 36 true,.sl 9 0 dP.length 1 true]))))))⟩,some ⟨40,(eI .u32 0)::(aL (eI .u8) (a0F 32 0) (aL (eI .u8) (a0F 32 0) ((eI .u32 0)::((eI .u32 0)::((eI .u32 0)::(dU (eI .u64) (a0F 4 0) [eI .i64 0,eI .u32 0,eI .u32 0,eI .u32 0,.row (some true) 1 [],eI .i64 0,eI .i64 0,eI .i64 0,.row (some true) 1 [],.row (some true) 1 [],.row (some true) 1 [],.row (some true) 1 []]))))))⟩,some ⟨51,b9 x83.1⟩,some ⟨54,dD x62.2.1⟩,some ⟨47,x90.flatMap bK⟩,some ⟨44,x95.flatMap bI⟩,none,none,some ⟨51,dQ.flatMap b9⟩,some ⟨54,dP.flatMap dD⟩]) ?_ (fun J=> ?_)
    ·refine a0J (m:=0) [11,12,13]<|zz ?_
     refine a0L (by decide +kernel) ?_
     obtain⟨aIG,h_15,aQq,h_16,hr2⟩:=b8 hr2
     refine zz ?_
     refine AB.rd (cD []) (cD []) mixed<|a0J (m:=10) [0,1,2,5] ?_
     refine zz ?_
     refine DrawG.jn (m:=3) (L:=lst [0,1,2,3,4,5,6,7,8,9,10] 14) (s1:=aG 112 [(2,.ptr 0 0),(4,.ptr 1 0),(29,.row none 1 (l.map (eI .u8))),(30,eI .i64 (l.length:Int)),(31,eI .i64 x31),(102,.sl 2 0 aIG.length 36 true),(107,.sl 3 0 aQq.length 1 true),(108,.ptr 0 82)]) (h1:=[some ⟨40,(eI .u32 vw.Params.Genesis.Version)::(aL (eI .u8) vw.Params.Genesis.Prev (aL (eI .u8) vw.Params.Genesis.Root ((eI .u32 vw.Params.Genesis.Time)::((eI .u32 vw.Params.Genesis.Bits)::((eI .u32 vw.Params.Genesis.Nonce)::(dU (eI .u64) vw.Params.Limit [eI .i64 vw.Params.Window,eI .u32 vw.Params.Spacing,eI .u32 vw.Params.Future,eI .u32 vw.Params.Version,.row none 33 (vw.Params.Checkpoints.map aW),eI .i64 vw.Params.Subsidy,eI .i64 vw.Params.Halving,eI .i64 vw.Params.Maturity,.sl 4 0 x90.length 69 true,.sl 5 0 x95.length 34 true,.sl 6 0 dQ.length 36 true,.sl 7 0 dP.length 1 true]))))))⟩,some ⟨40,(eI .u32 0)::(aL (eI .u8) (a0F 32 0) (aL (eI .u8) (a0F 32 0) ((eI .u32 0)::((eI .u32 0)::((eI .u32 0)::(dU (eI .u64) (a0F 4 0) [eI .i64 0,eI .u32 0,eI .u32 0,eI .u32 0,.row (some true) 1 [],eI .i64 0,eI .i64 0,eI .i64 0,.row (some true) 1 [],.row (some true) 1 [],.row (some true) 1 [],.row (some true) 1 []]))))))⟩,some ⟨51,aIG.flatMap b9⟩,some ⟨54,aQq.flatMap dD⟩,some ⟨47,x90.flatMap bK⟩,some ⟨44,x95.flatMap bI⟩,none,none]) ?_ (fun J=> ?_)
     ·refine a0J (m:=0) [11,12,13]<|zz ?_
      refine a0L (by decide +kernel) ?_
      refine zz ?_
      exact hG3 (zG [0,1,4,5,2,3]) (J3 x90 x95 aIG aQq hr2)
     repeat' first
     |(refine DrawG.jh J ?_;first|exact zGd [0,1,11,13,4,5,8,9]|exact zGd [0,1,12,13,4,5,8,9])
     |((first|refine a0H 3 ?_|refine a0H 4 ?_|refine a0H 6 ?_|refine a0H 7 ?_|refine a0H 8 ?_|refine a0H 9 ?_|refine a0H 10 ?_)<;>(first|(refine mC b9 36 [x83.1] ?_;refine zz ?_)|(refine mC dD 1 [x62.2.1] ?_;refine zz ?_)|refine zz ?_))
     |((first|refine a0G [3,6,7] ⟨?_, ?_, ?_,trivial⟩|refine a0G [4,6,7] ⟨?_, ?_, ?_,trivial⟩|refine a0G [4,7] ⟨?_, ?_,trivial⟩|refine a0G [4,8] ⟨?_, ?_,trivial⟩|refine a0G [4,6,8] ⟨?_, ?_, ?_,trivial⟩|refine a0G [4,6] ⟨?_, ?_,trivial⟩|refine a0G [3,7] ⟨?_, ?_,trivial⟩|refine a0G [3,8] ⟨?_, ?_,trivial⟩|refine a0G [3,6,8] ⟨?_, ?_, ?_,trivial⟩)<;>(first|(refine mC b9 36 [x83.1] ?_;refine zz ?_)|(refine mC dD 1 [x62.2.1] ?_;refine zz ?_)|refine zz ?_))
    repeat' first
    |(refine DrawG.jh J ?_;first|exact zGd [0,1,2,5,11,13,6,7,8,9]|exact zGd [0,1,2,5,12,13,6,7,8,9])
    |((first|refine a0H 3 ?_|refine a0H 4 ?_|refine a0H 6 ?_|refine a0H 7 ?_|refine a0H 8 ?_|refine a0H 9 ?_|refine a0H 10 ?_)<;>(first|(refine mC bK 69 [x56] ?_;refine zz ?_)|(refine mC bI 34 [x62.1] ?_;refine zz ?_)|refine zz ?_))
    |((first|refine a0G [3,6,7] ⟨?_, ?_, ?_,trivial⟩|refine a0G [4,6,7] ⟨?_, ?_, ?_,trivial⟩|refine a0G [4,7] ⟨?_, ?_,trivial⟩|refine a0G [4,8] ⟨?_, ?_,trivial⟩|refine a0G [4,6,8] ⟨?_, ?_, ?_,trivial⟩|refine a0G [4,6] ⟨?_, ?_,trivial⟩|refine a0G [3,7] ⟨?_, ?_,trivial⟩|refine a0G [3,8] ⟨?_, ?_,trivial⟩|refine a0G [3,6,8] ⟨?_, ?_, ?_,trivial⟩)<;>(first|(refine mC bK 69 [x56] ?_;refine zz ?_)|(refine mC bI 34 [x62.1] ?_;refine zz ?_)|refine zz ?_))
   rcases Bool.eq_false_or_eq_true (x62.2.2 != 0)with h17|h17
   ·replace hr2:=aEp hr2 h17
    refine xr<|zz ?_
    exact hG4 (zG [0,1,3,8,9,10,4,5,6,7]) (J4 true hr2)
   replace hr2:=aFE hr2 h17
   obtain⟨x74,h_18,hr2⟩:=aN hr2
   refine xr<|zz ?_
   refine xCg (v:=(eI .i64 x74)) (h':=[some ⟨40,(eI .u32 vw.Params.Genesis.Version)::(aL (eI .u8) vw.Params.Genesis.Prev (aL (eI .u8) vw.Params.Genesis.Root ((eI .u32 vw.Params.Genesis.Time)::((eI .u32 vw.Params.Genesis.Bits)::((eI .u32 vw.Params.Genesis.Nonce)::(dU (eI .u64) vw.Params.Limit [eI .i64 vw.Params.Window,eI .u32 vw.Params.Spacing,eI .u32 vw.Params.Future,eI .u32 vw.Params.Version,.row none 33 (vw.Params.Checkpoints.map aW),eI .i64 vw.Params.Subsidy,eI .i64 vw.Params.Halving,eI .i64 vw.Params.Maturity,.sl 4 0 eZ.length 69 true,.sl 5 0 eF.length 34 true,.sl 6 0 dQ.length 36 true,.sl 7 0 dP.length 1 true]))))))⟩,some ⟨40,(eI .u32 0)::(aL (eI .u8) (a0F 32 0) (aL (eI .u8) (a0F 32 0) ((eI .u32 0)::((eI .u32 0)::((eI .u32 0)::(dU (eI .u64) (a0F 4 0) [eI .i64 0,eI .u32 0,eI .u32 0,eI .u32 0,.row (some true) 1 [],eI .i64 0,eI .i64 0,eI .i64 0,.row (some true) 1 [],.row (some true) 1 [],.row (some true) 1 [],.row (some true) 1 []]))))))⟩,some ⟨44,bI x41⟩,some ⟨51,b9 x49⟩,some ⟨47,eZ.flatMap bK⟩,some ⟨44,eF.flatMap bI⟩,some ⟨51,dQ.flatMap b9⟩,some ⟨54,dP.flatMap dD⟩,some ⟨47,bK x56⟩,some ⟨44,bI x62.1⟩,some ⟨54,dD x62.2.1⟩]) rfl rfl h17 rfl (Vm.Fn.pure (aCU h_18) rfl rfl) ?_
   refine zz ?_
   exact hG4 (zG [0,1,3,8,9,10,4,5,6,7]) (J4 (x74 != 0) hr2)
  repeat' first
  |(refine DrawG.jh J ?_;first|exact zGd [0,1,6,7,2,3,4,5]|exact zGd [0,1,7,6,2,3,4,5])
  |((first|refine a0H 9 ?_|refine a0H 11 ?_|refine a0H 12 ?_|refine a0H 13 ?_|refine a0H 14 ?_|refine a0H 15 ?_|refine a0H 16 ?_|refine a0H 17 ?_|refine a0H 18 ?_)<;>(first|(refine xw (cP rfl (vF (C:=b9) (K:=36) (fun _=>rfl) rfl h_8 (nJ (ds:=((eI .i64 x49.Height)::(aL (eI .u8) x49.Hash [eI .u32 x49.Bits,eI .u32 x49.First,.row none 1 (x49.Times.map (eI .u32))]))) aGp rfl zl rfl))) ?_;refine zz ?_)|refine zz ?_))
  |((first|refine a0G [9,11,16,17] ⟨?_, ?_, ?_, ?_,trivial⟩|refine a0G [11,16,17] ⟨?_, ?_, ?_,trivial⟩|refine a0G [12,16,17] ⟨?_, ?_, ?_,trivial⟩|refine a0G [15,16,17] ⟨?_, ?_, ?_,trivial⟩|refine a0G [16,17] ⟨?_, ?_,trivial⟩|refine a0G [15,18] ⟨?_, ?_,trivial⟩|refine a0G [12,18] ⟨?_, ?_,trivial⟩|refine a0G [11,18] ⟨?_, ?_,trivial⟩|refine a0G [9,12,16,17] ⟨?_, ?_, ?_, ?_,trivial⟩|refine a0G [9,16,17] ⟨?_, ?_, ?_,trivial⟩|refine a0G [9,18] ⟨?_, ?_,trivial⟩|refine a0G [9,12,18] ⟨?_, ?_, ?_,trivial⟩|refine a0G [9,11,18] ⟨?_, ?_, ?_,trivial⟩)<;>(first|(refine xw (cP rfl (vF (C:=b9) (K:=36) (fun _=>rfl) rfl h_8 (nJ (ds:=((eI .i64 x49.Height)::(aL (eI .u8) x49.Hash [eI .u32 x49.Bits,eI .u32 x49.First,.row none 1 (x49.Times.map (eI .u32))]))) aGp rfl zl rfl))) ?_;refine zz ?_)|refine zz ?_))
 obtain rfl:=sj hr2
 refine zz ?_
 exact hG1 (zG [0,1,2,3,4,5]) (J1 eZ eF dQ dP hr)
instance :CtC 67 true (aX @aKS):=⟨@aKS⟩
theorem aEd {N v l r} (hr:qV N v l=some r):
  Fp 30 [] [eI .u8 v,.row none 1 (l.map (eI .u8))] (iJ r) []:=
 fR func30 ntmps30 results30
instance :CtC 30 true (aX @aEd):=⟨@aEd⟩
end Go.Proofs.YtopdhljncajmpaaGreatDoor
