/- Texts of ours, joined. -/
import Derived.Test.YtopdhljncajmpaaGreatDoorQC3
import Derived.Test.YtopdhljncajmpaaGreatDoorQC12
open List renaming replicate → a1K
open Go.Vm.DrawG renaming fk → a1L,p1 → a1M,ps → a1O,jh → a1Q,nil → a1S
open Int renaming toNat_natCast → a1N
open Go.Vm.Ghost renaming trans → a1P
open Go.Vm.AB renaming seq → a1R
set_option linter.unusedVariables false
set_option linter.unusedSimpArgs false
set_option maxRecDepth 20000
set_option maxHeartbeats 8000000
namespace Go.Proofs.YtopdhljncajmpaaGreatDoor
open Go Go.Vm Go.Proofs.Tryz
theorem zGd {N n:Nat}{fr fr':List (Nat×V)}{h h':Hp}(σ:List Nat)
  (hf:FLe wP (V.rn (sg σ h.length)) fr fr':=by first|((repeat (first|exact FLe.nil|refine FLe.same rfl ?_|refine FLe.le rfl V.le_nil ?_|refine FLe.le rfl V.le_row ?_|refine FLe.le rfl (V.le_arr (fun _=>rfl)) ?_));done)|fail)
  (hh:HLe (sg σ h.length) h σ h':=by first|((repeat (first|exact HLe.nil|refine HLe.dead ?_|refine HLe.live rfl V.les_nil rfl ?_|refine HLe.live rfl (aFL (fun _=>rfl) _) (all_map (fun _=>rfl) _) ?_|refine HLe.live rfl (aAX (fun _=>rfl) _) (hY (fun _=>rfl) _) ?_|refine HLe.live rfl (V.les_refl _ _) rfl ?_));done)|fail)
  (hσ:σ.take N=List.range N:=by rfl) (hlt:σ.all (fun b=>Nat.blt b h.length)=true:=by rfl) (hnd:ndB (lvs σ h')=true:=by rfl):Ghost N (aG n fr) h (aG n fr') h':=Ghost.rn σ hσ hlt hf hh hnd
theorem aLk {N vw l r} (hr:aEa N vw l=some r):
  Vm.Fn Tryz.prog 67 [] [fS vw,.row none 1 (l.map (eI .u8))] (fS r) []:=by
 refine zf Tryz.func67 Tryz.ntmps67 ?_
 unfold aEa at hr
 refine zz ?_
 refine a1R ?_
 obtain⟨x15,h_1,x18,h_2,hr⟩:=cE hr
 refine AB.rs mixed [] [] [[0,1,2,3,4,5,6,7,8,9]]<|zz ?_
 refine a1R ?_
 obtain⟨x23,h_3,x26,h_4,hr⟩:=cE hr
 refine AB.rs mixed [] [] [[0,1,2,3,4,5,6,7,8,9]]<|zz ?_
 refine AB.seq_g fun K1 hK1 hG1=> ?_
 have J1: ∀l2 l3 l4 l5,aGq N vw l2 l3 l4 l5=some r→K1 (aG 112 [(2,.ptr 0 0),(4,.ptr 1 0)]) [some ⟨40,(eI .u32 vw.Params.Genesis.Version)::(aN (eI .u8) vw.Params.Genesis.Prev (aN (eI .u8) vw.Params.Genesis.Root ((eI .u32 vw.Params.Genesis.Time)::((eI .u32 vw.Params.Genesis.Bits)::((eI .u32 vw.Params.Genesis.Nonce)::(eG (eI .u64) vw.Params.Limit [eI .i64 vw.Params.Window,eI .u32 vw.Params.Spacing,eI .u32 vw.Params.Future,eI .u32 vw.Params.Version,.row none 33 (vw.Params.Checkpoints.map bB),eI .i64 vw.Params.Subsidy,eI .i64 vw.Params.Halving,eI .i64 vw.Params.Maturity,.sl 2 0 l2.length 69 true,.sl 3 0 l3.length 34 true,.sl 4 0 l4.length 36 true,.sl 5 0 l5.length 1 true]))))))⟩,some ⟨40,(eI .u32 0)::(aN (eI .u8) (a1K 32 0) (aN (eI .u8) (a1K 32 0) ((eI .u32 0)::((eI .u32 0)::((eI .u32 0)::(eG (eI .u64) (a1K 4 0) [eI .i64 0,eI .u32 0,eI .u32 0,eI .u32 0,.row (some true) 1 [],eI .i64 0,eI .i64 0,eI .i64 0,.row (some true) 1 [],.row (some true) 1 [],.row (some true) 1 [],.row (some true) 1 []]))))))⟩,some ⟨47,l2.flatMap aY⟩,some ⟨44,l3.flatMap bD⟩,some ⟨51,l4.flatMap cF⟩,some ⟨54,l5.flatMap cT⟩]:=by
  intro l2 l3 l4 l5 hr
  unfold aGq at hr
  refine hK1<|zz ?_
  obtain rfl:=sj hr
  exact zr1 Tryz.results67 fW (a1P (zqf [1,1,0,1,1,1]) (a1P (zqf [1,1,0,0,1,1]) (a1P (zqf [1,1,0,0,0,1]) (a1P (zqf [1,1,0,0,0,0]) (zG [])))))
 obtain⟨cN,hL2,hr⟩:=aL hr
 refine zz ?_
 refine AB.block<|AB.loopM (fun m s h=> ∃x31 fA eH dR eE,g9 N vw l m x31 fA eH dR eE=some cN∧Ghost 0 s h (aG 112 [(2,.ptr 0 0),(4,.ptr 1 0),(29,.row none 1 (l.map (eI .u8))),(30,eI .i64 (l.length:Int)),(31,eI .i64 x31)]) [some ⟨40,(eI .u32 vw.Params.Genesis.Version)::(aN (eI .u8) vw.Params.Genesis.Prev (aN (eI .u8) vw.Params.Genesis.Root ((eI .u32 vw.Params.Genesis.Time)::((eI .u32 vw.Params.Genesis.Bits)::((eI .u32 vw.Params.Genesis.Nonce)::(eG (eI .u64) vw.Params.Limit [eI .i64 vw.Params.Window,eI .u32 vw.Params.Spacing,eI .u32 vw.Params.Future,eI .u32 vw.Params.Version,.row none 33 (vw.Params.Checkpoints.map bB),eI .i64 vw.Params.Subsidy,eI .i64 vw.Params.Halving,eI .i64 vw.Params.Maturity,.sl 2 0 fA.length 69 true,.sl 3 0 eH.length 34 true,.sl 4 0 dR.length 36 true,.sl 5 0 eE.length 1 true]))))))⟩,some ⟨40,(eI .u32 0)::(aN (eI .u8) (a1K 32 0) (aN (eI .u8) (a1K 32 0) ((eI .u32 0)::((eI .u32 0)::((eI .u32 0)::(eG (eI .u64) (a1K 4 0) [eI .i64 0,eI .u32 0,eI .u32 0,eI .u32 0,.row (some true) 1 [],eI .i64 0,eI .i64 0,eI .i64 0,.row (some true) 1 [],.row (some true) 1 [],.row (some true) 1 [],.row (some true) 1 []]))))))⟩,some ⟨47,fA.flatMap aY⟩,some ⟨44,eH.flatMap bD⟩,some ⟨51,dR.flatMap cF⟩,some ⟨54,eE.flatMap cT⟩]) ⟨0,x15,x23,x26,x18,hL2,zG [0,1,3,7,9,5]⟩ ?_
 rintro m2 s h ⟨x31,fA,eH,dR,eE,hr2,hg⟩
 refine AB.ghost hg ?_
 clear hg hL2
 rw[g9]at hr2
 refine zz ?_
 refine a1R ?_
 refine zk hr2 ?_ ?_<;>intro h5 hr2<;>refine zz ?_
 ·refine AB.seq_g fun K3 hK3 hG3=> ?_
  have J3: ∀aB9 kB rO aA7,wR N vw l x31 (g9 N vw l m2) aB9 kB rO aA7=some cN→K3 (aG 112 [(2,.ptr 0 0),(4,.ptr 1 0),(29,.row none 1 (l.map (eI .u8))),(30,eI .i64 (l.length:Int)),(31,eI .i64 x31)]) [some ⟨40,(eI .u32 vw.Params.Genesis.Version)::(aN (eI .u8) vw.Params.Genesis.Prev (aN (eI .u8) vw.Params.Genesis.Root ((eI .u32 vw.Params.Genesis.Time)::((eI .u32 vw.Params.Genesis.Bits)::((eI .u32 vw.Params.Genesis.Nonce)::(eG (eI .u64) vw.Params.Limit [eI .i64 vw.Params.Window,eI .u32 vw.Params.Spacing,eI .u32 vw.Params.Future,eI .u32 vw.Params.Version,.row none 33 (vw.Params.Checkpoints.map bB),eI .i64 vw.Params.Subsidy,eI .i64 vw.Params.Halving,eI .i64 vw.Params.Maturity,.sl 2 0 aB9.length 69 true,.sl 3 0 kB.length 34 true,.sl 4 0 rO.length 36 true,.sl 5 0 aA7.length 1 true]))))))⟩,some ⟨40,(eI .u32 0)::(aN (eI .u8) (a1K 32 0) (aN (eI .u8) (a1K 32 0) ((eI .u32 0)::((eI .u32 0)::((eI .u32 0)::(eG (eI .u64) (a1K 4 0) [eI .i64 0,eI .u32 0,eI .u32 0,eI .u32 0,.row (some true) 1 [],eI .i64 0,eI .i64 0,eI .i64 0,.row (some true) 1 [],.row (some true) 1 [],.row (some true) 1 [],.row (some true) 1 []]))))))⟩,some ⟨47,aB9.flatMap aY⟩,some ⟨44,kB.flatMap bD⟩,some ⟨51,rO.flatMap cF⟩,some ⟨54,aA7.flatMap cT⟩]:=by
   intro aB9 kB rO aA7 hr2
   unfold wR at hr2
   refine hK3<|zz ?_
   exact⟨IntKind.i64.wrap (x31+1),aB9,kB,rO,aA7,hr2,zG [0,1,2,3,4,5]⟩
  refine AB.block ?_
  obtain⟨x33,h_6,hr2⟩:=aL hr2
  refine zz ?_
  refine a1R ?_
  obtain⟨x41,h_7,x49,h_8,hr2⟩:=cE hr2
  refine AB.rd (cA []) (cA []) mixed<|a1O (m:=4) [0,1,2,3,4,5,6,7,8,9,10,11,12,13,14,15] ?_
  refine zz ?_
  refine xw (v:=(dD x41)) (b8 rfl (rV (C:=bD) (K:=34) (fun _=>rfl) rfl h_7 (mU (ds:=((eI .i64 x41.Height)::(aN (eI .u8) x41.Tip [.row none 37 (x41.Coins.map aP)]))) aJl rfl zl rfl))) ?_
  refine zz ?_
  refine xw (v:=(fH x49)) (b8 rfl (rV (C:=cF) (K:=36) (fun _=>rfl) rfl h_8 (mU (ds:=((eI .i64 x49.Height)::(aN (eI .u8) x49.Hash [eI .u32 x49.Bits,eI .u32 x49.First,.row none 1 (x49.Times.map (eI .u32))]))) aH2 rfl zl rfl))) ?_
  refine zz ?_
  refine DrawG.jn (m:=1) (L:=lst [0,1,2,3,4,5,6,7,8,9,10,11,12,13,14,15,16,17,18] 20) (s1:=aG 112 [(2,.ptr 0 0),(4,.ptr 1 0),(6,eI .u8 x33),(7,.ptr 2 0),(8,.ptr 3 0),(29,.row none 1 (l.map (eI .u8))),(30,eI .i64 (l.length:Int)),(31,eI .i64 x31),(50,fH x49)]) (h1:=[some ⟨40,(eI .u32 vw.Params.Genesis.Version)::(aN (eI .u8) vw.Params.Genesis.Prev (aN (eI .u8) vw.Params.Genesis.Root ((eI .u32 vw.Params.Genesis.Time)::((eI .u32 vw.Params.Genesis.Bits)::((eI .u32 vw.Params.Genesis.Nonce)::(eG (eI .u64) vw.Params.Limit [eI .i64 vw.Params.Window,eI .u32 vw.Params.Spacing,eI .u32 vw.Params.Future,eI .u32 vw.Params.Version,.row none 33 (vw.Params.Checkpoints.map bB),eI .i64 vw.Params.Subsidy,eI .i64 vw.Params.Halving,eI .i64 vw.Params.Maturity,.sl 4 0 fA.length 69 true,.sl 5 0 eH.length 34 true,.sl 6 0 dR.length 36 true,.sl 7 0 eE.length 1 true]))))))⟩,some ⟨40,(eI .u32 0)::(aN (eI .u8) (a1K 32 0) (aN (eI .u8) (a1K 32 0) ((eI .u32 0)::((eI .u32 0)::((eI .u32 0)::(eG (eI .u64) (a1K 4 0) [eI .i64 0,eI .u32 0,eI .u32 0,eI .u32 0,.row (some true) 1 [],eI .i64 0,eI .i64 0,eI .i64 0,.row (some true) 1 [],.row (some true) 1 [],.row (some true) 1 [],.row (some true) 1 []]))))))⟩,some ⟨44,bD x41⟩,some ⟨51,(eI .i64 0)::(aN (eI .u8) (a1K 32 0) [eI .u32 0,eI .u32 0,.row (some true) 1 []])⟩,some ⟨47,fA.flatMap aY⟩,some ⟨44,eH.flatMap bD⟩,some ⟨51,dR.flatMap cF⟩,some ⟨54,eE.flatMap cT⟩]) ?_ (fun J=> ?_)
  ·refine a1O (m:=0) [19]<|zz ?_
   refine a1S (by decide +kernel) ?_
   obtain⟨x56,h_9,hr2⟩:=aL hr2
   refine zz ?_
   refine xp (aEB h_9) ?_
   obtain⟨x62,h_10,hr2⟩:=aL hr2
   refine zz ?_
   refine xp (uA h_10) ?_
   refine zz ?_
   refine a1R ?_
   refine AB.seq_g fun K4 hK4 hG4=> ?_
   have J4: ∀x76,s7 N vw l x31 fA eH dR eE x49 x56 x62 (g9 N vw l m2) x76=some cN→K4 (aG 112 [(2,.ptr 0 0),(4,.ptr 1 0),(8,.ptr 2 0),(9,.ptr 3 0),(10,.ptr 4 0),(11,.ptr 5 0),(29,.row none 1 (l.map (eI .u8))),(30,eI .i64 (l.length:Int)),(31,eI .i64 x31),(76,eB x76)]) [some ⟨40,(eI .u32 vw.Params.Genesis.Version)::(aN (eI .u8) vw.Params.Genesis.Prev (aN (eI .u8) vw.Params.Genesis.Root ((eI .u32 vw.Params.Genesis.Time)::((eI .u32 vw.Params.Genesis.Bits)::((eI .u32 vw.Params.Genesis.Nonce)::(eG (eI .u64) vw.Params.Limit [eI .i64 vw.Params.Window,eI .u32 vw.Params.Spacing,eI .u32 vw.Params.Future,eI .u32 vw.Params.Version,.row none 33 (vw.Params.Checkpoints.map bB),eI .i64 vw.Params.Subsidy,eI .i64 vw.Params.Halving,eI .i64 vw.Params.Maturity,.sl 6 0 fA.length 69 true,.sl 7 0 eH.length 34 true,.sl 8 0 dR.length 36 true,.sl 9 0 eE.length 1 true]))))))⟩,some ⟨40,(eI .u32 0)::(aN (eI .u8) (a1K 32 0) (aN (eI .u8) (a1K 32 0) ((eI .u32 0)::((eI .u32 0)::((eI .u32 0)::(eG (eI .u64) (a1K 4 0) [eI .i64 0,eI .u32 0,eI .u32 0,eI .u32 0,.row (some true) 1 [],eI .i64 0,eI .i64 0,eI .i64 0,.row (some true) 1 [],.row (some true) 1 [],.row (some true) 1 [],.row (some true) 1 []]))))))⟩,some ⟨51,cF x49⟩,some ⟨47,aY x56⟩,some ⟨44,bD x62.1⟩,some ⟨54,cT x62.2.1⟩,some ⟨47,fA.flatMap aY⟩,some ⟨44,eH.flatMap bD⟩,some ⟨51,dR.flatMap cF⟩,some ⟨54,eE.flatMap cT⟩]:=by
    intro x76 hr2
    unfold s7 at hr2
    refine hK4 ?_
    refine zk hr2 ?_ ?_<;>intro h11 hr2
    ·refine zz ?_
     exact hG3 (zG [0,1,6,7,8,9]) (J3 fA eH dR eE hr2)
    obtain⟨x83,h_12,hr2⟩:=aL hr2
    refine zz ?_
    refine xp (uB h_12) ?_
    refine zz ?_
    refine a1R ?_
    obtain⟨x90,h_13,x95,h_14,hr2⟩:=cE hr2
    refine AB.rd (cA []) (cA []) mixed<|a1O (m:=10) [0,1,2,5] ?_
    refine zz ?_
    refine DrawG.jn (m:=3) (L:=lst [0,1,2,3,4,5,6,7,8,9,10] 14) (s1:=aG 112 [(2,.ptr 0 0),(4,.ptr 1 0),(8,.ptr 2 0),(11,.ptr 3 0),(29,.row none 1 (l.map (eI .u8))),(30,eI .i64 (l.length:Int)),(31,eI .i64 x31),(90,.sl 4 0 x90.length 69 true),(95,.sl 5 0 x95.length 34 true),(96,.ptr 0 80)]) (h1:=[some ⟨40,(eI .u32 vw.Params.Genesis.Version)::(aN (eI .u8) vw.Params.Genesis.Prev (aN (eI .u8) vw.Params.Genesis.Root ((eI .u32 vw.Params.Genesis.Time)::((eI .u32 vw.Params.Genesis.Bits)::((eI .u32 vw.Params.Genesis.Nonce)::(eG (eI .u64) vw.Params.Limit [eI .i64 vw.Params.Window,eI .u32 vw.Params.Spacing,eI .u32 vw.Params.Future,eI .u32 vw.Params.Version,.row none 33 (vw.Params.Checkpoints.map bB),eI .i64 vw.Params.Subsidy,eI .i64 vw.Params.Halving,eI .i64 vw.Params.Maturity,.sl 6 0 fA.length 69 true,.sl 7 0 eH.length 34 true,.sl 8 0 dR.length 36 true,.sl 9 0 eE.length 1 true]))))))⟩,some ⟨40,(eI .u32 0)::(aN (eI .u8) (a1K 32 0) (aN (eI .u8) (a1K 32 0) ((eI .u32 0)::((eI .u32 0)::((eI .u32 0)::(eG (eI .u64) (a1K 4 0) [eI .i64 0,eI .u32 0,eI .u32 0,eI .u32 0,.row (some true) 1 [],eI .i64 0,eI .i64 0,eI .i64 0,.row (some true) 1 [],.row (some true) 1 [],.row (some true) 1 [],.row (some true) 1 []]))))))⟩,some ⟨51,cF x83.1⟩,some ⟨54,cT x62.2.1⟩,some ⟨47,x90.flatMap aY⟩,some ⟨44,x95.flatMap bD⟩,none,none,some ⟨51,dR.flatMap cF⟩,some ⟨54,eE.flatMap cT⟩]) ?_ (fun J=> ?_)
    ·refine a1O (m:=0) [11,12,13]<|zz ?_
     refine a1S (by decide +kernel) ?_
     obtain⟨aJc,h_15,aQ6,h_16,hr2⟩:=cE hr2
     refine zz ?_
     refine AB.rd (cA []) (cA []) mixed<|a1O (m:=10) [0,1,2,5] ?_
     refine zz ?_
     refine DrawG.jn (m:=3) (L:=lst [0,1,2,3,4,5,6,7,8,9,10] 14) (s1:=aG 112 [(2,.ptr 0 0),(4,.ptr 1 0),(29,.row none 1 (l.map (eI .u8))),(30,eI .i64 (l.length:Int)),(31,eI .i64 x31),(102,.sl 2 0 aJc.length 36 true),(107,.sl 3 0 aQ6.length 1 true),(108,.ptr 0 82)]) (h1:=[some ⟨40,(eI .u32 vw.Params.Genesis.Version)::(aN (eI .u8) vw.Params.Genesis.Prev (aN (eI .u8) vw.Params.Genesis.Root ((eI .u32 vw.Params.Genesis.Time)::((eI .u32 vw.Params.Genesis.Bits)::((eI .u32 vw.Params.Genesis.Nonce)::(eG (eI .u64) vw.Params.Limit [eI .i64 vw.Params.Window,eI .u32 vw.Params.Spacing,eI .u32 vw.Params.Future,eI .u32 vw.Params.Version,.row none 33 (vw.Params.Checkpoints.map bB),eI .i64 vw.Params.Subsidy,eI .i64 vw.Params.Halving,eI .i64 vw.Params.Maturity,.sl 4 0 x90.length 69 true,.sl 5 0 x95.length 34 true,.sl 6 0 dR.length 36 true,.sl 7 0 eE.length 1 true]))))))⟩,some ⟨40,(eI .u32 0)::(aN (eI .u8) (a1K 32 0) (aN (eI .u8) (a1K 32 0) ((eI .u32 0)::((eI .u32 0)::((eI .u32 0)::(eG (eI .u64) (a1K 4 0) [eI .i64 0,eI .u32 0,eI .u32 0,eI .u32 0,.row (some true) 1 [],eI .i64 0,eI .i64 0,eI .i64 0,.row (some true) 1 [],.row (some true) 1 [],.row (some true) 1 [],.row (some true) 1 []]))))))⟩,some ⟨51,aJc.flatMap cF⟩,some ⟨54,aQ6.flatMap cT⟩,some ⟨47,x90.flatMap aY⟩,some ⟨44,x95.flatMap bD⟩,none,none]) ?_ (fun J=> ?_)
     ·refine a1O (m:=0) [11,12,13]<|zz ?_
      refine a1S (by decide +kernel) ?_
      refine zz ?_
      exact hG3 (zG [0,1,4,5,2,3]) (J3 x90 x95 aJc aQ6 hr2)
     repeat' first
     |(refine a1Q J ?_;first|exact zGd [0,1,11,13,4,5,8,9]|exact zGd [0,1,12,13,4,5,8,9])
     |((first|refine a1M 3 ?_|refine a1M 4 ?_|refine a1M 6 ?_|refine a1M 7 ?_|refine a1M 8 ?_|refine a1M 9 ?_|refine a1M 10 ?_)<;>(first|(refine jU cF 36 [x83.1] ?_;refine zz ?_)|(refine jU cT 1 [x62.2.1] ?_;refine zz ?_)|refine zz ?_))
     |((first|refine a1L [3,6,7] ⟨?_, ?_, ?_,trivial⟩|refine a1L [4,6,7] ⟨?_, ?_, ?_,trivial⟩|refine a1L [4,7] ⟨?_, ?_,trivial⟩|refine a1L [4,8] ⟨?_, ?_,trivial⟩|refine a1L [4,6,8] ⟨?_, ?_, ?_,trivial⟩|refine a1L [4,6] ⟨?_, ?_,trivial⟩|refine a1L [3,7] ⟨?_, ?_,trivial⟩|refine a1L [3,8] ⟨?_, ?_,trivial⟩|refine a1L [3,6,8] ⟨?_, ?_, ?_,trivial⟩)<;>(first|(refine jU cF 36 [x83.1] ?_;refine zz ?_)|(refine jU cT 1 [x62.2.1] ?_;refine zz ?_)|refine zz ?_))
    repeat' first
    |(refine a1Q J ?_;first|exact zGd [0,1,2,5,11,13,6,7,8,9]|exact zGd [0,1,2,5,12,13,6,7,8,9])
    |((first|refine a1M 3 ?_|refine a1M 4 ?_|refine a1M 6 ?_|refine a1M 7 ?_|refine a1M 8 ?_|refine a1M 9 ?_|refine a1M 10 ?_)<;>(first|(refine jU aY 69 [x56] ?_;refine zz ?_)|(refine jU bD 34 [x62.1] ?_;refine zz ?_)|refine zz ?_))
    |((first|refine a1L [3,6,7] ⟨?_, ?_, ?_,trivial⟩|refine a1L [4,6,7] ⟨?_, ?_, ?_,trivial⟩|refine a1L [4,7] ⟨?_, ?_,trivial⟩|refine a1L [4,8] ⟨?_, ?_,trivial⟩|refine a1L [4,6,8] ⟨?_, ?_, ?_,trivial⟩|refine a1L [4,6] ⟨?_, ?_,trivial⟩|refine a1L [3,7] ⟨?_, ?_,trivial⟩|refine a1L [3,8] ⟨?_, ?_,trivial⟩|refine a1L [3,6,8] ⟨?_, ?_, ?_,trivial⟩)<;>(first|(refine jU aY 69 [x56] ?_;refine zz ?_)|(refine jU bD 34 [x62.1] ?_;refine zz ?_)|refine zz ?_))
   rcases Bool.eq_false_or_eq_true (x62.2.2 != 0)with h17|h17
   ·replace hr2:=rQ hr2 h17
    refine xr<|zz ?_
    exact hG4 (zG [0,1,3,8,9,10,4,5,6,7]) (J4 true hr2)
   replace hr2:=sP hr2 h17
   obtain⟨x74,h_18,hr2⟩:=aL hr2
   refine xr<|zz ?_
   refine xCg (v:=(eI .i64 x74)) (h':=[some ⟨40,(eI .u32 vw.Params.Genesis.Version)::(aN (eI .u8) vw.Params.Genesis.Prev (aN (eI .u8) vw.Params.Genesis.Root ((eI .u32 vw.Params.Genesis.Time)::((eI .u32 vw.Params.Genesis.Bits)::((eI .u32 vw.Params.Genesis.Nonce)::(eG (eI .u64) vw.Params.Limit [eI .i64 vw.Params.Window,eI .u32 vw.Params.Spacing,eI .u32 vw.Params.Future,eI .u32 vw.Params.Version,.row none 33 (vw.Params.Checkpoints.map bB),eI .i64 vw.Params.Subsidy,eI .i64 vw.Params.Halving,eI .i64 vw.Params.Maturity,.sl 4 0 fA.length 69 true,.sl 5 0 eH.length 34 true,.sl 6 0 dR.length 36 true,.sl 7 0 eE.length 1 true]))))))⟩,some ⟨40,(eI .u32 0)::(aN (eI .u8) (a1K 32 0) (aN (eI .u8) (a1K 32 0) ((eI .u32 0)::((eI .u32 0)::((eI .u32 0)::(eG (eI .u64) (a1K 4 0) [eI .i64 0,eI .u32 0,eI .u32 0,eI .u32 0,.row (some true) 1 [],eI .i64 0,eI .i64 0,eI .i64 0,.row (some true) 1 [],.row (some true) 1 [],.row (some true) 1 [],.row (some true) 1 []]))))))⟩,some ⟨44,bD x41⟩,some ⟨51,cF x49⟩,some ⟨47,fA.flatMap aY⟩,some ⟨44,eH.flatMap bD⟩,some ⟨51,dR.flatMap cF⟩,some ⟨54,eE.flatMap cT⟩,some ⟨47,aY x56⟩,some ⟨44,bD x62.1⟩,some ⟨54,cT x62.2.1⟩]) rfl rfl h17 rfl (Vm.Fn.pure (aDa h_18) rfl rfl) ?_
   refine zz ?_
   exact hG4 (zG [0,1,3,8,9,10,4,5,6,7]) (J4 (x74 != 0) hr2)
  refine a1L (n:=3) [16,17] ⟨?_, ?_,trivial⟩
  ·refine zz ?_
   refine a1O (m:=1) [17,18]<|zz ?_
   refine a1Q J ?_
   exact(zG [0,1,6,7,2,3,4,5])
  refine zz ?_
  refine a1O (m:=1) [16,18]<|zz ?_
  refine a1Q J ?_
  exact(zG [0,1,7,6,2,3,4,5])
 obtain rfl:=sj hr2
 refine zz ?_
 exact hG1 (zG [0,1,2,3,4,5]) (J1 fA eH dR eE hr)
instance :CtC 67 true (bC @aLk):=⟨@aLk⟩
theorem aEA {N v l r} (hr:zN N v l=some r):
  Fp 30 [] [eI .u8 v,.row none 1 (l.map (eI .u8))] (fS r) []:=
 fV func30 ntmps30 results30
instance :CtC 30 true (bC @aEA):=⟨@aEA⟩
end Go.Proofs.YtopdhljncajmpaaGreatDoor
set_option linter.unusedSectionVars false
namespace Go.Vm
open Go
section
variable {P:Program}{t e:TypeId}{ti:TI}{h h':Hp}{b off sz by_ N:Nat}{z:Value}{k:IntKind}{j:Int}{α:Type}{l:List Int}{y v:Int}{E:Int→V}{cs r:List V}{ti':TI}
theorem aQ5 {n:Nat}{α:Type}{l:List α}{j:Int}{y:α}(hx:cC n l j=some y): ∃i:Nat,j=(i:Int)∧i<n∧l[i]? =some y:=by
 have h1:=aIo hx
 have h2:=fJ hx
 unfold aW at h2
 split at h2
 ·exact⟨j.toNat,by omega,by omega,h2⟩
 cases h2
theorem iaO (ht:aM P t=some ⟨.array N e,sz,by_,z⟩)(he:aM P e=some ti)(h1:ti.size=1)(hx:cC N l j=some y):fT P t (.ptr b off) (.sc (.int k j))=some (.ptr b (off+j.toNat)):=by
 obtain⟨i,rfl,h2,_⟩:=aQ5 hx
 simp[fT,ht,nQ,he,h1,h2]
theorem ldO (hl:l.length=32)(hb:h[b]? =some (some ⟨e,cs⟩))(hc:cs.drop off=aN E l r)(ht:aM P t=some ti')(hd:cB ti'.desc=false)(hx:cC 32 l j=some y):eM P t h (.ptr b (off+j.toNat))=some (E y):=by
 obtain⟨n,rfl,h2,h3⟩:=aQ5 hx
 have hn:n<l.length:=by omega
 have hy:l[n]=y:=(List.getElem?_eq_some_iff.1 h3).2
 refine ldP hb (lW ht hd ?_)
 rw[←List.drop_drop,hc,xY hl,List.head?_drop,a1N,List.getElem?_append_left (by simpa using hn),List.getElem?_map,List.getElem?_eq_getElem hn,hy]
 rfl
theorem stO (hl:l.length=32)(ht:aM P t=some ti')(hs:ti'.size=1)(hb:h[b]? =some (some ⟨e,cs⟩))(hc:cs.drop off=aN E l r)(hE: ∀x,(E x).cells=[E x])(hf: ∀x,(E x).flatOk=true)(hx:cC 32 l j=some y)(hh:h.set b (some ⟨e,cs.take off++aN E (l.set j.toNat v) r⟩)=h'):lZ P t h (.ptr b (off+j.toNat)) (E v)=some h':=by
 obtain⟨n,rfl,h2,h3⟩:=aQ5 hx
 have hn:n<l.length:=by omega
 have h0:off≤cs.length:=by
  rcases Nat.le_total off cs.length with h|h
  ·exact h
  rw[List.drop_eq_nil_of_le h,xY hl]at hc
  have:=congrArg List.length hc
  simp[hl]at this
  omega
 have hcs:cs=cs.take off++(l.map E++r):=by rw[←xY hl,←hc,List.take_append_drop]
 have hlen:cs.length=off+(32+r.length):=by
  have:=congrArg List.length hcs
  simp only[List.length_append,List.length_take,List.length_map,hl]at this
  omega
 refine stP ht hb (hf v) (by rw[hE,hs];rfl) (by rw[hs,a1N];omega) ?_
 rw[←hh,hE]
 congr 3
 unfold splice
 rw[xY (by rw[List.length_set];exact hl),a1N,List.length_singleton]
 have e1:cs.take (off+n)=cs.take off++(l.map E).take n:=by
  rw[List.take_add,hc,xY hl,List.take_append_of_le_length (by simp;omega)]
 have e2:cs.drop (off+n+1)=(l.map E).drop (n+1)++r:=by
  rw[Nat.add_assoc,←List.drop_drop,hc,xY hl,List.drop_append_of_le_length (by simp;omega)]
 rw[e1,e2,List.map_set,List.set_eq_take_append_cons_drop,if_pos (by simpa using hn)]
 simp
end
end Go.Vm
