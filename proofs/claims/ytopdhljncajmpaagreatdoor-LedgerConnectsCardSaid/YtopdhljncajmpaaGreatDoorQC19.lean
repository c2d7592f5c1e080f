/- Texts of ours, joined. -/
import Derived.Test.YtopdhljncajmpaaGreatDoorQC13
import Derived.Test.YtopdhljncajmpaaGreatDoorQC14
import Derived.Test.YtopdhljncajmpaaGreatDoorQC18
open List renaming replicate → a1K,flatMap_cons → a1Y
open Go.IntKind renaming i64 → a1L
open Go.Vm.Convs renaming cons → a1M,same → a1W
open Go.Vm.DrawG renaming ps → a1N,nil → a1Z,jh → a10
open Go.Vm.AB renaming seq → a1O,block → a1S
open Prod renaming snd → a1P
open Go.Vm.FCv renaming cons → a1Q
open Go.Vm.Conv renaming same → a1R,rowK → a11
open Bool renaming eq_false_or_eq_true → a1T
open Go.Vm.Ghost renaming trans → a1U
open Go.Vm.HCv renaming live → a1V,dead → a1X
set_option linter.unusedVariables false
set_option linter.unusedSimpArgs false
set_option maxRecDepth 20000
set_option maxHeartbeats 8000000
namespace Go.Proofs.YtopdhljncajmpaaGreatDoor
open Go Go.Vm Go.Proofs.Tryz
theorem aOb {N v mP r} (hr:aDK N v mP=some r):
  Fp 9 [] [eI .u8 v,.row none 1 (mP.map (eI .u8))] (fS r) []:=
 fV func9 ntmps9 results9
theorem r7 {N p l b r} (hr:sN N p l b=some r):
  Fp 12 [] [cU p,dD l,dZ b] (.tup [dD r.1,aJw r.2.1,eI .i64 r.2.2]) []:=by
 refine bT func12 ntmps12 results12 fun hR=> ?_
 refine zz ?_
 obtain⟨x26,h_1,hr⟩:=aL hr
 refine a1O<|zz ?_
 refine xp (aDm h_1) ?_
 refine zz ?_
 refine zk hr ?_ ?_<;>intro h2 hr<;>refine zz ?_
 ·exact zE
 refine xw (v:=(.agg ((eI .u32 p.Genesis.Version)::(aN (eI .u8) p.Genesis.Prev (aN (eI .u8) p.Genesis.Root ((eI .u32 p.Genesis.Time)::((eI .u32 p.Genesis.Bits)::((eI .u32 p.Genesis.Nonce)::(eG (eI .u64) p.Limit [eI .i64 p.Window,eI .u32 p.Spacing,eI .u32 p.Future,eI .u32 p.Version,.row none 33 (p.Checkpoints.map bB),eI .i64 p.Subsidy,eI .i64 p.Halving,eI .i64 p.Maturity,eI .i64 (a1L.wrap (l.Height+1)),.mp 5,.row (some true) 1 [],eI .i64 0]))))))))) (cS rfl (jC aHq aTj rfl)) ?_
 refine zz ?_
 refine bW (zU N p l b) (fun l5=>[(3,.ptr 0 0),(5,.ptr 1 0),(6,.ptr 2 0),(7,.ptr 3 0),(10,.ptr 4 0)]) (fun l5=>[some ⟨34,bG p⟩,some ⟨47,aY b⟩,some ⟨44,(eI .i64 0)::(aN (eI .u8) (a1K 32 0) [.row (some true) 1 []])⟩,some ⟨54,[.row (some true) 1 []]⟩,some ⟨102,(eI .u32 p.Genesis.Version)::(aN (eI .u8) p.Genesis.Prev (aN (eI .u8) p.Genesis.Root ((eI .u32 p.Genesis.Time)::((eI .u32 p.Genesis.Bits)::((eI .u32 p.Genesis.Nonce)::(eG (eI .u64) p.Limit [eI .i64 p.Window,eI .u32 p.Spacing,eI .u32 p.Future,eI .u32 p.Version,.row none 33 (p.Checkpoints.map bB),eI .i64 p.Subsidy,eI .i64 p.Halving,eI .i64 p.Maturity,eI .i64 (a1L.wrap (l.Height+1)),.mp 5,.row (some true) 1 [],eI .i64 0]))))))⟩,some ⟨33037,l5.flatMap fG⟩]) ?_ (body:= ?_)
 rotate_left
 ·clear hr
  intro l5 hr
  refine sk3 (sC N p l b) (fun c4 eE l6=>[(3,.ptr 0 0),(5,.ptr 1 0),(6,.ptr 2 0),(7,.ptr 3 0),(10,.ptr 4 0)]) (fun c4 eE l6=>[some ⟨34,bG p⟩,some ⟨47,aY b⟩,some ⟨44,(eI .i64 0)::(aN (eI .u8) (a1K 32 0) [.row (some true) 1 []])⟩,some ⟨54,[.row (some true) 1 []]⟩,some ⟨102,(eI .u32 p.Genesis.Version)::(aN (eI .u8) p.Genesis.Prev (aN (eI .u8) p.Genesis.Root ((eI .u32 p.Genesis.Time)::((eI .u32 p.Genesis.Bits)::((eI .u32 p.Genesis.Nonce)::(eG (eI .u64) p.Limit [eI .i64 p.Window,eI .u32 p.Spacing,eI .u32 p.Future,eI .u32 p.Version,.row none 33 (p.Checkpoints.map bB),eI .i64 p.Subsidy,eI .i64 p.Halving,eI .i64 p.Maturity,eI .i64 (a1L.wrap (l.Height+1)),.mp 5,.sl 6 0 l6.length 37 true,eI .i64 c4]))))))⟩,some ⟨33037,eE.flatMap fG⟩,some ⟨80,l6.flatMap aH⟩]) ?_ (body:= ?_)
  rotate_left
  ·clear hr
   intro c4 eE l6 hr
   refine zz ?_
   refine bW (zX N p l b c4 eE l6) (fun aOy=>[(3,.ptr 0 0),(5,.ptr 1 0),(6,.ptr 2 0),(7,.ptr 3 0),(10,.ptr 4 0),(17,eI .i64 aOy)]) (fun aOy=>[some ⟨34,bG p⟩,some ⟨47,aY b⟩,some ⟨44,(eI .i64 0)::(aN (eI .u8) (a1K 32 0) [.row (some true) 1 []])⟩,some ⟨54,[.row (some true) 1 []]⟩,some ⟨102,(eI .u32 p.Genesis.Version)::(aN (eI .u8) p.Genesis.Prev (aN (eI .u8) p.Genesis.Root ((eI .u32 p.Genesis.Time)::((eI .u32 p.Genesis.Bits)::((eI .u32 p.Genesis.Nonce)::(eG (eI .u64) p.Limit [eI .i64 p.Window,eI .u32 p.Spacing,eI .u32 p.Future,eI .u32 p.Version,.row none 33 (p.Checkpoints.map bB),eI .i64 p.Subsidy,eI .i64 p.Halving,eI .i64 p.Maturity,eI .i64 (a1L.wrap (l.Height+1)),.mp 5,.sl 6 0 l6.length 37 true,eI .i64 c4]))))))⟩,some ⟨33037,eE.flatMap fG⟩,some ⟨80,l6.flatMap aH⟩]) ?_ (body:= ?_)
   rotate_left
   ·clear hr
    intro aOy hr
    refine a1O<|a1O ?_
    obtain⟨aLo,h_3,hr⟩:=aL hr
    refine AB.rs mixed [26] [] [[0,1,2,3,4,5,6,7,8,9,10,11,12]]<|zz ?_
    refine xu (z8 h_3) ?_
    refine zz ?_
    refine zk hr ?_ ?_<;>intro h5 hr
    ·exact zE
    obtain⟨aFT,h_6,hr⟩:=aL hr
    refine zz ?_
    refine zc (aIX h_6) [4,5,6] ?_
    refine zz ?_
    obtain⟨aYg,h_7,hr⟩:=aL hr
    refine a1O<|zz ?_
    refine xp (aBm h_7) ?_
    refine zz ?_
    refine zk hr ?_ ?_<;>intro h8 hr<;>refine zz ?_
    ·exact zE
    refine a1O<|zz ?_
    refine zk hr ?_ ?_<;>intro h9 hr<;>refine zz ?_
    ·exact zE
    refine a1O ?_
    obtain⟨aMP,h_10,q,h_12,hr⟩:=cE hr
    refine AB.rd (cA [43]) (cA []) mixed<|a1N (m:=5) [0,1,2,3,4,5,6,7,8,9,10,11] ?_
    refine zz ?_
    refine xu (aEQ h_10) ?_
    refine zz ?_
    refine xw (v:=(.agg ((eI .i64 (a1L.wrap (l.Height+1)))::(aN (eI .u8) aMP [.row none 37 (aFT.map aP)])))) (cS rfl (aJF (ps':=[(0,eI .i64 (a1L.wrap (l.Height+1))),(1,.agg (aN (eI .u8) aMP [])),(2,.row none 37 (aFT.map aP))]) (by simp only[dJ (l:=aMP) (aU h_12)]<;>rfl) (jC aJl aS3 (by kernel_rfl)))) ?_
    refine zz ?_
    refine DrawG.jn (m:=2) (L:=lst [0,1,2,3,4,5,6,7,8,9,10,11,12,13,14] 17) (s1:=aG 143 [(6,.ptr 0 0),(7,.ptr 1 0),(142,.agg [.sl 2 0 l6.length 37 true])]) (h1:=[some ⟨44,(eI .i64 (a1L.wrap (l.Height+1)))::(aN (eI .u8) aMP [.row none 37 (aFT.map aP)])⟩,some ⟨54,[.row (some true) 1 []]⟩,some ⟨80,l6.flatMap aH⟩]) ?_ (fun J=> ?_)
    ·refine a1N (m:=0) [15,16]<|zz ?_
     refine a1Z (by decide +kernel) ?_
     exact zE
    refine DrawG.fk (n:=4) [12,14] ⟨?_, ?_,trivial⟩
    ·refine zz ?_
     refine a1N (m:=2) [13,14]<|zz ?_
     refine a10 J ?_
     exact(zG [2,3,6])
    refine zz ?_
    refine a1N (m:=2) [12,13]<|zz ?_
    refine a10 J ?_
    exact(zG [2,3,6])
   obtain⟨x85,h_13,res4,hL4,hr⟩:=cE hr
   refine zz ?_
   exact a1S<|dH hL4 (fun made_1 x89=>[(3,.ptr 0 0),(5,.ptr 1 0),(6,.ptr 2 0),(7,.ptr 3 0),(10,.ptr 4 0),(17,eI .i64 made_1),(87,.row none 2 (x85.Outputs.map b7)),(88,eI .i64 (x85.Outputs.length:Int)),(89,eI .i64 x89)]) (fun made_1 x89=>[some ⟨34,bG p⟩,some ⟨47,aY b⟩,some ⟨44,(eI .i64 0)::(aN (eI .u8) (a1K 32 0) [.row (some true) 1 []])⟩,some ⟨54,[.row (some true) 1 []]⟩,some ⟨102,(eI .u32 p.Genesis.Version)::(aN (eI .u8) p.Genesis.Prev (aN (eI .u8) p.Genesis.Root ((eI .u32 p.Genesis.Time)::((eI .u32 p.Genesis.Bits)::((eI .u32 p.Genesis.Nonce)::(eG (eI .u64) p.Limit [eI .i64 p.Window,eI .u32 p.Spacing,eI .u32 p.Future,eI .u32 p.Version,.row none 33 (p.Checkpoints.map bB),eI .i64 p.Subsidy,eI .i64 p.Halving,eI .i64 p.Maturity,eI .i64 (a1L.wrap (l.Height+1)),.mp 5,.sl 6 0 l6.length 37 true,eI .i64 c4]))))))⟩,some ⟨33037,eE.flatMap fG⟩,some ⟨80,l6.flatMap aH⟩])
  obtain⟨res5,hL5,hr⟩:=aL hr
  refine zz ?_
  refine a1S<|lp4 hL5 (fun x57 aEt aA7 l6_1=>[(3,.ptr 0 0),(5,.ptr 1 0),(6,.ptr 2 0),(7,.ptr 3 0),(10,.ptr 4 0),(55,.row none 4 (b.Txs.map aZ)),(56,eI .i64 (b.Txs.length:Int)),(57,eI .i64 x57)]) (fun x57 aEt aA7 l6_1=>[some ⟨34,bG p⟩,some ⟨47,aY b⟩,some ⟨44,(eI .i64 0)::(aN (eI .u8) (a1K 32 0) [.row (some true) 1 []])⟩,some ⟨54,[.row (some true) 1 []]⟩,some ⟨102,(eI .u32 p.Genesis.Version)::(aN (eI .u8) p.Genesis.Prev (aN (eI .u8) p.Genesis.Root ((eI .u32 p.Genesis.Time)::((eI .u32 p.Genesis.Bits)::((eI .u32 p.Genesis.Nonce)::(eG (eI .u64) p.Limit [eI .i64 p.Window,eI .u32 p.Spacing,eI .u32 p.Future,eI .u32 p.Version,.row none 33 (p.Checkpoints.map bB),eI .i64 p.Subsidy,eI .i64 p.Halving,eI .i64 p.Maturity,eI .i64 (a1L.wrap (l.Height+1)),.mp 5,.sl 6 0 l6_1.length 37 true,eI .i64 aEt]))))))⟩,some ⟨33037,aA7.flatMap fG⟩,some ⟨80,l6_1.flatMap aH⟩]) (h0:=(a1U (Ghost.virt (fr':=[(3,.ptr 0 0),(5,.ptr 1 0),(6,.ptr 2 0),(7,.ptr 3 0),(10,.ptr 4 0),(55,.row none 4 (b.Txs.map aZ)),(56,eI .i64 (b.Txs.length:Int)),(57,eI .i64 0)]) (h1:=[some ⟨34,bG p⟩,some ⟨47,aY b⟩,some ⟨44,(eI .i64 0)::(aN (eI .u8) (a1K 32 0) [.row (some true) 1 []])⟩,some ⟨54,[.row (some true) 1 []]⟩,some ⟨102,(eI .u32 p.Genesis.Version)::(aN (eI .u8) p.Genesis.Prev (aN (eI .u8) p.Genesis.Root ((eI .u32 p.Genesis.Time)::((eI .u32 p.Genesis.Bits)::((eI .u32 p.Genesis.Nonce)::(eG (eI .u64) p.Limit [eI .i64 p.Window,eI .u32 p.Spacing,eI .u32 p.Future,eI .u32 p.Version,.row none 33 (p.Checkpoints.map bB),eI .i64 p.Subsidy,eI .i64 p.Halving,eI .i64 p.Maturity,eI .i64 (a1L.wrap (l.Height+1)),.mp 5,.sl 6 0 0 37 true,eI .i64 0]))))))⟩,some ⟨33037,l5.flatMap fG⟩]) 80 (FLe.same rfl (FLe.same rfl (FLe.same rfl (FLe.same rfl (FLe.same rfl (FLe.same rfl (FLe.same rfl (FLe.same rfl FLe.nil)))))))) (HLv.live (V.les_refl _ _) rfl (HLv.live (V.les_refl _ _) rfl (HLv.live (V.les_refl _ _) rfl (HLv.live (V.les_refl _ _) rfl (HLv.live (V.les_cons (V.le_refl _ _) (aMu (aMu (V.les_cons (V.le_refl _ _) (V.les_cons (V.le_refl _ _) (V.les_cons (V.le_refl _ _) (aXj (V.les_cons (V.le_refl _ _) (V.les_cons (V.le_refl _ _) (V.les_cons (V.le_refl _ _) (V.les_cons (V.le_refl _ _) (V.les_cons (V.le_refl _ _) (V.les_cons (V.le_refl _ _) (V.les_cons (V.le_refl _ _) (V.les_cons (V.le_refl _ _) (V.les_cons (V.le_refl _ _) (V.les_cons (V.le_refl _ _) (V.les_cons (V.le_virt rfl) (V.les_cons (V.le_refl _ _) V.les_nil))))))))))))))))))) rfl (HLv.live (V.les_refl _ _) (hY (fun _=>rfl) _) HLv.nil))))))) (zg' [0,1,2,3,4,5,6]))) (round:= ?_)
  intro m5 x57 aEt aA7 l6_1 hr
  refine zz ?_
  refine a1O ?_
  refine zk hr ?_ ?_<;>clear hr<;>intro h16 hr<;>refine zz ?_
  ·refine a1O<|a1S ?_
   replace hr:=aL hr
   obtain⟨x60,h_17,hr⟩:=hr
   refine zz ?_
   refine sk3 (nM N p l b x57 x60 (iQ N p l b m5)) (fun aHR aSK l7=>[(3,.ptr 0 0),(5,.ptr 1 0),(6,.ptr 2 0),(7,.ptr 3 0),(10,.ptr 4 0),(13,eI .i64 x57),(14,.ptr 5 0),(55,.row none 4 (b.Txs.map aZ)),(56,eI .i64 (b.Txs.length:Int)),(57,eI .i64 x57)]) (fun aHR aSK l7=>[some ⟨34,bG p⟩,some ⟨47,aY b⟩,some ⟨44,(eI .i64 0)::(aN (eI .u8) (a1K 32 0) [.row (some true) 1 []])⟩,some ⟨54,[.row (some true) 1 []]⟩,some ⟨102,(eI .u32 p.Genesis.Version)::(aN (eI .u8) p.Genesis.Prev (aN (eI .u8) p.Genesis.Root ((eI .u32 p.Genesis.Time)::((eI .u32 p.Genesis.Bits)::((eI .u32 p.Genesis.Nonce)::(eG (eI .u64) p.Limit [eI .i64 p.Window,eI .u32 p.Spacing,eI .u32 p.Future,eI .u32 p.Version,.row none 33 (p.Checkpoints.map bB),eI .i64 p.Subsidy,eI .i64 p.Halving,eI .i64 p.Maturity,eI .i64 (a1L.wrap (l.Height+1)),.mp 6,.sl 7 0 l7.length 37 true,eI .i64 aHR]))))))⟩,some ⟨91,aQ x60⟩,some ⟨33037,aSK.flatMap fG⟩,some ⟨80,l7.flatMap aH⟩]) ?_
   exact zE
  exact zE
 obtain⟨res7,hL7,hr⟩:=aL hr
 refine zz ?_
 refine a1S<|dH hL7 (fun x42 l5_3=>[(3,.ptr 0 0),(5,.ptr 1 0),(6,.ptr 2 0),(7,.ptr 3 0),(10,.ptr 4 0),(40,.row none 37 (l.Coins.map aP)),(41,eI .i64 (l.Coins.length:Int)),(42,eI .i64 x42)]) (fun x42 l5_3=>[some ⟨34,bG p⟩,some ⟨47,aY b⟩,some ⟨44,(eI .i64 0)::(aN (eI .u8) (a1K 32 0) [.row (some true) 1 []])⟩,some ⟨54,[.row (some true) 1 []]⟩,some ⟨102,(eI .u32 p.Genesis.Version)::(aN (eI .u8) p.Genesis.Prev (aN (eI .u8) p.Genesis.Root ((eI .u32 p.Genesis.Time)::((eI .u32 p.Genesis.Bits)::((eI .u32 p.Genesis.Nonce)::(eG (eI .u64) p.Limit [eI .i64 p.Window,eI .u32 p.Spacing,eI .u32 p.Future,eI .u32 p.Version,.row none 33 (p.Checkpoints.map bB),eI .i64 p.Subsidy,eI .i64 p.Halving,eI .i64 p.Maturity,eI .i64 (a1L.wrap (l.Height+1)),.mp 5,.row (some true) 1 [],eI .i64 0]))))))⟩,some ⟨33037,l5_3.flatMap fG⟩]) (round:= ?_)
 intro m7 x42 l5_3 hr
 refine zz ?_
 refine a1O ?_
 refine zk hr ?_ ?_<;>clear hr<;>intro h23 hr<;>refine zz ?_
 ·refine a1O<|a1S ?_
  replace hr:=aL hr
  obtain⟨x44,h_24,hr⟩:=hr
  refine zz ?_
  refine AB.rs mixed [] [] [[0,1,2,3,4,5,6,7]]<|zz ?_
  refine xup x44.Out x44 ?_
  exact zE
 exact zE
instance :CtC 12 true (bC @r7):=⟨@r7⟩
theorem aEw {N p l r} (hr:aFC N p l=some r):
  Fp 18 [] [cU p,.row none 69 (l.map dZ)] (.tup [dD r.1,.sl 0 0 r.2.1.length 1 true,eI .i64 r.2.2.1,eI .i64 r.2.2.2]) [some ⟨54,r.2.1.flatMap cT⟩]:=by
 refine bT func18 ntmps18 results18 fun hR=> ?_
 obtain⟨x18,h_1,hr⟩:=aL hr
 refine zz ?_
 refine xp (aBM h_1) ?_
 refine zz ?_
 refine a1O<|zz ?_
 obtain⟨h2,hr⟩:=cutF hr
 refine AB.cndF rfl h2 ?_
 refine zz ?_
 refine sk4 (aKc N l) (fun c1 aCV aS7 l2=>[(1,.row none 69 (l.map dZ)),(4,.ptr 0 0),(8,.ptr 1 0),(10,.sl 2 0 l2.length 1 true)]) (fun c1 aCV aS7 l2=>[some ⟨44,(eI .i64 0)::(aN (eI .u8) (a1K 32 0) [.row (some true) 1 []])⟩,some ⟨44,(eI .i64 c1)::(aN (eI .u8) aCV [.row none 37 (aS7.map aP)])⟩,some ⟨54,l2.flatMap cT⟩]) ?_
 obtain⟨cN,hL2,hr⟩:=aL hr
 refine zz ?_
 refine a1S<|lp5 hL2 (fun x27 c2 c2_1 c2_2 l3=>[(1,.row none 69 (l.map dZ)),(2,.ptr 0 0),(4,.ptr 1 0),(8,.ptr 2 0),(10,.sl 3 0 l3.length 1 true),(25,.row none 69 (l.map dZ)),(26,eI .i64 (l.length:Int)),(27,eI .i64 x27)]) (fun x27 c2 c2_1 c2_2 l3=>[some ⟨34,bG p⟩,some ⟨44,(eI .i64 0)::(aN (eI .u8) (a1K 32 0) [.row (some true) 1 []])⟩,some ⟨44,(eI .i64 c2)::(aN (eI .u8) c2_1 [.row none 37 (c2_2.map aP)])⟩,some ⟨54,l3.flatMap cT⟩]) (h0:=(zW 54 [0,1,2,3])) (round:= ?_)
 intro m2 x27 c2 c2_1 c2_2 l3 hr
 refine zz ?_
 refine a1O ?_
 refine zk hr ?_ ?_<;>clear hr<;>intro h3 hr<;>refine zz ?_
 ·refine a1O<|a1S ?_
  replace hr:=cE hr
  obtain⟨x30,h_4,x36,h_5,hr⟩:=hr
  refine zz ?_
  refine xp (r7 h_5) ?_
  refine zz ?_
  refine a1O<|zz ?_
  obtain⟨h6,hr⟩:=cutF hr
  refine AB.cndF rfl h6 ?_
  replace hr:=aL hr
  obtain⟨x50,h_7,hr⟩:=hr
  refine zz ?_
  refine jU cT 1 [x36.2.1] ?_
  exact zE
 exact zE
instance :CtC 18 false (bC @aEw):=⟨@aEw⟩
theorem aPG {N r} (hr:yM N=some r):
  Fp 8 [] [] (eB r) []:=by
 refine bT func8 ntmps8 results8 fun hR=> ?_
 obtain⟨x8,h_1,hr⟩:=aL hr
 refine zz ?_
 refine OpsX.ghost (zv 0) ?_
 refine xp (aEA h_1) ?_
 obtain⟨x14,h_2,hr⟩:=aL hr
 refine zz ?_
 refine zc (aEw h_2) [] ?_
 refine zz ?_
 refine a1O ?_
 obtain⟨x20,h_3,x22,h_5,hr⟩:=cE hr
 refine AB.rs mixed [20] [21] [[0,1,2],[3,4]]<|zz ?_
 refine xu (lP h_3) ?_
 refine zz ?_
 refine⟨_,_,zv 4, ?_⟩
 refine zg (aGk h_5) [] ?_
 refine zz ?_
 obtain⟨h7,hr⟩:=aKF hr
 obtain⟨h8,hr⟩:=aKF hr
 obtain⟨h9,hr⟩:=aKF hr
 obtain⟨h10,hr⟩:=aKF hr
 obtain⟨x41,h_11,hr⟩:=aL hr
 obtain⟨h12,hr⟩:=aKF hr
 obtain⟨x47,h_13,hr⟩:=aL hr
 refine xq ?_
 refine zz ?_
 refine xSg (v:=(eB x41.Coinbase)) rfl rfl h10 (b8 rfl (aJa (C:=aH) (K:=37) (off:=36) (fun _=>rfl) rfl h_11 zl (lW ti4 rfl rfl))) ?_
 exact zE
end Go.Proofs.YtopdhljncajmpaaGreatDoor
namespace Go.Proofs.YtopdhljncajmpaaGreatDoor
open Go Go.Vm
abbrev hW (w:aR)(l:aF)(t:Hp):Hp:=some ⟨40,eX w⟩::some ⟨44,bD l⟩::t
abbrev fL (k:Nat):List (Nat×V):=[(13,.ptr 0 0),(14,.ptr 1 0),(57,.sl k 0 2 69 true),(58,eI .i64 (2:Int)),(59,eI .i64 0)]
abbrev aSQ (p:aJ×Nat×Nat):List V:=nE p.1 (.sl p.2.1 0 p.2.2 4 true)
abbrev bS (x:aJ)(T:List aB)(hd:bV)(ms:List (Bool×aB)):Option Blk:=some ⟨47,[(x,3,T.length),(aJ.mk hd (ms.map a1P),5,ms.length)].flatMap aSQ⟩
theorem aOe {h h':Hp}(hs:Sub h h'){a:Nat}{e:TypeId}{os:List aI}(h1:h[a]? =some (some ⟨e,os.flatMap aX⟩))(h1':h'[a]? =some none): ∀l:List (Bool×aB),(∀x∈l,x.1=true→x.2.Outputs=os)→Convs h h' (l.flatMap (k8 a)) ((l.map a1P).flatMap aQ)
 | [],_=>Convs.nil
 |(m,t)::l,hI=>by
  have ih:=aOe hs h1 h1' l fun x hx=>hI x (by simp[hx])
  rw[List.map_cons,a1Y,a1Y]
  cases m with
  |false=>exact a1M (a1R hs) (a1M (a1R hs) (a1M (a1R hs) (a1M (a1R hs) ih)))
  |true=>
   have q:t.Outputs=os:=hI (true,t) (by simp) rfl
   subst q
   exact a1M (a1R hs) (a1M (a1R hs) (a1M (a11 (C:=aX) (K:=2) (l:=t.Outputs) (fun _=>rfl) (fun _=>rfl) (fun _=>rfl) hs h1 h1' rfl) (a1M (a1R hs) ih)))
theorem aTw {n:Nat}{x28:aR}{x35:aF}{x:aJ}{c2:List V}{r:aJ×aJ×List (Bool×aB)}(hsh:ShOk x.Txs r.2.2)(hb1:r.1=aJ.mk x.Header (tA r.2.2 x.Txs))(hb2:r.2.1.Txs=r.2.2.map a1P):
  Ghost 0 (aG n (fL 6)) (hW x28 x35 [some ⟨47,c2⟩,some ⟨91,(fs0 x.Txs).flatMap (k8 4)⟩,some ⟨78,(dV r.1.Txs).flatMap aX⟩,some ⟨91,r.2.2.flatMap (k8 4)⟩,some ⟨47,[(x,3,(fs0 x.Txs).length),(r.2.1,5,r.2.2.length)].flatMap aSQ⟩])
   (aG n (fL 2)) (hW x28 x35 [some ⟨47,[r.1,r.2.1].flatMap aY⟩]):=by
 obtain⟨b1,⟨hd,tx⟩,ms⟩:=r
 obtain rfl:b1=aJ.mk x.Header (tA ms x.Txs):=hb1
 obtain rfl:tx=ms.map a1P:=hb2
 have hsh:ShOk x.Txs ms:=hsh
 simp only
 have q:=hsh.fs0 4
 rw[q.1,q.2,aXk]
 generalize hT:tA ms x.Txs=T
 have hos:=hsh.os
 rw[hT]at hos
 have ho2:=aNG (l:=T)
 have s1:=aDd (h:=(hW x28 x35 [some ⟨47,c2⟩,some ⟨91,(fs0 T).flatMap (k8 4)⟩,some ⟨78,(dV T).flatMap aX⟩,some ⟨91,ms.flatMap (k8 4)⟩,bS x T hd ms]))
  (h':=(hW x28 x35 [none,some ⟨91,T.flatMap aQ⟩,none,some ⟨91,(ms.map a1P).flatMap aQ⟩,bS x T hd ms])) rfl
 have s2:=aDd (h:=(hW x28 x35 [none,some ⟨91,T.flatMap aQ⟩,none,some ⟨91,(ms.map a1P).flatMap aQ⟩,bS x T hd ms]))
  (h':=(hW x28 x35 [none,none,none,none,some ⟨47,[aJ.mk x.Header T,aJ.mk hd (ms.map a1P)].flatMap aY⟩])) rfl
 have c1:=aOe s1 (a:=4) rfl rfl (fs0 T) ho2
 rw[aSz]at c1
 have c2':=aOe s1 (a:=4) rfl rfl ms hos
 have f5: ∀{h h':Hp}(s:Sub h h'){y:V},Conv h h' y y:=fun s=>a1R s
 refine a1U (Ghost.conv (fr':=(fL 6)) (h':=(hW x28 x35 [none,some ⟨91,T.flatMap aQ⟩,none,some ⟨91,(ms.map a1P).flatMap aQ⟩,bS x T hd ms])) (a1Q rfl (f5 s1) (a1Q rfl (f5 s1) (a1Q rfl (f5 s1) (a1Q rfl (f5 s1) (a1Q rfl (f5 s1) FCv.nil))))) (a1V (a1W s1) rfl (a1V (a1W s1) rfl (a1X (a1V c1 (hY (fun _=>rfl) _) (a1X (a1V c2' (hY (fun _=>rfl) _) (a1V (a1W s1) rfl HCv.nil)))))))) ?_
 have r3:Conv _ _ (.sl 3 0 T.length 4 true) (.row none 4 (T.map fun x=> .agg (aQ x))):=a11 (C:=aQ) (K:=4) (l:=T) (fun _=>rfl) (fun _=>rfl) (fun _=>rfl) s2 rfl rfl rfl
 have r5:Conv _ _ (.sl 5 0 ms.length 4 true) (.row none 4 ((ms.map a1P).map fun x=> .agg (aQ x))):=a11 (C:=aQ) (K:=4) (l:=ms.map a1P) (fun _=>rfl) (fun _=>rfl) (fun _=>rfl) s2 rfl rfl (by rw[List.length_map])
 refine a1U (Ghost.conv (fr':=(fL 6)) (h':=(hW x28 x35 [none,none,none,none,some ⟨47,[aJ.mk x.Header T,aJ.mk hd (ms.map a1P)].flatMap aY⟩])) (a1Q rfl (f5 s2) (a1Q rfl (f5 s2) (a1Q rfl (f5 s2) (a1Q rfl (f5 s2) (a1Q rfl (f5 s2) FCv.nil))))) (a1V (a1W s2) rfl (a1V (a1W s2) rfl (a1X (a1X (a1X (a1X (a1V ?_ rfl HCv.nil)))))))) (zG [0,1,6])
 repeat (first|exact Convs.nil|refine a1M (f5 s2) ?_|refine a1M r3 ?_|refine a1M r5 ?_)
theorem aGS {N v mP vs what vi vj r} (hr:kQ N v mP vs what vi vj=some r):
  Vm.Fn Tryz.prog 3 [] [eI .u8 v,.row none 1 (mP.map (eI .u8)),eI .u8 vs,eI .u8 what,eI .u8 vi,eI .u8 vj] (eB r) []:=by
 refine zf Tryz.func3 Tryz.ntmps3 ?_
 unfold kQ at hr
 refine zz ?_
 refine a1O ?_
 obtain⟨x24,h_1,hr⟩:=aL hr
 refine zz ?_
 refine xp (aPG h_1) ?_
 refine zz ?_
 refine zk hr ?_ ?_<;>intro h2 hr
 ·refine zz ?_
  obtain rfl:=sj hr
  exact zd1 Tryz.results3 []
 obtain⟨x28,h_3,hr⟩:=aL hr
 refine zz ?_
 refine xp (aOb h_3) ?_
 obtain⟨x35,h_4,hr⟩:=aL hr
 refine zz ?_
 refine a1O ?_
 obtain⟨x46,h_5,hr⟩:=aL hr
 obtain⟨x49,h_6,hr⟩:=aL hr
 refine AB.rd (cA []) (cA [10]) mixed<|a1N (m:=3) [0,1,2,3,4,5,6,7,8,9,10,11] ?_
 refine zz ?_
 refine DrawG.jn (m:=1) (L:=lst [0,1,2,3,4,5,6,7,8,9,10,11,12,13] 15) (s1:=aG 99 [(3,eI .u8 what),(4,eI .u8 vi),(5,eI .u8 vj),(13,.ptr 0 0),(14,.ptr 1 0),(15,.ptr 2 0),(49,.agg (nE x49 (.sl 3 0 (fs0 x49.Txs).length 4 true)))]) (h1:=(hW x28 x35 [some ⟨47,(eI .u32 0)::(aN (eI .u8) (a1K 32 0) (aN (eI .u8) (a1K 32 0) [eI .u32 0,eI .u32 0,eI .u32 0,.row (some true) 1 []]))⟩,some ⟨91,(fs0 x49.Txs).flatMap (k8 4)⟩,some ⟨78,(dV x49.Txs).flatMap aX⟩])) ?_ (fun J=> ?_)
 rotate_left
 ·refine DrawG.fk (n:=2) [12,13] ⟨?_, ?_,trivial⟩
  ·refine zg (aMh h_6) [] ?_
   rw[aDY]
   refine zz ?_
   refine a1N (m:=1) [13] ?_
   refine zz ?_
   refine a10 J ?_
   exact(zGs [0,1,4,2,3])
  refine zz ?_
  refine a1N (m:=1) [12] ?_
  refine zg (aMh h_6) [] ?_
  rw[aDY]
  refine zz ?_
  refine a10 J ?_
  exact(zGs [0,1,2,3,4])
 refine a1N (m:=0) [14]<|zz ?_
 refine a1Z (by decide +kernel) ?_
 refine zz ?_
 refine AB.seq_g fun K1 hK1 hG1=> ?_
 have J1:qE N=some r→K1 (aG 99 []) []:=by
  intro hr
  unfold qE at hr
  refine hK1<|zz ?_
  obtain rfl:=sj hr
  exact zd1 Tryz.results3 []
 refine AB.seq_g fun K2 hK2 hG2=> ?_
 obtain⟨x56,h_8,hr⟩:=aL hr
 have J2:K2 (aG 99 [(13,.ptr 0 0),(14,.ptr 1 0),(57,.sl 2 0 ([x56.1,x56.2.1].length) 69 true),(58,eI .i64 (2:Int)),(59,eI .i64 0)]) (hW x28 x35 [some ⟨47,[x56.1,x56.2.1].flatMap aY⟩]):=by
  refine hK2 ?_
  obtain⟨cN,hL2,hr⟩:=aL hr
  refine zz ?_
  refine a1S<|AB.loopM (fun m s h=> ∃x59,cO N x28 x35 x56.1 x56.2.1 m x59=some cN∧Ghost 0 s h (aG 99 [(13,.ptr 0 0),(14,.ptr 1 0),(57,.sl 2 0 ([x56.1,x56.2.1].length) 69 true),(58,eI .i64 (2:Int)),(59,eI .i64 x59)]) (hW x28 x35 [some ⟨47,[x56.1,x56.2.1].flatMap aY⟩])) ⟨0,hL2,zG [0,1,2]⟩ ?_
  rintro m2 s h ⟨x59,hr2,hg⟩
  refine AB.ghost hg ?_
  clear hg hL2
  rw[cO]at hr2
  refine zz ?_
  refine a1O ?_
  refine zk hr2 ?_ ?_<;>intro h10 hr2
  ·refine zz ?_
   refine a1O<|a1S ?_
   obtain⟨x61,h_11,hr2⟩:=aL hr2
   refine zz ?_
   refine xw (v:=(dZ x61)) (b8 rfl (rV (C:=aY) (K:=69) (fun _=>rfl) rfl h_11 (mU (ds:=((eI .u32 x61.Header.Version)::(aN (eI .u8) x61.Header.Prev (aN (eI .u8) x61.Header.Root [eI .u32 x61.Header.Time,eI .u32 x61.Header.Bits,eI .u32 x61.Header.Nonce,.row none 4 (x61.Txs.map aZ)])))) aDc rfl zl rfl))) ?_
   obtain⟨x68,h_12,hr2⟩:=aL hr2
   refine zz ?_
   refine xp (r7 h_12) ?_
   obtain⟨x77,h_13,hr2⟩:=aL hr2
   refine zz ?_
   refine xp (uA h_13) ?_
   refine zz ?_
   refine AB.seq_g fun K3 hK3 hG3=> ?_
   have J3: ∀x97,fR N x28 x35 x56.1 x56.2.1 x59 (cO N x28 x35 x56.1 x56.2.1 m2) x97=some cN→K3 (aG 99 [(13,.ptr 0 0),(14,.ptr 1 0),(57,.sl 2 0 ([x56.1,x56.2.1].length) 69 true),(58,eI .i64 (2:Int)),(59,eI .i64 x59),(97,eB x97)]) (hW x28 x35 [some ⟨47,[x56.1,x56.2.1].flatMap aY⟩]):=by
    intro x97 hr2
    unfold fR at hr2
    refine hK3 ?_
    refine zk hr2 ?_ ?_<;>intro h14 hr2
    ·refine zz ?_
     obtain rfl:=sj hr2
     obtain rfl:=sj hr
     exact zd1 Tryz.results3 []
    refine zz ?_
    exact⟨a1L.wrap (x59+1),hr2,zG [0,1,2]⟩
   rcases a1T (x68.2.2 != x77.2.2)with h15|h15
   ·replace hr2:=rQ hr2 h15
    refine xr<|zz ?_
    refine xX rfl<|xX rfl<|xX rfl<|xX rfl<|xX rfl<|xX rfl ?_
    refine zz ?_
    exact hG3 (zG [0,1,2]) (J3 true hr2)
   replace hr2:=sP hr2 h15
   obtain⟨x87,h_16,hr2⟩:=aL hr2
   rcases a1T (!x87)with h17|h17
   ·replace hr2:=rQ hr2 h17
    refine xr<|zz ?_
    refine xCg (v:=(eB x87)) (h':=(hW x28 x35 [some ⟨47,[x56.1,x56.2.1].flatMap aY⟩,some ⟨47,aY x61⟩,some ⟨44,bD x68.1⟩,some ⟨54,cT x68.2.1⟩,some ⟨44,bD x77.1⟩,some ⟨54,cT x77.2.1⟩])) rfl rfl h15 rfl (Vm.Fn.pure (aJ5 h_16) rfl rfl) ?_
    refine zz ?_
    exact hG3 (zG [0,1,2]) (J3 true hr2)
   replace hr2:=sP hr2 h17
   obtain⟨x95,h_18,hr2⟩:=aL hr2
   refine xr<|zz ?_
   refine xCg (v:=(eB x87)) (h':=(hW x28 x35 [some ⟨47,[x56.1,x56.2.1].flatMap aY⟩,some ⟨47,aY x61⟩,some ⟨44,bD x68.1⟩,some ⟨54,cT x68.2.1⟩,some ⟨44,bD x77.1⟩,some ⟨54,cT x77.2.1⟩])) rfl rfl h15 rfl (Vm.Fn.pure (aJ5 h_16) rfl rfl) ?_
   refine zz ?_
   refine xCg (v:=(eB x95)) (h':=(hW x28 x35 [some ⟨47,[x56.1,x56.2.1].flatMap aY⟩,some ⟨47,aY x61⟩,some ⟨44,bD x68.1⟩,some ⟨54,cT x68.2.1⟩,some ⟨44,bD x77.1⟩,some ⟨54,cT x77.2.1⟩])) rfl rfl h17 rfl (Vm.Fn.pure (rA h_18) rfl rfl) ?_
   refine zz ?_
   exact hG3 (zG [0,1,2]) (J3 (!x95) hr2)
  refine zz ?_
  obtain rfl:=sj hr2
  refine zz ?_
  exact hG1 (zG []) (J1 hr)
 obtain⟨hsh,hb1,hb2⟩:=aTK h_8
 refine AB.rd (cA []) (cA []) mixed<|a1N (m:=4) [1,2,3,4,5,9] ?_
 refine zz ?_
 refine DrawG.fk (n:=3) [0,6] ⟨?_, ?_,trivial⟩
 ·refine zz ?_
  refine a1N (m:=2) [6] ?_
  refine zg (aRB h_8) [3,4] ?_ (hl:=Lend.cons rfl (aDY _) (Lend.cons rfl (cY (fun _=>rfl) _) Lend.nil))
  rw[aDY,aDY]
  refine zz ?_
  refine a1N (m:=0) [7,8] ?_
  refine jU aSQ 69 [(x49,3,(fs0 x49.Txs).length),(x56.2.1,5,x56.2.2.length)] ?_
  refine zz ?_
  refine a1Z (by decide +kernel) ?_
  exact hG2 (a1U zw (aTw hsh hb1 hb2)) J2
 refine zg (aRB h_8) [3,4] ?_ (hl:=Lend.cons rfl (aDY _) (Lend.cons rfl (cY (fun _=>rfl) _) Lend.nil))
 rw[aDY,aDY]
 refine zz ?_
 refine a1N (m:=0) [0,7,8] ?_
 refine zz ?_
 refine jU aSQ 69 [(x49,3,(fs0 x49.Txs).length),(x56.2.1,5,x56.2.2.length)] ?_
 refine zz ?_
 refine a1Z (by decide +kernel) ?_
 exact hG2 (a1U zw (aTw hsh hb1 hb2)) J2
end Go.Proofs.YtopdhljncajmpaaGreatDoor
