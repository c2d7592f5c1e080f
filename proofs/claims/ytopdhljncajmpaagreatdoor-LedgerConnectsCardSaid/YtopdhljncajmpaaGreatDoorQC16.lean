/- Texts of ours, joined. -/
import Derived.Test.YtopdhljncajmpaaGreatDoorQC15
open Go.Vm.AB renaming block → a1K,seq → a1L,cndF → a1Q,rs → a1S,ghost → a1U
open List renaming replicate → a1M
open Go.Vm.Ghost renaming trans → a1N,virt → a1T
open Go.IntKind renaming i64 → a1O,u32 → a1R
open Go.Vm.DrawG renaming ps → a1P,jh → a1V
set_option linter.unusedVariables false
set_option linter.unusedSimpArgs false
set_option maxRecDepth 20000
set_option maxHeartbeats 8000000
namespace Go.Proofs.YtopdhljncajmpaaGreatDoor
open Go Go.Vm Go.Proofs.Tryz
theorem aJ3 {N t r} (hr:aFe N t=some r):
  Fp 210 [] [aZ t] (eB r) []:=
 fV func210 ntmps210 results210
instance :CtC 210 true (bC @aJ3):=⟨@aJ3⟩
theorem rE {N vn r} (hr:pS N vn=some r):
  Fp 212 [] [eI .u32 vn] (.sl 0 0 r.length 1 false) [some ⟨5,r.map (eI .u8)⟩]:=by
 refine bT func212 ntmps212 results212 fun hR=> ?_
 obtain⟨x4,h_1,hr⟩:=aL hr
 refine zz ?_
 refine zc (dP h_1) [] ?_
 refine zz ?_
 replace hr:=sj hr
 subst hr
 exact zd1 Tryz.results212 [0]
instance :CtC 212 false (bC @rE):=⟨@rE⟩
theorem aCl {N parts r} (hr:aEi N parts=some r):
  Fp 215 [] [.row none 1 (parts.map (eL 1 (eI .u8)))] (.sl 0 0 r.length 1 false) [some ⟨5,r.map (eI .u8)⟩]:=by
 refine bT func215 ntmps215 results215 fun hR=> ?_
 refine zz ?_
 refine bW (aLi N) (fun l0=>[(3,.sl 0 0 l0.length 1 false)]) (fun l0=>[some ⟨5,l0.map (eI .u8)⟩]) ?_
 obtain⟨cN,hL2,hr⟩:=aL hr
 refine zz ?_
 exact a1K<|dH hL2 (fun x8 aO=>[(3,.sl 0 0 aO.length 1 false),(6,.row none 1 (parts.map (eL 1 (eI .u8)))),(7,eI .i64 (parts.length:Int)),(8,eI .i64 x8)]) (fun x8 aO=>[some ⟨5,aO.map (eI .u8)⟩]) (h0:=(zW 5 [0]))
instance :CtC 215 false (bC @aCl):=⟨@aCl⟩
theorem aBL {N o r} (hr:wW N o=some r):
  Fp 213 [] [b7 o] (.sl 0 0 r.length 1 false) [some ⟨5,r.map (eI .u8)⟩]:=by
 refine bT func213 ntmps213 results213 fun hR=> ?_
 refine zz ?_
 refine a1L ?_
 obtain⟨x6,h_1,x9,h_3,x11,h_5,hr⟩:=fK hr
 refine a1S mixed [] [191,215,232] [[0,1,2,3,4,5,6],[7,8,9]]<|zz ?_
 refine zg (qV h_1) [] ?_
 refine zz ?_
 refine zg (kR h_3) [] ?_
 refine zz ?_
 refine⟨_,_,a1N (zv 1) (zv 2), ?_⟩
 refine zz ?_
 refine xZ (aCl h_5) [] [3] ?_
 refine zz ?_
 replace hr:=sj hr
 subst hr
 exact zd1 Tryz.results213 [4]
instance :CtC 213 false (bC @aBL):=⟨@aBL⟩
theorem rB {N b r} (hr:tF N b=some r):
  Fp 216 [] [.row none 1 (b.map (eI .u8))] (.row none 1 (r.map (eI .u8))) []:=
 fV func216 ntmps216 results216
instance :CtC 216 true (bC @rB):=⟨@rB⟩
theorem aEP {N tag b r} (hr:aFx N tag b=some r):
  Fp 214 [] [eS tag,.row none 1 (b.map (eI .u8))] (.agg (r.map (eI .u8))) []:=by
 refine bT func214 ntmps214 results214 fun hR=> ?_
 obtain⟨x7,h_1,x8,h_2,q,h_3,hr⟩:=fK hr
 refine zz ?_
 refine aYp (i:=1) (h':=[some ⟨26,(a1M 32 0).map (eI .u8)⟩,some ⟨5,x7.map (eI .u8)⟩]) rfl ti9 lI mF h_1 rfl rfl (xOf ?_)
 refine kY (zP h_2) [] [1] ?_
 refine zz ?_
 refine a1L ?_
 obtain⟨x13,h_4,x14,h_6,q_1,h_8,hr⟩:=fK hr
 refine a1S mixed [] [129,175] [[0,1,2],[3,4,5,6]]<|zz ?_
 refine⟨_,_,zv 2, ?_⟩
 refine zz ?_
 refine xZ (aFA h_4) [] [3] ?_
 refine xZ (zP h_6) [] [4] ?_
 refine zz ?_
 replace hr:=sj hr
 subst hr
 exact zr1 Tryz.results214 fW (zG [])
instance :CtC 214 true (bC @aEP):=⟨@aEP⟩
theorem aAY {N t vi o r} (hr:uX N t vi o=some r):
  Fp 173 [] [aZ t,eI .i64 vi,b7 o] (.tup [.agg (r.1.map (eI .u8)),eI .i64 r.2]) []:=by
 refine bT func173 ntmps173 results173 fun hR=> ?_
 unfold uX at hr
 refine zz ?_
 refine a1L ?_
 refine bW (lS N t vi o) (fun x28=>[(1,eI .i64 vi),(3,.ptr 0 0),(5,.ptr 1 0),(6,.ptr 2 0),(28,eB x28)]) (fun x28=>[some ⟨91,aQ t⟩,some ⟨78,aX o⟩,some ⟨26,(a1M 32 0).map (eI .u8)⟩]) ?_ (body:= ?_)
 rotate_left
 ·clear hr
  intro x28 hr
  unfold lS at hr
  refine zk hr ?_ ?_<;>intro h1 hr<;>refine zz ?_
  ·exact zE
  refine a1L ?_
  refine bW (lJ N t vi o) (fun x38=>[(1,eI .i64 vi),(3,.ptr 0 0),(5,.ptr 1 0),(6,.ptr 2 0),(38,eB x38)]) (fun x38=>[some ⟨91,aQ t⟩,some ⟨78,aX o⟩,some ⟨26,(a1M 32 0).map (eI .u8)⟩]) ?_ (body:= ?_)
  rotate_left
  ·clear hr
   intro x38 hr
   unfold lJ at hr
   refine zk hr ?_ ?_<;>intro h2 hr<;>refine zz ?_
   ·exact zE
   refine sk2 (oW N t vi o) (fun l3 l4=>[(1,eI .i64 vi),(3,.ptr 0 0),(5,.ptr 1 0),(6,.ptr 2 0),(8,.sl 3 0 l3.length 1 false),(9,.sl 4 0 l4.length 1 false),(10,.row (some true) 1 [])]) (fun l3 l4=>[some ⟨91,aQ t⟩,some ⟨78,aX o⟩,some ⟨26,(a1M 32 0).map (eI .u8)⟩,some ⟨5,l3.map (eI .u8)⟩,some ⟨5,l4.map (eI .u8)⟩]) ?_ (body:= ?_)
   rotate_left
   ·clear hr
    intro l3 l4 hr
    unfold oW at hr
    refine bW (pU N t vi o l3 l4) (fun l5=>[(1,eI .i64 vi),(3,.ptr 0 0),(5,.ptr 1 0),(6,.ptr 2 0),(8,.sl 3 0 l3.length 1 false),(9,.sl 4 0 l4.length 1 false),(10,.sl 5 0 l5.length 1 false)]) (fun l5=>[some ⟨91,aQ t⟩,some ⟨78,aX o⟩,some ⟨26,(a1M 32 0).map (eI .u8)⟩,some ⟨5,l3.map (eI .u8)⟩,some ⟨5,l4.map (eI .u8)⟩,some ⟨5,l5.map (eI .u8)⟩]) ?_ (body:= ?_)
    rotate_left
    ·clear hr
     intro l5 hr
     unfold pU at hr
     refine a1L<|a1U (zv 3) ?_
     refine a1U (zv 4) ?_
     refine a1U (zv 5) ?_
     obtain⟨x72,h_3,x74,h_5,x76,h_7,x78,h_9,x81,h_11,x84,h_13,hr⟩:=aOv hr
     obtain⟨x86,h_15,x88,h_17,x89,h_19,q,h_21,hr⟩:=aA4 hr
     refine a1S mixed [216] [212,213,214,215] [[0,1,2,3,4,5,6,7,8,9,10,11,12,13,14,15,16],[17,18,19,20,21]]<|zz ?_
     refine zg (rE h_3) [] ?_
     refine zz ?_
     refine xu (rB h_5) ?_
     refine zz ?_
     refine xu (rB h_7) ?_
     refine zz ?_
     refine xu (rB h_9) ?_
     refine zz ?_
     refine zg (rE h_11) [] ?_
     refine zz ?_
     refine zg (rE h_13) [] ?_
     refine zz ?_
     refine zg (aBL h_15) [] ?_
     refine zz ?_
     refine⟨_,_,a1N (a1N (a1N (zv 6) (zv 7)) (zv 8)) (zv 9), ?_⟩
     refine zz ?_
     refine xZ (aCl h_17) [] [10] ?_
     refine xZ (aEP h_19) [] [11] ?_
     refine zz ?_
     replace hr:=sj hr
     subst hr
     exact zr2 Tryz.results173 fW fW (zg' [])
    obtain⟨res5,hL5,hr⟩:=aL hr
    refine zz ?_
    exact a1K<|dH hL5 (fun x61 eE=>[(1,eI .i64 vi),(3,.ptr 0 0),(5,.ptr 1 0),(6,.ptr 2 0),(8,.sl 3 0 l3.length 1 false),(9,.sl 4 0 l4.length 1 false),(10,.sl 5 0 eE.length 1 false),(59,.row none 2 (t.Outputs.map b7)),(60,eI .i64 (t.Outputs.length:Int)),(61,eI .i64 x61)]) (fun x61 eE=>[some ⟨91,aQ t⟩,some ⟨78,aX o⟩,some ⟨26,(a1M 32 0).map (eI .u8)⟩,some ⟨5,l3.map (eI .u8)⟩,some ⟨5,l4.map (eI .u8)⟩,some ⟨5,eE.map (eI .u8)⟩]) (h0:=(zW 5 [0,1,2,3,4,5]))
   obtain⟨res6,hL6,hr⟩:=aL hr
   refine zz ?_
   exact a1K<|lp3 hL6 (fun x43 eH dR=>[(1,eI .i64 vi),(3,.ptr 0 0),(5,.ptr 1 0),(6,.ptr 2 0),(8,.sl 3 0 eH.length 1 false),(9,.sl 4 0 dR.length 1 false),(10,.row (some true) 1 []),(41,.row none 35 (t.Inputs.map bU)),(42,eI .i64 (t.Inputs.length:Int)),(43,eI .i64 x43)]) (fun x43 eH dR=>[some ⟨91,aQ t⟩,some ⟨78,aX o⟩,some ⟨26,(a1M 32 0).map (eI .u8)⟩,some ⟨5,eH.map (eI .u8)⟩,some ⟨5,dR.map (eI .u8)⟩]) (h0:=(a1N (a1T (fr':=[(1,eI .i64 vi),(3,.ptr 0 0),(5,.ptr 1 0),(6,.ptr 2 0),(8,.sl 3 0 0 1 false),(9,.row (some true) 1 []),(10,.row (some true) 1 []),(41,.row none 35 (t.Inputs.map bU)),(42,eI .i64 (t.Inputs.length:Int)),(43,eI .i64 0)]) (h1:=[some ⟨91,aQ t⟩,some ⟨78,aX o⟩,some ⟨26,(a1M 32 0).map (eI .u8)⟩]) 5 (FLe.same rfl (FLe.same rfl (FLe.same rfl (FLe.same rfl (FLe.le rfl (V.le_virt rfl) (FLe.same rfl (FLe.same rfl (FLe.same rfl (FLe.same rfl (FLe.same rfl FLe.nil)))))))))) (HLv.live (V.les_refl _ _) rfl (HLv.live (V.les_refl _ _) rfl (HLv.live (V.les_refl _ _) (all_map (fun _=>rfl) _) HLv.nil)))) (zW 5 [0,1,2,3,4])))
  exact zE
 exact zE
instance :CtC 173 true (bC @aAY):=⟨@aAY⟩
theorem aBK {N code r} (hr:aFQ N code=some r):
  Fp 267 [] [eI .i64 code] (eB r) []:=by
 refine bT func267 ntmps267 results267 fun hR=> ?_
 unfold aFQ at hr
 refine zz ?_
 refine bW (aBR N) (fun x2=>[(2,eB x2)]) (fun x2=>[]) ?_
 exact zE
instance :CtC 267 true (bC @aBK):=⟨@aBK⟩
theorem aAy {N parts r} (hr:aJs N parts=some r):
  Fp 255 [] [.row none 1 (parts.map (eL 1 (eI .u8)))] (.sl 0 0 r.length 1 false) [some ⟨5,r.map (eI .u8)⟩]:=by
 refine bT func255 ntmps255 results255 fun hR=> ?_
 refine zz ?_
 refine bW (aJ2 N) (fun l0=>[(3,.sl 0 0 l0.length 1 false)]) (fun l0=>[some ⟨5,l0.map (eI .u8)⟩]) ?_
 obtain⟨cN,hL2,hr⟩:=aL hr
 refine zz ?_
 exact a1K<|dH hL2 (fun x8 aO=>[(3,.sl 0 0 aO.length 1 false),(6,.row none 1 (parts.map (eL 1 (eI .u8)))),(7,eI .i64 (parts.length:Int)),(8,eI .i64 x8)]) (fun x8 aO=>[some ⟨5,aO.map (eI .u8)⟩]) (h0:=(zW 5 [0]))
instance :CtC 255 false (bC @aAy):=⟨@aAy⟩
theorem aCY {N b r} (hr:aMg N b=some r):
  Fp 254 [] [.row none 1 (b.map (eI .u8))] (.tup [.agg [eI .i64 r.1,.sl 0 0 r.2.1.length 1 false,eI .i64 r.2.2.1,eI .i64 r.2.2.2.1],.row none 1 (r.2.2.2.2.1.map (eI .u8)),eI .i64 r.2.2.2.2.2]) [some ⟨5,r.2.1.map (eI .u8)⟩]:=by
 refine bT func254 ntmps254 results254 fun hR=> ?_
 obtain⟨x8,h_1,hr⟩:=aL hr
 refine zz ?_
 obtain⟨x14,h_2,hr⟩:=aL hr
 refine a1L<|zz ?_
 refine xp (aBK h_2) ?_
 refine zz ?_
 obtain⟨h3,hr⟩:=cutF hr
 refine a1Q rfl h3 ?_
 obtain⟨x18,h_4,hr⟩:=aL hr
 refine zz ?_
 refine sk2 (aDu N x8) (fun b_1 l2=>[(0,.row none 1 (b_1.map (eI .u8))),(2,.ptr 0 0),(5,.ptr 1 0)]) (fun b_1 l2=>[some ⟨263,[eI .i64 0,.row (some true) 1 [],eI .i64 0,eI .i64 0]⟩,some ⟨263,[eI .i64 (a1O.wrap x8),.sl 2 0 l2.length 1 false,eI .i64 0,eI .i64 0]⟩,some ⟨5,l2.map (eI .u8)⟩]) ?_
 refine zz ?_
 refine a1K ?_
 refine zz ?_
 refine zk hr ?_ ?_<;>intro h5 hr
 ·refine a1L ?_
  obtain⟨h6,hr⟩:=cutF hr
  obtain⟨x31,h_7,hr⟩:=aL hr
  refine xq ?_
  refine zz ?_
  obtain⟨h8,hr⟩:=cutF hr
  refine a1Q rfl h8 ?_
  obtain⟨x44,h_9,x46,h_10,x49,h_12,hr⟩:=fK hr
  refine zz ?_
  refine AB.rd (cA []) (cA [255]) mixed<|a1P (m:=3) [0,1,2,3,4,5,6,8] ?_
  refine zz ?_
  refine xZ (aAy h_10) [] [2] ?_
  refine zz ?_
  refine DrawG.jn (m:=1) (L:=lst [0,1,2,3,4,5,6,7,8,9] 11) (s1:=aG 78 [(0,.row none 1 (x18.map (eI .u8))),(2,.ptr 0 0),(5,.ptr 1 0),(49,.row none 1 (x49.map (eI .u8)))]) (h1:=[some ⟨263,[eI .i64 0,.row (some true) 1 [],eI .i64 0,eI .i64 0]⟩,some ⟨263,[eI .i64 (a1O.wrap x8),.sl 2 0 x46.length 1 false,eI .i64 0,eI .i64 0]⟩,some ⟨5,x46.map (eI .u8)⟩]) ?_ (fun J=> ?_)
  ·refine a1P (m:=0) [10]<|zz ?_
   refine DrawG.nil (by decide +kernel) ?_
   exact zE
  refine DrawG.fk (n:=2) [7,9] ⟨?_, ?_,trivial⟩
  ·refine zz ?_
   refine a1P (m:=1) [9]<|zz ?_
   refine a1V J ?_
   exact(zG [0,1,3])
  refine zz ?_
  refine a1P (m:=1) [7]<|zz ?_
  refine a1V J ?_
  exact(zG [0,1,3])
 refine zz ?_
 obtain⟨h13,hr⟩:=cutF hr
 refine a1Q rfl h13 ?_
 refine zz ?_
 exact⟨_,_,hr,a1N (a1T (fr':=[(0,.row none 1 (x18.map (eI .u8))),(2,.ptr 0 0),(5,.ptr 1 0)]) (h1:=[some ⟨263,[eI .i64 0,.row (some true) 1 [],eI .i64 0,eI .i64 0]⟩,some ⟨263,[eI .i64 (a1O.wrap x8),.sl 2 0 0 1 false,eI .i64 0,eI .i64 0]⟩]) 5 (FLe.same rfl (FLe.same rfl (FLe.same rfl FLe.nil))) (HLv.live (V.les_refl _ _) rfl (HLv.live (V.les_cons (V.le_refl _ _) (V.les_cons (V.le_virt rfl) (V.les_cons (V.le_refl _ _) (V.les_cons (V.le_refl _ _) V.les_nil)))) rfl HLv.nil))) (zg' [0,1,2])⟩
instance :CtC 254 false (bC @aCY):=⟨@aCY⟩
theorem aCj {N b r} (hr:aGn N b=some r):
  Fp 240 [] [.row none 1 (b.map (eI .u8))] (.tup [.sl 0 0 r.1.length 4 true,eI .i64 r.2]) [some ⟨263,r.1.flatMap eW⟩]:=by
 refine bT func240 ntmps240 results240 fun hR=> ?_
 refine zz ?_
 refine a1L<|zz ?_
 refine zk hr ?_ ?_<;>intro h1 hr<;>refine zz ?_
 ·replace hr:=sj hr
  subst hr
  exact zr2 Tryz.results240 fW fW (zW 263 [0])
 refine bW (aHo N) (fun l0=>[(4,.sl 0 0 l0.length 4 true)]) (fun l0=>[some ⟨263,l0.flatMap eW⟩]) ?_
 obtain⟨cN,hL2,hr⟩:=aL hr
 refine a1K<|dH hL2 (fun b_1 aO=>[(0,.row none 1 (b_1.map (eI .u8))),(4,.sl 0 0 aO.length 4 true)]) (fun b_1 aO=>[some ⟨263,aO.flatMap eW⟩]) (h0:=(zW 263 [0])) (round:= ?_)
 intro m2 b_1 aO hr
 refine a1L<|zz ?_
 refine zk hr ?_ ?_<;>clear hr<;>intro h2 hr<;>refine zz ?_
 ·refine a1K ?_
  replace hr:=aL hr
  obtain⟨x16,h_3,hr⟩:=hr
  refine zz ?_
  refine zc (aCY h_3) [] ?_
  refine zz ?_
  refine a1L<|zz ?_
  refine zk hr ?_ ?_<;>clear hr<;>intro h4 hr
  ·refine zz ?_
   replace hr:=sj hr
   subst hr
   replace hr:=sj hr
   subst hr
   exact zr2 Tryz.results240 fW fW (zW 263 [3])
  replace hr:=aL hr
  obtain⟨x26,h_5,hr⟩:=hr
  refine zz ?_
  refine OpsX.ghost (zqf [1,0,1])<|jU eW 4 [cM.mk x16.1 x16.2.1 x16.2.2.1 x16.2.2.2.1] ?_
  exact zE
 exact zE
instance :CtC 240 false (bC @aCj):=⟨@aCj⟩
theorem aAV {N l r} (hr:aAL N l=some r):
  Fp 241 [] [.row none 4 (l.map kI)] (eB r) []:=by
 refine bT func241 ntmps241 results241 fun hR=> ?_
 refine zz ?_
 refine fY (aGe N) [(3,.row (some true) 1 [])] [] ?_
 obtain⟨cN,hL2,hr⟩:=aL hr
 refine zz ?_
 exact a1K<|gQ hL2 (fun x9=>[(3,.row (some true) 1 []),(7,.row none 4 (l.map kI)),(8,eI .i64 (l.length:Int)),(9,eI .i64 x9)]) (fun x9=>[])
instance :CtC 241 true (bC @aAV):=⟨@aAV⟩
theorem aAb {N stack r} (hr:y6 N stack=some r):
  Fp 242 [] [.row none 1 (stack.map (eL 1 (eI .u8)))] (eB r) []:=by
 refine bT func242 ntmps242 results242 fun hR=> ?_
 refine zz ?_
 refine a1L<|zz ?_
 refine zk hr ?_ ?_<;>intro h1 hr<;>refine zz ?_
 ·exact zE
 refine fY (aE3 N) [] [] ?_
 obtain⟨cN,hL2,hr⟩:=aL hr
 refine zz ?_
 exact a1K<|gQ hL2 (fun x10=>[(8,.row none 1 (stack.map (eL 1 (eI .u8)))),(9,eI .i64 (stack.length:Int)),(10,eI .i64 x10)]) (fun x10=>[])
instance :CtC 242 true (bC @aAb):=⟨@aAb⟩
theorem uI {N stack r} (hr:nI N stack=some r):
  Fp 243 [] [.row none 1 (stack.map (eL 1 (eI .u8)))] (.sl 0 0 r.length 1 false) [some ⟨22,r.map (eL 1 (eI .u8))⟩]:=by
 refine bT func243 ntmps243 results243 fun hR=> ?_
 refine zz ?_
 refine bW (aGv N) (fun l0=>[(3,.sl 0 0 l0.length 1 false)]) (fun l0=>[some ⟨22,l0.map (eL 1 (eI .u8))⟩]) ?_
 obtain⟨cN,hL2,hr⟩:=aL hr
 refine zz ?_
 refine a1K<|dH hL2 (fun x8 aO=>[(3,.sl 0 0 aO.length 1 false),(6,.row none 1 (stack.map (eL 1 (eI .u8)))),(7,eI .i64 (stack.length:Int)),(8,eI .i64 x8)]) (fun x8 aO=>[some ⟨22,aO.map (eL 1 (eI .u8))⟩]) (h0:=(zW 22 [0])) (round:= ?_)
 intro m2 x8 aO hr
 refine zz ?_
 refine a1L ?_
 refine zk hr ?_ ?_<;>clear hr<;>intro h1 hr<;>refine zz ?_
 ·refine a1L<|a1K ?_
  replace hr:=fK hr
  obtain⟨x10,h_2,x15,h_3,x17,h_4,hr⟩:=hr
  refine zz ?_
  refine kY (aAy h_3) [] [1] ?_
  refine OpsX.ghost (zv 2) ?_
  exact zE
 exact zE
instance :CtC 243 false (bC @uI):=⟨@uI⟩
theorem w9 {N cD b4 bF c7 r} (hr:aBi N cD b4 bF c7=some r):
  Fp 256 [some ⟨278,aN (eI .u8) cD.Message [eI .i64 cD.Height,eI .i64 cD.Age,.sl 1 0 b4.length 1 false,.sl 2 0 bF.length 2 true,eI .i64 c7]⟩,some ⟨22,b4.map (eL 1 (eI .u8))⟩,some ⟨294,bF.flatMap cK⟩] [.ptr 0 0] (eB r) [some ⟨278,aN (eI .u8) cD.Message [eI .i64 cD.Height,eI .i64 cD.Age,.sl 1 0 b4.length 1 false,.sl 2 0 bF.length 2 true,eI .i64 c7]⟩,some ⟨22,b4.map (eL 1 (eI .u8))⟩,some ⟨294,bF.flatMap cK⟩]:=
 fV func256 ntmps256 results256
instance :CtC 256 false (bC @w9):=⟨@w9⟩
theorem aHf {N op r} (hr:aK9 N op=some r):
  Fp 257 [] [kI op] (eI .i64 r) []:=
 fV func257 ntmps257 results257
instance :CtC 257 true (bC @aHf):=⟨@aHf⟩
theorem aG1 {N op r} (hr:aKD N op=some r):
  Fp 258 [] [kI op] (eI .i64 r) []:=by
 refine bT func258 ntmps258 results258 fun hR=> ?_
 refine zz ?_
 refine a1L<|zz ?_
 refine a1K ?_
 refine bW (aBZ N op) (fun x5=>[(1,.ptr 0 0),(4,eI .i64 op.Code),(5,eB x5)]) (fun x5=>[some ⟨263,eW op⟩]) ?_
 exact zE
instance :CtC 258 true (bC @aG1):=⟨@aG1⟩
theorem tB {N cD b4 bF c7 r} (hr:aEb N cD b4 bF c7=some r):
  Fp 259 [some ⟨278,aN (eI .u8) cD.Message [eI .i64 cD.Height,eI .i64 cD.Age,.sl 1 0 b4.length 1 false,.sl 2 0 bF.length 2 true,eI .i64 c7]⟩,some ⟨22,b4.map (eL 1 (eI .u8))⟩,some ⟨294,bF.flatMap cK⟩] [.ptr 0 0] (.row none 1 (r.map (eI .u8))) [some ⟨278,aN (eI .u8) cD.Message [eI .i64 cD.Height,eI .i64 cD.Age,.sl 1 0 b4.length 1 false,.sl 2 0 bF.length 2 true,eI .i64 c7]⟩,some ⟨22,b4.map (eL 1 (eI .u8))⟩,some ⟨294,bF.flatMap cK⟩]:=
 fV func259 ntmps259 results259
instance :CtC 259 false (bC @tB):=⟨@tB⟩
theorem aG8 {N nC r} (hr:aBs N nC=some r):
  Fp 218 [] [.row none 1 (nC.map (eI .u8))] (eB r) []:=by
 refine bT func218 ntmps218 results218 fun hR=> ?_
 refine zz ?_
 refine fY (aHn N) [] [] ?_
 obtain⟨cN,hL2,hr⟩:=aL hr
 refine zz ?_
 exact a1K<|gQ hL2 (fun x7=>[(5,.row none 1 (nC.map (eI .u8))),(6,eI .i64 (nC.length:Int)),(7,eI .i64 x7)]) (fun x7=>[])
instance :CtC 218 true (bC @aG8):=⟨@aG8⟩
theorem aAi {N cD b4 bF c7 vn r} (hr:aCL N cD b4 bF c7 vn=some r):
  Fp 260 [some ⟨278,aN (eI .u8) cD.Message [eI .i64 cD.Height,eI .i64 cD.Age,.sl 1 0 b4.length 1 false,.sl 2 0 bF.length 2 true,eI .i64 c7]⟩,some ⟨22,b4.map (eL 1 (eI .u8))⟩,some ⟨294,bF.flatMap cK⟩] [.ptr 0 0,eI .i64 vn] (.tup []) [some ⟨278,aN (eI .u8) cD.Message [eI .i64 cD.Height,eI .i64 cD.Age,.sl 3 0 r.length 1 false,.sl 2 0 bF.length 2 true,eI .i64 c7]⟩,none,some ⟨294,bF.flatMap cK⟩,some ⟨22,r.map (eL 1 (eI .u8))⟩]:=by
 refine bT func260 ntmps260 results260 fun hR=> ?_
 obtain⟨x16,h_1,hr⟩:=aL hr
 refine a1S mixed [] [] [[0,1,2,3,4,5,6,7,8,9,10,11,12],[13,14,15]]<|zz ?_
 refine xw (v:=(.sl 1 0 x16.length 1 false)) (yS rfl rfl rfl (aWN (l:=b4) rfl aMD lI rfl rfl rfl h_1)) ?_
 refine zz ?_
 refine⟨_,_,Ghost.cutM (t:=16) (E:=(eL 1 (eI .u8))) (l:=b4) (h':=[some ⟨278,aN (eI .u8) cD.Message [eI .i64 cD.Height,eI .i64 cD.Age,.sl 1 0 b4.length 1 false,.sl 2 0 bF.length 2 true,eI .i64 c7]⟩,some ⟨22,x16.map (eL 1 (eI .u8))⟩,some ⟨294,bF.flatMap cK⟩]) rfl rfl h_1 rfl, ?_⟩
 exact zE
instance :CtC 260 false (bC @aAi):=⟨@aAi⟩
theorem aAt {N cD b4 bF c7 nC r} (hr:aCK N cD b4 bF c7 nC=some r):
  Fp 269 [some ⟨278,aN (eI .u8) cD.Message [eI .i64 cD.Height,eI .i64 cD.Age,.sl 1 0 b4.length 1 false,.sl 2 0 bF.length 2 true,eI .i64 c7]⟩,some ⟨22,b4.map (eL 1 (eI .u8))⟩,some ⟨294,bF.flatMap cK⟩] [.ptr 0 0,.row none 1 (nC.map (eI .u8))] (eI .i64 r.1) [some ⟨278,aN (eI .u8) cD.Message [eI .i64 cD.Height,eI .i64 cD.Age,.sl 3 0 r.2.length 1 false,.sl 2 0 bF.length 2 true,eI .i64 c7]⟩,none,some ⟨294,bF.flatMap cK⟩,some ⟨22,r.2.map (eL 1 (eI .u8))⟩]:=
 fV func269 ntmps269 results269
instance :CtC 269 false (bC @aAt):=⟨@aAt⟩
theorem aCN {N va b r} (hr:aD0 N va b=some r):
  Fp 150 [] [.row none 1 (va.map (eI .u8)),.row none 1 (b.map (eI .u8))] (eB r) []:=by
 refine bT func150 ntmps150 results150 fun hR=> ?_
 refine zz ?_
 refine xw (v:=(eS (iL va))) (aGd rfl (aLy lI ti9 mF (aHS (fun _=>rfl)))) ?_
 refine zz ?_
 refine xw (v:=(eS (iL b))) (aGd rfl (aLy lI ti9 mF (aHS (fun _=>rfl))))<|xw (gA rfl rfl (aRj ..)) ?_
 exact zE
instance :CtC 150 true (bC @aCN):=⟨@aCN⟩
theorem aIa {N vn r} (hr:aHH N vn=some r):
  Fp 272 [] [eI .u32 vn] (.sl 0 0 r.length 1 false) [some ⟨5,r.map (eI .u8)⟩]:=by
 refine bT func272 ntmps272 results272 fun hR=> ?_
 refine zz ?_
 refine bW (aIu N) (fun l0=>[(3,.sl 0 0 l0.length 1 false)]) (fun l0=>[some ⟨5,l0.map (eI .u8)⟩]) ?_
 obtain⟨cN,hL2,hr⟩:=aL hr
 exact a1K<|dH hL2 (fun vn_1 aO=>[(0,eI .u32 vn_1),(3,.sl 0 0 aO.length 1 false)]) (fun vn_1 aO=>[some ⟨5,aO.map (eI .u8)⟩]) (h0:=(zW 5 [0]))
instance :CtC 272 false (bC @aIa):=⟨@aIa⟩
theorem aDz {N v r} (hr:aHY N v=some r):
  Fp 271 [] [eB v] (.sl 0 0 r.length 1 false) [some ⟨5,r.map (eI .u8)⟩]:=
 fV func271 ntmps271 results271
instance :CtC 271 false (bC @aDz):=⟨@aDz⟩
theorem nR {N cD b4 bF c7 vn nC r} (hr:rT N cD b4 bF c7 vn nC=some r):
  Fp 270 [some ⟨278,aN (eI .u8) cD.Message [eI .i64 cD.Height,eI .i64 cD.Age,.sl 1 0 b4.length 1 false,.sl 2 0 bF.length 2 true,eI .i64 c7]⟩,some ⟨22,b4.map (eL 1 (eI .u8))⟩,some ⟨294,bF.flatMap cK⟩] [.ptr 0 0,eI .i64 vn,.row none 1 (nC.map (eI .u8))] (.tup []) [some ⟨278,aN (eI .u8) cD.Message [eI .i64 cD.Height,eI .i64 cD.Age,.sl 3 0 r.length 1 false,.sl 2 0 bF.length 2 true,eI .i64 c7]⟩,none,some ⟨294,bF.flatMap cK⟩,some ⟨22,r.map (eL 1 (eI .u8))⟩]:=
 fV func270 ntmps270 results270
instance :CtC 270 false (bC @nR):=⟨@nR⟩
theorem zS {N cD b4 bF c7 op r} (hr:nS N cD b4 bF c7 op=some r):
  Fp 261 [some ⟨278,aN (eI .u8) cD.Message [eI .i64 cD.Height,eI .i64 cD.Age,.sl 1 0 b4.length 1 false,.sl 2 0 bF.length 2 true,eI .i64 c7]⟩,some ⟨22,b4.map (eL 1 (eI .u8))⟩,some ⟨294,bF.flatMap cK⟩] [.ptr 0 0,kI op] (eI .i64 r.1) [some ⟨278,aN (eI .u8) cD.Message [eI .i64 cD.Height,eI .i64 cD.Age,.sl 3 0 r.2.length 1 false,.sl 2 0 bF.length 2 true,eI .i64 c7]⟩,none,some ⟨294,bF.flatMap cK⟩,some ⟨22,r.2.map (eL 1 (eI .u8))⟩]:=by
 refine bT func261 ntmps261 results261 fun hR=> ?_
 refine zz ?_
 refine a1L<|zz ?_
 refine a1K ?_
 refine zz ?_
 refine zk hr ?_ ?_<;>intro h1 hr
 ·exact zE
 refine zz ?_
 obtain⟨h3,hr⟩:=cutF hr
 refine a1Q rfl h3 ?_
 refine zz ?_
 obtain⟨h4,hr⟩:=cutF hr
 refine a1Q rfl h4 ?_
 refine zz ?_
 obtain⟨h5,hr⟩:=cutF hr
 refine a1Q rfl h5 ?_
 refine zz ?_
 obtain⟨h6,hr⟩:=aKF hr
 refine AB.cndT rfl h6 ?_
 obtain⟨x66,h_7,x77,h_9,x79,h_10,x80,h_12,x81,h_14,hr⟩:=aJh hr
 refine a1S mixed [150] [259,271] [[0,1,2,3,4,5,6,7,8,9,10,11,12,13,14,15,16],[17]]<|zz ?_
 refine zg (tB h_7) [0,1,2] ?_
 refine zz ?_
 refine xu (aCN h_10)<|zg (aDz h_12) [] ?_
 refine zz ?_
 refine⟨_,_,zv 4, ?_⟩
 refine zg (nR h_14) [0,1,2] ?_
 refine zz ?_
 replace hr:=sj hr
 subst hr
 exact zd1 Tryz.results261 [0,1,2,5]
instance :CtC 261 false (bC @zS):=⟨@zS⟩
theorem rL {N cD b4 bF c7 op r} (hr:pY N cD b4 bF c7 op=some r):
  Fp 244 [some ⟨278,aN (eI .u8) cD.Message [eI .i64 cD.Height,eI .i64 cD.Age,.sl 1 0 b4.length 1 false,.sl 2 0 bF.length 2 true,eI .i64 c7]⟩,some ⟨22,b4.map (eL 1 (eI .u8))⟩,some ⟨294,bF.flatMap cK⟩] [.ptr 0 0,kI op] (eI .i64 r.1) [some ⟨278,aN (eI .u8) cD.Message [eI .i64 cD.Height,eI .i64 cD.Age,.sl 3 0 r.2.1.length 1 false,.sl 2 0 bF.length 2 true,eI .i64 r.2.2]⟩,none,some ⟨294,bF.flatMap cK⟩,some ⟨22,r.2.1.map (eL 1 (eI .u8))⟩]:=
 fV func244 ntmps244 results244
instance :CtC 244 false (bC @rL):=⟨@rL⟩
theorem aKh {N b stack ve r} (hr:aCp N b stack ve=some r):
  Fp 217 [] [.row none 1 (b.map (eI .u8)),.row none 1 (stack.map (eL 1 (eI .u8))),aEk ve] (.tup [.sl 0 0 r.1.length 1 false,eI .i64 r.2.1,eI .i64 r.2.2]) [some ⟨22,r.1.map (eL 1 (eI .u8))⟩]:=by
 refine bT func217 ntmps217 results217 fun hR=> ?_
 obtain⟨x17,h_1,hr⟩:=aL hr
 refine zz ?_
 refine zc (aCj h_1) [] ?_
 refine zz ?_
 refine a1L<|zz ?_
 obtain⟨h2,hr⟩:=cutF hr
 refine a1Q rfl h2 ?_
 refine zz ?_
 obtain⟨x24,h_3,hr⟩:=aL hr
 refine a1L<|zz ?_
 refine kY (aAV h_3) [] [1] ?_
 refine zz ?_
 obtain⟨h4,hr⟩:=cutF hr
 refine a1Q rfl h4 ?_
 refine zz ?_
 obtain⟨x27,h_5,hr⟩:=aL hr
 refine a1L<|zz ?_
 refine xp (aAb h_5) ?_
 refine zz ?_
 obtain⟨h6,hr⟩:=cutF hr
 refine a1Q rfl h6 ?_
 refine zz ?_
 refine a1L ?_
 obtain⟨x31,h_7,hr⟩:=aL hr
 refine AB.rd (cA []) (cA [243]) mixed<|a1P (m:=4) [0,1] ?_
 refine zz ?_
 refine DrawG.jn (m:=1) (L:=lst [0,1,2,3,4] 6) (s1:=aG 50 [(9,.sl 0 0 x17.1.length 4 true),(11,.ptr 1 0),(32,.agg (aN (eI .u8) ve.Message [eI .i64 ve.Height,eI .i64 ve.Age,.sl 2 0 x31.length 1 false,.row (some true) 1 [],eI .i64 0]))]) (h1:=[some ⟨263,x17.1.flatMap eW⟩,some ⟨278,aN (eI .u8) (a1M 32 0) [eI .i64 0,eI .i64 0,.row (some true) 1 [],.row (some true) 1 [],eI .i64 0]⟩,some ⟨22,x31.map (eL 1 (eI .u8))⟩]) ?_ (fun J=> ?_)
 ·refine a1P (m:=0) [5]<|zz ?_
  refine DrawG.nil (by decide +kernel) ?_
  refine zz ?_
  refine sk2 (aJT N ve) (fun c0 l1=>[(11,.ptr 0 0)]) (fun c0 l1=>[some ⟨278,aN (eI .u8) ve.Message [eI .i64 ve.Height,eI .i64 ve.Age,.sl 1 0 l1.length 1 false,.sl 2 0 (([]:List dK).length) 2 true,eI .i64 c0]⟩,some ⟨22,l1.map (eL 1 (eI .u8))⟩,some ⟨294,([]:List dK).flatMap cK⟩]) ?_ (body:= ?_)
  rotate_left
  ·clear hr
   intro c0 l1 hr
   refine a1L<|a1U (zqf [1,0,1]) ?_
   exact zE
  obtain⟨cN,hL2,hr⟩:=aL hr
  refine zz ?_
  refine a1K<|lp3 hL2 (fun x35 c0_1 l2=>[(11,.ptr 0 0),(33,.sl 1 0 x17.1.length 4 true),(34,eI .i64 (x17.1.length:Int)),(35,eI .i64 x35)]) (fun x35 c0_1 l2=>[some ⟨278,aN (eI .u8) ve.Message [eI .i64 ve.Height,eI .i64 ve.Age,.sl 2 0 l2.length 1 false,.sl 3 0 (([]:List dK).length) 2 true,eI .i64 c0_1]⟩,some ⟨263,x17.1.flatMap eW⟩,some ⟨22,l2.map (eL 1 (eI .u8))⟩,some ⟨294,([]:List dK).flatMap cK⟩]) (h0:=(a1N (a1T (fr':=[(11,.ptr 1 0),(33,.sl 0 0 x17.1.length 4 true),(34,eI .i64 (x17.1.length:Int)),(35,eI .i64 0)]) (h1:=[some ⟨263,x17.1.flatMap eW⟩,some ⟨278,aN (eI .u8) ve.Message [eI .i64 ve.Height,eI .i64 ve.Age,.sl 2 0 x31.length 1 false,.sl 3 0 0 2 true,eI .i64 0]⟩,some ⟨22,x31.map (eL 1 (eI .u8))⟩]) 294 (FLe.same rfl (FLe.same rfl (FLe.same rfl (FLe.same rfl FLe.nil)))) (HLv.live (V.les_refl _ _) (hY (fun _=>rfl) _) (HLv.live (aMu (V.les_cons (V.le_refl _ _) (V.les_cons (V.le_refl _ _) (V.les_cons (V.le_refl _ _) (V.les_cons (V.le_virt rfl) (V.les_cons (V.le_refl _ _) V.les_nil)))))) rfl (HLv.live (V.les_refl _ _) (all_map (fun _=>rfl) _) HLv.nil)))) (zg' [1,0,2,3]))) (round:= ?_)
  intro m2 x35 c0_1 l2 hr
  refine zz ?_
  refine a1L ?_
  refine zk hr ?_ ?_<;>clear hr<;>intro h11 hr<;>refine zz ?_
  ·refine a1L<|a1K ?_
   replace hr:=aL hr
   obtain⟨x37,h_12,hr⟩:=hr
   refine zz ?_
   refine xw (v:=(kI x37)) (b8 rfl (rV (C:=eW) (K:=4) (fun _=>rfl) rfl h_12 (mU (ds:=[eI .i64 x37.Code,.row none 1 (x37.Data.map (eI .u8)),eI .i64 x37.M,eI .i64 x37.N]) aGX rfl zl rfl))) ?_
   replace hr:=aL hr
   obtain⟨x40,h_13,hr⟩:=hr
   refine zz ?_
   refine zc (rL h_13) [0,2,3] ?_
   refine zz ?_
   refine zk hr ?_ ?_<;>clear hr<;>intro h14 hr<;>refine zz ?_
   ·replace hr:=sj hr
    subst hr
    replace hr:=sj hr
    subst hr
    exact zr3 Tryz.results217 fW fW fW (zW 22 [6])
   exact zE
  exact zE
 refine DrawG.fk (n:=3) [2,4] ⟨?_, ?_,trivial⟩
 ·refine zg (uI h_7) [] ?_
  refine zz ?_
  refine a1P (m:=1) [3,4]<|xw (v:=(.agg (aN (eI .u8) ve.Message [eI .i64 ve.Height,eI .i64 ve.Age,.sl 2 0 x31.length 1 false,.row (some true) 1 [],eI .i64 0]))) (cS rfl (jC aFj aP8 rfl)) ?_
  refine zz ?_
  refine a1V J ?_
  exact(zG [1,3,2])
 refine zz ?_
 refine a1P (m:=1) [2,3]<|zg (uI h_7) [] ?_
 refine xw (v:=(.agg (aN (eI .u8) ve.Message [eI .i64 ve.Height,eI .i64 ve.Age,.sl 3 0 x31.length 1 false,.row (some true) 1 [],eI .i64 0]))) (cS rfl (jC aFj aP8 rfl)) ?_
 refine zz ?_
 refine a1V J ?_
 exact(zG [1,2,3])
instance :CtC 217 false (bC @aKh):=⟨@aKh⟩
theorem vO {N b bI ve r} (hr:lO N b bI ve=some r):
  Fp 174 [] [.row none 1 (b.map (eI .u8)),.row none 1 (bI.map (eL 1 (eI .u8))),aEk ve] (eI .i64 r) []:=
 fV func174 ntmps174 results174
instance :CtC 174 true (bC @vO):=⟨@vO⟩
theorem aIx {N t vi c height r} (hr:aDN N t vi c height=some r):
  Fp 128 [] [aZ t,eI .i64 vi,aP c,eI .i64 height] (eI .i64 r) []:=by
 refine bT func128 ntmps128 results128 fun hR=> ?_
 obtain⟨x17,h_1,q,h_2,hr⟩:=cE hr
 refine zz ?_
 refine xp (aAY h_1) ?_
 refine zz ?_
 refine a1L<|a1K ?_
 refine zz ?_
 refine zk hr ?_ ?_<;>intro h3 hr
 ·exact zE
 refine a1L ?_
 obtain⟨x28,h_4,hr⟩:=aL hr
 refine a1S mixed [] [] [[0,1,2,3,4,5,6,7,8,9]]<|zz ?_
 refine xw (v:=(eB (!(iU x28.Prev.Tx c.Out.Tx ((x28.Prev.Index == c.Out.Index)&&true))))) (gA rfl rfl (aJu (d:=9) jL rfl aAQ zl aDk rfl rfl rfl rfl rfl)) ?_
 refine zz ?_
 refine zk hr ?_ ?_<;>intro h5 hr
 ·exact zE
 refine bW (oG N t vi c height x17) (fun x34=>[(1,eI .i64 vi),(3,eI .i64 height),(4,.ptr 0 0),(6,.ptr 1 0),(9,.ptr 2 0),(34,eB x34)]) (fun x34=>[some ⟨91,aQ t⟩,some ⟨80,aH c⟩,some ⟨26,x17.1.map (eI .u8)⟩]) ?_ (body:= ?_)
 rotate_left
 ·clear hr
  intro x34 hr
  refine zk hr ?_ ?_<;>intro h6 hr<;>refine zz ?_
  ·exact zE
  refine xw (v:=(.agg (aN (eI .u8) x17.1 [eI .i64 height,eI .i64 (a1O.wrap (height-c.Height))]))) (cS rfl (aJF (ps':=[(0,.agg (aN (eI .u8) x17.1 [])),(1,eI .i64 height),(2,eI .i64 (a1O.wrap (height-c.Height)))]) (by simp only[dJ (l:=x17.1) (aU h_2)]<;>rfl) (jC aE9 aPZ (by kernel_rfl)))) ?_
  refine zz ?_
  refine a1L ?_
  obtain⟨x61,h_7,x65,h_8,hr⟩:=cE hr
  refine a1S mixed [174] [] [[0,1,2,3,4,5,6,7,8,9,10,11]]<|zz ?_
  refine xu (vO h_8) ?_
  refine zz ?_
  replace hr:=sj hr
  subst hr
  exact zd1 Tryz.results128 []
 exact zE
instance :CtC 128 true (bC @aIx):=⟨@aIx⟩
theorem aDb {N t l height r} (hr:aDT N t l height=some r):
  Fp 79 [] [aZ t,.row none 37 (l.map aP),eI .i64 height] (.tup [eI .i64 r.1,eI .i64 r.2]) []:=by
 refine bT func79 ntmps79 results79 fun hR=> ?_
 refine zz ?_
 obtain⟨x14,h_1,hr⟩:=aL hr
 refine a1L<|zz ?_
 refine xp (yK h_1) ?_
 refine zz ?_
 refine zk hr ?_ ?_<;>intro h2 hr
 ·exact zE
 obtain⟨x18,h_3,hr⟩:=aL hr
 refine zz ?_
 refine xp (aFV h_3) ?_
 refine zz ?_
 refine a1L<|zz ?_
 refine zk hr ?_ ?_<;>intro h4 hr<;>refine zz ?_
 ·exact zE
 obtain⟨x26,h_5,hr⟩:=aL hr
 refine a1L<|zz ?_
 refine xp (aHE h_5) ?_
 refine zz ?_
 refine zk hr ?_ ?_<;>intro h6 hr<;>refine zz ?_
 ·exact zE
 refine fY (aIk N x18) [(8,eI .i64 x18.1)] [] ?_
 obtain⟨cN,hL2,hr⟩:=aL hr
 refine zz ?_
 exact a1K<|gQ hL2 (fun x30=>[(2,eI .i64 height),(3,.ptr 0 0),(8,eI .i64 x18.1),(28,.row none 37 (l.map aP)),(29,eI .i64 (l.length:Int)),(30,eI .i64 x30)]) (fun x30=>[some ⟨91,aQ t⟩])
instance :CtC 79 true (bC @aDb):=⟨@aDb⟩
theorem oQ {N c r} (hr:jI N c=some r):
  Vm.Fn Tryz.prog 55 [] [aP c] (aP r) []:=by
 refine zf Tryz.func55 Tryz.ntmps55 ?_
 unfold jI at hr
 obtain⟨x6,h_1,hr⟩:=aL hr
 refine zz ?_
 refine xp (aFy h_1) ?_
 refine zz ?_
 obtain rfl:=sj hr
 exact zr1 Tryz.results55 fW (zG [])
instance :CtC 55 true (bC @oQ):=⟨@oQ⟩
theorem aCJ {N aC bK bY bJ bZ t r} (hr:t6 N aC bK bY bJ bZ t=some r):
  Fp 39 [some ⟨102,(eI .u32 aC.Genesis.Version)::(aN (eI .u8) aC.Genesis.Prev (aN (eI .u8) aC.Genesis.Root ((eI .u32 aC.Genesis.Time)::((eI .u32 aC.Genesis.Bits)::((eI .u32 aC.Genesis.Nonce)::(eG (eI .u64) aC.Limit [eI .i64 aC.Window,eI .u32 aC.Spacing,eI .u32 aC.Future,eI .u32 aC.Version,.row none 33 (aC.Checkpoints.map bB),eI .i64 aC.Subsidy,eI .i64 aC.Halving,eI .i64 aC.Maturity,eI .i64 bK,.mp 1,.sl 2 0 bJ.length 37 true,eI .i64 bZ]))))))⟩,some ⟨33037,bY.flatMap fG⟩,some ⟨80,bJ.flatMap aH⟩] [.ptr 0 0,aZ t] (eI .i64 r.1) [some ⟨102,(eI .u32 aC.Genesis.Version)::(aN (eI .u8) aC.Genesis.Prev (aN (eI .u8) aC.Genesis.Root ((eI .u32 aC.Genesis.Time)::((eI .u32 aC.Genesis.Bits)::((eI .u32 aC.Genesis.Nonce)::(eG (eI .u64) aC.Limit [eI .i64 aC.Window,eI .u32 aC.Spacing,eI .u32 aC.Future,eI .u32 aC.Version,.row none 33 (aC.Checkpoints.map bB),eI .i64 aC.Subsidy,eI .i64 aC.Halving,eI .i64 aC.Maturity,eI .i64 bK,.mp 1,.sl 3 0 r.2.2.1.length 37 true,eI .i64 r.2.2.2]))))))⟩,some ⟨33037,r.2.1.flatMap fG⟩,none,some ⟨80,r.2.2.1.flatMap aH⟩]:=by
 refine bT func39 ntmps39 results39 fun hR=> ?_
 refine zz ?_
 refine bW (vN N aC bK bY bJ bZ t) (fun l4=>[(0,.ptr 0 0),(3,.ptr 3 0),(5,.sl 4 0 l4.length 37 true)]) (fun l4=>[some ⟨102,(eI .u32 aC.Genesis.Version)::(aN (eI .u8) aC.Genesis.Prev (aN (eI .u8) aC.Genesis.Root ((eI .u32 aC.Genesis.Time)::((eI .u32 aC.Genesis.Bits)::((eI .u32 aC.Genesis.Nonce)::(eG (eI .u64) aC.Limit [eI .i64 aC.Window,eI .u32 aC.Spacing,eI .u32 aC.Future,eI .u32 aC.Version,.row none 33 (aC.Checkpoints.map bB),eI .i64 aC.Subsidy,eI .i64 aC.Halving,eI .i64 aC.Maturity,eI .i64 bK,.mp 1,.sl 2 0 bJ.length 37 true,eI .i64 bZ]))))))⟩,some ⟨33037,bY.flatMap fG⟩,some ⟨80,bJ.flatMap aH⟩,some ⟨91,aQ t⟩,some ⟨80,l4.flatMap aH⟩]) ?_ (body:= ?_)
 rotate_left
 ·clear hr
  intro l4 hr
  refine fY (vJ N aC bK bY bJ bZ t l4) [(0,.ptr 0 0),(3,.ptr 3 0),(5,.sl 4 0 l4.length 37 true)] [some ⟨102,(eI .u32 aC.Genesis.Version)::(aN (eI .u8) aC.Genesis.Prev (aN (eI .u8) aC.Genesis.Root ((eI .u32 aC.Genesis.Time)::((eI .u32 aC.Genesis.Bits)::((eI .u32 aC.Genesis.Nonce)::(eG (eI .u64) aC.Limit [eI .i64 aC.Window,eI .u32 aC.Spacing,eI .u32 aC.Future,eI .u32 aC.Version,.row none 33 (aC.Checkpoints.map bB),eI .i64 aC.Subsidy,eI .i64 aC.Halving,eI .i64 aC.Maturity,eI .i64 bK,.mp 1,.sl 2 0 bJ.length 37 true,eI .i64 bZ]))))))⟩,some ⟨33037,bY.flatMap fG⟩,some ⟨80,bJ.flatMap aH⟩,some ⟨91,aQ t⟩,some ⟨80,l4.flatMap aH⟩] ?_ (body:= ?_)
  rotate_left
  ·clear hr
   intro hr
   refine a1L ?_
   obtain⟨x71,h_1,hr⟩:=aL hr
   refine a1S mixed [] [79] [[0,1,2,3,4,5,6,7,8,9,10,11]]<|zz ?_
   refine xZ (aDb h_1) [] [4] ?_
   refine zz ?_
   refine a1L<|zz ?_
   refine zk hr ?_ ?_<;>intro h3 hr<;>refine zz ?_
   ·exact zE
   refine sk2 (vP N aC bK bZ x71) (fun l1 l3=>[]) (fun l1 l3=>[some ⟨102,(eI .u32 aC.Genesis.Version)::(aN (eI .u8) aC.Genesis.Prev (aN (eI .u8) aC.Genesis.Root ((eI .u32 aC.Genesis.Time)::((eI .u32 aC.Genesis.Bits)::((eI .u32 aC.Genesis.Nonce)::(eG (eI .u64) aC.Limit [eI .i64 aC.Window,eI .u32 aC.Spacing,eI .u32 aC.Future,eI .u32 aC.Version,.row none 33 (aC.Checkpoints.map bB),eI .i64 aC.Subsidy,eI .i64 aC.Halving,eI .i64 aC.Maturity,eI .i64 bK,.mp 1,.sl 3 0 l3.length 37 true,eI .i64 (a1O.wrap (bZ+x71.1))]))))))⟩,some ⟨33037,l1.flatMap fG⟩,none,some ⟨80,l3.flatMap aH⟩]) ?_
   obtain⟨res4,hL4,hr⟩:=aL hr
   refine zz ?_
   refine a1K<|lp3 hL4 (fun x87 bL dR=>[(0,.ptr 0 0),(85,.sl 3 0 l4.length 37 true),(86,eI .i64 (l4.length:Int)),(87,eI .i64 x87)]) (fun x87 bL dR=>[some ⟨102,(eI .u32 aC.Genesis.Version)::(aN (eI .u8) aC.Genesis.Prev (aN (eI .u8) aC.Genesis.Root ((eI .u32 aC.Genesis.Time)::((eI .u32 aC.Genesis.Bits)::((eI .u32 aC.Genesis.Nonce)::(eG (eI .u64) aC.Limit [eI .i64 aC.Window,eI .u32 aC.Spacing,eI .u32 aC.Future,eI .u32 aC.Version,.row none 33 (aC.Checkpoints.map bB),eI .i64 aC.Subsidy,eI .i64 aC.Halving,eI .i64 aC.Maturity,eI .i64 bK,.mp 1,.sl 4 0 dR.length 37 true,eI .i64 (a1O.wrap (bZ+x71.1))]))))))⟩,some ⟨33037,bL.flatMap fG⟩,none,some ⟨80,l4.flatMap aH⟩,some ⟨80,dR.flatMap aH⟩]) (round:= ?_)
   intro m4 x87 bL dR hr
   refine zz ?_
   refine a1L ?_
   refine zk hr ?_ ?_<;>clear hr<;>intro h4 hr<;>refine zz ?_
   ·refine a1L<|a1K ?_
    replace hr:=aL hr
    obtain⟨x89,h_5,hr⟩:=hr
    refine zz ?_
    refine xw (v:=(aP x89)) (b8 rfl (rV (C:=aH) (K:=37) (fun _=>rfl) rfl h_5 (mU (ds:=(aN (eI .u8) x89.Out.Tx [eI .u32 x89.Out.Index,eI .i64 x89.Output.Value,.row none 1 (x89.Output.Script.map (eI .u8)),eI .i64 x89.Height,eB x89.Coinbase])) rP rfl zl rfl))) ?_
    refine zz ?_
    refine a1L<|a1S mixed [] [] [[0,1,2,3,4,5,6]]<|zz ?_
    refine xdl x89.Out ?_
    replace hr:=cE hr
    obtain⟨aVP,h_6,aS6,h_8,hr⟩:=hr
    refine zz ?_
    refine a1S mixed [55] [] [[0,1,2,3,4,5,6,7,8,9,10,11]]<|zz ?_
    refine xu (oQ h_6)<|jU aH 37 [aVP] ?_
    exact zE
   exact zE
  obtain⟨res5,hL5,hr⟩:=aL hr
  refine zz ?_
  refine a1K<|gQ hL5 (fun x42=>[(0,.ptr 0 0),(3,.ptr 3 0),(5,.sl 4 0 l4.length 37 true),(40,.sl 4 0 l4.length 37 true),(41,eI .i64 (l4.length:Int)),(42,eI .i64 x42)]) (fun x42=>[some ⟨102,(eI .u32 aC.Genesis.Version)::(aN (eI .u8) aC.Genesis.Prev (aN (eI .u8) aC.Genesis.Root ((eI .u32 aC.Genesis.Time)::((eI .u32 aC.Genesis.Bits)::((eI .u32 aC.Genesis.Nonce)::(eG (eI .u64) aC.Limit [eI .i64 aC.Window,eI .u32 aC.Spacing,eI .u32 aC.Future,eI .u32 aC.Version,.row none 33 (aC.Checkpoints.map bB),eI .i64 aC.Subsidy,eI .i64 aC.Halving,eI .i64 aC.Maturity,eI .i64 bK,.mp 1,.sl 2 0 bJ.length 37 true,eI .i64 bZ]))))))⟩,some ⟨33037,bY.flatMap fG⟩,some ⟨80,bJ.flatMap aH⟩,some ⟨91,aQ t⟩,some ⟨80,l4.flatMap aH⟩]) (round:= ?_)
  intro m5 x42 hr
  refine zz ?_
  refine a1L ?_
  refine zk hr ?_ ?_<;>clear hr<;>intro h9 hr<;>refine zz ?_
  ·refine a1L<|a1K ?_
   replace hr:=aL hr
   obtain⟨x44,h_10,hr⟩:=hr
   refine zz ?_
   refine xw (v:=(aP x44)) (b8 rfl (rV (C:=aH) (K:=37) (fun _=>rfl) rfl h_10 (mU (ds:=(aN (eI .u8) x44.Out.Tx [eI .u32 x44.Out.Index,eI .i64 x44.Output.Value,.row none 1 (x44.Output.Script.map (eI .u8)),eI .i64 x44.Height,eB x44.Coinbase])) rP rfl zl rfl))) ?_
   refine zz ?_
   refine bW (qB N aC bK bY bJ bZ t l4 x42 (fD N aC bK bY bJ bZ t l4 m5)) (fun x62=>[(0,.ptr 0 0),(3,.ptr 3 0),(5,.sl 4 0 l4.length 37 true),(40,.sl 4 0 l4.length 37 true),(41,eI .i64 (l4.length:Int)),(42,eI .i64 x42),(62,eB x62)]) (fun x62=>[some ⟨102,(eI .u32 aC.Genesis.Version)::(aN (eI .u8) aC.Genesis.Prev (aN (eI .u8) aC.Genesis.Root ((eI .u32 aC.Genesis.Time)::((eI .u32 aC.Genesis.Bits)::((eI .u32 aC.Genesis.Nonce)::(eG (eI .u64) aC.Limit [eI .i64 aC.Window,eI .u32 aC.Spacing,eI .u32 aC.Future,eI .u32 aC.Version,.row none 33 (aC.Checkpoints.map bB),eI .i64 aC.Subsidy,eI .i64 aC.Halving,eI .i64 aC.Maturity,eI .i64 bK,.mp 1,.sl 2 0 bJ.length 37 true,eI .i64 bZ]))))))⟩,some ⟨33037,bY.flatMap fG⟩,some ⟨80,bJ.flatMap aH⟩,some ⟨91,aQ t⟩,some ⟨80,l4.flatMap aH⟩]) ?_
   exact zE
  exact zE
 obtain⟨res7,hL7,hr⟩:=aL hr
 refine zz ?_
 refine a1K<|dH hL7 (fun x19 rO=>[(0,.ptr 0 0),(3,.ptr 3 0),(5,.sl 4 0 rO.length 37 true),(17,.row none 35 (t.Inputs.map bU)),(18,eI .i64 (t.Inputs.length:Int)),(19,eI .i64 x19)]) (fun x19 rO=>[some ⟨102,(eI .u32 aC.Genesis.Version)::(aN (eI .u8) aC.Genesis.Prev (aN (eI .u8) aC.Genesis.Root ((eI .u32 aC.Genesis.Time)::((eI .u32 aC.Genesis.Bits)::((eI .u32 aC.Genesis.Nonce)::(eG (eI .u64) aC.Limit [eI .i64 aC.Window,eI .u32 aC.Spacing,eI .u32 aC.Future,eI .u32 aC.Version,.row none 33 (aC.Checkpoints.map bB),eI .i64 aC.Subsidy,eI .i64 aC.Halving,eI .i64 aC.Maturity,eI .i64 bK,.mp 1,.sl 2 0 bJ.length 37 true,eI .i64 bZ]))))))⟩,some ⟨33037,bY.flatMap fG⟩,some ⟨80,bJ.flatMap aH⟩,some ⟨91,aQ t⟩,some ⟨80,rO.flatMap aH⟩]) (h0:=(zW 80 [0,1,2,3,4])) (round:= ?_)
 intro m7 x19 rO hr
 refine zz ?_
 refine a1L ?_
 refine zk hr ?_ ?_<;>clear hr<;>intro h13 hr<;>refine zz ?_
 ·refine a1L<|a1K ?_
  replace hr:=aL hr
  obtain⟨x21,h_14,hr⟩:=hr
  refine zz ?_
  refine a1L<|a1S mixed [] [] [[0,1,2,3,4,5,6,7,8,9,10,11,12]]<|zz ?_
  refine xlo x21.Prev ?_
  refine zz ?_
  refine a1L<|zz ?_
  refine zk hr ?_ ?_<;>clear hr<;>intro h15 hr
  ·exact zE
  replace hr:=aL hr
  obtain⟨x38,h_16,hr⟩:=hr
  refine zz ?_
  refine jU aH 37 [pC iW bY x21.Prev (aA.mk (aD.mk (a1M 32 0) 0) (aI.mk 0 []) 0 false)] ?_
  exact zE
 exact zE
instance :CtC 39 false (bC @aCJ):=⟨@aCJ⟩
theorem zV {N t height jN r} (hr:zA N t height jN=some r):
  Fp 60 [] [aZ t,eI .i64 height,eB jN] (.sl 0 0 r.length 37 true) [some ⟨80,r.flatMap aH⟩]:=by
 refine bT func60 ntmps60 results60 fun hR=> ?_
 obtain⟨x13,h_1,q,h_2,hr⟩:=cE hr
 refine zz ?_
 refine xp (aIR h_1) ?_
 refine zz ?_
 refine bW (zY N) (fun l0=>[(7,.sl 0 0 l0.length 37 true)]) (fun l0=>[some ⟨80,l0.flatMap aH⟩]) ?_
 obtain⟨cN,hL2,hr⟩:=aL hr
 refine zz ?_
 refine a1K<|dH hL2 (fun x17 aO=>[(1,eI .i64 height),(2,eB jN),(7,.sl 0 0 aO.length 37 true),(8,.ptr 1 0),(15,.row none 2 (t.Outputs.map b7)),(16,eI .i64 (t.Outputs.length:Int)),(17,eI .i64 x17)]) (fun x17 aO=>[some ⟨80,aO.flatMap aH⟩,some ⟨26,x13.map (eI .u8)⟩]) (h0:=(zW 80 [2,1])) (round:= ?_)
 intro m2 x17 aO hr
 refine zz ?_
 refine a1L ?_
 refine zk hr ?_ ?_<;>clear hr<;>intro h3 hr<;>refine zz ?_
 ·refine a1L<|a1K ?_
  replace hr:=aL hr
  obtain⟨x20,h_4,hr⟩:=hr
  refine zz ?_
  refine xw (v:=(.agg (aN (eI .u8) x13 [eI .u32 (a1R.wrap x17)]))) (cS rfl (aJF (ps':=[(0,.agg (aN (eI .u8) x13 [])),(1,eI .u32 (a1R.wrap x17))]) (by simp only[dJ (l:=x13) (aU h_2)]<;>rfl) (jC jL aJx (by kernel_rfl)))) ?_
  replace hr:=aL hr
  obtain⟨x33,h_5,hr⟩:=hr
  refine zz ?_
  refine xw (v:=(.agg (aN (eI .u8) x13 [eI .u32 (a1R.wrap x17),eI .i64 x20.Value,.row none 1 (x20.Script.map (eI .u8)),eI .i64 height,eB jN]))) (cS rfl (jC rP aRx rfl))<|jU aH 37 [aA.mk (aD.mk x13 (a1R.wrap x17)) x20 height jN] ?_
  exact zE
 exact zE
instance :CtC 60 false (bC @zV):=⟨@zV⟩
theorem aCI {N aC bK bY bJ bZ t jN r} (hr:uO N aC bK bY bJ bZ t jN=some r):
  Fp 40 [some ⟨102,(eI .u32 aC.Genesis.Version)::(aN (eI .u8) aC.Genesis.Prev (aN (eI .u8) aC.Genesis.Root ((eI .u32 aC.Genesis.Time)::((eI .u32 aC.Genesis.Bits)::((eI .u32 aC.Genesis.Nonce)::(eG (eI .u64) aC.Limit [eI .i64 aC.Window,eI .u32 aC.Spacing,eI .u32 aC.Future,eI .u32 aC.Version,.row none 33 (aC.Checkpoints.map bB),eI .i64 aC.Subsidy,eI .i64 aC.Halving,eI .i64 aC.Maturity,eI .i64 bK,.mp 1,.sl 2 0 bJ.length 37 true,eI .i64 bZ]))))))⟩,some ⟨33037,bY.flatMap fG⟩,some ⟨80,bJ.flatMap aH⟩] [.ptr 0 0,aZ t,eB jN] (eI .i64 r.1) [some ⟨102,(eI .u32 aC.Genesis.Version)::(aN (eI .u8) aC.Genesis.Prev (aN (eI .u8) aC.Genesis.Root ((eI .u32 aC.Genesis.Time)::((eI .u32 aC.Genesis.Bits)::((eI .u32 aC.Genesis.Nonce)::(eG (eI .u64) aC.Limit [eI .i64 aC.Window,eI .u32 aC.Spacing,eI .u32 aC.Future,eI .u32 aC.Version,.row none 33 (aC.Checkpoints.map bB),eI .i64 aC.Subsidy,eI .i64 aC.Halving,eI .i64 aC.Maturity,eI .i64 bK,.mp 1,.sl 2 0 bJ.length 37 true,eI .i64 bZ]))))))⟩,some ⟨33037,r.2.flatMap fG⟩,some ⟨80,bJ.flatMap aH⟩]:=by
 refine bT func40 ntmps40 results40 fun hR=> ?_
 refine zz ?_
 refine bW (aCH N aC bK bJ bZ) (fun l1=>[]) (fun l1=>[some ⟨102,(eI .u32 aC.Genesis.Version)::(aN (eI .u8) aC.Genesis.Prev (aN (eI .u8) aC.Genesis.Root ((eI .u32 aC.Genesis.Time)::((eI .u32 aC.Genesis.Bits)::((eI .u32 aC.Genesis.Nonce)::(eG (eI .u64) aC.Limit [eI .i64 aC.Window,eI .u32 aC.Spacing,eI .u32 aC.Future,eI .u32 aC.Version,.row none 33 (aC.Checkpoints.map bB),eI .i64 aC.Subsidy,eI .i64 aC.Halving,eI .i64 aC.Maturity,eI .i64 bK,.mp 1,.sl 2 0 bJ.length 37 true,eI .i64 bZ]))))))⟩,some ⟨33037,l1.flatMap fG⟩,some ⟨80,bJ.flatMap aH⟩]) ?_
 refine a1L ?_
 obtain⟨x17,h_1,hr⟩:=aL hr
 refine a1S mixed [] [60] [[0,1,2,3,4,5,6,7,8]]<|zz ?_
 refine zg (zV h_1) [] ?_
 obtain⟨cN,hL2,hr⟩:=aL hr
 refine zz ?_
 refine a1K<|dH hL2 (fun x19 bL=>[(0,.ptr 0 0),(17,.sl 3 0 x17.length 37 true),(18,eI .i64 (x17.length:Int)),(19,eI .i64 x19)]) (fun x19 bL=>[some ⟨102,(eI .u32 aC.Genesis.Version)::(aN (eI .u8) aC.Genesis.Prev (aN (eI .u8) aC.Genesis.Root ((eI .u32 aC.Genesis.Time)::((eI .u32 aC.Genesis.Bits)::((eI .u32 aC.Genesis.Nonce)::(eG (eI .u64) aC.Limit [eI .i64 aC.Window,eI .u32 aC.Spacing,eI .u32 aC.Future,eI .u32 aC.Version,.row none 33 (aC.Checkpoints.map bB),eI .i64 aC.Subsidy,eI .i64 aC.Halving,eI .i64 aC.Maturity,eI .i64 bK,.mp 1,.sl 2 0 bJ.length 37 true,eI .i64 bZ]))))))⟩,some ⟨33037,bL.flatMap fG⟩,some ⟨80,bJ.flatMap aH⟩,some ⟨80,x17.flatMap aH⟩]) (round:= ?_)
 intro m2 x19 bL hr
 refine zz ?_
 refine a1L ?_
 refine zk hr ?_ ?_<;>clear hr<;>intro h3 hr<;>refine zz ?_
 ·refine a1L<|a1K ?_
  replace hr:=aL hr
  obtain⟨x21,h_4,hr⟩:=hr
  refine zz ?_
  refine xw (v:=(aP x21)) (b8 rfl (rV (C:=aH) (K:=37) (fun _=>rfl) rfl h_4 (mU (ds:=(aN (eI .u8) x21.Out.Tx [eI .u32 x21.Out.Index,eI .i64 x21.Output.Value,.row none 1 (x21.Output.Script.map (eI .u8)),eI .i64 x21.Height,eB x21.Coinbase])) rP rfl zl rfl))) ?_
  refine zz ?_
  refine a1L<|a1L<|a1S mixed [] [] [[0,1,2,3,4,5,6,7,8,9,10,11,12]] ?_
  refine zz ?_
  refine xlo x21.Out ?_
  refine zz ?_
  refine zk hr ?_ ?_<;>clear hr<;>intro h5 hr<;>refine zz ?_
  ·exact zE
  refine a1S mixed [] [] [[0,1,2,3,4,5,6,7]]<|zz ?_
  refine xup x21.Out x21 ?_
  exact zE
 exact zE
instance :CtC 40 false (bC @aCI):=⟨@aCI⟩
theorem z8 {N p height r} (hr:oL N p height=some r):
  Fp 26 [] [cU p,eI .i64 height] (eI .i64 r) []:=by
 refine bT func26 ntmps26 results26 fun hR=> ?_
 unfold oL at hr
 refine zz ?_
 refine a1L ?_
 refine bW (rW N p height) (fun x11=>[(1,eI .i64 height),(2,.ptr 0 0),(11,eB x11)]) (fun x11=>[some ⟨34,bG p⟩]) ?_
 exact zE
instance :CtC 26 true (bC @z8):=⟨@z8⟩
theorem aKO {N va b r} (hr:qT N va b=some r):
  Fp 103 [] [aP va,aP b] (eI .i64 r) []:=
 fV func103 ntmps103 results103
theorem aGk {N l vD r} (hr:aHj N l vD=some r):
  Fp 21 [] [dD l,.row none 1 (vD.map (eL 1 (eI .u8)))] (.sl 0 0 r.length 37 true) [some ⟨80,r.flatMap aH⟩]:=by
 refine bT func21 ntmps21 results21 fun hR=> ?_
 refine zz ?_
 refine bW (aKp N l) (fun l1=>[(2,.ptr 0 0),(5,.mp 1)]) (fun l1=>[some ⟨44,bD l⟩,some ⟨0,l1.flatMap aLP⟩]) ?_ (body:= ?_)
 rotate_left
 ·clear hr
  intro l1 hr
  refine zz ?_
  refine bW (aKV N) (fun l0=>[(8,.sl 0 0 l0.length 37 true)]) (fun l0=>[some ⟨80,l0.flatMap aH⟩]) ?_
  obtain⟨aBW,hL3,hr⟩:=aL hr
  refine zz ?_
  refine a1K<|dH hL3 (fun x25 bL=>[(5,.mp 0),(8,.sl 1 0 bL.length 37 true),(23,.row none 37 (l.Coins.map aP)),(24,eI .i64 (l.Coins.length:Int)),(25,eI .i64 x25)]) (fun x25 bL=>[some ⟨0,l1.flatMap aLP⟩,some ⟨80,bL.flatMap aH⟩]) (h0:=(zW 80 [1,2])) (round:= ?_)
  intro m3 x25 bL hr
  refine zz ?_
  refine a1L ?_
  refine zk hr ?_ ?_<;>clear hr<;>intro h1 hr<;>refine zz ?_
  ·refine a1L<|a1K ?_
   replace hr:=aL hr
   obtain⟨x27,h_2,hr⟩:=hr
   refine zz ?_
   refine xw (v:=(eS (iL x27.Output.Script))) (aGd rfl (aLy lI ti9 mF (aHS (fun _=>rfl))))<|xlk (iL x27.Output.Script) ?_
   refine zz ?_
   obtain⟨h3,hr⟩:=aKF hr
   refine AB.cndT rfl h3 ?_
   replace hr:=cE hr
   obtain⟨x37,h_4,x39,h_5,hr⟩:=hr
   refine zz ?_
   refine xp (oQ h_4)<|jU aH 37 [x37] ?_
   exact zE
  exact zE
 obtain⟨res4,hL4,hr⟩:=aL hr
 refine zz ?_
 refine a1K<|dH hL4 (fun x14 cL=>[(2,.ptr 0 0),(5,.mp 1),(12,.row none 1 (vD.map (eL 1 (eI .u8)))),(13,eI .i64 (vD.length:Int)),(14,eI .i64 x14)]) (fun x14 cL=>[some ⟨44,bD l⟩,some ⟨0,cL.flatMap aLP⟩]) (round:= ?_)
 intro m4 x14 cL hr
 refine zz ?_
 refine a1L ?_
 refine zk hr ?_ ?_<;>clear hr<;>intro h6 hr<;>refine zz ?_
 ·refine a1L<|a1K ?_
  replace hr:=aL hr
  obtain⟨x16,h_7,hr⟩:=hr
  refine zz ?_
  refine xw (v:=(eS (iL x16))) (aGd rfl (aLy lI ti9 mF (aHS (fun _=>rfl))))<|xup (iL x16) true ?_
  exact zE
 exact zE
instance :CtC 21 false (bC @aGk):=⟨@aGk⟩
theorem aEY {N l r} (hr:zO N l=some r):
  Fp 23 [] [.row none 37 (l.map aP)] (eI .i64 r) []:=
 fV func23 ntmps23 results23
instance :CtC 23 true (bC @aEY):=⟨@aEY⟩
end Go.Proofs.YtopdhljncajmpaaGreatDoor
