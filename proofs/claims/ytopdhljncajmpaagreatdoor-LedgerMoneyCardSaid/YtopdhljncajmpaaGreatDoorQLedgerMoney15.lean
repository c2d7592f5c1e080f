/- Texts of ours, joined: Wk4b. -/
import Derived.Test.YtopdhljncajmpaaGreatDoorQLedgerMoney14
open Go.Vm.AB renaming block → a0F,seq → a0G,cndF → a0L,rs → a0N,ghost → a0P
open List renaming replicate → a0H
open Go.Vm.Ghost renaming trans → a0I,virt → a0O
open Go.IntKind renaming i64 → a0J,u32 → a0M
open Go.Vm.DrawG renaming ps → a0K,jh → a0Q
set_option linter.unusedVariables false
set_option linter.unusedSimpArgs false
set_option maxRecDepth 20000
set_option maxHeartbeats 8000000
namespace Go.Proofs.YtopdhljncajmpaaGreatDoor
open Go Go.Vm Go.Proofs.Tryz
theorem aJw {N t r} (hr:aET N t=some r):
  Fp 210 [] [aY t] (eB r) []:=
 fR func210 ntmps210 results210
instance :CtC 210 true (aX @aJw):=⟨@aJw⟩
theorem qS {N vn r} (hr:pG N vn=some r):
  Fp 212 [] [eI .u32 vn] (.sl 0 0 r.length 1 false) [some ⟨5,r.map (eI .u8)⟩]:=by
 refine bR func212 ntmps212 results212 fun hR=> ?_
 obtain⟨x4,h_1,hr⟩:=aN hr
 refine zz ?_
 refine zc (dM h_1) [] ?_
 refine zz ?_
 replace hr:=sj hr
 subst hr
 exact zd1 Tryz.results212 [0]
instance :CtC 212 false (aX @qS):=⟨@qS⟩
theorem aB7 {N parts r} (hr:aDU N parts=some r):
  Fp 215 [] [.row none 1 (parts.map (eL 1 (eI .u8)))] (.sl 0 0 r.length 1 false) [some ⟨5,r.map (eI .u8)⟩]:=by
 refine bR func215 ntmps215 results215 fun hR=> ?_
 refine zz ?_
 refine bV (aKQ N) (fun l0=>[(3,.sl 0 0 l0.length 1 false)]) (fun l0=>[some ⟨5,l0.map (eI .u8)⟩]) ?_
 obtain⟨cM,hL2,hr⟩:=aN hr
 refine zz ?_
 exact a0F<|dB hL2 (fun x8 aK=>[(3,.sl 0 0 aK.length 1 false),(6,.row none 1 (parts.map (eL 1 (eI .u8)))),(7,eI .i64 (parts.length:Int)),(8,eI .i64 x8)]) (fun x8 aK=>[some ⟨5,aK.map (eI .u8)⟩]) (h0:=(zW 5 [0]))
instance :CtC 215 false (aX @aB7):=⟨@aB7⟩
theorem aBy {N o r} (hr:wE N o=some r):
  Fp 213 [] [cH o] (.sl 0 0 r.length 1 false) [some ⟨5,r.map (eI .u8)⟩]:=by
 refine bR func213 ntmps213 results213 fun hR=> ?_
 refine zz ?_
 refine a0G ?_
 obtain⟨x6,h_1,x9,h_3,x11,h_5,hr⟩:=fE hr
 refine a0N mixed [] [191,215,232] [[0,1,2,3,4,5,6],[7,8,9]]<|zz ?_
 refine zg (qI h_1) [] ?_
 refine zz ?_
 refine zg (kL h_3) [] ?_
 refine zz ?_
 refine⟨_,_,a0I (zv 1) (zv 2), ?_⟩
 refine zz ?_
 refine y7 (aB7 h_5) [] [3] ?_
 refine zz ?_
 replace hr:=sj hr
 subst hr
 exact zd1 Tryz.results213 [4]
instance :CtC 213 false (aX @aBy):=⟨@aBy⟩
theorem qO {N b r} (hr:sQ N b=some r):
  Fp 216 [] [.row none 1 (b.map (eI .u8))] (.row none 1 (r.map (eI .u8))) []:=
 fR func216 ntmps216 results216
instance :CtC 216 true (aX @qO):=⟨@qO⟩
theorem aEv {N tag b r} (hr:aE9 N tag b=some r):
  Fp 214 [] [eS tag,.row none 1 (b.map (eI .u8))] (.agg (r.map (eI .u8))) []:=by
 refine bR func214 ntmps214 results214 fun hR=> ?_
 obtain⟨x7,h_1,x8,h_2,q,h_3,hr⟩:=fE hr
 refine zz ?_
 refine aXC (i:=1) (h':=[some ⟨26,(a0H 32 0).map (eI .u8)⟩,some ⟨5,x7.map (eI .u8)⟩]) rfl ti9 lA oS h_1 rfl rfl (xOf ?_)
 refine kX (y4 h_2) [] [1] ?_
 refine zz ?_
 refine a0G ?_
 obtain⟨x13,h_4,x14,h_6,q_1,h_8,hr⟩:=fE hr
 refine a0N mixed [] [129,175] [[0,1,2],[3,4,5,6]]<|zz ?_
 refine⟨_,_,zv 2, ?_⟩
 refine zz ?_
 refine y7 (aFc h_4) [] [3] ?_
 refine y7 (y4 h_6) [] [4] ?_
 refine zz ?_
 replace hr:=sj hr
 subst hr
 exact zr1 Tryz.results214 dO (zG [])
instance :CtC 214 true (aX @aEv):=⟨@aEv⟩
theorem aAK {N t vi o r} (hr:uE N t vi o=some r):
  Fp 173 [] [aY t,eI .i64 vi,cH o] (.tup [.agg (r.1.map (eI .u8)),eI .i64 r.2]) []:=by
 refine bR func173 ntmps173 results173 fun hR=> ?_
 unfold uE at hr
 refine zz ?_
 refine a0G ?_
 refine bV (lG N t vi o) (fun x28=>[(1,eI .i64 vi),(3,.ptr 0 0),(5,.ptr 1 0),(6,.ptr 2 0),(28,eB x28)]) (fun x28=>[some ⟨91,aR t⟩,some ⟨78,cK o⟩,some ⟨26,(a0H 32 0).map (eI .u8)⟩]) ?_ (body:= ?_)
 rotate_left
 ·clear hr
  intro x28 hr
  unfold lG at hr
  refine zk hr ?_ ?_<;>intro h1 hr<;>refine zz ?_
  ·exact zE
  refine a0G ?_
  refine bV (lB N t vi o) (fun x38=>[(1,eI .i64 vi),(3,.ptr 0 0),(5,.ptr 1 0),(6,.ptr 2 0),(38,eB x38)]) (fun x38=>[some ⟨91,aR t⟩,some ⟨78,cK o⟩,some ⟨26,(a0H 32 0).map (eI .u8)⟩]) ?_ (body:= ?_)
  rotate_left
  ·clear hr
   intro x38 hr
   unfold lB at hr
   refine zk hr ?_ ?_<;>intro h2 hr<;>refine zz ?_
   ·exact zE
   refine sk2 (oH N t vi o) (fun l3 l4=>[(1,eI .i64 vi),(3,.ptr 0 0),(5,.ptr 1 0),(6,.ptr 2 0),(8,.sl 3 0 l3.length 1 false),(9,.sl 4 0 l4.length 1 false),(10,.row (some true) 1 [])]) (fun l3 l4=>[some ⟨91,aR t⟩,some ⟨78,cK o⟩,some ⟨26,(a0H 32 0).map (eI .u8)⟩,some ⟨5,l3.map (eI .u8)⟩,some ⟨5,l4.map (eI .u8)⟩]) ?_ (body:= ?_)
   rotate_left
   ·clear hr
    intro l3 l4 hr
    unfold oH at hr
    refine bV (pI N t vi o l3 l4) (fun l5=>[(1,eI .i64 vi),(3,.ptr 0 0),(5,.ptr 1 0),(6,.ptr 2 0),(8,.sl 3 0 l3.length 1 false),(9,.sl 4 0 l4.length 1 false),(10,.sl 5 0 l5.length 1 false)]) (fun l5=>[some ⟨91,aR t⟩,some ⟨78,cK o⟩,some ⟨26,(a0H 32 0).map (eI .u8)⟩,some ⟨5,l3.map (eI .u8)⟩,some ⟨5,l4.map (eI .u8)⟩,some ⟨5,l5.map (eI .u8)⟩]) ?_ (body:= ?_)
    rotate_left
    ·clear hr
     intro l5 hr
     unfold pI at hr
     refine a0G<|a0P (zv 3) ?_
     refine a0P (zv 4) ?_
     refine a0P (zv 5) ?_
     obtain⟨x72,h_3,x74,h_5,x76,h_7,x78,h_9,x81,h_11,x84,h_13,hr⟩:=aNP hr
     obtain⟨x86,h_15,x88,h_17,x89,h_19,q,h_21,hr⟩:=aAS hr
     refine a0N mixed [216] [212,213,214,215] [[0,1,2,3,4,5,6,7,8,9,10,11,12,13,14,15,16],[17,18,19,20,21]]<|zz ?_
     refine zg (qS h_3) [] ?_
     refine zz ?_
     refine xu (qO h_5) ?_
     refine zz ?_
     refine xu (qO h_7) ?_
     refine zz ?_
     refine xu (qO h_9) ?_
     refine zz ?_
     refine zg (qS h_11) [] ?_
     refine zz ?_
     refine zg (qS h_13) [] ?_
     refine zz ?_
     refine zg (aBy h_15) [] ?_
     refine zz ?_
     refine⟨_,_,a0I (a0I (a0I (zv 6) (zv 7)) (zv 8)) (zv 9), ?_⟩
     refine zz ?_
     refine y7 (aB7 h_17) [] [10] ?_
     refine y7 (aEv h_19) [] [11] ?_
     refine zz ?_
     replace hr:=sj hr
     subst hr
     exact zr2 Tryz.results173 dO dO (zg' [])
    obtain⟨res5,hL5,hr⟩:=aN hr
    refine zz ?_
    exact a0F<|dB hL5 (fun x61 dP=>[(1,eI .i64 vi),(3,.ptr 0 0),(5,.ptr 1 0),(6,.ptr 2 0),(8,.sl 3 0 l3.length 1 false),(9,.sl 4 0 l4.length 1 false),(10,.sl 5 0 dP.length 1 false),(59,.row none 2 (t.Outputs.map cH)),(60,eI .i64 (t.Outputs.length:Int)),(61,eI .i64 x61)]) (fun x61 dP=>[some ⟨91,aR t⟩,some ⟨78,cK o⟩,some ⟨26,(a0H 32 0).map (eI .u8)⟩,some ⟨5,l3.map (eI .u8)⟩,some ⟨5,l4.map (eI .u8)⟩,some ⟨5,dP.map (eI .u8)⟩]) (h0:=(zW 5 [0,1,2,3,4,5]))
   obtain⟨res6,hL6,hr⟩:=aN hr
   refine zz ?_
   exact a0F<|lp3 hL6 (fun x43 eF dQ=>[(1,eI .i64 vi),(3,.ptr 0 0),(5,.ptr 1 0),(6,.ptr 2 0),(8,.sl 3 0 eF.length 1 false),(9,.sl 4 0 dQ.length 1 false),(10,.row (some true) 1 []),(41,.row none 35 (t.Inputs.map bU)),(42,eI .i64 (t.Inputs.length:Int)),(43,eI .i64 x43)]) (fun x43 eF dQ=>[some ⟨91,aR t⟩,some ⟨78,cK o⟩,some ⟨26,(a0H 32 0).map (eI .u8)⟩,some ⟨5,eF.map (eI .u8)⟩,some ⟨5,dQ.map (eI .u8)⟩]) (h0:=(a0I (a0O (fr':=[(1,eI .i64 vi),(3,.ptr 0 0),(5,.ptr 1 0),(6,.ptr 2 0),(8,.sl 3 0 0 1 false),(9,.row (some true) 1 []),(10,.row (some true) 1 []),(41,.row none 35 (t.Inputs.map bU)),(42,eI .i64 (t.Inputs.length:Int)),(43,eI .i64 0)]) (h1:=[some ⟨91,aR t⟩,some ⟨78,cK o⟩,some ⟨26,(a0H 32 0).map (eI .u8)⟩]) 5 (FLe.same rfl (FLe.same rfl (FLe.same rfl (FLe.same rfl (FLe.le rfl (V.le_virt rfl) (FLe.same rfl (FLe.same rfl (FLe.same rfl (FLe.same rfl (FLe.same rfl FLe.nil)))))))))) (HLv.live (V.les_refl _ _) rfl (HLv.live (V.les_refl _ _) rfl (HLv.live (V.les_refl _ _) (all_map (fun _=>rfl) _) HLv.nil)))) (zW 5 [0,1,2,3,4])))
  exact zE
 exact zE
instance :CtC 173 true (aX @aAK):=⟨@aAK⟩
theorem aBx {N code r} (hr:aFq N code=some r):
  Fp 267 [] [eI .i64 code] (eB r) []:=by
 refine bR func267 ntmps267 results267 fun hR=> ?_
 unfold aFq at hr
 refine zz ?_
 refine bV (aBD N) (fun x2=>[(2,eB x2)]) (fun x2=>[]) ?_
 exact zE
instance :CtC 267 true (aX @aBx):=⟨@aBx⟩
theorem aAm {N parts r} (hr:aIS N parts=some r):
  Fp 255 [] [.row none 1 (parts.map (eL 1 (eI .u8)))] (.sl 0 0 r.length 1 false) [some ⟨5,r.map (eI .u8)⟩]:=by
 refine bR func255 ntmps255 results255 fun hR=> ?_
 refine zz ?_
 refine bV (aJv N) (fun l0=>[(3,.sl 0 0 l0.length 1 false)]) (fun l0=>[some ⟨5,l0.map (eI .u8)⟩]) ?_
 obtain⟨cM,hL2,hr⟩:=aN hr
 refine zz ?_
 exact a0F<|dB hL2 (fun x8 aK=>[(3,.sl 0 0 aK.length 1 false),(6,.row none 1 (parts.map (eL 1 (eI .u8)))),(7,eI .i64 (parts.length:Int)),(8,eI .i64 x8)]) (fun x8 aK=>[some ⟨5,aK.map (eI .u8)⟩]) (h0:=(zW 5 [0]))
instance :CtC 255 false (aX @aAm):=⟨@aAm⟩
theorem aCJ {N b r} (hr:aLC N b=some r):
  Fp 254 [] [.row none 1 (b.map (eI .u8))] (.tup [.agg [eI .i64 r.1,.sl 0 0 r.2.1.length 1 false,eI .i64 r.2.2.1,eI .i64 r.2.2.2.1],.row none 1 (r.2.2.2.2.1.map (eI .u8)),eI .i64 r.2.2.2.2.2]) [some ⟨5,r.2.1.map (eI .u8)⟩]:=by
 refine bR func254 ntmps254 results254 fun hR=> ?_
 obtain⟨x8,h_1,hr⟩:=aN hr
 refine zz ?_
 obtain⟨x14,h_2,hr⟩:=aN hr
 refine a0G<|zz ?_
 refine xp (aBx h_2) ?_
 refine zz ?_
 obtain⟨h3,hr⟩:=cutF hr
 refine a0L rfl h3 ?_
 obtain⟨x18,h_4,hr⟩:=aN hr
 refine zz ?_
 refine sk2 (aC9 N x8) (fun b_1 l2=>[(0,.row none 1 (b_1.map (eI .u8))),(2,.ptr 0 0),(5,.ptr 1 0)]) (fun b_1 l2=>[some ⟨263,[eI .i64 0,.row (some true) 1 [],eI .i64 0,eI .i64 0]⟩,some ⟨263,[eI .i64 (a0J.wrap x8),.sl 2 0 l2.length 1 false,eI .i64 0,eI .i64 0]⟩,some ⟨5,l2.map (eI .u8)⟩]) ?_
 refine zz ?_
 refine a0F ?_
 refine zz ?_
 refine zk hr ?_ ?_<;>intro h5 hr
 ·refine a0G ?_
  obtain⟨h6,hr⟩:=cutF hr
  obtain⟨x31,h_7,hr⟩:=aN hr
  refine xq ?_
  refine zz ?_
  obtain⟨h8,hr⟩:=cutF hr
  refine a0L rfl h8 ?_
  obtain⟨x44,h_9,x46,h_10,x49,h_12,hr⟩:=fE hr
  refine zz ?_
  refine AB.rd (cD []) (cD [255]) mixed<|a0K (m:=3) [0,1,2,3,4,5,6,8] ?_
  refine zz ?_
  refine y7 (aAm h_10) [] [2] ?_
  refine zz ?_
  refine DrawG.jn (m:=1) (L:=lst [0,1,2,3,4,5,6,7,8,9] 11) (s1:=aG 78 [(0,.row none 1 (x18.map (eI .u8))),(2,.ptr 0 0),(5,.ptr 1 0),(49,.row none 1 (x49.map (eI .u8)))]) (h1:=[some ⟨263,[eI .i64 0,.row (some true) 1 [],eI .i64 0,eI .i64 0]⟩,some ⟨263,[eI .i64 (a0J.wrap x8),.sl 2 0 x46.length 1 false,eI .i64 0,eI .i64 0]⟩,some ⟨5,x46.map (eI .u8)⟩]) ?_ (fun J=> ?_)
  ·refine a0K (m:=0) [10]<|zz ?_
   refine DrawG.nil (by decide +kernel) ?_
   exact zE
  refine DrawG.fk (n:=2) [7,9] ⟨?_, ?_,trivial⟩
  ·refine zz ?_
   refine a0K (m:=1) [9]<|zz ?_
   refine a0Q J ?_
   exact(zG [0,1,3])
  refine zz ?_
  refine a0K (m:=1) [7]<|zz ?_
  refine a0Q J ?_
  exact(zG [0,1,3])
 refine zz ?_
 obtain⟨h13,hr⟩:=cutF hr
 refine a0L rfl h13 ?_
 refine zz ?_
 exact⟨_,_,hr,a0I (a0O (fr':=[(0,.row none 1 (x18.map (eI .u8))),(2,.ptr 0 0),(5,.ptr 1 0)]) (h1:=[some ⟨263,[eI .i64 0,.row (some true) 1 [],eI .i64 0,eI .i64 0]⟩,some ⟨263,[eI .i64 (a0J.wrap x8),.sl 2 0 0 1 false,eI .i64 0,eI .i64 0]⟩]) 5 (FLe.same rfl (FLe.same rfl (FLe.same rfl FLe.nil))) (HLv.live (V.les_refl _ _) rfl (HLv.live (V.les_cons (V.le_refl _ _) (V.les_cons (V.le_virt rfl) (V.les_cons (V.le_refl _ _) (V.les_cons (V.le_refl _ _) V.les_nil)))) rfl HLv.nil))) (zg' [0,1,2])⟩
instance :CtC 254 false (aX @aCJ):=⟨@aCJ⟩
theorem aB5 {N b r} (hr:aFX N b=some r):
  Fp 240 [] [.row none 1 (b.map (eI .u8))] (.tup [.sl 0 0 r.1.length 4 true,eI .i64 r.2]) [some ⟨263,r.1.flatMap eT⟩]:=by
 refine bR func240 ntmps240 results240 fun hR=> ?_
 refine zz ?_
 refine a0G<|zz ?_
 refine zk hr ?_ ?_<;>intro h1 hr<;>refine zz ?_
 ·replace hr:=sj hr
  subst hr
  exact zr2 Tryz.results240 dO dO (zW 263 [0])
 refine bV (aGZ N) (fun l0=>[(4,.sl 0 0 l0.length 4 true)]) (fun l0=>[some ⟨263,l0.flatMap eT⟩]) ?_
 obtain⟨cM,hL2,hr⟩:=aN hr
 refine a0F<|dB hL2 (fun b_1 aK=>[(0,.row none 1 (b_1.map (eI .u8))),(4,.sl 0 0 aK.length 4 true)]) (fun b_1 aK=>[some ⟨263,aK.flatMap eT⟩]) (h0:=(zW 263 [0])) (round:= ?_)
 intro m2 b_1 aK hr
 refine a0G<|zz ?_
 refine zk hr ?_ ?_<;>clear hr<;>intro h2 hr<;>refine zz ?_
 ·refine a0F ?_
  replace hr:=aN hr
  obtain⟨x16,h_3,hr⟩:=hr
  refine zz ?_
  refine zc (aCJ h_3) [] ?_
  refine zz ?_
  refine a0G<|zz ?_
  refine zk hr ?_ ?_<;>clear hr<;>intro h4 hr
  ·refine zz ?_
   replace hr:=sj hr
   subst hr
   replace hr:=sj hr
   subst hr
   exact zr2 Tryz.results240 dO dO (zW 263 [3])
  replace hr:=aN hr
  obtain⟨x26,h_5,hr⟩:=hr
  refine zz ?_
  refine OpsX.ghost (zQ [1,0,1])<|mC eT 4 [cG.mk x16.1 x16.2.1 x16.2.2.1 x16.2.2.2.1] ?_
  exact zE
 exact zE
instance :CtC 240 false (aX @aB5):=⟨@aB5⟩
theorem aAI {N l r} (hr:aAz N l=some r):
  Fp 241 [] [.row none 4 (l.map kA)] (eB r) []:=by
 refine bR func241 ntmps241 results241 fun hR=> ?_
 refine zz ?_
 refine fT (aFO N) [(3,.row (some true) 1 [])] [] ?_
 obtain⟨cM,hL2,hr⟩:=aN hr
 refine zz ?_
 exact a0F<|gQ hL2 (fun x9=>[(3,.row (some true) 1 []),(7,.row none 4 (l.map kA)),(8,eI .i64 (l.length:Int)),(9,eI .i64 x9)]) (fun x9=>[])
instance :CtC 241 true (aX @aAI):=⟨@aAI⟩
theorem zI {N stack r} (hr:yI N stack=some r):
  Fp 242 [] [.row none 1 (stack.map (eL 1 (eI .u8)))] (eB r) []:=by
 refine bR func242 ntmps242 results242 fun hR=> ?_
 refine zz ?_
 refine a0G<|zz ?_
 refine zk hr ?_ ?_<;>intro h1 hr<;>refine zz ?_
 ·exact zE
 refine fT (aEI N) [] [] ?_
 obtain⟨cM,hL2,hr⟩:=aN hr
 refine zz ?_
 exact a0F<|gQ hL2 (fun x10=>[(8,.row none 1 (stack.map (eL 1 (eI .u8)))),(9,eI .i64 (stack.length:Int)),(10,eI .i64 x10)]) (fun x10=>[])
instance :CtC 242 true (aX @zI):=⟨@zI⟩
theorem tT {N stack r} (hr:mV N stack=some r):
  Fp 243 [] [.row none 1 (stack.map (eL 1 (eI .u8)))] (.sl 0 0 r.length 1 false) [some ⟨22,r.map (eL 1 (eI .u8))⟩]:=by
 refine bR func243 ntmps243 results243 fun hR=> ?_
 refine zz ?_
 refine bV (aF4 N) (fun l0=>[(3,.sl 0 0 l0.length 1 false)]) (fun l0=>[some ⟨22,l0.map (eL 1 (eI .u8))⟩]) ?_
 obtain⟨cM,hL2,hr⟩:=aN hr
 refine zz ?_
 refine a0F<|dB hL2 (fun x8 aK=>[(3,.sl 0 0 aK.length 1 false),(6,.row none 1 (stack.map (eL 1 (eI .u8)))),(7,eI .i64 (stack.length:Int)),(8,eI .i64 x8)]) (fun x8 aK=>[some ⟨22,aK.map (eL 1 (eI .u8))⟩]) (h0:=(zW 22 [0])) (round:= ?_)
 intro m2 x8 aK hr
 refine zz ?_
 refine a0G ?_
 refine zk hr ?_ ?_<;>clear hr<;>intro h1 hr<;>refine zz ?_
 ·refine a0G<|a0F ?_
  replace hr:=fE hr
  obtain⟨x10,h_2,x15,h_3,x17,h_4,hr⟩:=hr
  refine zz ?_
  refine kX (aAm h_3) [] [1] ?_
  refine OpsX.ghost (zv 2) ?_
  exact zE
 exact zE
instance :CtC 243 false (aX @tT):=⟨@tT⟩
theorem wK {N b6 bY bB cY r} (hr:aA7 N b6 bY bB cY=some r):
  Fp 256 [some ⟨278,aL (eI .u8) b6.Message [eI .i64 b6.Height,eI .i64 b6.Age,.sl 1 0 bY.length 1 false,.sl 2 0 bB.length 2 true,eI .i64 cY]⟩,some ⟨22,bY.map (eL 1 (eI .u8))⟩,some ⟨294,bB.flatMap cE⟩] [.ptr 0 0] (eB r) [some ⟨278,aL (eI .u8) b6.Message [eI .i64 b6.Height,eI .i64 b6.Age,.sl 1 0 bY.length 1 false,.sl 2 0 bB.length 2 true,eI .i64 cY]⟩,some ⟨22,bY.map (eL 1 (eI .u8))⟩,some ⟨294,bB.flatMap cE⟩]:=
 fR func256 ntmps256 results256
instance :CtC 256 false (aX @wK):=⟨@wK⟩
theorem aGP {N op r} (hr:aKG N op=some r):
  Fp 257 [] [kA op] (eI .i64 r) []:=
 fR func257 ntmps257 results257
instance :CtC 257 true (aX @aGP):=⟨@aGP⟩
theorem aGz {N op r} (hr:aJ6 N op=some r):
  Fp 258 [] [kA op] (eI .i64 r) []:=by
 refine bR func258 ntmps258 results258 fun hR=> ?_
 refine zz ?_
 refine a0G<|zz ?_
 refine a0F ?_
 refine bV (aBN N op) (fun x5=>[(1,.ptr 0 0),(4,eI .i64 op.Code),(5,eB x5)]) (fun x5=>[some ⟨263,eT op⟩]) ?_
 exact zE
instance :CtC 258 true (aX @aGz):=⟨@aGz⟩
theorem sN {N b6 bY bB cY r} (hr:aDM N b6 bY bB cY=some r):
  Fp 259 [some ⟨278,aL (eI .u8) b6.Message [eI .i64 b6.Height,eI .i64 b6.Age,.sl 1 0 bY.length 1 false,.sl 2 0 bB.length 2 true,eI .i64 cY]⟩,some ⟨22,bY.map (eL 1 (eI .u8))⟩,some ⟨294,bB.flatMap cE⟩] [.ptr 0 0] (.row none 1 (r.map (eI .u8))) [some ⟨278,aL (eI .u8) b6.Message [eI .i64 b6.Height,eI .i64 b6.Age,.sl 1 0 bY.length 1 false,.sl 2 0 bB.length 2 true,eI .i64 cY]⟩,some ⟨22,bY.map (eL 1 (eI .u8))⟩,some ⟨294,bB.flatMap cE⟩]:=
 fR func259 ntmps259 results259
instance :CtC 259 false (aX @sN):=⟨@sN⟩
theorem aGG {N mS r} (hr:aBh N mS=some r):
  Fp 218 [] [.row none 1 (mS.map (eI .u8))] (eB r) []:=by
 refine bR func218 ntmps218 results218 fun hR=> ?_
 refine zz ?_
 refine fT (aGY N) [] [] ?_
 obtain⟨cM,hL2,hr⟩:=aN hr
 refine zz ?_
 exact a0F<|gQ hL2 (fun x7=>[(5,.row none 1 (mS.map (eI .u8))),(6,eI .i64 (mS.length:Int)),(7,eI .i64 x7)]) (fun x7=>[])
instance :CtC 218 true (aX @aGG):=⟨@aGG⟩
theorem zU {N b6 bY bB cY vn r} (hr:aCw N b6 bY bB cY vn=some r):
  Fp 260 [some ⟨278,aL (eI .u8) b6.Message [eI .i64 b6.Height,eI .i64 b6.Age,.sl 1 0 bY.length 1 false,.sl 2 0 bB.length 2 true,eI .i64 cY]⟩,some ⟨22,bY.map (eL 1 (eI .u8))⟩,some ⟨294,bB.flatMap cE⟩] [.ptr 0 0,eI .i64 vn] (.tup []) [some ⟨278,aL (eI .u8) b6.Message [eI .i64 b6.Height,eI .i64 b6.Age,.sl 3 0 r.length 1 false,.sl 2 0 bB.length 2 true,eI .i64 cY]⟩,none,some ⟨294,bB.flatMap cE⟩,some ⟨22,r.map (eL 1 (eI .u8))⟩]:=by
 refine bR func260 ntmps260 results260 fun hR=> ?_
 obtain⟨x16,h_1,hr⟩:=aN hr
 refine a0N mixed [] [] [[0,1,2,3,4,5,6,7,8,9,10,11,12],[13,14,15]]<|zz ?_
 refine xw (v:=(.sl 1 0 x16.length 1 false)) (xW rfl rfl rfl (aZC (l:=bY) rfl aNH lA rfl rfl rfl h_1)) ?_
 refine zz ?_
 refine⟨_,_,Ghost.cutM (t:=16) (E:=(eL 1 (eI .u8))) (l:=bY) (h':=[some ⟨278,aL (eI .u8) b6.Message [eI .i64 b6.Height,eI .i64 b6.Age,.sl 1 0 bY.length 1 false,.sl 2 0 bB.length 2 true,eI .i64 cY]⟩,some ⟨22,x16.map (eL 1 (eI .u8))⟩,some ⟨294,bB.flatMap cE⟩]) rfl rfl h_1 rfl, ?_⟩
 exact zE
instance :CtC 260 false (aX @zU):=⟨@zU⟩
theorem aAg {N b6 bY bB cY mS r} (hr:aCv N b6 bY bB cY mS=some r):
  Fp 269 [some ⟨278,aL (eI .u8) b6.Message [eI .i64 b6.Height,eI .i64 b6.Age,.sl 1 0 bY.length 1 false,.sl 2 0 bB.length 2 true,eI .i64 cY]⟩,some ⟨22,bY.map (eL 1 (eI .u8))⟩,some ⟨294,bB.flatMap cE⟩] [.ptr 0 0,.row none 1 (mS.map (eI .u8))] (eI .i64 r.1) [some ⟨278,aL (eI .u8) b6.Message [eI .i64 b6.Height,eI .i64 b6.Age,.sl 3 0 r.2.length 1 false,.sl 2 0 bB.length 2 true,eI .i64 cY]⟩,none,some ⟨294,bB.flatMap cE⟩,some ⟨22,r.2.map (eL 1 (eI .u8))⟩]:=
 fR func269 ntmps269 results269
instance :CtC 269 false (aX @aAg):=⟨@aAg⟩
theorem aCz {N va b r} (hr:aDC N va b=some r):
  Fp 150 [] [.row none 1 (va.map (eI .u8)),.row none 1 (b.map (eI .u8))] (eB r) []:=by
 refine bR func150 ntmps150 results150 fun hR=> ?_
 refine zz ?_
 refine xw (v:=(eS (iG va))) (aFN rfl (aK4 lA ti9 oS (aHs (fun _=>rfl)))) ?_
 refine zz ?_
 refine xw (v:=(eS (iG b))) (aFN rfl (aK4 lA ti9 oS (aHs (fun _=>rfl))))<|xw (jB rfl rfl (aQC ..)) ?_
 exact zE
instance :CtC 150 true (aX @aCz):=⟨@aCz⟩
theorem aHG {N vn r} (hr:aHg N vn=some r):
  Fp 272 [] [eI .u32 vn] (.sl 0 0 r.length 1 false) [some ⟨5,r.map (eI .u8)⟩]:=by
 refine bR func272 ntmps272 results272 fun hR=> ?_
 refine zz ?_
 refine bV (aHX N) (fun l0=>[(3,.sl 0 0 l0.length 1 false)]) (fun l0=>[some ⟨5,l0.map (eI .u8)⟩]) ?_
 obtain⟨cM,hL2,hr⟩:=aN hr
 exact a0F<|dB hL2 (fun vn_1 aK=>[(0,eI .u32 vn_1),(3,.sl 0 0 aK.length 1 false)]) (fun vn_1 aK=>[some ⟨5,aK.map (eI .u8)⟩]) (h0:=(zW 5 [0]))
instance :CtC 272 false (aX @aHG):=⟨@aHG⟩
theorem aDe {N v r} (hr:aHy N v=some r):
  Fp 271 [] [eB v] (.sl 0 0 r.length 1 false) [some ⟨5,r.map (eI .u8)⟩]:=
 fR func271 ntmps271 results271
instance :CtC 271 false (aX @aDe):=⟨@aDe⟩
theorem nC {N b6 bY bB cY vn mS r} (hr:rE N b6 bY bB cY vn mS=some r):
  Fp 270 [some ⟨278,aL (eI .u8) b6.Message [eI .i64 b6.Height,eI .i64 b6.Age,.sl 1 0 bY.length 1 false,.sl 2 0 bB.length 2 true,eI .i64 cY]⟩,some ⟨22,bY.map (eL 1 (eI .u8))⟩,some ⟨294,bB.flatMap cE⟩] [.ptr 0 0,eI .i64 vn,.row none 1 (mS.map (eI .u8))] (.tup []) [some ⟨278,aL (eI .u8) b6.Message [eI .i64 b6.Height,eI .i64 b6.Age,.sl 3 0 r.length 1 false,.sl 2 0 bB.length 2 true,eI .i64 cY]⟩,none,some ⟨294,bB.flatMap cE⟩,some ⟨22,r.map (eL 1 (eI .u8))⟩]:=
 fR func270 ntmps270 results270
instance :CtC 270 false (aX @nC):=⟨@nC⟩
theorem y6 {N b6 bY bB cY op r} (hr:nD N b6 bY bB cY op=some r):
  Fp 261 [some ⟨278,aL (eI .u8) b6.Message [eI .i64 b6.Height,eI .i64 b6.Age,.sl 1 0 bY.length 1 false,.sl 2 0 bB.length 2 true,eI .i64 cY]⟩,some ⟨22,bY.map (eL 1 (eI .u8))⟩,some ⟨294,bB.flatMap cE⟩] [.ptr 0 0,kA op] (eI .i64 r.1) [some ⟨278,aL (eI .u8) b6.Message [eI .i64 b6.Height,eI .i64 b6.Age,.sl 3 0 r.2.length 1 false,.sl 2 0 bB.length 2 true,eI .i64 cY]⟩,none,some ⟨294,bB.flatMap cE⟩,some ⟨22,r.2.map (eL 1 (eI .u8))⟩]:=by
 refine bR func261 ntmps261 results261 fun hR=> ?_
 refine zz ?_
 refine a0G<|zz ?_
 refine a0F ?_
 refine zz ?_
 refine zk hr ?_ ?_<;>intro h1 hr
 ·exact zE
 refine zz ?_
 obtain⟨h3,hr⟩:=cutF hr
 refine a0L rfl h3 ?_
 refine zz ?_
 obtain⟨h4,hr⟩:=cutF hr
 refine a0L rfl h4 ?_
 refine zz ?_
 obtain⟨h5,hr⟩:=cutF hr
 refine a0L rfl h5 ?_
 refine zz ?_
 obtain⟨h6,hr⟩:=aJ8 hr
 refine AB.cndT rfl h6 ?_
 obtain⟨x66,h_7,x77,h_9,x79,h_10,x80,h_12,x81,h_14,hr⟩:=aIJ hr
 refine a0N mixed [150] [259,271] [[0,1,2,3,4,5,6,7,8,9,10,11,12,13,14,15,16],[17]]<|zz ?_
 refine zg (sN h_7) [0,1,2] ?_
 refine zz ?_
 refine xu (aCz h_10)<|zg (aDe h_12) [] ?_
 refine zz ?_
 refine⟨_,_,zv 4, ?_⟩
 refine zg (nC h_14) [0,1,2] ?_
 refine zz ?_
 replace hr:=sj hr
 subst hr
 exact zd1 Tryz.results261 [0,1,2,5]
instance :CtC 261 false (aX @y6):=⟨@y6⟩
theorem q8 {N b6 bY bB cY op r} (hr:pM N b6 bY bB cY op=some r):
  Fp 244 [some ⟨278,aL (eI .u8) b6.Message [eI .i64 b6.Height,eI .i64 b6.Age,.sl 1 0 bY.length 1 false,.sl 2 0 bB.length 2 true,eI .i64 cY]⟩,some ⟨22,bY.map (eL 1 (eI .u8))⟩,some ⟨294,bB.flatMap cE⟩] [.ptr 0 0,kA op] (eI .i64 r.1) [some ⟨278,aL (eI .u8) b6.Message [eI .i64 b6.Height,eI .i64 b6.Age,.sl 3 0 r.2.1.length 1 false,.sl 2 0 bB.length 2 true,eI .i64 r.2.2]⟩,none,some ⟨294,bB.flatMap cE⟩,some ⟨22,r.2.1.map (eL 1 (eI .u8))⟩]:=
 fR func244 ntmps244 results244
instance :CtC 244 false (aX @q8):=⟨@q8⟩
theorem aJL {N b stack ve r} (hr:aCc N b stack ve=some r):
  Fp 217 [] [.row none 1 (b.map (eI .u8)),.row none 1 (stack.map (eL 1 (eI .u8))),aDW ve] (.tup [.sl 0 0 r.1.length 1 false,eI .i64 r.2.1,eI .i64 r.2.2]) [some ⟨22,r.1.map (eL 1 (eI .u8))⟩]:=by
 refine bR func217 ntmps217 results217 fun hR=> ?_
 obtain⟨x17,h_1,hr⟩:=aN hr
 refine zz ?_
 refine zc (aB5 h_1) [] ?_
 refine zz ?_
 refine a0G<|zz ?_
 obtain⟨h2,hr⟩:=cutF hr
 refine a0L rfl h2 ?_
 refine zz ?_
 obtain⟨x24,h_3,hr⟩:=aN hr
 refine a0G<|zz ?_
 refine kX (aAI h_3) [] [1] ?_
 refine zz ?_
 obtain⟨h4,hr⟩:=cutF hr
 refine a0L rfl h4 ?_
 refine zz ?_
 obtain⟨x27,h_5,hr⟩:=aN hr
 refine a0G<|zz ?_
 refine xp (zI h_5) ?_
 refine zz ?_
 obtain⟨h6,hr⟩:=cutF hr
 refine a0L rfl h6 ?_
 refine zz ?_
 refine a0G ?_
 obtain⟨x31,h_7,hr⟩:=aN hr
 refine AB.rd (cD []) (cD [243]) mixed<|a0K (m:=4) [0,1] ?_
 refine zz ?_
 refine DrawG.jn (m:=1) (L:=lst [0,1,2,3,4] 6) (s1:=aG 50 [(9,.sl 0 0 x17.1.length 4 true),(11,.ptr 1 0),(32,.agg (aL (eI .u8) ve.Message [eI .i64 ve.Height,eI .i64 ve.Age,.sl 2 0 x31.length 1 false,.row (some true) 1 [],eI .i64 0]))]) (h1:=[some ⟨263,x17.1.flatMap eT⟩,some ⟨278,aL (eI .u8) (a0H 32 0) [eI .i64 0,eI .i64 0,.row (some true) 1 [],.row (some true) 1 [],eI .i64 0]⟩,some ⟨22,x31.map (eL 1 (eI .u8))⟩]) ?_ (fun J=> ?_)
 ·refine a0K (m:=0) [5]<|zz ?_
  refine DrawG.nil (by decide +kernel) ?_
  refine zz ?_
  refine sk2 (aJn N ve) (fun c0 l1=>[(11,.ptr 0 0)]) (fun c0 l1=>[some ⟨278,aL (eI .u8) ve.Message [eI .i64 ve.Height,eI .i64 ve.Age,.sl 1 0 l1.length 1 false,.sl 2 0 (([]:List dE).length) 2 true,eI .i64 c0]⟩,some ⟨22,l1.map (eL 1 (eI .u8))⟩,some ⟨294,([]:List dE).flatMap cE⟩]) ?_ (body:= ?_)
  rotate_left
  ·clear hr
   intro c0 l1 hr
   refine a0G<|a0P (zQ [1,0,1]) ?_
   exact zE
  obtain⟨cM,hL2,hr⟩:=aN hr
  refine zz ?_
  refine a0F<|lp3 hL2 (fun x35 c0_1 l2=>[(11,.ptr 0 0),(33,.sl 1 0 x17.1.length 4 true),(34,eI .i64 (x17.1.length:Int)),(35,eI .i64 x35)]) (fun x35 c0_1 l2=>[some ⟨278,aL (eI .u8) ve.Message [eI .i64 ve.Height,eI .i64 ve.Age,.sl 2 0 l2.length 1 false,.sl 3 0 (([]:List dE).length) 2 true,eI .i64 c0_1]⟩,some ⟨263,x17.1.flatMap eT⟩,some ⟨22,l2.map (eL 1 (eI .u8))⟩,some ⟨294,([]:List dE).flatMap cE⟩]) (h0:=(a0I (a0O (fr':=[(11,.ptr 1 0),(33,.sl 0 0 x17.1.length 4 true),(34,eI .i64 (x17.1.length:Int)),(35,eI .i64 0)]) (h1:=[some ⟨263,x17.1.flatMap eT⟩,some ⟨278,aL (eI .u8) ve.Message [eI .i64 ve.Height,eI .i64 ve.Age,.sl 2 0 x31.length 1 false,.sl 3 0 0 2 true,eI .i64 0]⟩,some ⟨22,x31.map (eL 1 (eI .u8))⟩]) 294 (FLe.same rfl (FLe.same rfl (FLe.same rfl (FLe.same rfl FLe.nil)))) (HLv.live (V.les_refl _ _) (tI (fun _=>rfl) _) (HLv.live (aIn (V.les_cons (V.le_refl _ _) (V.les_cons (V.le_refl _ _) (V.les_cons (V.le_refl _ _) (V.les_cons (V.le_virt rfl) (V.les_cons (V.le_refl _ _) V.les_nil)))))) rfl (HLv.live (V.les_refl _ _) (all_map (fun _=>rfl) _) HLv.nil)))) (zg' [1,0,2,3]))) (round:= ?_)
  intro m2 x35 c0_1 l2 hr
  refine zz ?_
  refine a0G ?_
  refine zk hr ?_ ?_<;>clear hr<;>intro h11 hr<;>refine zz ?_
  ·refine a0G<|a0F ?_
   replace hr:=aN hr
   obtain⟨x37,h_12,hr⟩:=hr
   refine zz ?_
   refine xw (v:=(kA x37)) (cP rfl (vF (C:=eT) (K:=4) (fun _=>rfl) rfl h_12 (nJ (ds:=[eI .i64 x37.Code,.row none 1 (x37.Data.map (eI .u8)),eI .i64 x37.M,eI .i64 x37.N]) aGw rfl zl rfl))) ?_
   replace hr:=aN hr
   obtain⟨x40,h_13,hr⟩:=hr
   refine zz ?_
   refine zc (q8 h_13) [0,2,3] ?_
   refine zz ?_
   refine zk hr ?_ ?_<;>clear hr<;>intro h14 hr<;>refine zz ?_
   ·replace hr:=sj hr
    subst hr
    replace hr:=sj hr
    subst hr
    exact zr3 Tryz.results217 dO dO dO (zW 22 [6])
   exact zE
  exact zE
 refine DrawG.fk (n:=3) [2,4] ⟨?_, ?_,trivial⟩
 ·refine zg (tT h_7) [] ?_
  refine zz ?_
  refine a0K (m:=1) [3,4]<|xw (v:=(.agg (aL (eI .u8) ve.Message [eI .i64 ve.Height,eI .i64 ve.Age,.sl 2 0 x31.length 1 false,.row (some true) 1 [],eI .i64 0]))) (cI rfl (iM aEY aPt rfl)) ?_
  refine zz ?_
  refine a0Q J ?_
  exact(zG [1,3,2])
 refine zz ?_
 refine a0K (m:=1) [2,3]<|zg (tT h_7) [] ?_
 refine xw (v:=(.agg (aL (eI .u8) ve.Message [eI .i64 ve.Height,eI .i64 ve.Age,.sl 3 0 x31.length 1 false,.row (some true) 1 [],eI .i64 0]))) (cI rfl (iM aEY aPt rfl)) ?_
 refine zz ?_
 refine a0Q J ?_
 exact(zG [1,2,3])
instance :CtC 217 false (aX @aJL):=⟨@aJL⟩
theorem u9 {N b bD ve r} (hr:lD N b bD ve=some r):
  Fp 174 [] [.row none 1 (b.map (eI .u8)),.row none 1 (bD.map (eL 1 (eI .u8))),aDW ve] (eI .i64 r) []:=
 fR func174 ntmps174 results174
instance :CtC 174 true (aX @u9):=⟨@u9⟩
theorem aH0 {N t vi c height r} (hr:aDr N t vi c height=some r):
  Fp 128 [] [aY t,eI .i64 vi,aM c,eI .i64 height] (eI .i64 r) []:=by
 refine bR func128 ntmps128 results128 fun hR=> ?_
 obtain⟨x17,h_1,q,h_2,hr⟩:=b8 hr
 refine zz ?_
 refine xp (aAK h_1) ?_
 refine zz ?_
 refine a0G<|a0F ?_
 refine zz ?_
 refine zk hr ?_ ?_<;>intro h3 hr
 ·exact zE
 refine a0G ?_
 obtain⟨x28,h_4,hr⟩:=aN hr
 refine a0N mixed [] [] [[0,1,2,3,4,5,6,7,8,9]]<|zz ?_
 refine xw (v:=(eB (!(jS x28.Prev.Tx c.Out.Tx ((x28.Prev.Index == c.Out.Index)&&true))))) (jB rfl rfl (aIU (d:=9) lU rfl aFp zl aIN rfl rfl rfl rfl rfl)) ?_
 refine zz ?_
 refine zk hr ?_ ?_<;>intro h5 hr
 ·exact zE
 refine bV (nZ N t vi c height x17) (fun x34=>[(1,eI .i64 vi),(3,eI .i64 height),(4,.ptr 0 0),(6,.ptr 1 0),(9,.ptr 2 0),(34,eB x34)]) (fun x34=>[some ⟨91,aR t⟩,some ⟨80,aH c⟩,some ⟨26,x17.1.map (eI .u8)⟩]) ?_ (body:= ?_)
 rotate_left
 ·clear hr
  intro x34 hr
  refine zk hr ?_ ?_<;>intro h6 hr<;>refine zz ?_
  ·exact zE
  refine xw (v:=(.agg (aL (eI .u8) x17.1 [eI .i64 height,eI .i64 (a0J.wrap (height-c.Height))]))) (cI rfl (aI6 (ps':=[(0,.agg (aL (eI .u8) x17.1 [])),(1,eI .i64 height),(2,eI .i64 (a0J.wrap (height-c.Height)))]) (by simp only[dG (l:=x17.1) (aT h_2)]<;>rfl) (iM aEP aPl (by kernel_rfl)))) ?_
  refine zz ?_
  refine a0G ?_
  obtain⟨x61,h_7,x65,h_8,hr⟩:=b8 hr
  refine a0N mixed [174] [] [[0,1,2,3,4,5,6,7,8,9,10,11]]<|zz ?_
  refine xu (u9 h_8) ?_
  refine zz ?_
  replace hr:=sj hr
  subst hr
  exact zd1 Tryz.results128 []
 exact zE
instance :CtC 128 true (aX @aH0):=⟨@aH0⟩
theorem aCV {N t l height r} (hr:aDw N t l height=some r):
  Fp 79 [] [aY t,.row none 37 (l.map aM),eI .i64 height] (.tup [eI .i64 r.1,eI .i64 r.2]) []:=by
 refine bR func79 ntmps79 results79 fun hR=> ?_
 refine zz ?_
 obtain⟨x14,h_1,hr⟩:=aN hr
 refine a0G<|zz ?_
 refine xp (xO h_1) ?_
 refine zz ?_
 refine zk hr ?_ ?_<;>intro h2 hr
 ·exact zE
 obtain⟨x18,h_3,hr⟩:=aN hr
 refine zz ?_
 refine xp (aFy h_3) ?_
 refine zz ?_
 refine a0G<|zz ?_
 refine zk hr ?_ ?_<;>intro h4 hr<;>refine zz ?_
 ·exact zE
 obtain⟨x26,h_5,hr⟩:=aN hr
 refine a0G<|zz ?_
 refine xp (aHd h_5) ?_
 refine zz ?_
 refine zk hr ?_ ?_<;>intro h6 hr<;>refine zz ?_
 ·exact zE
 refine fT (aHO N x18) [(8,eI .i64 x18.1)] [] ?_
 obtain⟨cM,hL2,hr⟩:=aN hr
 refine zz ?_
 exact a0F<|gQ hL2 (fun x30=>[(2,eI .i64 height),(3,.ptr 0 0),(8,eI .i64 x18.1),(28,.row none 37 (l.map aM)),(29,eI .i64 (l.length:Int)),(30,eI .i64 x30)]) (fun x30=>[some ⟨91,aR t⟩])
instance :CtC 79 true (aX @aCV):=⟨@aCV⟩
theorem oC {N c r} (hr:jD N c=some r):
  Vm.Fn Tryz.prog 55 [] [aM c] (aM r) []:=by
 refine zf Tryz.func55 Tryz.ntmps55 ?_
 unfold jD at hr
 obtain⟨x6,h_1,hr⟩:=aN hr
 refine zz ?_
 refine xp (aFa h_1) ?_
 refine zz ?_
 obtain rfl:=sj hr
 exact zr1 Tryz.results55 dO (zG [])
instance :CtC 55 true (aX @oC):=⟨@oC⟩
theorem u7 {N aB bG bT bF bX t r} (hr:tJ N aB bG bT bF bX t=some r):
  Fp 39 [some ⟨102,(eI .u32 aB.Genesis.Version)::(aL (eI .u8) aB.Genesis.Prev (aL (eI .u8) aB.Genesis.Root ((eI .u32 aB.Genesis.Time)::((eI .u32 aB.Genesis.Bits)::((eI .u32 aB.Genesis.Nonce)::(dU (eI .u64) aB.Limit [eI .i64 aB.Window,eI .u32 aB.Spacing,eI .u32 aB.Future,eI .u32 aB.Version,.row none 33 (aB.Checkpoints.map aW),eI .i64 aB.Subsidy,eI .i64 aB.Halving,eI .i64 aB.Maturity,eI .i64 bG,.mp 1,.sl 2 0 bF.length 37 true,eI .i64 bX]))))))⟩,some ⟨33037,bT.flatMap fD⟩,some ⟨80,bF.flatMap aH⟩] [.ptr 0 0,aY t] (eI .i64 r.1) [some ⟨102,(eI .u32 aB.Genesis.Version)::(aL (eI .u8) aB.Genesis.Prev (aL (eI .u8) aB.Genesis.Root ((eI .u32 aB.Genesis.Time)::((eI .u32 aB.Genesis.Bits)::((eI .u32 aB.Genesis.Nonce)::(dU (eI .u64) aB.Limit [eI .i64 aB.Window,eI .u32 aB.Spacing,eI .u32 aB.Future,eI .u32 aB.Version,.row none 33 (aB.Checkpoints.map aW),eI .i64 aB.Subsidy,eI .i64 aB.Halving,eI .i64 aB.Maturity,eI .i64 bG,.mp 1,.sl 3 0 r.2.2.1.length 37 true,eI .i64 r.2.2.2]))))))⟩,some ⟨33037,r.2.1.flatMap fD⟩,none,some ⟨80,r.2.2.1.flatMap aH⟩]:=by
 refine bR func39 ntmps39 results39 fun hR=> ?_
 refine zz ?_
 refine bV (u6 N aB bG bT bF bX t) (fun l4=>[(0,.ptr 0 0),(3,.ptr 3 0),(5,.sl 4 0 l4.length 37 true)]) (fun l4=>[some ⟨102,(eI .u32 aB.Genesis.Version)::(aL (eI .u8) aB.Genesis.Prev (aL (eI .u8) aB.Genesis.Root ((eI .u32 aB.Genesis.Time)::((eI .u32 aB.Genesis.Bits)::((eI .u32 aB.Genesis.Nonce)::(dU (eI .u64) aB.Limit [eI .i64 aB.Window,eI .u32 aB.Spacing,eI .u32 aB.Future,eI .u32 aB.Version,.row none 33 (aB.Checkpoints.map aW),eI .i64 aB.Subsidy,eI .i64 aB.Halving,eI .i64 aB.Maturity,eI .i64 bG,.mp 1,.sl 2 0 bF.length 37 true,eI .i64 bX]))))))⟩,some ⟨33037,bT.flatMap fD⟩,some ⟨80,bF.flatMap aH⟩,some ⟨91,aR t⟩,some ⟨80,l4.flatMap aH⟩]) ?_ (body:= ?_)
 rotate_left
 ·clear hr
  intro l4 hr
  refine fT (uZ N aB bG bT bF bX t l4) [(0,.ptr 0 0),(3,.ptr 3 0),(5,.sl 4 0 l4.length 37 true)] [some ⟨102,(eI .u32 aB.Genesis.Version)::(aL (eI .u8) aB.Genesis.Prev (aL (eI .u8) aB.Genesis.Root ((eI .u32 aB.Genesis.Time)::((eI .u32 aB.Genesis.Bits)::((eI .u32 aB.Genesis.Nonce)::(dU (eI .u64) aB.Limit [eI .i64 aB.Window,eI .u32 aB.Spacing,eI .u32 aB.Future,eI .u32 aB.Version,.row none 33 (aB.Checkpoints.map aW),eI .i64 aB.Subsidy,eI .i64 aB.Halving,eI .i64 aB.Maturity,eI .i64 bG,.mp 1,.sl 2 0 bF.length 37 true,eI .i64 bX]))))))⟩,some ⟨33037,bT.flatMap fD⟩,some ⟨80,bF.flatMap aH⟩,some ⟨91,aR t⟩,some ⟨80,l4.flatMap aH⟩] ?_ (body:= ?_)
  rotate_left
  ·clear hr
   intro hr
   refine a0G ?_
   obtain⟨x71,h_1,hr⟩:=aN hr
   refine a0N mixed [] [79] [[0,1,2,3,4,5,6,7,8,9,10,11]]<|zz ?_
   refine y7 (aCV h_1) [] [4] ?_
   refine zz ?_
   refine a0G<|zz ?_
   refine zk hr ?_ ?_<;>intro h3 hr<;>refine zz ?_
   ·exact zE
   refine sk2 (vA N aB bG bX x71) (fun l1 l3=>[]) (fun l1 l3=>[some ⟨102,(eI .u32 aB.Genesis.Version)::(aL (eI .u8) aB.Genesis.Prev (aL (eI .u8) aB.Genesis.Root ((eI .u32 aB.Genesis.Time)::((eI .u32 aB.Genesis.Bits)::((eI .u32 aB.Genesis.Nonce)::(dU (eI .u64) aB.Limit [eI .i64 aB.Window,eI .u32 aB.Spacing,eI .u32 aB.Future,eI .u32 aB.Version,.row none 33 (aB.Checkpoints.map aW),eI .i64 aB.Subsidy,eI .i64 aB.Halving,eI .i64 aB.Maturity,eI .i64 bG,.mp 1,.sl 3 0 l3.length 37 true,eI .i64 (a0J.wrap (bX+x71.1))]))))))⟩,some ⟨33037,l1.flatMap fD⟩,none,some ⟨80,l3.flatMap aH⟩]) ?_
   obtain⟨res4,hL4,hr⟩:=aN hr
   refine zz ?_
   refine a0F<|lp3 hL4 (fun x87 bH dQ=>[(0,.ptr 0 0),(85,.sl 3 0 l4.length 37 true),(86,eI .i64 (l4.length:Int)),(87,eI .i64 x87)]) (fun x87 bH dQ=>[some ⟨102,(eI .u32 aB.Genesis.Version)::(aL (eI .u8) aB.Genesis.Prev (aL (eI .u8) aB.Genesis.Root ((eI .u32 aB.Genesis.Time)::((eI .u32 aB.Genesis.Bits)::((eI .u32 aB.Genesis.Nonce)::(dU (eI .u64) aB.Limit [eI .i64 aB.Window,eI .u32 aB.Spacing,eI .u32 aB.Future,eI .u32 aB.Version,.row none 33 (aB.Checkpoints.map aW),eI .i64 aB.Subsidy,eI .i64 aB.Halving,eI .i64 aB.Maturity,eI .i64 bG,.mp 1,.sl 4 0 dQ.length 37 true,eI .i64 (a0J.wrap (bX+x71.1))]))))))⟩,some ⟨33037,bH.flatMap fD⟩,none,some ⟨80,l4.flatMap aH⟩,some ⟨80,dQ.flatMap aH⟩]) (round:= ?_)
   intro m4 x87 bH dQ hr
   refine zz ?_
   refine a0G ?_
   refine zk hr ?_ ?_<;>clear hr<;>intro h4 hr<;>refine zz ?_
   ·refine a0G<|a0F ?_
    replace hr:=aN hr
    obtain⟨x89,h_5,hr⟩:=hr
    refine zz ?_
    refine xw (v:=(aM x89)) (cP rfl (vF (C:=aH) (K:=37) (fun _=>rfl) rfl h_5 (nJ (ds:=(aL (eI .u8) x89.Out.Tx [eI .u32 x89.Out.Index,eI .i64 x89.Output.Value,.row none 1 (x89.Output.Script.map (eI .u8)),eI .i64 x89.Height,eB x89.Coinbase])) rC rfl zl rfl))) ?_
    refine zz ?_
    refine a0G<|a0N mixed [] [] [[0,1,2,3,4,5,6]]<|zz ?_
    refine xdl x89.Out ?_
    replace hr:=b8 hr
    obtain⟨aVa,h_6,aSz,h_8,hr⟩:=hr
    refine zz ?_
    refine a0N mixed [55] [] [[0,1,2,3,4,5,6,7,8,9,10,11]]<|zz ?_
    refine xu (oC h_6)<|mC aH 37 [aVa] ?_
    exact zE
   exact zE
  obtain⟨res5,hL5,hr⟩:=aN hr
  refine zz ?_
  refine a0F<|gQ hL5 (fun x42=>[(0,.ptr 0 0),(3,.ptr 3 0),(5,.sl 4 0 l4.length 37 true),(40,.sl 4 0 l4.length 37 true),(41,eI .i64 (l4.length:Int)),(42,eI .i64 x42)]) (fun x42=>[some ⟨102,(eI .u32 aB.Genesis.Version)::(aL (eI .u8) aB.Genesis.Prev (aL (eI .u8) aB.Genesis.Root ((eI .u32 aB.Genesis.Time)::((eI .u32 aB.Genesis.Bits)::((eI .u32 aB.Genesis.Nonce)::(dU (eI .u64) aB.Limit [eI .i64 aB.Window,eI .u32 aB.Spacing,eI .u32 aB.Future,eI .u32 aB.Version,.row none 33 (aB.Checkpoints.map aW),eI .i64 aB.Subsidy,eI .i64 aB.Halving,eI .i64 aB.Maturity,eI .i64 bG,.mp 1,.sl 2 0 bF.length 37 true,eI .i64 bX]))))))⟩,some ⟨33037,bT.flatMap fD⟩,some ⟨80,bF.flatMap aH⟩,some ⟨91,aR t⟩,some ⟨80,l4.flatMap aH⟩]) (round:= ?_)
  intro m5 x42 hr
  refine zz ?_
  refine a0G ?_
  refine zk hr ?_ ?_<;>clear hr<;>intro h9 hr<;>refine zz ?_
  ·refine a0G<|a0F ?_
   replace hr:=aN hr
   obtain⟨x44,h_10,hr⟩:=hr
   refine zz ?_
   refine xw (v:=(aM x44)) (cP rfl (vF (C:=aH) (K:=37) (fun _=>rfl) rfl h_10 (nJ (ds:=(aL (eI .u8) x44.Out.Tx [eI .u32 x44.Out.Index,eI .i64 x44.Output.Value,.row none 1 (x44.Output.Script.map (eI .u8)),eI .i64 x44.Height,eB x44.Coinbase])) rC rfl zl rfl))) ?_
   refine zz ?_
   refine bV (pP N aB bG bT bF bX t l4 x42 (e8 N aB bG bT bF bX t l4 m5)) (fun x62=>[(0,.ptr 0 0),(3,.ptr 3 0),(5,.sl 4 0 l4.length 37 true),(40,.sl 4 0 l4.length 37 true),(41,eI .i64 (l4.length:Int)),(42,eI .i64 x42),(62,eB x62)]) (fun x62=>[some ⟨102,(eI .u32 aB.Genesis.Version)::(aL (eI .u8) aB.Genesis.Prev (aL (eI .u8) aB.Genesis.Root ((eI .u32 aB.Genesis.Time)::((eI .u32 aB.Genesis.Bits)::((eI .u32 aB.Genesis.Nonce)::(dU (eI .u64) aB.Limit [eI .i64 aB.Window,eI .u32 aB.Spacing,eI .u32 aB.Future,eI .u32 aB.Version,.row none 33 (aB.Checkpoints.map aW),eI .i64 aB.Subsidy,eI .i64 aB.Halving,eI .i64 aB.Maturity,eI .i64 bG,.mp 1,.sl 2 0 bF.length 37 true,eI .i64 bX]))))))⟩,some ⟨33037,bT.flatMap fD⟩,some ⟨80,bF.flatMap aH⟩,some ⟨91,aR t⟩,some ⟨80,l4.flatMap aH⟩]) ?_
   exact zE
  exact zE
 obtain⟨res7,hL7,hr⟩:=aN hr
 refine zz ?_
 refine a0F<|dB hL7 (fun x19 rB=>[(0,.ptr 0 0),(3,.ptr 3 0),(5,.sl 4 0 rB.length 37 true),(17,.row none 35 (t.Inputs.map bU)),(18,eI .i64 (t.Inputs.length:Int)),(19,eI .i64 x19)]) (fun x19 rB=>[some ⟨102,(eI .u32 aB.Genesis.Version)::(aL (eI .u8) aB.Genesis.Prev (aL (eI .u8) aB.Genesis.Root ((eI .u32 aB.Genesis.Time)::((eI .u32 aB.Genesis.Bits)::((eI .u32 aB.Genesis.Nonce)::(dU (eI .u64) aB.Limit [eI .i64 aB.Window,eI .u32 aB.Spacing,eI .u32 aB.Future,eI .u32 aB.Version,.row none 33 (aB.Checkpoints.map aW),eI .i64 aB.Subsidy,eI .i64 aB.Halving,eI .i64 aB.Maturity,eI .i64 bG,.mp 1,.sl 2 0 bF.length 37 true,eI .i64 bX]))))))⟩,some ⟨33037,bT.flatMap fD⟩,some ⟨80,bF.flatMap aH⟩,some ⟨91,aR t⟩,some ⟨80,rB.flatMap aH⟩]) (h0:=(zW 80 [0,1,2,3,4])) (round:= ?_)
 intro m7 x19 rB hr
 refine zz ?_
 refine a0G ?_
 refine zk hr ?_ ?_<;>clear hr<;>intro h13 hr<;>refine zz ?_
 ·refine a0G<|a0F ?_
  replace hr:=aN hr
  obtain⟨x21,h_14,hr⟩:=hr
  refine zz ?_
  refine a0G<|a0N mixed [] [] [[0,1,2,3,4,5,6,7,8,9,10,11,12]]<|zz ?_
  refine xlo x21.Prev ?_
  refine zz ?_
  refine a0G<|zz ?_
  refine zk hr ?_ ?_<;>clear hr<;>intro h15 hr
  ·exact zE
  replace hr:=aN hr
  obtain⟨x38,h_16,hr⟩:=hr
  refine zz ?_
  refine mC aH 37 [oP iF bT x21.Prev (aA.mk (aC.mk (a0H 32 0) 0) (aQ.mk 0 []) 0 false)] ?_
  exact zE
 exact zE
instance :CtC 39 false (aX @u7):=⟨@u7⟩
theorem y9 {N t height jH r} (hr:yO N t height jH=some r):
  Fp 60 [] [aY t,eI .i64 height,eB jH] (.sl 0 0 r.length 37 true) [some ⟨80,r.flatMap aH⟩]:=by
 refine bR func60 ntmps60 results60 fun hR=> ?_
 obtain⟨x13,h_1,q,h_2,hr⟩:=b8 hr
 refine zz ?_
 refine xp (aIj h_1) ?_
 refine zz ?_
 refine bV (zA N) (fun l0=>[(7,.sl 0 0 l0.length 37 true)]) (fun l0=>[some ⟨80,l0.flatMap aH⟩]) ?_
 obtain⟨cM,hL2,hr⟩:=aN hr
 refine zz ?_
 refine a0F<|dB hL2 (fun x17 aK=>[(1,eI .i64 height),(2,eB jH),(7,.sl 0 0 aK.length 37 true),(8,.ptr 1 0),(15,.row none 2 (t.Outputs.map cH)),(16,eI .i64 (t.Outputs.length:Int)),(17,eI .i64 x17)]) (fun x17 aK=>[some ⟨80,aK.flatMap aH⟩,some ⟨26,x13.map (eI .u8)⟩]) (h0:=(zW 80 [2,1])) (round:= ?_)
 intro m2 x17 aK hr
 refine zz ?_
 refine a0G ?_
 refine zk hr ?_ ?_<;>clear hr<;>intro h3 hr<;>refine zz ?_
 ·refine a0G<|a0F ?_
  replace hr:=aN hr
  obtain⟨x20,h_4,hr⟩:=hr
  refine zz ?_
  refine xw (v:=(.agg (aL (eI .u8) x13 [eI .u32 (a0M.wrap x17)]))) (cI rfl (aI6 (ps':=[(0,.agg (aL (eI .u8) x13 [])),(1,eI .u32 (a0M.wrap x17))]) (by simp only[dG (l:=x13) (aT h_2)]<;>rfl) (iM lU aIY (by kernel_rfl)))) ?_
  replace hr:=aN hr
  obtain⟨x33,h_5,hr⟩:=hr
  refine zz ?_
  refine xw (v:=(.agg (aL (eI .u8) x13 [eI .u32 (a0M.wrap x17),eI .i64 x20.Value,.row none 1 (x20.Script.map (eI .u8)),eI .i64 height,eB jH]))) (cI rfl (iM rC aQU rfl))<|mC aH 37 [aA.mk (aC.mk x13 (a0M.wrap x17)) x20 height jH] ?_
  exact zE
 exact zE
instance :CtC 60 false (aX @y9):=⟨@y9⟩
theorem u5 {N aB bG bT bF bX t jH r} (hr:t6 N aB bG bT bF bX t jH=some r):
  Fp 40 [some ⟨102,(eI .u32 aB.Genesis.Version)::(aL (eI .u8) aB.Genesis.Prev (aL (eI .u8) aB.Genesis.Root ((eI .u32 aB.Genesis.Time)::((eI .u32 aB.Genesis.Bits)::((eI .u32 aB.Genesis.Nonce)::(dU (eI .u64) aB.Limit [eI .i64 aB.Window,eI .u32 aB.Spacing,eI .u32 aB.Future,eI .u32 aB.Version,.row none 33 (aB.Checkpoints.map aW),eI .i64 aB.Subsidy,eI .i64 aB.Halving,eI .i64 aB.Maturity,eI .i64 bG,.mp 1,.sl 2 0 bF.length 37 true,eI .i64 bX]))))))⟩,some ⟨33037,bT.flatMap fD⟩,some ⟨80,bF.flatMap aH⟩] [.ptr 0 0,aY t,eB jH] (eI .i64 r.1) [some ⟨102,(eI .u32 aB.Genesis.Version)::(aL (eI .u8) aB.Genesis.Prev (aL (eI .u8) aB.Genesis.Root ((eI .u32 aB.Genesis.Time)::((eI .u32 aB.Genesis.Bits)::((eI .u32 aB.Genesis.Nonce)::(dU (eI .u64) aB.Limit [eI .i64 aB.Window,eI .u32 aB.Spacing,eI .u32 aB.Future,eI .u32 aB.Version,.row none 33 (aB.Checkpoints.map aW),eI .i64 aB.Subsidy,eI .i64 aB.Halving,eI .i64 aB.Maturity,eI .i64 bG,.mp 1,.sl 2 0 bF.length 37 true,eI .i64 bX]))))))⟩,some ⟨33037,r.2.flatMap fD⟩,some ⟨80,bF.flatMap aH⟩]:=by
 refine bR func40 ntmps40 results40 fun hR=> ?_
 refine zz ?_
 refine bV (aCu N aB bG bF bX) (fun l1=>[]) (fun l1=>[some ⟨102,(eI .u32 aB.Genesis.Version)::(aL (eI .u8) aB.Genesis.Prev (aL (eI .u8) aB.Genesis.Root ((eI .u32 aB.Genesis.Time)::((eI .u32 aB.Genesis.Bits)::((eI .u32 aB.Genesis.Nonce)::(dU (eI .u64) aB.Limit [eI .i64 aB.Window,eI .u32 aB.Spacing,eI .u32 aB.Future,eI .u32 aB.Version,.row none 33 (aB.Checkpoints.map aW),eI .i64 aB.Subsidy,eI .i64 aB.Halving,eI .i64 aB.Maturity,eI .i64 bG,.mp 1,.sl 2 0 bF.length 37 true,eI .i64 bX]))))))⟩,some ⟨33037,l1.flatMap fD⟩,some ⟨80,bF.flatMap aH⟩]) ?_
 refine a0G ?_
 obtain⟨x17,h_1,hr⟩:=aN hr
 refine a0N mixed [] [60] [[0,1,2,3,4,5,6,7,8]]<|zz ?_
 refine zg (y9 h_1) [] ?_
 obtain⟨cM,hL2,hr⟩:=aN hr
 refine zz ?_
 refine a0F<|dB hL2 (fun x19 bH=>[(0,.ptr 0 0),(17,.sl 3 0 x17.length 37 true),(18,eI .i64 (x17.length:Int)),(19,eI .i64 x19)]) (fun x19 bH=>[some ⟨102,(eI .u32 aB.Genesis.Version)::(aL (eI .u8) aB.Genesis.Prev (aL (eI .u8) aB.Genesis.Root ((eI .u32 aB.Genesis.Time)::((eI .u32 aB.Genesis.Bits)::((eI .u32 aB.Genesis.Nonce)::(dU (eI .u64) aB.Limit [eI .i64 aB.Window,eI .u32 aB.Spacing,eI .u32 aB.Future,eI .u32 aB.Version,.row none 33 (aB.Checkpoints.map aW),eI .i64 aB.Subsidy,eI .i64 aB.Halving,eI .i64 aB.Maturity,eI .i64 bG,.mp 1,.sl 2 0 bF.length 37 true,eI .i64 bX]))))))⟩,some ⟨33037,bH.flatMap fD⟩,some ⟨80,bF.flatMap aH⟩,some ⟨80,x17.flatMap aH⟩]) (round:= ?_)
 intro m2 x19 bH hr
 refine zz ?_
 refine a0G ?_
 refine zk hr ?_ ?_<;>clear hr<;>intro h3 hr<;>refine zz ?_
 ·refine a0G<|a0F ?_
  replace hr:=aN hr
  obtain⟨x21,h_4,hr⟩:=hr
  refine zz ?_
  refine xw (v:=(aM x21)) (cP rfl (vF (C:=aH) (K:=37) (fun _=>rfl) rfl h_4 (nJ (ds:=(aL (eI .u8) x21.Out.Tx [eI .u32 x21.Out.Index,eI .i64 x21.Output.Value,.row none 1 (x21.Output.Script.map (eI .u8)),eI .i64 x21.Height,eB x21.Coinbase])) rC rfl zl rfl))) ?_
  refine zz ?_
  refine a0G<|a0G<|a0N mixed [] [] [[0,1,2,3,4,5,6,7,8,9,10,11,12]] ?_
  refine zz ?_
  refine xlo x21.Out ?_
  refine zz ?_
  refine zk hr ?_ ?_<;>clear hr<;>intro h5 hr<;>refine zz ?_
  ·exact zE
  refine a0N mixed [] [] [[0,1,2,3,4,5,6,7]]<|zz ?_
  refine xup x21.Out x21 ?_
  exact zE
 exact zE
instance :CtC 40 false (aX @u5):=⟨@u5⟩
theorem zF {N p height r} (hr:jR N p height=some r):
  Fp 26 [] [cT p,eI .i64 height] (eI .i64 r) []:=by
 refine bR func26 ntmps26 results26 fun hR=> ?_
 unfold jR at hr
 refine zz ?_
 refine a0G ?_
 refine bV (rH N p height) (fun x11=>[(1,eI .i64 height),(2,.ptr 0 0),(11,eB x11)]) (fun x11=>[some ⟨34,bE p⟩]) ?_
 exact zE
instance :CtC 26 true (aX @zF):=⟨@zF⟩
theorem aKh {N va b r} (hr:qG N va b=some r):
  Fp 103 [] [aM va,aM b] (eI .i64 r) []:=
 fR func103 ntmps103 results103
theorem aFV {N l uT r} (hr:aGT N l uT=some r):
  Fp 21 [] [eE l,.row none 1 (uT.map (eL 1 (eI .u8)))] (.sl 0 0 r.length 37 true) [some ⟨80,r.flatMap aH⟩]:=by
 refine bR func21 ntmps21 results21 fun hR=> ?_
 refine zz ?_
 refine bV (aJS N l) (fun l1=>[(2,.ptr 0 0),(5,.mp 1)]) (fun l1=>[some ⟨44,bI l⟩,some ⟨0,l1.flatMap aLe⟩]) ?_ (body:= ?_)
 rotate_left
 ·clear hr
  intro l1 hr
  refine zz ?_
  refine bV (aKn N) (fun l0=>[(8,.sl 0 0 l0.length 37 true)]) (fun l0=>[some ⟨80,l0.flatMap aH⟩]) ?_
  obtain⟨aBK,hL3,hr⟩:=aN hr
  refine zz ?_
  refine a0F<|dB hL3 (fun x25 bH=>[(5,.mp 0),(8,.sl 1 0 bH.length 37 true),(23,.row none 37 (l.Coins.map aM)),(24,eI .i64 (l.Coins.length:Int)),(25,eI .i64 x25)]) (fun x25 bH=>[some ⟨0,l1.flatMap aLe⟩,some ⟨80,bH.flatMap aH⟩]) (h0:=(zW 80 [1,2])) (round:= ?_)
  intro m3 x25 bH hr
  refine zz ?_
  refine a0G ?_
  refine zk hr ?_ ?_<;>clear hr<;>intro h1 hr<;>refine zz ?_
  ·refine a0G<|a0F ?_
   replace hr:=aN hr
   obtain⟨x27,h_2,hr⟩:=hr
   refine zz ?_
   refine xw (v:=(eS (iG x27.Output.Script))) (aFN rfl (aK4 lA ti9 oS (aHs (fun _=>rfl))))<|xlk (iG x27.Output.Script) ?_
   refine zz ?_
   obtain⟨h3,hr⟩:=aJ8 hr
   refine AB.cndT rfl h3 ?_
   replace hr:=b8 hr
   obtain⟨x37,h_4,x39,h_5,hr⟩:=hr
   refine zz ?_
   refine xp (oC h_4)<|mC aH 37 [x37] ?_
   exact zE
  exact zE
 obtain⟨res4,hL4,hr⟩:=aN hr
 refine zz ?_
 refine a0F<|dB hL4 (fun x14 cF=>[(2,.ptr 0 0),(5,.mp 1),(12,.row none 1 (uT.map (eL 1 (eI .u8)))),(13,eI .i64 (uT.length:Int)),(14,eI .i64 x14)]) (fun x14 cF=>[some ⟨44,bI l⟩,some ⟨0,cF.flatMap aLe⟩]) (round:= ?_)
 intro m4 x14 cF hr
 refine zz ?_
 refine a0G ?_
 refine zk hr ?_ ?_<;>clear hr<;>intro h6 hr<;>refine zz ?_
 ·refine a0G<|a0F ?_
  replace hr:=aN hr
  obtain⟨x16,h_7,hr⟩:=hr
  refine zz ?_
  refine xw (v:=(eS (iG x16))) (aFN rfl (aK4 lA ti9 oS (aHs (fun _=>rfl))))<|xup (iG x16) true ?_
  exact zE
 exact zE
instance :CtC 21 false (aX @aFV):=⟨@aFV⟩
theorem aEE {N l r} (hr:jQ N l=some r):
  Fp 23 [] [.row none 37 (l.map aM)] (eI .i64 r) []:=
 fR func23 ntmps23 results23
instance :CtC 23 true (aX @aEE):=⟨@aEE⟩
end Go.Proofs.YtopdhljncajmpaaGreatDoor
