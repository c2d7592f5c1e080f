/- Texts of ours, joined: Wk3. -/
import Derived.Test.YtgfdllellpbmoaaGreatDoorQLedgerBasics7
open Go.Vm.DrawG renaming ps → aYV,jh → aYW,fk → aYX,nil → aY7,jn → aY8
open List renaming replicate → aYY
open Go.IntKind renaming i64 → aYZ,u32 → aY9
open Go.Vm.AB renaming seq → aY0,block → aY2,seq_g → aY3,ghost → aY5,loopM → aY6,rs → aZa
open Bool renaming eq_false_or_eq_true → aY1
open Go.Vm.Ghost renaming trans → aY4
set_option linter.unusedVariables false
set_option linter.unusedSimpArgs false
set_option maxRecDepth 20000
set_option maxHeartbeats 8000000
namespace Go.Proofs.YtgfdllellpbmoaaGreatDoor
open Go Go.Vm
theorem aNp {N b stack v r} (hr:aAX N b stack v=some r):
  Vm.Fn Tryz.prog 184 [] [(.row none 1 (b.map (eI .u8))),(.row none 1 (stack.map (eL 1 (eI .u8)))),(aHq v)] (.tup [(.row none 1 (r.1.map (eL 1 (eI .u8)))),(eI .i64 r.2.1),(eI .i64 r.2.2)]) []:=by
 refine zf Tryz.func184 Tryz.ntmps184 ?_
 unfold aAX at hr
 obtain⟨b6,h_1,hr⟩:=aA hr
 refine zz ?_
 refine zc (aLf h_1) [] ?_
 refine zz ?_
 refine aY0<|zz ?_
 refine zk hr ?_ ?_<;>intro h2 hr
 ·refine zz ?_
  obtain rfl:=sj hr
  exact zr3 Tryz.results184 aY aY aY (gF [])
 refine zz ?_
 refine aY0 ?_
 obtain⟨x27,h_3,hr⟩:=aA hr
 refine zz ?_
 refine gV (aJP h_3) [] [1] ?_
 refine zz ?_
 refine zk hr ?_ ?_<;>intro h4 hr
 ·refine zz ?_
  obtain rfl:=sj hr
  exact zr3 Tryz.results184 aY aY aY (gF [])
 refine zz ?_
 refine aY0 ?_
 obtain⟨fA,h_5,hr⟩:=aA hr
 refine zz ?_
 refine xp (aMp h_5) ?_
 refine zz ?_
 refine zk hr ?_ ?_<;>intro h6 hr
 ·refine zz ?_
  obtain rfl:=sj hr
  exact zr3 Tryz.results184 aY aY aY (gF [])
 obtain⟨g6,h_7,hr⟩:=aA hr
 refine zz ?_
 refine zc (aJu h_7) [] ?_
 refine zz ?_
 refine aY3 fun K1 hK1 hG1=> ?_
 have J1: ∀vs cost,aD3 N vs cost=some r→K1 (aD 134 [(11,(.row none 1 (vs.map (eL 1 (eI .u8))))),(12,(eI .i64 cost))]) []:=by
  intro vs cost hr
  unfold aD3 at hr
  refine hK1<|zz ?_
  obtain rfl:=sj hr
  exact zd3 Tryz.results184 []
 refine zz ?_
 refine aY5 (zv 2) ?_
 obtain⟨bB,hL2,hr⟩:=aA hr
 refine aY2<|aY6 (fun m s h=> ∃eM jP x35 l1,e7 N v b6 m eM jP x35 l1=some bB∧Ghost 0 s h (aD 134 [(5,(.ptr 0 0)),(11,(.row none 1 (eM.map (eL 1 (eI .u8))))),(12,(eI .i64 jP)),(13,(.sl 1 0 l1.length 2 true)),(33,(.sl 2 0 b6.1.length 4 true)),(34,(eI .i64 (b6.1.length:Int))),(35,(eI .i64 x35))]) [some ⟨206,kL v⟩,some ⟨254,l1.flatMap bO⟩,some ⟨251,b6.1.flatMap dP⟩]) ⟨g6,0,0,[],hL2,(zW 254 [0,3,1])⟩ ?_
 rintro m2 s h ⟨eM,jP,x35,l1,hr2,hg⟩
 refine aY5 hg ?_
 clear hg hL2
 rw[e7]at hr2
 refine zz ?_
 refine aY0 ?_
 refine zk hr2 ?_ ?_<;>intro h8 hr2
 ·refine zz ?_
  refine aY3 fun K3 hK3 hG3=> ?_
  have J3: ∀aK6 aE7 b5,jU N v b6 x35 (e7 N v b6 m2) aK6 aE7 b5=some bB→K3 (aD 134 [(5,(.ptr 0 0)),(11,(.row none 1 (aK6.map (eL 1 (eI .u8))))),(12,(eI .i64 aE7)),(13,(.sl 1 0 b5.length 2 true)),(33,(.sl 2 0 b6.1.length 4 true)),(34,(eI .i64 (b6.1.length:Int))),(35,(eI .i64 x35))]) [some ⟨206,kL v⟩,some ⟨254,b5.flatMap bO⟩,some ⟨251,b6.1.flatMap dP⟩]:=by
   intro aK6 aE7 b5 hr2
   unfold jU at hr2
   refine hK3<|zz ?_
   exact⟨aK6,aE7,aYZ.wrap (x35+1),b5,hr2,(zG [0,1,2])⟩
  refine aY2 ?_
  obtain⟨x37,h_9,hr2⟩:=aA hr2
  refine zz ?_
  refine xw (v:=(sI x37)) (aS rfl (bR (C:=dP) (K:=4) (fun _=>rfl) rfl h_9 (bJ (ds:=[(eI .i64 x37.Code),(.row none 1 (x37.Data.map (eI .u8))),(eI .i64 x37.M),(eI .i64 x37.N)]) aFP rfl zl rfl))) ?_
  obtain⟨x40,h_10,hr2⟩:=aA hr2
  refine zz ?_
  refine gV (aJW h_10) [] [1] ?_
  refine zz ?_
  refine aY3 fun K4 hK4 hG4=> ?_
  have J4: ∀i8,aBm N v b6 eM jP x35 l1 x37 (e7 N v b6 m2) i8=some bB→K4 (aD 134 [(5,(.ptr 0 0)),(11,(.row none 1 (eM.map (eL 1 (eI .u8))))),(12,(eI .i64 jP)),(13,(.sl 1 0 l1.length 2 true)),(15,(.ptr 2 0)),(16,(eB i8)),(33,(.sl 3 0 b6.1.length 4 true)),(34,(eI .i64 (b6.1.length:Int))),(35,(eI .i64 x35))]) [some ⟨206,kL v⟩,some ⟨254,l1.flatMap bO⟩,some ⟨251,dP x37⟩,some ⟨251,b6.1.flatMap dP⟩]:=by
   intro i8 hr2
   unfold aBm at hr2
   refine hK4 ?_
   refine aY3 fun K5 hK5 hG5=> ?_
   have J5: ∀k9,aA8 N v b6 eM x35 l1 x37 i8 (e7 N v b6 m2) k9=some bB→K5 (aD 134 [(5,(.ptr 0 0)),(11,(.row none 1 (eM.map (eL 1 (eI .u8))))),(12,(eI .i64 k9)),(13,(.sl 1 0 l1.length 2 true)),(15,(.ptr 2 0)),(16,(eB i8)),(33,(.sl 3 0 b6.1.length 4 true)),(34,(eI .i64 (b6.1.length:Int))),(35,(eI .i64 x35))]) [some ⟨206,kL v⟩,some ⟨254,l1.flatMap bO⟩,some ⟨251,dP x37⟩,some ⟨251,b6.1.flatMap dP⟩]:=by
    intro k9 hr2
    unfold aA8 at hr2
    refine hK5<|aY2 ?_
    refine zz ?_
    refine zk hr2 ?_ ?_<;>intro h11 hr2
    ·refine zz ?_
     refine aY3 fun K6 hK6 hG6=> ?_
     have J6: ∀aK4 c2,aBt N v b6 x35 l1 i8 k9 (e7 N v b6 m2) aK4 c2=some bB→K6 (aD 134 [(5,(.ptr 0 0)),(11,(.row none 1 (aK4.map (eL 1 (eI .u8))))),(12,(eI .i64 k9)),(13,(.sl 1 0 l1.length 2 true)),(17,(.ptr 2 0)),(33,(.sl 3 0 b6.1.length 4 true)),(34,(eI .i64 (b6.1.length:Int))),(35,(eI .i64 x35))]) [some ⟨206,kL v⟩,some ⟨254,l1.flatMap bO⟩,some ⟨254,[(eB i8),(eB c2)]⟩,some ⟨251,b6.1.flatMap dP⟩]:=by
      intro aK4 c2 hr2
      unfold aBt at hr2
      refine hK6 ?_
      obtain⟨x91,h_12,hr2⟩:=aA hr2
      refine zz ?_
      refine dQ bO 2 [(bD.mk i8 c2)] ?_
      refine zz ?_
      exact hG3 (zG [0,5,3]) (J3 aK4 k9 x91 hr2)
     refine zz ?_
     refine zk hr2 ?_ ?_<;>intro h13 hr2
     ·obtain⟨x79,h_14,hr2⟩:=aA hr2
      obtain⟨x81,h_15,hr2⟩:=aA hr2
      refine zz ?_
      refine xp (aAs h_15) ?_
      obtain⟨x87,h_16,hr2⟩:=aA hr2
      refine zz ?_
      exact hG6 (zG [0,1,4,3]) (J6 x87 x81 hr2)
     refine zz ?_
     exact hG6 (zG [0,1,4,3]) (J6 eM false hr2)
    refine zz ?_
    refine zk hr2 ?_ ?_<;>intro h17 hr2
    ·obtain⟨yJ,h_18,hr2⟩:=aA hr2
     refine zz ?_
     refine xw (v:=(eB yJ.done)) (aS rfl (aSo (C:=bO) (K:=2) (off:=1) (fun _=>rfl) rfl h_18 zl (sV ti4 rfl rfl))) ?_
     refine zz ?_
     refine xy (h':=[some ⟨206,kL v⟩,some ⟨254,(l1.set (Int.toNat (aYZ.wrap ((l1.length:Int)-1))) (bD.mk yJ.reached (!yJ.done))).flatMap bO⟩,some ⟨251,dP x37⟩,some ⟨251,b6.1.flatMap dP⟩]) (aHX rfl rfl (aYo (C:=bO) (K:=2) (off:=1) (fun _=>rfl) ti4 rfl h_18 rfl rfl zl rfl rfl)) ?_
     refine zz ?_
     exact hG3 (gF [0,1,3]) (J3 eM k9 (l1.set (Int.toNat (aYZ.wrap ((l1.length:Int)-1))) (bD.mk yJ.reached (!yJ.done))) hr2)
    refine zz ?_
    refine zk hr2 ?_ ?_<;>intro h19 hr2
    ·obtain⟨aDn,h_20,hr2⟩:=aA hr2
     refine zz ?_
     refine xw (v:=(.sl 1 0 aDn.length 2 true)) (vO rfl rfl rfl (aUd (l:=l1) rfl aQl aJ5 rfl rfl rfl h_20)) ?_
     refine OpsX.ghost (Ghost.cutF (t:=118) (C:=bO) (l:=l1) (K:=2) (h':=[some ⟨206,kL v⟩,some ⟨254,aDn.flatMap bO⟩,some ⟨251,dP x37⟩,some ⟨251,b6.1.flatMap dP⟩]) (fun _=>rfl) rfl rfl h_20 rfl) ?_
     refine zz ?_
     exact hG3 (zG [0,1,3]) (J3 eM k9 aDn hr2)
    refine zz ?_
    refine zk hr2 ?_ ?_<;>intro h21 hr2
    ·obtain⟨aFE,h_22,hr2⟩:=aA hr2
     refine zz ?_
     refine xp (aMq h_22) ?_
     refine zz ?_
     refine zk hr2 ?_ ?_<;>intro h23 hr2
     ·refine zz ?_
      obtain rfl:=sj hr2
      obtain rfl:=sj hr
      exact zr3 Tryz.results184 aY aY aY (gF [])
     refine zz ?_
     exact hG3 (zG [0,1,3]) (J3 aFE.1 k9 l1 hr2)
    refine zz ?_
    exact hG3 (zG [0,1,3]) (J3 eM k9 l1 hr2)
   refine zz ?_
   refine zk hr2 ?_ ?_<;>intro h24 hr2
   ·refine aY0 ?_
    obtain⟨x59,h_25,hr2⟩:=aA hr2
    refine zz ?_
    refine xp (aLe h_25) ?_
    refine zz ?_
    refine zk hr2 ?_ ?_<;>intro h26 hr2
    ·refine zz ?_
     obtain rfl:=sj hr2
     obtain rfl:=sj hr
     exact zr3 Tryz.results184 aY aY aY (gF [])
    obtain⟨x66,h_27,hr2⟩:=aA hr2
    refine zz ?_
    refine xp (aK9 h_27) ?_
    refine zz ?_
    refine zk hr2 ?_ ?_<;>intro h28 hr2
    ·refine zz ?_
     obtain rfl:=sj hr2
     obtain rfl:=sj hr
     exact zr3 Tryz.results184 aY aY aY (gF [])
    refine zz ?_
    exact hG5 (zG [0,1,2,3]) (J5 (aYZ.wrap (jP+x59)) hr2)
   refine zz ?_
   exact hG5 (zG [0,1,2,3]) (J5 jP hr2)
  refine aY3 fun K7 hK7 hG7=> ?_
  have J7: ∀x48,aBF N v b6 eM jP x35 l1 x37 x40 (e7 N v b6 m2) x48=some bB→K7 (aD 134 [(5,(.ptr 0 0)),(11,(.row none 1 (eM.map (eL 1 (eI .u8))))),(12,(eI .i64 jP)),(13,(.sl 1 0 l1.length 2 true)),(15,(.ptr 2 0)),(16,(eB x40)),(33,(.sl 3 0 b6.1.length 4 true)),(34,(eI .i64 (b6.1.length:Int))),(35,(eI .i64 x35)),(48,(eB x48))]) [some ⟨206,kL v⟩,some ⟨254,l1.flatMap bO⟩,some ⟨251,dP x37⟩,some ⟨251,b6.1.flatMap dP⟩]:=by
   intro x48 hr2
   unfold aBF at hr2
   refine hK7 ?_
   refine zk hr2 ?_ ?_<;>intro h29 hr2
   ·obtain⟨x53,h_30,hr2⟩:=aA hr2
    refine zz ?_
    refine xw (v:=(eB x53.reached)) (aS rfl (aSo (C:=bO) (K:=2) (off:=0) (fun _=>rfl) rfl h_30 zl (sV ti4 rfl rfl))) ?_
    refine zz ?_
    exact hG4 (zG [0,1,2,3]) (J4 x53.reached hr2)
   refine zz ?_
   exact hG4 (zG [0,1,2,3]) (J4 x40 hr2)
  rcases aY1 (x37.Code == 15)with h31|h31
  ·replace hr2:=bY hr2 h31
   refine xr<|zz ?_
   exact hG7 (zG [0,1,3,2]) (J7 true hr2)
  replace hr2:=bX hr2 h31
  refine xr<|zz ?_
  exact hG7 (zG [0,1,3,2]) (J7 (x37.Code == 16) hr2)
 refine zz ?_
 obtain rfl:=sj hr2
 refine zz ?_
 exact hG1 (zG []) (J1 eM jP hr)
theorem aHz {N b cE v r} (hr:lP N b cE v=some r):
  Vm.Fn Tryz.prog 159 [] [(.row none 1 (b.map (eI .u8))),(.row none 1 (cE.map (eL 1 (eI .u8)))),(aHq v)] (eI .i64 r) []:=by
 refine zf Tryz.func159 Tryz.ntmps159 ?_
 unfold lP at hr
 obtain⟨bZ,h_1,hr⟩:=aA hr
 refine zz ?_
 refine xp (aNp h_1) ?_
 refine zz ?_
 refine aY0<|aY2 ?_
 refine zz ?_
 refine zk hr ?_ ?_<;>intro h2 hr
 ·refine zz ?_
  obtain rfl:=sj hr
  exact aX Tryz.results159 []
 refine zz ?_
 refine zk hr ?_ ?_<;>intro h3 hr
 ·refine zz ?_
  obtain rfl:=sj hr
  exact aX Tryz.results159 []
 obtain⟨x28,h_4,hr⟩:=aA hr
 obtain⟨fA,h_5,hr⟩:=aA hr
 refine zz ?_
 refine xp (aAs h_5) ?_
 refine zz ?_
 refine zk hr ?_ ?_<;>intro h6 hr
 ·refine zz ?_
  obtain rfl:=sj hr
  exact aX Tryz.results159 []
 refine zz ?_
 obtain rfl:=sj hr
 exact aX Tryz.results159 []
theorem aKZ {N t vi c height r} (hr:aAj N t vi c height=some r):
  Vm.Fn Tryz.prog 127 [] [(cK t),(eI .i64 vi),(aR c),(eI .i64 height)] (eI .i64 r) []:=by
 refine zf Tryz.func127 Tryz.ntmps127 ?_
 unfold aAj at hr
 obtain⟨x16,h_1,hr⟩:=aA hr
 obtain⟨q,h_2,hr⟩:=aA hr
 refine zz ?_
 refine xp (aIw h_1) ?_
 refine zz ?_
 refine aY0<|zz ?_
 refine zk hr ?_ ?_<;>intro h3 hr
 ·refine zz ?_
  obtain rfl:=sj hr
  exact aX Tryz.results127 []
 refine zz ?_
 refine aY0<|aY0 ?_
 obtain⟨x25,h_4,hr⟩:=aA hr
 refine aZa mixed [] [] [[0,1,2,3,4,5,6,7,8]]<|zz ?_
 refine xw (v:=(eB (!(sX x25.Prev.Tx c.Out.Tx ((x25.Prev.Index == c.Out.Index)&&true))))) (jF rfl rfl (aN1 (d:=9) rB rfl aE2 zl aEX rfl rfl rfl rfl rfl)) ?_
 refine zz ?_
 refine zk hr ?_ ?_<;>intro h5 hr
 ·refine zz ?_
  obtain rfl:=sj hr
  exact aX Tryz.results127 []
 refine zz ?_
 refine aY0 ?_
 refine aY3 fun K1 hK1 hG1=> ?_
 have J1: ∀x43,mM N t vi c height x16 x43=some r→K1 (aD 61 [(1,(eI .i64 vi)),(3,(eI .i64 height)),(4,(.ptr 0 0)),(6,(.ptr 1 0)),(9,(.ptr 2 0)),(43,(eB x43))]) [some ⟨117,aZ t⟩,some ⟨59,aQ c⟩,some ⟨24,x16.1.map (eI .u8)⟩]:=by
  intro x43 hr
  unfold mM at hr
  refine hK1 ?_
  refine zk hr ?_ ?_<;>intro h6 hr
  ·refine zz ?_
   obtain rfl:=sj hr
   exact aX Tryz.results127 []
  refine zz ?_
  refine aY0 ?_
  obtain⟨x50,h_7,hr⟩:=aA hr
  obtain⟨x60,h_8,hr⟩:=aA hr
  refine aZa mixed [159] [] [[0,1,2,3,4,5,6,7,8,9,10,11,12,13,14,15,16,17]]<|zz ?_
  refine xw (v:=(.agg (aK (eI .u8) x16.1 [(eI .i64 height),(eI .i64 (aYZ.wrap (height-c.Height)))]))) (bV rfl (aE0 (ps':=[(0,(.agg (aK (eI .u8) x16.1 []))),(1,(eI .i64 height)),(2,(eI .i64 (aYZ.wrap (height-c.Height))))]) (by simp only[gO (l:=x16.1) (bP h_2)]<;>rfl) (iZ aHP aPV (by kernel_rfl))))<|xu (aHz h_8) ?_
  refine zz ?_
  obtain rfl:=sj hr
  exact aX Tryz.results127 []
 rcases aY1 (decide (16777216<height))with h10|h10
 ·replace hr:=bY hr h10
  refine xr<|zz ?_
  refine xX rfl<|xX rfl<|xX rfl<|xX rfl ?_
  refine zz ?_
  exact hG1 (zG [0,1,2]) (J1 true hr)
 replace hr:=bX hr h10
 rcases aY1 (decide (c.Height<0))with h11|h11
 ·replace hr:=bY hr h11
  refine xr<|zz ?_
  exact hG1 (zG [0,1,2]) (J1 true hr)
 replace hr:=bX hr h11
 refine xr<|zz ?_
 exact hG1 (zG [0,1,2]) (J1 (decide (height<c.Height)) hr)
theorem aKw {N t l height r} (hr:aAk N t l height=some r):
  Vm.Fn Tryz.prog 86 [] [(cK t),(.row none 37 (l.map aR)),(eI .i64 height)] (.tup [(eI .i64 r.1),(eI .i64 r.2)]) []:=by
 refine zf Tryz.func86 Tryz.ntmps86 ?_
 unfold aAk at hr
 refine zz ?_
 refine aY0 ?_
 obtain⟨cB,h_1,hr⟩:=aA hr
 refine zz ?_
 refine xp (sU h_1) ?_
 refine zz ?_
 refine zk hr ?_ ?_<;>intro h2 hr
 ·refine zz ?_
  obtain rfl:=sj hr
  exact oH Tryz.results86 []
 obtain⟨x17,h_3,hr⟩:=aA hr
 refine zz ?_
 refine xp (aM9 h_3) ?_
 refine zz ?_
 refine aY0<|zz ?_
 refine zk hr ?_ ?_<;>intro h4 hr
 ·refine zz ?_
  obtain rfl:=sj hr
  exact oH Tryz.results86 []
 refine zz ?_
 refine aY0 ?_
 obtain⟨x25,h_5,hr⟩:=aA hr
 refine zz ?_
 refine xp (aFr h_5) ?_
 refine zz ?_
 refine zk hr ?_ ?_<;>intro h6 hr
 ·refine zz ?_
  obtain rfl:=sj hr
  exact oH Tryz.results86 []
 refine zz ?_
 refine aY3 fun K1 hK1 hG1=> ?_
 have J1:aCo N x17=some r→K1 (aD 45 [(8,(eI .i64 x17.1))]) []:=by
  intro hr
  unfold aCo at hr
  refine hK1<|zz ?_
  obtain rfl:=sj hr
  exact oH Tryz.results86 []
 obtain⟨bB,hL2,hr⟩:=aA hr
 refine zz ?_
 refine aY2<|aY6 (fun m s h=> ∃x29,mN N t l height x17 m x29=some bB∧Ghost 0 s h (aD 45 [(1,(.row none 37 (l.map aR))),(2,(eI .i64 height)),(3,(.ptr 0 0)),(8,(eI .i64 x17.1)),(28,(eI .i64 (l.length:Int))),(29,(eI .i64 x29))]) [some ⟨117,aZ t⟩]) ⟨0,hL2,(zG [0])⟩ ?_
 rintro m2 s h ⟨x29,hr2,hg⟩
 refine aY5 hg ?_
 clear hg hL2
 rw[mN]at hr2
 refine zz ?_
 refine aY0 ?_
 refine zk hr2 ?_ ?_<;>intro h7 hr2
 ·refine zz ?_
  refine aY0<|aY2 ?_
  refine zz ?_
  refine aY0 ?_
  obtain⟨x36,h_8,hr2⟩:=aA hr2
  obtain⟨x39,h_9,hr2⟩:=aA hr2
  refine aZa mixed [127] [] [[0,1,2,3,4,5,6,7,8]]<|zz ?_
  refine xu (aKZ h_9) ?_
  refine zz ?_
  refine zk hr2 ?_ ?_<;>intro h11 hr2
  ·refine zz ?_
   obtain rfl:=sj hr2
   obtain rfl:=sj hr
   exact oH Tryz.results86 []
  refine zz ?_
  exact⟨aYZ.wrap (x29+1),hr2,(zG [0])⟩
 refine zz ?_
 obtain rfl:=sj hr2
 refine zz ?_
 exact hG1 (zG []) (J1 hr)
theorem aIH {N l vi r} (hr:u7 N l vi=some r):
  Vm.Fn Tryz.prog 87 [] [(.row none 37 (l.map aR)),(eI .i64 vi)] (.sl 0 0 r.length 37 true) [some ⟨59,r.flatMap aQ⟩]:=by
 refine zf Tryz.func87 Tryz.ntmps87 ?_
 unfold u7 at hr
 refine zz ?_
 refine aY0 ?_
 obtain⟨x7,h_1,hr⟩:=aA hr
 obtain⟨x8,h_2,hr⟩:=aA hr
 obtain⟨cH,h_3,hr⟩:=aA hr
 obtain⟨cB,h_4,hr⟩:=aA hr
 refine aZa mixed [] [] [[0,1,2,3,4,5,6,7,8,9]]<|zz ?_
 obtain rfl:=sj hr
 exact aX Tryz.results87 [2]
theorem aAR {N t height r} (hr:oY N t height=some r):
  Vm.Fn Tryz.prog 90 [] [(cK t),(eI .i64 height)] (.sl 0 0 r.length 37 true) [some ⟨59,r.flatMap aQ⟩]:=by
 refine zf Tryz.func90 Tryz.ntmps90 ?_
 unfold oY at hr
 obtain⟨bQ,h_1,hr⟩:=aA hr
 obtain⟨q,h_2,hr⟩:=aA hr
 refine zz ?_
 refine xp (aEJ h_1) ?_
 refine zz ?_
 refine aY3 fun K1 hK1 hG1=> ?_
 have J1: ∀l0,aAM N l0=some r→K1 (aD 33 [(5,(.sl 0 0 l0.length 37 true))]) [some ⟨59,l0.flatMap aQ⟩]:=by
  intro l0 hr
  unfold aAM at hr
  refine hK1<|zz ?_
  obtain rfl:=sj hr
  exact aX Tryz.results90 [0]
 obtain⟨bB,hL2,hr⟩:=aA hr
 refine zz ?_
 refine aY2<|aY6 (fun m s h=> ∃bZ l1,kI N t height bQ m bZ l1=some bB∧Ghost 0 s h (aD 33 [(1,(eI .i64 height)),(2,(.ptr 0 0)),(5,(.sl 1 0 l1.length 37 true)),(6,(.ptr 2 0)),(12,(.row none 2 (t.Outputs.map eR))),(13,(eI .i64 (t.Outputs.length:Int))),(14,(eI .i64 bZ))]) [some ⟨117,aZ t⟩,some ⟨59,l1.flatMap aQ⟩,some ⟨24,bQ.map (eI .u8)⟩]) ⟨0,[],hL2,(zW 59 [0,2,1])⟩ ?_
 rintro m2 s h ⟨bZ,l1,hr2,hg⟩
 refine aY5 hg ?_
 clear hg hL2
 rw[kI]at hr2
 refine zz ?_
 refine aY0 ?_
 refine zk hr2 ?_ ?_<;>intro h3 hr2
 ·refine zz ?_
  refine aY0<|aY2 ?_
  obtain⟨x17,h_4,hr2⟩:=aA hr2
  obtain⟨x27,h_5,hr2⟩:=aA hr2
  obtain⟨fA,h_7,hr2⟩:=aA hr2
  refine zz ?_
  refine aZa mixed [125] [] [[0,1,2,3,4,5,6,7,8,9,10,11,12]]<|zz ?_
  refine xw (v:=(.agg (aK (eI .u8) bQ [(eI .u32 (aY9.wrap bZ))]))) (bV rfl (aE0 (ps':=[(0,(.agg (aK (eI .u8) bQ []))),(1,(eI .u32 (aY9.wrap bZ)))]) (by simp only[gO (l:=bQ) (bP h_2)]<;>rfl) (iZ rB aKA (by kernel_rfl)))) ?_
  refine zz ?_
  refine xu (sU h_5)<|xw (v:=(.agg (aK (eI .u8) bQ [(eI .u32 (aY9.wrap bZ)),(eI .i64 x17.Value),(.row none 1 (x17.Script.map (eI .u8))),(eI .i64 height),(eB x27)]))) (bV rfl (iZ yA aQa rfl))<|dQ aQ 37 [(aC.mk (aI.mk bQ (aY9.wrap bZ)) x17 height x27)] ?_
  refine zz ?_
  exact⟨aYZ.wrap (bZ+1),fA,hr2,(zG [0,5,2])⟩
 refine zz ?_
 obtain rfl:=sj hr2
 refine zz ?_
 exact hG1 (zG [1]) (J1 l1 hr)
theorem aMy {N l c r} (hr:yZ N l c=some r):
  Vm.Fn Tryz.prog 128 [] [(.row none 37 (l.map aR)),(aR c)] (.sl 0 0 r.length 37 true) [some ⟨59,r.flatMap aQ⟩]:=by
 refine zf Tryz.func128 Tryz.ntmps128 ?_
 unfold yZ at hr
 refine zz ?_
 refine aY3 fun K1 hK1 hG1=> ?_
 have J1: ∀l1,aAF N l c l1=some r→K1 (aD 39 [(0,(.row none 37 (l.map aR))),(3,(.ptr 0 0)),(5,(.sl 1 0 l1.length 37 true))]) [some ⟨59,aQ c⟩,some ⟨59,l1.flatMap aQ⟩]:=by
  intro l1 hr
  unfold aAF at hr
  refine hK1<|aY0 ?_
  obtain⟨cO,h_1,hr⟩:=aA hr
  obtain⟨nY,h_3,hr⟩:=aA hr
  obtain⟨x37,h_4,hr⟩:=aA hr
  obtain⟨x38,h_5,hr⟩:=aA hr
  refine AB.rd (cT [124]) (cT []) mixed<|aYV (m:=5) [0,1,2,3,5,6] ?_
  refine zz ?_
  refine xu (aDB h_1)<|dQ aQ 37 [cO] ?_
  refine zz ?_
  refine aY8 (m:=2) (L:=lst [0,1,2,3,4,5,6,7,8] 11) (s1:=aD 39 [(33,(.sl 0 0 nY.length 37 true)),(37,(.row none 37 (x37.map aR)))]) (h1:=[some ⟨59,nY.flatMap aQ⟩]) ?_ (fun J=> ?_)
  ·refine aYV (m:=0) [9,10]<|zz ?_
   refine aY7 (by decide +kernel) ?_
   refine zz ?_
   obtain rfl:=sj hr
   exact aX Tryz.results128 [1]
  refine aYX (n:=4) [4,7] ⟨?_, ?_,trivial⟩
  ·refine zz ?_
   refine aYV (m:=2) [7,8]<|zz ?_
   refine aYW J ?_
   exact(zG [3])
  refine zz ?_
  refine aYX (n:=3) [4,8] ⟨?_, ?_,trivial⟩
  ·refine zz ?_
   refine aYV (m:=2) [8]<|zz ?_
   refine aYW J ?_
   exact(zG [3])
  refine zz ?_
  refine aYV (m:=2) [4]<|zz ?_
  refine aYW J ?_
  exact(zG [3])
 obtain⟨bB,hL2,hr⟩:=aA hr
 refine zz ?_
 refine aY2<|aY6 (fun m s h=> ∃x9 b5,kC N l c m x9 b5=some bB∧Ghost 0 s h (aD 39 [(0,(.row none 37 (l.map aR))),(3,(.ptr 0 0)),(5,(.sl 1 0 b5.length 37 true)),(8,(eI .i64 (l.length:Int))),(9,(eI .i64 x9))]) [some ⟨59,aQ c⟩,some ⟨59,b5.flatMap aQ⟩]) ⟨0,[],hL2,(zW 59 [0,1])⟩ ?_
 rintro m2 s h ⟨x9,b5,hr2,hg⟩
 refine aY5 hg ?_
 clear hg hL2
 rw[kC]at hr2
 refine zz ?_
 refine aY0 ?_
 refine zk hr2 ?_ ?_<;>intro h6 hr2
 ·refine zz ?_
  refine aY3 fun K3 hK3 hG3=> ?_
  have J3: ∀cN,vD N l c x9 (kC N l c m2) cN=some bB→K3 (aD 39 [(0,(.row none 37 (l.map aR))),(3,(.ptr 0 0)),(5,(.sl 1 0 cN.length 37 true)),(8,(eI .i64 (l.length:Int))),(9,(eI .i64 x9))]) [some ⟨59,aQ c⟩,some ⟨59,cN.flatMap aQ⟩]:=by
   intro cN hr2
   unfold vD at hr2
   refine hK3<|zz ?_
   exact⟨aYZ.wrap (x9+1),cN,hr2,(zG [0,1])⟩
  refine aY2 ?_
  refine zz ?_
  refine aY0 ?_
  obtain⟨bZ,h_7,hr2⟩:=aA hr2
  obtain⟨x19,h_8,hr2⟩:=aA hr2
  refine aZa mixed [29] [] [[0,1,2,3,4,5,6,7,8]]<|zz ?_
  refine xu (uL h_8) ?_
  refine zz ?_
  refine zk hr2 ?_ ?_<;>intro h10 hr2
  ·obtain⟨x27,h_11,hr2⟩:=aA hr2
   refine zz ?_
   refine dQ aQ 37 [bZ] ?_
   refine zz ?_
   exact hG3 (zG [0,3]) (J3 x27 hr2)
  refine zz ?_
  exact hG3 (zG [0,1]) (J3 b5 hr2)
 refine zz ?_
 obtain rfl:=sj hr2
 refine zz ?_
 exact hG1 (zG [0,1]) (J1 b5 hr)
theorem aOj {N l t height r} (hr:aCX N l t height=some r):
  Vm.Fn Tryz.prog 88 [] [(.row none 37 (l.map aR)),(cK t),(eI .i64 height)] (.tup [(.row none 37 (r.1.map aR)),(eI .i64 r.2)]) []:=by
 refine zf Tryz.func88 Tryz.ntmps88 ?_
 unfold aCX at hr
 refine zz ?_
 refine aY3 fun K1 hK1 hG1=> ?_
 have J1:aBu N l t height=some r→K1 (aD 39 [(0,(.row none 37 (l.map aR))),(2,(eI .i64 height)),(4,(.ptr 0 0))]) [some ⟨117,aZ t⟩]:=by
  intro hr
  unfold aBu at hr
  refine hK1 ?_
  refine aY3 fun K2 hK2 hG2=> ?_
  have J2: ∀l_1,aEt N l_1=some r→K2 (aD 39 [(0,(.row none 37 (l_1.map aR)))]) []:=by
   intro l_1 hr
   unfold aEt at hr
   refine hK2<|zz ?_
   obtain rfl:=sj hr
   exact oH Tryz.results88 []
  obtain⟨x28,h_1,hr⟩:=aA hr
  refine zz ?_
  refine zc (aAR h_1) [] ?_
  obtain⟨jT,hL3,hr⟩:=aA hr
  refine zz ?_
  refine aY2<|aY6 (fun m s h=> ∃l_2 fA,qI N x28 m l_2 fA=some jT∧Ghost 0 s h (aD 39 [(0,(.row none 37 (l_2.map aR))),(28,(.sl 0 0 x28.length 37 true)),(29,(eI .i64 (x28.length:Int))),(30,(eI .i64 fA))]) [some ⟨59,x28.flatMap aQ⟩]) ⟨l,0,hL3,(zG [1])⟩ ?_
  rintro m3 s h ⟨l_2,fA,hr3,hg⟩
  refine aY5 hg ?_
  clear hg hL3
  rw[qI]at hr3
  refine zz ?_
  refine aY0 ?_
  refine zk hr3 ?_ ?_<;>intro h2 hr3
  ·refine zz ?_
   refine aY0<|aY2 ?_
   obtain⟨g6,h_3,hr3⟩:=aA hr3
   refine zz ?_
   refine xw (v:=(aR g6)) (aS rfl (bR (C:=aQ) (K:=37) (fun _=>rfl) rfl h_3 (bJ (ds:=(aK (eI .u8) g6.Out.Tx [(eI .u32 g6.Out.Index),(eI .i64 g6.Output.Value),(.row none 1 (g6.Output.Script.map (eI .u8))),(eI .i64 g6.Height),(eB g6.Coinbase)])) yA rfl zl rfl))) ?_
   obtain⟨x36,h_4,hr3⟩:=aA hr3
   refine zz ?_
   refine zc (aMy h_4) [] ?_
   refine zz ?_
   exact⟨x36,aYZ.wrap (fA+1),hr3,(aY4 (zv 2) (zG [0]))⟩
  refine zz ?_
  obtain rfl:=sj hr3
  refine zz ?_
  exact hG2 (zG []) (J2 l_2 hr)
 obtain⟨bZ,h_5,hr⟩:=aA hr
 refine zz ?_
 refine zc (aAR h_5) [] ?_
 obtain⟨res4,hL4,hr⟩:=aA hr
 refine zz ?_
 refine aY2<|aY6 (fun m s h=> ∃x16,qL N l t height bZ m x16=some res4∧Ghost 0 s h (aD 39 [(0,(.row none 37 (l.map aR))),(2,(eI .i64 height)),(4,(.ptr 0 0)),(14,(.sl 1 0 bZ.length 37 true)),(15,(eI .i64 (bZ.length:Int))),(16,(eI .i64 x16))]) [some ⟨117,aZ t⟩,some ⟨59,bZ.flatMap aQ⟩]) ⟨0,hL4,(zG [0,1])⟩ ?_
 rintro m4 s h ⟨x16,hr4,hg⟩
 refine aY5 hg ?_
 clear hg hL4
 rw[qL]at hr4
 refine zz ?_
 refine aY0 ?_
 refine zk hr4 ?_ ?_<;>intro h6 hr4
 ·refine zz ?_
  refine aY0<|aY2 ?_
  obtain⟨x18,h_7,hr4⟩:=aA hr4
  refine zz ?_
  refine xw (v:=(aR x18)) (aS rfl (bR (C:=aQ) (K:=37) (fun _=>rfl) rfl h_7 (bJ (ds:=(aK (eI .u8) x18.Out.Tx [(eI .u32 x18.Out.Index),(eI .i64 x18.Output.Value),(.row none 1 (x18.Output.Script.map (eI .u8))),(eI .i64 x18.Height),(eB x18.Coinbase)])) yA rfl zl rfl))) ?_
  obtain⟨eQ,h_8,hr4⟩:=aA hr4
  refine zz ?_
  refine xp (aAG h_8) ?_
  refine zz ?_
  refine zk hr4 ?_ ?_<;>intro h9 hr4
  ·refine zz ?_
   obtain rfl:=sj hr4
   obtain rfl:=sj hr
   exact kS Tryz.results88 aY aY (gF [])
  refine zz ?_
  exact⟨aYZ.wrap (x16+1),hr4,(zG [0,1])⟩
 refine zz ?_
 obtain rfl:=sj hr4
 refine zz ?_
 exact hG1 (zG [0]) (J1 hr)
theorem aFa {N l r} (hr:vR N l=some r):
  Vm.Fn Tryz.prog 89 [] [(.row none 37 (l.map aR))] (eI .i64 r) []:=by
 refine zf Tryz.func89 Tryz.ntmps89 ?_
 unfold vR at hr
 refine zz ?_
 refine aY3 fun K1 hK1 hG1=> ?_
 have J1: ∀sum,aCq N sum=some r→K1 (aD 19 [(3,(eI .i64 sum))]) []:=by
  intro sum hr
  unfold aCq at hr
  refine hK1<|zz ?_
  obtain rfl:=sj hr
  exact aX Tryz.results89 []
 obtain⟨bB,hL2,hr⟩:=aA hr
 refine zz ?_
 refine aY2<|aY6 (fun m s h=> ∃eO x8,mL N l m eO x8=some bB∧Ghost 0 s h (aD 19 [(3,(eI .i64 eO)),(6,(.row none 37 (l.map aR))),(7,(eI .i64 (l.length:Int))),(8,(eI .i64 x8))]) []) ⟨0,0,hL2,(zG [])⟩ ?_
 rintro m2 s h ⟨eO,x8,hr2,hg⟩
 refine aY5 hg ?_
 clear hg hL2
 rw[mL]at hr2
 refine zz ?_
 refine aY0 ?_
 refine zk hr2 ?_ ?_<;>intro h1 hr2
 ·refine zz ?_
  refine aY0<|aY2 ?_
  obtain⟨bQ,h_2,hr2⟩:=aA hr2
  refine zz ?_
  exact⟨aYZ.wrap (eO+bQ.Output.Value),aYZ.wrap (x8+1),hr2,(zG [])⟩
 refine zz ?_
 obtain rfl:=sj hr2
 refine zz ?_
 exact hG1 (zG []) (J1 eO hr)
theorem aIN {N p l b r} (hr:vB N p l b=some r):
  Vm.Fn Tryz.prog 53 [] [(cY p),(dO l),(k6 b)] (.tup [(dO r.1),(aJ0 r.2.1),(eI .i64 r.2.2)]) []:=by
 refine zf Tryz.func53 Tryz.ntmps53 ?_
 unfold vB at hr
 refine zz ?_
 refine aY0 ?_
 obtain⟨x25,h_1,hr⟩:=aA hr
 refine zz ?_
 refine xp (aKO h_1) ?_
 refine zz ?_
 refine zk hr ?_ ?_<;>intro h2 hr
 ·refine zz ?_
  refine xw (v:=(.agg ((eI .i64 0)::(aK (eI .u8) (aYY 32 0) [(.row (some true) 1 [])])))) (bV rfl (iZ uV aB8 rfl)) ?_
  refine zz ?_
  obtain rfl:=sj hr
  exact zr3 Tryz.results53 aY aY aY (gF [])
 refine zz ?_
 refine aY0 ?_
 obtain⟨x36,h_3,hr⟩:=aA hr
 obtain⟨q,h_5,hr⟩:=aA hr
 refine AB.rd (cT [25]) (cT []) mixed<|aYV (m:=5) [0,1,2,3,4,5,6,7,8] ?_
 refine zz ?_
 refine xu (vE h_3) ?_
 refine zz ?_
 refine xw (v:=(.agg ((eI .i64 (aYZ.wrap (l.Height+1)))::(aK (eI .u8) x36 [(.row none 37 (l.Coins.map aR))])))) (bV rfl (aE0 (ps':=[(0,(eI .i64 (aYZ.wrap (l.Height+1)))),(1,(.agg (aK (eI .u8) x36 []))),(2,(.row none 37 (l.Coins.map aR)))]) (by simp only[gO (l:=x36) (bP h_5)]<;>rfl) (iZ uV aB8 (by kernel_rfl)))) ?_
 refine zz ?_
 refine aY8 (m:=1) (L:=lst [0,1,2,3,4,5,6,7,8,9,10,11,12] 14) (s1:=aD 153 [(3,(.ptr 0 0)),(5,(.ptr 1 0)),(6,(.ptr 2 0)),(7,(.ptr 3 0)),(10,(.ptr 4 0)),(11,(.ptr 5 0)),(40,(.agg [(.row (some true) 1 [])]))]) (h1:=[some ⟨32,aT p⟩,some ⟨78,bG b⟩,some ⟨35,((eI .i64 0)::(aK (eI .u8) (aYY 32 0) [(.row (some true) 1 [])]))⟩,some ⟨80,[(.row (some true) 1 [])]⟩,some ⟨35,((eI .i64 (aYZ.wrap (l.Height+1)))::(aK (eI .u8) x36 [(.row none 37 (l.Coins.map aR))]))⟩,some ⟨80,[(.row (some true) 1 [])]⟩]) ?_ (fun J=> ?_)
 ·refine aYV (m:=0) [13]<|zz ?_
  refine aY7 (by decide +kernel) ?_
  obtain⟨x44,h_6,hr⟩:=aA hr
  refine zz ?_
  refine xp (qX h_6) ?_
  refine zz ?_
  refine aY3 fun K1 hK1 hG1=> ?_
  have J1: ∀most c3 l5,u4 N l b x36 most c3 l5=some r→K1 (aD 153 [(5,(.ptr 0 0)),(6,(.ptr 1 0)),(7,(.ptr 2 0)),(10,(.ptr 3 0)),(11,(.ptr 4 0)),(12,(eI .i64 most))]) [some ⟨78,bG b⟩,some ⟨35,((eI .i64 0)::(aK (eI .u8) (aYY 32 0) [(.row (some true) 1 [])]))⟩,some ⟨80,[(.row (some true) 1 [])]⟩,some ⟨35,((eI .i64 (aYZ.wrap (l.Height+1)))::(aK (eI .u8) x36 [(.row none 37 (c3.map aR))]))⟩,some ⟨80,[(.sl 5 0 l5.length 37 true)]⟩,some ⟨59,l5.flatMap aQ⟩]:=by
   intro most c3 l5 hr
   unfold u4 at hr
   refine hK1<|aY0<|aY2<|aY0 ?_
   obtain⟨aWU,h_7,hr⟩:=aA hr
   obtain⟨aWx,h_8,hr⟩:=aA hr
   obtain⟨aNT,h_10,hr⟩:=aA hr
   refine aZa mixed [] [89,90] [[0,1,2,3,4,5,6,7,8,9,10]]<|zz ?_
   refine zg (aAR h_8) [] ?_
   refine zgL (aFa h_10) [] [6] ?_
   refine zz ?_
   refine zk hr ?_ ?_<;>intro h12 hr
   ·refine zz ?_
    refine xw (v:=(.agg ((eI .i64 0)::(aK (eI .u8) (aYY 32 0) [(.row (some true) 1 [])])))) (bV rfl (iZ uV aB8 rfl)) ?_
    refine zz ?_
    obtain rfl:=sj hr
    exact zr3 Tryz.results53 aY aY aY (gF [])
   obtain⟨aVQ,h_13,hr⟩:=aA hr
   refine zz ?_
   refine xp (aFa h_13) ?_
   refine zz ?_
   refine zk hr ?_ ?_<;>intro h14 hr
   ·refine zz ?_
    refine xw (v:=(.agg ((eI .i64 0)::(aK (eI .u8) (aYY 32 0) [(.row (some true) 1 [])])))) (bV rfl (iZ uV aB8 rfl)) ?_
    refine zz ?_
    obtain rfl:=sj hr
    exact zr3 Tryz.results53 aY aY aY (gF [])
   refine zz ?_
   refine zk hr ?_ ?_<;>intro h15 hr
   ·refine zz ?_
    refine xw (v:=(.agg ((eI .i64 0)::(aK (eI .u8) (aYY 32 0) [(.row (some true) 1 [])])))) (bV rfl (iZ uV aB8 rfl)) ?_
    refine zz ?_
    obtain rfl:=sj hr
    exact zr3 Tryz.results53 aY aY aY (gF [])
   refine zz ?_
   refine aY0<|AB.rd (cT []) (cT []) mixed<|aYV (m:=4) [0] ?_
   refine zz ?_
   refine aY8 (m:=2) (L:=lst [0,1,2] 5) (s1:=aD 153 [(6,(.ptr 0 0)),(7,(.ptr 1 0)),(152,(.agg [(.sl 2 0 l5.length 37 true)]))]) (h1:=[some ⟨35,((eI .i64 (aYZ.wrap (l.Height+1)))::(aK (eI .u8) x36 [(.row none 37 (c3.map aR))]))⟩,some ⟨80,[(.row (some true) 1 [])]⟩,some ⟨59,l5.flatMap aQ⟩]) ?_ (fun J=> ?_)
   ·refine aYV (m:=0) [3,4]<|zz ?_
    refine aY7 (by decide +kernel) ?_
    refine zz ?_
    obtain rfl:=sj hr
    exact zr3 Tryz.results53 aY aY aY (aY4 (o6 [1,1,0]) (zG []))
   refine aYX (n:=3) [1,2] ⟨?_, ?_,trivial⟩
   ·refine zz ?_
    refine aYV (m:=2) [2]<|zz ?_
    refine aYW J ?_
    exact(zG [1,2,5])
   refine zz ?_
   refine aYV (m:=2) [1]<|zz ?_
   refine aYW J ?_
   exact(zG [1,2,5])
  obtain⟨bB,hL2,hr⟩:=aA hr
  refine zz ?_
  refine aY2<|aY6 (fun m s h=> ∃lC x48 c4 l6,eH N p l b x36 m lC x48 c4 l6=some bB∧Ghost 0 s h (aD 153 [(3,(.ptr 0 0)),(5,(.ptr 1 0)),(6,(.ptr 2 0)),(7,(.ptr 3 0)),(10,(.ptr 4 0)),(11,(.ptr 5 0)),(12,(eI .i64 lC)),(46,(.row none 4 (b.Txs.map cK))),(47,(eI .i64 (b.Txs.length:Int))),(48,(eI .i64 x48))]) [some ⟨32,aT p⟩,some ⟨78,bG b⟩,some ⟨35,((eI .i64 0)::(aK (eI .u8) (aYY 32 0) [(.row (some true) 1 [])]))⟩,some ⟨80,[(.row (some true) 1 [])]⟩,some ⟨35,((eI .i64 (aYZ.wrap (l.Height+1)))::(aK (eI .u8) x36 [(.row none 37 (c4.map aR))]))⟩,some ⟨80,[(.sl 6 0 l6.length 37 true)]⟩,some ⟨59,l6.flatMap aQ⟩]) ⟨x44,0,l.Coins,[],hL2,(aY4 (Ghost.virt (fr':=[(3,(.ptr 0 0)),(5,(.ptr 1 0)),(6,(.ptr 2 0)),(7,(.ptr 3 0)),(10,(.ptr 4 0)),(11,(.ptr 5 0)),(12,(eI .i64 x44)),(46,(.row none 4 (b.Txs.map cK))),(47,(eI .i64 (b.Txs.length:Int))),(48,(eI .i64 0))]) (h1:=[some ⟨32,aT p⟩,some ⟨78,bG b⟩,some ⟨35,((eI .i64 0)::(aK (eI .u8) (aYY 32 0) [(.row (some true) 1 [])]))⟩,some ⟨80,[(.row (some true) 1 [])]⟩,some ⟨35,((eI .i64 (aYZ.wrap (l.Height+1)))::(aK (eI .u8) x36 [(.row none 37 (l.Coins.map aR))]))⟩,some ⟨80,[(.sl 6 0 0 37 true)]⟩]) 59 (FLe.same rfl (FLe.same rfl (FLe.same rfl (FLe.same rfl (FLe.same rfl (FLe.same rfl (FLe.same rfl (FLe.same rfl (FLe.same rfl (FLe.same rfl FLe.nil)))))))))) (HLv.live (V.les_refl _ _) rfl (HLv.live (V.les_refl _ _) rfl (HLv.live (V.les_refl _ _) rfl (HLv.live (V.les_refl _ _) rfl (HLv.live (V.les_refl _ _) rfl (HLv.live (V.les_cons (V.le_virt rfl) V.les_nil) rfl HLv.nil))))))) (gF [0,1,2,3,4,5,6]))⟩ ?_
  rintro m2 s h ⟨lC,x48,c4,l6,hr2,hg⟩
  refine aY5 hg ?_
  clear hg hL2
  rw[eH]at hr2
  refine zz ?_
  refine aY0 ?_
  refine zk hr2 ?_ ?_<;>intro h16 hr2
  ·refine zz ?_
   refine aY0<|aY2 ?_
   obtain⟨x51,h_17,hr2⟩:=aA hr2
   refine zz ?_
   refine aY3 fun K3 hK3 hG3=> ?_
   have J3: ∀aFq aM5 l7,nD N p l b x36 x48 x51 (eH N p l b x36 m2) aFq aM5 l7=some bB→K3 (aD 153 [(3,(.ptr 0 0)),(5,(.ptr 1 0)),(6,(.ptr 2 0)),(7,(.ptr 3 0)),(10,(.ptr 4 0)),(11,(.ptr 5 0)),(12,(eI .i64 aFq)),(14,(.ptr 6 0)),(46,(.row none 4 (b.Txs.map cK))),(47,(eI .i64 (b.Txs.length:Int))),(48,(eI .i64 x48))]) [some ⟨32,aT p⟩,some ⟨78,bG b⟩,some ⟨35,((eI .i64 0)::(aK (eI .u8) (aYY 32 0) [(.row (some true) 1 [])]))⟩,some ⟨80,[(.row (some true) 1 [])]⟩,some ⟨35,((eI .i64 (aYZ.wrap (l.Height+1)))::(aK (eI .u8) x36 [(.row none 37 (aM5.map aR))]))⟩,some ⟨80,[(.sl 7 0 l7.length 37 true)]⟩,some ⟨117,aZ x51⟩,some ⟨59,l7.flatMap aQ⟩]:=by
    intro aFq aM5 l7 hr2
    unfold nD at hr2
    refine hK3 ?_
    obtain⟨aGT,h_18,hr2⟩:=aA hr2
    refine zz ?_
    refine xp (aOj h_18) ?_
    refine zz ?_
    refine aY0<|zz ?_
    refine zk hr2 ?_ ?_<;>intro h19 hr2
    ·refine zz ?_
     refine xw (v:=(.agg ((eI .i64 0)::(aK (eI .u8) (aYY 32 0) [(.row (some true) 1 [])])))) (bV rfl (iZ uV aB8 rfl)) ?_
     refine zz ?_
     obtain rfl:=sj hr2
     obtain rfl:=sj hr
     exact zr3 Tryz.results53 aY aY aY (gF [])
    refine zz ?_
    exact⟨aFq,aYZ.wrap (x48+1),aGT.1,l7,hr2,(zG [0,1,2,3,4,5,7])⟩
   refine zz ?_
   refine zk hr2 ?_ ?_<;>intro h20 hr2
   ·obtain⟨x62,h_21,hr2⟩:=aA hr2
    refine zz ?_
    refine zc (aKW h_21) [] ?_
    refine zz ?_
    refine aY0<|zz ?_
    refine zk hr2 ?_ ?_<;>intro h22 hr2
    ·refine zz ?_
     refine xw (v:=(.agg ((eI .i64 0)::(aK (eI .u8) (aYY 32 0) [(.row (some true) 1 [])])))) (bV rfl (iZ uV aB8 rfl)) ?_
     refine zz ?_
     obtain rfl:=sj hr2
     obtain rfl:=sj hr
     exact zr3 Tryz.results53 aY aY aY (gF [])
    obtain⟨x75,h_23,hr2⟩:=aA hr2
    refine zz ?_
    refine gV (aKw h_23) [] [8] ?_
    refine zz ?_
    refine aY0<|zz ?_
    refine zk hr2 ?_ ?_<;>intro h24 hr2
    ·refine zz ?_
     refine xw (v:=(.agg ((eI .i64 0)::(aK (eI .u8) (aYY 32 0) [(.row (some true) 1 [])])))) (bV rfl (iZ uV aB8 rfl)) ?_
     refine zz ?_
     obtain rfl:=sj hr2
     obtain rfl:=sj hr
     exact zr3 Tryz.results53 aY aY aY (gF [])
    refine zz ?_
    refine aY3 fun K4 hK4 hG4=> ?_
    have J4: ∀aK1,uY N p l b x36 lC x48 l6 x51 x62 x75 (eH N p l b x36 m2) aK1=some bB→K4 (aD 153 [(3,(.ptr 0 0)),(5,(.ptr 1 0)),(6,(.ptr 2 0)),(7,(.ptr 3 0)),(10,(.ptr 4 0)),(11,(.ptr 5 0)),(12,(eI .i64 lC)),(14,(.ptr 6 0)),(15,(.sl 7 0 x62.1.length 37 true)),(17,(eI .i64 x75.1)),(46,(.row none 4 (b.Txs.map cK))),(47,(eI .i64 (b.Txs.length:Int))),(48,(eI .i64 x48))]) [some ⟨32,aT p⟩,some ⟨78,bG b⟩,some ⟨35,((eI .i64 0)::(aK (eI .u8) (aYY 32 0) [(.row (some true) 1 [])]))⟩,some ⟨80,[(.row (some true) 1 [])]⟩,some ⟨35,((eI .i64 (aYZ.wrap (l.Height+1)))::(aK (eI .u8) x36 [(.row none 37 (aK1.map aR))]))⟩,some ⟨80,[(.sl 8 0 l6.length 37 true)]⟩,some ⟨117,aZ x51⟩,some ⟨59,x62.1.flatMap aQ⟩,some ⟨59,l6.flatMap aQ⟩]:=by
     intro aK1 hr2
     unfold uY at hr2
     refine hK4 ?_
     obtain⟨aKQ,h_25,hr2⟩:=aA hr2
     refine zz ?_
     exact hG3 (zG [0,1,2,3,4,5,6,9]) (J3 (aYZ.wrap (lC+x75.1)) aK1 aKQ hr2)
    obtain⟨res5,hL5,hr2⟩:=aA hr2
    refine zz ?_
    refine aY2<|aY6 (fun m s h=> ∃x85 c4_3,kF N p l b x36 lC x48 l6 x51 x62 x75 m x85 c4_3=some res5∧Ghost 0 s h (aD 153 [(3,(.ptr 0 0)),(5,(.ptr 1 0)),(6,(.ptr 2 0)),(7,(.ptr 3 0)),(10,(.ptr 4 0)),(11,(.ptr 5 0)),(12,(eI .i64 lC)),(14,(.ptr 6 0)),(15,(.sl 7 0 x62.1.length 37 true)),(17,(eI .i64 x75.1)),(46,(.row none 4 (b.Txs.map cK))),(47,(eI .i64 (b.Txs.length:Int))),(48,(eI .i64 x48)),(83,(.sl 7 0 x62.1.length 37 true)),(84,(eI .i64 (x62.1.length:Int))),(85,(eI .i64 x85))]) [some ⟨32,aT p⟩,some ⟨78,bG b⟩,some ⟨35,((eI .i64 0)::(aK (eI .u8) (aYY 32 0) [(.row (some true) 1 [])]))⟩,some ⟨80,[(.row (some true) 1 [])]⟩,some ⟨35,((eI .i64 (aYZ.wrap (l.Height+1)))::(aK (eI .u8) x36 [(.row none 37 (c4_3.map aR))]))⟩,some ⟨80,[(.sl 8 0 l6.length 37 true)]⟩,some ⟨117,aZ x51⟩,some ⟨59,x62.1.flatMap aQ⟩,some ⟨59,l6.flatMap aQ⟩]) ⟨0,c4,hL5,(zG [0,1,2,3,4,5,7,8,6])⟩ ?_
    rintro m5 s h ⟨x85,c4_3,hr5,hg⟩
    refine aY5 hg ?_
    clear hg hL5
    rw[kF]at hr5
    refine zz ?_
    refine aY0 ?_
    refine zk hr5 ?_ ?_<;>intro h26 hr5
    ·refine zz ?_
     refine aY0<|aY2 ?_
     obtain⟨x87,h_27,hr5⟩:=aA hr5
     refine zz ?_
     refine xw (v:=(aR x87)) (aS rfl (bR (C:=aQ) (K:=37) (fun _=>rfl) rfl h_27 (bJ (ds:=(aK (eI .u8) x87.Out.Tx [(eI .u32 x87.Out.Index),(eI .i64 x87.Output.Value),(.row none 1 (x87.Output.Script.map (eI .u8))),(eI .i64 x87.Height),(eB x87.Coinbase)])) yA rfl zl rfl))) ?_
     obtain⟨x95,h_28,hr5⟩:=aA hr5
     obtain⟨x96,h_30,hr5⟩:=aA hr5
     refine zz ?_
     refine aZa mixed [31] [87] [[0,1,2,3,4,5,6,7,8,9]]<|zz ?_
     refine xu (aAG h_28)<|zg (aIH h_30) [] ?_
     refine zz ?_
     exact⟨aYZ.wrap (x85+1),x96,hr5,(aY4 (o6 [1,1,1,1,1,1,1,1,1,1,0]) (zG [0,1,2,3,4,5,6,7,8]))⟩
    refine zz ?_
    obtain rfl:=sj hr5
    refine zz ?_
    exact hG4 (zG [0,1,2,3,4,5,6,7,8]) (J4 c4_3 hr2)
   refine zz ?_
   exact hG3 (zG [0,1,2,3,4,5,7,6]) (J3 lC c4 l6 hr2)
  refine zz ?_
  obtain rfl:=sj hr2
  refine zz ?_
  exact hG1 (zG [1,2,3,4,5,6]) (J1 lC c4 l6 hr)
 refine aYX (n:=4) [9,10,11] ⟨?_, ?_, ?_,trivial⟩
 ·refine zz ?_
  refine aYX (n:=3) [10,11] ⟨?_, ?_,trivial⟩
  ·refine zz ?_
   refine aYV (m:=1) [11,12]<|zz ?_
   refine aYW J ?_
   exact(zG [0,2,3,4,5,6])
  refine zz ?_
  refine aYV (m:=1) [10,12]<|zz ?_
  refine aYW J ?_
  exact(zG [0,2,3,4,6,5])
 ·refine zz ?_
  refine aYV (m:=3) [11]<|zz ?_
  refine aYX (n:=2) [9,12] ⟨?_, ?_,trivial⟩
  ·refine zz ?_
   refine aYV (m:=1) [12]<|zz ?_
   refine aYW J ?_
   exact(zG [0,2,3,4,5,6])
  refine zz ?_
  refine aYV (m:=1) [9]<|zz ?_
  refine aYW J ?_
  exact(zG [0,2,3,4,5,6])
 refine zz ?_
 refine aYV (m:=3) [10]<|zz ?_
 refine aYX (n:=2) [9,12] ⟨?_, ?_,trivial⟩
 ·refine zz ?_
  refine aYV (m:=1) [12]<|zz ?_
  refine aYW J ?_
  exact(zG [0,2,3,4,6,5])
 refine zz ?_
 refine aYV (m:=1) [9]<|zz ?_
 refine aYW J ?_
 exact(zG [0,2,3,4,6,5])
theorem aMt {N p c r} (hr:aDJ N p c=some r):
  Vm.Fn Tryz.prog 94 [] [(cY p),(iS c)] (eB r) []:=by
 refine zf Tryz.func94 Tryz.ntmps94 ?_
 unfold aDJ at hr
 refine zz ?_
 refine aY3 fun K1 hK1 hG1=> ?_
 have J1: ∀x4,oU N x4=some r→K1 (aD 27 [(4,(eB x4))]) []:=by
  intro x4 hr
  unfold oU at hr
  refine hK1<|zz ?_
  obtain rfl:=sj hr
  exact aX Tryz.results94 []
 obtain⟨x6,h_1,hr⟩:=aA hr
 rcases aY1 x6 with h2|h2
 ·replace hr:=bY hr h2
  rcases aY1 (decide (0≤c.Height))with h3|h3
  ·replace hr:=bY hr h3
   rcases aY1 (decide (c.Height≤16777216))with h4|h4
   ·replace hr:=bY hr h4
    refine xr<|zz ?_
    refine xp (dS h_1) ?_
    refine zz ?_
    refine xSg (v:=(eI .i64 (if 11<(aYZ.wrap (c.Height+1))then 11 else(aYZ.wrap (c.Height+1))))) rfl rfl h4 (aML rfl aMF) ?_
    refine zz ?_
    exact hG1 (zG []) (J1 ((c.Times.length:Int) == (if 11<(aYZ.wrap (c.Height+1))then 11 else(aYZ.wrap (c.Height+1)))) hr)
   replace hr:=bX hr h4
   refine xr<|zz ?_
   refine xp (dS h_1) ?_
   refine zz ?_
   exact hG1 (zG []) (J1 false hr)
  replace hr:=bX hr h3
  refine xr<|zz ?_
  refine xp (dS h_1) ?_
  refine zz ?_
  refine xX rfl<|xX rfl<|xX rfl<|xX rfl<|xX rfl<|xX rfl<|xX rfl<|xX rfl ?_
  refine zz ?_
  exact hG1 (zG []) (J1 false hr)
 replace hr:=bX hr h2
 refine xr<|zz ?_
 refine xp (dS h_1) ?_
 refine zz ?_
 refine xX rfl<|xX rfl<|xX rfl ?_
 refine zz ?_
 refine xX rfl<|xX rfl<|xX rfl<|xX rfl<|xX rfl<|xX rfl<|xX rfl<|xX rfl ?_
 refine zz ?_
 exact hG1 (zG []) (J1 false hr)
theorem aD8 {N p c vh r} (hr:rE N p c vh=some r):
  Vm.Fn Tryz.prog 55 [] [(cY p),(iS c),(qM vh)] (.tup [(iS r.1),(eI .i64 r.2)]) []:=by
 refine zf Tryz.func55 Tryz.ntmps55 ?_
 unfold rE at hr
 refine zz ?_
 refine aY0 ?_
 obtain⟨b8,h_1,hr⟩:=aA hr
 refine zz ?_
 refine xp (aMt h_1) ?_
 refine zz ?_
 refine zk hr ?_ ?_<;>intro h2 hr
 ·refine zz ?_
  refine xw (v:=(.agg ((eI .i64 0)::(aK (eI .u8) (aYY 32 0) [(eI .u32 0),(eI .u32 0),(.row (some true) 1 [])])))) (bV rfl (iZ bI aGn rfl)) ?_
  refine zz ?_
  obtain rfl:=sj hr
  exact kS Tryz.results55 aY aY (gF [])
 refine zz ?_
 refine aY0<|zz ?_
 refine zk hr ?_ ?_<;>intro h3 hr
 ·refine zz ?_
  refine xw (v:=(.agg ((eI .i64 0)::(aK (eI .u8) (aYY 32 0) [(eI .u32 0),(eI .u32 0),(.row (some true) 1 [])])))) (bV rfl (iZ bI aGn rfl)) ?_
  refine zz ?_
  obtain rfl:=sj hr
  exact kS Tryz.results55 aY aY (gF [])
 refine zz ?_
 refine aY0 ?_
 obtain⟨bW,h_4,hr⟩:=aA hr
 obtain⟨q,h_6,hr⟩:=aA hr
 refine aZa mixed [25] [] [[0,1,2,3,4,5,6,7,8,9,10,11]]<|zz ?_
 refine xu (vE h_4) ?_
 refine zz ?_
 refine xw (v:=(.agg ((eI .i64 (aYZ.wrap (c.Height+1)))::(aK (eI .u8) bW [(eI .u32 vh.Bits),(eI .u32 c.First),(.row (some true) 1 [])])))) (bV rfl (aE0 (ps':=[(0,(eI .i64 (aYZ.wrap (c.Height+1)))),(1,(.agg (aK (eI .u8) bW []))),(2,(eI .u32 vh.Bits)),(3,(eI .u32 c.First))]) (by simp only[gO (l:=bW) (bP h_6)]<;>rfl) (iZ bI aGn (by kernel_rfl)))) ?_
 refine zz ?_
 refine aY3 fun K1 hK1 hG1=> ?_
 have J1: ∀c3,mW N c vh bW c3=some r→K1 (aD 54 [(4,(.ptr 0 0)),(5,(.ptr 1 0)),(6,(.ptr 2 0)),(8,(.ptr 3 0))]) [some ⟨102,aE c⟩,some ⟨26,nS vh⟩,some ⟨102,((eI .i64 0)::(aK (eI .u8) (aYY 32 0) [(eI .u32 0),(eI .u32 0),(.row (some true) 1 [])]))⟩,some ⟨102,((eI .i64 (aYZ.wrap (c.Height+1)))::(aK (eI .u8) bW [(eI .u32 vh.Bits),(eI .u32 c3),(.row (some true) 1 [])]))⟩]:=by
  intro c3 hr
  unfold mW at hr
  refine hK1<|aY0 ?_
  obtain⟨x39,h_7,hr⟩:=aA hr
  obtain⟨x43,h_8,hr⟩:=aA hr
  refine AB.rd (cT []) (cT []) mixed<|aYV (m:=5) [0,1,3,4] ?_
  refine zz ?_
  refine aY8 (m:=3) (L:=lst [0,1,2,3,4,5] 9) (s1:=aD 54 [(6,(.ptr 0 0)),(8,(.ptr 1 0)),(39,(.sl 2 0 x39.length 1 false)),(42,(.sl 3 0 1 1 false))]) (h1:=[some ⟨102,((eI .i64 0)::(aK (eI .u8) (aYY 32 0) [(eI .u32 0),(eI .u32 0),(.row (some true) 1 [])]))⟩,some ⟨102,((eI .i64 (aYZ.wrap (c.Height+1)))::(aK (eI .u8) bW [(eI .u32 vh.Bits),(eI .u32 c3),(.row (some true) 1 [])]))⟩,some ⟨22,x39.map (eI .u32)⟩,some ⟨22,[vh.Time].map (eI .u32)⟩]) ?_ (fun J=> ?_)
  ·refine aYV (m:=0) [6,7,8]<|zz ?_
   refine aY7 (by decide +kernel) ?_
   refine zz ?_
   refine aY3 fun K2 hK2 hG2=> ?_
   have J2: ∀c1,qE N c vh bW c3 c1=some r→K2 (aD 54 [(6,(.ptr 0 0)),(8,(.ptr 1 0))]) [some ⟨102,((eI .i64 0)::(aK (eI .u8) (aYY 32 0) [(eI .u32 0),(eI .u32 0),(.row (some true) 1 [])]))⟩,some ⟨102,((eI .i64 (aYZ.wrap (c.Height+1)))::(aK (eI .u8) bW [(eI .u32 vh.Bits),(eI .u32 c3),(.row none 1 (c1.map (eI .u32)))]))⟩]:=by
    intro c1 hr
    unfold qE at hr
    refine hK2<|zz ?_
    obtain rfl:=sj hr
    exact kS Tryz.results55 aY aY (zG [])
   refine zz ?_
   refine zk hr ?_ ?_<;>intro h9 hr
   ·obtain⟨x51,h_10,hr⟩:=aA hr
    refine zz ?_
    refine OpsX.ghost (o6 [1,1,0,1,0]) ?_
    refine zz ?_
    exact hG2 (zG [0,1]) (J2 x51 hr)
   refine zz ?_
   exact hG2 (aY4 (o6 [1,1,0,1,0]) (zG [0,1])) (J2 x43 hr)
  refine aYX (n:=4) [2,5] ⟨?_, ?_,trivial⟩
  ·refine zz ?_
   refine aYV (m:=3) [5]<|zz ?_
   refine aYW J ?_
   exact(zG [2,3,5,6])
  refine zz ?_
  refine aYV (m:=3) [2]<|zz ?_
  refine aYW J ?_
  exact(zG [2,3,6,4])
 obtain⟨g6,h_11,hr⟩:=aA hr
 refine zz ?_
 refine zk hr ?_ ?_<;>intro h12 hr
 ·refine zz ?_
  exact hG1 (zG [1,2,3,4]) (J1 vh.Time hr)
 refine zz ?_
 exact hG1 (zG [1,2,3,4]) (J1 c.First hr)
theorem aKJ {N p c vh now r} (hr:z5 N p c vh now=some r):
  Vm.Fn Tryz.prog 54 [] [(cY p),(iS c),(qM vh),(eI .u32 now)] (eI .i64 r) []:=by
 refine zf Tryz.func54 Tryz.ntmps54 ?_
 unfold z5 at hr
 obtain⟨x18,h_1,hr⟩:=aA hr
 refine zz ?_
 refine xp (aD8 h_1) ?_
 refine zz ?_
 refine aY0<|zz ?_
 refine zk hr ?_ ?_<;>intro h2 hr
 ·refine zz ?_
  obtain rfl:=sj hr
  exact aX Tryz.results54 []
 refine zz ?_
 refine aY0 ?_
 obtain⟨q,h_3,hr⟩:=aA hr
 obtain⟨q_1,h_4,hr⟩:=aA hr
 refine zz ?_
 refine zk hr ?_ ?_<;>intro h5 hr
 ·refine zz ?_
  obtain rfl:=sj hr
  exact aX Tryz.results54 []
 refine zz ?_
 refine aY0<|zz ?_
 refine zk hr ?_ ?_<;>intro h6 hr
 ·refine zz ?_
  obtain rfl:=sj hr
  exact aX Tryz.results54 []
 obtain⟨x37,h_7,hr⟩:=aA hr
 refine zz ?_
 refine xp (aGG h_7) ?_
 refine zz ?_
 refine aY0<|zz ?_
 refine zk hr ?_ ?_<;>intro h8 hr
 ·refine zz ?_
  obtain rfl:=sj hr
  exact aX Tryz.results54 []
 refine zz ?_
 refine aY0<|aY2 ?_
 refine zz ?_
 refine zk hr ?_ ?_<;>intro h9 hr
 ·refine zz ?_
  obtain rfl:=sj hr
  exact aX Tryz.results54 []
 obtain⟨q_2,h_10,hr⟩:=aA hr
 obtain⟨x53,h_11,hr⟩:=aA hr
 refine zz ?_
 refine xp (aFz h_11) ?_
 refine zz ?_
 refine zk hr ?_ ?_<;>intro h12 hr
 ·refine zz ?_
  obtain rfl:=sj hr
  exact aX Tryz.results54 []
 refine aY0 ?_
 obtain⟨x60,h_13,hr⟩:=aA hr
 refine aZa mixed [93] [] [[0,1,2,3,4,5,6]]<|zz ?_
 refine xu (aEz h_13) ?_
 refine zz ?_
 refine zk hr ?_ ?_<;>intro h15 hr
 ·refine zz ?_
  obtain rfl:=sj hr
  exact aX Tryz.results54 []
 refine zz ?_
 refine zk hr ?_ ?_<;>intro h16 hr
 ·refine zz ?_
  obtain rfl:=sj hr
  exact aX Tryz.results54 []
 refine zz ?_
 refine aY3 fun K1 hK1 hG1=> ?_
 have J1:aCx N=some r→K1 (aD 93 []) []:=by
  intro hr
  unfold aCx at hr
  refine hK1<|zz ?_
  obtain rfl:=sj hr
  exact aX Tryz.results54 []
 obtain⟨bB,hL2,hr⟩:=aA hr
 refine zz ?_
 refine aY2<|aY6 (fun m s h=> ∃x76,kV N p x18 m x76=some bB∧Ghost 0 s h (aD 93 [(9,(.ptr 0 0)),(74,(.row none 33 (p.Checkpoints.map cR))),(75,(eI .i64 (p.Checkpoints.length:Int))),(76,(eI .i64 x76))]) [some ⟨102,aE x18.1⟩]) ⟨0,hL2,(zG [3])⟩ ?_
 rintro m2 s h ⟨x76,hr2,hg⟩
 refine aY5 hg ?_
 clear hg hL2
 rw[kV]at hr2
 refine zz ?_
 refine aY0 ?_
 refine zk hr2 ?_ ?_<;>intro h17 hr2
 ·refine zz ?_
  refine aY0<|aY2 ?_
  obtain⟨x78,h_18,hr2⟩:=aA hr2
  refine zz ?_
  refine aY3 fun K3 hK3 hG3=> ?_
  have J3: ∀x91,yX N p x18 x76 (kV N p x18 m2) x91=some bB→K3 (aD 93 [(9,(.ptr 0 0)),(74,(.row none 33 (p.Checkpoints.map cR))),(75,(eI .i64 (p.Checkpoints.length:Int))),(76,(eI .i64 x76)),(91,(eB x91))]) [some ⟨102,aE x18.1⟩]:=by
   intro x91 hr2
   unfold yX at hr2
   refine hK3 ?_
   refine zk hr2 ?_ ?_<;>intro h19 hr2
   ·refine zz ?_
    obtain rfl:=sj hr2
    obtain rfl:=sj hr
    exact aX Tryz.results54 []
   refine zz ?_
   exact⟨aYZ.wrap (x76+1),hr2,(zG [0])⟩
  rcases aY1 (x78.Height == x18.1.Height)with h20|h20
  ·replace hr2:=bY hr2 h20
   obtain⟨q_3,h_21,hr2⟩:=aA hr2
   refine xr<|zz ?_
   exact hG3 (zG [0]) (J3 (!(x78.Hash == x18.1.Hash)) hr2)
  replace hr2:=bX hr2 h20
  refine xr<|zz ?_
  exact hG3 (zG [0]) (J3 false hr2)
 refine zz ?_
 obtain rfl:=sj hr2
 refine zz ?_
 exact hG1 (zG []) (J1 hr)
theorem aOp {N vw l r} (hr:aCZ N vw l=some r):
  Vm.Fn Tryz.prog 33 [] [(gM vw),(.row none 1 (l.map (eI .u8)))] (gM r) []:=by
 refine zf Tryz.func33 Tryz.ntmps33 ?_
 unfold aCZ at hr
 refine zz ?_
 refine aY0 ?_
 obtain⟨x15,h_1,hr⟩:=aA hr
 obtain⟨x18,h_2,hr⟩:=aA hr
 refine aZa mixed [] [] [[0,1,2,3,4,5,6,7,8,9]]<|zz ?_
 refine aY0 ?_
 obtain⟨eQ,h_3,hr⟩:=aA hr
 obtain⟨x26,h_4,hr⟩:=aA hr
 refine aZa mixed [] [] [[0,1,2,3,4,5,6,7,8,9]]<|zz ?_
 refine aY3 fun K1 hK1 hG1=> ?_
 have J1: ∀l2 l3 l4 l5,aEc N vw l2 l3 l4 l5=some r→K1 (aD 112 [(2,(.ptr 0 0)),(4,(.ptr 1 0))]) [some ⟨54,((eI .u32 vw.Params.Genesis.Version)::(aK (eI .u8) vw.Params.Genesis.Prev (aK (eI .u8) vw.Params.Genesis.Root ((eI .u32 vw.Params.Genesis.Time)::((eI .u32 vw.Params.Genesis.Bits)::((eI .u32 vw.Params.Genesis.Nonce)::(jQ (eI .u64) vw.Params.Limit [(eI .i64 vw.Params.Window),(eI .u32 vw.Params.Spacing),(eI .u32 vw.Params.Future),(eI .u32 vw.Params.Version),(.row none 33 (vw.Params.Checkpoints.map cR)),(eI .i64 vw.Params.Subsidy),(eI .i64 vw.Params.Halving),(eI .i64 vw.Params.Maturity),(.sl 2 0 l2.length 69 true),(.sl 3 0 l3.length 34 true),(.sl 4 0 l4.length 36 true),(.sl 5 0 l5.length 1 true)])))))))⟩,some ⟨54,((eI .u32 0)::(aK (eI .u8) (aYY 32 0) (aK (eI .u8) (aYY 32 0) ((eI .u32 0)::((eI .u32 0)::((eI .u32 0)::(jQ (eI .u64) (aYY 4 0) [(eI .i64 0),(eI .u32 0),(eI .u32 0),(eI .u32 0),(.row (some true) 1 []),(eI .i64 0),(eI .i64 0),(eI .i64 0),(.row (some true) 1 []),(.row (some true) 1 []),(.row (some true) 1 []),(.row (some true) 1 [])])))))))⟩,some ⟨78,l2.flatMap bG⟩,some ⟨35,l3.flatMap aN⟩,some ⟨102,l4.flatMap aE⟩,some ⟨80,l5.flatMap b4⟩]:=by
  intro l2 l3 l4 l5 hr
  unfold aEc at hr
  refine hK1<|zz ?_
  obtain rfl:=sj hr
  exact gL Tryz.results33 aY (aY4 (o6 [1,1,0,1,1,1]) (aY4 (o6 [1,1,0,0,1,1]) (aY4 (o6 [1,1,0,0,0,1]) (aY4 (o6 [1,1,0,0,0,0]) (zG [])))))
 obtain⟨bB,hL2,hr⟩:=aA hr
 refine zz ?_
 refine aY2<|aY6 (fun m s h=> ∃cO dJ eY fR jY,iH N vw l m cO dJ eY fR jY=some bB∧Ghost 0 s h (aD 112 [(2,(.ptr 0 0)),(4,(.ptr 1 0)),(29,(.row none 1 (l.map (eI .u8)))),(30,(eI .i64 (l.length:Int))),(31,(eI .i64 cO))]) [some ⟨54,((eI .u32 vw.Params.Genesis.Version)::(aK (eI .u8) vw.Params.Genesis.Prev (aK (eI .u8) vw.Params.Genesis.Root ((eI .u32 vw.Params.Genesis.Time)::((eI .u32 vw.Params.Genesis.Bits)::((eI .u32 vw.Params.Genesis.Nonce)::(jQ (eI .u64) vw.Params.Limit [(eI .i64 vw.Params.Window),(eI .u32 vw.Params.Spacing),(eI .u32 vw.Params.Future),(eI .u32 vw.Params.Version),(.row none 33 (vw.Params.Checkpoints.map cR)),(eI .i64 vw.Params.Subsidy),(eI .i64 vw.Params.Halving),(eI .i64 vw.Params.Maturity),(.sl 2 0 dJ.length 69 true),(.sl 3 0 eY.length 34 true),(.sl 4 0 fR.length 36 true),(.sl 5 0 jY.length 1 true)])))))))⟩,some ⟨54,((eI .u32 0)::(aK (eI .u8) (aYY 32 0) (aK (eI .u8) (aYY 32 0) ((eI .u32 0)::((eI .u32 0)::((eI .u32 0)::(jQ (eI .u64) (aYY 4 0) [(eI .i64 0),(eI .u32 0),(eI .u32 0),(eI .u32 0),(.row (some true) 1 []),(eI .i64 0),(eI .i64 0),(eI .i64 0),(.row (some true) 1 []),(.row (some true) 1 []),(.row (some true) 1 []),(.row (some true) 1 [])])))))))⟩,some ⟨78,dJ.flatMap bG⟩,some ⟨35,eY.flatMap aN⟩,some ⟨102,fR.flatMap aE⟩,some ⟨80,jY.flatMap b4⟩]) ⟨0,x15,eQ,x26,x18,hL2,(zG [0,1,3,7,9,5])⟩ ?_
 rintro m2 s h ⟨cO,dJ,eY,fR,jY,hr2,hg⟩
 refine aY5 hg ?_
 clear hg hL2
 rw[iH]at hr2
 refine zz ?_
 refine aY0 ?_
 refine zk hr2 ?_ ?_<;>intro h5 hr2
 ·refine zz ?_
  refine aY3 fun K3 hK3 hG3=> ?_
  have J3: ∀yC j8 v8 aIX,xE N vw l cO (iH N vw l m2) yC j8 v8 aIX=some bB→K3 (aD 112 [(2,(.ptr 0 0)),(4,(.ptr 1 0)),(29,(.row none 1 (l.map (eI .u8)))),(30,(eI .i64 (l.length:Int))),(31,(eI .i64 cO))]) [some ⟨54,((eI .u32 vw.Params.Genesis.Version)::(aK (eI .u8) vw.Params.Genesis.Prev (aK (eI .u8) vw.Params.Genesis.Root ((eI .u32 vw.Params.Genesis.Time)::((eI .u32 vw.Params.Genesis.Bits)::((eI .u32 vw.Params.Genesis.Nonce)::(jQ (eI .u64) vw.Params.Limit [(eI .i64 vw.Params.Window),(eI .u32 vw.Params.Spacing),(eI .u32 vw.Params.Future),(eI .u32 vw.Params.Version),(.row none 33 (vw.Params.Checkpoints.map cR)),(eI .i64 vw.Params.Subsidy),(eI .i64 vw.Params.Halving),(eI .i64 vw.Params.Maturity),(.sl 2 0 yC.length 69 true),(.sl 3 0 j8.length 34 true),(.sl 4 0 v8.length 36 true),(.sl 5 0 aIX.length 1 true)])))))))⟩,some ⟨54,((eI .u32 0)::(aK (eI .u8) (aYY 32 0) (aK (eI .u8) (aYY 32 0) ((eI .u32 0)::((eI .u32 0)::((eI .u32 0)::(jQ (eI .u64) (aYY 4 0) [(eI .i64 0),(eI .u32 0),(eI .u32 0),(eI .u32 0),(.row (some true) 1 []),(eI .i64 0),(eI .i64 0),(eI .i64 0),(.row (some true) 1 []),(.row (some true) 1 []),(.row (some true) 1 []),(.row (some true) 1 [])])))))))⟩,some ⟨78,yC.flatMap bG⟩,some ⟨35,j8.flatMap aN⟩,some ⟨102,v8.flatMap aE⟩,some ⟨80,aIX.flatMap b4⟩]:=by
   intro yC j8 v8 aIX hr2
   unfold xE at hr2
   refine hK3<|zz ?_
   exact⟨aYZ.wrap (cO+1),yC,j8,v8,aIX,hr2,(zG [0,1,2,3,4,5])⟩
  refine aY2 ?_
  obtain⟨nY,h_6,hr2⟩:=aA hr2
  refine zz ?_
  refine aY0 ?_
  obtain⟨x41,h_7,hr2⟩:=aA hr2
  obtain⟨x49,h_8,hr2⟩:=aA hr2
  refine AB.rd (cT []) (cT []) mixed<|aYV (m:=10) [0,1,2,3,4,5,6,7,8,10] ?_
  refine zz ?_
  refine xw (v:=(dO x41)) (aS rfl (bR (C:=aN) (K:=34) (fun _=>rfl) rfl h_7 (bJ (ds:=((eI .i64 x41.Height)::(aK (eI .u8) x41.Tip [(.row none 37 (x41.Coins.map aR))]))) uV rfl zl rfl))) ?_
  refine zz ?_
  refine aY8 (m:=1) (L:=lst [0,1,2,3,4,5,6,7,8,9,10,11,12,13,14,15,16,17,18] 20) (s1:=aD 112 [(2,(.ptr 0 0)),(4,(.ptr 1 0)),(6,(eI .u8 nY)),(7,(.ptr 2 0)),(8,(.ptr 3 0)),(29,(.row none 1 (l.map (eI .u8)))),(30,(eI .i64 (l.length:Int))),(31,(eI .i64 cO)),(50,(iS x49))]) (h1:=[some ⟨54,((eI .u32 vw.Params.Genesis.Version)::(aK (eI .u8) vw.Params.Genesis.Prev (aK (eI .u8) vw.Params.Genesis.Root ((eI .u32 vw.Params.Genesis.Time)::((eI .u32 vw.Params.Genesis.Bits)::((eI .u32 vw.Params.Genesis.Nonce)::(jQ (eI .u64) vw.Params.Limit [(eI .i64 vw.Params.Window),(eI .u32 vw.Params.Spacing),(eI .u32 vw.Params.Future),(eI .u32 vw.Params.Version),(.row none 33 (vw.Params.Checkpoints.map cR)),(eI .i64 vw.Params.Subsidy),(eI .i64 vw.Params.Halving),(eI .i64 vw.Params.Maturity),(.sl 4 0 dJ.length 69 true),(.sl 5 0 eY.length 34 true),(.sl 6 0 fR.length 36 true),(.sl 7 0 jY.length 1 true)])))))))⟩,some ⟨54,((eI .u32 0)::(aK (eI .u8) (aYY 32 0) (aK (eI .u8) (aYY 32 0) ((eI .u32 0)::((eI .u32 0)::((eI .u32 0)::(jQ (eI .u64) (aYY 4 0) [(eI .i64 0),(eI .u32 0),(eI .u32 0),(eI .u32 0),(.row (some true) 1 []),(eI .i64 0),(eI .i64 0),(eI .i64 0),(.row (some true) 1 []),(.row (some true) 1 []),(.row (some true) 1 []),(.row (some true) 1 [])])))))))⟩,some ⟨35,aN x41⟩,some ⟨102,((eI .i64 0)::(aK (eI .u8) (aYY 32 0) [(eI .u32 0),(eI .u32 0),(.row (some true) 1 [])]))⟩,some ⟨78,dJ.flatMap bG⟩,some ⟨35,eY.flatMap aN⟩,some ⟨102,fR.flatMap aE⟩,some ⟨80,jY.flatMap b4⟩]) ?_ (fun J=> ?_)
  ·refine aYV (m:=0) [19]<|zz ?_
   refine aY7 (by decide +kernel) ?_
   obtain⟨x56,h_9,hr2⟩:=aA hr2
   refine zz ?_
   refine xp (aMl h_9) ?_
   obtain⟨x62,h_10,hr2⟩:=aA hr2
   refine zz ?_
   refine xp (aIN h_10) ?_
   refine zz ?_
   refine aY0 ?_
   refine aY3 fun K4 hK4 hG4=> ?_
   have J4: ∀x76,t8 N vw l cO dJ eY fR jY x49 x56 x62 (iH N vw l m2) x76=some bB→K4 (aD 112 [(2,(.ptr 0 0)),(4,(.ptr 1 0)),(8,(.ptr 2 0)),(9,(.ptr 3 0)),(10,(.ptr 4 0)),(11,(.ptr 5 0)),(29,(.row none 1 (l.map (eI .u8)))),(30,(eI .i64 (l.length:Int))),(31,(eI .i64 cO)),(76,(eB x76))]) [some ⟨54,((eI .u32 vw.Params.Genesis.Version)::(aK (eI .u8) vw.Params.Genesis.Prev (aK (eI .u8) vw.Params.Genesis.Root ((eI .u32 vw.Params.Genesis.Time)::((eI .u32 vw.Params.Genesis.Bits)::((eI .u32 vw.Params.Genesis.Nonce)::(jQ (eI .u64) vw.Params.Limit [(eI .i64 vw.Params.Window),(eI .u32 vw.Params.Spacing),(eI .u32 vw.Params.Future),(eI .u32 vw.Params.Version),(.row none 33 (vw.Params.Checkpoints.map cR)),(eI .i64 vw.Params.Subsidy),(eI .i64 vw.Params.Halving),(eI .i64 vw.Params.Maturity),(.sl 6 0 dJ.length 69 true),(.sl 7 0 eY.length 34 true),(.sl 8 0 fR.length 36 true),(.sl 9 0 jY.length 1 true)])))))))⟩,some ⟨54,((eI .u32 0)::(aK (eI .u8) (aYY 32 0) (aK (eI .u8) (aYY 32 0) ((eI .u32 0)::((eI .u32 0)::((eI .u32 0)::(jQ (eI .u64) (aYY 4 0) [(eI .i64 0),(eI .u32 0),(eI .u32 0),(eI .u32 0),(.row (some true) 1 []),(eI .i64 0),(eI .i64 0),(eI .i64 0),(.row (some true) 1 []),(.row (some true) 1 []),(.row (some true) 1 []),(.row (some true) 1 [])])))))))⟩,some ⟨102,aE x49⟩,some ⟨78,bG x56⟩,some ⟨35,aN x62.1⟩,some ⟨80,b4 x62.2.1⟩,some ⟨78,dJ.flatMap bG⟩,some ⟨35,eY.flatMap aN⟩,some ⟨102,fR.flatMap aE⟩,some ⟨80,jY.flatMap b4⟩]:=by
    intro x76 hr2
    unfold t8 at hr2
    refine hK4 ?_
    refine zk hr2 ?_ ?_<;>intro h11 hr2
    ·refine zz ?_
     exact hG3 (zG [0,1,6,7,8,9]) (J3 dJ eY fR jY hr2)
    obtain⟨x83,h_12,hr2⟩:=aA hr2
    refine zz ?_
    refine xp (aD8 h_12) ?_
    refine zz ?_
    refine aY0 ?_
    obtain⟨x90,h_13,hr2⟩:=aA hr2
    obtain⟨x95,h_14,hr2⟩:=aA hr2
    refine AB.rd (cT []) (cT []) mixed<|aYV (m:=10) [0,1,2,5] ?_
    refine zz ?_
    refine aY8 (m:=3) (L:=lst [0,1,2,3,4,5,6,7,8,9,10] 14) (s1:=aD 112 [(2,(.ptr 0 0)),(4,(.ptr 1 0)),(8,(.ptr 2 0)),(11,(.ptr 3 0)),(29,(.row none 1 (l.map (eI .u8)))),(30,(eI .i64 (l.length:Int))),(31,(eI .i64 cO)),(90,(.sl 4 0 x90.length 69 true)),(95,(.sl 5 0 x95.length 34 true)),(96,(.ptr 0 80))]) (h1:=[some ⟨54,((eI .u32 vw.Params.Genesis.Version)::(aK (eI .u8) vw.Params.Genesis.Prev (aK (eI .u8) vw.Params.Genesis.Root ((eI .u32 vw.Params.Genesis.Time)::((eI .u32 vw.Params.Genesis.Bits)::((eI .u32 vw.Params.Genesis.Nonce)::(jQ (eI .u64) vw.Params.Limit [(eI .i64 vw.Params.Window),(eI .u32 vw.Params.Spacing),(eI .u32 vw.Params.Future),(eI .u32 vw.Params.Version),(.row none 33 (vw.Params.Checkpoints.map cR)),(eI .i64 vw.Params.Subsidy),(eI .i64 vw.Params.Halving),(eI .i64 vw.Params.Maturity),(.sl 6 0 dJ.length 69 true),(.sl 7 0 eY.length 34 true),(.sl 8 0 fR.length 36 true),(.sl 9 0 jY.length 1 true)])))))))⟩,some ⟨54,((eI .u32 0)::(aK (eI .u8) (aYY 32 0) (aK (eI .u8) (aYY 32 0) ((eI .u32 0)::((eI .u32 0)::((eI .u32 0)::(jQ (eI .u64) (aYY 4 0) [(eI .i64 0),(eI .u32 0),(eI .u32 0),(eI .u32 0),(.row (some true) 1 []),(eI .i64 0),(eI .i64 0),(eI .i64 0),(.row (some true) 1 []),(.row (some true) 1 []),(.row (some true) 1 []),(.row (some true) 1 [])])))))))⟩,some ⟨102,aE x83.1⟩,some ⟨80,b4 x62.2.1⟩,some ⟨78,x90.flatMap bG⟩,some ⟨35,x95.flatMap aN⟩,none,none,some ⟨102,fR.flatMap aE⟩,some ⟨80,jY.flatMap b4⟩]) ?_ (fun J=> ?_)
    ·refine aYV (m:=0) [11,12,13]<|zz ?_
     refine aY7 (by decide +kernel) ?_
     obtain⟨aF0,h_15,hr2⟩:=aA hr2
     obtain⟨aNV,h_16,hr2⟩:=aA hr2
     refine zz ?_
     refine AB.rd (cT []) (cT []) mixed<|aYV (m:=10) [0,1,2,5] ?_
     refine zz ?_
     refine aY8 (m:=3) (L:=lst [0,1,2,3,4,5,6,7,8,9,10] 14) (s1:=aD 112 [(2,(.ptr 0 0)),(4,(.ptr 1 0)),(29,(.row none 1 (l.map (eI .u8)))),(30,(eI .i64 (l.length:Int))),(31,(eI .i64 cO)),(102,(.sl 2 0 aF0.length 36 true)),(107,(.sl 3 0 aNV.length 1 true)),(108,(.ptr 0 82))]) (h1:=[some ⟨54,((eI .u32 vw.Params.Genesis.Version)::(aK (eI .u8) vw.Params.Genesis.Prev (aK (eI .u8) vw.Params.Genesis.Root ((eI .u32 vw.Params.Genesis.Time)::((eI .u32 vw.Params.Genesis.Bits)::((eI .u32 vw.Params.Genesis.Nonce)::(jQ (eI .u64) vw.Params.Limit [(eI .i64 vw.Params.Window),(eI .u32 vw.Params.Spacing),(eI .u32 vw.Params.Future),(eI .u32 vw.Params.Version),(.row none 33 (vw.Params.Checkpoints.map cR)),(eI .i64 vw.Params.Subsidy),(eI .i64 vw.Params.Halving),(eI .i64 vw.Params.Maturity),(.sl 4 0 x90.length 69 true),(.sl 5 0 x95.length 34 true),(.sl 6 0 fR.length 36 true),(.sl 7 0 jY.length 1 true)])))))))⟩,some ⟨54,((eI .u32 0)::(aK (eI .u8) (aYY 32 0) (aK (eI .u8) (aYY 32 0) ((eI .u32 0)::((eI .u32 0)::((eI .u32 0)::(jQ (eI .u64) (aYY 4 0) [(eI .i64 0),(eI .u32 0),(eI .u32 0),(eI .u32 0),(.row (some true) 1 []),(eI .i64 0),(eI .i64 0),(eI .i64 0),(.row (some true) 1 []),(.row (some true) 1 []),(.row (some true) 1 []),(.row (some true) 1 [])])))))))⟩,some ⟨102,aF0.flatMap aE⟩,some ⟨80,aNV.flatMap b4⟩,some ⟨78,x90.flatMap bG⟩,some ⟨35,x95.flatMap aN⟩,none,none]) ?_ (fun J=> ?_)
     ·refine aYV (m:=0) [11,12,13]<|zz ?_
      refine aY7 (by decide +kernel) ?_
      refine zz ?_
      exact hG3 (zG [0,1,4,5,2,3]) (J3 x90 x95 aF0 aNV hr2)
     refine aYX (n:=9) [3,6,7] ⟨?_, ?_, ?_,trivial⟩
     ·refine dQ aE 36 [x83.1] ?_
      refine zz ?_
      refine aYX (n:=8) [4,6,7] ⟨?_, ?_, ?_,trivial⟩
      ·refine zz ?_
       refine aYV (m:=3) [6,7,8,9,10]<|zz ?_
       refine dQ b4 1 [x62.2.1] ?_
       refine zz ?_
       refine aYW J ?_
       exact(zG [0,1,11,13,4,5,8,9])
      ·refine zz ?_
       refine aYX (n:=7) [4,7] ⟨?_, ?_,trivial⟩
       ·refine zz ?_
        refine aYV (m:=3) [7,8,9,10]<|zz ?_
        refine dQ b4 1 [x62.2.1] ?_
        refine zz ?_
        refine aYW J ?_
        exact(zG [0,1,11,13,4,5,8,9])
       refine zz ?_
       refine aYX (n:=6) [4,8] ⟨?_, ?_,trivial⟩
       ·refine zz ?_
        refine aYV (m:=3) [8,9,10]<|dQ b4 1 [x62.2.1] ?_
        refine zz ?_
        refine aYW J ?_
        exact(zG [0,1,11,13,4,5,8,9])
       refine dQ b4 1 [x62.2.1] ?_
       refine zz ?_
       refine aYV (m:=3) [4,9,10]<|zz ?_
       refine aYW J ?_
       exact(zG [0,1,12,13,4,5,8,9])
      refine zz ?_
      refine aYX (n:=7) [4,6,8] ⟨?_, ?_, ?_,trivial⟩
      ·refine zz ?_
       refine aYV (m:=3) [6,8,9,10]<|zz ?_
       refine dQ b4 1 [x62.2.1] ?_
       refine zz ?_
       refine aYW J ?_
       exact(zG [0,1,11,13,4,5,8,9])
      ·refine zz ?_
       refine aYX (n:=6) [4,8] ⟨?_, ?_,trivial⟩
       ·refine zz ?_
        refine aYV (m:=3) [8,9,10]<|dQ b4 1 [x62.2.1] ?_
        refine zz ?_
        refine aYW J ?_
        exact(zG [0,1,11,13,4,5,8,9])
       refine dQ b4 1 [x62.2.1] ?_
       refine zz ?_
       refine aYV (m:=3) [4,9,10]<|zz ?_
       refine aYW J ?_
       exact(zG [0,1,12,13,4,5,8,9])
      refine dQ b4 1 [x62.2.1] ?_
      refine zz ?_
      refine aYX (n:=6) [4,6] ⟨?_, ?_,trivial⟩
      ·refine zz ?_
       refine aYV (m:=3) [6,9,10]<|zz ?_
       refine aYW J ?_
       exact(zG [0,1,12,13,4,5,8,9])
      refine zz ?_
      refine aYV (m:=3) [4,9,10]<|zz ?_
      refine aYW J ?_
      exact(zG [0,1,12,13,4,5,8,9])
     ·refine zz ?_
      refine aYX (n:=8) [3,7] ⟨?_, ?_,trivial⟩
      ·refine dQ aE 36 [x83.1] ?_
       refine zz ?_
       refine aYX (n:=7) [4,7] ⟨?_, ?_,trivial⟩
       ·refine zz ?_
        refine aYV (m:=3) [7,8,9,10]<|zz ?_
        refine dQ b4 1 [x62.2.1] ?_
        refine zz ?_
        refine aYW J ?_
        exact(zG [0,1,11,13,4,5,8,9])
       refine zz ?_
       refine aYX (n:=6) [4,8] ⟨?_, ?_,trivial⟩
       ·refine zz ?_
        refine aYV (m:=3) [8,9,10]<|dQ b4 1 [x62.2.1] ?_
        refine zz ?_
        refine aYW J ?_
        exact(zG [0,1,11,13,4,5,8,9])
       refine dQ b4 1 [x62.2.1] ?_
       refine zz ?_
       refine aYV (m:=3) [4,9,10]<|zz ?_
       refine aYW J ?_
       exact(zG [0,1,12,13,4,5,8,9])
      refine zz ?_
      refine aYX (n:=7) [3,8] ⟨?_, ?_,trivial⟩
      ·refine dQ aE 36 [x83.1] ?_
       refine zz ?_
       refine aYX (n:=6) [4,8] ⟨?_, ?_,trivial⟩
       ·refine zz ?_
        refine aYV (m:=3) [8,9,10]<|dQ b4 1 [x62.2.1] ?_
        refine zz ?_
        refine aYW J ?_
        exact(zG [0,1,11,13,4,5,8,9])
       refine dQ b4 1 [x62.2.1] ?_
       refine zz ?_
       refine aYV (m:=3) [4,9,10]<|zz ?_
       refine aYW J ?_
       exact(zG [0,1,12,13,4,5,8,9])
      refine dQ b4 1 [x62.2.1] ?_
      refine zz ?_
      refine aYV (m:=3) [3,4,9,10]<|dQ aE 36 [x83.1] ?_
      refine zz ?_
      refine aYW J ?_
      exact(zG [0,1,12,13,4,5,8,9])
     refine zz ?_
     refine aYX (n:=8) [3,6,8] ⟨?_, ?_, ?_,trivial⟩
     ·refine dQ aE 36 [x83.1] ?_
      refine zz ?_
      refine aYX (n:=7) [4,6,8] ⟨?_, ?_, ?_,trivial⟩
      ·refine zz ?_
       refine aYV (m:=3) [6,8,9,10]<|zz ?_
       refine dQ b4 1 [x62.2.1] ?_
       refine zz ?_
       refine aYW J ?_
       exact(zG [0,1,11,13,4,5,8,9])
      ·refine zz ?_
       refine aYX (n:=6) [4,8] ⟨?_, ?_,trivial⟩
       ·refine zz ?_
        refine aYV (m:=3) [8,9,10]<|dQ b4 1 [x62.2.1] ?_
        refine zz ?_
        refine aYW J ?_
        exact(zG [0,1,11,13,4,5,8,9])
       refine dQ b4 1 [x62.2.1] ?_
       refine zz ?_
       refine aYV (m:=3) [4,9,10]<|zz ?_
       refine aYW J ?_
       exact(zG [0,1,12,13,4,5,8,9])
      refine dQ b4 1 [x62.2.1] ?_
      refine zz ?_
      refine aYX (n:=6) [4,6] ⟨?_, ?_,trivial⟩
      ·refine zz ?_
       refine aYV (m:=3) [6,9,10]<|zz ?_
       refine aYW J ?_
       exact(zG [0,1,12,13,4,5,8,9])
      refine zz ?_
      refine aYV (m:=3) [4,9,10]<|zz ?_
      refine aYW J ?_
      exact(zG [0,1,12,13,4,5,8,9])
     ·refine zz ?_
      refine aYX (n:=7) [3,8] ⟨?_, ?_,trivial⟩
      ·refine dQ aE 36 [x83.1] ?_
       refine zz ?_
       refine aYX (n:=6) [4,8] ⟨?_, ?_,trivial⟩
       ·refine zz ?_
        refine aYV (m:=3) [8,9,10]<|dQ b4 1 [x62.2.1] ?_
        refine zz ?_
        refine aYW J ?_
        exact(zG [0,1,11,13,4,5,8,9])
       refine dQ b4 1 [x62.2.1] ?_
       refine zz ?_
       refine aYV (m:=3) [4,9,10]<|zz ?_
       refine aYW J ?_
       exact(zG [0,1,12,13,4,5,8,9])
      refine dQ b4 1 [x62.2.1] ?_
      refine zz ?_
      refine aYV (m:=3) [3,4,9,10]<|dQ aE 36 [x83.1] ?_
      refine zz ?_
      refine aYW J ?_
      exact(zG [0,1,12,13,4,5,8,9])
     refine dQ b4 1 [x62.2.1] ?_
     refine zz ?_
     refine aYV (m:=7) [3]<|dQ aE 36 [x83.1] ?_
     refine zz ?_
     refine aYX (n:=6) [4,6] ⟨?_, ?_,trivial⟩
     ·refine zz ?_
      refine aYV (m:=3) [6,9,10]<|zz ?_
      refine aYW J ?_
      exact(zG [0,1,12,13,4,5,8,9])
     refine zz ?_
     refine aYV (m:=3) [4,9,10]<|zz ?_
     refine aYW J ?_
     exact(zG [0,1,12,13,4,5,8,9])
    refine aYX (n:=9) [3,6,7] ⟨?_, ?_, ?_,trivial⟩
    ·refine dQ bG 69 [x56] ?_
     refine zz ?_
     refine aYX (n:=8) [4,6,7] ⟨?_, ?_, ?_,trivial⟩
     ·refine zz ?_
      refine aYV (m:=3) [6,7,8,9,10]<|zz ?_
      refine dQ aN 34 [x62.1] ?_
      refine zz ?_
      refine aYW J ?_
      exact(zG [0,1,2,5,11,13,6,7,8,9])
     ·refine zz ?_
      refine aYX (n:=7) [4,7] ⟨?_, ?_,trivial⟩
      ·refine zz ?_
       refine aYV (m:=3) [7,8,9,10]<|zz ?_
       refine dQ aN 34 [x62.1] ?_
       refine zz ?_
       refine aYW J ?_
       exact(zG [0,1,2,5,11,13,6,7,8,9])
      refine zz ?_
      refine aYX (n:=6) [4,8] ⟨?_, ?_,trivial⟩
      ·refine zz ?_
       refine aYV (m:=3) [8,9,10]<|dQ aN 34 [x62.1] ?_
       refine zz ?_
       refine aYW J ?_
       exact(zG [0,1,2,5,11,13,6,7,8,9])
      refine dQ aN 34 [x62.1] ?_
      refine zz ?_
      refine aYV (m:=3) [4,9,10]<|zz ?_
      refine aYW J ?_
      exact(zG [0,1,2,5,12,13,6,7,8,9])
     refine zz ?_
     refine aYX (n:=7) [4,6,8] ⟨?_, ?_, ?_,trivial⟩
     ·refine zz ?_
      refine aYV (m:=3) [6,8,9,10]<|zz ?_
      refine dQ aN 34 [x62.1] ?_
      refine zz ?_
      refine aYW J ?_
      exact(zG [0,1,2,5,11,13,6,7,8,9])
     ·refine zz ?_
      refine aYX (n:=6) [4,8] ⟨?_, ?_,trivial⟩
      ·refine zz ?_
       refine aYV (m:=3) [8,9,10]<|dQ aN 34 [x62.1] ?_
       refine zz ?_
       refine aYW J ?_
       exact(zG [0,1,2,5,11,13,6,7,8,9])
      refine dQ aN 34 [x62.1] ?_
      refine zz ?_
      refine aYV (m:=3) [4,9,10]<|zz ?_
      refine aYW J ?_
      exact(zG [0,1,2,5,12,13,6,7,8,9])
     refine dQ aN 34 [x62.1] ?_
     refine zz ?_
     refine aYX (n:=6) [4,6] ⟨?_, ?_,trivial⟩
     ·refine zz ?_
      refine aYV (m:=3) [6,9,10]<|zz ?_
      refine aYW J ?_
      exact(zG [0,1,2,5,12,13,6,7,8,9])
     refine zz ?_
     refine aYV (m:=3) [4,9,10]<|zz ?_
     refine aYW J ?_
     exact(zG [0,1,2,5,12,13,6,7,8,9])
    ·refine zz ?_
     refine aYX (n:=8) [3,7] ⟨?_, ?_,trivial⟩
     ·refine dQ bG 69 [x56] ?_
      refine zz ?_
      refine aYX (n:=7) [4,7] ⟨?_, ?_,trivial⟩
      ·refine zz ?_
       refine aYV (m:=3) [7,8,9,10]<|zz ?_
       refine dQ aN 34 [x62.1] ?_
       refine zz ?_
       refine aYW J ?_
       exact(zG [0,1,2,5,11,13,6,7,8,9])
      refine zz ?_
      refine aYX (n:=6) [4,8] ⟨?_, ?_,trivial⟩
      ·refine zz ?_
       refine aYV (m:=3) [8,9,10]<|dQ aN 34 [x62.1] ?_
       refine zz ?_
       refine aYW J ?_
       exact(zG [0,1,2,5,11,13,6,7,8,9])
      refine dQ aN 34 [x62.1] ?_
      refine zz ?_
      refine aYV (m:=3) [4,9,10]<|zz ?_
      refine aYW J ?_
      exact(zG [0,1,2,5,12,13,6,7,8,9])
     refine zz ?_
     refine aYX (n:=7) [3,8] ⟨?_, ?_,trivial⟩
     ·refine dQ bG 69 [x56] ?_
      refine zz ?_
      refine aYX (n:=6) [4,8] ⟨?_, ?_,trivial⟩
      ·refine zz ?_
       refine aYV (m:=3) [8,9,10]<|dQ aN 34 [x62.1] ?_
       refine zz ?_
       refine aYW J ?_
       exact(zG [0,1,2,5,11,13,6,7,8,9])
      refine dQ aN 34 [x62.1] ?_
      refine zz ?_
      refine aYV (m:=3) [4,9,10]<|zz ?_
      refine aYW J ?_
      exact(zG [0,1,2,5,12,13,6,7,8,9])
     refine dQ aN 34 [x62.1] ?_
     refine zz ?_
     refine aYV (m:=3) [3,4,9,10]<|dQ bG 69 [x56] ?_
     refine zz ?_
     refine aYW J ?_
     exact(zG [0,1,2,5,12,13,6,7,8,9])
    refine zz ?_
    refine aYX (n:=8) [3,6,8] ⟨?_, ?_, ?_,trivial⟩
    ·refine dQ bG 69 [x56] ?_
     refine zz ?_
     refine aYX (n:=7) [4,6,8] ⟨?_, ?_, ?_,trivial⟩
     ·refine zz ?_
      refine aYV (m:=3) [6,8,9,10]<|zz ?_
      refine dQ aN 34 [x62.1] ?_
      refine zz ?_
      refine aYW J ?_
      exact(zG [0,1,2,5,11,13,6,7,8,9])
     ·refine zz ?_
      refine aYX (n:=6) [4,8] ⟨?_, ?_,trivial⟩
      ·refine zz ?_
       refine aYV (m:=3) [8,9,10]<|dQ aN 34 [x62.1] ?_
       refine zz ?_
       refine aYW J ?_
       exact(zG [0,1,2,5,11,13,6,7,8,9])
      refine dQ aN 34 [x62.1] ?_
      refine zz ?_
      refine aYV (m:=3) [4,9,10]<|zz ?_
      refine aYW J ?_
      exact(zG [0,1,2,5,12,13,6,7,8,9])
     refine dQ aN 34 [x62.1] ?_
     refine zz ?_
     refine aYX (n:=6) [4,6] ⟨?_, ?_,trivial⟩
     ·refine zz ?_
      refine aYV (m:=3) [6,9,10]<|zz ?_
      refine aYW J ?_
      exact(zG [0,1,2,5,12,13,6,7,8,9])
     refine zz ?_
     refine aYV (m:=3) [4,9,10]<|zz ?_
     refine aYW J ?_
     exact(zG [0,1,2,5,12,13,6,7,8,9])
    ·refine zz ?_
     refine aYX (n:=7) [3,8] ⟨?_, ?_,trivial⟩
     ·refine dQ bG 69 [x56] ?_
      refine zz ?_
      refine aYX (n:=6) [4,8] ⟨?_, ?_,trivial⟩
      ·refine zz ?_
       refine aYV (m:=3) [8,9,10]<|dQ aN 34 [x62.1] ?_
       refine zz ?_
       refine aYW J ?_
       exact(zG [0,1,2,5,11,13,6,7,8,9])
      refine dQ aN 34 [x62.1] ?_
      refine zz ?_
      refine aYV (m:=3) [4,9,10]<|zz ?_
      refine aYW J ?_
      exact(zG [0,1,2,5,12,13,6,7,8,9])
     refine dQ aN 34 [x62.1] ?_
     refine zz ?_
     refine aYV (m:=3) [3,4,9,10]<|dQ bG 69 [x56] ?_
     refine zz ?_
     refine aYW J ?_
     exact(zG [0,1,2,5,12,13,6,7,8,9])
    refine dQ aN 34 [x62.1] ?_
    refine zz ?_
    refine aYV (m:=7) [3]<|dQ bG 69 [x56] ?_
    refine zz ?_
    refine aYX (n:=6) [4,6] ⟨?_, ?_,trivial⟩
    ·refine zz ?_
     refine aYV (m:=3) [6,9,10]<|zz ?_
     refine aYW J ?_
     exact(zG [0,1,2,5,12,13,6,7,8,9])
    refine zz ?_
    refine aYV (m:=3) [4,9,10]<|zz ?_
    refine aYW J ?_
    exact(zG [0,1,2,5,12,13,6,7,8,9])
   rcases aY1 (x62.2.2 != 0)with h17|h17
   ·replace hr2:=bY hr2 h17
    refine xr<|zz ?_
    exact hG4 (zG [0,1,3,8,9,10,4,5,6,7]) (J4 true hr2)
   replace hr2:=bX hr2 h17
   obtain⟨x74,h_18,hr2⟩:=aA hr2
   refine xr<|zz ?_
   refine xCg (v:=(eI .i64 x74)) (h':=[some ⟨54,((eI .u32 vw.Params.Genesis.Version)::(aK (eI .u8) vw.Params.Genesis.Prev (aK (eI .u8) vw.Params.Genesis.Root ((eI .u32 vw.Params.Genesis.Time)::((eI .u32 vw.Params.Genesis.Bits)::((eI .u32 vw.Params.Genesis.Nonce)::(jQ (eI .u64) vw.Params.Limit [(eI .i64 vw.Params.Window),(eI .u32 vw.Params.Spacing),(eI .u32 vw.Params.Future),(eI .u32 vw.Params.Version),(.row none 33 (vw.Params.Checkpoints.map cR)),(eI .i64 vw.Params.Subsidy),(eI .i64 vw.Params.Halving),(eI .i64 vw.Params.Maturity),(.sl 4 0 dJ.length 69 true),(.sl 5 0 eY.length 34 true),(.sl 6 0 fR.length 36 true),(.sl 7 0 jY.length 1 true)])))))))⟩,some ⟨54,((eI .u32 0)::(aK (eI .u8) (aYY 32 0) (aK (eI .u8) (aYY 32 0) ((eI .u32 0)::((eI .u32 0)::((eI .u32 0)::(jQ (eI .u64) (aYY 4 0) [(eI .i64 0),(eI .u32 0),(eI .u32 0),(eI .u32 0),(.row (some true) 1 []),(eI .i64 0),(eI .i64 0),(eI .i64 0),(.row (some true) 1 []),(.row (some true) 1 []),(.row (some true) 1 []),(.row (some true) 1 [])])))))))⟩,some ⟨35,aN x41⟩,some ⟨102,aE x49⟩,some ⟨78,dJ.flatMap bG⟩,some ⟨35,eY.flatMap aN⟩,some ⟨102,fR.flatMap aE⟩,some ⟨80,jY.flatMap b4⟩,some ⟨78,bG x56⟩,some ⟨35,aN x62.1⟩,some ⟨80,b4 x62.2.1⟩]) rfl rfl h17 rfl (Vm.Fn.pure (aKJ h_18) rfl rfl) ?_
   refine zz ?_
   exact hG4 (zG [0,1,3,8,9,10,4,5,6,7]) (J4 (x74 != 0) hr2)
  refine aYX (n:=9) [9,11,16,17] ⟨?_, ?_, ?_, ?_,trivial⟩
  ·refine zz ?_
   refine aYX (n:=8) [11,16,17] ⟨?_, ?_, ?_,trivial⟩
   ·refine zz ?_
    refine aYX (n:=7) [12,16,17] ⟨?_, ?_, ?_,trivial⟩
    ·refine zz ?_
     refine aYV (m:=5) [13,14]<|zz ?_
     refine aYX (n:=4) [15,16,17] ⟨?_, ?_, ?_,trivial⟩
     ·refine xw (aS rfl (bR (C:=aE) (K:=36) (fun _=>rfl) rfl h_8 (bJ (ds:=((eI .i64 x49.Height)::(aK (eI .u8) x49.Hash [(eI .u32 x49.Bits),(eI .u32 x49.First),(.row none 1 (x49.Times.map (eI .u32)))]))) bI rfl zl rfl))) ?_
      refine zz ?_
      refine aYX (n:=3) [16,17] ⟨?_, ?_,trivial⟩
      ·refine zz ?_
       refine aYV (m:=1) [17,18]<|zz ?_
       refine aYW J ?_
       exact(zG [0,1,6,7,2,3,4,5])
      refine zz ?_
      refine aYV (m:=1) [16,18]<|zz ?_
      refine aYW J ?_
      exact(zG [0,1,7,6,2,3,4,5])
     ·refine zz ?_
      refine aYV (m:=3) [17]<|zz ?_
      refine aYX (n:=2) [15,18] ⟨?_, ?_,trivial⟩
      ·refine xw (aS rfl (bR (C:=aE) (K:=36) (fun _=>rfl) rfl h_8 (bJ (ds:=((eI .i64 x49.Height)::(aK (eI .u8) x49.Hash [(eI .u32 x49.Bits),(eI .u32 x49.First),(.row none 1 (x49.Times.map (eI .u32)))]))) bI rfl zl rfl))) ?_
       refine zz ?_
       refine aYV (m:=1) [18]<|zz ?_
       refine aYW J ?_
       exact(zG [0,1,6,7,2,3,4,5])
      refine zz ?_
      refine aYV (m:=1) [15]<|xw (aS rfl (bR (C:=aE) (K:=36) (fun _=>rfl) rfl h_8 (bJ (ds:=((eI .i64 x49.Height)::(aK (eI .u8) x49.Hash [(eI .u32 x49.Bits),(eI .u32 x49.First),(.row none 1 (x49.Times.map (eI .u32)))]))) bI rfl zl rfl))) ?_
      refine zz ?_
      refine aYW J ?_
      exact(zG [0,1,6,7,2,3,4,5])
     refine zz ?_
     refine aYV (m:=3) [16]<|zz ?_
     refine aYX (n:=2) [15,18] ⟨?_, ?_,trivial⟩
     ·refine xw (aS rfl (bR (C:=aE) (K:=36) (fun _=>rfl) rfl h_8 (bJ (ds:=((eI .i64 x49.Height)::(aK (eI .u8) x49.Hash [(eI .u32 x49.Bits),(eI .u32 x49.First),(.row none 1 (x49.Times.map (eI .u32)))]))) bI rfl zl rfl))) ?_
      refine zz ?_
      refine aYV (m:=1) [18]<|zz ?_
      refine aYW J ?_
      exact(zG [0,1,7,6,2,3,4,5])
     refine zz ?_
     refine aYV (m:=1) [15]<|xw (aS rfl (bR (C:=aE) (K:=36) (fun _=>rfl) rfl h_8 (bJ (ds:=((eI .i64 x49.Height)::(aK (eI .u8) x49.Hash [(eI .u32 x49.Bits),(eI .u32 x49.First),(.row none 1 (x49.Times.map (eI .u32)))]))) bI rfl zl rfl))) ?_
     refine zz ?_
     refine aYW J ?_
     exact(zG [0,1,7,6,2,3,4,5])
    ·refine zz ?_
     refine aYV (m:=6) [17]<|zz ?_
     refine aYX (n:=5) [12,18] ⟨?_, ?_,trivial⟩
     ·refine zz ?_
      refine aYV (m:=3) [13,14]<|zz ?_
      refine aYX (n:=2) [15,18] ⟨?_, ?_,trivial⟩
      ·refine xw (aS rfl (bR (C:=aE) (K:=36) (fun _=>rfl) rfl h_8 (bJ (ds:=((eI .i64 x49.Height)::(aK (eI .u8) x49.Hash [(eI .u32 x49.Bits),(eI .u32 x49.First),(.row none 1 (x49.Times.map (eI .u32)))]))) bI rfl zl rfl))) ?_
       refine zz ?_
       refine aYV (m:=1) [18]<|zz ?_
       refine aYW J ?_
       exact(zG [0,1,6,7,2,3,4,5])
      refine zz ?_
      refine aYV (m:=1) [15]<|xw (aS rfl (bR (C:=aE) (K:=36) (fun _=>rfl) rfl h_8 (bJ (ds:=((eI .i64 x49.Height)::(aK (eI .u8) x49.Hash [(eI .u32 x49.Bits),(eI .u32 x49.First),(.row none 1 (x49.Times.map (eI .u32)))]))) bI rfl zl rfl))) ?_
      refine zz ?_
      refine aYW J ?_
      exact(zG [0,1,6,7,2,3,4,5])
     refine zz ?_
     refine aYV (m:=1) [12,13,14,15]<|zz ?_
     refine xw (aS rfl (bR (C:=aE) (K:=36) (fun _=>rfl) rfl h_8 (bJ (ds:=((eI .i64 x49.Height)::(aK (eI .u8) x49.Hash [(eI .u32 x49.Bits),(eI .u32 x49.First),(.row none 1 (x49.Times.map (eI .u32)))]))) bI rfl zl rfl))) ?_
     refine zz ?_
     refine aYW J ?_
     exact(zG [0,1,6,7,2,3,4,5])
    refine zz ?_
    refine aYV (m:=6) [16]<|zz ?_
    refine aYX (n:=5) [12,18] ⟨?_, ?_,trivial⟩
    ·refine zz ?_
     refine aYV (m:=3) [13,14]<|zz ?_
     refine aYX (n:=2) [15,18] ⟨?_, ?_,trivial⟩
     ·refine xw (aS rfl (bR (C:=aE) (K:=36) (fun _=>rfl) rfl h_8 (bJ (ds:=((eI .i64 x49.Height)::(aK (eI .u8) x49.Hash [(eI .u32 x49.Bits),(eI .u32 x49.First),(.row none 1 (x49.Times.map (eI .u32)))]))) bI rfl zl rfl))) ?_
      refine zz ?_
      refine aYV (m:=1) [18]<|zz ?_
      refine aYW J ?_
      exact(zG [0,1,7,6,2,3,4,5])
     refine zz ?_
     refine aYV (m:=1) [15]<|xw (aS rfl (bR (C:=aE) (K:=36) (fun _=>rfl) rfl h_8 (bJ (ds:=((eI .i64 x49.Height)::(aK (eI .u8) x49.Hash [(eI .u32 x49.Bits),(eI .u32 x49.First),(.row none 1 (x49.Times.map (eI .u32)))]))) bI rfl zl rfl))) ?_
     refine zz ?_
     refine aYW J ?_
     exact(zG [0,1,7,6,2,3,4,5])
    refine zz ?_
    refine aYV (m:=1) [12,13,14,15]<|zz ?_
    refine xw (aS rfl (bR (C:=aE) (K:=36) (fun _=>rfl) rfl h_8 (bJ (ds:=((eI .i64 x49.Height)::(aK (eI .u8) x49.Hash [(eI .u32 x49.Bits),(eI .u32 x49.First),(.row none 1 (x49.Times.map (eI .u32)))]))) bI rfl zl rfl))) ?_
    refine zz ?_
    refine aYW J ?_
    exact(zG [0,1,7,6,2,3,4,5])
   ·refine zz ?_
    refine aYV (m:=7) [17]<|zz ?_
    refine aYX (n:=6) [11,18] ⟨?_, ?_,trivial⟩
    ·refine zz ?_
     refine aYX (n:=5) [12,18] ⟨?_, ?_,trivial⟩
     ·refine zz ?_
      refine aYV (m:=3) [13,14]<|zz ?_
      refine aYX (n:=2) [15,18] ⟨?_, ?_,trivial⟩
      ·refine xw (aS rfl (bR (C:=aE) (K:=36) (fun _=>rfl) rfl h_8 (bJ (ds:=((eI .i64 x49.Height)::(aK (eI .u8) x49.Hash [(eI .u32 x49.Bits),(eI .u32 x49.First),(.row none 1 (x49.Times.map (eI .u32)))]))) bI rfl zl rfl))) ?_
       refine zz ?_
       refine aYV (m:=1) [18]<|zz ?_
       refine aYW J ?_
       exact(zG [0,1,6,7,2,3,4,5])
      refine zz ?_
      refine aYV (m:=1) [15]<|xw (aS rfl (bR (C:=aE) (K:=36) (fun _=>rfl) rfl h_8 (bJ (ds:=((eI .i64 x49.Height)::(aK (eI .u8) x49.Hash [(eI .u32 x49.Bits),(eI .u32 x49.First),(.row none 1 (x49.Times.map (eI .u32)))]))) bI rfl zl rfl))) ?_
      refine zz ?_
      refine aYW J ?_
      exact(zG [0,1,6,7,2,3,4,5])
     refine zz ?_
     refine aYV (m:=1) [12,13,14,15]<|zz ?_
     refine xw (aS rfl (bR (C:=aE) (K:=36) (fun _=>rfl) rfl h_8 (bJ (ds:=((eI .i64 x49.Height)::(aK (eI .u8) x49.Hash [(eI .u32 x49.Bits),(eI .u32 x49.First),(.row none 1 (x49.Times.map (eI .u32)))]))) bI rfl zl rfl))) ?_
     refine zz ?_
     refine aYW J ?_
     exact(zG [0,1,6,7,2,3,4,5])
    refine zz ?_
    refine aYV (m:=1) [11,12,13,14,15]<|zz ?_
    refine xw (aS rfl (bR (C:=aE) (K:=36) (fun _=>rfl) rfl h_8 (bJ (ds:=((eI .i64 x49.Height)::(aK (eI .u8) x49.Hash [(eI .u32 x49.Bits),(eI .u32 x49.First),(.row none 1 (x49.Times.map (eI .u32)))]))) bI rfl zl rfl))) ?_
    refine zz ?_
    refine aYW J ?_
    exact(zG [0,1,6,7,2,3,4,5])
   refine zz ?_
   refine aYV (m:=7) [16]<|zz ?_
   refine aYX (n:=6) [11,18] ⟨?_, ?_,trivial⟩
   ·refine zz ?_
    refine aYX (n:=5) [12,18] ⟨?_, ?_,trivial⟩
    ·refine zz ?_
     refine aYV (m:=3) [13,14]<|zz ?_
     refine aYX (n:=2) [15,18] ⟨?_, ?_,trivial⟩
     ·refine xw (aS rfl (bR (C:=aE) (K:=36) (fun _=>rfl) rfl h_8 (bJ (ds:=((eI .i64 x49.Height)::(aK (eI .u8) x49.Hash [(eI .u32 x49.Bits),(eI .u32 x49.First),(.row none 1 (x49.Times.map (eI .u32)))]))) bI rfl zl rfl))) ?_
      refine zz ?_
      refine aYV (m:=1) [18]<|zz ?_
      refine aYW J ?_
      exact(zG [0,1,7,6,2,3,4,5])
     refine zz ?_
     refine aYV (m:=1) [15]<|xw (aS rfl (bR (C:=aE) (K:=36) (fun _=>rfl) rfl h_8 (bJ (ds:=((eI .i64 x49.Height)::(aK (eI .u8) x49.Hash [(eI .u32 x49.Bits),(eI .u32 x49.First),(.row none 1 (x49.Times.map (eI .u32)))]))) bI rfl zl rfl))) ?_
     refine zz ?_
     refine aYW J ?_
     exact(zG [0,1,7,6,2,3,4,5])
    refine zz ?_
    refine aYV (m:=1) [12,13,14,15]<|zz ?_
    refine xw (aS rfl (bR (C:=aE) (K:=36) (fun _=>rfl) rfl h_8 (bJ (ds:=((eI .i64 x49.Height)::(aK (eI .u8) x49.Hash [(eI .u32 x49.Bits),(eI .u32 x49.First),(.row none 1 (x49.Times.map (eI .u32)))]))) bI rfl zl rfl))) ?_
    refine zz ?_
    refine aYW J ?_
    exact(zG [0,1,7,6,2,3,4,5])
   refine zz ?_
   refine aYV (m:=1) [11,12,13,14,15]<|zz ?_
   refine xw (aS rfl (bR (C:=aE) (K:=36) (fun _=>rfl) rfl h_8 (bJ (ds:=((eI .i64 x49.Height)::(aK (eI .u8) x49.Hash [(eI .u32 x49.Bits),(eI .u32 x49.First),(.row none 1 (x49.Times.map (eI .u32)))]))) bI rfl zl rfl))) ?_
   refine zz ?_
   refine aYW J ?_
   exact(zG [0,1,7,6,2,3,4,5])
  ·refine zz ?_
   refine aYX (n:=8) [9,12,16,17] ⟨?_, ?_, ?_, ?_,trivial⟩
   ·refine zz ?_
    refine aYX (n:=7) [12,16,17] ⟨?_, ?_, ?_,trivial⟩
    ·refine zz ?_
     refine aYV (m:=5) [13,14]<|zz ?_
     refine aYX (n:=4) [15,16,17] ⟨?_, ?_, ?_,trivial⟩
     ·refine xw (aS rfl (bR (C:=aE) (K:=36) (fun _=>rfl) rfl h_8 (bJ (ds:=((eI .i64 x49.Height)::(aK (eI .u8) x49.Hash [(eI .u32 x49.Bits),(eI .u32 x49.First),(.row none 1 (x49.Times.map (eI .u32)))]))) bI rfl zl rfl))) ?_
      refine zz ?_
      refine aYX (n:=3) [16,17] ⟨?_, ?_,trivial⟩
      ·refine zz ?_
       refine aYV (m:=1) [17,18]<|zz ?_
       refine aYW J ?_
       exact(zG [0,1,6,7,2,3,4,5])
      refine zz ?_
      refine aYV (m:=1) [16,18]<|zz ?_
      refine aYW J ?_
      exact(zG [0,1,7,6,2,3,4,5])
     ·refine zz ?_
      refine aYV (m:=3) [17]<|zz ?_
      refine aYX (n:=2) [15,18] ⟨?_, ?_,trivial⟩
      ·refine xw (aS rfl (bR (C:=aE) (K:=36) (fun _=>rfl) rfl h_8 (bJ (ds:=((eI .i64 x49.Height)::(aK (eI .u8) x49.Hash [(eI .u32 x49.Bits),(eI .u32 x49.First),(.row none 1 (x49.Times.map (eI .u32)))]))) bI rfl zl rfl))) ?_
       refine zz ?_
       refine aYV (m:=1) [18]<|zz ?_
       refine aYW J ?_
       exact(zG [0,1,6,7,2,3,4,5])
      refine zz ?_
      refine aYV (m:=1) [15]<|xw (aS rfl (bR (C:=aE) (K:=36) (fun _=>rfl) rfl h_8 (bJ (ds:=((eI .i64 x49.Height)::(aK (eI .u8) x49.Hash [(eI .u32 x49.Bits),(eI .u32 x49.First),(.row none 1 (x49.Times.map (eI .u32)))]))) bI rfl zl rfl))) ?_
      refine zz ?_
      refine aYW J ?_
      exact(zG [0,1,6,7,2,3,4,5])
     refine zz ?_
     refine aYV (m:=3) [16]<|zz ?_
     refine aYX (n:=2) [15,18] ⟨?_, ?_,trivial⟩
     ·refine xw (aS rfl (bR (C:=aE) (K:=36) (fun _=>rfl) rfl h_8 (bJ (ds:=((eI .i64 x49.Height)::(aK (eI .u8) x49.Hash [(eI .u32 x49.Bits),(eI .u32 x49.First),(.row none 1 (x49.Times.map (eI .u32)))]))) bI rfl zl rfl))) ?_
      refine zz ?_
      refine aYV (m:=1) [18]<|zz ?_
      refine aYW J ?_
      exact(zG [0,1,7,6,2,3,4,5])
     refine zz ?_
     refine aYV (m:=1) [15]<|xw (aS rfl (bR (C:=aE) (K:=36) (fun _=>rfl) rfl h_8 (bJ (ds:=((eI .i64 x49.Height)::(aK (eI .u8) x49.Hash [(eI .u32 x49.Bits),(eI .u32 x49.First),(.row none 1 (x49.Times.map (eI .u32)))]))) bI rfl zl rfl))) ?_
     refine zz ?_
     refine aYW J ?_
     exact(zG [0,1,7,6,2,3,4,5])
    ·refine zz ?_
     refine aYV (m:=6) [17]<|zz ?_
     refine aYX (n:=5) [12,18] ⟨?_, ?_,trivial⟩
     ·refine zz ?_
      refine aYV (m:=3) [13,14]<|zz ?_
      refine aYX (n:=2) [15,18] ⟨?_, ?_,trivial⟩
      ·refine xw (aS rfl (bR (C:=aE) (K:=36) (fun _=>rfl) rfl h_8 (bJ (ds:=((eI .i64 x49.Height)::(aK (eI .u8) x49.Hash [(eI .u32 x49.Bits),(eI .u32 x49.First),(.row none 1 (x49.Times.map (eI .u32)))]))) bI rfl zl rfl))) ?_
       refine zz ?_
       refine aYV (m:=1) [18]<|zz ?_
       refine aYW J ?_
       exact(zG [0,1,6,7,2,3,4,5])
      refine zz ?_
      refine aYV (m:=1) [15]<|xw (aS rfl (bR (C:=aE) (K:=36) (fun _=>rfl) rfl h_8 (bJ (ds:=((eI .i64 x49.Height)::(aK (eI .u8) x49.Hash [(eI .u32 x49.Bits),(eI .u32 x49.First),(.row none 1 (x49.Times.map (eI .u32)))]))) bI rfl zl rfl))) ?_
      refine zz ?_
      refine aYW J ?_
      exact(zG [0,1,6,7,2,3,4,5])
     refine zz ?_
     refine aYV (m:=1) [12,13,14,15]<|zz ?_
     refine xw (aS rfl (bR (C:=aE) (K:=36) (fun _=>rfl) rfl h_8 (bJ (ds:=((eI .i64 x49.Height)::(aK (eI .u8) x49.Hash [(eI .u32 x49.Bits),(eI .u32 x49.First),(.row none 1 (x49.Times.map (eI .u32)))]))) bI rfl zl rfl))) ?_
     refine zz ?_
     refine aYW J ?_
     exact(zG [0,1,6,7,2,3,4,5])
    refine zz ?_
    refine aYV (m:=6) [16]<|zz ?_
    refine aYX (n:=5) [12,18] ⟨?_, ?_,trivial⟩
    ·refine zz ?_
     refine aYV (m:=3) [13,14]<|zz ?_
     refine aYX (n:=2) [15,18] ⟨?_, ?_,trivial⟩
     ·refine xw (aS rfl (bR (C:=aE) (K:=36) (fun _=>rfl) rfl h_8 (bJ (ds:=((eI .i64 x49.Height)::(aK (eI .u8) x49.Hash [(eI .u32 x49.Bits),(eI .u32 x49.First),(.row none 1 (x49.Times.map (eI .u32)))]))) bI rfl zl rfl))) ?_
      refine zz ?_
      refine aYV (m:=1) [18]<|zz ?_
      refine aYW J ?_
      exact(zG [0,1,7,6,2,3,4,5])
     refine zz ?_
     refine aYV (m:=1) [15]<|xw (aS rfl (bR (C:=aE) (K:=36) (fun _=>rfl) rfl h_8 (bJ (ds:=((eI .i64 x49.Height)::(aK (eI .u8) x49.Hash [(eI .u32 x49.Bits),(eI .u32 x49.First),(.row none 1 (x49.Times.map (eI .u32)))]))) bI rfl zl rfl))) ?_
     refine zz ?_
     refine aYW J ?_
     exact(zG [0,1,7,6,2,3,4,5])
    refine zz ?_
    refine aYV (m:=1) [12,13,14,15]<|zz ?_
    refine xw (aS rfl (bR (C:=aE) (K:=36) (fun _=>rfl) rfl h_8 (bJ (ds:=((eI .i64 x49.Height)::(aK (eI .u8) x49.Hash [(eI .u32 x49.Bits),(eI .u32 x49.First),(.row none 1 (x49.Times.map (eI .u32)))]))) bI rfl zl rfl))) ?_
    refine zz ?_
    refine aYW J ?_
    exact(zG [0,1,7,6,2,3,4,5])
   ·refine zz ?_
    refine aYV (m:=7) [13]<|zz ?_
    refine aYX (n:=6) [9,16,17] ⟨?_, ?_, ?_,trivial⟩
    ·refine zz ?_
     refine aYV (m:=5) [14]<|zz ?_
     refine aYX (n:=4) [15,16,17] ⟨?_, ?_, ?_,trivial⟩
     ·refine xw (aS rfl (bR (C:=aE) (K:=36) (fun _=>rfl) rfl h_8 (bJ (ds:=((eI .i64 x49.Height)::(aK (eI .u8) x49.Hash [(eI .u32 x49.Bits),(eI .u32 x49.First),(.row none 1 (x49.Times.map (eI .u32)))]))) bI rfl zl rfl))) ?_
      refine zz ?_
      refine aYX (n:=3) [16,17] ⟨?_, ?_,trivial⟩
      ·refine zz ?_
       refine aYV (m:=1) [17,18]<|zz ?_
       refine aYW J ?_
       exact(zG [0,1,6,7,2,3,4,5])
      refine zz ?_
      refine aYV (m:=1) [16,18]<|zz ?_
      refine aYW J ?_
      exact(zG [0,1,7,6,2,3,4,5])
     ·refine zz ?_
      refine aYV (m:=3) [17]<|zz ?_
      refine aYX (n:=2) [15,18] ⟨?_, ?_,trivial⟩
      ·refine xw (aS rfl (bR (C:=aE) (K:=36) (fun _=>rfl) rfl h_8 (bJ (ds:=((eI .i64 x49.Height)::(aK (eI .u8) x49.Hash [(eI .u32 x49.Bits),(eI .u32 x49.First),(.row none 1 (x49.Times.map (eI .u32)))]))) bI rfl zl rfl))) ?_
       refine zz ?_
       refine aYV (m:=1) [18]<|zz ?_
       refine aYW J ?_
       exact(zG [0,1,6,7,2,3,4,5])
      refine zz ?_
      refine aYV (m:=1) [15]<|xw (aS rfl (bR (C:=aE) (K:=36) (fun _=>rfl) rfl h_8 (bJ (ds:=((eI .i64 x49.Height)::(aK (eI .u8) x49.Hash [(eI .u32 x49.Bits),(eI .u32 x49.First),(.row none 1 (x49.Times.map (eI .u32)))]))) bI rfl zl rfl))) ?_
      refine zz ?_
      refine aYW J ?_
      exact(zG [0,1,6,7,2,3,4,5])
     refine zz ?_
     refine aYV (m:=3) [16]<|zz ?_
     refine aYX (n:=2) [15,18] ⟨?_, ?_,trivial⟩
     ·refine xw (aS rfl (bR (C:=aE) (K:=36) (fun _=>rfl) rfl h_8 (bJ (ds:=((eI .i64 x49.Height)::(aK (eI .u8) x49.Hash [(eI .u32 x49.Bits),(eI .u32 x49.First),(.row none 1 (x49.Times.map (eI .u32)))]))) bI rfl zl rfl))) ?_
      refine zz ?_
      refine aYV (m:=1) [18]<|zz ?_
      refine aYW J ?_
      exact(zG [0,1,7,6,2,3,4,5])
     refine zz ?_
     refine aYV (m:=1) [15]<|xw (aS rfl (bR (C:=aE) (K:=36) (fun _=>rfl) rfl h_8 (bJ (ds:=((eI .i64 x49.Height)::(aK (eI .u8) x49.Hash [(eI .u32 x49.Bits),(eI .u32 x49.First),(.row none 1 (x49.Times.map (eI .u32)))]))) bI rfl zl rfl))) ?_
     refine zz ?_
     refine aYW J ?_
     exact(zG [0,1,7,6,2,3,4,5])
    ·refine zz ?_
     refine aYV (m:=5) [17]<|zz ?_
     refine aYX (n:=4) [9,18] ⟨?_, ?_,trivial⟩
     ·refine zz ?_
      refine aYV (m:=3) [14]<|zz ?_
      refine aYX (n:=2) [15,18] ⟨?_, ?_,trivial⟩
      ·refine xw (aS rfl (bR (C:=aE) (K:=36) (fun _=>rfl) rfl h_8 (bJ (ds:=((eI .i64 x49.Height)::(aK (eI .u8) x49.Hash [(eI .u32 x49.Bits),(eI .u32 x49.First),(.row none 1 (x49.Times.map (eI .u32)))]))) bI rfl zl rfl))) ?_
       refine zz ?_
       refine aYV (m:=1) [18]<|zz ?_
       refine aYW J ?_
       exact(zG [0,1,6,7,2,3,4,5])
      refine zz ?_
      refine aYV (m:=1) [15]<|xw (aS rfl (bR (C:=aE) (K:=36) (fun _=>rfl) rfl h_8 (bJ (ds:=((eI .i64 x49.Height)::(aK (eI .u8) x49.Hash [(eI .u32 x49.Bits),(eI .u32 x49.First),(.row none 1 (x49.Times.map (eI .u32)))]))) bI rfl zl rfl))) ?_
      refine zz ?_
      refine aYW J ?_
      exact(zG [0,1,6,7,2,3,4,5])
     refine zz ?_
     refine aYV (m:=1) [9,14,15]<|zz ?_
     refine xw (aS rfl (bR (C:=aE) (K:=36) (fun _=>rfl) rfl h_8 (bJ (ds:=((eI .i64 x49.Height)::(aK (eI .u8) x49.Hash [(eI .u32 x49.Bits),(eI .u32 x49.First),(.row none 1 (x49.Times.map (eI .u32)))]))) bI rfl zl rfl))) ?_
     refine zz ?_
     refine aYW J ?_
     exact(zG [0,1,6,7,2,3,4,5])
    refine zz ?_
    refine aYV (m:=5) [16]<|zz ?_
    refine aYX (n:=4) [9,18] ⟨?_, ?_,trivial⟩
    ·refine zz ?_
     refine aYV (m:=3) [14]<|zz ?_
     refine aYX (n:=2) [15,18] ⟨?_, ?_,trivial⟩
     ·refine xw (aS rfl (bR (C:=aE) (K:=36) (fun _=>rfl) rfl h_8 (bJ (ds:=((eI .i64 x49.Height)::(aK (eI .u8) x49.Hash [(eI .u32 x49.Bits),(eI .u32 x49.First),(.row none 1 (x49.Times.map (eI .u32)))]))) bI rfl zl rfl))) ?_
      refine zz ?_
      refine aYV (m:=1) [18]<|zz ?_
      refine aYW J ?_
      exact(zG [0,1,7,6,2,3,4,5])
     refine zz ?_
     refine aYV (m:=1) [15]<|xw (aS rfl (bR (C:=aE) (K:=36) (fun _=>rfl) rfl h_8 (bJ (ds:=((eI .i64 x49.Height)::(aK (eI .u8) x49.Hash [(eI .u32 x49.Bits),(eI .u32 x49.First),(.row none 1 (x49.Times.map (eI .u32)))]))) bI rfl zl rfl))) ?_
     refine zz ?_
     refine aYW J ?_
     exact(zG [0,1,7,6,2,3,4,5])
    refine zz ?_
    refine aYV (m:=1) [9,14,15]<|zz ?_
    refine xw (aS rfl (bR (C:=aE) (K:=36) (fun _=>rfl) rfl h_8 (bJ (ds:=((eI .i64 x49.Height)::(aK (eI .u8) x49.Hash [(eI .u32 x49.Bits),(eI .u32 x49.First),(.row none 1 (x49.Times.map (eI .u32)))]))) bI rfl zl rfl))) ?_
    refine zz ?_
    refine aYW J ?_
    exact(zG [0,1,7,6,2,3,4,5])
   ·refine zz ?_
    refine aYV (m:=7) [17]<|zz ?_
    refine aYX (n:=6) [9,12,18] ⟨?_, ?_, ?_,trivial⟩
    ·refine zz ?_
     refine aYX (n:=5) [12,18] ⟨?_, ?_,trivial⟩
     ·refine zz ?_
      refine aYV (m:=3) [13,14]<|zz ?_
      refine aYX (n:=2) [15,18] ⟨?_, ?_,trivial⟩
      ·refine xw (aS rfl (bR (C:=aE) (K:=36) (fun _=>rfl) rfl h_8 (bJ (ds:=((eI .i64 x49.Height)::(aK (eI .u8) x49.Hash [(eI .u32 x49.Bits),(eI .u32 x49.First),(.row none 1 (x49.Times.map (eI .u32)))]))) bI rfl zl rfl))) ?_
       refine zz ?_
       refine aYV (m:=1) [18]<|zz ?_
       refine aYW J ?_
       exact(zG [0,1,6,7,2,3,4,5])
      refine zz ?_
      refine aYV (m:=1) [15]<|xw (aS rfl (bR (C:=aE) (K:=36) (fun _=>rfl) rfl h_8 (bJ (ds:=((eI .i64 x49.Height)::(aK (eI .u8) x49.Hash [(eI .u32 x49.Bits),(eI .u32 x49.First),(.row none 1 (x49.Times.map (eI .u32)))]))) bI rfl zl rfl))) ?_
      refine zz ?_
      refine aYW J ?_
      exact(zG [0,1,6,7,2,3,4,5])
     refine zz ?_
     refine aYV (m:=1) [12,13,14,15]<|zz ?_
     refine xw (aS rfl (bR (C:=aE) (K:=36) (fun _=>rfl) rfl h_8 (bJ (ds:=((eI .i64 x49.Height)::(aK (eI .u8) x49.Hash [(eI .u32 x49.Bits),(eI .u32 x49.First),(.row none 1 (x49.Times.map (eI .u32)))]))) bI rfl zl rfl))) ?_
     refine zz ?_
     refine aYW J ?_
     exact(zG [0,1,6,7,2,3,4,5])
    ·refine zz ?_
     refine aYV (m:=5) [13]<|zz ?_
     refine aYX (n:=4) [9,18] ⟨?_, ?_,trivial⟩
     ·refine zz ?_
      refine aYV (m:=3) [14]<|zz ?_
      refine aYX (n:=2) [15,18] ⟨?_, ?_,trivial⟩
      ·refine xw (aS rfl (bR (C:=aE) (K:=36) (fun _=>rfl) rfl h_8 (bJ (ds:=((eI .i64 x49.Height)::(aK (eI .u8) x49.Hash [(eI .u32 x49.Bits),(eI .u32 x49.First),(.row none 1 (x49.Times.map (eI .u32)))]))) bI rfl zl rfl))) ?_
       refine zz ?_
       refine aYV (m:=1) [18]<|zz ?_
       refine aYW J ?_
       exact(zG [0,1,6,7,2,3,4,5])
      refine zz ?_
      refine aYV (m:=1) [15]<|xw (aS rfl (bR (C:=aE) (K:=36) (fun _=>rfl) rfl h_8 (bJ (ds:=((eI .i64 x49.Height)::(aK (eI .u8) x49.Hash [(eI .u32 x49.Bits),(eI .u32 x49.First),(.row none 1 (x49.Times.map (eI .u32)))]))) bI rfl zl rfl))) ?_
      refine zz ?_
      refine aYW J ?_
      exact(zG [0,1,6,7,2,3,4,5])
     refine zz ?_
     refine aYV (m:=1) [9,14,15]<|zz ?_
     refine xw (aS rfl (bR (C:=aE) (K:=36) (fun _=>rfl) rfl h_8 (bJ (ds:=((eI .i64 x49.Height)::(aK (eI .u8) x49.Hash [(eI .u32 x49.Bits),(eI .u32 x49.First),(.row none 1 (x49.Times.map (eI .u32)))]))) bI rfl zl rfl))) ?_
     refine zz ?_
     refine aYW J ?_
     exact(zG [0,1,6,7,2,3,4,5])
    refine zz ?_
    refine aYV (m:=1) [9,12,13,14,15]<|zz ?_
    refine xw (aS rfl (bR (C:=aE) (K:=36) (fun _=>rfl) rfl h_8 (bJ (ds:=((eI .i64 x49.Height)::(aK (eI .u8) x49.Hash [(eI .u32 x49.Bits),(eI .u32 x49.First),(.row none 1 (x49.Times.map (eI .u32)))]))) bI rfl zl rfl))) ?_
    refine zz ?_
    refine aYW J ?_
    exact(zG [0,1,6,7,2,3,4,5])
   refine zz ?_
   refine aYV (m:=7) [16]<|zz ?_
   refine aYX (n:=6) [9,12,18] ⟨?_, ?_, ?_,trivial⟩
   ·refine zz ?_
    refine aYX (n:=5) [12,18] ⟨?_, ?_,trivial⟩
    ·refine zz ?_
     refine aYV (m:=3) [13,14]<|zz ?_
     refine aYX (n:=2) [15,18] ⟨?_, ?_,trivial⟩
     ·refine xw (aS rfl (bR (C:=aE) (K:=36) (fun _=>rfl) rfl h_8 (bJ (ds:=((eI .i64 x49.Height)::(aK (eI .u8) x49.Hash [(eI .u32 x49.Bits),(eI .u32 x49.First),(.row none 1 (x49.Times.map (eI .u32)))]))) bI rfl zl rfl))) ?_
      refine zz ?_
      refine aYV (m:=1) [18]<|zz ?_
      refine aYW J ?_
      exact(zG [0,1,7,6,2,3,4,5])
     refine zz ?_
     refine aYV (m:=1) [15]<|xw (aS rfl (bR (C:=aE) (K:=36) (fun _=>rfl) rfl h_8 (bJ (ds:=((eI .i64 x49.Height)::(aK (eI .u8) x49.Hash [(eI .u32 x49.Bits),(eI .u32 x49.First),(.row none 1 (x49.Times.map (eI .u32)))]))) bI rfl zl rfl))) ?_
     refine zz ?_
     refine aYW J ?_
     exact(zG [0,1,7,6,2,3,4,5])
    refine zz ?_
    refine aYV (m:=1) [12,13,14,15]<|zz ?_
    refine xw (aS rfl (bR (C:=aE) (K:=36) (fun _=>rfl) rfl h_8 (bJ (ds:=((eI .i64 x49.Height)::(aK (eI .u8) x49.Hash [(eI .u32 x49.Bits),(eI .u32 x49.First),(.row none 1 (x49.Times.map (eI .u32)))]))) bI rfl zl rfl))) ?_
    refine zz ?_
    refine aYW J ?_
    exact(zG [0,1,7,6,2,3,4,5])
   ·refine zz ?_
    refine aYV (m:=5) [13]<|zz ?_
    refine aYX (n:=4) [9,18] ⟨?_, ?_,trivial⟩
    ·refine zz ?_
     refine aYV (m:=3) [14]<|zz ?_
     refine aYX (n:=2) [15,18] ⟨?_, ?_,trivial⟩
     ·refine xw (aS rfl (bR (C:=aE) (K:=36) (fun _=>rfl) rfl h_8 (bJ (ds:=((eI .i64 x49.Height)::(aK (eI .u8) x49.Hash [(eI .u32 x49.Bits),(eI .u32 x49.First),(.row none 1 (x49.Times.map (eI .u32)))]))) bI rfl zl rfl))) ?_
      refine zz ?_
      refine aYV (m:=1) [18]<|zz ?_
      refine aYW J ?_
      exact(zG [0,1,7,6,2,3,4,5])
     refine zz ?_
     refine aYV (m:=1) [15]<|xw (aS rfl (bR (C:=aE) (K:=36) (fun _=>rfl) rfl h_8 (bJ (ds:=((eI .i64 x49.Height)::(aK (eI .u8) x49.Hash [(eI .u32 x49.Bits),(eI .u32 x49.First),(.row none 1 (x49.Times.map (eI .u32)))]))) bI rfl zl rfl))) ?_
     refine zz ?_
     refine aYW J ?_
     exact(zG [0,1,7,6,2,3,4,5])
    refine zz ?_
    refine aYV (m:=1) [9,14,15]<|zz ?_
    refine xw (aS rfl (bR (C:=aE) (K:=36) (fun _=>rfl) rfl h_8 (bJ (ds:=((eI .i64 x49.Height)::(aK (eI .u8) x49.Hash [(eI .u32 x49.Bits),(eI .u32 x49.First),(.row none 1 (x49.Times.map (eI .u32)))]))) bI rfl zl rfl))) ?_
    refine zz ?_
    refine aYW J ?_
    exact(zG [0,1,7,6,2,3,4,5])
   refine zz ?_
   refine aYV (m:=1) [9,12,13,14,15]<|zz ?_
   refine xw (aS rfl (bR (C:=aE) (K:=36) (fun _=>rfl) rfl h_8 (bJ (ds:=((eI .i64 x49.Height)::(aK (eI .u8) x49.Hash [(eI .u32 x49.Bits),(eI .u32 x49.First),(.row none 1 (x49.Times.map (eI .u32)))]))) bI rfl zl rfl))) ?_
   refine zz ?_
   refine aYW J ?_
   exact(zG [0,1,7,6,2,3,4,5])
  ·refine zz ?_
   refine aYV (m:=8) [17]<|zz ?_
   refine aYX (n:=7) [9,11,18] ⟨?_, ?_, ?_,trivial⟩
   ·refine zz ?_
    refine aYX (n:=6) [11,18] ⟨?_, ?_,trivial⟩
    ·refine zz ?_
     refine aYX (n:=5) [12,18] ⟨?_, ?_,trivial⟩
     ·refine zz ?_
      refine aYV (m:=3) [13,14]<|zz ?_
      refine aYX (n:=2) [15,18] ⟨?_, ?_,trivial⟩
      ·refine xw (aS rfl (bR (C:=aE) (K:=36) (fun _=>rfl) rfl h_8 (bJ (ds:=((eI .i64 x49.Height)::(aK (eI .u8) x49.Hash [(eI .u32 x49.Bits),(eI .u32 x49.First),(.row none 1 (x49.Times.map (eI .u32)))]))) bI rfl zl rfl))) ?_
       refine zz ?_
       refine aYV (m:=1) [18]<|zz ?_
       refine aYW J ?_
       exact(zG [0,1,6,7,2,3,4,5])
      refine zz ?_
      refine aYV (m:=1) [15]<|xw (aS rfl (bR (C:=aE) (K:=36) (fun _=>rfl) rfl h_8 (bJ (ds:=((eI .i64 x49.Height)::(aK (eI .u8) x49.Hash [(eI .u32 x49.Bits),(eI .u32 x49.First),(.row none 1 (x49.Times.map (eI .u32)))]))) bI rfl zl rfl))) ?_
      refine zz ?_
      refine aYW J ?_
      exact(zG [0,1,6,7,2,3,4,5])
     refine zz ?_
     refine aYV (m:=1) [12,13,14,15]<|zz ?_
     refine xw (aS rfl (bR (C:=aE) (K:=36) (fun _=>rfl) rfl h_8 (bJ (ds:=((eI .i64 x49.Height)::(aK (eI .u8) x49.Hash [(eI .u32 x49.Bits),(eI .u32 x49.First),(.row none 1 (x49.Times.map (eI .u32)))]))) bI rfl zl rfl))) ?_
     refine zz ?_
     refine aYW J ?_
     exact(zG [0,1,6,7,2,3,4,5])
    refine zz ?_
    refine aYV (m:=1) [11,12,13,14,15]<|zz ?_
    refine xw (aS rfl (bR (C:=aE) (K:=36) (fun _=>rfl) rfl h_8 (bJ (ds:=((eI .i64 x49.Height)::(aK (eI .u8) x49.Hash [(eI .u32 x49.Bits),(eI .u32 x49.First),(.row none 1 (x49.Times.map (eI .u32)))]))) bI rfl zl rfl))) ?_
    refine zz ?_
    refine aYW J ?_
    exact(zG [0,1,6,7,2,3,4,5])
   ·refine zz ?_
    refine aYX (n:=6) [9,12,18] ⟨?_, ?_, ?_,trivial⟩
    ·refine zz ?_
     refine aYX (n:=5) [12,18] ⟨?_, ?_,trivial⟩
     ·refine zz ?_
      refine aYV (m:=3) [13,14]<|zz ?_
      refine aYX (n:=2) [15,18] ⟨?_, ?_,trivial⟩
      ·refine xw (aS rfl (bR (C:=aE) (K:=36) (fun _=>rfl) rfl h_8 (bJ (ds:=((eI .i64 x49.Height)::(aK (eI .u8) x49.Hash [(eI .u32 x49.Bits),(eI .u32 x49.First),(.row none 1 (x49.Times.map (eI .u32)))]))) bI rfl zl rfl))) ?_
       refine zz ?_
       refine aYV (m:=1) [18]<|zz ?_
       refine aYW J ?_
       exact(zG [0,1,6,7,2,3,4,5])
      refine zz ?_
      refine aYV (m:=1) [15]<|xw (aS rfl (bR (C:=aE) (K:=36) (fun _=>rfl) rfl h_8 (bJ (ds:=((eI .i64 x49.Height)::(aK (eI .u8) x49.Hash [(eI .u32 x49.Bits),(eI .u32 x49.First),(.row none 1 (x49.Times.map (eI .u32)))]))) bI rfl zl rfl))) ?_
      refine zz ?_
      refine aYW J ?_
      exact(zG [0,1,6,7,2,3,4,5])
     refine zz ?_
     refine aYV (m:=1) [12,13,14,15]<|zz ?_
     refine xw (aS rfl (bR (C:=aE) (K:=36) (fun _=>rfl) rfl h_8 (bJ (ds:=((eI .i64 x49.Height)::(aK (eI .u8) x49.Hash [(eI .u32 x49.Bits),(eI .u32 x49.First),(.row none 1 (x49.Times.map (eI .u32)))]))) bI rfl zl rfl))) ?_
     refine zz ?_
     refine aYW J ?_
     exact(zG [0,1,6,7,2,3,4,5])
    ·refine zz ?_
     refine aYV (m:=5) [13]<|zz ?_
     refine aYX (n:=4) [9,18] ⟨?_, ?_,trivial⟩
     ·refine zz ?_
      refine aYV (m:=3) [14]<|zz ?_
      refine aYX (n:=2) [15,18] ⟨?_, ?_,trivial⟩
      ·refine xw (aS rfl (bR (C:=aE) (K:=36) (fun _=>rfl) rfl h_8 (bJ (ds:=((eI .i64 x49.Height)::(aK (eI .u8) x49.Hash [(eI .u32 x49.Bits),(eI .u32 x49.First),(.row none 1 (x49.Times.map (eI .u32)))]))) bI rfl zl rfl))) ?_
       refine zz ?_
       refine aYV (m:=1) [18]<|zz ?_
       refine aYW J ?_
       exact(zG [0,1,6,7,2,3,4,5])
      refine zz ?_
      refine aYV (m:=1) [15]<|xw (aS rfl (bR (C:=aE) (K:=36) (fun _=>rfl) rfl h_8 (bJ (ds:=((eI .i64 x49.Height)::(aK (eI .u8) x49.Hash [(eI .u32 x49.Bits),(eI .u32 x49.First),(.row none 1 (x49.Times.map (eI .u32)))]))) bI rfl zl rfl))) ?_
      refine zz ?_
      refine aYW J ?_
      exact(zG [0,1,6,7,2,3,4,5])
     refine zz ?_
     refine aYV (m:=1) [9,14,15]<|zz ?_
     refine xw (aS rfl (bR (C:=aE) (K:=36) (fun _=>rfl) rfl h_8 (bJ (ds:=((eI .i64 x49.Height)::(aK (eI .u8) x49.Hash [(eI .u32 x49.Bits),(eI .u32 x49.First),(.row none 1 (x49.Times.map (eI .u32)))]))) bI rfl zl rfl))) ?_
     refine zz ?_
     refine aYW J ?_
     exact(zG [0,1,6,7,2,3,4,5])
    refine zz ?_
    refine aYV (m:=1) [9,12,13,14,15]<|zz ?_
    refine xw (aS rfl (bR (C:=aE) (K:=36) (fun _=>rfl) rfl h_8 (bJ (ds:=((eI .i64 x49.Height)::(aK (eI .u8) x49.Hash [(eI .u32 x49.Bits),(eI .u32 x49.First),(.row none 1 (x49.Times.map (eI .u32)))]))) bI rfl zl rfl))) ?_
    refine zz ?_
    refine aYW J ?_
    exact(zG [0,1,6,7,2,3,4,5])
   refine zz ?_
   refine aYV (m:=1) [9,11,12,13,14,15]<|zz ?_
   refine xw (aS rfl (bR (C:=aE) (K:=36) (fun _=>rfl) rfl h_8 (bJ (ds:=((eI .i64 x49.Height)::(aK (eI .u8) x49.Hash [(eI .u32 x49.Bits),(eI .u32 x49.First),(.row none 1 (x49.Times.map (eI .u32)))]))) bI rfl zl rfl))) ?_
   refine zz ?_
   refine aYW J ?_
   exact(zG [0,1,6,7,2,3,4,5])
  refine zz ?_
  refine aYV (m:=8) [16]<|zz ?_
  refine aYX (n:=7) [9,11,18] ⟨?_, ?_, ?_,trivial⟩
  ·refine zz ?_
   refine aYX (n:=6) [11,18] ⟨?_, ?_,trivial⟩
   ·refine zz ?_
    refine aYX (n:=5) [12,18] ⟨?_, ?_,trivial⟩
    ·refine zz ?_
     refine aYV (m:=3) [13,14]<|zz ?_
     refine aYX (n:=2) [15,18] ⟨?_, ?_,trivial⟩
     ·refine xw (aS rfl (bR (C:=aE) (K:=36) (fun _=>rfl) rfl h_8 (bJ (ds:=((eI .i64 x49.Height)::(aK (eI .u8) x49.Hash [(eI .u32 x49.Bits),(eI .u32 x49.First),(.row none 1 (x49.Times.map (eI .u32)))]))) bI rfl zl rfl))) ?_
      refine zz ?_
      refine aYV (m:=1) [18]<|zz ?_
      refine aYW J ?_
      exact(zG [0,1,7,6,2,3,4,5])
     refine zz ?_
     refine aYV (m:=1) [15]<|xw (aS rfl (bR (C:=aE) (K:=36) (fun _=>rfl) rfl h_8 (bJ (ds:=((eI .i64 x49.Height)::(aK (eI .u8) x49.Hash [(eI .u32 x49.Bits),(eI .u32 x49.First),(.row none 1 (x49.Times.map (eI .u32)))]))) bI rfl zl rfl))) ?_
     refine zz ?_
     refine aYW J ?_
     exact(zG [0,1,7,6,2,3,4,5])
    refine zz ?_
    refine aYV (m:=1) [12,13,14,15]<|zz ?_
    refine xw (aS rfl (bR (C:=aE) (K:=36) (fun _=>rfl) rfl h_8 (bJ (ds:=((eI .i64 x49.Height)::(aK (eI .u8) x49.Hash [(eI .u32 x49.Bits),(eI .u32 x49.First),(.row none 1 (x49.Times.map (eI .u32)))]))) bI rfl zl rfl))) ?_
    refine zz ?_
    refine aYW J ?_
    exact(zG [0,1,7,6,2,3,4,5])
   refine zz ?_
   refine aYV (m:=1) [11,12,13,14,15]<|zz ?_
   refine xw (aS rfl (bR (C:=aE) (K:=36) (fun _=>rfl) rfl h_8 (bJ (ds:=((eI .i64 x49.Height)::(aK (eI .u8) x49.Hash [(eI .u32 x49.Bits),(eI .u32 x49.First),(.row none 1 (x49.Times.map (eI .u32)))]))) bI rfl zl rfl))) ?_
   refine zz ?_
   refine aYW J ?_
   exact(zG [0,1,7,6,2,3,4,5])
  ·refine zz ?_
   refine aYX (n:=6) [9,12,18] ⟨?_, ?_, ?_,trivial⟩
   ·refine zz ?_
    refine aYX (n:=5) [12,18] ⟨?_, ?_,trivial⟩
    ·refine zz ?_
     refine aYV (m:=3) [13,14]<|zz ?_
     refine aYX (n:=2) [15,18] ⟨?_, ?_,trivial⟩
     ·refine xw (aS rfl (bR (C:=aE) (K:=36) (fun _=>rfl) rfl h_8 (bJ (ds:=((eI .i64 x49.Height)::(aK (eI .u8) x49.Hash [(eI .u32 x49.Bits),(eI .u32 x49.First),(.row none 1 (x49.Times.map (eI .u32)))]))) bI rfl zl rfl))) ?_
      refine zz ?_
      refine aYV (m:=1) [18]<|zz ?_
      refine aYW J ?_
      exact(zG [0,1,7,6,2,3,4,5])
     refine zz ?_
     refine aYV (m:=1) [15]<|xw (aS rfl (bR (C:=aE) (K:=36) (fun _=>rfl) rfl h_8 (bJ (ds:=((eI .i64 x49.Height)::(aK (eI .u8) x49.Hash [(eI .u32 x49.Bits),(eI .u32 x49.First),(.row none 1 (x49.Times.map (eI .u32)))]))) bI rfl zl rfl))) ?_
     refine zz ?_
     refine aYW J ?_
     exact(zG [0,1,7,6,2,3,4,5])
    refine zz ?_
    refine aYV (m:=1) [12,13,14,15]<|zz ?_
    refine xw (aS rfl (bR (C:=aE) (K:=36) (fun _=>rfl) rfl h_8 (bJ (ds:=((eI .i64 x49.Height)::(aK (eI .u8) x49.Hash [(eI .u32 x49.Bits),(eI .u32 x49.First),(.row none 1 (x49.Times.map (eI .u32)))]))) bI rfl zl rfl))) ?_
    refine zz ?_
    refine aYW J ?_
    exact(zG [0,1,7,6,2,3,4,5])
   ·refine zz ?_
    refine aYV (m:=5) [13]<|zz ?_
    refine aYX (n:=4) [9,18] ⟨?_, ?_,trivial⟩
    ·refine zz ?_
     refine aYV (m:=3) [14]<|zz ?_
     refine aYX (n:=2) [15,18] ⟨?_, ?_,trivial⟩
     ·refine xw (aS rfl (bR (C:=aE) (K:=36) (fun _=>rfl) rfl h_8 (bJ (ds:=((eI .i64 x49.Height)::(aK (eI .u8) x49.Hash [(eI .u32 x49.Bits),(eI .u32 x49.First),(.row none 1 (x49.Times.map (eI .u32)))]))) bI rfl zl rfl))) ?_
      refine zz ?_
      refine aYV (m:=1) [18]<|zz ?_
      refine aYW J ?_
      exact(zG [0,1,7,6,2,3,4,5])
     refine zz ?_
     refine aYV (m:=1) [15]<|xw (aS rfl (bR (C:=aE) (K:=36) (fun _=>rfl) rfl h_8 (bJ (ds:=((eI .i64 x49.Height)::(aK (eI .u8) x49.Hash [(eI .u32 x49.Bits),(eI .u32 x49.First),(.row none 1 (x49.Times.map (eI .u32)))]))) bI rfl zl rfl))) ?_
     refine zz ?_
     refine aYW J ?_
     exact(zG [0,1,7,6,2,3,4,5])
    refine zz ?_
    refine aYV (m:=1) [9,14,15]<|zz ?_
    refine xw (aS rfl (bR (C:=aE) (K:=36) (fun _=>rfl) rfl h_8 (bJ (ds:=((eI .i64 x49.Height)::(aK (eI .u8) x49.Hash [(eI .u32 x49.Bits),(eI .u32 x49.First),(.row none 1 (x49.Times.map (eI .u32)))]))) bI rfl zl rfl))) ?_
    refine zz ?_
    refine aYW J ?_
    exact(zG [0,1,7,6,2,3,4,5])
   refine zz ?_
   refine aYV (m:=1) [9,12,13,14,15]<|zz ?_
   refine xw (aS rfl (bR (C:=aE) (K:=36) (fun _=>rfl) rfl h_8 (bJ (ds:=((eI .i64 x49.Height)::(aK (eI .u8) x49.Hash [(eI .u32 x49.Bits),(eI .u32 x49.First),(.row none 1 (x49.Times.map (eI .u32)))]))) bI rfl zl rfl))) ?_
   refine zz ?_
   refine aYW J ?_
   exact(zG [0,1,7,6,2,3,4,5])
  refine zz ?_
  refine aYV (m:=1) [9,11,12,13,14,15]<|zz ?_
  refine xw (aS rfl (bR (C:=aE) (K:=36) (fun _=>rfl) rfl h_8 (bJ (ds:=((eI .i64 x49.Height)::(aK (eI .u8) x49.Hash [(eI .u32 x49.Bits),(eI .u32 x49.First),(.row none 1 (x49.Times.map (eI .u32)))]))) bI rfl zl rfl))) ?_
  refine zz ?_
  refine aYW J ?_
  exact(zG [0,1,7,6,2,3,4,5])
 refine zz ?_
 obtain rfl:=sj hr2
 refine zz ?_
 exact hG1 (zG [0,1,2,3,4,5]) (J1 dJ eY fR jY hr)
theorem aGD {N v l r} (hr:aB5 N v l=some r):
  Vm.Fn Tryz.prog 17 [] [(eI .u8 v),(.row none 1 (l.map (eI .u8)))] (gM r) []:=by
 refine zf Tryz.func17 Tryz.ntmps17 ?_
 unfold aB5 at hr
 obtain⟨x6,h_1,hr⟩:=aA hr
 obtain⟨x8,h_2,hr⟩:=aA hr
 refine zz ?_
 refine xp (aMw h_1) ?_
 refine zz ?_
 refine xp (aOp h_2) ?_
 refine zz ?_
 obtain rfl:=sj hr
 exact gL Tryz.results17 aY (zG [])
theorem aKz {N v eV r} (hr:z7 N v eV=some r):
  Vm.Fn Tryz.prog 16 [] [(eI .u8 v),(.row none 1 (eV.map (eI .u8)))] (gM r) []:=by
 refine zf Tryz.func16 Tryz.ntmps16 ?_
 unfold z7 at hr
 obtain⟨x7,h_1,hr⟩:=aA hr
 obtain⟨x8,h_2,hr⟩:=aA hr
 refine zz ?_
 refine xp (aMZ h_1)<|xp (aGD h_2) ?_
 refine zz ?_
 obtain rfl:=sj hr
 exact gL Tryz.results16 aY (zG [])
end Go.Proofs.YtgfdllellpbmoaaGreatDoor
