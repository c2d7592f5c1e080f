/- Texts of ours, joined: Wk2. -/
import Derived.Test.YtgfdllellpbmoaaGreatDoorQLedgerBasics6
open Bool renaming eq_false_or_eq_true → aYV
open List renaming replicate → aYW
open Go.IntKind renaming i64 → aYX,u64 → aY1,u32 → aY7
open Go.Vm.AB renaming seq → aYY,block → aYZ,seq_g → aY0,ghost → aY3,loopM → aY4,rs → aY9,rd → aZg
open Go.Vm.DrawG renaming ps → aY2,jh → aY5,fk → aY8,nil → aZb,jn → aZe
open Go.Vm.Ghost renaming trans → aY6,virt → aZf
open Int renaming toNat → aZa,tdiv → aZc
open Go.Vm.OpsX renaming ghost → aZd
set_option linter.unusedVariables false
set_option linter.unusedSimpArgs false
set_option maxRecDepth 20000
set_option maxHeartbeats 8000000
namespace Go.Proofs.YtgfdllellpbmoaaGreatDoor
open Go Go.Vm
theorem aMj {N l r} (hr:aCc N l=some r):
  Vm.Fn Tryz.prog 121 [] [(.row none 32 (l.map (eA (eI .u8))))] (.agg (r.map (eI .u8))) []:=by
 refine zf Tryz.func121 Tryz.ntmps121 ?_
 unfold aCc at hr
 refine zz ?_
 refine aYY ?_
 refine aY0 fun K1 hK1 hG1=> ?_
 have J1: ∀b8,rH N l b8=some r→K1 (aD 23 [(0,(.row none 32 (l.map (eA (eI .u8))))),(2,(.ptr 0 0)),(11,(eB b8))]) [some ⟨24,(aYW 32 0).map (eI .u8)⟩]:=by
  intro b8 hr
  unfold rH at hr
  refine hK1 ?_
  refine zk hr ?_ ?_<;>intro h1 hr
  ·refine zz ?_
   refine xw (v:=(.agg ([0,0,0,0,0,0,0,0,0,0,0,0,0,0,0,0,0,0,0,0,0,0,0,0,0,0,0,0,0,0,0,0].map (eI .u8)))) (bV rfl (oT lD sP rfl)) ?_
   refine zz ?_
   obtain rfl:=sj hr
   exact gL Tryz.results121 aY (zG [])
  obtain⟨bZ,h_2,hr⟩:=aA hr
  refine zz ?_
  refine zc (aJp h_2) [] ?_
  obtain⟨x19,h_3,hr⟩:=aA hr
  obtain⟨cW,h_4,hr⟩:=aA hr
  obtain⟨q,h_5,hr⟩:=aA hr
  refine zz ?_
  refine xw (v:=(.agg (cW.map (eI .u8)))) (aS rfl (aNX (E:=(eI .u8)) lD rfl h_4 (bP h_5))) ?_
  refine zz ?_
  obtain rfl:=sj hr
  exact gL Tryz.results121 aY (zG [])
 rcases aYV ((l.length:Int) == 0)with h6|h6
 ·replace hr:=bY hr h6
  refine xr<|zz ?_
  exact hG1 (zG [0]) (J1 true hr)
 replace hr:=bX hr h6
 refine xr<|zz ?_
 exact hG1 (zG [0]) (J1 (decide (1024<(l.length:Int))) hr)
theorem aGB {N l r} (hr:yR N l=some r):
  Vm.Fn Tryz.prog 82 [] [(.row none 4 (l.map cK))] (.agg (r.map (eI .u8))) []:=by
 refine zf Tryz.func82 Tryz.ntmps82 ?_
 unfold yR at hr
 refine zz ?_
 refine aY0 fun K1 hK1 hG1=> ?_
 have J1: ∀l1,aAD N l1=some r→K1 (aD 20 [(2,(.ptr 0 0)),(3,(.sl 1 0 l1.length 32 true))]) [some ⟨24,(aYW 32 0).map (eI .u8)⟩,some ⟨24,l1.flatMap (lL (eI .u8))⟩]:=by
  intro l1 hr
  unfold aAD at hr
  refine hK1 ?_
  obtain⟨q,h_1,hr⟩:=aA hr
  obtain⟨x19,h_2,hr⟩:=aA hr
  obtain⟨q_1,h_3,hr⟩:=aA hr
  refine zz ?_
  refine aZd (o6 [1,0])<|xp (aMj h_2) ?_
  refine zz ?_
  obtain rfl:=sj hr
  exact gL Tryz.results82 aY (zG [])
 obtain⟨bB,hL2,hr⟩:=aA hr
 refine zz ?_
 refine aYZ<|aY4 (fun m s h=> ∃x8 b5,oW N l m x8 b5=some bB∧Ghost 0 s h (aD 20 [(2,(.ptr 0 0)),(3,(.sl 1 0 b5.length 32 true)),(6,(.row none 4 (l.map cK))),(7,(eI .i64 (l.length:Int))),(8,(eI .i64 x8))]) [some ⟨24,(aYW 32 0).map (eI .u8)⟩,some ⟨24,b5.flatMap (lL (eI .u8))⟩]) ⟨0,[],hL2,(zW 24 [0,1])⟩ ?_
 rintro m2 s h ⟨x8,b5,hr2,hg⟩
 refine aY3 hg ?_
 clear hg hL2
 rw[oW]at hr2
 refine zz ?_
 refine aYY ?_
 refine zk hr2 ?_ ?_<;>intro h4 hr2
 ·refine zz ?_
  refine aYY<|aYZ ?_
  obtain⟨bQ,h_5,hr2⟩:=aA hr2
  obtain⟨bZ,h_6,hr2⟩:=aA hr2
  obtain⟨q_2,h_7,hr2⟩:=aA hr2
  obtain⟨x16,h_8,hr2⟩:=aA hr2
  refine zz ?_
  refine xp (aMh h_6)<|xw (v:=(.sl 3 0 1 32 true)) (h':=[some ⟨24,(aYW 32 0).map (eI .u8)⟩,some ⟨24,b5.flatMap (lL (eI .u8))⟩,some ⟨117,aZ bQ⟩,some ⟨24,[bZ].flatMap (lL (eI .u8))⟩]) (aCj rfl (aMS (ps':=[(0,.agg (lL (eI .u8) bZ))]) (by simp only[aF3,lL,gO (l:=bZ) (bP h_7)]) (aJ1 (len:=1) (C:=(lL (eI .u8))) (xs:=[bZ]) (K:=32) (fun _=>rfl) (fun _=>rfl) aHS lD ⟨zl,zl,zl⟩ rfl rfl rfl rfl rfl rfl))) ?_
  refine zz ?_
  exact⟨aYX.wrap (x8+1),x16,hr2,(zG [0,4])⟩
 refine zz ?_
 obtain rfl:=sj hr2
 refine zz ?_
 exact hG1 (zG [0,1]) (J1 b5 hr)
theorem aKe {N vs r} (hr:aA1 N vs=some r):
  Vm.Fn Tryz.prog 83 [] [(eI .u8 vs)] (eI .u32 r) []:=by
 refine zf Tryz.func83 Tryz.ntmps83 ?_
 unfold aA1 at hr
 refine zz ?_
 obtain rfl:=sj hr
 exact aX Tryz.results83 []
theorem aGX {N x y r} (hr:lK N x y=some r):
  Vm.Fn Tryz.prog 186 [] [(eI .u64 x),(eI .u64 y)] (.tup [(eI .u64 r.1),(eI .u64 r.2)]) []:=by
 refine zf Tryz.func186 Tryz.ntmps186 ?_
 unfold lK at hr
 obtain⟨x17,h_1,hr⟩:=aA hr
 obtain⟨cW,h_2,hr⟩:=aA hr
 obtain⟨x29,h_3,hr⟩:=aA hr
 obtain⟨fB,h_4,hr⟩:=aA hr
 obtain⟨x46,h_5,hr⟩:=aA hr
 refine zz ?_
 obtain rfl:=sj hr
 exact oH Tryz.results186 []
theorem aOu {N va b r} (hr:aAZ N va b=some r):
  Vm.Fn Tryz.prog 160 [] [(.agg (va.map (eI .u64))),(.agg (b.map (eI .u64)))] (.tup [(.agg (r.1.map (eI .u64))),(.agg (r.2.map (eI .u64)))]) []:=by
 refine zf Tryz.func160 Tryz.ntmps160 ?_
 unfold aAZ at hr
 refine zz ?_
 refine aY0 fun K1 hK1 hG1=> ?_
 have J1: ∀l2,xI N l2=some r→K1 (aD 71 [(4,(.ptr 0 0)),(5,(.ptr 1 0)),(6,(.ptr 2 0))]) [some ⟨29,(aYW 4 0).map (eI .u64)⟩,some ⟨29,(aYW 4 0).map (eI .u64)⟩,some ⟨229,l2.map (eI .u64)⟩]:=by
  intro l2 hr
  unfold xI at hr
  refine hK1<|aYY ?_
  obtain⟨q,h_1,hr⟩:=aA hr
  obtain⟨x64,h_2,hr⟩:=aA hr
  refine aY9 mixed [] [] [[0,1,2]]<|zz ?_
  refine xw (v:=(.sl 2 (aZa 0*1) x64.length 1 false)) (vO rfl rfl rfl (aWP (E:=(eI .u64)) (l:=l2) aMR rD rfl rfl rfl (bP h_1) zl rfl rfl h_2)) ?_
  refine xw (v:=(eI .i64 ((min x64.length (aYW 4 0).length:Nat):Int))) (h':=[some ⟨29,(aYW 4 0).map (eI .u64)⟩,some ⟨29,(cpy (aYW 4 0) x64).map (eI .u64)⟩,some ⟨229,l2.map (eI .u64)⟩]) (aNZ rfl rfl (aTb (E:=(eI .u64)) (l:=aYW 4 0) rfl aMG rD rfl rfl (aWm (l:=l2) rfl (fun _=>rfl) h_2) rfl)) ?_
  refine zz ?_
  refine aYY ?_
  obtain⟨x67,h_3,hr⟩:=aA hr
  refine aY9 mixed [] [] [[0,1,2]]<|zz ?_
  refine xw (v:=(.sl 2 (aZa 4*1) x67.length 1 false)) (vO rfl rfl rfl (aWP (E:=(eI .u64)) (l:=l2) aMR rD rfl rfl rfl (bP h_1) zl rfl rfl h_3)) ?_
  refine xw (v:=(eI .i64 ((min x67.length (aYW 4 0).length:Nat):Int))) (h':=[some ⟨29,(cpy (aYW 4 0) x67).map (eI .u64)⟩,some ⟨29,(cpy (aYW 4 0) x64).map (eI .u64)⟩,some ⟨229,l2.map (eI .u64)⟩]) (aNZ rfl rfl (aTb (E:=(eI .u64)) (l:=aYW 4 0) rfl aMG rD rfl rfl (aWm (l:=l2) rfl (fun _=>rfl) h_3) rfl)) ?_
  obtain⟨q_1,h_4,hr⟩:=aA hr
  obtain⟨q_2,h_5,hr⟩:=aA hr
  refine zz ?_
  obtain rfl:=sj hr
  exact kS Tryz.results160 aY aY (gF [])
 obtain⟨bB,hL2,hr⟩:=aA hr
 refine zz ?_
 refine aYZ<|aY4 (fun m s h=> ∃x15 l4,nP N va b m x15 l4=some bB∧Ghost 0 s h (aD 71 [(2,(.ptr 0 0)),(3,(.ptr 1 0)),(4,(.ptr 2 0)),(5,(.ptr 3 0)),(6,(.ptr 4 0)),(15,(eI .i64 x15))]) [some ⟨29,va.map (eI .u64)⟩,some ⟨29,b.map (eI .u64)⟩,some ⟨29,(aYW 4 0).map (eI .u64)⟩,some ⟨29,(aYW 4 0).map (eI .u64)⟩,some ⟨229,l4.map (eI .u64)⟩]) ⟨0,aYW 8 0,hL2,(zG [0,1,2,3,4])⟩ ?_
 rintro m2 s h ⟨x15,l4,hr2,hg⟩
 refine aY3 hg ?_
 clear hg hL2
 rw[nP]at hr2
 refine zz ?_
 refine aYY ?_
 refine zk hr2 ?_ ?_<;>intro h6 hr2
 ·refine zz ?_
  refine aY0 fun K3 hK3 hG3=> ?_
  have J3: ∀fR,aBo N va b x15 (nP N va b m2) fR=some bB→K3 (aD 71 [(2,(.ptr 0 0)),(3,(.ptr 1 0)),(4,(.ptr 2 0)),(5,(.ptr 3 0)),(6,(.ptr 4 0)),(15,(eI .i64 x15))]) [some ⟨29,va.map (eI .u64)⟩,some ⟨29,b.map (eI .u64)⟩,some ⟨29,(aYW 4 0).map (eI .u64)⟩,some ⟨29,(aYW 4 0).map (eI .u64)⟩,some ⟨229,fR.map (eI .u64)⟩]:=by
   intro fR hr2
   unfold aBo at hr2
   refine hK3<|zz ?_
   exact⟨aYX.wrap (x15+1),fR,hr2,(zG [0,1,2,3,4])⟩
  refine aYZ ?_
  refine zz ?_
  refine aY0 fun K4 hK4 hG4=> ?_
  have J4: ∀sZ v8,aA2 N va b x15 (nP N va b m2) sZ v8=some bB→K4 (aD 71 [(2,(.ptr 0 0)),(3,(.ptr 1 0)),(4,(.ptr 2 0)),(5,(.ptr 3 0)),(6,(.ptr 4 0)),(7,(eI .i64 x15)),(8,(eI .u64 sZ)),(15,(eI .i64 x15))]) [some ⟨29,va.map (eI .u64)⟩,some ⟨29,b.map (eI .u64)⟩,some ⟨29,(aYW 4 0).map (eI .u64)⟩,some ⟨29,(aYW 4 0).map (eI .u64)⟩,some ⟨229,v8.map (eI .u64)⟩]:=by
   intro sZ v8 hr2
   unfold aA2 at hr2
   refine hK4 ?_
   obtain⟨x61,h_7,hr2⟩:=aA hr2
   refine zz ?_
   exact hG3 (zG [0,1,2,3,4]) (J3 (v8.set (aZa (aYX.wrap (x15+4))) sZ) hr2)
  obtain⟨res5,hL5,hr2⟩:=aA hr2
  refine zz ?_
  refine aYZ<|aY4 (fun m s h=> ∃carry_1 x18 l4_3,tE N va b x15 m carry_1 x18 l4_3=some res5∧Ghost 0 s h (aD 71 [(2,(.ptr 0 0)),(3,(.ptr 1 0)),(4,(.ptr 2 0)),(5,(.ptr 3 0)),(6,(.ptr 4 0)),(7,(eI .i64 x15)),(8,(eI .u64 carry_1)),(15,(eI .i64 x15)),(18,(eI .i64 x18))]) [some ⟨29,va.map (eI .u64)⟩,some ⟨29,b.map (eI .u64)⟩,some ⟨29,(aYW 4 0).map (eI .u64)⟩,some ⟨29,(aYW 4 0).map (eI .u64)⟩,some ⟨229,l4_3.map (eI .u64)⟩]) ⟨0,0,l4,hL5,(zG [0,1,2,3,4])⟩ ?_
  rintro m5 s h ⟨carry_1,x18,l4_3,hr5,hg⟩
  refine aY3 hg ?_
  clear hg hL5
  rw[tE]at hr5
  refine zz ?_
  refine aYY ?_
  refine zk hr5 ?_ ?_<;>intro h8 hr5
  ·refine zz ?_
   refine aYY<|aYZ ?_
   refine zz ?_
   refine aYY ?_
   obtain⟨eQ,h_9,hr5⟩:=aA hr5
   obtain⟨x26,h_10,hr5⟩:=aA hr5
   obtain⟨x28,h_11,hr5⟩:=aA hr5
   refine aY9 mixed [186] [] [[0,1,2,3,4,5,6,7,8,9,10,11]]<|zz ?_
   refine xu (aGX h_11) ?_
   obtain⟨x35,h_13,hr5⟩:=aA hr5
   obtain⟨x38,h_14,hr5⟩:=aA hr5
   refine zz ?_
   refine xp (xY h_14) ?_
   obtain⟨x44,h_15,hr5⟩:=aA hr5
   refine zz ?_
   refine xp (xY h_15) ?_
   refine zz ?_
   exact⟨aY1.wrap ((aY1.wrap (x28.1+x38.2))+x44.2),aYX.wrap (x18+1),l4_3.set (aZa (aYX.wrap (x15+x18))) x44.1,hr5,(zG [0,1,2,3,4])⟩
  refine zz ?_
  obtain rfl:=sj hr5
  refine zz ?_
  exact hG4 (zG [0,1,2,3,4]) (J4 carry_1 l4_3 hr2)
 refine zz ?_
 obtain rfl:=sj hr2
 refine zz ?_
 exact hG1 (zG [2,3,4]) (J1 l4 hr)
theorem aHA {N:Nat}{x y c:Int}{r:Int×Int}(hr:sG N x y c=some r):Vm.Fn Tryz.prog 220 [] [(eI .u64 x),(eI .u64 y),(eI .u64 c)] (.tup [(eI .u64 r.1),(eI .u64 r.2)]) []:=
 aTp Tryz.func220 (by kernel_rfl) (by kernel_rfl) (by kernel_rfl) (by kernel_rfl) hr
theorem aNU {N va b r} (hr:aAT N va b=some r):
  Vm.Fn Tryz.prog 187 [] [(.agg (va.map (eI .u64))),(.agg (b.map (eI .u64)))] (.tup [(.agg (r.1.map (eI .u64))),(eB r.2)]) []:=by
 refine zf Tryz.func187 Tryz.ntmps187 ?_
 unfold aAT at hr
 refine zz ?_
 refine aY0 fun K1 hK1 hG1=> ?_
 have J1: ∀borrow l1,aBS N borrow l1=some r→K1 (aD 29 [(4,(.ptr 0 0)),(6,(.ptr 1 0)),(7,(eI .u64 borrow))]) [some ⟨29,(aYW 4 0).map (eI .u64)⟩,some ⟨29,l1.map (eI .u64)⟩]:=by
  intro borrow l1 hr
  unfold aBS at hr
  refine hK1 ?_
  obtain⟨q,h_1,hr⟩:=aA hr
  refine zz ?_
  obtain rfl:=sj hr
  exact kS Tryz.results187 aY aY (gF [])
 obtain⟨bB,hL2,hr⟩:=aA hr
 refine zz ?_
 refine aYZ<|aY4 (fun m s h=> ∃borrow_1 x9 l3,tP N va b m borrow_1 x9 l3=some bB∧Ghost 0 s h (aD 29 [(2,(.ptr 0 0)),(3,(.ptr 1 0)),(4,(.ptr 2 0)),(6,(.ptr 3 0)),(7,(eI .u64 borrow_1)),(9,(eI .i64 x9))]) [some ⟨29,va.map (eI .u64)⟩,some ⟨29,b.map (eI .u64)⟩,some ⟨29,(aYW 4 0).map (eI .u64)⟩,some ⟨29,l3.map (eI .u64)⟩]) ⟨0,0,aYW 4 0,hL2,(zG [0,1,2,3])⟩ ?_
 rintro m2 s h ⟨borrow_1,x9,l3,hr2,hg⟩
 refine aY3 hg ?_
 clear hg hL2
 rw[tP]at hr2
 refine zz ?_
 refine aYY ?_
 refine zk hr2 ?_ ?_<;>intro h2 hr2
 ·refine zz ?_
  refine aYY<|aYZ ?_
  obtain⟨x15,h_3,hr2⟩:=aA hr2
  obtain⟨x18,h_4,hr2⟩:=aA hr2
  obtain⟨cW,h_5,hr2⟩:=aA hr2
  obtain⟨dL,h_7,hr2⟩:=aA hr2
  refine zz ?_
  refine aY9 mixed [220] [] [[0,1,2,3,4,5,6,7,8,9,10,11,12,13,14]]<|zz ?_
  refine xu (aHA h_5) ?_
  refine zz ?_
  exact⟨cW.2,aYX.wrap (x9+1),l3.set (aZa x9) cW.1,hr2,(zG [0,1,2,3])⟩
 refine zz ?_
 obtain rfl:=sj hr2
 refine zz ?_
 exact hG1 (zG [2,3]) (J1 borrow_1 l3 hr)
theorem aNB {N hi lo b r} (hr:aDc N hi lo b=some r):
  Vm.Fn Tryz.prog 161 [] [(.agg (hi.map (eI .u64))),(.agg (lo.map (eI .u64))),(.agg (b.map (eI .u64)))] (.tup [(.agg (r.1.map (eI .u64))),(.agg (r.2.1.map (eI .u64))),(eB r.2.2)]) []:=by
 refine zf Tryz.func161 Tryz.ntmps161 ?_
 unfold aDc at hr
 refine zz ?_
 refine aYY ?_
 obtain⟨q,h_1,hr⟩:=aA hr
 obtain⟨q_1,h_2,hr⟩:=aA hr
 obtain⟨cB,h_3,hr⟩:=aA hr
 refine zz ?_
 refine xp (tJ h_3) ?_
 refine zz ?_
 refine zk hr ?_ ?_<;>intro h4 hr
 ·refine aYY<|aZg (cT []) (cT []) mixed<|aY2 (m:=4) [0] ?_
  refine zz ?_
  refine aZe (m:=2) (L:=lst [0,1,2] 5) (s1:=aD 61 [(6,(.ptr 0 0)),(7,(.ptr 1 0)),(8,(eB false)),(16,(.agg ((aYW 4 0).map (eI .u64))))]) (h1:=[some ⟨29,(aYW 4 0).map (eI .u64)⟩,some ⟨29,(aYW 4 0).map (eI .u64)⟩]) ?_ (fun J=> ?_)
  ·refine aY2 (m:=0) [3,4]<|zz ?_
   refine aZb (by decide +kernel) ?_
   refine zz ?_
   obtain rfl:=sj hr
   exact zr3 Tryz.results161 aY aY aY (gF [])
  refine aY8 (n:=3) [1,2] ⟨?_, ?_,trivial⟩
  ·refine zz ?_
   refine aY2 (m:=2) [2]<|zz ?_
   refine aY5 J ?_
   exact(zG [3,4])
  refine zz ?_
  refine aY2 (m:=2) [1]<|zz ?_
  refine aY5 J ?_
  exact(zG [3,4])
 refine zz ?_
 refine aY0 fun K1 hK1 hG1=> ?_
 have J1: ∀l0 l1,aA3 N l0 l1=some r→K1 (aD 61 [(6,(.ptr 0 0)),(7,(.ptr 1 0))]) [some ⟨29,l0.map (eI .u64)⟩,some ⟨29,l1.map (eI .u64)⟩]:=by
  intro l0 l1 hr
  unfold aA3 at hr
  refine hK1<|aYY ?_
  obtain⟨q_2,h_5,hr⟩:=aA hr
  obtain⟨q_3,h_6,hr⟩:=aA hr
  refine aZg (cT []) (cT []) mixed<|aY2 (m:=4) [0] ?_
  refine zz ?_
  refine aZe (m:=2) (L:=lst [0,1,2] 5) (s1:=aD 61 [(6,(.ptr 0 0)),(7,(.ptr 1 0)),(60,(.agg (l1.map (eI .u64))))]) (h1:=[some ⟨29,l0.map (eI .u64)⟩,some ⟨29,l1.map (eI .u64)⟩]) ?_ (fun J=> ?_)
  ·refine aY2 (m:=0) [3,4]<|zz ?_
   refine aZb (by decide +kernel) ?_
   refine zz ?_
   obtain rfl:=sj hr
   exact zr3 Tryz.results161 aY aY aY (gF [])
  refine aY8 (n:=3) [1,2] ⟨?_, ?_,trivial⟩
  ·refine zz ?_
   refine aY2 (m:=2) [2]<|zz ?_
   refine aY5 J ?_
   exact(zG [0,1])
  refine zz ?_
  refine aY2 (m:=2) [1]<|zz ?_
  refine aY5 J ?_
  exact(zG [0,1])
 obtain⟨bB,hL2,hr⟩:=aA hr
 refine zz ?_
 refine aYZ<|aY4 (fun m s h=> ∃vi l2 l3,fV N lo b m vi l2 l3=some bB∧Ghost 0 s h (aD 61 [(4,(.ptr 0 0)),(5,(.ptr 1 0)),(6,(.ptr 2 0)),(7,(.ptr 3 0)),(9,(eI .i64 vi))]) [some ⟨29,lo.map (eI .u64)⟩,some ⟨29,b.map (eI .u64)⟩,some ⟨29,l2.map (eI .u64)⟩,some ⟨29,l3.map (eI .u64)⟩]) ⟨255,aYW 4 0,hi,hL2,(zG [1,2,3,4])⟩ ?_
 rintro m2 s h ⟨vi,l2,l3,hr2,hg⟩
 refine aY3 hg ?_
 clear hg hL2
 rw[fV]at hr2
 refine aYY<|zz ?_
 refine zk hr2 ?_ ?_<;>intro h7 hr2
 ·refine zz ?_
  refine aY0 fun K3 hK3 hG3=> ?_
  have J3: ∀dJ eY,yL N lo b vi (fV N lo b m2) dJ eY=some bB→K3 (aD 61 [(4,(.ptr 0 0)),(5,(.ptr 1 0)),(6,(.ptr 2 0)),(7,(.ptr 3 0)),(9,(eI .i64 vi))]) [some ⟨29,lo.map (eI .u64)⟩,some ⟨29,b.map (eI .u64)⟩,some ⟨29,dJ.map (eI .u64)⟩,some ⟨29,eY.map (eI .u64)⟩]:=by
   intro dJ eY hr2
   unfold yL at hr2
   refine hK3<|zz ?_
   exact⟨aYX.wrap (vi-1),dJ,eY,hr2,(zG [0,1,2,3])⟩
  refine aYZ ?_
  obtain⟨q_4,h_8,hr2⟩:=aA hr2
  obtain⟨eQ,h_9,hr2⟩:=aA hr2
  refine zz ?_
  refine xp (aB7 h_9) ?_
  obtain⟨x27,h_10,hr2⟩:=aA hr2
  obtain⟨q_5,h_11,hr2⟩:=aA hr2
  refine zz ?_
  refine xp (aG7 h_10) ?_
  refine zz ?_
  refine aY0 fun K4 hK4 hG4=> ?_
  have J4: ∀j8,tV N lo b vi l2 eQ (fV N lo b m2) j8=some bB→K4 (aD 61 [(4,(.ptr 0 0)),(5,(.ptr 1 0)),(6,(.ptr 2 0)),(7,(.ptr 3 0)),(9,(eI .i64 vi)),(10,(eB eQ))]) [some ⟨29,lo.map (eI .u64)⟩,some ⟨29,b.map (eI .u64)⟩,some ⟨29,l2.map (eI .u64)⟩,some ⟨29,j8.map (eI .u64)⟩]:=by
   intro j8 hr2
   unfold tV at hr2
   refine hK4 ?_
   refine aY0 fun K5 hK5 hG5=> ?_
   have J5: ∀x43,tY N lo b vi l2 j8 (fV N lo b m2) x43=some bB→K5 (aD 61 [(4,(.ptr 0 0)),(5,(.ptr 1 0)),(6,(.ptr 2 0)),(7,(.ptr 3 0)),(9,(eI .i64 vi)),(43,(eB x43))]) [some ⟨29,lo.map (eI .u64)⟩,some ⟨29,b.map (eI .u64)⟩,some ⟨29,l2.map (eI .u64)⟩,some ⟨29,j8.map (eI .u64)⟩]:=by
    intro x43 hr2
    unfold tY at hr2
    refine hK5 ?_
    refine zk hr2 ?_ ?_<;>intro h12 hr2
    ·obtain⟨q_6,h_13,hr2⟩:=aA hr2
     obtain⟨x47,h_14,hr2⟩:=aA hr2
     obtain⟨q_7,h_15,hr2⟩:=aA hr2
     refine zz ?_
     refine xp (aNU h_14) ?_
     obtain⟨x52,h_16,hr2⟩:=aA hr2
     obtain⟨x56,h_17,hr2⟩:=aA hr2
     refine zz ?_
     refine aY9 mixed [] [] [[0,1,2,3,4,5,6,7,8,9]]<|zz ?_
     exact hG3 (zG [0,1,2,3]) (J3 (l2.set (aZa (aYX.wrap (aZc vi 64))) (bits .or .u64 x52 x56)) x47.1 hr2)
    refine zz ?_
    exact hG3 (zG [0,1,2,3]) (J3 l2 j8 hr2)
   rcases aYV eQ with h18|h18
   ·replace hr2:=bY hr2 h18
    refine xr<|zz ?_
    exact hG5 (zG [0,1,2,3]) (J5 true hr2)
   replace hr2:=bX hr2 h18
   obtain⟨q_8,h_19,hr2⟩:=aA hr2
   obtain⟨x41,h_20,hr2⟩:=aA hr2
   refine xr<|zz ?_
   refine xCg (v:=(eI .i64 x41)) (h':=[some ⟨29,lo.map (eI .u64)⟩,some ⟨29,b.map (eI .u64)⟩,some ⟨29,l2.map (eI .u64)⟩,some ⟨29,j8.map (eI .u64)⟩]) rfl rfl h18 rfl (Vm.Fn.pure (tJ h_20) zR rfl) ?_
   refine zz ?_
   exact hG5 (zG [0,1,2,3]) (J5 (decide (0≤x41)) hr2)
  obtain⟨q_9,h_21,hr2⟩:=aA hr2
  obtain⟨g6,h_22,hr2⟩:=aA hr2
  refine zz ?_
  refine xp (aB7 h_22) ?_
  refine zz ?_
  refine zk hr2 ?_ ?_<;>intro h23 hr2
  ·obtain⟨nY,h_24,hr2⟩:=aA hr2
   refine zz ?_
   exact hG4 (zG [0,1,2,3]) (J4 (x27.1.set (aZa 0) (bits .or .u64 nY 1)) hr2)
  refine zz ?_
  exact hG4 (zG [0,1,2,3]) (J4 x27.1 hr2)
 refine zz ?_
 obtain rfl:=sj hr2
 refine zz ?_
 exact hG1 (zG [2,3]) (J1 l2 l3 hr)
theorem aIA {N t r} (hr:u6 N t=some r):
  Vm.Fn Tryz.prog 162 [] [(.agg (t.map (eI .u64)))] (eI .u32 r) []:=by
 refine zf Tryz.func162 Tryz.ntmps162 ?_
 unfold u6 at hr
 refine zz ?_
 refine aYY ?_
 obtain⟨q,h_1,hr⟩:=aA hr
 obtain⟨x6,h_2,hr⟩:=aA hr
 refine zz ?_
 refine xp (iQ h_2) ?_
 refine zz ?_
 refine zk hr ?_ ?_<;>intro h3 hr
 ·refine zz ?_
  obtain rfl:=sj hr
  exact aX Tryz.results162 []
 obtain⟨aKo,hL1,hr⟩:=aA hr
 refine zz ?_
 refine aYZ<|aY4 (fun m s h=> ∃x,dR N t m x=some aKo∧Ghost 0 s h (aD 40 [(1,(.ptr 0 0)),(3,(eI .i64 x))]) [some ⟨29,t.map (eI .u64)⟩]) ⟨1,hL1,(zG [0])⟩ ?_
 rintro m1 s h ⟨x,hr1,hg⟩
 refine aY3 hg ?_
 clear hg hL1
 rw[dR]at hr1
 refine aY0 fun K2 hK2 hG2=> ?_
 have J2:nA N t x (dR N t m1)=some aKo→K2 (aD 40 [(1,(.ptr 0 0)),(3,(eI .i64 x))]) [some ⟨29,t.map (eI .u64)⟩]:=by
  intro hr1
  unfold nA at hr1
  refine hK2<|zz ?_
  exact⟨aYX.wrap (x+1),hr1,(zG [0])⟩
 refine aYZ ?_
 refine zz ?_
 refine aY0 fun K3 hK3 hG3=> ?_
 have J3: ∀l1,mO N t x (dR N t m1) l1=some aKo→K3 (aD 40 [(1,(.ptr 0 0)),(3,(eI .i64 x)),(4,(.ptr 1 0))]) [some ⟨29,t.map (eI .u64)⟩,some ⟨29,l1.map (eI .u64)⟩]:=by
  intro l1 hr1
  unfold mO at hr1
  refine hK3 ?_
  obtain⟨q_1,h_4,hr1⟩:=aA hr1
  obtain⟨cO,h_5,hr1⟩:=aA hr1
  refine zz ?_
  refine xp (aGZ h_5) ?_
  refine zz ?_
  refine zk hr1 ?_ ?_<;>intro h6 hr1
  ·obtain⟨x35,h_7,hr1⟩:=aA hr1
   obtain⟨x36,h_8,hr1⟩:=aA hr1
   refine zz ?_
   obtain rfl:=sj hr1
   obtain rfl:=sj hr
   exact aX Tryz.results162 []
  refine zz ?_
  exact hG2 (zG [0]) (J2 hr1)
 refine zz ?_
 refine zk hr1 ?_ ?_<;>intro h9 hr1
 ·obtain⟨x16,h_10,hr1⟩:=aA hr1
  obtain⟨q_2,h_11,hr1⟩:=aA hr1
  refine zz ?_
  refine xp (aHI h_10) ?_
  refine zz ?_
  refine aYY ?_
  obtain⟨cW,h_12,hr1⟩:=aA hr1
  obtain⟨eQ,h_14,hr1⟩:=aA hr1
  refine aY9 mixed [43,70] [] [[0,1,2,3,4,5,6,7]]<|zz ?_
  refine xu (aA6 h_12) ?_
  refine zz ?_
  refine xu (tJ h_14) ?_
  refine zz ?_
  refine zk hr1 ?_ ?_<;>intro h16 hr1
  ·refine zz ?_
   exact hG2 (zG [0]) (J2 hr1)
  refine zz ?_
  exact hG3 (zG [0,1]) (J3 x16 hr1)
 obtain⟨x29,h_17,hr1⟩:=aA hr1
 obtain⟨q_3,h_18,hr1⟩:=aA hr1
 refine zz ?_
 refine xp (aA6 h_17) ?_
 refine zz ?_
 exact hG3 (zG [0,1]) (J3 x29 hr1)
theorem aJO {N p kZ first last r} (hr:xM N p kZ first last=some r):
  Vm.Fn Tryz.prog 129 [] [(cY p),(eI .u32 kZ),(eI .u32 first),(eI .u32 last)] (.tup [(eI .u32 r.1),(eI .i64 r.2)]) []:=by
 refine zf Tryz.func129 Tryz.ntmps129 ?_
 unfold xM at hr
 refine zz ?_
 refine aYY ?_
 obtain⟨b6,h_1,hr⟩:=aA hr
 refine zz ?_
 refine xp (dS h_1) ?_
 refine zz ?_
 refine zk hr ?_ ?_<;>intro h2 hr
 ·refine zz ?_
  obtain rfl:=sj hr
  exact oH Tryz.results129 []
 obtain⟨dL,h_3,hr⟩:=aA hr
 obtain⟨q,h_4,hr⟩:=aA hr
 refine zz ?_
 refine xp (aBL h_3) ?_
 refine zz ?_
 refine aYY<|zz ?_
 refine zk hr ?_ ?_<;>intro h5 hr
 ·refine zz ?_
  obtain rfl:=sj hr
  exact oH Tryz.results129 []
 refine zz ?_
 refine aY0 fun K1 hK1 hG1=> ?_
 have J1: ∀vZ,n6 N p dL vZ=some r→K1 (aD 83 [(4,(.ptr 0 0)),(10,(.ptr 1 0)),(12,(eI .u64 (aY1.wrap ((aY1.wrap p.Window)*(aY1.wrap p.Spacing))))),(13,(eI .u64 vZ))]) [some ⟨32,aT p⟩,some ⟨29,dL.1.map (eI .u64)⟩]:=by
  intro vZ hr
  unfold n6 at hr
  refine hK1<|zz ?_
  refine xw (v:=(eI .u64 (if(aY1.wrap (aZc (aY1.wrap ((aY1.wrap p.Window)*(aY1.wrap p.Spacing))) 4))>vZ then(aY1.wrap (aZc (aY1.wrap ((aY1.wrap p.Window)*(aY1.wrap p.Spacing))) 4))else vZ))) (aXz rfl aXh) ?_
  refine zz ?_
  refine xw (v:=(eI .u64 (if(aY1.wrap (4*(aY1.wrap ((aY1.wrap p.Window)*(aY1.wrap p.Spacing)))))<(if(aY1.wrap (aZc (aY1.wrap ((aY1.wrap p.Window)*(aY1.wrap p.Spacing))) 4))>vZ then(aY1.wrap (aZc (aY1.wrap ((aY1.wrap p.Window)*(aY1.wrap p.Spacing))) 4))else vZ)then(aY1.wrap (4*(aY1.wrap ((aY1.wrap p.Window)*(aY1.wrap p.Spacing)))))else(if(aY1.wrap (aZc (aY1.wrap ((aY1.wrap p.Window)*(aY1.wrap p.Spacing))) 4))>vZ then(aY1.wrap (aZc (aY1.wrap ((aY1.wrap p.Window)*(aY1.wrap p.Spacing))) 4))else vZ)))) (aML rfl aMF) ?_
  refine zz ?_
  refine aYY ?_
  obtain⟨x54,h_6,hr⟩:=aA hr
  obtain⟨x55,h_8,hr⟩:=aA hr
  obtain⟨q_1,h_10,hr⟩:=aA hr
  obtain⟨q_2,h_11,hr⟩:=aA hr
  refine aZg (cT [69,160]) (cT []) mixed<|aY2 (m:=4) [0,1,2,3,4,5,6] ?_
  refine zz ?_
  refine xu (sY h_6)<|xu (aOu h_8) ?_
  refine zz ?_
  refine aZe (m:=1) (L:=lst [0,1,2,3,4,5,6,7,8,9] 11) (s1:=aD 83 [(4,(.ptr 0 0)),(12,(eI .u64 (aY1.wrap ((aY1.wrap p.Window)*(aY1.wrap p.Spacing))))),(14,(.ptr 1 0)),(15,(.ptr 2 0)),(57,(.agg (x55.2.map (eI .u64))))]) (h1:=[some ⟨32,aT p⟩,some ⟨29,x55.1.map (eI .u64)⟩,some ⟨29,(aYW 4 0).map (eI .u64)⟩]) ?_ (fun J=> ?_)
  ·refine aY2 (m:=0) [10]<|zz ?_
   refine aZb (by decide +kernel) ?_
   refine zz ?_
   refine aYY ?_
   obtain⟨x62,h_12,hr⟩:=aA hr
   obtain⟨x63,h_14,hr⟩:=aA hr
   obtain⟨q_3,h_16,hr⟩:=aA hr
   obtain⟨q_4,h_17,hr⟩:=aA hr
   refine aZg (cT [69,161]) (cT []) mixed<|aY2 (m:=5) [0,1,2,3,4,5,6,7,8] ?_
   refine zz ?_
   refine xu (sY h_12)<|xu (aNB h_14) ?_
   refine zz ?_
   refine aZe (m:=1) (L:=lst [0,1,2,3,4,5,6,7,8,9,10,11,12] 14) (s1:=aD 83 [(4,(.ptr 0 0)),(16,(.ptr 1 0)),(66,(eB x63.2.2))]) (h1:=[some ⟨32,aT p⟩,some ⟨29,x63.1.map (eI .u64)⟩]) ?_ (fun J=> ?_)
   ·refine aY2 (m:=0) [13]<|zz ?_
    refine aZb (by decide +kernel) ?_
    refine zz ?_
    refine aY0 fun K2 hK2 hG2=> ?_
    have J2: ∀l0,n4 N l0=some r→K2 (aD 83 [(16,(.ptr 0 0))]) [some ⟨29,l0.map (eI .u64)⟩]:=by
     intro l0 hr
     unfold n4 at hr
     refine hK2 ?_
     refine aY0 fun K3 hK3 hG3=> ?_
     have J3: ∀aM,oC N aM=some r→K3 (aD 83 [(16,(.ptr 0 0))]) [some ⟨29,aM.map (eI .u64)⟩]:=by
      intro aM hr
      unfold oC at hr
      refine hK3 ?_
      obtain⟨q_5,h_18,hr⟩:=aA hr
      obtain⟨x82,h_19,hr⟩:=aA hr
      refine zz ?_
      refine xp (aIA h_19) ?_
      refine zz ?_
      obtain rfl:=sj hr
      exact oH Tryz.results129 []
     obtain⟨q_6,h_20,hr⟩:=aA hr
     obtain⟨x79,h_21,hr⟩:=aA hr
     refine zz ?_
     refine xp (iQ h_21) ?_
     refine zz ?_
     refine zk hr ?_ ?_<;>intro h22 hr
     ·obtain⟨x80,h_23,hr⟩:=aA hr
      obtain⟨q_7,h_24,hr⟩:=aA hr
      refine zz ?_
      refine xp (sY h_23) ?_
      refine zz ?_
      exact hG3 (zG [0]) (J3 x80 hr)
     refine zz ?_
     exact hG3 (zG [0]) (J3 l0 hr)
    refine aY0 fun K4 hK4 hG4=> ?_
    have J4: ∀x75,n8 N p x63 x75=some r→K4 (aD 83 [(4,(.ptr 0 0)),(16,(.ptr 1 0)),(75,(eB x75))]) [some ⟨32,aT p⟩,some ⟨29,x63.1.map (eI .u64)⟩]:=by
     intro x75 hr
     unfold n8 at hr
     refine hK4 ?_
     refine zk hr ?_ ?_<;>intro h25 hr
     ·obtain⟨q_8,h_26,hr⟩:=aA hr
      refine zz ?_
      exact hG2 (zG [1]) (J2 p.Limit hr)
     refine zz ?_
     exact hG2 (zG [1]) (J2 x63.1 hr)
    rcases aYV (!x63.2.2)with h27|h27
    ·replace hr:=bY hr h27
     refine xr<|zz ?_
     exact hG4 (zG [0,1]) (J4 true hr)
    replace hr:=bX hr h27
    obtain⟨q_9,h_28,hr⟩:=aA hr
    obtain⟨x73,h_29,hr⟩:=aA hr
    refine xr<|zz ?_
    refine xCg (v:=(eI .i64 x73)) (h':=[some ⟨32,aT p⟩,some ⟨29,x63.1.map (eI .u64)⟩]) rfl rfl h27 rfl (Vm.Fn.pure (tJ h_29) zR rfl) ?_
    refine zz ?_
    exact hG4 (zG [0,1]) (J4 (decide (0<x73)) hr)
   refine aY8 (n:=4) [9,10] ⟨?_, ?_,trivial⟩
   ·refine zz ?_
    refine aY2 (m:=1) [10,11,12]<|zz ?_
    refine aY5 J ?_
    exact(zG [0,3])
   refine zz ?_
   refine aY2 (m:=1) [9,11,12]<|zz ?_
   refine aY5 J ?_
   exact(zG [0,4])
  refine aY8 (n:=3) [7,8] ⟨?_, ?_,trivial⟩
  ·refine zz ?_
   refine aY2 (m:=1) [8,9]<|zz ?_
   refine aY5 J ?_
   exact(zG [0,2,3])
  refine zz ?_
  refine aY2 (m:=1) [7,9]<|zz ?_
  refine aY5 J ?_
  exact(zG [0,3,2])
 refine zz ?_
 refine zk hr ?_ ?_<;>intro h30 hr
 ·refine zz ?_
  exact hG1 (zG [0,1]) (J1 (aY1.wrap (aY7.wrap (last-first))) hr)
 refine zz ?_
 exact hG1 (zG [0,1]) (J1 0 hr)
theorem aGG {N p c r} (hr:yY N p c=some r):
  Vm.Fn Tryz.prog 91 [] [(cY p),(iS c)] (.tup [(eI .u32 r.1),(eI .i64 r.2)]) []:=by
 refine zf Tryz.func91 Tryz.ntmps91 ?_
 unfold yY at hr
 refine zz ?_
 refine aYY ?_
 refine aY0 fun K1 hK1 hG1=> ?_
 have J1: ∀fA,kA N p c fA=some r→K1 (aD 56 [(2,(.ptr 0 0)),(3,(.ptr 1 0)),(30,(eB fA))]) [some ⟨32,aT p⟩,some ⟨102,aE c⟩]:=by
  intro fA hr
  unfold kA at hr
  refine hK1 ?_
  refine zk hr ?_ ?_<;>intro h1 hr
  ·refine zz ?_
   obtain rfl:=sj hr
   exact oH Tryz.results91 []
  refine zz ?_
  refine aYY ?_
  obtain⟨x36,h_2,hr⟩:=aA hr
  refine zz ?_
  refine zk hr ?_ ?_<;>intro h3 hr
  ·refine zz ?_
   obtain rfl:=sj hr
   exact oH Tryz.results91 []
  refine zz ?_
  refine aYY ?_
  obtain⟨x51,h_4,hr⟩:=aA hr
  obtain⟨x53,h_5,hr⟩:=aA hr
  refine aY9 mixed [129] [] [[0,1,2,3,4,5,6,7,8,9,10,11,12,13,14,15,16,17]]<|zz ?_
  refine xu (aJO h_5) ?_
  refine zz ?_
  obtain rfl:=sj hr
  exact oH Tryz.results91 []
 obtain⟨x7,h_7,hr⟩:=aA hr
 rcases aYV (!x7)with h8|h8
 ·replace hr:=bY hr h8
  refine xr<|zz ?_
  refine xp (dS h_7) ?_
  refine zz ?_
  refine xX rfl<|xX rfl<|xX rfl ?_
  refine zz ?_
  refine xX rfl<|xX rfl<|xX rfl<|xX rfl ?_
  refine zz ?_
  refine xX rfl<|xX rfl<|xX rfl<|xX rfl ?_
  refine zz ?_
  exact hG1 (zG [0,1]) (J1 true hr)
 replace hr:=bX hr h8
 rcases aYV (decide (c.Height<0))with h9|h9
 ·replace hr:=bY hr h9
  refine xr<|zz ?_
  refine xp (dS h_7) ?_
  refine zz ?_
  refine xX rfl<|xX rfl<|xX rfl<|xX rfl ?_
  refine zz ?_
  refine xX rfl<|xX rfl<|xX rfl<|xX rfl ?_
  refine zz ?_
  exact hG1 (zG [0,1]) (J1 true hr)
 replace hr:=bX hr h9
 rcases aYV (decide (16777216<c.Height))with h10|h10
 ·replace hr:=bY hr h10
  refine xr<|zz ?_
  refine xp (dS h_7) ?_
  refine zz ?_
  refine xX rfl<|xX rfl<|xX rfl<|xX rfl ?_
  refine zz ?_
  exact hG1 (zG [0,1]) (J1 true hr)
 replace hr:=bX hr h10
 rcases aYV ((c.Times.length:Int) == 0)with h11|h11
 ·replace hr:=bY hr h11
  refine xr<|zz ?_
  refine xp (dS h_7) ?_
  refine zz ?_
  exact hG1 (zG [0,1]) (J1 true hr)
 replace hr:=bX hr h11
 refine xr<|zz ?_
 refine xp (dS h_7) ?_
 refine zz ?_
 exact hG1 (zG [0,1]) (J1 (decide (11<(c.Times.length:Int))) hr)
theorem aEz {N l r} (hr:t7 N l=some r):
  Vm.Fn Tryz.prog 93 [] [(.row none 1 (l.map (eI .u32)))] (eI .u32 r) []:=by
 refine zf Tryz.func93 Tryz.ntmps93 ?_
 unfold t7 at hr
 refine zz ?_
 refine aY0 fun K1 hK1 hG1=> ?_
 have J1: ∀l0,wK N l0=some r→K1 (aD 48 [(3,(.sl 0 0 l0.length 1 false))]) [some ⟨22,l0.map (eI .u32)⟩]:=by
  intro l0 hr
  unfold wK at hr
  refine hK1<|aYY ?_
  refine zz ?_
  refine zk hr ?_ ?_<;>intro h1 hr
  ·refine zz ?_
   obtain rfl:=sj hr
   exact aX Tryz.results93 []
  obtain⟨x46,h_2,hr⟩:=aA hr
  refine zz ?_
  obtain rfl:=sj hr
  exact aX Tryz.results93 []
 obtain⟨bB,hL2,hr⟩:=aA hr
 refine zz ?_
 refine aYZ<|aY4 (fun m s h=> ∃x9 aM,iA N l m x9 aM=some bB∧Ghost 0 s h (aD 48 [(3,(.sl 0 0 aM.length 1 false)),(7,(.row none 1 (l.map (eI .u32)))),(8,(eI .i64 (l.length:Int))),(9,(eI .i64 x9))]) [some ⟨22,aM.map (eI .u32)⟩]) ⟨0,[],hL2,(zW 22 [0])⟩ ?_
 rintro m2 s h ⟨x9,aM,hr2,hg⟩
 refine aY3 hg ?_
 clear hg hL2
 rw[iA]at hr2
 refine zz ?_
 refine aYY ?_
 refine zk hr2 ?_ ?_<;>intro h3 hr2
 ·refine zz ?_
  refine aY0 fun K3 hK3 hG3=> ?_
  have J3: ∀dW,wQ N l x9 (iA N l m2) dW=some bB→K3 (aD 48 [(3,(.sl 0 0 dW.length 1 false)),(7,(.row none 1 (l.map (eI .u32)))),(8,(eI .i64 (l.length:Int))),(9,(eI .i64 x9))]) [some ⟨22,dW.map (eI .u32)⟩]:=by
   intro dW hr2
   unfold wQ at hr2
   refine hK3<|zz ?_
   exact⟨aYX.wrap (x9+1),dW,hr2,(zG [0])⟩
  refine aYZ ?_
  obtain⟨b8,h_4,hr2⟩:=aA hr2
  refine zz ?_
  refine aY0 fun K4 hK4 hG4=> ?_
  have J4: ∀vi,wU N l x9 aM b8 (iA N l m2) vi=some bB→K4 (aD 48 [(3,(.sl 0 0 aM.length 1 false)),(5,(eI .u32 b8)),(6,(eI .i64 vi)),(7,(.row none 1 (l.map (eI .u32)))),(8,(eI .i64 (l.length:Int))),(9,(eI .i64 x9))]) [some ⟨22,aM.map (eI .u32)⟩]:=by
   intro vi hr2
   unfold wU at hr2
   refine hK4<|aY3 (zv 0) ?_
   obtain⟨fA,h_5,hr2⟩:=aA hr2
   obtain⟨x35,h_6,hr2⟩:=aA hr2
   obtain⟨x36,h_7,hr2⟩:=aA hr2
   obtain⟨x37,h_8,hr2⟩:=aA hr2
   refine aZg (cT []) (cT []) mixed<|aY2 (m:=4) [0,1,2,4,5,6,7,8] ?_
   refine zz ?_
   refine aZe (m:=2) (L:=lst [0,1,2,3,4,5,6,7,8,9] 12) (s1:=aD 48 [(3,(.row none 1 (aM.map (eI .u32)))),(7,(.row none 1 (l.map (eI .u32)))),(8,(eI .i64 (l.length:Int))),(9,(eI .i64 x9)),(30,(.row (some false) 1 (fA.map (eI .u32)))),(36,(.sl 0 0 x36.length 1 false))]) (h1:=[some ⟨22,x36.map (eI .u32)⟩]) ?_ (fun J=> ?_)
   ·refine aY2 (m:=0) [10,11]<|xw (v:=(.sl 1 0 x37.length 1 false)) (h':=[some ⟨22,x36.map (eI .u32)⟩,some ⟨22,x37.map (eI .u32)⟩]) (uX rfl rfl (aVL (E:=(eI .u32)) aME lH ⟨rfl,rfl,zl⟩ (fun _=>rfl) (aW0 rfl rfl) (aVz h_7) rfl h_8 rfl rfl)) ?_
    refine zz ?_
    refine aZb (by decide +kernel) ?_
    refine zz ?_
    exact hG3 (zG [1]) (J3 x37 hr2)
   refine aY8 (n:=3) [3,9] ⟨?_, ?_,trivial⟩
   ·refine zz ?_
    refine aY2 (m:=2) [9]<|zz ?_
    refine aY5 J ?_
    exact(zG [2])
   refine zz ?_
   refine aY2 (m:=2) [3]<|zz ?_
   refine aY5 J ?_
   exact(zG [2])
  obtain⟨res5,hL5,hr2⟩:=aA hr2
  refine aYZ<|aY4 (fun m s h=> ∃fS,iC N l x9 aM b8 m fS=some res5∧Ghost 0 s h (aD 48 [(3,(.sl 0 0 aM.length 1 false)),(5,(eI .u32 b8)),(6,(eI .i64 fS)),(7,(.row none 1 (l.map (eI .u32)))),(8,(eI .i64 (l.length:Int))),(9,(eI .i64 x9))]) [some ⟨22,aM.map (eI .u32)⟩]) ⟨0,hL5,(zG [0])⟩ ?_
  rintro m5 s h ⟨fS,hr5,hg⟩
  refine aY3 hg ?_
  clear hg hL5
  rw[iC]at hr5
  refine aYY ?_
  refine aY0 fun K6 hK6 hG6=> ?_
  have J6: ∀dL,oF N l x9 aM b8 fS (iC N l x9 aM b8 m5) dL=some res5→K6 (aD 48 [(3,(.sl 0 0 aM.length 1 false)),(5,(eI .u32 b8)),(6,(eI .i64 fS)),(7,(.row none 1 (l.map (eI .u32)))),(8,(eI .i64 (l.length:Int))),(9,(eI .i64 x9)),(24,(eB dL))]) [some ⟨22,aM.map (eI .u32)⟩]:=by
   intro dL hr5
   unfold oF at hr5
   refine hK6 ?_
   refine zk hr5 ?_ ?_<;>intro h9 hr5
   ·refine zz ?_
    refine aYZ ?_
    refine zz ?_
    exact⟨aYX.wrap (fS+1),hr5,(zG [0])⟩
   refine zz ?_
   obtain rfl:=sj hr5
   refine zz ?_
   exact hG4 (zG [0]) (J4 fS hr2)
  rcases aYV (decide (fS<(aM.length:Int)))with h10|h10
  ·replace hr5:=bY hr5 h10
   obtain⟨b6,h_11,hr5⟩:=aA hr5
   refine xr<|zz ?_
   exact hG6 (zG [0]) (J6 (decide (b6≤b8)) hr5)
  replace hr5:=bX hr5 h10
  refine xr<|zz ?_
  exact hG6 (zG [0]) (J6 false hr5)
 refine zz ?_
 obtain rfl:=sj hr2
 refine zz ?_
 exact hG1 (zG [0]) (J1 aM hr)
theorem aG3 {N vh r} (hr:sA N vh=some r):
  Vm.Fn Tryz.prog 130 [] [(.agg (vh.map (eI .u8)))] (.agg (r.map (eI .u64))) []:=by
 refine zf Tryz.func130 Tryz.ntmps130 ?_
 unfold sA at hr
 refine zz ?_
 refine aY0 fun K1 hK1 hG1=> ?_
 have J1: ∀l1,r8 N l1=some r→K1 (aD 27 [(2,(.ptr 0 0)),(3,(.ptr 1 0))]) [some ⟨29,(aYW 4 0).map (eI .u64)⟩,some ⟨29,l1.map (eI .u64)⟩]:=by
  intro l1 hr
  unfold r8 at hr
  refine hK1 ?_
  obtain⟨q,h_1,hr⟩:=aA hr
  refine zz ?_
  obtain rfl:=sj hr
  exact gL Tryz.results130 aY (zG [])
 obtain⟨bB,hL2,hr⟩:=aA hr
 refine zz ?_
 refine aYZ<|aY4 (fun m s h=> ∃x6 l2,iL N vh m x6 l2=some bB∧Ghost 0 s h (aD 27 [(1,(.ptr 0 0)),(2,(.ptr 1 0)),(3,(.ptr 2 0)),(6,(eI .i64 x6))]) [some ⟨24,vh.map (eI .u8)⟩,some ⟨29,(aYW 4 0).map (eI .u64)⟩,some ⟨29,l2.map (eI .u64)⟩]) ⟨0,aYW 4 0,hL2,(zG [0,1,2])⟩ ?_
 rintro m2 s h ⟨x6,l2,hr2,hg⟩
 refine aY3 hg ?_
 clear hg hL2
 rw[iL]at hr2
 refine zz ?_
 refine aYY ?_
 refine zk hr2 ?_ ?_<;>intro h2 hr2
 ·refine zz ?_
  refine aYY<|aYZ ?_
  obtain⟨cB,h_3,hr2⟩:=aA hr2
  obtain⟨x16,h_4,hr2⟩:=aA hr2
  obtain⟨bW,h_5,hr2⟩:=aA hr2
  refine zz ?_
  refine aY9 mixed [] [] [[0,1,2,3,4,5,6,7,8,9,10,11,12,13,14]]<|zz ?_
  exact⟨aYX.wrap (x6+1),l2.set (aZa (aYX.wrap (aZc (aYX.wrap (31-x6)) 8))) (bits .or .u64 cB bW),hr2,(zG [0,1,2])⟩
 refine zz ?_
 obtain rfl:=sj hr2
 refine zz ?_
 exact hG1 (zG [1,2]) (J1 l2 hr)
theorem aFz {N vh kZ r} (hr:vU N vh kZ=some r):
  Vm.Fn Tryz.prog 92 [] [(.agg (vh.map (eI .u8))),(eI .u32 kZ)] (eB r) []:=by
 refine zf Tryz.func92 Tryz.ntmps92 ?_
 unfold vU at hr
 obtain⟨x9,h_1,hr⟩:=aA hr
 obtain⟨q,h_2,hr⟩:=aA hr
 refine zz ?_
 refine xp (aBL h_1) ?_
 refine zz ?_
 refine aY0 fun K1 hK1 hG1=> ?_
 have J1: ∀x4,yW N x4=some r→K1 (aD 21 [(4,(eB x4))]) []:=by
  intro x4 hr
  unfold yW at hr
  refine hK1<|zz ?_
  obtain rfl:=sj hr
  exact aX Tryz.results92 []
 rcases aYV (x9.2 == 0)with h3|h3
 ·replace hr:=bY hr h3
  obtain⟨q_1,h_4,hr⟩:=aA hr
  obtain⟨x16,h_5,hr⟩:=aA hr
  obtain⟨x18,h_7,hr⟩:=aA hr
  refine aY9 mixed [43,130] [] [[0,1,2,3,4,5,6,7,8,9]]<|zz ?_
  refine xu (aG3 h_5) ?_
  refine zz ?_
  refine xu (tJ h_7) ?_
  refine zz ?_
  exact hG1 (zG []) (J1 (decide (x18≤0)) hr)
 replace hr:=bX hr h3
 refine aY9 mixed [43,130] [] [[0,1,2,3,4,5,6,7,8,9]]<|zz ?_
 exact hG1 (zG []) (J1 false hr)
theorem aM8 {N p c oV vby r} (hr:aCY N p c oV vby=some r):
  Vm.Fn Tryz.prog 81 [] [(cY p),(iS c),(.agg (oV.map (eI .u8))),(eI .u32 vby)] (qM r) []:=by
 refine zf Tryz.func81 Tryz.ntmps81 ?_
 unfold aCY at hr
 obtain⟨x15,h_1,hr⟩:=aA hr
 refine zz ?_
 refine xp (aGG h_1) ?_
 refine zz ?_
 refine aYY ?_
 obtain⟨q,h_2,hr⟩:=aA hr
 obtain⟨q_1,h_3,hr⟩:=aA hr
 obtain⟨x25,h_4,hr⟩:=aA hr
 refine aY9 mixed [93] [] [[0,1,2,3,4,5,6,7,8,9,10,11,12,13,14]]<|zz ?_
 refine xu (aEz h_4) ?_
 refine zz ?_
 refine xw (v:=(.agg ((eI .u32 p.Version)::(aK (eI .u8) c.Hash (aK (eI .u8) oV [(eI .u32 (aY7.wrap ((aY7.wrap (x25+1))+vby))),(eI .u32 x15.1),(eI .u32 0)]))))) (bV rfl (aE0 (ps':=[(0,(eI .u32 p.Version)),(1,(.agg (aK (eI .u8) c.Hash []))),(2,(.agg (aK (eI .u8) oV []))),(3,(eI .u32 (aY7.wrap ((aY7.wrap (x25+1))+vby)))),(4,(eI .u32 x15.1))]) (by simp only[gO (l:=c.Hash) (bP h_2),gO (l:=oV) (bP h_3)]<;>rfl) (iZ aCy aPS (by kernel_rfl)))) ?_
 refine zz ?_
 refine aY0 fun K1 hK1 hG1=> ?_
 have J1: ∀c1,aD0 N p c oV vby x15 x25 c1=some r→K1 (aD 45 [(8,(.ptr 0 0)),(11,(.ptr 1 0))]) [some ⟨26,((eI .u32 0)::(aK (eI .u8) (aYW 32 0) (aK (eI .u8) (aYW 32 0) [(eI .u32 0),(eI .u32 0),(eI .u32 0)])))⟩,some ⟨26,((eI .u32 p.Version)::(aK (eI .u8) c.Hash (aK (eI .u8) oV [(eI .u32 (aY7.wrap ((aY7.wrap (x25+1))+vby))),(eI .u32 x15.1),(eI .u32 c1)])))⟩]:=by
  intro c1 hr
  unfold aD0 at hr
  refine hK1<|zz ?_
  obtain rfl:=sj hr
  exact gL Tryz.results81 aY (zG [])
 obtain⟨bB,hL2,hr⟩:=aA hr
 refine zz ?_
 refine aYZ<|aY4 (fun m s h=> ∃uJ,qJ N p c oV vby x15 x25 m uJ=some bB∧Ghost 0 s h (aD 45 [(8,(.ptr 0 0)),(9,(eI .u32 x15.1)),(11,(.ptr 1 0))]) [some ⟨26,((eI .u32 0)::(aK (eI .u8) (aYW 32 0) (aK (eI .u8) (aYW 32 0) [(eI .u32 0),(eI .u32 0),(eI .u32 0)])))⟩,some ⟨26,((eI .u32 p.Version)::(aK (eI .u8) c.Hash (aK (eI .u8) oV [(eI .u32 (aY7.wrap ((aY7.wrap (x25+1))+vby))),(eI .u32 x15.1),(eI .u32 uJ)])))⟩]) ⟨0,hL2,(zG [3,4])⟩ ?_
 rintro m2 s h ⟨uJ,hr2,hg⟩
 refine aY3 hg ?_
 clear hg hL2
 rw[qJ]at hr2
 refine aYY<|zz ?_
 refine zk hr2 ?_ ?_<;>intro h6 hr2
 ·refine zz ?_
  refine aYY<|aYZ ?_
  obtain⟨x40,h_7,hr2⟩:=aA hr2
  obtain⟨x42,h_8,hr2⟩:=aA hr2
  refine zz ?_
  refine xp (vE h_7) ?_
  refine zz ?_
  refine xp (aFz h_8) ?_
  refine zz ?_
  refine zk hr2 ?_ ?_<;>intro h9 hr2
  ·refine zz ?_
   obtain rfl:=sj hr2
   obtain rfl:=sj hr
   exact gL Tryz.results81 aY (zG [])
  refine zz ?_
  exact⟨aY7.wrap (uJ+1),hr2,(zG [0,1])⟩
 refine zz ?_
 obtain rfl:=sj hr2
 refine zz ?_
 exact hG1 (zG [0,1]) (J1 uJ hr)
theorem aMl {N p l c vs r} (hr:aBd N p l c vs=some r):
  Vm.Fn Tryz.prog 52 [] [(cY p),(dO l),(iS c),(eI .u8 vs)] (k6 r) []:=by
 refine zf Tryz.func52 Tryz.ntmps52 ?_
 unfold aBd at hr
 obtain⟨x16,h_1,hr⟩:=aA hr
 refine zz ?_
 refine zc (aFK h_1) [] ?_
 refine zz ?_
 refine aYY ?_
 obtain⟨x26,h_2,hr⟩:=aA hr
 obtain⟨cO,h_4,hr⟩:=aA hr
 obtain⟨g6,h_6,hr⟩:=aA hr
 obtain⟨x35,h_8,hr⟩:=aA hr
 refine aZg (cT [13,20,80]) (cT []) mixed<|aY2 (m:=5) [0,1,2,3,4,5,6,7,8,9,10,11,12,13,15] ?_
 refine zz ?_
 refine xu (qX h_2) ?_
 refine zz ?_
 refine xu (aCA h_4)<|xu (aIS h_6) ?_
 refine zz ?_
 refine aZe (m:=1) (L:=lst [0,1,2,3,4,5,6,7,8,9,10,11,12,13,14,15,16,17,18] 20) (s1:=aD 47 [(3,(eI .u8 vs)),(4,(.ptr 0 0)),(6,(.ptr 1 0)),(8,(.ptr 2 0)),(11,(.ptr 3 0)),(36,(.agg ((eI .u32 0)::(aK (eI .u8) (aYW 32 0) (aK (eI .u8) (aYW 32 0) [(eI .u32 0),(eI .u32 0),(eI .u32 0),(.sl 4 0 x35.length 4 true)])))))]) (h1:=[some ⟨32,aT p⟩,some ⟨102,aE c⟩,some ⟨78,((eI .u32 0)::(aK (eI .u8) (aYW 32 0) (aK (eI .u8) (aYW 32 0) [(eI .u32 0),(eI .u32 0),(eI .u32 0),(.row (some true) 1 [])])))⟩,some ⟨78,((eI .u32 0)::(aK (eI .u8) (aYW 32 0) (aK (eI .u8) (aYW 32 0) [(eI .u32 0),(eI .u32 0),(eI .u32 0),(.row (some true) 1 [])])))⟩,some ⟨117,x35.flatMap aZ⟩]) ?_ (fun J=> ?_)
 ·refine aY2 (m:=0) [19]<|zz ?_
  refine aZb (by decide +kernel) ?_
  refine zz ?_
  refine aYY ?_
  obtain⟨x41,h_9,hr⟩:=aA hr
  obtain⟨x43,h_11,hr⟩:=aA hr
  obtain⟨x44,h_13,hr⟩:=aA hr
  refine aY9 mixed [81,83] [82] [[0,1,2,3,4,5,6,7,8,9]]<|zz ?_
  refine zgL (aGB h_9) [] [4] ?_
  refine zz ?_
  refine xu (aKe h_11)<|xu (aM8 h_13) ?_
  refine zz ?_
  obtain rfl:=sj hr
  exact gL Tryz.results52 aY (aY6 (o6 [1,1,1,1,0]) (zG []))
 refine aY8 (n:=4) [14,18] ⟨?_, ?_,trivial⟩
 ·refine dQ aZ 4 [g6] ?_
  refine zz ?_
  refine aY8 (n:=3) [16,18] ⟨?_, ?_,trivial⟩
  ·refine zz ?_
   refine aY2 (m:=1) [17,18]<|xw (v:=(.agg ((eI .u32 0)::(aK (eI .u8) (aYW 32 0) (aK (eI .u8) (aYW 32 0) [(eI .u32 0),(eI .u32 0),(eI .u32 0),(.sl 6 0 x35.length 4 true)]))))) (bV rfl (iZ aG4 aOa rfl)) ?_
   refine zz ?_
   refine aY5 J ?_
   exact(zG [0,2,3,7,6])
  refine zz ?_
  refine aY2 (m:=1) [16,17]<|zz ?_
  refine xw (v:=(.agg ((eI .u32 0)::(aK (eI .u8) (aYW 32 0) (aK (eI .u8) (aYW 32 0) [(eI .u32 0),(eI .u32 0),(eI .u32 0),(.sl 7 0 x35.length 4 true)]))))) (bV rfl (iZ aG4 aOa rfl)) ?_
  refine zz ?_
  refine aY5 J ?_
  exact(zG [0,2,3,6,7])
 refine zz ?_
 refine aY2 (m:=1) [14,16,17]<|dQ aZ 4 [g6] ?_
 refine zz ?_
 refine xw (v:=(.agg ((eI .u32 0)::(aK (eI .u8) (aYW 32 0) (aK (eI .u8) (aYW 32 0) [(eI .u32 0),(eI .u32 0),(eI .u32 0),(.sl 7 0 x35.length 4 true)]))))) (bV rfl (iZ aG4 aOa rfl)) ?_
 refine zz ?_
 refine aY5 J ?_
 exact(zG [0,2,3,5,7])
theorem aKj {N t cE r} (hr:xA N t cE=some r):
  Vm.Fn Tryz.prog 211 [] [(cK t),(eB cE)] (.tup [(.sl 0 0 r.1.length 1 false),(eI .i64 r.2)]) [some ⟨5,r.1.map (eI .u8)⟩]:=by
 refine zf Tryz.func211 Tryz.ntmps211 ?_
 unfold xA at hr
 refine zz ?_
 refine aYY ?_
 obtain⟨x7,h_1,hr⟩:=aA hr
 refine zz ?_
 refine xp (lZ h_1) ?_
 refine zz ?_
 refine zk hr ?_ ?_<;>intro h2 hr
 ·refine zz ?_
  obtain rfl:=sj hr
  exact kS Tryz.results211 aY aY (zW 5 [1])
 obtain⟨b8,h_3,hr⟩:=aA hr
 refine zz ?_
 refine zc (wX h_3) [] ?_
 refine zz ?_
 obtain rfl:=sj hr
 exact oH Tryz.results211 [1]
theorem aJq {N b r} (hr:aBT N b=some r):
  Vm.Fn Tryz.prog 182 [] [(k6 b)] (.sl 0 0 r.length 1 false) [some ⟨5,r.map (eI .u8)⟩]:=by
 refine zf Tryz.func182 Tryz.ntmps182 ?_
 unfold aBT at hr
 refine zz ?_
 refine aYY ?_
 obtain⟨bQ,h_1,hr⟩:=aA hr
 obtain⟨x15,h_3,hr⟩:=aA hr
 refine aY9 mixed [] [45,177] [[0,1,2,3,4,5,6,7,8]]<|zz ?_
 refine zg (aAW h_1) [] ?_
 refine zz ?_
 refine zgL (mF h_3) [] [1] ?_
 refine zz ?_
 refine aY0 fun K1 hK1 hG1=> ?_
 have J1: ∀l0,aB4 N l0=some r→K1 (aD 33 [(3,(.sl 0 0 l0.length 1 false))]) [some ⟨5,l0.map (eI .u8)⟩]:=by
  intro l0 hr
  unfold aB4 at hr
  refine hK1<|zz ?_
  obtain rfl:=sj hr
  exact aX Tryz.results182 [0]
 obtain⟨bB,hL2,hr⟩:=aA hr
 refine zz ?_
 refine aYZ<|aY4 (fun m s h=> ∃x19 aM,lI N b m x19 aM=some bB∧Ghost 0 s h (aD 33 [(3,(.sl 0 0 aM.length 1 false)),(17,(.row none 4 (b.Txs.map cK))),(18,(eI .i64 (b.Txs.length:Int))),(19,(eI .i64 x19))]) [some ⟨5,aM.map (eI .u8)⟩]) ⟨0,x15,hL2,(zG [2])⟩ ?_
 rintro m2 s h ⟨x19,aM,hr2,hg⟩
 refine aY3 hg ?_
 clear hg hL2
 rw[lI]at hr2
 refine zz ?_
 refine aYY ?_
 refine zk hr2 ?_ ?_<;>intro h5 hr2
 ·refine zz ?_
  refine aYY<|aYZ ?_
  obtain⟨cW,h_6,hr2⟩:=aA hr2
  obtain⟨x25,h_7,hr2⟩:=aA hr2
  refine zz ?_
  refine zc (aKj h_7) [] ?_
  obtain⟨fA,h_8,hr2⟩:=aA hr2
  refine zz ?_
  exact⟨aYX.wrap (x19+1),fA,hr2,(zG [3])⟩
 refine zz ?_
 obtain rfl:=sj hr2
 refine zz ?_
 exact hG1 (zG [0]) (J1 aM hr)
theorem aMu {N b r} (hr:aBN N b=some r):
  Vm.Fn Tryz.prog 151 [] [(k6 b)] (eB r) []:=by
 refine zf Tryz.func151 Tryz.ntmps151 ?_
 unfold aBN at hr
 refine zz ?_
 refine aYY<|zz ?_
 refine zk hr ?_ ?_<;>intro h1 hr
 ·refine zz ?_
  obtain rfl:=sj hr
  exact aX Tryz.results151 []
 refine zz ?_
 refine aY0 fun K1 hK1 hG1=> ?_
 have J1:aAy N b=some r→K1 (aD 24 [(1,(.ptr 0 0))]) [some ⟨78,bG b⟩]:=by
  intro hr
  unfold aAy at hr
  refine hK1 ?_
  obtain⟨cW,h_2,hr⟩:=aA hr
  refine zz ?_
  refine zc (aJq h_2) [] ?_
  refine zz ?_
  obtain rfl:=sj hr
  exact aX Tryz.results151 []
 obtain⟨bB,hL2,hr⟩:=aA hr
 refine zz ?_
 refine aYZ<|aY4 (fun m s h=> ∃cH,oQ N b m cH=some bB∧Ghost 0 s h (aD 24 [(1,(.ptr 0 0)),(10,(.row none 4 (b.Txs.map cK))),(11,(eI .i64 (b.Txs.length:Int))),(12,(eI .i64 cH))]) [some ⟨78,bG b⟩]) ⟨0,hL2,(zG [0])⟩ ?_
 rintro m2 s h ⟨cH,hr2,hg⟩
 refine aY3 hg ?_
 clear hg hL2
 rw[oQ]at hr2
 refine zz ?_
 refine aYY ?_
 refine zk hr2 ?_ ?_<;>intro h3 hr2
 ·refine zz ?_
  refine aYY<|aYZ ?_
  obtain⟨bZ,h_4,hr2⟩:=aA hr2
  obtain⟨x17,h_5,hr2⟩:=aA hr2
  refine zz ?_
  refine xp (lZ h_5) ?_
  refine zz ?_
  refine zk hr2 ?_ ?_<;>intro h6 hr2
  ·refine zz ?_
   obtain rfl:=sj hr2
   obtain rfl:=sj hr
   exact aX Tryz.results151 []
  refine zz ?_
  exact⟨aYX.wrap (cH+1),hr2,(zG [0])⟩
 refine zz ?_
 obtain rfl:=sj hr2
 refine zz ?_
 exact hG1 (zG [0]) (J1 hr)
theorem aDs {N o r} (hr:zO N o=some r):
  Vm.Fn Tryz.prog 157 [] [(cG o)] (eB r) []:=by
 refine zf Tryz.func157 Tryz.ntmps157 ?_
 unfold zO at hr
 refine zz ?_
 refine xw (v:=(.agg (aK (eI .u8) (aYW 32 0) [(eI .u32 4294967295)]))) (bV rfl (iZ rB aKA rfl))<|xw (jF rfl rfl (yO (d:=9) rB rfl aE2 zl aEX rfl rfl rfl rfl rfl)) ?_
 refine zz ?_
 obtain rfl:=sj hr
 exact aX Tryz.results157 []
theorem sU {N t r} (hr:kY N t=some r):
  Vm.Fn Tryz.prog 125 [] [(cK t)] (eB r) []:=by
 refine zf Tryz.func125 Tryz.ntmps125 ?_
 unfold kY at hr
 refine zz ?_
 refine aY0 fun K1 hK1 hG1=> ?_
 have J1: ∀x2,s9 N x2=some r→K1 (aD 15 [(2,(eB x2))]) []:=by
  intro x2 hr
  unfold s9 at hr
  refine hK1<|zz ?_
  obtain rfl:=sj hr
  exact aX Tryz.results125 []
 rcases aYV ((t.Inputs.length:Int) == 1)with h1|h1
 ·replace hr:=bY hr h1
  obtain⟨bQ,h_2,hr⟩:=aA hr
  obtain⟨cB,h_3,hr⟩:=aA hr
  refine xr<|zz ?_
  refine xCg (v:=(eB cB)) (h':=[some ⟨117,aZ t⟩]) rfl rfl h1 rfl (Vm.Fn.pure (aDs h_3) rfl rfl) ?_
  refine zz ?_
  exact hG1 (zG []) (J1 cB hr)
 replace hr:=bX hr h1
 refine xr<|zz ?_
 exact hG1 (zG []) (J1 false hr)
theorem aFA {N t r} (hr:vX N t=some r):
  Vm.Fn Tryz.prog 152 [] [(cK t)] (eI .i64 r) []:=by
 refine zf Tryz.func152 Tryz.ntmps152 ?_
 unfold vX at hr
 refine zz ?_
 refine aYY ?_
 obtain⟨b8,h_1,hr⟩:=aA hr
 refine zz ?_
 refine xp (lZ h_1) ?_
 refine zz ?_
 refine zk hr ?_ ?_<;>intro h2 hr
 ·refine zz ?_
  obtain rfl:=sj hr
  exact aX Tryz.results152 []
 refine zz ?_
 refine aYY ?_
 refine aY0 fun K1 hK1 hG1=> ?_
 have J1: ∀bW,pY N t bW=some r→K1 (aD 81 [(1,(.ptr 0 0)),(22,(eB bW))]) [some ⟨117,aZ t⟩]:=by
  intro bW hr
  unfold pY at hr
  refine hK1 ?_
  refine zk hr ?_ ?_<;>intro h3 hr
  ·refine zz ?_
   obtain rfl:=sj hr
   exact aX Tryz.results152 []
  refine zz ?_
  refine aY0 fun K2 hK2 hG2=> ?_
  have J2: ∀sum,tI N t sum=some r→K2 (aD 81 [(1,(.ptr 0 0)),(3,(eI .i64 sum))]) [some ⟨117,aZ t⟩]:=by
   intro sum hr
   unfold tI at hr
   refine hK2<|aYY ?_
   refine zz ?_
   refine zk hr ?_ ?_<;>intro h4 hr
   ·refine zz ?_
    obtain rfl:=sj hr
    exact aX Tryz.results152 []
   refine zz ?_
   refine aY0 fun K3 hK3 hG3=> ?_
   have J3:tO N t=some r→K3 (aD 81 [(1,(.ptr 0 0))]) [some ⟨117,aZ t⟩]:=by
    intro hr
    unfold tO at hr
    refine hK3 ?_
    refine aY0 fun K4 hK4 hG4=> ?_
    have J4:aCw N=some r→K4 (aD 81 []) []:=by
     intro hr
     unfold aCw at hr
     refine hK4<|zz ?_
     obtain rfl:=sj hr
     exact aX Tryz.results152 []
    obtain⟨res5,hL5,hr⟩:=aA hr
    refine zz ?_
    refine aYZ<|aY4 (fun m s h=> ∃x68,gY N t m x68=some res5∧Ghost 0 s h (aD 81 [(1,(.ptr 0 0)),(66,(.row none 35 (t.Inputs.map dH))),(67,(eI .i64 (t.Inputs.length:Int))),(68,(eI .i64 x68))]) [some ⟨117,aZ t⟩]) ⟨0,hL5,(zG [0])⟩ ?_
    rintro m5 s h ⟨x68,hr5,hg⟩
    refine aY3 hg ?_
    clear hg hL5
    rw[gY]at hr5
    refine zz ?_
    refine aYY ?_
    refine zk hr5 ?_ ?_<;>intro h5 hr5
    ·refine zz ?_
     refine aYY<|aYZ ?_
     obtain⟨x70,h_6,hr5⟩:=aA hr5
     refine zz ?_
     refine aY0 fun K6 hK6 hG6=> ?_
     have J6: ∀x79,pV N t x68 (gY N t m5) x79=some res5→K6 (aD 81 [(1,(.ptr 0 0)),(66,(.row none 35 (t.Inputs.map dH))),(67,(eI .i64 (t.Inputs.length:Int))),(68,(eI .i64 x68)),(79,(eB x79))]) [some ⟨117,aZ t⟩]:=by
      intro x79 hr5
      unfold pV at hr5
      refine hK6 ?_
      refine zk hr5 ?_ ?_<;>intro h7 hr5
      ·refine zz ?_
       obtain rfl:=sj hr5
       obtain rfl:=sj hr
       exact aX Tryz.results152 []
      refine zz ?_
      exact⟨aYX.wrap (x68+1),hr5,(zG [0])⟩
     obtain⟨x74,h_8,hr5⟩:=aA hr5
     rcases aYV x74 with h9|h9
     ·replace hr5:=bY hr5 h9
      obtain⟨x77,h_10,hr5⟩:=aA hr5
      refine xr<|zz ?_
      refine xp (aDs h_8) ?_
      refine zz ?_
      refine xCg (v:=(eB x77)) (h':=[some ⟨117,aZ t⟩,some ⟨152,fN x70⟩]) rfl rfl h9 rfl (Vm.Fn.pure (sU h_10) rfl rfl) ?_
      refine zz ?_
      exact hG6 (zG [0]) (J6 (!x77) hr5)
     replace hr5:=bX hr5 h9
     refine xr<|zz ?_
     refine xp (aDs h_8) ?_
     refine zz ?_
     exact hG6 (zG [0]) (J6 false hr5)
    refine zz ?_
    obtain rfl:=sj hr5
    refine zz ?_
    exact hG4 (zG []) (J4 hr)
   obtain⟨res7,hL7,hr⟩:=aA hr
   refine zz ?_
   refine aYZ<|aY4 (fun m s h=> ∃x43,kW N t m x43=some res7∧Ghost 0 s h (aD 81 [(1,(.ptr 0 0)),(42,(eI .i64 (t.Inputs.length:Int))),(43,(eI .i64 x43))]) [some ⟨117,aZ t⟩]) ⟨0,hL7,(zG [0])⟩ ?_
   rintro m7 s h ⟨x43,hr7,hg⟩
   refine aY3 hg ?_
   clear hg hL7
   rw[kW]at hr7
   refine zz ?_
   refine aYY ?_
   refine zk hr7 ?_ ?_<;>intro h11 hr7
   ·refine zz ?_
    refine aY0 fun K8 hK8 hG8=> ?_
    have J8:yU N t x43 (kW N t m7)=some res7→K8 (aD 81 [(1,(.ptr 0 0)),(42,(eI .i64 (t.Inputs.length:Int))),(43,(eI .i64 x43))]) [some ⟨117,aZ t⟩]:=by
     intro hr7
     unfold yU at hr7
     refine hK8<|zz ?_
     exact⟨aYX.wrap (x43+1),hr7,(zG [0])⟩
    refine aYZ ?_
    obtain⟨res9,hL9,hr7⟩:=aA hr7
    refine zz ?_
    refine aYZ<|aY4 (fun m s h=> ∃k,nE N t x43 m k=some res9∧Ghost 0 s h (aD 81 [(1,(.ptr 0 0)),(6,(eI .i64 x43)),(7,(eI .i64 k)),(42,(eI .i64 (t.Inputs.length:Int))),(43,(eI .i64 x43))]) [some ⟨117,aZ t⟩]) ⟨0,hL9,(zG [0])⟩ ?_
    rintro m9 s h ⟨k,hr9,hg⟩
    refine aY3 hg ?_
    clear hg hL9
    rw[nE]at hr9
    refine aYY<|zz ?_
    refine zk hr9 ?_ ?_<;>intro h12 hr9
    ·refine zz ?_
     refine aYY<|aYZ<|aYY ?_
     obtain⟨x54,h_13,hr9⟩:=aA hr9
     obtain⟨x60,h_14,hr9⟩:=aA hr9
     refine aY9 mixed [] [] [[0,1,2,3,4,5,6,7,8,9,10,11,12]]<|zz ?_
     refine xw (v:=(eB (sX x54.Prev.Tx x60.Prev.Tx ((x54.Prev.Index == x60.Prev.Index)&&true)))) (jF rfl rfl (yO (d:=9) rB rfl aE2 zl aEX rfl rfl rfl rfl rfl)) ?_
     refine zz ?_
     refine zk hr9 ?_ ?_<;>intro h15 hr9
     ·refine zz ?_
      obtain rfl:=sj hr9
      obtain rfl:=sj hr7
      obtain rfl:=sj hr
      exact aX Tryz.results152 []
     refine zz ?_
     exact⟨aYX.wrap (k+1),hr9,(zG [0])⟩
    refine zz ?_
    obtain rfl:=sj hr9
    refine zz ?_
    exact hG8 (zG [0]) (J8 hr7)
   refine zz ?_
   obtain rfl:=sj hr7
   refine zz ?_
   exact hG3 (zG [0]) (J3 hr)
  obtain⟨res10,hL10,hr⟩:=aA hr
  refine zz ?_
  refine aYZ<|aY4 (fun m s h=> ∃eO x26,lQ N t m eO x26=some res10∧Ghost 0 s h (aD 81 [(1,(.ptr 0 0)),(3,(eI .i64 eO)),(24,(.row none 2 (t.Outputs.map eR))),(25,(eI .i64 (t.Outputs.length:Int))),(26,(eI .i64 x26))]) [some ⟨117,aZ t⟩]) ⟨0,0,hL10,(zG [0])⟩ ?_
  rintro m10 s h ⟨eO,x26,hr10,hg⟩
  refine aY3 hg ?_
  clear hg hL10
  rw[lQ]at hr10
  refine zz ?_
  refine aYY ?_
  refine zk hr10 ?_ ?_<;>intro h16 hr10
  ·refine zz ?_
   refine aYY<|aYZ ?_
   obtain⟨x28,h_17,hr10⟩:=aA hr10
   refine zz ?_
   refine aYY<|zz ?_
   refine zk hr10 ?_ ?_<;>intro h18 hr10
   ·refine zz ?_
    obtain rfl:=sj hr10
    obtain rfl:=sj hr
    exact aX Tryz.results152 []
   refine zz ?_
   exact⟨aYX.wrap (eO+x28.Value),aYX.wrap (x26+1),hr10,(zG [0])⟩
  refine zz ?_
  obtain rfl:=sj hr10
  refine zz ?_
  exact hG2 (zG [0]) (J2 eO hr)
 rcases aYV ((t.Inputs.length:Int) == 0)with h19|h19
 ·replace hr:=bY hr h19
  refine xr<|zz ?_
  exact hG1 (zG [0]) (J1 true hr)
 replace hr:=bX hr h19
 refine xr<|zz ?_
 exact hG1 (zG [0]) (J1 ((t.Outputs.length:Int) == 0) hr)
theorem aFn {N ids vid r} (hr:vP N ids vid=some r):
  Vm.Fn Tryz.prog 153 [] [(.row none 32 (ids.map (eA (eI .u8)))),(.agg (vid.map (eI .u8)))] (eI .i64 r) []:=by
 refine zf Tryz.func153 Tryz.ntmps153 ?_
 unfold vP at hr
 refine zz ?_
 refine aY0 fun K1 hK1 hG1=> ?_
 have J1:aCn N=some r→K1 (aD 19 []) []:=by
  intro hr
  unfold aCn at hr
  refine hK1<|zz ?_
  obtain rfl:=sj hr
  exact aX Tryz.results153 []
 obtain⟨bB,hL2,hr⟩:=aA hr
 refine zz ?_
 refine aYZ<|aY4 (fun m s h=> ∃x8,mY N ids vid m x8=some bB∧Ghost 0 s h (aD 19 [(0,(.row none 32 (ids.map (eA (eI .u8))))),(3,(.ptr 0 0)),(7,(eI .i64 (ids.length:Int))),(8,(eI .i64 x8))]) [some ⟨24,vid.map (eI .u8)⟩]) ⟨0,hL2,(zG [0])⟩ ?_
 rintro m2 s h ⟨x8,hr2,hg⟩
 refine aY3 hg ?_
 clear hg hL2
 rw[mY]at hr2
 refine zz ?_
 refine aYY ?_
 refine zk hr2 ?_ ?_<;>intro h1 hr2
 ·refine zz ?_
  refine aYY<|aYZ ?_
  refine zz ?_
  refine aYY ?_
  obtain⟨cB,h_2,hr2⟩:=aA hr2
  obtain⟨q,h_3,hr2⟩:=aA hr2
  obtain⟨q_1,h_4,hr2⟩:=aA hr2
  refine aY9 mixed [] [] [[0,1,2,3,4,5]]<|zz ?_
  refine xw (v:=(.agg (cB.map (eI .u8)))) (aS rfl (aNX (E:=(eI .u8)) lD rfl h_2 (bP h_3))) ?_
  refine zz ?_
  refine zk hr2 ?_ ?_<;>intro h5 hr2
  ·refine zz ?_
   obtain rfl:=sj hr2
   obtain rfl:=sj hr
   exact aX Tryz.results153 []
  refine zz ?_
  exact⟨aYX.wrap (x8+1),hr2,(zG [0])⟩
 refine zz ?_
 obtain rfl:=sj hr2
 refine zz ?_
 exact hG1 (zG []) (J1 hr)
theorem aIY {N b ids r} (hr:vC N b ids=some r):
  Vm.Fn Tryz.prog 154 [] [(k6 b),(.row none 32 (ids.map (eA (eI .u8))))] (eB r) []:=by
 refine zf Tryz.func154 Tryz.ntmps154 ?_
 unfold vC at hr
 refine zz ?_
 refine aY0 fun K1 hK1 hG1=> ?_
 have J1:aAK N=some r→K1 (aD 33 []) []:=by
  intro hr
  unfold aAK at hr
  refine hK1<|zz ?_
  obtain rfl:=sj hr
  exact aX Tryz.results154 []
 obtain⟨bB,hL2,hr⟩:=aA hr
 refine zz ?_
 refine aYZ<|aY4 (fun m s h=> ∃cH,iK N b ids m cH=some bB∧Ghost 0 s h (aD 33 [(1,(.row none 32 (ids.map (eA (eI .u8))))),(10,(.row none 4 (b.Txs.map cK))),(11,(eI .i64 (b.Txs.length:Int))),(12,(eI .i64 cH))]) []) ⟨0,hL2,(zG [])⟩ ?_
 rintro m2 s h ⟨cH,hr2,hg⟩
 refine aY3 hg ?_
 clear hg hL2
 rw[iK]at hr2
 refine zz ?_
 refine aYY ?_
 refine zk hr2 ?_ ?_<;>intro h1 hr2
 ·refine zz ?_
  refine aY0 fun K3 hK3 hG3=> ?_
  have J3:uQ N b ids cH (iK N b ids m2)=some bB→K3 (aD 33 [(1,(.row none 32 (ids.map (eA (eI .u8))))),(10,(.row none 4 (b.Txs.map cK))),(11,(eI .i64 (b.Txs.length:Int))),(12,(eI .i64 cH))]) []:=by
   intro hr2
   unfold uQ at hr2
   refine hK3<|zz ?_
   exact⟨aYX.wrap (cH+1),hr2,(zG [])⟩
  refine aYZ ?_
  obtain⟨x15,h_2,hr2⟩:=aA hr2
  obtain⟨res4,hL4,hr2⟩:=aA hr2
  refine zz ?_
  refine aYZ<|aY4 (fun m s h=> ∃b6,kH N b ids cH x15 m b6=some res4∧Ghost 0 s h (aD 33 [(1,(.row none 32 (ids.map (eA (eI .u8))))),(5,(eI .i64 cH)),(10,(.row none 4 (b.Txs.map cK))),(11,(eI .i64 (b.Txs.length:Int))),(12,(eI .i64 cH)),(18,(.row none 35 (x15.Inputs.map dH))),(19,(eI .i64 (x15.Inputs.length:Int))),(20,(eI .i64 b6))]) []) ⟨0,hL4,(zG [])⟩ ?_
  rintro m4 s h ⟨b6,hr4,hg⟩
  refine aY3 hg ?_
  clear hg hL4
  rw[kH]at hr4
  refine zz ?_
  refine aYY ?_
  refine zk hr4 ?_ ?_<;>intro h3 hr4
  ·refine zz ?_
   refine aYY<|aYZ ?_
   obtain⟨bW,h_4,hr4⟩:=aA hr4
   obtain⟨q,h_5,hr4⟩:=aA hr4
   obtain⟨x28,h_6,hr4⟩:=aA hr4
   refine zz ?_
   refine xp (aFn h_6) ?_
   refine zz ?_
   refine zk hr4 ?_ ?_<;>intro h7 hr4
   ·refine zz ?_
    obtain rfl:=sj hr4
    obtain rfl:=sj hr2
    obtain rfl:=sj hr
    exact aX Tryz.results154 []
   refine zz ?_
   exact⟨aYX.wrap (b6+1),hr4,(zG [])⟩
  refine zz ?_
  obtain rfl:=sj hr4
  refine zz ?_
  exact hG3 (zG []) (J3 hr2)
 refine zz ?_
 obtain rfl:=sj hr2
 refine zz ?_
 exact hG1 (zG []) (J1 hr)
theorem aKm {N b r} (hr:aAf N b=some r):
  Vm.Fn Tryz.prog 155 [] [(k6 b)] (eB r) []:=by
 refine zf Tryz.func155 Tryz.ntmps155 ?_
 unfold aAf at hr
 refine zz ?_
 refine aY0 fun K1 hK1 hG1=> ?_
 have J1:aCr N=some r→K1 (aD 42 []) []:=by
  intro hr
  unfold aCr at hr
  refine hK1<|zz ?_
  obtain rfl:=sj hr
  exact aX Tryz.results155 []
 obtain⟨bB,hL2,hr⟩:=aA hr
 refine zz ?_
 refine aYZ<|aY4 (fun m s h=> ∃cB l0,kN N b m cB l0=some bB∧Ghost 0 s h (aD 42 [(3,(.sl 0 0 l0.length 33 true)),(11,(.row none 4 (b.Txs.map cK))),(12,(eI .i64 (b.Txs.length:Int))),(13,(eI .i64 cB))]) [some ⟨37,l0.flatMap cC⟩]) ⟨0,[],hL2,(zW 37 [1])⟩ ?_
 rintro m2 s h ⟨cB,l0,hr2,hg⟩
 refine aY3 hg ?_
 clear hg hL2
 rw[kN]at hr2
 refine zz ?_
 refine aYY ?_
 refine zk hr2 ?_ ?_<;>intro h1 hr2
 ·refine zz ?_
  refine aY0 fun K3 hK3 hG3=> ?_
  have J3: ∀aM,zK N b cB (kN N b m2) aM=some bB→K3 (aD 42 [(3,(.sl 0 0 aM.length 33 true)),(11,(.row none 4 (b.Txs.map cK))),(12,(eI .i64 (b.Txs.length:Int))),(13,(eI .i64 cB))]) [some ⟨37,aM.flatMap cC⟩]:=by
   intro aM hr2
   unfold zK at hr2
   refine hK3<|zz ?_
   exact⟨aYX.wrap (cB+1),aM,hr2,(zG [0])⟩
  refine aYZ ?_
  obtain⟨x15,h_2,hr2⟩:=aA hr2
  obtain⟨res4,hL4,hr2⟩:=aA hr2
  refine zz ?_
  refine aYZ<|aY4 (fun m s h=> ∃b6 dW,i6 N b cB x15 m b6 dW=some res4∧Ghost 0 s h (aD 42 [(3,(.sl 0 0 dW.length 33 true)),(11,(.row none 4 (b.Txs.map cK))),(12,(eI .i64 (b.Txs.length:Int))),(13,(eI .i64 cB)),(18,(.row none 35 (x15.Inputs.map dH))),(19,(eI .i64 (x15.Inputs.length:Int))),(20,(eI .i64 b6))]) [some ⟨37,dW.flatMap cC⟩]) ⟨0,l0,hL4,(zG [0])⟩ ?_
  rintro m4 s h ⟨b6,dW,hr4,hg⟩
  refine aY3 hg ?_
  clear hg hL4
  rw[i6]at hr4
  refine zz ?_
  refine aYY ?_
  refine zk hr4 ?_ ?_<;>intro h3 hr4
  ·refine zz ?_
   refine aY0 fun K5 hK5 hG5=> ?_
   have J5: ∀nR,yT N b cB x15 b6 (i6 N b cB x15 m4) nR=some res4→K5 (aD 42 [(3,(.sl 0 0 nR.length 33 true)),(11,(.row none 4 (b.Txs.map cK))),(12,(eI .i64 (b.Txs.length:Int))),(13,(eI .i64 cB)),(18,(.row none 35 (x15.Inputs.map dH))),(19,(eI .i64 (x15.Inputs.length:Int))),(20,(eI .i64 b6))]) [some ⟨37,nR.flatMap cC⟩]:=by
    intro nR hr4
    unfold yT at hr4
    refine hK5<|zz ?_
    exact⟨aYX.wrap (b6+1),nR,hr4,(zG [0])⟩
   refine aYZ ?_
   obtain⟨bW,h_4,hr4⟩:=aA hr4
   refine zz ?_
   refine aY0 fun K6 hK6 hG6=> ?_
   have J6:zD N b cB x15 b6 dW bW (i6 N b cB x15 m4)=some res4→K6 (aD 42 [(3,(.sl 0 0 dW.length 33 true)),(7,(.ptr 1 0)),(11,(.row none 4 (b.Txs.map cK))),(12,(eI .i64 (b.Txs.length:Int))),(13,(eI .i64 cB)),(18,(.row none 35 (x15.Inputs.map dH))),(19,(eI .i64 (x15.Inputs.length:Int))),(20,(eI .i64 b6))]) [some ⟨37,dW.flatMap cC⟩,some ⟨152,fN bW⟩]:=by
    intro hr4
    unfold zD at hr4
    refine hK6 ?_
    obtain⟨x39,h_5,hr4⟩:=aA hr4
    refine zz ?_
    refine dQ cC 33 [bW.Prev] ?_
    refine zz ?_
    exact hG5 (zG [3]) (J5 x39 hr4)
   obtain⟨res7,hL7,hr4⟩:=aA hr4
   refine zz ?_
   refine aYZ<|aY4 (fun m s h=> ∃x26,mS N b cB x15 b6 dW bW m x26=some res7∧Ghost 0 s h (aD 42 [(3,(.sl 0 0 dW.length 33 true)),(7,(.ptr 1 0)),(11,(.row none 4 (b.Txs.map cK))),(12,(eI .i64 (b.Txs.length:Int))),(13,(eI .i64 cB)),(18,(.row none 35 (x15.Inputs.map dH))),(19,(eI .i64 (x15.Inputs.length:Int))),(20,(eI .i64 b6)),(24,(.sl 0 0 dW.length 33 true)),(25,(eI .i64 (dW.length:Int))),(26,(eI .i64 x26))]) [some ⟨37,dW.flatMap cC⟩,some ⟨152,fN bW⟩]) ⟨0,hL7,(zG [0,1])⟩ ?_
   rintro m7 s h ⟨x26,hr7,hg⟩
   refine aY3 hg ?_
   clear hg hL7
   rw[mS]at hr7
   refine zz ?_
   refine aYY ?_
   refine zk hr7 ?_ ?_<;>intro h6 hr7
   ·refine zz ?_
    refine aYY<|aYZ ?_
    obtain⟨x28,h_7,hr7⟩:=aA hr7
    refine zz ?_
    refine xw (v:=(cG x28)) (aS rfl (bR (C:=cC) (K:=33) (fun _=>rfl) rfl h_7 (bJ (ds:=(aK (eI .u8) x28.Tx [(eI .u32 x28.Index)])) rB rfl zl rfl))) ?_
    refine zz ?_
    refine xw (jF rfl rfl (yO (d:=9) rB rfl aE2 zl aEX rfl rfl rfl rfl rfl)) ?_
    refine zz ?_
    refine zk hr7 ?_ ?_<;>intro h8 hr7
    ·refine zz ?_
     obtain rfl:=sj hr7
     obtain rfl:=sj hr4
     obtain rfl:=sj hr2
     obtain rfl:=sj hr
     exact aX Tryz.results155 []
    refine zz ?_
    exact⟨aYX.wrap (x26+1),hr7,(zG [0,1])⟩
   refine zz ?_
   obtain rfl:=sj hr7
   refine zz ?_
   exact hG6 (zG [0,1]) (J6 hr4)
  refine zz ?_
  obtain rfl:=sj hr4
  refine zz ?_
  exact hG3 (zG [0]) (J3 dW hr2)
 refine zz ?_
 obtain rfl:=sj hr2
 refine zz ?_
 exact hG1 (zG []) (J1 hr)
theorem aKM {N b r} (hr:aAb N b=some r):
  Vm.Fn Tryz.prog 122 [] [(k6 b)] (eI .i64 r) []:=by
 refine zf Tryz.func122 Tryz.ntmps122 ?_
 unfold aAb at hr
 refine zz ?_
 refine aYY ?_
 obtain⟨cB,h_1,hr⟩:=aA hr
 refine zz ?_
 refine xp (aMu h_1) ?_
 refine zz ?_
 refine zk hr ?_ ?_<;>intro h2 hr
 ·refine zz ?_
  obtain rfl:=sj hr
  exact aX Tryz.results122 []
 refine zz ?_
 refine aYY<|zz ?_
 refine zk hr ?_ ?_<;>intro h3 hr
 ·refine zz ?_
  obtain rfl:=sj hr
  exact aX Tryz.results122 []
 refine zz ?_
 refine aY0 fun K1 hK1 hG1=> ?_
 have J1:tF N b=some r→K1 (aD 79 [(1,(.ptr 0 0))]) [some ⟨78,bG b⟩]:=by
  intro hr
  unfold tF at hr
  refine hK1<|zz ?_
  refine aY0 fun K2 hK2 hG2=> ?_
  have J2:uC N b=some r→K2 (aD 79 [(1,(.ptr 0 0)),(5,(.row (some true) 1 []))]) [some ⟨78,bG b⟩]:=by
   intro hr
   unfold uC at hr
   refine hK2 ?_
   refine aY0 fun K3 hK3 hG3=> ?_
   have J3: ∀l1,uD N b l1=some r→K3 (aD 79 [(1,(.ptr 0 0)),(5,(.sl 1 0 l1.length 32 true))]) [some ⟨78,bG b⟩,some ⟨24,l1.flatMap (lL (eI .u8))⟩]:=by
    intro l1 hr
    unfold uD at hr
    refine hK3<|aYY<|aYZ ?_
    obtain⟨q,h_4,hr⟩:=aA hr
    obtain⟨x67,h_5,hr⟩:=aA hr
    refine zz ?_
    refine gV (aIY h_5) [] [1] ?_
    refine zz ?_
    refine zk hr ?_ ?_<;>intro h6 hr
    ·refine zz ?_
     obtain rfl:=sj hr
     exact aX Tryz.results122 []
    obtain⟨x70,h_7,hr⟩:=aA hr
    refine zz ?_
    refine xp (aKm h_7) ?_
    refine zz ?_
    refine zk hr ?_ ?_<;>intro h8 hr
    ·refine zz ?_
     obtain rfl:=sj hr
     exact aX Tryz.results122 []
    refine aYY ?_
    obtain⟨x74,h_9,hr⟩:=aA hr
    obtain⟨q_1,h_11,hr⟩:=aA hr
    obtain⟨q_2,h_12,hr⟩:=aA hr
    refine aY9 mixed [82] [] [[0,1,2,3,4,5,6,7]]<|zz ?_
    refine xu (aGB h_9) ?_
    refine zz ?_
    refine zk hr ?_ ?_<;>intro h13 hr
    ·refine zz ?_
     obtain rfl:=sj hr
     exact aX Tryz.results122 []
    refine zz ?_
    obtain rfl:=sj hr
    exact aX Tryz.results122 []
   obtain⟨res4,hL4,hr⟩:=aA hr
   refine zz ?_
   refine aYZ<|aY4 (fun m s h=> ∃x49 b5,mJ N b m x49 b5=some res4∧Ghost 0 s h (aD 79 [(1,(.ptr 0 0)),(5,(.sl 1 0 b5.length 32 true)),(47,(.row none 4 (b.Txs.map cK))),(48,(eI .i64 (b.Txs.length:Int))),(49,(eI .i64 x49))]) [some ⟨78,bG b⟩,some ⟨24,b5.flatMap (lL (eI .u8))⟩]) ⟨0,[],hL4,(zW 24 [0,1])⟩ ?_
   rintro m4 s h ⟨x49,b5,hr4,hg⟩
   refine aY3 hg ?_
   clear hg hL4
   rw[mJ]at hr4
   refine zz ?_
   refine aYY ?_
   refine zk hr4 ?_ ?_<;>intro h14 hr4
   ·refine zz ?_
    refine aYY<|aYZ ?_
    obtain⟨x51,h_15,hr4⟩:=aA hr4
    obtain⟨x54,h_16,hr4⟩:=aA hr4
    obtain⟨q_3,h_17,hr4⟩:=aA hr4
    refine zz ?_
    refine xp (aEJ h_16) ?_
    refine zz ?_
    refine aYY ?_
    obtain⟨q_4,h_18,hr4⟩:=aA hr4
    obtain⟨x57,h_19,hr4⟩:=aA hr4
    refine zz ?_
    refine gV (aFn h_19) [] [1] ?_
    refine zz ?_
    refine zk hr4 ?_ ?_<;>intro h20 hr4
    ·refine zz ?_
     obtain rfl:=sj hr4
     obtain rfl:=sj hr
     exact aX Tryz.results122 []
    obtain⟨x62,h_21,hr4⟩:=aA hr4
    refine zz ?_
    refine xw (v:=(.sl 4 0 1 32 true)) (h':=[some ⟨78,bG b⟩,some ⟨24,b5.flatMap (lL (eI .u8))⟩,some ⟨117,aZ x51⟩,some ⟨24,x54.map (eI .u8)⟩,some ⟨24,[x54].flatMap (lL (eI .u8))⟩]) (aCj rfl (aMS (ps':=[(0,.agg (lL (eI .u8) x54))]) (by simp only[aF3,lL,gO (l:=x54) (bP h_17)]) (aJ1 (len:=1) (C:=(lL (eI .u8))) (xs:=[x54]) (K:=32) (fun _=>rfl) (fun _=>rfl) aHS lD ⟨zl,zl,zl⟩ rfl rfl rfl rfl rfl rfl))) ?_
    refine zz ?_
    exact⟨aYX.wrap (x49+1),x62,hr4,(zG [0,5])⟩
   refine zz ?_
   obtain rfl:=sj hr4
   refine zz ?_
   exact hG3 (zG [0,1]) (J3 b5 hr)
  obtain⟨res5,hL5,hr⟩:=aA hr
  refine zz ?_
  refine aYZ<|aY4 (fun m s h=> ∃x36,mT N b m x36=some res5∧Ghost 0 s h (aD 79 [(1,(.ptr 0 0)),(5,(.row (some true) 1 [])),(34,(.row none 4 (b.Txs.map cK))),(35,(eI .i64 (b.Txs.length:Int))),(36,(eI .i64 x36))]) [some ⟨78,bG b⟩]) ⟨0,hL5,(zG [0])⟩ ?_
  rintro m5 s h ⟨x36,hr5,hg⟩
  refine aY3 hg ?_
  clear hg hL5
  rw[mT]at hr5
  refine zz ?_
  refine aYY ?_
  refine zk hr5 ?_ ?_<;>intro h22 hr5
  ·refine zz ?_
   refine aYY<|aYZ ?_
   obtain⟨x38,h_23,hr5⟩:=aA hr5
   obtain⟨x41,h_24,hr5⟩:=aA hr5
   refine zz ?_
   refine xp (aFA h_24) ?_
   refine zz ?_
   refine zk hr5 ?_ ?_<;>intro h25 hr5
   ·refine zz ?_
    obtain rfl:=sj hr5
    obtain rfl:=sj hr
    exact aX Tryz.results122 []
   refine zz ?_
   exact⟨aYX.wrap (x36+1),hr5,(zG [0])⟩
  refine zz ?_
  obtain rfl:=sj hr5
  refine zz ?_
  exact hG2 (zG [0]) (J2 hr)
 obtain⟨res6,hL6,hr⟩:=aA hr
 refine zz ?_
 refine aYZ<|aY4 (fun m s h=> ∃bW,mZ N b m bW=some res6∧Ghost 0 s h (aD 79 [(1,(.ptr 0 0)),(20,(.row none 4 (b.Txs.map cK))),(21,(eI .i64 (b.Txs.length:Int))),(22,(eI .i64 bW))]) [some ⟨78,bG b⟩]) ⟨0,hL6,(zG [0])⟩ ?_
 rintro m6 s h ⟨bW,hr6,hg⟩
 refine aY3 hg ?_
 clear hg hL6
 rw[mZ]at hr6
 refine zz ?_
 refine aYY ?_
 refine zk hr6 ?_ ?_<;>intro h26 hr6
 ·refine zz ?_
  refine aYY<|aYZ ?_
  obtain⟨x25,h_27,hr6⟩:=aA hr6
  obtain⟨x28,h_28,hr6⟩:=aA hr6
  refine zz ?_
  refine xp (sU h_28) ?_
  refine zz ?_
  refine xw (jF rfl rfl (aGi _ _ ti4 ..)) ?_
  refine zz ?_
  refine zk hr6 ?_ ?_<;>intro h29 hr6
  ·refine zz ?_
   obtain rfl:=sj hr6
   obtain rfl:=sj hr
   exact aX Tryz.results122 []
  refine zz ?_
  exact⟨aYX.wrap (bW+1),hr6,(zG [0])⟩
 refine zz ?_
 obtain rfl:=sj hr6
 refine zz ?_
 exact hG1 (zG [0]) (J1 hr)
theorem aFr {N t height r} (hr:vV N t height=some r):
  Vm.Fn Tryz.prog 123 [] [(cK t),(eI .i64 height)] (eB r) []:=by
 refine zf Tryz.func123 Tryz.ntmps123 ?_
 unfold vV at hr
 refine zz ?_
 refine aYY<|zz ?_
 refine zk hr ?_ ?_<;>intro h1 hr
 ·refine zz ?_
  obtain rfl:=sj hr
  exact aX Tryz.results123 []
 refine zz ?_
 refine aY0 fun K1 hK1 hG1=> ?_
 have J1:aCf N=some r→K1 (aD 23 []) []:=by
  intro hr
  unfold aCf at hr
  refine hK1<|zz ?_
  obtain rfl:=sj hr
  exact aX Tryz.results123 []
 obtain⟨bB,hL2,hr⟩:=aA hr
 refine zz ?_
 refine aYZ<|aY4 (fun m s h=> ∃x15,mV N t m x15=some bB∧Ghost 0 s h (aD 23 [(13,(.row none 35 (t.Inputs.map dH))),(14,(eI .i64 (t.Inputs.length:Int))),(15,(eI .i64 x15))]) []) ⟨0,hL2,(zG [])⟩ ?_
 rintro m2 s h ⟨x15,hr2,hg⟩
 refine aY3 hg ?_
 clear hg hL2
 rw[mV]at hr2
 refine zz ?_
 refine aYY ?_
 refine zk hr2 ?_ ?_<;>intro h2 hr2
 ·refine zz ?_
  refine aYY<|aYZ ?_
  obtain⟨x17,h_3,hr2⟩:=aA hr2
  refine zz ?_
  refine zk hr2 ?_ ?_<;>intro h4 hr2
  ·refine zz ?_
   obtain rfl:=sj hr2
   obtain rfl:=sj hr
   exact aX Tryz.results123 []
  refine zz ?_
  exact⟨aYX.wrap (x15+1),hr2,(zG [])⟩
 refine zz ?_
 obtain rfl:=sj hr2
 refine zz ?_
 exact hG1 (zG []) (J1 hr)
theorem aKO {N p l b r} (hr:z6 N p l b=some r):
  Vm.Fn Tryz.prog 84 [] [(cY p),(dO l),(k6 b)] (eI .i64 r) []:=by
 refine zf Tryz.func84 Tryz.ntmps84 ?_
 unfold z6 at hr
 refine zz ?_
 refine aYY<|aYZ ?_
 refine aY0 fun K1 hK1 hG1=> ?_
 have J1: ∀x8,pX N l b x8=some r→K1 (aD 55 [(4,(.ptr 0 0)),(5,(.ptr 1 0)),(8,(eB x8))]) [some ⟨35,aN l⟩,some ⟨78,bG b⟩]:=by
  intro x8 hr
  unfold pX at hr
  refine hK1 ?_
  refine zk hr ?_ ?_<;>intro h1 hr
  ·refine zz ?_
   obtain rfl:=sj hr
   exact aX Tryz.results84 []
  refine zz ?_
  refine zk hr ?_ ?_<;>intro h2 hr
  ·refine zz ?_
   obtain rfl:=sj hr
   exact aX Tryz.results84 []
  obtain⟨q,h_3,hr⟩:=aA hr
  obtain⟨q_1,h_4,hr⟩:=aA hr
  refine zz ?_
  refine zk hr ?_ ?_<;>intro h5 hr
  ·refine zz ?_
   obtain rfl:=sj hr
   exact aX Tryz.results84 []
  refine zz ?_
  refine aYY ?_
  obtain⟨x29,h_6,hr⟩:=aA hr
  refine zz ?_
  refine xp (aKM h_6) ?_
  refine zz ?_
  refine zk hr ?_ ?_<;>intro h7 hr
  ·refine zz ?_
   obtain rfl:=sj hr
   exact aX Tryz.results84 []
  refine zz ?_
  refine aYY<|aYY ?_
  obtain⟨x35,h_8,hr⟩:=aA hr
  obtain⟨x38,h_9,hr⟩:=aA hr
  refine aY9 mixed [] [] [[0,1,2,3,4,5,6,7,8,9,10,11,12]]<|zz ?_
  refine zk hr ?_ ?_<;>intro h10 hr
  ·refine zz ?_
   obtain rfl:=sj hr
   exact aX Tryz.results84 []
  refine zz ?_
  refine aYY<|aYY ?_
  obtain⟨x53,h_11,hr⟩:=aA hr
  refine aY9 mixed [123] [] [[0,1,2,3,4,5,6,7,8]]<|zz ?_
  refine xu (aFr h_11) ?_
  refine zz ?_
  refine zk hr ?_ ?_<;>intro h13 hr
  ·refine zz ?_
   obtain rfl:=sj hr
   exact aX Tryz.results84 []
  refine zz ?_
  obtain rfl:=sj hr
  exact aX Tryz.results84 []
 obtain⟨bQ,h_14,hr⟩:=aA hr
 rcases aYV (!bQ)with h15|h15
 ·replace hr:=bY hr h15
  refine xr<|zz ?_
  refine xp (dS h_14) ?_
  refine zz ?_
  exact hG1 (zG [1,2]) (J1 true hr)
 replace hr:=bX hr h15
 obtain⟨bZ,h_16,hr⟩:=aA hr
 refine xr<|zz ?_
 refine xp (dS h_14) ?_
 refine zz ?_
 refine xCg (v:=(eB bZ)) (h':=[some ⟨32,aT p⟩,some ⟨35,aN l⟩,some ⟨78,bG b⟩]) rfl rfl h15 rfl (Vm.Fn.pure (tN h_16) rfl rfl) ?_
 refine zz ?_
 exact hG1 (zG [1,2]) (J1 (!bZ) hr)
theorem aDB {N c r} (hr:pS N c=some r):
  Vm.Fn Tryz.prog 124 [] [(aR c)] (aR r) []:=by
 refine zf Tryz.func124 Tryz.ntmps124 ?_
 unfold pS at hr
 obtain⟨x7,h_1,hr⟩:=aA hr
 refine zz ?_
 refine gV (vH h_1) [] [2] ?_
 refine zz ?_
 obtain rfl:=sj hr
 exact gL Tryz.results124 aY (aY6 (o6 [1,1,1,0]) (zG []))
theorem aKW {N p l t height r} (hr:z9 N p l t height=some r):
  Vm.Fn Tryz.prog 85 [] [(cY p),(.row none 37 (l.map aR)),(cK t),(eI .i64 height)] (.tup [(.sl 0 0 r.1.length 37 true),(eI .i64 r.2)]) [some ⟨59,r.1.flatMap aQ⟩]:=by
 refine zf Tryz.func85 Tryz.ntmps85 ?_
 unfold z9 at hr
 refine zz ?_
 refine aY0 fun K1 hK1 hG1=> ?_
 have J1: ∀l1,zM N p height l1=some r→K1 (aD 57 [(3,(eI .i64 height)),(4,(.ptr 0 0)),(10,(.sl 1 0 l1.length 37 true))]) [some ⟨32,aT p⟩,some ⟨59,l1.flatMap aQ⟩]:=by
  intro l1 hr
  unfold zM at hr
  refine hK1 ?_
  refine aY0 fun K2 hK2 hG2=> ?_
  have J2:aCs N l1=some r→K2 (aD 57 [(10,(.sl 0 0 l1.length 37 true))]) [some ⟨59,l1.flatMap aQ⟩]:=by
   intro hr
   unfold aCs at hr
   refine hK2<|zz ?_
   obtain rfl:=sj hr
   exact oH Tryz.results85 [0]
  obtain⟨jT,hL3,hr⟩:=aA hr
  refine zz ?_
  refine aYZ<|aY4 (fun m s h=> ∃x40,gW N p height l1 m x40=some jT∧Ghost 0 s h (aD 57 [(3,(eI .i64 height)),(4,(.ptr 0 0)),(10,(.sl 1 0 l1.length 37 true)),(38,(.sl 1 0 l1.length 37 true)),(39,(eI .i64 (l1.length:Int))),(40,(eI .i64 x40))]) [some ⟨32,aT p⟩,some ⟨59,l1.flatMap aQ⟩]) ⟨0,hL3,(zG [0,1])⟩ ?_
  rintro m3 s h ⟨x40,hr3,hg⟩
  refine aY3 hg ?_
  clear hg hL3
  rw[gW]at hr3
  refine zz ?_
  refine aYY ?_
  refine zk hr3 ?_ ?_<;>intro h1 hr3
  ·refine zz ?_
   refine aYY<|aYZ ?_
   obtain⟨x42,h_2,hr3⟩:=aA hr3
   refine zz ?_
   refine xw (v:=(aR x42)) (aS rfl (bR (C:=aQ) (K:=37) (fun _=>rfl) rfl h_2 (bJ (ds:=(aK (eI .u8) x42.Out.Tx [(eI .u32 x42.Out.Index),(eI .i64 x42.Output.Value),(.row none 1 (x42.Output.Script.map (eI .u8))),(eI .i64 x42.Height),(eB x42.Coinbase)])) yA rfl zl rfl))) ?_
   refine zz ?_
   refine aY0 fun K4 hK4 hG4=> ?_
   have J4: ∀x54,pW N p height l1 x40 (gW N p height l1 m3) x54=some jT→K4 (aD 57 [(3,(eI .i64 height)),(4,(.ptr 0 0)),(10,(.sl 1 0 l1.length 37 true)),(38,(.sl 1 0 l1.length 37 true)),(39,(eI .i64 (l1.length:Int))),(40,(eI .i64 x40)),(54,(eB x54))]) [some ⟨32,aT p⟩,some ⟨59,l1.flatMap aQ⟩]:=by
    intro x54 hr3
    unfold pW at hr3
    refine hK4 ?_
    refine zk hr3 ?_ ?_<;>intro h3 hr3
    ·refine zz ?_
     obtain rfl:=sj hr3
     obtain rfl:=sj hr
     exact kS Tryz.results85 aY aY (zW 59 [2])
    refine zz ?_
    exact⟨aYX.wrap (x40+1),hr3,(zG [0,1])⟩
   rcases aYV x42.Coinbase with h4|h4
   ·replace hr3:=bY hr3 h4
    refine xr<|zz ?_
    exact hG4 (zG [0,1]) (J4 (decide ((aYX.wrap (height-x42.Height))<p.Maturity)) hr3)
   replace hr3:=bX hr3 h4
   refine xr<|zz ?_
   exact hG4 (zG [0,1]) (J4 false hr3)
  refine zz ?_
  obtain rfl:=sj hr3
  refine zz ?_
  exact hG2 (zG [1]) (J2 hr)
 obtain⟨res5,hL5,hr⟩:=aA hr
 refine zz ?_
 refine aYZ<|aY4 (fun m s h=> ∃x19 b5,mU N p l t height m x19 b5=some res5∧Ghost 0 s h (aD 57 [(1,(.row none 37 (l.map aR))),(3,(eI .i64 height)),(4,(.ptr 0 0)),(10,(.sl 1 0 b5.length 37 true)),(17,(.row none 35 (t.Inputs.map dH))),(18,(eI .i64 (t.Inputs.length:Int))),(19,(eI .i64 x19))]) [some ⟨32,aT p⟩,some ⟨59,b5.flatMap aQ⟩]) ⟨0,[],hL5,(zW 59 [0,2])⟩ ?_
 rintro m5 s h ⟨x19,b5,hr5,hg⟩
 refine aY3 hg ?_
 clear hg hL5
 rw[mU]at hr5
 refine zz ?_
 refine aYY ?_
 refine zk hr5 ?_ ?_<;>intro h5 hr5
 ·refine zz ?_
  refine aYY<|aYZ ?_
  obtain⟨cW,h_6,hr5⟩:=aA hr5
  obtain⟨x26,h_7,hr5⟩:=aA hr5
  refine zz ?_
  refine xp (aAG h_7) ?_
  refine zz ?_
  refine aYY<|zz ?_
  refine zk hr5 ?_ ?_<;>intro h8 hr5
  ·refine zz ?_
   obtain rfl:=sj hr5
   obtain rfl:=sj hr
   exact kS Tryz.results85 aY aY (zW 59 [3])
  obtain⟨g6,h_9,hr5⟩:=aA hr5
  obtain⟨fB,h_10,hr5⟩:=aA hr5
  obtain⟨x36,h_11,hr5⟩:=aA hr5
  refine zz ?_
  refine xp (aDB h_10)<|dQ aQ 37 [fB] ?_
  refine zz ?_
  exact⟨aYX.wrap (x19+1),x36,hr5,(zG [0,4])⟩
 refine zz ?_
 obtain rfl:=sj hr5
 refine zz ?_
 exact hG1 (zG [0,1]) (J1 b5 hr)
theorem aM9 {N t l r} (hr:aC2 N t l=some r):
  Vm.Fn Tryz.prog 126 [] [(cK t),(.row none 37 (l.map aR))] (.tup [(eI .i64 r.1),(eI .i64 r.2)]) []:=by
 refine zf Tryz.func126 Tryz.ntmps126 ?_
 unfold aC2 at hr
 refine zz ?_
 refine aYY ?_
 obtain⟨bZ,h_1,hr⟩:=aA hr
 refine zz ?_
 refine xp (aFA h_1) ?_
 refine zz ?_
 refine zk hr ?_ ?_<;>intro h2 hr
 ·refine zz ?_
  obtain rfl:=sj hr
  exact oH Tryz.results126 []
 refine zz ?_
 refine aYY<|zz ?_
 refine zk hr ?_ ?_<;>intro h3 hr
 ·refine zz ?_
  obtain rfl:=sj hr
  exact oH Tryz.results126 []
 refine zz ?_
 refine aY0 fun K1 hK1 hG1=> ?_
 have J1:aB2 N t l=some r→K1 (aD 81 [(1,(.row none 37 (l.map aR))),(2,(.ptr 0 0))]) [some ⟨117,aZ t⟩]:=by
  intro hr
  unfold aB2 at hr
  refine hK1<|zz ?_
  refine aY0 fun K2 hK2 hG2=> ?_
  have J2: ∀sum,aB3 N t sum=some r→K2 (aD 81 [(2,(.ptr 0 0)),(8,(eI .i64 sum))]) [some ⟨117,aZ t⟩]:=by
   intro sum hr
   unfold aB3 at hr
   refine hK2<|aYY ?_
   refine zz ?_
   refine zk hr ?_ ?_<;>intro h4 hr
   ·refine zz ?_
    obtain rfl:=sj hr
    exact oH Tryz.results126 []
   refine zz ?_
   refine aY0 fun K3 hK3 hG3=> ?_
   have J3: ∀eO,aA5 N eO=some r→K3 (aD 81 [(8,(eI .i64 eO))]) []:=by
    intro eO hr
    unfold aA5 at hr
    refine hK3<|aYY ?_
    refine zz ?_
    refine zk hr ?_ ?_<;>intro h5 hr
    ·refine zz ?_
     obtain rfl:=sj hr
     exact oH Tryz.results126 []
    refine zz ?_
    obtain rfl:=sj hr
    exact oH Tryz.results126 []
   obtain⟨res4,hL4,hr⟩:=aA hr
   refine zz ?_
   refine aYZ<|aY4 (fun m s h=> ∃sum_2 x69,qS N t m sum_2 x69=some res4∧Ghost 0 s h (aD 81 [(8,(eI .i64 sum_2)),(67,(.row none 2 (t.Outputs.map eR))),(68,(eI .i64 (t.Outputs.length:Int))),(69,(eI .i64 x69))]) []) ⟨sum,0,hL4,(zG [])⟩ ?_
   rintro m4 s h ⟨sum_2,x69,hr4,hg⟩
   refine aY3 hg ?_
   clear hg hL4
   rw[qS]at hr4
   refine zz ?_
   refine aYY ?_
   refine zk hr4 ?_ ?_<;>intro h6 hr4
   ·refine zz ?_
    refine aYY<|aYZ ?_
    obtain⟨x71,h_7,hr4⟩:=aA hr4
    refine zz ?_
    exact⟨aYX.wrap (sum_2-x71.Value),aYX.wrap (x69+1),hr4,(zG [])⟩
   refine zz ?_
   obtain rfl:=sj hr4
   refine zz ?_
   exact hG3 (zG []) (J3 sum_2 hr)
  obtain⟨res5,hL5,hr⟩:=aA hr
  refine zz ?_
  refine aYZ<|aY4 (fun m s h=> ∃yQ x44,jW N t l m yQ x44=some res5∧Ghost 0 s h (aD 81 [(2,(.ptr 0 0)),(8,(eI .i64 yQ)),(42,(.row none 37 (l.map aR))),(43,(eI .i64 (l.length:Int))),(44,(eI .i64 x44))]) [some ⟨117,aZ t⟩]) ⟨0,0,hL5,(zG [0])⟩ ?_
  rintro m5 s h ⟨yQ,x44,hr5,hg⟩
  refine aY3 hg ?_
  clear hg hL5
  rw[jW]at hr5
  refine zz ?_
  refine aYY ?_
  refine zk hr5 ?_ ?_<;>intro h8 hr5
  ·refine zz ?_
   refine aYY<|aYZ ?_
   obtain⟨x46,h_9,hr5⟩:=aA hr5
   refine zz ?_
   refine aYY ?_
   refine aY0 fun K6 hK6 hG6=> ?_
   have J6: ∀x57,tX N t l yQ x44 x46 (jW N t l m5) x57=some res5→K6 (aD 81 [(2,(.ptr 0 0)),(8,(eI .i64 yQ)),(10,(.ptr 1 0)),(42,(.row none 37 (l.map aR))),(43,(eI .i64 (l.length:Int))),(44,(eI .i64 x44)),(57,(eB x57))]) [some ⟨117,aZ t⟩,some ⟨59,aQ x46⟩]:=by
    intro x57 hr5
    unfold tX at hr5
    refine hK6 ?_
    refine zk hr5 ?_ ?_<;>intro h10 hr5
    ·refine zz ?_
     obtain rfl:=sj hr5
     obtain rfl:=sj hr
     exact oH Tryz.results126 []
    refine zz ?_
    exact⟨aYX.wrap (yQ+x46.Output.Value),aYX.wrap (x44+1),hr5,(zG [0])⟩
   rcases aYV (decide (x46.Output.Value<0))with h11|h11
   ·replace hr5:=bY hr5 h11
    refine xr<|zz ?_
    exact hG6 (zG [0,1]) (J6 true hr5)
   replace hr5:=bX hr5 h11
   refine xr<|zz ?_
   exact hG6 (zG [0,1]) (J6 (decide (2100000000000000<x46.Output.Value)) hr5)
  refine zz ?_
  obtain rfl:=sj hr5
  refine zz ?_
  exact hG2 (zG [0]) (J2 yQ hr)
 obtain⟨res7,hL7,hr⟩:=aA hr
 refine zz ?_
 refine aYZ<|aY4 (fun m s h=> ∃x26,qG N t l m x26=some res7∧Ghost 0 s h (aD 81 [(1,(.row none 37 (l.map aR))),(2,(.ptr 0 0)),(25,(eI .i64 (l.length:Int))),(26,(eI .i64 x26))]) [some ⟨117,aZ t⟩]) ⟨0,hL7,(zG [0])⟩ ?_
 rintro m7 s h ⟨x26,hr7,hg⟩
 refine aY3 hg ?_
 clear hg hL7
 rw[qG]at hr7
 refine zz ?_
 refine aYY ?_
 refine zk hr7 ?_ ?_<;>intro h12 hr7
 ·refine zz ?_
  refine aYY<|aYZ ?_
  refine zz ?_
  refine aYY ?_
  obtain⟨cO,h_13,hr7⟩:=aA hr7
  obtain⟨x37,h_14,hr7⟩:=aA hr7
  refine aY9 mixed [] [] [[0,1,2,3,4,5,6,7,8,9,10,11]]<|zz ?_
  refine xw (v:=(eB (!(sX cO.Out.Tx x37.Prev.Tx ((cO.Out.Index == x37.Prev.Index)&&true))))) (jF rfl rfl (aN1 (d:=9) rB rfl aE2 zl aEX rfl rfl rfl rfl rfl)) ?_
  refine zz ?_
  refine zk hr7 ?_ ?_<;>intro h15 hr7
  ·refine zz ?_
   obtain rfl:=sj hr7
   obtain rfl:=sj hr
   exact oH Tryz.results126 []
  refine zz ?_
  exact⟨aYX.wrap (x26+1),hr7,(zG [0])⟩
 refine zz ?_
 obtain rfl:=sj hr7
 refine zz ?_
 exact hG1 (zG [0]) (J1 hr)
theorem aKd {N tag b r} (hr:yE N tag b=some r):
  Vm.Fn Tryz.prog 183 [] [(eS tag),(.row none 1 (b.map (eI .u8)))] (.agg (r.map (eI .u8))) []:=by
 refine zf Tryz.func183 Tryz.ntmps183 ?_
 unfold yE at hr
 obtain⟨x7,h_1,hr⟩:=aA hr
 obtain⟨x8,h_2,hr⟩:=aA hr
 obtain⟨q,h_3,hr⟩:=aA hr
 refine zz ?_
 refine aXZ (i:=1) (h':=[some ⟨24,(aYW 32 0).map (eI .u8)⟩,some ⟨5,x7.map (eI .u8)⟩]) rfl ti9 z4 sP h_1 rfl rfl (xOf ?_)
 refine gV (lT h_2) [] [1] ?_
 refine zz ?_
 refine aYY ?_
 obtain⟨bQ,h_4,hr⟩:=aA hr
 obtain⟨cH,h_5,hr⟩:=aA hr
 obtain⟨bZ,h_6,hr⟩:=aA hr
 obtain⟨x15,h_7,hr⟩:=aA hr
 obtain⟨q_1,h_9,hr⟩:=aA hr
 refine aY9 mixed [] [73] [[0,1,2,3,4,5,6,7]]<|zz ?_
 refine zgL (lT h_7) [] [6] ?_
 refine zz ?_
 obtain rfl:=sj hr
 exact gL Tryz.results183 aY (zG [])
theorem aIw {N t vi o r} (hr:vG N t vi o=some r):
  Vm.Fn Tryz.prog 158 [] [(cK t),(eI .i64 vi),(eR o)] (.tup [(.agg (r.1.map (eI .u8))),(eI .i64 r.2)]) []:=by
 refine zf Tryz.func158 Tryz.ntmps158 ?_
 unfold vG at hr
 refine zz ?_
 refine aYY ?_
 refine aY0 fun K1 hK1 hG1=> ?_
 have J1: ∀x29,kE N t vi o x29=some r→K1 (aD 98 [(1,(eI .i64 vi)),(3,(.ptr 0 0)),(5,(.ptr 1 0)),(6,(.ptr 2 0)),(29,(eB x29))]) [some ⟨117,aZ t⟩,some ⟨57,dM o⟩,some ⟨24,(aYW 32 0).map (eI .u8)⟩]:=by
  intro x29 hr
  unfold kE at hr
  refine hK1 ?_
  refine zk hr ?_ ?_<;>intro h1 hr
  ·refine zz ?_
   refine xw (v:=(.agg ([0,0,0,0,0,0,0,0,0,0,0,0,0,0,0,0,0,0,0,0,0,0,0,0,0,0,0,0,0,0,0,0].map (eI .u8)))) (bV rfl (oT lD sP rfl)) ?_
   refine zz ?_
   obtain rfl:=sj hr
   exact kS Tryz.results158 aY aY (gF [])
  refine zz ?_
  refine aYY ?_
  refine aY0 fun K2 hK2 hG2=> ?_
  have J2: ∀x39,nI N t vi o x39=some r→K2 (aD 98 [(1,(eI .i64 vi)),(3,(.ptr 0 0)),(5,(.ptr 1 0)),(6,(.ptr 2 0)),(39,(eB x39))]) [some ⟨117,aZ t⟩,some ⟨57,dM o⟩,some ⟨24,(aYW 32 0).map (eI .u8)⟩]:=by
   intro x39 hr
   unfold nI at hr
   refine hK2 ?_
   refine zk hr ?_ ?_<;>intro h2 hr
   ·refine zz ?_
    refine xw (v:=(.agg ([0,0,0,0,0,0,0,0,0,0,0,0,0,0,0,0,0,0,0,0,0,0,0,0,0,0,0,0,0,0,0,0].map (eI .u8)))) (bV rfl (oT lD sP rfl)) ?_
    refine zz ?_
    obtain rfl:=sj hr
    exact kS Tryz.results158 aY aY (gF [])
   refine zz ?_
   refine aY0 fun K3 hK3 hG3=> ?_
   have J3: ∀l3 l4,qD N t vi o l3 l4=some r→K3 (aD 98 [(1,(eI .i64 vi)),(3,(.ptr 0 0)),(5,(.ptr 1 0)),(6,(.ptr 2 0)),(8,(.sl 3 0 l3.length 1 false)),(9,(.sl 4 0 l4.length 1 false)),(10,(.row (some true) 1 []))]) [some ⟨117,aZ t⟩,some ⟨57,dM o⟩,some ⟨24,(aYW 32 0).map (eI .u8)⟩,some ⟨5,l3.map (eI .u8)⟩,some ⟨5,l4.map (eI .u8)⟩]:=by
    intro l3 l4 hr
    unfold qD at hr
    refine hK3 ?_
    refine aY0 fun K4 hK4 hG4=> ?_
    have J4: ∀l5,qW N t vi o l3 l4 l5=some r→K4 (aD 98 [(1,(eI .i64 vi)),(3,(.ptr 0 0)),(5,(.ptr 1 0)),(6,(.ptr 2 0)),(8,(.sl 3 0 l3.length 1 false)),(9,(.sl 4 0 l4.length 1 false)),(10,(.sl 5 0 l5.length 1 false))]) [some ⟨117,aZ t⟩,some ⟨57,dM o⟩,some ⟨24,(aYW 32 0).map (eI .u8)⟩,some ⟨5,l3.map (eI .u8)⟩,some ⟨5,l4.map (eI .u8)⟩,some ⟨5,l5.map (eI .u8)⟩]:=by
     intro l5 hr
     unfold qW at hr
     refine hK4 ?_
     obtain⟨x72,h_3,hr⟩:=aA hr
     refine zz ?_
     refine zc (eU h_3) [] ?_
     obtain⟨x75,h_4,hr⟩:=aA hr
     obtain⟨x76,h_5,hr⟩:=aA hr
     refine zz ?_
     refine gV (lT h_4) [] [3] ?_
     refine gV (jM h_5) [] [6] ?_
     obtain⟨x79,h_6,hr⟩:=aA hr
     obtain⟨x80,h_7,hr⟩:=aA hr
     refine zz ?_
     refine gV (lT h_6) [] [4] ?_
     refine gV (jM h_7) [] [7] ?_
     obtain⟨x83,h_8,hr⟩:=aA hr
     obtain⟨x84,h_9,hr⟩:=aA hr
     refine zz ?_
     refine gV (lT h_8) [] [5] ?_
     refine gV (jM h_9) [] [8] ?_
     obtain⟨x88,h_10,hr⟩:=aA hr
     refine zz ?_
     refine gV (eU h_10) [] [9] ?_
     obtain⟨x92,h_11,hr⟩:=aA hr
     refine zz ?_
     refine gV (eU h_11) [] [10] ?_
     obtain⟨x95,h_12,hr⟩:=aA hr
     obtain⟨x96,h_13,hr⟩:=aA hr
     obtain⟨x97,h_14,hr⟩:=aA hr
     obtain⟨q,h_15,hr⟩:=aA hr
     refine zz ?_
     refine zc (aD2 h_12) [] ?_
     refine zz ?_
     refine gV (aKd h_14) [] [13] ?_
     refine zz ?_
     obtain rfl:=sj hr
     exact kS Tryz.results158 aY aY (gF [])
    obtain⟨res5,hL5,hr⟩:=aA hr
    refine zz ?_
    refine aYZ<|aY4 (fun m s h=> ∃x61 jY,kJ N t vi o l3 l4 m x61 jY=some res5∧Ghost 0 s h (aD 98 [(1,(eI .i64 vi)),(3,(.ptr 0 0)),(5,(.ptr 1 0)),(6,(.ptr 2 0)),(8,(.sl 3 0 l3.length 1 false)),(9,(.sl 4 0 l4.length 1 false)),(10,(.sl 5 0 jY.length 1 false)),(59,(.row none 2 (t.Outputs.map eR))),(60,(eI .i64 (t.Outputs.length:Int))),(61,(eI .i64 x61))]) [some ⟨117,aZ t⟩,some ⟨57,dM o⟩,some ⟨24,(aYW 32 0).map (eI .u8)⟩,some ⟨5,l3.map (eI .u8)⟩,some ⟨5,l4.map (eI .u8)⟩,some ⟨5,jY.map (eI .u8)⟩]) ⟨0,[],hL5,(zW 5 [0,1,2,3,4,5])⟩ ?_
    rintro m5 s h ⟨x61,jY,hr5,hg⟩
    refine aY3 hg ?_
    clear hg hL5
    rw[kJ]at hr5
    refine zz ?_
    refine aYY ?_
    refine zk hr5 ?_ ?_<;>intro h16 hr5
    ·refine zz ?_
     refine aYY<|aYZ ?_
     obtain⟨x63,h_17,hr5⟩:=aA hr5
     obtain⟨x67,h_18,hr5⟩:=aA hr5
     obtain⟨x68,h_19,hr5⟩:=aA hr5
     refine zz ?_
     refine zc (aD2 h_18) [] ?_
     refine zz ?_
     exact⟨aYX.wrap (x61+1),x68,hr5,(zG [0,1,2,3,4,8])⟩
    refine zz ?_
    obtain rfl:=sj hr5
    refine zz ?_
    exact hG4 (zG [0,1,2,3,4,5]) (J4 jY hr)
   obtain⟨res6,hL6,hr⟩:=aA hr
   refine zz ?_
   refine aYZ<|aY4 (fun m s h=> ∃x44 eY fR,kG N t vi o m x44 eY fR=some res6∧Ghost 0 s h (aD 98 [(1,(eI .i64 vi)),(3,(.ptr 0 0)),(5,(.ptr 1 0)),(6,(.ptr 2 0)),(8,(.sl 3 0 eY.length 1 false)),(9,(.sl 4 0 fR.length 1 false)),(10,(.row (some true) 1 [])),(42,(.row none 35 (t.Inputs.map dH))),(43,(eI .i64 (t.Inputs.length:Int))),(44,(eI .i64 x44))]) [some ⟨117,aZ t⟩,some ⟨57,dM o⟩,some ⟨24,(aYW 32 0).map (eI .u8)⟩,some ⟨5,eY.map (eI .u8)⟩,some ⟨5,fR.map (eI .u8)⟩]) ⟨0,[],[],hL6,(aY6 (aZf (fr':=[(1,(eI .i64 vi)),(3,(.ptr 0 0)),(5,(.ptr 1 0)),(6,(.ptr 2 0)),(8,(.sl 3 0 0 1 false)),(9,(.row (some true) 1 [])),(10,(.row (some true) 1 [])),(42,(.row none 35 (t.Inputs.map dH))),(43,(eI .i64 (t.Inputs.length:Int))),(44,(eI .i64 0))]) (h1:=[some ⟨117,aZ t⟩,some ⟨57,dM o⟩,some ⟨24,(aYW 32 0).map (eI .u8)⟩]) 5 (FLe.same rfl (FLe.same rfl (FLe.same rfl (FLe.same rfl (FLe.le rfl (V.le_virt rfl) (FLe.same rfl (FLe.same rfl (FLe.same rfl (FLe.same rfl (FLe.same rfl FLe.nil)))))))))) (HLv.live (V.les_refl _ _) rfl (HLv.live (V.les_refl _ _) rfl (HLv.live (V.les_refl _ _) (all_map (fun _=>rfl) _) HLv.nil)))) (zW 5 [0,1,2,3,4]))⟩ ?_
   rintro m6 s h ⟨x44,eY,fR,hr6,hg⟩
   refine aY3 hg ?_
   clear hg hL6
   rw[kG]at hr6
   refine zz ?_
   refine aYY ?_
   refine zk hr6 ?_ ?_<;>intro h20 hr6
   ·refine zz ?_
    refine aYY<|aYZ ?_
    obtain⟨x46,h_21,hr6⟩:=aA hr6
    obtain⟨x51,h_22,hr6⟩:=aA hr6
    obtain⟨x52,h_23,hr6⟩:=aA hr6
    refine zz ?_
    refine zc (aFy h_22) [] ?_
    obtain⟨x56,h_24,hr6⟩:=aA hr6
    refine zz ?_
    refine gV (eU h_24) [] [4] ?_
    refine zz ?_
    exact⟨aYX.wrap (x44+1),x52,x56,hr6,(zG [0,1,2,7,8])⟩
   refine zz ?_
   obtain rfl:=sj hr6
   refine zz ?_
   exact hG3 (zG [0,1,2,3,4]) (J3 eY fR hr)
  rcases aYV (decide (vi<0))with h25|h25
  ·replace hr:=bY hr h25
   refine xr<|zz ?_
   exact hG2 (zG [0,1,2]) (J2 true hr)
  replace hr:=bX hr h25
  refine xr<|zz ?_
  exact hG2 (zG [0,1,2]) (J2 (decide ((t.Inputs.length:Int)≤vi)) hr)
 obtain⟨x17,h_26,hr⟩:=aA hr
 rcases aYV (!x17)with h27|h27
 ·replace hr:=bY hr h27
  refine xr<|zz ?_
  refine xp (lZ h_26) ?_
  refine zz ?_
  refine xX rfl<|xX rfl<|xX rfl<|xX rfl ?_
  refine zz ?_
  exact hG1 (zG [0,1,2]) (J1 true hr)
 replace hr:=bX hr h27
 rcases aYV (decide (o.Value<0))with h28|h28
 ·replace hr:=bY hr h28
  refine xr<|zz ?_
  refine xp (lZ h_26) ?_
  refine zz ?_
  exact hG1 (zG [0,1,2]) (J1 true hr)
 replace hr:=bX hr h28
 refine xr<|zz ?_
 refine xp (lZ h_26) ?_
 refine zz ?_
 exact hG1 (zG [0,1,2]) (J1 (decide (520<(o.Script.length:Int))) hr)
theorem aKy {N o r} (hr:aE5 N o=some r):
  Vm.Fn Tryz.prog 249 [] [(sI o)] (eI .i64 r) []:=by
 refine zf Tryz.func249 Tryz.ntmps249 ?_
 unfold aE5 at hr
 refine zz ?_
 refine aYY<|aYZ ?_
 refine aY0 fun K1 hK1 hG1=> ?_
 have J1: ∀x3,zU N o x3=some r→K1 (aD 66 [(1,(.ptr 0 0)),(3,(eB x3))]) [some ⟨251,dP o⟩]:=by
  intro x3 hr
  unfold zU at hr
  refine hK1 ?_
  refine zk hr ?_ ?_<;>intro h1 hr
  ·refine zz ?_
   obtain rfl:=sj hr
   exact aX Tryz.results249 []
  refine aY0 fun K2 hK2 hG2=> ?_
  have J2: ∀cH,pQ N o cH=some r→K2 (aD 66 [(1,(.ptr 0 0)),(12,(eB cH))]) [some ⟨251,dP o⟩]:=by
   intro cH hr
   unfold pQ at hr
   refine hK2 ?_
   refine zk hr ?_ ?_<;>intro h2 hr
   ·refine zz ?_
    obtain rfl:=sj hr
    exact aX Tryz.results249 []
   refine zz ?_
   refine zk hr ?_ ?_<;>intro h3 hr
   ·refine zz ?_
    obtain rfl:=sj hr
    exact aX Tryz.results249 []
   refine aY0 fun K3 hK3 hG3=> ?_
   have J3: ∀x40,mI N x40=some r→K3 (aD 66 [(40,(eB x40))]) []:=by
    intro x40 hr
    unfold mI at hr
    refine hK3 ?_
    refine zk hr ?_ ?_<;>intro h4 hr
    ·refine zz ?_
     obtain rfl:=sj hr
     exact aX Tryz.results249 []
    refine zz ?_
    obtain rfl:=sj hr
    exact aX Tryz.results249 []
   rcases aYV (o.Code == 11)with h5|h5
   ·replace hr:=bY hr h5
    rcases aYV (decide (o.N<1))with h6|h6
    ·replace hr:=bY hr h6
     refine xr<|zz ?_
     refine xX rfl<|xX rfl<|xX rfl ?_
     refine zz ?_
     refine xX rfl<|xX rfl<|xX rfl<|xX rfl<|xX rfl ?_
     refine zz ?_
     exact hG3 (zG []) (J3 true hr)
    replace hr:=bX hr h6
    rcases aYV (decide (15<o.N))with h7|h7
    ·replace hr:=bY hr h7
     refine xr<|zz ?_
     refine xX rfl<|xX rfl<|xX rfl<|xX rfl<|xX rfl ?_
     refine zz ?_
     exact hG3 (zG []) (J3 true hr)
    replace hr:=bX hr h7
    rcases aYV (decide (o.M<1))with h8|h8
    ·replace hr:=bY hr h8
     refine xr<|zz ?_
     exact hG3 (zG []) (J3 true hr)
    replace hr:=bX hr h8
    refine xr<|zz ?_
    exact hG3 (zG []) (J3 (decide (o.N<o.M)) hr)
   replace hr:=bX hr h5
   refine xr<|zz ?_
   exact hG3 (zG []) (J3 false hr)
  refine aY0 fun K4 hK4 hG4=> ?_
  have J4: ∀aGv,yP N o aGv=some r→K4 (aD 66 [(1,(.ptr 0 0)),(12,(eB aGv))]) [some ⟨251,dP o⟩]:=by
   intro aGv hr
   unfold yP at hr
   refine hK4 ?_
   refine zk hr ?_ ?_<;>intro h9 hr
   ·refine zz ?_
    exact hG2 (zG [0]) (J2 aGv hr)
   rcases aYV (o.M != 0)with h10|h10
   ·replace hr:=bY hr h10
    refine xr<|zz ?_
    refine xSg (v:=(.ptr 0 0)) rfl rfl rfl (aOn rfl fP) ?_
    refine xSg (v:=(eI .i64 o.Code)) rfl rfl rfl (aS rfl (ldP rfl (sV ti3 rfl rfl))) ?_
    refine xSg (v:=(eB (o.Code != 11))) rfl rfl rfl (jF rfl rfl (aPl ..)) ?_
    refine zz ?_
    exact hG2 (zG [0]) (J2 (o.Code != 11) hr)
   replace hr:=bX hr h10
   rcases aYV (o.N != 0)with h11|h11
   ·replace hr:=bY hr h11
    refine xr<|zz ?_
    exact hG2 (zG [0]) (J2 (o.Code != 11) hr)
   replace hr:=bX hr h11
   refine xr<|zz ?_
   exact hG2 (zG [0]) (J2 false hr)
  rcases aYV (decide (0<(o.Data.length:Int)))with h12|h12
  ·replace hr:=bY hr h12
   refine xr<|zz ?_
   exact hG4 (zG [0]) (J4 (o.Code != 1) hr)
  replace hr:=bX hr h12
  refine xr<|zz ?_
  exact hG4 (zG [0]) (J4 false hr)
 rcases aYV (decide (o.Code<1))with h13|h13
 ·replace hr:=bY hr h13
  refine xr<|zz ?_
  exact hG1 (zG [0]) (J1 true hr)
 replace hr:=bX hr h13
 refine xr<|zz ?_
 exact hG1 (zG [0]) (J1 (decide (17<o.Code)) hr)
theorem aOF {N b r} (hr:aG5 N b=some r):
  Vm.Fn Tryz.prog 233 [] [(.row none 1 (b.map (eI .u8)))] (.tup [(.agg [(eI .i64 r.1),(.sl 0 0 r.2.1.length 1 false),(eI .i64 r.2.2.1),(eI .i64 r.2.2.2.1)]),(.row none 1 (r.2.2.2.2.1.map (eI .u8))),(eI .i64 r.2.2.2.2.2)]) [some ⟨5,r.2.1.map (eI .u8)⟩]:=by
 refine zf Tryz.func233 Tryz.ntmps233 ?_
 unfold aG5 at hr
 obtain⟨x8,h_1,hr⟩:=aA hr
 refine zz ?_
 refine aYY ?_
 refine aY0 fun K1 hK1 hG1=> ?_
 have J1: ∀x19,aBW N b x8 x19=some r→K1 (aD 77 [(0,(.row none 1 (b.map (eI .u8)))),(2,(.ptr 0 0)),(5,(.ptr 1 0)),(19,(eB x19))]) [some ⟨251,[(eI .i64 0),(.row (some true) 1 []),(eI .i64 0),(eI .i64 0)]⟩,some ⟨251,[(eI .i64 (aYX.wrap x8)),(.row (some true) 1 []),(eI .i64 0),(eI .i64 0)]⟩]:=by
  intro x19 hr
  unfold aBW at hr
  refine hK1 ?_
  refine zk hr ?_ ?_<;>intro h2 hr
  ·refine zz ?_
   obtain rfl:=sj hr
   exact zr3 Tryz.results233 aY aY aY (zW 5 [2])
  obtain⟨bW,h_3,hr⟩:=aA hr
  refine zz ?_
  refine aY0 fun K2 hK2 hG2=> ?_
  have J2: ∀b_1 c1 uJ l2,xB N x8 b_1 c1 uJ l2=some r→K2 (aD 77 [(0,(.row none 1 (b_1.map (eI .u8)))),(2,(.ptr 0 0)),(5,(.ptr 1 0))]) [some ⟨251,[(eI .i64 0),(.row (some true) 1 []),(eI .i64 0),(eI .i64 0)]⟩,some ⟨251,[(eI .i64 (aYX.wrap x8)),(.sl 2 0 l2.length 1 false),(eI .i64 c1),(eI .i64 uJ)]⟩,some ⟨5,l2.map (eI .u8)⟩]:=by
   intro b_1 c1 uJ l2 hr
   unfold xB at hr
   refine hK2<|aYY ?_
   obtain⟨x76,h_4,hr⟩:=aA hr
   refine aY9 mixed [] [249] [[0,1,2,3,4,5,6]]<|zz ?_
   refine xG (v:=(eI .i64 x76)) (h':=[some ⟨251,[(eI .i64 0),(.row (some true) 1 []),(eI .i64 0),(eI .i64 0)]⟩,some ⟨251,[(eI .i64 (aYX.wrap x8)),(.sl 2 0 l2.length 1 false),(eI .i64 c1),(eI .i64 uJ)]⟩,some ⟨5,l2.map (eI .u8)⟩]) rfl (Vm.Fn.lendR (aKy h_4) [] [2] (by decide) rfl (by decide) Lend.nil (Brw.row (aVx (aGa rfl (aGa (aRB (d:=3) rfl rfl (fun _=>rfl)) (aGa rfl (aGa rfl aVr))))) Brw.nil) rfl rfB.nil rfl zH) ?_
   refine zz ?_
   obtain rfl:=sj hr
   exact zr3 Tryz.results233 aY aY aY (zG [2])
  refine zz ?_
  refine aYZ ?_
  refine zz ?_
  refine zk hr ?_ ?_<;>intro h6 hr
  ·refine aYY ?_
   refine aY0 fun K3 hK3 hG3=> ?_
   have J3: ∀x39,aBe N x8 bW x39=some r→K3 (aD 77 [(0,(.row none 1 (bW.map (eI .u8)))),(2,(.ptr 0 0)),(5,(.ptr 1 0)),(39,(eB x39))]) [some ⟨251,[(eI .i64 0),(.row (some true) 1 []),(eI .i64 0),(eI .i64 0)]⟩,some ⟨251,[(eI .i64 (aYX.wrap x8)),(.row (some true) 1 []),(eI .i64 0),(eI .i64 0)]⟩]:=by
    intro x39 hr
    unfold aBe at hr
    refine hK3 ?_
    refine zk hr ?_ ?_<;>intro h7 hr
    ·refine zz ?_
     obtain rfl:=sj hr
     exact zr3 Tryz.results233 aY aY aY (zW 5 [2])
    obtain⟨x42,h_8,hr⟩:=aA hr
    obtain⟨x48,h_9,hr⟩:=aA hr
    obtain⟨x50,h_10,hr⟩:=aA hr
    obtain⟨x53,h_12,hr⟩:=aA hr
    refine zz ?_
    refine aZg (cT []) (cT [156]) mixed<|aY2 (m:=3) [0,1,2,3,4,5,6,8] ?_
    refine zz ?_
    refine zgL (vH h_10) [] [2] ?_
    refine zz ?_
    refine aZe (m:=1) (L:=lst [0,1,2,3,4,5,6,7,8,9] 11) (s1:=aD 77 [(0,(.row none 1 (bW.map (eI .u8)))),(2,(.ptr 0 0)),(5,(.ptr 1 0)),(53,(.row none 1 (x53.map (eI .u8))))]) (h1:=[some ⟨251,[(eI .i64 0),(.row (some true) 1 []),(eI .i64 0),(eI .i64 0)]⟩,some ⟨251,[(eI .i64 (aYX.wrap x8)),(.sl 2 0 x50.length 1 false),(eI .i64 0),(eI .i64 0)]⟩,some ⟨5,x50.map (eI .u8)⟩]) ?_ (fun J=> ?_)
    ·refine aY2 (m:=0) [10]<|zz ?_
     refine aZb (by decide +kernel) ?_
     refine zz ?_
     exact hG2 (zG [0,1,2]) (J2 x53 0 0 x50 hr)
    refine aY8 (n:=2) [7,9] ⟨?_, ?_,trivial⟩
    ·refine zz ?_
     refine aY2 (m:=1) [9]<|zz ?_
     refine aY5 J ?_
     exact(zG [0,1,3])
    refine zz ?_
    refine aY2 (m:=1) [7]<|zz ?_
    refine aY5 J ?_
    exact(zG [0,1,3])
   rcases aYV ((bW.length:Int) == 0)with h13|h13
   ·replace hr:=bY hr h13
    refine xr<|zz ?_
    exact hG3 (zG [0,1]) (J3 true hr)
   replace hr:=bX hr h13
   obtain⟨x35,h_14,hr⟩:=aA hr
   refine xr<|zz ?_
   exact hG3 (zG [0,1]) (J3 (decide ((aYX.wrap ((bW.length:Int)-1))<(aYX.wrap x35))) hr)
  refine zz ?_
  refine zk hr ?_ ?_<;>intro h15 hr
  ·refine aYY<|zz ?_
   refine zk hr ?_ ?_<;>intro h16 hr
   ·refine zz ?_
    obtain rfl:=sj hr
    exact zr3 Tryz.results233 aY aY aY (zW 5 [2])
   obtain⟨x62,h_17,hr⟩:=aA hr
   obtain⟨x66,h_18,hr⟩:=aA hr
   obtain⟨x70,h_19,hr⟩:=aA hr
   refine zz ?_
   refine aZg (cT []) (cT []) mixed<|aY2 (m:=7) [0,1,2,3,4,5,8,10] ?_
   refine zz ?_
   refine aZe (m:=1) (L:=lst [0,1,2,3,4,5,6,7,8,9,10,11,12,13] 15) (s1:=aD 77 [(0,(.row none 1 (bW.map (eI .u8)))),(2,(.ptr 0 0)),(5,(.ptr 1 0)),(70,(.row none 1 (x70.map (eI .u8))))]) (h1:=[some ⟨251,[(eI .i64 0),(.row (some true) 1 []),(eI .i64 0),(eI .i64 0)]⟩,some ⟨251,[(eI .i64 (aYX.wrap x8)),(.row (some true) 1 []),(eI .i64 (aYX.wrap x62)),(eI .i64 (aYX.wrap x66))]⟩]) ?_ (fun J=> ?_)
   ·refine aY2 (m:=0) [14]<|zz ?_
    refine aZb (by decide +kernel) ?_
    refine zz ?_
    exact hG2 (aY6 (aZf (fr':=[(0,(.row none 1 (x70.map (eI .u8)))),(2,(.ptr 0 0)),(5,(.ptr 1 0))]) (h1:=[some ⟨251,[(eI .i64 0),(.row (some true) 1 []),(eI .i64 0),(eI .i64 0)]⟩,some ⟨251,[(eI .i64 (aYX.wrap x8)),(.sl 2 0 0 1 false),(eI .i64 (aYX.wrap x62)),(eI .i64 (aYX.wrap x66))]⟩]) 5 (FLe.same rfl (FLe.same rfl (FLe.same rfl FLe.nil))) (HLv.live (V.les_refl _ _) rfl (HLv.live (V.les_cons (V.le_refl _ _) (V.les_cons (V.le_virt rfl) (V.les_cons (V.le_refl _ _) (V.les_cons (V.le_refl _ _) V.les_nil)))) rfl HLv.nil))) (gF [0,1,2])) (J2 x70 (aYX.wrap x62) (aYX.wrap x66) [] hr)
   refine aY8 (n:=6) [6,9,11] ⟨?_, ?_, ?_,trivial⟩
   ·refine zz ?_
    refine aY8 (n:=5) [7,9,11] ⟨?_, ?_, ?_,trivial⟩
    ·refine zz ?_
     refine aY8 (n:=4) [9,11] ⟨?_, ?_,trivial⟩
     ·refine zz ?_
      refine aY2 (m:=1) [11,12,13]<|zz ?_
      refine aY5 J ?_
      exact(zG [0,1])
     refine zz ?_
     refine aY2 (m:=3) [12]<|zz ?_
     refine aY8 (n:=2) [9,13] ⟨?_, ?_,trivial⟩
     ·refine zz ?_
      refine aY2 (m:=1) [13]<|zz ?_
      refine aY5 J ?_
      exact(zG [0,1])
     refine zz ?_
     refine aY2 (m:=1) [9]<|zz ?_
     refine aY5 J ?_
     exact(zG [0,1])
    ·refine zz ?_
     refine aY8 (n:=4) [7,11] ⟨?_, ?_,trivial⟩
     ·refine zz ?_
      refine aY2 (m:=1) [11,12,13]<|zz ?_
      refine aY5 J ?_
      exact(zG [0,1])
     refine zz ?_
     refine aY2 (m:=1) [7,12,13]<|zz ?_
     refine aY5 J ?_
     exact(zG [0,1])
    refine zz ?_
    refine aY2 (m:=3) [7,12]<|zz ?_
    refine aY8 (n:=2) [9,13] ⟨?_, ?_,trivial⟩
    ·refine zz ?_
     refine aY2 (m:=1) [13]<|zz ?_
     refine aY5 J ?_
     exact(zG [0,1])
    refine zz ?_
    refine aY2 (m:=1) [9]<|zz ?_
    refine aY5 J ?_
    exact(zG [0,1])
   ·refine zz ?_
    refine aY8 (n:=5) [6,11] ⟨?_, ?_,trivial⟩
    ·refine zz ?_
     refine aY8 (n:=4) [7,11] ⟨?_, ?_,trivial⟩
     ·refine zz ?_
      refine aY2 (m:=1) [11,12,13]<|zz ?_
      refine aY5 J ?_
      exact(zG [0,1])
     refine zz ?_
     refine aY2 (m:=1) [7,12,13]<|zz ?_
     refine aY5 J ?_
     exact(zG [0,1])
    refine zz ?_
    refine aY2 (m:=1) [6,7,12,13]<|zz ?_
    refine aY5 J ?_
    exact(zG [0,1])
   refine zz ?_
   refine aY2 (m:=3) [6,7,12]<|zz ?_
   refine aY8 (n:=2) [9,13] ⟨?_, ?_,trivial⟩
   ·refine zz ?_
    refine aY2 (m:=1) [13]<|zz ?_
    refine aY5 J ?_
    exact(zG [0,1])
   refine zz ?_
   refine aY2 (m:=1) [9]<|zz ?_
   refine aY5 J ?_
   exact(zG [0,1])
  refine zz ?_
  exact hG2 (aY6 (aZf (fr':=[(0,(.row none 1 (bW.map (eI .u8)))),(2,(.ptr 0 0)),(5,(.ptr 1 0))]) (h1:=[some ⟨251,[(eI .i64 0),(.row (some true) 1 []),(eI .i64 0),(eI .i64 0)]⟩,some ⟨251,[(eI .i64 (aYX.wrap x8)),(.sl 2 0 0 1 false),(eI .i64 0),(eI .i64 0)]⟩]) 5 (FLe.same rfl (FLe.same rfl (FLe.same rfl FLe.nil))) (HLv.live (V.les_refl _ _) rfl (HLv.live (V.les_cons (V.le_refl _ _) (V.les_cons (V.le_virt rfl) (V.les_cons (V.le_refl _ _) (V.les_cons (V.le_refl _ _) V.les_nil)))) rfl HLv.nil))) (gF [0,1,2])) (J2 bW 0 0 [] hr)
 rcases aYV (decide ((aYX.wrap x8)<1))with h20|h20
 ·replace hr:=bY hr h20
  refine xr<|zz ?_
  exact hG1 (zG [0,1]) (J1 true hr)
 replace hr:=bX hr h20
 refine xr<|zz ?_
 exact hG1 (zG [0,1]) (J1 (decide (17<(aYX.wrap x8))) hr)
theorem aLf {N b r} (hr:aCQ N b=some r):
  Vm.Fn Tryz.prog 212 [] [(.row none 1 (b.map (eI .u8)))] (.tup [(.sl 0 0 r.1.length 4 true),(eI .i64 r.2)]) [some ⟨251,r.1.flatMap dP⟩]:=by
 refine zf Tryz.func212 Tryz.ntmps212 ?_
 unfold aCQ at hr
 refine zz ?_
 refine aYY<|zz ?_
 refine zk hr ?_ ?_<;>intro h1 hr
 ·refine zz ?_
  obtain rfl:=sj hr
  exact kS Tryz.results212 aY aY (zW 251 [0])
 refine zz ?_
 refine aY0 fun K1 hK1 hG1=> ?_
 have J1: ∀l0,aCz N l0=some r→K1 (aD 29 [(4,(.sl 0 0 l0.length 4 true))]) [some ⟨251,l0.flatMap dP⟩]:=by
  intro l0 hr
  unfold aCz at hr
  refine hK1<|zz ?_
  obtain rfl:=sj hr
  exact oH Tryz.results212 [0]
 obtain⟨bB,hL2,hr⟩:=aA hr
 refine aYZ<|aY4 (fun m s h=> ∃b_1 aM,zV N m b_1 aM=some bB∧Ghost 0 s h (aD 29 [(0,(.row none 1 (b_1.map (eI .u8)))),(4,(.sl 0 0 aM.length 4 true))]) [some ⟨251,aM.flatMap dP⟩]) ⟨b,[],hL2,(zW 251 [0])⟩ ?_
 rintro m2 s h ⟨b_1,aM,hr2,hg⟩
 refine aY3 hg ?_
 clear hg hL2
 rw[zV]at hr2
 refine aYY<|zz ?_
 refine zk hr2 ?_ ?_<;>intro h2 hr2
 ·refine zz ?_
  refine aYZ ?_
  obtain⟨x16,h_3,hr2⟩:=aA hr2
  refine zz ?_
  refine zc (aOF h_3) [] ?_
  refine zz ?_
  refine aYY<|zz ?_
  refine zk hr2 ?_ ?_<;>intro h4 hr2
  ·refine zz ?_
   obtain rfl:=sj hr2
   obtain rfl:=sj hr
   exact kS Tryz.results212 aY aY (zW 251 [3])
  obtain⟨x26,h_5,hr2⟩:=aA hr2
  refine zz ?_
  refine aZd (o6 [1,0,1])<|dQ dP 4 [(cM.mk x16.1 x16.2.1 x16.2.2.1 x16.2.2.2.1)] ?_
  refine zz ?_
  exact⟨x16.2.2.2.2.1,x26,hr2,(zG [4])⟩
 refine zz ?_
 obtain rfl:=sj hr2
 refine zz ?_
 exact hG1 (zG [0]) (J1 aM hr)
theorem aJP {N l r} (hr:xT N l=some r):
  Vm.Fn Tryz.prog 213 [] [(.row none 4 (l.map sI))] (eB r) []:=by
 refine zf Tryz.func213 Tryz.ntmps213 ?_
 unfold xT at hr
 refine zz ?_
 refine aY0 fun K1 hK1 hG1=> ?_
 have J1: ∀l0,aBw N l0=some r→K1 (aD 51 [(3,(.sl 0 0 l0.length 1 false))]) [some ⟨4,l0.map eB⟩]:=by
  intro l0 hr
  unfold aBw at hr
  refine hK1<|zz ?_
  obtain rfl:=sj hr
  exact aX Tryz.results213 []
 obtain⟨bB,hL2,hr⟩:=aA hr
 refine zz ?_
 refine aYZ<|aY4 (fun m s h=> ∃x8 aM,gJ N l m x8 aM=some bB∧Ghost 0 s h (aD 51 [(3,(.sl 0 0 aM.length 1 false)),(6,(.row none 4 (l.map sI))),(7,(eI .i64 (l.length:Int))),(8,(eI .i64 x8))]) [some ⟨4,aM.map eB⟩]) ⟨0,[],hL2,(zW 4 [0])⟩ ?_
 rintro m2 s h ⟨x8,aM,hr2,hg⟩
 refine aY3 hg ?_
 clear hg hL2
 rw[gJ]at hr2
 refine zz ?_
 refine aYY ?_
 refine zk hr2 ?_ ?_<;>intro h1 hr2
 ·refine zz ?_
  refine aY0 fun K3 hK3 hG3=> ?_
  have J3: ∀dW,oI N l x8 (gJ N l m2) dW=some bB→K3 (aD 51 [(3,(.sl 0 0 dW.length 1 false)),(6,(.row none 4 (l.map sI))),(7,(eI .i64 (l.length:Int))),(8,(eI .i64 x8))]) [some ⟨4,dW.map eB⟩]:=by
   intro dW hr2
   unfold oI at hr2
   refine hK3<|zz ?_
   exact⟨aYX.wrap (x8+1),dW,hr2,(zG [0])⟩
  refine aYZ ?_
  obtain⟨bQ,h_2,hr2⟩:=aA hr2
  refine zz ?_
  refine aYZ ?_
  refine zz ?_
  refine zk hr2 ?_ ?_<;>intro h3 hr2
  ·obtain⟨x18,h_4,hr2⟩:=aA hr2
   refine zz ?_
   exact hG3 (zG [3]) (J3 x18 hr2)
  refine zz ?_
  refine zk hr2 ?_ ?_<;>intro h5 hr2
  ·refine aYY ?_
   refine aY0 fun K4 hK4 hG4=> ?_
   have J4: ∀cO,wO N l x8 aM (gJ N l m2) cO=some bB→K4 (aD 51 [(3,(.sl 0 0 aM.length 1 false)),(6,(.row none 4 (l.map sI))),(7,(eI .i64 (l.length:Int))),(8,(eI .i64 x8)),(31,(eB cO))]) [some ⟨4,aM.map eB⟩]:=by
    intro cO hr2
    unfold wO at hr2
    refine hK4 ?_
    refine zk hr2 ?_ ?_<;>intro h6 hr2
    ·refine zz ?_
     obtain rfl:=sj hr2
     obtain rfl:=sj hr
     exact aX Tryz.results213 []
    obtain⟨x36,h_7,hr2⟩:=aA hr2
    refine zz ?_
    exact hG3 (gF [0]) (J3 (aM.set (aZa (aYX.wrap ((aM.length:Int)-1))) true) hr2)
   rcases aYV ((aM.length:Int) == 0)with h8|h8
   ·replace hr2:=bY hr2 h8
    refine xr<|zz ?_
    exact hG4 (zG [0]) (J4 true hr2)
   replace hr2:=bX hr2 h8
   obtain⟨x29,h_9,hr2⟩:=aA hr2
   refine xr<|zz ?_
   exact hG4 (zG [0]) (J4 x29 hr2)
  refine zz ?_
  refine zk hr2 ?_ ?_<;>intro h10 hr2
  ·refine aYY<|zz ?_
   refine zk hr2 ?_ ?_<;>intro h11 hr2
   ·refine zz ?_
    obtain rfl:=sj hr2
    obtain rfl:=sj hr
    exact aX Tryz.results213 []
   obtain⟨x46,h_12,hr2⟩:=aA hr2
   refine zz ?_
   refine xw (v:=(.sl 0 0 x46.length 1 false)) (vO rfl rfl rfl (aUd (l:=aM) rfl aQn ti4 rfl rfl rfl h_12)) ?_
   refine aZd (Ghost.cutM (t:=46) (E:=eB) (l:=aM) (h':=[some ⟨4,x46.map eB⟩,some ⟨251,dP bQ⟩]) rfl rfl h_12 rfl) ?_
   refine zz ?_
   exact hG3 (zG [0]) (J3 x46 hr2)
  refine zz ?_
  exact hG3 (zG [0]) (J3 aM hr2)
 refine zz ?_
 obtain rfl:=sj hr2
 refine zz ?_
 exact hG1 (zG [0]) (J1 aM hr)
theorem aMp {N vs r} (hr:aBi N vs=some r):
  Vm.Fn Tryz.prog 214 [] [(.row none 1 (vs.map (eL 1 (eI .u8))))] (eB r) []:=by
 refine zf Tryz.func214 Tryz.ntmps214 ?_
 unfold aBi at hr
 refine zz ?_
 refine aYY<|zz ?_
 refine zk hr ?_ ?_<;>intro h1 hr
 ·refine zz ?_
  obtain rfl:=sj hr
  exact aX Tryz.results214 []
 refine zz ?_
 refine aY0 fun K1 hK1 hG1=> ?_
 have J1:aDu N=some r→K1 (aD 18 []) []:=by
  intro hr
  unfold aDu at hr
  refine hK1<|zz ?_
  obtain rfl:=sj hr
  exact aX Tryz.results214 []
 obtain⟨bB,hL2,hr⟩:=aA hr
 refine zz ?_
 refine aYZ<|aY4 (fun m s h=> ∃bQ,aAu N vs m bQ=some bB∧Ghost 0 s h (aD 18 [(8,(.row none 1 (vs.map (eL 1 (eI .u8))))),(9,(eI .i64 (vs.length:Int))),(10,(eI .i64 bQ))]) []) ⟨0,hL2,(zG [])⟩ ?_
 rintro m2 s h ⟨bQ,hr2,hg⟩
 refine aY3 hg ?_
 clear hg hL2
 rw[aAu]at hr2
 refine zz ?_
 refine aYY ?_
 refine zk hr2 ?_ ?_<;>intro h2 hr2
 ·refine zz ?_
  refine aYY<|aYZ ?_
  obtain⟨cH,h_3,hr2⟩:=aA hr2
  refine zz ?_
  refine zk hr2 ?_ ?_<;>intro h4 hr2
  ·refine zz ?_
   obtain rfl:=sj hr2
   obtain rfl:=sj hr
   exact aX Tryz.results214 []
  refine zz ?_
  exact⟨aYX.wrap (bQ+1),hr2,(zG [])⟩
 refine zz ?_
 obtain rfl:=sj hr2
 refine zz ?_
 exact hG1 (zG []) (J1 hr)
theorem aJu {N l r} (hr:xO N l=some r):
  Vm.Fn Tryz.prog 215 [] [(.row none 1 (l.map (eL 1 (eI .u8))))] (.sl 0 0 r.length 1 false) [some ⟨38,r.map (eL 1 (eI .u8))⟩]:=by
 refine zf Tryz.func215 Tryz.ntmps215 ?_
 unfold xO at hr
 obtain⟨x8,h_1,hr⟩:=aA hr
 refine zz ?_
 refine xw (v:=(.sl 0 0 0 1 false)) (h':=[some ⟨38,x8.map (eL 1 (eI .u8))⟩]) (aKY rfl rfl (mkC (E:=(eL 1 (eI .u8))) (y:=([]:List Int)) aP9 z4 ⟨zl,rfl,rfl⟩ rfl rfl rfl h_1 rfl rfl)) ?_
 refine zz ?_
 refine aY0 fun K1 hK1 hG1=> ?_
 have J1: ∀l0,aBc N l0=some r→K1 (aD 23 [(3,(.sl 0 0 l0.length 1 false))]) [some ⟨38,l0.map (eL 1 (eI .u8))⟩]:=by
  intro l0 hr
  unfold aBc at hr
  refine hK1<|zz ?_
  obtain rfl:=sj hr
  exact aX Tryz.results215 [0]
 refine zz ?_
 refine aY3 (Ghost.cutM (t:=3) (E:=(eL 1 (eI .u8))) (l:=x8) (x:=[]) (h':=[some ⟨38,[].map (eL 1 (eI .u8))⟩]) rfl rfl aXn rfl) ?_
 obtain⟨bB,hL2,hr⟩:=aA hr
 refine aYZ<|aY4 (fun m s h=> ∃b8 aM,wE N l m b8 aM=some bB∧Ghost 0 s h (aD 23 [(3,(.sl 0 0 aM.length 1 false)),(9,(.row none 1 (l.map (eL 1 (eI .u8))))),(10,(eI .i64 (l.length:Int))),(11,(eI .i64 b8))]) [some ⟨38,aM.map (eL 1 (eI .u8))⟩]) ⟨0,[],hL2,(gF [0])⟩ ?_
 rintro m2 s h ⟨b8,aM,hr2,hg⟩
 refine aY3 hg ?_
 clear hg hL2
 rw[wE]at hr2
 refine zz ?_
 refine aYY ?_
 refine zk hr2 ?_ ?_<;>intro h2 hr2
 ·refine zz ?_
  refine aYY<|aYZ ?_
  obtain⟨cB,h_3,hr2⟩:=aA hr2
  obtain⟨x18,h_4,hr2⟩:=aA hr2
  obtain⟨b6,h_5,hr2⟩:=aA hr2
  refine zz ?_
  refine gV (vH h_4) [] [1] ?_
  refine aZd (zv 2) ?_
  refine zz ?_
  exact⟨aYX.wrap (b8+1),b6,hr2,(zG [4])⟩
 refine zz ?_
 obtain rfl:=sj hr2
 refine zz ?_
 exact hG1 (zG [0]) (J1 aM hr)
theorem aJW {N l r} (hr:aEn N l=some r):
  Vm.Fn Tryz.prog 216 [] [(.row none 2 (l.map aEf))] (eB r) []:=by
 refine zf Tryz.func216 Tryz.ntmps216 ?_
 unfold aEn at hr
 refine zz ?_
 refine aY0 fun K1 hK1 hG1=> ?_
 have J1: ∀x2,rP N x2=some r→K1 (aD 24 [(2,(eB x2))]) []:=by
  intro x2 hr
  unfold rP at hr
  refine hK1<|zz ?_
  obtain rfl:=sj hr
  exact aX Tryz.results216 []
 rcases aYV ((l.length:Int) == 0)with h1|h1
 ·replace hr:=bY hr h1
  refine xr<|zz ?_
  exact hG1 (zG []) (J1 true hr)
 replace hr:=bX hr h1
 obtain⟨b8,h_2,hr⟩:=aA hr
 rcases aYV b8.reached with h3|h3
 ·replace hr:=bY hr h3
  refine xr<|zz ?_
  exact hG1 (zG []) (J1 b8.done hr)
 replace hr:=bX hr h3
 refine xr<|zz ?_
 exact hG1 (zG []) (J1 false hr)
theorem aLe {N o r} (hr:aER N o=some r):
  Vm.Fn Tryz.prog 217 [] [(sI o)] (eI .i64 r) []:=by
 refine zf Tryz.func217 Tryz.ntmps217 ?_
 unfold aER at hr
 refine zz ?_
 refine aYY<|zz ?_
 refine aYZ ?_
 refine zz ?_
 refine zk hr ?_ ?_<;>intro h1 hr
 ·refine zz ?_
  obtain rfl:=sj hr
  exact aX Tryz.results217 []
 refine zz ?_
 refine zk hr ?_ ?_<;>intro h2 hr
 ·refine zz ?_
  obtain rfl:=sj hr
  exact aX Tryz.results217 []
 refine zz ?_
 refine zk hr ?_ ?_<;>intro h3 hr
 ·refine zz ?_
  obtain rfl:=sj hr
  exact aX Tryz.results217 []
 refine zz ?_
 obtain rfl:=sj hr
 exact aX Tryz.results217 []
theorem aK9 {N o r} (hr:aEK N o=some r):
  Vm.Fn Tryz.prog 218 [] [(sI o)] (eI .i64 r) []:=by
 refine zf Tryz.func218 Tryz.ntmps218 ?_
 unfold aEK at hr
 refine zz ?_
 refine aYY<|zz ?_
 refine aYZ ?_
 refine aY0 fun K1 hK1 hG1=> ?_
 have J1: ∀x5,fY N o x5=some r→K1 (aD 24 [(1,(.ptr 0 0)),(4,(eI .i64 o.Code)),(5,(eB x5))]) [some ⟨251,dP o⟩]:=by
  intro x5 hr
  unfold fY at hr
  refine hK1 ?_
  refine zk hr ?_ ?_<;>intro h1 hr
  ·refine zz ?_
   obtain rfl:=sj hr
   exact aX Tryz.results218 []
  refine aY0 fun K2 hK2 hG2=> ?_
  have J2: ∀x15,tR N o x15=some r→K2 (aD 24 [(1,(.ptr 0 0)),(4,(eI .i64 o.Code)),(15,(eB x15))]) [some ⟨251,dP o⟩]:=by
   intro x15 hr
   unfold tR at hr
   refine hK2 ?_
   refine zk hr ?_ ?_<;>intro h2 hr
   ·refine zz ?_
    obtain rfl:=sj hr
    exact aX Tryz.results218 []
   refine zz ?_
   refine zk hr ?_ ?_<;>intro h3 hr
   ·refine zz ?_
    obtain rfl:=sj hr
    exact aX Tryz.results218 []
   refine zz ?_
   obtain rfl:=sj hr
   exact aX Tryz.results218 []
  refine zz ?_
  refine zk hr ?_ ?_<;>intro h4 hr
  ·refine zz ?_
   exact hG2 (zG [0]) (J2 (o.Code == 4) hr)
  refine zz ?_
  refine zk hr ?_ ?_<;>intro h5 hr
  ·refine zz ?_
   exact hG2 (zG [0]) (J2 (o.Code == 5) hr)
  refine zz ?_
  exact hG2 (zG [0]) (J2 (o.Code == 10) hr)
 refine zz ?_
 refine zk hr ?_ ?_<;>intro h6 hr
 ·refine zz ?_
  exact hG1 (zG [0]) (J1 (o.Code == 2) hr)
 refine zz ?_
 refine zk hr ?_ ?_<;>intro h7 hr
 ·refine zz ?_
  exact hG1 (zG [0]) (J1 (o.Code == 3) hr)
 refine zz ?_
 refine zk hr ?_ ?_<;>intro h8 hr
 ·refine zz ?_
  exact hG1 (zG [0]) (J1 (o.Code == 6) hr)
 refine zz ?_
 refine zk hr ?_ ?_<;>intro h9 hr
 ·refine zz ?_
  exact hG1 (zG [0]) (J1 (o.Code == 7) hr)
 refine zz ?_
 refine zk hr ?_ ?_<;>intro h10 hr
 ·refine zz ?_
  exact hG1 (zG [0]) (J1 (o.Code == 8) hr)
 refine zz ?_
 refine zk hr ?_ ?_<;>intro h11 hr
 ·refine zz ?_
  exact hG1 (zG [0]) (J1 (o.Code == 9) hr)
 refine zz ?_
 refine zk hr ?_ ?_<;>intro h12 hr
 ·refine zz ?_
  exact hG1 (zG [0]) (J1 (o.Code == 12) hr)
 refine zz ?_
 refine zk hr ?_ ?_<;>intro h13 hr
 ·refine zz ?_
  exact hG1 (zG [0]) (J1 (o.Code == 13) hr)
 refine zz ?_
 exact hG1 (zG [0]) (J1 (o.Code == 14) hr)
theorem aAs {N b r} (hr:rX N b=some r):
  Vm.Fn Tryz.prog 185 [] [(.row none 1 (b.map (eI .u8)))] (eB r) []:=by
 refine zf Tryz.func185 Tryz.ntmps185 ?_
 unfold rX at hr
 refine zz ?_
 refine aY0 fun K1 hK1 hG1=> ?_
 have J1:aDl N=some r→K1 (aD 14 []) []:=by
  intro hr
  unfold aDl at hr
  refine hK1<|zz ?_
  obtain rfl:=sj hr
  exact aX Tryz.results185 []
 obtain⟨bB,hL2,hr⟩:=aA hr
 refine zz ?_
 refine aYZ<|aY4 (fun m s h=> ∃x7,aAz N b m x7=some bB∧Ghost 0 s h (aD 14 [(5,(.row none 1 (b.map (eI .u8)))),(6,(eI .i64 (b.length:Int))),(7,(eI .i64 x7))]) []) ⟨0,hL2,(zG [])⟩ ?_
 rintro m2 s h ⟨x7,hr2,hg⟩
 refine aY3 hg ?_
 clear hg hL2
 rw[aAz]at hr2
 refine zz ?_
 refine aYY ?_
 refine zk hr2 ?_ ?_<;>intro h1 hr2
 ·refine zz ?_
  refine aYY<|aYZ ?_
  obtain⟨x9,h_2,hr2⟩:=aA hr2
  refine zz ?_
  refine zk hr2 ?_ ?_<;>intro h3 hr2
  ·refine zz ?_
   obtain rfl:=sj hr2
   obtain rfl:=sj hr
   exact aX Tryz.results185 []
  refine zz ?_
  exact⟨aYX.wrap (x7+1),hr2,(zG [])⟩
 refine zz ?_
 obtain rfl:=sj hr2
 refine zz ?_
 exact hG1 (zG []) (J1 hr)
theorem aBg {N vs aFY r} (hr:w9 N vs aFY=some r):
  Vm.Fn Tryz.prog 234 [] [(.row none 1 (vs.map (eL 1 (eI .u8)))),(.row none 1 (aFY.map (eI .u8)))] (.tup [(.sl 0 0 r.1.length 1 false),(eI .i64 r.2)]) [some ⟨38,r.1.map (eL 1 (eI .u8))⟩]:=by
 refine zf Tryz.func234 Tryz.ntmps234 ?_
 unfold w9 at hr
 refine zz ?_
 refine aYY<|zz ?_
 refine zk hr ?_ ?_<;>intro h1 hr
 ·refine zz ?_
  obtain rfl:=sj hr
  exact kS Tryz.results234 aY aY (zW 38 [0])
 obtain⟨bZ,h_2,hr⟩:=aA hr
 obtain⟨x17,h_3,hr⟩:=aA hr
 refine zz ?_
 obtain rfl:=sj hr
 exact oH Tryz.results234 [1]
theorem aDm {N vn r} (hr:aBB N vn=some r):
  Vm.Fn Tryz.prog 236 [] [(eI .u32 vn)] (.sl 0 0 r.length 1 false) [some ⟨5,r.map (eI .u8)⟩]:=by
 refine zf Tryz.func236 Tryz.ntmps236 ?_
 unfold aBB at hr
 refine zz ?_
 refine aY0 fun K1 hK1 hG1=> ?_
 have J1: ∀l0,aDy N l0=some r→K1 (aD 14 [(3,(.sl 0 0 l0.length 1 false))]) [some ⟨5,l0.map (eI .u8)⟩]:=by
  intro l0 hr
  unfold aDy at hr
  refine hK1<|zz ?_
  obtain rfl:=sj hr
  exact aX Tryz.results236 [0]
 obtain⟨bB,hL2,hr⟩:=aA hr
 refine aYZ<|aY4 (fun m s h=> ∃iV aM,aAq N m iV aM=some bB∧Ghost 0 s h (aD 14 [(0,(eI .u32 iV)),(3,(.sl 0 0 aM.length 1 false))]) [some ⟨5,aM.map (eI .u8)⟩]) ⟨vn,[],hL2,(zW 5 [0])⟩ ?_
 rintro m2 s h ⟨iV,aM,hr2,hg⟩
 refine aY3 hg ?_
 clear hg hL2
 rw[aAq]at hr2
 refine aYY<|zz ?_
 refine zk hr2 ?_ ?_<;>intro h1 hr2
 ·refine zz ?_
  refine aYY<|aYZ ?_
  obtain⟨cH,h_2,hr2⟩:=aA hr2
  refine zz ?_
  exact⟨aY7.wrap (aZc iV 256),cH,hr2,(zG [2])⟩
 refine zz ?_
 obtain rfl:=sj hr2
 refine zz ?_
 exact hG1 (zG [0]) (J1 aM hr)
theorem zL {N b r} (hr:sO N b=some r):
  Vm.Fn Tryz.prog 235 [] [(eB b)] (.row none 1 (r.map (eI .u8))) []:=by
 refine zf Tryz.func235 Tryz.ntmps235 ?_
 unfold sO at hr
 refine zz ?_
 refine aYY<|zz ?_
 refine zk hr ?_ ?_<;>intro h1 hr
 ·obtain⟨x4,h_2,hr⟩:=aA hr
  refine zz ?_
  refine zc (aDm h_2) [] ?_
  refine zz ?_
  obtain rfl:=sj hr
  exact gL Tryz.results235 aY (aY6 (zv 0) (zG []))
 obtain⟨x5,h_3,hr⟩:=aA hr
 refine zz ?_
 refine zc (aDm h_3) [] ?_
 refine zz ?_
 obtain rfl:=sj hr
 exact gL Tryz.results235 aY (aY6 (zv 0) (zG []))
theorem aJJ {N sig key vm r} (hr:aEi N sig key vm=some r):
  Vm.Fn Tryz.prog 237 [] [(.row none 1 (sig.map (eI .u8))),(.row none 1 (key.map (eI .u8))),(.agg (vm.map (eI .u8)))] (.tup [(eB r.1),(eI .i64 r.2)]) []:=by
 unfold aEi at hr
 cases hr
theorem aKK {N o aQC vm r} (hr:aEG N o aQC vm=some r):
  Vm.Fn Tryz.prog 238 [] [(sI o),(.row none 1 (aQC.map (eL 1 (eI .u8)))),(.agg (vm.map (eI .u8)))] (.tup [(eB r.1),(eI .i64 r.2)]) []:=by
 unfold aEG at hr
 cases hr
theorem aJG {N b r} (hr:aD4 N b=some r):
  Vm.Fn Tryz.prog 253 [] [(.row none 1 (b.map (eI .u8)))] (.tup [(eI .u32 r.1),(eI .i64 r.2)]) []:=by
 refine zf Tryz.func253 Tryz.ntmps253 ?_
 unfold aD4 at hr
 refine zz ?_
 refine aYY ?_
 refine aY0 fun K1 hK1 hG1=> ?_
 have J1: ∀bW,rQ N b bW=some r→K1 (aD 40 [(0,(.row none 1 (b.map (eI .u8)))),(22,(eB bW))]) []:=by
  intro bW hr
  unfold rQ at hr
  refine hK1 ?_
  refine zk hr ?_ ?_<;>intro h1 hr
  ·refine zz ?_
   obtain rfl:=sj hr
   exact oH Tryz.results253 []
  refine zz ?_
  refine aY0 fun K2 hK2 hG2=> ?_
  have J2: ∀vn,aBZ N vn=some r→K2 (aD 40 [(4,(eI .u32 vn))]) []:=by
   intro vn hr
   unfold aBZ at hr
   refine hK2<|zz ?_
   obtain rfl:=sj hr
   exact oH Tryz.results253 []
  obtain⟨jT,hL3,hr⟩:=aA hr
  refine zz ?_
  refine aYZ<|aY4 (fun m s h=> ∃iV x25,wW N b m iV x25=some jT∧Ghost 0 s h (aD 40 [(0,(.row none 1 (b.map (eI .u8)))),(4,(eI .u32 iV)),(24,(eI .i64 (b.length:Int))),(25,(eI .i64 x25))]) []) ⟨0,0,hL3,(zG [])⟩ ?_
  rintro m3 s h ⟨iV,x25,hr3,hg⟩
  refine aY3 hg ?_
  clear hg hL3
  rw[wW]at hr3
  refine zz ?_
  refine aYY ?_
  refine zk hr3 ?_ ?_<;>intro h2 hr3
  ·refine zz ?_
   refine aYY<|aYZ ?_
   obtain⟨cO,h_3,hr3⟩:=aA hr3
   obtain⟨x36,h_4,hr3⟩:=aA hr3
   refine zz ?_
   exact⟨bits .or .u32 iV x36,aYX.wrap (x25+1),hr3,(zG [])⟩
  refine zz ?_
  obtain rfl:=sj hr3
  refine zz ?_
  exact hG2 (zG []) (J2 iV hr)
 rcases aYV (decide (4<(b.length:Int)))with h5|h5
 ·replace hr:=bY hr h5
  refine xr<|zz ?_
  exact hG1 (zG []) (J1 true hr)
 replace hr:=bX hr h5
 rcases aYV (decide (0<(b.length:Int)))with h6|h6
 ·replace hr:=bY hr h6
  obtain⟨x18,h_7,hr⟩:=aA hr
  refine xr<|zz ?_
  exact hG1 (zG []) (J1 (x18 == 0) hr)
 replace hr:=bX hr h6
 refine xr<|zz ?_
 exact hG1 (zG []) (J1 false hr)
theorem aEF {N aFY now r} (hr:aB6 N aFY now=some r):
  Vm.Fn Tryz.prog 239 [] [(.row none 1 (aFY.map (eI .u8))),(eI .i64 now)] (eI .i64 r) []:=by
 refine zf Tryz.func239 Tryz.ntmps239 ?_
 unfold aB6 at hr
 obtain⟨x9,h_1,hr⟩:=aA hr
 refine zz ?_
 refine xp (aJG h_1) ?_
 refine zz ?_
 refine aYY<|zz ?_
 refine zk hr ?_ ?_<;>intro h2 hr
 ·refine zz ?_
  obtain rfl:=sj hr
  exact aX Tryz.results239 []
 refine zz ?_
 refine aYY<|zz ?_
 refine zk hr ?_ ?_<;>intro h3 hr
 ·refine zz ?_
  obtain rfl:=sj hr
  exact aX Tryz.results239 []
 refine zz ?_
 obtain rfl:=sj hr
 exact aX Tryz.results239 []
theorem aMq {N o vs v r} (hr:aBK N o vs v=some r):
  Vm.Fn Tryz.prog 219 [] [(sI o),(.row none 1 (vs.map (eL 1 (eI .u8)))),(aHq v)] (.tup [(.row none 1 (r.1.map (eL 1 (eI .u8)))),(eI .i64 r.2)]) []:=by
 refine zf Tryz.func219 Tryz.ntmps219 ?_
 unfold aBK at hr
 refine zz ?_
 refine aYY<|zz ?_
 refine aYZ ?_
 refine zz ?_
 refine zk hr ?_ ?_<;>intro h1 hr
 ·obtain⟨x25,h_2,hr⟩:=aA hr
  obtain⟨x26,h_3,hr⟩:=aA hr
  refine zz ?_
  refine gV (vH h_2) [] [2] ?_
  refine aZd (zv 3) ?_
  refine zc (aBg h_3) [] ?_
  refine zz ?_
  obtain rfl:=sj hr
  exact kS Tryz.results219 aY aY (aY6 (o6 [1,1,1,0,0]) (zG []))
 refine zz ?_
 refine zk hr ?_ ?_<;>intro h4 hr
 ·obtain⟨x35,h_5,hr⟩:=aA hr
  obtain⟨x37,h_6,hr⟩:=aA hr
  refine zz ?_
  refine zc (aBg h_6) [] ?_
  refine zz ?_
  obtain rfl:=sj hr
  exact kS Tryz.results219 aY aY (aY6 (o6 [1,1,0]) (zG []))
 refine zz ?_
 refine zk hr ?_ ?_<;>intro h7 hr
 ·obtain⟨x45,h_8,hr⟩:=aA hr
  refine zz ?_
  obtain rfl:=sj hr
  exact oH Tryz.results219 []
 refine zz ?_
 refine zk hr ?_ ?_<;>intro h9 hr
 ·refine aYY ?_
  obtain⟨x53,h_10,hr⟩:=aA hr
  obtain⟨x57,h_11,hr⟩:=aA hr
  obtain⟨x62,h_12,hr⟩:=aA hr
  obtain⟨x65,h_13,hr⟩:=aA hr
  refine aY9 mixed [] [] [[0,1,2,3,4,5,6,7,8,9,10,11,12,13,14,15,16,17,18,19]]<|zz ?_
  obtain rfl:=sj hr
  exact kS Tryz.results219 aY aY (aY6 (o6 [1,1,1,0]) (zG []))
 refine zz ?_
 refine zk hr ?_ ?_<;>intro h14 hr
 ·refine aYY ?_
  obtain⟨x73,h_15,hr⟩:=aA hr
  obtain⟨x77,h_16,hr⟩:=aA hr
  obtain⟨x82,h_17,hr⟩:=aA hr
  obtain⟨x84,h_18,hr⟩:=aA hr
  obtain⟨x85,h_20,hr⟩:=aA hr
  obtain⟨x87,h_22,hr⟩:=aA hr
  refine aY9 mixed [116,235] [] [[0,1,2,3,4,5,6,7,8,9,10,11,12,13,14,15,16,17,18,19,20,21]]<|zz ?_
  refine xu (aGJ h_18)<|xu (zL h_20) ?_
  refine zz ?_
  obtain rfl:=sj hr
  exact kS Tryz.results219 aY aY (aY6 (o6 [1,1,1,0]) (zG []))
 refine zz ?_
 refine zk hr ?_ ?_<;>intro h23 hr
 ·refine aYY ?_
  obtain⟨x95,h_24,hr⟩:=aA hr
  obtain⟨x99,h_25,hr⟩:=aA hr
  obtain⟨aWI,h_26,hr⟩:=aA hr
  obtain⟨aK8,h_28,hr⟩:=aA hr
  obtain⟨aKQ,h_30,hr⟩:=aA hr
  refine aY9 mixed [185,235] [] [[0,1,2,3,4,5,6,7,8,9,10,11,12,13,14,15,16,17]]<|zz ?_
  refine xu (aAs h_26) ?_
  refine zz ?_
  refine xu (zL h_28) ?_
  refine zz ?_
  obtain rfl:=sj hr
  exact kS Tryz.results219 aY aY (aY6 (o6 [1,1,1,0]) (zG []))
 refine zz ?_
 refine zk hr ?_ ?_<;>intro h31 hr
 ·refine aYY ?_
  obtain⟨aWG,h_32,hr⟩:=aA hr
  obtain⟨aGT,h_33,hr⟩:=aA hr
  refine zz ?_
  refine xp (aAs h_33) ?_
  refine zz ?_
  refine zk hr ?_ ?_<;>intro h34 hr
  ·refine zz ?_
   obtain rfl:=sj hr
   exact kS Tryz.results219 aY aY (gF [])
  obtain⟨aDn,h_35,hr⟩:=aA hr
  refine zz ?_
  obtain rfl:=sj hr
  exact oH Tryz.results219 []
 refine zz ?_
 refine zk hr ?_ ?_<;>intro h36 hr
 ·obtain⟨aK0,h_37,hr⟩:=aA hr
  obtain⟨aIG,h_38,hr⟩:=aA hr
  obtain⟨q,h_39,hr⟩:=aA hr
  refine zz ?_
  refine xp (lT h_38) ?_
  refine zz ?_
  refine aYY<|aY3 (zv 2) ?_
  obtain⟨aNT,h_40,hr⟩:=aA hr
  obtain⟨aWE,h_41,hr⟩:=aA hr
  refine aY9 mixed [] [] [[0,1,2,3,4,5,6,7,8,9,10]]<|zz ?_
  obtain rfl:=sj hr
  exact kS Tryz.results219 aY aY (aY6 (o6 [1,1,0,1,0]) (zG []))
 refine zz ?_
 refine zk hr ?_ ?_<;>intro h42 hr
 ·obtain⟨aWB,h_43,hr⟩:=aA hr
  obtain⟨aVJ,h_44,hr⟩:=aA hr
  obtain⟨aSL,h_45,hr⟩:=aA hr
  refine zz ?_
  refine zc (aDm h_44) [] ?_
  refine aZd (zv 2) ?_
  refine zc (aBg h_45) [] ?_
  refine zz ?_
  obtain rfl:=sj hr
  exact kS Tryz.results219 aY aY (aY6 (o6 [1,1,0,0]) (zG []))
 refine zz ?_
 refine zk hr ?_ ?_<;>intro h46 hr
 ·refine aYY ?_
  obtain⟨aW4,h_47,hr⟩:=aA hr
  obtain⟨aWu,h_48,hr⟩:=aA hr
  obtain⟨q_1,h_49,hr⟩:=aA hr
  obtain⟨aSn,h_50,hr⟩:=aA hr
  refine aY9 mixed [237] [] [[0,1,2,3,4,5,6,7,8,9,10,11,12,13,14,15,16,17]]<|zz ?_
  refine xu (aJJ h_50) ?_
  refine zz ?_
  refine aYY ?_
  obtain⟨aWj,h_52,hr⟩:=aA hr
  obtain⟨aWK,h_53,hr⟩:=aA hr
  obtain⟨aV3,h_55,hr⟩:=aA hr
  refine aY9 mixed [235] [] [[0,1,2,3,4,5,6,7,8,9,10,11,12]]<|zz ?_
  refine xu (zL h_53) ?_
  refine zz ?_
  obtain rfl:=sj hr
  exact kS Tryz.results219 aY aY (aY6 (o6 [1,1,1,0]) (zG []))
 refine zz ?_
 refine zk hr ?_ ?_<;>intro h56 hr
 ·refine zz ?_
  refine aYY ?_
  obtain⟨aVK,h_57,hr⟩:=aA hr
  obtain⟨q_2,h_58,hr⟩:=aA hr
  obtain⟨aSl,h_59,hr⟩:=aA hr
  refine aY9 mixed [238] [] [[0,1,2,3,4,5,6,7,8,9,10,11]]<|zz ?_
  refine xu (aKK h_59) ?_
  refine zz ?_
  refine aYY ?_
  obtain⟨aWl,h_61,hr⟩:=aA hr
  obtain⟨aVY,h_62,hr⟩:=aA hr
  obtain⟨aWd,h_64,hr⟩:=aA hr
  refine aY9 mixed [235] [] [[0,1,2,3,4,5,6,7,8,9,10]]<|zz ?_
  refine xu (zL h_62) ?_
  refine zz ?_
  obtain rfl:=sj hr
  exact kS Tryz.results219 aY aY (aY6 (o6 [1,1,1,0]) (zG []))
 refine zz ?_
 refine zk hr ?_ ?_<;>intro h65 hr
 ·refine aYY ?_
  obtain⟨aWQ,h_66,hr⟩:=aA hr
  obtain⟨aW2,h_67,hr⟩:=aA hr
  refine aY9 mixed [239] [] [[0,1,2,3,4,5,6,7,8,9,10]]<|zz ?_
  refine xu (aEF h_67) ?_
  refine zz ?_
  obtain rfl:=sj hr
  exact oH Tryz.results219 []
 refine zz ?_
 refine zk hr ?_ ?_<;>intro h69 hr
 ·refine aYY ?_
  obtain⟨aWz,h_70,hr⟩:=aA hr
  obtain⟨aWq,h_71,hr⟩:=aA hr
  refine aY9 mixed [239] [] [[0,1,2,3,4,5,6,7,8,9,10]]<|zz ?_
  refine xu (aEF h_71) ?_
  refine zz ?_
  obtain rfl:=sj hr
  exact oH Tryz.results219 []
 refine zz ?_
 obtain rfl:=sj hr
 exact kS Tryz.results219 aY aY (gF [])
end Go.Proofs.YtgfdllellpbmoaaGreatDoor
