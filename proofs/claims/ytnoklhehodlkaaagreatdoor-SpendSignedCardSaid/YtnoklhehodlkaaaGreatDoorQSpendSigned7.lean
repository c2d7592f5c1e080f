/- Texts of ours, joined: Wk2, Wk3, Wk4. -/
import Derived.Test.YtnoklhehodlkaaaGreatDoorQSpendSigned6
set_option linter.unusedVariables false
set_option linter.unusedSimpArgs false
set_option maxRecDepth 20000
set_option maxHeartbeats 1000000
namespace Go.Proofs.YtnoklhehodlkaaaGreatDoor
open Go Go.Vm
theorem aIt {N : Nat} {b : List Int} {stack : List (List Int)} {d5 : List Int} {fB : Int} {lV : Int} {r : (List (List Int)) × Int × Int} (hr : zQ N b stack d5 fB lV = some r) :
  Vm.Fn Tryz.prog 22 [] [(.row none 1 (b.map (eI .u8))),(.row none 1 (stack.map (eL 1 (eI .u8)))),(.agg (bG (eI .u8) d5 [(eI .i64 fB),(eI .i64 lV)]))] (.tup [(.sl 0 0 r.1.length 1 false),(eI .i64 r.2.1),(eI .i64 r.2.2)]) [some ⟨22,r.1.map (eL 1 (eI .u8))⟩] := by
 refine zf Tryz.func22 Tryz.ntmps22 ?_
 unfold zQ at hr
 obtain ⟨x17,h_1,hr⟩ := aC hr
 refine zz ?_
 refine zc (aGO h_1) [] ?_
 refine zz ?_
 refine AB.seq ?_
 refine zz ?_
 refine zk hr rfl (fun h2 hr => ?_) (fun h2 hr => ?_)
 ·refine zz ?_
  obtain rfl := sj hr
  exact zr3 Tryz.results22 bM bM bM (zW 22 [2])
 ·refine zz ?_
  refine AB.seq ?_
  obtain ⟨fW,h_3,hr⟩ := aC hr
  refine zz ?_
  refine xV (aFt h_3) [] [1] ?_
  refine zz ?_
  refine zk hr rfl (fun h4 hr => ?_) (fun h4 hr => ?_)
  ·refine zz ?_
   obtain rfl := sj hr
   exact zr3 Tryz.results22 bM bM bM (zW 22 [2])
  ·refine zz ?_
   refine AB.seq ?_
   obtain ⟨x27,h_5,hr⟩ := aC hr
   refine zz ?_
   refine xp (aFc h_5) ?_
   refine zz ?_
   refine zk hr rfl (fun h6 hr => ?_) (fun h6 hr => ?_)
   ·refine zz ?_
    obtain rfl := sj hr
    exact zr3 Tryz.results22 bM bM bM (zW 22 [2])
   ·refine zz ?_
    refine AB.seq ?_
    obtain ⟨cM,h_7,hr⟩ := aC hr
    refine AB.rd (d7 []) (d7 [55]) mixed <| DrawG.pick (n := 5) (i := 0) (by decide +kernel) rfl (gS (v := (.agg (bG (eI .u8) d5 [(eI .i64 fB),(eI .i64 lV)]))) (sv (bW rfl (ldP rfl (vI (ds := (bG (eI .u8) d5 [(eI .i64 fB),(eI .i64 lV)])) aA8 rfl zl rfl))))) <| DrawG.pick (n := 4) (i := 1) (by decide +kernel) rfl (gS (v := (.row none 1 (stack.map (eL 1 (eI .u8))))) (sv (iR rfl))) ?_
    refine DrawG.jn (m := 1) (L := lst [0,1,2,3,4] 6) (s1 := aK 50 [(9,(.sl 0 0 x17.1.length 4 true)),(11,(.ptr 1 0)),(32,(.agg (bG (eI .u8) d5 [(eI .i64 fB),(eI .i64 lV),(.sl 2 0 cM.length 1 false),(.row (some true) 1 []),(eI .i64 0)])))]) (h1 := [some ⟨85,x17.1.flatMap e9⟩,some ⟨105,(bG (eI .u8) (List.replicate 32 0) [(eI .i64 0),(eI .i64 0),(.row (some true) 1 []),(.row (some true) 1 []),(eI .i64 0)])⟩,some ⟨22,cM.map (eL 1 (eI .u8))⟩]) ?_ (fun J => ?_)
    ·refine DrawG.pick (n := 0) (i := 5) (by decide +kernel) rfl (gN (h' := [some ⟨85,x17.1.flatMap e9⟩,some ⟨105,(bG (eI .u8) d5 [(eI .i64 fB),(eI .i64 lV),(.sl 2 0 cM.length 1 false),(.row (some true) 1 []),(eI .i64 0)])⟩,some ⟨22,cM.map (eL 1 (eI .u8))⟩]) (sv (bN rfl rfl (sV t4 rfl rfl rfl zl rfl)))) <| DrawG.nil (by decide +kernel) ?_
     refine zz ?_
     refine AB.seq_g fun K1 hK1 hG1 => ?_
     have J1 : ∀ (c0 : List Int) (t8 : Int) (uI : Int) (tN : Int) (l1 : List (List Int)) (l2 : List aN),wQ N c0 t8 uI tN l1 l2 = some r → K1 (aK 50 [(11,(.ptr 0 0))]) [some ⟨105,(bG (eI .u8) c0 [(eI .i64 t8),(eI .i64 uI),(.sl 1 0 l1.length 1 false),(.sl 2 0 l2.length 2 true),(eI .i64 tN)])⟩,some ⟨22,l1.map (eL 1 (eI .u8))⟩,some ⟨127,l2.flatMap aU⟩] := by
      intro c0 t8 uI tN l1 l2 hr
      unfold wQ at hr
      refine hK1 _ _ <| AB.seq <| AB.ghost (Ghost.conv (fr' := [(11,(.ptr 0 0))]) (h' := [some ⟨105,(bG (eI .u8) c0 [(eI .i64 t8),(eI .i64 uI),(.row none 1 (l1.map (eL 1 (eI .u8)))),(.sl 2 0 l2.length 2 true),(eI .i64 tN)])⟩,none,some ⟨127,l2.flatMap aU⟩]) (FCv.cons rfl (Conv.same (bD rfl)) FCv.nil) (HCv.live (aOe (fun _ => Conv.same (bD rfl)) (Convs.cons (Conv.same (bD rfl)) (Convs.cons (Conv.same (bD rfl)) (Convs.cons (Conv.row (bD rfl) rfl rfl (xJ (fun _ => rfl)) (by first | rfl | (simp only [List.length_map,b8,b7]; done))) (Convs.cons (Conv.same (bD rfl)) (Convs.cons (Conv.same (bD rfl)) Convs.nil)))))) rfl (HCv.dead (HCv.live (Convs.same (bD rfl)) (o5 (fun _ => rfl) _) HCv.nil)))) ?_
      obtain ⟨x47,h_9,hr⟩ := aC hr
      refine AB.rs mixed [] [55] [[0,1,2,3,4,5,6,7]] ?_
      refine zz ?_
      refine zg (xE h_9) [] ?_
      refine zz ?_
      obtain rfl := sj hr
      exact zd3 Tryz.results22 [3]
     obtain ⟨bO,hL2,hr⟩ := aC hr
     refine zz ?_
     refine AB.block <| AB.loopN (fun m s h => ∃ (x35 : Int) (aAf : List Int) (c0_5 : Int) (c0_6 : Int) (c0_7 : Int) (dE : List (List Int)) (l3 : List aN),k7 N x17 m x35 aAf c0_5 c0_6 c0_7 dE l3 = some bO ∧ Ghost 0 s h (aK 50 [(11,(.ptr 0 0)),(33,(.sl 1 0 x17.1.length 4 true)),(34,(eI .i64 (x17.1.length : Int))),(35,(eI .i64 x35))]) [some ⟨105,(bG (eI .u8) aAf [(eI .i64 c0_5),(eI .i64 c0_6),(.sl 2 0 dE.length 1 false),(.sl 3 0 l3.length 2 true),(eI .i64 c0_7)])⟩,some ⟨85,x17.1.flatMap e9⟩,some ⟨22,dE.map (eL 1 (eI .u8))⟩,some ⟨127,l3.flatMap aU⟩]) (n := N) ⟨0,d5,fB,lV,0,cM,[],hL2,(Ghost.trans (Ghost.virt (fr' := [(11,(.ptr 1 0)),(33,(.sl 0 0 x17.1.length 4 true)),(34,(eI .i64 (x17.1.length : Int))),(35,(eI .i64 0))]) (h1 := [some ⟨85,x17.1.flatMap e9⟩,some ⟨105,(bG (eI .u8) d5 [(eI .i64 fB),(eI .i64 lV),(.sl 2 0 cM.length 1 false),(.sl 3 0 0 2 true),(eI .i64 0)])⟩,some ⟨22,cM.map (eL 1 (eI .u8))⟩]) 127 (FLe.same rfl (FLe.same rfl (FLe.same rfl (FLe.same rfl FLe.nil)))) (HLv.live (V.les_refl _ _) (o5 (fun _ => rfl) _) (HLv.live (aNA (V.les_cons (V.le_refl _ _) (V.les_cons (V.le_refl _ _) (V.les_cons (V.le_refl _ _) (V.les_cons (V.le_virt rfl) (V.les_cons (V.le_refl _ _) V.les_nil)))))) rfl (HLv.live (V.les_refl _ _) (all_map (fun _ => rfl) _) HLv.nil)))) (qH [1,0,2,3]))⟩ (by rintro s h ⟨_,_,_,_,_,_,_,h0,_⟩; simp [k7] at h0) ?_
     rintro m2 s h ⟨x35,aAf,c0_5,c0_6,c0_7,dE,l3,hr2,hg⟩
     refine AB.ghost hg ?_
     clear hg hL2
     rw [k7] at hr2
     refine zz ?_
     refine AB.seq ?_
     refine zk hr2 rfl (fun h11 hr2 => ?_) (fun h11 hr2 => ?_)
     ·refine zz ?_
      refine AB.seq <| AB.block ?_
      obtain ⟨x37,h_12,hr2⟩ := aC hr2
      refine zz ?_
      refine xw (v := (.agg [(eI .i64 x37.Code),(.row none 1 (x37.Data.map (eI .u8))),(eI .i64 x37.M),(eI .i64 x37.N)])) (bW rfl (aOZ (C := e9) (K := 4) (fun _ => rfl) rfl h_12 (vI (ds := [(eI .i64 x37.Code),(.row none 1 (x37.Data.map (eI .u8))),(eI .i64 x37.M),(eI .i64 x37.N)]) aBH rfl zl rfl))) ?_
      obtain ⟨x40,h_13,hr2⟩ := aC hr2
      refine zz ?_
      refine zc (aCB h_13) [0,2,3] ?_
      refine zz ?_
      refine zk hr2 rfl (fun h14 hr2 => ?_) (fun h14 hr2 => ?_)
      ·refine zz ?_
       obtain rfl := sj hr2
       obtain rfl := sj hr
       exact zr3 Tryz.results22 bM bM bM (zW 22 [7])
      ·refine zz ?_
       exact ⟨IntKind.i64.wrap (x35 + 1),x40.2.1,x40.2.2.1,x40.2.2.2.1,x40.2.2.2.2.2.2,x40.2.2.2.2.1,x40.2.2.2.2.2.1,hr2,(zG [0,1,5,6])⟩
     ·refine zz ?_
      obtain rfl := sj hr2
      refine zz ?_
      exact hG1 _ _ _ _ (zG [0,2,3]) (J1 aAf c0_5 c0_6 c0_7 dE l3 hr)
    ·refine DrawG.fork (n := 3) [2,4] (by decide +kernel) (by decide) ?_
     refine (Fork.cons rfl (gC (v := (.sl 2 0 cM.length 1 false)) (h' := [some ⟨42,(bG (eI .u8) d5 [(eI .i64 fB),(eI .i64 lV)])⟩,some ⟨85,x17.1.flatMap e9⟩,some ⟨22,cM.map (eL 1 (eI .u8))⟩]) (zB (xE h_7) []) rfl (fun _ => ⟨_,rfl⟩) (sv (d6 rfl fH))) ?_ (Fork.cons rfl (gS (v := (.ptr 2 0)) (h' := [some ⟨42,(bG (eI .u8) d5 [(eI .i64 fB),(eI .i64 lV)])⟩,some ⟨85,x17.1.flatMap e9⟩,some ⟨105,(bG (eI .u8) (List.replicate 32 0) [(eI .i64 0),(eI .i64 0),(.row (some true) 1 []),(.row (some true) 1 []),(eI .i64 0)])⟩]) (sv (cD t4 rfl rfl rfl))) ?_ Fork.nil))
     ·refine DrawG.pick (n := 2) (i := 3) (by decide +kernel) rfl (gS (v := (.agg (bG (eI .u8) d5 [(eI .i64 fB),(eI .i64 lV),(.sl 2 0 cM.length 1 false),(.row (some true) 1 []),(eI .i64 0)]))) (sv (bQ rfl (qL t4 aLX rfl)))) <| DrawG.pick (n := 1) (i := 4) (by decide +kernel) rfl (gS (v := (.ptr 3 0)) (h' := [some ⟨42,(bG (eI .u8) d5 [(eI .i64 fB),(eI .i64 lV)])⟩,some ⟨85,x17.1.flatMap e9⟩,some ⟨22,cM.map (eL 1 (eI .u8))⟩,some ⟨105,(bG (eI .u8) (List.replicate 32 0) [(eI .i64 0),(eI .i64 0),(.row (some true) 1 []),(.row (some true) 1 []),(eI .i64 0)])⟩]) (sv (cD t4 rfl rfl rfl))) ?_
      exact DrawG.jg (by decide +kernel) (by decide +kernel) (zG [1,3,2]) J
     ·refine DrawG.pick (n := 2) (i := 2) (by decide +kernel) rfl (gC (v := (.sl 3 0 cM.length 1 false)) (h' := [some ⟨42,(bG (eI .u8) d5 [(eI .i64 fB),(eI .i64 lV)])⟩,some ⟨85,x17.1.flatMap e9⟩,some ⟨105,(bG (eI .u8) (List.replicate 32 0) [(eI .i64 0),(eI .i64 0),(.row (some true) 1 []),(.row (some true) 1 []),(eI .i64 0)])⟩,some ⟨22,cM.map (eL 1 (eI .u8))⟩]) (zB (xE h_7) []) rfl (fun _ => ⟨_,rfl⟩) (sv (d6 rfl fH))) <| DrawG.pick (n := 1) (i := 3) (by decide +kernel) rfl (gS (v := (.agg (bG (eI .u8) d5 [(eI .i64 fB),(eI .i64 lV),(.sl 3 0 cM.length 1 false),(.row (some true) 1 []),(eI .i64 0)]))) (sv (bQ rfl (qL t4 aLX rfl)))) ?_
      exact DrawG.jg (by decide +kernel) (by decide +kernel) (zG [1,2,3]) J
theorem aEI {N : Nat} {vh : List Int} {r : (List Int)} (hr : pS N vh = some r) :
  Vm.Fn Tryz.prog 26 [] [(.agg (vh.map (eI .u8)))] (.agg (r.map (eI .u64))) [] := by
 refine zf Tryz.func26 Tryz.ntmps26 ?_
 unfold pS at hr
 refine zz ?_
 refine AB.seq_g fun K1 hK1 hG1 => ?_
 have J1 : ∀ (l1 : List Int),pT N l1 = some r → K1 (aK 27 [(2,(.ptr 0 0)),(3,(.ptr 1 0))]) [some ⟨31,(List.replicate 4 0).map (eI .u64)⟩,some ⟨31,l1.map (eI .u64)⟩] := by
  intro l1 hr
  unfold pT at hr
  refine hK1 _ _ ?_
  obtain ⟨q,h_1,hr⟩ := aC hr
  refine zz ?_
  obtain rfl := sj hr
  exact fD Tryz.results26 bM (zG [])
 obtain ⟨bO,hL2,hr⟩ := aC hr
 refine zz ?_
 refine AB.block <| AB.loopN (fun m s h => ∃ (x6 : Int) (l2 : List Int),iH N vh m x6 l2 = some bO ∧ Ghost 0 s h (aK 27 [(1,(.ptr 0 0)),(2,(.ptr 1 0)),(3,(.ptr 2 0)),(6,(eI .i64 x6))]) [some ⟨24,vh.map (eI .u8)⟩,some ⟨31,(List.replicate 4 0).map (eI .u64)⟩,some ⟨31,l2.map (eI .u64)⟩]) (n := N) ⟨0,List.replicate 4 0,hL2,(zG [0,1,2])⟩ (by rintro s h ⟨_,_,h0,_⟩; simp [iH] at h0) ?_
 rintro m2 s h ⟨x6,l2,hr2,hg⟩
 refine AB.ghost hg ?_
 clear hg hL2
 rw [iH] at hr2
 refine zz ?_
 refine AB.seq ?_
 refine zk hr2 rfl (fun h2 hr2 => ?_) (fun h2 hr2 => ?_)
 ·refine zz ?_
  refine AB.seq <| AB.block ?_
  obtain ⟨eD,h_3,hr2⟩ := aC hr2
  obtain ⟨x16,h_4,hr2⟩ := aC hr2
  obtain ⟨c5,h_5,hr2⟩ := aC hr2
  refine zz ?_
  refine AB.rs mixed [] [] [[0,1,2,3,4,5,6,7,8,9,10,11,12,13,14]] ?_
  refine zz ?_
  exact ⟨IntKind.i64.wrap (x6 + 1),l2.set (Int.toNat (IntKind.i64.wrap (Int.tdiv (IntKind.i64.wrap (31 - x6)) 8))) (bits .or .u64 eD c5),hr2,(zG [0,1,2])⟩
 ·refine zz ?_
  obtain rfl := sj hr2
  refine zz ?_
  exact hG1 _ _ _ _ (zG [1,2]) (J1 l2 hr)
theorem q9 {N : Nat} {vn : Int} {r : (List Int)} (hr : iM N vn = some r) :
  Vm.Fn Tryz.prog 62 [] [(eI .u64 vn)] (.agg (r.map (eI .u64))) [] := by
 refine zf Tryz.func62 Tryz.ntmps62 ?_
 unfold iM at hr
 refine zz ?_
 refine xw (v := (.agg ([vn,0,0,0].map (eI .u64)))) (bQ rfl (jO bX kC rfl)) ?_
 refine zz ?_
 obtain rfl := sj hr
 exact fD Tryz.results62 bM (zG [])
theorem aCf {N : Nat} {va : List Int} {b : List Int} {r : (List Int) × Bool} (hr : sA N va b = some r) :
  Vm.Fn Tryz.prog 90 [] [(.agg (va.map (eI .u64))),(.agg (b.map (eI .u64)))] (.tup [(.agg (r.1.map (eI .u64))),(eB r.2)]) [] := by
 refine zf Tryz.func90 Tryz.ntmps90 ?_
 unfold sA at hr
 refine zz ?_
 refine AB.seq_g fun K1 hK1 hG1 => ?_
 have J1 : ∀ (borrow : Int) (l1 : List Int),yW N borrow l1 = some r → K1 (aK 29 [(4,(.ptr 0 0)),(6,(.ptr 1 0)),(7,(eI .u64 borrow))]) [some ⟨31,(List.replicate 4 0).map (eI .u64)⟩,some ⟨31,l1.map (eI .u64)⟩] := by
  intro borrow l1 hr
  unfold yW at hr
  refine hK1 _ _ ?_
  obtain ⟨q,h_1,hr⟩ := aC hr
  refine zz ?_
  obtain rfl := sj hr
  exact wM Tryz.results90 bM bM (qH [])
 obtain ⟨bO,hL2,hr⟩ := aC hr
 refine zz ?_
 refine AB.block <| AB.loopN (fun m s h => ∃ (borrow_1 : Int) (x9 : Int) (l3 : List Int),oL N va b m borrow_1 x9 l3 = some bO ∧ Ghost 0 s h (aK 29 [(2,(.ptr 0 0)),(3,(.ptr 1 0)),(4,(.ptr 2 0)),(6,(.ptr 3 0)),(7,(eI .u64 borrow_1)),(9,(eI .i64 x9))]) [some ⟨31,va.map (eI .u64)⟩,some ⟨31,b.map (eI .u64)⟩,some ⟨31,(List.replicate 4 0).map (eI .u64)⟩,some ⟨31,l3.map (eI .u64)⟩]) (n := N) ⟨0,0,List.replicate 4 0,hL2,(zG [0,1,2,3])⟩ (by rintro s h ⟨_,_,_,h0,_⟩; simp [oL] at h0) ?_
 rintro m2 s h ⟨borrow_1,x9,l3,hr2,hg⟩
 refine AB.ghost hg ?_
 clear hg hL2
 rw [oL] at hr2
 refine zz ?_
 refine AB.seq ?_
 refine zk hr2 rfl (fun h2 hr2 => ?_) (fun h2 hr2 => ?_)
 ·refine zz ?_
  refine AB.seq <| AB.block ?_
  obtain ⟨x15,h_3,hr2⟩ := aC hr2
  obtain ⟨x18,h_4,hr2⟩ := aC hr2
  obtain ⟨dI,h_5,hr2⟩ := aC hr2
  obtain ⟨fW,h_7,hr2⟩ := aC hr2
  refine zz ?_
  refine AB.rs mixed [115] [] [[0,1,2,3,4,5,6,7,8,9,10,11,12,13,14]] ?_
  refine zz ?_
  refine xu (aAV h_5) ?_
  refine zz ?_
  exact ⟨dI.2,IntKind.i64.wrap (x9 + 1),l3.set (Int.toNat x9) dI.1,hr2,(zG [0,1,2,3])⟩
 ·refine zz ?_
  obtain rfl := sj hr2
  refine zz ?_
  exact hG1 _ _ _ _ (zG [2,3]) (J1 borrow_1 l3 hr)
theorem aB2 {N : Nat} {r : (List Int)} (hr : pI N = some r) :
  Vm.Fn Tryz.prog 92 [] [] (.agg (r.map (eI .u64))) [] := by
 refine zf Tryz.func92 Tryz.ntmps92 ?_
 unfold pI at hr
 obtain ⟨x5,h_1,hr⟩ := aC hr
 obtain ⟨x6,h_2,hr⟩ := aC hr
 obtain ⟨q,h_3,hr⟩ := aC hr
 refine zz ?_
 refine xw (v := (.agg ([0,0,0,0].map (eI .u64)))) (bQ rfl (jO bX kC rfl)) <| xp (q9 h_1) <| xp (aCf h_2) ?_
 refine zz ?_
 obtain rfl := sj hr
 exact fD Tryz.results92 bM (zG [])
theorem t9 {N : Nat} {va : List Int} {vi : Int} {r : Bool} (hr : mN N va vi = some r) :
  Vm.Fn Tryz.prog 116 [] [(.agg (va.map (eI .u64))),(eI .i64 vi)] (eB r) [] := by
 refine zf Tryz.func116 Tryz.ntmps116 ?_
 unfold mN at hr
 obtain ⟨x7,h_1,hr⟩ := aC hr
 obtain ⟨b4,h_2,hr⟩ := aC hr
 refine zz ?_
 obtain rfl := sj hr
 exact bL Tryz.results116 []
theorem aKg {N : Nat} {va : List Int} {vn : Int} {r : (List Int)} (hr : aCj N va vn = some r) :
  Vm.Fn Tryz.prog 91 [] [(.agg (va.map (eI .u64))),(eI .i64 vn)] (.agg (r.map (eI .u64))) [] := by
 refine zf Tryz.func91 Tryz.ntmps91 ?_
 unfold aCj at hr
 refine zz ?_
 refine AB.seq ?_
 refine zz ?_
 refine zk hr rfl (fun h1 hr => ?_) (fun h1 hr => ?_)
 ·obtain ⟨q,h_2,hr⟩ := aC hr
  refine zz ?_
  obtain rfl := sj hr
  exact fD Tryz.results91 bM (zG [])
 ·refine zz ?_
  refine AB.seq ?_
  refine zz ?_
  refine zk hr rfl (fun h3 hr => ?_) (fun h3 hr => ?_)
  ·refine zz ?_
   refine xw (v := (.agg ([0,0,0,0].map (eI .u64)))) (bQ rfl (jO bX kC rfl)) ?_
   refine zz ?_
   obtain rfl := sj hr
   exact fD Tryz.results91 bM (zG [])
  ·refine zz ?_
   refine AB.seq_g fun K1 hK1 hG1 => ?_
   have J1 : ∀ (l1 : List Int),aCa N l1 = some r → K1 (aK 34 [(4,(.ptr 0 0)),(5,(.ptr 1 0))]) [some ⟨31,(List.replicate 4 0).map (eI .u64)⟩,some ⟨31,l1.map (eI .u64)⟩] := by
    intro l1 hr
    unfold aCa at hr
    refine hK1 _ _ ?_
    obtain ⟨q_1,h_4,hr⟩ := aC hr
    refine zz ?_
    obtain rfl := sj hr
    exact fD Tryz.results91 bM (zG [])
   obtain ⟨bO,hL2,hr⟩ := aC hr
   refine zz ?_
   refine AB.block <| AB.loopN (fun m s h => ∃ (vi : Int) (l2 : List Int),iG N va vn m vi l2 = some bO ∧ Ghost 0 s h (aK 34 [(1,(eI .i64 vn)),(2,(.ptr 0 0)),(4,(.ptr 1 0)),(5,(.ptr 2 0)),(6,(eI .i64 vi))]) [some ⟨31,va.map (eI .u64)⟩,some ⟨31,(List.replicate 4 0).map (eI .u64)⟩,some ⟨31,l2.map (eI .u64)⟩]) (n := N) ⟨0,List.replicate 4 0,hL2,(zG [0,1,2])⟩ (by rintro s h ⟨_,_,h0,_⟩; simp [iG] at h0) ?_
   rintro m2 s h ⟨vi,l2,hr2,hg⟩
   refine AB.ghost hg ?_
   clear hg hL2
   rw [iG] at hr2
   refine AB.seq ?_
   refine zz ?_
   refine zk hr2 rfl (fun h5 hr2 => ?_) (fun h5 hr2 => ?_)
   ·refine zz ?_
    refine AB.seq_g fun K3 hK3 hG3 => ?_
    have J3 : ∀ (dE : List Int),yE N va vn vi (iG N va vn m2) dE = some bO → K3 (aK 34 [(1,(eI .i64 vn)),(2,(.ptr 0 0)),(4,(.ptr 1 0)),(5,(.ptr 2 0)),(6,(eI .i64 vi))]) [some ⟨31,va.map (eI .u64)⟩,some ⟨31,(List.replicate 4 0).map (eI .u64)⟩,some ⟨31,dE.map (eI .u64)⟩] := by
     intro dE hr2
     unfold yE at hr2
     refine hK3 _ _ ?_
     refine zz ?_
     exact ⟨IntKind.i64.wrap (vi + 1),dE,hr2,(zG [0,1,2])⟩
    refine AB.block ?_
    obtain ⟨q_2,h_6,hr2⟩ := aC hr2
    obtain ⟨eN,h_7,hr2⟩ := aC hr2
    refine zz ?_
    refine xp (t9 h_7) ?_
    refine zz ?_
    refine zk hr2 rfl (fun h8 hr2 => ?_) (fun h8 hr2 => ?_)
    ·obtain ⟨x26,h_9,hr2⟩ := aC hr2
     obtain ⟨j4,h_10,hr2⟩ := aC hr2
     refine AB.rs mixed [] [] [[0,1,2,3,4,5,6,7,8,9]] ?_
     refine zz ?_
     exact hG3 _ _ _ _ (zG [0,1,2]) (J3 (l2.set (Int.toNat (IntKind.i64.wrap (Int.tdiv vi 64))) (bits .or .u64 x26 j4)) hr2)
    ·refine zz ?_
     exact hG3 _ _ _ _ (zG [0,1,2]) (J3 l2 hr2)
   ·refine zz ?_
    obtain rfl := sj hr2
    refine zz ?_
    exact hG1 _ _ _ _ (zG [1,2]) (J1 l2 hr)
theorem aAm {N : Nat} {r : (List Int)} (hr : qT N = some r) :
  Vm.Fn Tryz.prog 58 [] [] (.agg (r.map (eI .u64))) [] := by
 refine zf Tryz.func58 Tryz.ntmps58 ?_
 unfold qT at hr
 obtain ⟨x1,h_1,hr⟩ := aC hr
 obtain ⟨x2,h_2,hr⟩ := aC hr
 obtain ⟨q,h_3,hr⟩ := aC hr
 refine zz ?_
 refine xp (aB2 h_1) <| xp (aKg h_2) ?_
 refine zz ?_
 obtain rfl := sj hr
 exact fD Tryz.results58 bM (zG [])
theorem pJ {N : Nat} {va : List Int} {r : Bool} (hr : nO N va = some r) :
  Vm.Fn Tryz.prog 59 [] [(.agg (va.map (eI .u64)))] (eB r) [] := by
 refine zf Tryz.func59 Tryz.ntmps59 ?_
 unfold nO at hr
 obtain ⟨q,h_1,hr⟩ := aC hr
 refine zz ?_
 refine xw (v := (.agg ([0,0,0,0].map (eI .u64)))) (bQ rfl (jO bX kC rfl)) ?_
 refine zz ?_
 obtain rfl := sj hr
 exact bL Tryz.results59 []
theorem yF {N : Nat} {va : List Int} {b : List Int} {r : Int} (hr : r7 N va b = some r) :
  Vm.Fn Tryz.prog 60 [] [(.agg (va.map (eI .u64))),(.agg (b.map (eI .u64)))] (eI .i64 r) [] := by
 refine zf Tryz.func60 Tryz.ntmps60 ?_
 unfold r7 at hr
 refine zz ?_
 refine AB.seq_g fun K1 hK1 hG1 => ?_
 have J1 : aBO N = some r → K1 (aK 24 []) [] := by
  intro hr
  unfold aBO at hr
  refine hK1 _ _ ?_
  refine zz ?_
  obtain rfl := sj hr
  exact bL Tryz.results60 []
 obtain ⟨bO,hL2,hr⟩ := aC hr
 refine zz ?_
 refine AB.block <| AB.loopN (fun m s h => ∃ (vi : Int),oD N va b m vi = some bO ∧ Ghost 0 s h (aK 24 [(2,(.ptr 0 0)),(3,(.ptr 1 0)),(5,(eI .i64 vi))]) [some ⟨31,va.map (eI .u64)⟩,some ⟨31,b.map (eI .u64)⟩]) (n := N) ⟨3,hL2,(zG [0,1])⟩ (by rintro s h ⟨_,h0,_⟩; simp [oD] at h0) ?_
 rintro m2 s h ⟨vi,hr2,hg⟩
 refine AB.ghost hg ?_
 clear hg hL2
 rw [oD] at hr2
 refine AB.seq ?_
 refine zz ?_
 refine zk hr2 rfl (fun h1 hr2 => ?_) (fun h1 hr2 => ?_)
 ·refine zz ?_
  refine AB.seq <| AB.block <| AB.seq <| AB.seq ?_
  obtain ⟨b4,h_2,hr2⟩ := aC hr2
  obtain ⟨bH,h_3,hr2⟩ := aC hr2
  refine AB.rs mixed [] [] [[0,1,2,3,4,5,6]] ?_
  refine zz ?_
  refine zk hr2 rfl (fun h4 hr2 => ?_) (fun h4 hr2 => ?_)
  ·refine zz ?_
   obtain rfl := sj hr2
   obtain rfl := sj hr
   exact bL Tryz.results60 []
  ·refine zz ?_
   refine AB.seq <| AB.rs mixed [] [] [[0,1,2,3,4,5,6]] ?_
   refine zz ?_
   refine zk hr2 rfl (fun h5 hr2 => ?_) (fun h5 hr2 => ?_)
   ·refine zz ?_
    obtain rfl := sj hr2
    obtain rfl := sj hr
    exact bL Tryz.results60 []
   ·refine zz ?_
    exact ⟨IntKind.i64.wrap (vi - 1),hr2,(zG [0,1])⟩
 ·refine zz ?_
  obtain rfl := sj hr2
  refine zz ?_
  exact hG1 _ _ _ _ (zG []) (J1 hr)
theorem aEx {N : Nat} {va : List Int} {b : List Int} {r : (List Int) × Bool} (hr : t6 N va b = some r) :
  Vm.Fn Tryz.prog 89 [] [(.agg (va.map (eI .u64))),(.agg (b.map (eI .u64)))] (.tup [(.agg (r.1.map (eI .u64))),(eB r.2)]) [] := by
 refine zf Tryz.func89 Tryz.ntmps89 ?_
 unfold t6 at hr
 refine zz ?_
 refine AB.seq_g fun K1 hK1 hG1 => ?_
 have J1 : ∀ (jH : Int) (l1 : List Int),z9 N jH l1 = some r → K1 (aK 29 [(4,(.ptr 0 0)),(6,(.ptr 1 0)),(7,(eI .u64 jH))]) [some ⟨31,(List.replicate 4 0).map (eI .u64)⟩,some ⟨31,l1.map (eI .u64)⟩] := by
  intro jH l1 hr
  unfold z9 at hr
  refine hK1 _ _ ?_
  obtain ⟨q,h_1,hr⟩ := aC hr
  refine zz ?_
  obtain rfl := sj hr
  exact wM Tryz.results89 bM bM (qH [])
 obtain ⟨bO,hL2,hr⟩ := aC hr
 refine zz ?_
 refine AB.block <| AB.loopN (fun m s h => ∃ (carry_1 : Int) (x9 : Int) (l3 : List Int),oT N va b m carry_1 x9 l3 = some bO ∧ Ghost 0 s h (aK 29 [(2,(.ptr 0 0)),(3,(.ptr 1 0)),(4,(.ptr 2 0)),(6,(.ptr 3 0)),(7,(eI .u64 carry_1)),(9,(eI .i64 x9))]) [some ⟨31,va.map (eI .u64)⟩,some ⟨31,b.map (eI .u64)⟩,some ⟨31,(List.replicate 4 0).map (eI .u64)⟩,some ⟨31,l3.map (eI .u64)⟩]) (n := N) ⟨0,0,List.replicate 4 0,hL2,(zG [0,1,2,3])⟩ (by rintro s h ⟨_,_,_,h0,_⟩; simp [oT] at h0) ?_
 rintro m2 s h ⟨carry_1,x9,l3,hr2,hg⟩
 refine AB.ghost hg ?_
 clear hg hL2
 rw [oT] at hr2
 refine zz ?_
 refine AB.seq ?_
 refine zk hr2 rfl (fun h2 hr2 => ?_) (fun h2 hr2 => ?_)
 ·refine zz ?_
  refine AB.seq <| AB.block ?_
  obtain ⟨x15,h_3,hr2⟩ := aC hr2
  obtain ⟨x18,h_4,hr2⟩ := aC hr2
  obtain ⟨dI,h_5,hr2⟩ := aC hr2
  obtain ⟨fW,h_7,hr2⟩ := aC hr2
  refine zz ?_
  refine AB.rs mixed [114] [] [[0,1,2,3,4,5,6,7,8,9,10,11,12,13,14]] ?_
  refine zz ?_
  refine xu (jY h_5) ?_
  refine zz ?_
  exact ⟨dI.2,IntKind.i64.wrap (x9 + 1),l3.set (Int.toNat x9) dI.1,hr2,(zG [0,1,2,3])⟩
 ·refine zz ?_
  obtain rfl := sj hr2
  refine zz ?_
  exact hG1 _ _ _ _ (zG [2,3]) (J1 carry_1 l3 hr)
theorem aEc {N : Nat} {hi : List Int} {lo : List Int} {b : List Int} {r : (List Int) × (List Int) × Bool} (hr : xO N hi lo b = some r) :
  Vm.Fn Tryz.prog 96 [] [(.agg (hi.map (eI .u64))),(.agg (lo.map (eI .u64))),(.agg (b.map (eI .u64)))] (.tup [(.agg (r.1.map (eI .u64))),(.agg (r.2.1.map (eI .u64))),(eB r.2.2)]) [] := by
 refine zf Tryz.func96 Tryz.ntmps96 ?_
 unfold xO at hr
 refine zz ?_
 refine AB.seq ?_
 obtain ⟨q,h_1,hr⟩ := aC hr
 obtain ⟨q_1,h_2,hr⟩ := aC hr
 obtain ⟨eD,h_3,hr⟩ := aC hr
 refine zz ?_
 refine xp (yF h_3) ?_
 refine zz ?_
 refine zk hr rfl (fun h4 hr => ?_) (fun h4 hr => ?_)
 ·refine AB.seq <| AB.rd (d7 []) (d7 []) mixed <| DrawG.pick (n := 4) (i := 0) (by decide +kernel) rfl (gS (v := (.agg ((List.replicate 4 0).map (eI .u64)))) (sv (bW rfl (xT (E := (eI .u64)) (l := List.replicate 4 0) bX rfl rfl rfl)))) ?_
  refine DrawG.jn (m := 2) (L := lst [0,1,2] 5) (s1 := aK 61 [(6,(.ptr 0 0)),(7,(.ptr 1 0)),(8,(eB false)),(16,(.agg ((List.replicate 4 0).map (eI .u64))))]) (h1 := [some ⟨31,(List.replicate 4 0).map (eI .u64)⟩,some ⟨31,(List.replicate 4 0).map (eI .u64)⟩]) ?_ (fun J => ?_)
  ·refine DrawG.pick (n := 1) (i := 3) (by decide +kernel) rfl (gN (h' := [some ⟨31,(List.replicate 4 0).map (eI .u64)⟩,some ⟨31,(List.replicate 4 0).map (eI .u64)⟩]) (sv (bN rfl rfl (q5 (E := (eI .u64)) (l := List.replicate 4 0) bX rfl rfl (fun _ => rfl) rfl rfl rfl)))) <| DrawG.pick (n := 0) (i := 4) (by decide +kernel) rfl (gS (v := (eB false)) (sv (q4 rfl))) <| DrawG.nil (by decide +kernel) ?_
   refine zz ?_
   obtain rfl := sj hr
   exact zr3 Tryz.results96 bM bM bM (qH [])
  ·refine DrawG.fork (n := 3) [1,2] (by decide +kernel) (by decide) ?_
   refine (Fork.cons rfl (gS (v := (.agg ((List.replicate 4 0).map (eI .u64)))) (sv (bW rfl (xT (E := (eI .u64)) (l := List.replicate 4 0) bX rfl rfl rfl)))) ?_ (Fork.cons rfl (gN (h' := [some ⟨31,hi.map (eI .u64)⟩,some ⟨31,lo.map (eI .u64)⟩,some ⟨31,b.map (eI .u64)⟩,some ⟨31,(List.replicate 4 0).map (eI .u64)⟩,some ⟨31,(List.replicate 4 0).map (eI .u64)⟩]) (sv (bN rfl rfl (q5 (E := (eI .u64)) (l := List.replicate 4 0) bX rfl rfl (fun _ => rfl) rfl rfl rfl)))) ?_ Fork.nil))
   ·refine DrawG.pick (n := 2) (i := 2) (by decide +kernel) rfl (gN (h' := [some ⟨31,hi.map (eI .u64)⟩,some ⟨31,lo.map (eI .u64)⟩,some ⟨31,b.map (eI .u64)⟩,some ⟨31,(List.replicate 4 0).map (eI .u64)⟩,some ⟨31,(List.replicate 4 0).map (eI .u64)⟩]) (sv (bN rfl rfl (q5 (E := (eI .u64)) (l := List.replicate 4 0) bX rfl rfl (fun _ => rfl) rfl rfl rfl)))) ?_
    exact DrawG.jg (by decide +kernel) (by decide +kernel) (zG [3,4]) J
   ·refine DrawG.pick (n := 2) (i := 1) (by decide +kernel) rfl (gS (v := (.agg ((List.replicate 4 0).map (eI .u64)))) (sv (bW rfl (xT (E := (eI .u64)) (l := List.replicate 4 0) bX rfl rfl rfl)))) ?_
    exact DrawG.jg (by decide +kernel) (by decide +kernel) (zG [3,4]) J
 ·refine zz ?_
  refine AB.seq_g fun K1 hK1 hG1 => ?_
  have J1 : ∀ (l0 : List Int) (l1 : List Int),zI N l0 l1 = some r → K1 (aK 61 [(6,(.ptr 0 0)),(7,(.ptr 1 0))]) [some ⟨31,l0.map (eI .u64)⟩,some ⟨31,l1.map (eI .u64)⟩] := by
   intro l0 l1 hr
   unfold zI at hr
   refine hK1 _ _ <| AB.seq ?_
   obtain ⟨q_2,h_5,hr⟩ := aC hr
   obtain ⟨q_3,h_6,hr⟩ := aC hr
   refine AB.rd (d7 []) (d7 []) mixed <| DrawG.pick (n := 4) (i := 0) (by decide +kernel) rfl (gS (v := (.agg (l0.map (eI .u64)))) (sv (bW rfl (xT (E := (eI .u64)) (l := l0) bX rfl rfl (aZ h_5))))) ?_
   refine DrawG.jn (m := 2) (L := lst [0,1,2] 5) (s1 := aK 61 [(6,(.ptr 0 0)),(7,(.ptr 1 0)),(60,(.agg (l1.map (eI .u64))))]) (h1 := [some ⟨31,l0.map (eI .u64)⟩,some ⟨31,l1.map (eI .u64)⟩]) ?_ (fun J => ?_)
   ·refine DrawG.pick (n := 1) (i := 3) (by decide +kernel) rfl (gN (h' := [some ⟨31,l0.map (eI .u64)⟩,some ⟨31,l1.map (eI .u64)⟩]) (sv (bN rfl rfl (q5 (E := (eI .u64)) (l := l1) bX rfl rfl (fun _ => rfl) (aZ h_6) (aZ h_6) rfl)))) <| DrawG.pick (n := 0) (i := 4) (by decide +kernel) rfl (gS (v := (eB true)) (sv (q4 rfl))) <| DrawG.nil (by decide +kernel) ?_
    refine zz ?_
    obtain rfl := sj hr
    exact zr3 Tryz.results96 bM bM bM (qH [])
   ·refine DrawG.fork (n := 3) [1,2] (by decide +kernel) (by decide) ?_
    refine (Fork.cons rfl (gS (v := (.agg (l1.map (eI .u64)))) (sv (bW rfl (xT (E := (eI .u64)) (l := l1) bX rfl rfl (aZ h_6))))) ?_ (Fork.cons rfl (gN (h' := [some ⟨31,l0.map (eI .u64)⟩,some ⟨31,l1.map (eI .u64)⟩]) (sv (bN rfl rfl (q5 (E := (eI .u64)) (l := l0) bX rfl rfl (fun _ => rfl) (aZ h_5) (aZ h_5) rfl)))) ?_ Fork.nil))
    ·refine DrawG.pick (n := 2) (i := 2) (by decide +kernel) rfl (gN (h' := [some ⟨31,l0.map (eI .u64)⟩,some ⟨31,l1.map (eI .u64)⟩]) (sv (bN rfl rfl (q5 (E := (eI .u64)) (l := l0) bX rfl rfl (fun _ => rfl) (aZ h_5) (aZ h_5) rfl)))) ?_
     exact DrawG.jg (by decide +kernel) (by decide +kernel) (zG [0,1]) J
    ·refine DrawG.pick (n := 2) (i := 1) (by decide +kernel) rfl (gS (v := (.agg (l1.map (eI .u64)))) (sv (bW rfl (xT (E := (eI .u64)) (l := l1) bX rfl rfl (aZ h_6))))) ?_
     exact DrawG.jg (by decide +kernel) (by decide +kernel) (zG [0,1]) J
  obtain ⟨bO,hL2,hr⟩ := aC hr
  refine zz ?_
  refine AB.block <| AB.loopN (fun m s h => ∃ (vi : Int) (l2 : List Int) (l3 : List Int),eC N lo b m vi l2 l3 = some bO ∧ Ghost 0 s h (aK 61 [(4,(.ptr 0 0)),(5,(.ptr 1 0)),(6,(.ptr 2 0)),(7,(.ptr 3 0)),(9,(eI .i64 vi))]) [some ⟨31,lo.map (eI .u64)⟩,some ⟨31,b.map (eI .u64)⟩,some ⟨31,l2.map (eI .u64)⟩,some ⟨31,l3.map (eI .u64)⟩]) (n := N) ⟨255,List.replicate 4 0,hi,hL2,(zG [1,2,3,4])⟩ (by rintro s h ⟨_,_,_,h0,_⟩; simp [eC] at h0) ?_
  rintro m2 s h ⟨vi,l2,l3,hr2,hg⟩
  refine AB.ghost hg ?_
  clear hg hL2
  rw [eC] at hr2
  refine AB.seq ?_
  refine zz ?_
  refine zk hr2 rfl (fun h7 hr2 => ?_) (fun h7 hr2 => ?_)
  ·refine zz ?_
   refine AB.seq_g fun K3 hK3 hG3 => ?_
   have J3 : ∀ (dE : List Int) (eK : List Int),rZ N lo b vi (eC N lo b m2) dE eK = some bO → K3 (aK 61 [(4,(.ptr 0 0)),(5,(.ptr 1 0)),(6,(.ptr 2 0)),(7,(.ptr 3 0)),(9,(eI .i64 vi))]) [some ⟨31,lo.map (eI .u64)⟩,some ⟨31,b.map (eI .u64)⟩,some ⟨31,dE.map (eI .u64)⟩,some ⟨31,eK.map (eI .u64)⟩] := by
    intro dE eK hr2
    unfold rZ at hr2
    refine hK3 _ _ ?_
    refine zz ?_
    exact ⟨IntKind.i64.wrap (vi - 1),dE,eK,hr2,(zG [0,1,2,3])⟩
   refine AB.block ?_
   obtain ⟨q_4,h_8,hr2⟩ := aC hr2
   obtain ⟨eN,h_9,hr2⟩ := aC hr2
   refine zz ?_
   refine xp (t9 h_9) ?_
   obtain ⟨x27,h_10,hr2⟩ := aC hr2
   obtain ⟨q_5,h_11,hr2⟩ := aC hr2
   refine zz ?_
   refine xp (aEx h_10) ?_
   refine zz ?_
   refine AB.seq_g fun K4 hK4 hG4 => ?_
   have J4 : ∀ (cJ : List Int),r4 N lo b vi l2 eN (eC N lo b m2) cJ = some bO → K4 (aK 61 [(4,(.ptr 0 0)),(5,(.ptr 1 0)),(6,(.ptr 2 0)),(7,(.ptr 3 0)),(9,(eI .i64 vi)),(10,(eB eN))]) [some ⟨31,lo.map (eI .u64)⟩,some ⟨31,b.map (eI .u64)⟩,some ⟨31,l2.map (eI .u64)⟩,some ⟨31,cJ.map (eI .u64)⟩] := by
    intro cJ hr2
    unfold r4 at hr2
    refine hK4 _ _ ?_
    refine AB.seq_g fun K5 hK5 hG5 => ?_
    have J5 : ∀ (x43 : Bool),oB N lo b vi l2 cJ (eC N lo b m2) x43 = some bO → K5 (aK 61 [(4,(.ptr 0 0)),(5,(.ptr 1 0)),(6,(.ptr 2 0)),(7,(.ptr 3 0)),(9,(eI .i64 vi)),(43,(eB x43))]) [some ⟨31,lo.map (eI .u64)⟩,some ⟨31,b.map (eI .u64)⟩,some ⟨31,l2.map (eI .u64)⟩,some ⟨31,cJ.map (eI .u64)⟩] := by
     intro x43 hr2
     unfold oB at hr2
     refine hK5 _ _ ?_
     refine zk hr2 rfl (fun h12 hr2 => ?_) (fun h12 hr2 => ?_)
     ·obtain ⟨q_6,h_13,hr2⟩ := aC hr2
      obtain ⟨x47,h_14,hr2⟩ := aC hr2
      obtain ⟨q_7,h_15,hr2⟩ := aC hr2
      refine zz ?_
      refine xp (aCf h_14) ?_
      obtain ⟨x52,h_16,hr2⟩ := aC hr2
      obtain ⟨x56,h_17,hr2⟩ := aC hr2
      refine zz ?_
      refine AB.rs mixed [] [] [[0,1,2,3,4,5,6,7,8,9]] ?_
      refine zz ?_
      exact hG3 _ _ _ _ (zG [0,1,2,3]) (J3 (l2.set (Int.toNat (IntKind.i64.wrap (Int.tdiv vi 64))) (bits .or .u64 x52 x56)) x47.1 hr2)
     ·refine zz ?_
      exact hG3 _ _ _ _ (zG [0,1,2,3]) (J3 l2 cJ hr2)
    rcases Bool.eq_false_or_eq_true eN with h18 | h18
    ·replace hr2 := eO hr2 h18
     refine xr ?_
     refine zz ?_
     exact hG5 _ _ _ _ (zG [0,1,2,3]) (J5 true hr2)
    ·replace hr2 := eP hr2 h18
     obtain ⟨q_8,h_19,hr2⟩ := aC hr2
     obtain ⟨x41,h_20,hr2⟩ := aC hr2
     refine xr ?_
     refine zz ?_
     refine xCg (v := (eI .i64 x41)) (h' := [some ⟨31,lo.map (eI .u64)⟩,some ⟨31,b.map (eI .u64)⟩,some ⟨31,l2.map (eI .u64)⟩,some ⟨31,cJ.map (eI .u64)⟩]) rfl rfl h18 rfl (Vm.Fn.pure (yF h_20) zR rfl) ?_
     refine zz ?_
     exact hG5 _ _ _ _ (zG [0,1,2,3]) (J5 (decide (0 ≤ x41)) hr2)
   obtain ⟨q_9,h_21,hr2⟩ := aC hr2
   obtain ⟨kL,h_22,hr2⟩ := aC hr2
   refine zz ?_
   refine xp (t9 h_22) ?_
   refine zz ?_
   refine zk hr2 rfl (fun h23 hr2 => ?_) (fun h23 hr2 => ?_)
   ·obtain ⟨jU,h_24,hr2⟩ := aC hr2
    refine zz ?_
    exact hG4 _ _ _ _ (zG [0,1,2,3]) (J4 (x27.1.set (Int.toNat 0) (bits .or .u64 jU 1)) hr2)
   ·refine zz ?_
    exact hG4 _ _ _ _ (zG [0,1,2,3]) (J4 x27.1 hr2)
  ·refine zz ?_
   obtain rfl := sj hr2
   refine zz ?_
   exact hG1 _ _ _ _ (zG [2,3]) (J1 l2 l3 hr)
theorem pM {N : Nat} {va : List Int} {vm : List Int} {r : (List Int)} (hr : kI N va vm = some r) :
  Vm.Fn Tryz.prog 88 [] [(.agg (va.map (eI .u64))),(.agg (vm.map (eI .u64)))] (.agg (r.map (eI .u64))) [] := by
 refine zf Tryz.func88 Tryz.ntmps88 ?_
 unfold kI at hr
 obtain ⟨q,h_1,hr⟩ := aC hr
 obtain ⟨q_1,h_2,hr⟩ := aC hr
 obtain ⟨eM,h_3,hr⟩ := aC hr
 obtain ⟨q_2,h_4,hr⟩ := aC hr
 obtain ⟨q_3,h_5,hr⟩ := aC hr
 refine zz ?_
 refine xw (v := (.agg ([0,0,0,0].map (eI .u64)))) (bQ rfl (jO bX kC rfl)) ?_
 refine zz ?_
 refine xp (aEc h_3) ?_
 refine zz ?_
 obtain rfl := sj hr
 exact fD Tryz.results88 bM (zG [])
theorem aF6 {N : Nat} {va : List Int} {b : List Int} {vm : List Int} {r : (List Int)} (hr : uV N va b vm = some r) :
  Vm.Fn Tryz.prog 57 [] [(.agg (va.map (eI .u64))),(.agg (b.map (eI .u64))),(.agg (vm.map (eI .u64)))] (.agg (r.map (eI .u64))) [] := by
 refine zf Tryz.func57 Tryz.ntmps57 ?_
 unfold uV at hr
 refine zz ?_
 refine AB.seq ?_
 obtain ⟨q,h_1,hr⟩ := aC hr
 obtain ⟨bV,h_2,hr⟩ := aC hr
 refine zz ?_
 refine xp (pJ h_2) ?_
 refine zz ?_
 refine zk hr rfl (fun h3 hr => ?_) (fun h3 hr => ?_)
 ·refine zz ?_
  obtain rfl := sj hr
  exact fD Tryz.results57 bM (zG [])
 ·refine zz ?_
  refine AB.seq ?_
  obtain ⟨q_1,h_4,hr⟩ := aC hr
  obtain ⟨bH,h_5,hr⟩ := aC hr
  obtain ⟨q_2,h_7,hr⟩ := aC hr
  obtain ⟨x17,h_8,hr⟩ := aC hr
  obtain ⟨q_3,h_10,hr⟩ := aC hr
  obtain ⟨q_4,h_11,hr⟩ := aC hr
  refine AB.rs mixed [88] [] [[0,1,2,3,4,5,6,7]] ?_
  refine zz ?_
  refine xu (pM h_5) ?_
  refine zz ?_
  refine xu (pM h_8) ?_
  obtain ⟨dI,h_12,hr⟩ := aC hr
  obtain ⟨q_5,h_13,hr⟩ := aC hr
  refine zz ?_
  refine xp (aEx h_12) ?_
  refine zz ?_
  refine AB.seq_g fun K1 hK1 hG1 => ?_
  have J1 : ∀ (l1 : List Int),mU N l1 = some r → K1 (aK 38 [(6,(.ptr 0 0)),(7,(.ptr 1 0))]) [some ⟨31,(List.replicate 4 0).map (eI .u64)⟩,some ⟨31,l1.map (eI .u64)⟩] := by
   intro l1 hr
   unfold mU at hr
   refine hK1 _ _ ?_
   obtain ⟨q_6,h_14,hr⟩ := aC hr
   refine zz ?_
   obtain rfl := sj hr
   exact fD Tryz.results57 bM (zG [])
  refine AB.seq_g fun K2 hK2 hG2 => ?_
  have J2 : ∀ (j4 : Bool),kF N vm dI j4 = some r → K2 (aK 38 [(5,(.ptr 0 0)),(6,(.ptr 1 0)),(7,(.ptr 2 0)),(30,(eB j4))]) [some ⟨31,vm.map (eI .u64)⟩,some ⟨31,(List.replicate 4 0).map (eI .u64)⟩,some ⟨31,dI.1.map (eI .u64)⟩] := by
   intro j4 hr
   unfold kF at hr
   refine hK2 _ _ ?_
   refine zk hr rfl (fun h15 hr => ?_) (fun h15 hr => ?_)
   ·obtain ⟨dH,h_16,hr⟩ := aC hr
    obtain ⟨q_7,h_17,hr⟩ := aC hr
    refine zz ?_
    refine xp (aCf h_16) ?_
    refine zz ?_
    exact hG1 _ _ _ _ (zG [1,2]) (J1 dH.1 hr)
   ·refine zz ?_
    exact hG1 _ _ _ _ (zG [1,2]) (J1 dI.1 hr)
  rcases Bool.eq_false_or_eq_true dI.2 with h18 | h18
  ·replace hr := eO hr h18
   refine xr ?_
   refine zz ?_
   exact hG2 _ _ _ _ (zG [2,3,4]) (J2 true hr)
  ·replace hr := eP hr h18
   obtain ⟨x28,h_19,hr⟩ := aC hr
   refine xr ?_
   refine zz ?_
   refine xCg (v := (eI .i64 x28)) (h' := [some ⟨31,bH.map (eI .u64)⟩,some ⟨31,x17.map (eI .u64)⟩,some ⟨31,vm.map (eI .u64)⟩,some ⟨31,(List.replicate 4 0).map (eI .u64)⟩,some ⟨31,dI.1.map (eI .u64)⟩]) rfl rfl h18 rfl (Vm.Fn.pure (yF h_19) zR rfl) ?_
   refine zz ?_
   exact hG2 _ _ _ _ (zG [2,3,4]) (J2 (decide (0 ≤ x28)) hr)
theorem aAN {N : Nat} {va : List Int} {b : List Int} {r : (List Int)} (hr : mR N va b = some r) :
  Vm.Fn Tryz.prog 25 [] [(.agg (va.map (eI .u64))),(.agg (b.map (eI .u64)))] (.agg (r.map (eI .u64))) [] := by
 refine zf Tryz.func25 Tryz.ntmps25 ?_
 unfold mR at hr
 refine zz ?_
 refine AB.seq ?_
 obtain ⟨q,h_1,hr⟩ := aC hr
 obtain ⟨q_1,h_2,hr⟩ := aC hr
 obtain ⟨x7,h_3,hr⟩ := aC hr
 obtain ⟨x8,h_5,hr⟩ := aC hr
 obtain ⟨q_2,h_7,hr⟩ := aC hr
 refine AB.rs mixed [57,58] [] [[0,1,2,3,4]] ?_
 refine zz ?_
 refine xu (aAm h_3) <| xu (aF6 h_5) ?_
 refine zz ?_
 obtain rfl := sj hr
 exact fD Tryz.results25 bM (zG [])
theorem i4 {N : Nat} {vh : List Int} {r : (List Int)} (hr : hY N vh = some r) :
  Vm.Fn Tryz.prog 6 [] [(.agg (vh.map (eI .u8)))] (.agg (r.map (eI .u64))) [] := by
 refine zf Tryz.func6 Tryz.ntmps6 ?_
 unfold hY at hr
 obtain ⟨q,h_1,hr⟩ := aC hr
 obtain ⟨x4,h_2,hr⟩ := aC hr
 obtain ⟨x6,h_3,hr⟩ := aC hr
 obtain ⟨q_1,h_4,hr⟩ := aC hr
 refine zz ?_
 refine xp (aEI h_2) <| xw (v := (.agg ([0,0,0,0].map (eI .u64)))) (bQ rfl (jO bX kC rfl)) <| xp (aAN h_3) ?_
 refine zz ?_
 obtain rfl := sj hr
 exact fD Tryz.results6 bM (zG [])
theorem aGH {N : Nat} {x : List Int} {r : Bool} (hr : uM N x = some r) :
  Vm.Fn Tryz.prog 27 [] [(.agg (x.map (eI .u64)))] (eB r) [] := by
 refine zf Tryz.func27 Tryz.ntmps27 ?_
 unfold uM at hr
 refine zz ?_
 refine AB.seq_g fun K1 hK1 hG1 => ?_
 have J1 : ∀ (x2 : Bool),tO N x2 = some r → K1 (aK 12 [(2,(eB x2))]) [] := by
  intro x2 hr
  unfold tO at hr
  refine hK1 _ _ ?_
  refine zz ?_
  obtain rfl := sj hr
  exact bL Tryz.results27 []
 obtain ⟨q,h_1,hr⟩ := aC hr
 obtain ⟨x4,h_2,hr⟩ := aC hr
 rcases Bool.eq_false_or_eq_true (!x4) with h4 | h4
 ·replace hr := eO hr h4
  obtain ⟨x8,h_5,hr⟩ := aC hr
  obtain ⟨x9,h_7,hr⟩ := aC hr
  refine AB.rs mixed [58,59,60] [] [[0,1,2,3,4,5,6,7,8,9]] ?_
  refine zz ?_
  refine xu (pJ h_2) ?_
  refine zz ?_
  refine xu (aAm h_5) <| xu (yF h_7) ?_
  refine zz ?_
  exact hG1 _ _ _ _ (zG []) (J1 (decide (x9 < 0)) hr)
 ·replace hr := eP hr h4
  refine AB.rs mixed [58,59,60] [] [[0,1,2,3,4,5,6,7,8,9]] ?_
  refine zz ?_
  refine xu (pJ h_2) ?_
  refine zz ?_
  exact hG1 _ _ _ _ (zG []) (J1 false hr)
theorem aKl {N : Nat} {va : List Int} {r : Int} (hr : aCp N va = some r) :
  Vm.Fn Tryz.prog 117 [] [(.agg (va.map (eI .u64)))] (eI .i64 r) [] := by
 refine zf Tryz.func117 Tryz.ntmps117 ?_
 unfold aCp at hr
 refine zz ?_
 refine AB.seq_g fun K1 hK1 hG1 => ?_
 have J1 : yB N = some r → K1 (aK 13 []) [] := by
  intro hr
  unfold yB at hr
  refine hK1 _ _ ?_
  refine zz ?_
  obtain rfl := sj hr
  exact bL Tryz.results117 []
 obtain ⟨bO,hL2,hr⟩ := aC hr
 refine zz ?_
 refine AB.block <| AB.loopN (fun m s h => ∃ (vi : Int),oI N va m vi = some bO ∧ Ghost 0 s h (aK 13 [(1,(.ptr 0 0)),(3,(eI .i64 vi))]) [some ⟨31,va.map (eI .u64)⟩]) (n := N) ⟨255,hL2,(zG [0])⟩ (by rintro s h ⟨_,h0,_⟩; simp [oI] at h0) ?_
 rintro m2 s h ⟨vi,hr2,hg⟩
 refine AB.ghost hg ?_
 clear hg hL2
 rw [oI] at hr2
 refine AB.seq ?_
 refine zz ?_
 refine zk hr2 rfl (fun h1 hr2 => ?_) (fun h1 hr2 => ?_)
 ·refine zz ?_
  refine AB.seq <| AB.block ?_
  obtain ⟨q,h_2,hr2⟩ := aC hr2
  obtain ⟨bV,h_3,hr2⟩ := aC hr2
  refine zz ?_
  refine xp (t9 h_3) ?_
  refine zz ?_
  refine zk hr2 rfl (fun h4 hr2 => ?_) (fun h4 hr2 => ?_)
  ·refine zz ?_
   obtain rfl := sj hr2
   obtain rfl := sj hr
   exact bL Tryz.results117 []
  ·refine zz ?_
   exact ⟨IntKind.i64.wrap (vi - 1),hr2,(zG [0])⟩
 ·refine zz ?_
  obtain rfl := sj hr2
  refine zz ?_
  exact hG1 _ _ _ _ (zG []) (J1 hr)
theorem aJj {N : Nat} {va : List Int} {b : List Int} {r : (List Int) × (List Int)} (hr : aAY N va b = some r) :
  Vm.Fn Tryz.prog 95 [] [(.agg (va.map (eI .u64))),(.agg (b.map (eI .u64)))] (.tup [(.agg (r.1.map (eI .u64))),(.agg (r.2.map (eI .u64)))]) [] := by
 refine zf Tryz.func95 Tryz.ntmps95 ?_
 unfold aAY at hr
 refine zz ?_
 refine AB.seq_g fun K1 hK1 hG1 => ?_
 have J1 : ∀ (l2 : List Int),uB N l2 = some r → K1 (aK 71 [(4,(.ptr 0 0)),(5,(.ptr 1 0)),(6,(.ptr 2 0))]) [some ⟨31,(List.replicate 4 0).map (eI .u64)⟩,some ⟨31,(List.replicate 4 0).map (eI .u64)⟩,some ⟨160,l2.map (eI .u64)⟩] := by
  intro l2 hr
  unfold uB at hr
  refine hK1 _ _ <| AB.seq ?_
  obtain ⟨q,h_1,hr⟩ := aC hr
  obtain ⟨x64,h_2,hr⟩ := aC hr
  refine AB.rs mixed [] [] [[0,1,2]] ?_
  refine zz ?_
  refine xw (v := (.sl 2 (Int.toNat 0 * 1) x64.length 1 false)) (eT rfl rfl rfl (aKi (E := (eI .u64)) (l := l2) aE3 kC rfl rfl rfl (aZ h_1) zl rfl rfl h_2)) ?_
  refine xw (v := (eI .i64 ((min x64.length (List.replicate 4 0).length : Nat) : Int))) (h' := [some ⟨31,(List.replicate 4 0).map (eI .u64)⟩,some ⟨31,(cpy (List.replicate 4 0) x64).map (eI .u64)⟩,some ⟨160,l2.map (eI .u64)⟩]) (aIT rfl rfl (aNl (E := (eI .u64)) (l := List.replicate 4 0) rfl aL1 kC rfl rfl (aRG (l := l2) rfl (fun _ => rfl) h_2) rfl)) ?_
  refine zz ?_
  refine AB.seq ?_
  obtain ⟨x67,h_3,hr⟩ := aC hr
  refine AB.rs mixed [] [] [[0,1,2]] ?_
  refine zz ?_
  refine xw (v := (.sl 2 (Int.toNat 4 * 1) x67.length 1 false)) (eT rfl rfl rfl (aKi (E := (eI .u64)) (l := l2) aE3 kC rfl rfl rfl (aZ h_1) zl rfl rfl h_3)) ?_
  refine xw (v := (eI .i64 ((min x67.length (List.replicate 4 0).length : Nat) : Int))) (h' := [some ⟨31,(cpy (List.replicate 4 0) x67).map (eI .u64)⟩,some ⟨31,(cpy (List.replicate 4 0) x64).map (eI .u64)⟩,some ⟨160,l2.map (eI .u64)⟩]) (aIT rfl rfl (aNl (E := (eI .u64)) (l := List.replicate 4 0) rfl aL1 kC rfl rfl (aRG (l := l2) rfl (fun _ => rfl) h_3) rfl)) ?_
  obtain ⟨q_1,h_4,hr⟩ := aC hr
  obtain ⟨q_2,h_5,hr⟩ := aC hr
  refine zz ?_
  obtain rfl := sj hr
  exact wM Tryz.results95 bM bM (qH [])
 obtain ⟨bO,hL2,hr⟩ := aC hr
 refine zz ?_
 refine AB.block <| AB.loopN (fun m s h => ∃ (x15 : Int) (l4 : List Int),kG N va b m x15 l4 = some bO ∧ Ghost 0 s h (aK 71 [(2,(.ptr 0 0)),(3,(.ptr 1 0)),(4,(.ptr 2 0)),(5,(.ptr 3 0)),(6,(.ptr 4 0)),(15,(eI .i64 x15))]) [some ⟨31,va.map (eI .u64)⟩,some ⟨31,b.map (eI .u64)⟩,some ⟨31,(List.replicate 4 0).map (eI .u64)⟩,some ⟨31,(List.replicate 4 0).map (eI .u64)⟩,some ⟨160,l4.map (eI .u64)⟩]) (n := N) ⟨0,List.replicate 8 0,hL2,(zG [0,1,2,3,4])⟩ (by rintro s h ⟨_,_,h0,_⟩; simp [kG] at h0) ?_
 rintro m2 s h ⟨x15,l4,hr2,hg⟩
 refine AB.ghost hg ?_
 clear hg hL2
 rw [kG] at hr2
 refine zz ?_
 refine AB.seq ?_
 refine zk hr2 rfl (fun h6 hr2 => ?_) (fun h6 hr2 => ?_)
 ·refine zz ?_
  refine AB.seq_g fun K3 hK3 hG3 => ?_
  have J3 : ∀ (j8 : List Int),y5 N va b x15 (kG N va b m2) j8 = some bO → K3 (aK 71 [(2,(.ptr 0 0)),(3,(.ptr 1 0)),(4,(.ptr 2 0)),(5,(.ptr 3 0)),(6,(.ptr 4 0)),(15,(eI .i64 x15))]) [some ⟨31,va.map (eI .u64)⟩,some ⟨31,b.map (eI .u64)⟩,some ⟨31,(List.replicate 4 0).map (eI .u64)⟩,some ⟨31,(List.replicate 4 0).map (eI .u64)⟩,some ⟨160,j8.map (eI .u64)⟩] := by
   intro j8 hr2
   unfold y5 at hr2
   refine hK3 _ _ ?_
   refine zz ?_
   exact ⟨IntKind.i64.wrap (x15 + 1),j8,hr2,(zG [0,1,2,3,4])⟩
  refine AB.block ?_
  refine zz ?_
  refine AB.seq_g fun K4 hK4 hG4 => ?_
  have J4 : ∀ (jH : Int) (w9 : List Int),y7 N va b x15 (kG N va b m2) jH w9 = some bO → K4 (aK 71 [(2,(.ptr 0 0)),(3,(.ptr 1 0)),(4,(.ptr 2 0)),(5,(.ptr 3 0)),(6,(.ptr 4 0)),(7,(eI .i64 x15)),(8,(eI .u64 jH)),(15,(eI .i64 x15))]) [some ⟨31,va.map (eI .u64)⟩,some ⟨31,b.map (eI .u64)⟩,some ⟨31,(List.replicate 4 0).map (eI .u64)⟩,some ⟨31,(List.replicate 4 0).map (eI .u64)⟩,some ⟨160,w9.map (eI .u64)⟩] := by
   intro jH w9 hr2
   unfold y7 at hr2
   refine hK4 _ _ ?_
   obtain ⟨x61,h_7,hr2⟩ := aC hr2
   refine zz ?_
   exact hG3 _ _ _ _ (zG [0,1,2,3,4]) (J3 (w9.set (Int.toNat (IntKind.i64.wrap (x15 + 4))) jH) hr2)
  obtain ⟨res5,hL5,hr2⟩ := aC hr2
  refine zz ?_
  refine AB.block <| AB.loopN (fun m s h => ∃ (carry_1 : Int) (x18 : Int) (l4_3 : List Int),oY N va b x15 m carry_1 x18 l4_3 = some res5 ∧ Ghost 0 s h (aK 71 [(2,(.ptr 0 0)),(3,(.ptr 1 0)),(4,(.ptr 2 0)),(5,(.ptr 3 0)),(6,(.ptr 4 0)),(7,(eI .i64 x15)),(8,(eI .u64 carry_1)),(15,(eI .i64 x15)),(18,(eI .i64 x18))]) [some ⟨31,va.map (eI .u64)⟩,some ⟨31,b.map (eI .u64)⟩,some ⟨31,(List.replicate 4 0).map (eI .u64)⟩,some ⟨31,(List.replicate 4 0).map (eI .u64)⟩,some ⟨160,l4_3.map (eI .u64)⟩]) (n := N) ⟨0,0,l4,hL5,(zG [0,1,2,3,4])⟩ (by rintro s h ⟨_,_,_,h0,_⟩; simp [oY] at h0) ?_
  rintro m5 s h ⟨carry_1,x18,l4_3,hr5,hg⟩
  refine AB.ghost hg ?_
  clear hg hL5
  rw [oY] at hr5
  refine zz ?_
  refine AB.seq ?_
  refine zk hr5 rfl (fun h8 hr5 => ?_) (fun h8 hr5 => ?_)
  ·refine zz ?_
   refine AB.seq <| AB.block ?_
   refine zz ?_
   refine AB.seq ?_
   obtain ⟨eN,h_9,hr5⟩ := aC hr5
   obtain ⟨x26,h_10,hr5⟩ := aC hr5
   obtain ⟨x28,h_11,hr5⟩ := aC hr5
   refine AB.rs mixed [121] [] [[0,1,2,3,4,5,6,7,8,9,10,11]] ?_
   refine zz ?_
   refine xu (aAS h_11) ?_
   obtain ⟨x35,h_13,hr5⟩ := aC hr5
   obtain ⟨x38,h_14,hr5⟩ := aC hr5
   refine zz ?_
   refine xp (jY h_14) ?_
   obtain ⟨x44,h_15,hr5⟩ := aC hr5
   refine zz ?_
   refine xp (jY h_15) ?_
   refine zz ?_
   exact ⟨IntKind.u64.wrap ((IntKind.u64.wrap (x28.1 + x38.2)) + x44.2),IntKind.i64.wrap (x18 + 1),l4_3.set (Int.toNat (IntKind.i64.wrap (x15 + x18))) x44.1,hr5,(zG [0,1,2,3,4])⟩
  ·refine zz ?_
   obtain rfl := sj hr5
   refine zz ?_
   exact hG4 _ _ _ _ (zG [0,1,2,3,4]) (J4 carry_1 l4_3 hr2)
 ·refine zz ?_
  obtain rfl := sj hr2
  refine zz ?_
  exact hG1 _ _ _ _ (zG [2,3,4]) (J1 l4 hr)
theorem yQ {N : Nat} {va : List Int} {b : List Int} {vm : List Int} {r : (List Int)} (hr : oO N va b vm = some r) :
  Vm.Fn Tryz.prog 64 [] [(.agg (va.map (eI .u64))),(.agg (b.map (eI .u64))),(.agg (vm.map (eI .u64)))] (.agg (r.map (eI .u64))) [] := by
 refine zf Tryz.func64 Tryz.ntmps64 ?_
 unfold oO at hr
 refine zz ?_
 refine AB.seq ?_
 obtain ⟨q,h_1,hr⟩ := aC hr
 obtain ⟨eD,h_2,hr⟩ := aC hr
 refine zz ?_
 refine xp (pJ h_2) ?_
 refine zz ?_
 refine zk hr rfl (fun h3 hr => ?_) (fun h3 hr => ?_)
 ·refine zz ?_
  obtain rfl := sj hr
  exact fD Tryz.results64 bM (zG [])
 ·refine zz ?_
  refine AB.seq ?_
  obtain ⟨q_1,h_4,hr⟩ := aC hr
  obtain ⟨x18,h_5,hr⟩ := aC hr
  obtain ⟨q_2,h_7,hr⟩ := aC hr
  obtain ⟨dI,h_8,hr⟩ := aC hr
  obtain ⟨c5,h_10,hr⟩ := aC hr
  obtain ⟨q_3,h_12,hr⟩ := aC hr
  obtain ⟨q_4,h_13,hr⟩ := aC hr
  refine AB.rd (d7 [88,95]) (d7 []) mixed <| DrawG.pick (n := 13) (i := 0) (by decide +kernel) rfl (gS (v := (.agg (va.map (eI .u64)))) (sv (bW rfl (xT (E := (eI .u64)) (l := va) bX rfl rfl (aZ h_4))))) <| DrawG.pick (n := 12) (i := 1) (by decide +kernel) rfl (gS (v := (.agg (vm.map (eI .u64)))) (sv (bW rfl (xT (E := (eI .u64)) (l := vm) bX rfl rfl (aZ h_1))))) <| DrawG.pick (n := 11) (i := 2) (by decide +kernel) rfl (gU (fun _ => (Vm.Fn.pure (pM h_5) zR zR)) rfl (sv (d6 rfl lQ))) <| DrawG.pick (n := 10) (i := 3) (by decide +kernel) rfl (gS (v := (.agg (b.map (eI .u64)))) (sv (bW rfl (xT (E := (eI .u64)) (l := b) bX rfl rfl (aZ h_7))))) ?_
  refine DrawG.pick (n := 9) (i := 4) (by decide +kernel) rfl (gS (v := (.agg (vm.map (eI .u64)))) (sv (bW rfl (xT (E := (eI .u64)) (l := vm) bX rfl rfl (aZ h_1))))) <| DrawG.pick (n := 8) (i := 5) (by decide +kernel) rfl (gU (fun _ => (Vm.Fn.pure (pM h_8) zR zR)) rfl (sv (d6 rfl lQ))) <| DrawG.pick (n := 7) (i := 6) (by decide +kernel) rfl (gU (fun _ => (Vm.Fn.pure (aJj h_10) zR zR)) rfl (sv (d6 rfl lQ))) <| DrawG.pick (n := 6) (i := 7) (by decide +kernel) rfl (gS (v := (.tup [(.agg (c5.1.map (eI .u64))),(.agg (c5.2.map (eI .u64)))])) (sv (iR rfl))) <| DrawG.pick (n := 5) (i := 8) (by decide +kernel) rfl (gS (v := (.agg (c5.1.map (eI .u64)))) (sv (o9 rfl rfl))) ?_
  refine DrawG.pick (n := 4) (i := 9) (by decide +kernel) rfl (gS (v := (.agg (c5.2.map (eI .u64)))) (sv (o9 rfl rfl))) ?_
  refine DrawG.jn (m := 1) (L := lst [0,1,2,3,4,5,6,7,8,9,10,11,12] 14) (s1 := aK 34 [(5,(.ptr 0 0)),(6,(.ptr 1 0)),(7,(.ptr 2 0)),(8,(.ptr 3 0)),(24,(.agg (c5.2.map (eI .u64))))]) (h1 := [some ⟨31,vm.map (eI .u64)⟩,some ⟨31,(List.replicate 4 0).map (eI .u64)⟩,some ⟨31,c5.1.map (eI .u64)⟩,some ⟨31,(List.replicate 4 0).map (eI .u64)⟩]) ?_ (fun J => ?_)
  ·refine DrawG.pick (n := 0) (i := 13) (by decide +kernel) rfl (gN (h' := [some ⟨31,vm.map (eI .u64)⟩,some ⟨31,(List.replicate 4 0).map (eI .u64)⟩,some ⟨31,c5.1.map (eI .u64)⟩,some ⟨31,c5.2.map (eI .u64)⟩]) (sv (bN rfl rfl (q5 (E := (eI .u64)) (l := List.replicate 4 0) bX rfl rfl (fun _ => rfl) rfl (aZ h_13) rfl)))) <| DrawG.nil (by decide +kernel) ?_
   obtain ⟨x29,h_14,hr⟩ := aC hr
   obtain ⟨q_5,h_15,hr⟩ := aC hr
   obtain ⟨q_6,h_16,hr⟩ := aC hr
   refine zz ?_
   refine xp (aEc h_14) ?_
   refine zz ?_
   obtain rfl := sj hr
   exact fD Tryz.results64 bM (zG [])
  ·refine DrawG.fork (n := 3) [10,11] (by decide +kernel) (by decide) ?_
   refine (Fork.cons rfl (gS (v := (.ptr 4 0)) (h' := [some ⟨31,va.map (eI .u64)⟩,some ⟨31,b.map (eI .u64)⟩,some ⟨31,vm.map (eI .u64)⟩,some ⟨31,(List.replicate 4 0).map (eI .u64)⟩,some ⟨31,(List.replicate 4 0).map (eI .u64)⟩]) (sv (cD bX rfl rfl rfl))) ?_ (Fork.cons rfl (gS (v := (.ptr 4 0)) (h' := [some ⟨31,va.map (eI .u64)⟩,some ⟨31,b.map (eI .u64)⟩,some ⟨31,vm.map (eI .u64)⟩,some ⟨31,(List.replicate 4 0).map (eI .u64)⟩,some ⟨31,(List.replicate 4 0).map (eI .u64)⟩]) (sv (cD bX rfl rfl rfl))) ?_ Fork.nil))
   ·refine DrawG.pick (n := 2) (i := 11) (by decide +kernel) rfl (gS (v := (.ptr 5 0)) (h' := [some ⟨31,va.map (eI .u64)⟩,some ⟨31,b.map (eI .u64)⟩,some ⟨31,vm.map (eI .u64)⟩,some ⟨31,(List.replicate 4 0).map (eI .u64)⟩,some ⟨31,(List.replicate 4 0).map (eI .u64)⟩,some ⟨31,(List.replicate 4 0).map (eI .u64)⟩]) (sv (cD bX rfl rfl rfl))) <| DrawG.pick (n := 1) (i := 12) (by decide +kernel) rfl (gN (h' := [some ⟨31,va.map (eI .u64)⟩,some ⟨31,b.map (eI .u64)⟩,some ⟨31,vm.map (eI .u64)⟩,some ⟨31,(List.replicate 4 0).map (eI .u64)⟩,some ⟨31,c5.1.map (eI .u64)⟩,some ⟨31,(List.replicate 4 0).map (eI .u64)⟩]) (sv (bN rfl rfl (q5 (E := (eI .u64)) (l := List.replicate 4 0) bX rfl rfl (fun _ => rfl) rfl (aZ h_12) rfl)))) ?_
    exact DrawG.jg (by decide +kernel) (by decide +kernel) (zG [2,3,4,5]) J
   ·refine DrawG.pick (n := 2) (i := 10) (by decide +kernel) rfl (gS (v := (.ptr 5 0)) (h' := [some ⟨31,va.map (eI .u64)⟩,some ⟨31,b.map (eI .u64)⟩,some ⟨31,vm.map (eI .u64)⟩,some ⟨31,(List.replicate 4 0).map (eI .u64)⟩,some ⟨31,(List.replicate 4 0).map (eI .u64)⟩,some ⟨31,(List.replicate 4 0).map (eI .u64)⟩]) (sv (cD bX rfl rfl rfl))) <| DrawG.pick (n := 1) (i := 12) (by decide +kernel) rfl (gN (h' := [some ⟨31,va.map (eI .u64)⟩,some ⟨31,b.map (eI .u64)⟩,some ⟨31,vm.map (eI .u64)⟩,some ⟨31,(List.replicate 4 0).map (eI .u64)⟩,some ⟨31,(List.replicate 4 0).map (eI .u64)⟩,some ⟨31,c5.1.map (eI .u64)⟩]) (sv (bN rfl rfl (q5 (E := (eI .u64)) (l := List.replicate 4 0) bX rfl rfl (fun _ => rfl) rfl (aZ h_12) rfl)))) ?_
    exact DrawG.jg (by decide +kernel) (by decide +kernel) (zG [2,3,5,4]) J
theorem aGv {N : Nat} {va : List Int} {ve : List Int} {vm : List Int} {r : (List Int)} (hr : uS N va ve vm = some r) :
  Vm.Fn Tryz.prog 93 [] [(.agg (va.map (eI .u64))),(.agg (ve.map (eI .u64))),(.agg (vm.map (eI .u64)))] (.agg (r.map (eI .u64))) [] := by
 refine zf Tryz.func93 Tryz.ntmps93 ?_
 unfold uS at hr
 refine zz ?_
 refine AB.seq ?_
 obtain ⟨q,h_1,hr⟩ := aC hr
 obtain ⟨bV,h_2,hr⟩ := aC hr
 refine zz ?_
 refine xp (pJ h_2) ?_
 refine zz ?_
 refine zk hr rfl (fun h3 hr => ?_) (fun h3 hr => ?_)
 ·refine zz ?_
  obtain rfl := sj hr
  exact fD Tryz.results93 bM (zG [])
 ·refine zz ?_
  refine AB.seq ?_
  obtain ⟨eM,h_4,hr⟩ := aC hr
  obtain ⟨bH,h_6,hr⟩ := aC hr
  obtain ⟨q_1,h_8,hr⟩ := aC hr
  refine AB.rs mixed [62,88] [] [[0,1,2,3,4]] <| xu (q9 h_4) ?_
  refine zz ?_
  refine xu (pM h_6) ?_
  refine zz ?_
  refine AB.seq_g fun K1 hK1 hG1 => ?_
  have J1 : ∀ (l1 : List Int),zA N l1 = some r → K1 (aK 34 [(6,(.ptr 0 0)),(7,(.ptr 1 0))]) [some ⟨31,(List.replicate 4 0).map (eI .u64)⟩,some ⟨31,l1.map (eI .u64)⟩] := by
   intro l1 hr
   unfold zA at hr
   refine hK1 _ _ ?_
   obtain ⟨q_2,h_9,hr⟩ := aC hr
   refine zz ?_
   obtain rfl := sj hr
   exact fD Tryz.results93 bM (zG [])
  obtain ⟨q_3,h_10,hr⟩ := aC hr
  obtain ⟨x16,h_11,hr⟩ := aC hr
  refine zz ?_
  refine xp (aKl h_11) ?_
  obtain ⟨bO,hL2,hr⟩ := aC hr
  refine zz ?_
  refine AB.block <| AB.loopN (fun m s h => ∃ (vi : Int) (l4 : List Int),gM N va ve vm m vi l4 = some bO ∧ Ghost 0 s h (aK 34 [(3,(.ptr 0 0)),(4,(.ptr 1 0)),(5,(.ptr 2 0)),(6,(.ptr 3 0)),(7,(.ptr 4 0)),(8,(eI .i64 vi))]) [some ⟨31,va.map (eI .u64)⟩,some ⟨31,ve.map (eI .u64)⟩,some ⟨31,vm.map (eI .u64)⟩,some ⟨31,(List.replicate 4 0).map (eI .u64)⟩,some ⟨31,l4.map (eI .u64)⟩]) (n := N) ⟨IntKind.i64.wrap (x16 - 1),bH,hL2,(zG [0,1,2,3,4])⟩ (by rintro s h ⟨_,_,h0,_⟩; simp [gM] at h0) ?_
  rintro m2 s h ⟨vi,l4,hr2,hg⟩
  refine AB.ghost hg ?_
  clear hg hL2
  rw [gM] at hr2
  refine AB.seq ?_
  refine zz ?_
  refine zk hr2 rfl (fun h12 hr2 => ?_) (fun h12 hr2 => ?_)
  ·refine zz ?_
   refine AB.seq_g fun K3 hK3 hG3 => ?_
   have J3 : ∀ (j8 : List Int),mO N va ve vm vi (gM N va ve vm m2) j8 = some bO → K3 (aK 34 [(3,(.ptr 0 0)),(4,(.ptr 1 0)),(5,(.ptr 2 0)),(6,(.ptr 3 0)),(7,(.ptr 4 0)),(8,(eI .i64 vi))]) [some ⟨31,va.map (eI .u64)⟩,some ⟨31,ve.map (eI .u64)⟩,some ⟨31,vm.map (eI .u64)⟩,some ⟨31,(List.replicate 4 0).map (eI .u64)⟩,some ⟨31,j8.map (eI .u64)⟩] := by
    intro j8 hr2
    unfold mO at hr2
    refine hK3 _ _ ?_
    refine zz ?_
    exact ⟨IntKind.i64.wrap (vi - 1),j8,hr2,(zG [0,1,2,3,4])⟩
   refine AB.block ?_
   obtain ⟨q_4,h_13,hr2⟩ := aC hr2
   obtain ⟨x25,h_14,hr2⟩ := aC hr2
   obtain ⟨q_5,h_15,hr2⟩ := aC hr2
   refine zz ?_
   refine xp (yQ h_14) ?_
   obtain ⟨x28,h_16,hr2⟩ := aC hr2
   refine zz ?_
   refine xp (t9 h_16) ?_
   refine zz ?_
   refine zk hr2 rfl (fun h17 hr2 => ?_) (fun h17 hr2 => ?_)
   ·obtain ⟨q_6,h_18,hr2⟩ := aC hr2
    obtain ⟨kL,h_19,hr2⟩ := aC hr2
    obtain ⟨q_7,h_20,hr2⟩ := aC hr2
    refine zz ?_
    refine xp (yQ h_19) ?_
    refine zz ?_
    exact hG3 _ _ _ _ (zG [0,1,2,3,4]) (J3 kL hr2)
   ·refine zz ?_
    exact hG3 _ _ _ _ (zG [0,1,2,3,4]) (J3 x25 hr2)
  ·refine zz ?_
   obtain rfl := sj hr2
   refine zz ?_
   exact hG1 _ _ _ _ (zG [3,4]) (J1 l4 hr)
theorem aJs {N : Nat} {va : List Int} {ve : List Int} {r : (List Int)} (hr : aAX N va ve = some r) :
  Vm.Fn Tryz.prog 61 [] [(.agg (va.map (eI .u64))),(.agg (ve.map (eI .u64)))] (.agg (r.map (eI .u64))) [] := by
 refine zf Tryz.func61 Tryz.ntmps61 ?_
 unfold aAX at hr
 refine zz ?_
 refine AB.seq ?_
 obtain ⟨q,h_1,hr⟩ := aC hr
 obtain ⟨q_1,h_2,hr⟩ := aC hr
 obtain ⟨x7,h_3,hr⟩ := aC hr
 obtain ⟨x8,h_5,hr⟩ := aC hr
 obtain ⟨q_2,h_7,hr⟩ := aC hr
 refine AB.rs mixed [92,93] [] [[0,1,2,3,4]] ?_
 refine zz ?_
 refine xu (aB2 h_3) <| xu (aGv h_5) ?_
 refine zz ?_
 obtain rfl := sj hr
 exact fD Tryz.results61 bM (zG [])
theorem aAg {N : Nat} {ve : List Int} {r : (List Int)} (hr : qR N ve = some r) :
  Vm.Fn Tryz.prog 28 [] [(.agg (ve.map (eI .u64)))] (.agg (r.map (eI .u64))) [] := by
 refine zf Tryz.func28 Tryz.ntmps28 ?_
 unfold qR at hr
 refine zz ?_
 refine AB.seq ?_
 obtain ⟨x3,h_1,hr⟩ := aC hr
 obtain ⟨q,h_3,hr⟩ := aC hr
 obtain ⟨x5,h_4,hr⟩ := aC hr
 obtain ⟨q_1,h_6,hr⟩ := aC hr
 refine AB.rs mixed [61,62] [] [[0,1,2,3]] <| xu (q9 h_1) ?_
 refine zz ?_
 refine xu (aJs h_4) ?_
 refine zz ?_
 obtain rfl := sj hr
 exact fD Tryz.results28 bM (zG [])
theorem yJ {N : Nat} {x : List Int} {r : (List Int) × Int} (hr : oH N x = some r) :
  Vm.Fn Tryz.prog 7 [] [(.agg (x.map (eI .u64)))] (.tup [(.agg (r.1.map (eI .u64))),(eI .i64 r.2)]) [] := by
 refine zf Tryz.func7 Tryz.ntmps7 ?_
 unfold oH at hr
 refine zz ?_
 refine AB.seq ?_
 obtain ⟨q,h_1,hr⟩ := aC hr
 obtain ⟨x5,h_2,hr⟩ := aC hr
 refine zz ?_
 refine xp (aGH h_2) ?_
 refine zz ?_
 refine zk hr rfl (fun h3 hr => ?_) (fun h3 hr => ?_)
 ·refine zz ?_
  refine xw (v := (.agg ([0,0,0,0].map (eI .u64)))) (bQ rfl (jO bX kC rfl)) ?_
  refine zz ?_
  obtain rfl := sj hr
  exact wM Tryz.results7 bM bM (qH [])
 ·obtain ⟨x9,h_4,hr⟩ := aC hr
  obtain ⟨q_1,h_5,hr⟩ := aC hr
  refine zz ?_
  refine xp (aAg h_4) ?_
  refine zz ?_
  obtain rfl := sj hr
  exact wM Tryz.results7 bM bM (qH [])
theorem aC1 {N : Nat} {va : List Int} {r : (List Int)} (hr : s9 N va = some r) :
  Vm.Fn Tryz.prog 66 [] [(.agg (va.map (eI .u64)))] (.agg (r.map (eI .u8))) [] := by
 refine zf Tryz.func66 Tryz.ntmps66 ?_
 unfold s9 at hr
 refine zz ?_
 refine AB.seq_g fun K1 hK1 hG1 => ?_
 have J1 : ∀ (l1 : List Int),aAp N l1 = some r → K1 (aK 24 [(2,(.ptr 0 0)),(3,(.ptr 1 0))]) [some ⟨24,(List.replicate 32 0).map (eI .u8)⟩,some ⟨24,l1.map (eI .u8)⟩] := by
  intro l1 hr
  unfold aAp at hr
  refine hK1 _ _ ?_
  obtain ⟨q,h_1,hr⟩ := aC hr
  refine zz ?_
  obtain rfl := sj hr
  exact fD Tryz.results66 bM (zG [])
 obtain ⟨bO,hL2,hr⟩ := aC hr
 refine zz ?_
 refine AB.block <| AB.loopN (fun m s h => ∃ (x6 : Int) (l2 : List Int),jW N va m x6 l2 = some bO ∧ Ghost 0 s h (aK 24 [(1,(.ptr 0 0)),(2,(.ptr 1 0)),(3,(.ptr 2 0)),(6,(eI .i64 x6))]) [some ⟨31,va.map (eI .u64)⟩,some ⟨24,(List.replicate 32 0).map (eI .u8)⟩,some ⟨24,l2.map (eI .u8)⟩]) (n := N) ⟨0,List.replicate 32 0,hL2,(zG [0,1,2])⟩ (by rintro s h ⟨_,_,h0,_⟩; simp [jW] at h0) ?_
 rintro m2 s h ⟨x6,l2,hr2,hg⟩
 refine AB.ghost hg ?_
 clear hg hL2
 rw [jW] at hr2
 refine zz ?_
 refine AB.seq ?_
 refine zk hr2 rfl (fun h2 hr2 => ?_) (fun h2 hr2 => ?_)
 ·refine zz ?_
  refine AB.seq <| AB.block ?_
  obtain ⟨bH,h_3,hr2⟩ := aC hr2
  obtain ⟨x19,h_4,hr2⟩ := aC hr2
  obtain ⟨dI,h_5,hr2⟩ := aC hr2
  refine zz ?_
  exact ⟨IntKind.i64.wrap (x6 + 1),l2.set (Int.toNat x6) (IntKind.u8.wrap x19),hr2,(zG [0,1,2])⟩
 ·refine zz ?_
  obtain rfl := sj hr2
  refine zz ?_
  exact hG1 _ _ _ _ (zG [1,2]) (J1 l2 hr)
theorem qD {N : Nat} {va : List Int} {r : (List Int)} (hr : kT N va = some r) :
  Vm.Fn Tryz.prog 33 [] [(.agg (va.map (eI .u64)))] (.row none 1 (r.map (eI .u8))) [] := by
 refine zf Tryz.func33 Tryz.ntmps33 ?_
 unfold kT at hr
 obtain ⟨q,h_1,hr⟩ := aC hr
 obtain ⟨x5,h_2,hr⟩ := aC hr
 obtain ⟨q_1,h_3,hr⟩ := aC hr
 refine zz ?_
 refine xp (aC1 h_2) ?_
 refine zz ?_
 obtain rfl := sj hr
 exact fD Tryz.results33 bM (Ghost.trans (zv 1) (zG []))
theorem aGb {N : Nat} {va : List Int} {b : List Int} {r : (List Int)} (hr : y8 N va b = some r) :
  Vm.Fn Tryz.prog 65 [] [(.row none 1 (va.map (eI .u8))),(.row none 1 (b.map (eI .u8)))] (.sl 0 0 r.length 1 false) [some ⟨5,r.map (eI .u8)⟩] := by
 refine zf Tryz.func65 Tryz.ntmps65 ?_
 unfold y8 at hr
 obtain ⟨b4,h_1,hr⟩ := aC hr
 refine zz ?_
 refine xw (v := (.sl 0 0 0 1 false)) (h' := [some ⟨5,b4.map (eI .u8)⟩]) (aLy rfl rfl (mkC (E := (eI .u8)) (y := 0) eU gX ⟨zl,rfl,rfl⟩ rfl rfl rfl h_1 rfl rfl)) ?_
 obtain ⟨bH,h_2,hr⟩ := aC hr
 obtain ⟨x16,h_3,hr⟩ := aC hr
 refine zz ?_
 refine xw (v := (.sl 1 0 bH.length 1 false)) (h' := [none,some ⟨5,bH.map (eI .u8)⟩]) (aBI rfl rfl (aQ1 (E := (eI .u8)) (Nat.zero_le _) eU gX ⟨rfl,rfl,zl⟩ rfl (aG6 (fun _ => rfl)) h_2 rfl rfl)) ?_
 refine zz ?_
 obtain rfl := sj hr
 exact bL Tryz.results65 [2]
theorem nE {N : Nat} {l : List (List Int)} {r : (List Int)} (hr : jG N l = some r) :
  Vm.Fn Tryz.prog 32 [] [(.row none 1 (l.map (eL 1 (eI .u8))))] (.sl 0 0 r.length 1 false) [some ⟨5,r.map (eI .u8)⟩] := by
 refine zf Tryz.func32 Tryz.ntmps32 ?_
 unfold jG at hr
 refine zz ?_
 refine AB.seq_g fun K1 hK1 hG1 => ?_
 have J1 : ∀ (l0 : List Int),aBa N l0 = some r → K1 (aK 17 [(3,(.sl 0 0 l0.length 1 false))]) [some ⟨5,l0.map (eI .u8)⟩] := by
  intro l0 hr
  unfold aBa at hr
  refine hK1 _ _ ?_
  refine zz ?_
  obtain rfl := sj hr
  exact bL Tryz.results32 [0]
 obtain ⟨bO,hL2,hr⟩ := aC hr
 refine zz ?_
 refine AB.block <| AB.loopN (fun m s h => ∃ (x8 : Int) (a9 : List Int),lC N l m x8 a9 = some bO ∧ Ghost 0 s h (aK 17 [(3,(.sl 0 0 a9.length 1 false)),(6,(.row none 1 (l.map (eL 1 (eI .u8))))),(7,(eI .i64 (l.length : Int))),(8,(eI .i64 x8))]) [some ⟨5,a9.map (eI .u8)⟩]) (n := N) ⟨0,[],hL2,(zW 5 [0])⟩ (by rintro s h ⟨_,_,h0,_⟩; simp [lC] at h0) ?_
 rintro m2 s h ⟨x8,a9,hr2,hg⟩
 refine AB.ghost hg ?_
 clear hg hL2
 rw [lC] at hr2
 refine zz ?_
 refine AB.seq ?_
 refine zk hr2 rfl (fun h1 hr2 => ?_) (fun h1 hr2 => ?_)
 ·refine zz ?_
  refine AB.seq <| AB.block ?_
  obtain ⟨bV,h_2,hr2⟩ := aC hr2
  obtain ⟨bH,h_3,hr2⟩ := aC hr2
  refine zz ?_
  refine xV (aGb h_3) [] [0] ?_
  refine zz ?_
  exact ⟨IntKind.i64.wrap (x8 + 1),bH,hr2,(zG [1])⟩
 ·refine zz ?_
  obtain rfl := sj hr2
  refine zz ?_
  exact hG1 _ _ _ _ (zG [0]) (J1 a9 hr)
theorem aJD {N : Nat} {vn : Int} {r : (List Int)} (hr : aAT N vn = some r) :
  Vm.Fn Tryz.prog 118 [] [(eI .u64 vn)] (.sl 0 0 r.length 1 false) [some ⟨5,r.map (eI .u8)⟩] := by
 refine zf Tryz.func118 Tryz.ntmps118 ?_
 unfold aAT at hr
 refine zz ?_
 refine AB.seq_g fun K1 hK1 hG1 => ?_
 have J1 : ∀ (l0 : List Int),y4 N vn l0 = some r → K1 (aK 31 [(0,(eI .u64 vn)),(3,(.sl 0 0 l0.length 1 false))]) [some ⟨5,l0.map (eI .u8)⟩] := by
  intro l0 hr
  unfold y4 at hr
  refine hK1 _ _ ?_
  refine AB.seq_g fun K2 hK2 hG2 => ?_
  have J2 : ∀ (a9 : List Int),aBQ N a9 = some r → K2 (aK 31 [(3,(.sl 0 0 a9.length 1 false))]) [some ⟨5,a9.map (eI .u8)⟩] := by
   intro a9 hr
   unfold aBQ at hr
   refine hK2 _ _ ?_
   refine zz ?_
   obtain rfl := sj hr
   exact bL Tryz.results118 [0]
  obtain ⟨tL,hL3,hr⟩ := aC hr
  refine zz ?_
  refine AB.block <| AB.loopN (fun m s h => ∃ (vi : Int) (jM : List Int),mD N vn m vi jM = some tL ∧ Ghost 0 s h (aK 31 [(0,(eI .u64 vn)),(3,(.sl 0 0 jM.length 1 false)),(4,(eI .i64 vi))]) [some ⟨5,jM.map (eI .u8)⟩]) (n := N) ⟨7,l0,hL3,(zG [0])⟩ (by rintro s h ⟨_,_,h0,_⟩; simp [mD] at h0) ?_
  rintro m3 s h ⟨vi,jM,hr3,hg⟩
  refine AB.ghost hg ?_
  clear hg hL3
  rw [mD] at hr3
  refine AB.seq ?_
  refine zz ?_
  refine zk hr3 rfl (fun h1 hr3 => ?_) (fun h1 hr3 => ?_)
  ·refine zz ?_
   refine AB.seq <| AB.block ?_
   obtain ⟨x26,h_2,hr3⟩ := aC hr3
   obtain ⟨x29,h_3,hr3⟩ := aC hr3
   refine zz ?_
   exact ⟨IntKind.i64.wrap (vi - 1),x29,hr3,(zG [2])⟩
  ·refine zz ?_
   obtain rfl := sj hr3
   refine zz ?_
   exact hG2 _ _ _ _ (zG [0]) (J2 jM hr)
 obtain ⟨res4,hL4,hr⟩ := aC hr
 refine AB.block <| AB.loopN (fun m s h => ∃ (iF : List Int),oF N vn m iF = some res4 ∧ Ghost 0 s h (aK 31 [(0,(eI .u64 vn)),(3,(.sl 0 0 iF.length 1 false))]) [some ⟨5,iF.map (eI .u8)⟩]) (n := N) ⟨[128],hL4,(qH [0])⟩ (by rintro s h ⟨_,h0,_⟩; simp [oF] at h0) ?_
 rintro m4 s h ⟨iF,hr4,hg⟩
 refine AB.ghost hg ?_
 clear hg hL4
 rw [oF] at hr4
 refine AB.seq ?_
 refine zz ?_
 refine zk hr4 rfl (fun h4 hr4 => ?_) (fun h4 hr4 => ?_)
 ·refine zz ?_
  refine AB.block ?_
  obtain ⟨x16,h_5,hr4⟩ := aC hr4
  refine zz ?_
  exact ⟨x16,hr4,(zG [2])⟩
 ·refine zz ?_
  obtain rfl := sj hr4
  refine zz ?_
  exact hG1 _ _ _ _ (zG [0]) (J1 iF hr)
theorem aFq {N : Nat} {r : (List Int)} (hr : wT N = some r) :
  Vm.Fn Tryz.prog 119 [] [] (.agg (r.map (eI .u32))) [] := by
 refine zf Tryz.func119 Tryz.ntmps119 ?_
 unfold wT at hr
 refine zz ?_
 refine xw (v := (.agg ([1779033703,3144134277,1013904242,2773480762,1359893119,2600822924,528734635,1541459225].map (eI .u32)))) (bQ rfl (jO aEV vU rfl)) ?_
 refine zz ?_
 obtain rfl := sj hr
 exact fD Tryz.results119 bM (zG [])
theorem iK {N : Nat} {x : Int} {vn : Int} {r : Int} (hr : iL N x vn = some r) :
  Vm.Fn Tryz.prog 128 [] [(eI .u32 x),(eI .i64 vn)] (eI .u32 r) [] := by
 refine zf Tryz.func128 Tryz.ntmps128 ?_
 unfold iL at hr
 obtain ⟨x8,h_1,hr⟩ := aC hr
 refine zz ?_
 refine xw (aJ6 rfl (aMh ..)) <| xp (tQ h_1) ?_
 refine zz ?_
 obtain rfl := sj hr
 exact bL Tryz.results128 []
theorem aFf {N : Nat} {block : List Int} {r : (List Int)} (hr : rY N block = some r) :
  Vm.Fn Tryz.prog 126 [] [(.agg (block.map (eI .u8)))] (.agg (r.map (eI .u32))) [] := by
 refine zf Tryz.func126 Tryz.ntmps126 ?_
 unfold rY at hr
 refine zz ?_
 refine AB.seq_g fun K1 hK1 hG1 => ?_
 have J1 : ∀ (l1 : List Int),rB N l1 = some r → K1 (aK 97 [(2,(.ptr 0 0)),(3,(.ptr 1 0))]) [some ⟨164,(List.replicate 64 0).map (eI .u32)⟩,some ⟨164,l1.map (eI .u32)⟩] := by
  intro l1 hr
  unfold rB at hr
  refine hK1 _ _ ?_
  refine AB.seq_g fun K2 hK2 hG2 => ?_
  have J2 : ∀ (cW : List Int),rA N cW = some r → K2 (aK 97 [(2,(.ptr 0 0)),(3,(.ptr 1 0))]) [some ⟨164,(List.replicate 64 0).map (eI .u32)⟩,some ⟨164,cW.map (eI .u32)⟩] := by
   intro cW hr
   unfold rA at hr
   refine hK2 _ _ ?_
   obtain ⟨q,h_1,hr⟩ := aC hr
   refine zz ?_
   obtain rfl := sj hr
   exact fD Tryz.results126 bM (zG [])
  obtain ⟨tL,hL3,hr⟩ := aC hr
  refine zz ?_
  refine AB.block <| AB.loopN (fun m s h => ∃ (vi : Int) (l1_2 : List Int),iY N m vi l1_2 = some tL ∧ Ghost 0 s h (aK 97 [(2,(.ptr 0 0)),(3,(.ptr 1 0)),(5,(eI .i64 vi))]) [some ⟨164,(List.replicate 64 0).map (eI .u32)⟩,some ⟨164,l1_2.map (eI .u32)⟩]) (n := N) ⟨16,l1,hL3,(zG [0,1])⟩ (by rintro s h ⟨_,_,h0,_⟩; simp [iY] at h0) ?_
  rintro m3 s h ⟨vi,l1_2,hr3,hg⟩
  refine AB.ghost hg ?_
  clear hg hL3
  rw [iY] at hr3
  refine AB.seq ?_
  refine zz ?_
  refine zk hr3 rfl (fun h2 hr3 => ?_) (fun h2 hr3 => ?_)
  ·refine zz ?_
   refine AB.seq <| AB.block <| AB.seq ?_
   obtain ⟨x49,h_3,hr3⟩ := aC hr3
   obtain ⟨x51,h_4,hr3⟩ := aC hr3
   obtain ⟨x56,h_6,hr3⟩ := aC hr3
   obtain ⟨x62,h_8,hr3⟩ := aC hr3
   refine AB.rs mixed [128] [] [[0,1,2,3,4,5,6,7,8,9,10,11,12,13,14,15,16,17]] ?_
   refine zz ?_
   refine xu (iK h_4) ?_
   refine zz ?_
   refine xu (iK h_6) ?_
   refine zz ?_
   refine AB.seq ?_
   obtain ⟨x66,h_9,hr3⟩ := aC hr3
   obtain ⟨x68,h_10,hr3⟩ := aC hr3
   obtain ⟨x73,h_12,hr3⟩ := aC hr3
   obtain ⟨x79,h_14,hr3⟩ := aC hr3
   refine AB.rs mixed [128] [] [[0,1,2,3,4,5,6,7,8,9,10,11,12,13,14,15,16,17]] ?_
   refine zz ?_
   refine xu (iK h_10) ?_
   refine zz ?_
   refine xu (iK h_12) ?_
   obtain ⟨x84,h_15,hr3⟩ := aC hr3
   obtain ⟨x90,h_16,hr3⟩ := aC hr3
   obtain ⟨x95,h_17,hr3⟩ := aC hr3
   refine zz ?_
   refine AB.rs mixed [] [] [[0,1,2,3,4,5,6,7,8,9,10,11,12,13,14,15]] ?_
   refine zz ?_
   exact ⟨IntKind.i64.wrap (vi + 1),l1_2.set (Int.toNat vi) (IntKind.u32.wrap ((IntKind.u32.wrap ((IntKind.u32.wrap (x84 + (bits .xor .u32 (bits .xor .u32 x51 x56) x62))) + x90)) + (bits .xor .u32 (bits .xor .u32 x68 x73) x79))),hr3,(zG [0,1])⟩
  ·refine zz ?_
   obtain rfl := sj hr3
   refine zz ?_
   exact hG2 _ _ _ _ (zG [0,1]) (J2 l1_2 hr)
 obtain ⟨res4,hL4,hr⟩ := aC hr
 refine zz ?_
 refine AB.block <| AB.loopN (fun m s h => ∃ (vi_1 : Int) (l2 : List Int),fE N block m vi_1 l2 = some res4 ∧ Ghost 0 s h (aK 97 [(1,(.ptr 0 0)),(2,(.ptr 1 0)),(3,(.ptr 2 0)),(4,(eI .i64 vi_1))]) [some ⟨148,block.map (eI .u8)⟩,some ⟨164,(List.replicate 64 0).map (eI .u32)⟩,some ⟨164,l2.map (eI .u32)⟩]) (n := N) ⟨0,List.replicate 64 0,hL4,(zG [0,1,2])⟩ (by rintro s h ⟨_,_,h0,_⟩; simp [fE] at h0) ?_
 rintro m4 s h ⟨vi_1,l2,hr4,hg⟩
 refine AB.ghost hg ?_
 clear hg hL4
 rw [fE] at hr4
 refine AB.seq ?_
 refine zz ?_
 refine zk hr4 rfl (fun h18 hr4 => ?_) (fun h18 hr4 => ?_)
 ·refine zz ?_
  refine AB.seq <| AB.block ?_
  obtain ⟨x15,h_19,hr4⟩ := aC hr4
  obtain ⟨x18,h_20,hr4⟩ := aC hr4
  obtain ⟨c5,h_21,hr4⟩ := aC hr4
  obtain ⟨x25,h_22,hr4⟩ := aC hr4
  obtain ⟨j4,h_23,hr4⟩ := aC hr4
  obtain ⟨jU,h_24,hr4⟩ := aC hr4
  obtain ⟨x38,h_25,hr4⟩ := aC hr4
  obtain ⟨x42,h_26,hr4⟩ := aC hr4
  refine AB.rs mixed [] [] [[0,1,2,3,4,5,6,7,8,9,10,11,12,13,14,15,16,17,18,19,20,21,22,23,24,25,26,27,28,29,30,31]] ?_
  refine zz ?_
  exact ⟨IntKind.i64.wrap (vi_1 + 1),l2.set (Int.toNat vi_1) (bits .or .u32 (bits .or .u32 (bits .or .u32 x18 x25) jU) (IntKind.u32.wrap x38)),hr4,(zG [0,1,2])⟩
 ·refine zz ?_
  obtain rfl := sj hr4
  refine zz ?_
  exact hG1 _ _ _ _ (zG [1,2]) (J1 l2 hr)
theorem aEA {N : Nat} {r : (List Int)} (hr : t0 N = some r) :
  Vm.Fn Tryz.prog 127 [] [] (.agg (r.map (eI .u32))) [] := by
 refine zf Tryz.func127 Tryz.ntmps127 ?_
 unfold t0 at hr
 refine zz ?_
 refine xw (v := (.agg ([1116352408,1899447441,3049323471,3921009573,961987163,1508970993,2453635748,2870763221,3624381080,310598401,607225278,1426881987,1925078388,2162078206,2614888103,3248222580,3835390401,4022224774,264347078,604807628,770255983,1249150122,1555081692,1996064986,2554220882,2821834349,2952996808,3210313671,3336571891,3584528711,113926993,338241895,666307205,773529912,1294757372,1396182291,1695183700,1986661051,2177026350,2456956037,2730485921,2820302411,3259730800,3345764771,3516065817,3600352804,4094571909,275423344,430227734,506948616,659060556,883997877,958139571,1322822218,1537002063,1747873779,1955562222,2024104815,2227730452,2361852424,2428436474,2756734187,3204031479,3329325298].map (eI .u32)))) (bQ rfl (jO aLM vU rfl)) ?_
 refine zz ?_
 obtain rfl := sj hr
 exact fD Tryz.results127 bM (zG [])
theorem aFd {N : Nat} {cE : List Int} {block : List Int} {r : (List Int)} (hr : nZ N cE block = some r) :
  Vm.Fn Tryz.prog 120 [] [(.agg (cE.map (eI .u32))),(.agg (block.map (eI .u8)))] (.agg (r.map (eI .u32))) [] := by
 refine zf Tryz.func120 Tryz.ntmps120 ?_
 unfold nZ at hr
 obtain ⟨q,h_1,hr⟩ := aC hr
 obtain ⟨x19,h_2,hr⟩ := aC hr
 obtain ⟨dX,h_3,hr⟩ := aC hr
 obtain ⟨q_1,h_4,hr⟩ := aC hr
 obtain ⟨q_2,h_5,hr⟩ := aC hr
 refine zz ?_
 refine xp (aFf h_2) <| xp (aEA h_3) ?_
 refine zz ?_
 refine AB.seq ?_
 obtain ⟨dI,h_6,hr⟩ := aC hr
 obtain ⟨eN,h_7,hr⟩ := aC hr
 obtain ⟨x25,h_8,hr⟩ := aC hr
 obtain ⟨x27,h_9,hr⟩ := aC hr
 obtain ⟨x29,h_10,hr⟩ := aC hr
 obtain ⟨cM,h_11,hr⟩ := aC hr
 obtain ⟨jU,h_12,hr⟩ := aC hr
 obtain ⟨x35,h_13,hr⟩ := aC hr
 refine AB.rs mixed [] [] [[0,1,2,3,4,5,6,7,8,9,10,11,12,13,14,15,16,17,18,19,20,21,22,23]] ?_
 refine zz ?_
 refine AB.seq_g fun K1 hK1 hG1 => ?_
 have J1 : ∀ (va : Int) (b : Int) (c : Int) (d : Int) (ve : Int) (f : Int) (g : Int) (vh : Int),rC N cE va b c d ve f g vh = some r → K1 (aK 133 [(2,(.ptr 0 0)),(4,(.ptr 1 0)),(7,(eI .u32 va)),(8,(eI .u32 b)),(9,(eI .u32 c)),(10,(eI .u32 d)),(11,(eI .u32 ve)),(12,(eI .u32 f)),(13,(eI .u32 g)),(14,(eI .u32 vh))]) [some ⟨146,cE.map (eI .u32)⟩,some ⟨146,(List.replicate 8 0).map (eI .u32)⟩] := by
  intro va b c d ve f g vh hr
  unfold rC at hr
  refine hK1 _ _ ?_
  obtain ⟨aFA,h_14,hr⟩ := aC hr
  obtain ⟨aNs,h_15,hr⟩ := aC hr
  obtain ⟨aEN,h_16,hr⟩ := aC hr
  obtain ⟨aOn,h_17,hr⟩ := aC hr
  obtain ⟨aOk,h_18,hr⟩ := aC hr
  obtain ⟨aOb,h_19,hr⟩ := aC hr
  obtain ⟨aNn,h_20,hr⟩ := aC hr
  obtain ⟨aN7,h_21,hr⟩ := aC hr
  refine zz ?_
  refine xw (v := (.agg ([IntKind.u32.wrap (aFA + va),IntKind.u32.wrap (aNs + b),IntKind.u32.wrap (aEN + c),IntKind.u32.wrap (aOn + d),IntKind.u32.wrap (aOk + ve),IntKind.u32.wrap (aOb + f),IntKind.u32.wrap (aNn + g),IntKind.u32.wrap (aN7 + vh)].map (eI .u32)))) (bQ rfl (jO aEV vU rfl)) ?_
  refine zz ?_
  obtain rfl := sj hr
  exact fD Tryz.results120 bM (zG [])
 obtain ⟨bO,hL2,hr⟩ := aC hr
 refine zz ?_
 refine AB.block <| AB.loopN (fun m s h => ∃ (va_1 : Int) (b_1 : Int) (c_1 : Int) (d_1 : Int) (ve_1 : Int) (f_1 : Int) (g_1 : Int) (vh_1 : Int) (vi : Int),iV N cE x19 dX m va_1 b_1 c_1 d_1 ve_1 f_1 g_1 vh_1 vi = some bO ∧ Ghost 0 s h (aK 133 [(2,(.ptr 0 0)),(4,(.ptr 1 0)),(5,(.ptr 2 0)),(6,(.ptr 3 0)),(7,(eI .u32 va_1)),(8,(eI .u32 b_1)),(9,(eI .u32 c_1)),(10,(eI .u32 d_1)),(11,(eI .u32 ve_1)),(12,(eI .u32 f_1)),(13,(eI .u32 g_1)),(14,(eI .u32 vh_1)),(15,(eI .i64 vi))]) [some ⟨146,cE.map (eI .u32)⟩,some ⟨146,(List.replicate 8 0).map (eI .u32)⟩,some ⟨164,x19.map (eI .u32)⟩,some ⟨164,dX.map (eI .u32)⟩]) (n := N) ⟨dI,eN,x25,x27,x29,cM,jU,x35,0,hL2,(zG [0,2,3,4])⟩ (by rintro s h ⟨_,_,_,_,_,_,_,_,_,h0,_⟩; simp [iV] at h0) ?_
 rintro m2 s h ⟨va_1,b_1,c_1,d_1,ve_1,f_1,g_1,vh_1,vi,hr2,hg⟩
 refine AB.ghost hg ?_
 clear hg hL2
 rw [iV] at hr2
 refine AB.seq ?_
 refine zz ?_
 refine zk hr2 rfl (fun h22 hr2 => ?_) (fun h22 hr2 => ?_)
 ·refine zz ?_
  refine AB.seq <| AB.block <| AB.seq ?_
  obtain ⟨x43,h_23,hr2⟩ := aC hr2
  obtain ⟨x45,h_25,hr2⟩ := aC hr2
  obtain ⟨x48,h_27,hr2⟩ := aC hr2
  obtain ⟨x61,h_29,hr2⟩ := aC hr2
  obtain ⟨x65,h_30,hr2⟩ := aC hr2
  refine AB.rs mixed [128] [] [[0,1,2,3,4,5,6,7,8,9,10,11,12,13,14,15,16,17,18,19,20,21,22,23,24,25,26,27]] ?_
  refine zz ?_
  refine xu (iK h_23) ?_
  refine zz ?_
  refine xu (iK h_25) ?_
  refine zz ?_
  refine xu (iK h_27) ?_
  refine zz ?_
  refine xw (v := (eI .u32 (bits .xor .u32 (IntKind.max .u32) ve_1))) (aJ6 rfl (aLb rfl _)) ?_
  obtain ⟨x69,h_31,hr2⟩ := aC hr2
  obtain ⟨x71,h_32,hr2⟩ := aC hr2
  obtain ⟨x74,h_33,hr2⟩ := aC hr2
  refine zz ?_
  refine xp (iK h_31) ?_
  refine zz ?_
  refine xp (iK h_32) ?_
  refine zz ?_
  refine xp (iK h_33) ?_
  refine zz ?_
  exact ⟨IntKind.u32.wrap ((IntKind.u32.wrap ((IntKind.u32.wrap ((IntKind.u32.wrap ((IntKind.u32.wrap (vh_1 + (bits .xor .u32 (bits .xor .u32 x43 x45) x48))) + (bits .xor .u32 (bits .and .u32 ve_1 f_1) (bits .and .u32 (bits .xor .u32 (IntKind.max .u32) ve_1) g_1)))) + x61)) + x65)) + (IntKind.u32.wrap ((bits .xor .u32 (bits .xor .u32 x69 x71) x74) + (bits .xor .u32 (bits .xor .u32 (bits .and .u32 va_1 b_1) (bits .and .u32 va_1 c_1)) (bits .and .u32 b_1 c_1))))),va_1,b_1,c_1,IntKind.u32.wrap (d_1 + (IntKind.u32.wrap ((IntKind.u32.wrap ((IntKind.u32.wrap ((IntKind.u32.wrap (vh_1 + (bits .xor .u32 (bits .xor .u32 x43 x45) x48))) + (bits .xor .u32 (bits .and .u32 ve_1 f_1) (bits .and .u32 (bits .xor .u32 (IntKind.max .u32) ve_1) g_1)))) + x61)) + x65))),ve_1,f_1,g_1,IntKind.i64.wrap (vi + 1),hr2,(zG [0,1,2,3])⟩
 ·refine zz ?_
  obtain rfl := sj hr2
  refine zz ?_
  exact hG1 _ _ _ _ (zG [0,1]) (J1 va_1 b_1 c_1 d_1 ve_1 f_1 g_1 vh_1 hr)
theorem aEP {N : Nat} {b : List Int} {r : (List Int)} (hr : xQ N b = some r) :
  Vm.Fn Tryz.prog 94 [] [(.row none 1 (b.map (eI .u8)))] (.agg (r.map (eI .u8))) [] := by
 refine zf Tryz.func94 Tryz.ntmps94 ?_
 unfold xQ at hr
 obtain ⟨b4,h_1,hr⟩ := aC hr
 obtain ⟨x15,h_2,hr⟩ := aC hr
 obtain ⟨x16,h_3,hr⟩ := aC hr
 refine zz ?_
 refine zc (aJD h_2) [] ?_
 obtain ⟨x17,h_4,hr⟩ := aC hr
 obtain ⟨q,h_5,hr⟩ := aC hr
 refine zz ?_
 refine xp (aFq h_4) ?_
 refine zz ?_
 refine AB.seq_g fun K1 hK1 hG1 => ?_
 have J1 : ∀ (l1 : List Int),y6 N l1 = some r → K1 (aK 66 [(2,(.ptr 0 0)),(4,(.ptr 1 0))]) [some ⟨24,(List.replicate 32 0).map (eI .u8)⟩,some ⟨146,l1.map (eI .u32)⟩] := by
  intro l1 hr
  unfold y6 at hr
  refine hK1 _ _ ?_
  refine zz ?_
  refine AB.seq_g fun K2 hK2 hG2 => ?_
  have J2 : ∀ (cW : List Int),zY N cW = some r → K2 (aK 66 [(2,(.ptr 0 0)),(7,(.ptr 1 0))]) [some ⟨24,(List.replicate 32 0).map (eI .u8)⟩,some ⟨24,cW.map (eI .u8)⟩] := by
   intro cW hr
   unfold zY at hr
   refine hK2 _ _ ?_
   obtain ⟨q_1,h_6,hr⟩ := aC hr
   refine zz ?_
   obtain rfl := sj hr
   exact fD Tryz.results94 bM (zG [])
  obtain ⟨q_2,h_7,hr⟩ := aC hr
  obtain ⟨tL,hL3,hr⟩ := aC hr
  refine zz ?_
  refine AB.block <| AB.loopN (fun m s h => ∃ (dH : Int) (l1_2 : List Int),oX N l1 m dH l1_2 = some tL ∧ Ghost 0 s h (aK 66 [(2,(.ptr 0 0)),(7,(.ptr 1 0)),(33,(.agg (l1.map (eI .u32)))),(34,(eI .i64 dH))]) [some ⟨24,(List.replicate 32 0).map (eI .u8)⟩,some ⟨24,l1_2.map (eI .u8)⟩]) (n := N) ⟨0,List.replicate 32 0,hL3,(zG [0,2])⟩ (by rintro s h ⟨_,_,h0,_⟩; simp [oX] at h0) ?_
  rintro m3 s h ⟨dH,l1_2,hr3,hg⟩
  refine AB.ghost hg ?_
  clear hg hL3
  rw [oX] at hr3
  refine zz ?_
  refine AB.seq ?_
  refine zk hr3 rfl (fun h8 hr3 => ?_) (fun h8 hr3 => ?_)
  ·refine zz ?_
   refine AB.seq <| AB.block ?_
   obtain ⟨x37,h_9,hr3⟩ := aC hr3
   refine zz ?_
   refine xw (v := (eI .u32 x37)) (aOr rfl rfl (ixA (E := (eI .u32)) aEV vU rfl rfl h_9)) ?_
   obtain ⟨x50,h_10,hr3⟩ := aC hr3
   obtain ⟨x53,h_11,hr3⟩ := aC hr3
   obtain ⟨x56,h_12,hr3⟩ := aC hr3
   obtain ⟨x60,h_13,hr3⟩ := aC hr3
   obtain ⟨x61,h_14,hr3⟩ := aC hr3
   obtain ⟨x62,h_15,hr3⟩ := aC hr3
   obtain ⟨x63,h_16,hr3⟩ := aC hr3
   refine zz ?_
   exact ⟨IntKind.i64.wrap (dH + 1),(((l1_2.set (Int.toNat (IntKind.i64.wrap (4 * dH))) (IntKind.u8.wrap x50)).set (Int.toNat (IntKind.i64.wrap ((IntKind.i64.wrap (4 * dH)) + 1))) (IntKind.u8.wrap x53)).set (Int.toNat (IntKind.i64.wrap ((IntKind.i64.wrap (4 * dH)) + 2))) (IntKind.u8.wrap x56)).set (Int.toNat (IntKind.i64.wrap ((IntKind.i64.wrap (4 * dH)) + 3))) (IntKind.u8.wrap x37),hr3,(zG [0,1])⟩
  ·refine zz ?_
   obtain rfl := sj hr3
   refine zz ?_
   exact hG2 _ _ _ _ (zG [0,1]) (J2 l1_2 hr)
 refine zz ?_
 refine AB.ghost (zv 4) ?_
 obtain ⟨res4,hL4,hr⟩ := aC hr
 refine AB.block <| AB.loopN (fun m s h => ∃ (vi : Int) (l1_3 : List Int),oM N x16 m vi l1_3 = some res4 ∧ Ghost 0 s h (aK 66 [(2,(.ptr 0 0)),(3,(.row none 1 (x16.map (eI .u8)))),(4,(.ptr 1 0)),(5,(eI .i64 vi))]) [some ⟨24,(List.replicate 32 0).map (eI .u8)⟩,some ⟨146,l1_3.map (eI .u32)⟩]) (n := N) ⟨0,x17,hL4,(zG [0,5])⟩ (by rintro s h ⟨_,_,h0,_⟩; simp [oM] at h0) ?_
 rintro m4 s h ⟨vi,l1_3,hr4,hg⟩
 refine AB.ghost hg ?_
 clear hg hL4
 rw [oM] at hr4
 refine AB.seq ?_
 refine zz ?_
 refine zk hr4 rfl (fun h17 hr4 => ?_) (fun h17 hr4 => ?_)
 ·refine zz ?_
  refine AB.seq <| AB.block ?_
  refine zz ?_
  refine AB.seq ?_
  obtain ⟨x28,h_18,hr4⟩ := aC hr4
  refine AB.rs mixed [] [] [[0,1,2,3,4]] ?_
  refine zz ?_
  refine xw (v := (eI .i64 ((min x28.length (List.replicate 64 0).length : Nat) : Int))) (h' := [some ⟨24,(List.replicate 32 0).map (eI .u8)⟩,some ⟨146,l1_3.map (eI .u32)⟩,some ⟨148,(cpy (List.replicate 64 0) x28).map (eI .u8)⟩]) (aIT rfl rfl (aNl (E := (eI .u8)) (l := List.replicate 64 0) rfl eU gX rfl rfl (aG6 (fun _ => rfl)) rfl)) ?_
  obtain ⟨q_3,h_19,hr4⟩ := aC hr4
  obtain ⟨q_4,h_20,hr4⟩ := aC hr4
  obtain ⟨kL,h_21,hr4⟩ := aC hr4
  obtain ⟨q_5,h_22,hr4⟩ := aC hr4
  refine zz ?_
  refine xp (aFd h_21) ?_
  refine zz ?_
  exact ⟨IntKind.i64.wrap (vi + 64),kL,hr4,(zG [0,1])⟩
 ·refine zz ?_
  obtain rfl := sj hr4
  refine zz ?_
  exact hG1 _ _ _ _ (zG [0,1]) (J1 l1_3 hr)
theorem qF {N : Nat} {tag : ByteArray} {b : List Int} {r : (List Int)} (hr : rP N tag b = some r) :
  Vm.Fn Tryz.prog 63 [] [(eS tag),(.row none 1 (b.map (eI .u8)))] (.agg (r.map (eI .u8))) [] := by
 refine zf Tryz.func63 Tryz.ntmps63 ?_
 unfold rP at hr
 obtain ⟨x7,h_1,hr⟩ := aC hr
 obtain ⟨x8,h_2,hr⟩ := aC hr
 obtain ⟨q,h_3,hr⟩ := aC hr
 refine zz ?_
 refine aQI (h' := [some ⟨24,(List.replicate 32 0).map (eI .u8)⟩,some ⟨5,x7.map (eI .u8)⟩]) rfl ti9 eU gX h_1 rfl rfl <| xV (aEP h_2) [] [1] ?_
 refine zz ?_
 refine AB.seq ?_
 obtain ⟨bV,h_4,hr⟩ := aC hr
 obtain ⟨eM,h_5,hr⟩ := aC hr
 obtain ⟨bH,h_6,hr⟩ := aC hr
 obtain ⟨x15,h_7,hr⟩ := aC hr
 obtain ⟨q_1,h_9,hr⟩ := aC hr
 refine AB.rs mixed [] [94] [[0,1,2,3,4,5,6,7]] ?_
 refine zz ?_
 refine zgL (aEP h_7) [] [6] ?_
 refine zz ?_
 obtain rfl := sj hr
 exact fD Tryz.results63 bM (zG [])
theorem aCR {N : Nat} {x : List Int} {vm : List Int} {r : (List Int)} (hr : kA N x vm = some r) :
  Vm.Fn Tryz.prog 29 [] [(.agg (x.map (eI .u64))),(.agg (vm.map (eI .u8)))] (.agg (r.map (eI .u64))) [] := by
 refine zf Tryz.func29 Tryz.ntmps29 ?_
 unfold kA at hr
 refine zz ?_
 refine AB.seq ?_
 obtain ⟨q,h_1,hr⟩ := aC hr
 refine AB.ghost (zv 1) ?_
 obtain ⟨q_1,h_2,hr⟩ := aC hr
 obtain ⟨x7,h_3,hr⟩ := aC hr
 obtain ⟨bV,h_5,hr⟩ := aC hr
 obtain ⟨b4,h_7,hr⟩ := aC hr
 obtain ⟨eM,h_9,hr⟩ := aC hr
 obtain ⟨q_2,h_11,hr⟩ := aC hr
 refine AB.rd (d7 [6,33]) (d7 [32,63]) mixed <| DrawG.pick (n := 8) (i := 0) (by decide +kernel) rfl (gS (v := (.agg (x.map (eI .u64)))) (sv (bW rfl (xT (E := (eI .u64)) (l := x) bX rfl rfl (aZ h_2))))) <| DrawG.pick (n := 7) (i := 1) (by decide +kernel) rfl (gU (fun _ => (Vm.Fn.pure (qD h_3) zR rfl)) rfl (sv (d6 rfl lQ))) <| DrawG.pick (n := 6) (i := 2) (by decide +kernel) rfl (gS (v := (.row none 1 (vm.map (eI .u8)))) (sv (eT rfl rfl rfl (slE (E := (eI .u8)) (l := vm) i0 gX rfl rfl (aZ h_1) zl)))) ?_
 refine DrawG.jn (m := 1) (L := lst [0,1,2,3,4,5,6,7] 9) (s1 := aK 17 [(4,(.ptr 0 0)),(5,(.ptr 1 0)),(12,(.agg (eM.map (eI .u64))))]) (h1 := [some ⟨31,(List.replicate 4 0).map (eI .u64)⟩,some ⟨31,(List.replicate 4 0).map (eI .u64)⟩]) ?_ (fun J => ?_)
 ·refine DrawG.pick (n := 0) (i := 8) (by decide +kernel) rfl (gN (h' := [some ⟨31,(List.replicate 4 0).map (eI .u64)⟩,some ⟨31,eM.map (eI .u64)⟩]) (sv (bN rfl rfl (q5 (E := (eI .u64)) (l := List.replicate 4 0) bX rfl rfl (fun _ => rfl) rfl (aZ h_11) rfl)))) <| DrawG.nil (by decide +kernel) ?_
  refine zz ?_
  refine AB.seq ?_
  obtain ⟨bH,h_12,hr⟩ := aC hr
  refine zz ?_
  refine xp (pJ h_12) ?_
  refine zz ?_
  refine zk hr rfl (fun h13 hr => ?_) (fun h13 hr => ?_)
  ·obtain ⟨x15,h_14,hr⟩ := aC hr
   obtain ⟨q_3,h_15,hr⟩ := aC hr
   refine zz ?_
   refine xp (q9 h_14) ?_
   refine zz ?_
   obtain rfl := sj hr
   exact fD Tryz.results29 bM (zG [])
  ·refine zz ?_
   obtain rfl := sj hr
   exact fD Tryz.results29 bM (zG [])
 ·refine DrawG.fork (n := 5) [3,7] (by decide +kernel) (by decide) ?_
  refine (Fork.cons rfl (gS (v := (.sl 3 0 2 1 false)) (h' := [some ⟨31,x.map (eI .u64)⟩,none,some ⟨31,(List.replicate 4 0).map (eI .u64)⟩,some ⟨22,[x7,vm].map (eL 1 (eI .u8))⟩]) (sv (lF rfl (aIH (xs := [x7,vm].map (eL 1 (eI .u8))) w8 eU zl zl rfl rfl rfl rfl rfl rfl rfl)))) ?_ (Fork.cons rfl (gS (v := (.ptr 3 0)) (h' := [some ⟨31,x.map (eI .u64)⟩,none,some ⟨31,(List.replicate 4 0).map (eI .u64)⟩,some ⟨31,(List.replicate 4 0).map (eI .u64)⟩]) (sv (cD bX rfl rfl rfl))) ?_ Fork.nil))
  ·refine DrawG.fork (n := 4) [4,7] (by decide +kernel) (by decide) ?_
   refine (Fork.cons rfl (gC (v := (.sl 4 0 bV.length 1 false)) (h' := [some ⟨31,x.map (eI .u64)⟩,none,some ⟨31,(List.replicate 4 0).map (eI .u64)⟩,some ⟨22,[x7,vm].map (eL 1 (eI .u8))⟩,some ⟨5,bV.map (eI .u8)⟩]) (zL (nE h_5) [] [3]) rfl (fun _ => ⟨_,rfl⟩) (sv (d6 rfl fH))) ?_ (Fork.cons rfl (gS (v := (.ptr 4 0)) (h' := [some ⟨31,x.map (eI .u64)⟩,none,some ⟨31,(List.replicate 4 0).map (eI .u64)⟩,some ⟨22,[x7,vm].map (eL 1 (eI .u8))⟩,some ⟨31,(List.replicate 4 0).map (eI .u64)⟩]) (sv (cD bX rfl rfl rfl))) ?_ Fork.nil))
   ·refine DrawG.fork (n := 3) [5,7] (by decide +kernel) (by decide) ?_
    refine (Fork.cons rfl (gC (v := (.agg (b4.map (eI .u8)))) (h' := [some ⟨31,x.map (eI .u64)⟩,none,some ⟨31,(List.replicate 4 0).map (eI .u64)⟩,some ⟨22,[x7,vm].map (eL 1 (eI .u8))⟩,some ⟨5,bV.map (eI .u8)⟩]) (zL (qF h_7) [] [4]) rfl (fun _ => ⟨[],by simp⟩) (sv (d6 rfl fH))) ?_ (Fork.cons rfl (gS (v := (.ptr 5 0)) (h' := [some ⟨31,x.map (eI .u64)⟩,none,some ⟨31,(List.replicate 4 0).map (eI .u64)⟩,some ⟨22,[x7,vm].map (eL 1 (eI .u8))⟩,some ⟨5,bV.map (eI .u8)⟩,some ⟨31,(List.replicate 4 0).map (eI .u64)⟩]) (sv (cD bX rfl rfl rfl))) ?_ Fork.nil))
    ·refine DrawG.pick (n := 2) (i := 6) (by decide +kernel) rfl (gU (fun _ => (Vm.Fn.pure (i4 h_9) zR zR)) rfl (sv (d6 rfl lQ))) <| DrawG.pick (n := 1) (i := 7) (by decide +kernel) rfl (gS (v := (.ptr 5 0)) (h' := [some ⟨31,x.map (eI .u64)⟩,none,some ⟨31,(List.replicate 4 0).map (eI .u64)⟩,some ⟨22,[x7,vm].map (eL 1 (eI .u8))⟩,some ⟨5,bV.map (eI .u8)⟩,some ⟨31,(List.replicate 4 0).map (eI .u64)⟩]) (sv (cD bX rfl rfl rfl))) ?_
     exact DrawG.jg (by decide +kernel) (by decide +kernel) (zG [2,5]) J
    ·refine DrawG.pick (n := 2) (i := 5) (by decide +kernel) rfl (gC (v := (.agg (b4.map (eI .u8)))) (h' := [some ⟨31,x.map (eI .u64)⟩,none,some ⟨31,(List.replicate 4 0).map (eI .u64)⟩,some ⟨22,[x7,vm].map (eL 1 (eI .u8))⟩,some ⟨5,bV.map (eI .u8)⟩,some ⟨31,(List.replicate 4 0).map (eI .u64)⟩]) (zL (qF h_7) [] [4]) rfl (fun _ => ⟨[],by simp⟩) (sv (d6 rfl fH))) <| DrawG.pick (n := 1) (i := 6) (by decide +kernel) rfl (gU (fun _ => (Vm.Fn.pure (i4 h_9) zR zR)) rfl (sv (d6 rfl lQ))) ?_
     exact DrawG.jg (by decide +kernel) (by decide +kernel) (zG [2,5]) J
   ·refine DrawG.pick (n := 3) (i := 4) (by decide +kernel) rfl (gC (v := (.sl 5 0 bV.length 1 false)) (h' := [some ⟨31,x.map (eI .u64)⟩,none,some ⟨31,(List.replicate 4 0).map (eI .u64)⟩,some ⟨22,[x7,vm].map (eL 1 (eI .u8))⟩,some ⟨31,(List.replicate 4 0).map (eI .u64)⟩,some ⟨5,bV.map (eI .u8)⟩]) (zL (nE h_5) [] [3]) rfl (fun _ => ⟨_,rfl⟩) (sv (d6 rfl fH))) <| DrawG.pick (n := 2) (i := 5) (by decide +kernel) rfl (gC (v := (.agg (b4.map (eI .u8)))) (h' := [some ⟨31,x.map (eI .u64)⟩,none,some ⟨31,(List.replicate 4 0).map (eI .u64)⟩,some ⟨22,[x7,vm].map (eL 1 (eI .u8))⟩,some ⟨31,(List.replicate 4 0).map (eI .u64)⟩,some ⟨5,bV.map (eI .u8)⟩]) (zL (qF h_7) [] [5]) rfl (fun _ => ⟨[],by simp⟩) (sv (d6 rfl fH))) ?_
    refine DrawG.pick (n := 1) (i := 6) (by decide +kernel) rfl (gU (fun _ => (Vm.Fn.pure (i4 h_9) zR zR)) rfl (sv (d6 rfl lQ))) ?_
    exact DrawG.jg (by decide +kernel) (by decide +kernel) (zG [2,4]) J
  ·refine DrawG.pick (n := 4) (i := 3) (by decide +kernel) rfl (gS (v := (.sl 4 0 2 1 false)) (h' := [some ⟨31,x.map (eI .u64)⟩,none,some ⟨31,(List.replicate 4 0).map (eI .u64)⟩,some ⟨31,(List.replicate 4 0).map (eI .u64)⟩,some ⟨22,[x7,vm].map (eL 1 (eI .u8))⟩]) (sv (lF rfl (aIH (xs := [x7,vm].map (eL 1 (eI .u8))) w8 eU zl zl rfl rfl rfl rfl rfl rfl rfl)))) <| DrawG.pick (n := 3) (i := 4) (by decide +kernel) rfl (gC (v := (.sl 5 0 bV.length 1 false)) (h' := [some ⟨31,x.map (eI .u64)⟩,none,some ⟨31,(List.replicate 4 0).map (eI .u64)⟩,some ⟨31,(List.replicate 4 0).map (eI .u64)⟩,some ⟨22,[x7,vm].map (eL 1 (eI .u8))⟩,some ⟨5,bV.map (eI .u8)⟩]) (zL (nE h_5) [] [4]) rfl (fun _ => ⟨_,rfl⟩) (sv (d6 rfl fH))) ?_
   refine DrawG.pick (n := 2) (i := 5) (by decide +kernel) rfl (gC (v := (.agg (b4.map (eI .u8)))) (h' := [some ⟨31,x.map (eI .u64)⟩,none,some ⟨31,(List.replicate 4 0).map (eI .u64)⟩,some ⟨31,(List.replicate 4 0).map (eI .u64)⟩,some ⟨22,[x7,vm].map (eL 1 (eI .u8))⟩,some ⟨5,bV.map (eI .u8)⟩]) (zL (qF h_7) [] [5]) rfl (fun _ => ⟨[],by simp⟩) (sv (d6 rfl fH))) <| DrawG.pick (n := 1) (i := 6) (by decide +kernel) rfl (gU (fun _ => (Vm.Fn.pure (i4 h_9) zR zR)) rfl (sv (d6 rfl lQ))) ?_
   exact DrawG.jg (by decide +kernel) (by decide +kernel) (zG [2,3]) J
theorem uY {N : Nat} {vr : List Int} {p : List Int} {vm : List Int} {r : (List Int)} (hr : kB N vr p vm = some r) :
  Vm.Fn Tryz.prog 30 [] [(.agg (vr.map (eI .u64))),(.agg (p.map (eI .u64))),(.agg (vm.map (eI .u8)))] (.agg (r.map (eI .u64))) [] := by
 refine zf Tryz.func30 Tryz.ntmps30 ?_
 unfold kB at hr
 refine zz ?_
 refine AB.seq ?_
 obtain ⟨q,h_1,hr⟩ := aC hr
 obtain ⟨x8,h_2,hr⟩ := aC hr
 obtain ⟨q_1,h_4,hr⟩ := aC hr
 obtain ⟨bV,h_5,hr⟩ := aC hr
 obtain ⟨q_2,h_7,hr⟩ := aC hr
 obtain ⟨eD,h_8,hr⟩ := aC hr
 obtain ⟨bH,h_10,hr⟩ := aC hr
 obtain ⟨x15,h_12,hr⟩ := aC hr
 obtain ⟨q_3,h_14,hr⟩ := aC hr
 refine AB.rs mixed [6,33] [32,63] [[0,1,2,3,4],[5,6,7,8,9]] ?_
 refine zz ?_
 refine xu (qD h_2) ?_
 refine zz ?_
 refine xu (qD h_5) ?_
 refine zz ?_
 refine ⟨_,_,(zv 2), ?_⟩
 refine zz ?_
 refine zgL (nE h_8) [] [4] ?_
 refine zgL (qF h_10) [] [5] ?_
 refine xu (i4 h_12) ?_
 refine zz ?_
 obtain rfl := sj hr
 exact fD Tryz.results30 bM (zG [])
theorem aEw {N : Nat} {va : List Int} {b : List Int} {r : (List Int)} (hr : pO N va b = some r) :
  Vm.Fn Tryz.prog 31 [] [(.agg (va.map (eI .u64))),(.agg (b.map (eI .u64)))] (.agg (r.map (eI .u64))) [] := by
 refine zf Tryz.func31 Tryz.ntmps31 ?_
 unfold pO at hr
 refine zz ?_
 refine AB.seq ?_
 obtain ⟨q,h_1,hr⟩ := aC hr
 obtain ⟨q_1,h_2,hr⟩ := aC hr
 obtain ⟨x7,h_3,hr⟩ := aC hr
 obtain ⟨x8,h_5,hr⟩ := aC hr
 obtain ⟨q_2,h_7,hr⟩ := aC hr
 refine AB.rs mixed [58,64] [] [[0,1,2,3,4]] ?_
 refine zz ?_
 refine xu (aAm h_3) <| xu (yQ h_5) ?_
 refine zz ?_
 obtain rfl := sj hr
 exact fD Tryz.results31 bM (zG [])
theorem aIA {N : Nat} {x : List Int} {vm : List Int} {r : (List Int) × (List Int) × Int} (hr : zK N x vm = some r) :
  Vm.Fn Tryz.prog 8 [] [(.agg (x.map (eI .u64))),(.agg (vm.map (eI .u8)))] (.tup [(.agg (eQ (eI .u64) r.1 (eQ (eI .u64) r.2.1 []))),(eI .i64 r.2.2)]) [] := by
 refine zf Tryz.func8 Tryz.ntmps8 ?_
 unfold zK at hr
 refine zz ?_
 refine xw (v := (.ptr 2 0)) (h' := [some ⟨31,x.map (eI .u64)⟩,some ⟨24,vm.map (eI .u8)⟩,some ⟨37,(eQ (eI .u64) (List.replicate 4 0) (eQ (eI .u64) (List.replicate 4 0) []))⟩]) (cD xH rfl rfl rfl) ?_
 obtain ⟨q,h_1,hr⟩ := aC hr
 obtain ⟨eM,h_2,hr⟩ := aC hr
 obtain ⟨q_1,h_3,hr⟩ := aC hr
 refine zz ?_
 refine xp (yJ h_2) ?_
 refine zz ?_
 refine AB.seq ?_
 refine zz ?_
 refine zk hr rfl (fun h4 hr => ?_) (fun h4 hr => ?_)
 ·refine zz ?_
  refine xw (v := (.agg (eQ (eI .u64) (List.replicate 4 0) (eQ (eI .u64) (List.replicate 4 0) [])))) (bQ rfl (qL xH aHx rfl)) ?_
  refine zz ?_
  obtain rfl := sj hr
  exact wM Tryz.results8 bM bM (zG [])
 ·obtain ⟨q_2,h_5,hr⟩ := aC hr
  obtain ⟨dI,h_6,hr⟩ := aC hr
  obtain ⟨q_3,h_7,hr⟩ := aC hr
  refine zz ?_
  refine xp (aCR h_6) ?_
  refine zz ?_
  refine AB.seq ?_
  obtain ⟨eN,h_8,hr⟩ := aC hr
  obtain ⟨x26,h_10,hr⟩ := aC hr
  obtain ⟨q_4,h_12,hr⟩ := aC hr
  refine AB.rs mixed [28,30] [] [[0,1,2,3,4,5,6]] ?_
  refine zz ?_
  refine xu (aAg h_8) ?_
  refine zz ?_
  refine xu (uY h_10) ?_
  refine zz ?_
  refine AB.seq ?_
  obtain ⟨cM,h_13,hr⟩ := aC hr
  obtain ⟨kL,h_15,hr⟩ := aC hr
  obtain ⟨q_5,h_17,hr⟩ := aC hr
  refine AB.rs mixed [25,31] [] [[0,1,2,3,4,5,6,7,8]] ?_
  refine zz ?_
  refine xu (aEw h_13) <| xu (aAN h_15) <| xw (v := (.agg (eQ (eI .u64) x26 (eQ (eI .u64) kL [])))) (bQ rfl (aLC (ps' := [(0,(.agg (eQ (eI .u64) x26 []))),(1,(.agg (eQ (eI .u64) kL [])))]) (by simp only [aCP (l := x26) (aZ h_12),aCP (l := kL) (aZ h_17)]) (qL xH aHx rfl))) ?_
  refine zz ?_
  obtain rfl := sj hr
  exact wM Tryz.results8 bM bM (zG [])
theorem aGD {N : Nat} {s_E : List Int} {s_S : List Int} {r : (List Int)} (hr : uH N s_E s_S = some r) :
  Vm.Fn Tryz.prog 9 [] [(.agg (eQ (eI .u64) s_E (eQ (eI .u64) s_S [])))] (.row none 1 (r.map (eI .u8))) [] := by
 refine zf Tryz.func9 Tryz.ntmps9 ?_
 unfold uH at hr
 refine zz ?_
 refine AB.seq ?_
 obtain ⟨q,h_1,hr⟩ := aC hr
 obtain ⟨x5,h_2,hr⟩ := aC hr
 obtain ⟨q_1,h_4,hr⟩ := aC hr
 obtain ⟨x8,h_5,hr⟩ := aC hr
 obtain ⟨bV,h_7,hr⟩ := aC hr
 refine AB.rs mixed [33] [32] [[0,1,2,3,4,5,6,7,8]] ?_
 refine zz ?_
 refine xu (qD h_2) ?_
 refine zz ?_
 refine xu (qD h_5) ?_
 refine zz ?_
 refine zgL (nE h_7) [] [1] ?_
 refine zz ?_
 obtain rfl := sj hr
 exact fD Tryz.results9 bM (Ghost.trans (zv 2) (zG []))
theorem aDZ {N : Nat} {b : List Int} {c6 : List (List Int)} {d5 : List Int} {fB : Int} {lV : Int} {r : Int} (hr : oU N b c6 d5 fB lV = some r) :
  Vm.Fn Tryz.prog 11 [] [(.row none 1 (b.map (eI .u8))),(.row none 1 (c6.map (eL 1 (eI .u8)))),(.agg (bG (eI .u8) d5 [(eI .i64 fB),(eI .i64 lV)]))] (eI .i64 r) [] := by
 refine zf Tryz.func11 Tryz.ntmps11 ?_
 unfold oU at hr
 obtain ⟨bH,h_1,hr⟩ := aC hr
 refine zz ?_
 refine zc (aIt h_1) [] ?_
 refine zz ?_
 refine AB.seq <| AB.block ?_
 refine zz ?_
 refine zk hr rfl (fun h2 hr => ?_) (fun h2 hr => ?_)
 ·refine zz ?_
  obtain rfl := sj hr
  exact bL Tryz.results11 []
 ·refine zz ?_
  refine zk hr rfl (fun h3 hr => ?_) (fun h3 hr => ?_)
  ·refine zz ?_
   obtain rfl := sj hr
   exact bL Tryz.results11 []
  ·obtain ⟨x28,h_4,hr⟩ := aC hr
   obtain ⟨j4,h_5,hr⟩ := aC hr
   refine zz ?_
   refine xp (tV h_5) ?_
   refine zz ?_
   refine zk hr rfl (fun h6 hr => ?_) (fun h6 hr => ?_)
   ·refine zz ?_
    obtain rfl := sj hr
    exact bL Tryz.results11 []
   ·refine zz ?_
    obtain rfl := sj hr
    exact bL Tryz.results11 []
theorem zT {N : Nat} {vn : Int} {dA : Int} {r : (List Int)} (hr : o4 N vn dA = some r) :
  Vm.Fn Tryz.prog 104 [] [(eI .u64 vn),(eI .i64 dA)] (.sl 0 0 r.length 1 false) [some ⟨5,r.map (eI .u8)⟩] := by
 refine zf Tryz.func104 Tryz.ntmps104 ?_
 unfold o4 at hr
 obtain ⟨x8,h_1,hr⟩ := aC hr
 refine zz ?_
 refine xw (v := (.sl 0 0 x8.length 1 false)) (h' := [some ⟨5,x8.map (eI .u8)⟩]) (aLy rfl rfl (mkS (E := (eI .u8)) (y := 0) eU gX ⟨zl,rfl,rfl⟩ rfl rfl rfl h_1 rfl rfl)) ?_
 refine zz ?_
 refine AB.seq_g fun K1 hK1 hG1 => ?_
 have J1 : ∀ (l0 : List Int),tZ N l0 = some r → K1 (aK 23 [(5,(.sl 0 0 l0.length 1 false))]) [some ⟨5,l0.map (eI .u8)⟩] := by
  intro l0 hr
  unfold tZ at hr
  refine hK1 _ _ ?_
  refine zz ?_
  obtain rfl := sj hr
  exact bL Tryz.results104 [0]
 obtain ⟨bO,hL2,hr⟩ := aC hr
 refine zz ?_
 refine AB.block <| AB.loopN (fun m s h => ∃ (bV : Int) (a9 : List Int),i6 N vn dA m bV a9 = some bO ∧ Ghost 0 s h (aK 23 [(0,(eI .u64 vn)),(5,(.sl 0 0 a9.length 1 false)),(9,(eI .i64 dA)),(10,(eI .i64 bV))]) [some ⟨5,a9.map (eI .u8)⟩]) (n := N) ⟨0,x8,hL2,(zG [0])⟩ (by rintro s h ⟨_,_,h0,_⟩; simp [i6] at h0) ?_
 rintro m2 s h ⟨bV,a9,hr2,hg⟩
 refine AB.ghost hg ?_
 clear hg hL2
 rw [i6] at hr2
 refine zz ?_
 refine AB.seq ?_
 refine zk hr2 rfl (fun h2 hr2 => ?_) (fun h2 hr2 => ?_)
 ·refine zz ?_
  refine AB.seq <| AB.block ?_
  obtain ⟨x18,h_3,hr2⟩ := aC hr2
  obtain ⟨dX,h_4,hr2⟩ := aC hr2
  refine zz ?_
  exact ⟨IntKind.i64.wrap (bV + 1),a9.set (Int.toNat bV) (IntKind.u8.wrap x18),hr2,(qH [0])⟩
 ·refine zz ?_
  obtain rfl := sj hr2
  refine zz ?_
  exact hG1 _ _ _ _ (zG [0]) (J1 a9 hr)
theorem gT {N : Nat} {b : List Int} {vs : List Int} {r : (List Int)} (hr : fJ N b vs = some r) :
  Vm.Fn Tryz.prog 103 [] [(.row none 1 (b.map (eI .u8))),(.row none 1 (vs.map (eI .u8)))] (.sl 0 0 r.length 1 false) [some ⟨5,r.map (eI .u8)⟩] := by
 refine zf Tryz.func103 Tryz.ntmps103 ?_
 unfold fJ at hr
 obtain ⟨b4,h_1,hr⟩ := aC hr
 refine zz ?_
 refine xw (v := (.sl 0 0 0 1 false)) (h' := [some ⟨5,b4.map (eI .u8)⟩]) (aLy rfl rfl (mkC (E := (eI .u8)) (y := 0) eU gX ⟨zl,rfl,rfl⟩ rfl rfl rfl h_1 rfl rfl)) ?_
 obtain ⟨bH,h_2,hr⟩ := aC hr
 refine zz ?_
 refine xw (v := (.sl 1 0 bH.length 1 false)) (h' := [none,some ⟨5,bH.map (eI .u8)⟩]) (aBI rfl rfl (aQ1 (E := (eI .u8)) (Nat.zero_le _) eU gX ⟨rfl,rfl,zl⟩ rfl (aG6 (fun _ => rfl)) h_2 rfl rfl)) ?_
 obtain ⟨x17,h_3,hr⟩ := aC hr
 refine zz ?_
 obtain rfl := sj hr
 exact bL Tryz.results103 [2]
theorem jV {N : Nat} {b : List Int} {vn : Int} {r : (List Int)} (hr : fP N b vn = some r) :
  Vm.Fn Tryz.prog 75 [] [(.row none 1 (b.map (eI .u8))),(eI .u32 vn)] (.sl 0 0 r.length 1 false) [some ⟨5,r.map (eI .u8)⟩] := by
 refine zf Tryz.func75 Tryz.ntmps75 ?_
 unfold fP at hr
 obtain ⟨x8,h_1,hr⟩ := aC hr
 obtain ⟨x9,h_2,hr⟩ := aC hr
 refine zz ?_
 refine zc (zT h_1) [] ?_
 refine xV (gT h_2) [] [0] ?_
 refine zz ?_
 obtain rfl := sj hr
 exact bL Tryz.results75 [1]
theorem aD9 {N : Nat} {b : List Int} {vn : Int} {r : (List Int)} (hr : tS N b vn = some r) :
  Vm.Fn Tryz.prog 122 [] [(.row none 1 (b.map (eI .u8))),(eI .u16 vn)] (.sl 0 0 r.length 1 false) [some ⟨5,r.map (eI .u8)⟩] := by
 refine zf Tryz.func122 Tryz.ntmps122 ?_
 unfold tS at hr
 obtain ⟨x8,h_1,hr⟩ := aC hr
 obtain ⟨x9,h_2,hr⟩ := aC hr
 refine zz ?_
 refine zc (zT h_1) [] ?_
 refine xV (gT h_2) [] [0] ?_
 refine zz ?_
 obtain rfl := sj hr
 exact bL Tryz.results122 [1]
theorem uC {N : Nat} {b : List Int} {vn : Int} {r : (List Int)} (hr : k4 N b vn = some r) :
  Vm.Fn Tryz.prog 77 [] [(.row none 1 (b.map (eI .u8))),(eI .u64 vn)] (.sl 0 0 r.length 1 false) [some ⟨5,r.map (eI .u8)⟩] := by
 refine zf Tryz.func77 Tryz.ntmps77 ?_
 unfold k4 at hr
 obtain ⟨x7,h_1,hr⟩ := aC hr
 obtain ⟨x8,h_2,hr⟩ := aC hr
 refine zz ?_
 refine zc (zT h_1) [] ?_
 refine xV (gT h_2) [] [0] ?_
 refine zz ?_
 obtain rfl := sj hr
 exact bL Tryz.results77 [1]
theorem o6 {N : Nat} {b : List Int} {vn : Int} {r : (List Int)} (hr : hZ N b vn = some r) :
  Vm.Fn Tryz.prog 105 [] [(.row none 1 (b.map (eI .u8))),(eI .u64 vn)] (.sl 0 0 r.length 1 false) [some ⟨5,r.map (eI .u8)⟩] := by
 refine zf Tryz.func105 Tryz.ntmps105 ?_
 unfold hZ at hr
 refine zz ?_
 refine AB.seq <| AB.block ?_
 refine zz ?_
 refine zk hr rfl (fun h1 hr => ?_) (fun h1 hr => ?_)
 ·obtain ⟨eM,h_2,hr⟩ := aC hr
  refine zz ?_
  refine xV (gT h_2) [] [0] ?_
  refine zz ?_
  obtain rfl := sj hr
  exact bL Tryz.results105 [1]
 ·refine zz ?_
  refine zk hr rfl (fun h3 hr => ?_) (fun h3 hr => ?_)
  ·obtain ⟨x18,h_4,hr⟩ := aC hr
   obtain ⟨dI,h_5,hr⟩ := aC hr
   refine zz ?_
   refine xV (gT h_4) [] [0] ?_
   refine zz ?_
   refine xV (aD9 h_5) [] [1] ?_
   refine zz ?_
   obtain rfl := sj hr
   exact bL Tryz.results105 [2]
  ·refine zz ?_
   refine zk hr rfl (fun h6 hr => ?_) (fun h6 hr => ?_)
   ·obtain ⟨x27,h_7,hr⟩ := aC hr
    obtain ⟨j4,h_8,hr⟩ := aC hr
    refine zz ?_
    refine xV (gT h_7) [] [0] ?_
    refine zz ?_
    refine xV (jV h_8) [] [1] ?_
    refine zz ?_
    obtain rfl := sj hr
    exact bL Tryz.results105 [2]
   ·obtain ⟨jU,h_9,hr⟩ := aC hr
    obtain ⟨x35,h_10,hr⟩ := aC hr
    refine zz ?_
    refine xV (gT h_9) [] [0] ?_
    refine zz ?_
    refine xV (uC h_10) [] [1] ?_
    refine zz ?_
    obtain rfl := sj hr
    exact bL Tryz.results105 [2]
theorem aD0 {N : Nat} {b : List Int} {vh : List Int} {r : (List Int)} (hr : sC N b vh = some r) :
  Vm.Fn Tryz.prog 76 [] [(.row none 1 (b.map (eI .u8))),(.agg (vh.map (eI .u8)))] (.sl 0 0 r.length 1 false) [some ⟨5,r.map (eI .u8)⟩] := by
 refine zf Tryz.func76 Tryz.ntmps76 ?_
 unfold sC at hr
 obtain ⟨q,h_1,hr⟩ := aC hr
 obtain ⟨x7,h_2,hr⟩ := aC hr
 refine zz ?_
 refine xV (gT h_2) [] [0] ?_
 refine zz ?_
 obtain rfl := sj hr
 exact bL Tryz.results76 [1]
theorem aFh {N : Nat} {aCy : List Int} {vJ : Int} {r : (List Int)} (hr : aAj N aCy vJ = some r) :
  Vm.Fn Tryz.prog 46 [] [(.agg (bG (eI .u8) aCy [(eI .u32 vJ)]))] (.sl 0 0 r.length 1 false) [some ⟨5,r.map (eI .u8)⟩] := by
 refine zf Tryz.func46 Tryz.ntmps46 ?_
 unfold aAj at hr
 refine zz ?_
 refine AB.seq ?_
 obtain ⟨q,h_1,hr⟩ := aC hr
 obtain ⟨x5,h_2,hr⟩ := aC hr
 obtain ⟨x8,h_4,hr⟩ := aC hr
 refine AB.rs mixed [] [75,76] [[0,1,2,3,4,5,6]] ?_
 refine zz ?_
 refine zg (aD0 h_2) [] ?_
 refine zz ?_
 refine zgL (jV h_4) [] [1] ?_
 refine zz ?_
 obtain rfl := sj hr
 exact bL Tryz.results46 [2]
theorem sM {N : Nat} {b : List Int} {vs : List Int} {r : (List Int)} (hr : iZ N b vs = some r) :
  Vm.Fn Tryz.prog 78 [] [(.row none 1 (b.map (eI .u8))),(.row none 1 (vs.map (eI .u8)))] (.sl 0 0 r.length 1 false) [some ⟨5,r.map (eI .u8)⟩] := by
 refine zf Tryz.func78 Tryz.ntmps78 ?_
 unfold iZ at hr
 obtain ⟨x9,h_1,hr⟩ := aC hr
 obtain ⟨b4,h_2,hr⟩ := aC hr
 refine zz ?_
 refine zc (o6 h_1) [] ?_
 refine zz ?_
 refine xV (gT h_2) [] [0] ?_
 refine zz ?_
 obtain rfl := sj hr
 exact bL Tryz.results78 [1]
theorem aEs {N : Nat} {aB : Int} {aD : List aF} {aA : List aE} {aH : Int} {c6 : Bool} {r : (List Int)} (hr : xW N aB aD aA aH c6 = some r) :
  Vm.Fn Tryz.prog 102 [] [(.agg [(eI .u32 aB),(.row none 35 (aD.map aS)),(.row none 2 (aA.map aM)),(eI .u32 aH)]),(eB c6)] (.sl 0 0 r.length 1 false) [some ⟨5,r.map (eI .u8)⟩] := by
 refine zf Tryz.func102 Tryz.ntmps102 ?_
 unfold xW at hr
 obtain ⟨x16,h_1,hr⟩ := aC hr
 refine zz ?_
 refine zc (jV h_1) [] ?_
 obtain ⟨c5,h_2,hr⟩ := aC hr
 obtain ⟨eN,h_3,hr⟩ := aC hr
 refine zz ?_
 refine zc (o6 h_2) [] ?_
 refine zz ?_
 refine AB.seq_g fun K1 hK1 hG1 => ?_
 have J1 : ∀ (l1 : List Int),yU N aB aD aA aH c6 l1 = some r → K1 (aK 104 [(1,(eB c6)),(2,(.ptr 0 0)),(5,(.sl 1 0 l1.length 1 false))]) [some ⟨54,[(eI .u32 aB),(.row none 35 (aD.map aS)),(.row none 2 (aA.map aM)),(eI .u32 aH)]⟩,some ⟨5,l1.map (eI .u8)⟩] := by
  intro l1 hr
  unfold yU at hr
  refine hK1 _ _ ?_
  obtain ⟨x47,h_4,hr⟩ := aC hr
  obtain ⟨x48,h_5,hr⟩ := aC hr
  refine zz ?_
  refine zc (o6 h_4) [] ?_
  refine zz ?_
  refine AB.seq_g fun K2 hK2 hG2 => ?_
  have J2 : ∀ (cW : List Int),z4 N aB aD aA aH c6 cW = some r → K2 (aK 104 [(1,(eB c6)),(2,(.ptr 0 0)),(5,(.sl 1 0 cW.length 1 false))]) [some ⟨54,[(eI .u32 aB),(.row none 35 (aD.map aS)),(.row none 2 (aA.map aM)),(eI .u32 aH)]⟩,some ⟨5,cW.map (eI .u8)⟩] := by
   intro cW hr
   unfold z4 at hr
   refine hK2 _ _ ?_
   obtain ⟨x71,h_6,hr⟩ := aC hr
   obtain ⟨x72,h_7,hr⟩ := aC hr
   refine zz ?_
   refine zc (jV h_6) [] ?_
   refine zz ?_
   refine AB.seq ?_
   refine zz ?_
   refine zk hr rfl (fun h8 hr => ?_) (fun h8 hr => ?_)
   ·refine zz ?_
    obtain rfl := sj hr
    exact bL Tryz.results102 [3]
   ·refine zz ?_
    refine AB.seq_g fun K3 hK3 hG3 => ?_
    have J3 : ∀ (l0 : List Int),aBV N l0 = some r → K3 (aK 104 [(5,(.sl 0 0 l0.length 1 false))]) [some ⟨5,l0.map (eI .u8)⟩] := by
     intro l0 hr
     unfold aBV at hr
     refine hK3 _ _ ?_
     refine zz ?_
     obtain rfl := sj hr
     exact bL Tryz.results102 [0]
    obtain ⟨res4,hL4,hr⟩ := aC hr
    refine zz ?_
    refine AB.block <| AB.loopN (fun m s h => ∃ (x79 : Int) (a9 : List Int),i7 N aD m x79 a9 = some res4 ∧ Ghost 0 s h (aK 104 [(5,(.sl 0 0 a9.length 1 false)),(77,(.row none 35 (aD.map aS))),(78,(eI .i64 (aD.length : Int))),(79,(eI .i64 x79))]) [some ⟨5,a9.map (eI .u8)⟩]) (n := N) ⟨0,x72,hL4,(zG [3])⟩ (by rintro s h ⟨_,_,h0,_⟩; simp [i7] at h0) ?_
    rintro m4 s h ⟨x79,a9,hr4,hg⟩
    refine AB.ghost hg ?_
    clear hg hL4
    rw [i7] at hr4
    refine zz ?_
    refine AB.seq ?_
    refine zk hr4 rfl (fun h9 hr4 => ?_) (fun h9 hr4 => ?_)
    ·refine zz ?_
     refine AB.seq_g fun K5 hK5 hG5 => ?_
     have J5 : ∀ (jM : List Int),zV N aD x79 (i7 N aD m4) jM = some res4 → K5 (aK 104 [(5,(.sl 0 0 jM.length 1 false)),(77,(.row none 35 (aD.map aS))),(78,(eI .i64 (aD.length : Int))),(79,(eI .i64 x79))]) [some ⟨5,jM.map (eI .u8)⟩] := by
      intro jM hr4
      unfold zV at hr4
      refine hK5 _ _ ?_
      refine zz ?_
      exact ⟨IntKind.i64.wrap (x79 + 1),jM,hr4,(zG [0])⟩
     refine AB.block ?_
     obtain ⟨x81,h_10,hr4⟩ := aC hr4
     refine zz ?_
     refine xw (v := (.ptr 1 0)) (h' := [some ⟨5,a9.map (eI .u8)⟩,some ⟨90,(bG (eI .u8) (List.replicate 32 0) [(eI .u32 0),(eI .u32 0),(.row (some true) 1 [])])⟩]) (cD sH rfl rfl rfl) ?_
     obtain ⟨x88,h_11,hr4⟩ := aC hr4
     obtain ⟨x89,h_12,hr4⟩ := aC hr4
     refine zz ?_
     refine zc (o6 h_11) [] ?_
     obtain ⟨res6,hL6,hr4⟩ := aC hr4
     refine zz ?_
     refine AB.block <| AB.loopN (fun m s h => ∃ (x93 : Int) (iF : List Int),kY N aD x79 x81 m x93 iF = some res6 ∧ Ghost 0 s h (aK 104 [(5,(.sl 0 0 iF.length 1 false)),(77,(.row none 35 (aD.map aS))),(78,(eI .i64 (aD.length : Int))),(79,(eI .i64 x79)),(91,(.row none 1 (x81.Witness.map (eL 1 (eI .u8))))),(92,(eI .i64 (x81.Witness.length : Int))),(93,(eI .i64 x93))]) [some ⟨5,iF.map (eI .u8)⟩]) (n := N) ⟨0,x89,hL6,(zG [3])⟩ (by rintro s h ⟨_,_,h0,_⟩; simp [kY] at h0) ?_
     rintro m6 s h ⟨x93,iF,hr6,hg⟩
     refine AB.ghost hg ?_
     clear hg hL6
     rw [kY] at hr6
     refine zz ?_
     refine AB.seq ?_
     refine zk hr6 rfl (fun h13 hr6 => ?_) (fun h13 hr6 => ?_)
     ·refine zz ?_
      refine AB.seq <| AB.block ?_
      obtain ⟨x95,h_14,hr6⟩ := aC hr6
      obtain ⟨x99,h_15,hr6⟩ := aC hr6
      obtain ⟨aFA,h_16,hr6⟩ := aC hr6
      refine zz ?_
      refine zc (sM h_15) [] ?_
      refine zz ?_
      exact ⟨IntKind.i64.wrap (x93 + 1),aFA,hr6,(zG [2])⟩
     ·refine zz ?_
      obtain rfl := sj hr6
      refine zz ?_
      exact hG5 _ _ _ _ (zG [0]) (J5 iF hr4)
    ·refine zz ?_
     obtain rfl := sj hr4
     refine zz ?_
     exact hG3 _ _ _ _ (zG [0]) (J3 a9 hr)
  obtain ⟨res7,hL7,hr⟩ := aC hr
  refine zz ?_
  refine AB.block <| AB.loopN (fun m s h => ∃ (x52 : Int) (l1_2 : List Int),kJ N aB aD aA aH c6 m x52 l1_2 = some res7 ∧ Ghost 0 s h (aK 104 [(1,(eB c6)),(2,(.ptr 0 0)),(5,(.sl 1 0 l1_2.length 1 false)),(50,(.row none 2 (aA.map aM))),(51,(eI .i64 (aA.length : Int))),(52,(eI .i64 x52))]) [some ⟨54,[(eI .u32 aB),(.row none 35 (aD.map aS)),(.row none 2 (aA.map aM)),(eI .u32 aH)]⟩,some ⟨5,l1_2.map (eI .u8)⟩]) (n := N) ⟨0,x48,hL7,(zG [0,3])⟩ (by rintro s h ⟨_,_,h0,_⟩; simp [kJ] at h0) ?_
  rintro m7 s h ⟨x52,l1_2,hr7,hg⟩
  refine AB.ghost hg ?_
  clear hg hL7
  rw [kJ] at hr7
  refine zz ?_
  refine AB.seq ?_
  refine zk hr7 rfl (fun h17 hr7 => ?_) (fun h17 hr7 => ?_)
  ·refine zz ?_
   refine AB.seq <| AB.block ?_
   obtain ⟨x54,h_18,hr7⟩ := aC hr7
   obtain ⟨x60,h_19,hr7⟩ := aC hr7
   obtain ⟨x61,h_20,hr7⟩ := aC hr7
   refine zz ?_
   refine zc (uC h_19) [] ?_
   obtain ⟨x65,h_21,hr7⟩ := aC hr7
   obtain ⟨x66,h_22,hr7⟩ := aC hr7
   refine zz ?_
   refine zc (sM h_21) [] ?_
   refine zz ?_
   exact ⟨IntKind.i64.wrap (x52 + 1),x66,hr7,(zG [0,6])⟩
  ·refine zz ?_
   obtain rfl := sj hr7
   refine zz ?_
   exact hG2 _ _ _ _ (zG [0,1]) (J2 l1_2 hr)
 obtain ⟨res8,hL8,hr⟩ := aC hr
 refine zz ?_
 refine AB.block <| AB.loopN (fun m s h => ∃ (x27 : Int) (l1_3 : List Int),kR N aB aD aA aH c6 m x27 l1_3 = some res8 ∧ Ghost 0 s h (aK 104 [(1,(eB c6)),(2,(.ptr 0 0)),(5,(.sl 1 0 l1_3.length 1 false)),(25,(.row none 35 (aD.map aS))),(26,(eI .i64 (aD.length : Int))),(27,(eI .i64 x27))]) [some ⟨54,[(eI .u32 aB),(.row none 35 (aD.map aS)),(.row none 2 (aA.map aM)),(eI .u32 aH)]⟩,some ⟨5,l1_3.map (eI .u8)⟩]) (n := N) ⟨0,eN,hL8,(zG [0,3])⟩ (by rintro s h ⟨_,_,h0,_⟩; simp [kR] at h0) ?_
 rintro m8 s h ⟨x27,l1_3,hr8,hg⟩
 refine AB.ghost hg ?_
 clear hg hL8
 rw [kR] at hr8
 refine zz ?_
 refine AB.seq ?_
 refine zk hr8 rfl (fun h23 hr8 => ?_) (fun h23 hr8 => ?_)
 ·refine zz ?_
  refine AB.seq <| AB.block ?_
  obtain ⟨x29,h_24,hr8⟩ := aC hr8
  refine zz ?_
  refine xw (v := (.ptr 2 0)) (h' := [some ⟨54,[(eI .u32 aB),(.row none 35 (aD.map aS)),(.row none 2 (aA.map aM)),(eI .u32 aH)]⟩,some ⟨5,l1_3.map (eI .u8)⟩,some ⟨90,(bG (eI .u8) (List.replicate 32 0) [(eI .u32 0),(eI .u32 0),(.row (some true) 1 [])])⟩]) (cD sH rfl rfl rfl) ?_
  obtain ⟨dH,h_25,hr8⟩ := aC hr8
  obtain ⟨x35,h_26,hr8⟩ := aC hr8
  refine zz ?_
  refine zc (aFh h_25) [] ?_
  obtain ⟨x39,h_27,hr8⟩ := aC hr8
  obtain ⟨x40,h_28,hr8⟩ := aC hr8
  refine zz ?_
  refine zc (jV h_27) [] ?_
  refine zz ?_
  exact ⟨IntKind.i64.wrap (x27 + 1),x40,hr8,(zG [0,6])⟩
 ·refine zz ?_
  obtain rfl := sj hr8
  refine zz ?_
  exact hG1 _ _ _ _ (zG [0,1]) (J1 l1_3 hr)
theorem aF4 {N : Nat} {aB : Int} {aD : List aF} {aA : List aE} {aH : Int} {r : Bool} (hr : aBB N aB aD aA aH = some r) :
  Vm.Fn Tryz.prog 99 [] [(.agg [(eI .u32 aB),(.row none 35 (aD.map aS)),(.row none 2 (aA.map aM)),(eI .u32 aH)])] (eB r) [] := by
 refine zf Tryz.func99 Tryz.ntmps99 ?_
 unfold aBB at hr
 refine zz ?_
 refine AB.seq ?_
 refine AB.seq_g fun K1 hK1 hG1 => ?_
 have J1 : ∀ (x18 : Bool),zC N aB aD aA aH x18 = some r → K1 (aK 63 [(1,(.ptr 0 0)),(18,(eB x18))]) [some ⟨54,[(eI .u32 aB),(.row none 35 (aD.map aS)),(.row none 2 (aA.map aM)),(eI .u32 aH)]⟩] := by
  intro x18 hr
  unfold zC at hr
  refine hK1 _ _ ?_
  refine zk hr rfl (fun h1 hr => ?_) (fun h1 hr => ?_)
  ·refine zz ?_
   obtain rfl := sj hr
   exact bL Tryz.results99 []
  ·refine zz ?_
   refine AB.seq_g fun K2 hK2 hG2 => ?_
   have J2 : aBu N aB aD aA aH = some r → K2 (aK 63 [(1,(.ptr 0 0))]) [some ⟨54,[(eI .u32 aB),(.row none 35 (aD.map aS)),(.row none 2 (aA.map aM)),(eI .u32 aH)]⟩] := by
    intro hr
    unfold aBu at hr
    refine hK2 _ _ ?_
    refine AB.seq_g fun K3 hK3 hG3 => ?_
    have J3 : aBh N aB aD aA aH = some r → K3 (aK 63 [(1,(.ptr 0 0))]) [some ⟨54,[(eI .u32 aB),(.row none 35 (aD.map aS)),(.row none 2 (aA.map aM)),(eI .u32 aH)]⟩] := by
     intro hr
     unfold aBh at hr
     refine hK3 _ _ ?_
     obtain ⟨x60,h_2,hr⟩ := aC hr
     refine zz ?_
     refine zc (aEs h_2) [] ?_
     refine zz ?_
     obtain rfl := sj hr
     exact bL Tryz.results99 []
    obtain ⟨res4,hL4,hr⟩ := aC hr
    refine zz ?_
    refine AB.block <| AB.loopN (fun m s h => ∃ (x39 : Int),nJ N aB aD aA aH m x39 = some res4 ∧ Ghost 0 s h (aK 63 [(1,(.ptr 0 0)),(37,(.row none 35 (aD.map aS))),(38,(eI .i64 (aD.length : Int))),(39,(eI .i64 x39))]) [some ⟨54,[(eI .u32 aB),(.row none 35 (aD.map aS)),(.row none 2 (aA.map aM)),(eI .u32 aH)]⟩]) (n := N) ⟨0,hL4,(zG [0])⟩ (by rintro s h ⟨_,h0,_⟩; simp [nJ] at h0) ?_
    rintro m4 s h ⟨x39,hr4,hg⟩
    refine AB.ghost hg ?_
    clear hg hL4
    rw [nJ] at hr4
    refine zz ?_
    refine AB.seq ?_
    refine zk hr4 rfl (fun h3 hr4 => ?_) (fun h3 hr4 => ?_)
    ·refine zz ?_
     refine AB.seq_g fun K5 hK5 hG5 => ?_
     have J5 : aBn N aB aD aA aH x39 (nJ N aB aD aA aH m4) = some res4 → K5 (aK 63 [(1,(.ptr 0 0)),(37,(.row none 35 (aD.map aS))),(38,(eI .i64 (aD.length : Int))),(39,(eI .i64 x39))]) [some ⟨54,[(eI .u32 aB),(.row none 35 (aD.map aS)),(.row none 2 (aA.map aM)),(eI .u32 aH)]⟩] := by
      intro hr4
      unfold aBn at hr4
      refine hK5 _ _ ?_
      refine zz ?_
      exact ⟨IntKind.i64.wrap (x39 + 1),hr4,(zG [0])⟩
     refine AB.block ?_
     obtain ⟨x41,h_4,hr4⟩ := aC hr4
     refine zz ?_
     refine xw (v := (.ptr 1 0)) (h' := [some ⟨54,[(eI .u32 aB),(.row none 35 (aD.map aS)),(.row none 2 (aA.map aM)),(eI .u32 aH)]⟩,some ⟨90,(bG (eI .u8) (List.replicate 32 0) [(eI .u32 0),(eI .u32 0),(.row (some true) 1 [])])⟩]) (cD sH rfl rfl rfl) ?_
     refine zz ?_
     refine AB.seq ?_
     refine zz ?_
     refine zk hr4 rfl (fun h5 hr4 => ?_) (fun h5 hr4 => ?_)
     ·refine zz ?_
      obtain rfl := sj hr4
      obtain rfl := sj hr
      exact bL Tryz.results99 []
     ·obtain ⟨res6,hL6,hr4⟩ := aC hr4
      refine zz ?_
      refine AB.block <| AB.loopN (fun m s h => ∃ (x50 : Int),nL N aB aD aA aH x39 x41 m x50 = some res6 ∧ Ghost 0 s h (aK 63 [(1,(.ptr 0 0)),(37,(.row none 35 (aD.map aS))),(38,(eI .i64 (aD.length : Int))),(39,(eI .i64 x39)),(48,(.row none 1 (x41.Witness.map (eL 1 (eI .u8))))),(49,(eI .i64 (x41.Witness.length : Int))),(50,(eI .i64 x50))]) [some ⟨54,[(eI .u32 aB),(.row none 35 (aD.map aS)),(.row none 2 (aA.map aM)),(eI .u32 aH)]⟩]) (n := N) ⟨0,hL6,(zG [0])⟩ (by rintro s h ⟨_,h0,_⟩; simp [nL] at h0) ?_
      rintro m6 s h ⟨x50,hr6,hg⟩
      refine AB.ghost hg ?_
      clear hg hL6
      rw [nL] at hr6
      refine zz ?_
      refine AB.seq ?_
      refine zk hr6 rfl (fun h6 hr6 => ?_) (fun h6 hr6 => ?_)
      ·refine zz ?_
       refine AB.seq <| AB.block ?_
       obtain ⟨x52,h_7,hr6⟩ := aC hr6
       refine zz ?_
       refine zk hr6 rfl (fun h8 hr6 => ?_) (fun h8 hr6 => ?_)
       ·refine zz ?_
        obtain rfl := sj hr6
        obtain rfl := sj hr4
        obtain rfl := sj hr
        exact bL Tryz.results99 []
       ·refine zz ?_
        exact ⟨IntKind.i64.wrap (x50 + 1),hr6,(zG [0])⟩
      ·refine zz ?_
       obtain rfl := sj hr6
       refine zz ?_
       exact hG5 _ _ _ _ (zG [0]) (J5 hr4)
    ·refine zz ?_
     obtain rfl := sj hr4
     refine zz ?_
     exact hG3 _ _ _ _ (zG [0]) (J3 hr)
   obtain ⟨res7,hL7,hr⟩ := aC hr
   refine zz ?_
   refine AB.block <| AB.loopN (fun m s h => ∃ (c5 : Int),lX N aB aD aA aH m c5 = some res7 ∧ Ghost 0 s h (aK 63 [(1,(.ptr 0 0)),(20,(.row none 2 (aA.map aM))),(21,(eI .i64 (aA.length : Int))),(22,(eI .i64 c5))]) [some ⟨54,[(eI .u32 aB),(.row none 35 (aD.map aS)),(.row none 2 (aA.map aM)),(eI .u32 aH)]⟩]) (n := N) ⟨0,hL7,(zG [0])⟩ (by rintro s h ⟨_,h0,_⟩; simp [lX] at h0) ?_
   rintro m7 s h ⟨c5,hr7,hg⟩
   refine AB.ghost hg ?_
   clear hg hL7
   rw [lX] at hr7
   refine zz ?_
   refine AB.seq ?_
   refine zk hr7 rfl (fun h9 hr7 => ?_) (fun h9 hr7 => ?_)
   ·refine zz ?_
    refine AB.seq <| AB.block ?_
    obtain ⟨fW,h_10,hr7⟩ := aC hr7
    refine zz ?_
    refine AB.seq_g fun K8 hK8 hG8 => ?_
    have J8 : ∀ (dH : Bool),z7 N aB aD aA aH c5 (lX N aB aD aA aH m7) dH = some res7 → K8 (aK 63 [(1,(.ptr 0 0)),(20,(.row none 2 (aA.map aM))),(21,(eI .i64 (aA.length : Int))),(22,(eI .i64 c5)),(34,(eB dH))]) [some ⟨54,[(eI .u32 aB),(.row none 35 (aD.map aS)),(.row none 2 (aA.map aM)),(eI .u32 aH)]⟩] := by
     intro dH hr7
     unfold z7 at hr7
     refine hK8 _ _ ?_
     refine zk hr7 rfl (fun h11 hr7 => ?_) (fun h11 hr7 => ?_)
     ·refine zz ?_
      obtain rfl := sj hr7
      obtain rfl := sj hr
      exact bL Tryz.results99 []
     ·refine zz ?_
      exact ⟨IntKind.i64.wrap (c5 + 1),hr7,(zG [0])⟩
    rcases Bool.eq_false_or_eq_true (decide (fW.Value < 0)) with h12 | h12
    ·replace hr7 := eO hr7 h12
     refine xr ?_
     refine zz ?_
     exact hG8 _ _ _ _ (zG [0]) (J8 true hr7)
    ·replace hr7 := eP hr7 h12
     refine xr ?_
     refine zz ?_
     exact hG8 _ _ _ _ (zG [0]) (J8 (decide (520 < (fW.Script.length : Int))) hr7)
   ·refine zz ?_
    obtain rfl := sj hr7
    refine zz ?_
    exact hG2 _ _ _ _ (zG [0]) (J2 hr)
 rcases Bool.eq_false_or_eq_true (decide (64 < (aD.length : Int))) with h13 | h13
 ·replace hr := eO hr h13
  refine xr ?_
  refine zz ?_
  exact hG1 _ _ _ _ (zG [0]) (J1 true hr)
 ·replace hr := eP hr h13
  refine xr ?_
  refine zz ?_
  exact hG1 _ _ _ _ (zG [0]) (J1 (decide (64 < (aA.length : Int))) hr)
theorem aKE {N : Nat} {l : List aE} {r : Bool} (hr : aBL N l = some r) :
  Vm.Fn Tryz.prog 100 [] [(.row none 2 (l.map aM))] (eB r) [] := by
 refine zf Tryz.func100 Tryz.ntmps100 ?_
 unfold aBL at hr
 refine zz ?_
 refine AB.seq_g fun K1 hK1 hG1 => ?_
 have J1 : aCw N = some r → K1 (aK 22 []) [] := by
  intro hr
  unfold aCw at hr
  refine hK1 _ _ ?_
  refine zz ?_
  obtain rfl := sj hr
  exact bL Tryz.results100 []
 obtain ⟨bO,hL2,hr⟩ := aC hr
 refine zz ?_
 refine AB.block <| AB.loopN (fun m s h => ∃ (sum : Int) (x8 : Int),qY N l m sum x8 = some bO ∧ Ghost 0 s h (aK 22 [(3,(eI .i64 sum)),(6,(.row none 2 (l.map aM))),(7,(eI .i64 (l.length : Int))),(8,(eI .i64 x8))]) []) (n := N) ⟨0,0,hL2,(zG [])⟩ (by rintro s h ⟨_,_,h0,_⟩; simp [qY] at h0) ?_
 rintro m2 s h ⟨sum,x8,hr2,hg⟩
 refine AB.ghost hg ?_
 clear hg hL2
 rw [qY] at hr2
 refine zz ?_
 refine AB.seq ?_
 refine zk hr2 rfl (fun h1 hr2 => ?_) (fun h1 hr2 => ?_)
 ·refine zz ?_
  refine AB.seq <| AB.block ?_
  obtain ⟨bV,h_2,hr2⟩ := aC hr2
  refine zz ?_
  refine AB.seq ?_
  refine zz ?_
  refine zk hr2 rfl (fun h3 hr2 => ?_) (fun h3 hr2 => ?_)
  ·refine zz ?_
   obtain rfl := sj hr2
   obtain rfl := sj hr
   exact bL Tryz.results100 []
  ·refine zz ?_
   exact ⟨IntKind.i64.wrap (sum + bV.Value),IntKind.i64.wrap (x8 + 1),hr2,(zG [])⟩
 ·refine zz ?_
  obtain rfl := sj hr2
  refine zz ?_
  exact hG1 _ _ _ _ (zG []) (J1 hr)
theorem aLx {N : Nat} {aCy : List Int} {vJ : Int} {r : Bool} (hr : aHy N aCy vJ = some r) :
  Vm.Fn Tryz.prog 73 [] [(.agg (bG (eI .u8) aCy [(eI .u32 vJ)]))] (eB r) [] := by
 refine zf Tryz.func73 Tryz.ntmps73 ?_
 unfold aHy at hr
 refine zz ?_
 refine xw (v := (.agg (bG (eI .u8) (List.replicate 32 0) [(eI .u32 4294967295)]))) (bQ rfl (qL pD aFF rfl)) <| xw (xZ rfl rfl (aNw (d := 9) pD rfl aMa zl aOK rfl rfl rfl rfl rfl)) ?_
 refine zz ?_
 obtain rfl := sj hr
 exact bL Tryz.results73 []
theorem aCM {N : Nat} {aB : Int} {aD : List aF} {aA : List aE} {aH : Int} {r : Bool} (hr : tE N aB aD aA aH = some r) :
  Vm.Fn Tryz.prog 42 [] [(.agg [(eI .u32 aB),(.row none 35 (aD.map aS)),(.row none 2 (aA.map aM)),(eI .u32 aH)])] (eB r) [] := by
 refine zf Tryz.func42 Tryz.ntmps42 ?_
 unfold tE at hr
 refine zz ?_
 refine AB.seq_g fun K1 hK1 hG1 => ?_
 have J1 : ∀ (x2 : Bool),vL N x2 = some r → K1 (aK 15 [(2,(eB x2))]) [] := by
  intro x2 hr
  unfold vL at hr
  refine hK1 _ _ ?_
  refine zz ?_
  obtain rfl := sj hr
  exact bL Tryz.results42 []
 rcases Bool.eq_false_or_eq_true ((aD.length : Int) == 1) with h1 | h1
 ·replace hr := eO hr h1
  obtain ⟨bV,h_2,hr⟩ := aC hr
  obtain ⟨eD,h_3,hr⟩ := aC hr
  refine xr ?_
  refine zz ?_
  refine xCg (v := (eB eD)) (h' := [some ⟨54,[(eI .u32 aB),(.row none 35 (aD.map aS)),(.row none 2 (aA.map aM)),(eI .u32 aH)]⟩]) rfl rfl h1 rfl (Vm.Fn.pure (aLx h_3) rfl rfl) ?_
  refine zz ?_
  exact hG1 _ _ _ _ (zG []) (J1 eD hr)
 ·replace hr := eP hr h1
  refine xr ?_
  refine zz ?_
  exact hG1 _ _ _ _ (zG []) (J1 false hr)
theorem aKF {N : Nat} {aB : Int} {aD : List aF} {aA : List aE} {aH : Int} {r : Int} (hr : aBT N aB aD aA aH = some r) :
  Vm.Fn Tryz.prog 69 [] [(.agg [(eI .u32 aB),(.row none 35 (aD.map aS)),(.row none 2 (aA.map aM)),(eI .u32 aH)])] (eI .i64 r) [] := by
 refine zf Tryz.func69 Tryz.ntmps69 ?_
 unfold aBT at hr
 refine zz ?_
 refine AB.seq ?_
 obtain ⟨x7,h_1,hr⟩ := aC hr
 refine zz ?_
 refine xp (aF4 h_1) ?_
 refine zz ?_
 refine zk hr rfl (fun h2 hr => ?_) (fun h2 hr => ?_)
 ·refine zz ?_
  obtain rfl := sj hr
  exact bL Tryz.results69 []
 ·refine zz ?_
  refine AB.seq ?_
  refine AB.seq_g fun K1 hK1 hG1 => ?_
  have J1 : ∀ (x18 : Bool),wB N aB aD aA aH x18 = some r → K1 (aK 47 [(1,(.ptr 0 0)),(18,(eB x18))]) [some ⟨54,[(eI .u32 aB),(.row none 35 (aD.map aS)),(.row none 2 (aA.map aM)),(eI .u32 aH)]⟩] := by
   intro x18 hr
   unfold wB at hr
   refine hK1 _ _ ?_
   refine zk hr rfl (fun h3 hr => ?_) (fun h3 hr => ?_)
   ·refine zz ?_
    obtain rfl := sj hr
    exact bL Tryz.results69 []
   ·refine zz ?_
    refine AB.seq ?_
    obtain ⟨dI,h_4,hr⟩ := aC hr
    refine zz ?_
    refine xp (aKE h_4) ?_
    refine zz ?_
    refine zk hr rfl (fun h5 hr => ?_) (fun h5 hr => ?_)
    ·refine zz ?_
     obtain rfl := sj hr
     exact bL Tryz.results69 []
    ·refine zz ?_
     refine xw (v := (.mp 1)) (h' := [some ⟨54,[(eI .u32 aB),(.row none 35 (aD.map aS)),(.row none 2 (aA.map aM)),(eI .u32 aH)]⟩,some ⟨33000,[].flatMap wV⟩]) (aP0 aF3 aGM rfl rfl) ?_
     refine zz ?_
     refine AB.seq_g fun K2 hK2 hG2 => ?_
     have J2 : ∀ (l1 : List (aQ × Bool)),aAx N aB aD aA aH l1 = some r → K2 (aK 47 [(1,(.ptr 0 0)),(3,(.mp 1))]) [some ⟨54,[(eI .u32 aB),(.row none 35 (aD.map aS)),(.row none 2 (aA.map aM)),(eI .u32 aH)]⟩,some ⟨33000,l1.flatMap wV⟩] := by
      intro l1 hr
      unfold aAx at hr
      refine hK2 _ _ <| AB.seq ?_
      refine AB.seq_g fun K3 hK3 hG3 => ?_
      have J3 : ∀ (x46 : Bool),aAv N x46 = some r → K3 (aK 47 [(46,(eB x46))]) [] := by
       intro x46 hr
       unfold aAv at hr
       refine hK3 _ _ ?_
       refine zk hr rfl (fun h6 hr => ?_) (fun h6 hr => ?_)
       ·refine zz ?_
        obtain rfl := sj hr
        exact bL Tryz.results69 []
       ·refine zz ?_
        obtain rfl := sj hr
        exact bL Tryz.results69 []
      rcases Bool.eq_false_or_eq_true (aB8 mS l1 (aQ.mk (List.replicate 32 0) 4294967295) false) with h7 | h7
      ·replace hr := eO hr h7
       obtain ⟨x44,h_8,hr⟩ := aC hr
       refine xr ?_
       refine zz ?_
       refine xw (v := (.agg (bG (eI .u8) (List.replicate 32 0) [(eI .u32 4294967295)]))) (bQ rfl (qL pD aFF rfl)) <| xw (v := (eB (aB8 mS l1 (aQ.mk (List.replicate 32 0) 4294967295) false))) (aN3 rfl rfl (aOv aGM (C := wV) (CK := fI) (K := 33) (E := eB) (k := (aQ.mk (List.replicate 32 0) 4294967295)) (fun _ => rfl) (fun _ => rfl) (by decide) (fun _ => rfl) aF3 aIK aIM aIS aLF rfl)) ?_
       refine zz ?_
       refine xCg (v := (eB x44)) (h' := [some ⟨54,[(eI .u32 aB),(.row none 35 (aD.map aS)),(.row none 2 (aA.map aM)),(eI .u32 aH)]⟩,some ⟨33000,l1.flatMap wV⟩]) rfl rfl h7 rfl (Vm.Fn.pure (aCM h_8) rfl rfl) ?_
       refine zz ?_
       exact hG3 _ _ _ _ (zG []) (J3 (!x44) hr)
      ·replace hr := eP hr h7
       refine xr ?_
       refine zz ?_
       refine xw (v := (.agg (bG (eI .u8) (List.replicate 32 0) [(eI .u32 4294967295)]))) (bQ rfl (qL pD aFF rfl)) <| xw (v := (eB (aB8 mS l1 (aQ.mk (List.replicate 32 0) 4294967295) false))) (aN3 rfl rfl (aOv aGM (C := wV) (CK := fI) (K := 33) (E := eB) (k := (aQ.mk (List.replicate 32 0) 4294967295)) (fun _ => rfl) (fun _ => rfl) (by decide) (fun _ => rfl) aF3 aIK aIM aIS aLF rfl)) ?_
       refine zz ?_
       exact hG3 _ _ _ _ (zG []) (J3 false hr)
     obtain ⟨res4,hL4,hr⟩ := aC hr
     refine zz ?_
     refine AB.block <| AB.loopN (fun m s h => ∃ (x27 : Int) (cW : List (aQ × Bool)),qQ N aB aD aA aH m x27 cW = some res4 ∧ Ghost 0 s h (aK 47 [(1,(.ptr 0 0)),(3,(.mp 1)),(25,(.row none 35 (aD.map aS))),(26,(eI .i64 (aD.length : Int))),(27,(eI .i64 x27))]) [some ⟨54,[(eI .u32 aB),(.row none 35 (aD.map aS)),(.row none 2 (aA.map aM)),(eI .u32 aH)]⟩,some ⟨33000,cW.flatMap wV⟩]) (n := N) ⟨0,[],hL4,(zG [0,1])⟩ (by rintro s h ⟨_,_,h0,_⟩; simp [qQ] at h0) ?_
     rintro m4 s h ⟨x27,cW,hr4,hg⟩
     refine AB.ghost hg ?_
     clear hg hL4
     rw [qQ] at hr4
     refine zz ?_
     refine AB.seq ?_
     refine zk hr4 rfl (fun h9 hr4 => ?_) (fun h9 hr4 => ?_)
     ·refine zz ?_
      refine AB.seq <| AB.block ?_
      obtain ⟨x29,h_10,hr4⟩ := aC hr4
      refine zz ?_
      refine xw (v := (.ptr 2 0)) (h' := [some ⟨54,[(eI .u32 aB),(.row none 35 (aD.map aS)),(.row none 2 (aA.map aM)),(eI .u32 aH)]⟩,some ⟨33000,cW.flatMap wV⟩,some ⟨90,(bG (eI .u8) (List.replicate 32 0) [(eI .u32 0),(eI .u32 0),(.row (some true) 1 [])])⟩]) (cD sH rfl rfl rfl) ?_
      refine zz ?_
      refine AB.seq ?_
      refine zz ?_
      refine xw (v := (eB (aB8 mS cW x29.Prev false))) (aN3 rfl rfl (aOv aGM (C := wV) (CK := fI) (K := 33) (E := eB) (k := x29.Prev) (fun _ => rfl) (fun _ => rfl) (by decide) (fun _ => rfl) aF3 aIK aIM aIS aLF rfl)) ?_
      refine zz ?_
      refine zk hr4 rfl (fun h11 hr4 => ?_) (fun h11 hr4 => ?_)
      ·refine zz ?_
       obtain rfl := sj hr4
       obtain rfl := sj hr
       exact bL Tryz.results69 []
      ·refine zz ?_
       refine xy (h' := [some ⟨54,[(eI .u32 aB),(.row none 35 (aD.map aS)),(.row none 2 (aA.map aM)),(eI .u32 aH)]⟩,some ⟨33000,(aEm mS cW x29.Prev true).flatMap wV⟩,some ⟨90,aV x29⟩]) (aR2 rfl rfl rfl (aS9 aGM (C := wV) (CK := fI) (K := 33) (E := eB) (k := x29.Prev) (v := true) (fun _ => rfl) (fun _ => rfl) (by decide) (fun _ => rfl) (fun _ => rfl) (fun _ => rfl) aF3 aIK aIM aIS rfl rfl)) ?_
       refine zz ?_
       exact ⟨IntKind.i64.wrap (x27 + 1),aEm mS cW x29.Prev true,hr4,(zG [0,1])⟩
     ·refine zz ?_
      obtain rfl := sj hr4
      refine zz ?_
      exact hG2 _ _ _ _ (zG [0,1]) (J2 cW hr)
  rcases Bool.eq_false_or_eq_true ((aD.length : Int) == 0) with h12 | h12
  ·replace hr := eO hr h12
   refine xr ?_
   refine zz ?_
   exact hG1 _ _ _ _ (zG [0]) (J1 true hr)
  ·replace hr := eP hr h12
   refine xr ?_
   refine zz ?_
   exact hG1 _ _ _ _ (zG [0]) (J1 ((aA.length : Int) == 0) hr)
theorem aJK {N : Nat} {l : List aT} {r : Int × Bool} (hr : aCr N l = some r) :
  Vm.Fn Tryz.prog 70 [] [(.row none 37 (l.map nK))] (.tup [(eI .i64 r.1),(eB r.2)]) [] := by
 refine zf Tryz.func70 Tryz.ntmps70 ?_
 unfold aCr at hr
 refine zz ?_
 refine AB.seq_g fun K1 hK1 hG1 => ?_
 have J1 : ∀ (aGq : Int),yM N aGq = some r → K1 (aK 32 [(4,(eI .i64 aGq))]) [] := by
  intro aGq hr
  unfold yM at hr
  refine hK1 _ _ ?_
  refine zz ?_
  obtain rfl := sj hr
  exact zd2 Tryz.results70 []
 obtain ⟨bO,hL2,hr⟩ := aC hr
 refine zz ?_
 refine AB.block <| AB.loopN (fun m s h => ∃ (lH : Int) (x9 : Int),kN N l m lH x9 = some bO ∧ Ghost 0 s h (aK 32 [(4,(eI .i64 lH)),(7,(.row none 37 (l.map nK))),(8,(eI .i64 (l.length : Int))),(9,(eI .i64 x9))]) []) (n := N) ⟨0,0,hL2,(zG [])⟩ (by rintro s h ⟨_,_,h0,_⟩; simp [kN] at h0) ?_
 rintro m2 s h ⟨lH,x9,hr2,hg⟩
 refine AB.ghost hg ?_
 clear hg hL2
 rw [kN] at hr2
 refine zz ?_
 refine AB.seq ?_
 refine zk hr2 rfl (fun h1 hr2 => ?_) (fun h1 hr2 => ?_)
 ·refine zz ?_
  refine AB.seq <| AB.block ?_
  obtain ⟨b4,h_2,hr2⟩ := aC hr2
  refine zz ?_
  refine xw (v := (.ptr 0 0)) (h' := [some ⟨68,(bG (eI .u8) (List.replicate 32 0) [(eI .u32 0),(eI .i64 0),(.row (some true) 1 []),(eI .i64 0),(eB false)])⟩]) (cD tJ rfl rfl rfl) ?_
  refine zz ?_
  refine AB.seq ?_
  refine AB.seq_g fun K3 hK3 hG3 => ?_
  have J3 : ∀ (fW : Bool),uQ N l lH x9 b4 (kN N l m2) fW = some bO → K3 (aK 32 [(4,(eI .i64 lH)),(6,(.ptr 0 0)),(7,(.row none 37 (l.map nK))),(8,(eI .i64 (l.length : Int))),(9,(eI .i64 x9)),(24,(eB fW))]) [some ⟨68,bB b4⟩] := by
   intro fW hr2
   unfold uQ at hr2
   refine hK3 _ _ ?_
   refine zk hr2 rfl (fun h3 hr2 => ?_) (fun h3 hr2 => ?_)
   ·refine zz ?_
    obtain rfl := sj hr2
    obtain rfl := sj hr
    exact zd2 Tryz.results70 []
   ·refine zz ?_
    exact ⟨IntKind.i64.wrap (lH + b4.Output.Value),IntKind.i64.wrap (x9 + 1),hr2,(zG [])⟩
  rcases Bool.eq_false_or_eq_true (decide (b4.Output.Value < 0)) with h4 | h4
  ·replace hr2 := eO hr2 h4
   refine xr ?_
   refine zz ?_
   exact hG3 _ _ _ _ (zG [0]) (J3 true hr2)
  ·replace hr2 := eP hr2 h4
   refine xr ?_
   refine zz ?_
   exact hG3 _ _ _ _ (zG [0]) (J3 (decide ((IntKind.i64.wrap (2100000000000000 - lH)) < b4.Output.Value)) hr2)
 ·refine zz ?_
  obtain rfl := sj hr2
  refine zz ?_
  exact hG1 _ _ _ _ (zG []) (J1 lH hr)
theorem aBJ {N : Nat} {aB : Int} {aD : List aF} {aA : List aE} {aH : Int} {l : List aT} {r : Int × Int} (hr : uD N aB aD aA aH l = some r) :
  Vm.Fn Tryz.prog 39 [] [(.agg [(eI .u32 aB),(.row none 35 (aD.map aS)),(.row none 2 (aA.map aM)),(eI .u32 aH)]),(.row none 37 (l.map nK))] (.tup [(eI .i64 r.1),(eI .i64 r.2)]) [] := by
 refine zf Tryz.func39 Tryz.ntmps39 ?_
 unfold uD at hr
 refine zz ?_
 refine AB.seq ?_
 obtain ⟨bH,h_1,hr⟩ := aC hr
 refine zz ?_
 refine xp (aKF h_1) ?_
 refine zz ?_
 refine zk hr rfl (fun h2 hr => ?_) (fun h2 hr => ?_)
 ·refine zz ?_
  obtain rfl := sj hr
  exact zd2 Tryz.results39 []
 ·refine zz ?_
  refine AB.seq ?_
  refine zz ?_
  refine zk hr rfl (fun h3 hr => ?_) (fun h3 hr => ?_)
  ·refine zz ?_
   obtain rfl := sj hr
   exact zd2 Tryz.results39 []
  ·refine zz ?_
   refine AB.seq_g fun K1 hK1 hG1 => ?_
   have J1 : yC N aB aD aA aH l = some r → K1 (aK 63 [(1,(.row none 37 (l.map nK))),(2,(.ptr 0 0))]) [some ⟨54,[(eI .u32 aB),(.row none 35 (aD.map aS)),(.row none 2 (aA.map aM)),(eI .u32 aH)]⟩] := by
    intro hr
    unfold yC at hr
    refine hK1 _ _ ?_
    obtain ⟨x43,h_4,hr⟩ := aC hr
    refine zz ?_
    refine xp (aJK h_4) ?_
    refine zz ?_
    refine AB.seq ?_
    refine zz ?_
    refine zk hr rfl (fun h5 hr => ?_) (fun h5 hr => ?_)
    ·refine zz ?_
     obtain rfl := sj hr
     exact zd2 Tryz.results39 []
    ·refine zz ?_
     refine AB.seq_g fun K2 hK2 hG2 => ?_
     have J2 : ∀ (fee : Int),yA N fee = some r → K2 (aK 63 [(9,(eI .i64 fee))]) [] := by
      intro fee hr
      unfold yA at hr
      refine hK2 _ _ <| AB.seq ?_
      refine zz ?_
      refine zk hr rfl (fun h6 hr => ?_) (fun h6 hr => ?_)
      ·refine zz ?_
       obtain rfl := sj hr
       exact zd2 Tryz.results39 []
      ·refine zz ?_
       obtain rfl := sj hr
       exact zd2 Tryz.results39 []
     obtain ⟨tL,hL3,hr⟩ := aC hr
     refine zz ?_
     refine AB.block <| AB.loopN (fun m s h => ∃ (fee_1 : Int) (x51 : Int),mH N aA m fee_1 x51 = some tL ∧ Ghost 0 s h (aK 63 [(9,(eI .i64 fee_1)),(49,(.row none 2 (aA.map aM))),(50,(eI .i64 (aA.length : Int))),(51,(eI .i64 x51))]) []) (n := N) ⟨x43.1,0,hL3,(zG [])⟩ (by rintro s h ⟨_,_,h0,_⟩; simp [mH] at h0) ?_
     rintro m3 s h ⟨fee_1,x51,hr3,hg⟩
     refine AB.ghost hg ?_
     clear hg hL3
     rw [mH] at hr3
     refine zz ?_
     refine AB.seq ?_
     refine zk hr3 rfl (fun h7 hr3 => ?_) (fun h7 hr3 => ?_)
     ·refine zz ?_
      refine AB.seq <| AB.block ?_
      obtain ⟨x53,h_8,hr3⟩ := aC hr3
      refine zz ?_
      exact ⟨IntKind.i64.wrap (fee_1 - x53.Value),IntKind.i64.wrap (x51 + 1),hr3,(zG [])⟩
     ·refine zz ?_
      obtain rfl := sj hr3
      refine zz ?_
      exact hG2 _ _ _ _ (zG []) (J2 fee_1 hr)
   obtain ⟨res4,hL4,hr⟩ := aC hr
   refine zz ?_
   refine AB.block <| AB.loopN (fun m s h => ∃ (x26 : Int),mE N aB aD aA aH l m x26 = some res4 ∧ Ghost 0 s h (aK 63 [(1,(.row none 37 (l.map nK))),(2,(.ptr 0 0)),(24,(.row none 37 (l.map nK))),(25,(eI .i64 (l.length : Int))),(26,(eI .i64 x26))]) [some ⟨54,[(eI .u32 aB),(.row none 35 (aD.map aS)),(.row none 2 (aA.map aM)),(eI .u32 aH)]⟩]) (n := N) ⟨0,hL4,(zG [0])⟩ (by rintro s h ⟨_,h0,_⟩; simp [mE] at h0) ?_
   rintro m4 s h ⟨x26,hr4,hg⟩
   refine AB.ghost hg ?_
   clear hg hL4
   rw [mE] at hr4
   refine zz ?_
   refine AB.seq ?_
   refine zk hr4 rfl (fun h9 hr4 => ?_) (fun h9 hr4 => ?_)
   ·refine zz ?_
    refine AB.seq <| AB.block ?_
    obtain ⟨x29,h_10,hr4⟩ := aC hr4
    refine zz ?_
    refine xw (v := (.ptr 1 0)) (h' := [some ⟨54,[(eI .u32 aB),(.row none 35 (aD.map aS)),(.row none 2 (aA.map aM)),(eI .u32 aH)]⟩,some ⟨68,(bG (eI .u8) (List.replicate 32 0) [(eI .u32 0),(eI .i64 0),(.row (some true) 1 []),(eI .i64 0),(eB false)])⟩]) (cD tJ rfl rfl rfl) ?_
    refine zz ?_
    refine AB.seq ?_
    obtain ⟨x36,h_11,hr4⟩ := aC hr4
    refine AB.rs mixed [] [] [[0,1,2,3,4,5,6,7,8]] ?_
    refine zz ?_
    refine xw (v := (eB (!(o8 x29.Out.Tx x36.Prev.Tx ((x29.Out.Index == x36.Prev.Index) && true))))) (xZ rfl rfl (aIV (d := 9) pD rfl aMa zl aOK rfl rfl rfl rfl rfl)) ?_
    refine zz ?_
    refine zk hr4 rfl (fun h12 hr4 => ?_) (fun h12 hr4 => ?_)
    ·refine zz ?_
     obtain rfl := sj hr4
     obtain rfl := sj hr
     exact zd2 Tryz.results39 []
    ·refine zz ?_
     exact ⟨IntKind.i64.wrap (x26 + 1),hr4,(zG [0])⟩
   ·refine zz ?_
    obtain rfl := sj hr4
    refine zz ?_
    exact hG1 _ _ _ _ (zG [0]) (J1 hr)
theorem aIC {N : Nat} {r : Bool} (hr : aBj N = some r) :
  Vm.Fn Tryz.prog 16 [] [] (eB r) [] := by
 refine zf Tryz.func16 Tryz.ntmps16 ?_
 unfold aBj at hr
 refine zz ?_
 refine xw (v := (.agg (bG (eI .u8) (List.replicate 32 0) [(eI .u32 1)]))) (bQ rfl (qL pD aFF rfl)) <| xw (v := (.agg (bG (eI .u8) (List.replicate 32 0) [(eI .u32 2)]))) (bQ rfl (qL pD aFF rfl)) <| xw (v := (.ptr 0 0)) (h' := [some ⟨66,(bG (eI .u8) (List.replicate 32 0) [(eI .u32 0)])⟩]) (cD pD rfl rfl rfl) ?_
 refine xw (v := (.ptr 1 0)) (h' := [some ⟨66,(bG (eI .u8) (List.replicate 32 0) [(eI .u32 0)])⟩,some ⟨66,(bG (eI .u8) (List.replicate 32 0) [(eI .u32 0)])⟩]) (cD pD rfl rfl rfl) ?_
 refine zz ?_
 refine xw (v := (.agg (bG (eI .u8) (List.replicate 32 0) [(eI .u32 1),(eI .u32 0),(.row (some true) 1 [])]))) (bQ rfl (qL sH aLq rfl)) ?_
 refine zz ?_
 refine xw (v := (.agg (bG (eI .u8) (List.replicate 32 0) [(eI .u32 2),(eI .u32 0),(.row (some true) 1 [])]))) (bQ rfl (qL sH aLq rfl)) <| xw (v := (.sl 2 0 2 35 true)) (h' := [some ⟨66,(bG (eI .u8) (List.replicate 32 0) [(eI .u32 1)])⟩,some ⟨66,(bG (eI .u8) (List.replicate 32 0) [(eI .u32 2)])⟩,some ⟨90,[(aF.mk (aQ.mk (List.replicate 32 0) 1) 0 []),(aF.mk (aQ.mk (List.replicate 32 0) 2) 0 [])].flatMap aV⟩]) (lF rfl (aBw (C := aV) (xs := [(aF.mk (aQ.mk (List.replicate 32 0) 1) 0 []),(aF.mk (aQ.mk (List.replicate 32 0) 2) 0 [])]) (K := 35) (fun _ => rfl) (fun _ => rfl) aJH sH ⟨zl,zl,zl⟩ rfl rfl rfl rfl rfl rfl)) ?_
 refine zz ?_
 refine xw (v := (.sl 3 0 1 2 true)) (h' := [some ⟨66,(bG (eI .u8) (List.replicate 32 0) [(eI .u32 1)])⟩,some ⟨66,(bG (eI .u8) (List.replicate 32 0) [(eI .u32 2)])⟩,some ⟨90,[(aF.mk (aQ.mk (List.replicate 32 0) 1) 0 []),(aF.mk (aQ.mk (List.replicate 32 0) 2) 0 [])].flatMap aV⟩,some ⟨57,[(aE.mk 10 [])].flatMap dY⟩]) (lF rfl (aBw (C := dY) (xs := [(aE.mk 10 [])]) (K := 2) (fun _ => rfl) (fun _ => rfl) aLI aB7 ⟨zl,zl,zl⟩ rfl rfl rfl rfl rfl rfl)) ?_
 refine zz ?_
 refine xw (v := (.agg (bG (eI .u8) (List.replicate 32 0) [(eI .u32 1),(eI .i64 5),(.row (some true) 1 []),(eI .i64 0),(eB false)]))) (bQ rfl (qL tJ aLd rfl)) ?_
 refine zz ?_
 refine xw (v := (.agg (bG (eI .u8) (List.replicate 32 0) [(eI .u32 2),(eI .i64 7),(.row (some true) 1 []),(eI .i64 0),(eB false)]))) (bQ rfl (qL tJ aLd rfl)) <| xw (v := (.sl 5 0 2 37 true)) (h' := [some ⟨66,(bG (eI .u8) (List.replicate 32 0) [(eI .u32 1)])⟩,some ⟨66,(bG (eI .u8) (List.replicate 32 0) [(eI .u32 2)])⟩,some ⟨90,[(aF.mk (aQ.mk (List.replicate 32 0) 1) 0 []),(aF.mk (aQ.mk (List.replicate 32 0) 2) 0 [])].flatMap aV⟩,some ⟨57,[(aE.mk 10 [])].flatMap dY⟩,some ⟨54,[(eI .u32 0),(.sl 2 0 2 35 true),(.sl 3 0 1 2 true),(eI .u32 0)]⟩,some ⟨68,[(aT.mk (aQ.mk (List.replicate 32 0) 1) (aE.mk 5 []) 0 false),(aT.mk (aQ.mk (List.replicate 32 0) 2) (aE.mk 7 []) 0 false)].flatMap bB⟩]) (lF rfl (aBw (C := bB) (xs := [(aT.mk (aQ.mk (List.replicate 32 0) 1) (aE.mk 5 []) 0 false),(aT.mk (aQ.mk (List.replicate 32 0) 2) (aE.mk 7 []) 0 false)]) (K := 37) (fun _ => rfl) (fun _ => rfl) aG8 tJ ⟨zl,zl,zl⟩ rfl rfl rfl rfl rfl rfl)) ?_
 obtain ⟨x29,h_1,hr⟩ := aC hr
 refine zz ?_
 refine xC (v := (.tup [(eI .i64 x29.1),(eI .i64 x29.2)])) (h' := [some ⟨66,(bG (eI .u8) (List.replicate 32 0) [(eI .u32 1)])⟩,some ⟨66,(bG (eI .u8) (List.replicate 32 0) [(eI .u32 2)])⟩,some ⟨90,[(aF.mk (aQ.mk (List.replicate 32 0) 1) 0 []),(aF.mk (aQ.mk (List.replicate 32 0) 2) 0 [])].flatMap aV⟩,some ⟨57,[(aE.mk 10 [])].flatMap dY⟩,some ⟨54,[(eI .u32 0),(.sl 2 0 2 35 true),(.sl 3 0 1 2 true),(eI .u32 0)]⟩,some ⟨68,[(aT.mk (aQ.mk (List.replicate 32 0) 1) (aE.mk 5 []) 0 false),(aT.mk (aQ.mk (List.replicate 32 0) 2) (aE.mk 7 []) 0 false)].flatMap bB⟩]) rfl (Vm.Fn.lendR (aBJ h_1) [] [2,3,5] (by decide) rfl (by decide) Lend.nil (Brw.row (rI (bS rfl (bS (mT (d := 3) (C := aV) (fun _ => rfl) zl rfl rfl (fun _ => rfl)) (bS (mT (d := 3) (C := dY) (fun _ => rfl) zl rfl rfl (fun _ => rfl)) (bS rfl rL))))) (Brw.row (xA (C := bB) (fun _ => rfl) zl rfl rfl (fun _ => rfl)) Brw.nil)) rfl rfB.nil rfl zH) ?_
 obtain ⟨dH,h_2,hr⟩ := aC hr
 refine zz ?_
 refine xy (h' := [some ⟨66,(bG (eI .u8) (List.replicate 32 0) [(eI .u32 1)])⟩,some ⟨66,(bG (eI .u8) (List.replicate 32 0) [(eI .u32 2)])⟩,some ⟨90,[(aF.mk (aQ.mk (List.replicate 32 0) 1) 0 []),(aF.mk (aQ.mk (List.replicate 32 0) 2) 0 [])].flatMap aV⟩,some ⟨57,([(aE.mk 10 [])].set (Int.toNat 0) (aE.mk 13 dH.Script)).flatMap dY⟩,some ⟨54,[(eI .u32 0),(.sl 2 0 2 35 true),(.sl 3 0 1 2 true),(eI .u32 0)]⟩,some ⟨68,[(aT.mk (aQ.mk (List.replicate 32 0) 1) (aE.mk 5 []) 0 false),(aT.mk (aQ.mk (List.replicate 32 0) 2) (aE.mk 7 []) 0 false)].flatMap bB⟩]) (bN rfl rfl (aLK (C := dY) (K := 2) (off := 0) (fun _ => rfl) ti2 rfl h_2 rfl rfl zl rfl rfl)) ?_
 obtain ⟨x39,h_3,hr⟩ := aC hr
 refine zz ?_
 refine xC (v := (.tup [(eI .i64 x39.1),(eI .i64 x39.2)])) (h' := [some ⟨66,(bG (eI .u8) (List.replicate 32 0) [(eI .u32 1)])⟩,some ⟨66,(bG (eI .u8) (List.replicate 32 0) [(eI .u32 2)])⟩,some ⟨90,[(aF.mk (aQ.mk (List.replicate 32 0) 1) 0 []),(aF.mk (aQ.mk (List.replicate 32 0) 2) 0 [])].flatMap aV⟩,some ⟨57,([(aE.mk 10 [])].set (Int.toNat 0) (aE.mk 13 dH.Script)).flatMap dY⟩,some ⟨54,[(eI .u32 0),(.sl 2 0 2 35 true),(.sl 3 0 1 2 true),(eI .u32 0)]⟩,some ⟨68,[(aT.mk (aQ.mk (List.replicate 32 0) 1) (aE.mk 5 []) 0 false),(aT.mk (aQ.mk (List.replicate 32 0) 2) (aE.mk 7 []) 0 false)].flatMap bB⟩]) rfl (Vm.Fn.lendR (aBJ h_3) [] [2,3,5] (by decide) rfl (by decide) Lend.nil (Brw.row (rI (bS rfl (bS (mT (d := 3) (C := aV) (fun _ => rfl) zl rfl rfl (fun _ => rfl)) (bS (mT (d := 3) (C := dY) (fun _ => rfl) zl rfl rfl (fun _ => rfl)) (bS rfl rL))))) (Brw.row (xA (C := bB) (fun _ => rfl) zl rfl rfl (fun _ => rfl)) Brw.nil)) rfl rfB.nil rfl zH) ?_
 refine zz ?_
 refine AB.seq_g fun K1 hK1 hG1 => ?_
 have J1 : ∀ (x0 : Bool),s6 N x0 = some r → K1 (aK 52 [(0,(eB x0))]) [] := by
  intro x0 hr
  unfold s6 at hr
  refine hK1 _ _ ?_
  refine zz ?_
  obtain rfl := sj hr
  exact bL Tryz.results16 []
 rcases Bool.eq_false_or_eq_true (x29.2 == 0) with h4 | h4
 ·replace hr := eO hr h4
  rcases Bool.eq_false_or_eq_true (x29.1 == 2) with h5 | h5
  ·replace hr := eO hr h5
   refine xr ?_
   refine zz ?_
   exact hG1 _ _ _ _ (zG []) (J1 (x39.2 == 100) hr)
  ·replace hr := eP hr h5
   refine xr ?_
   refine zz ?_
   exact hG1 _ _ _ _ (zG []) (J1 false hr)
 ·replace hr := eP hr h4
  refine xr ?_
  refine zz ?_
  refine xX rfl <| xX rfl ?_
  refine zz ?_
  exact hG1 _ _ _ _ (zG []) (J1 false hr)
theorem aID {N : Nat} {l : List (List Int)} {vn : Int} {vm : Int} {r : Bool} (hr : yR N l vn vm = some r) :
  Vm.Fn Tryz.prog 40 [] [(.row none 1 (l.map (eL 1 (eI .u8)))),(eI .i64 vn),(eI .i64 vm)] (eB r) [] := by
 refine zf Tryz.func40 Tryz.ntmps40 ?_
 unfold yR at hr
 refine zz ?_
 refine AB.seq ?_
 refine zz ?_
 refine zk hr rfl (fun h1 hr => ?_) (fun h1 hr => ?_)
 ·refine zz ?_
  obtain rfl := sj hr
  exact bL Tryz.results40 []
 ·refine zz ?_
  refine AB.seq_g fun K1 hK1 hG1 => ?_
  have J1 : aA4 N = some r → K1 (aK 24 []) [] := by
   intro hr
   unfold aA4 at hr
   refine hK1 _ _ ?_
   refine zz ?_
   obtain rfl := sj hr
   exact bL Tryz.results40 []
  obtain ⟨bO,hL2,hr⟩ := aC hr
  refine zz ?_
  refine AB.block <| AB.loopN (fun m s h => ∃ (x15 : Int),k8 N l vm m x15 = some bO ∧ Ghost 0 s h (aK 24 [(2,(eI .i64 vm)),(13,(.row none 1 (l.map (eL 1 (eI .u8))))),(14,(eI .i64 (l.length : Int))),(15,(eI .i64 x15))]) []) (n := N) ⟨0,hL2,(zG [])⟩ (by rintro s h ⟨_,h0,_⟩; simp [k8] at h0) ?_
  rintro m2 s h ⟨x15,hr2,hg⟩
  refine AB.ghost hg ?_
  clear hg hL2
  rw [k8] at hr2
  refine zz ?_
  refine AB.seq ?_
  refine zk hr2 rfl (fun h2 hr2 => ?_) (fun h2 hr2 => ?_)
  ·refine zz ?_
   refine AB.seq <| AB.block ?_
   obtain ⟨x17,h_3,hr2⟩ := aC hr2
   refine zz ?_
   refine zk hr2 rfl (fun h4 hr2 => ?_) (fun h4 hr2 => ?_)
   ·refine zz ?_
    obtain rfl := sj hr2
    obtain rfl := sj hr
    exact bL Tryz.results40 []
   ·refine zz ?_
    exact ⟨IntKind.i64.wrap (x15 + 1),hr2,(zG [])⟩
  ·refine zz ?_
   obtain rfl := sj hr2
   refine zz ?_
   exact hG1 _ _ _ _ (zG []) (J1 hr)
theorem aLt {N : Nat} {aB : Int} {aD : List aF} {aA : List aE} {aH : Int} {r : Bool} (hr : aC5 N aB aD aA aH = some r) :
  Vm.Fn Tryz.prog 17 [] [(.agg [(eI .u32 aB),(.row none 35 (aD.map aS)),(.row none 2 (aA.map aM)),(eI .u32 aH)])] (eB r) [] := by
 refine zf Tryz.func17 Tryz.ntmps17 ?_
 unfold aC5 at hr
 refine zz ?_
 refine AB.seq ?_
 refine AB.seq_g fun K1 hK1 hG1 => ?_
 have J1 : ∀ (x16 : Bool),yN N aB aD aA aH x16 = some r → K1 (aK 41 [(1,(.ptr 0 0)),(16,(eB x16))]) [some ⟨54,[(eI .u32 aB),(.row none 35 (aD.map aS)),(.row none 2 (aA.map aM)),(eI .u32 aH)]⟩] := by
  intro x16 hr
  unfold yN at hr
  refine hK1 _ _ ?_
  refine zk hr rfl (fun h1 hr => ?_) (fun h1 hr => ?_)
  ·refine zz ?_
   obtain rfl := sj hr
   exact bL Tryz.results17 []
  ·refine zz ?_
   refine AB.seq_g fun K2 hK2 hG2 => ?_
   have J2 : aBe N aB aD aA aH = some r → K2 (aK 41 [(1,(.ptr 0 0))]) [some ⟨54,[(eI .u32 aB),(.row none 35 (aD.map aS)),(.row none 2 (aA.map aM)),(eI .u32 aH)]⟩] := by
    intro hr
    unfold aBe at hr
    refine hK2 _ _ ?_
    refine AB.seq_g fun K3 hK3 hG3 => ?_
    have J3 : aDi N = some r → K3 (aK 41 []) [] := by
     intro hr
     unfold aDi at hr
     refine hK3 _ _ ?_
     refine zz ?_
     obtain rfl := sj hr
     exact bL Tryz.results17 []
    obtain ⟨res4,hL4,hr⟩ := aC hr
    refine zz ?_
    refine AB.block <| AB.loopN (fun m s h => ∃ (kL : Int),pW N aA m kL = some res4 ∧ Ghost 0 s h (aK 41 [(30,(.row none 2 (aA.map aM))),(31,(eI .i64 (aA.length : Int))),(32,(eI .i64 kL))]) []) (n := N) ⟨0,hL4,(zG [])⟩ (by rintro s h ⟨_,h0,_⟩; simp [pW] at h0) ?_
    rintro m4 s h ⟨kL,hr4,hg⟩
    refine AB.ghost hg ?_
    clear hg hL4
    rw [pW] at hr4
    refine zz ?_
    refine AB.seq ?_
    refine zk hr4 rfl (fun h2 hr4 => ?_) (fun h2 hr4 => ?_)
    ·refine zz ?_
     refine AB.seq <| AB.block ?_
     obtain ⟨dH,h_3,hr4⟩ := aC hr4
     refine zz ?_
     refine zk hr4 rfl (fun h4 hr4 => ?_) (fun h4 hr4 => ?_)
     ·refine zz ?_
      obtain rfl := sj hr4
      obtain rfl := sj hr
      exact bL Tryz.results17 []
     ·refine zz ?_
      exact ⟨IntKind.i64.wrap (kL + 1),hr4,(zG [])⟩
    ·refine zz ?_
     obtain rfl := sj hr4
     refine zz ?_
     exact hG3 _ _ _ _ (zG []) (J3 hr)
   obtain ⟨res5,hL5,hr⟩ := aC hr
   refine zz ?_
   refine AB.block <| AB.loopN (fun m s h => ∃ (dX : Int),p9 N aB aD aA aH m dX = some res5 ∧ Ghost 0 s h (aK 41 [(1,(.ptr 0 0)),(18,(.row none 35 (aD.map aS))),(19,(eI .i64 (aD.length : Int))),(20,(eI .i64 dX))]) [some ⟨54,[(eI .u32 aB),(.row none 35 (aD.map aS)),(.row none 2 (aA.map aM)),(eI .u32 aH)]⟩]) (n := N) ⟨0,hL5,(zG [0])⟩ (by rintro s h ⟨_,h0,_⟩; simp [p9] at h0) ?_
   rintro m5 s h ⟨dX,hr5,hg⟩
   refine AB.ghost hg ?_
   clear hg hL5
   rw [p9] at hr5
   refine zz ?_
   refine AB.seq ?_
   refine zk hr5 rfl (fun h5 hr5 => ?_) (fun h5 hr5 => ?_)
   ·refine zz ?_
    refine AB.seq <| AB.block ?_
    obtain ⟨c5,h_6,hr5⟩ := aC hr5
    refine zz ?_
    refine xw (v := (.ptr 1 0)) (h' := [some ⟨54,[(eI .u32 aB),(.row none 35 (aD.map aS)),(.row none 2 (aA.map aM)),(eI .u32 aH)]⟩,some ⟨90,(bG (eI .u8) (List.replicate 32 0) [(eI .u32 0),(eI .u32 0),(.row (some true) 1 [])])⟩]) (cD sH rfl rfl rfl) ?_
    obtain ⟨x26,h_7,hr5⟩ := aC hr5
    refine zz ?_
    refine xp (aID h_7) ?_
    refine zz ?_
    refine zk hr5 rfl (fun h8 hr5 => ?_) (fun h8 hr5 => ?_)
    ·refine zz ?_
     obtain rfl := sj hr5
     obtain rfl := sj hr
     exact bL Tryz.results17 []
    ·refine zz ?_
     exact ⟨IntKind.i64.wrap (dX + 1),hr5,(zG [0])⟩
   ·refine zz ?_
    obtain rfl := sj hr5
    refine zz ?_
    exact hG2 _ _ _ _ (zG [0]) (J2 hr)
 rcases Bool.eq_false_or_eq_true (decide (70 < (aD.length : Int))) with h9 | h9
 ·replace hr := eO hr h9
  refine xr ?_
  refine zz ?_
  exact hG1 _ _ _ _ (zG [0]) (J1 true hr)
 ·replace hr := eP hr h9
  refine xr ?_
  refine zz ?_
  exact hG1 _ _ _ _ (zG [0]) (J1 (decide (70 < (aA.length : Int))) hr)
theorem aJT {N : Nat} {p : List Int} {r : (List Int)} (hr : aCq N p = some r) :
  Vm.Fn Tryz.prog 72 [] [(.agg (p.map (eI .u64)))] (.row none 1 (r.map (eI .u8))) [] := by
 refine zf Tryz.func72 Tryz.ntmps72 ?_
 unfold aCq at hr
 obtain ⟨q,h_1,hr⟩ := aC hr
 obtain ⟨x5,h_2,hr⟩ := aC hr
 obtain ⟨q_1,h_3,hr⟩ := aC hr
 refine zz ?_
 refine xp (aC1 h_2) ?_
 refine zz ?_
 obtain rfl := sj hr
 exact fD Tryz.results72 bM (Ghost.trans (zv 1) (zG []))
theorem aGh {N : Nat} {aDa : Int} {aD2 : List Int} {o_M : Int} {o_N : Int} {r : (List Int)} (hr : zJ N aDa aD2 o_M o_N = some r) :
  Vm.Fn Tryz.prog 101 [] [(.agg [(eI .i64 aDa),(.row none 1 (aD2.map (eI .u8))),(eI .i64 o_M),(eI .i64 o_N)])] (.sl 0 0 r.length 1 false) [some ⟨5,r.map (eI .u8)⟩] := by
 refine zf Tryz.func101 Tryz.ntmps101 ?_
 unfold zJ at hr
 refine zz ?_
 refine AB.seq ?_
 refine zz ?_
 refine AB.block ?_
 refine zz ?_
 refine zk hr rfl (fun h1 hr => ?_) (fun h1 hr => ?_)
 ·obtain ⟨x15,h_2,hr⟩ := aC hr
  refine zz ?_
  refine OpsX.ghost (zv 1) ?_
  refine zz ?_
  refine xV (nE h_2) [] [2] ?_
  refine zz ?_
  obtain rfl := sj hr
  exact bL Tryz.results101 [3]
 ·refine zz ?_
  refine zk hr rfl (fun h3 hr => ?_) (fun h3 hr => ?_)
  ·refine zz ?_
   obtain rfl := sj hr
   exact fD Tryz.results101 bM (qH [1])
  ·refine zz ?_
   obtain rfl := sj hr
   exact fD Tryz.results101 bM (qH [1])
theorem aIv {N : Nat} {b : List Int} {r : (List Int)} (hr : aBm N b = some r) :
  Vm.Fn Tryz.prog 71 [] [(.row none 1 (b.map (eI .u8)))] (.sl 0 0 r.length 1 false) [some ⟨5,r.map (eI .u8)⟩] := by
 refine zf Tryz.func71 Tryz.ntmps71 ?_
 unfold aBm at hr
 obtain ⟨x5,h_1,hr⟩ := aC hr
 refine zz ?_
 refine zc (aGh h_1) [] ?_
 refine zz ?_
 obtain rfl := sj hr
 exact bL Tryz.results71 [0]
theorem aGj {N : Nat} {p : List Int} {r : (List Int)} (hr : u2 N p = some r) :
  Vm.Fn Tryz.prog 41 [] [(.agg (p.map (eI .u64)))] (.row none 1 (r.map (eI .u8))) [] := by
 refine zf Tryz.func41 Tryz.ntmps41 ?_
 unfold u2 at hr
 obtain ⟨q,h_1,hr⟩ := aC hr
 obtain ⟨x4,h_2,hr⟩ := aC hr
 obtain ⟨x5,h_3,hr⟩ := aC hr
 obtain ⟨x8,h_4,hr⟩ := aC hr
 refine zz ?_
 refine xp (aJT h_2) <| zc (aIv h_3) [] ?_
 refine zz ?_
 refine OpsX.ghost (zv 1) ?_
 refine OpsX.ghost (zv 2) ?_
 refine zz ?_
 refine xV (nE h_4) [] [3] ?_
 refine zz ?_
 obtain rfl := sj hr
 exact fD Tryz.results41 bM (Ghost.trans (zv 4) (zG []))
theorem aJP {N : Nat} {aB : Int} {aD : List aF} {aA : List aE} {aH : Int} {c6 : Bool} {r : (List Int) × Int} (hr : aCk N aB aD aA aH c6 = some r) :
  Vm.Fn Tryz.prog 74 [] [(.agg [(eI .u32 aB),(.row none 35 (aD.map aS)),(.row none 2 (aA.map aM)),(eI .u32 aH)]),(eB c6)] (.tup [(.sl 0 0 r.1.length 1 false),(eI .i64 r.2)]) [some ⟨5,r.1.map (eI .u8)⟩] := by
 refine zf Tryz.func74 Tryz.ntmps74 ?_
 unfold aCk at hr
 refine zz ?_
 refine AB.seq ?_
 obtain ⟨x7,h_1,hr⟩ := aC hr
 refine zz ?_
 refine xp (aF4 h_1) ?_
 refine zz ?_
 refine zk hr rfl (fun h2 hr => ?_) (fun h2 hr => ?_)
 ·refine zz ?_
  obtain rfl := sj hr
  exact wM Tryz.results74 bM bM (zW 5 [1])
 ·obtain ⟨b4,h_3,hr⟩ := aC hr
  refine zz ?_
  refine zc (aEs h_3) [] ?_
  refine zz ?_
  obtain rfl := sj hr
  exact zd2 Tryz.results74 [1]
theorem aA7 {N : Nat} {aB : Int} {aD : List aF} {aA : List aE} {aH : Int} {r : Bool} (hr : z8 N aB aD aA aH = some r) :
  Vm.Fn Tryz.prog 45 [] [(.agg [(eI .u32 aB),(.row none 35 (aD.map aS)),(.row none 2 (aA.map aM)),(eI .u32 aH)])] (eB r) [] := by
 refine zf Tryz.func45 Tryz.ntmps45 ?_
 unfold z8 at hr
 obtain ⟨x7,h_1,hr⟩ := aC hr
 refine zz ?_
 refine zc (aJP h_1) [] ?_
 refine zz ?_
 obtain rfl := sj hr
 exact bL Tryz.results45 []
theorem tU {N : Nat} {vn : Int} {r : (List Int)} (hr : mL N vn = some r) :
  Vm.Fn Tryz.prog 47 [] [(eI .u32 vn)] (.sl 0 0 r.length 1 false) [some ⟨5,r.map (eI .u8)⟩] := by
 refine zf Tryz.func47 Tryz.ntmps47 ?_
 unfold mL at hr
 obtain ⟨x4,h_1,hr⟩ := aC hr
 refine zz ?_
 refine zc (jV h_1) [] ?_
 refine zz ?_
 obtain rfl := sj hr
 exact bL Tryz.results47 [0]
theorem aEl {N : Nat} {parts : List (List Int)} {r : (List Int)} (hr : uF N parts = some r) :
  Vm.Fn Tryz.prog 50 [] [(.row none 1 (parts.map (eL 1 (eI .u8))))] (.sl 0 0 r.length 1 false) [some ⟨5,r.map (eI .u8)⟩] := by
 refine zf Tryz.func50 Tryz.ntmps50 ?_
 unfold uF at hr
 refine zz ?_
 refine AB.seq_g fun K1 hK1 hG1 => ?_
 have J1 : ∀ (l0 : List Int),aB5 N l0 = some r → K1 (aK 17 [(3,(.sl 0 0 l0.length 1 false))]) [some ⟨5,l0.map (eI .u8)⟩] := by
  intro l0 hr
  unfold aB5 at hr
  refine hK1 _ _ ?_
  refine zz ?_
  obtain rfl := sj hr
  exact bL Tryz.results50 [0]
 obtain ⟨bO,hL2,hr⟩ := aC hr
 refine zz ?_
 refine AB.block <| AB.loopN (fun m s h => ∃ (x8 : Int) (a9 : List Int),mK N parts m x8 a9 = some bO ∧ Ghost 0 s h (aK 17 [(3,(.sl 0 0 a9.length 1 false)),(6,(.row none 1 (parts.map (eL 1 (eI .u8))))),(7,(eI .i64 (parts.length : Int))),(8,(eI .i64 x8))]) [some ⟨5,a9.map (eI .u8)⟩]) (n := N) ⟨0,[],hL2,(zW 5 [0])⟩ (by rintro s h ⟨_,_,h0,_⟩; simp [mK] at h0) ?_
 rintro m2 s h ⟨x8,a9,hr2,hg⟩
 refine AB.ghost hg ?_
 clear hg hL2
 rw [mK] at hr2
 refine zz ?_
 refine AB.seq ?_
 refine zk hr2 rfl (fun h1 hr2 => ?_) (fun h1 hr2 => ?_)
 ·refine zz ?_
  refine AB.seq <| AB.block ?_
  obtain ⟨bV,h_2,hr2⟩ := aC hr2
  obtain ⟨bH,h_3,hr2⟩ := aC hr2
  refine zz ?_
  exact ⟨IntKind.i64.wrap (x8 + 1),bH,hr2,(zG [1])⟩
 ·refine zz ?_
  obtain rfl := sj hr2
  refine zz ?_
  exact hG1 _ _ _ _ (zG [0]) (J1 a9 hr)
theorem aCm {N : Nat} {cA : Int} {bU : List Int} {r : (List Int)} (hr : rR N cA bU = some r) :
  Vm.Fn Tryz.prog 48 [] [(.agg [(eI .i64 cA),(.row none 1 (bU.map (eI .u8)))])] (.sl 0 0 r.length 1 false) [some ⟨5,r.map (eI .u8)⟩] := by
 refine zf Tryz.func48 Tryz.ntmps48 ?_
 unfold rR at hr
 refine zz ?_
 refine AB.seq ?_
 obtain ⟨x6,h_1,hr⟩ := aC hr
 obtain ⟨x9,h_3,hr⟩ := aC hr
 obtain ⟨b4,h_5,hr⟩ := aC hr
 refine AB.rs mixed [] [50,77,78] [[0,1,2,3,4,5,6],[7,8,9]] ?_
 refine zz ?_
 refine zg (uC h_1) [] ?_
 refine zz ?_
 refine zg (sM h_3) [] ?_
 refine zz ?_
 refine ⟨_,_,(Ghost.trans (zv 1) (zv 2)), ?_⟩
 refine zz ?_
 refine zgL (aEl h_5) [] [3] ?_
 refine zz ?_
 obtain rfl := sj hr
 exact bL Tryz.results48 [4]
theorem yK {N : Nat} {b : List Int} {r : (List Int)} (hr : oR N b = some r) :
  Vm.Fn Tryz.prog 51 [] [(.row none 1 (b.map (eI .u8)))] (.row none 1 (r.map (eI .u8))) [] := by
 refine zf Tryz.func51 Tryz.ntmps51 ?_
 unfold oR at hr
 obtain ⟨x5,h_1,hr⟩ := aC hr
 obtain ⟨q,h_2,hr⟩ := aC hr
 refine zz ?_
 refine xp (aBp h_1) ?_
 refine zz ?_
 obtain rfl := sj hr
 exact fD Tryz.results51 bM (Ghost.trans (zv 0) (zG []))
theorem jK {N : Nat} {aB : Int} {aD : List aF} {aA : List aE} {aH : Int} {vi : Int} {cA : Int} {bU : List Int} {r : (List Int) × Int} (hr : k9 N aB aD aA aH vi cA bU = some r) :
  Vm.Fn Tryz.prog 20 [] [(.agg [(eI .u32 aB),(.row none 35 (aD.map aS)),(.row none 2 (aA.map aM)),(eI .u32 aH)]),(eI .i64 vi),(.agg [(eI .i64 cA),(.row none 1 (bU.map (eI .u8)))])] (.tup [(.agg (r.1.map (eI .u8))),(eI .i64 r.2)]) [] := by
 refine zf Tryz.func20 Tryz.ntmps20 ?_
 unfold k9 at hr
 refine zz ?_
 refine AB.seq ?_
 refine AB.seq_g fun K1 hK1 hG1 => ?_
 have J1 : ∀ (x28 : Bool),lK N aB aD aA aH vi cA bU x28 = some r → K1 (aK 90 [(1,(eI .i64 vi)),(3,(.ptr 0 0)),(5,(.ptr 1 0)),(6,(.ptr 2 0)),(28,(eB x28))]) [some ⟨54,[(eI .u32 aB),(.row none 35 (aD.map aS)),(.row none 2 (aA.map aM)),(eI .u32 aH)]⟩,some ⟨57,[(eI .i64 cA),(.row none 1 (bU.map (eI .u8)))]⟩,some ⟨24,(List.replicate 32 0).map (eI .u8)⟩] := by
  intro x28 hr
  unfold lK at hr
  refine hK1 _ _ ?_
  refine zk hr rfl (fun h1 hr => ?_) (fun h1 hr => ?_)
  ·refine zz ?_
   refine xw (v := (.agg ([0,0,0,0,0,0,0,0,0,0,0,0,0,0,0,0,0,0,0,0,0,0,0,0,0,0,0,0,0,0,0,0].map (eI .u8)))) (bQ rfl (jO i0 gX rfl)) ?_
   refine zz ?_
   obtain rfl := sj hr
   exact wM Tryz.results20 bM bM (qH [])
  ·refine zz ?_
   refine AB.seq ?_
   refine AB.seq_g fun K2 hK2 hG2 => ?_
   have J2 : ∀ (x38 : Bool),lG N aB aD aA aH vi cA bU x38 = some r → K2 (aK 90 [(1,(eI .i64 vi)),(3,(.ptr 0 0)),(5,(.ptr 1 0)),(6,(.ptr 2 0)),(38,(eB x38))]) [some ⟨54,[(eI .u32 aB),(.row none 35 (aD.map aS)),(.row none 2 (aA.map aM)),(eI .u32 aH)]⟩,some ⟨57,[(eI .i64 cA),(.row none 1 (bU.map (eI .u8)))]⟩,some ⟨24,(List.replicate 32 0).map (eI .u8)⟩] := by
    intro x38 hr
    unfold lG at hr
    refine hK2 _ _ ?_
    refine zk hr rfl (fun h2 hr => ?_) (fun h2 hr => ?_)
    ·refine zz ?_
     refine xw (v := (.agg ([0,0,0,0,0,0,0,0,0,0,0,0,0,0,0,0,0,0,0,0,0,0,0,0,0,0,0,0,0,0,0,0].map (eI .u8)))) (bQ rfl (jO i0 gX rfl)) ?_
     refine zz ?_
     obtain rfl := sj hr
     exact wM Tryz.results20 bM bM (qH [])
    ·refine zz ?_
     refine AB.seq_g fun K3 hK3 hG3 => ?_
     have J3 : ∀ (l3 : List Int) (l4 : List Int),sR N aB aD aA aH vi cA bU l3 l4 = some r → K3 (aK 90 [(1,(eI .i64 vi)),(3,(.ptr 0 0)),(5,(.ptr 1 0)),(6,(.ptr 2 0)),(8,(.sl 3 0 l3.length 1 false)),(9,(.sl 4 0 l4.length 1 false)),(10,(.row (some true) 1 []))]) [some ⟨54,[(eI .u32 aB),(.row none 35 (aD.map aS)),(.row none 2 (aA.map aM)),(eI .u32 aH)]⟩,some ⟨57,[(eI .i64 cA),(.row none 1 (bU.map (eI .u8)))]⟩,some ⟨24,(List.replicate 32 0).map (eI .u8)⟩,some ⟨5,l3.map (eI .u8)⟩,some ⟨5,l4.map (eI .u8)⟩] := by
      intro l3 l4 hr
      unfold sR at hr
      refine hK3 _ _ ?_
      refine AB.seq_g fun K4 hK4 hG4 => ?_
      have J4 : ∀ (l5 : List Int),sQ N aB aD aA aH vi cA bU l3 l4 l5 = some r → K4 (aK 90 [(1,(eI .i64 vi)),(3,(.ptr 0 0)),(5,(.ptr 1 0)),(6,(.ptr 2 0)),(8,(.sl 3 0 l3.length 1 false)),(9,(.sl 4 0 l4.length 1 false)),(10,(.sl 5 0 l5.length 1 false))]) [some ⟨54,[(eI .u32 aB),(.row none 35 (aD.map aS)),(.row none 2 (aA.map aM)),(eI .u32 aH)]⟩,some ⟨57,[(eI .i64 cA),(.row none 1 (bU.map (eI .u8)))]⟩,some ⟨24,(List.replicate 32 0).map (eI .u8)⟩,some ⟨5,l3.map (eI .u8)⟩,some ⟨5,l4.map (eI .u8)⟩,some ⟨5,l5.map (eI .u8)⟩] := by
       intro l5 hr
       unfold sQ at hr
       refine hK4 _ _ <| AB.seq <| AB.ghost (zv 3) ?_
       refine AB.ghost (zv 4) ?_
       refine AB.ghost (zv 5) ?_
       obtain ⟨x72,h_3,hr⟩ := aC hr
       obtain ⟨x74,h_5,hr⟩ := aC hr
       obtain ⟨x76,h_7,hr⟩ := aC hr
       obtain ⟨x78,h_9,hr⟩ := aC hr
       obtain ⟨x81,h_11,hr⟩ := aC hr
       obtain ⟨x84,h_13,hr⟩ := aC hr
       obtain ⟨x86,h_15,hr⟩ := aC hr
       obtain ⟨x88,h_17,hr⟩ := aC hr
       obtain ⟨x89,h_19,hr⟩ := aC hr
       obtain ⟨q,h_21,hr⟩ := aC hr
       refine AB.rs mixed [51] [47,48,49,50] [[0,1,2,3,4,5,6,7,8,9,10,11,12,13,14,15,16],[17,18,19,20,21]] ?_
       refine zz ?_
       refine zg (tU h_3) [] ?_
       refine zz ?_
       refine xu (yK h_5) ?_
       refine zz ?_
       refine xu (yK h_7) ?_
       refine zz ?_
       refine xu (yK h_9) ?_
       refine zz ?_
       refine zg (tU h_11) [] ?_
       refine zz ?_
       refine zg (tU h_13) [] ?_
       refine zz ?_
       refine zg (aCm h_15) [] ?_
       refine zz ?_
       refine ⟨_,_,(Ghost.trans (Ghost.trans (Ghost.trans (zv 6) (zv 7)) (zv 8)) (zv 9)), ?_⟩
       refine zz ?_
       refine zgL (aEl h_17) [] [10] ?_
       refine zgL (aDX h_19) [] [11] ?_
       refine zz ?_
       obtain rfl := sj hr
       exact wM Tryz.results20 bM bM (qH [])
      obtain ⟨res5,hL5,hr⟩ := aC hr
      refine zz ?_
      refine AB.block <| AB.loopN (fun m s h => ∃ (x61 : Int) (l5_1 : List Int),fV N aB aD aA aH vi cA bU l3 l4 m x61 l5_1 = some res5 ∧ Ghost 0 s h (aK 90 [(1,(eI .i64 vi)),(3,(.ptr 0 0)),(5,(.ptr 1 0)),(6,(.ptr 2 0)),(8,(.sl 3 0 l3.length 1 false)),(9,(.sl 4 0 l4.length 1 false)),(10,(.sl 5 0 l5_1.length 1 false)),(59,(.row none 2 (aA.map aM))),(60,(eI .i64 (aA.length : Int))),(61,(eI .i64 x61))]) [some ⟨54,[(eI .u32 aB),(.row none 35 (aD.map aS)),(.row none 2 (aA.map aM)),(eI .u32 aH)]⟩,some ⟨57,[(eI .i64 cA),(.row none 1 (bU.map (eI .u8)))]⟩,some ⟨24,(List.replicate 32 0).map (eI .u8)⟩,some ⟨5,l3.map (eI .u8)⟩,some ⟨5,l4.map (eI .u8)⟩,some ⟨5,l5_1.map (eI .u8)⟩]) (n := N) ⟨0,[],hL5,(zW 5 [0,1,2,3,4,5])⟩ (by rintro s h ⟨_,_,h0,_⟩; simp [fV] at h0) ?_
      rintro m5 s h ⟨x61,l5_1,hr5,hg⟩
      refine AB.ghost hg ?_
      clear hg hL5
      rw [fV] at hr5
      refine zz ?_
      refine AB.seq ?_
      refine zk hr5 rfl (fun h22 hr5 => ?_) (fun h22 hr5 => ?_)
      ·refine zz ?_
       refine AB.seq <| AB.block ?_
       obtain ⟨x63,h_23,hr5⟩ := aC hr5
       obtain ⟨x67,h_24,hr5⟩ := aC hr5
       obtain ⟨x68,h_25,hr5⟩ := aC hr5
       refine zz ?_
       refine zc (aCm h_24) [] ?_
       refine zz ?_
       exact ⟨IntKind.i64.wrap (x61 + 1),x68,hr5,(zG [0,1,2,3,4,8])⟩
      ·refine zz ?_
       obtain rfl := sj hr5
       refine zz ?_
       exact hG4 _ _ _ _ (zG [0,1,2,3,4,5]) (J4 l5_1 hr)
     obtain ⟨res6,hL6,hr⟩ := aC hr
     refine zz ?_
     refine AB.block <| AB.loopN (fun m s h => ∃ (x43 : Int) (eK : List Int) (j8 : List Int),jJ N aB aD aA aH vi cA bU m x43 eK j8 = some res6 ∧ Ghost 0 s h (aK 90 [(1,(eI .i64 vi)),(3,(.ptr 0 0)),(5,(.ptr 1 0)),(6,(.ptr 2 0)),(8,(.sl 3 0 eK.length 1 false)),(9,(.sl 4 0 j8.length 1 false)),(10,(.row (some true) 1 [])),(41,(.row none 35 (aD.map aS))),(42,(eI .i64 (aD.length : Int))),(43,(eI .i64 x43))]) [some ⟨54,[(eI .u32 aB),(.row none 35 (aD.map aS)),(.row none 2 (aA.map aM)),(eI .u32 aH)]⟩,some ⟨57,[(eI .i64 cA),(.row none 1 (bU.map (eI .u8)))]⟩,some ⟨24,(List.replicate 32 0).map (eI .u8)⟩,some ⟨5,eK.map (eI .u8)⟩,some ⟨5,j8.map (eI .u8)⟩]) (n := N) ⟨0,[],[],hL6,(Ghost.trans (Ghost.virt (fr' := [(1,(eI .i64 vi)),(3,(.ptr 0 0)),(5,(.ptr 1 0)),(6,(.ptr 2 0)),(8,(.sl 3 0 0 1 false)),(9,(.row (some true) 1 [])),(10,(.row (some true) 1 [])),(41,(.row none 35 (aD.map aS))),(42,(eI .i64 (aD.length : Int))),(43,(eI .i64 0))]) (h1 := [some ⟨54,[(eI .u32 aB),(.row none 35 (aD.map aS)),(.row none 2 (aA.map aM)),(eI .u32 aH)]⟩,some ⟨57,[(eI .i64 cA),(.row none 1 (bU.map (eI .u8)))]⟩,some ⟨24,(List.replicate 32 0).map (eI .u8)⟩]) 5 (FLe.same rfl (FLe.same rfl (FLe.same rfl (FLe.same rfl (FLe.le rfl (V.le_virt rfl) (FLe.same rfl (FLe.same rfl (FLe.same rfl (FLe.same rfl (FLe.same rfl FLe.nil)))))))))) (HLv.live (V.les_refl _ _) rfl (HLv.live (V.les_refl _ _) rfl (HLv.live (V.les_refl _ _) (all_map (fun _ => rfl) _) HLv.nil)))) (zW 5 [0,1,2,3,4]))⟩ (by rintro s h ⟨_,_,_,h0,_⟩; simp [jJ] at h0) ?_
     rintro m6 s h ⟨x43,eK,j8,hr6,hg⟩
     refine AB.ghost hg ?_
     clear hg hL6
     rw [jJ] at hr6
     refine zz ?_
     refine AB.seq ?_
     refine zk hr6 rfl (fun h26 hr6 => ?_) (fun h26 hr6 => ?_)
     ·refine zz ?_
      refine AB.seq <| AB.block ?_
      obtain ⟨x45,h_27,hr6⟩ := aC hr6
      refine zz ?_
      refine xw (v := (.ptr 5 0)) (h' := [some ⟨54,[(eI .u32 aB),(.row none 35 (aD.map aS)),(.row none 2 (aA.map aM)),(eI .u32 aH)]⟩,some ⟨57,[(eI .i64 cA),(.row none 1 (bU.map (eI .u8)))]⟩,some ⟨24,(List.replicate 32 0).map (eI .u8)⟩,some ⟨5,eK.map (eI .u8)⟩,some ⟨5,j8.map (eI .u8)⟩,some ⟨90,(bG (eI .u8) (List.replicate 32 0) [(eI .u32 0),(eI .u32 0),(.row (some true) 1 [])])⟩]) (cD sH rfl rfl rfl) ?_
      obtain ⟨x50,h_28,hr6⟩ := aC hr6
      obtain ⟨x51,h_29,hr6⟩ := aC hr6
      refine zz ?_
      refine zc (aFh h_28) [] ?_
      obtain ⟨x55,h_30,hr6⟩ := aC hr6
      obtain ⟨x56,h_31,hr6⟩ := aC hr6
      refine zz ?_
      refine zc (tU h_30) [] ?_
      refine zz ?_
      exact ⟨IntKind.i64.wrap (x43 + 1),x51,x56,hr6,(zG [0,1,2,7,9])⟩
     ·refine zz ?_
      obtain rfl := sj hr6
      refine zz ?_
      exact hG3 _ _ _ _ (zG [0,1,2,3,4]) (J3 eK j8 hr)
   rcases Bool.eq_false_or_eq_true (decide (vi < 0)) with h32 | h32
   ·replace hr := eO hr h32
    refine xr ?_
    refine zz ?_
    exact hG2 _ _ _ _ (zG [0,1,2]) (J2 true hr)
   ·replace hr := eP hr h32
    refine xr ?_
    refine zz ?_
    exact hG2 _ _ _ _ (zG [0,1,2]) (J2 (decide ((aD.length : Int) ≤ vi)) hr)
 obtain ⟨x16,h_33,hr⟩ := aC hr
 rcases Bool.eq_false_or_eq_true (!x16) with h34 | h34
 ·replace hr := eO hr h34
  refine xr ?_
  refine zz ?_
  refine xp (aA7 h_33) ?_
  refine zz ?_
  refine xX rfl <| xX rfl <| xX rfl <| xX rfl ?_
  refine zz ?_
  exact hG1 _ _ _ _ (zG [0,1,2]) (J1 true hr)
 ·replace hr := eP hr h34
  rcases Bool.eq_false_or_eq_true (decide (cA < 0)) with h35 | h35
  ·replace hr := eO hr h35
   refine xr ?_
   refine zz ?_
   refine xp (aA7 h_33) ?_
   refine zz ?_
   exact hG1 _ _ _ _ (zG [0,1,2]) (J1 true hr)
  ·replace hr := eP hr h35
   refine xr ?_
   refine zz ?_
   refine xp (aA7 h_33) ?_
   refine zz ?_
   exact hG1 _ _ _ _ (zG [0,1,2]) (J1 (decide (520 < (bU.length : Int))) hr)
theorem aFX {N : Nat} {bE : List Int} {aB : Int} {aD : List aF} {aA : List aE} {aH : Int} {r : Int × (List aF) × (List aE) × Int × (List aT)} (hr : uL N bE aB aD aA aH = some r) :
  Vm.Fn Tryz.prog 18 [] [(.row none 1 (bE.map (eI .u8))),(.agg [(eI .u32 aB),(.row none 35 (aD.map aS)),(.row none 2 (aA.map aM)),(eI .u32 aH)])] (.tup [(.agg [(eI .u32 r.1),(.sl 0 0 r.2.1.length 35 true),(.row none 2 (r.2.2.1.map aM)),(eI .u32 r.2.2.2.1)]),(.sl 1 0 r.2.2.2.2.length 37 true)]) [some ⟨90,r.2.1.flatMap aV⟩,some ⟨68,r.2.2.2.2.flatMap bB⟩] := by
 refine zf Tryz.func18 Tryz.ntmps18 ?_
 unfold uL at hr
 refine zz ?_
 refine AB.seq_g fun K1 hK1 hG1 => ?_
 have J1 : ∀ (l2 : List aT) (l3 : List aF),tW N bE aB aA aH l2 l3 = some r → K1 (aK 115 [(0,(.row none 1 (bE.map (eI .u8)))),(3,(.ptr 0 0)),(4,(.ptr 1 0)),(6,(.sl 2 0 l2.length 37 true))]) [some ⟨54,[(eI .u32 aB),(.sl 3 0 l3.length 35 true),(.row none 2 (aA.map aM)),(eI .u32 aH)]⟩,some ⟨54,[(eI .u32 0),(.row (some true) 1 []),(.row (some true) 1 []),(eI .u32 0)]⟩,some ⟨68,l2.flatMap bB⟩,some ⟨90,l3.flatMap aV⟩] := by
  intro l2 l3 hr
  unfold tW at hr
  refine hK1 _ _ ?_
  refine AB.seq_g fun K2 hK2 hG2 => ?_
  have J2 : ∀ (eK : List aF),t5 N aB aA aH l2 eK = some r → K2 (aK 115 [(3,(.ptr 0 0)),(4,(.ptr 1 0)),(6,(.sl 2 0 l2.length 37 true))]) [some ⟨54,[(eI .u32 aB),(.sl 3 0 eK.length 35 true),(.row none 2 (aA.map aM)),(eI .u32 aH)]⟩,some ⟨54,[(eI .u32 0),(.row (some true) 1 []),(.row (some true) 1 []),(eI .u32 0)]⟩,some ⟨68,l2.flatMap bB⟩,some ⟨90,eK.flatMap aV⟩] := by
   intro eK hr
   unfold t5 at hr
   refine hK2 _ _ ?_
   refine zz ?_
   obtain rfl := sj hr
   exact wM Tryz.results18 bM bM (zG [3,2])
  obtain ⟨tL,hL3,hr⟩ := aC hr
  refine zz ?_
  refine AB.block <| AB.loopN (fun m s h => ∃ (x77 : Int) (cJ : List aF),i3 N bE aB aA aH l2 l3 m x77 cJ = some tL ∧ Ghost 0 s h (aK 115 [(0,(.row none 1 (bE.map (eI .u8)))),(3,(.ptr 0 0)),(4,(.ptr 1 0)),(6,(.sl 2 0 l2.length 37 true)),(76,(eI .i64 (l3.length : Int))),(77,(eI .i64 x77))]) [some ⟨54,[(eI .u32 aB),(.sl 3 0 cJ.length 35 true),(.row none 2 (aA.map aM)),(eI .u32 aH)]⟩,some ⟨54,[(eI .u32 0),(.row (some true) 1 []),(.row (some true) 1 []),(eI .u32 0)]⟩,some ⟨68,l2.flatMap bB⟩,some ⟨90,cJ.flatMap aV⟩]) (n := N) ⟨0,l3,hL3,(zG [0,1,2,3])⟩ (by rintro s h ⟨_,_,h0,_⟩; simp [i3] at h0) ?_
  rintro m3 s h ⟨x77,cJ,hr3,hg⟩
  refine AB.ghost hg ?_
  clear hg hL3
  rw [i3] at hr3
  refine zz ?_
  refine AB.seq ?_
  refine zk hr3 rfl (fun h1 hr3 => ?_) (fun h1 hr3 => ?_)
  ·refine zz ?_
   refine AB.seq <| AB.block ?_
   obtain ⟨x82,h_2,hr3⟩ := aC hr3
   obtain ⟨x86,h_3,hr3⟩ := aC hr3
   obtain ⟨q,h_4,hr3⟩ := aC hr3
   refine zz ?_
   refine xw (v := (.agg ([0,0,0,0,0,1,0,0,0,0,0,0,0,0,0,0,0,0,0,0,0,0,0,0,0,0,0,0,0,0,0,IntKind.u8.wrap (x82 + 1)].map (eI .u8)))) (bQ rfl (jO i0 gX rfl)) <| xp (i4 h_3) ?_
   refine zz ?_
   refine AB.seq ?_
   obtain ⟨x92,h_5,hr3⟩ := aC hr3
   obtain ⟨x95,h_6,hr3⟩ := aC hr3
   obtain ⟨q_1,h_8,hr3⟩ := aC hr3
   refine AB.rd (d7 []) (d7 [20]) mixed <| DrawG.pick (n := 13) (i := 0) (by decide +kernel) rfl (gS (v := (.agg [(eI .u32 aB),(.sl 3 0 cJ.length 35 true),(.row none 2 (aA.map aM)),(eI .u32 aH)])) (sv (bW rfl (ldP rfl (vI (ds := [(eI .u32 aB),(.sl 3 0 cJ.length 35 true),(.row none 2 (aA.map aM)),(eI .u32 aH)]) aBb rfl zl rfl))))) <| DrawG.pick (n := 12) (i := 1) (by decide +kernel) rfl (gS (v := (eI .i64 x77)) (sv (iR rfl))) <| DrawG.pick (n := 11) (i := 2) (by decide +kernel) rfl (gS (v := (.sl 2 0 l2.length 37 true)) (sv (iR rfl))) ?_
   refine DrawG.pick (n := 10) (i := 3) (by decide +kernel) rfl (gS (v := (eI .i64 x77)) (sv (iR rfl))) <| DrawG.pick (n := 9) (i := 4) (by decide +kernel) rfl (gS (v := (.ptr 2 (0 + Int.toNat x77 * 37))) (sv (aAn rfl rfl (aLU (K := 37) rfl aG8 tJ rfl h_5)))) <| DrawG.pick (n := 8) (i := 5) (by decide +kernel) rfl (gS (v := (.ptr 2 (0 + Int.toNat x77 * 37 + 33))) (sv (vT rfl (aE0 ..)))) <| DrawG.pick (n := 7) (i := 6) (by decide +kernel) rfl (gS (v := (.agg [(eI .i64 x92.Output.Value),(.row none 1 (x92.Output.Script.map (eI .u8)))])) (sv (bW rfl (aFz (C := bB) (K := 37) (off := 33) (fun _ => rfl) rfl h_5 zl (vI (ds := [(eI .i64 x92.Output.Value),(.row none 1 (x92.Output.Script.map (eI .u8)))]) aB7 rfl zl rfl))))) ?_
   refine DrawG.jn (m := 1) (L := lst [0,1,2,3,4,5,6,7,8,9,10,11,12] 14) (s1 := aK 115 [(0,(.row none 1 (bE.map (eI .u8)))),(3,(.ptr 0 0)),(4,(.ptr 1 0)),(6,(.sl 2 0 l2.length 37 true)),(12,(eI .i64 x77)),(13,(.ptr 3 0)),(14,(.ptr 4 0)),(76,(eI .i64 (l3.length : Int))),(77,(eI .i64 x77)),(97,(eI .i64 x95.2))]) (h1 := [some ⟨54,[(eI .u32 aB),(.sl 5 0 cJ.length 35 true),(.row none 2 (aA.map aM)),(eI .u32 aH)]⟩,some ⟨54,[(eI .u32 0),(.row (some true) 1 []),(.row (some true) 1 []),(eI .u32 0)]⟩,some ⟨68,l2.flatMap bB⟩,some ⟨31,x86.map (eI .u64)⟩,some ⟨24,x95.1.map (eI .u8)⟩,some ⟨90,cJ.flatMap aV⟩]) ?_ (fun J => ?_)
   ·refine DrawG.pick (n := 0) (i := 13) (by decide +kernel) rfl (gS (v := (eI .i64 x95.2)) (sv (q4 rfl))) <| DrawG.nil (by decide +kernel) ?_
    obtain ⟨aJ4,h_9,hr3⟩ := aC hr3
    refine zz ?_
    refine xp (aIA h_9) ?_
    refine zz ?_
    refine xw (v := (.ptr 6 0)) (h' := [some ⟨54,[(eI .u32 aB),(.sl 5 0 cJ.length 35 true),(.row none 2 (aA.map aM)),(eI .u32 aH)]⟩,some ⟨54,[(eI .u32 0),(.row (some true) 1 []),(.row (some true) 1 []),(eI .u32 0)]⟩,some ⟨68,l2.flatMap bB⟩,some ⟨31,x86.map (eI .u64)⟩,some ⟨24,x95.1.map (eI .u8)⟩,some ⟨90,cJ.flatMap aV⟩,some ⟨37,(eQ (eI .u64) (List.replicate 4 0) (eQ (eI .u64) (List.replicate 4 0) []))⟩]) (cD xH rfl rfl rfl) ?_
    obtain ⟨aEN,h_10,hr3⟩ := aC hr3
    obtain ⟨aCg,h_12,hr3⟩ := aC hr3
    refine zz ?_
    refine AB.rs mixed [9] [] [[0,1,2,3,4,5,6,7],[8]] ?_
    refine zz ?_
    refine xu (aGD h_10) ?_
    refine zz ?_
    refine ⟨_,_,(zv 7), ?_⟩
    refine xy (h' := [some ⟨54,[(eI .u32 aB),(.sl 5 0 cJ.length 35 true),(.row none 2 (aA.map aM)),(eI .u32 aH)]⟩,some ⟨54,[(eI .u32 0),(.row (some true) 1 []),(.row (some true) 1 []),(eI .u32 0)]⟩,some ⟨68,l2.flatMap bB⟩,some ⟨31,x86.map (eI .u64)⟩,some ⟨24,x95.1.map (eI .u8)⟩,some ⟨90,(cJ.set (Int.toNat x77) (aF.mk aCg.Prev aCg.Sequence [aEN])).flatMap aV⟩,some ⟨37,(eQ (eI .u64) aJ4.1 (eQ (eI .u64) aJ4.2.1 []))⟩,none]) (bN rfl rfl (aLK (C := aV) (K := 35) (off := 34) (fun _ => rfl) w8 rfl h_12 rfl rfl zl rfl rfl)) ?_
    refine zz ?_
    exact ⟨IntKind.i64.wrap (x77 + 1),cJ.set (Int.toNat x77) (aF.mk aCg.Prev aCg.Sequence [aEN]),hr3,(qH [0,1,2,5])⟩
   ·refine DrawG.fork (n := 6) [7,11] (by decide +kernel) (by decide) ?_
    refine (Fork.cons rfl (gC (v := (.tup [(.agg (x95.1.map (eI .u8))),(eI .i64 x95.2)])) (h' := [some ⟨54,[(eI .u32 aB),(.sl 3 0 cJ.length 35 true),(.row none 2 (aA.map aM)),(eI .u32 aH)]⟩,some ⟨54,[(eI .u32 0),(.row (some true) 1 []),(.row (some true) 1 []),(eI .u32 0)]⟩,some ⟨68,l2.flatMap bB⟩,some ⟨90,cJ.flatMap aV⟩,some ⟨31,x86.map (eI .u64)⟩]) (Vm.Fn.lendR (jK h_6) [] [3] (by decide) rfl (by decide) Lend.nil (Brw.row (rI (bS rfl (bS (mT (d := 3) (C := aV) (fun _ => rfl) zl rfl rfl (fun _ => rfl)) (bS rfl (bS rfl rL))))) (Brw.same rfl (Brw.same rfl Brw.nil))) zF rfB.nil zR zH) rfl (fun _ => ⟨[],by simp⟩) (sv (d6 rfl fH))) ?_ (Fork.cons rfl (gS (v := (.ptr 5 0)) (h' := [some ⟨54,[(eI .u32 aB),(.sl 3 0 cJ.length 35 true),(.row none 2 (aA.map aM)),(eI .u32 aH)]⟩,some ⟨54,[(eI .u32 0),(.row (some true) 1 []),(.row (some true) 1 []),(eI .u32 0)]⟩,some ⟨68,l2.flatMap bB⟩,some ⟨90,cJ.flatMap aV⟩,some ⟨31,x86.map (eI .u64)⟩,some ⟨24,(List.replicate 32 0).map (eI .u8)⟩]) (sv (cD i0 rfl rfl rfl))) ?_ Fork.nil))
    ·refine DrawG.pick (n := 5) (i := 8) (by decide +kernel) rfl (gS (v := (.tup [(.agg (x95.1.map (eI .u8))),(eI .i64 x95.2)])) (sv (iR rfl))) <| DrawG.pick (n := 4) (i := 9) (by decide +kernel) rfl (gS (v := (.agg (x95.1.map (eI .u8)))) (sv (o9 rfl rfl))) <| DrawG.pick (n := 3) (i := 10) (by decide +kernel) rfl (gS (v := (eI .i64 x95.2)) (sv (o9 rfl rfl))) <| DrawG.pick (n := 2) (i := 11) (by decide +kernel) rfl (gS (v := (.ptr 5 0)) (h' := [some ⟨54,[(eI .u32 aB),(.sl 3 0 cJ.length 35 true),(.row none 2 (aA.map aM)),(eI .u32 aH)]⟩,some ⟨54,[(eI .u32 0),(.row (some true) 1 []),(.row (some true) 1 []),(eI .u32 0)]⟩,some ⟨68,l2.flatMap bB⟩,some ⟨90,cJ.flatMap aV⟩,some ⟨31,x86.map (eI .u64)⟩,some ⟨24,(List.replicate 32 0).map (eI .u8)⟩]) (sv (cD i0 rfl rfl rfl))) ?_
     refine DrawG.pick (n := 1) (i := 12) (by decide +kernel) rfl (gN (h' := [some ⟨54,[(eI .u32 aB),(.sl 3 0 cJ.length 35 true),(.row none 2 (aA.map aM)),(eI .u32 aH)]⟩,some ⟨54,[(eI .u32 0),(.row (some true) 1 []),(.row (some true) 1 []),(eI .u32 0)]⟩,some ⟨68,l2.flatMap bB⟩,some ⟨90,cJ.flatMap aV⟩,some ⟨31,x86.map (eI .u64)⟩,some ⟨24,x95.1.map (eI .u8)⟩]) (sv (bN rfl rfl (q5 (E := (eI .u8)) (l := List.replicate 32 0) i0 rfl rfl (fun _ => rfl) rfl (aZ h_8) rfl)))) ?_
     exact DrawG.jg (by decide +kernel) (by decide +kernel) (zG [0,1,2,4,5,3]) J
    ·refine DrawG.pick (n := 5) (i := 7) (by decide +kernel) rfl (gC (v := (.tup [(.agg (x95.1.map (eI .u8))),(eI .i64 x95.2)])) (h' := [some ⟨54,[(eI .u32 aB),(.sl 3 0 cJ.length 35 true),(.row none 2 (aA.map aM)),(eI .u32 aH)]⟩,some ⟨54,[(eI .u32 0),(.row (some true) 1 []),(.row (some true) 1 []),(eI .u32 0)]⟩,some ⟨68,l2.flatMap bB⟩,some ⟨90,cJ.flatMap aV⟩,some ⟨31,x86.map (eI .u64)⟩,some ⟨24,(List.replicate 32 0).map (eI .u8)⟩]) (Vm.Fn.lendR (jK h_6) [] [3] (by decide) rfl (by decide) Lend.nil (Brw.row (rI (bS rfl (bS (mT (d := 3) (C := aV) (fun _ => rfl) zl rfl rfl (fun _ => rfl)) (bS rfl (bS rfl rL))))) (Brw.same rfl (Brw.same rfl Brw.nil))) zF rfB.nil zR zH) rfl (fun _ => ⟨[],by simp⟩) (sv (d6 rfl fH))) ?_
     refine DrawG.pick (n := 4) (i := 8) (by decide +kernel) rfl (gS (v := (.tup [(.agg (x95.1.map (eI .u8))),(eI .i64 x95.2)])) (sv (iR rfl))) <| DrawG.pick (n := 3) (i := 9) (by decide +kernel) rfl (gS (v := (.agg (x95.1.map (eI .u8)))) (sv (o9 rfl rfl))) <| DrawG.pick (n := 2) (i := 10) (by decide +kernel) rfl (gS (v := (eI .i64 x95.2)) (sv (o9 rfl rfl))) <| DrawG.pick (n := 1) (i := 12) (by decide +kernel) rfl (gN (h' := [some ⟨54,[(eI .u32 aB),(.sl 3 0 cJ.length 35 true),(.row none 2 (aA.map aM)),(eI .u32 aH)]⟩,some ⟨54,[(eI .u32 0),(.row (some true) 1 []),(.row (some true) 1 []),(eI .u32 0)]⟩,some ⟨68,l2.flatMap bB⟩,some ⟨90,cJ.flatMap aV⟩,some ⟨31,x86.map (eI .u64)⟩,some ⟨24,x95.1.map (eI .u8)⟩]) (sv (bN rfl rfl (q5 (E := (eI .u8)) (l := List.replicate 32 0) i0 rfl rfl (fun _ => rfl) rfl (aZ h_8) rfl)))) ?_
     exact DrawG.jg (by decide +kernel) (by decide +kernel) (zG [0,1,2,4,5,3]) J
  ·refine zz ?_
   obtain rfl := sj hr3
   refine zz ?_
   exact hG2 _ _ _ _ (zG [0,1,2,3]) (J2 cJ hr)
 obtain ⟨res4,hL4,hr⟩ := aC hr
 refine zz ?_
 refine AB.block <| AB.loopN (fun m s h => ∃ (vi : Int) (dE : List aT) (lJ : List aF),fQ N bE aB aA aH m vi dE lJ = some res4 ∧ Ghost 0 s h (aK 115 [(0,(.row none 1 (bE.map (eI .u8)))),(3,(.ptr 0 0)),(4,(.ptr 1 0)),(6,(.sl 2 0 dE.length 37 true)),(7,(eI .i64 vi))]) [some ⟨54,[(eI .u32 aB),(.sl 3 0 lJ.length 35 true),(.row none 2 (aA.map aM)),(eI .u32 aH)]⟩,some ⟨54,[(eI .u32 0),(.row (some true) 1 []),(.row (some true) 1 []),(eI .u32 0)]⟩,some ⟨68,dE.flatMap bB⟩,some ⟨90,lJ.flatMap aV⟩]) (n := N) ⟨0,[],[],hL4,(Ghost.trans (Ghost.virt (fr' := [(0,(.row none 1 (bE.map (eI .u8)))),(3,(.ptr 0 0)),(4,(.ptr 1 0)),(6,(.sl 2 0 0 37 true)),(7,(eI .i64 0))]) (h1 := [some ⟨54,[(eI .u32 aB),(.row (some true) 1 []),(.row none 2 (aA.map aM)),(eI .u32 aH)]⟩,some ⟨54,[(eI .u32 0),(.row (some true) 1 []),(.row (some true) 1 []),(eI .u32 0)]⟩]) 68 (FLe.same rfl (FLe.same rfl (FLe.same rfl (FLe.le rfl (V.le_virt rfl) (FLe.same rfl FLe.nil))))) (HLv.live (V.les_refl _ _) rfl (HLv.live (V.les_refl _ _) rfl HLv.nil))) (Ghost.trans (Ghost.virt (fr' := [(0,(.row none 1 (bE.map (eI .u8)))),(3,(.ptr 0 0)),(4,(.ptr 1 0)),(6,(.sl 2 0 0 37 true)),(7,(eI .i64 0))]) (h1 := [some ⟨54,[(eI .u32 aB),(.sl 3 0 0 35 true),(.row none 2 (aA.map aM)),(eI .u32 aH)]⟩,some ⟨54,[(eI .u32 0),(.row (some true) 1 []),(.row (some true) 1 []),(eI .u32 0)]⟩,some ⟨68,[].flatMap bB⟩]) 90 (FLe.same rfl (FLe.same rfl (FLe.same rfl (FLe.same rfl (FLe.same rfl FLe.nil))))) (HLv.live (V.les_cons (V.le_refl _ _) (V.les_cons (V.le_virt rfl) (V.les_cons (V.le_refl _ _) (V.les_cons (V.le_refl _ _) V.les_nil)))) rfl (HLv.live (V.les_refl _ _) rfl (HLv.live (V.les_refl _ _) (o5 (fun _ => rfl) _) HLv.nil)))) (qH [0,1,2,3])))⟩ (by rintro s h ⟨_,_,_,h0,_⟩; simp [fQ] at h0) ?_
 rintro m4 s h ⟨vi,dE,lJ,hr4,hg⟩
 refine AB.ghost hg ?_
 clear hg hL4
 rw [fQ] at hr4
 refine AB.seq ?_
 refine AB.seq_g fun K5 hK5 hG5 => ?_
 have J5 : ∀ (x26 : Bool),qB N bE aB aA aH vi dE lJ (fQ N bE aB aA aH m4) x26 = some res4 → K5 (aK 115 [(0,(.row none 1 (bE.map (eI .u8)))),(3,(.ptr 0 0)),(4,(.ptr 1 0)),(6,(.sl 2 0 dE.length 37 true)),(7,(eI .i64 vi)),(26,(eB x26))]) [some ⟨54,[(eI .u32 aB),(.sl 3 0 lJ.length 35 true),(.row none 2 (aA.map aM)),(eI .u32 aH)]⟩,some ⟨54,[(eI .u32 0),(.row (some true) 1 []),(.row (some true) 1 []),(eI .u32 0)]⟩,some ⟨68,dE.flatMap bB⟩,some ⟨90,lJ.flatMap aV⟩] := by
  intro x26 hr4
  unfold qB at hr4
  refine hK5 _ _ ?_
  refine zk hr4 rfl (fun h13 hr4 => ?_) (fun h13 hr4 => ?_)
  ·refine zz ?_
   refine AB.seq <| AB.block ?_
   obtain ⟨cM,h_14,hr4⟩ := aC hr4
   obtain ⟨x35,h_15,hr4⟩ := aC hr4
   obtain ⟨q_2,h_16,hr4⟩ := aC hr4
   refine zz ?_
   refine xw (v := (.agg ([0,0,0,0,0,1,0,0,0,0,0,0,0,0,0,0,0,0,0,0,0,0,0,0,0,0,0,0,0,0,0,IntKind.u8.wrap (cM + 1)].map (eI .u8)))) (bQ rfl (jO i0 gX rfl)) <| xp (i4 h_15) ?_
   obtain ⟨x38,h_17,hr4⟩ := aC hr4
   obtain ⟨q_3,h_18,hr4⟩ := aC hr4
   refine zz ?_
   refine xp (yJ h_17) ?_
   refine zz ?_
   refine AB.seq <| AB.rs mixed [] [] [[0,1,2,3,4,5,6,7,8,9,10,11,12,13,14]] ?_
   refine zz ?_
   refine xw (v := (.agg ([IntKind.u8.wrap vi,cM,0,0,0,0,0,0,0,0,0,0,0,0,0,0,0,0,0,0,0,0,0,0,0,0,0,0,0,0,0,0].map (eI .u8)))) (bQ rfl (jO i0 gX rfl)) ?_
   refine zz ?_
   refine xw (v := (.agg (bG (eI .u8) [IntKind.u8.wrap vi,cM,0,0,0,0,0,0,0,0,0,0,0,0,0,0,0,0,0,0,0,0,0,0,0,0,0,0,0,0,0,0] [(eI .u32 (IntKind.u32.wrap cM))]))) (bQ rfl (aLC (ps' := [(0,(.agg (bG (eI .u8) [IntKind.u8.wrap vi,cM,0,0,0,0,0,0,0,0,0,0,0,0,0,0,0,0,0,0,0,0,0,0,0,0,0,0,0,0,0,0] []))),(1,(eI .u32 (IntKind.u32.wrap cM)))]) (by simp only [sK (l := [IntKind.u8.wrap vi,cM,0,0,0,0,0,0,0,0,0,0,0,0,0,0,0,0,0,0,0,0,0,0,0,0,0,0,0,0,0,0]) rfl]) (qL pD aFF rfl))) <| xw (v := (.ptr 6 0)) (h' := [some ⟨54,[(eI .u32 aB),(.sl 3 0 lJ.length 35 true),(.row none 2 (aA.map aM)),(eI .u32 aH)]⟩,some ⟨54,[(eI .u32 0),(.row (some true) 1 []),(.row (some true) 1 []),(eI .u32 0)]⟩,some ⟨68,dE.flatMap bB⟩,some ⟨90,lJ.flatMap aV⟩,some ⟨31,x35.map (eI .u64)⟩,some ⟨31,x38.1.map (eI .u64)⟩,some ⟨66,(bG (eI .u8) (List.replicate 32 0) [(eI .u32 0)])⟩]) (cD pD rfl rfl rfl) ?_
   refine zz ?_
   refine AB.seq ?_
   obtain ⟨x57,h_19,hr4⟩ := aC hr4
   obtain ⟨x61,h_21,hr4⟩ := aC hr4
   refine AB.rs mixed [41] [] [[0,1,2,3,4,5,6,7,8]] ?_
   refine zz ?_
   refine xu (aGj h_19) ?_
   refine zz ?_
   refine xw (v := (.agg (bG (eI .u8) [IntKind.u8.wrap vi,cM,0,0,0,0,0,0,0,0,0,0,0,0,0,0,0,0,0,0,0,0,0,0,0,0,0,0,0,0,0,0] [(eI .u32 (IntKind.u32.wrap cM)),(eI .i64 525000000000000),(.row none 1 (x57.map (eI .u8))),(eI .i64 1),(eB false)]))) (bQ rfl (qL tJ aLd rfl)) <| xw (v := (.sl 7 0 1 37 true)) (h' := [some ⟨54,[(eI .u32 aB),(.sl 3 0 lJ.length 35 true),(.row none 2 (aA.map aM)),(eI .u32 aH)]⟩,some ⟨54,[(eI .u32 0),(.row (some true) 1 []),(.row (some true) 1 []),(eI .u32 0)]⟩,some ⟨68,dE.flatMap bB⟩,some ⟨90,lJ.flatMap aV⟩,some ⟨31,x35.map (eI .u64)⟩,some ⟨31,x38.1.map (eI .u64)⟩,some ⟨66,(bG (eI .u8) [IntKind.u8.wrap vi,cM,0,0,0,0,0,0,0,0,0,0,0,0,0,0,0,0,0,0,0,0,0,0,0,0,0,0,0,0,0,0] [(eI .u32 (IntKind.u32.wrap cM))])⟩,some ⟨68,[(aT.mk (aQ.mk [IntKind.u8.wrap vi,cM,0,0,0,0,0,0,0,0,0,0,0,0,0,0,0,0,0,0,0,0,0,0,0,0,0,0,0,0,0,0] (IntKind.u32.wrap cM)) (aE.mk 525000000000000 x57) 1 false)].flatMap bB⟩]) (lF rfl (aBw (C := bB) (xs := [(aT.mk (aQ.mk [IntKind.u8.wrap vi,cM,0,0,0,0,0,0,0,0,0,0,0,0,0,0,0,0,0,0,0,0,0,0,0,0,0,0,0,0,0,0] (IntKind.u32.wrap cM)) (aE.mk 525000000000000 x57) 1 false)]) (K := 37) (fun _ => rfl) (fun _ => rfl) aG8 tJ ⟨zl,zl,zl⟩ rfl rfl rfl rfl rfl rfl)) ?_
   obtain ⟨x72,h_22,hr4⟩ := aC hr4
   refine zz ?_
   refine AB.rs mixed [] [] [[0,1,2,3,4,5,6,7,8,9,10,11,12]] ?_
   refine zz ?_
   refine xw (v := (.agg (bG (eI .u8) [IntKind.u8.wrap vi,cM,0,0,0,0,0,0,0,0,0,0,0,0,0,0,0,0,0,0,0,0,0,0,0,0,0,0,0,0,0,0] [(eI .u32 (IntKind.u32.wrap cM)),(eI .u32 (IntKind.u32.wrap cM)),(.row (some true) 1 [])]))) (bQ rfl (qL sH aLq rfl)) <| xw (v := (.sl 9 0 1 35 true)) (h' := [some ⟨54,[(eI .u32 aB),(.sl 3 0 lJ.length 35 true),(.row none 2 (aA.map aM)),(eI .u32 aH)]⟩,some ⟨54,[(eI .u32 0),(.row (some true) 1 []),(.row (some true) 1 []),(eI .u32 0)]⟩,none,some ⟨90,lJ.flatMap aV⟩,some ⟨31,x35.map (eI .u64)⟩,some ⟨31,x38.1.map (eI .u64)⟩,some ⟨66,(bG (eI .u8) [IntKind.u8.wrap vi,cM,0,0,0,0,0,0,0,0,0,0,0,0,0,0,0,0,0,0,0,0,0,0,0,0,0,0,0,0,0,0] [(eI .u32 (IntKind.u32.wrap cM))])⟩,some ⟨68,[(aT.mk (aQ.mk [IntKind.u8.wrap vi,cM,0,0,0,0,0,0,0,0,0,0,0,0,0,0,0,0,0,0,0,0,0,0,0,0,0,0,0,0,0,0] (IntKind.u32.wrap cM)) (aE.mk 525000000000000 x57) 1 false)].flatMap bB⟩,some ⟨68,x61.flatMap bB⟩,some ⟨90,[(aF.mk (aQ.mk [IntKind.u8.wrap vi,cM,0,0,0,0,0,0,0,0,0,0,0,0,0,0,0,0,0,0,0,0,0,0,0,0,0,0,0,0,0,0] (IntKind.u32.wrap cM)) (IntKind.u32.wrap cM) [])].flatMap aV⟩]) (lF rfl (aBw (C := aV) (xs := [(aF.mk (aQ.mk [IntKind.u8.wrap vi,cM,0,0,0,0,0,0,0,0,0,0,0,0,0,0,0,0,0,0,0,0,0,0,0,0,0,0,0,0,0,0] (IntKind.u32.wrap cM)) (IntKind.u32.wrap cM) [])]) (K := 35) (fun _ => rfl) (fun _ => rfl) aJH sH ⟨zl,zl,zl⟩ rfl rfl rfl rfl rfl rfl)) ?_
   refine zz ?_
   exact ⟨IntKind.i64.wrap (vi + 1),x61,x72,hr4,(zG [0,1,8,10])⟩
  ·refine zz ?_
   obtain rfl := sj hr4
   refine zz ?_
   exact hG1 _ _ _ _ (zG [0,1,2,3]) (J1 dE lJ hr)
 rcases Bool.eq_false_or_eq_true (decide (vi < (bE.length : Int))) with h23 | h23
 ·replace hr4 := eO hr4 h23
  refine xr ?_
  refine zz ?_
  exact hG5 _ _ _ _ (zG [0,1,2,3]) (J5 (decide (vi < 2)) hr4)
 ·replace hr4 := eP hr4 h23
  refine xr ?_
  refine zz ?_
  exact hG5 _ _ _ _ (zG [0,1,2,3]) (J5 false hr4)
theorem aKL {N : Nat} {aB : Int} {aD : List aF} {aA : List aE} {aH : Int} {dK : Int} {r : Bool} (hr : aCb N aB aD aA aH dK = some r) :
  Vm.Fn Tryz.prog 43 [] [(.agg [(eI .u32 aB),(.row none 35 (aD.map aS)),(.row none 2 (aA.map aM)),(eI .u32 aH)]),(eI .i64 dK)] (eB r) [] := by
 refine zf Tryz.func43 Tryz.ntmps43 ?_
 unfold aCb at hr
 refine zz ?_
 refine AB.seq ?_
 refine zz ?_
 refine zk hr rfl (fun h1 hr => ?_) (fun h1 hr => ?_)
 ·refine zz ?_
  obtain rfl := sj hr
  exact bL Tryz.results43 []
 ·refine zz ?_
  refine AB.seq_g fun K1 hK1 hG1 => ?_
  have J1 : aCK N = some r → K1 (aK 23 []) [] := by
   intro hr
   unfold aCK at hr
   refine hK1 _ _ ?_
   refine zz ?_
   obtain rfl := sj hr
   exact bL Tryz.results43 []
  obtain ⟨bO,hL2,hr⟩ := aC hr
  refine zz ?_
  refine AB.block <| AB.loopN (fun m s h => ∃ (x15 : Int),nT N aD m x15 = some bO ∧ Ghost 0 s h (aK 23 [(13,(.row none 35 (aD.map aS))),(14,(eI .i64 (aD.length : Int))),(15,(eI .i64 x15))]) []) (n := N) ⟨0,hL2,(zG [])⟩ (by rintro s h ⟨_,h0,_⟩; simp [nT] at h0) ?_
  rintro m2 s h ⟨x15,hr2,hg⟩
  refine AB.ghost hg ?_
  clear hg hL2
  rw [nT] at hr2
  refine zz ?_
  refine AB.seq ?_
  refine zk hr2 rfl (fun h2 hr2 => ?_) (fun h2 hr2 => ?_)
  ·refine zz ?_
   refine AB.seq <| AB.block ?_
   obtain ⟨x17,h_3,hr2⟩ := aC hr2
   refine zz ?_
   refine xw (v := (.ptr 0 0)) (h' := [some ⟨90,(bG (eI .u8) (List.replicate 32 0) [(eI .u32 0),(eI .u32 0),(.row (some true) 1 [])])⟩]) (cD sH rfl rfl rfl) ?_
   refine zz ?_
   refine zk hr2 rfl (fun h4 hr2 => ?_) (fun h4 hr2 => ?_)
   ·refine zz ?_
    obtain rfl := sj hr2
    obtain rfl := sj hr
    exact bL Tryz.results43 []
   ·refine zz ?_
    exact ⟨IntKind.i64.wrap (x15 + 1),hr2,(zG [])⟩
  ·refine zz ?_
   obtain rfl := sj hr2
   refine zz ?_
   exact hG1 _ _ _ _ (zG []) (J1 hr)
theorem aHd {N : Nat} {aB : Int} {aD : List aF} {aA : List aE} {aH : Int} {vi : Int} {nF : List Int} {iI : Int} {fM : Int} {d9 : List Int} {hH : Int} {mA : Bool} {dK : Int} {r : Int} (hr : wO N aB aD aA aH vi nF iI fM d9 hH mA dK = some r) :
  Vm.Fn Tryz.prog 44 [] [(.agg [(eI .u32 aB),(.row none 35 (aD.map aS)),(.row none 2 (aA.map aM)),(eI .u32 aH)]),(eI .i64 vi),(.agg (bG (eI .u8) nF [(eI .u32 iI),(eI .i64 fM),(.row none 1 (d9.map (eI .u8))),(eI .i64 hH),(eB mA)])),(eI .i64 dK)] (eI .i64 r) [] := by
 refine zf Tryz.func44 Tryz.ntmps44 ?_
 unfold wO at hr
 obtain ⟨x17,h_1,hr⟩ := aC hr
 obtain ⟨q,h_2,hr⟩ := aC hr
 refine zz ?_
 refine xp (jK h_1) ?_
 refine zz ?_
 refine AB.seq <| AB.block ?_
 refine zz ?_
 refine zk hr rfl (fun h3 hr => ?_) (fun h3 hr => ?_)
 ·refine zz ?_
  obtain rfl := sj hr
  exact bL Tryz.results44 []
 ·refine AB.seq ?_
  obtain ⟨x28,h_4,hr⟩ := aC hr
  refine AB.rs mixed [] [] [[0,1,2,3,4,5,6,7,8,9]] ?_
  refine zz ?_
  refine xw (v := (eB (!(o8 x28.Prev.Tx nF ((x28.Prev.Index == iI) && true))))) (xZ rfl rfl (aIV (d := 9) pD rfl aMa zl aOK rfl rfl rfl rfl rfl)) ?_
  refine zz ?_
  refine zk hr rfl (fun h5 hr => ?_) (fun h5 hr => ?_)
  ·refine zz ?_
   obtain rfl := sj hr
   exact bL Tryz.results44 []
  ·refine AB.seq_g fun K1 hK1 hG1 => ?_
   have J1 : ∀ (dH : Bool),nY N aB aD aA aH vi nF iI fM d9 hH mA dK x17 dH = some r → K1 (aK 66 [(1,(eI .i64 vi)),(3,(eI .i64 dK)),(4,(.ptr 0 0)),(6,(.ptr 1 0)),(9,(.ptr 2 0)),(34,(eB dH))]) [some ⟨54,[(eI .u32 aB),(.row none 35 (aD.map aS)),(.row none 2 (aA.map aM)),(eI .u32 aH)]⟩,some ⟨68,(bG (eI .u8) nF [(eI .u32 iI),(eI .i64 fM),(.row none 1 (d9.map (eI .u8))),(eI .i64 hH),(eB mA)])⟩,some ⟨24,x17.1.map (eI .u8)⟩] := by
    intro dH hr
    unfold nY at hr
    refine hK1 _ _ ?_
    refine zk hr rfl (fun h6 hr => ?_) (fun h6 hr => ?_)
    ·refine zz ?_
     obtain rfl := sj hr
     exact bL Tryz.results44 []
    ·refine zz ?_
     refine xw (v := (.agg (bG (eI .u8) x17.1 [(eI .i64 dK),(eI .i64 (IntKind.i64.wrap (dK - hH)))]))) (bQ rfl (aLC (ps' := [(0,(.agg (bG (eI .u8) x17.1 []))),(1,(eI .i64 dK)),(2,(eI .i64 (IntKind.i64.wrap (dK - hH))))]) (by simp only [sK (l := x17.1) (aZ h_2)]) (qL aA8 aQ9 rfl))) <| xw (v := (.ptr 3 0)) (h' := [some ⟨54,[(eI .u32 aB),(.row none 35 (aD.map aS)),(.row none 2 (aA.map aM)),(eI .u32 aH)]⟩,some ⟨68,(bG (eI .u8) nF [(eI .u32 iI),(eI .i64 fM),(.row none 1 (d9.map (eI .u8))),(eI .i64 hH),(eB mA)])⟩,some ⟨24,x17.1.map (eI .u8)⟩,some ⟨42,(bG (eI .u8) (List.replicate 32 0) [(eI .i64 0),(eI .i64 0)])⟩]) (cD aA8 rfl rfl rfl) ?_
     refine zz ?_
     refine AB.seq ?_
     obtain ⟨x61,h_7,hr⟩ := aC hr
     obtain ⟨x65,h_8,hr⟩ := aC hr
     refine AB.rs mixed [11] [] [[0,1,2,3,4,5,6,7,8,9,10,11]] ?_
     refine zz ?_
     refine xu (aDZ h_8) ?_
     refine zz ?_
     obtain rfl := sj hr
     exact bL Tryz.results44 []
   rcases Bool.eq_false_or_eq_true (decide (hH < 0)) with h10 | h10
   ·replace hr := eO hr h10
    refine xr ?_
    refine zz ?_
    refine xX rfl <| xX rfl ?_
    refine zz ?_
    exact hG1 _ _ _ _ (zG [0,1,2]) (J1 true hr)
   ·replace hr := eP hr h10
    rcases Bool.eq_false_or_eq_true (decide (dK < hH)) with h11 | h11
    ·replace hr := eO hr h11
     refine xr ?_
     refine zz ?_
     exact hG1 _ _ _ _ (zG [0,1,2]) (J1 true hr)
    ·replace hr := eP hr h11
     refine xr ?_
     refine zz ?_
     exact hG1 _ _ _ _ (zG [0,1,2]) (J1 (decide (16777216 < dK)) hr)
theorem aAh {N : Nat} {aB : Int} {aD : List aF} {aA : List aE} {aH : Int} {l : List aT} {dK : Int} {r : Int × Int} (hr : lW N aB aD aA aH l dK = some r) :
  Vm.Fn Tryz.prog 19 [] [(.agg [(eI .u32 aB),(.row none 35 (aD.map aS)),(.row none 2 (aA.map aM)),(eI .u32 aH)]),(.row none 37 (l.map nK)),(eI .i64 dK)] (.tup [(eI .i64 r.1),(eI .i64 r.2)]) [] := by
 refine zf Tryz.func19 Tryz.ntmps19 ?_
 unfold lW at hr
 refine zz ?_
 refine AB.seq ?_
 obtain ⟨bH,h_1,hr⟩ := aC hr
 refine zz ?_
 refine xp (aCM h_1) ?_
 refine zz ?_
 refine zk hr rfl (fun h2 hr => ?_) (fun h2 hr => ?_)
 ·refine zz ?_
  obtain rfl := sj hr
  exact zd2 Tryz.results19 []
 ·obtain ⟨x18,h_3,hr⟩ := aC hr
  refine zz ?_
  refine xp (aBJ h_3) ?_
  refine zz ?_
  refine AB.seq ?_
  refine zz ?_
  refine zk hr rfl (fun h4 hr => ?_) (fun h4 hr => ?_)
  ·refine zz ?_
   obtain rfl := sj hr
   exact zd2 Tryz.results19 []
  ·refine zz ?_
   refine AB.seq ?_
   obtain ⟨x26,h_5,hr⟩ := aC hr
   refine zz ?_
   refine xp (aKL h_5) ?_
   refine zz ?_
   refine zk hr rfl (fun h6 hr => ?_) (fun h6 hr => ?_)
   ·refine zz ?_
    obtain rfl := sj hr
    exact zd2 Tryz.results19 []
   ·refine zz ?_
    refine AB.seq_g fun K1 hK1 hG1 => ?_
    have J1 : aAe N x18 = some r → K1 (aK 45 [(8,(eI .i64 x18.1))]) [] := by
     intro hr
     unfold aAe at hr
     refine hK1 _ _ ?_
     refine zz ?_
     obtain rfl := sj hr
     exact zd2 Tryz.results19 []
    obtain ⟨bO,hL2,hr⟩ := aC hr
    refine zz ?_
    refine AB.block <| AB.loopN (fun m s h => ∃ (j4 : Int),lI N aB aD aA aH l dK x18 m j4 = some bO ∧ Ghost 0 s h (aK 45 [(2,(eI .i64 dK)),(3,(.ptr 0 0)),(8,(eI .i64 x18.1)),(28,(.row none 37 (l.map nK))),(29,(eI .i64 (l.length : Int))),(30,(eI .i64 j4))]) [some ⟨54,[(eI .u32 aB),(.row none 35 (aD.map aS)),(.row none 2 (aA.map aM)),(eI .u32 aH)]⟩]) (n := N) ⟨0,hL2,(zG [0])⟩ (by rintro s h ⟨_,h0,_⟩; simp [lI] at h0) ?_
    rintro m2 s h ⟨j4,hr2,hg⟩
    refine AB.ghost hg ?_
    clear hg hL2
    rw [lI] at hr2
    refine zz ?_
    refine AB.seq ?_
    refine zk hr2 rfl (fun h7 hr2 => ?_) (fun h7 hr2 => ?_)
    ·refine zz ?_
     refine AB.seq <| AB.block ?_
     obtain ⟨jU,h_8,hr2⟩ := aC hr2
     refine zz ?_
     refine xw (v := (.ptr 1 0)) (h' := [some ⟨54,[(eI .u32 aB),(.row none 35 (aD.map aS)),(.row none 2 (aA.map aM)),(eI .u32 aH)]⟩,some ⟨68,(bG (eI .u8) (List.replicate 32 0) [(eI .u32 0),(eI .i64 0),(.row (some true) 1 []),(eI .i64 0),(eB false)])⟩]) (cD tJ rfl rfl rfl) ?_
     obtain ⟨x39,h_9,hr2⟩ := aC hr2
     refine zz ?_
     refine xp (aHd h_9) ?_
     refine zz ?_
     refine zk hr2 rfl (fun h10 hr2 => ?_) (fun h10 hr2 => ?_)
     ·refine zz ?_
      obtain rfl := sj hr2
      obtain rfl := sj hr
      exact zd2 Tryz.results19 []
     ·refine zz ?_
      exact ⟨IntKind.i64.wrap (j4 + 1),hr2,(zG [0])⟩
    ·refine zz ?_
     obtain rfl := sj hr2
     refine zz ?_
     exact hG1 _ _ _ _ (zG []) (J1 hr)
theorem aC9 {N : Nat} {aJw : Int} {vm : List Int} {vn : List Int} {r : Bool} (hr : vW N aJw vm vn = some r) :
  Vm.Fn Tryz.prog 21 [] [(eI .u8 aJw),(.agg (vm.map (eI .u8))),(.agg (vn.map (eI .u8)))] (eB r) [] := by
 refine zf Tryz.func21 Tryz.ntmps21 ?_
 unfold vW at hr
 obtain ⟨bH,h_1,hr⟩ := aC hr
 obtain ⟨q,h_2,hr⟩ := aC hr
 refine zz ?_
 refine xw (v := (.agg ([0,0,0,0,0,1,0,0,0,0,0,0,0,0,0,0,0,0,0,0,0,0,0,0,0,0,0,0,0,0,0,IntKind.u8.wrap (aJw + 1)].map (eI .u8)))) (bQ rfl (jO i0 gX rfl)) <| xp (i4 h_1) ?_
 obtain ⟨x17,h_3,hr⟩ := aC hr
 obtain ⟨q_1,h_4,hr⟩ := aC hr
 refine zz ?_
 refine xp (yJ h_3) ?_
 obtain ⟨q_2,h_5,hr⟩ := aC hr
 obtain ⟨c5,h_6,hr⟩ := aC hr
 obtain ⟨eN,h_7,hr⟩ := aC hr
 obtain ⟨q_3,h_8,hr⟩ := aC hr
 refine zz ?_
 refine xp (aCR h_6) <| xp (aAg h_7) ?_
 refine zz ?_
 refine AB.seq ?_
 obtain ⟨x27,h_9,hr⟩ := aC hr
 obtain ⟨q_4,h_11,hr⟩ := aC hr
 obtain ⟨cM,h_12,hr⟩ := aC hr
 obtain ⟨q_5,h_14,hr⟩ := aC hr
 obtain ⟨q_6,h_15,hr⟩ := aC hr
 refine AB.rs mixed [30] [] [[0,1,2,3,4,5,6,7,8,9]] ?_
 refine zz ?_
 refine xu (uY h_9) ?_
 refine zz ?_
 refine xu (uY h_12) ?_
 refine zz ?_
 obtain rfl := sj hr
 exact bL Tryz.results21 []
theorem aDG {N : Nat} {bE : List Int} {aB : Int} {aD : List aF} {aA : List aE} {aH : Int} {vby : Int} {r : Bool} (hr : nI N bE aB aD aA aH vby = some r) :
  Vm.Fn Tryz.prog 4 [] [(.row none 1 (bE.map (eI .u8))),(.agg [(eI .u32 aB),(.row none 35 (aD.map aS)),(.row none 2 (aA.map aM)),(eI .u32 aH)]),(eI .u8 vby)] (eB r) [] := by
 refine zf Tryz.func4 Tryz.ntmps4 ?_
 unfold nI at hr
 refine zz ?_
 refine AB.seq ?_
 obtain ⟨dX,h_1,hr⟩ := aC hr
 refine zz ?_
 refine xp (aIC h_1) ?_
 refine zz ?_
 refine zk hr rfl (fun h2 hr => ?_) (fun h2 hr => ?_)
 ·refine zz ?_
  obtain rfl := sj hr
  exact bL Tryz.results4 []
 ·refine zz ?_
  refine AB.seq ?_
  refine AB.seq_g fun K1 hK1 hG1 => ?_
  have J1 : ∀ (x35 : Bool),fT N bE aB aD aA aH vby x35 = some r → K1 (aK 146 [(0,(.row none 1 (bE.map (eI .u8)))),(2,(eI .u8 vby)),(4,(.ptr 0 0)),(35,(eB x35))]) [some ⟨54,[(eI .u32 aB),(.row none 35 (aD.map aS)),(.row none 2 (aA.map aM)),(eI .u32 aH)]⟩] := by
   intro x35 hr
   unfold fT at hr
   refine hK1 _ _ ?_
   refine zk hr rfl (fun h3 hr => ?_) (fun h3 hr => ?_)
   ·refine zz ?_
    obtain rfl := sj hr
    exact bL Tryz.results4 []
   ·refine zz ?_
    refine AB.seq_g fun K2 hK2 hG2 => ?_
    have J2 : kE N bE aB aD aA aH vby = some r → K2 (aK 146 [(0,(.row none 1 (bE.map (eI .u8)))),(2,(eI .u8 vby)),(4,(.ptr 0 0))]) [some ⟨54,[(eI .u32 aB),(.row none 35 (aD.map aS)),(.row none 2 (aA.map aM)),(eI .u32 aH)]⟩] := by
     intro hr
     unfold kE at hr
     refine hK2 _ _ ?_
     obtain ⟨x73,h_4,hr⟩ := aC hr
     refine zz ?_
     refine zc (aFX h_4) [] ?_
     refine zz ?_
     refine AB.seq ?_
     refine zz ?_
     refine zk hr rfl (fun h5 hr => ?_) (fun h5 hr => ?_)
     ·obtain ⟨x83,h_6,hr⟩ := aC hr
      refine zz ?_
      refine xC (v := (.tup [(eI .i64 x83.1),(eI .i64 x83.2)])) (h' := [some ⟨54,[(eI .u32 aB),(.row none 35 (aD.map aS)),(.row none 2 (aA.map aM)),(eI .u32 0)]⟩,some ⟨90,x73.2.1.flatMap aV⟩,some ⟨68,x73.2.2.2.2.flatMap bB⟩,some ⟨54,[(eI .u32 x73.1),(.sl 1 0 x73.2.1.length 35 true),(.row none 2 (x73.2.2.1.map aM)),(eI .u32 x73.2.2.2.1)]⟩]) rfl (Vm.Fn.lendR (aAh h_6) [] [1,2] (by decide) rfl (by decide) Lend.nil (Brw.row (rI (bS rfl (bS (mT (d := 3) (C := aV) (fun _ => rfl) zl rfl rfl (fun _ => rfl)) (bS rfl (bS rfl rL))))) (Brw.row (xA (C := bB) (fun _ => rfl) zl rfl rfl (fun _ => rfl)) (Brw.same rfl Brw.nil))) rfl rfB.nil rfl zH) ?_
      refine zz ?_
      obtain rfl := sj hr
      exact bL Tryz.results4 []
     ·obtain ⟨x91,h_7,hr⟩ := aC hr
      refine zz ?_
      refine xC (v := (.tup [(eI .i64 x91.1),(eI .i64 x91.2)])) (h' := [some ⟨54,[(eI .u32 aB),(.row none 35 (aD.map aS)),(.row none 2 (aA.map aM)),(eI .u32 0)]⟩,some ⟨90,x73.2.1.flatMap aV⟩,some ⟨68,x73.2.2.2.2.flatMap bB⟩,some ⟨54,[(eI .u32 x73.1),(.sl 1 0 x73.2.1.length 35 true),(.row none 2 (x73.2.2.1.map aM)),(eI .u32 x73.2.2.2.1)]⟩]) rfl (Vm.Fn.lendR (aAh h_7) [] [1,2] (by decide) rfl (by decide) Lend.nil (Brw.row (rI (bS rfl (bS (mT (d := 3) (C := aV) (fun _ => rfl) zl rfl rfl (fun _ => rfl)) (bS rfl (bS rfl rL))))) (Brw.row (xA (C := bB) (fun _ => rfl) zl rfl rfl (fun _ => rfl)) (Brw.same rfl Brw.nil))) rfl rfB.nil rfl zH) ?_
      refine zz ?_
      refine AB.seq ?_
      refine AB.seq_g fun K3 hK3 hG3 => ?_
      have J3 : ∀ (x99 : Bool),kZ N bE vby x73 x99 = some r → K3 (aK 146 [(0,(.row none 1 (bE.map (eI .u8)))),(2,(eI .u8 vby)),(8,(.ptr 0 0)),(9,(.sl 1 0 x73.2.2.2.2.length 37 true)),(99,(eB x99))]) [some ⟨54,[(eI .u32 x73.1),(.sl 2 0 x73.2.1.length 35 true),(.row none 2 (x73.2.2.1.map aM)),(eI .u32 x73.2.2.2.1)]⟩,some ⟨68,x73.2.2.2.2.flatMap bB⟩,some ⟨90,x73.2.1.flatMap aV⟩] := by
       intro x99 hr
       unfold kZ at hr
       refine hK3 _ _ ?_
       refine zk hr rfl (fun h8 hr => ?_) (fun h8 hr => ?_)
       ·refine zz ?_
        obtain rfl := sj hr
        exact bL Tryz.results4 []
       ·refine zz ?_
        refine AB.seq ?_
        obtain ⟨cK,h_9,hr⟩ := aC hr
        obtain ⟨eG,h_10,hr⟩ := aC hr
        obtain ⟨q,h_12,hr⟩ := aC hr
        refine AB.rd (d7 []) (d7 [20]) mixed <| DrawG.pick (n := 11) (i := 0) (by decide +kernel) rfl (gS (v := (.agg [(eI .u32 x73.1),(.sl 2 0 x73.2.1.length 35 true),(.row none 2 (x73.2.2.1.map aM)),(eI .u32 x73.2.2.2.1)])) (sv (bW rfl (ldP rfl (vI (ds := [(eI .u32 x73.1),(.sl 2 0 x73.2.1.length 35 true),(.row none 2 (x73.2.2.1.map aM)),(eI .u32 x73.2.2.2.1)]) aBb rfl zl rfl))))) <| DrawG.pick (n := 10) (i := 1) (by decide +kernel) rfl (gS (v := (.sl 1 0 x73.2.2.2.2.length 37 true)) (sv (iR rfl))) <| DrawG.pick (n := 9) (i := 2) (by decide +kernel) rfl (gS (v := (.ptr 1 (0 + Int.toNat 0 * 37))) (sv (aAn rfl rfl (aLU (K := 37) rfl aG8 tJ rfl h_9)))) ?_
        refine DrawG.pick (n := 8) (i := 3) (by decide +kernel) rfl (gS (v := (.ptr 1 (0 + Int.toNat 0 * 37 + 33))) (sv (vT rfl (aE0 ..)))) <| DrawG.pick (n := 7) (i := 4) (by decide +kernel) rfl (gS (v := (.agg [(eI .i64 cK.Output.Value),(.row none 1 (cK.Output.Script.map (eI .u8)))])) (sv (bW rfl (aFz (C := bB) (K := 37) (off := 33) (fun _ => rfl) rfl h_9 zl (vI (ds := [(eI .i64 cK.Output.Value),(.row none 1 (cK.Output.Script.map (eI .u8)))]) aB7 rfl zl rfl))))) ?_
        refine DrawG.jn (m := 1) (L := lst [0,1,2,3,4,5,6,7,8,9,10] 12) (s1 := aK 146 [(0,(.row none 1 (bE.map (eI .u8)))),(2,(eI .u8 vby)),(8,(.ptr 0 0)),(9,(.sl 1 0 x73.2.2.2.2.length 37 true)),(14,(.ptr 2 0)),(108,(eI .i64 eG.2))]) (h1 := [some ⟨54,[(eI .u32 x73.1),(.sl 3 0 x73.2.1.length 35 true),(.row none 2 (x73.2.2.1.map aM)),(eI .u32 x73.2.2.2.1)]⟩,some ⟨68,x73.2.2.2.2.flatMap bB⟩,some ⟨24,eG.1.map (eI .u8)⟩,some ⟨90,x73.2.1.flatMap aV⟩]) ?_ (fun J => ?_)
        ·refine DrawG.pick (n := 0) (i := 11) (by decide +kernel) rfl (gS (v := (eI .i64 eG.2)) (sv (q4 rfl))) <| DrawG.nil (by decide +kernel) ?_
         refine zz ?_
         refine xw (v := (eI .i64 cK.Output.Value)) (bW rfl (aFz (C := bB) (K := 37) (off := 33) (fun _ => rfl) rfl h_9 zl (aAK ti2 rfl rfl))) ?_
         refine zz ?_
         refine xy (h' := [some ⟨54,[(eI .u32 x73.1),(.sl 3 0 x73.2.1.length 35 true),(.row none 2 (x73.2.2.1.map aM)),(eI .u32 x73.2.2.2.1)]⟩,some ⟨68,(x73.2.2.2.2.set (Int.toNat 0) (aT.mk cK.Out (aE.mk (IntKind.i64.wrap (cK.Output.Value - (IntKind.i64.wrap vby))) cK.Output.Script) cK.Height cK.Coinbase)).flatMap bB⟩,some ⟨24,eG.1.map (eI .u8)⟩,some ⟨90,x73.2.1.flatMap aV⟩]) (bN rfl rfl (aLK (C := bB) (K := 37) (off := 33) (fun _ => rfl) ti2 rfl h_9 rfl rfl zl rfl rfl)) ?_
         refine zz ?_
         refine AB.seq ?_
         obtain ⟨aFR,h_13,hr⟩ := aC hr
         obtain ⟨nA,h_14,hr⟩ := aC hr
         obtain ⟨q_1,h_16,hr⟩ := aC hr
         refine AB.rd (d7 []) (d7 [20]) mixed <| DrawG.pick (n := 11) (i := 0) (by decide +kernel) rfl (gS (v := (.agg [(eI .u32 x73.1),(.sl 3 0 x73.2.1.length 35 true),(.row none 2 (x73.2.2.1.map aM)),(eI .u32 x73.2.2.2.1)])) (sv (bW rfl (ldP rfl (vI (ds := [(eI .u32 x73.1),(.sl 3 0 x73.2.1.length 35 true),(.row none 2 (x73.2.2.1.map aM)),(eI .u32 x73.2.2.2.1)]) aBb rfl zl rfl))))) <| DrawG.pick (n := 10) (i := 1) (by decide +kernel) rfl (gS (v := (.sl 1 0 x73.2.2.2.2.length 37 true)) (sv (iR rfl))) <| DrawG.pick (n := 9) (i := 2) (by decide +kernel) rfl (gS (v := (.ptr 1 (0 + Int.toNat 0 * 37))) (sv (aAn rfl rfl (aLU (K := 37) (by simp only [b8,b7]) aG8 tJ rfl h_13)))) ?_
         refine DrawG.pick (n := 8) (i := 3) (by decide +kernel) rfl (gS (v := (.ptr 1 (0 + Int.toNat 0 * 37 + 33))) (sv (vT rfl (aE0 ..)))) <| DrawG.pick (n := 7) (i := 4) (by decide +kernel) rfl (gS (v := (.agg [(eI .i64 aFR.Output.Value),(.row none 1 (aFR.Output.Script.map (eI .u8)))])) (sv (bW rfl (aFz (C := bB) (K := 37) (off := 33) (fun _ => rfl) rfl h_13 zl (vI (ds := [(eI .i64 aFR.Output.Value),(.row none 1 (aFR.Output.Script.map (eI .u8)))]) aB7 rfl zl rfl))))) ?_
         refine DrawG.jn (m := 1) (L := lst [0,1,2,3,4,5,6,7,8,9,10] 12) (s1 := aK 146 [(0,(.row none 1 (bE.map (eI .u8)))),(8,(.ptr 0 0)),(9,(.sl 1 0 x73.2.2.2.2.length 37 true)),(14,(.ptr 2 0)),(16,(.ptr 3 0)),(128,(eI .i64 nA.2))]) (h1 := [some ⟨54,[(eI .u32 x73.1),(.sl 4 0 x73.2.1.length 35 true),(.row none 2 (x73.2.2.1.map aM)),(eI .u32 x73.2.2.2.1)]⟩,some ⟨68,(x73.2.2.2.2.set (Int.toNat 0) (aT.mk cK.Out (aE.mk (IntKind.i64.wrap (cK.Output.Value - (IntKind.i64.wrap vby))) cK.Output.Script) cK.Height cK.Coinbase)).flatMap bB⟩,some ⟨24,eG.1.map (eI .u8)⟩,some ⟨24,nA.1.map (eI .u8)⟩,some ⟨90,x73.2.1.flatMap aV⟩]) ?_ (fun J => ?_)
         ·refine DrawG.pick (n := 0) (i := 11) (by decide +kernel) rfl (gS (v := (eI .i64 nA.2)) (sv (q4 rfl))) <| DrawG.nil (by decide +kernel) ?_
          obtain ⟨aKe,h_17,hr⟩ := aC hr
          refine zz ?_
          refine xC (v := (.tup [(eI .i64 aKe.1),(eI .i64 aKe.2)])) (h' := [some ⟨54,[(eI .u32 x73.1),(.sl 4 0 x73.2.1.length 35 true),(.row none 2 (x73.2.2.1.map aM)),(eI .u32 x73.2.2.2.1)]⟩,some ⟨68,(x73.2.2.2.2.set (Int.toNat 0) (aT.mk cK.Out (aE.mk (IntKind.i64.wrap (cK.Output.Value - (IntKind.i64.wrap vby))) cK.Output.Script) cK.Height cK.Coinbase)).flatMap bB⟩,some ⟨24,eG.1.map (eI .u8)⟩,some ⟨24,nA.1.map (eI .u8)⟩,some ⟨90,x73.2.1.flatMap aV⟩]) rfl (Vm.Fn.lendR (aAh h_17) [] [4,1] (by decide) rfl (by decide) Lend.nil (Brw.row (rI (bS rfl (bS (mT (d := 3) (C := aV) (fun _ => rfl) zl rfl rfl (fun _ => rfl)) (bS rfl (bS rfl rL))))) (Brw.row (xA (C := bB) (fun _ => rfl) zl (by simp only [b8,b7]) rfl (fun _ => rfl)) (Brw.same rfl Brw.nil))) rfl rfB.nil rfl zH) ?_
          refine zz ?_
          refine AB.seq_g fun K4 hK4 hG4 => ?_
          have J4 : ∀ (x6 : Bool),nN N x6 = some r → K4 (aK 146 [(6,(eB x6))]) [] := by
           intro x6 hr
           unfold nN at hr
           refine hK4 _ _ ?_
           refine zz ?_
           obtain rfl := sj hr
           exact bL Tryz.results4 []
          obtain ⟨aRC,h_18,hr⟩ := aC hr
          obtain ⟨aNX,h_19,hr⟩ := aC hr
          rcases Bool.eq_false_or_eq_true (!aNX) with h21 | h21
          ·replace hr := eO hr h21
           refine AB.rs mixed [21] [] [[0,1,2,3,4,5,6,7,8,9,10,11]] ?_
           refine zz ?_
           refine xu (aC9 h_19) ?_
           refine zz ?_
           exact hG4 _ _ _ _ (zG []) (J4 true hr)
          ·replace hr := eP hr h21
           refine AB.rs mixed [21] [] [[0,1,2,3,4,5,6,7,8,9,10,11]] ?_
           refine zz ?_
           refine xu (aC9 h_19) ?_
           refine zz ?_
           exact hG4 _ _ _ _ (zG []) (J4 (aKe.2 == 61) hr)
         ·refine DrawG.fork (n := 6) [5,9] (by decide +kernel) (by decide) ?_
          refine (Fork.cons rfl (gC (v := (.tup [(.agg (nA.1.map (eI .u8))),(eI .i64 nA.2)])) (h' := [some ⟨54,[(eI .u32 x73.1),(.sl 3 0 x73.2.1.length 35 true),(.row none 2 (x73.2.2.1.map aM)),(eI .u32 x73.2.2.2.1)]⟩,some ⟨68,(x73.2.2.2.2.set (Int.toNat 0) (aT.mk cK.Out (aE.mk (IntKind.i64.wrap (cK.Output.Value - (IntKind.i64.wrap vby))) cK.Output.Script) cK.Height cK.Coinbase)).flatMap bB⟩,some ⟨24,eG.1.map (eI .u8)⟩,some ⟨90,x73.2.1.flatMap aV⟩]) (Vm.Fn.lendR (jK h_14) [] [3] (by decide) rfl (by decide) Lend.nil (Brw.row (rI (bS rfl (bS (mT (d := 3) (C := aV) (fun _ => rfl) zl rfl rfl (fun _ => rfl)) (bS rfl (bS rfl rL))))) (Brw.same rfl (Brw.same rfl Brw.nil))) zF rfB.nil zR zH) rfl (fun _ => ⟨[],by simp⟩) (sv (d6 rfl fH))) ?_ (Fork.cons rfl (gS (v := (.ptr 4 0)) (h' := [some ⟨54,[(eI .u32 x73.1),(.sl 3 0 x73.2.1.length 35 true),(.row none 2 (x73.2.2.1.map aM)),(eI .u32 x73.2.2.2.1)]⟩,some ⟨68,(x73.2.2.2.2.set (Int.toNat 0) (aT.mk cK.Out (aE.mk (IntKind.i64.wrap (cK.Output.Value - (IntKind.i64.wrap vby))) cK.Output.Script) cK.Height cK.Coinbase)).flatMap bB⟩,some ⟨24,eG.1.map (eI .u8)⟩,some ⟨90,x73.2.1.flatMap aV⟩,some ⟨24,(List.replicate 32 0).map (eI .u8)⟩]) (sv (cD i0 rfl rfl rfl))) ?_ Fork.nil))
          ·refine DrawG.pick (n := 5) (i := 6) (by decide +kernel) rfl (gS (v := (.tup [(.agg (nA.1.map (eI .u8))),(eI .i64 nA.2)])) (sv (iR rfl))) <| DrawG.pick (n := 4) (i := 7) (by decide +kernel) rfl (gS (v := (.agg (nA.1.map (eI .u8)))) (sv (o9 rfl rfl))) <| DrawG.pick (n := 3) (i := 8) (by decide +kernel) rfl (gS (v := (eI .i64 nA.2)) (sv (o9 rfl rfl))) <| DrawG.pick (n := 2) (i := 9) (by decide +kernel) rfl (gS (v := (.ptr 4 0)) (h' := [some ⟨54,[(eI .u32 x73.1),(.sl 3 0 x73.2.1.length 35 true),(.row none 2 (x73.2.2.1.map aM)),(eI .u32 x73.2.2.2.1)]⟩,some ⟨68,(x73.2.2.2.2.set (Int.toNat 0) (aT.mk cK.Out (aE.mk (IntKind.i64.wrap (cK.Output.Value - (IntKind.i64.wrap vby))) cK.Output.Script) cK.Height cK.Coinbase)).flatMap bB⟩,some ⟨24,eG.1.map (eI .u8)⟩,some ⟨90,x73.2.1.flatMap aV⟩,some ⟨24,(List.replicate 32 0).map (eI .u8)⟩]) (sv (cD i0 rfl rfl rfl))) ?_
           refine DrawG.pick (n := 1) (i := 10) (by decide +kernel) rfl (gN (h' := [some ⟨54,[(eI .u32 x73.1),(.sl 3 0 x73.2.1.length 35 true),(.row none 2 (x73.2.2.1.map aM)),(eI .u32 x73.2.2.2.1)]⟩,some ⟨68,(x73.2.2.2.2.set (Int.toNat 0) (aT.mk cK.Out (aE.mk (IntKind.i64.wrap (cK.Output.Value - (IntKind.i64.wrap vby))) cK.Output.Script) cK.Height cK.Coinbase)).flatMap bB⟩,some ⟨24,eG.1.map (eI .u8)⟩,some ⟨90,x73.2.1.flatMap aV⟩,some ⟨24,nA.1.map (eI .u8)⟩]) (sv (bN rfl rfl (q5 (E := (eI .u8)) (l := List.replicate 32 0) i0 rfl rfl (fun _ => rfl) rfl (aZ h_16) rfl)))) ?_
           exact DrawG.jg (by decide +kernel) (by decide +kernel) (zG [0,1,2,4,3]) J
          ·refine DrawG.pick (n := 5) (i := 5) (by decide +kernel) rfl (gC (v := (.tup [(.agg (nA.1.map (eI .u8))),(eI .i64 nA.2)])) (h' := [some ⟨54,[(eI .u32 x73.1),(.sl 3 0 x73.2.1.length 35 true),(.row none 2 (x73.2.2.1.map aM)),(eI .u32 x73.2.2.2.1)]⟩,some ⟨68,(x73.2.2.2.2.set (Int.toNat 0) (aT.mk cK.Out (aE.mk (IntKind.i64.wrap (cK.Output.Value - (IntKind.i64.wrap vby))) cK.Output.Script) cK.Height cK.Coinbase)).flatMap bB⟩,some ⟨24,eG.1.map (eI .u8)⟩,some ⟨90,x73.2.1.flatMap aV⟩,some ⟨24,(List.replicate 32 0).map (eI .u8)⟩]) (Vm.Fn.lendR (jK h_14) [] [3] (by decide) rfl (by decide) Lend.nil (Brw.row (rI (bS rfl (bS (mT (d := 3) (C := aV) (fun _ => rfl) zl rfl rfl (fun _ => rfl)) (bS rfl (bS rfl rL))))) (Brw.same rfl (Brw.same rfl Brw.nil))) zF rfB.nil zR zH) rfl (fun _ => ⟨[],by simp⟩) (sv (d6 rfl fH))) ?_
           refine DrawG.pick (n := 4) (i := 6) (by decide +kernel) rfl (gS (v := (.tup [(.agg (nA.1.map (eI .u8))),(eI .i64 nA.2)])) (sv (iR rfl))) <| DrawG.pick (n := 3) (i := 7) (by decide +kernel) rfl (gS (v := (.agg (nA.1.map (eI .u8)))) (sv (o9 rfl rfl))) <| DrawG.pick (n := 2) (i := 8) (by decide +kernel) rfl (gS (v := (eI .i64 nA.2)) (sv (o9 rfl rfl))) <| DrawG.pick (n := 1) (i := 10) (by decide +kernel) rfl (gN (h' := [some ⟨54,[(eI .u32 x73.1),(.sl 3 0 x73.2.1.length 35 true),(.row none 2 (x73.2.2.1.map aM)),(eI .u32 x73.2.2.2.1)]⟩,some ⟨68,(x73.2.2.2.2.set (Int.toNat 0) (aT.mk cK.Out (aE.mk (IntKind.i64.wrap (cK.Output.Value - (IntKind.i64.wrap vby))) cK.Output.Script) cK.Height cK.Coinbase)).flatMap bB⟩,some ⟨24,eG.1.map (eI .u8)⟩,some ⟨90,x73.2.1.flatMap aV⟩,some ⟨24,nA.1.map (eI .u8)⟩]) (sv (bN rfl rfl (q5 (E := (eI .u8)) (l := List.replicate 32 0) i0 rfl rfl (fun _ => rfl) rfl (aZ h_16) rfl)))) ?_
           exact DrawG.jg (by decide +kernel) (by decide +kernel) (zG [0,1,2,4,3]) J
        ·refine DrawG.fork (n := 6) [5,9] (by decide +kernel) (by decide) ?_
         refine (Fork.cons rfl (gC (v := (.tup [(.agg (eG.1.map (eI .u8))),(eI .i64 eG.2)])) (h' := [some ⟨54,[(eI .u32 x73.1),(.sl 2 0 x73.2.1.length 35 true),(.row none 2 (x73.2.2.1.map aM)),(eI .u32 x73.2.2.2.1)]⟩,some ⟨68,x73.2.2.2.2.flatMap bB⟩,some ⟨90,x73.2.1.flatMap aV⟩]) (Vm.Fn.lendR (jK h_10) [] [2] (by decide) rfl (by decide) Lend.nil (Brw.row (rI (bS rfl (bS (mT (d := 3) (C := aV) (fun _ => rfl) zl rfl rfl (fun _ => rfl)) (bS rfl (bS rfl rL))))) (Brw.same rfl (Brw.same rfl Brw.nil))) zF rfB.nil zR zH) rfl (fun _ => ⟨[],by simp⟩) (sv (d6 rfl fH))) ?_ (Fork.cons rfl (gS (v := (.ptr 3 0)) (h' := [some ⟨54,[(eI .u32 x73.1),(.sl 2 0 x73.2.1.length 35 true),(.row none 2 (x73.2.2.1.map aM)),(eI .u32 x73.2.2.2.1)]⟩,some ⟨68,x73.2.2.2.2.flatMap bB⟩,some ⟨90,x73.2.1.flatMap aV⟩,some ⟨24,(List.replicate 32 0).map (eI .u8)⟩]) (sv (cD i0 rfl rfl rfl))) ?_ Fork.nil))
         ·refine DrawG.pick (n := 5) (i := 6) (by decide +kernel) rfl (gS (v := (.tup [(.agg (eG.1.map (eI .u8))),(eI .i64 eG.2)])) (sv (iR rfl))) <| DrawG.pick (n := 4) (i := 7) (by decide +kernel) rfl (gS (v := (.agg (eG.1.map (eI .u8)))) (sv (o9 rfl rfl))) <| DrawG.pick (n := 3) (i := 8) (by decide +kernel) rfl (gS (v := (eI .i64 eG.2)) (sv (o9 rfl rfl))) <| DrawG.pick (n := 2) (i := 9) (by decide +kernel) rfl (gS (v := (.ptr 3 0)) (h' := [some ⟨54,[(eI .u32 x73.1),(.sl 2 0 x73.2.1.length 35 true),(.row none 2 (x73.2.2.1.map aM)),(eI .u32 x73.2.2.2.1)]⟩,some ⟨68,x73.2.2.2.2.flatMap bB⟩,some ⟨90,x73.2.1.flatMap aV⟩,some ⟨24,(List.replicate 32 0).map (eI .u8)⟩]) (sv (cD i0 rfl rfl rfl))) ?_
          refine DrawG.pick (n := 1) (i := 10) (by decide +kernel) rfl (gN (h' := [some ⟨54,[(eI .u32 x73.1),(.sl 2 0 x73.2.1.length 35 true),(.row none 2 (x73.2.2.1.map aM)),(eI .u32 x73.2.2.2.1)]⟩,some ⟨68,x73.2.2.2.2.flatMap bB⟩,some ⟨90,x73.2.1.flatMap aV⟩,some ⟨24,eG.1.map (eI .u8)⟩]) (sv (bN rfl rfl (q5 (E := (eI .u8)) (l := List.replicate 32 0) i0 rfl rfl (fun _ => rfl) rfl (aZ h_12) rfl)))) ?_
          exact DrawG.jg (by decide +kernel) (by decide +kernel) (zG [0,1,3,2]) J
         ·refine DrawG.pick (n := 5) (i := 5) (by decide +kernel) rfl (gC (v := (.tup [(.agg (eG.1.map (eI .u8))),(eI .i64 eG.2)])) (h' := [some ⟨54,[(eI .u32 x73.1),(.sl 2 0 x73.2.1.length 35 true),(.row none 2 (x73.2.2.1.map aM)),(eI .u32 x73.2.2.2.1)]⟩,some ⟨68,x73.2.2.2.2.flatMap bB⟩,some ⟨90,x73.2.1.flatMap aV⟩,some ⟨24,(List.replicate 32 0).map (eI .u8)⟩]) (Vm.Fn.lendR (jK h_10) [] [2] (by decide) rfl (by decide) Lend.nil (Brw.row (rI (bS rfl (bS (mT (d := 3) (C := aV) (fun _ => rfl) zl rfl rfl (fun _ => rfl)) (bS rfl (bS rfl rL))))) (Brw.same rfl (Brw.same rfl Brw.nil))) zF rfB.nil zR zH) rfl (fun _ => ⟨[],by simp⟩) (sv (d6 rfl fH))) ?_
          refine DrawG.pick (n := 4) (i := 6) (by decide +kernel) rfl (gS (v := (.tup [(.agg (eG.1.map (eI .u8))),(eI .i64 eG.2)])) (sv (iR rfl))) <| DrawG.pick (n := 3) (i := 7) (by decide +kernel) rfl (gS (v := (.agg (eG.1.map (eI .u8)))) (sv (o9 rfl rfl))) <| DrawG.pick (n := 2) (i := 8) (by decide +kernel) rfl (gS (v := (eI .i64 eG.2)) (sv (o9 rfl rfl))) <| DrawG.pick (n := 1) (i := 10) (by decide +kernel) rfl (gN (h' := [some ⟨54,[(eI .u32 x73.1),(.sl 2 0 x73.2.1.length 35 true),(.row none 2 (x73.2.2.1.map aM)),(eI .u32 x73.2.2.2.1)]⟩,some ⟨68,x73.2.2.2.2.flatMap bB⟩,some ⟨90,x73.2.1.flatMap aV⟩,some ⟨24,eG.1.map (eI .u8)⟩]) (sv (bN rfl rfl (q5 (E := (eI .u8)) (l := List.replicate 32 0) i0 rfl rfl (fun _ => rfl) rfl (aZ h_12) rfl)))) ?_
          exact DrawG.jg (by decide +kernel) (by decide +kernel) (zG [0,1,3,2]) J
      rcases Bool.eq_false_or_eq_true (x91.2 != 0) with h22 | h22
      ·replace hr := eO hr h22
       refine xr ?_
       refine zz ?_
       exact hG3 _ _ _ _ (zG [3,2,1]) (J3 true hr)
      ·replace hr := eP hr h22
       refine xr ?_
       refine zz ?_
       exact hG3 _ _ _ _ (zG [3,2,1]) (J3 (decide (x91.1 < 0)) hr)
    obtain ⟨res5,hL5,hr⟩ := aC hr
    refine zz ?_
    refine AB.block <| AB.loopN (fun m s h => ∃ (x39 : Int),cP N bE aB aD aA aH vby m x39 = some res5 ∧ Ghost 0 s h (aK 146 [(0,(.row none 1 (bE.map (eI .u8)))),(2,(eI .u8 vby)),(4,(.ptr 0 0)),(38,(eI .i64 (aA.length : Int))),(39,(eI .i64 x39))]) [some ⟨54,[(eI .u32 aB),(.row none 35 (aD.map aS)),(.row none 2 (aA.map aM)),(eI .u32 aH)]⟩]) (n := N) ⟨0,hL5,(zG [0])⟩ (by rintro s h ⟨_,h0,_⟩; simp [cP] at h0) ?_
    rintro m5 s h ⟨x39,hr5,hg⟩
    refine AB.ghost hg ?_
    clear hg hL5
    rw [cP] at hr5
    refine zz ?_
    refine AB.seq ?_
    refine zk hr5 rfl (fun h23 hr5 => ?_) (fun h23 hr5 => ?_)
    ·refine zz ?_
     refine AB.seq <| AB.block ?_
     refine zz ?_
     refine AB.seq_g fun K6 hK6 hG6 => ?_
     have J6 : ∀ (x67 : Bool),iO N bE aB aD aA aH vby x39 (cP N bE aB aD aA aH vby m5) x67 = some res5 → K6 (aK 146 [(0,(.row none 1 (bE.map (eI .u8)))),(2,(eI .u8 vby)),(4,(.ptr 0 0)),(38,(eI .i64 (aA.length : Int))),(39,(eI .i64 x39)),(67,(eB x67))]) [some ⟨54,[(eI .u32 aB),(.row none 35 (aD.map aS)),(.row none 2 (aA.map aM)),(eI .u32 aH)]⟩] := by
      intro x67 hr5
      unfold iO at hr5
      refine hK6 _ _ ?_
      refine zk hr5 rfl (fun h24 hr5 => ?_) (fun h24 hr5 => ?_)
      ·refine zz ?_
       obtain rfl := sj hr5
       obtain rfl := sj hr
       exact bL Tryz.results4 []
      ·refine zz ?_
       exact ⟨IntKind.i64.wrap (x39 + 1),hr5,(zG [0])⟩
     obtain ⟨x45,h_25,hr5⟩ := aC hr5
     rcases Bool.eq_false_or_eq_true (decide (x45.Value < 0)) with h26 | h26
     ·replace hr5 := eO hr5 h26
      refine xr ?_
      refine zz ?_
      refine xX rfl <| xX rfl <| xX rfl <| xX rfl <| xX rfl <| xX rfl <| xX rfl <| xX rfl ?_
      refine zz ?_
      exact hG6 _ _ _ _ (zG [0]) (J6 true hr5)
     ·replace hr5 := eP hr5 h26
      rcases Bool.eq_false_or_eq_true (decide (65625000000000 < x45.Value)) with h27 | h27
      ·replace hr5 := eO hr5 h27
       refine xr ?_
       refine zz ?_
       exact hG6 _ _ _ _ (zG [0]) (J6 true hr5)
      ·replace hr5 := eP hr5 h27
       refine xr ?_
       refine zz ?_
       exact hG6 _ _ _ _ (zG [0]) (J6 (decide (520 < (x45.Script.length : Int))) hr5)
    ·refine zz ?_
     obtain rfl := sj hr5
     refine zz ?_
     exact hG2 _ _ _ _ (zG [0]) (J2 hr)
  rcases Bool.eq_false_or_eq_true ((bE.length : Int) == 0) with h28 | h28
  ·replace hr := eO hr h28
   refine xr ?_
   refine zz ?_
   refine xX rfl <| xX rfl <| xX rfl ?_
   refine zz ?_
   exact hG1 _ _ _ _ (zG [0]) (J1 true hr)
  ·replace hr := eP hr h28
   rcases Bool.eq_false_or_eq_true (decide (4 < (aA.length : Int))) with h29 | h29
   ·replace hr := eO hr h29
    refine xr ?_
    refine zz ?_
    exact hG1 _ _ _ _ (zG [0]) (J1 true hr)
   ·replace hr := eP hr h29
    obtain ⟨jU,h_30,hr⟩ := aC hr
    refine xr ?_
    refine zz ?_
    refine xCg (v := (eB jU)) (h' := [some ⟨54,[(eI .u32 aB),(.row none 35 (aD.map aS)),(.row none 2 (aA.map aM)),(eI .u32 aH)]⟩]) rfl rfl h29 rfl (Vm.Fn.pure (aLt h_30) rfl rfl) ?_
    refine zz ?_
    exact hG1 _ _ _ _ (zG [0]) (J1 (!jU) hr)
end Go.Proofs.YtnoklhehodlkaaaGreatDoor
