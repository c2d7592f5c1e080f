/- Texts of ours, joined: Wk2. -/
import Derived.Test.YtagblcjgjlihaaaDoorQSpendLater5
set_option linter.unusedVariables false
set_option linter.unusedSimpArgs false
set_option maxRecDepth 20000
set_option maxHeartbeats 1000000
namespace Go.Proofs.YtagblcjgjlihaaaDoor
open Go Go.Vm
theorem aDK (N : Nat) (aC : Int) (aB : List aO) (aA : List aK) (aH : Int) (vi : Int) (bJ : Int) (bA : List Int) (r : (List Int) × Int) (hr : qE N aC aB aA aH vi bJ bA = some r) :
    Vm.Fn Tryd.prog 16 [] [(.agg [(eI .u32 aC), (.row none 35 (aB.map aL)), (.row none 2 (aA.map aM)), (eI .u32 aH)]), (eI .i64 vi), (.agg [(eI .i64 bJ), (.row none 1 (bA.map (eI .u8)))])] (.tup [(.agg (r.1.map (eI .u8))), (eI .i64 r.2)]) [] := by
  refine zf Tryd.func16 Tryd.ntmps16 ?_
  unfold qE at hr
  refine zq <| zh (v := (.ptr 0 0)) (b8 rfl rfl rfl rfl) ?_
  refine zh (v := (.ptr 1 0)) (b8 rfl rfl rfl rfl) ?_
  refine zh (v := (.ptr 2 0)) (cK (B := some ⟨36, (List.replicate 32 0).map (eI .u8)⟩) dL rfl rfl) ?_
  refine zi <| zn <| AB.seq ?_
  refine AB.seq_g fun K1 hK1 hG1 => ?_
  have J1 : ∀ (x28 : Bool), k7 N aC aB aA aH vi bJ bA x28 = some r → K1 (aV 90 [(1, (eI .i64 vi)), (3, (.ptr 0 0)), (5, (.ptr 1 0)), (6, (.ptr 2 0)), (28, (eB x28))]) [some ⟨26, [(eI .u32 aC), (.row none 35 (aB.map aL)), (.row none 2 (aA.map aM)), (eI .u32 aH)]⟩, some ⟨44, [(eI .i64 bJ), (.row none 1 (bA.map (eI .u8)))]⟩, some ⟨36, (List.replicate 32 0).map (eI .u8)⟩] := by
    intro x28 hr
    unfold k7 at hr
    refine hK1 _ _ ?_
    refine zk hr rfl (fun h1 hr => ?_) (fun h1 hr => ?_)
    · refine zq <| zw (v := (.agg ([0, 0, 0, 0, 0, 0, 0, 0, 0, 0, 0, 0, 0, 0, 0, 0, 0, 0, 0, 0, 0, 0, 0, 0, 0, 0, 0, 0, 0, 0, 0, 0].map (eI .u8)))) (cI rfl (rW dL cC rfl)) <| zt (aU rfl rfl (eQ (E := (eI .u8)) (l := List.replicate 32 0) dL rfl rfl (fun _ => rfl) rfl rfl rfl)) ?_
      refine zi <| zn <| AB.ret <| Ex.then_ret_mk ?_
      obtain rfl := sj hr
      exact bU (r1 := (.tup [(.agg ([0, 0, 0, 0, 0, 0, 0, 0, 0, 0, 0, 0, 0, 0, 0, 0, 0, 0, 0, 0, 0, 0, 0, 0, 0, 0, 0, 0, 0, 0, 0, 0].map (eI .u8))), (eI .i64 4)])) (cL Tryd.results16 (jU rfl (b6 (E := (eI .u8)) (l := [0, 0, 0, 0, 0, 0, 0, 0, 0, 0, 0, 0, 0, 0, 0, 0, 0, 0, 0, 0, 0, 0, 0, 0, 0, 0, 0, 0, 0, 0, 0, 0]) dL rfl rfl rfl)) (iS rfl)) (Ghost.rn [] rfl rfl (FLe.le rfl (V.le_tup (V.les_cons (V.le_arr (fun _ => rfl)) (V.les_cons (V.le_refl _ _) V.les_nil))) FLe.nil) HLe.nil rfl)
    · refine AB.skip <| Ex.then_mk <| AB.seq ?_
      refine AB.seq_g fun K2 hK2 hG2 => ?_
      have J2 : ∀ (x38 : Bool), k4 N aC aB aA aH vi bJ bA x38 = some r → K2 (aV 90 [(1, (eI .i64 vi)), (3, (.ptr 0 0)), (5, (.ptr 1 0)), (6, (.ptr 2 0)), (38, (eB x38))]) [some ⟨26, [(eI .u32 aC), (.row none 35 (aB.map aL)), (.row none 2 (aA.map aM)), (eI .u32 aH)]⟩, some ⟨44, [(eI .i64 bJ), (.row none 1 (bA.map (eI .u8)))]⟩, some ⟨36, (List.replicate 32 0).map (eI .u8)⟩] := by
        intro x38 hr
        unfold k4 at hr
        refine hK2 _ _ ?_
        refine zk hr rfl (fun h2 hr => ?_) (fun h2 hr => ?_)
        · refine zq <| zw (v := (.agg ([0, 0, 0, 0, 0, 0, 0, 0, 0, 0, 0, 0, 0, 0, 0, 0, 0, 0, 0, 0, 0, 0, 0, 0, 0, 0, 0, 0, 0, 0, 0, 0].map (eI .u8)))) (cI rfl (rW dL cC rfl)) <| zt (aU rfl rfl (eQ (E := (eI .u8)) (l := List.replicate 32 0) dL rfl rfl (fun _ => rfl) rfl rfl rfl)) ?_
          refine zi <| zn <| AB.ret <| Ex.then_ret_mk ?_
          obtain rfl := sj hr
          exact bU (r1 := (.tup [(.agg ([0, 0, 0, 0, 0, 0, 0, 0, 0, 0, 0, 0, 0, 0, 0, 0, 0, 0, 0, 0, 0, 0, 0, 0, 0, 0, 0, 0, 0, 0, 0, 0].map (eI .u8))), (eI .i64 5)])) (cL Tryd.results16 (jU rfl (b6 (E := (eI .u8)) (l := [0, 0, 0, 0, 0, 0, 0, 0, 0, 0, 0, 0, 0, 0, 0, 0, 0, 0, 0, 0, 0, 0, 0, 0, 0, 0, 0, 0, 0, 0, 0, 0]) dL rfl rfl rfl)) (iS rfl)) (Ghost.rn [] rfl rfl (FLe.le rfl (V.le_tup (V.les_cons (V.le_arr (fun _ => rfl)) (V.les_cons (V.le_refl _ _) V.les_nil))) FLe.nil) HLe.nil rfl)
        · refine AB.skip <| Ex.then_mk <| zq <| zw (v := (.row (some true) 1 [])) (bE rfl) <| zw (v := (.row (some true) 1 [])) (bE rfl) <| zw (v := (.row (some true) 1 [])) (bE rfl) <| zn ?_
          refine AB.seq_g fun K3 hK3 hG3 => ?_
          have J3 : ∀ (l3 : List Int) (l4 : List Int), pP N aC aB aA aH vi bJ bA l3 l4 = some r → K3 (aV 90 [(1, (eI .i64 vi)), (3, (.ptr 0 0)), (5, (.ptr 1 0)), (6, (.ptr 2 0)), (8, (.sl 3 0 l3.length 1 false)), (9, (.sl 4 0 l4.length 1 false)), (10, (.row (some true) 1 []))]) [some ⟨26, [(eI .u32 aC), (.row none 35 (aB.map aL)), (.row none 2 (aA.map aM)), (eI .u32 aH)]⟩, some ⟨44, [(eI .i64 bJ), (.row none 1 (bA.map (eI .u8)))]⟩, some ⟨36, (List.replicate 32 0).map (eI .u8)⟩, some ⟨5, l3.map (eI .u8)⟩, some ⟨5, l4.map (eI .u8)⟩] := by
            intro l3 l4 hr
            unfold pP at hr
            refine hK3 _ _ ?_
            refine AB.seq_g fun K4 hK4 hG4 => ?_
            have J4 : ∀ (l5 : List Int), pY N aC aB aA aH vi bJ bA l3 l4 l5 = some r → K4 (aV 90 [(1, (eI .i64 vi)), (3, (.ptr 0 0)), (5, (.ptr 1 0)), (6, (.ptr 2 0)), (8, (.sl 3 0 l3.length 1 false)), (9, (.sl 4 0 l4.length 1 false)), (10, (.sl 5 0 l5.length 1 false))]) [some ⟨26, [(eI .u32 aC), (.row none 35 (aB.map aL)), (.row none 2 (aA.map aM)), (eI .u32 aH)]⟩, some ⟨44, [(eI .i64 bJ), (.row none 1 (bA.map (eI .u8)))]⟩, some ⟨36, (List.replicate 32 0).map (eI .u8)⟩, some ⟨5, l3.map (eI .u8)⟩, some ⟨5, l4.map (eI .u8)⟩, some ⟨5, l5.map (eI .u8)⟩] := by
              intro l5 hr
              unfold pY at hr
              refine hK4 _ _ <| AB.seq <| AB.ghost (zV [(1, (eI .i64 vi)), (3, (.ptr 0 0)), (5, (.ptr 1 0)), (6, (.ptr 2 0)), (8, (.row none 1 (l3.map (eI .u8)))), (9, (.sl 4 0 l4.length 1 false)), (10, (.sl 5 0 l5.length 1 false))] [some ⟨26, [(eI .u32 aC), (.row none 35 (aB.map aL)), (.row none 2 (aA.map aM)), (eI .u32 aH)]⟩, some ⟨44, [(eI .i64 bJ), (.row none 1 (bA.map (eI .u8)))]⟩, some ⟨36, (List.replicate 32 0).map (eI .u8)⟩, none, some ⟨5, l4.map (eI .u8)⟩, some ⟨5, l5.map (eI .u8)⟩]) ?_
              refine AB.ghost (zV [(1, (eI .i64 vi)), (3, (.ptr 0 0)), (5, (.ptr 1 0)), (6, (.ptr 2 0)), (8, (.row none 1 (l3.map (eI .u8)))), (9, (.row none 1 (l4.map (eI .u8)))), (10, (.sl 5 0 l5.length 1 false))] [some ⟨26, [(eI .u32 aC), (.row none 35 (aB.map aL)), (.row none 2 (aA.map aM)), (eI .u32 aH)]⟩, some ⟨44, [(eI .i64 bJ), (.row none 1 (bA.map (eI .u8)))]⟩, some ⟨36, (List.replicate 32 0).map (eI .u8)⟩, none, none, some ⟨5, l5.map (eI .u8)⟩]) ?_
              refine AB.ghost (zV [(1, (eI .i64 vi)), (3, (.ptr 0 0)), (5, (.ptr 1 0)), (6, (.ptr 2 0)), (8, (.row none 1 (l3.map (eI .u8)))), (9, (.row none 1 (l4.map (eI .u8)))), (10, (.row none 1 (l5.map (eI .u8))))] [some ⟨26, [(eI .u32 aC), (.row none 35 (aB.map aL)), (.row none 2 (aA.map aM)), (eI .u32 aH)]⟩, some ⟨44, [(eI .i64 bJ), (.row none 1 (bA.map (eI .u8)))]⟩, some ⟨36, (List.replicate 32 0).map (eI .u8)⟩, none, none, none]) ?_
              obtain ⟨x72, h_3, hr⟩ := aN hr
              obtain ⟨x74, h_5, hr⟩ := aN hr
              obtain ⟨x76, h_7, hr⟩ := aN hr
              obtain ⟨x78, h_9, hr⟩ := aN hr
              obtain ⟨x81, h_11, hr⟩ := aN hr
              obtain ⟨x84, h_13, hr⟩ := aN hr
              obtain ⟨x86, h_15, hr⟩ := aN hr
              obtain ⟨x88, h_17, hr⟩ := aN hr
              obtain ⟨x89, h_19, hr⟩ := aN hr
              obtain ⟨q, h_21, hr⟩ := aN hr
              refine AB.rd (dQ [26]) (dQ [22, 23, 24, 25]) mixed <| kP 21 0 rfl rfl (aH7 ..) <| zp 20 1 rfl (bH (v := (eI .u32 aC)) (aI rfl (bZ rfl (bX cA rfl rfl)))) ?_
              refine DrawG.pick (n := 19) (i := 2) (by decide +kernel) rfl (gC (v := (.sl 6 0 x72.length 1 false)) (h' := [some ⟨26, [(eI .u32 aC), (.row none 35 (aB.map aL)), (.row none 2 (aA.map aM)), (eI .u32 aH)]⟩, some ⟨44, [(eI .i64 bJ), (.row none 1 (bA.map (eI .u8)))]⟩, some ⟨36, (List.replicate 32 0).map (eI .u8)⟩, none, none, none, some ⟨5, x72.map (eI .u8)⟩]) (zB (rD N aC x72 h_3) []) rfl (fun _ => ⟨_, rfl⟩) (sv (bN rfl d5))) <| dO 18 3 rfl rfl ?_
              refine DrawG.pick (n := 17) (i := 4) (by decide +kernel) rfl (gU (fun _ => (Vm.Fn.pure (vM N l3 x74 h_5) rfl rfl)) rfl (sv (bN rfl c5))) <| dO 16 5 rfl rfl <| DrawG.pick (n := 15) (i := 6) (by decide +kernel) rfl (gU (fun _ => (Vm.Fn.pure (vM N l4 x76 h_7) rfl rfl)) rfl (sv (bN rfl c5))) <| dO 14 7 rfl rfl <| DrawG.pick (n := 13) (i := 8) (by decide +kernel) rfl (gU (fun _ => (Vm.Fn.pure (vM N l5 x78 h_9) rfl rfl)) rfl (sv (bN rfl c5))) <| kP 12 9 rfl rfl (aEJ ..) ?_
              refine zp 11 10 rfl (bH (v := (eI .u32 aH)) (aI rfl (bZ rfl (bX cA rfl rfl)))) ?_
              refine DrawG.pick (n := 10) (i := 11) (by decide +kernel) rfl (gC (v := (.sl 7 0 x81.length 1 false)) (h' := [some ⟨26, [(eI .u32 aC), (.row none 35 (aB.map aL)), (.row none 2 (aA.map aM)), (eI .u32 aH)]⟩, some ⟨44, [(eI .i64 bJ), (.row none 1 (bA.map (eI .u8)))]⟩, some ⟨36, (List.replicate 32 0).map (eI .u8)⟩, none, none, none, some ⟨5, x72.map (eI .u8)⟩, some ⟨5, x81.map (eI .u8)⟩]) (zB (rD N aH x81 h_11) []) rfl (fun _ => ⟨_, rfl⟩) (sv (bN rfl d5))) <| dO 9 12 rfl rfl ?_
              refine zp 8 13 rfl (bH (v := (eI .u32 (IntKind.u32.wrap vi))) (dA rfl (cE _ ⟨_, dN⟩ cA rfl))) ?_
              refine DrawG.pick (n := 7) (i := 14) (by decide +kernel) rfl (gC (v := (.sl 8 0 x84.length 1 false)) (h' := [some ⟨26, [(eI .u32 aC), (.row none 35 (aB.map aL)), (.row none 2 (aA.map aM)), (eI .u32 aH)]⟩, some ⟨44, [(eI .i64 bJ), (.row none 1 (bA.map (eI .u8)))]⟩, some ⟨36, (List.replicate 32 0).map (eI .u8)⟩, none, none, none, some ⟨5, x72.map (eI .u8)⟩, some ⟨5, x81.map (eI .u8)⟩, some ⟨5, x84.map (eI .u8)⟩]) (zB (rD N (IntKind.u32.wrap vi) x84 h_13) []) rfl (fun _ => ⟨_, rfl⟩) (sv (bN rfl d5))) ?_
              refine zp 6 15 rfl (bH (v := (.agg [(eI .i64 bJ), (.row none 1 (bA.map (eI .u8)))])) (aI rfl (bZ rfl (bQ (ds := [(eI .i64 bJ), (.row none 1 (bA.map (eI .u8)))]) iO rfl zl rfl)))) ?_
              refine DrawG.pick (n := 5) (i := 16) (by decide +kernel) rfl (gC (v := (.sl 9 0 x86.length 1 false)) (h' := [some ⟨26, [(eI .u32 aC), (.row none 35 (aB.map aL)), (.row none 2 (aA.map aM)), (eI .u32 aH)]⟩, some ⟨44, [(eI .i64 bJ), (.row none 1 (bA.map (eI .u8)))]⟩, some ⟨36, (List.replicate 32 0).map (eI .u8)⟩, none, none, none, some ⟨5, x72.map (eI .u8)⟩, some ⟨5, x81.map (eI .u8)⟩, some ⟨5, x84.map (eI .u8)⟩, some ⟨5, x86.map (eI .u8)⟩]) (zB (aAy N bJ bA x86 h_15) []) rfl (fun _ => ⟨_, rfl⟩) (sv (bN rfl d5))) ?_
              refine DrawG.gh (n := 4) (by decide +kernel) (zV [(1, (eI .i64 vi)), (3, (.ptr 0 0)), (5, (.ptr 1 0)), (6, (.ptr 2 0)), (8, (.row none 1 (l3.map (eI .u8)))), (9, (.row none 1 (l4.map (eI .u8)))), (10, (.row none 1 (l5.map (eI .u8)))), (70, (.ptr 0 0)), (71, (eI .u32 aC)), (72, (.row none 1 (x72.map (eI .u8)))), (73, (.row none 1 (l3.map (eI .u8)))), (74, (.row none 1 (x74.map (eI .u8)))), (75, (.row none 1 (l4.map (eI .u8)))), (76, (.row none 1 (x76.map (eI .u8)))), (77, (.row none 1 (l5.map (eI .u8)))), (78, (.row none 1 (x78.map (eI .u8)))), (79, (.ptr 0 3)), (80, (eI .u32 aH)), (81, (.sl 7 0 x81.length 1 false)), (82, (eI .i64 vi)), (83, (eI .u32 (IntKind.u32.wrap vi))), (84, (.sl 8 0 x84.length 1 false)), (85, (.agg [(eI .i64 bJ), (.row none 1 (bA.map (eI .u8)))])), (86, (.sl 9 0 x86.length 1 false))] [some ⟨26, [(eI .u32 aC), (.row none 35 (aB.map aL)), (.row none 2 (aA.map aM)), (eI .u32 aH)]⟩, some ⟨44, [(eI .i64 bJ), (.row none 1 (bA.map (eI .u8)))]⟩, some ⟨36, (List.replicate 32 0).map (eI .u8)⟩, none, none, none, none, some ⟨5, x81.map (eI .u8)⟩, some ⟨5, x84.map (eI .u8)⟩, some ⟨5, x86.map (eI .u8)⟩]) ?_
              refine DrawG.gh (n := 4) (by decide +kernel) (zV [(1, (eI .i64 vi)), (3, (.ptr 0 0)), (5, (.ptr 1 0)), (6, (.ptr 2 0)), (8, (.row none 1 (l3.map (eI .u8)))), (9, (.row none 1 (l4.map (eI .u8)))), (10, (.row none 1 (l5.map (eI .u8)))), (70, (.ptr 0 0)), (71, (eI .u32 aC)), (72, (.row none 1 (x72.map (eI .u8)))), (73, (.row none 1 (l3.map (eI .u8)))), (74, (.row none 1 (x74.map (eI .u8)))), (75, (.row none 1 (l4.map (eI .u8)))), (76, (.row none 1 (x76.map (eI .u8)))), (77, (.row none 1 (l5.map (eI .u8)))), (78, (.row none 1 (x78.map (eI .u8)))), (79, (.ptr 0 3)), (80, (eI .u32 aH)), (81, (.row none 1 (x81.map (eI .u8)))), (82, (eI .i64 vi)), (83, (eI .u32 (IntKind.u32.wrap vi))), (84, (.sl 8 0 x84.length 1 false)), (85, (.agg [(eI .i64 bJ), (.row none 1 (bA.map (eI .u8)))])), (86, (.sl 9 0 x86.length 1 false))] [some ⟨26, [(eI .u32 aC), (.row none 35 (aB.map aL)), (.row none 2 (aA.map aM)), (eI .u32 aH)]⟩, some ⟨44, [(eI .i64 bJ), (.row none 1 (bA.map (eI .u8)))]⟩, some ⟨36, (List.replicate 32 0).map (eI .u8)⟩, none, none, none, none, none, some ⟨5, x84.map (eI .u8)⟩, some ⟨5, x86.map (eI .u8)⟩]) ?_
              refine DrawG.gh (n := 4) (by decide +kernel) (zV [(1, (eI .i64 vi)), (3, (.ptr 0 0)), (5, (.ptr 1 0)), (6, (.ptr 2 0)), (8, (.row none 1 (l3.map (eI .u8)))), (9, (.row none 1 (l4.map (eI .u8)))), (10, (.row none 1 (l5.map (eI .u8)))), (70, (.ptr 0 0)), (71, (eI .u32 aC)), (72, (.row none 1 (x72.map (eI .u8)))), (73, (.row none 1 (l3.map (eI .u8)))), (74, (.row none 1 (x74.map (eI .u8)))), (75, (.row none 1 (l4.map (eI .u8)))), (76, (.row none 1 (x76.map (eI .u8)))), (77, (.row none 1 (l5.map (eI .u8)))), (78, (.row none 1 (x78.map (eI .u8)))), (79, (.ptr 0 3)), (80, (eI .u32 aH)), (81, (.row none 1 (x81.map (eI .u8)))), (82, (eI .i64 vi)), (83, (eI .u32 (IntKind.u32.wrap vi))), (84, (.row none 1 (x84.map (eI .u8)))), (85, (.agg [(eI .i64 bJ), (.row none 1 (bA.map (eI .u8)))])), (86, (.sl 9 0 x86.length 1 false))] [some ⟨26, [(eI .u32 aC), (.row none 35 (aB.map aL)), (.row none 2 (aA.map aM)), (eI .u32 aH)]⟩, some ⟨44, [(eI .i64 bJ), (.row none 1 (bA.map (eI .u8)))]⟩, some ⟨36, (List.replicate 32 0).map (eI .u8)⟩, none, none, none, none, none, none, some ⟨5, x86.map (eI .u8)⟩]) ?_
              refine DrawG.gh (n := 4) (by decide +kernel) (zV [(1, (eI .i64 vi)), (3, (.ptr 0 0)), (5, (.ptr 1 0)), (6, (.ptr 2 0)), (8, (.row none 1 (l3.map (eI .u8)))), (9, (.row none 1 (l4.map (eI .u8)))), (10, (.row none 1 (l5.map (eI .u8)))), (70, (.ptr 0 0)), (71, (eI .u32 aC)), (72, (.row none 1 (x72.map (eI .u8)))), (73, (.row none 1 (l3.map (eI .u8)))), (74, (.row none 1 (x74.map (eI .u8)))), (75, (.row none 1 (l4.map (eI .u8)))), (76, (.row none 1 (x76.map (eI .u8)))), (77, (.row none 1 (l5.map (eI .u8)))), (78, (.row none 1 (x78.map (eI .u8)))), (79, (.ptr 0 3)), (80, (eI .u32 aH)), (81, (.row none 1 (x81.map (eI .u8)))), (82, (eI .i64 vi)), (83, (eI .u32 (IntKind.u32.wrap vi))), (84, (.row none 1 (x84.map (eI .u8)))), (85, (.agg [(eI .i64 bJ), (.row none 1 (bA.map (eI .u8)))])), (86, (.row none 1 (x86.map (eI .u8))))] [some ⟨26, [(eI .u32 aC), (.row none 35 (aB.map aL)), (.row none 2 (aA.map aM)), (eI .u32 aH)]⟩, some ⟨44, [(eI .i64 bJ), (.row none 1 (bA.map (eI .u8)))]⟩, some ⟨36, (List.replicate 32 0).map (eI .u8)⟩, none, none, none, none, none, none, none]) ?_
              refine zp 4 17 rfl (bH (v := (.sl 10 0 7 1 false)) (h' := [some ⟨26, [(eI .u32 aC), (.row none 35 (aB.map aL)), (.row none 2 (aA.map aM)), (eI .u32 aH)]⟩, some ⟨44, [(eI .i64 bJ), (.row none 1 (bA.map (eI .u8)))]⟩, some ⟨36, (List.replicate 32 0).map (eI .u8)⟩, none, none, none, none, none, none, none, some ⟨42, [x72, x74, x76, x78, x81, x84, x86].map (eL 1 (eI .u8))⟩]) (e9 rfl (oQ (xs := [x72, x74, x76, x78, x81, x84, x86].map (eL 1 (eI .u8))) b5 bG zl zl rfl rfl rfl rfl rfl rfl rfl))) ?_
              refine DrawG.pick (n := 3) (i := 18) (by decide +kernel) rfl (gC (v := (.sl 11 0 x88.length 1 false)) (h' := [some ⟨26, [(eI .u32 aC), (.row none 35 (aB.map aL)), (.row none 2 (aA.map aM)), (eI .u32 aH)]⟩, some ⟨44, [(eI .i64 bJ), (.row none 1 (bA.map (eI .u8)))]⟩, some ⟨36, (List.replicate 32 0).map (eI .u8)⟩, none, none, none, none, none, none, none, some ⟨42, [x72, x74, x76, x78, x81, x84, x86].map (eL 1 (eI .u8))⟩, some ⟨5, x88.map (eI .u8)⟩]) (zL (aCm N [x72, x74, x76, x78, x81, x84, x86] x88 h_17) [] [10]) rfl (fun _ => ⟨_, rfl⟩) (sv (bN rfl d5))) ?_
              refine DrawG.pick (n := 2) (i := 19) (by decide +kernel) rfl (gC (v := (.agg (x89.map (eI .u8)))) (h' := [some ⟨26, [(eI .u32 aC), (.row none 35 (aB.map aL)), (.row none 2 (aA.map aM)), (eI .u32 aH)]⟩, some ⟨44, [(eI .i64 bJ), (.row none 1 (bA.map (eI .u8)))]⟩, some ⟨36, (List.replicate 32 0).map (eI .u8)⟩, none, none, none, none, none, none, none, some ⟨42, [x72, x74, x76, x78, x81, x84, x86].map (eL 1 (eI .u8))⟩, some ⟨5, x88.map (eI .u8)⟩]) (zL (aBS N (⟨#[108, 105, 103, 104, 116, 99, 108, 105, 101, 110, 116, 47, 115, 112, 101, 110, 100]⟩) x88 x89 h_19) [] [11]) rfl (fun _ => ⟨[], by simp⟩) (sv (bN rfl d5))) ?_
              refine zp 1 20 rfl (jV (h' := [some ⟨26, [(eI .u32 aC), (.row none 35 (aB.map aL)), (.row none 2 (aA.map aM)), (eI .u32 aH)]⟩, some ⟨44, [(eI .i64 bJ), (.row none 1 (bA.map (eI .u8)))]⟩, some ⟨36, x89.map (eI .u8)⟩, none, none, none, none, none, none, none, some ⟨42, [x72, x74, x76, x78, x81, x84, x86].map (eL 1 (eI .u8))⟩, some ⟨5, x88.map (eI .u8)⟩]) (aU rfl rfl (eQ (E := (eI .u8)) (l := List.replicate 32 0) dL rfl rfl (fun _ => rfl) rfl (aP h_21) rfl))) <| zp 0 21 rfl (bH (v := (eI .i64 0)) (bE rfl)) ?_
              refine DrawG.nil (by decide +kernel) <| Ex.then_mk <| AB.ret ?_
              obtain rfl := sj hr
              exact bU (r1 := (.tup [(.agg (x89.map (eI .u8))), (eI .i64 0)])) (cL Tryd.results16 (jU rfl (b6 (E := (eI .u8)) (l := x89) dL rfl rfl (aP h_21))) (iS rfl)) (Ghost.rn [] rfl rfl (FLe.le rfl (V.le_tup (V.les_cons (V.le_arr (fun _ => rfl)) (V.les_cons (V.le_refl _ _) V.les_nil))) FLe.nil) HLe.nil rfl)
            refine zq <| cQ rfl (o7 ..) <| dP rfl rfl jZ rfl <| eT rfl jZ <| zI <| zn ?_
            obtain ⟨res5, hL5, hr⟩ := aN hr
            refine AB.block ?_
            refine AB.loopN (fun m s h => ∃ (x61 : Int) (l5_1 : List Int), gM N aC aB aA aH vi bJ bA l3 l4 m x61 l5_1 = some res5 ∧ Ghost 0 s h (aV 90 [(1, (eI .i64 vi)), (3, (.ptr 0 0)), (5, (.ptr 1 0)), (6, (.ptr 2 0)), (8, (.sl 3 0 l3.length 1 false)), (9, (.sl 4 0 l4.length 1 false)), (10, (.sl 5 0 l5_1.length 1 false)), (59, (.row none 2 (aA.map aM))), (60, (eI .i64 (aA.length : Int))), (61, (eI .i64 x61))]) [some ⟨26, [(eI .u32 aC), (.row none 35 (aB.map aL)), (.row none 2 (aA.map aM)), (eI .u32 aH)]⟩, some ⟨44, [(eI .i64 bJ), (.row none 1 (bA.map (eI .u8)))]⟩, some ⟨36, (List.replicate 32 0).map (eI .u8)⟩, some ⟨5, l3.map (eI .u8)⟩, some ⟨5, l4.map (eI .u8)⟩, some ⟨5, l5_1.map (eI .u8)⟩]) (n := N) ⟨0, [], hL5, (Ghost.trans (Ghost.virt (fr' := [(1, (eI .i64 vi)), (3, (.ptr 0 0)), (5, (.ptr 1 0)), (6, (.ptr 2 0)), (8, (.sl 3 0 l3.length 1 false)), (9, (.sl 4 0 l4.length 1 false)), (10, (.sl 5 0 0 1 false)), (59, (.row none 2 (aA.map aM))), (60, (eI .i64 (aA.length : Int))), (61, (eI .i64 0))]) (h1 := [some ⟨26, [(eI .u32 aC), (.row none 35 (aB.map aL)), (.row none 2 (aA.map aM)), (eI .u32 aH)]⟩, some ⟨44, [(eI .i64 bJ), (.row none 1 (bA.map (eI .u8)))]⟩, some ⟨36, (List.replicate 32 0).map (eI .u8)⟩, some ⟨5, l3.map (eI .u8)⟩, some ⟨5, l4.map (eI .u8)⟩]) 5 (FLe.same rfl (FLe.same rfl (FLe.same rfl (FLe.same rfl (FLe.same rfl (FLe.same rfl (FLe.le rfl (V.le_virt rfl) (FLe.same rfl (FLe.same rfl (FLe.same rfl FLe.nil)))))))))) (HLv.live (V.les_refl _ _) rfl (HLv.live (V.les_refl _ _) rfl (HLv.live (V.les_refl _ _) (all_map (fun _ => rfl) _) (HLv.live (V.les_refl _ _) (all_map (fun _ => rfl) _) (HLv.live (V.les_refl _ _) (all_map (fun _ => rfl) _) HLv.nil)))))) (Ghost.rn [0, 1, 2, 3, 4, 5] rfl rfl (FLe.same rfl (FLe.same rfl (FLe.same rfl (FLe.same rfl (FLe.same rfl (FLe.same rfl (FLe.le rfl (by first | exact V.le_refl _ _ | (simp only [cN, cO]; exact V.le_refl _ _)) (FLe.same rfl (FLe.same rfl (FLe.same rfl FLe.nil)))))))))) (HLe.live rfl (V.les_refl _ _) rfl (HLe.live rfl (V.les_refl _ _) rfl (HLe.live rfl (mC (fun _ => rfl) _) (all_map (fun _ => rfl) _) (HLe.live rfl (mC (fun _ => rfl) _) (all_map (fun _ => rfl) _) (HLe.live rfl (mC (fun _ => rfl) _) (all_map (fun _ => rfl) _) (HLe.live rfl V.les_nil rfl HLe.nil)))))) rfl))⟩ (by rintro s h ⟨_, _, h0, _⟩; simp [gM] at h0) ?_
            rintro m5 s h ⟨x61, l5_1, hr5, hg⟩
            refine AB.ghost hg ?_
            clear hg hL5
            rw [gM] at hr5
            refine zq <| eY rfl rfl <| zn <| AB.seq ?_
            refine zk hr5 rfl (fun h22 hr5 => ?_) (fun h22 hr5 => ?_)
            · refine AB.skip <| Ex.then_mk <| AB.seq <| AB.block <| AB.seq ?_
              obtain ⟨x63, h_23, hr5⟩ := aN hr5
              refine AB.rw <| zw (bP rfl rfl (kH jZ iO h_23)) <| zw (v := (.agg [(eI .i64 x63.Value), (.row none 1 (x63.Script.map (eI .u8)))])) (aI rfl (jM h_23 (bQ (ds := [(eI .i64 x63.Value), (.row none 1 (x63.Script.map (eI .u8)))]) iO rfl zl rfl))) <| zh (v := (.ptr 6 0)) (cK (B := some ⟨44, [(eI .i64 0), (.row (some true) 1 [])]⟩) iO rfl rfl) ?_
              refine zt (aU rfl rfl (eR iO rfl rfl rfl zl rfl)) ?_
              refine zn ?_
              obtain ⟨x67, h_24, hr5⟩ := aN hr5
              obtain ⟨x68, h_25, hr5⟩ := aN hr5
              refine AB.rw <| zm rfl <| zw (v := (.agg [(eI .i64 x63.Value), (.row none 1 (x63.Script.map (eI .u8)))])) (aI rfl (bZ rfl (bQ (ds := [(eI .i64 x63.Value), (.row none 1 (x63.Script.map (eI .u8)))]) iO rfl zl rfl))) <| wC (v := (.sl 7 0 x67.length 1 false)) rfl (zB (aAy N x63.Value x63.Script x67 h_24) []) ?_
              refine zh (v := (.sl 8 0 x68.length 1 false)) (dZ rfl rfl (nD (E := (eI .u8)) rfl bG cC ⟨rfl, rfl, zl⟩ rfl (pU rfl rfl) h_25 rfl rfl)) ?_
              refine za rfl <| OpsW.nil <| Ex.inBlock_mk <| Ex.then_mk <| AB.rw <| dG rfl rfl <| zm rfl <| zn ?_
              exact ⟨IntKind.i64.wrap (x61 + 1), x68, hr5, (zG [0, 1, 2, 3, 4, 8])⟩
            · refine AB.exit <| Ex.then_exit_mk <| Ex.then_exit_mk <| Ex.inBlock_same_mk ?_
              obtain rfl := sj hr5
              refine Ex.then_mk ?_
              exact hG4 _ _ _ _ (zG [0, 1, 2, 3, 4, 5]) (J4 l5_1 hr)
          refine zq <| cQ rfl (gL ..) <| dP rfl rfl eG rfl <| eT rfl eG <| zI <| zn ?_
          obtain ⟨res6, hL6, hr⟩ := aN hr
          refine AB.block ?_
          refine AB.loopN (fun m s h => ∃ (x43 : Int) (i3 : List Int) (s8 : List Int), jI N aC aB aA aH vi bJ bA m x43 i3 s8 = some res6 ∧ Ghost 0 s h (aV 90 [(1, (eI .i64 vi)), (3, (.ptr 0 0)), (5, (.ptr 1 0)), (6, (.ptr 2 0)), (8, (.sl 3 0 i3.length 1 false)), (9, (.sl 4 0 s8.length 1 false)), (10, (.row (some true) 1 [])), (41, (.row none 35 (aB.map aL))), (42, (eI .i64 (aB.length : Int))), (43, (eI .i64 x43))]) [some ⟨26, [(eI .u32 aC), (.row none 35 (aB.map aL)), (.row none 2 (aA.map aM)), (eI .u32 aH)]⟩, some ⟨44, [(eI .i64 bJ), (.row none 1 (bA.map (eI .u8)))]⟩, some ⟨36, (List.replicate 32 0).map (eI .u8)⟩, some ⟨5, i3.map (eI .u8)⟩, some ⟨5, s8.map (eI .u8)⟩]) (n := N) ⟨0, [], [], hL6, (Ghost.trans (Ghost.virt (fr' := [(1, (eI .i64 vi)), (3, (.ptr 0 0)), (5, (.ptr 1 0)), (6, (.ptr 2 0)), (8, (.sl 3 0 0 1 false)), (9, (.row (some true) 1 [])), (10, (.row (some true) 1 [])), (41, (.row none 35 (aB.map aL))), (42, (eI .i64 (aB.length : Int))), (43, (eI .i64 0))]) (h1 := [some ⟨26, [(eI .u32 aC), (.row none 35 (aB.map aL)), (.row none 2 (aA.map aM)), (eI .u32 aH)]⟩, some ⟨44, [(eI .i64 bJ), (.row none 1 (bA.map (eI .u8)))]⟩, some ⟨36, (List.replicate 32 0).map (eI .u8)⟩]) 5 (FLe.same rfl (FLe.same rfl (FLe.same rfl (FLe.same rfl (FLe.le rfl (V.le_virt rfl) (FLe.same rfl (FLe.same rfl (FLe.same rfl (FLe.same rfl (FLe.same rfl FLe.nil)))))))))) (HLv.live (V.les_refl _ _) rfl (HLv.live (V.les_refl _ _) rfl (HLv.live (V.les_refl _ _) (all_map (fun _ => rfl) _) HLv.nil)))) (Ghost.trans (Ghost.virt (fr' := [(1, (eI .i64 vi)), (3, (.ptr 0 0)), (5, (.ptr 1 0)), (6, (.ptr 2 0)), (8, (.sl 3 0 0 1 false)), (9, (.sl 4 0 0 1 false)), (10, (.row (some true) 1 [])), (41, (.row none 35 (aB.map aL))), (42, (eI .i64 (aB.length : Int))), (43, (eI .i64 0))]) (h1 := [some ⟨26, [(eI .u32 aC), (.row none 35 (aB.map aL)), (.row none 2 (aA.map aM)), (eI .u32 aH)]⟩, some ⟨44, [(eI .i64 bJ), (.row none 1 (bA.map (eI .u8)))]⟩, some ⟨36, (List.replicate 32 0).map (eI .u8)⟩, some ⟨5, [].map (eI .u8)⟩]) 5 (FLe.same rfl (FLe.same rfl (FLe.same rfl (FLe.same rfl (FLe.same rfl (FLe.le rfl (V.le_virt rfl) (FLe.same rfl (FLe.same rfl (FLe.same rfl (FLe.same rfl FLe.nil)))))))))) (HLv.live (V.les_refl _ _) rfl (HLv.live (V.les_refl _ _) rfl (HLv.live (V.les_refl _ _) (all_map (fun _ => rfl) _) (HLv.live (V.les_refl _ _) (all_map (fun _ => rfl) _) HLv.nil))))) (Ghost.rn [0, 1, 2, 3, 4] rfl rfl (FLe.same rfl (FLe.same rfl (FLe.same rfl (FLe.same rfl (FLe.le rfl (by first | exact V.le_refl _ _ | (simp only [cN, cO]; exact V.le_refl _ _)) (FLe.le rfl (by first | exact V.le_refl _ _ | (simp only [cN, cO]; exact V.le_refl _ _)) (FLe.same rfl (FLe.same rfl (FLe.same rfl (FLe.same rfl FLe.nil)))))))))) (HLe.live rfl (V.les_refl _ _) rfl (HLe.live rfl (V.les_refl _ _) rfl (HLe.live rfl (mC (fun _ => rfl) _) (all_map (fun _ => rfl) _) (HLe.live rfl V.les_nil rfl (HLe.live rfl V.les_nil rfl HLe.nil))))) rfl)))⟩ (by rintro s h ⟨_, _, _, h0, _⟩; simp [jI] at h0) ?_
          rintro m6 s h ⟨x43, i3, s8, hr6, hg⟩
          refine AB.ghost hg ?_
          clear hg hL6
          rw [jI] at hr6
          refine zq <| eY rfl rfl <| zn <| AB.seq ?_
          refine zk hr6 rfl (fun h26 hr6 => ?_) (fun h26 hr6 => ?_)
          · refine AB.skip <| Ex.then_mk <| AB.seq <| AB.block <| AB.seq ?_
            obtain ⟨x45, h_27, hr6⟩ := aN hr6
            refine AB.rw <| zw (bP rfl rfl (kH eG gD h_27)) <| zw (v := (aL x45)) (aI rfl (jM h_27 (bQ (ds := (aX (eI .u8) x45.Prev.Tx [(eI .u32 x45.Prev.Index), (eI .u32 x45.Sequence), (.row none 1 (x45.Witness.map (eL 1 (eI .u8))))])) gD rfl zl rfl))) <| zh (v := (.ptr 5 0)) (cK (B := some ⟨41, (aX (eI .u8) (List.replicate 32 0) [(eI .u32 0), (eI .u32 0), (.row (some true) 1 [])])⟩) gD rfl rfl) ?_
            refine zN (h' := [some ⟨26, [(eI .u32 aC), (.row none 35 (aB.map aL)), (.row none 2 (aA.map aM)), (eI .u32 aH)]⟩, some ⟨44, [(eI .i64 bJ), (.row none 1 (bA.map (eI .u8)))]⟩, some ⟨36, (List.replicate 32 0).map (eI .u8)⟩, some ⟨5, i3.map (eI .u8)⟩, some ⟨5, s8.map (eI .u8)⟩, some ⟨41, cH x45⟩]) (aU rfl rfl (eR gD rfl rfl rfl zl rfl)) <| zn <| AB.seq ?_
            obtain ⟨x50, h_28, hr6⟩ := aN hr6
            obtain ⟨x51, h_29, hr6⟩ := aN hr6
            refine AB.rw <| zm rfl <| cQ rfl (aCN ..) <| zw (v := (jQ x45.Prev)) (aI rfl (bZ rfl (bQ (ds := (aX (eI .u8) x45.Prev.Tx [(eI .u32 x45.Prev.Index)])) jA rfl zl rfl))) <| wC (v := (.sl 6 0 x50.length 1 false)) rfl (zB (aC1 N x45.Prev.Tx x45.Prev.Index x50 h_28) []) ?_
            refine zh (v := (.sl 7 0 x51.length 1 false)) (dZ rfl rfl (nD (E := (eI .u8)) rfl bG cC ⟨rfl, rfl, zl⟩ rfl (pU rfl rfl) h_29 rfl rfl)) ?_
            refine za rfl <| zn ?_
            obtain ⟨x55, h_30, hr6⟩ := aN hr6
            obtain ⟨x56, h_31, hr6⟩ := aN hr6
            refine AB.rw <| zm rfl <| cQ rfl (aER ..) <| dP rfl rfl cA rfl <| wC (v := (.sl 8 0 x55.length 1 false)) rfl (zB (rD N x45.Sequence x55 h_30) []) ?_
            refine zh (v := (.sl 9 0 x56.length 1 false)) (dZ rfl rfl (nD (E := (eI .u8)) rfl bG cC ⟨rfl, rfl, zl⟩ rfl (pU rfl rfl) h_31 rfl rfl)) ?_
            refine za rfl <| OpsW.nil <| Ex.inBlock_mk <| Ex.then_mk <| AB.rw <| dG rfl rfl <| zm rfl <| zn ?_
            exact ⟨IntKind.i64.wrap (x43 + 1), x51, x56, hr6, (zG [0, 1, 2, 7, 9])⟩
          · refine AB.exit <| Ex.then_exit_mk <| Ex.then_exit_mk <| Ex.inBlock_same_mk ?_
            obtain rfl := sj hr6
            refine Ex.then_mk ?_
            exact hG3 _ _ _ _ (zG [0, 1, 2, 3, 4]) (J3 i3 s8 hr)
      rcases Bool.eq_false_or_eq_true (decide (vi < 0)) with h32 | h32
      · replace hr := gE hr h32
        refine AB.rw <| zm rfl <| eY rfl rfl <| zm rfl <| zx h32 <| zx h32 <| zx h32 <| zx h32 <| zx h32 <| zw (v := (eB true)) (c9 rfl h32 rfl) <| zn ?_
        exact hG2 _ _ _ _ (zG [0, 1, 2]) (J2 true hr)
      · replace hr := gB hr h32
        refine AB.rw <| zm rfl <| eY rfl rfl <| zm rfl <| zg h32 (bI rfl) <| zg (v := (.ptr 0 1)) h32 (eE rfl (gL ..)) <| zg (v := (.row none 35 (aB.map aL))) h32 (aI rfl (bZ rfl (bX eG rfl rfl))) <| zg (v := (eI .i64 (aB.length : Int))) h32 (gQ rfl (zP eG)) <| zg h32 (a9 rfl rfl (wJ ..)) <| oB rfl h32 rfl <| zn ?_
        exact hG2 _ _ _ _ (zG [0, 1, 2]) (J2 (decide ((aB.length : Int) ≤ vi)) hr)
  obtain ⟨x16, h_33, hr⟩ := aN hr
  rcases Bool.eq_false_or_eq_true (!x16) with h34 | h34
  · replace hr := gE hr h34
    refine AB.rw <| zw (v := (.agg [(eI .u32 aC), (.row none 35 (aB.map aL)), (.row none 2 (aA.map aM)), (eI .u32 aH)])) (aI rfl (bZ rfl (bQ (ds := [(eI .u32 aC), (.row none 35 (aB.map aL)), (.row none 2 (aA.map aM)), (eI .u32 aH)]) jY rfl zl rfl))) <| wC rfl (Vm.Fn.pure (xQ N aC aB aA aH x16 h_33) rfl rfl) <| zw (f9 rfl (dU _ _)) <| zm rfl <| zx h34 <| zx h34 <| zx h34 <| zw (v := (eB true)) (c9 rfl h34 rfl) <| zm rfl <| zx rfl <| zx rfl <| zx rfl <| zx rfl ?_
    refine zw (v := (eB true)) (c9 rfl rfl rfl) <| zn ?_
    exact hG1 _ _ _ _ (zG [0, 1, 2]) (J1 true hr)
  · replace hr := gB hr h34
    rcases Bool.eq_false_or_eq_true (decide (bJ < 0)) with h35 | h35
    · replace hr := gE hr h35
      refine AB.rw <| zw (v := (.agg [(eI .u32 aC), (.row none 35 (aB.map aL)), (.row none 2 (aA.map aM)), (eI .u32 aH)])) (aI rfl (bZ rfl (bQ (ds := [(eI .u32 aC), (.row none 35 (aB.map aL)), (.row none 2 (aA.map aM)), (eI .u32 aH)]) jY rfl zl rfl))) <| wC rfl (Vm.Fn.pure (xQ N aC aB aA aH x16 h_33) rfl rfl) <| zw (f9 rfl (dU _ _)) <| zm rfl <| zg (v := (.ptr 1 0)) h34 (eE rfl (mE ..)) <| zg (v := (eI .i64 bJ)) h34 (aI rfl (bZ rfl (bX uQ rfl rfl))) ?_
      refine zg h34 (a9 rfl rfl (sO ..)) <| oB rfl h34 rfl <| zm rfl <| zx h35 <| zx h35 <| zx h35 <| zx h35 <| zw (v := (eB true)) (c9 rfl h35 rfl) <| zn ?_
      exact hG1 _ _ _ _ (zG [0, 1, 2]) (J1 true hr)
    · replace hr := gB hr h35
      refine AB.rw <| zw (v := (.agg [(eI .u32 aC), (.row none 35 (aB.map aL)), (.row none 2 (aA.map aM)), (eI .u32 aH)])) (aI rfl (bZ rfl (bQ (ds := [(eI .u32 aC), (.row none 35 (aB.map aL)), (.row none 2 (aA.map aM)), (eI .u32 aH)]) jY rfl zl rfl))) <| wC rfl (Vm.Fn.pure (xQ N aC aB aA aH x16 h_33) rfl rfl) <| zw (f9 rfl (dU _ _)) <| zm rfl <| zg (v := (.ptr 1 0)) h34 (eE rfl (mE ..)) <| zg (v := (eI .i64 bJ)) h34 (aI rfl (bZ rfl (bX uQ rfl rfl))) ?_
      refine zg h34 (a9 rfl rfl (sO ..)) <| oB rfl h34 rfl <| zm rfl <| zg (v := (.ptr 1 1)) h35 (eE rfl (wI ..)) <| zg (v := (.row none 1 (bA.map (eI .u8)))) h35 (aI rfl (bZ rfl (bX bG rfl rfl))) <| zg (v := (eI .i64 (bA.length : Int))) h35 (gQ rfl (zP bG)) <| zg h35 (a9 rfl rfl (mS ..)) <| oB rfl h35 rfl <| zn ?_
      exact hG1 _ _ _ _ (zG [0, 1, 2]) (J1 (decide (520 < (bA.length : Int))) hr)
theorem aEh (N : Nat) (code : Int) (r : Bool) (hr : rR N code = some r) :
    Vm.Fn Tryd.prog 58 [] [(eI .i64 code)] (eB r) [] := by
  refine zf Tryd.func58 Tryd.ntmps58 ?_
  unfold rR at hr
  refine zq <| zj <| zn ?_
  refine AB.seq_g fun K1 hK1 hG1 => ?_
  have J1 : ∀ (x2 : Bool), n9 N x2 = some r → K1 (aV 9 [(2, (eB x2))]) [] := by
    intro x2 hr
    unfold n9 at hr
    refine hK1 _ _ <| AB.ret ?_
    obtain rfl := sj hr
    exact bW Tryd.results58 []
  rcases Bool.eq_false_or_eq_true (decide (1 ≤ code)) with h1 | h1
  · replace hr := gE hr h1
    refine AB.rw <| zm rfl <| zY rfl rfl <| zm rfl <| zg h1 (bI rfl) <| zg h1 (a9 rfl rfl (yU ..)) <| zpT rfl h1 rfl <| za rfl <| zn ?_
    exact hG1 _ _ _ _ (zG []) (J1 (decide (code ≤ 17)) hr)
  · replace hr := gB hr h1
    refine AB.rw <| zm rfl <| zY rfl rfl <| zm rfl <| zx h1 <| zx h1 <| zw (v := (eB false)) (fV rfl h1 rfl) <| za rfl <| zn ?_
    exact hG1 _ _ _ _ (zG []) (J1 false hr)
theorem aB0 (N : Nat) (parts : List (List Int)) (r : (List Int)) (hr : pR N parts = some r) :
    Vm.Fn Tryd.prog 48 [] [(.row none 1 (parts.map (eL 1 (eI .u8))))] (.sl 0 0 r.length 1 false) [some ⟨5, r.map (eI .u8)⟩] := by
  refine zf Tryd.func48 Tryd.ntmps48 ?_
  unfold pR at hr
  refine zq <| zw (v := (.row (some true) 1 [])) (bE rfl) <| zn <| zq <| zw (v := (.row (some true) 1 [])) (bE rfl) <| zn ?_
  refine AB.seq_g fun K1 hK1 hG1 => ?_
  have J1 : ∀ (l0 : List Int), xS N l0 = some r → K1 (aV 17 [(3, (.sl 0 0 l0.length 1 false))]) [some ⟨5, l0.map (eI .u8)⟩] := by
    intro l0 hr
    unfold xS at hr
    refine hK1 _ _ <| zq <| zm rfl <| za rfl <| zn <| AB.ret ?_
    obtain rfl := sj hr
    exact bW Tryd.results48 [0]
  refine zq <| zm rfl <| eT rfl b5 <| zI <| zn ?_
  obtain ⟨cL, hL2, hr⟩ := aN hr
  refine AB.block ?_
  refine AB.loopN (fun m s h => ∃ (x8 : Int) (bF : List Int), kR N parts m x8 bF = some cL ∧ Ghost 0 s h (aV 17 [(3, (.sl 0 0 bF.length 1 false)), (6, (.row none 1 (parts.map (eL 1 (eI .u8))))), (7, (eI .i64 (parts.length : Int))), (8, (eI .i64 x8))]) [some ⟨5, bF.map (eI .u8)⟩]) (n := N) ⟨0, [], hL2, (Ghost.trans (Ghost.virt (fr' := [(3, (.sl 0 0 0 1 false)), (6, (.row none 1 (parts.map (eL 1 (eI .u8))))), (7, (eI .i64 (parts.length : Int))), (8, (eI .i64 0))]) (h1 := []) 5 (FLe.le rfl (V.le_virt rfl) (FLe.same rfl (FLe.same rfl (FLe.same rfl FLe.nil)))) HLv.nil) (Ghost.rn [0] rfl rfl (FLe.le rfl (by first | exact V.le_refl _ _ | (simp only [cN, cO]; exact V.le_refl _ _)) (FLe.same rfl (FLe.same rfl (FLe.same rfl FLe.nil)))) (HLe.live rfl V.les_nil rfl HLe.nil) rfl))⟩ (by rintro s h ⟨_, _, h0, _⟩; simp [kR] at h0) ?_
  rintro m2 s h ⟨x8, bF, hr2, hg⟩
  refine AB.ghost hg ?_
  clear hg hL2
  rw [kR] at hr2
  refine zq <| eY rfl rfl <| zn <| AB.seq ?_
  refine zk hr2 rfl (fun h1 hr2 => ?_) (fun h1 hr2 => ?_)
  · refine AB.skip <| Ex.then_mk <| AB.seq <| AB.block <| AB.seq ?_
    obtain ⟨cG, h_2, hr2⟩ := aN hr2
    refine AB.rw <| zw (bP rfl rfl (kH b5 bG h_2)) <| zw (v := (.row none 1 (cG.map (eI .u8)))) (aI rfl (jM h_2 (bX bG rfl rfl))) <| za rfl <| zn ?_
    obtain ⟨bO, h_3, hr2⟩ := aN hr2
    refine AB.rw <| zm rfl <| zm rfl <| zh (v := (.sl 1 0 bO.length 1 false)) (dZ rfl rfl (nD (E := (eI .u8)) rfl bG cC ⟨rfl, rfl, zl⟩ rfl (aDs (fun _ => rfl)) h_3 rfl rfl)) ?_
    refine za rfl <| OpsW.nil <| Ex.inBlock_mk <| Ex.then_mk <| AB.rw <| dG rfl rfl <| zm rfl <| zn ?_
    exact ⟨IntKind.i64.wrap (x8 + 1), bO, hr2, (zG [1])⟩
  · refine AB.exit <| Ex.then_exit_mk <| Ex.then_exit_mk <| Ex.inBlock_same_mk ?_
    obtain rfl := sj hr2
    refine Ex.then_mk ?_
    exact hG1 _ _ _ _ (zG [0]) (J1 bF hr)
theorem aCU (N : Nat) (vm : Int) (vn : Int) (r : Bool) (hr : o1 N vm vn = some r) :
    Vm.Fn Tryd.prog 59 [] [(eI .i64 vm), (eI .i64 vn)] (eB r) [] := by
  refine zf Tryd.func59 Tryd.ntmps59 ?_
  unfold o1 at hr
  refine zq <| zj <| zn ?_
  refine AB.seq_g fun K1 hK1 hG1 => ?_
  have J1 : ∀ (x4 : Bool), iZ N x4 = some r → K1 (aV 20 [(4, (eB x4))]) [] := by
    intro x4 hr
    unfold iZ at hr
    refine hK1 _ _ <| AB.ret ?_
    obtain rfl := sj hr
    exact bW Tryd.results59 []
  rcases Bool.eq_false_or_eq_true (decide (1 ≤ vn)) with h1 | h1
  · replace hr := gE hr h1
    rcases Bool.eq_false_or_eq_true (decide (vn ≤ 15)) with h2 | h2
    · replace hr := gE hr h2
      rcases Bool.eq_false_or_eq_true (decide (1 ≤ vm)) with h3 | h3
      · replace hr := gE hr h3
        refine AB.rw <| zm rfl <| zY rfl rfl <| zm rfl <| zg h1 (bI rfl) <| zg h1 (a9 rfl rfl (yU ..)) <| zpT rfl h1 rfl <| zm rfl <| zg h2 (bI rfl) <| zg h2 (a9 rfl rfl (wJ ..)) <| zpT rfl h2 rfl <| zm rfl <| zg h3 (bI rfl) <| zg h3 (bI rfl) <| zg h3 (a9 rfl rfl (yU ..)) <| zpT rfl h3 rfl <| za rfl <| zn ?_
        exact hG1 _ _ _ _ (zG []) (J1 (decide (vm ≤ vn)) hr)
      · replace hr := gB hr h3
        refine AB.rw <| zm rfl <| zY rfl rfl <| zm rfl <| zg h1 (bI rfl) <| zg h1 (a9 rfl rfl (yU ..)) <| zpT rfl h1 rfl <| zm rfl <| zg h2 (bI rfl) <| zg h2 (a9 rfl rfl (wJ ..)) <| zpT rfl h2 rfl <| zm rfl <| zx h3 <| zx h3 <| zx h3 <| zw (v := (eB false)) (fV rfl h3 rfl) <| za rfl <| zn ?_
        exact hG1 _ _ _ _ (zG []) (J1 false hr)
    · replace hr := gB hr h2
      refine AB.rw <| zm rfl <| zY rfl rfl <| zm rfl <| zg h1 (bI rfl) <| zg h1 (a9 rfl rfl (yU ..)) <| zpT rfl h1 rfl <| zm rfl <| zx h2 <| zx h2 <| zw (v := (eB false)) (fV rfl h2 rfl) <| zm rfl <| zx rfl <| zx rfl <| zx rfl <| zw (v := (eB false)) (fV rfl rfl rfl) <| za rfl <| zn ?_
      exact hG1 _ _ _ _ (zG []) (J1 false hr)
  · replace hr := gB hr h1
    refine AB.rw <| zm rfl <| zY rfl rfl <| zm rfl <| zx h1 <| zx h1 <| zw (v := (eB false)) (fV rfl h1 rfl) <| zm rfl <| zx rfl <| zx rfl <| zw (v := (eB false)) (fV rfl rfl rfl) <| zm rfl <| zx rfl <| zx rfl <| zx rfl <| zw (v := (eB false)) (fV rfl rfl rfl) <| za rfl <| zn ?_
    exact hG1 _ _ _ _ (zG []) (J1 false hr)
theorem aES (N : Nat) (b : List Int) (r : Int × (List Int) × Int × Int × (List Int) × Int) (hr : tC N b = some r) :
    Vm.Fn Tryd.prog 47 [] [(.row none 1 (b.map (eI .u8)))] (.tup [(.agg [(eI .i64 r.1), (.sl 0 0 r.2.1.length 1 false), (eI .i64 r.2.2.1), (eI .i64 r.2.2.2.1)]), (.row none 1 (r.2.2.2.2.1.map (eI .u8))), (eI .i64 r.2.2.2.2.2)]) [some ⟨5, r.2.1.map (eI .u8)⟩] := by
  refine zf Tryd.func47 Tryd.ntmps47 ?_
  unfold tC at hr
  refine zq <| zh (v := (.ptr 0 0)) (cK (B := some ⟨90, [(eI .i64 0), (.row (some true) 1 []), (eI .i64 0), (eI .i64 0)]⟩) gF rfl rfl) ?_
  refine zw (v := (.row (some true) 1 [])) (bE rfl) <| zi <| zn <| AB.seq ?_
  obtain ⟨x8, h_1, hr⟩ := aN hr
  refine AB.rw <| zm rfl <| zw (bP rfl rfl (kH bG cC h_1)) <| zw (v := (eI .u8 x8)) (aI rfl (jM h_1 (bX cC rfl rfl))) <| zw (dA rfl (cE _ ⟨_, cC⟩ dN rfl)) <| zw (v := (.agg [(eI .i64 (IntKind.i64.wrap x8)), (.row (some true) 1 []), (eI .i64 0), (eI .i64 0)])) (cI rfl (lL gF aGk rfl)) <| zh (v := (.ptr 1 0)) (cK (B := some ⟨90, [(eI .i64 0), (.row (some true) 1 []), (eI .i64 0), (eI .i64 0)]⟩) gF rfl rfl) ?_
  refine zt (aU rfl rfl (eR gF rfl rfl rfl zl rfl)) ?_
  refine zn <| AB.seq <| AB.seq ?_
  obtain ⟨bO, h_2, hr⟩ := aN hr
  refine AB.rw <| cQ rfl (qI ..) <| dP rfl rfl dN rfl <| wC rfl (Vm.Fn.pure (aEh N (IntKind.i64.wrap x8) bO h_2) rfl rfl) <| zw (f9 rfl (dU _ _)) <| zn ?_
  refine zk hr rfl (fun h3 hr => ?_) (fun h3 hr => ?_)
  · refine zq <| zw (v := (.agg [(eI .i64 0), (.row (some true) 1 []), (eI .i64 0), (eI .i64 0)])) (cI rfl (lL gF aGk rfl)) <| zt (aU rfl rfl (eR gF rfl rfl rfl zl rfl)) ?_
    refine zw (v := (.row (some true) 1 [])) (bE rfl) <| zi <| zn <| AB.ret <| Ex.then_ret_mk ?_
    obtain rfl := sj hr
    exact bU (r1 := (.tup [(.agg [(eI .i64 0), (.row (some true) 1 []), (eI .i64 0), (eI .i64 0)]), (.row (some true) 1 []), (eI .i64 80)])) (j5 Tryd.results47 (jU rfl (bZ rfl (bQ (ds := [(eI .i64 0), (.row (some true) 1 []), (eI .i64 0), (eI .i64 0)]) gF rfl zl rfl))) (iS rfl) (iS rfl)) (Ghost.trans (Ghost.virt (fr' := [(0, (.tup [(.agg [(eI .i64 0), (.sl 2 0 0 1 false), (eI .i64 0), (eI .i64 0)]), (.row (some true) 1 []), (eI .i64 80)]))]) (h1 := [some ⟨90, [(eI .i64 0), (.row (some true) 1 []), (eI .i64 0), (eI .i64 0)]⟩, some ⟨90, [(eI .i64 (IntKind.i64.wrap x8)), (.row (some true) 1 []), (eI .i64 0), (eI .i64 0)]⟩]) 5 (FLe.le rfl (V.le_tup (V.les_cons (V.le_agg (V.les_cons (V.le_refl _ _) (V.les_cons (V.le_virt rfl) (V.les_cons (V.le_refl _ _) (V.les_cons (V.le_refl _ _) V.les_nil))))) (V.les_cons (V.le_refl _ _) (V.les_cons (V.le_refl _ _) V.les_nil)))) FLe.nil) (HLv.live (V.les_refl _ _) rfl (HLv.live (V.les_refl _ _) rfl HLv.nil))) (Ghost.rn [2] rfl rfl (FLe.le rfl (V.le_tup (V.les_cons (V.le_agg (V.les_cons (V.le_refl _ _) (V.les_cons (by first | exact V.le_refl _ _ | (simp only [cN, cO]; exact V.le_refl _ _)) (V.les_cons (V.le_refl _ _) (V.les_cons (V.le_refl _ _) V.les_nil))))) (V.les_cons V.le_nil (V.les_cons (V.le_refl _ _) V.les_nil)))) FLe.nil) (HLe.live rfl V.les_nil rfl HLe.nil) rfl))
  · refine AB.skip <| Ex.then_mk <| AB.seq ?_
    obtain ⟨x18, h_4, hr⟩ := aN hr
    refine AB.rw <| zm rfl <| zw (v := (.row none 1 (x18.map (eI .u8)))) (eC rfl rfl rfl (yA bG cC rfl rfl h_4)) <| za rfl <| zn ?_
    refine AB.seq_g fun K1 hK1 hG1 => ?_
    have J1 : ∀ (b_1 : List Int) (c1 : Int) (aBl : Int) (l2 : List Int), k6 N x8 b_1 c1 aBl l2 = some r → K1 (aV 78 [(0, (.row none 1 (b_1.map (eI .u8)))), (2, (.ptr 0 0)), (5, (.ptr 1 0))]) [some ⟨90, [(eI .i64 0), (.row (some true) 1 []), (eI .i64 0), (eI .i64 0)]⟩, some ⟨90, [(eI .i64 (IntKind.i64.wrap x8)), (.sl 2 0 l2.length 1 false), (eI .i64 c1), (eI .i64 aBl)]⟩, some ⟨5, l2.map (eI .u8)⟩] := by
      intro b_1 c1 aBl l2 hr
      unfold k6 at hr
      refine hK1 _ _ <| zq <| zw (v := (.agg [(eI .i64 (IntKind.i64.wrap x8)), (.sl 2 0 l2.length 1 false), (eI .i64 c1), (eI .i64 aBl)])) (aI rfl (bZ rfl (bQ (ds := [(eI .i64 (IntKind.i64.wrap x8)), (.sl 2 0 l2.length 1 false), (eI .i64 c1), (eI .i64 aBl)]) gF rfl zl rfl))) <| zm rfl <| zt (aU rfl rfl (eR gF rfl rfl rfl zl rfl)) ?_
      refine za rfl <| zi <| zn <| AB.ret ?_
      obtain rfl := sj hr
      exact bU (r1 := (.tup [(.agg [(eI .i64 (IntKind.i64.wrap x8)), (.sl 2 0 l2.length 1 false), (eI .i64 c1), (eI .i64 aBl)]), (.row none 1 (b_1.map (eI .u8))), (eI .i64 0)])) (j5 Tryd.results47 (jU rfl (bZ rfl (bQ (ds := [(eI .i64 (IntKind.i64.wrap x8)), (.sl 2 0 l2.length 1 false), (eI .i64 c1), (eI .i64 aBl)]) gF rfl zl rfl))) (iS rfl) (iS rfl)) (zG [2])
    refine zq <| cQ rfl (qI ..) <| dP rfl rfl dN rfl <| zn <| AB.block <| zq <| hZ rfl rfl <| za rfl <| zn ?_
    refine zk hr rfl (fun h5 hr => ?_) (fun h5 hr => ?_)
    · refine AB.seq ?_
      refine AB.seq_g fun K2 hK2 hG2 => ?_
      have J2 : ∀ (x35 : Bool), o3 N x8 x18 x35 = some r → K2 (aV 78 [(0, (.row none 1 (x18.map (eI .u8)))), (2, (.ptr 0 0)), (5, (.ptr 1 0)), (35, (eB x35))]) [some ⟨90, [(eI .i64 0), (.row (some true) 1 []), (eI .i64 0), (eI .i64 0)]⟩, some ⟨90, [(eI .i64 (IntKind.i64.wrap x8)), (.row (some true) 1 []), (eI .i64 0), (eI .i64 0)]⟩] := by
        intro x35 hr
        unfold o3 at hr
        refine hK2 _ _ ?_
        refine zk hr rfl (fun h6 hr => ?_) (fun h6 hr => ?_)
        · refine zq <| zw (v := (.agg [(eI .i64 0), (.row (some true) 1 []), (eI .i64 0), (eI .i64 0)])) (cI rfl (lL gF aGk rfl)) <| zt (aU rfl rfl (eR gF rfl rfl rfl zl rfl)) ?_
          refine zw (v := (.row (some true) 1 [])) (bE rfl) <| zi <| zn <| AB.ret <| Ex.then_ret_mk <| Ex.inBlock_ret_mk <| Ex.then_ret_mk ?_
          obtain rfl := sj hr
          exact bU (r1 := (.tup [(.agg [(eI .i64 0), (.row (some true) 1 []), (eI .i64 0), (eI .i64 0)]), (.row (some true) 1 []), (eI .i64 1)])) (j5 Tryd.results47 (jU rfl (bZ rfl (bQ (ds := [(eI .i64 0), (.row (some true) 1 []), (eI .i64 0), (eI .i64 0)]) gF rfl zl rfl))) (iS rfl) (iS rfl)) (Ghost.trans (Ghost.virt (fr' := [(0, (.tup [(.agg [(eI .i64 0), (.sl 2 0 0 1 false), (eI .i64 0), (eI .i64 0)]), (.row (some true) 1 []), (eI .i64 1)]))]) (h1 := [some ⟨90, [(eI .i64 0), (.row (some true) 1 []), (eI .i64 0), (eI .i64 0)]⟩, some ⟨90, [(eI .i64 (IntKind.i64.wrap x8)), (.row (some true) 1 []), (eI .i64 0), (eI .i64 0)]⟩]) 5 (FLe.le rfl (V.le_tup (V.les_cons (V.le_agg (V.les_cons (V.le_refl _ _) (V.les_cons (V.le_virt rfl) (V.les_cons (V.le_refl _ _) (V.les_cons (V.le_refl _ _) V.les_nil))))) (V.les_cons (V.le_refl _ _) (V.les_cons (V.le_refl _ _) V.les_nil)))) FLe.nil) (HLv.live (V.les_refl _ _) rfl (HLv.live (V.les_refl _ _) rfl HLv.nil))) (Ghost.rn [2] rfl rfl (FLe.le rfl (V.le_tup (V.les_cons (V.le_agg (V.les_cons (V.le_refl _ _) (V.les_cons (by first | exact V.le_refl _ _ | (simp only [cN, cO]; exact V.le_refl _ _)) (V.les_cons (V.le_refl _ _) (V.les_cons (V.le_refl _ _) V.les_nil))))) (V.les_cons V.le_nil (V.les_cons (V.le_refl _ _) V.les_nil)))) FLe.nil) (HLe.live rfl V.les_nil rfl HLe.nil) rfl))
        · refine AB.skip <| Ex.then_mk <| AB.seq ?_
          obtain ⟨x38, h_7, hr⟩ := aN hr
          refine AB.rw <| zm rfl <| zw (bP rfl rfl (kH bG cC h_7)) <| zw (v := (eI .u8 x38)) (aI rfl (jM h_7 (bX cC rfl rfl))) <| zw (dA rfl (cE _ ⟨_, cC⟩ dN rfl)) <| dG rfl rfl <| za rfl <| zn ?_
          obtain ⟨x44, h_8, hr⟩ := aN hr
          obtain ⟨x46, h_9, hr⟩ := aN hr
          obtain ⟨x49, h_11, hr⟩ := aN hr
          refine AB.rd (dQ []) (dQ [48]) mixed <| dO 10 0 rfl rfl <| dO 9 1 rfl rfl <| zp 8 2 rfl (bH (v := (.row none 1 (x44.map (eI .u8)))) (eC rfl rfl rfl (yA bG cC rfl rfl h_8))) <| zp 7 3 rfl (bH (v := (.sl 2 0 1 1 false)) (h' := [some ⟨90, [(eI .i64 0), (.row (some true) 1 []), (eI .i64 0), (eI .i64 0)]⟩, some ⟨90, [(eI .i64 (IntKind.i64.wrap x8)), (.row (some true) 1 []), (eI .i64 0), (eI .i64 0)]⟩, some ⟨42, [x44].map (eL 1 (eI .u8))⟩]) (e9 rfl (oQ (xs := [x44].map (eL 1 (eI .u8))) b5 bG zl zl rfl rfl rfl rfl rfl rfl rfl))) ?_
          refine DrawG.pick (n := 6) (i := 4) (by decide +kernel) rfl (gC (v := (.sl 3 0 x46.length 1 false)) (h' := [some ⟨90, [(eI .i64 0), (.row (some true) 1 []), (eI .i64 0), (eI .i64 0)]⟩, some ⟨90, [(eI .i64 (IntKind.i64.wrap x8)), (.row (some true) 1 []), (eI .i64 0), (eI .i64 0)]⟩, some ⟨42, [x44].map (eL 1 (eI .u8))⟩, some ⟨5, x46.map (eI .u8)⟩]) (zL (aB0 N [x44] x46 h_9) [] [2]) rfl (fun _ => ⟨_, rfl⟩) (sv (bN rfl d5))) <| dO 5 5 rfl rfl <| dO 4 6 rfl rfl <| kP 3 8 rfl rfl (aIb ..) <| DrawG.fork (n := 2) [7, 9] (by decide +kernel) (by decide) ?_
          refine (Fork.cons rfl (gS (v := (.row none 1 (x49.map (eI .u8)))) (sv (eC rfl rfl rfl (yA bG cC rfl rfl h_11)))) ?_ (Fork.cons rfl (gN (h' := [some ⟨90, [(eI .i64 0), (.row (some true) 1 []), (eI .i64 0), (eI .i64 0)]⟩, some ⟨90, [(eI .i64 (IntKind.i64.wrap x8)), (.sl 3 0 x46.length 1 false), (eI .i64 0), (eI .i64 0)]⟩, some ⟨42, [x44].map (eL 1 (eI .u8))⟩, some ⟨5, x46.map (eI .u8)⟩]) (sv (aU rfl rfl (eR bG rfl rfl rfl zl rfl)))) ?_ Fork.nil))
          · refine zp 1 9 rfl (jV (h' := [some ⟨90, [(eI .i64 0), (.row (some true) 1 []), (eI .i64 0), (eI .i64 0)]⟩, some ⟨90, [(eI .i64 (IntKind.i64.wrap x8)), (.sl 3 0 x46.length 1 false), (eI .i64 0), (eI .i64 0)]⟩, some ⟨42, [x44].map (eL 1 (eI .u8))⟩, some ⟨5, x46.map (eI .u8)⟩]) (aU rfl rfl (eR bG rfl rfl rfl zl rfl))) <| nL 0 10 rfl rfl <| DrawG.nil (by decide +kernel) <| Ex.inBlock_mk <| Ex.then_mk ?_
            exact hG1 _ _ _ _ (zG [0, 1, 3]) (J1 x49 0 0 x46 hr)
          · refine zp 1 7 rfl (bH (v := (.row none 1 (x49.map (eI .u8)))) (eC rfl rfl rfl (yA bG cC rfl rfl h_11))) <| nL 0 10 rfl rfl <| DrawG.nil (by decide +kernel) <| Ex.inBlock_mk <| Ex.then_mk ?_
            exact hG1 _ _ _ _ (zG [0, 1, 3]) (J1 x49 0 0 x46 hr)
      rcases Bool.eq_false_or_eq_true ((x18.length : Int) == 0) with h12 | h12
      · replace hr := gE hr h12
        refine AB.rw <| zm rfl <| eT rfl bG <| hZ rfl rfl <| zm rfl <| zx h12 <| zx h12 <| zx h12 <| zx h12 <| zx h12 <| zx h12 <| zx h12 <| zx h12 <| zw (v := (eB true)) (c9 rfl h12 rfl) <| zn ?_
        exact hG2 _ _ _ _ (zG [0, 1]) (J2 true hr)
      · replace hr := gB hr h12
        obtain ⟨gX, h_13, hr⟩ := aN hr
        refine AB.rw <| zm rfl <| eT rfl bG <| hZ rfl rfl <| zm rfl <| zg h12 (bI rfl) <| zg (v := (eI .i64 (x18.length : Int))) h12 (gQ rfl (zP bG)) <| zg h12 (a9 rfl rfl (fM ..)) <| zg h12 (bI rfl) <| zg h12 (bP rfl rfl (kH bG cC h_13)) <| zg (v := (eI .u8 gX)) h12 (aI rfl (jM h_13 (bX cC rfl rfl))) <| zg h12 (dA rfl (cE _ ⟨_, cC⟩ dN rfl)) <| zg h12 (a9 rfl rfl (sO ..)) <| oB rfl h12 rfl <| zn ?_
        exact hG2 _ _ _ _ (zG [0, 1]) (J2 (decide ((IntKind.i64.wrap ((x18.length : Int) - 1)) < (IntKind.i64.wrap gX))) hr)
    · refine zq <| hZ rfl rfl <| za rfl <| zn ?_
      refine zk hr rfl (fun h14 hr => ?_) (fun h14 hr => ?_)
      · refine AB.seq <| zq <| zm rfl <| eT rfl bG <| eY rfl rfl <| zn ?_
        refine zk hr rfl (fun h15 hr => ?_) (fun h15 hr => ?_)
        · refine zq <| zw (v := (.agg [(eI .i64 0), (.row (some true) 1 []), (eI .i64 0), (eI .i64 0)])) (cI rfl (lL gF aGk rfl)) <| zt (aU rfl rfl (eR gF rfl rfl rfl zl rfl)) ?_
          refine zw (v := (.row (some true) 1 [])) (bE rfl) <| zi <| zn <| AB.ret <| Ex.then_ret_mk <| Ex.inBlock_ret_mk <| Ex.then_ret_mk ?_
          obtain rfl := sj hr
          exact bU (r1 := (.tup [(.agg [(eI .i64 0), (.row (some true) 1 []), (eI .i64 0), (eI .i64 0)]), (.row (some true) 1 []), (eI .i64 1)])) (j5 Tryd.results47 (jU rfl (bZ rfl (bQ (ds := [(eI .i64 0), (.row (some true) 1 []), (eI .i64 0), (eI .i64 0)]) gF rfl zl rfl))) (iS rfl) (iS rfl)) (Ghost.trans (Ghost.virt (fr' := [(0, (.tup [(.agg [(eI .i64 0), (.sl 2 0 0 1 false), (eI .i64 0), (eI .i64 0)]), (.row (some true) 1 []), (eI .i64 1)]))]) (h1 := [some ⟨90, [(eI .i64 0), (.row (some true) 1 []), (eI .i64 0), (eI .i64 0)]⟩, some ⟨90, [(eI .i64 (IntKind.i64.wrap x8)), (.row (some true) 1 []), (eI .i64 0), (eI .i64 0)]⟩]) 5 (FLe.le rfl (V.le_tup (V.les_cons (V.le_agg (V.les_cons (V.le_refl _ _) (V.les_cons (V.le_virt rfl) (V.les_cons (V.le_refl _ _) (V.les_cons (V.le_refl _ _) V.les_nil))))) (V.les_cons (V.le_refl _ _) (V.les_cons (V.le_refl _ _) V.les_nil)))) FLe.nil) (HLv.live (V.les_refl _ _) rfl (HLv.live (V.les_refl _ _) rfl HLv.nil))) (Ghost.rn [2] rfl rfl (FLe.le rfl (V.le_tup (V.les_cons (V.le_agg (V.les_cons (V.le_refl _ _) (V.les_cons (by first | exact V.le_refl _ _ | (simp only [cN, cO]; exact V.le_refl _ _)) (V.les_cons (V.le_refl _ _) (V.les_cons (V.le_refl _ _) V.les_nil))))) (V.les_cons V.le_nil (V.les_cons (V.le_refl _ _) V.les_nil)))) FLe.nil) (HLe.live rfl V.les_nil rfl HLe.nil) rfl))
        · refine AB.skip <| Ex.then_mk ?_
          refine AB.seq_g fun K3 hK3 hG3 => ?_
          have J3 : ∀ (b_2 : List Int) (aAS : Int) (aAL : Int), sM N x8 b_2 aAS aAL = some r → K3 (aV 78 [(0, (.row none 1 (b_2.map (eI .u8)))), (2, (.ptr 0 0)), (5, (.ptr 1 0))]) [some ⟨90, [(eI .i64 0), (.row (some true) 1 []), (eI .i64 0), (eI .i64 0)]⟩, some ⟨90, [(eI .i64 (IntKind.i64.wrap x8)), (.row (some true) 1 []), (eI .i64 aAS), (eI .i64 aAL)]⟩] := by
            intro b_2 aAS aAL hr
            unfold sM at hr
            refine hK3 _ _ <| AB.seq ?_
            obtain ⟨x73, h_16, hr⟩ := aN hr
            refine AB.rw <| cQ rfl (aET ..) <| dP rfl rfl dN rfl <| cQ rfl (mR ..) <| dP rfl rfl dN rfl <| wC rfl (Vm.Fn.pure (aCU N aAS aAL x73 h_16) rfl rfl) <| zw (f9 rfl (dU _ _)) <| zn ?_
            refine zk hr rfl (fun h17 hr => ?_) (fun h17 hr => ?_)
            · refine zq <| zw (v := (.agg [(eI .i64 0), (.row (some true) 1 []), (eI .i64 0), (eI .i64 0)])) (cI rfl (lL gF aGk rfl)) <| zt (aU rfl rfl (eR gF rfl rfl rfl zl rfl)) ?_
              refine zw (v := (.row (some true) 1 [])) (bE rfl) <| zi <| zn <| AB.ret <| Ex.inBlock_ret_mk <| Ex.then_ret_mk ?_
              obtain rfl := sj hr
              exact bU (r1 := (.tup [(.agg [(eI .i64 0), (.row (some true) 1 []), (eI .i64 0), (eI .i64 0)]), (.row (some true) 1 []), (eI .i64 5)])) (j5 Tryd.results47 (jU rfl (bZ rfl (bQ (ds := [(eI .i64 0), (.row (some true) 1 []), (eI .i64 0), (eI .i64 0)]) gF rfl zl rfl))) (iS rfl) (iS rfl)) (Ghost.trans (Ghost.virt (fr' := [(0, (.tup [(.agg [(eI .i64 0), (.sl 2 0 0 1 false), (eI .i64 0), (eI .i64 0)]), (.row (some true) 1 []), (eI .i64 5)]))]) (h1 := [some ⟨90, [(eI .i64 0), (.row (some true) 1 []), (eI .i64 0), (eI .i64 0)]⟩, some ⟨90, [(eI .i64 (IntKind.i64.wrap x8)), (.row (some true) 1 []), (eI .i64 aAS), (eI .i64 aAL)]⟩]) 5 (FLe.le rfl (V.le_tup (V.les_cons (V.le_agg (V.les_cons (V.le_refl _ _) (V.les_cons (V.le_virt rfl) (V.les_cons (V.le_refl _ _) (V.les_cons (V.le_refl _ _) V.les_nil))))) (V.les_cons (V.le_refl _ _) (V.les_cons (V.le_refl _ _) V.les_nil)))) FLe.nil) (HLv.live (V.les_refl _ _) rfl (HLv.live (V.les_refl _ _) rfl HLv.nil))) (Ghost.rn [2] rfl rfl (FLe.le rfl (V.le_tup (V.les_cons (V.le_agg (V.les_cons (V.le_refl _ _) (V.les_cons (by first | exact V.le_refl _ _ | (simp only [cN, cO]; exact V.le_refl _ _)) (V.les_cons (V.le_refl _ _) (V.les_cons (V.le_refl _ _) V.les_nil))))) (V.les_cons V.le_nil (V.les_cons (V.le_refl _ _) V.les_nil)))) FLe.nil) (HLe.live rfl V.les_nil rfl HLe.nil) rfl))
            · refine AB.skip <| Ex.inBlock_mk <| Ex.then_mk ?_
              exact hG1 _ _ _ _ (Ghost.trans (Ghost.virt (fr' := [(0, (.row none 1 (b_2.map (eI .u8)))), (2, (.ptr 0 0)), (5, (.ptr 1 0))]) (h1 := [some ⟨90, [(eI .i64 0), (.row (some true) 1 []), (eI .i64 0), (eI .i64 0)]⟩, some ⟨90, [(eI .i64 (IntKind.i64.wrap x8)), (.sl 2 0 0 1 false), (eI .i64 aAS), (eI .i64 aAL)]⟩]) 5 (FLe.same rfl (FLe.same rfl (FLe.same rfl FLe.nil))) (HLv.live (V.les_refl _ _) rfl (HLv.live (V.les_cons (V.le_refl _ _) (V.les_cons (V.le_virt rfl) (V.les_cons (V.le_refl _ _) (V.les_cons (V.le_refl _ _) V.les_nil)))) rfl HLv.nil))) (Ghost.rn [0, 1, 2] rfl rfl (FLe.same rfl (FLe.same rfl (FLe.same rfl FLe.nil))) (HLe.live rfl (V.les_refl _ _) rfl (HLe.live rfl (V.les_cons (V.le_refl _ _) (V.les_cons (by first | exact V.le_refl _ _ | (simp only [cN, cO]; exact V.le_refl _ _)) (V.les_cons (V.le_refl _ _) (V.les_cons (V.le_refl _ _) V.les_nil)))) rfl (HLe.live rfl V.les_nil rfl HLe.nil))) rfl)) (J1 b_2 aAS aAL [] hr)
          obtain ⟨x58, h_18, hr⟩ := aN hr
          obtain ⟨x62, h_19, hr⟩ := aN hr
          obtain ⟨x66, h_20, hr⟩ := aN hr
          refine AB.rd (dQ []) (dQ []) mixed <| dO 14 0 rfl rfl <| zp 13 1 rfl (bH (bP rfl rfl (kH bG cC h_18))) <| zp 12 2 rfl (bH (v := (eI .u8 x58)) (aI rfl (jM h_18 (bX cC rfl rfl)))) <| zp 11 3 rfl (bH (v := (eI .i64 (IntKind.i64.wrap x58))) (dA rfl (cE _ ⟨_, cC⟩ dN rfl))) <| dO 10 4 rfl rfl <| zp 9 5 rfl (bH (bP rfl rfl (kH bG cC h_19))) <| dO 8 8 rfl rfl <| kP 7 10 rfl rfl (aET ..) <| DrawG.fork (n := 6) [6, 9, 11] (by decide +kernel) (by decide) ?_
          refine (Fork.cons rfl (gS (v := (eI .u8 x62)) (sv (aI rfl (jM h_19 (bX cC rfl rfl))))) ?_ (Fork.cons rfl (gS (v := (.row none 1 (x66.map (eI .u8)))) (sv (eC rfl rfl rfl (yA bG cC rfl rfl h_20)))) ?_ (Fork.cons rfl (gN (h' := [some ⟨90, [(eI .i64 0), (.row (some true) 1 []), (eI .i64 0), (eI .i64 0)]⟩, some ⟨90, [(eI .i64 (IntKind.i64.wrap x8)), (.row (some true) 1 []), (eI .i64 (IntKind.i64.wrap x58)), (eI .i64 0)]⟩]) (sv (aU rfl rfl (eR dN rfl rfl rfl zl rfl)))) ?_ Fork.nil)))
          · refine DrawG.fork (n := 5) [7, 9, 11] (by decide +kernel) (by decide) ?_
            refine (Fork.cons rfl (gS (v := (eI .i64 (IntKind.i64.wrap x62))) (sv (dA rfl (cE _ ⟨_, cC⟩ dN rfl)))) ?_ (Fork.cons rfl (gS (v := (.row none 1 (x66.map (eI .u8)))) (sv (eC rfl rfl rfl (yA bG cC rfl rfl h_20)))) ?_ (Fork.cons rfl (gN (h' := [some ⟨90, [(eI .i64 0), (.row (some true) 1 []), (eI .i64 0), (eI .i64 0)]⟩, some ⟨90, [(eI .i64 (IntKind.i64.wrap x8)), (.row (some true) 1 []), (eI .i64 (IntKind.i64.wrap x58)), (eI .i64 0)]⟩]) (sv (aU rfl rfl (eR dN rfl rfl rfl zl rfl)))) ?_ Fork.nil)))
            · refine DrawG.fork (n := 4) [9, 11] (by decide +kernel) (by decide) ?_
              refine (Fork.cons rfl (gS (v := (.row none 1 (x66.map (eI .u8)))) (sv (eC rfl rfl rfl (yA bG cC rfl rfl h_20)))) ?_ (Fork.cons rfl (gN (h' := [some ⟨90, [(eI .i64 0), (.row (some true) 1 []), (eI .i64 0), (eI .i64 0)]⟩, some ⟨90, [(eI .i64 (IntKind.i64.wrap x8)), (.row (some true) 1 []), (eI .i64 (IntKind.i64.wrap x58)), (eI .i64 0)]⟩]) (sv (aU rfl rfl (eR dN rfl rfl rfl zl rfl)))) ?_ Fork.nil))
              · refine zp 3 11 rfl (jV (h' := [some ⟨90, [(eI .i64 0), (.row (some true) 1 []), (eI .i64 0), (eI .i64 0)]⟩, some ⟨90, [(eI .i64 (IntKind.i64.wrap x8)), (.row (some true) 1 []), (eI .i64 (IntKind.i64.wrap x58)), (eI .i64 0)]⟩]) (aU rfl rfl (eR dN rfl rfl rfl zl rfl))) <| kP 2 12 rfl rfl (mR ..) <| zp 1 13 rfl (jV (h' := [some ⟨90, [(eI .i64 0), (.row (some true) 1 []), (eI .i64 0), (eI .i64 0)]⟩, some ⟨90, [(eI .i64 (IntKind.i64.wrap x8)), (.row (some true) 1 []), (eI .i64 (IntKind.i64.wrap x58)), (eI .i64 (IntKind.i64.wrap x62))]⟩]) (aU rfl rfl (eR dN rfl rfl rfl zl rfl))) ?_
                refine nL 0 14 rfl rfl <| DrawG.nil (by decide +kernel) <| Ex.then_mk ?_
                exact hG3 _ _ _ _ (zG [0, 1]) (J3 x66 (IntKind.i64.wrap x58) (IntKind.i64.wrap x62) hr)
              · refine kP 3 12 rfl rfl (mR ..) <| DrawG.fork (n := 2) [9, 13] (by decide +kernel) (by decide) ?_
                refine (Fork.cons rfl (gS (v := (.row none 1 (x66.map (eI .u8)))) (sv (eC rfl rfl rfl (yA bG cC rfl rfl h_20)))) ?_ (Fork.cons rfl (gN (h' := [some ⟨90, [(eI .i64 0), (.row (some true) 1 []), (eI .i64 0), (eI .i64 0)]⟩, some ⟨90, [(eI .i64 (IntKind.i64.wrap x8)), (.row (some true) 1 []), (eI .i64 (IntKind.i64.wrap x58)), (eI .i64 (IntKind.i64.wrap x62))]⟩]) (sv (aU rfl rfl (eR dN rfl rfl rfl zl rfl)))) ?_ Fork.nil))
                · refine zp 1 13 rfl (jV (h' := [some ⟨90, [(eI .i64 0), (.row (some true) 1 []), (eI .i64 0), (eI .i64 0)]⟩, some ⟨90, [(eI .i64 (IntKind.i64.wrap x8)), (.row (some true) 1 []), (eI .i64 (IntKind.i64.wrap x58)), (eI .i64 (IntKind.i64.wrap x62))]⟩]) (aU rfl rfl (eR dN rfl rfl rfl zl rfl))) <| nL 0 14 rfl rfl <| DrawG.nil (by decide +kernel) <| Ex.then_mk ?_
                  exact hG3 _ _ _ _ (zG [0, 1]) (J3 x66 (IntKind.i64.wrap x58) (IntKind.i64.wrap x62) hr)
                · refine zp 1 9 rfl (bH (v := (.row none 1 (x66.map (eI .u8)))) (eC rfl rfl rfl (yA bG cC rfl rfl h_20))) <| nL 0 14 rfl rfl <| DrawG.nil (by decide +kernel) <| Ex.then_mk ?_
                  exact hG3 _ _ _ _ (zG [0, 1]) (J3 x66 (IntKind.i64.wrap x58) (IntKind.i64.wrap x62) hr)
            · refine DrawG.fork (n := 4) [7, 11] (by decide +kernel) (by decide) ?_
              refine (Fork.cons rfl (gS (v := (eI .i64 (IntKind.i64.wrap x62))) (sv (dA rfl (cE _ ⟨_, cC⟩ dN rfl)))) ?_ (Fork.cons rfl (gN (h' := [some ⟨90, [(eI .i64 0), (.row (some true) 1 []), (eI .i64 0), (eI .i64 0)]⟩, some ⟨90, [(eI .i64 (IntKind.i64.wrap x8)), (.row (some true) 1 []), (eI .i64 (IntKind.i64.wrap x58)), (eI .i64 0)]⟩]) (sv (aU rfl rfl (eR dN rfl rfl rfl zl rfl)))) ?_ Fork.nil))
              · refine zp 3 11 rfl (jV (h' := [some ⟨90, [(eI .i64 0), (.row (some true) 1 []), (eI .i64 0), (eI .i64 0)]⟩, some ⟨90, [(eI .i64 (IntKind.i64.wrap x8)), (.row (some true) 1 []), (eI .i64 (IntKind.i64.wrap x58)), (eI .i64 0)]⟩]) (aU rfl rfl (eR dN rfl rfl rfl zl rfl))) <| kP 2 12 rfl rfl (mR ..) <| zp 1 13 rfl (jV (h' := [some ⟨90, [(eI .i64 0), (.row (some true) 1 []), (eI .i64 0), (eI .i64 0)]⟩, some ⟨90, [(eI .i64 (IntKind.i64.wrap x8)), (.row (some true) 1 []), (eI .i64 (IntKind.i64.wrap x58)), (eI .i64 (IntKind.i64.wrap x62))]⟩]) (aU rfl rfl (eR dN rfl rfl rfl zl rfl))) ?_
                refine nL 0 14 rfl rfl <| DrawG.nil (by decide +kernel) <| Ex.then_mk ?_
                exact hG3 _ _ _ _ (zG [0, 1]) (J3 x66 (IntKind.i64.wrap x58) (IntKind.i64.wrap x62) hr)
              · refine zp 3 7 rfl (bH (v := (eI .i64 (IntKind.i64.wrap x62))) (dA rfl (cE _ ⟨_, cC⟩ dN rfl))) <| kP 2 12 rfl rfl (mR ..) <| zp 1 13 rfl (jV (h' := [some ⟨90, [(eI .i64 0), (.row (some true) 1 []), (eI .i64 0), (eI .i64 0)]⟩, some ⟨90, [(eI .i64 (IntKind.i64.wrap x8)), (.row (some true) 1 []), (eI .i64 (IntKind.i64.wrap x58)), (eI .i64 (IntKind.i64.wrap x62))]⟩]) (aU rfl rfl (eR dN rfl rfl rfl zl rfl))) <| nL 0 14 rfl rfl <| DrawG.nil (by decide +kernel) <| Ex.then_mk ?_
                exact hG3 _ _ _ _ (zG [0, 1]) (J3 x66 (IntKind.i64.wrap x58) (IntKind.i64.wrap x62) hr)
            · refine zp 4 7 rfl (bH (v := (eI .i64 (IntKind.i64.wrap x62))) (dA rfl (cE _ ⟨_, cC⟩ dN rfl))) <| kP 3 12 rfl rfl (mR ..) <| DrawG.fork (n := 2) [9, 13] (by decide +kernel) (by decide) ?_
              refine (Fork.cons rfl (gS (v := (.row none 1 (x66.map (eI .u8)))) (sv (eC rfl rfl rfl (yA bG cC rfl rfl h_20)))) ?_ (Fork.cons rfl (gN (h' := [some ⟨90, [(eI .i64 0), (.row (some true) 1 []), (eI .i64 0), (eI .i64 0)]⟩, some ⟨90, [(eI .i64 (IntKind.i64.wrap x8)), (.row (some true) 1 []), (eI .i64 (IntKind.i64.wrap x58)), (eI .i64 (IntKind.i64.wrap x62))]⟩]) (sv (aU rfl rfl (eR dN rfl rfl rfl zl rfl)))) ?_ Fork.nil))
              · refine zp 1 13 rfl (jV (h' := [some ⟨90, [(eI .i64 0), (.row (some true) 1 []), (eI .i64 0), (eI .i64 0)]⟩, some ⟨90, [(eI .i64 (IntKind.i64.wrap x8)), (.row (some true) 1 []), (eI .i64 (IntKind.i64.wrap x58)), (eI .i64 (IntKind.i64.wrap x62))]⟩]) (aU rfl rfl (eR dN rfl rfl rfl zl rfl))) <| nL 0 14 rfl rfl <| DrawG.nil (by decide +kernel) <| Ex.then_mk ?_
                exact hG3 _ _ _ _ (zG [0, 1]) (J3 x66 (IntKind.i64.wrap x58) (IntKind.i64.wrap x62) hr)
              · refine zp 1 9 rfl (bH (v := (.row none 1 (x66.map (eI .u8)))) (eC rfl rfl rfl (yA bG cC rfl rfl h_20))) <| nL 0 14 rfl rfl <| DrawG.nil (by decide +kernel) <| Ex.then_mk ?_
                exact hG3 _ _ _ _ (zG [0, 1]) (J3 x66 (IntKind.i64.wrap x58) (IntKind.i64.wrap x62) hr)
          · refine DrawG.fork (n := 5) [6, 11] (by decide +kernel) (by decide) ?_
            refine (Fork.cons rfl (gS (v := (eI .u8 x62)) (sv (aI rfl (jM h_19 (bX cC rfl rfl))))) ?_ (Fork.cons rfl (gN (h' := [some ⟨90, [(eI .i64 0), (.row (some true) 1 []), (eI .i64 0), (eI .i64 0)]⟩, some ⟨90, [(eI .i64 (IntKind.i64.wrap x8)), (.row (some true) 1 []), (eI .i64 (IntKind.i64.wrap x58)), (eI .i64 0)]⟩]) (sv (aU rfl rfl (eR dN rfl rfl rfl zl rfl)))) ?_ Fork.nil))
            · refine DrawG.fork (n := 4) [7, 11] (by decide +kernel) (by decide) ?_
              refine (Fork.cons rfl (gS (v := (eI .i64 (IntKind.i64.wrap x62))) (sv (dA rfl (cE _ ⟨_, cC⟩ dN rfl)))) ?_ (Fork.cons rfl (gN (h' := [some ⟨90, [(eI .i64 0), (.row (some true) 1 []), (eI .i64 0), (eI .i64 0)]⟩, some ⟨90, [(eI .i64 (IntKind.i64.wrap x8)), (.row (some true) 1 []), (eI .i64 (IntKind.i64.wrap x58)), (eI .i64 0)]⟩]) (sv (aU rfl rfl (eR dN rfl rfl rfl zl rfl)))) ?_ Fork.nil))
              · refine zp 3 11 rfl (jV (h' := [some ⟨90, [(eI .i64 0), (.row (some true) 1 []), (eI .i64 0), (eI .i64 0)]⟩, some ⟨90, [(eI .i64 (IntKind.i64.wrap x8)), (.row (some true) 1 []), (eI .i64 (IntKind.i64.wrap x58)), (eI .i64 0)]⟩]) (aU rfl rfl (eR dN rfl rfl rfl zl rfl))) <| kP 2 12 rfl rfl (mR ..) <| zp 1 13 rfl (jV (h' := [some ⟨90, [(eI .i64 0), (.row (some true) 1 []), (eI .i64 0), (eI .i64 0)]⟩, some ⟨90, [(eI .i64 (IntKind.i64.wrap x8)), (.row (some true) 1 []), (eI .i64 (IntKind.i64.wrap x58)), (eI .i64 (IntKind.i64.wrap x62))]⟩]) (aU rfl rfl (eR dN rfl rfl rfl zl rfl))) ?_
                refine nL 0 14 rfl rfl <| DrawG.nil (by decide +kernel) <| Ex.then_mk ?_
                exact hG3 _ _ _ _ (zG [0, 1]) (J3 x66 (IntKind.i64.wrap x58) (IntKind.i64.wrap x62) hr)
              · refine zp 3 7 rfl (bH (v := (eI .i64 (IntKind.i64.wrap x62))) (dA rfl (cE _ ⟨_, cC⟩ dN rfl))) <| kP 2 12 rfl rfl (mR ..) <| zp 1 13 rfl (jV (h' := [some ⟨90, [(eI .i64 0), (.row (some true) 1 []), (eI .i64 0), (eI .i64 0)]⟩, some ⟨90, [(eI .i64 (IntKind.i64.wrap x8)), (.row (some true) 1 []), (eI .i64 (IntKind.i64.wrap x58)), (eI .i64 (IntKind.i64.wrap x62))]⟩]) (aU rfl rfl (eR dN rfl rfl rfl zl rfl))) <| nL 0 14 rfl rfl <| DrawG.nil (by decide +kernel) <| Ex.then_mk ?_
                exact hG3 _ _ _ _ (zG [0, 1]) (J3 x66 (IntKind.i64.wrap x58) (IntKind.i64.wrap x62) hr)
            · refine zp 4 6 rfl (bH (v := (eI .u8 x62)) (aI rfl (jM h_19 (bX cC rfl rfl)))) <| zp 3 7 rfl (bH (v := (eI .i64 (IntKind.i64.wrap x62))) (dA rfl (cE _ ⟨_, cC⟩ dN rfl))) <| kP 2 12 rfl rfl (mR ..) <| zp 1 13 rfl (jV (h' := [some ⟨90, [(eI .i64 0), (.row (some true) 1 []), (eI .i64 0), (eI .i64 0)]⟩, some ⟨90, [(eI .i64 (IntKind.i64.wrap x8)), (.row (some true) 1 []), (eI .i64 (IntKind.i64.wrap x58)), (eI .i64 (IntKind.i64.wrap x62))]⟩]) (aU rfl rfl (eR dN rfl rfl rfl zl rfl))) <| nL 0 14 rfl rfl <| DrawG.nil (by decide +kernel) <| Ex.then_mk ?_
              exact hG3 _ _ _ _ (zG [0, 1]) (J3 x66 (IntKind.i64.wrap x58) (IntKind.i64.wrap x62) hr)
          · refine zp 5 6 rfl (bH (v := (eI .u8 x62)) (aI rfl (jM h_19 (bX cC rfl rfl)))) <| zp 4 7 rfl (bH (v := (eI .i64 (IntKind.i64.wrap x62))) (dA rfl (cE _ ⟨_, cC⟩ dN rfl))) <| kP 3 12 rfl rfl (mR ..) <| DrawG.fork (n := 2) [9, 13] (by decide +kernel) (by decide) ?_
            refine (Fork.cons rfl (gS (v := (.row none 1 (x66.map (eI .u8)))) (sv (eC rfl rfl rfl (yA bG cC rfl rfl h_20)))) ?_ (Fork.cons rfl (gN (h' := [some ⟨90, [(eI .i64 0), (.row (some true) 1 []), (eI .i64 0), (eI .i64 0)]⟩, some ⟨90, [(eI .i64 (IntKind.i64.wrap x8)), (.row (some true) 1 []), (eI .i64 (IntKind.i64.wrap x58)), (eI .i64 (IntKind.i64.wrap x62))]⟩]) (sv (aU rfl rfl (eR dN rfl rfl rfl zl rfl)))) ?_ Fork.nil))
            · refine zp 1 13 rfl (jV (h' := [some ⟨90, [(eI .i64 0), (.row (some true) 1 []), (eI .i64 0), (eI .i64 0)]⟩, some ⟨90, [(eI .i64 (IntKind.i64.wrap x8)), (.row (some true) 1 []), (eI .i64 (IntKind.i64.wrap x58)), (eI .i64 (IntKind.i64.wrap x62))]⟩]) (aU rfl rfl (eR dN rfl rfl rfl zl rfl))) <| nL 0 14 rfl rfl <| DrawG.nil (by decide +kernel) <| Ex.then_mk ?_
              exact hG3 _ _ _ _ (zG [0, 1]) (J3 x66 (IntKind.i64.wrap x58) (IntKind.i64.wrap x62) hr)
            · refine zp 1 9 rfl (bH (v := (.row none 1 (x66.map (eI .u8)))) (eC rfl rfl rfl (yA bG cC rfl rfl h_20))) <| nL 0 14 rfl rfl <| DrawG.nil (by decide +kernel) <| Ex.then_mk ?_
              exact hG3 _ _ _ _ (zG [0, 1]) (J3 x66 (IntKind.i64.wrap x58) (IntKind.i64.wrap x62) hr)
      · refine AB.skip <| Ex.inBlock_mk <| Ex.then_mk ?_
        exact hG1 _ _ _ _ (Ghost.trans (Ghost.virt (fr' := [(0, (.row none 1 (x18.map (eI .u8)))), (2, (.ptr 0 0)), (5, (.ptr 1 0))]) (h1 := [some ⟨90, [(eI .i64 0), (.row (some true) 1 []), (eI .i64 0), (eI .i64 0)]⟩, some ⟨90, [(eI .i64 (IntKind.i64.wrap x8)), (.sl 2 0 0 1 false), (eI .i64 0), (eI .i64 0)]⟩]) 5 (FLe.same rfl (FLe.same rfl (FLe.same rfl FLe.nil))) (HLv.live (V.les_refl _ _) rfl (HLv.live (V.les_cons (V.le_refl _ _) (V.les_cons (V.le_virt rfl) (V.les_cons (V.le_refl _ _) (V.les_cons (V.le_refl _ _) V.les_nil)))) rfl HLv.nil))) (Ghost.rn [0, 1, 2] rfl rfl (FLe.same rfl (FLe.same rfl (FLe.same rfl FLe.nil))) (HLe.live rfl (V.les_refl _ _) rfl (HLe.live rfl (V.les_cons (V.le_refl _ _) (V.les_cons (by first | exact V.le_refl _ _ | (simp only [cN, cO]; exact V.le_refl _ _)) (V.les_cons (V.le_refl _ _) (V.les_cons (V.le_refl _ _) V.les_nil)))) rfl (HLe.live rfl V.les_nil rfl HLe.nil))) rfl)) (J1 x18 0 0 [] hr)
theorem aDZ (N : Nat) (b : List Int) (r : (List bM) × Int) (hr : rY N b = some r) :
    Vm.Fn Tryd.prog 37 [] [(.row none 1 (b.map (eI .u8)))] (.tup [(.sl 0 0 r.1.length 4 true), (eI .i64 r.2)]) [some ⟨90, r.1.flatMap cR⟩] := by
  refine zf Tryd.func37 Tryd.ntmps37 ?_
  unfold rY at hr
  refine zq <| zw (v := (.row (some true) 1 [])) (bE rfl) <| zi <| zn <| AB.seq <| zq <| zm rfl <| eT rfl bG <| sC rfl rfl <| zn ?_
  refine zk hr rfl (fun h1 hr => ?_) (fun h1 hr => ?_)
  · refine zq <| zw (v := (.row (some true) 1 [])) (bE rfl) <| zi <| zn <| AB.ret <| Ex.then_ret_mk ?_
    obtain rfl := sj hr
    exact bU (r1 := (.tup [(.row (some true) 1 []), (eI .i64 4)])) (cL Tryd.results37 (iS rfl) (iS rfl)) (Ghost.trans (Ghost.virt (fr' := [(0, (.tup [(.sl 0 0 0 4 true), (eI .i64 4)]))]) (h1 := []) 90 (FLe.le rfl (V.le_tup (V.les_cons (V.le_virt rfl) (V.les_cons (V.le_refl _ _) V.les_nil))) FLe.nil) HLv.nil) (Ghost.rn [0] rfl rfl (FLe.le rfl (V.le_tup (V.les_cons (by first | exact V.le_refl _ _ | (simp only [cN, cO]; exact V.le_refl _ _)) (V.les_cons (V.le_refl _ _) V.les_nil))) FLe.nil) (HLe.live rfl V.les_nil rfl HLe.nil) rfl))
  · refine AB.skip <| Ex.then_mk <| zq <| zw (v := (.row (some true) 1 [])) (bE rfl) <| zn ?_
    refine AB.seq_g fun K1 hK1 hG1 => ?_
    have J1 : ∀ (l0 : List bM), vE N l0 = some r → K1 (aV 29 [(4, (.sl 0 0 l0.length 4 true))]) [some ⟨90, l0.flatMap cR⟩] := by
      intro l0 hr
      unfold vE at hr
      refine hK1 _ _ <| zq <| zm rfl <| za rfl <| zi <| zn <| AB.ret ?_
      obtain rfl := sj hr
      exact vO Tryd.results37 [0]
    obtain ⟨cL, hL2, hr⟩ := aN hr
    refine AB.block ?_
    refine AB.loopN (fun m s h => ∃ (b_1 : List Int) (bF : List bM), kB N m b_1 bF = some cL ∧ Ghost 0 s h (aV 29 [(0, (.row none 1 (b_1.map (eI .u8)))), (4, (.sl 0 0 bF.length 4 true))]) [some ⟨90, bF.flatMap cR⟩]) (n := N) ⟨b, [], hL2, (Ghost.trans (Ghost.virt (fr' := [(0, (.row none 1 (b.map (eI .u8)))), (4, (.sl 0 0 0 4 true))]) (h1 := []) 90 (FLe.same rfl (FLe.le rfl (V.le_virt rfl) FLe.nil)) HLv.nil) (Ghost.rn [0] rfl rfl (FLe.same rfl (FLe.le rfl (by first | exact V.le_refl _ _ | (simp only [cN, cO]; exact V.le_refl _ _)) FLe.nil)) (HLe.live rfl V.les_nil rfl HLe.nil) rfl))⟩ (by rintro s h ⟨_, _, h0, _⟩; simp [kB] at h0) ?_
    rintro m2 s h ⟨b_1, bF, hr2, hg⟩
    refine AB.ghost hg ?_
    clear hg hL2
    rw [kB] at hr2
    refine AB.seq <| zq <| zm rfl <| eT rfl bG <| sC rfl rfl <| zn ?_
    refine zk hr2 rfl (fun h2 hr2 => ?_) (fun h2 hr2 => ?_)
    · refine AB.skip <| Ex.then_mk <| AB.block <| AB.seq ?_
      obtain ⟨x16, h_3, hr2⟩ := aN hr2
      refine AB.rw <| zm rfl <| wC (v := (.tup [(.agg [(eI .i64 x16.1), (.sl 1 0 x16.2.1.length 1 false), (eI .i64 x16.2.2.1), (eI .i64 x16.2.2.2.1)]), (.row none 1 (x16.2.2.2.2.1.map (eI .u8))), (eI .i64 x16.2.2.2.2.2)])) rfl (zB (aES N b_1 x16 h_3) []) ?_
      refine zm rfl <| iW rfl rfl <| iW rfl rfl <| iW rfl rfl <| zh (v := (.ptr 2 0)) (cK (B := some ⟨90, [(eI .i64 0), (.row (some true) 1 []), (eI .i64 0), (eI .i64 0)]⟩) gF rfl rfl) ?_
      refine zN (h' := [some ⟨90, bF.flatMap cR⟩, some ⟨5, x16.2.1.map (eI .u8)⟩, some ⟨90, [(eI .i64 x16.1), (.sl 1 0 x16.2.1.length 1 false), (eI .i64 x16.2.2.1), (eI .i64 x16.2.2.2.1)]⟩]) (aU rfl rfl (eR gF rfl rfl rfl zl rfl)) <| za rfl <| za rfl <| zn <| AB.seq <| zq <| zm rfl <| rE rfl rfl <| zn ?_
      refine zk hr2 rfl (fun h4 hr2 => ?_) (fun h4 hr2 => ?_)
      · refine zq <| zm rfl <| zw (v := (.row (some true) 1 [])) (bE rfl) <| za rfl <| zn <| AB.ret <| Ex.then_ret_mk <| Ex.inBlock_ret_mk <| Ex.then_ret_mk <| Ex.inBlock_ret_mk <| Ex.then_ret_mk ?_
        obtain rfl := sj hr2
        obtain rfl := sj hr
        exact bU (r1 := (.tup [(.row (some true) 1 []), (eI .i64 x16.2.2.2.2.2)])) (cL Tryd.results37 (iS rfl) (iS rfl)) (Ghost.trans (Ghost.virt (fr' := [(0, (.tup [(.sl 3 0 0 4 true), (eI .i64 x16.2.2.2.2.2)]))]) (h1 := [some ⟨90, bF.flatMap cR⟩, some ⟨5, x16.2.1.map (eI .u8)⟩, some ⟨90, [(eI .i64 x16.1), (.sl 1 0 x16.2.1.length 1 false), (eI .i64 x16.2.2.1), (eI .i64 x16.2.2.2.1)]⟩]) 90 (FLe.le rfl (V.le_tup (V.les_cons (V.le_virt rfl) (V.les_cons (V.le_refl _ _) V.les_nil))) FLe.nil) (HLv.live (V.les_refl _ _) (fT (fun _ => rfl) _) (HLv.live (V.les_refl _ _) (all_map (fun _ => rfl) _) (HLv.live (V.les_refl _ _) rfl HLv.nil)))) (Ghost.rn [3] rfl rfl (FLe.le rfl (V.le_tup (V.les_cons (by first | exact V.le_refl _ _ | (simp only [cN, cO]; exact V.le_refl _ _)) (V.les_cons (V.le_refl _ _) V.les_nil))) FLe.nil) (HLe.live rfl V.les_nil rfl HLe.nil) rfl))
      · refine AB.skip <| Ex.then_mk ?_
        obtain ⟨x26, h_5, hr2⟩ := aN hr2
        refine AB.rw <| zm rfl <| zw (v := (.agg [(eI .i64 x16.1), (.sl 1 0 x16.2.1.length 1 false), (eI .i64 x16.2.2.1), (eI .i64 x16.2.2.2.1)])) (aI rfl (bZ rfl (bQ (ds := [(eI .i64 x16.1), (.sl 1 0 x16.2.1.length 1 false), (eI .i64 x16.2.2.1), (eI .i64 x16.2.2.2.1)]) gF rfl zl rfl))) ?_
        refine OpsW.ghost (Ghost.conv (fr' := [(0, (.row none 1 (b_1.map (eI .u8)))), (4, (.sl 0 0 bF.length 4 true)), (5, (.ptr 2 0)), (6, (.row none 1 (x16.2.2.2.2.1.map (eI .u8)))), (7, (eI .i64 x16.2.2.2.2.2)), (11, (.row none 1 (b_1.map (eI .u8)))), (12, (eI .i64 (b_1.length : Int))), (13, (eB (decide (0 < (b_1.length : Int))))), (14, (.tup [(.agg [(eI .i64 x16.1), (.row none 1 (x16.2.1.map (eI .u8))), (eI .i64 x16.2.2.1), (eI .i64 x16.2.2.2.1)]), (.row none 1 (x16.2.2.2.2.1.map (eI .u8))), (eI .i64 x16.2.2.2.2.2)])), (15, (.row none 1 (b_1.map (eI .u8)))), (16, (.tup [(.agg [(eI .i64 x16.1), (.row none 1 (x16.2.1.map (eI .u8))), (eI .i64 x16.2.2.1), (eI .i64 x16.2.2.2.1)]), (.row none 1 (x16.2.2.2.2.1.map (eI .u8))), (eI .i64 x16.2.2.2.2.2)])), (17, (.agg [(eI .i64 x16.1), (.row none 1 (x16.2.1.map (eI .u8))), (eI .i64 x16.2.2.1), (eI .i64 x16.2.2.2.1)])), (18, (.row none 1 (x16.2.2.2.2.1.map (eI .u8)))), (19, (eI .i64 x16.2.2.2.2.2)), (20, (eI .i64 x16.2.2.2.2.2)), (21, (eB (x16.2.2.2.2.2 != 0))), (23, (.sl 0 0 bF.length 4 true)), (24, (.agg [(eI .i64 x16.1), (.row none 1 (x16.2.1.map (eI .u8))), (eI .i64 x16.2.2.1), (eI .i64 x16.2.2.2.1)]))]) (h' := [some ⟨90, bF.flatMap cR⟩, none, some ⟨90, [(eI .i64 x16.1), (.row none 1 (x16.2.1.map (eI .u8))), (eI .i64 x16.2.2.1), (eI .i64 x16.2.2.2.1)]⟩]) (FCv.cons rfl (Conv.same (aZ rfl)) (FCv.cons rfl (Conv.same (aZ rfl)) (FCv.cons rfl (Conv.same (aZ rfl)) (FCv.cons rfl (Conv.same (aZ rfl)) (FCv.cons rfl (Conv.same (aZ rfl)) (FCv.cons rfl (Conv.same (aZ rfl)) (FCv.cons rfl (Conv.same (aZ rfl)) (FCv.cons rfl (Conv.same (aZ rfl)) (FCv.cons rfl (Conv.tup (Convs.cons (Conv.agg (Convs.cons (Conv.same (aZ rfl)) (Convs.cons (Conv.row (aZ rfl) rfl rfl (m9 (fun _ => rfl)) (by first | rfl | (simp only [List.length_map, cN, cO]; done))) (Convs.cons (Conv.same (aZ rfl)) (Convs.cons (Conv.same (aZ rfl)) Convs.nil))))) (Convs.cons (Conv.same (aZ rfl)) (Convs.cons (Conv.same (aZ rfl)) Convs.nil)))) (FCv.cons rfl (Conv.same (aZ rfl)) (FCv.cons rfl (Conv.tup (Convs.cons (Conv.agg (Convs.cons (Conv.same (aZ rfl)) (Convs.cons (Conv.row (aZ rfl) rfl rfl (m9 (fun _ => rfl)) (by first | rfl | (simp only [List.length_map, cN, cO]; done))) (Convs.cons (Conv.same (aZ rfl)) (Convs.cons (Conv.same (aZ rfl)) Convs.nil))))) (Convs.cons (Conv.same (aZ rfl)) (Convs.cons (Conv.same (aZ rfl)) Convs.nil)))) (FCv.cons rfl (Conv.agg (Convs.cons (Conv.same (aZ rfl)) (Convs.cons (Conv.row (aZ rfl) rfl rfl (m9 (fun _ => rfl)) (by first | rfl | (simp only [List.length_map, cN, cO]; done))) (Convs.cons (Conv.same (aZ rfl)) (Convs.cons (Conv.same (aZ rfl)) Convs.nil))))) (FCv.cons rfl (Conv.same (aZ rfl)) (FCv.cons rfl (Conv.same (aZ rfl)) (FCv.cons rfl (Conv.same (aZ rfl)) (FCv.cons rfl (Conv.same (aZ rfl)) (FCv.cons rfl (Conv.same (aZ rfl)) (FCv.cons rfl (Conv.agg (Convs.cons (Conv.same (aZ rfl)) (Convs.cons (Conv.row (aZ rfl) rfl rfl (m9 (fun _ => rfl)) (by first | rfl | (simp only [List.length_map, cN, cO]; done))) (Convs.cons (Conv.same (aZ rfl)) (Convs.cons (Conv.same (aZ rfl)) Convs.nil))))) FCv.nil)))))))))))))))))) (HCv.live (Convs.same (aZ rfl)) (fT (fun _ => rfl) _) (HCv.dead (HCv.live (Convs.cons (Conv.same (aZ rfl)) (Convs.cons (Conv.row (aZ rfl) rfl rfl (m9 (fun _ => rfl)) (by first | rfl | (simp only [List.length_map, cN, cO]; done))) (Convs.cons (Conv.same (aZ rfl)) (Convs.cons (Conv.same (aZ rfl)) Convs.nil)))) rfl HCv.nil)))) ?_
        refine zw (v := (.sl 3 0 1 4 true)) (h' := [some ⟨90, bF.flatMap cR⟩, none, some ⟨90, [(eI .i64 x16.1), (.row none 1 (x16.2.1.map (eI .u8))), (eI .i64 x16.2.2.1), (eI .i64 x16.2.2.2.1)]⟩, some ⟨90, [(bM.mk x16.1 x16.2.1 x16.2.2.1 x16.2.2.2.1)].flatMap cR⟩]) (e9 rfl (aBo (C := cR) (xs := [(bM.mk x16.1 x16.2.1 x16.2.2.1 x16.2.2.2.1)]) (K := 4) (fun _ => rfl) (fun _ => rfl) aFk gF ⟨zl, zl, zl⟩ rfl rfl rfl rfl rfl rfl)) ?_
        refine zw (v := (.sl 4 0 x26.length 4 true)) (h' := [none, none, some ⟨90, [(eI .i64 x16.1), (.row none 1 (x16.2.1.map (eI .u8))), (eI .i64 x16.2.2.1), (eI .i64 x16.2.2.2.1)]⟩, some ⟨90, [(bM.mk x16.1 x16.2.1 x16.2.2.1 x16.2.2.2.1)].flatMap cR⟩, some ⟨90, x26.flatMap cR⟩]) (dZ rfl rfl (aI5 (C := cR) (K := 4) (fun _ => rfl) rfl aFk gF ⟨rfl, rfl, zl, zl⟩ rfl (aIv (C := cR) (fun _ => rfl) rfl rfl) h_5 rfl rfl)) <| zm rfl <| za rfl <| za rfl <| OpsW.nil <| Ex.inBlock_mk <| Ex.then_mk ?_
        exact ⟨x16.2.2.2.2.1, x26, hr2, (zG [4])⟩
    · refine AB.exit <| Ex.then_exit_mk <| Ex.then_exit_mk <| Ex.inBlock_same_mk ?_
      obtain rfl := sj hr2
      refine Ex.then_mk ?_
      exact hG1 _ _ _ _ (zG [0]) (J1 bF hr)
theorem aC8 (N : Nat) (l : List bM) (r : Bool) (hr : qB N l = some r) :
    Vm.Fn Tryd.prog 38 [] [(.row none 4 (l.map z6))] (eB r) [] := by
  refine zf Tryd.func38 Tryd.ntmps38 ?_
  unfold qB at hr
  refine zq <| zj <| zn <| zq <| zw (v := (.row (some true) 1 [])) (bE rfl) <| zn ?_
  refine AB.seq_g fun K1 hK1 hG1 => ?_
  have J1 : ∀ (l0 : List Bool), t5 N l0 = some r → K1 (aV 47 [(3, (.sl 0 0 l0.length 1 false))]) [some ⟨4, l0.map eB⟩] := by
    intro l0 hr
    unfold t5 at hr
    refine hK1 _ _ <| zq <| zm rfl <| zw (v := (eI .i64 (l0.length : Int))) (gQ rfl (pQ aBt)) <| hZ rfl rfl <| za rfl <| zn <| AB.ret ?_
    obtain rfl := sj hr
    exact bW Tryd.results38 []
  refine zq <| zm rfl <| eT rfl aFk <| zI <| zn ?_
  obtain ⟨cL, hL2, hr⟩ := aN hr
  refine AB.block ?_
  refine AB.loopN (fun m s h => ∃ (x9 : Int) (bF : List Bool), d6 N l m x9 bF = some cL ∧ Ghost 0 s h (aV 47 [(3, (.sl 0 0 bF.length 1 false)), (7, (.row none 4 (l.map z6))), (8, (eI .i64 (l.length : Int))), (9, (eI .i64 x9))]) [some ⟨4, bF.map eB⟩]) (n := N) ⟨0, [], hL2, (Ghost.trans (Ghost.virt (fr' := [(3, (.sl 0 0 0 1 false)), (7, (.row none 4 (l.map z6))), (8, (eI .i64 (l.length : Int))), (9, (eI .i64 0))]) (h1 := []) 4 (FLe.le rfl (V.le_virt rfl) (FLe.same rfl (FLe.same rfl (FLe.same rfl FLe.nil)))) HLv.nil) (Ghost.rn [0] rfl rfl (FLe.le rfl (by first | exact V.le_refl _ _ | (simp only [cN, cO]; exact V.le_refl _ _)) (FLe.same rfl (FLe.same rfl (FLe.same rfl FLe.nil)))) (HLe.live rfl V.les_nil rfl HLe.nil) rfl))⟩ (by rintro s h ⟨_, _, h0, _⟩; simp [d6] at h0) ?_
  rintro m2 s h ⟨x9, bF, hr2, hg⟩
  refine AB.ghost hg ?_
  clear hg hL2
  rw [d6] at hr2
  refine zq <| eY rfl rfl <| zn <| AB.seq ?_
  refine zk hr2 rfl (fun h1 hr2 => ?_) (fun h1 hr2 => ?_)
  · refine AB.skip <| Ex.then_mk ?_
    refine AB.seq_g fun K3 hK3 hG3 => ?_
    have J3 : ∀ (nM : List Bool), jH N l x9 (d6 N l m2) nM = some cL → K3 (aV 47 [(3, (.sl 0 0 nM.length 1 false)), (7, (.row none 4 (l.map z6))), (8, (eI .i64 (l.length : Int))), (9, (eI .i64 x9))]) [some ⟨4, nM.map eB⟩] := by
      intro nM hr2
      unfold jH at hr2
      refine hK3 _ _ <| AB.rw <| dG rfl rfl <| zm rfl <| zn ?_
      exact ⟨IntKind.i64.wrap (x9 + 1), nM, hr2, (zG [0])⟩
    refine AB.block <| AB.seq ?_
    obtain ⟨b7, h_2, hr2⟩ := aN hr2
    refine AB.rw <| zw (bP rfl rfl (kH aFk gF h_2)) <| zw (v := (.agg [(eI .i64 b7.Code), (.row none 1 (b7.Data.map (eI .u8))), (eI .i64 b7.M), (eI .i64 b7.N)])) (aI rfl (jM h_2 (bQ (ds := [(eI .i64 b7.Code), (.row none 1 (b7.Data.map (eI .u8))), (eI .i64 b7.M), (eI .i64 b7.N)]) gF rfl zl rfl))) <| zh (v := (.ptr 1 0)) (cK (B := some ⟨90, [(eI .i64 0), (.row (some true) 1 []), (eI .i64 0), (eI .i64 0)]⟩) gF rfl rfl) ?_
    refine zt (aU rfl rfl (eR gF rfl rfl rfl zl rfl)) ?_
    refine zn <| zq <| zm rfl <| zw (v := (eI .i64 (bF.length : Int))) (gQ rfl (pQ aBt)) <| vP rfl rfl <| za rfl <| zn <| zq <| cQ rfl (qI ..) <| dP rfl rfl dN rfl <| zn <| AB.block <| zq <| hZ rfl rfl <| za rfl <| zn ?_
    refine zk hr2 rfl (fun h3 hr2 => ?_) (fun h3 hr2 => ?_)
    · obtain ⟨d8, h_4, hr2⟩ := aN hr2
      refine AB.rw <| zm rfl <| zh (v := (.sl 2 0 1 1 false)) (e9 rfl (oQ (xs := [false].map eB) aBt ti4 zl zl rfl rfl rfl rfl rfl rfl rfl)) ?_
      refine zh (v := (.sl 3 0 d8.length 1 false)) (dZ rfl rfl (nD (E := eB) rfl aBt ti4 ⟨rfl, rfl, zl⟩ rfl (pU rfl rfl) h_4 rfl rfl)) ?_
      refine za rfl <| OpsW.nil <| Ex.inBlock_mk <| Ex.inBlock_mk <| Ex.then_mk ?_
      exact hG3 _ _ _ _ (zG [3]) (J3 d8 hr2)
    · refine zq <| hZ rfl rfl <| za rfl <| zn ?_
      refine zk hr2 rfl (fun h5 hr2 => ?_) (fun h5 hr2 => ?_)
      · refine AB.seq ?_
        refine AB.seq_g fun K4 hK4 hG4 => ?_
        have J4 : ∀ (vF : Bool), mZ N l x9 bF (d6 N l m2) vF = some cL → K4 (aV 47 [(3, (.sl 0 0 bF.length 1 false)), (6, (eI .i64 (IntKind.i64.wrap ((bF.length : Int) - 1)))), (7, (.row none 4 (l.map z6))), (8, (eI .i64 (l.length : Int))), (9, (eI .i64 x9)), (32, (eB vF))]) [some ⟨4, bF.map eB⟩] := by
          intro vF hr2
          unfold mZ at hr2
          refine hK4 _ _ ?_
          refine zk hr2 rfl (fun h6 hr2 => ?_) (fun h6 hr2 => ?_)
          · refine zq <| zj <| zn <| AB.ret <| Ex.then_ret_mk <| Ex.inBlock_ret_mk <| Ex.inBlock_ret_mk <| Ex.then_ret_mk <| Ex.then_ret_mk <| Ex.inBlock_ret_mk <| Ex.then_ret_mk ?_
            obtain rfl := sj hr2
            obtain rfl := sj hr
            exact bW Tryd.results38 []
          · refine AB.skip <| Ex.then_mk ?_
            obtain ⟨x35, h_7, hr2⟩ := aN hr2
            refine AB.rw <| zm rfl <| zm rfl <| zw (v := (.ptr 0 (Int.toNat (IntKind.i64.wrap ((bF.length : Int) - 1))))) (bP rfl rfl (iaS rfl aBt ti4 rfl h_7)) <| zt (aU rfl rfl (s6 (E := eB) (y := true) ti4 rfl rfl h_7 rfl rfl rfl)) ?_
            refine OpsW.nil <| Ex.inBlock_mk <| Ex.inBlock_mk <| Ex.then_mk ?_
            exact hG3 _ _ _ _ (Ghost.rn [0] rfl rfl (FLe.le rfl (by first | exact V.le_refl _ _ | (simp only [cN, cO]; exact V.le_refl _ _)) (FLe.same rfl (FLe.same rfl (FLe.same rfl FLe.nil)))) (HLe.live rfl (mC (fun _ => rfl) _) (all_map (fun _ => rfl) _) HLe.nil) rfl) (J3 (bF.set (Int.toNat (IntKind.i64.wrap ((bF.length : Int) - 1))) true) hr2)
        rcases Bool.eq_false_or_eq_true (decide ((IntKind.i64.wrap ((bF.length : Int) - 1)) < 0)) with h8 | h8
        · replace hr2 := gE hr2 h8
          refine AB.rw <| zm rfl <| eY rfl rfl <| zm rfl <| zx h8 <| zx h8 <| zx h8 <| zx h8 <| zw (v := (eB true)) (c9 rfl h8 rfl) <| zn ?_
          exact hG4 _ _ _ _ (zG [0]) (J4 true hr2)
        · replace hr2 := gB hr2 h8
          obtain ⟨jG, h_9, hr2⟩ := aN hr2
          refine AB.rw <| zm rfl <| eY rfl rfl <| zm rfl <| zg h8 (bI rfl) <| zg h8 (bI rfl) <| zg (v := (.ptr 0 (Int.toNat (IntKind.i64.wrap ((bF.length : Int) - 1))))) h8 (bP rfl rfl (iaS rfl aBt ti4 rfl h_9)) <| zg (v := (eB jG)) h8 (aI rfl (gG (E := eB) (y := jG) ti4 rfl rfl h_9)) <| oB rfl h8 rfl <| zn ?_
          exact hG4 _ _ _ _ (zG [0]) (J4 jG hr2)
      · refine zq <| hZ rfl rfl <| za rfl <| zn ?_
        refine zk hr2 rfl (fun h10 hr2 => ?_) (fun h10 hr2 => ?_)
        · refine AB.seq <| zq <| zm rfl <| eY rfl rfl <| zn ?_
          refine zk hr2 rfl (fun h11 hr2 => ?_) (fun h11 hr2 => ?_)
          · refine zq <| zj <| zn <| AB.ret <| Ex.then_ret_mk <| Ex.inBlock_ret_mk <| Ex.inBlock_ret_mk <| Ex.then_ret_mk <| Ex.then_ret_mk <| Ex.inBlock_ret_mk <| Ex.then_ret_mk ?_
            obtain rfl := sj hr2
            obtain rfl := sj hr
            exact bW Tryd.results38 []
          · refine AB.skip <| Ex.then_mk ?_
            obtain ⟨x42, h_12, hr2⟩ := aN hr2
            refine AB.rw <| zm rfl <| zm rfl <| zw (v := (.sl 0 0 x42.length 1 false)) (eC rfl rfl rfl (aI3 (l := bF) rfl aBt ti4 rfl rfl rfl h_12)) <| OpsW.ghost (Ghost.cutM (t := 42) (E := eB) (l := bF) (h' := [some ⟨4, x42.map eB⟩, some ⟨90, [(eI .i64 b7.Code), (.row none 1 (b7.Data.map (eI .u8))), (eI .i64 b7.M), (eI .i64 b7.N)]⟩]) rfl rfl h_12 rfl) <| za rfl <| OpsW.nil <| Ex.inBlock_mk <| Ex.inBlock_mk <| Ex.then_mk ?_
            exact hG3 _ _ _ _ (zG [0]) (J3 x42 hr2)
        · refine AB.skip <| Ex.inBlock_mk <| Ex.inBlock_mk <| Ex.then_mk ?_
          exact hG3 _ _ _ _ (zG [0]) (J3 bF hr2)
  · refine AB.exit <| Ex.then_exit_mk <| Ex.then_exit_mk <| Ex.inBlock_same_mk ?_
    obtain rfl := sj hr2
    refine Ex.then_mk ?_
    exact hG1 _ _ _ _ (zG [0]) (J1 bF hr)
theorem aCT (N : Nat) (stack : List (List Int)) (r : Bool) (hr : o2 N stack = some r) :
    Vm.Fn Tryd.prog 39 [] [(.row none 1 (stack.map (eL 1 (eI .u8))))] (eB r) [] := by
  refine zf Tryd.func39 Tryd.ntmps39 ?_
  unfold o2 at hr
  refine zq <| zj <| zn <| AB.seq <| zq <| zm rfl <| eT rfl b5 <| sC rfl rfl <| zn ?_
  refine zk hr rfl (fun h1 hr => ?_) (fun h1 hr => ?_)
  · refine zq <| zj <| zn <| AB.ret <| Ex.then_ret_mk ?_
    obtain rfl := sj hr
    exact bW Tryd.results39 []
  · refine AB.skip <| Ex.then_mk ?_
    refine AB.seq_g fun K1 hK1 hG1 => ?_
    have J1 : s7 N = some r → K1 (aV 18 []) [] := by
      intro hr
      unfold s7 at hr
      refine hK1 _ _ <| zq <| zj <| zn <| AB.ret ?_
      obtain rfl := sj hr
      exact bW Tryd.results39 []
    refine zq <| zm rfl <| eT rfl b5 <| zI <| zn ?_
    obtain ⟨cL, hL2, hr⟩ := aN hr
    refine AB.block <| AB.loopN (fun m s h => ∃ (cG : Int), gY N stack m cG = some cL ∧ Ghost 0 s h (aV 18 [(8, (.row none 1 (stack.map (eL 1 (eI .u8))))), (9, (eI .i64 (stack.length : Int))), (10, (eI .i64 cG))]) []) (n := N) ⟨0, hL2, (zG [])⟩ (by rintro s h ⟨_, h0, _⟩; simp [gY] at h0) ?_
    rintro m2 s h ⟨cG, hr2, hg⟩
    refine AB.ghost hg ?_
    clear hg hL2
    rw [gY] at hr2
    refine zq <| eY rfl rfl <| zn <| AB.seq ?_
    refine zk hr2 rfl (fun h2 hr2 => ?_) (fun h2 hr2 => ?_)
    · refine AB.skip <| Ex.then_mk <| AB.seq <| AB.block <| AB.seq ?_
      obtain ⟨fF, h_3, hr2⟩ := aN hr2
      refine AB.rw <| zw (bP rfl rfl (kH b5 bG h_3)) <| zw (v := (.row none 1 (fF.map (eI .u8)))) (aI rfl (jM h_3 (bX bG rfl rfl))) <| za rfl <| zn <| zq <| zm rfl <| eT rfl bG <| sC rfl rfl <| zn ?_
      refine zk hr2 rfl (fun h4 hr2 => ?_) (fun h4 hr2 => ?_)
      · refine zq <| zj <| zn <| AB.ret <| Ex.inBlock_ret_mk <| Ex.then_ret_mk <| Ex.then_ret_mk <| Ex.inBlock_ret_mk <| Ex.then_ret_mk ?_
        obtain rfl := sj hr2
        obtain rfl := sj hr
        exact bW Tryd.results39 []
      · refine AB.skip <| Ex.inBlock_mk <| Ex.then_mk <| AB.rw <| dG rfl rfl <| zm rfl <| zn ?_
        exact ⟨IntKind.i64.wrap (cG + 1), hr2, (zG [])⟩
    · refine AB.exit <| Ex.then_exit_mk <| Ex.then_exit_mk <| Ex.inBlock_same_mk ?_
      obtain rfl := sj hr2
      refine Ex.then_mk ?_
      exact hG1 _ _ _ _ (zG []) (J1 hr)
theorem tZ (N : Nat) (stack : List (List Int)) (r : (List (List Int))) (hr : nQ N stack = some r) :
    Vm.Fn Tryd.prog 40 [] [(.row none 1 (stack.map (eL 1 (eI .u8))))] (.sl 0 0 r.length 1 false) [some ⟨42, r.map (eL 1 (eI .u8))⟩] := by
  refine zf Tryd.func40 Tryd.ntmps40 ?_
  unfold nQ at hr
  refine zq <| zw (v := (.row (some true) 1 [])) (bE rfl) <| zn <| zq <| zw (v := (.row (some true) 1 [])) (bE rfl) <| zn ?_
  refine AB.seq_g fun K1 hK1 hG1 => ?_
  have J1 : ∀ (l0 : List (List Int)), pM N l0 = some r → K1 (aV 20 [(3, (.sl 0 0 l0.length 1 false))]) [some ⟨42, l0.map (eL 1 (eI .u8))⟩] := by
    intro l0 hr
    unfold pM at hr
    refine hK1 _ _ <| zq <| zm rfl <| za rfl <| zn <| AB.ret ?_
    obtain rfl := sj hr
    exact bW Tryd.results40 [0]
  refine zq <| zm rfl <| eT rfl b5 <| zI <| zn ?_
  obtain ⟨cL, hL2, hr⟩ := aN hr
  refine AB.block ?_
  refine AB.loopN (fun m s h => ∃ (x8 : Int) (bF : List (List Int)), jJ N stack m x8 bF = some cL ∧ Ghost 0 s h (aV 20 [(3, (.sl 0 0 bF.length 1 false)), (6, (.row none 1 (stack.map (eL 1 (eI .u8))))), (7, (eI .i64 (stack.length : Int))), (8, (eI .i64 x8))]) [some ⟨42, bF.map (eL 1 (eI .u8))⟩]) (n := N) ⟨0, [], hL2, (Ghost.trans (Ghost.virt (fr' := [(3, (.sl 0 0 0 1 false)), (6, (.row none 1 (stack.map (eL 1 (eI .u8))))), (7, (eI .i64 (stack.length : Int))), (8, (eI .i64 0))]) (h1 := []) 42 (FLe.le rfl (V.le_virt rfl) (FLe.same rfl (FLe.same rfl (FLe.same rfl FLe.nil)))) HLv.nil) (Ghost.rn [0] rfl rfl (FLe.le rfl (by first | exact V.le_refl _ _ | (simp only [cN, cO]; exact V.le_refl _ _)) (FLe.same rfl (FLe.same rfl (FLe.same rfl FLe.nil)))) (HLe.live rfl V.les_nil rfl HLe.nil) rfl))⟩ (by rintro s h ⟨_, _, h0, _⟩; simp [jJ] at h0) ?_
  rintro m2 s h ⟨x8, bF, hr2, hg⟩
  refine AB.ghost hg ?_
  clear hg hL2
  rw [jJ] at hr2
  refine zq <| eY rfl rfl <| zn <| AB.seq ?_
  refine zk hr2 rfl (fun h1 hr2 => ?_) (fun h1 hr2 => ?_)
  · refine AB.skip <| Ex.then_mk <| AB.seq <| AB.block <| AB.seq ?_
    obtain ⟨cG, h_2, hr2⟩ := aN hr2
    refine AB.rw <| zw (bP rfl rfl (kH b5 bG h_2)) <| zw (v := (.row none 1 (cG.map (eI .u8)))) (aI rfl (jM h_2 (bX bG rfl rfl))) <| za rfl <| zn ?_
    obtain ⟨x15, h_3, hr2⟩ := aN hr2
    obtain ⟨x17, h_4, hr2⟩ := aN hr2
    refine AB.rw <| zm rfl <| zm rfl <| zh (v := (.sl 1 0 1 1 false)) (e9 rfl (oQ (xs := [cG].map (eL 1 (eI .u8))) b5 bG zl zl rfl rfl rfl rfl rfl rfl rfl)) ?_
    refine wC (v := (.sl 2 0 x15.length 1 false)) (h' := [some ⟨42, bF.map (eL 1 (eI .u8))⟩, some ⟨42, [cG].map (eL 1 (eI .u8))⟩, some ⟨5, x15.map (eI .u8)⟩]) rfl (zL (aB0 N [cG] x15 h_3) [] [1]) ?_
    refine OpsW.ghost (zV [(3, (.sl 0 0 bF.length 1 false)), (5, (.row none 1 (cG.map (eI .u8)))), (6, (.row none 1 (stack.map (eL 1 (eI .u8))))), (7, (eI .i64 (stack.length : Int))), (8, (eI .i64 x8)), (9, (eB (decide (x8 < (stack.length : Int))))), (11, (.row none 1 (cG.map (eI .u8)))), (12, (.sl 0 0 bF.length 1 false)), (13, (.row none 1 (cG.map (eI .u8)))), (14, (.sl 1 0 1 1 false)), (15, (.row none 1 (x15.map (eI .u8))))] [some ⟨42, bF.map (eL 1 (eI .u8))⟩, some ⟨42, [cG].map (eL 1 (eI .u8))⟩, none]) ?_
    refine zh (v := (.sl 3 0 1 1 false)) (e9 rfl (oQ (xs := [x15].map (eL 1 (eI .u8))) b5 bG zl zl rfl rfl rfl rfl rfl rfl rfl)) ?_
    refine zh (v := (.sl 4 0 x17.length 1 false)) (dZ rfl rfl (nD (E := (eL 1 (eI .u8))) rfl b5 bG ⟨rfl, rfl, zl⟩ rfl (pU rfl rfl) h_4 rfl rfl)) ?_
    refine za rfl <| OpsW.nil <| Ex.inBlock_mk <| Ex.then_mk <| AB.rw <| dG rfl rfl <| zm rfl <| zn ?_
    exact ⟨IntKind.i64.wrap (x8 + 1), x17, hr2, (zG [4])⟩
  · refine AB.exit <| Ex.then_exit_mk <| Ex.then_exit_mk <| Ex.inBlock_same_mk ?_
    obtain rfl := sj hr2
    refine Ex.then_mk ?_
    exact hG1 _ _ _ _ (zG [0]) (J1 bF hr)
theorem z8 (N : Nat) (aE : List Int) (aF : Int) (aJ : Int) (aG : List (List Int)) (aD : List aS) (aW : Int) (r : Bool) (hr : l9 N aE aF aJ aG aD aW = some r) :
    Vm.Fn Tryd.prog 49 [some ⟨88, (aX (eI .u8) aE [(eI .i64 aF), (eI .i64 aJ), (.sl 1 0 aG.length 1 false), (.sl 2 0 aD.length 2 true), (eI .i64 aW)])⟩, some ⟨42, aG.map (eL 1 (eI .u8))⟩, some ⟨103, aD.flatMap aQ⟩] [(.ptr 0 0)] (eB r) [some ⟨88, (aX (eI .u8) aE [(eI .i64 aF), (eI .i64 aJ), (.sl 1 0 aG.length 1 false), (.sl 2 0 aD.length 2 true), (eI .i64 aW)])⟩, some ⟨42, aG.map (eL 1 (eI .u8))⟩, some ⟨103, aD.flatMap aQ⟩] := by
  refine zf Tryd.func49 Tryd.ntmps49 ?_
  unfold l9 at hr
  refine zq <| zj <| zn <| AB.seq <| zq <| zm rfl <| zw (v := (.ptr 0 0)) (c6 rfl) <| cQ rfl (mB ..) <| dP rfl rfl kV rfl <| zw (v := (eI .i64 (aD.length : Int))) (gQ rfl (pQ kV)) <| hZ rfl rfl <| zn ?_
  refine zk hr rfl (fun h1 hr => ?_) (fun h1 hr => ?_)
  · refine zq <| zj <| zn <| AB.ret <| Ex.then_ret_mk ?_
    obtain rfl := sj hr
    exact bW Tryd.results49 [0, 1, 2]
  · refine AB.skip <| Ex.then_mk <| AB.seq ?_
    obtain ⟨dD, h_2, hr⟩ := aN hr
    refine AB.rg E0 (fun _ => by show dR (fun _ => false) _ = true; decide +kernel) <| tS (sv (bI rfl)) <| tS (v := (.ptr 0 0)) (sv (c6 rfl)) <| tS (v := (.ptr 0 35)) (sv (eE rfl (mB ..))) <| tS (v := (.sl 2 0 aD.length 2 true)) (sv (aI rfl (bZ rfl (bX kV rfl rfl)))) <| tS (sv (bI rfl)) <| tS (v := (.ptr 0 0)) (sv (c6 rfl)) <| tS (v := (.ptr 0 35)) (sv (eE rfl (mB ..))) <| tS (v := (.sl 2 0 aD.length 2 true)) (sv (aI rfl (bZ rfl (bX kV rfl rfl)))) <| tS (v := (eI .i64 (aD.length : Int))) (sv (gQ rfl (pQ kV))) ?_
    refine tS (v := (eI .i64 (IntKind.i64.wrap ((aD.length : Int) - 1)))) (sv (a9 rfl rfl (fM ..))) <| tS (v := (.ptr 2 (0 + Int.toNat (IntKind.i64.wrap ((aD.length : Int) - 1)) * 2))) (sv (bP rfl rfl (aE1 (K := 2) rfl kV oR rfl h_2))) <| tS (v := (.agg [(eB dD.outer), (eB dD.taken)])) (sv (aI rfl (aKU (C := aQ) (K := 2) (fun _ => rfl) rfl h_2 (bQ (ds := [(eB dD.outer), (eB dD.taken)]) oR rfl zl rfl)))) ?_
    refine tS (v := (.ptr 3 0)) (h' := [some ⟨88, (aX (eI .u8) aE [(eI .i64 aF), (eI .i64 aJ), (.sl 1 0 aG.length 1 false), (.sl 2 0 aD.length 2 true), (eI .i64 aW)])⟩, some ⟨42, aG.map (eL 1 (eI .u8))⟩, some ⟨103, aD.flatMap aQ⟩, some ⟨103, [(eB false), (eB false)]⟩]) (sv (nS oR rfl rfl rfl)) ?_
    refine tN (h' := [some ⟨88, (aX (eI .u8) aE [(eI .i64 aF), (eI .i64 aJ), (.sl 1 0 aG.length 1 false), (.sl 2 0 aD.length 2 true), (eI .i64 aW)])⟩, some ⟨42, aG.map (eL 1 (eI .u8))⟩, some ⟨103, aD.flatMap aQ⟩, some ⟨103, [(eB dD.outer), (eB dD.taken)]⟩]) (sv (aU rfl rfl (eR oR rfl rfl rfl zl rfl))) <| OpsTo.nil <| Ex.then_mk ?_
    refine AB.seq_g fun K1 hK1 hG1 => ?_
    have J1 : ∀ (x2 : Bool), iM N aE aF aJ aG aD aW x2 = some r → K1 (aV 28 [(2, (eB x2))]) [some ⟨88, (aX (eI .u8) aE [(eI .i64 aF), (eI .i64 aJ), (.sl 1 0 aG.length 1 false), (.sl 2 0 aD.length 2 true), (eI .i64 aW)])⟩, some ⟨42, aG.map (eL 1 (eI .u8))⟩, some ⟨103, aD.flatMap aQ⟩] := by
      intro x2 hr
      unfold iM at hr
      refine hK1 _ _ <| AB.ret ?_
      obtain rfl := sj hr
      exact bW Tryd.results49 [0, 1, 2]
    rcases Bool.eq_false_or_eq_true dD.outer with h3 | h3
    · replace hr := gE hr h3
      refine AB.rw <| cQ rfl (aDc ..) <| dP rfl rfl ti4 rfl <| zm rfl <| zg (v := (.ptr 3 1)) h3 (eE rfl (aDD ..)) <| zg (v := (eB dD.taken)) h3 (aI rfl (bZ rfl (bX ti4 rfl rfl))) <| zpT rfl h3 rfl <| za rfl <| zn ?_
      exact hG1 _ _ _ _ (zG [0, 1, 2]) (J1 dD.taken hr)
    · replace hr := gB hr h3
      refine AB.rw <| cQ rfl (aDc ..) <| dP rfl rfl ti4 rfl <| zm rfl <| zx h3 <| zx h3 <| zw (v := (eB false)) (fV rfl h3 rfl) <| za rfl <| zn ?_
      exact hG1 _ _ _ _ (zG [0, 1, 2]) (J1 false hr)
theorem aDT (N : Nat) (aR : Int) (bC : List Int) (b4 : Int) (bY : Int) (r : Int) (hr : sG N aR bC b4 bY = some r) :
    Vm.Fn Tryd.prog 50 [] [(.agg [(eI .i64 aR), (.row none 1 (bC.map (eI .u8))), (eI .i64 b4), (eI .i64 bY)])] (eI .i64 r) [] := by
  refine zf Tryd.func50 Tryd.ntmps50 ?_
  unfold sG at hr
  refine zq <| zh (v := (.ptr 0 0)) (b8 rfl rfl rfl rfl) ?_
  refine zi <| zn <| AB.seq <| zq <| cQ rfl (qI ..) <| dP rfl rfl dN rfl <| zn <| AB.block <| zq <| hZ rfl rfl <| za rfl <| zn ?_
  refine zk hr rfl (fun h1 hr => ?_) (fun h1 hr => ?_)
  · refine zq <| zi <| zn <| AB.ret <| Ex.inBlock_ret_mk <| Ex.then_ret_mk ?_
    obtain rfl := sj hr
    exact bW Tryd.results50 []
  · refine zq <| hZ rfl rfl <| za rfl <| zn ?_
    refine zk hr rfl (fun h2 hr => ?_) (fun h2 hr => ?_)
    · refine zq <| zi <| zn <| AB.ret <| Ex.inBlock_ret_mk <| Ex.then_ret_mk ?_
      obtain rfl := sj hr
      exact bW Tryd.results50 []
    · refine zq <| hZ rfl rfl <| za rfl <| zn ?_
      refine zk hr rfl (fun h3 hr => ?_) (fun h3 hr => ?_)
      · refine zq <| cQ rfl (mR ..) <| dP rfl rfl dN rfl <| z4 rfl rfl <| dG rfl rfl <| za rfl <| zn <| AB.ret <| Ex.inBlock_ret_mk <| Ex.then_ret_mk ?_
        obtain rfl := sj hr
        exact bW Tryd.results50 []
      · refine AB.skip <| Ex.inBlock_mk <| Ex.then_mk <| zq <| zi <| zn <| AB.ret ?_
        obtain rfl := sj hr
        exact bW Tryd.results50 []
theorem aEb (N : Nat) (aR : Int) (bC : List Int) (b4 : Int) (bY : Int) (r : Int) (hr : r4 N aR bC b4 bY = some r) :
    Vm.Fn Tryd.prog 51 [] [(.agg [(eI .i64 aR), (.row none 1 (bC.map (eI .u8))), (eI .i64 b4), (eI .i64 bY)])] (eI .i64 r) [] := by
  refine zf Tryd.func51 Tryd.ntmps51 ?_
  unfold r4 at hr
  refine zq <| zh (v := (.ptr 0 0)) (b8 rfl rfl rfl rfl) ?_
  refine zi <| zn <| AB.seq <| zq <| cQ rfl (qI ..) <| dP rfl rfl dN rfl <| zn <| AB.block ?_
  refine AB.seq_g fun K1 hK1 hG1 => ?_
  have J1 : ∀ (x5 : Bool), kE N aR bC b4 bY x5 = some r → K1 (aV 19 [(1, (.ptr 0 0)), (4, (eI .i64 aR)), (5, (eB x5))]) [some ⟨90, [(eI .i64 aR), (.row none 1 (bC.map (eI .u8))), (eI .i64 b4), (eI .i64 bY)]⟩] := by
    intro x5 hr
    unfold kE at hr
    refine hK1 _ _ ?_
    refine zk hr rfl (fun h1 hr => ?_) (fun h1 hr => ?_)
    · refine zq <| zi <| zn <| AB.ret <| Ex.inBlock_ret_mk <| Ex.then_ret_mk ?_
      obtain rfl := sj hr
      exact bW Tryd.results51 []
    · refine AB.seq_g fun K2 hK2 hG2 => ?_
      have J2 : ∀ (cG : Bool), mA N aR bC b4 bY cG = some r → K2 (aV 19 [(1, (.ptr 0 0)), (4, (eI .i64 aR)), (10, (eB cG))]) [some ⟨90, [(eI .i64 aR), (.row none 1 (bC.map (eI .u8))), (eI .i64 b4), (eI .i64 bY)]⟩] := by
        intro cG hr
        unfold mA at hr
        refine hK2 _ _ ?_
        refine zk hr rfl (fun h2 hr => ?_) (fun h2 hr => ?_)
        · refine zq <| zi <| zn <| AB.ret <| Ex.inBlock_ret_mk <| Ex.then_ret_mk ?_
          obtain rfl := sj hr
          exact bW Tryd.results51 []
        · refine zq <| hZ rfl rfl <| za rfl <| zn ?_
          refine zk hr rfl (fun h3 hr => ?_) (fun h3 hr => ?_)
          · refine zq <| cQ rfl (mR ..) <| dP rfl rfl dN rfl <| z4 rfl rfl <| za rfl <| zn <| AB.ret <| Ex.inBlock_ret_mk <| Ex.then_ret_mk ?_
            obtain rfl := sj hr
            exact bW Tryd.results51 []
          · refine AB.skip <| Ex.inBlock_mk <| Ex.then_mk <| zq <| zi <| zn <| AB.ret ?_
            obtain rfl := sj hr
            exact bW Tryd.results51 []
      refine zq <| hZ rfl rfl <| za rfl <| zn ?_
      refine zk hr rfl (fun h4 hr => ?_) (fun h4 hr => ?_)
      · refine AB.skip <| Ex.then_mk ?_
        exact hG2 _ _ _ _ (zG [0]) (J2 (aR == 4) hr)
      · refine zq <| hZ rfl rfl <| za rfl <| zn ?_
        refine zk hr rfl (fun h5 hr => ?_) (fun h5 hr => ?_)
        · refine AB.skip <| Ex.then_mk ?_
          exact hG2 _ _ _ _ (zG [0]) (J2 (aR == 5) hr)
        · refine AB.rw <| hZ rfl rfl <| za rfl <| zn ?_
          exact hG2 _ _ _ _ (zG [0]) (J2 (aR == 10) hr)
  refine zq <| hZ rfl rfl <| za rfl <| zn ?_
  refine zk hr rfl (fun h6 hr => ?_) (fun h6 hr => ?_)
  · refine AB.skip <| Ex.then_mk ?_
    exact hG1 _ _ _ _ (zG [0]) (J1 (aR == 1) hr)
  · refine zq <| hZ rfl rfl <| za rfl <| zn ?_
    refine zk hr rfl (fun h7 hr => ?_) (fun h7 hr => ?_)
    · refine AB.skip <| Ex.then_mk ?_
      exact hG1 _ _ _ _ (zG [0]) (J1 (aR == 15) hr)
    · refine zq <| hZ rfl rfl <| za rfl <| zn ?_
      refine zk hr rfl (fun h8 hr => ?_) (fun h8 hr => ?_)
      · refine AB.skip <| Ex.then_mk ?_
        exact hG1 _ _ _ _ (zG [0]) (J1 (aR == 16) hr)
      · refine AB.rw <| hZ rfl rfl <| za rfl <| zn ?_
        exact hG1 _ _ _ _ (zG [0]) (J1 (aR == 17) hr)
theorem eM (N : Nat) (aE : List Int) (aF : Int) (aJ : Int) (aG : List (List Int)) (aD : List aS) (aW : Int) (r : (List Int)) (hr : cT N aE aF aJ aG aD aW = some r) :
    Vm.Fn Tryd.prog 52 [some ⟨88, (aX (eI .u8) aE [(eI .i64 aF), (eI .i64 aJ), (.sl 1 0 aG.length 1 false), (.sl 2 0 aD.length 2 true), (eI .i64 aW)])⟩, some ⟨42, aG.map (eL 1 (eI .u8))⟩, some ⟨103, aD.flatMap aQ⟩] [(.ptr 0 0)] (.row none 1 (r.map (eI .u8))) [some ⟨88, (aX (eI .u8) aE [(eI .i64 aF), (eI .i64 aJ), (.sl 1 0 aG.length 1 false), (.sl 2 0 aD.length 2 true), (eI .i64 aW)])⟩, some ⟨42, aG.map (eL 1 (eI .u8))⟩, some ⟨103, aD.flatMap aQ⟩] := by
  refine zf Tryd.func52 Tryd.ntmps52 ?_
  unfold cT at hr
  refine zq <| zw (v := (.row (some true) 1 [])) (bE rfl) <| zn <| AB.seq ?_
  obtain ⟨cJ, h_1, hr⟩ := aN hr
  refine AB.rg E0 (fun _ => by show dR (fun _ => false) _ = true; decide +kernel) <| tS (sv (bI rfl)) <| tS (v := (.ptr 0 0)) (sv (c6 rfl)) <| tS (v := (.ptr 0 34)) (sv (eE rfl (fL ..))) <| tS (v := (.sl 1 0 aG.length 1 false)) (sv (aI rfl (bZ rfl (bX b5 rfl rfl)))) <| tS (sv (bI rfl)) <| tS (v := (.ptr 0 0)) (sv (c6 rfl)) <| tS (v := (.ptr 0 34)) (sv (eE rfl (fL ..))) <| tS (v := (.sl 1 0 aG.length 1 false)) (sv (aI rfl (bZ rfl (bX b5 rfl rfl)))) <| tS (v := (eI .i64 (aG.length : Int))) (sv (gQ rfl (pQ b5))) ?_
  refine tS (v := (eI .i64 (IntKind.i64.wrap ((aG.length : Int) - 1)))) (sv (a9 rfl rfl (fM ..))) <| tS (v := (.ptr 1 (Int.toNat (IntKind.i64.wrap ((aG.length : Int) - 1))))) (sv (bP rfl rfl (iaS rfl b5 bG rfl h_1))) <| tS (v := (.row none 1 (cJ.map (eI .u8)))) (sv (aI rfl (gG (E := (eL 1 (eI .u8))) (y := cJ) bG rfl rfl h_1))) <| tS (sv (bE rfl)) <| OpsTo.nil <| Ex.then_mk <| AB.ret ?_
  obtain rfl := sj hr
  exact bW Tryd.results52 [0, 1, 2]
theorem q6 (N : Nat) (gP : List Int) (r : Bool) (hr : lM N gP = some r) :
    Vm.Fn Tryd.prog 28 [] [(.row none 1 (gP.map (eI .u8)))] (eB r) [] := by
  refine zf Tryd.func28 Tryd.ntmps28 ?_
  unfold lM at hr
  refine zq <| zj <| zn ?_
  refine AB.seq_g fun K1 hK1 hG1 => ?_
  have J1 : uX N = some r → K1 (aV 14 []) [] := by
    intro hr
    unfold uX at hr
    refine hK1 _ _ <| zq <| zj <| zn <| AB.ret ?_
    obtain rfl := sj hr
    exact bW Tryd.results28 []
  refine zq <| zm rfl <| eT rfl bG <| zI <| zn ?_
  obtain ⟨cL, hL2, hr⟩ := aN hr
  refine AB.block <| AB.loopN (fun m s h => ∃ (x7 : Int), i6 N gP m x7 = some cL ∧ Ghost 0 s h (aV 14 [(5, (.row none 1 (gP.map (eI .u8)))), (6, (eI .i64 (gP.length : Int))), (7, (eI .i64 x7))]) []) (n := N) ⟨0, hL2, (zG [])⟩ (by rintro s h ⟨_, h0, _⟩; simp [i6] at h0) ?_
  rintro m2 s h ⟨x7, hr2, hg⟩
  refine AB.ghost hg ?_
  clear hg hL2
  rw [i6] at hr2
  refine zq <| eY rfl rfl <| zn <| AB.seq ?_
  refine zk hr2 rfl (fun h1 hr2 => ?_) (fun h1 hr2 => ?_)
  · refine AB.skip <| Ex.then_mk <| AB.seq <| AB.block <| AB.seq ?_
    obtain ⟨x9, h_2, hr2⟩ := aN hr2
    refine AB.rw <| zw (bP rfl rfl (kH bG cC h_2)) <| zw (v := (eI .u8 x9)) (aI rfl (jM h_2 (bX cC rfl rfl))) <| za rfl <| zn <| zq <| zm rfl <| rE rfl rfl <| zn ?_
    refine zk hr2 rfl (fun h3 hr2 => ?_) (fun h3 hr2 => ?_)
    · refine zq <| zj <| zn <| AB.ret <| Ex.inBlock_ret_mk <| Ex.then_ret_mk <| Ex.then_ret_mk <| Ex.inBlock_ret_mk <| Ex.then_ret_mk ?_
      obtain rfl := sj hr2
      obtain rfl := sj hr
      exact bW Tryd.results28 []
    · refine AB.skip <| Ex.inBlock_mk <| Ex.then_mk <| AB.rw <| dG rfl rfl <| zm rfl <| zn ?_
      exact ⟨IntKind.i64.wrap (x7 + 1), hr2, (zG [])⟩
  · refine AB.exit <| Ex.then_exit_mk <| Ex.then_exit_mk <| Ex.inBlock_same_mk ?_
    obtain rfl := sj hr2
    refine Ex.then_mk ?_
    exact hG1 _ _ _ _ (zG []) (J1 hr)
theorem lK (N : Nat) (aE : List Int) (aF : Int) (aJ : Int) (aG : List (List Int)) (aD : List aS) (aW : Int) (vn : Int) (r : (List Int) × Int × Int × (List (List Int)) × (List aS) × Int) (hr : eO N aE aF aJ aG aD aW vn = some r) :
    Vm.Fn Tryd.prog 53 [some ⟨88, (aX (eI .u8) aE [(eI .i64 aF), (eI .i64 aJ), (.sl 1 0 aG.length 1 false), (.sl 2 0 aD.length 2 true), (eI .i64 aW)])⟩, some ⟨42, aG.map (eL 1 (eI .u8))⟩, some ⟨103, aD.flatMap aQ⟩] [(.ptr 0 0), (eI .i64 vn)] (.tup []) [some ⟨88, (aX (eI .u8) r.1 [(eI .i64 r.2.1), (eI .i64 r.2.2.1), (.sl 3 0 r.2.2.2.1.length 1 false), (.sl 4 0 r.2.2.2.2.1.length 2 true), (eI .i64 r.2.2.2.2.2)])⟩, none, none, some ⟨42, r.2.2.2.1.map (eL 1 (eI .u8))⟩, some ⟨103, r.2.2.2.2.1.flatMap aQ⟩] := by
  refine zf Tryd.func53 Tryd.ntmps53 ?_
  unfold eO at hr
  obtain ⟨x16, h_1, hr⟩ := aN hr
  refine AB.rd (dQ []) (dQ []) mixed <| dO 15 0 rfl rfl <| dO 14 1 rfl rfl <| zp 13 2 rfl (bH (v := (.ptr 0 0)) (c6 rfl)) <| kP 12 3 rfl rfl (fL ..) <| zp 11 4 rfl (bH (v := (.sl 1 0 aG.length 1 false)) (aI rfl (bZ rfl (bX b5 rfl rfl)))) <| dO 10 5 rfl rfl <| zp 9 6 rfl (bH (v := (.ptr 0 0)) (c6 rfl)) <| kP 8 7 rfl rfl (fL ..) <| zp 7 8 rfl (bH (v := (.sl 1 0 aG.length 1 false)) (aI rfl (bZ rfl (bX b5 rfl rfl)))) <| zp 6 9 rfl (bH (v := (eI .i64 (aG.length : Int))) (gQ rfl (pQ b5))) <| dO 5 10 rfl rfl ?_
  refine zp 4 11 rfl (bH (v := (eI .i64 (IntKind.i64.wrap ((aG.length : Int) - vn)))) (a9 rfl rfl (fM ..))) <| zp 3 12 rfl (bH (v := (.sl 1 0 x16.length 1 false)) (eC rfl rfl rfl (aI3 (l := aG) rfl b5 bG rfl rfl rfl h_1))) ?_
  refine DrawG.gh (n := 2) (by decide +kernel) (Ghost.cutM (t := 16) (E := (eL 1 (eI .u8))) (l := aG) (h' := [some ⟨88, (aX (eI .u8) aE [(eI .i64 aF), (eI .i64 aJ), (.sl 1 0 aG.length 1 false), (.sl 2 0 aD.length 2 true), (eI .i64 aW)])⟩, some ⟨42, x16.map (eL 1 (eI .u8))⟩, some ⟨103, aD.flatMap aQ⟩]) rfl rfl h_1 rfl) <| zp 2 13 rfl (bH (v := (.ptr 0 0)) (c6 rfl)) <| kP 1 14 rfl rfl (fL ..) ?_
  refine zp 0 15 rfl (jV (h' := [some ⟨88, (aX (eI .u8) aE [(eI .i64 aF), (eI .i64 aJ), (.sl 1 0 x16.length 1 false), (.sl 2 0 aD.length 2 true), (eI .i64 aW)])⟩, some ⟨42, x16.map (eL 1 (eI .u8))⟩, some ⟨103, aD.flatMap aQ⟩]) (aU rfl rfl (eR b5 rfl rfl rfl zl rfl))) <| DrawG.nil (by decide +kernel) ?_
  obtain rfl := sj hr
  exact aFq (r1 := (.tup [])) (aLX Tryd.results53) (zG [0, 1, 2, 1, 2])
theorem oK (N : Nat) (aE : List Int) (aF : Int) (aJ : Int) (aG : List (List Int)) (aD : List aS) (aW : Int) (gP : List Int) (r : Int × (List Int) × Int × Int × (List (List Int)) × (List aS) × Int) (hr : g8 N aE aF aJ aG aD aW gP = some r) :
    Vm.Fn Tryd.prog 60 [some ⟨88, (aX (eI .u8) aE [(eI .i64 aF), (eI .i64 aJ), (.sl 1 0 aG.length 1 false), (.sl 2 0 aD.length 2 true), (eI .i64 aW)])⟩, some ⟨42, aG.map (eL 1 (eI .u8))⟩, some ⟨103, aD.flatMap aQ⟩] [(.ptr 0 0), (.row none 1 (gP.map (eI .u8)))] (eI .i64 r.1) [some ⟨88, (aX (eI .u8) r.2.1 [(eI .i64 r.2.2.1), (eI .i64 r.2.2.2.1), (.sl 3 0 r.2.2.2.2.1.length 1 false), (.sl 4 0 r.2.2.2.2.2.1.length 2 true), (eI .i64 r.2.2.2.2.2.2)])⟩, none, none, some ⟨42, r.2.2.2.2.1.map (eL 1 (eI .u8))⟩, some ⟨103, r.2.2.2.2.2.1.flatMap aQ⟩] := by
  refine zf Tryd.func60 Tryd.ntmps60 ?_
  unfold g8 at hr
  refine zq <| zi <| zn <| AB.seq <| zq <| zm rfl <| zw (v := (.ptr 0 0)) (c6 rfl) <| cQ rfl (fL ..) <| dP rfl rfl b5 rfl <| zw (v := (eI .i64 (aG.length : Int))) (gQ rfl (pQ b5)) <| zY rfl rfl <| zn ?_
  refine zk hr rfl (fun h1 hr => ?_) (fun h1 hr => ?_)
  · refine zq <| zi <| zn <| AB.ret <| Ex.then_ret_mk ?_
    obtain rfl := sj hr
    exact bW Tryd.results60 [0, 1, 2, 1, 2]
  · refine AB.skip <| Ex.then_mk <| AB.seq ?_
    obtain ⟨x18, h_2, hr⟩ := aN hr
    refine AB.rw <| zm rfl <| zm rfl <| zw (v := (.ptr 0 0)) (c6 rfl) <| cQ rfl (fL ..) <| dP rfl rfl b5 rfl <| zm rfl <| zh (v := (.sl 3 0 1 1 false)) (e9 rfl (oQ (xs := [gP].map (eL 1 (eI .u8))) b5 bG zl zl rfl rfl rfl rfl rfl rfl rfl)) ?_
    refine zh (v := (.sl 4 0 x18.length 1 false)) (dZ rfl rfl (nD (E := (eL 1 (eI .u8))) rfl b5 bG ⟨rfl, rfl, zl⟩ rfl (pU rfl rfl) h_2 rfl rfl)) ?_
    refine zw (v := (.ptr 0 0)) (c6 rfl) <| cQ rfl (fL ..) <| zN (h' := [some ⟨88, (aX (eI .u8) aE [(eI .i64 aF), (eI .i64 aJ), (.sl 4 0 x18.length 1 false), (.sl 2 0 aD.length 2 true), (eI .i64 aW)])⟩, none, some ⟨103, aD.flatMap aQ⟩, some ⟨42, [gP].map (eL 1 (eI .u8))⟩, some ⟨42, x18.map (eL 1 (eI .u8))⟩]) (aU rfl rfl (eR b5 rfl rfl rfl zl rfl)) <| zn <| zq <| zi <| zn <| AB.ret ?_
    obtain rfl := sj hr
    exact bW Tryd.results60 [0, 1, 2, 4, 2]
theorem aFc (N : Nat) (va : List Int) (b : List Int) (r : Bool) (hr : wV N va b = some r) :
    Vm.Fn Tryd.prog 63 [] [(.row none 1 (va.map (eI .u8))), (.row none 1 (b.map (eI .u8)))] (eB r) [] := by
  refine zf Tryd.func63 Tryd.ntmps63 ?_
  unfold wV at hr
  refine zq <| zj <| zn <| zq <| zm rfl <| zw (v := (eS (yQ va))) (dA rfl (aKP bG ti9 cC (aDs (fun _ => rfl)))) <| zm rfl <| zw (v := (eS (yQ b))) (dA rfl (aKP bG ti9 cC (aDs (fun _ => rfl)))) <| zw (a9 rfl rfl (aJW ..)) <| za rfl <| zn <| AB.ret ?_
  obtain rfl := sj hr
  exact bW Tryd.results63 []
theorem vS (N : Nat) (vn : Int) (r : (List Int)) (hr : jF N vn = some r) :
    Vm.Fn Tryd.prog 64 [] [(eI .u32 vn)] (.sl 0 0 r.length 1 false) [some ⟨5, r.map (eI .u8)⟩] := by
  refine zf Tryd.func64 Tryd.ntmps64 ?_
  unfold jF at hr
  refine zq <| zw (v := (.row (some true) 1 [])) (bE rfl) <| zn <| zq <| zw (v := (.row (some true) 1 [])) (bE rfl) <| zn ?_
  refine AB.seq_g fun K1 hK1 hG1 => ?_
  have J1 : ∀ (l0 : List Int), sT N l0 = some r → K1 (aV 14 [(3, (.sl 0 0 l0.length 1 false))]) [some ⟨5, l0.map (eI .u8)⟩] := by
    intro l0 hr
    unfold sT at hr
    refine hK1 _ _ <| zq <| zm rfl <| za rfl <| zn <| AB.ret ?_
    obtain rfl := sj hr
    exact bW Tryd.results64 [0]
  obtain ⟨cL, hL2, hr⟩ := aN hr
  refine AB.block ?_
  refine AB.loopN (fun m s h => ∃ (lR : Int) (bF : List Int), fU N m lR bF = some cL ∧ Ghost 0 s h (aV 14 [(0, (eI .u32 lR)), (3, (.sl 0 0 bF.length 1 false))]) [some ⟨5, bF.map (eI .u8)⟩]) (n := N) ⟨vn, [], hL2, (Ghost.trans (Ghost.virt (fr' := [(0, (eI .u32 vn)), (3, (.sl 0 0 0 1 false))]) (h1 := []) 5 (FLe.same rfl (FLe.le rfl (V.le_virt rfl) FLe.nil)) HLv.nil) (Ghost.rn [0] rfl rfl (FLe.same rfl (FLe.le rfl (by first | exact V.le_refl _ _ | (simp only [cN, cO]; exact V.le_refl _ _)) FLe.nil)) (HLe.live rfl V.les_nil rfl HLe.nil) rfl))⟩ (by rintro s h ⟨_, _, h0, _⟩; simp [fU] at h0) ?_
  rintro m2 s h ⟨lR, bF, hr2, hg⟩
  refine AB.ghost hg ?_
  clear hg hL2
  rw [fU] at hr2
  refine AB.seq <| zq <| zm rfl <| sC rfl rfl <| zn ?_
  refine zk hr2 rfl (fun h1 hr2 => ?_) (fun h1 hr2 => ?_)
  · refine AB.skip <| Ex.then_mk <| AB.seq <| AB.block ?_
    obtain ⟨fF, h_2, hr2⟩ := aN hr2
    refine AB.rw <| zm rfl <| zm rfl <| zw (dA rfl (cE _ ⟨_, cA⟩ cC rfl)) <| zh (v := (.sl 1 0 1 1 false)) (e9 rfl (oQ (xs := [IntKind.u8.wrap lR].map (eI .u8)) bG cC zl zl rfl rfl rfl rfl rfl rfl rfl)) ?_
    refine zh (v := (.sl 2 0 fF.length 1 false)) (dZ rfl rfl (nD (E := (eI .u8)) rfl bG cC ⟨rfl, rfl, zl⟩ rfl (pU rfl rfl) h_2 rfl rfl)) ?_
    refine za rfl <| OpsW.nil <| Ex.inBlock_mk <| Ex.then_mk ?_
    obtain ⟨x7, h_3, hr2⟩ := aN hr2
    refine AB.rw <| zm rfl <| zw (v := (eI .u32 x7)) (a9 rfl rfl (gZ _ _ _ _ h_3)) <| za rfl <| zn ?_
    exact ⟨x7, fF, hr2, (zG [2])⟩
  · refine AB.exit <| Ex.then_exit_mk <| Ex.then_exit_mk <| Ex.inBlock_same_mk ?_
    obtain rfl := sj hr2
    refine Ex.then_mk ?_
    exact hG1 _ _ _ _ (zG [0]) (J1 bF hr)
theorem wE (N : Nat) (v : Bool) (r : (List Int)) (hr : mL N v = some r) :
    Vm.Fn Tryd.prog 62 [] [(eB v)] (.sl 0 0 r.length 1 false) [some ⟨5, r.map (eI .u8)⟩] := by
  refine zf Tryd.func62 Tryd.ntmps62 ?_
  unfold mL at hr
  refine zq <| zw (v := (.row (some true) 1 [])) (bE rfl) <| zn <| AB.seq <| zq <| zm rfl <| zn ?_
  refine zk hr rfl (fun h1 hr => ?_) (fun h1 hr => ?_)
  · refine AB.seq ?_
    obtain ⟨x4, h_2, hr⟩ := aN hr
    refine AB.rw <| wC (v := (.sl 0 0 x4.length 1 false)) rfl (zB (vS N 1 x4 h_2) []) ?_
    refine za rfl <| zn <| AB.ret <| Ex.then_ret_mk ?_
    obtain rfl := sj hr
    exact bW Tryd.results62 [0]
  · refine AB.skip <| Ex.then_mk <| AB.seq ?_
    obtain ⟨x5, h_3, hr⟩ := aN hr
    refine AB.rw <| wC (v := (.sl 0 0 x5.length 1 false)) rfl (zB (vS N 0 x5 h_3) []) ?_
    refine za rfl <| zn <| AB.ret ?_
    obtain rfl := sj hr
    exact bW Tryd.results62 [0]
theorem jW (N : Nat) (aE : List Int) (aF : Int) (aJ : Int) (aG : List (List Int)) (aD : List aS) (aW : Int) (vn : Int) (gP : List Int) (r : (List Int) × Int × Int × (List (List Int)) × (List aS) × Int) (hr : dJ N aE aF aJ aG aD aW vn gP = some r) :
    Vm.Fn Tryd.prog 61 [some ⟨88, (aX (eI .u8) aE [(eI .i64 aF), (eI .i64 aJ), (.sl 1 0 aG.length 1 false), (.sl 2 0 aD.length 2 true), (eI .i64 aW)])⟩, some ⟨42, aG.map (eL 1 (eI .u8))⟩, some ⟨103, aD.flatMap aQ⟩] [(.ptr 0 0), (eI .i64 vn), (.row none 1 (gP.map (eI .u8)))] (.tup []) [some ⟨88, (aX (eI .u8) r.1 [(eI .i64 r.2.1), (eI .i64 r.2.2.1), (.sl 3 0 r.2.2.2.1.length 1 false), (.sl 4 0 r.2.2.2.2.1.length 2 true), (eI .i64 r.2.2.2.2.2)])⟩, none, none, some ⟨42, r.2.2.2.1.map (eL 1 (eI .u8))⟩, some ⟨103, r.2.2.2.2.1.flatMap aQ⟩] := by
  refine zf Tryd.func61 Tryd.ntmps61 ?_
  unfold dJ at hr
  refine AB.seq ?_
  obtain ⟨x8, h_1, hr⟩ := aN hr
  refine AB.rw <| zm rfl <| zm rfl <| wC (v := (.tup [])) rfl (zB (lK N aE aF aJ aG aD aW vn x8 h_1) [0, 1, 2]) ?_
  refine zn ?_
  obtain ⟨x16, h_2, hr⟩ := aN hr
  refine AB.rw <| zm rfl <| zm rfl <| zw (v := (.ptr 0 0)) (c6 rfl) <| cQ rfl (fL ..) <| dP rfl rfl b5 rfl <| zm rfl <| zh (v := (.sl 5 0 1 1 false)) (e9 rfl (oQ (xs := [gP].map (eL 1 (eI .u8))) b5 bG zl zl rfl rfl rfl rfl rfl rfl rfl)) ?_
  refine zh (v := (.sl 6 0 x16.length 1 false)) (dZ rfl rfl (nD (E := (eL 1 (eI .u8))) rfl b5 bG ⟨rfl, rfl, zl⟩ rfl (pU rfl rfl) h_2 rfl rfl)) ?_
  refine zw (v := (.ptr 0 0)) (c6 rfl) <| cQ rfl (fL ..) <| zN (h' := [some ⟨88, (aX (eI .u8) x8.1 [(eI .i64 x8.2.1), (eI .i64 x8.2.2.1), (.sl 6 0 x16.length 1 false), (.sl 4 0 x8.2.2.2.2.1.length 2 true), (eI .i64 x8.2.2.2.2.2)])⟩, none, none, none, some ⟨103, x8.2.2.2.2.1.flatMap aQ⟩, some ⟨42, [gP].map (eL 1 (eI .u8))⟩, some ⟨42, x16.map (eL 1 (eI .u8))⟩]) (aU rfl rfl (eR b5 rfl rfl rfl zl rfl)) <| OpsW.nil ?_
  obtain rfl := sj hr
  exact aFq (r1 := (.tup [])) (aLX Tryd.results61) (zG [0, 1, 2, 6, 4])
theorem oX (N : Nat) (vh : List Int) (r : (List Int)) (hr : iU N vh = some r) :
    Vm.Fn Tryd.prog 70 [] [(.agg (vh.map (eI .u8)))] (.agg (r.map (eI .u64))) [] := by
  refine zf Tryd.func70 Tryd.ntmps70 ?_
  unfold iU at hr
  refine zq <| zh (v := (.ptr 0 0)) (b8 rfl (d9 (fun _ => rfl)) rfl rfl) ?_
  refine zh (v := (.ptr 1 0)) (cK (B := some ⟨125, (List.replicate 4 0).map (eI .u64)⟩) aT rfl rfl) ?_
  refine zn <| zq <| zh (v := (.ptr 2 0)) (cK (B := some ⟨125, (List.replicate 4 0).map (eI .u64)⟩) aT rfl rfl) ?_
  refine zn ?_
  refine AB.seq_g fun K1 hK1 hG1 => ?_
  have J1 : ∀ (l1 : List Int), oU N l1 = some r → K1 (aV 26 [(2, (.ptr 0 0)), (3, (.ptr 1 0))]) [some ⟨125, (List.replicate 4 0).map (eI .u64)⟩, some ⟨125, l1.map (eI .u64)⟩] := by
    intro l1 hr
    unfold oU at hr
    refine hK1 _ _ <| AB.seq ?_
    obtain ⟨q, h_1, hr⟩ := aN hr
    refine AB.rw <| zw (v := (.agg (l1.map (eI .u64)))) (aI rfl (b6 (E := (eI .u64)) (l := l1) aT rfl rfl (aP h_1))) <| zt (aU rfl rfl (eQ (E := (eI .u64)) (l := List.replicate 4 0) aT rfl rfl (fun _ => rfl) rfl (aP h_1) rfl)) ?_
    refine zn <| AB.ret ?_
    obtain rfl := sj hr
    exact bU (r1 := (.agg (l1.map (eI .u64)))) (nH Tryd.results70 (jU rfl (b6 (E := (eI .u64)) (l := l1) aT rfl rfl (aP h_1)))) (zG [])
  refine AB.seq ?_
  obtain ⟨q_1, h_2, hr⟩ := aN hr
  refine AB.rw <| zw (v := (.agg (vh.map (eI .u8)))) (aI rfl (b6 (E := (eI .u8)) (l := vh) dL rfl rfl (aP h_2))) <| zI <| zn ?_
  obtain ⟨cL, hL2, hr⟩ := aN hr
  refine AB.block <| AB.loopN (fun m s h => ∃ (x8 : Int) (eJ : List Int), i0 N vh m x8 eJ = some cL ∧ Ghost 0 s h (aV 26 [(2, (.ptr 0 0)), (3, (.ptr 1 0)), (7, (.agg (vh.map (eI .u8)))), (8, (eI .i64 x8))]) [some ⟨125, (List.replicate 4 0).map (eI .u64)⟩, some ⟨125, eJ.map (eI .u64)⟩]) (n := N) ⟨0, List.replicate 4 0, hL2, (zG [1, 2])⟩ (by rintro s h ⟨_, _, h0, _⟩; simp [i0] at h0) ?_
  rintro m2 s h ⟨x8, eJ, hr2, hg⟩
  refine AB.ghost hg ?_
  clear hg hL2
  rw [i0] at hr2
  refine zq <| eY rfl rfl <| zn <| AB.seq ?_
  refine zk hr2 rfl (fun h3 hr2 => ?_) (fun h3 hr2 => ?_)
  · refine AB.skip <| Ex.then_mk <| AB.seq <| AB.block <| AB.seq ?_
    obtain ⟨b7, h_4, hr2⟩ := aN hr2
    refine AB.rw <| zm rfl <| zw (v := (eI .u8 b7)) (aMb rfl rfl (ixA (E := (eI .u8)) dL cC rfl rfl h_4)) <| za rfl <| za rfl <| zn <| zq <| zm rfl <| zw (v := (eI .i64 (IntKind.i64.wrap (Int.tdiv x8 8)))) (a9 rfl rfl (aAp _ _ _ _ rfl)) <| vP rfl rfl <| za rfl <| zn ?_
    obtain ⟨x17, h_5, hr2⟩ := aN hr2
    obtain ⟨x19, h_6, hr2⟩ := aN hr2
    refine AB.rw <| zm rfl <| zm rfl <| zw (v := (.ptr 1 (Int.toNat (IntKind.i64.wrap (3 - (IntKind.i64.wrap (Int.tdiv x8 8))))))) (bP rfl rfl (fH aT bV rfl h_5)) <| zw (v := (eI .u64 x17)) (aI rfl (gG (E := (eI .u64)) (y := x17) bV rfl rfl (bS h_5))) <| zw (v := (eI .u64 x19)) (a9 rfl rfl (v5 _ _ _ _ h_6)) <| zm rfl <| zw (dA rfl (cE _ ⟨_, cC⟩ bV rfl)) <| zqO rfl rfl <| zw (v := (.ptr 1 (Int.toNat (IntKind.i64.wrap (3 - (IntKind.i64.wrap (Int.tdiv x8 8))))))) (bP rfl rfl (fH aT bV rfl h_5)) ?_
    refine zt (aU rfl rfl (s6 (E := (eI .u64)) (y := bits .or .u64 x19 (IntKind.u64.wrap b7)) bV rfl rfl (bS h_5) rfl rfl rfl)) ?_
    refine OpsW.nil <| Ex.inBlock_mk <| Ex.then_mk <| AB.rw <| dG rfl rfl <| zm rfl <| zn ?_
    exact ⟨IntKind.i64.wrap (x8 + 1), eJ.set (Int.toNat (IntKind.i64.wrap (3 - (IntKind.i64.wrap (Int.tdiv x8 8))))) (bits .or .u64 x19 (IntKind.u64.wrap b7)), hr2, (zG [0, 1])⟩
  · refine AB.exit <| Ex.then_exit_mk <| Ex.then_exit_mk <| Ex.inBlock_same_mk ?_
    obtain rfl := sj hr2
    refine Ex.then_mk ?_
    exact hG1 _ _ _ _ (zG [0, 1]) (J1 eJ hr)
theorem nA (N : Nat) (vn : Int) (r : (List Int)) (hr : iQ N vn = some r) :
    Vm.Fn Tryd.prog 74 [] [(eI .u64 vn)] (.agg (r.map (eI .u64))) [] := by
  refine zf Tryd.func74 Tryd.ntmps74 ?_
  unfold iQ at hr
  refine zq <| zh (v := (.ptr 0 0)) (cK (B := some ⟨125, (List.replicate 4 0).map (eI .u64)⟩) aT rfl rfl) ?_
  refine zn <| zq <| zm rfl <| zw (v := (.agg ([vn, 0, 0, 0].map (eI .u64)))) (cI rfl (rW aT bV rfl)) <| zt (aU rfl rfl (eQ (E := (eI .u64)) (l := List.replicate 4 0) aT rfl rfl (fun _ => rfl) rfl rfl rfl)) ?_
  refine zn <| AB.ret ?_
  obtain rfl := sj hr
  exact bU (r1 := (.agg ([vn, 0, 0, 0].map (eI .u64)))) (nH Tryd.results74 (jU rfl (b6 (E := (eI .u64)) (l := [vn, 0, 0, 0]) aT rfl rfl rfl))) (zG [])
theorem aAl (N : Nat) (r : (List Int)) (hr : nT N = some r) :
    Vm.Fn Tryd.prog 84 [] [] (.agg (r.map (eI .u64))) [] := by
  refine zf Tryd.func84 Tryd.ntmps84 ?_
  unfold nT at hr
  refine zq <| zh (v := (.ptr 0 0)) (cK (B := some ⟨125, (List.replicate 4 0).map (eI .u64)⟩) aT rfl rfl) ?_
  refine zn <| zq <| zw (v := (.agg ([18446744073709515503, 18446744073709551615, 18446744073709551615, 18446744073709551615].map (eI .u64)))) (cI rfl (rW aT bV rfl)) <| zt (aU rfl rfl (eQ (E := (eI .u64)) (l := List.replicate 4 0) aT rfl rfl (fun _ => rfl) rfl rfl rfl)) ?_
  refine zn <| AB.ret ?_
  obtain rfl := sj hr
  exact bU (r1 := (.agg ([18446744073709515503, 18446744073709551615, 18446744073709551615, 18446744073709551615].map (eI .u64)))) (nH Tryd.results84 (jU rfl (b6 (E := (eI .u64)) (l := [18446744073709515503, 18446744073709551615, 18446744073709551615, 18446744073709551615]) aT rfl rfl rfl))) (zG [])
theorem qG (N : Nat) (va : List Int) (b : List Int) (r : Int) (hr : oN N va b = some r) :
    Vm.Fn Tryd.prog 83 [] [(.agg (va.map (eI .u64))), (.agg (b.map (eI .u64)))] (eI .i64 r) [] := by
  refine zf Tryd.func83 Tryd.ntmps83 ?_
  unfold oN at hr
  refine zq <| zh (v := (.ptr 0 0)) (b8 rfl (d9 (fun _ => rfl)) rfl rfl) ?_
  refine zh (v := (.ptr 1 0)) (b8 rfl (d9 (fun _ => rfl)) rfl rfl) ?_
  refine zi <| zn ?_
  refine AB.seq_g fun K1 hK1 hG1 => ?_
  have J1 : w9 N = some r → K1 (aV 24 []) [] := by
    intro hr
    unfold w9 at hr
    refine hK1 _ _ <| zq <| zi <| zn <| AB.ret ?_
    obtain rfl := sj hr
    exact bW Tryd.results83 []
  refine zq <| zi <| zn ?_
  obtain ⟨cL, hL2, hr⟩ := aN hr
  refine AB.block <| AB.loopN (fun m s h => ∃ (vi : Int), oE N va b m vi = some cL ∧ Ghost 0 s h (aV 24 [(2, (.ptr 0 0)), (3, (.ptr 1 0)), (5, (eI .i64 vi))]) [some ⟨125, va.map (eI .u64)⟩, some ⟨125, b.map (eI .u64)⟩]) (n := N) ⟨3, hL2, (zG [0, 1])⟩ (by rintro s h ⟨_, h0, _⟩; simp [oE] at h0) ?_
  rintro m2 s h ⟨vi, hr2, hg⟩
  refine AB.ghost hg ?_
  clear hg hL2
  rw [oE] at hr2
  refine AB.seq <| zq <| zm rfl <| zY rfl rfl <| zn ?_
  refine zk hr2 rfl (fun h1 hr2 => ?_) (fun h1 hr2 => ?_)
  · refine AB.skip <| Ex.then_mk <| AB.seq <| AB.block <| AB.seq <| AB.seq ?_
    obtain ⟨b7, h_2, hr2⟩ := aN hr2
    obtain ⟨bO, h_3, hr2⟩ := aN hr2
    refine AB.rg E0 (fun _ => by show dR (fun _ => false) _ = true; decide +kernel) <| tS (sv (bI rfl)) <| tS (v := (.ptr 0 (Int.toNat vi))) (sv (bP rfl rfl (fH aT bV rfl h_2))) <| tS (v := (eI .u64 b7)) (sv (aI rfl (gG (E := (eI .u64)) (y := b7) bV rfl rfl (bS h_2)))) <| tS (sv (bI rfl)) <| tS (v := (.ptr 1 (Int.toNat vi))) (sv (bP rfl rfl (fH aT bV rfl h_3))) <| tS (v := (eI .u64 bO)) (sv (aI rfl (gG (E := (eI .u64)) (y := bO) bV rfl rfl (bS h_3)))) <| tS (sv (a9 rfl rfl (sO ..))) <| OpsTo.nil <| Ex.then_mk ?_
    refine zk hr2 rfl (fun h4 hr2 => ?_) (fun h4 hr2 => ?_)
    · refine zq <| zi <| zn <| AB.ret <| Ex.then_ret_mk <| Ex.inBlock_ret_mk <| Ex.then_ret_mk <| Ex.then_ret_mk <| Ex.inBlock_ret_mk <| Ex.then_ret_mk ?_
      obtain rfl := sj hr2
      obtain rfl := sj hr
      exact bW Tryd.results83 []
    · refine AB.skip <| Ex.then_mk <| AB.seq <| AB.rg E0 (fun _ => by show dR (fun _ => false) _ = true; decide +kernel) <| tS (sv (bI rfl)) <| tS (v := (.ptr 0 (Int.toNat vi))) (sv (bP rfl rfl (fH aT bV rfl h_2))) <| tS (v := (eI .u64 b7)) (sv (aI rfl (gG (E := (eI .u64)) (y := b7) bV rfl rfl (bS h_2)))) <| tS (sv (bI rfl)) <| tS (v := (.ptr 1 (Int.toNat vi))) (sv (bP rfl rfl (fH aT bV rfl h_3))) <| tS (v := (eI .u64 bO)) (sv (aI rfl (gG (E := (eI .u64)) (y := bO) bV rfl rfl (bS h_3)))) <| tS (sv (a9 rfl rfl (mS ..))) <| OpsTo.nil ?_
      refine Ex.then_mk ?_
      refine zk hr2 rfl (fun h5 hr2 => ?_) (fun h5 hr2 => ?_)
      · refine zq <| zi <| zn <| AB.ret <| Ex.inBlock_ret_mk <| Ex.then_ret_mk <| Ex.then_ret_mk <| Ex.inBlock_ret_mk <| Ex.then_ret_mk ?_
        obtain rfl := sj hr2
        obtain rfl := sj hr
        exact bW Tryd.results83 []
      · refine AB.skip <| Ex.inBlock_mk <| Ex.then_mk <| AB.rw <| zm rfl <| vP rfl rfl <| za rfl <| zn ?_
        exact ⟨IntKind.i64.wrap (vi - 1), hr2, (zG [0, 1])⟩
  · refine AB.exit <| Ex.then_exit_mk <| Ex.then_exit_mk <| Ex.inBlock_same_mk ?_
    obtain rfl := sj hr2
    refine Ex.then_mk ?_
    exact hG1 _ _ _ _ (zG []) (J1 hr)
theorem sS (N : Nat) (r : (List Int)) (hr : mK N = some r) :
    Vm.Fn Tryd.prog 78 [] [] (.agg (r.map (eI .u64))) [] := by
  refine zf Tryd.func78 Tryd.ntmps78 ?_
  unfold mK at hr
  refine zq <| zh (v := (.ptr 0 0)) (cK (B := some ⟨125, (List.replicate 4 0).map (eI .u64)⟩) aT rfl rfl) ?_
  refine zn <| zq <| zw (v := (.agg ([18446744073709533559, 18446744073709551615, 18446744073709551615, 9223372036854775807].map (eI .u64)))) (cI rfl (rW aT bV rfl)) <| zt (aU rfl rfl (eQ (E := (eI .u64)) (l := List.replicate 4 0) aT rfl rfl (fun _ => rfl) rfl rfl rfl)) ?_
  refine zn <| AB.ret ?_
  obtain rfl := sj hr
  exact bU (r1 := (.agg ([18446744073709533559, 18446744073709551615, 18446744073709551615, 9223372036854775807].map (eI .u64)))) (nH Tryd.results78 (jU rfl (b6 (E := (eI .u64)) (l := [18446744073709533559, 18446744073709551615, 18446744073709551615, 9223372036854775807]) aT rfl rfl rfl))) (zG [])
theorem aCx (N : Nat) (x : Int) (r : Int) (hr : nX N x = some r) :
    Vm.Fn Tryd.prog 94 [] [(eI .u64 x)] (eI .i64 r) [] := by
  refine zf Tryd.func94 Tryd.ntmps94 ?_
  unfold nX at hr
  refine zq <| zi <| zn ?_
  refine AB.seq_g fun K1 hK1 hG1 => ?_
  have J1 : ∀ (x_1 : Int) (vn : Int), jN N x_1 vn = some r → K1 (aV 25 [(0, (eI .u64 x_1)), (2, (eI .i64 vn))]) [] := by
    intro x_1 vn hr
    unfold jN at hr
    refine hK1 _ _ ?_
    refine AB.seq_g fun K2 hK2 hG2 => ?_
    have J2 : ∀ (x_2 : Int) (lR : Int), jO N x_2 lR = some r → K2 (aV 25 [(0, (eI .u64 x_2)), (2, (eI .i64 lR))]) [] := by
      intro x_2 lR hr
      unfold jO at hr
      refine hK2 _ _ ?_
      refine AB.seq_g fun K3 hK3 hG3 => ?_
      have J3 : ∀ (x_3 : Int) (aG3 : Int), iP N x_3 aG3 = some r → K3 (aV 25 [(0, (eI .u64 x_3)), (2, (eI .i64 aG3))]) [] := by
        intro x_3 aG3 hr
        unfold iP at hr
        refine hK3 _ _ <| AB.seq ?_
        obtain ⟨d8, h_1, hr⟩ := aN hr
        refine AB.rw <| zm rfl <| zm rfl <| zw (dA rfl (cE _ ⟨_, bV⟩ cC rfl)) <| zw (v := (eI .u8 d8)) (aMb rfl rfl (ixT ti9 h_1)) <| zw (dA rfl (cE _ ⟨_, cC⟩ dN rfl)) <| dG rfl rfl <| za rfl <| zn <| AB.ret ?_
        obtain rfl := sj hr
        exact bW Tryd.results94 []
      refine zq <| zm rfl <| zY rfl rfl <| zn ?_
      refine zk hr rfl (fun h2 hr => ?_) (fun h2 hr => ?_)
      · refine AB.seq ?_
        obtain ⟨x16, h_3, hr⟩ := aN hr
        refine AB.rw <| zm rfl <| zw (v := (eI .u64 x16)) (a9 rfl rfl (gZ _ _ _ _ h_3)) <| za rfl <| zn <| AB.rw <| zm rfl <| dG rfl rfl <| za rfl <| zn ?_
        exact hG3 _ _ _ _ (zG []) (J3 x16 (IntKind.i64.wrap (lR + 8)) hr)
      · refine AB.skip <| Ex.then_mk ?_
        exact hG3 _ _ _ _ (zG []) (J3 x_2 lR hr)
    refine zq <| zm rfl <| zY rfl rfl <| zn ?_
    refine zk hr rfl (fun h4 hr => ?_) (fun h4 hr => ?_)
    · refine AB.seq ?_
      obtain ⟨cG, h_5, hr⟩ := aN hr
      refine AB.rw <| zm rfl <| zw (v := (eI .u64 cG)) (a9 rfl rfl (gZ _ _ _ _ h_5)) <| za rfl <| zn <| AB.rw <| zm rfl <| dG rfl rfl <| za rfl <| zn ?_
      exact hG2 _ _ _ _ (zG []) (J2 cG (IntKind.i64.wrap (vn + 16)) hr)
    · refine AB.skip <| Ex.then_mk ?_
      exact hG2 _ _ _ _ (zG []) (J2 x_1 vn hr)
  refine zq <| zm rfl <| zY rfl rfl <| zn ?_
  refine zk hr rfl (fun h6 hr => ?_) (fun h6 hr => ?_)
  · refine AB.seq ?_
    obtain ⟨x6, h_7, hr⟩ := aN hr
    refine AB.rw <| zm rfl <| zw (v := (eI .u64 x6)) (a9 rfl rfl (gZ _ _ _ _ h_7)) <| za rfl <| zn <| AB.rw <| zi <| zn ?_
    exact hG1 _ _ _ _ (zG []) (J1 x6 32 hr)
  · refine AB.skip <| Ex.then_mk ?_
    exact hG1 _ _ _ _ (zG []) (J1 x 0 hr)
theorem aHy (N : Nat) (va : List Int) (r : Int) (hr : aAe N va = some r) :
    Vm.Fn Tryd.prog 87 [] [(.agg (va.map (eI .u64)))] (eI .i64 r) [] := by
  refine zf Tryd.func87 Tryd.ntmps87 ?_
  unfold aAe at hr
  refine zq <| zh (v := (.ptr 0 0)) (b8 rfl (d9 (fun _ => rfl)) rfl rfl) ?_
  refine zi <| zn ?_
  refine AB.seq_g fun K1 hK1 hG1 => ?_
  have J1 : wU N = some r → K1 (aV 19 []) [] := by
    intro hr
    unfold wU at hr
    refine hK1 _ _ <| zq <| zi <| zn <| AB.ret ?_
    obtain rfl := sj hr
    exact bW Tryd.results87 []
  refine zq <| zi <| zn ?_
  obtain ⟨cL, hL2, hr⟩ := aN hr
  refine AB.block <| AB.loopN (fun m s h => ∃ (vi : Int), oO N va m vi = some cL ∧ Ghost 0 s h (aV 19 [(1, (.ptr 0 0)), (3, (eI .i64 vi))]) [some ⟨125, va.map (eI .u64)⟩]) (n := N) ⟨3, hL2, (zG [0])⟩ (by rintro s h ⟨_, h0, _⟩; simp [oO] at h0) ?_
  rintro m2 s h ⟨vi, hr2, hg⟩
  refine AB.ghost hg ?_
  clear hg hL2
  rw [oO] at hr2
  refine AB.seq <| zq <| zm rfl <| zY rfl rfl <| zn ?_
  refine zk hr2 rfl (fun h1 hr2 => ?_) (fun h1 hr2 => ?_)
  · refine AB.skip <| Ex.then_mk <| AB.seq <| AB.block <| AB.seq ?_
    obtain ⟨x9, h_2, hr2⟩ := aN hr2
    refine AB.rw <| zm rfl <| zw (v := (.ptr 0 (Int.toNat vi))) (bP rfl rfl (fH aT bV rfl h_2)) <| zw (v := (eI .u64 x9)) (aI rfl (gG (E := (eI .u64)) (y := x9) bV rfl rfl (bS h_2))) <| rE rfl rfl <| zn ?_
    refine zk hr2 rfl (fun h3 hr2 => ?_) (fun h3 hr2 => ?_)
    · refine AB.seq ?_
      obtain ⟨x17, h_4, hr2⟩ := aN hr2
      refine AB.rw <| zm rfl <| z4 rfl rfl <| zm rfl <| zw (v := (.ptr 0 (Int.toNat vi))) (bP rfl rfl (fH aT bV rfl h_2)) <| zw (v := (eI .u64 x9)) (aI rfl (gG (E := (eI .u64)) (y := x9) bV rfl rfl (bS h_2))) <| wC rfl (Vm.Fn.pure (aCx N x9 x17 h_4) rfl rfl) <| dG rfl rfl <| za rfl <| zn <| AB.ret <| Ex.inBlock_ret_mk <| Ex.then_ret_mk <| Ex.then_ret_mk <| Ex.inBlock_ret_mk <| Ex.then_ret_mk ?_
      obtain rfl := sj hr2
      obtain rfl := sj hr
      exact bW Tryd.results87 []
    · refine AB.skip <| Ex.inBlock_mk <| Ex.then_mk <| AB.rw <| zm rfl <| vP rfl rfl <| za rfl <| zn ?_
      exact ⟨IntKind.i64.wrap (vi - 1), hr2, (zG [0])⟩
  · refine AB.exit <| Ex.then_exit_mk <| Ex.then_exit_mk <| Ex.inBlock_same_mk ?_
    obtain rfl := sj hr2
    refine Ex.then_mk ?_
    exact hG1 _ _ _ _ (zG []) (J1 hr)
theorem aB5 (N : Nat) (x : Int) (y : Int) (r : Int × Int) (hr : lZ N x y = some r) :
    Vm.Fn Tryd.prog 96 [] [(eI .u64 x), (eI .u64 y)] (.tup [(eI .u64 r.1), (eI .u64 r.2)]) [] := by
  refine zf Tryd.func96 Tryd.ntmps96 ?_
  unfold lZ at hr
  refine zq <| zi <| zi <| zn <| zq <| zm rfl <| zqA rfl rfl <| za rfl <| zn <| AB.seq ?_
  obtain ⟨x17, h_1, hr⟩ := aN hr
  refine AB.rw <| zm rfl <| zw (v := (eI .u64 x17)) (a9 rfl rfl (gZ _ _ _ _ h_1)) <| za rfl <| zn <| zq <| zm rfl <| zqA rfl rfl <| za rfl <| zn <| AB.seq ?_
  obtain ⟨iH, h_2, hr⟩ := aN hr
  refine AB.rw <| zm rfl <| zw (v := (eI .u64 iH)) (a9 rfl rfl (gZ _ _ _ _ h_2)) <| za rfl <| zn <| zq <| zm rfl <| zm rfl <| z4 rfl rfl <| za rfl <| zn <| AB.seq ?_
  obtain ⟨x29, h_3, hr⟩ := aN hr
  refine AB.rw <| zm rfl <| zm rfl <| z4 rfl rfl <| zm rfl <| zw (v := (eI .u64 x29)) (a9 rfl rfl (gZ _ _ _ _ h_3)) <| dG rfl rfl <| za rfl <| zn <| zq <| zm rfl <| zqA rfl rfl <| za rfl <| zn <| AB.seq ?_
  obtain ⟨gO, h_4, hr⟩ := aN hr
  refine AB.rw <| zm rfl <| zw (v := (eI .u64 gO)) (a9 rfl rfl (gZ _ _ _ _ h_4)) <| za rfl <| zn <| zq <| zm rfl <| zm rfl <| zm rfl <| z4 rfl rfl <| dG rfl rfl <| za rfl <| zn <| AB.seq ?_
  obtain ⟨x46, h_5, hr⟩ := aN hr
  refine AB.rw <| zm rfl <| zm rfl <| z4 rfl rfl <| zm rfl <| dG rfl rfl <| zm rfl <| zw (v := (eI .u64 x46)) (a9 rfl rfl (gZ _ _ _ _ h_5)) <| dG rfl rfl <| za rfl <| zn <| zq <| zm rfl <| zm rfl <| z4 rfl rfl <| za rfl <| zn <| AB.ret ?_
  obtain rfl := sj hr
  exact vO Tryd.results96 []
theorem rH (N : Nat) (x y c : Int) (r : Int × Int) (hr : hH N x y c = some r) : Vm.Fn Tryd.prog 97 [] [(eI .u64 x), (eI .u64 y), (eI .u64 c)] (.tup [(eI .u64 r.1), (eI .u64 r.2)]) [] :=
  aJN Tryd.func97 (by kernel_rfl) (by kernel_rfl) (by kernel_rfl) (by kernel_rfl) hr
theorem aHu (N : Nat) (va : List Int) (b : List Int) (r : (List Int) × (List Int)) (hr : aAj N va b = some r) :
    Vm.Fn Tryd.prog 91 [] [(.agg (va.map (eI .u64))), (.agg (b.map (eI .u64)))] (.tup [(.agg (r.1.map (eI .u64))), (.agg (r.2.map (eI .u64)))]) [] := by
  refine zf Tryd.func91 Tryd.ntmps91 ?_
  unfold aAj at hr
  refine zq <| zh (v := (.ptr 0 0)) (b8 rfl (d9 (fun _ => rfl)) rfl rfl) ?_
  refine zh (v := (.ptr 1 0)) (b8 rfl (d9 (fun _ => rfl)) rfl rfl) ?_
  refine zh (v := (.ptr 2 0)) (cK (B := some ⟨125, (List.replicate 4 0).map (eI .u64)⟩) aT rfl rfl) ?_
  refine zh (v := (.ptr 3 0)) (cK (B := some ⟨125, (List.replicate 4 0).map (eI .u64)⟩) aT rfl rfl) ?_
  refine zn <| zq <| zh (v := (.ptr 4 0)) (cK (B := some ⟨153, (List.replicate 8 0).map (eI .u64)⟩) aBO rfl rfl) ?_
  refine zn ?_
  refine AB.seq_g fun K1 hK1 hG1 => ?_
  have J1 : ∀ (l2 : List Int), aAN N l2 = some r → K1 (aV 69 [(4, (.ptr 0 0)), (5, (.ptr 1 0)), (6, (.ptr 2 0))]) [some ⟨125, (List.replicate 4 0).map (eI .u64)⟩, some ⟨125, (List.replicate 4 0).map (eI .u64)⟩, some ⟨153, l2.map (eI .u64)⟩] := by
    intro l2 hr
    unfold aAN at hr
    refine hK1 _ _ ?_
    refine AB.seq_g fun K2 hK2 hG2 => ?_
    have J2 : ∀ (l0 : List Int) (l1 : List Int), aAU N l0 l1 = some r → K2 (aV 69 [(4, (.ptr 0 0)), (5, (.ptr 1 0))]) [some ⟨125, l0.map (eI .u64)⟩, some ⟨125, l1.map (eI .u64)⟩] := by
      intro l0 l1 hr
      unfold aAU at hr
      refine hK2 _ _ <| AB.ret ?_
      obtain ⟨q_1, h_2, hr⟩ := aN hr
      obtain ⟨q, h_1, hr⟩ := aN hr
      obtain rfl := sj hr
      exact bU (r1 := (.tup [(.agg (l0.map (eI .u64))), (.agg (l1.map (eI .u64)))])) (cL Tryd.results91 (jU rfl (b6 (E := (eI .u64)) (l := l0) aT rfl rfl (aP h_1))) (jU rfl (b6 (E := (eI .u64)) (l := l1) aT rfl rfl (aP h_2)))) (Ghost.rn [] rfl rfl (FLe.le rfl (V.le_tup (V.les_cons (V.le_arr (fun _ => rfl)) (V.les_cons (V.le_arr (fun _ => rfl)) V.les_nil))) FLe.nil) HLe.nil rfl)
    obtain ⟨q_2, h_3, hr⟩ := aN hr
    obtain ⟨x63, h_4, hr⟩ := aN hr
    obtain ⟨x64, h_5, hr⟩ := aN hr
    obtain ⟨x66, h_6, hr⟩ := aN hr
    obtain ⟨x67, h_7, hr⟩ := aN hr
    refine AB.rd (dQ []) (dQ []) mixed <| zp 7 0 rfl (bH (v := (.sl 2 (Int.toNat 4 * 1) x63.length 1 false)) (eC rfl rfl rfl (aJX (E := (eI .u64)) (l := l2) aBO bV rfl rfl rfl (aP h_3) zl rfl rfl h_4))) <| zp 6 1 rfl (bH (v := (.ptr 2 (Int.toNat 4 * 1))) (aBu rfl (apS aT zl rfl h_5))) <| zp 5 2 rfl (bH (v := (.agg (x64.map (eI .u64)))) (aI rfl (aI2 (E := (eI .u64)) (l := l2) aT rfl rfl h_4 h_5))) <| DrawG.fork (n := 4) [3, 6] (by decide +kernel) (by decide) ?_
    refine (Fork.cons rfl (gS (v := (.sl 2 (Int.toNat 0 * 1) x66.length 1 false)) (sv (eC rfl rfl rfl (aJX (E := (eI .u64)) (l := l2) aBO bV rfl rfl rfl (aP h_3) zl rfl rfl h_6)))) ?_ (Fork.cons rfl (gN (h' := [some ⟨125, x64.map (eI .u64)⟩, some ⟨125, (List.replicate 4 0).map (eI .u64)⟩, some ⟨153, l2.map (eI .u64)⟩]) (sv (aU rfl rfl (eQ (E := (eI .u64)) (l := List.replicate 4 0) aT rfl rfl (fun _ => rfl) rfl (qH h_5) rfl)))) ?_ Fork.nil))
    · refine zp 3 4 rfl (bH (v := (.ptr 2 (Int.toNat 0 * 1))) (aBu rfl (apS aT zl rfl h_7))) <| DrawG.fork (n := 2) [5, 6] (by decide +kernel) (by decide) ?_
      refine (Fork.cons rfl (gS (v := (.agg (x67.map (eI .u64)))) (sv (aI rfl (aI2 (E := (eI .u64)) (l := l2) aT rfl rfl h_6 h_7)))) ?_ (Fork.cons rfl (gN (h' := [some ⟨125, x64.map (eI .u64)⟩, some ⟨125, (List.replicate 4 0).map (eI .u64)⟩, some ⟨153, l2.map (eI .u64)⟩]) (sv (aU rfl rfl (eQ (E := (eI .u64)) (l := List.replicate 4 0) aT rfl rfl (fun _ => rfl) rfl (qH h_5) rfl)))) ?_ Fork.nil))
      · refine zp 1 6 rfl (jV (h' := [some ⟨125, x64.map (eI .u64)⟩, some ⟨125, (List.replicate 4 0).map (eI .u64)⟩, some ⟨153, l2.map (eI .u64)⟩]) (aU rfl rfl (eQ (E := (eI .u64)) (l := List.replicate 4 0) aT rfl rfl (fun _ => rfl) rfl (qH h_5) rfl))) <| zp 0 7 rfl (jV (h' := [some ⟨125, x64.map (eI .u64)⟩, some ⟨125, x67.map (eI .u64)⟩, some ⟨153, l2.map (eI .u64)⟩]) (aU rfl rfl (eQ (E := (eI .u64)) (l := List.replicate 4 0) aT rfl rfl (fun _ => rfl) rfl (qH h_7) rfl))) <| DrawG.nil (by decide +kernel) <| Ex.then_mk ?_
        exact hG2 _ _ _ _ (zG [0, 1]) (J2 x64 x67 hr)
      · refine zp 1 5 rfl (bH (v := (.agg (x67.map (eI .u64)))) (aI rfl (aI2 (E := (eI .u64)) (l := l2) aT rfl rfl h_6 h_7))) <| zp 0 7 rfl (jV (h' := [some ⟨125, x64.map (eI .u64)⟩, some ⟨125, x67.map (eI .u64)⟩, some ⟨153, l2.map (eI .u64)⟩]) (aU rfl rfl (eQ (E := (eI .u64)) (l := List.replicate 4 0) aT rfl rfl (fun _ => rfl) rfl (qH h_7) rfl))) <| DrawG.nil (by decide +kernel) <| Ex.then_mk ?_
        exact hG2 _ _ _ _ (zG [0, 1]) (J2 x64 x67 hr)
    · refine zp 3 3 rfl (bH (v := (.sl 2 (Int.toNat 0 * 1) x66.length 1 false)) (eC rfl rfl rfl (aJX (E := (eI .u64)) (l := l2) aBO bV rfl rfl rfl (aP h_3) zl rfl rfl h_6))) <| zp 2 4 rfl (bH (v := (.ptr 2 (Int.toNat 0 * 1))) (aBu rfl (apS aT zl rfl h_7))) <| zp 1 5 rfl (bH (v := (.agg (x67.map (eI .u64)))) (aI rfl (aI2 (E := (eI .u64)) (l := l2) aT rfl rfl h_6 h_7))) ?_
      refine zp 0 7 rfl (jV (h' := [some ⟨125, x64.map (eI .u64)⟩, some ⟨125, x67.map (eI .u64)⟩, some ⟨153, l2.map (eI .u64)⟩]) (aU rfl rfl (eQ (E := (eI .u64)) (l := List.replicate 4 0) aT rfl rfl (fun _ => rfl) rfl (qH h_7) rfl))) <| DrawG.nil (by decide +kernel) <| Ex.then_mk ?_
      exact hG2 _ _ _ _ (zG [0, 1]) (J2 x64 x67 hr)
  refine zq <| zI <| zn ?_
  obtain ⟨j5, hL3, hr⟩ := aN hr
  refine AB.block <| AB.loopN (fun m s h => ∃ (bO : Int) (l4 : List Int), lJ N va b m bO l4 = some j5 ∧ Ghost 0 s h (aV 69 [(2, (.ptr 0 0)), (3, (.ptr 1 0)), (4, (.ptr 2 0)), (5, (.ptr 3 0)), (6, (.ptr 4 0)), (14, (eI .i64 bO))]) [some ⟨125, va.map (eI .u64)⟩, some ⟨125, b.map (eI .u64)⟩, some ⟨125, (List.replicate 4 0).map (eI .u64)⟩, some ⟨125, (List.replicate 4 0).map (eI .u64)⟩, some ⟨153, l4.map (eI .u64)⟩]) (n := N) ⟨0, List.replicate 8 0, hL3, (zG [0, 1, 2, 3, 4])⟩ (by rintro s h ⟨_, _, h0, _⟩; simp [lJ] at h0) ?_
  rintro m3 s h ⟨bO, l4, hr3, hg⟩
  refine AB.ghost hg ?_
  clear hg hL3
  rw [lJ] at hr3
  refine zq <| eY rfl rfl <| zn <| AB.seq ?_
  refine zk hr3 rfl (fun h8 hr3 => ?_) (fun h8 hr3 => ?_)
  · refine AB.skip <| Ex.then_mk ?_
    refine AB.seq_g fun K4 hK4 hG4 => ?_
    have J4 : ∀ (s8 : List Int), wM N va b bO (lJ N va b m3) s8 = some j5 → K4 (aV 69 [(2, (.ptr 0 0)), (3, (.ptr 1 0)), (4, (.ptr 2 0)), (5, (.ptr 3 0)), (6, (.ptr 4 0)), (14, (eI .i64 bO))]) [some ⟨125, va.map (eI .u64)⟩, some ⟨125, b.map (eI .u64)⟩, some ⟨125, (List.replicate 4 0).map (eI .u64)⟩, some ⟨125, (List.replicate 4 0).map (eI .u64)⟩, some ⟨153, s8.map (eI .u64)⟩] := by
      intro s8 hr3
      unfold wM at hr3
      refine hK4 _ _ <| AB.rw <| dG rfl rfl <| zm rfl <| zn ?_
      exact ⟨IntKind.i64.wrap (bO + 1), s8, hr3, (zG [0, 1, 2, 3, 4])⟩
    refine AB.block <| zq <| zm rfl <| za rfl <| zn <| zq <| zi <| zn ?_
    refine AB.seq_g fun K5 hK5 hG5 => ?_
    have J5 : ∀ (q9 : Int) (aDx : List Int), wY N va b bO (lJ N va b m3) q9 aDx = some j5 → K5 (aV 69 [(2, (.ptr 0 0)), (3, (.ptr 1 0)), (4, (.ptr 2 0)), (5, (.ptr 3 0)), (6, (.ptr 4 0)), (7, (eI .i64 bO)), (8, (eI .u64 q9)), (14, (eI .i64 bO))]) [some ⟨125, va.map (eI .u64)⟩, some ⟨125, b.map (eI .u64)⟩, some ⟨125, (List.replicate 4 0).map (eI .u64)⟩, some ⟨125, (List.replicate 4 0).map (eI .u64)⟩, some ⟨153, aDx.map (eI .u64)⟩] := by
      intro q9 aDx hr3
      unfold wY at hr3
      refine hK5 _ _ ?_
      obtain ⟨x61, h_9, hr3⟩ := aN hr3
      refine AB.rw <| zm rfl <| dG rfl rfl <| zm rfl <| zw (v := (.ptr 4 (Int.toNat (IntKind.i64.wrap (bO + 4))))) (bP rfl rfl (fH aBO bV rfl h_9)) <| zt (aU rfl rfl (s6 (E := (eI .u64)) (y := q9) bV rfl rfl (bS h_9) rfl rfl rfl)) ?_
      refine OpsW.nil <| Ex.inBlock_mk <| Ex.then_mk ?_
      exact hG4 _ _ _ _ (zG [0, 1, 2, 3, 4]) (J4 (aDx.set (Int.toNat (IntKind.i64.wrap (bO + 4))) q9) hr3)
    refine zq <| zI <| zn ?_
    obtain ⟨res6, hL6, hr3⟩ := aN hr3
    refine AB.block ?_
    refine AB.loopN (fun m s h => ∃ (carry_1 : Int) (x17 : Int) (l4_3 : List Int), dK N va b bO m carry_1 x17 l4_3 = some res6 ∧ Ghost 0 s h (aV 69 [(2, (.ptr 0 0)), (3, (.ptr 1 0)), (4, (.ptr 2 0)), (5, (.ptr 3 0)), (6, (.ptr 4 0)), (7, (eI .i64 bO)), (8, (eI .u64 carry_1)), (14, (eI .i64 bO)), (17, (eI .i64 x17))]) [some ⟨125, va.map (eI .u64)⟩, some ⟨125, b.map (eI .u64)⟩, some ⟨125, (List.replicate 4 0).map (eI .u64)⟩, some ⟨125, (List.replicate 4 0).map (eI .u64)⟩, some ⟨153, l4_3.map (eI .u64)⟩]) (n := N) ⟨0, 0, l4, hL6, (zG [0, 1, 2, 3, 4])⟩ (by rintro s h ⟨_, _, _, h0, _⟩; simp [dK] at h0) ?_
    rintro m6 s h ⟨carry_1, x17, l4_3, hr6, hg⟩
    refine AB.ghost hg ?_
    clear hg hL6
    rw [dK] at hr6
    refine zq <| eY rfl rfl <| zn <| AB.seq ?_
    refine zk hr6 rfl (fun h10 hr6 => ?_) (fun h10 hr6 => ?_)
    · refine AB.skip <| Ex.then_mk <| AB.seq <| AB.block <| zq <| zm rfl <| za rfl <| zn <| AB.seq ?_
      obtain ⟨d8, h_11, hr6⟩ := aN hr6
      obtain ⟨x25, h_12, hr6⟩ := aN hr6
      obtain ⟨x27, h_13, hr6⟩ := aN hr6
      have hc14 : Vm.Fn Tryd.prog 96 [some ⟨125, va.map (eI .u64)⟩, some ⟨125, b.map (eI .u64)⟩, some ⟨125, (List.replicate 4 0).map (eI .u64)⟩, some ⟨125, (List.replicate 4 0).map (eI .u64)⟩, some ⟨153, l4_3.map (eI .u64)⟩] [(eI .u64 d8), (eI .u64 x25)] (.tup [(eI .u64 x27.1), (eI .u64 x27.2)]) [some ⟨125, va.map (eI .u64)⟩, some ⟨125, b.map (eI .u64)⟩, some ⟨125, (List.replicate 4 0).map (eI .u64)⟩, some ⟨125, (List.replicate 4 0).map (eI .u64)⟩, some ⟨153, l4_3.map (eI .u64)⟩] := (Vm.Fn.pure (aB5 N d8 x25 x27 h_13) rfl rfl)
      refine AB.rg (Env.one mixed hc14 fS (fun _ _ => rfl)) (fun _ => by show dR fS _ = true; decide +kernel) <| tS (sv (bI rfl)) <| tS (v := (.ptr 0 (Int.toNat bO))) (sv (bP rfl rfl (fH aT bV rfl h_11))) <| tS (v := (eI .u64 d8)) (sv (aI rfl (gG (E := (eI .u64)) (y := d8) bV rfl rfl (bS h_11)))) <| tS (sv (bI rfl)) <| tS (v := (.ptr 1 (Int.toNat x17))) (sv (bP rfl rfl (fH aT bV rfl h_12))) <| tS (v := (eI .u64 x25)) (sv (aI rfl (gG (E := (eI .u64)) (y := x25) bV rfl rfl (bS h_12)))) ?_
      refine tS (v := (.tup [(eI .u64 x27.1), (eI .u64 x27.2)])) (h' := [some ⟨125, va.map (eI .u64)⟩, some ⟨125, b.map (eI .u64)⟩, some ⟨125, (List.replicate 4 0).map (eI .u64)⟩, some ⟨125, (List.replicate 4 0).map (eI .u64)⟩, some ⟨153, l4_3.map (eI .u64)⟩]) (sv (bN rfl Env.one_O)) <| tS (sv (bI rfl)) <| tS (v := (eI .u64 x27.1)) (sv (rF rfl rfl)) <| tS (v := (eI .u64 x27.2)) (sv (rF rfl rfl)) <| tS (sv (bE rfl)) <| tS (sv (bE rfl)) <| OpsTo.nil <| Ex.then_mk <| AB.seq ?_
      obtain ⟨x35, h_15, hr6⟩ := aN hr6
      obtain ⟨x37, h_16, hr6⟩ := aN hr6
      refine AB.rw <| zm rfl <| zm rfl <| zm rfl <| dG rfl rfl <| zw (v := (.ptr 4 (Int.toNat (IntKind.i64.wrap (bO + x17))))) (bP rfl rfl (fH aBO bV rfl h_15)) <| zw (v := (eI .u64 x35)) (aI rfl (gG (E := (eI .u64)) (y := x35) bV rfl rfl (bS h_15))) <| wC rfl (Vm.Fn.pure (rH N x27.2 x35 0 x37 h_16) rfl rfl) <| zm rfl <| iW rfl rfl <| iW rfl rfl <| za rfl <| za rfl <| zn <| zq <| zm rfl <| zm rfl <| dG rfl rfl <| za rfl <| zn <| AB.seq ?_
      obtain ⟨x46, h_17, hr6⟩ := aN hr6
      refine AB.rw <| zm rfl <| zm rfl <| wC rfl (Vm.Fn.pure (rH N x37.1 carry_1 0 x46 h_17) rfl rfl) <| zm rfl <| iW rfl rfl <| iW rfl rfl <| za rfl <| za rfl <| zn <| AB.rw <| zm rfl <| zm rfl <| dG rfl rfl <| zm rfl <| zm rfl <| zm rfl <| dG rfl rfl <| zw (v := (.ptr 4 (Int.toNat (IntKind.i64.wrap (bO + x17))))) (bP rfl rfl (fH aBO bV rfl h_15)) <| zt (aU rfl rfl (s6 (E := (eI .u64)) (y := x46.1) bV rfl rfl (bS h_15) rfl rfl rfl)) ?_
      refine za rfl <| OpsW.nil <| Ex.inBlock_mk <| Ex.then_mk <| AB.rw <| dG rfl rfl <| zm rfl <| zn ?_
      exact ⟨IntKind.u64.wrap ((IntKind.u64.wrap (x27.1 + x37.2)) + x46.2), IntKind.i64.wrap (x17 + 1), l4_3.set (Int.toNat (IntKind.i64.wrap (bO + x17))) x46.1, hr6, (zG [0, 1, 2, 3, 4])⟩
    · refine AB.exit <| Ex.then_exit_mk <| Ex.then_exit_mk <| Ex.inBlock_same_mk ?_
      obtain rfl := sj hr6
      refine Ex.then_mk ?_
      exact hG5 _ _ _ _ (zG [0, 1, 2, 3, 4]) (J5 carry_1 l4_3 hr3)
  · refine AB.exit <| Ex.then_exit_mk <| Ex.then_exit_mk <| Ex.inBlock_same_mk ?_
    obtain rfl := sj hr3
    refine Ex.then_mk ?_
    exact hG1 _ _ _ _ (zG [2, 3, 4]) (J1 l4 hr)
theorem aBd (N : Nat) (va : List Int) (low : Int) (r : (List Int) × Int) (hr : oP N va low = some r) :
    Vm.Fn Tryd.prog 98 [] [(.agg (va.map (eI .u64))), (eI .u64 low)] (.tup [(.agg (r.1.map (eI .u64))), (eI .u64 r.2)]) [] := by
  refine zf Tryd.func98 Tryd.ntmps98 ?_
  unfold oP at hr
  refine zq <| zh (v := (.ptr 0 0)) (b8 rfl (d9 (fun _ => rfl)) rfl rfl) ?_
  refine zh (v := (.ptr 1 0)) (cK (B := some ⟨125, (List.replicate 4 0).map (eI .u64)⟩) aT rfl rfl) ?_
  refine zi <| zn ?_
  refine AB.seq_g fun K1 hK1 hG1 => ?_
  have J1 : ∀ (aCJ : Int) (l0 : List Int), sH N aCJ l0 = some r → K1 (aV 25 [(1, (eI .u64 aCJ)), (2, (.ptr 0 0)), (4, (.ptr 1 0))]) [some ⟨125, l0.map (eI .u64)⟩, some ⟨125, (List.replicate 4 0).map (eI .u64)⟩] := by
    intro aCJ l0 hr
    unfold sH at hr
    refine hK1 _ _ <| AB.seq ?_
    obtain ⟨q, h_1, hr⟩ := aN hr
    refine AB.rw <| zw (v := (.agg (l0.map (eI .u64)))) (aI rfl (b6 (E := (eI .u64)) (l := l0) aT rfl rfl (aP h_1))) <| zm rfl <| zt (aU rfl rfl (eQ (E := (eI .u64)) (l := List.replicate 4 0) aT rfl rfl (fun _ => rfl) rfl (aP h_1) rfl)) ?_
    refine za rfl <| zn <| AB.ret ?_
    obtain rfl := sj hr
    exact bU (r1 := (.tup [(.agg (l0.map (eI .u64))), (eI .u64 aCJ)])) (cL Tryd.results98 (jU rfl (b6 (E := (eI .u64)) (l := l0) aT rfl rfl (aP h_1))) (iS rfl)) (Ghost.rn [] rfl rfl (FLe.le rfl (V.le_tup (V.les_cons (V.le_arr (fun _ => rfl)) (V.les_cons (V.le_refl _ _) V.les_nil))) FLe.nil) HLe.nil rfl)
  refine zq <| zI <| zn ?_
  obtain ⟨cL, hL2, hr⟩ := aN hr
  refine AB.block <| AB.loopN (fun m s h => ∃ (low_2 : Int) (x7 : Int) (bF : List Int), lC N m low_2 x7 bF = some cL ∧ Ghost 0 s h (aV 25 [(1, (eI .u64 low_2)), (2, (.ptr 0 0)), (4, (.ptr 1 0)), (7, (eI .i64 x7))]) [some ⟨125, bF.map (eI .u64)⟩, some ⟨125, (List.replicate 4 0).map (eI .u64)⟩]) (n := N) ⟨low, 0, va, hL2, (zG [0, 1])⟩ (by rintro s h ⟨_, _, _, h0, _⟩; simp [lC] at h0) ?_
  rintro m2 s h ⟨low_2, x7, bF, hr2, hg⟩
  refine AB.ghost hg ?_
  clear hg hL2
  rw [lC] at hr2
  refine zq <| eY rfl rfl <| zn <| AB.seq ?_
  refine zk hr2 rfl (fun h2 hr2 => ?_) (fun h2 hr2 => ?_)
  · refine AB.skip <| Ex.then_mk <| AB.seq <| AB.block <| zq <| zm rfl <| za rfl <| zn ?_
    obtain ⟨fF, h_3, hr2⟩ := aN hr2
    obtain ⟨bO, h_4, hr2⟩ := aN hr2
    obtain ⟨dD, h_5, hr2⟩ := aN hr2
    refine AB.rd (dQ []) (dQ []) mixed <| dO 13 0 rfl rfl <| dO 12 1 rfl rfl <| zp 11 2 rfl (bH (v := (.ptr 0 (Int.toNat x7))) (bP rfl rfl (fH aT bV rfl h_3))) <| zp 10 3 rfl (bH (v := (eI .u64 fF)) (aI rfl (gG (E := (eI .u64)) (y := fF) bV rfl rfl (bS h_3)))) <| zp 9 4 rfl (bH (v := (eI .u64 bO)) (a9 rfl rfl (v5 _ _ _ _ h_4))) <| dO 8 5 rfl rfl <| zp 7 6 rfl (bH (v := (eI .u64 (bits .or .u64 bO low_2))) (a9 rfl rfl (aDQ ..))) <| dO 6 7 rfl rfl <| zp 5 8 rfl (bH (v := (.ptr 0 (Int.toNat x7))) (bP rfl rfl (fH aT bV rfl h_3))) ?_
    refine zp 4 9 rfl (bH (v := (eI .u64 fF)) (aI rfl (gG (E := (eI .u64)) (y := fF) bV rfl rfl (bS h_3)))) <| zp 3 10 rfl (bH (v := (eI .u64 dD)) (a9 rfl rfl (gZ _ _ _ _ h_5))) <| zp 2 11 rfl (bH (v := (.ptr 0 (Int.toNat x7))) (bP rfl rfl (fH aT bV rfl h_3))) <| zp 1 12 rfl (jV (h' := [some ⟨125, (bF.set (Int.toNat x7) (bits .or .u64 bO low_2)).map (eI .u64)⟩, some ⟨125, (List.replicate 4 0).map (eI .u64)⟩]) (aU rfl rfl (s6 (E := (eI .u64)) (y := bits .or .u64 bO low_2) bV rfl rfl (bS h_3) rfl rfl rfl))) <| nL 0 13 rfl rfl ?_
    refine DrawG.nil (by decide +kernel) <| Ex.inBlock_mk <| Ex.then_mk <| AB.rw <| dG rfl rfl <| zm rfl <| zn ?_
    exact ⟨dD, IntKind.i64.wrap (x7 + 1), bF.set (Int.toNat x7) (bits .or .u64 bO low_2), hr2, (zG [0, 1])⟩
  · refine AB.exit <| Ex.then_exit_mk <| Ex.then_exit_mk <| Ex.inBlock_same_mk ?_
    obtain rfl := sj hr2
    refine Ex.then_mk ?_
    exact hG1 _ _ _ _ (zG [0, 1]) (J1 low_2 bF hr)
theorem aCj (N : Nat) (x y c : Int) (r : Int × Int) (hr : uO N x y c = some r) : Vm.Fn Tryd.prog 85 [] [(eI .u64 x), (eI .u64 y), (eI .u64 c)] (.tup [(eI .u64 r.1), (eI .u64 r.2)]) [] :=
  aKq Tryd.func85 (by kernel_rfl) (by kernel_rfl) (by kernel_rfl) (by kernel_rfl) hr
theorem aAQ (N : Nat) (va : List Int) (b : List Int) (r : (List Int) × Bool) (hr : rG N va b = some r) :
    Vm.Fn Tryd.prog 77 [] [(.agg (va.map (eI .u64))), (.agg (b.map (eI .u64)))] (.tup [(.agg (r.1.map (eI .u64))), (eB r.2)]) [] := by
  refine zf Tryd.func77 Tryd.ntmps77 ?_
  unfold rG at hr
  refine zq <| zh (v := (.ptr 0 0)) (b8 rfl (d9 (fun _ => rfl)) rfl rfl) ?_
  refine zh (v := (.ptr 1 0)) (b8 rfl (d9 (fun _ => rfl)) rfl rfl) ?_
  refine zh (v := (.ptr 2 0)) (cK (B := some ⟨125, (List.replicate 4 0).map (eI .u64)⟩) aT rfl rfl) ?_
  refine zj <| zn <| zq <| zh (v := (.ptr 3 0)) (cK (B := some ⟨125, (List.replicate 4 0).map (eI .u64)⟩) aT rfl rfl) ?_
  refine zn <| zq <| zi <| zn ?_
  refine AB.seq_g fun K1 hK1 hG1 => ?_
  have J1 : ∀ (borrow : Int) (l1 : List Int), w8 N borrow l1 = some r → K1 (aV 29 [(4, (.ptr 0 0)), (6, (.ptr 1 0)), (7, (eI .u64 borrow))]) [some ⟨125, (List.replicate 4 0).map (eI .u64)⟩, some ⟨125, l1.map (eI .u64)⟩] := by
    intro borrow l1 hr
    unfold w8 at hr
    refine hK1 _ _ <| AB.seq ?_
    obtain ⟨q, h_1, hr⟩ := aN hr
    refine AB.rw <| zw (v := (.agg (l1.map (eI .u64)))) (aI rfl (b6 (E := (eI .u64)) (l := l1) aT rfl rfl (aP h_1))) <| zm rfl <| rE rfl rfl <| zt (aU rfl rfl (eQ (E := (eI .u64)) (l := List.replicate 4 0) aT rfl rfl (fun _ => rfl) rfl (aP h_1) rfl)) ?_
    refine za rfl <| zn <| AB.ret ?_
    obtain rfl := sj hr
    exact bU (r1 := (.tup [(.agg (l1.map (eI .u64))), (eB (borrow != 0))])) (cL Tryd.results77 (jU rfl (b6 (E := (eI .u64)) (l := l1) aT rfl rfl (aP h_1))) (iS rfl)) (Ghost.rn [] rfl rfl (FLe.le rfl (V.le_tup (V.les_cons (V.le_arr (fun _ => rfl)) (V.les_cons (V.le_refl _ _) V.les_nil))) FLe.nil) HLe.nil rfl)
  refine zq <| zI <| zn ?_
  obtain ⟨cL, hL2, hr⟩ := aN hr
  refine AB.block <| AB.loopN (fun m s h => ∃ (borrow_1 : Int) (x9 : Int) (l3 : List Int), oH N va b m borrow_1 x9 l3 = some cL ∧ Ghost 0 s h (aV 29 [(2, (.ptr 0 0)), (3, (.ptr 1 0)), (4, (.ptr 2 0)), (6, (.ptr 3 0)), (7, (eI .u64 borrow_1)), (9, (eI .i64 x9))]) [some ⟨125, va.map (eI .u64)⟩, some ⟨125, b.map (eI .u64)⟩, some ⟨125, (List.replicate 4 0).map (eI .u64)⟩, some ⟨125, l3.map (eI .u64)⟩]) (n := N) ⟨0, 0, List.replicate 4 0, hL2, (zG [0, 1, 2, 3])⟩ (by rintro s h ⟨_, _, _, h0, _⟩; simp [oH] at h0) ?_
  rintro m2 s h ⟨borrow_1, x9, l3, hr2, hg⟩
  refine AB.ghost hg ?_
  clear hg hL2
  rw [oH] at hr2
  refine zq <| eY rfl rfl <| zn <| AB.seq ?_
  refine zk hr2 rfl (fun h2 hr2 => ?_) (fun h2 hr2 => ?_)
  · refine AB.skip <| Ex.then_mk <| AB.seq <| AB.block <| zq <| zm rfl <| za rfl <| zn ?_
    obtain ⟨x15, h_3, hr2⟩ := aN hr2
    obtain ⟨x18, h_4, hr2⟩ := aN hr2
    obtain ⟨iH, h_5, hr2⟩ := aN hr2
    obtain ⟨fE, h_7, hr2⟩ := aN hr2
    refine AB.rd (dQ [85]) (dQ []) mixed <| dO 14 0 rfl rfl <| dO 13 1 rfl rfl <| zp 12 2 rfl (bH (v := (.ptr 0 (Int.toNat x9))) (bP rfl rfl (fH aT bV rfl h_3))) <| zp 11 3 rfl (bH (v := (eI .u64 x15)) (aI rfl (gG (E := (eI .u64)) (y := x15) bV rfl rfl (bS h_3)))) <| dO 10 4 rfl rfl <| zp 9 5 rfl (bH (v := (.ptr 1 (Int.toNat x9))) (bP rfl rfl (fH aT bV rfl h_4))) <| zp 8 6 rfl (bH (v := (eI .u64 x18)) (aI rfl (gG (E := (eI .u64)) (y := x18) bV rfl rfl (bS h_4)))) <| dO 7 7 rfl rfl ?_
    refine DrawG.pick (n := 6) (i := 8) (by decide +kernel) rfl (gU (fun _ => (Vm.Fn.pure (aCj N x15 x18 borrow_1 iH h_5) rfl rfl)) rfl (sv (bN rfl c5))) <| dO 5 9 rfl rfl <| zp 4 10 rfl (bH (v := (eI .u64 iH.1)) (rF rfl rfl)) <| zp 3 11 rfl (bH (v := (eI .u64 iH.2)) (rF rfl rfl)) <| zp 2 12 rfl (bH (v := (.ptr 3 (Int.toNat x9))) (bP rfl rfl (fH aT bV rfl h_7))) ?_
    refine zp 1 13 rfl (jV (h' := [some ⟨125, va.map (eI .u64)⟩, some ⟨125, b.map (eI .u64)⟩, some ⟨125, (List.replicate 4 0).map (eI .u64)⟩, some ⟨125, (l3.set (Int.toNat x9) iH.1).map (eI .u64)⟩]) (aU rfl rfl (s6 (E := (eI .u64)) (y := iH.1) bV rfl rfl (bS h_7) rfl rfl rfl))) <| nL 0 14 rfl rfl <| DrawG.nil (by decide +kernel) <| Ex.inBlock_mk <| Ex.then_mk <| AB.rw <| dG rfl rfl <| zm rfl <| zn ?_
    exact ⟨iH.2, IntKind.i64.wrap (x9 + 1), l3.set (Int.toNat x9) iH.1, hr2, (zG [0, 1, 2, 3])⟩
  · refine AB.exit <| Ex.then_exit_mk <| Ex.then_exit_mk <| Ex.inBlock_same_mk ?_
    obtain rfl := sj hr2
    refine Ex.then_mk ?_
    exact hG1 _ _ _ _ (zG [2, 3]) (J1 borrow_1 l3 hr)
theorem aCX (N : Nat) (hi : List Int) (lo : List Int) (b : List Int) (r : (List Int) × (List Int) × Bool) (hr : v6 N hi lo b = some r) :
    Vm.Fn Tryd.prog 92 [] [(.agg (hi.map (eI .u64))), (.agg (lo.map (eI .u64))), (.agg (b.map (eI .u64)))] (.tup [(.agg (r.1.map (eI .u64))), (.agg (r.2.1.map (eI .u64))), (eB r.2.2)]) [] := by
  refine zf Tryd.func92 Tryd.ntmps92 ?_
  unfold v6 at hr
  refine zq <| zh (v := (.ptr 0 0)) (b8 rfl (d9 (fun _ => rfl)) rfl rfl) ?_
  refine zh (v := (.ptr 1 0)) (b8 rfl (d9 (fun _ => rfl)) rfl rfl) ?_
  refine zh (v := (.ptr 2 0)) (b8 rfl (d9 (fun _ => rfl)) rfl rfl) ?_
  refine zh (v := (.ptr 3 0)) (cK (B := some ⟨125, (List.replicate 4 0).map (eI .u64)⟩) aT rfl rfl) ?_
  refine zh (v := (.ptr 4 0)) (cK (B := some ⟨125, (List.replicate 4 0).map (eI .u64)⟩) aT rfl rfl) ?_
  refine zj <| zn <| AB.scope <| AB.seq <| AB.seq ?_
  obtain ⟨q, h_1, hr⟩ := aN hr
  obtain ⟨q_1, h_2, hr⟩ := aN hr
  obtain ⟨x16, h_3, hr⟩ := aN hr
  refine AB.rw <| zw (v := (.agg (b.map (eI .u64)))) (aI rfl (b6 (E := (eI .u64)) (l := b) aT rfl rfl (aP h_1))) <| zw (v := (.agg (hi.map (eI .u64)))) (aI rfl (b6 (E := (eI .u64)) (l := hi) aT rfl rfl (aP h_2))) <| wC rfl (Vm.Fn.pure (qG N b hi x16 h_3) zR rfl) <| zqk rfl rfl <| zn ?_
  refine zk hr rfl (fun h4 hr => ?_) (fun h4 hr => ?_)
  · refine zq <| zw (v := (.agg ([0, 0, 0, 0].map (eI .u64)))) (cI rfl (rW aT bV rfl)) <| zw (v := (.agg ([0, 0, 0, 0].map (eI .u64)))) (cI rfl (rW aT bV rfl)) <| zt (aU rfl rfl (eQ (E := (eI .u64)) (l := List.replicate 4 0) aT rfl rfl (fun _ => rfl) rfl rfl rfl)) ?_
    refine zt (aU rfl rfl (eQ (E := (eI .u64)) (l := List.replicate 4 0) aT rfl rfl (fun _ => rfl) rfl rfl rfl)) ?_
    refine zj <| zn <| AB.ret <| Ex.then_ret_mk ?_
    obtain rfl := sj hr
    exact bU (r1 := (.tup [(.agg ([0, 0, 0, 0].map (eI .u64))), (.agg ([0, 0, 0, 0].map (eI .u64))), (eB false)])) (j5 Tryd.results92 (jU rfl (b6 (E := (eI .u64)) (l := [0, 0, 0, 0]) aT rfl rfl rfl)) (jU rfl (b6 (E := (eI .u64)) (l := [0, 0, 0, 0]) aT rfl rfl rfl)) (iS rfl)) (Ghost.rn [] rfl rfl (FLe.le rfl (V.le_tup (V.les_cons (V.le_arr (fun _ => rfl)) (V.les_cons (V.le_arr (fun _ => rfl)) (V.les_cons (V.le_refl _ _) V.les_nil)))) FLe.nil) HLe.nil rfl)
  · refine AB.skip <| Ex.then_mk <| zq <| zw (v := (.agg ([0, 0, 0, 0].map (eI .u64)))) (cI rfl (rW aT bV rfl)) <| zh (v := (.ptr 5 0)) (cK (B := some ⟨125, (List.replicate 4 0).map (eI .u64)⟩) aT rfl rfl) ?_
    refine zt (aU rfl rfl (eQ (E := (eI .u64)) (l := List.replicate 4 0) aT rfl rfl (fun _ => rfl) rfl rfl rfl)) ?_
    refine zn <| zq <| zw (v := (.agg (hi.map (eI .u64)))) (aI rfl (b6 (E := (eI .u64)) (l := hi) aT rfl rfl (aP h_2))) <| zt (aU rfl rfl (eQ (E := (eI .u64)) (l := List.replicate 4 0) aT rfl rfl (fun _ => rfl) rfl (aP h_2) rfl)) ?_
    refine zn <| AB.seq <| AB.label <| Ex.then_mk ?_
    refine AB.seq_g fun K1 hK1 hG1 => ?_
    have J1 : ∀ (l0 : List Int) (l1 : List Int), wT N l0 l1 = some r → K1 (aV 72 [(6, (.ptr 0 0)), (7, (.ptr 1 0))]) [some ⟨125, l0.map (eI .u64)⟩, some ⟨125, l1.map (eI .u64)⟩] := by
      intro l0 l1 hr
      unfold wT at hr
      refine hK1 _ _ ?_
      refine AB.seq_g fun K2 hK2 hG2 => ?_
      have J2 : xE N l0 l1 = some r → K2 (aV 72 [(6, (.ptr 0 0)), (7, (.ptr 1 0)), (8, (eB true))]) [some ⟨125, l0.map (eI .u64)⟩, some ⟨125, l1.map (eI .u64)⟩] := by
        intro hr
        unfold xE at hr
        refine hK2 _ _ <| AB.ret ?_
        obtain ⟨q_3, h_6, hr⟩ := aN hr
        obtain ⟨q_2, h_5, hr⟩ := aN hr
        obtain rfl := sj hr
        exact bU (r1 := (.tup [(.agg (l0.map (eI .u64))), (.agg (l1.map (eI .u64))), (eB true)])) (j5 Tryd.results92 (jU rfl (b6 (E := (eI .u64)) (l := l0) aT rfl rfl (aP h_5))) (jU rfl (b6 (E := (eI .u64)) (l := l1) aT rfl rfl (aP h_6))) (iS rfl)) (Ghost.rn [] rfl rfl (FLe.le rfl (V.le_tup (V.les_cons (V.le_arr (fun _ => rfl)) (V.les_cons (V.le_arr (fun _ => rfl)) (V.les_cons (V.le_refl _ _) V.les_nil)))) FLe.nil) HLe.nil rfl)
      obtain ⟨q_4, h_7, hr⟩ := aN hr
      obtain ⟨q_5, h_8, hr⟩ := aN hr
      refine AB.rd (dQ []) (dQ []) mixed <| zp 4 0 rfl (bH (v := (.agg (l0.map (eI .u64)))) (aI rfl (b6 (E := (eI .u64)) (l := l0) aT rfl rfl (aP h_7)))) <| DrawG.fork (n := 3) [1, 2] (by decide +kernel) (by decide) ?_
      refine (Fork.cons rfl (gS (v := (.agg (l1.map (eI .u64)))) (sv (aI rfl (b6 (E := (eI .u64)) (l := l1) aT rfl rfl (aP h_8))))) ?_ (Fork.cons rfl (gN (h' := [some ⟨125, l0.map (eI .u64)⟩, some ⟨125, l1.map (eI .u64)⟩]) (sv (aU rfl rfl (eQ (E := (eI .u64)) (l := l0) aT rfl rfl (fun _ => rfl) (aP h_7) (aP h_7) rfl)))) ?_ Fork.nil))
      · refine zp 2 2 rfl (jV (h' := [some ⟨125, l0.map (eI .u64)⟩, some ⟨125, l1.map (eI .u64)⟩]) (aU rfl rfl (eQ (E := (eI .u64)) (l := l0) aT rfl rfl (fun _ => rfl) (aP h_7) (aP h_7) rfl))) <| zp 1 3 rfl (jV (h' := [some ⟨125, l0.map (eI .u64)⟩, some ⟨125, l1.map (eI .u64)⟩]) (aU rfl rfl (eQ (E := (eI .u64)) (l := l1) aT rfl rfl (fun _ => rfl) (aP h_8) (aP h_8) rfl))) <| zp 0 4 rfl (bH (v := (eB true)) (bE rfl)) <| DrawG.nil (by decide +kernel) <| Ex.then_mk ?_
        exact hG2 _ _ _ _ (zG [0, 1]) (J2 hr)
      · refine zp 2 1 rfl (bH (v := (.agg (l1.map (eI .u64)))) (aI rfl (b6 (E := (eI .u64)) (l := l1) aT rfl rfl (aP h_8)))) <| zp 1 3 rfl (jV (h' := [some ⟨125, l0.map (eI .u64)⟩, some ⟨125, l1.map (eI .u64)⟩]) (aU rfl rfl (eQ (E := (eI .u64)) (l := l1) aT rfl rfl (fun _ => rfl) (aP h_8) (aP h_8) rfl))) <| zp 0 4 rfl (bH (v := (eB true)) (bE rfl)) <| DrawG.nil (by decide +kernel) <| Ex.then_mk ?_
        exact hG2 _ _ _ _ (zG [0, 1]) (J2 hr)
    refine zq <| zi <| zn ?_
    obtain ⟨j5, hL3, hr⟩ := aN hr
    refine AB.block <| AB.loopN (fun m s h => ∃ (cS : Int) (bF : List Int) (l2 : List Int) (l3 : List Int), lG N b m cS bF l2 l3 = some j5 ∧ Ghost 0 s h (aV 72 [(4, (.ptr 0 0)), (5, (.ptr 1 0)), (6, (.ptr 2 0)), (7, (.ptr 3 0)), (9, (.ptr 4 0)), (10, (eI .i64 cS))]) [some ⟨125, bF.map (eI .u64)⟩, some ⟨125, b.map (eI .u64)⟩, some ⟨125, l2.map (eI .u64)⟩, some ⟨125, l3.map (eI .u64)⟩, some ⟨125, [0, 0, 0, 0].map (eI .u64)⟩]) (n := N) ⟨3, lo, List.replicate 4 0, hi, hL3, (zG [1, 2, 3, 4, 5])⟩ (by rintro s h ⟨_, _, _, _, h0, _⟩; simp [lG] at h0) ?_
    rintro m3 s h ⟨cS, bF, l2, l3, hr3, hg⟩
    refine AB.ghost hg ?_
    clear hg hL3
    rw [lG] at hr3
    refine AB.seq <| zq <| zm rfl <| zY rfl rfl <| zn ?_
    refine zk hr3 rfl (fun h9 hr3 => ?_) (fun h9 hr3 => ?_)
    · refine AB.skip <| Ex.then_mk ?_
      refine AB.seq_g fun K4 hK4 hG4 => ?_
      have J4 : ∀ (nM : List Int) (nC : List Int) (i3 : List Int), wZ N b cS (lG N b m3) nM nC i3 = some j5 → K4 (aV 72 [(4, (.ptr 0 0)), (5, (.ptr 1 0)), (6, (.ptr 2 0)), (7, (.ptr 3 0)), (9, (.ptr 4 0)), (10, (eI .i64 cS))]) [some ⟨125, nM.map (eI .u64)⟩, some ⟨125, b.map (eI .u64)⟩, some ⟨125, nC.map (eI .u64)⟩, some ⟨125, i3.map (eI .u64)⟩, some ⟨125, [0, 0, 0, 0].map (eI .u64)⟩] := by
        intro nM nC i3 hr3
        unfold wZ at hr3
        refine hK4 _ _ <| AB.rw <| zm rfl <| vP rfl rfl <| za rfl <| zn ?_
        exact ⟨IntKind.i64.wrap (cS - 1), nM, nC, i3, hr3, (zG [0, 1, 2, 3, 4])⟩
      refine AB.block <| zq <| zi <| zn ?_
      obtain ⟨res5, hL5, hr3⟩ := aN hr3
      refine AB.block <| AB.loopN (fun m s h => ∃ (bit : Int) (i9 : List Int) (eZ : List Int) (lU : List Int), dV N b cS m bit i9 eZ lU = some res5 ∧ Ghost 0 s h (aV 72 [(4, (.ptr 0 0)), (5, (.ptr 1 0)), (6, (.ptr 2 0)), (7, (.ptr 3 0)), (9, (.ptr 4 0)), (10, (eI .i64 cS)), (11, (eI .i64 bit))]) [some ⟨125, i9.map (eI .u64)⟩, some ⟨125, b.map (eI .u64)⟩, some ⟨125, eZ.map (eI .u64)⟩, some ⟨125, lU.map (eI .u64)⟩, some ⟨125, [0, 0, 0, 0].map (eI .u64)⟩]) (n := N) ⟨63, bF, l2, l3, hL5, (zG [0, 1, 2, 3, 4])⟩ (by rintro s h ⟨_, _, _, _, h0, _⟩; simp [dV] at h0) ?_
      rintro m5 s h ⟨bit, i9, eZ, lU, hr5, hg⟩
      refine AB.ghost hg ?_
      clear hg hL5
      rw [dV] at hr5
      refine AB.seq <| zq <| zm rfl <| zY rfl rfl <| zn ?_
      refine zk hr5 rfl (fun h10 hr5 => ?_) (fun h10 hr5 => ?_)
      · refine AB.skip <| Ex.then_mk ?_
        refine AB.seq_g fun K6 hK6 hG6 => ?_
        have J6 : ∀ (aEG : List Int) (aE8 : List Int) (aEK : List Int), qM N b cS bit (dV N b cS m5) aEG aE8 aEK = some res5 → K6 (aV 72 [(4, (.ptr 0 0)), (5, (.ptr 1 0)), (6, (.ptr 2 0)), (7, (.ptr 3 0)), (9, (.ptr 4 0)), (10, (eI .i64 cS)), (11, (eI .i64 bit))]) [some ⟨125, aEG.map (eI .u64)⟩, some ⟨125, b.map (eI .u64)⟩, some ⟨125, aE8.map (eI .u64)⟩, some ⟨125, aEK.map (eI .u64)⟩, some ⟨125, [0, 0, 0, 0].map (eI .u64)⟩] := by
          intro aEG aE8 aEK hr5
          unfold qM at hr5
          refine hK6 _ _ <| AB.rw <| zm rfl <| vP rfl rfl <| za rfl <| zn ?_
          exact ⟨IntKind.i64.wrap (bit - 1), aEG, aE8, aEK, hr5, (zG [0, 1, 2, 3, 4])⟩
        refine AB.block <| AB.seq ?_
        refine AB.seq_g fun K7 hK7 hG7 => ?_
        have J7 : ∀ (x37 : Bool), qP N b cS bit i9 eZ lU (dV N b cS m5) x37 = some res5 → K7 (aV 72 [(4, (.ptr 0 0)), (5, (.ptr 1 0)), (6, (.ptr 2 0)), (7, (.ptr 3 0)), (9, (.ptr 4 0)), (10, (eI .i64 cS)), (11, (eI .i64 bit)), (37, (eB x37))]) [some ⟨125, i9.map (eI .u64)⟩, some ⟨125, b.map (eI .u64)⟩, some ⟨125, eZ.map (eI .u64)⟩, some ⟨125, lU.map (eI .u64)⟩, some ⟨125, [0, 0, 0, 0].map (eI .u64)⟩] := by
          intro x37 hr5
          unfold qP at hr5
          refine hK7 _ _ ?_
          refine zk hr5 rfl (fun h11 hr5 => ?_) (fun h11 hr5 => ?_)
          · refine AB.exit <| Ex.then_exit_mk <| Ex.inBlock_other_mk rfl <| Ex.then_exit_mk <| Ex.then_exit_mk <| Ex.inBlock_other_mk rfl <| Ex.inBlock_other_mk rfl <| Ex.then_exit_mk <| Ex.then_exit_mk <| Ex.inBlock_same_mk ?_
            obtain rfl := sj hr5
            obtain rfl := sj hr3
            refine Ex.then_mk ?_
            exact hG1 _ _ _ _ (zG [2, 3]) (J1 eZ lU hr)
          · refine AB.skip <| Ex.then_mk <| zq <| zi <| zi <| zn <| AB.seq ?_
            obtain ⟨q_6, h_12, hr5⟩ := aN hr5
            obtain ⟨x40, h_13, hr5⟩ := aN hr5
            obtain ⟨q_7, h_14, hr5⟩ := aN hr5
            refine AB.rw <| zw (v := (.agg (i9.map (eI .u64)))) (aI rfl (b6 (E := (eI .u64)) (l := i9) aT rfl rfl (aP h_12))) <| wC rfl (Vm.Fn.pure (aBd N i9 0 x40 h_13) zR zR) <| zm rfl <| iW rfl rfl <| iW rfl rfl <| zt (aU rfl rfl (eQ (E := (eI .u64)) (l := i9) aT rfl rfl (fun _ => rfl) (aP h_12) (aP h_14) rfl)) ?_
            refine za rfl <| zn <| AB.seq ?_
            obtain ⟨q_8, h_15, hr5⟩ := aN hr5
            obtain ⟨x46, h_16, hr5⟩ := aN hr5
            obtain ⟨q_9, h_17, hr5⟩ := aN hr5
            refine AB.rw <| zw (v := (.agg (lU.map (eI .u64)))) (aI rfl (b6 (E := (eI .u64)) (l := lU) aT rfl rfl (aP h_15))) <| zm rfl <| wC rfl (Vm.Fn.pure (aBd N lU x40.2 x46 h_16) zR zR) <| zm rfl <| iW rfl rfl <| iW rfl rfl <| zt (aU rfl rfl (eQ (E := (eI .u64)) (l := lU) aT rfl rfl (fun _ => rfl) (aP h_15) (aP h_17) rfl)) ?_
            refine za rfl <| zn ?_
            refine AB.seq_g fun K8 hK8 hG8 => ?_
            have J8 : ∀ (x56 : Bool), oI N b cS bit eZ x40 x46 (dV N b cS m5) x56 = some res5 → K8 (aV 72 [(4, (.ptr 0 0)), (5, (.ptr 1 0)), (6, (.ptr 2 0)), (7, (.ptr 3 0)), (9, (.ptr 4 0)), (10, (eI .i64 cS)), (11, (eI .i64 bit)), (56, (eB x56))]) [some ⟨125, x40.1.map (eI .u64)⟩, some ⟨125, b.map (eI .u64)⟩, some ⟨125, eZ.map (eI .u64)⟩, some ⟨125, x46.1.map (eI .u64)⟩, some ⟨125, [0, 0, 0, 0].map (eI .u64)⟩] := by
              intro x56 hr5
              unfold oI at hr5
              refine hK8 _ _ ?_
              refine zk hr5 rfl (fun h18 hr5 => ?_) (fun h18 hr5 => ?_)
              · refine AB.seq ?_
                obtain ⟨x60, h_19, hr5⟩ := aN hr5
                obtain ⟨aMP, h_20, hr5⟩ := aN hr5
                refine AB.rw <| zw (v := (.agg (x46.1.map (eI .u64)))) (aI rfl (b6 (E := (eI .u64)) (l := x46.1) aT rfl rfl (aP h_17))) <| zw (v := (.agg (b.map (eI .u64)))) (aI rfl (b6 (E := (eI .u64)) (l := b) aT rfl rfl (aP h_1))) <| wC rfl (Vm.Fn.pure (aAQ N x46.1 b x60 h_19) zR zR) <| zm rfl <| iW rfl rfl <| iW rfl rfl <| zt (aU rfl rfl (eQ (E := (eI .u64)) (l := x46.1) aT rfl rfl (fun _ => rfl) (aP h_17) (aP h_20) rfl)) ?_
                refine zn ?_
                obtain ⟨x64, h_21, hr5⟩ := aN hr5
                obtain ⟨x67, h_22, hr5⟩ := aN hr5
                refine AB.rg E0 (fun _ => by show dR (fun _ => false) _ = true; decide +kernel) <| tS (sv (bI rfl)) <| tS (v := (.ptr 2 (Int.toNat cS))) (sv (bP rfl rfl (fH aT bV rfl h_21))) <| tS (v := (eI .u64 x64)) (sv (aI rfl (gG (E := (eI .u64)) (y := x64) bV rfl rfl (bS h_21)))) <| tS (sv (bI rfl)) <| tS (v := (eI .u64 x67)) (sv (a9 rfl rfl (v5 _ _ _ _ h_22))) <| tS (sv (a9 rfl rfl (aDQ ..))) <| tS (v := (.ptr 2 (Int.toNat cS))) (sv (bP rfl rfl (fH aT bV rfl h_21))) ?_
                refine tN (h' := [some ⟨125, x40.1.map (eI .u64)⟩, some ⟨125, b.map (eI .u64)⟩, some ⟨125, (eZ.set (Int.toNat cS) (bits .or .u64 x64 x67)).map (eI .u64)⟩, some ⟨125, x60.1.map (eI .u64)⟩, some ⟨125, [0, 0, 0, 0].map (eI .u64)⟩]) (sv (aU rfl rfl (s6 (E := (eI .u64)) (y := bits .or .u64 x64 x67) bV rfl rfl (bS h_21) rfl rfl rfl))) <| OpsTo.nil <| Ex.inBlock_mk <| Ex.then_mk ?_
                exact hG6 _ _ _ _ (zG [0, 1, 2, 3, 4]) (J6 x40.1 (eZ.set (Int.toNat cS) (bits .or .u64 x64 x67)) x60.1 hr5)
              · refine AB.skip <| Ex.inBlock_mk <| Ex.then_mk ?_
                exact hG6 _ _ _ _ (zG [0, 1, 2, 3, 4]) (J6 x40.1 eZ x46.1 hr5)
            rcases Bool.eq_false_or_eq_true (x46.2 != 0) with h23 | h23
            · replace hr5 := gE hr5 h23
              refine AB.rw <| zm rfl <| rE rfl rfl <| zm rfl <| zx h23 <| zx h23 <| zx h23 <| zx h23 <| zw (v := (eB true)) (c9 rfl h23 rfl) <| zn ?_
              exact hG8 _ _ _ _ (zG [0, 1, 2, 3, 4]) (J8 true hr5)
            · replace hr5 := gB hr5 h23
              obtain ⟨x54, h_24, hr5⟩ := aN hr5
              refine AB.rw <| zm rfl <| rE rfl rfl <| zm rfl <| zg (v := (.agg (x46.1.map (eI .u64)))) h23 (aI rfl (b6 (E := (eI .u64)) (l := x46.1) aT rfl rfl (aP h_17))) <| zg (v := (.agg (b.map (eI .u64)))) h23 (aI rfl (b6 (E := (eI .u64)) (l := b) aT rfl rfl (aP h_1))) <| wCG (v := (eI .i64 x54)) (h' := [some ⟨125, x40.1.map (eI .u64)⟩, some ⟨125, b.map (eI .u64)⟩, some ⟨125, eZ.map (eI .u64)⟩, some ⟨125, x46.1.map (eI .u64)⟩, some ⟨125, [0, 0, 0, 0].map (eI .u64)⟩]) rfl rfl h23 rfl (Vm.Fn.pure (qG N x46.1 b x54 h_24) zR rfl) <| zg h23 (a9 rfl rfl (wJ ..)) ?_
              refine oB rfl h23 rfl <| zn ?_
              exact hG8 _ _ _ _ (zG [0, 1, 2, 3, 4]) (J8 (decide (0 ≤ x54)) hr5)
        obtain ⟨aNc, h_25, hr5⟩ := aN hr5
        rcases Bool.eq_false_or_eq_true (lU == [0, 0, 0, 0]) with h26 | h26
        · replace hr5 := gE hr5 h26
          obtain ⟨aM9, h_27, hr5⟩ := aN hr5
          refine AB.rw <| zw (v := (.agg (lU.map (eI .u64)))) (aI rfl (b6 (E := (eI .u64)) (l := lU) aT rfl rfl (aP h_25))) <| zw (v := (.agg ([0, 0, 0, 0].map (eI .u64)))) (aI rfl (b6 (E := (eI .u64)) (l := [0, 0, 0, 0]) aT rfl rfl rfl)) <| zw (a9 rfl rfl (pO _ _ aT bV rfl dep (aP h_25) rfl)) <| zm rfl <| zg (v := (.agg (i9.map (eI .u64)))) h26 (aI rfl (b6 (E := (eI .u64)) (l := i9) aT rfl rfl (aP h_27))) <| zg (v := (.agg ([0, 0, 0, 0].map (eI .u64)))) h26 (aI rfl (b6 (E := (eI .u64)) (l := [0, 0, 0, 0]) aT rfl rfl rfl)) ?_
          refine zg h26 (a9 rfl rfl (pO _ _ aT bV rfl dep (aP h_27) rfl)) <| zpT rfl h26 rfl <| zn ?_
          exact hG7 _ _ _ _ (zG [0, 1, 2, 3, 4]) (J7 (i9 == [0, 0, 0, 0]) hr5)
        · replace hr5 := gB hr5 h26
          refine AB.rw <| zw (v := (.agg (lU.map (eI .u64)))) (aI rfl (b6 (E := (eI .u64)) (l := lU) aT rfl rfl (aP h_25))) <| zw (v := (.agg ([0, 0, 0, 0].map (eI .u64)))) (aI rfl (b6 (E := (eI .u64)) (l := [0, 0, 0, 0]) aT rfl rfl rfl)) <| zw (a9 rfl rfl (pO _ _ aT bV rfl dep (aP h_25) rfl)) <| zm rfl <| zx h26 <| zx h26 <| zx h26 <| zw (v := (eB false)) (fV rfl h26 rfl) <| zn ?_
          exact hG7 _ _ _ _ (zG [0, 1, 2, 3, 4]) (J7 false hr5)
      · refine AB.exit <| Ex.then_exit_mk <| Ex.then_exit_mk <| Ex.inBlock_same_mk ?_
        obtain rfl := sj hr5
        refine Ex.inBlock_mk <| Ex.then_mk ?_
        exact hG4 _ _ _ _ (zG [0, 1, 2, 3, 4]) (J4 i9 eZ lU hr3)
    · refine AB.exit <| Ex.then_exit_mk <| Ex.then_exit_mk <| Ex.inBlock_same_mk ?_
      obtain rfl := sj hr3
      refine Ex.then_mk ?_
      exact hG1 _ _ _ _ (zG [2, 3]) (J1 l2 l3 hr)
theorem vY (N : Nat) (va : List Int) (vm : List Int) (r : (List Int)) (hr : oF N va vm = some r) :
    Vm.Fn Tryd.prog 93 [] [(.agg (va.map (eI .u64))), (.agg (vm.map (eI .u64)))] (.agg (r.map (eI .u64))) [] := by
  refine zf Tryd.func93 Tryd.ntmps93 ?_
  unfold oF at hr
  refine zq <| zh (v := (.ptr 0 0)) (b8 rfl (d9 (fun _ => rfl)) rfl rfl) ?_
  refine zh (v := (.ptr 1 0)) (b8 rfl (d9 (fun _ => rfl)) rfl rfl) ?_
  refine zh (v := (.ptr 2 0)) (cK (B := some ⟨125, (List.replicate 4 0).map (eI .u64)⟩) aT rfl rfl) ?_
  refine zn <| AB.seq <| AB.seq ?_
  obtain ⟨q, h_1, hr⟩ := aN hr
  obtain ⟨q_1, h_2, hr⟩ := aN hr
  obtain ⟨cG, h_3, hr⟩ := aN hr
  refine AB.rw <| zw (v := (.agg (va.map (eI .u64)))) (aI rfl (b6 (E := (eI .u64)) (l := va) aT rfl rfl (aP h_1))) <| zw (v := (.agg (vm.map (eI .u64)))) (aI rfl (b6 (E := (eI .u64)) (l := vm) aT rfl rfl (aP h_2))) <| wC rfl (Vm.Fn.pure (qG N va vm cG h_3) zR rfl) <| eY rfl rfl <| zn ?_
  refine zk hr rfl (fun h4 hr => ?_) (fun h4 hr => ?_)
  · refine zq <| zw (v := (.agg (va.map (eI .u64)))) (aI rfl (b6 (E := (eI .u64)) (l := va) aT rfl rfl (aP h_1))) <| zt (aU rfl rfl (eQ (E := (eI .u64)) (l := List.replicate 4 0) aT rfl rfl (fun _ => rfl) rfl (aP h_1) rfl)) ?_
    refine zn <| AB.ret <| Ex.then_ret_mk ?_
    obtain rfl := sj hr
    exact bU (r1 := (.agg (va.map (eI .u64)))) (nH Tryd.results93 (jU rfl (b6 (E := (eI .u64)) (l := va) aT rfl rfl (aP h_1)))) (zG [])
  · refine AB.skip <| Ex.then_mk <| AB.seq ?_
    obtain ⟨x17, h_5, hr⟩ := aN hr
    obtain ⟨q_2, h_6, hr⟩ := aN hr
    obtain ⟨q_3, h_7, hr⟩ := aN hr
    refine AB.rw <| zw (v := (.agg ([0, 0, 0, 0].map (eI .u64)))) (cI rfl (rW aT bV rfl)) <| zw (v := (.agg (va.map (eI .u64)))) (aI rfl (b6 (E := (eI .u64)) (l := va) aT rfl rfl (aP h_1))) <| zw (v := (.agg (vm.map (eI .u64)))) (aI rfl (b6 (E := (eI .u64)) (l := vm) aT rfl rfl (aP h_2))) <| wC rfl (Vm.Fn.pure (aCX N [0, 0, 0, 0] va vm x17 h_5) zR zR) <| zm rfl <| iW rfl rfl <| iW rfl rfl <| iW rfl rfl <| zh (v := (.ptr 3 0)) (cK (B := some ⟨125, (List.replicate 4 0).map (eI .u64)⟩) aT rfl rfl) ?_
    refine zh (v := (.ptr 4 0)) (cK (B := some ⟨125, (List.replicate 4 0).map (eI .u64)⟩) aT rfl rfl) ?_
    refine zt (aU rfl rfl (eQ (E := (eI .u64)) (l := List.replicate 4 0) aT rfl rfl (fun _ => rfl) rfl (aP h_6) rfl)) ?_
    refine zt (aU rfl rfl (eQ (E := (eI .u64)) (l := List.replicate 4 0) aT rfl rfl (fun _ => rfl) rfl (aP h_7) rfl)) ?_
    refine za rfl <| zn <| zq <| zw (v := (.agg (x17.2.1.map (eI .u64)))) (aI rfl (b6 (E := (eI .u64)) (l := x17.2.1) aT rfl rfl (aP h_7))) <| zt (aU rfl rfl (eQ (E := (eI .u64)) (l := List.replicate 4 0) aT rfl rfl (fun _ => rfl) rfl (aP h_7) rfl)) ?_
    refine zn <| AB.ret ?_
    obtain rfl := sj hr
    exact bU (r1 := (.agg (x17.2.1.map (eI .u64)))) (nH Tryd.results93 (jU rfl (b6 (E := (eI .u64)) (l := x17.2.1) aT rfl rfl (aP h_7)))) (zG [])
theorem aE6 (N : Nat) (va : List Int) (b : List Int) (vm : List Int) (r : (List Int)) (hr : tL N va b vm = some r) :
    Vm.Fn Tryd.prog 86 [] [(.agg (va.map (eI .u64))), (.agg (b.map (eI .u64))), (.agg (vm.map (eI .u64)))] (.agg (r.map (eI .u64))) [] := by
  refine zf Tryd.func86 Tryd.ntmps86 ?_
  unfold tL at hr
  refine zq <| zh (v := (.ptr 0 0)) (b8 rfl (d9 (fun _ => rfl)) rfl rfl) ?_
  refine zh (v := (.ptr 1 0)) (b8 rfl (d9 (fun _ => rfl)) rfl rfl) ?_
  refine zh (v := (.ptr 2 0)) (b8 rfl (d9 (fun _ => rfl)) rfl rfl) ?_
  refine zh (v := (.ptr 3 0)) (cK (B := some ⟨125, (List.replicate 4 0).map (eI .u64)⟩) aT rfl rfl) ?_
  refine zn <| AB.seq <| AB.seq ?_
  obtain ⟨q, h_1, hr⟩ := aN hr
  refine AB.rw <| zw (v := (.agg (vm.map (eI .u64)))) (aI rfl (b6 (E := (eI .u64)) (l := vm) aT rfl rfl (aP h_1))) <| zw (v := (.agg ([0, 0, 0, 0].map (eI .u64)))) (cI rfl (rW aT bV rfl)) <| zw (a9 rfl rfl (pO _ _ aT bV rfl dep (aP h_1) rfl)) <| zn ?_
  refine zk hr rfl (fun h2 hr => ?_) (fun h2 hr => ?_)
  · refine zq <| zw (v := (.agg ([0, 0, 0, 0].map (eI .u64)))) (cI rfl (rW aT bV rfl)) <| zt (aU rfl rfl (eQ (E := (eI .u64)) (l := List.replicate 4 0) aT rfl rfl (fun _ => rfl) rfl rfl rfl)) ?_
    refine zn <| AB.ret <| Ex.then_ret_mk ?_
    obtain rfl := sj hr
    exact bU (r1 := (.agg ([0, 0, 0, 0].map (eI .u64)))) (nH Tryd.results86 (jU rfl (b6 (E := (eI .u64)) (l := [0, 0, 0, 0]) aT rfl rfl rfl))) (zG [])
  · refine AB.skip <| Ex.then_mk <| AB.seq ?_
    obtain ⟨q_1, h_3, hr⟩ := aN hr
    obtain ⟨q_2, h_4, hr⟩ := aN hr
    obtain ⟨x19, h_5, hr⟩ := aN hr
    obtain ⟨q_3, h_6, hr⟩ := aN hr
    obtain ⟨q_4, h_7, hr⟩ := aN hr
    refine AB.rw <| zw (v := (.agg (va.map (eI .u64)))) (aI rfl (b6 (E := (eI .u64)) (l := va) aT rfl rfl (aP h_3))) <| zw (v := (.agg (b.map (eI .u64)))) (aI rfl (b6 (E := (eI .u64)) (l := b) aT rfl rfl (aP h_4))) <| wC rfl (Vm.Fn.pure (aHu N va b x19 h_5) zR zR) <| zm rfl <| iW rfl rfl <| iW rfl rfl <| zh (v := (.ptr 4 0)) (cK (B := some ⟨125, (List.replicate 4 0).map (eI .u64)⟩) aT rfl rfl) ?_
    refine zh (v := (.ptr 5 0)) (cK (B := some ⟨125, (List.replicate 4 0).map (eI .u64)⟩) aT rfl rfl) ?_
    refine zt (aU rfl rfl (eQ (E := (eI .u64)) (l := List.replicate 4 0) aT rfl rfl (fun _ => rfl) rfl (aP h_6) rfl)) ?_
    refine zt (aU rfl rfl (eQ (E := (eI .u64)) (l := List.replicate 4 0) aT rfl rfl (fun _ => rfl) rfl (aP h_7) rfl)) ?_
    refine zn ?_
    refine AB.seq_g fun K1 hK1 hG1 => ?_
    have J1 : ∀ (l1 : List Int), sW N l1 = some r → K1 (aV 33 [(6, (.ptr 0 0)), (10, (.ptr 1 0))]) [some ⟨125, (List.replicate 4 0).map (eI .u64)⟩, some ⟨125, l1.map (eI .u64)⟩] := by
      intro l1 hr
      unfold sW at hr
      refine hK1 _ _ <| AB.seq ?_
      obtain ⟨q_5, h_8, hr⟩ := aN hr
      refine AB.rw <| zw (v := (.agg (l1.map (eI .u64)))) (aI rfl (b6 (E := (eI .u64)) (l := l1) aT rfl rfl (aP h_8))) <| zt (aU rfl rfl (eQ (E := (eI .u64)) (l := List.replicate 4 0) aT rfl rfl (fun _ => rfl) rfl (aP h_8) rfl)) ?_
      refine zn <| AB.ret ?_
      obtain rfl := sj hr
      exact bU (r1 := (.agg (l1.map (eI .u64)))) (nH Tryd.results86 (jU rfl (b6 (E := (eI .u64)) (l := l1) aT rfl rfl (aP h_8)))) (zG [])
    obtain ⟨x25, h_9, hr⟩ := aN hr
    obtain ⟨x28, h_11, hr⟩ := aN hr
    obtain ⟨q_6, h_13, hr⟩ := aN hr
    obtain ⟨q_7, h_14, hr⟩ := aN hr
    refine AB.rd (dQ [92, 93]) (dQ []) mixed <| zp 14 0 rfl (bH (v := (.agg (x19.1.map (eI .u64)))) (aI rfl (b6 (E := (eI .u64)) (l := x19.1) aT rfl rfl (aP h_6)))) <| zp 13 1 rfl (bH (v := (.agg (vm.map (eI .u64)))) (aI rfl (b6 (E := (eI .u64)) (l := vm) aT rfl rfl (aP h_1)))) <| DrawG.pick (n := 12) (i := 2) (by decide +kernel) rfl (gU (fun _ => (Vm.Fn.pure (vY N x19.1 vm x25 h_9) zR zR)) rfl (sv (bN rfl c5))) <| zp 11 3 rfl (bH (v := (.agg (x19.2.map (eI .u64)))) (aI rfl (b6 (E := (eI .u64)) (l := x19.2) aT rfl rfl (aP h_7)))) ?_
    refine zp 10 4 rfl (bH (v := (.agg (vm.map (eI .u64)))) (aI rfl (b6 (E := (eI .u64)) (l := vm) aT rfl rfl (aP h_1)))) <| DrawG.pick (n := 9) (i := 5) (by decide +kernel) rfl (gU (fun _ => (Vm.Fn.pure (aCX N x25 x19.2 vm x28 h_11) zR zR)) rfl (sv (bN rfl c5))) <| dO 8 6 rfl rfl <| zp 7 7 rfl (bH (v := (.agg (x28.1.map (eI .u64)))) (rF rfl rfl)) <| zp 6 8 rfl (bH (v := (.agg (x28.2.1.map (eI .u64)))) (rF rfl rfl)) <| zp 5 9 rfl (bH (v := (eB x28.2.2)) (rF rfl rfl)) <| DrawG.fork (n := 4) [10, 11] (by decide +kernel) (by decide) ?_
    refine (Fork.cons rfl (gS (v := (.ptr 6 0)) (h' := [some ⟨125, va.map (eI .u64)⟩, some ⟨125, b.map (eI .u64)⟩, some ⟨125, vm.map (eI .u64)⟩, some ⟨125, (List.replicate 4 0).map (eI .u64)⟩, some ⟨125, x19.1.map (eI .u64)⟩, some ⟨125, x19.2.map (eI .u64)⟩, some ⟨125, (List.replicate 4 0).map (eI .u64)⟩]) (sv (nS aT rfl rfl rfl))) ?_ (Fork.cons rfl (gS (v := (.ptr 6 0)) (h' := [some ⟨125, va.map (eI .u64)⟩, some ⟨125, b.map (eI .u64)⟩, some ⟨125, vm.map (eI .u64)⟩, some ⟨125, (List.replicate 4 0).map (eI .u64)⟩, some ⟨125, x19.1.map (eI .u64)⟩, some ⟨125, x19.2.map (eI .u64)⟩, some ⟨125, (List.replicate 4 0).map (eI .u64)⟩]) (sv (nS aT rfl rfl rfl))) ?_ Fork.nil))
    · refine zp 3 11 rfl (bH (v := (.ptr 7 0)) (h' := [some ⟨125, va.map (eI .u64)⟩, some ⟨125, b.map (eI .u64)⟩, some ⟨125, vm.map (eI .u64)⟩, some ⟨125, (List.replicate 4 0).map (eI .u64)⟩, some ⟨125, x19.1.map (eI .u64)⟩, some ⟨125, x19.2.map (eI .u64)⟩, some ⟨125, (List.replicate 4 0).map (eI .u64)⟩, some ⟨125, (List.replicate 4 0).map (eI .u64)⟩]) (nS aT rfl rfl rfl)) ?_
      refine zp 2 12 rfl (jV (h' := [some ⟨125, va.map (eI .u64)⟩, some ⟨125, b.map (eI .u64)⟩, some ⟨125, vm.map (eI .u64)⟩, some ⟨125, (List.replicate 4 0).map (eI .u64)⟩, some ⟨125, x19.1.map (eI .u64)⟩, some ⟨125, x19.2.map (eI .u64)⟩, some ⟨125, x28.1.map (eI .u64)⟩, some ⟨125, (List.replicate 4 0).map (eI .u64)⟩]) (aU rfl rfl (eQ (E := (eI .u64)) (l := List.replicate 4 0) aT rfl rfl (fun _ => rfl) rfl (aP h_13) rfl))) ?_
      refine zp 1 13 rfl (jV (h' := [some ⟨125, va.map (eI .u64)⟩, some ⟨125, b.map (eI .u64)⟩, some ⟨125, vm.map (eI .u64)⟩, some ⟨125, (List.replicate 4 0).map (eI .u64)⟩, some ⟨125, x19.1.map (eI .u64)⟩, some ⟨125, x19.2.map (eI .u64)⟩, some ⟨125, x28.1.map (eI .u64)⟩, some ⟨125, x28.2.1.map (eI .u64)⟩]) (aU rfl rfl (eQ (E := (eI .u64)) (l := List.replicate 4 0) aT rfl rfl (fun _ => rfl) rfl (aP h_14) rfl))) <| nL 0 14 rfl rfl <| DrawG.nil (by decide +kernel) <| Ex.then_mk ?_
      exact hG1 _ _ _ _ (zG [3, 7]) (J1 x28.2.1 hr)
    · refine zp 3 10 rfl (bH (v := (.ptr 7 0)) (h' := [some ⟨125, va.map (eI .u64)⟩, some ⟨125, b.map (eI .u64)⟩, some ⟨125, vm.map (eI .u64)⟩, some ⟨125, (List.replicate 4 0).map (eI .u64)⟩, some ⟨125, x19.1.map (eI .u64)⟩, some ⟨125, x19.2.map (eI .u64)⟩, some ⟨125, (List.replicate 4 0).map (eI .u64)⟩, some ⟨125, (List.replicate 4 0).map (eI .u64)⟩]) (nS aT rfl rfl rfl)) ?_
      refine zp 2 12 rfl (jV (h' := [some ⟨125, va.map (eI .u64)⟩, some ⟨125, b.map (eI .u64)⟩, some ⟨125, vm.map (eI .u64)⟩, some ⟨125, (List.replicate 4 0).map (eI .u64)⟩, some ⟨125, x19.1.map (eI .u64)⟩, some ⟨125, x19.2.map (eI .u64)⟩, some ⟨125, (List.replicate 4 0).map (eI .u64)⟩, some ⟨125, x28.1.map (eI .u64)⟩]) (aU rfl rfl (eQ (E := (eI .u64)) (l := List.replicate 4 0) aT rfl rfl (fun _ => rfl) rfl (aP h_13) rfl))) ?_
      refine zp 1 13 rfl (jV (h' := [some ⟨125, va.map (eI .u64)⟩, some ⟨125, b.map (eI .u64)⟩, some ⟨125, vm.map (eI .u64)⟩, some ⟨125, (List.replicate 4 0).map (eI .u64)⟩, some ⟨125, x19.1.map (eI .u64)⟩, some ⟨125, x19.2.map (eI .u64)⟩, some ⟨125, x28.2.1.map (eI .u64)⟩, some ⟨125, x28.1.map (eI .u64)⟩]) (aU rfl rfl (eQ (E := (eI .u64)) (l := List.replicate 4 0) aT rfl rfl (fun _ => rfl) rfl (aP h_14) rfl))) <| nL 0 14 rfl rfl <| DrawG.nil (by decide +kernel) <| Ex.then_mk ?_
      exact hG1 _ _ _ _ (zG [3, 6]) (J1 x28.2.1 hr)
theorem zT (N : Nat) (va : List Int) (b : List Int) (r : (List Int)) (hr : sE N va b = some r) :
    Vm.Fn Tryd.prog 79 [] [(.agg (va.map (eI .u64))), (.agg (b.map (eI .u64)))] (.agg (r.map (eI .u64))) [] := by
  refine zf Tryd.func79 Tryd.ntmps79 ?_
  unfold sE at hr
  refine zq <| zh (v := (.ptr 0 0)) (b8 rfl (d9 (fun _ => rfl)) rfl rfl) ?_
  refine zh (v := (.ptr 1 0)) (b8 rfl (d9 (fun _ => rfl)) rfl rfl) ?_
  refine zh (v := (.ptr 2 0)) (cK (B := some ⟨125, (List.replicate 4 0).map (eI .u64)⟩) aT rfl rfl) ?_
  refine zn <| AB.seq ?_
  obtain ⟨q, h_1, hr⟩ := aN hr
  obtain ⟨q_1, h_2, hr⟩ := aN hr
  obtain ⟨x7, h_3, hr⟩ := aN hr
  obtain ⟨x8, h_5, hr⟩ := aN hr
  obtain ⟨q_2, h_7, hr⟩ := aN hr
  have hc4 : Vm.Fn Tryd.prog 84 [some ⟨125, va.map (eI .u64)⟩, some ⟨125, b.map (eI .u64)⟩, some ⟨125, (List.replicate 4 0).map (eI .u64)⟩] [] (.agg (x7.map (eI .u64))) [some ⟨125, va.map (eI .u64)⟩, some ⟨125, b.map (eI .u64)⟩, some ⟨125, (List.replicate 4 0).map (eI .u64)⟩] := (Vm.Fn.pure (aAl N x7 h_3) rfl zR)
  have hc6 : Vm.Fn Tryd.prog 86 [some ⟨125, va.map (eI .u64)⟩, some ⟨125, b.map (eI .u64)⟩, some ⟨125, (List.replicate 4 0).map (eI .u64)⟩] [(.agg (va.map (eI .u64))), (.agg (b.map (eI .u64))), (.agg (x7.map (eI .u64)))] (.agg (x8.map (eI .u64))) [some ⟨125, va.map (eI .u64)⟩, some ⟨125, b.map (eI .u64)⟩, some ⟨125, (List.replicate 4 0).map (eI .u64)⟩] := (Vm.Fn.pure (aE6 N va b x7 x8 h_5) zR zR)
  refine AB.rg (Env.add (Env.one mixed hc4 fS (fun _ _ => rfl)) hc6 fS (fun _ _ => rfl) (fun _ h => h)) (fun _ => by show dR fS _ = true; decide +kernel) <| tS (v := (.agg (va.map (eI .u64)))) (sv (aI rfl (b6 (E := (eI .u64)) (l := va) aT rfl rfl (aP h_1)))) <| tS (v := (.agg (b.map (eI .u64)))) (sv (aI rfl (b6 (E := (eI .u64)) (l := b) aT rfl rfl (aP h_2)))) <| tS (v := (.agg (x7.map (eI .u64)))) (h' := [some ⟨125, va.map (eI .u64)⟩, some ⟨125, b.map (eI .u64)⟩, some ⟨125, (List.replicate 4 0).map (eI .u64)⟩]) (sv (bN rfl (Env.add_M rfl Env.one_O))) ?_
  refine tS (v := (.agg (x8.map (eI .u64)))) (h' := [some ⟨125, va.map (eI .u64)⟩, some ⟨125, b.map (eI .u64)⟩, some ⟨125, (List.replicate 4 0).map (eI .u64)⟩]) (sv (bN rfl Env.add_O)) <| tN (h' := [some ⟨125, va.map (eI .u64)⟩, some ⟨125, b.map (eI .u64)⟩, some ⟨125, x8.map (eI .u64)⟩]) (sv (aU rfl rfl (eQ (E := (eI .u64)) (l := List.replicate 4 0) aT rfl rfl (fun _ => rfl) rfl (aP h_7) rfl))) <| OpsTo.nil <| Ex.then_mk <| AB.ret ?_
  obtain rfl := sj hr
  exact bU (r1 := (.agg (x8.map (eI .u64)))) (nH Tryd.results79 (jU rfl (b6 (E := (eI .u64)) (l := x8) aT rfl rfl (aP h_7)))) (zG [])
end Go.Proofs.YtagblcjgjlihaaaDoor
