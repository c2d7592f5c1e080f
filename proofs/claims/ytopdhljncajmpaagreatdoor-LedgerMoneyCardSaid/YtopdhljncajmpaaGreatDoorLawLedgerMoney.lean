/-
  THE LAW LedgerMoney: for all arguments the law that states that no ledger creates money: what the coins add up to grows by no more than the subsidy returns true, never panics, and leaves its input as it was. The two listed variables, sha.k and sha.initial, are laid as the pruned copy of the project has them.
-/
import Derived.Test.YtopdhljncajmpaaGreatDoorQLedgerMoney2
import Derived.Test.YtopdhljncajmpaaGreatDoorQLedgerMoney4
import Derived.Test.YtopdhljncajmpaaGreatDoorQLedgerMoney7
import Derived.Test.YtopdhljncajmpaaGreatDoorQLedgerMoney18
set_option linter.unusedSimpArgs false
set_option linter.unusedVariables false
set_option maxHeartbeats 8000000
namespace Go.Proofs.YtopdhljncajmpaaGreatDoor
open Go Go.Vm
open Go.ChangeShapes Go.WideShapes Go.ChangeAt Go.RowKit

set_option maxRecDepth 100000 in
theorem ledgerMoney_contract (H : Type) (enc : TypeId × Value → H) (W : World) (base : Nat) (args : Array Value) (ds gs : List (DataW H)) (before : List MemPlace)
    (hval : ∀ (j : Nat) t v, Tryz.f5.params[j]? = some t → args[j]? = some v → Value.okWide Tryz.prog W .any base t v)
    (hW : DataW.Whole enc Tryz.prog Tryz.f5.params.toList Rows.ledgerMoneySpec.vars false W args.toList ds gs before) (hL : laidMetH Tryz.prog Rows.ledgerMoneyRow.laid W) :
    Calls Tryz.prog 5 args W fun e W' => ∃ v, e = .returned v ∧ Rows.ledgerMoneySpec.post enc Tryz.prog Tryz.f5 false true false false W args v W' := by
  have hW' := hW
  obtain ⟨p, q, hA0, hV, rfl, hfz, hnd⟩ := hW
  have hA : DataW.TrodAll enc Tryz.prog W 0 (fun _ => true) true Tryz.f5.params.toList args.toList ds p := hA0
  rw [Tryz.params5] at hA hval
  have hA' := hA
  obtain ⟨v0, vs0, d0, ds0, p0, q0, hargs0, rfl, rfl, h0, r0⟩ := trodAll_cons hA
  obtain ⟨v1, vs1, d1, ds1, p1, q1, hargs1, rfl, rfl, h1, r1⟩ := trodAll_cons r0
  obtain ⟨hz, rfl, rfl⟩ := trodAll_nil r1
  obtain rfl : args = #[v0, v1] := by
    subst hz
    subst hargs1
    apply Array.ext'
    exact hargs0
  obtain ⟨rfl, rfl⟩ := trodVars_none hV
  obtain ⟨a0, w0, g0⟩ := aSY Tryz.underlying5 (hval 0 5 v0 rfl rfl) h0
  obtain ⟨a1, w1, g1⟩ := aRc Tryz.underlying22 (aOQ Tryz.underlying5) (by kernel_rfl) (by decide) (aUV (E := (eI .u8)) fun _ => rfl) (hval 1 22 v1 rfl rfl) h1
  clear hA0
  have hvs : VCells NoX [] W [eI .u8 a0, eL 1 (eI .u8) a1] [v0, v1] := (uP g0 (uP g1 aBG))
  have hfn := (aIk (show rS NN a0 a1 = some true from (aMe (show 70000 ≤ NN by decide) aTI (aUi w0) (aTs w1)))).toP
  refine (aPU (vs := [v0, v1]) Tryz.func5 rfl (by kernel_rfl) hfn (aZg hL) hvs).mono fun e W' ⟨he, bel⟩ => ?_
  subst he
  exact ⟨_, rfl, _, _, _, [], _, [], hW', trodAll_mk1 (shut_bool Tryz.underlying4 _), aJA aWO bel (aP0 (by kernel_rfl)) hA', rfl, bel.frame _, fun h => by cases h⟩

theorem ledgerMoney_met (os : Os) : laidMet Tryz.prog Rows.ledgerMoneyRow.laid ((aJX os).forCall (fun _ _ => 0) ⟨#[], #[.int .u8 0, .slice none 0 0], []⟩).memory :=
  laidMet_of_run' 8 (by kernel_rfl) (by kernel_rfl)
theorem ledgerMoney_reads (os : Os) {H : Type} (enc : TypeId × Value → H) : ∃ places, DataW.whole enc Tryz.prog ((aJX os).forCall (fun _ _ => 0) ⟨#[], #[.int .u8 0, .slice none 0 0], []⟩).memory Tryz.f5.params.toList Rows.ledgerMoneySpec.vars false (#[.int .u8 0, .slice none 0 0] : Array Value).toList 8 = some ([.lit (.int .u8 0), .nil], [], places) :=
  ⟨[], by kernel_rfl⟩

set_option maxRecDepth 100000 in
theorem ledgerMoney_lifted (os : Os) (started : os.Started) (H : Type) (enc : TypeId × Value → H) (F : Stop.Interp) :
    ReturnsInHanded {} Tryz.checked os 5 .any ((OpenSpec.ofChange Rows.ledgerMoneySpec).preRow enc Tryz.prog Tryz.f5 Rows.ledgerMoneyRow.domain false Rows.ledgerMoneyRow.laid) (((OpenSpec.ofChange Rows.ledgerMoneySpec).at F).post enc Tryz.prog Tryz.f5 false true false false) := by
  obtain ⟨places, hx⟩ := ledgerMoney_reads os enc
  refine returnsInHanded_of_row (C := Tryz.checked) (s := OpenSpec.ofChange Rows.ledgerMoneySpec) own started (by kernel_rfl) Tryz.func5
    (witness_row_at (enc := enc) (C := Tryz.checked) false (aJX os) #[.int .u8 0, .slice none 0 0] rfl (by kernel_rfl) (by kernel_rfl) (by kernel_rfl)
      (OpenSpec.preRow_of_cond 8 hx (by kernel_rfl) (fun k hk => by cases hk) (by kernel_rfl) (ledgerMoney_met os))) ?_
  intro W base args ds gs before hval hW _ _ _ hL _ _
  exact ledgerMoney_contract H enc W base args ds gs before hval hW hL

theorem gt_and {a b : Bool} (h : a = true) (k : b = true) : (a && b) = true := by rw [h, k]; rfl
set_option maxRecDepth 100000 in
theorem ledgerMoney_closed : joinedFacts Tryz.prog 5 Tryz.f5 (OpenSpec.ofChange Rows.ledgerMoneySpec).bare Rows.ledgerMoneyRow = true := by
  unfold joinedFacts
  repeat' (with_reducible refine gt_and ?_ ?_)
  all_goals (as_aux_lemma => kernel_rfl)
theorem ledgerMoney_said : Rows.LedgerMoneySaid :=
  OpenClaim.holds_of_cond 5 Tryz.f5 rfl rfl rfl rfl rfl rfl rfl ⟨rfl, rfl, rfl, rfl, rfl⟩ rfl rfl rfl rfl rfl (by kernel_rfl) Tryz.func5 ledgerMoney_closed
    (of_decide_eq_true (by kernel_rfl)) (by unfold Func.isWrapper; first | (rw [if_pos (by decide +kernel)]; kernel_rfl) | (rw [if_neg (by decide +kernel)]; exact ⟨rfl, rfl⟩))
    (fun os started H enc _ F => by rw [OpenClaim.pre_eq_preRow]; exact ledgerMoney_lifted os started H enc F)

theorem ledgerMoney_plain (f : FuncId) (fn : Func) (hf : Tryz.pinned.checked.prog.funcNamed "lightclient/lightclientlaw23.LedgerMoney" = some f) (hfn : Tryz.pinned.checked.prog.funcs[f]? = some fn) :
    false = Tryz.pinned.checked.prog.looks [] ∧ ∀ (j : Nat) t, fn.params[j]? = some t → Tryz.pinned.checked.prog.wantsStandIn t = false := by
  obtain rfl : f = 5 := Option.some.inj ((show Tryz.prog.funcNamed "lightclient/lightclientlaw23.LedgerMoney" = some 5 by kernel_rfl).symm.trans hf) |>.symm
  obtain rfl : fn = Tryz.f5 := (Option.some.inj (Tryz.func5.symm.trans hfn)).symm
  refine ⟨by kernel_rfl, fun j t ht => ?_⟩
  rw [Tryz.params5] at ht
  have hm : t ∈ [5, 22] := by simpa using Array.mem_of_getElem? ht
  have hall : ∀ u ∈ [5, 22], Tryz.prog.wantsStandIn u = false := by
    intro u hu
    have : ([5, 22].all fun u => !(Tryz.prog.wantsStandIn u)) = true := by kernel_rfl
    simpa using List.all_eq_true.1 this u hu
  exact hall t hm

theorem ledgerMoney_holds : Rows.LedgerMoneyCardSaid :=
  Claim7.holds_tied_plain_at .later [] _ _ _ _ ledgerMoney_said (fun _ h => by cases h) (by kernel_rfl) (fun _ h => by cases h) ledgerMoney_row_tie rfl ⟨rfl, rfl⟩ (by kernel_rfl) rfl ledgerMoney_plain (by kernel_rfl)
end Go.Proofs.YtopdhljncajmpaaGreatDoor
