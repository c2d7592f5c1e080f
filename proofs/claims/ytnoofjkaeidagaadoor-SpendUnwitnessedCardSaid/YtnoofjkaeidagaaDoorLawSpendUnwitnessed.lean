/-
  THE LAW SpendUnwitnessed: for all arguments the law that states that messages do not depend on witnesses returns true, never panics, and leaves its input as it was. The two listed variables, sha.k and sha.initial, are laid as the pruned copy of the project has them.
-/
import Derived.Test.YtnoofjkaeidagaaDoorQSpendUnwitnessed7
set_option linter.unusedSimpArgs false
set_option linter.unusedVariables false
namespace Go.Proofs.YtnoofjkaeidagaaDoor
open Go Go.Vm
open Go.ChangeShapes Go.WideShapes Go.ChangeAt Go.RowKit

set_option maxRecDepth 100000 in
theorem spendUnwitnessed_contract (H : Type) (enc : TypeId × Value → H) (W : World) (base : Nat) (args : Array Value) (ds gs : List (DataW H)) (before : List MemPlace)
    (hval : ∀ (j : Nat) t v, Tryd.f4.params[j]? = some t → args[j]? = some v → Value.okWide Tryd.prog W .any base t v)
    (hW : DataW.Whole enc Tryd.prog Tryd.f4.params.toList Rows.spendUnwitnessedSpec.vars false W args.toList ds gs before) (hL : laidMetH Tryd.prog Rows.spendUnwitnessedRow.laid W) :
    Calls Tryd.prog 4 args W fun e W' => ∃ v, e = .returned v ∧ Rows.spendUnwitnessedSpec.post enc Tryd.prog Tryd.f4 false true false false W args v W' := by
  have hW' := hW
  obtain ⟨p, q, hA0, hV, rfl, hfz, hnd⟩ := hW
  have hA : DataW.TrodAll enc Tryd.prog W 0 (fun _ => true) true Tryd.f4.params.toList args.toList ds p := hA0
  rw [Tryd.params4] at hA hval
  have hA' := hA
  obtain ⟨v0, vs0, d0, ds0, p0, q0, hargs0, rfl, rfl, h0, r0⟩ := trodAll_cons hA
  obtain ⟨v1, vs1, d1, ds1, p1, q1, hargs1, rfl, rfl, h1, r1⟩ := trodAll_cons r0
  obtain ⟨v2, vs2, d2, ds2, p2, q2, hargs2, rfl, rfl, h2, r2⟩ := trodAll_cons r1
  obtain ⟨hz, rfl, rfl⟩ := trodAll_nil r2
  obtain rfl : args = #[v0, v1, v2] := by
    subst hz
    subst hargs2
    subst hargs1
    apply Array.ext'
    exact hargs0
  obtain ⟨rfl, rfl⟩ := trodVars_none hV
  obtain ⟨a0, w0, g0⟩ := openV_struct Tryd.underlying26 opens_api_Tx (hval 0 26 v0 rfl rfl) h0
  obtain ⟨a1, w1, g1⟩ := openV_struct Tryd.underlying29 opens_api_Output (hval 1 29 v1 rfl rfl) h1
  obtain ⟨a2, w2, g2⟩ := openV_int Tryd.underlying5 (hval 2 5 v2 rfl rfl) h2
  clear hA0
  have hvs : VCells NoX [] W [.agg (C_api_Tx a0), .agg (C_api_Output a1), eI .u8 a2] [v0, v1, v2] := (VCells_cons g0 (VCells_cons g1 (VCells_cons g2 VCells_nil)))
  have hfn := (law10_SpendUnwitnessed_ok NN a0.Version a0.Inputs a0.Outputs a0.Lock a1.Value a1.Script a2 true (SpendUnwitnessed_true _ _ _ _ _ _ _ (fun x hx => (w0.2.1 x hx).1.1.1) (⟨fun x hx => byt_of_wf (w0.2.1 x hx).1.1.2, fun o ho => byt_of_wf (w0.2.2.1 o ho).2⟩) (byt_of_wf w1.2))).toP
  refine (calls_of_pfn (vs := [v0, v1, v2]) Tryd.func4 rfl (by kernel_rfl) hfn (globs hL) hvs).mono fun e W' ⟨he, bel⟩ => ?_
  subst he
  exact ⟨_, rfl, _, _, _, [], _, [], hW', trodAll_mk1 (shut_bool Tryd.underlying4 _), below_trodAll laidOut bel (readable_all (by kernel_rfl)) hA', rfl, bel.frame _, fun h => by cases h⟩

theorem spendUnwitnessed_met (os : Os) : laidMet Tryd.prog Rows.spendUnwitnessedRow.laid ((laidWorld os).forCall (fun _ _ => 0) ⟨#[], #[.agg #[.int .u32 0, .slice none 0 0, .slice none 0 0, .int .u32 0], .agg #[.int .i64 0, .slice none 0 0], .int .u8 0], []⟩).memory :=
  laidMet_of_run' 8 (by kernel_rfl) (by kernel_rfl)
theorem spendUnwitnessed_reads (os : Os) {H : Type} (enc : TypeId × Value → H) : ∃ places, DataW.whole enc Tryd.prog ((laidWorld os).forCall (fun _ _ => 0) ⟨#[], #[.agg #[.int .u32 0, .slice none 0 0, .slice none 0 0, .int .u32 0], .agg #[.int .i64 0, .slice none 0 0], .int .u8 0], []⟩).memory Tryd.f4.params.toList Rows.spendUnwitnessedSpec.vars false (#[.agg #[.int .u32 0, .slice none 0 0, .slice none 0 0, .int .u32 0], .agg #[.int .i64 0, .slice none 0 0], .int .u8 0] : Array Value).toList 8 = some ([.agg [.lit (.int .u32 0), .nil, .nil, .lit (.int .u32 0)], .agg [.lit (.int .i64 0), .nil], .lit (.int .u8 0)], [], places) :=
  ⟨[], by kernel_rfl⟩

set_option maxRecDepth 100000 in
theorem spendUnwitnessed_lifted (os : Os) (started : os.Started) (H : Type) (enc : TypeId × Value → H) (F : Stop.Interp) :
    ReturnsInHanded {} Tryd.checked os 4 .any ((OpenSpec.ofChange Rows.spendUnwitnessedSpec).preRow enc Tryd.prog Tryd.f4 Rows.spendUnwitnessedRow.domain false Rows.spendUnwitnessedRow.laid) (((OpenSpec.ofChange Rows.spendUnwitnessedSpec).at F).post enc Tryd.prog Tryd.f4 false true false false) := by
  obtain ⟨places, hx⟩ := spendUnwitnessed_reads os enc
  refine returnsInHanded_of_row (C := Tryd.checked) (s := OpenSpec.ofChange Rows.spendUnwitnessedSpec) own started (by kernel_rfl) Tryd.func4
    (witness_row_at (enc := enc) (C := Tryd.checked) false (laidWorld os) #[.agg #[.int .u32 0, .slice none 0 0, .slice none 0 0, .int .u32 0], .agg #[.int .i64 0, .slice none 0 0], .int .u8 0] rfl (by kernel_rfl) (by kernel_rfl) (by kernel_rfl)
      (OpenSpec.preRow_of_cond 8 hx (by kernel_rfl) (fun k hk => by cases hk) (by kernel_rfl) (spendUnwitnessed_met os))) ?_
  intro W base args ds gs before hval hW _ _ _ hL _ _
  exact spendUnwitnessed_contract H enc W base args ds gs before hval hW hL

theorem spendUnwitnessed_said : Rows.SpendUnwitnessedSaid :=
  OpenClaim.holds_of_cond 4 Tryd.f4 rfl rfl rfl rfl rfl rfl rfl ⟨rfl, rfl, rfl, rfl, rfl⟩ rfl rfl rfl rfl rfl (by kernel_rfl) Tryd.func4 (by kernel_rfl)
    (of_decide_eq_true (by kernel_rfl)) (by unfold Func.isWrapper; first | (rw [if_pos (by decide +kernel)]; kernel_rfl) | (rw [if_neg (by decide +kernel)]; exact ⟨rfl, rfl⟩))
    (fun os started H enc _ F => by rw [OpenClaim.pre_eq_preRow]; exact spendUnwitnessed_lifted os started H enc F)

theorem spendUnwitnessed_plain (f : FuncId) (fn : Func) (hf : Tryd.pinned.checked.prog.funcNamed "lightclient/lightclientlaw10.SpendUnwitnessed" = some f) (hfn : Tryd.pinned.checked.prog.funcs[f]? = some fn) :
    false = Tryd.pinned.checked.prog.looks [] ∧ ∀ (j : Nat) t, fn.params[j]? = some t → Tryd.pinned.checked.prog.wantsStandIn t = false := by
  obtain rfl : f = 4 := Option.some.inj ((show Tryd.prog.funcNamed "lightclient/lightclientlaw10.SpendUnwitnessed" = some 4 by kernel_rfl).symm.trans hf) |>.symm
  obtain rfl : fn = Tryd.f4 := (Option.some.inj (Tryd.func4.symm.trans hfn)).symm
  refine ⟨by kernel_rfl, fun j t ht => ?_⟩
  rw [Tryd.params4] at ht
  have hm : t ∈ [26, 29, 5] := by simpa using Array.mem_of_getElem? ht
  have hall : ∀ u ∈ [26, 29, 5], Tryd.prog.wantsStandIn u = false := by
    intro u hu
    have : ([26, 29, 5].all fun u => !(Tryd.prog.wantsStandIn u)) = true := by kernel_rfl
    simpa using List.all_eq_true.1 this u hu
  exact hall t hm

theorem spendUnwitnessed_holds : Rows.SpendUnwitnessedCardSaid :=
  Claim7.holds_tied_plain_at .later [] _ _ _ _ spendUnwitnessed_said (fun _ h => by cases h) (by kernel_rfl) (fun _ h => by cases h) spendUnwitnessed_row_tie rfl ⟨rfl, rfl⟩ (by kernel_rfl) rfl spendUnwitnessed_plain (by kernel_rfl)
end Go.Proofs.YtnoofjkaeidagaaDoor
