/-
  THE LAW SpendInputs: for all arguments the law that states that the program and the reference answer alike whether an input may spend a coin returns true, never panics, and leaves its input as it was. The two listed variables, sha.k and sha.initial, are laid as the pruned copy of the project has them.
-/
import Derived.Test.YtbjiaghljpoliaaGreatDoorQSpendInputs8
set_option linter.unusedSimpArgs false
set_option linter.unusedVariables false
namespace Go.Proofs.YtbjiaghljpoliaaGreatDoor
open Go Go.Vm
open Go.ChangeShapes Go.WideShapes Go.ChangeAt Go.RowKit

abbrev spendInputs_args : Array Value := #[.agg #[.int .u32 0, .slice none 0 0, .slice none 0 0, .int .u32 0], .int .i64 0, .agg #[.int .u8 0, .int .u8 0, .int .u8 0, .int .u8 0, .int .u8 0, .int .u8 0, .int .u8 0, .int .u8 0, .int .u8 0, .int .u8 0, .int .u8 0, .int .u8 0, .int .u8 0, .int .u8 0, .int .u8 0, .int .u8 0, .int .u8 0, .int .u8 0, .int .u8 0, .int .u8 0, .int .u8 0, .int .u8 0, .int .u8 0, .int .u8 0, .int .u8 0, .int .u8 0, .int .u8 0, .int .u8 0, .int .u8 0, .int .u8 0, .int .u8 0, .int .u8 0, .int .u32 0, .int .i64 0, .slice none 0 0, .int .i64 0, .bool false], .int .i64 0]
set_option maxRecDepth 100000 in
theorem spendInputs_contract (H : Type) (enc : TypeId × Value → H) (W : World) (base : Nat) (args : Array Value) (ds gs : List (DataW H)) (before : List MemPlace)
    (hval : ∀ (j : Nat) t v, Tryz.f3.params[j]? = some t → args[j]? = some v → Value.okWide Tryz.prog W .any base t v)
    (hW : DataW.Whole enc Tryz.prog Tryz.f3.params.toList Rows.spendInputsSpec.vars false W args.toList ds gs before) (hL : laidMetH Tryz.prog Rows.spendInputsRow.laid W) :
    Calls Tryz.prog 3 args W fun e W' => ∃ v, e = .returned v ∧ Rows.spendInputsSpec.post enc Tryz.prog Tryz.f3 false true false false W args v W' := by
  have hW' := hW
  obtain ⟨p, q, hA0, hV, rfl, hfz, hnd⟩ := hW
  have hA : DataW.TrodAll enc Tryz.prog W 0 (fun _ => true) true Tryz.f3.params.toList args.toList ds p := hA0
  rw [Tryz.params3] at hA hval
  have hA' := hA
  obtain ⟨v0, vs0, d0, ds0, p0, q0, hargs0, rfl, rfl, h0, r0⟩ := trodAll_cons hA
  obtain ⟨v1, vs1, d1, ds1, p1, q1, hargs1, rfl, rfl, h1, r1⟩ := trodAll_cons r0
  obtain ⟨v2, vs2, d2, ds2, p2, q2, hargs2, rfl, rfl, h2, r2⟩ := trodAll_cons r1
  obtain ⟨v3, vs3, d3, ds3, p3, q3, hargs3, rfl, rfl, h3, r3⟩ := trodAll_cons r2
  obtain ⟨hz, rfl, rfl⟩ := trodAll_nil r3
  obtain rfl : args = #[v0, v1, v2, v3] := by
    subst hz
    subst hargs3
    subst hargs2
    subst hargs1
    apply Array.ext'
    exact hargs0
  obtain ⟨rfl, rfl⟩ := trodVars_none hV
  obtain ⟨a0, w0, g0⟩ := aFX Tryz.underlying26 aKX (hval 0 26 v0 rfl rfl) h0
  obtain ⟨a1, w1, g1⟩ := aKk Tryz.underlying3 (hval 1 3 v1 rfl rfl) h1
  obtain ⟨a2, w2, g2⟩ := aFX Tryz.underlying35 aIV (hval 2 35 v2 rfl rfl) h2
  obtain ⟨a3, w3, g3⟩ := aKk Tryz.underlying3 (hval 3 3 v3 rfl rfl) h3
  clear hA0
  have hvs : VCells w9 [] W [.agg (aBz a0), eI .i64 a1, .agg (iJ a2), eI .i64 a3] [v0, v1, v2, v3] := (kJ g0 (kJ g1 (kJ g2 (kJ g3 sG))))
  have hfn := (aFc (show pF NN a0.Version a0.Inputs a0.Outputs a0.Lock a1 a2.Out.Tx a2.Out.Index a2.Output.Value a2.Output.Script a2.Height a2.Coinbase a3 = some true from (aHc _ _ _ _ _ _ _ _ _ _ _ _ (fun x hx => (w0.2.1 x hx).1.1.1) (⟨fun x hx => aD4 (w0.2.1 x hx).1.1.2, fun o ho => aD4 (w0.2.2.1 o ho).2⟩) (fun x hx w hw => aD4 ((w0.2.1 x hx).2.2 w hw)) (aD4 w2.2.1.2)))).toP
  refine (aMe (vs := [v0, v1, v2, v3]) Tryz.func3 rfl (by kernel_rfl) hfn (aUm hL) hvs).mono fun e W' ⟨he, bel⟩ => ?_
  subst he
  exact ⟨_, rfl, _, _, _, [], _, [], hW', trodAll_mk1 (shut_bool Tryz.underlying4 _), aFv aSs bel (aLk (by kernel_rfl)) hA', rfl, bel.frame _, fun h => by cases h⟩

theorem spendInputs_met (os : Os) : laidMet Tryz.prog Rows.spendInputsRow.laid ((aFD os).forCall (fun _ _ => 0) ⟨#[], spendInputs_args, []⟩).memory :=
  laidMet_of_run' 8 (by kernel_rfl) (by kernel_rfl)
theorem spendInputs_reads (os : Os) {H : Type} (enc : TypeId × Value → H) : ∃ places, DataW.whole enc Tryz.prog ((aFD os).forCall (fun _ _ => 0) ⟨#[], spendInputs_args, []⟩).memory Tryz.f3.params.toList Rows.spendInputsSpec.vars false (spendInputs_args : Array Value).toList 8 = some ([.agg [.lit (.int .u32 0), .nil, .nil, .lit (.int .u32 0)], .lit (.int .i64 0), .agg [.agg [.agg [.lit (.int .u8 0), .lit (.int .u8 0), .lit (.int .u8 0), .lit (.int .u8 0), .lit (.int .u8 0), .lit (.int .u8 0), .lit (.int .u8 0), .lit (.int .u8 0), .lit (.int .u8 0), .lit (.int .u8 0), .lit (.int .u8 0), .lit (.int .u8 0), .lit (.int .u8 0), .lit (.int .u8 0), .lit (.int .u8 0), .lit (.int .u8 0), .lit (.int .u8 0), .lit (.int .u8 0), .lit (.int .u8 0), .lit (.int .u8 0), .lit (.int .u8 0), .lit (.int .u8 0), .lit (.int .u8 0), .lit (.int .u8 0), .lit (.int .u8 0), .lit (.int .u8 0), .lit (.int .u8 0), .lit (.int .u8 0), .lit (.int .u8 0), .lit (.int .u8 0), .lit (.int .u8 0), .lit (.int .u8 0)], .lit (.int .u32 0)], .agg [.lit (.int .i64 0), .nil], .lit (.int .i64 0), .lit (.bool false)], .lit (.int .i64 0)], [], places) :=
  ⟨[], by kernel_rfl⟩

set_option maxRecDepth 100000 in
theorem spendInputs_lifted (os : Os) (started : os.Started) (H : Type) (enc : TypeId × Value → H) (F : Stop.Interp) :
    ReturnsInHanded {} Tryz.checked os 3 .any ((OpenSpec.ofChange Rows.spendInputsSpec).preRow enc Tryz.prog Tryz.f3 Rows.spendInputsRow.domain false Rows.spendInputsRow.laid) (((OpenSpec.ofChange Rows.spendInputsSpec).at F).post enc Tryz.prog Tryz.f3 false true false false) := by
  obtain ⟨places, hx⟩ := spendInputs_reads os enc
  refine returnsInHanded_of_row (C := Tryz.checked) (s := OpenSpec.ofChange Rows.spendInputsSpec) own started (by kernel_rfl) Tryz.func3
    (witness_row_at (enc := enc) (C := Tryz.checked) false (aFD os) spendInputs_args rfl (by kernel_rfl) (by kernel_rfl) (by kernel_rfl)
      (OpenSpec.preRow_of_cond 8 hx (by kernel_rfl) (fun k hk => by cases hk) (by kernel_rfl) (spendInputs_met os))) ?_
  intro W base args ds gs before hval hW _ _ _ hL _ _
  exact spendInputs_contract H enc W base args ds gs before hval hW hL

theorem spendInputs_said : Rows.SpendInputsSaid :=
  OpenClaim.holds_of_cond 3 Tryz.f3 rfl rfl rfl rfl rfl rfl rfl ⟨rfl, rfl, rfl, rfl, rfl⟩ rfl rfl rfl rfl rfl (by kernel_rfl) Tryz.func3 (by kernel_rfl)
    (of_decide_eq_true (by kernel_rfl)) (by unfold Func.isWrapper; first | (rw [if_pos (by decide +kernel)]; kernel_rfl) | (rw [if_neg (by decide +kernel)]; exact ⟨rfl, rfl⟩))
    (fun os started H enc _ F => by rw [OpenClaim.pre_eq_preRow]; exact spendInputs_lifted os started H enc F)

theorem spendInputs_plain (f : FuncId) (fn : Func) (hf : Tryz.pinned.checked.prog.funcNamed "lightclient/lightclientlaw10.SpendInputs" = some f) (hfn : Tryz.pinned.checked.prog.funcs[f]? = some fn) :
    false = Tryz.pinned.checked.prog.looks [] ∧ ∀ (j : Nat) t, fn.params[j]? = some t → Tryz.pinned.checked.prog.wantsStandIn t = false := by
  obtain rfl : f = 3 := Option.some.inj ((show Tryz.prog.funcNamed "lightclient/lightclientlaw10.SpendInputs" = some 3 by kernel_rfl).symm.trans hf) |>.symm
  obtain rfl : fn = Tryz.f3 := (Option.some.inj (Tryz.func3.symm.trans hfn)).symm
  refine ⟨by kernel_rfl, fun j t ht => ?_⟩
  rw [Tryz.params3] at ht
  have hm : t ∈ [26, 3, 35, 3] := by simpa using Array.mem_of_getElem? ht
  have hall : ∀ u ∈ [26, 3, 35, 3], Tryz.prog.wantsStandIn u = false := by
    intro u hu
    have : ([26, 3, 35, 3].all fun u => !(Tryz.prog.wantsStandIn u)) = true := by kernel_rfl
    simpa using List.all_eq_true.1 this u hu
  exact hall t hm

theorem spendInputs_holds : Rows.SpendInputsCardSaid :=
  Claim7.holds_tied_plain_at .later [] _ _ _ _ spendInputs_said (fun _ h => by cases h) (by kernel_rfl) (fun _ h => by cases h) spendInputs_row_tie rfl ⟨rfl, rfl⟩ (by kernel_rfl) rfl spendInputs_plain (by kernel_rfl)
end Go.Proofs.YtbjiaghljpoliaaGreatDoor
