/-
  THE LAW SpendChecks: for all arguments the law that states that the program and the reference answer alike whether all inputs may be spent, and name the same fee returns true, never panics, and leaves its input as it was. The two listed variables, sha.k and sha.initial, are laid as the pruned copy of the project has them.
-/
import Derived.Test.YtbjiaghljpoliaaGreatDoorQSpendChecks8
set_option linter.unusedSimpArgs false
set_option linter.unusedVariables false
namespace Go.Proofs.YtbjiaghljpoliaaGreatDoor
open Go Go.Vm
open Go.ChangeShapes Go.WideShapes Go.ChangeAt Go.RowKit

set_option maxRecDepth 100000 in
theorem spendChecks_contract (H : Type) (enc : TypeId × Value → H) (W : World) (base : Nat) (args : Array Value) (ds gs : List (DataW H)) (before : List MemPlace)
    (hval : ∀ (j : Nat) t v, Tryz.f4.params[j]? = some t → args[j]? = some v → Value.okWide Tryz.prog W .any base t v)
    (hW : DataW.Whole enc Tryz.prog Tryz.f4.params.toList Rows.spendChecksSpec.vars false W args.toList ds gs before) (hL : laidMetH Tryz.prog Rows.spendChecksRow.laid W) :
    Calls Tryz.prog 4 args W fun e W' => ∃ v, e = .returned v ∧ Rows.spendChecksSpec.post enc Tryz.prog Tryz.f4 false true false false W args v W' := by
  have hW' := hW
  obtain ⟨p, q, hA0, hV, rfl, hfz, hnd⟩ := hW
  have hA : DataW.TrodAll enc Tryz.prog W 0 (fun _ => true) true Tryz.f4.params.toList args.toList ds p := hA0
  rw [Tryz.params4] at hA hval
  have hA' := hA
  obtain ⟨v0, vs0, d0, ds0, p0, q0, hargs0, rfl, rfl, h0, r0⟩ := trodAll_cons hA
  obtain ⟨v1, vs1, d1, ds1, p1, q1, hargs1, rfl, rfl, h1, r1⟩ := trodAll_cons r0
  obtain ⟨v2, vs2, d2, ds2, p2, q2, hargs2, rfl, rfl, h2, r2⟩ := trodAll_cons r1
  obtain ⟨hz, rfl, rfl⟩ := trodAll_nil r2
  obtain rfl : args = #[v0, v1, v2] := by
    subst hz
    subst hargs2
    subst hargs1
    apply Array.ext'
    exact hargs0
  obtain ⟨rfl, rfl⟩ := trodVars_none hV
  obtain ⟨a0, w0, g0⟩ := aL0 Tryz.underlying26 aM6 (hval 0 26 v0 rfl rfl) h0
  obtain ⟨a1, w1, g1⟩ := aNO Tryz.underlying41 aJ8 (by kernel_rfl) (by decide) (aIc (K := 37) (C := gV) (fun _ => rfl) (fun _ => rfl)) (hval 1 41 v1 rfl rfl) h1
  obtain ⟨a2, w2, g2⟩ := aPQ Tryz.underlying3 (hval 2 3 v2 rfl rfl) h2
  clear hA0
  have hvs : VCells xV [] W [.agg (aCt a0), eL 37 d9 a1, eI .i64 a2] [v0, v1, v2] := (lW g0 (lW g1 (lW g2 sF)))
  have hfn := (aFF (show pY NN a0.Version a0.Inputs a0.Outputs a0.Lock a1 a2 = some true from (aH8 _ _ _ _ _ _ (fun x hx => (w0.2.1 x hx).1.1.1) (⟨fun x hx => aES (w0.2.1 x hx).1.1.2, fun o ho => aES (w0.2.2.1 o ho).2⟩) (fun x hx w hw => aES ((w0.2.1 x hx).2.2 w hw)) (fun c hc => aES (w1 c hc).2.1.2)))).toP
  refine (aNl (vs := [v0, v1, v2]) Tryz.func4 rfl (by kernel_rfl) hfn (aVD hL) hvs).mono fun e W' ⟨he, bel⟩ => ?_
  subst he
  exact ⟨_, rfl, _, _, _, [], _, [], hW', trodAll_mk1 (shut_bool Tryz.underlying4 _), aGn aTX bel (aNm (by kernel_rfl)) hA', rfl, bel.frame _, fun h => by cases h⟩

theorem spendChecks_met (os : Os) : laidMet Tryz.prog Rows.spendChecksRow.laid ((aG6 os).forCall (fun _ _ => 0) ⟨#[], #[.agg #[.int .u32 0, .slice none 0 0, .slice none 0 0, .int .u32 0], .slice none 0 0, .int .i64 0], []⟩).memory :=
  laidMet_of_run' 8 (by kernel_rfl) (by kernel_rfl)
theorem spendChecks_reads (os : Os) {H : Type} (enc : TypeId × Value → H) : ∃ places, DataW.whole enc Tryz.prog ((aG6 os).forCall (fun _ _ => 0) ⟨#[], #[.agg #[.int .u32 0, .slice none 0 0, .slice none 0 0, .int .u32 0], .slice none 0 0, .int .i64 0], []⟩).memory Tryz.f4.params.toList Rows.spendChecksSpec.vars false (#[.agg #[.int .u32 0, .slice none 0 0, .slice none 0 0, .int .u32 0], .slice none 0 0, .int .i64 0] : Array Value).toList 8 = some ([.agg [.lit (.int .u32 0), .nil, .nil, .lit (.int .u32 0)], .nil, .lit (.int .i64 0)], [], places) :=
  ⟨[], by kernel_rfl⟩

set_option maxRecDepth 100000 in
theorem spendChecks_lifted (os : Os) (started : os.Started) (H : Type) (enc : TypeId × Value → H) (F : Stop.Interp) :
    ReturnsInHanded {} Tryz.checked os 4 .any ((OpenSpec.ofChange Rows.spendChecksSpec).preRow enc Tryz.prog Tryz.f4 Rows.spendChecksRow.domain false Rows.spendChecksRow.laid) (((OpenSpec.ofChange Rows.spendChecksSpec).at F).post enc Tryz.prog Tryz.f4 false true false false) := by
  obtain ⟨places, hx⟩ := spendChecks_reads os enc
  refine returnsInHanded_of_row (C := Tryz.checked) (s := OpenSpec.ofChange Rows.spendChecksSpec) own started (by kernel_rfl) Tryz.func4
    (witness_row_at (enc := enc) (C := Tryz.checked) false (aG6 os) #[.agg #[.int .u32 0, .slice none 0 0, .slice none 0 0, .int .u32 0], .slice none 0 0, .int .i64 0] rfl (by kernel_rfl) (by kernel_rfl) (by kernel_rfl)
      (OpenSpec.preRow_of_cond 8 hx (by kernel_rfl) (fun k hk => by cases hk) (by kernel_rfl) (spendChecks_met os))) ?_
  intro W base args ds gs before hval hW _ _ _ hL _ _
  exact spendChecks_contract H enc W base args ds gs before hval hW hL

theorem spendChecks_said : Rows.SpendChecksSaid :=
  OpenClaim.holds_of_cond 4 Tryz.f4 rfl rfl rfl rfl rfl rfl rfl ⟨rfl, rfl, rfl, rfl, rfl⟩ rfl rfl rfl rfl rfl (by kernel_rfl) Tryz.func4 (by kernel_rfl)
    (of_decide_eq_true (by kernel_rfl)) (by unfold Func.isWrapper; first | (rw [if_pos (by decide +kernel)]; kernel_rfl) | (rw [if_neg (by decide +kernel)]; exact ⟨rfl, rfl⟩))
    (fun os started H enc _ F => by rw [OpenClaim.pre_eq_preRow]; exact spendChecks_lifted os started H enc F)

theorem spendChecks_plain (f : FuncId) (fn : Func) (hf : Tryz.pinned.checked.prog.funcNamed "lightclient/lightclientlaw10.SpendChecks" = some f) (hfn : Tryz.pinned.checked.prog.funcs[f]? = some fn) :
    false = Tryz.pinned.checked.prog.looks [] ∧ ∀ (j : Nat) t, fn.params[j]? = some t → Tryz.pinned.checked.prog.wantsStandIn t = false := by
  obtain rfl : f = 4 := Option.some.inj ((show Tryz.prog.funcNamed "lightclient/lightclientlaw10.SpendChecks" = some 4 by kernel_rfl).symm.trans hf) |>.symm
  obtain rfl : fn = Tryz.f4 := (Option.some.inj (Tryz.func4.symm.trans hfn)).symm
  refine ⟨by kernel_rfl, fun j t ht => ?_⟩
  rw [Tryz.params4] at ht
  have hm : t ∈ [26, 41, 3] := by simpa using Array.mem_of_getElem? ht
  have hall : ∀ u ∈ [26, 41, 3], Tryz.prog.wantsStandIn u = false := by
    intro u hu
    have : ([26, 41, 3].all fun u => !(Tryz.prog.wantsStandIn u)) = true := by kernel_rfl
    simpa using List.all_eq_true.1 this u hu
  exact hall t hm

theorem spendChecks_holds : Rows.SpendChecksCardSaid :=
  Claim7.holds_tied_plain_at .later [] _ _ _ _ spendChecks_said (fun _ h => by cases h) (by kernel_rfl) (fun _ h => by cases h) spendChecks_row_tie rfl ⟨rfl, rfl⟩ (by kernel_rfl) rfl spendChecks_plain (by kernel_rfl)
end Go.Proofs.YtbjiaghljpoliaaGreatDoor
