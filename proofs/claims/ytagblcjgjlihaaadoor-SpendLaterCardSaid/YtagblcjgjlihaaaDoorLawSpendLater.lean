/-
  THE LAW SpendLater: for all arguments the law that states that a transaction that is accepted at a height is accepted at a greater one returns true, never panics, and leaves its input as it was. The two listed variables, sha.k and sha.initial, are laid as the pruned copy of the project has them.
-/
import Derived.Test.YtagblcjgjlihaaaDoorQSpendLater7
set_option linter.unusedSimpArgs false
set_option linter.unusedVariables false
namespace Go.Proofs.YtagblcjgjlihaaaDoor
open Go Go.Vm
open Go.ChangeShapes Go.WideShapes Go.ChangeAt Go.RowKit

set_option maxRecDepth 100000 in
theorem spendLater_contract (H : Type) (enc : TypeId × Value → H) (W : World) (base : Nat) (args : Array Value) (ds gs : List (DataW H)) (before : List MemPlace)
    (hval : ∀ (j : Nat) t v, Tryd.f3.params[j]? = some t → args[j]? = some v → Value.okWide Tryd.prog W .any base t v)
    (hW : DataW.Whole enc Tryd.prog Tryd.f3.params.toList Rows.spendLaterSpec.vars false W args.toList ds gs before) (hL : laidMetH Tryd.prog Rows.spendLaterRow.laid W) :
    Calls Tryd.prog 3 args W fun e W' => ∃ v, e = .returned v ∧ Rows.spendLaterSpec.post enc Tryd.prog Tryd.f3 false true false false W args v W' := by
  have hW' := hW
  obtain ⟨p, q, hA0, hV, rfl, hfz, hnd⟩ := hW
  have hA : DataW.TrodAll enc Tryd.prog W 0 (fun _ => true) true Tryd.f3.params.toList args.toList ds p := hA0
  rw [Tryd.params3] at hA hval
  have hA' := hA
  obtain ⟨v0, vs0, d0, ds0, p0, q0, hargs0, rfl, rfl, h0, r0⟩ := trodAll_cons hA
  obtain ⟨v1, vs1, d1, ds1, p1, q1, hargs1, rfl, rfl, h1, r1⟩ := trodAll_cons r0
  obtain ⟨v2, vs2, d2, ds2, p2, q2, hargs2, rfl, rfl, h2, r2⟩ := trodAll_cons r1
  obtain ⟨v3, vs3, d3, ds3, p3, q3, hargs3, rfl, rfl, h3, r3⟩ := trodAll_cons r2
  obtain ⟨hz, rfl, rfl⟩ := trodAll_nil r3
  obtain rfl : args = #[v0, v1, v2, v3] := by
    subst hz
    subst hargs3
    subst hargs2
    subst hargs1
    apply Array.ext'
    exact hargs0
  obtain ⟨rfl, rfl⟩ := trodVars_none hV
  obtain ⟨a0, w0, g0⟩ := aGK Tryd.underlying26 aGU (hval 0 26 v0 rfl rfl) h0
  obtain ⟨a1, w1, g1⟩ := aHM Tryd.underlying27 aE4 (by kernel_rfl) (by decide) (aDJ (K := 37) (C := eW) (fun _ => rfl) (fun _ => rfl)) (hval 1 27 v1 rfl rfl) h1
  obtain ⟨a2, w2, g2⟩ := aFr Tryd.underlying3 (hval 2 3 v2 rfl rfl) h2
  obtain ⟨a3, w3, g3⟩ := aFr Tryd.underlying5 (hval 3 5 v3 rfl rfl) h3
  clear hA0
  have hvs : VCells sF [] W [.agg (wB a0), eL 37 eX a1, eI .i64 a2, eI .u8 a3] [v0, v1, v2, v3] := (jD g0 (jD g1 (jD g2 (jD g3 nZ))))
  have hfn := (aB1 NN a0.Version a0.Inputs a0.Outputs a0.Lock a1 a2 a3 true (aD9 _ _ _ _ _ _ _ (fun x hx => (w0.2.1 x hx).1.1.1) (⟨fun x hx => aAv (w0.2.1 x hx).1.1.2, fun o ho => aAv (w0.2.2.1 o ho).2⟩) (fun x hx w hw => aAv ((w0.2.1 x hx).2.2 w hw)) (fun c hc => aAv (w1 c hc).2.1.2) (aKt w3))).toP
  refine (aGw (vs := [v0, v1, v2, v3]) Tryd.func3 rfl (by kernel_rfl) hfn (aMy hL) hvs).mono fun e W' ⟨he, bel⟩ => ?_
  subst he
  exact ⟨_, rfl, _, _, _, [], _, [], hW', trodAll_mk1 (shut_bool Tryd.underlying4 _), aBT aLk bel (aHf (by kernel_rfl)) hA', rfl, bel.frame _, fun h => by cases h⟩

theorem spendLater_met (os : Os) : laidMet Tryd.prog Rows.spendLaterRow.laid ((aB6 os).forCall (fun _ _ => 0) ⟨#[], #[.agg #[.int .u32 0, .slice none 0 0, .slice none 0 0, .int .u32 0], .slice none 0 0, .int .i64 0, .int .u8 0], []⟩).memory :=
  laidMet_of_run' 8 (by kernel_rfl) (by kernel_rfl)
theorem spendLater_reads (os : Os) {H : Type} (enc : TypeId × Value → H) : ∃ places, DataW.whole enc Tryd.prog ((aB6 os).forCall (fun _ _ => 0) ⟨#[], #[.agg #[.int .u32 0, .slice none 0 0, .slice none 0 0, .int .u32 0], .slice none 0 0, .int .i64 0, .int .u8 0], []⟩).memory Tryd.f3.params.toList Rows.spendLaterSpec.vars false (#[.agg #[.int .u32 0, .slice none 0 0, .slice none 0 0, .int .u32 0], .slice none 0 0, .int .i64 0, .int .u8 0] : Array Value).toList 8 = some ([.agg [.lit (.int .u32 0), .nil, .nil, .lit (.int .u32 0)], .nil, .lit (.int .i64 0), .lit (.int .u8 0)], [], places) :=
  ⟨[], by kernel_rfl⟩

set_option maxRecDepth 100000 in
theorem spendLater_lifted (os : Os) (started : os.Started) (H : Type) (enc : TypeId × Value → H) (F : Stop.Interp) :
    ReturnsInHanded {} Tryd.checked os 3 .any ((OpenSpec.ofChange Rows.spendLaterSpec).preRow enc Tryd.prog Tryd.f3 Rows.spendLaterRow.domain false Rows.spendLaterRow.laid) (((OpenSpec.ofChange Rows.spendLaterSpec).at F).post enc Tryd.prog Tryd.f3 false true false false) := by
  obtain ⟨places, hx⟩ := spendLater_reads os enc
  refine returnsInHanded_of_row (C := Tryd.checked) (s := OpenSpec.ofChange Rows.spendLaterSpec) own started (by kernel_rfl) Tryd.func3
    (witness_row_at (enc := enc) (C := Tryd.checked) false (aB6 os) #[.agg #[.int .u32 0, .slice none 0 0, .slice none 0 0, .int .u32 0], .slice none 0 0, .int .i64 0, .int .u8 0] rfl (by kernel_rfl) (by kernel_rfl) (by kernel_rfl)
      (OpenSpec.preRow_of_cond 8 hx (by kernel_rfl) (fun k hk => by cases hk) (by kernel_rfl) (spendLater_met os))) ?_
  intro W base args ds gs before hval hW _ _ _ hL _ _
  exact spendLater_contract H enc W base args ds gs before hval hW hL

theorem spendLater_said : Rows.SpendLaterSaid :=
  OpenClaim.holds_of_cond 3 Tryd.f3 rfl rfl rfl rfl rfl rfl rfl ⟨rfl, rfl, rfl, rfl, rfl⟩ rfl rfl rfl rfl rfl (by kernel_rfl) Tryd.func3 (by kernel_rfl)
    (of_decide_eq_true (by kernel_rfl)) (by unfold Func.isWrapper; first | (rw [if_pos (by decide +kernel)]; kernel_rfl) | (rw [if_neg (by decide +kernel)]; exact ⟨rfl, rfl⟩))
    (fun os started H enc _ F => by rw [OpenClaim.pre_eq_preRow]; exact spendLater_lifted os started H enc F)

theorem spendLater_plain (f : FuncId) (fn : Func) (hf : Tryd.pinned.checked.prog.funcNamed "lightclient/lightclientlaw10.SpendLater" = some f) (hfn : Tryd.pinned.checked.prog.funcs[f]? = some fn) :
    false = Tryd.pinned.checked.prog.looks [] ∧ ∀ (j : Nat) t, fn.params[j]? = some t → Tryd.pinned.checked.prog.wantsStandIn t = false := by
  obtain rfl : f = 3 := Option.some.inj ((show Tryd.prog.funcNamed "lightclient/lightclientlaw10.SpendLater" = some 3 by kernel_rfl).symm.trans hf) |>.symm
  obtain rfl : fn = Tryd.f3 := (Option.some.inj (Tryd.func3.symm.trans hfn)).symm
  refine ⟨by kernel_rfl, fun j t ht => ?_⟩
  rw [Tryd.params3] at ht
  have hm : t ∈ [26, 27, 3, 5] := by simpa using Array.mem_of_getElem? ht
  have hall : ∀ u ∈ [26, 27, 3, 5], Tryd.prog.wantsStandIn u = false := by
    intro u hu
    have : ([26, 27, 3, 5].all fun u => !(Tryd.prog.wantsStandIn u)) = true := by kernel_rfl
    simpa using List.all_eq_true.1 this u hu
  exact hall t hm

theorem spendLater_holds : Rows.SpendLaterCardSaid :=
  Claim7.holds_tied_plain_at .later [] _ _ _ _ spendLater_said (fun _ h => by cases h) (by kernel_rfl) (fun _ h => by cases h) spendLater_row_tie rfl ⟨rfl, rfl⟩ (by kernel_rfl) rfl spendLater_plain (by kernel_rfl)
end Go.Proofs.YtagblcjgjlihaaaDoor
