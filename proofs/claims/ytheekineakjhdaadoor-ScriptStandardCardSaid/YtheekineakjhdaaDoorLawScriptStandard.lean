/-
  THE LAW ScriptStandard: for all arguments the law that states the scripts of the standard forms returns true, never panics, and leaves its input as it was. Condition: the package variables sha.k and sha.initial hold what the program's text lays (the card ties them to the text of the pruned copy); the proof does not use it.
-/
import Derived.Test.YtheekineakjhdaaDoorLaid
import Derived.Test.YtheekineakjhdaaDoorOpenArr
import Derived.Test.YtheekineakjhdaaDoorPlainT
import Derived.Test.YtheekineakjhdaaDoorWk4
set_option linter.unusedSimpArgs false
set_option linter.unusedVariables false
namespace Go.Proofs.YtheekineakjhdaaDoor
open Go Go.Vm
open Go.ChangeShapes Go.WideShapes Go.ChangeAt Go.RowKit

set_option maxRecDepth 100000 in
theorem scriptStandard_contract (H : Type) (enc : TypeId × Value → H) (W : World) (base : Nat) (args : Array Value) (ds gs : List (DataW H)) (before : List MemPlace)
    (hval : ∀ (j : Nat) t v, Tryd.f6.params[j]? = some t → args[j]? = some v → Value.okWide Tryd.prog W .any base t v)
    (hW : DataW.Whole enc Tryd.prog Tryd.f6.params.toList Rows.scriptStandardSpec.vars false W args.toList ds gs before) :
    Calls Tryd.prog 6 args W fun e W' => ∃ v, e = .returned v ∧ Rows.scriptStandardSpec.post enc Tryd.prog Tryd.f6 false true false false W args v W' := by
  have hW' := hW
  obtain ⟨p, q, hA0, hV, rfl, hfz, hnd⟩ := hW
  have hA : DataW.TrodAll enc Tryd.prog W 0 (fun _ => true) true Tryd.f6.params.toList args.toList ds p := hA0
  rw [Tryd.params6] at hA hval
  have hA' := hA
  obtain ⟨v0, vs0, d0, ds0, p0, q0, hargs0, rfl, rfl, h0, r0⟩ := trodAll_cons hA
  obtain ⟨v1, vs1, d1, ds1, p1, q1, hargs1, rfl, rfl, h1, r1⟩ := trodAll_cons r0
  obtain ⟨v2, vs2, d2, ds2, p2, q2, hargs2, rfl, rfl, h2, r2⟩ := trodAll_cons r1
  obtain ⟨v3, vs3, d3, ds3, p3, q3, hargs3, rfl, rfl, h3, r3⟩ := trodAll_cons r2
  obtain ⟨v4, vs4, d4, ds4, p4, q4, hargs4, rfl, rfl, h4, r4⟩ := trodAll_cons r3
  obtain ⟨v5, vs5, d5, ds5, p5, q5, hargs5, rfl, rfl, h5, r5⟩ := trodAll_cons r4
  obtain ⟨hz, rfl, rfl⟩ := trodAll_nil r5
  obtain rfl : args = #[v0, v1, v2, v3, v4, v5] := by
    subst hz
    subst hargs5
    subst hargs4
    subst hargs3
    subst hargs2
    subst hargs1
    apply Array.ext'
    exact hargs0
  obtain ⟨rfl, rfl⟩ := trodVars_none hV
  obtain ⟨a0, w0, g0⟩ := openV_arrays Tryd.underlying40 Tryd.underlying46 Tryd.underlying44 (by kernel_rfl) (by kernel_rfl) (by decide) (hval 0 40 v0 rfl rfl) h0
  have b0 : ∀ k ∈ a0, k.length = 4 := fun k hk => (w0 k hk).1
  obtain ⟨a1, w1, g1⟩ := openV_int Tryd.underlying3 (hval 1 3 v1 rfl rfl) h1
  obtain ⟨⟨a2, b2⟩, w2, g2⟩ := openV_array Tryd.underlying42 Tryd.underlying5 (by kernel_rfl) (by kernel_rfl) (hval 2 42 v2 rfl rfl) h2
  obtain ⟨a3, w3, g3⟩ := openV_int Tryd.underlying23 (hval 3 23 v3 rfl rfl) h3
  have b3 := u32_of_wf w3
  obtain ⟨a4, w4, g4⟩ := openV_slice Tryd.underlying22 (opens_int Tryd.underlying5) (by kernel_rfl) (by decide) (elem_one (E := eI .u8) fun _ => rfl) (hval 4 22 v4 rfl rfl) h4
  have b4 : Byt a4 := byt_of_wf w4
  obtain ⟨a5, w5, g5⟩ := openV_slice Tryd.underlying22 (opens_int Tryd.underlying5) (by kernel_rfl) (by decide) (elem_one (E := eI .u8) fun _ => rfl) (hval 5 22 v5 rfl rfl) h5
  have b5 : Byt a5 := byt_of_wf w5
  clear hA0
  have hvs : VCells NoX [] W [eL 4 (eA (eI .u64)) a0, eI .i64 a1, eA (eI .u8) a2, eI .u32 a3, eL 1 (eI .u8) a4, eL 1 (eI .u8) a5] [v0, v1, v2, v3, v4, v5] := (VCells_cons g0 (VCells_cons g1 (VCells_cons g2 (VCells_cons g3 (VCells_cons g4 (VCells_cons g5 VCells_nil))))))
  have hfn := (law08_ScriptStandard_ok NN a0 a1 a2 a3 a4 a5 true (ScriptStandard_true a0 a1 a2 a3 a4 a5 b0 b2 b3.1 b3.2)).toP
  refine (calls_of_pfn (vs := [v0, v1, v2, v3, v4, v5]) Tryd.func6 rfl (by kernel_rfl) hfn globs hvs).mono fun e W' ⟨he, bel⟩ => ?_
  subst he
  exact ⟨_, rfl, _, _, _, [], _, [], hW', trodAll_mk1 (shut_bool Tryd.underlying4 _), below_trodAll laidOut bel (readable_all (by kernel_rfl)) hA', rfl, bel.frame _, fun h => by cases h⟩

theorem scriptStandard_met (os : Os) : laidMet Tryd.prog Rows.scriptStandardRow.laid ((laidWorld os).forCall (fun _ _ => 0) ⟨#[], #[.slice none 0 0, .int .i64 0, .agg #[.int .u8 0, .int .u8 0, .int .u8 0, .int .u8 0, .int .u8 0, .int .u8 0, .int .u8 0, .int .u8 0, .int .u8 0, .int .u8 0, .int .u8 0, .int .u8 0, .int .u8 0, .int .u8 0, .int .u8 0, .int .u8 0, .int .u8 0, .int .u8 0, .int .u8 0, .int .u8 0, .int .u8 0, .int .u8 0, .int .u8 0, .int .u8 0, .int .u8 0, .int .u8 0, .int .u8 0, .int .u8 0, .int .u8 0, .int .u8 0, .int .u8 0, .int .u8 0], .int .u32 0, .slice none 0 0, .slice none 0 0], []⟩).memory :=
  laidMet_of_run' 8 (by kernel_rfl) (by kernel_rfl)
theorem scriptStandard_reads (os : Os) {H : Type} (enc : TypeId × Value → H) : ∃ places, DataW.whole enc Tryd.prog ((laidWorld os).forCall (fun _ _ => 0) ⟨#[], #[.slice none 0 0, .int .i64 0, .agg #[.int .u8 0, .int .u8 0, .int .u8 0, .int .u8 0, .int .u8 0, .int .u8 0, .int .u8 0, .int .u8 0, .int .u8 0, .int .u8 0, .int .u8 0, .int .u8 0, .int .u8 0, .int .u8 0, .int .u8 0, .int .u8 0, .int .u8 0, .int .u8 0, .int .u8 0, .int .u8 0, .int .u8 0, .int .u8 0, .int .u8 0, .int .u8 0, .int .u8 0, .int .u8 0, .int .u8 0, .int .u8 0, .int .u8 0, .int .u8 0, .int .u8 0, .int .u8 0], .int .u32 0, .slice none 0 0, .slice none 0 0], []⟩).memory Tryd.f6.params.toList Rows.scriptStandardSpec.vars false (#[.slice none 0 0, .int .i64 0, .agg #[.int .u8 0, .int .u8 0, .int .u8 0, .int .u8 0, .int .u8 0, .int .u8 0, .int .u8 0, .int .u8 0, .int .u8 0, .int .u8 0, .int .u8 0, .int .u8 0, .int .u8 0, .int .u8 0, .int .u8 0, .int .u8 0, .int .u8 0, .int .u8 0, .int .u8 0, .int .u8 0, .int .u8 0, .int .u8 0, .int .u8 0, .int .u8 0, .int .u8 0, .int .u8 0, .int .u8 0, .int .u8 0, .int .u8 0, .int .u8 0, .int .u8 0, .int .u8 0], .int .u32 0, .slice none 0 0, .slice none 0 0] : Array Value).toList 8 = some ([.nil, .lit (.int .i64 0), .agg [.lit (.int .u8 0), .lit (.int .u8 0), .lit (.int .u8 0), .lit (.int .u8 0), .lit (.int .u8 0), .lit (.int .u8 0), .lit (.int .u8 0), .lit (.int .u8 0), .lit (.int .u8 0), .lit (.int .u8 0), .lit (.int .u8 0), .lit (.int .u8 0), .lit (.int .u8 0), .lit (.int .u8 0), .lit (.int .u8 0), .lit (.int .u8 0), .lit (.int .u8 0), .lit (.int .u8 0), .lit (.int .u8 0), .lit (.int .u8 0), .lit (.int .u8 0), .lit (.int .u8 0), .lit (.int .u8 0), .lit (.int .u8 0), .lit (.int .u8 0), .lit (.int .u8 0), .lit (.int .u8 0), .lit (.int .u8 0), .lit (.int .u8 0), .lit (.int .u8 0), .lit (.int .u8 0), .lit (.int .u8 0)], .lit (.int .u32 0), .nil, .nil], [], places) :=
  ⟨[], by kernel_rfl⟩

set_option maxRecDepth 100000 in
theorem scriptStandard_lifted (os : Os) (started : os.Started) (H : Type) (enc : TypeId × Value → H) (F : Stop.Interp) :
    ReturnsInHanded {} Tryd.checked os 6 .any ((OpenSpec.ofChange Rows.scriptStandardSpec).preRow enc Tryd.prog Tryd.f6 Rows.scriptStandardRow.domain false Rows.scriptStandardRow.laid) (((OpenSpec.ofChange Rows.scriptStandardSpec).at F).post enc Tryd.prog Tryd.f6 false true false false) := by
  obtain ⟨places, hx⟩ := scriptStandard_reads os enc
  refine returnsInHanded_of_row (C := Tryd.checked) (s := OpenSpec.ofChange Rows.scriptStandardSpec) own started (by kernel_rfl) Tryd.func6
    (witness_row_at (enc := enc) (C := Tryd.checked) false (laidWorld os) #[.slice none 0 0, .int .i64 0, .agg #[.int .u8 0, .int .u8 0, .int .u8 0, .int .u8 0, .int .u8 0, .int .u8 0, .int .u8 0, .int .u8 0, .int .u8 0, .int .u8 0, .int .u8 0, .int .u8 0, .int .u8 0, .int .u8 0, .int .u8 0, .int .u8 0, .int .u8 0, .int .u8 0, .int .u8 0, .int .u8 0, .int .u8 0, .int .u8 0, .int .u8 0, .int .u8 0, .int .u8 0, .int .u8 0, .int .u8 0, .int .u8 0, .int .u8 0, .int .u8 0, .int .u8 0, .int .u8 0], .int .u32 0, .slice none 0 0, .slice none 0 0] rfl (by kernel_rfl) (by kernel_rfl) (by kernel_rfl)
      (OpenSpec.preRow_of_cond 8 hx (by kernel_rfl) (fun k hk => by cases hk) (by kernel_rfl) (scriptStandard_met os))) ?_
  intro W base args ds gs before hval hW _ _ _ _ _ _
  exact scriptStandard_contract H enc W base args ds gs before hval hW

theorem scriptStandard_said : Rows.ScriptStandardSaid :=
  OpenClaim.holds_of_cond 6 Tryd.f6 rfl rfl rfl rfl rfl rfl rfl ⟨rfl, rfl, rfl, rfl, rfl⟩ rfl rfl rfl rfl rfl (by kernel_rfl) Tryd.func6 (by kernel_rfl)
    (of_decide_eq_true (by kernel_rfl)) (by unfold Func.isWrapper; first | (rw [if_pos (by decide +kernel)]; kernel_rfl) | (rw [if_neg (by decide +kernel)]; exact ⟨rfl, rfl⟩))
    (fun os started H enc _ F => by rw [OpenClaim.pre_eq_preRow]; exact scriptStandard_lifted os started H enc F)

theorem scriptStandard_plain (f : FuncId) (fn : Func) (hf : Tryd.pinned.checked.prog.funcNamed "lightclient/lightclientlaw08.ScriptStandard" = some f) (hfn : Tryd.pinned.checked.prog.funcs[f]? = some fn) :
    false = Tryd.pinned.checked.prog.looks [] ∧ ∀ (j : Nat) t, fn.params[j]? = some t → Tryd.pinned.checked.prog.wantsStandIn t = false := by
  obtain rfl : f = 6 := Option.some.inj ((show Tryd.prog.funcNamed "lightclient/lightclientlaw08.ScriptStandard" = some 6 by kernel_rfl).symm.trans hf) |>.symm
  obtain rfl : fn = Tryd.f6 := (Option.some.inj (Tryd.func6.symm.trans hfn)).symm
  refine ⟨by kernel_rfl, fun j t ht => ?_⟩
  rw [Tryd.params6] at ht
  have hm : t ∈ [40, 3, 42, 23, 22, 22] := by simpa using Array.mem_of_getElem? ht
  have hall : ∀ u ∈ [40, 3, 42, 23, 22, 22], Tryd.prog.wantsStandIn u = false := by
    intro u hu
    have : ([40, 3, 42, 23, 22, 22].all fun u => !(Tryd.prog.wantsStandIn u)) = true := by kernel_rfl
    simpa using List.all_eq_true.1 this u hu
  exact hall t hm

theorem scriptStandard_holds : Rows.ScriptStandardCardSaid :=
  Claim7.holds_tied_plain_at .later [] _ _ _ _ scriptStandard_said (fun _ h => by cases h) (by kernel_rfl) (fun _ h => by cases h) scriptStandard_row_tie rfl ⟨rfl, rfl⟩ (by kernel_rfl) rfl scriptStandard_plain (by kernel_rfl)
end Go.Proofs.YtheekineakjhdaaDoor
