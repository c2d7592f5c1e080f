/-
  THE LAW AddressDetects: for all arguments the law that says that an address with one character replaced, or two neighbours exchanged, is not accepted returns true, never panics, and leaves its input as it was. Condition: the package variable address.generators holds what the program's text lays (the card ties it to the text of the pruned copy).
-/
import Derived.Test.YtidkaiebgjbekaaDoorLaid
import Derived.Test.YtidkaiebgjbekaaDoorPlainX2
import Derived.Test.YtidkaiebgjbekaaDoorWk3
set_option linter.unusedSimpArgs false
set_option linter.unusedVariables false
namespace Go.Proofs.YtidkaiebgjbekaaDoor
open Go Go.Vm
open Go.ChangeShapes Go.WideShapes Go.ChangeAt Go.RowKit

theorem addressDetects_contract (H : Type) (enc : TypeId × Value → H) (W : World) (base : Nat) (args : Array Value) (ds gs : List (DataW H)) (before : List MemPlace)
    (hval : ∀ (j : Nat) t v, Tryd.f7.params[j]? = some t → args[j]? = some v → Value.okWide Tryd.prog W .any base t v)
    (hW : DataW.Whole enc Tryd.prog Tryd.f7.params.toList Rows.addressDetectsSpec.vars false W args.toList ds gs before) (hL : laidMetH Tryd.prog Rows.addressDetectsRow.laid W) :
    Calls Tryd.prog 7 args W fun e W' => ∃ v, e = .returned v ∧ Rows.addressDetectsSpec.post enc Tryd.prog Tryd.f7 false true false false W args v W' := by
  have hW' := hW
  obtain ⟨p, q, hA0, hV, rfl, hfz, hnd⟩ := hW
  have hA : DataW.TrodAll enc Tryd.prog W 0 (fun _ => true) true Tryd.f7.params.toList args.toList ds p := hA0
  rw [Tryd.params7] at hA hval
  have hA' := hA
  obtain ⟨v0, vs0, d0, ds0, p0, q0, hargs0, rfl, rfl, h0, r0⟩ := trodAll_cons hA
  obtain ⟨v1, vs1, d1, ds1, p1, q1, hargs1, rfl, rfl, h1, r1⟩ := trodAll_cons r0
  obtain ⟨v2, vs2, d2, ds2, p2, q2, hargs2, rfl, rfl, h2, r2⟩ := trodAll_cons r1
  obtain ⟨v3, vs3, d3, ds3, p3, q3, hargs3, rfl, rfl, h3, r3⟩ := trodAll_cons r2
  obtain ⟨hz, rfl, rfl⟩ := trodAll_nil r3
  obtain rfl : args = #[v0, v1, v2, v3] := by
    subst hz
    subst hargs3
    subst hargs2
    subst hargs1
    apply Array.ext'
    exact hargs0
  obtain ⟨rfl, rfl⟩ := trodVars_none hV
  obtain ⟨a0, w0, g0⟩ := openV_int Tryd.underlying3 (hval 0 3 v0 rfl rfl) h0
  obtain ⟨a1, w1, g1⟩ := openV_slice Tryd.underlying22 (opens_int Tryd.underlying5) (by kernel_rfl) (by decide) (elem_one (E := eI .u8) fun _ => rfl) (hval 1 22 v1 rfl rfl) h1
  have b1 : Byt a1 := byt_of_wf w1
  obtain ⟨a2, w2, g2⟩ := openV_int Tryd.underlying3 (hval 2 3 v2 rfl rfl) h2
  obtain ⟨a3, w3, g3⟩ := openV_int Tryd.underlying3 (hval 3 3 v3 rfl rfl) h3
  clear hA0
  have hvs : VCells NoX [] W [eI .i64 a0, eL 1 (eI .u8) a1, eI .i64 a2, eI .i64 a3] [v0, v1, v2, v3] := (VCells_cons g0 (VCells_cons g1 (VCells_cons g2 (VCells_cons g3 VCells_nil))))
  have hfn := (law27_AddressDetects_ok NN a0 a1 a2 a3 true (AddressDetects_true a0 a1 a2 a3 b1)).toP
  refine (calls_of_pfn (vs := [v0, v1, v2, v3]) Tryd.func7 rfl (by kernel_rfl) hfn (globs hL) hvs).mono fun e W' ⟨he, bel⟩ => ?_
  subst he
  exact ⟨_, rfl, _, _, _, [], _, [], hW', trodAll_mk1 (shut_bool Tryd.underlying4 _), below_trodAll laidOut bel (readable_all (by kernel_rfl)) hA', rfl, bel.frame _, fun h => by cases h⟩

theorem addressDetects_met (os : Os) : laidMet Tryd.prog Rows.addressDetectsRow.laid ((laidWorld os).forCall (fun _ _ => 0) ⟨#[], #[.int .i64 0, .slice none 0 0, .int .i64 0, .int .i64 0], []⟩).memory :=
  laidMet_of_run' 8 (by kernel_rfl) (by kernel_rfl)
theorem addressDetects_reads (os : Os) {H : Type} (enc : TypeId × Value → H) : ∃ places, DataW.whole enc Tryd.prog ((laidWorld os).forCall (fun _ _ => 0) ⟨#[], #[.int .i64 0, .slice none 0 0, .int .i64 0, .int .i64 0], []⟩).memory Tryd.f7.params.toList Rows.addressDetectsSpec.vars false (#[.int .i64 0, .slice none 0 0, .int .i64 0, .int .i64 0] : Array Value).toList 8 = some ([.lit (.int .i64 0), .nil, .lit (.int .i64 0), .lit (.int .i64 0)], [], places) :=
  ⟨[], by kernel_rfl⟩

set_option maxRecDepth 100000 in
theorem addressDetects_lifted (os : Os) (started : os.Started) (H : Type) (enc : TypeId × Value → H) (F : Stop.Interp) :
    ReturnsInHanded {} Tryd.checked os 7 .any ((OpenSpec.ofChange Rows.addressDetectsSpec).preRow enc Tryd.prog Tryd.f7 Rows.addressDetectsRow.domain false Rows.addressDetectsRow.laid) (((OpenSpec.ofChange Rows.addressDetectsSpec).at F).post enc Tryd.prog Tryd.f7 false true false false) := by
  obtain ⟨places, hx⟩ := addressDetects_reads os enc
  refine returnsInHanded_of_row (C := Tryd.checked) (s := OpenSpec.ofChange Rows.addressDetectsSpec) own started (by kernel_rfl) Tryd.func7
    (witness_row_at (enc := enc) (C := Tryd.checked) false (laidWorld os) #[.int .i64 0, .slice none 0 0, .int .i64 0, .int .i64 0] rfl (by kernel_rfl) (by kernel_rfl) (by kernel_rfl)
      (OpenSpec.preRow_of_cond 8 hx (by kernel_rfl) (fun k hk => by cases hk) (by kernel_rfl) (addressDetects_met os))) ?_
  intro W base args ds gs before hval hW _ _ _ hL _ _
  exact addressDetects_contract H enc W base args ds gs before hval hW hL

theorem addressDetects_said : Rows.AddressDetectsSaid :=
  OpenClaim.holds_of_cond 7 Tryd.f7 rfl rfl rfl rfl rfl rfl rfl ⟨rfl, rfl, rfl, rfl, rfl⟩ rfl rfl rfl rfl rfl (by kernel_rfl) Tryd.func7 (by kernel_rfl)
    (of_decide_eq_true (by kernel_rfl)) (by unfold Func.isWrapper; first | (rw [if_pos (by decide +kernel)]; kernel_rfl) | (rw [if_neg (by decide +kernel)]; exact ⟨rfl, rfl⟩))
    (fun os started H enc _ F => by rw [OpenClaim.pre_eq_preRow]; exact addressDetects_lifted os started H enc F)

theorem addressDetects_plain (f : FuncId) (fn : Func) (hf : Tryd.pinned.checked.prog.funcNamed "lightclient/lightclientlaw27.AddressDetects" = some f) (hfn : Tryd.pinned.checked.prog.funcs[f]? = some fn) :
    false = Tryd.pinned.checked.prog.looks [] ∧ ∀ (j : Nat) t, fn.params[j]? = some t → Tryd.pinned.checked.prog.wantsStandIn t = false := by
  obtain rfl : f = 7 := Option.some.inj ((show Tryd.prog.funcNamed "lightclient/lightclientlaw27.AddressDetects" = some 7 by kernel_rfl).symm.trans hf) |>.symm
  obtain rfl : fn = Tryd.f7 := (Option.some.inj (Tryd.func7.symm.trans hfn)).symm
  refine ⟨by kernel_rfl, fun j t ht => ?_⟩
  rw [Tryd.params7] at ht
  have hm : t ∈ [3, 22, 3, 3] := by simpa using Array.mem_of_getElem? ht
  have hall : ∀ u ∈ [3, 22, 3, 3], Tryd.prog.wantsStandIn u = false := by
    intro u hu
    have : ([3, 22, 3, 3].all fun u => !(Tryd.prog.wantsStandIn u)) = true := by kernel_rfl
    simpa using List.all_eq_true.1 this u hu
  exact hall t hm

theorem addressDetects_holds : Rows.AddressDetectsCardSaid :=
  Claim7.holds_tied_plain_at .later [] _ _ _ _ addressDetects_said (fun _ h => by cases h) (by kernel_rfl) (fun _ h => by cases h) addressDetects_row_tie rfl ⟨rfl, rfl⟩ (by kernel_rfl) rfl addressDetects_plain (by kernel_rfl)
end Go.Proofs.YtidkaiebgjbekaaDoor
