import Derived.Test.YtidkaiebgjbekaaDoorCards
import Derived.Test.YtidkaiebgjbekaaDoorTie
import Derived.WalkKit
import Derived.ProofKit
import Derived.OpenShut
import Derived.Deep.DeepHandedRow
import Derived.Lib.LaidTab
import Derived.Test.YtidkaiebgjbekaaDoorOpen
import Derived.Test.YtidkaiebgjbekaaDoorPlain0
set_option linter.unusedSimpArgs false
set_option linter.unusedVariables false
namespace Go.Proofs.YtidkaiebgjbekaaDoor
open Go Go.Vm
open Go.ChangeShapes Go.WideShapes Go.ChangeAt Go.RowKit

theorem gTab : Tryd.prog.globalNamed "lightclient/address.generators" = some 0 := by kernel_rfl
theorem gTabType : (Tryd.prog.globals[0]?).map (·.type) = some 51 := by kernel_rfl
theorem cellsT : Tryd.prog.cellsOf 51 = 5 := by kernel_rfl
theorem cellsU : Tryd.prog.cellsOf 41 = 1 := by kernel_rfl
/-- What the row lists: the five constants. -/
theorem table {W : World} (h : laidMetH Tryd.prog Rows.addressSumsRow.laid W) : Lib.TabIs Tryd.prog W "lightclient/address.generators" .u32 [996825010, 642813549, 513874426, 1027748829, 705979059] :=
  Lib.tabIs_of_head (rest := []) gTab gTabType Tryd.underlying51 Tryd.underlying41 cellsU cellsT h
theorem globs {W : World} (h : laidMetH Tryd.prog Rows.addressSumsRow.laid W) : Globs NoX W := by
  intro g e hg
  unfold GT at hg
  split at hg
  · injection hg with hg
    subst hg
    have c0 : W.cell? ⟨0, 0, none⟩ = some (.int .u32 996825010) := (table h).cell gTab 0 (by decide)
    have c1 : W.cell? ⟨0, 1, none⟩ = some (.int .u32 642813549) := (table h).cell gTab 1 (by decide)
    have c2 : W.cell? ⟨0, 2, none⟩ = some (.int .u32 513874426) := (table h).cell gTab 2 (by decide)
    have c3 : W.cell? ⟨0, 3, none⟩ = some (.int .u32 1027748829) := (table h).cell gTab 3 (by decide)
    have c4 : W.cell? ⟨0, 4, none⟩ = some (.int .u32 705979059) := (table h).cell gTab 4 (by decide)
    unfold VR
    refine ⟨⟨0, 0, none⟩, 5, rfl, by omega, fun _ hx => hx, rfl, ?_, ?_⟩
    · intro e he
      simp only [List.mem_singleton] at he
      subst he
      rfl
    · unfold VRow
      refine ⟨⟨.agg #[.int .u32 996825010, .int .u32 642813549, .int .u32 513874426, .int .u32 1027748829, .int .u32 705979059], ?_, rfl, ?_⟩, by unfold VRow; trivial⟩
      · unfold VR
        exact ⟨[.int .u32 996825010, .int .u32 642813549, .int .u32 513874426, .int .u32 1027748829, .int .u32 705979059], rfl, VCells_cons (VR_sc _) (VCells_cons (VR_sc _) (VCells_cons (VR_sc _) (VCells_cons (VR_sc _) (VCells_cons (VR_sc _) VCells_nil))))⟩
      · intro j u hu
        match j, hu with
        | 0, hu => injection hu with hu; subst hu; exact c0
        | 1, hu => injection hu with hu; subst hu; exact c1
        | 2, hu => injection hu with hu; subst hu; exact c2
        | 3, hu => injection hu with hu; subst hu; exact c3
        | 4, hu => injection hu with hu; subst hu; exact c4
        | j + 5, hu => simp [Value.cells] at hu
  · cases hg
theorem byt_of_wf {l : List Int} (hl : ∀ x ∈ l, (Lit.int .u8 x).wf = true) : Byt l := by
  intro x hx
  have := hl x hx
  simp [Lit.wf, IntKind.min, IntKind.max, IntKind.signed, IntKind.bits] at this; omega
/-- A world for the witness. -/
noncomputable def laidWorld (os : Os) : World :=
  { World.holding Tryd.prog os ⟨#[], #[], []⟩ with heap := (World.holding Tryd.prog os ⟨#[], #[], []⟩).heap.modify 0 fun
      | .cells _ t frozen => .cells #[.int .u32 996825010, .int .u32 642813549, .int .u32 513874426, .int .u32 1027748829, .int .u32 705979059] t frozen
      | o => o }
end Go.Proofs.YtidkaiebgjbekaaDoor
