import Derived.Test.YtheekineakjhdaaDoorSh
import Derived.Test.YtheekineakjhdaaDoorOpen
set_option linter.unusedSimpArgs false
set_option linter.unusedVariables false
namespace Go.Proofs.YtheekineakjhdaaDoor
open Go Go.Vm
open Go.ChangeShapes Go.WideShapes Go.ChangeAt Go.RowKit

set_option maxRecDepth 100000 in
theorem opens_op : Opens Tryd.prog 59 (fun x : S_api_Op => ∀ y ∈ x.Data, (Lit.int .u8 y).wf = true) C_api_Op := by
  intro H enc w spare held fuel cs x h
  obtain ⟨xs, n, _, _, hl, hlen, hf⟩ := DataW.trod_struct Tryd.underlying59 h
  have hk : Tryd.prog.cellsOf 59 = 4 := by kernel_rfl
  have k3 : Tryd.prog.cellsOf 3 = 1 := by kernel_rfl
  have k22 : Tryd.prog.cellsOf 22 = 1 := by kernel_rfl
  rw [hk] at hl
  match xs, hlen, cs, hl with
  | [y0, y1, y2, y3], _, [u0, u1, u2, u3], _ =>
    have h0 : DataW.trod enc Tryd.prog w 0 spare held n 3 (([u0, u1, u2, u3].drop 0).take (Tryd.prog.cellsOf 3)) = some y0 := hf 0 _ rfl
    have h1 : DataW.trod enc Tryd.prog w 0 spare held n 22 (([u0, u1, u2, u3].drop 1).take (Tryd.prog.cellsOf 22)) = some y1 := hf 1 _ rfl
    have h2 : DataW.trod enc Tryd.prog w 0 spare held n 3 (([u0, u1, u2, u3].drop 2).take (Tryd.prog.cellsOf 3)) = some y2 := hf 2 _ rfl
    have h3 : DataW.trod enc Tryd.prog w 0 spare held n 3 (([u0, u1, u2, u3].drop 3).take (Tryd.prog.cellsOf 3)) = some y3 := hf 3 _ rfl
    obtain ⟨a0, q0, c0⟩ := opens_int Tryd.underlying3 h0
    obtain ⟨a1, q1, c1⟩ := opens_slice Tryd.underlying22 (opens_int Tryd.underlying5) (by kernel_rfl) (by decide) (elem_one (E := eI .u8) fun _ => rfl) h1
    obtain ⟨a2, q2, c2⟩ := opens_int Tryd.underlying3 h2
    obtain ⟨a3, q3, c3⟩ := opens_int Tryd.underlying3 h3
    rw [k3] at c0 c2 c3
    rw [k22] at c1
    exact ⟨⟨a0, a1, a2, a3⟩, q1, VCells_cons (VCells_get1 c0) (VCells_cons (VCells_get1 c1) (VCells_cons (VCells_get1 c2) (VCells_cons (VCells_get1 c3) VCells_nil)))⟩
end Go.Proofs.YtheekineakjhdaaDoor
