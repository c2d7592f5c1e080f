/- How the structs in the laws' parameters are read as plain values (printed by lift.py). -/
import Derived.Test.YtbjiaiobpbpjoaaSh
import Derived.Test.YtbjiaiobpbpjoaaOpenArr
set_option linter.unusedSimpArgs false
set_option linter.unusedVariables false
namespace Go.Proofs.Ytbjiaiobpbpjoaa
open Go Go.Vm
open Go.ChangeShapes Go.WideShapes Go.ChangeAt Go.RowKit
def Q_api_OutPoint (x : S_api_OutPoint) : Prop := (x.Tx.length = 32 ∧ ∀ z0 ∈ x.Tx, (Lit.int .u8 z0).wf = true) ∧ ((Lit.int .u32 x.Index).wf = true)
set_option maxRecDepth 100000 in
theorem opens_api_OutPoint : Opens Try.prog 38 Q_api_OutPoint C_api_OutPoint := by
  intro H enc w spare held fuel cs x h
  obtain ⟨xs, n, _, _, hl, hlen, hf⟩ := DataW.trod_struct Try.underlying38 h
  rw [show Try.prog.cellsOf 38 = 33 by kernel_rfl] at hl
  match xs, hlen, hf with
  | [y0, y1], _, hf =>
    have h0 : DataW.trod enc Try.prog w 0 spare held n 36 ((cs.drop 0).take (Try.prog.cellsOf 36)) = some y0 := hf 0 _ rfl
    obtain ⟨a0, q0, c0⟩ := (opens_arr Try.underlying36 Try.underlying5 (by kernel_rfl) (by kernel_rfl)) h0
    rw [show Try.prog.cellsOf 36 = 32 by kernel_rfl] at c0
    have h1 : DataW.trod enc Try.prog w 0 spare held n 22 ((cs.drop 32).take (Try.prog.cellsOf 22)) = some y1 := hf 1 _ rfl
    obtain ⟨a1, q1, c1⟩ := (opens_int Try.underlying22) h1
    rw [show Try.prog.cellsOf 22 = 1 by kernel_rfl] at c1
    refine ⟨⟨a0, a1⟩, ⟨q0, q1⟩, ?_⟩
    have c := (VCells_at (o := 0) c0 (VCells_at (o := 32) c1 (VCells_end hl)))
    simp only [C_api_OutPoint, ar32_map q0.1]
    exact c
def Q_api_Input (x : S_api_Input) : Prop := (Q_api_OutPoint x.Prev) ∧ ((Lit.int .u32 x.Sequence).wf = true) ∧ (∀ z0 ∈ x.Witness, ∀ z1 ∈ z0, (Lit.int .u8 z1).wf = true)
set_option maxRecDepth 100000 in
theorem opens_api_Input : Opens Try.prog 41 Q_api_Input C_api_Input := by
  intro H enc w spare held fuel cs x h
  obtain ⟨xs, n, _, _, hl, hlen, hf⟩ := DataW.trod_struct Try.underlying41 h
  rw [show Try.prog.cellsOf 41 = 35 by kernel_rfl] at hl
  match xs, hlen, hf with
  | [y0, y1, y2], _, hf =>
    have h0 : DataW.trod enc Try.prog w 0 spare held n 38 ((cs.drop 0).take (Try.prog.cellsOf 38)) = some y0 := hf 0 _ rfl
    obtain ⟨a0, q0, c0⟩ := opens_api_OutPoint h0
    rw [show Try.prog.cellsOf 38 = 33 by kernel_rfl] at c0
    have h1 : DataW.trod enc Try.prog w 0 spare held n 22 ((cs.drop 33).take (Try.prog.cellsOf 22)) = some y1 := hf 1 _ rfl
    obtain ⟨a1, q1, c1⟩ := (opens_int Try.underlying22) h1
    rw [show Try.prog.cellsOf 22 = 1 by kernel_rfl] at c1
    have h2 : DataW.trod enc Try.prog w 0 spare held n 39 ((cs.drop 34).take (Try.prog.cellsOf 39)) = some y2 := hf 2 _ rfl
    obtain ⟨a2, q2, c2⟩ := (opens_slice Try.underlying39 (opens_slice Try.underlying42 (opens_int Try.underlying5) (by kernel_rfl) (by decide) (elem_one (E := (eI .u8)) fun _ => rfl)) (by kernel_rfl) (by decide) (elem_one (E := (eL 1 (eI .u8))) fun _ => rfl)) h2
    rw [show Try.prog.cellsOf 39 = 1 by kernel_rfl] at c2
    refine ⟨⟨a0, a1, a2⟩, ⟨q0, q1, q2⟩, ?_⟩
    have c := (VCells_at (o := 0) c0 (VCells_at (o := 33) c1 (VCells_at (o := 34) c2 (VCells_end hl))))
    exact c
def Q_api_Output (x : S_api_Output) : Prop := ((Lit.int .i64 x.Value).wf = true) ∧ (∀ z0 ∈ x.Script, (Lit.int .u8 z0).wf = true)
set_option maxRecDepth 100000 in
theorem opens_api_Output : Opens Try.prog 44 Q_api_Output C_api_Output := by
  intro H enc w spare held fuel cs x h
  obtain ⟨xs, n, _, _, hl, hlen, hf⟩ := DataW.trod_struct Try.underlying44 h
  rw [show Try.prog.cellsOf 44 = 2 by kernel_rfl] at hl
  match xs, hlen, hf with
  | [y0, y1], _, hf =>
    have h0 : DataW.trod enc Try.prog w 0 spare held n 2 ((cs.drop 0).take (Try.prog.cellsOf 2)) = some y0 := hf 0 _ rfl
    obtain ⟨a0, q0, c0⟩ := (opens_int Try.underlying2) h0
    rw [show Try.prog.cellsOf 2 = 1 by kernel_rfl] at c0
    have h1 : DataW.trod enc Try.prog w 0 spare held n 42 ((cs.drop 1).take (Try.prog.cellsOf 42)) = some y1 := hf 1 _ rfl
    obtain ⟨a1, q1, c1⟩ := (opens_slice Try.underlying42 (opens_int Try.underlying5) (by kernel_rfl) (by decide) (elem_one (E := (eI .u8)) fun _ => rfl)) h1
    rw [show Try.prog.cellsOf 42 = 1 by kernel_rfl] at c1
    refine ⟨⟨a0, a1⟩, ⟨q0, q1⟩, ?_⟩
    have c := (VCells_at (o := 0) c0 (VCells_at (o := 1) c1 (VCells_end hl)))
    exact c
structure S_api_Tx where
  Version : Int
  Inputs : List S_api_Input
  Outputs : List S_api_Output
  Lock : Int
abbrev C_api_Tx (x : S_api_Tx) : List V := [(eI .u32 x.Version), (.row none 35 (x.Inputs.map E_api_Input)), (.row none 2 (x.Outputs.map E_api_Output)), (eI .u32 x.Lock)]
abbrev E_api_Tx (x : S_api_Tx) : V := .agg (C_api_Tx x)
@[simp] theorem rns_C_api_Tx {f : Nat → Nat} (l : List S_api_Tx) : V.rns f (l.flatMap C_api_Tx) = l.flatMap C_api_Tx := rns_flat (fun _ => rfl) l
@[simp] theorem rns_K_api_Tx {f : Nat → Nat} (x : S_api_Tx) : V.rns f (C_api_Tx x) = C_api_Tx x := rfl
def Q_api_Tx (x : S_api_Tx) : Prop := ((Lit.int .u32 x.Version).wf = true) ∧ (∀ z0 ∈ x.Inputs, Q_api_Input z0) ∧ (∀ z0 ∈ x.Outputs, Q_api_Output z0) ∧ ((Lit.int .u32 x.Lock).wf = true)
set_option maxRecDepth 100000 in
theorem opens_api_Tx : Opens Try.prog 26 Q_api_Tx C_api_Tx := by
  intro H enc w spare held fuel cs x h
  obtain ⟨xs, n, _, _, hl, hlen, hf⟩ := DataW.trod_struct Try.underlying26 h
  rw [show Try.prog.cellsOf 26 = 4 by kernel_rfl] at hl
  match xs, hlen, hf with
  | [y0, y1, y2, y3], _, hf =>
    have h0 : DataW.trod enc Try.prog w 0 spare held n 22 ((cs.drop 0).take (Try.prog.cellsOf 22)) = some y0 := hf 0 _ rfl
    obtain ⟨a0, q0, c0⟩ := (opens_int Try.underlying22) h0
    rw [show Try.prog.cellsOf 22 = 1 by kernel_rfl] at c0
    have h1 : DataW.trod enc Try.prog w 0 spare held n 23 ((cs.drop 1).take (Try.prog.cellsOf 23)) = some y1 := hf 1 _ rfl
    obtain ⟨a1, q1, c1⟩ := (opens_slice Try.underlying23 opens_api_Input (by kernel_rfl) (by decide) (elem_agg (K := 35) (C := C_api_Input) (fun _ => rfl) (fun _ => rfl))) h1
    rw [show Try.prog.cellsOf 23 = 1 by kernel_rfl] at c1
    have h2 : DataW.trod enc Try.prog w 0 spare held n 24 ((cs.drop 2).take (Try.prog.cellsOf 24)) = some y2 := hf 2 _ rfl
    obtain ⟨a2, q2, c2⟩ := (opens_slice Try.underlying24 opens_api_Output (by kernel_rfl) (by decide) (elem_agg (K := 2) (C := C_api_Output) (fun _ => rfl) (fun _ => rfl))) h2
    rw [show Try.prog.cellsOf 24 = 1 by kernel_rfl] at c2
    have h3 : DataW.trod enc Try.prog w 0 spare held n 22 ((cs.drop 3).take (Try.prog.cellsOf 22)) = some y3 := hf 3 _ rfl
    obtain ⟨a3, q3, c3⟩ := (opens_int Try.underlying22) h3
    rw [show Try.prog.cellsOf 22 = 1 by kernel_rfl] at c3
    refine ⟨⟨a0, a1, a2, a3⟩, ⟨q0, q1, q2, q3⟩, ?_⟩
    have c := (VCells_at (o := 0) c0 (VCells_at (o := 1) c1 (VCells_at (o := 2) c2 (VCells_at (o := 3) c3 (VCells_end hl)))))
    exact c
def Q_api_Coin (x : S_api_Coin) : Prop := (Q_api_OutPoint x.Out) ∧ (Q_api_Output x.Output) ∧ ((Lit.int .i64 x.Height).wf = true) ∧ (True)
set_option maxRecDepth 100000 in
theorem opens_api_Coin : Opens Try.prog 46 Q_api_Coin C_api_Coin := by
  intro H enc w spare held fuel cs x h
  obtain ⟨xs, n, _, _, hl, hlen, hf⟩ := DataW.trod_struct Try.underlying46 h
  rw [show Try.prog.cellsOf 46 = 37 by kernel_rfl] at hl
  match xs, hlen, hf with
  | [y0, y1, y2, y3], _, hf =>
    have h0 : DataW.trod enc Try.prog w 0 spare held n 38 ((cs.drop 0).take (Try.prog.cellsOf 38)) = some y0 := hf 0 _ rfl
    obtain ⟨a0, q0, c0⟩ := opens_api_OutPoint h0
    rw [show Try.prog.cellsOf 38 = 33 by kernel_rfl] at c0
    have h1 : DataW.trod enc Try.prog w 0 spare held n 44 ((cs.drop 33).take (Try.prog.cellsOf 44)) = some y1 := hf 1 _ rfl
    obtain ⟨a1, q1, c1⟩ := opens_api_Output h1
    rw [show Try.prog.cellsOf 44 = 2 by kernel_rfl] at c1
    have h2 : DataW.trod enc Try.prog w 0 spare held n 3 ((cs.drop 35).take (Try.prog.cellsOf 3)) = some y2 := hf 2 _ rfl
    obtain ⟨a2, q2, c2⟩ := (opens_int Try.underlying3) h2
    rw [show Try.prog.cellsOf 3 = 1 by kernel_rfl] at c2
    have h3 : DataW.trod enc Try.prog w 0 spare held n 4 ((cs.drop 36).take (Try.prog.cellsOf 4)) = some y3 := hf 3 _ rfl
    obtain ⟨a3, q3, c3⟩ := (opens_bool Try.underlying4) h3
    rw [show Try.prog.cellsOf 4 = 1 by kernel_rfl] at c3
    refine ⟨⟨a0, a1, a2, a3⟩, ⟨q0, q1, q2, q3⟩, ?_⟩
    have c := (VCells_at (o := 0) c0 (VCells_at (o := 33) c1 (VCells_at (o := 35) c2 (VCells_at (o := 36) c3 (VCells_end hl)))))
    exact c
end Go.Proofs.Ytbjiaiobpbpjoaa
