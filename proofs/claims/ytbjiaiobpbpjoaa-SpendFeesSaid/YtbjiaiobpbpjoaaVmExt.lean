import Derived.Test.YtbjiaiobpbpjoaaVmArr
set_option linter.unusedSimpArgs false
set_option linter.unusedVariables false
namespace Go.Vm
open Go

/-! ### Functions that the model itself gives -/
theorem fn_ext {P : Program} {f : FuncId} {fn : Func} {args : List V} {r : V} {h : Hp} {e : Array Value → Sem Value} (hf : P.funcs[f]? = some fn) (hn : (fn.name == "runtime.NumGoroutine") = false) (hb : fn.body.isNone = true) (h1 : Extern.findNext fn = none) (h2 : Extern.find fn = some e)
    (he : ∀ (X : Nat → Prop) (M : List (Option Nat)) (w : World) (vs : List Value), VCells X M w args vs → ∃ v, (e vs.toArray).run P w = .ok v w ∧ VR X M w r v) : Fn P f h args r h := by
  intro A M w vs H hargs
  obtain ⟨v, hv, hr⟩ := he _ _ _ _ hargs
  refine .inr ⟨v, w, ?_, M, Grow.refl H, hr⟩
  have e1 : (callFunc f vs.toArray).run P w = ((e vs.toArray).run P w).andThen fun v w => .ok (.value v) w := by
    unfold callFunc
    show Sem.run P (match P.funcs[f]? with | none => _ | some fn => _) w = _
    rw [hf]
    simp only [hn, Bool.false_eq_true, if_false, hb, if_true, h1, h2]
    show Sem.run P (Sem.bind (e vs.toArray) _) w = _
    exact Sem.run_bind ..
  rw [e1, hv]
  rfl
/-- Where a byte is first in a text, or -1. -/
def ixb (s : ByteArray) (c : Int) : Int := match (List.range s.size).find? (fun i => s[i]! == c.toNat.toUInt8) with
  | some i => i
  | none => -1
theorem fn_ixb {P : Program} {f : FuncId} {fn : Func} (hf : P.funcs[f]? = some fn) (hn : (fn.name == "runtime.NumGoroutine") = false) (hb : fn.body.isNone = true) (h1 : Extern.findNext fn = none) (h2 : Extern.find fn = some Extern.BytealgIndexByte.indexByte) (s : ByteArray) (c : Int) : Fn P f [] [eS s, eI .u8 c] (eI .i64 (ixb s c)) [] := by
  refine fn_ext hf hn hb h1 h2 fun X M w vs hv => ?_
  unfold VCells at hv
  obtain ⟨v, rest, rfl, hv, hr⟩ := hv
  unfold VCells at hr
  obtain ⟨u, rest, rfl, hu, hr⟩ := hr
  unfold VCells at hr
  subst hr
  unfold VR at hv hu
  subst hv hu
  refine ⟨.int .i64 (ixb s c), ?_, by unfold VR; rfl⟩
  show Sem.run P (match (List.range s.size).find? (fun i => s[i]! == c.toNat.toUInt8) with | some i => pure (goInt i) | none => pure (goInt (-1))) w = _
  unfold ixb
  cases (List.range s.size).find? (fun i => s[i]! == c.toNat.toUInt8) <;> rfl
end Go.Vm
