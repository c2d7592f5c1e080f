import Derived.Test.YtbjiaiobpbpjoaaVmExec
import Derived.ProofKit
import Derived.OpenShut
import Derived.ShutString
import Derived.ChangeOld
import Derived.Lib.SmallJoins
set_option linter.unusedSimpArgs false
set_option linter.unusedVariables false
namespace Go.Vm
open Go Go.ChangeShapes Go.WideShapes Go.ChangeAt Go.RowKit

def NoX : Nat → Prop := fun _ => False

/-- Bytes. -/
def bytesV (l : List UInt8) : List V := l.map fun b => .sc (.int .u8 b.toNat)
@[simp] theorem bytesV_len (l : List UInt8) : (bytesV l).length = l.length := by simp [bytesV]
theorem bytesV_getI (l : List UInt8) {x : Int} (h0 : 0 ≤ x) (h : x < l.length) : (bytesV l)[x.toNat]? = some (.sc (.int .u8 (l.getD x.toNat 0).toNat)) := by
  have : x.toNat < l.length := by omega
  simp [bytesV, this]

section
variable {H : Type} {enc : TypeId × Value → H} {P : Program} {w : World} {spare : Nat → Bool} {held : Bool}
theorem trod_bytes {t e : TypeId} {fuel : Nat} {c : Value} {x : DataW H × List MemPlace} (ht : P.underlying t = some (.slice e)) (he : P.underlying e = some (.int .u8)) (hc : P.cellsOf e = 1)
    (h : DataW.trod enc P w 0 spare held fuel t [c] = some x) : ∃ l : List UInt8, VR NoX [] w (.row none 1 (bytesV l)) c := by
  rcases open_ints ht he hc h with ⟨hcs, _⟩ | ⟨a, len, cap, zs, hcs, _, hl, hm, hz, _, hcell, hwz⟩
  · simp at hcs; subst hcs
    refine ⟨[], ?_⟩
    unfold VR
    exact ⟨none, 0, rfl, Nat.le_refl _, fun _ => rfl, (fun b hb => by cases hb), by simp [bytesV], fun hne => absurd rfl hne⟩
  · simp at hcs; subst hcs
    have hzl : len ≤ zs.length := by rw [hz]; split <;> omega
    refine ⟨(zs.take len).map fun z => UInt8.ofNat z.toNat, ?_⟩
    have hval : ∀ i, i < len → w.cell? (a.add i) = some (.int .u8 ((UInt8.ofNat (zs.getD i 0).toNat).toNat : Int)) := by
      intro i hi
      rw [hcell i (by omega)]
      have hmem : zs.getD i 0 ∈ zs := by
        have : i < zs.length := by omega
        simp [List.getD_eq_getElem?_getD, this]
      have hw := hwz _ hmem
      simp [Lit.wf, IntKind.min, IntKind.max, IntKind.signed, IntKind.bits] at hw
      congr 2
      simp
      omega
    have hlen : (bytesV ((zs.take len).map fun z => UInt8.ofNat z.toNat)).length = len := by simp; omega
    unfold VR
    refine ⟨some a, cap, by rw [hlen], by rw [hlen]; exact hl, fun hh => (by cases hh), (fun b hb => by cases hb), ?_, fun hne => ?_⟩
    · intro e he
      simp only [bytesV, List.mem_map] at he
      obtain ⟨b, _, rfl⟩ := he
      rfl
    · have hpos : 0 < len := by
        rcases Nat.eq_zero_or_pos len with h0 | h0
        · exact absurd (List.eq_nil_of_length_eq_zero (by rw [hlen]; exact h0)) hne
        · exact h0
      have hsp : a.spot = none := by
        have := World.cell?_spot (hval 0 hpos)
        simpa [Addr.add] using this
      refine ⟨a, rfl, by omega, id, hsp, ?_⟩
      refine VRow.ofCells rfl (vs := (List.range len).map fun i => .int .u8 ((UInt8.ofNat (zs.getD i 0).toNat).toNat : Int)) ?_ ?_ ?_
      · refine VCells.mk (by rw [hlen]; simp) (fun i c v hc hv => ?_)
        have hi : i < len := by have := (List.getElem?_eq_some_iff.1 hc).1; rw [hlen] at this; exact this
        have hiz : i < zs.length := by omega
        simp [bytesV, hi, hiz] at hc
        simp [hi, hiz] at hv
        subst hc hv
        unfold VR
        rfl
      · intro c hc
        simp only [bytesV, List.mem_map] at hc
        obtain ⟨b, _, rfl⟩ := hc
        rfl
      · intro j u hu
        have hj : j < len := by
          have := (Array.getElem?_eq_some_iff.1 hu).1; simpa using this
        simp [hj] at hu
        subst hu
        rw [hval j hj]
        simp

theorem below_trodAll {W W' : World} (hlaid : laidOutB P = true) (hb : Below W.heap.size W W') : ∀ {ts : List TypeId} {vs : List Value} {ds : List (DataW H)} {p : List MemPlace},
    (∀ t ∈ ts, P.readableRec t = true ∧ t < P.types.size) → DataW.TrodAll enc P W 0 (fun _ => true) true ts vs ds p → DataW.TrodAll enc P W' 0 (fun b => decide (b < W.heap.size)) true ts vs ds p
  | [], vs, ds, p, _, h => by obtain ⟨rfl, rfl, rfl⟩ := trodAll_nil h; exact trodAll_mk0
  | t :: ts, vs, ds, p, hr, h => by
    obtain ⟨v, vs', d, ds', p', q, rfl, rfl, rfl, h1, h2⟩ := trodAll_cons h
    obtain ⟨r1, r2⟩ := hr t (by simp)
    refine trodAll_cons_mk (Below.trod hlaid r1 r2 h1 hb ?_) (below_trodAll hlaid hb (fun t ht => hr t (by simp [ht])) h2)
    obtain ⟨m, hm⟩ := h1
    exact DataW.trod_lt m _ _ _ hm
end

theorem calls_of_pfn {P : Program} {f : FuncId} {fn : Func} {c : Code} {args : List V} {vs : List Value} {w : World} (hf : P.funcs[f]? = some fn) (hb : fn.body = some c) (hn : (fn.name == "runtime.NumGoroutine") = false)
    (hp : PFn P f args (.sc (.bool true))) (hGl : Globs NoX w) (hv : VCells NoX [] w args vs) : Calls P f vs.toArray w fun e w' => e = .returned (.bool true) ∧ Below w.heap.size w w' := by
  rcases hp NoX w vs (fun _ h => h.elim) hGl hv with ⟨_, h⟩ | ⟨v, w', h, _⟩
  · refine h.mono fun e w' ⟨v, he, hE, hr⟩ => ?_
    unfold VR at hr
    subst hr
    exact ⟨he, hE.below fun _ _ h => h⟩
  · rw [run_enter hf (by rw [hb]; rfl) hn] at h
    cases h
end Go.Vm
