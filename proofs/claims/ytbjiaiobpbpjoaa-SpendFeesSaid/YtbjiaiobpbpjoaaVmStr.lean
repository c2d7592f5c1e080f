import Derived.Test.YtbjiaiobpbpjoaaVmFrz
import Derived.Laws.IdiomStrings
set_option linter.unusedSimpArgs false
set_option linter.unusedVariables false
namespace Go.Vm
open Go

/-! ### Strings and bytes -/
/-- The bytes of a string. -/
def bytesOf (s : ByteArray) : List Int := s.data.toList.map fun b => (b.toNat : Int)
/-- '[]byte(s)'. -/
def stb (s : ByteArray) : Option (List Int) := if s.size ≤ lim then some (bytesOf s) else none
theorem bytesOf_len (s : ByteArray) : (bytesOf s).length = s.size := by unfold bytesOf; rw [List.length_map]; rfl
/-- 's[i]'. -/
def sidx (s : ByteArray) (i : Int) : Option Int := if 0 ≤ i then (s[i.toNat]?).map (fun b => (b.toNat : Int)) else none
section
variable {P : Program} {N n : Nat} {ops : Array Oper} {l : List Oper} {fr : List (Nat × V)} {h h' : Hp} {K : List V → Hp → Prop}
theorem ixT {t : TypeId} {s : ByteArray} {k : IntKind} {j v : Int} {sz by_ : Nat} {z : Value} (ht : tiOf P t = some ⟨.string, sz, by_, z⟩) (hx : sidx s j = some v) : indexV P t (.sc (.string s)) (.sc (.int k j)) = some (.sc (.int .u8 v)) := by
  unfold sidx at hx
  split at hx
  · rename_i h0
    simp only [Option.map_eq_some_iff] at hx
    obtain ⟨b, hb, rfl⟩ := hx
    simp [indexV, ht, asIdx, h0, hb]
  · cases hx
theorem OpsW.does {o : Oper} {v : V} {s : List V} (hw : wantedV ops o s = some true) (hD : ∀ (A : Nat → Prop) (M : List (Option Nat)) (a : Act) (w : World), HR A M h w → SR (Xs A M h) M w s a → Does P o a w A M h v h')
    (hk : OpsW P N ops l (putV s o.dst v) h' K) : OpsW P N ops (o :: l) s h K := fun k hl A M0 M h0 w0 a w Q hN hM G R hQ => by
  have h0' : ops[k]? = some o := by simpa using (hl 0).symm
  simp only [List.length_cons, List.range'_succ]
  rw [wpOps_cons]
  unfold wpOp
  rw [h0']
  simp only
  rw [wanted_sound R.sr hw, if_pos rfl]
  refine .inl (hD A M a w R.hr R.sr _ _ fun v' w' M' G' hv => ?_)
  exact hk (k + 1) (fun j => by have := hl (j + 1); simpa [Nat.add_assoc, Nat.add_comm 1 j] using this) A M0 M' h0 w0 _ w' Q hN hM (G.trans G') ⟨G'.hr, (SR.keep G' R.sr).put o.dst hv, by rw [put_defers]; exact R.defers⟩ hQ
theorem bytesOf_cells {X : Nat → Prop} {M : List (Option Nat)} {w : World} (s : ByteArray) : VCells X M w ((bytesOf s).map (eI .u8)) (s.data.toList.map fun b => Value.int .u8 b.toNat) := by
  refine VCells.mk (by simp [bytesOf]) (fun i c v hc hv => ?_)
  simp only [bytesOf, List.map_map, List.getElem?_map, Option.map_eq_some_iff] at hc hv
  obtain ⟨b, hb, rfl⟩ := hc
  obtain ⟨b', hb', rfl⟩ := hv
  rw [hb] at hb'
  injection hb' with hb'
  subst hb'
  unfold VR; rfl
theorem wStr {t : Nat} {a b e : TypeId} {x : Operand} {s : ByteArray} {r : List Int} {i : Nat} {s1 b1 s2 b2 s3 b3 : Nat} {z1 z2 z3 : Value} {ty : TypeId} {pos : String} {aft : Array Edge} (hx : evF n fr x = some (.sc (.string s)))
    (ha : tiOf P a = some ⟨.string, s1, b1, z1⟩) (hb : tiOf P b = some ⟨.slice e, s2, b2, z2⟩) (he : tiOf P e = some ⟨.int .u8, s3, b3, z3⟩) (hs : stb s = some r) (hl : h.length = i) (hh : h ++ [some ⟨e, r.map (eI .u8)⟩] = h')
    (k : OpsW P N ops l (mkF n ((t, .sl i 0 r.length 1 false) :: fr)) h' K) : OpsW P N ops (⟨some t, .convert a b x, ty, pos, aft, none⟩ :: l) (mkF n fr) h K := by
  subst hl hh
  unfold stb at hs
  split at hs
  · rename_i hsz
    injection hs with hs
    subst hs
    refine OpsW.does (v := .sl h.length 0 (bytesOf s).length 1 false) rfl ?_ (by dsimp only; rw [putF]; exact k)
    intro A M ac w H S
    have hev : ac.eval x = .string s := by have := ev_sound H.glob S (evF_ev hx); unfold VR at this; exact this
    have hge := grownCap_ge w s.size 0 e
    have hcm : grownCap w s.size 0 e ≤ maxLen := grownCap_le_maxLen w s.size 0 e (by unfold lim at hsz; simp only [maxLen]; omega)
    have hrow : (bytesRow s (grownCap w s.size 0 e)).size = grownCap w s.size 0 e := by
      simp only [bytesRow, Array.size_append, Array.size_map, Array.size_replicate]
      show s.size + _ = _
      omega
    have Gd := Grow.drew H
    have G := Gd.trans (Grow.allocF Gd.hr e ((bytesOf s).map (eI .u8)) (bytesRow s (grownCap w s.size 0 e)) (by rw [hrow, List.length_map, bytesOf_len]; exact hge) (by
      have : (bytesRow s (grownCap w s.size 0 e)).toList.take ((bytesOf s).map (eI .u8)).length = s.data.toList.map fun b => Value.int .u8 b.toNat := by
        simp only [bytesRow, Array.toList_append, Array.toList_map]
        rw [show ((bytesOf s).map (eI .u8)).length = (s.data.toList.map fun b => Value.int .u8 b.toNat).length by simp [bytesOf]]
        exact List.take_left
      rw [this]
      exact bytesOf_cells s) (fun c hc => by
        simp only [List.mem_map] at hc
        obtain ⟨y, _, rfl⟩ := hc
        rfl) _ (.inr rfl))
    refine Does.value (sem := convert a b (.string s)) (by simp [execOp, hev]) ⟨_, _, _, run_bytes_of_string w a b e s (tiOf_spec ha).1 (tiOf_spec hb).1 (tiOf_spec he).1, G, ?_⟩
    unfold VR
    refine .inr ⟨w.heap.size, grownCap w s.size 0 e, e, grownCap w s.size 0 e, by rw [← H.len]; simp, by rw [bytesOf_len], by rw [bytesOf_len]; exact hge, hcm, by omega, ?_, by omega⟩
    unfold World.shape?
    rw [show (w.drew.alloc (.cells (bytesRow s (grownCap w s.size 0 e)) e ((bytesRow s (grownCap w s.size 0 e)).size, (bytesRow s (grownCap w s.size 0 e)).size + 1))).heap[w.heap.size]? = some (.cells (bytesRow s (grownCap w s.size 0 e)) e ((bytesRow s (grownCap w s.size 0 e)).size, (bytesRow s (grownCap w s.size 0 e)).size + 1)) from heap_alloc_new w.drew _]
    simp only [hrow]
  · cases hs
end
end Go.Vm
