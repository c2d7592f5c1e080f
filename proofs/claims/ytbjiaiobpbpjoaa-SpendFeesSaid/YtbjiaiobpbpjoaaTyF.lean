import Derived.Test.YtbjiaiobpbpjoaaTy
import Derived.Test.YtbjiaiobpbpjoaaSh
import Derived.Test.YtbjiaiobpbpjoaaVmAis
namespace Go.Proofs.Ytbjiaiobpbpjoaa
open Go Go.Vm
theorem mixed : Try.prog.follows .mixedOrders = true := by kernel_rfl
theorem dep : 2 ≤ Try.prog.depth := Nat.le_of_ble_eq_true (by kernel_rfl)
noncomputable def E0 : Env Try.prog := Env.zero mixed
theorem fap26_0 (b off : Nat) : fieldAtV Try.prog 26 (.ptr b off) 0 = some (.ptr b (off + 0)) := by simp [fieldAtV, ti26, ti22]
theorem fae26_0 (es : List V) (i off : Nat) : fieldAtV Try.prog 26 (.eptr es i off) 0 = some (.eptr es i (off + 0)) := by simp [fieldAtV, ti26, ti22]
theorem fap26_1 (b off : Nat) : fieldAtV Try.prog 26 (.ptr b off) 1 = some (.ptr b (off + 1)) := by simp [fieldAtV, ti26, ti23]
theorem fae26_1 (es : List V) (i off : Nat) : fieldAtV Try.prog 26 (.eptr es i off) 1 = some (.eptr es i (off + 1)) := by simp [fieldAtV, ti26, ti23]
theorem fap26_2 (b off : Nat) : fieldAtV Try.prog 26 (.ptr b off) 2 = some (.ptr b (off + 2)) := by simp [fieldAtV, ti26, ti24]
theorem fae26_2 (es : List V) (i off : Nat) : fieldAtV Try.prog 26 (.eptr es i off) 2 = some (.eptr es i (off + 2)) := by simp [fieldAtV, ti26, ti24]
theorem fap26_3 (b off : Nat) : fieldAtV Try.prog 26 (.ptr b off) 3 = some (.ptr b (off + 3)) := by simp [fieldAtV, ti26, ti22]
theorem fae26_3 (es : List V) (i off : Nat) : fieldAtV Try.prog 26 (.eptr es i off) 3 = some (.eptr es i (off + 3)) := by simp [fieldAtV, ti26, ti22]
theorem fap38_0 (b off : Nat) : fieldAtV Try.prog 38 (.ptr b off) 0 = some (.ptr b (off + 0)) := by simp [fieldAtV, ti38, ti36]
theorem fae38_0 (es : List V) (i off : Nat) : fieldAtV Try.prog 38 (.eptr es i off) 0 = some (.eptr es i (off + 0)) := by simp [fieldAtV, ti38, ti36]
theorem fap38_1 (b off : Nat) : fieldAtV Try.prog 38 (.ptr b off) 1 = some (.ptr b (off + 32)) := by simp [fieldAtV, ti38, ti22]
theorem fae38_1 (es : List V) (i off : Nat) : fieldAtV Try.prog 38 (.eptr es i off) 1 = some (.eptr es i (off + 32)) := by simp [fieldAtV, ti38, ti22]
theorem fap41_0 (b off : Nat) : fieldAtV Try.prog 41 (.ptr b off) 0 = some (.ptr b (off + 0)) := by simp [fieldAtV, ti41, ti38]
theorem fae41_0 (es : List V) (i off : Nat) : fieldAtV Try.prog 41 (.eptr es i off) 0 = some (.eptr es i (off + 0)) := by simp [fieldAtV, ti41, ti38]
theorem fap41_1 (b off : Nat) : fieldAtV Try.prog 41 (.ptr b off) 1 = some (.ptr b (off + 33)) := by simp [fieldAtV, ti41, ti22]
theorem fae41_1 (es : List V) (i off : Nat) : fieldAtV Try.prog 41 (.eptr es i off) 1 = some (.eptr es i (off + 33)) := by simp [fieldAtV, ti41, ti22]
theorem fap41_2 (b off : Nat) : fieldAtV Try.prog 41 (.ptr b off) 2 = some (.ptr b (off + 34)) := by simp [fieldAtV, ti41, ti39]
theorem fae41_2 (es : List V) (i off : Nat) : fieldAtV Try.prog 41 (.eptr es i off) 2 = some (.eptr es i (off + 34)) := by simp [fieldAtV, ti41, ti39]
theorem fap44_0 (b off : Nat) : fieldAtV Try.prog 44 (.ptr b off) 0 = some (.ptr b (off + 0)) := by simp [fieldAtV, ti44, ti2]
theorem fae44_0 (es : List V) (i off : Nat) : fieldAtV Try.prog 44 (.eptr es i off) 0 = some (.eptr es i (off + 0)) := by simp [fieldAtV, ti44, ti2]
theorem fap44_1 (b off : Nat) : fieldAtV Try.prog 44 (.ptr b off) 1 = some (.ptr b (off + 1)) := by simp [fieldAtV, ti44, ti42]
theorem fae44_1 (es : List V) (i off : Nat) : fieldAtV Try.prog 44 (.eptr es i off) 1 = some (.eptr es i (off + 1)) := by simp [fieldAtV, ti44, ti42]
theorem fap46_0 (b off : Nat) : fieldAtV Try.prog 46 (.ptr b off) 0 = some (.ptr b (off + 0)) := by simp [fieldAtV, ti46, ti38]
theorem fae46_0 (es : List V) (i off : Nat) : fieldAtV Try.prog 46 (.eptr es i off) 0 = some (.eptr es i (off + 0)) := by simp [fieldAtV, ti46, ti38]
theorem fap46_1 (b off : Nat) : fieldAtV Try.prog 46 (.ptr b off) 1 = some (.ptr b (off + 33)) := by simp [fieldAtV, ti46, ti44]
theorem fae46_1 (es : List V) (i off : Nat) : fieldAtV Try.prog 46 (.eptr es i off) 1 = some (.eptr es i (off + 33)) := by simp [fieldAtV, ti46, ti44]
theorem pl26 : placesOf Try.prog 26 = some #[(0, 1), (1, 1), (2, 1), (3, 1)] := by kernel_rfl
theorem pl38 : placesOf Try.prog 38 = some #[(0, 32), (32, 1)] := by kernel_rfl
theorem pl41 : placesOf Try.prog 41 = some #[(0, 33), (33, 1), (34, 1)] := by kernel_rfl
theorem pl44 : placesOf Try.prog 44 = some #[(0, 1), (1, 1)] := by kernel_rfl
theorem pl46 : placesOf Try.prog 46 = some #[(0, 33), (33, 2), (35, 1), (36, 1)] := by kernel_rfl
theorem ft38 : flatTy Try.prog 9 38 = some ((List.replicate 32 ([.int .u8])).flatten ++ [.int .u32]) := by kernel_rfl
theorem eg38 : Try.prog.eqGuardType Try.prog.depth 38 = false := by kernel_rfl
noncomputable def mt_52 : MT := (mapTy Try.prog 52).getD default
theorem mt52 : mapTy Try.prog 52 = some mt_52 := by kernel_rfl
theorem mc52 : mt_52.code = 33000 := by kernel_rfl
theorem mk52 : shN mt_52.dk = 33 := by kernel_rfl
theorem me52 : shN mt_52.de = 0 := by kernel_rfl
theorem mz52 : ofValue mt_52.de.zero = (eB false) := by kernel_rfl
theorem mkt52 : mt_52.kt = 38 := by kernel_rfl
theorem ko52 : KeyOk Try.prog mt_52.kt (fun a : S_api_OutPoint => .agg (vals (C_api_OutPoint a)).toArray) Q_52 := by
  rw [mkt52]; exact keyOk_flat (d := 9) ti38 rfl ft38 (Nat.le_of_ble_eq_true rfl) (fun _ => rfl) (fun _ _ => rfl)
end Go.Proofs.Ytbjiaiobpbpjoaa
