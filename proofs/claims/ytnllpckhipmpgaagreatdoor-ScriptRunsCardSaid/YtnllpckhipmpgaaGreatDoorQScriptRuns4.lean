/- Texts of ours, joined: PlainU2, PlainU3, PlainU4, PlainV1, PlainV2, PlainV3, PlainN1, PlainH1, PlainH2, PlainC1, PlainN2, PlainV4, PlainV5, PlainR1, PlainV6, PlainVG, PlainC2, PlainC3, PlainVH, PlainVI, PlainC4, PlainC5, PlainC6, PlainC7, PlainK1. -/
import Derived.Test.YtnllpckhipmpgaaGreatDoorQScriptRuns3
set_option linter.unusedSimpArgs false
set_option linter.unusedVariables false
set_option linter.unusedSectionVars false
namespace Go.Proofs.YtnllpckhipmpgaaGreatDoor
open Go Go.Vm
theorem um {a b : Nat} (h : a * b < 18446744073709551616) : IntKind.u64.wrap ((a : Int) * (b : Int)) = ((a * b : Nat) : Int) := by rw [← Int.natCast_mul,uJ (by omega) (by omega)]
theorem up {a b : Nat} (h : a + b < 18446744073709551616) : IntKind.u64.wrap ((a : Int) + (b : Int)) = ((a + b : Nat) : Int) := by rw [← Int.natCast_add,uJ (by omega) (by omega)]
theorem aIs {x : Nat} (h : x < 18446744073709551616) : bits .and .u64 (x : Int) 4294967295 = ((x % 4294967296 : Nat) : Int) := by
 rw [show (4294967295 : Int) = ((4294967295 : Nat) : Int) from rfl,aCk (k := .u64) rfl x _ (show x < 2 ^ 64 from h) (by decide),show 4294967295 = 2 ^ 32 - 1 from rfl,Nat.and_two_pow_sub_one_eq_mod]
theorem aCq {x : Nat} (h : x < 18446744073709551616) : shr .u64 (x : Int) 32 = some ((x / 4294967296 : Nat) : Int) := uP x 32 h
theorem aKj {N x y : Nat} (hx : x < 18446744073709551616) (hy : y < 18446744073709551616) : ∃ h l : Nat,i9 N (x : Int) (y : Int) = some ((h : Int),(l : Int)) ∧ x * y = l + 18446744073709551616 * h ∧ l < 18446744073709551616 ∧ h < 18446744073709551616 := by
 have x0 : x % 4294967296 ≤ 4294967295 := by omega
 have y0 : y % 4294967296 ≤ 4294967295 := by omega
 have x1 : x / 4294967296 ≤ 4294967295 := by omega
 have y1 : y / 4294967296 ≤ 4294967295 := by omega
 have ex : x = 4294967296 * (x / 4294967296) + x % 4294967296 := by omega
 have ey : y = 4294967296 * (y / 4294967296) + y % 4294967296 := by omega
 have lo : IntKind.u64.wrap ((x : Int) * (y : Int)) = ((x * y % 18446744073709551616 : Nat) : Int) := by rw [← Int.natCast_mul,IntKind.wrap_u64]; omega
 unfold i9
 rw [aIs hx,aIs hy,aCq hx,aCq hy,lo]
 simp only [Option.bind_some]
 generalize x / 4294967296 = u1 at *
 generalize x % 4294967296 = u0 at *
 generalize y / 4294967296 = v1 at *
 generalize y % 4294967296 = v0 at *
 have p00 := Nat.mul_le_mul x0 y0
 have p10 := Nat.mul_le_mul x1 y0
 have p01 := Nat.mul_le_mul x0 y1
 have p11 := Nat.mul_le_mul x1 y1
 have hxy : x * y = 18446744073709551616 * (u1 * v1) + 4294967296 * (u1 * v0) + 4294967296 * (u0 * v1) + u0 * v0 := by
  rw [ex,ey,Nat.add_mul,Nat.mul_add,Nat.mul_add,Nat.mul_mul_mul_comm,Nat.mul_assoc 4294967296 u1 v0,Nat.mul_left_comm u0 4294967296 v1]
  omega
 rw [um (a := u0) (b := v0) (by omega),um (a := u1) (b := v0) (by omega),um (a := u0) (b := v1) (by omega),um (a := u1) (b := v1) (by omega)]
 clear ex ey lo
 generalize u0 * v0 = q00 at *
 generalize u1 * v0 = q10 at *
 generalize u0 * v1 = q01 at *
 generalize u1 * v1 = q11 at *
 rw [aCq (x := q00) (by omega)]
 simp only [Option.bind_some]
 rw [up (a := q10) (by omega),aCq (x := q10 + q00 / 4294967296) (by omega),aIs (x := q10 + q00 / 4294967296) (by omega)]
 simp only [Option.bind_some]
 rw [up (a := (q10 + q00 / 4294967296) % 4294967296) (by omega),aCq (x := (q10 + q00 / 4294967296) % 4294967296 + q01) (by omega)]
 simp only [Option.bind_some]
 rw [up (a := q11) (by omega),up (a := q11 + (q10 + q00 / 4294967296) / 4294967296) (by omega)]
 exact ⟨_,_,rfl,by omega,by omega,by omega⟩
theorem oV {N A b w c : Nat} (hA : A < 18446744073709551616) (hb : b < 18446744073709551616) (hw : w < 18446744073709551616) (hc : c < 18446744073709551616) : ∃ h l s k s' k' d : Nat,i9 N (A : Int) (b : Int) = some ((h : Int),(l : Int)) ∧ oU (l : Int) (w : Int) 0 = some ((s : Int),(k : Int)) ∧ oU (s : Int) (c : Int) 0 = some ((s' : Int),(k' : Int)) ∧
  IntKind.u64.wrap (IntKind.u64.wrap ((h : Int) + (k : Int)) + (k' : Int)) = (d : Int) ∧ A * b + w + c = s' + 18446744073709551616 * d ∧ s' < 18446744073709551616 ∧ d < 18446744073709551616 := by
 obtain ⟨h,l,e1,f1,l1,h1⟩ := aKj (N := N) hA hb
 obtain ⟨s,k,e2,f2,l2,h2⟩ := oO l1 hw (Nat.zero_le 1)
 obtain ⟨s',k',e3,f3,l3,h3⟩ := oO l2 hc (Nat.zero_le 1)
 have hP := Nat.mul_le_mul (Nat.le_pred_of_lt hA) (Nat.le_pred_of_lt hb)
 simp only [Nat.pred_eq_sub_one,Nat.reduceSub,Nat.reduceMul] at hP
 have hd : h + k + k' < 18446744073709551616 := by omega
 refine ⟨h,l,s,k,s',k',h + k + k',e1,e2,e3, ?_,by omega,l3,hd⟩
 rw [up (by omega),up (by omega)]
theorem q80 (a b c d e f g h : Int) : bB 8 [a,b,c,d,e,f,g,h] 0 = some a := rfl
theorem q81 (a b c d e f g h : Int) : bB 8 [a,b,c,d,e,f,g,h] 1 = some b := rfl
theorem q82 (a b c d e f g h : Int) : bB 8 [a,b,c,d,e,f,g,h] 2 = some c := rfl
theorem q83 (a b c d e f g h : Int) : bB 8 [a,b,c,d,e,f,g,h] 3 = some d := rfl
theorem q84 (a b c d e f g h : Int) : bB 8 [a,b,c,d,e,f,g,h] 4 = some e := rfl
theorem q85 (a b c d e f g h : Int) : bB 8 [a,b,c,d,e,f,g,h] 5 = some f := rfl
theorem q86 (a b c d e f g h : Int) : bB 8 [a,b,c,d,e,f,g,h] 6 = some g := rfl
theorem q87 (a b c d e f g h : Int) : bB 8 [a,b,c,d,e,f,g,h] 7 = some h := rfl
theorem t80 (a b c d e f g h x : Int) : [a,b,c,d,e,f,g,h].set (Int.toNat 0) x = [x,b,c,d,e,f,g,h] := rfl
theorem t81 (a b c d e f g h x : Int) : [a,b,c,d,e,f,g,h].set (Int.toNat 1) x = [a,x,c,d,e,f,g,h] := rfl
theorem t82 (a b c d e f g h x : Int) : [a,b,c,d,e,f,g,h].set (Int.toNat 2) x = [a,b,x,d,e,f,g,h] := rfl
theorem t83 (a b c d e f g h x : Int) : [a,b,c,d,e,f,g,h].set (Int.toNat 3) x = [a,b,c,x,e,f,g,h] := rfl
theorem t84 (a b c d e f g h x : Int) : [a,b,c,d,e,f,g,h].set (Int.toNat 4) x = [a,b,c,d,x,f,g,h] := rfl
theorem t85 (a b c d e f g h x : Int) : [a,b,c,d,e,f,g,h].set (Int.toNat 5) x = [a,b,c,d,e,x,g,h] := rfl
theorem t86 (a b c d e f g h x : Int) : [a,b,c,d,e,f,g,h].set (Int.toNat 6) x = [a,b,c,d,e,f,x,h] := rfl
theorem t87 (a b c d e f g h x : Int) : [a,b,c,d,e,f,g,h].set (Int.toNat 7) x = [a,b,c,d,e,f,g,x] := rfl
theorem x00 : IntKind.i64.wrap (0 + 0) = 0 := by decide +kernel
theorem x01 : IntKind.i64.wrap (0 + 1) = 1 := by decide +kernel
theorem x02 : IntKind.i64.wrap (0 + 2) = 2 := by decide +kernel
theorem x03 : IntKind.i64.wrap (0 + 3) = 3 := by decide +kernel
theorem x04 : IntKind.i64.wrap (0 + 4) = 4 := by decide +kernel
theorem b8 : IntKind.i64.wrap (1 + 0) = 1 := by decide +kernel
theorem bX : IntKind.i64.wrap (1 + 1) = 2 := by decide +kernel
theorem eE : IntKind.i64.wrap (1 + 2) = 3 := by decide +kernel
theorem cD : IntKind.i64.wrap (1 + 3) = 4 := by decide +kernel
theorem bC : IntKind.i64.wrap (1 + 4) = 5 := by decide +kernel
theorem bE : IntKind.i64.wrap (2 + 0) = 2 := by decide +kernel
theorem dI : IntKind.i64.wrap (2 + 1) = 3 := by decide +kernel
theorem bN : IntKind.i64.wrap (2 + 2) = 4 := by decide +kernel
theorem fN : IntKind.i64.wrap (2 + 3) = 5 := by decide +kernel
theorem fO : IntKind.i64.wrap (2 + 4) = 6 := by decide +kernel
theorem lA : IntKind.i64.wrap (3 + 0) = 3 := by decide +kernel
theorem dL : IntKind.i64.wrap (3 + 1) = 4 := by decide +kernel
theorem pK : IntKind.i64.wrap (3 + 2) = 5 := by decide +kernel
theorem kY : IntKind.i64.wrap (3 + 3) = 6 := by decide +kernel
theorem e8 : IntKind.i64.wrap (3 + 4) = 7 := by decide +kernel
theorem aOx {N : Nat} (hN : 70000 ≤ N) {va : List Int} {A b0 b1 b2 b3 w0 w1 w2 w3 w4' w5 w6 w7 : Nat} (hA : bB 4 va 0 = some (A : Int)) (gA : A < 18446744073709551616) (g0 : b0 < 18446744073709551616) (g1 : b1 < 18446744073709551616) (g2 : b2 < 18446744073709551616) (g3 : b3 < 18446744073709551616) (h0 : w0 < 18446744073709551616) (h1 : w1 < 18446744073709551616) (h2 : w2 < 18446744073709551616) (h3 : w3 < 18446744073709551616) :
  ∃ s0 s1 s2 s3 c : Nat,b9 N va (w4 b0 b1 b2 b3) 0 N 0 0 [(w0 : Int),(w1 : Int),(w2 : Int),(w3 : Int),(w4' : Int),(w5 : Int),(w6 : Int),(w7 : Int)] = some ((c : Int),[(s0 : Int),(s1 : Int),(s2 : Int),(s3 : Int),(w4' : Int),(w5 : Int),(w6 : Int),(w7 : Int)]) ∧ vl w0 w1 w2 w3 + (A * b0 + 18446744073709551616 * (A * b1) + 340282366920938463463374607431768211456 * (A * b2) + 6277101735386680763835789423207666416102355444464034512896 * (A * b3)) = vl s0 s1 s2 s3 + 115792089237316195423570985008687907853269984665640564039457584007913129639936 * c ∧ s0 < 18446744073709551616 ∧ s1 < 18446744073709551616 ∧ s2 < 18446744073709551616 ∧ s3 < 18446744073709551616 ∧ c < 18446744073709551616 := by
 obtain ⟨hh0,ll0,ss0,kk0,s0,jj0,c0,e0,f0,m0,n0,v0,y0,z0⟩ := oV (N := N) gA g0 h0 (show (0 : Nat) < 18446744073709551616 by omega)
 obtain ⟨hh1,ll1,ss1,kk1,s1,jj1,c1,e1,f1,m1,n1,v1,y1,z1⟩ := oV (N := N) gA g1 h1 z0
 obtain ⟨hh2,ll2,ss2,kk2,s2,jj2,c2,e2,f2,m2,n2,v2,y2,z2⟩ := oV (N := N) gA g2 h2 z1
 obtain ⟨hh3,ll3,ss3,kk3,s3,jj3,c3,e3,f3,m3,n3,v3,y3,z3⟩ := oV (N := N) gA g3 h3 z2
 refine ⟨s0,s1,s2,s3,c3, ?_,by unfold vl; omega,y0,y1,y2,y3,z3⟩
 obtain ⟨m,hm⟩ := q4 (fun q => b9 N va (w4 b0 b1 b2 b3) 0 q 0 0 [(w0 : Int),(w1 : Int),(w2 : Int),(w3 : Int),(w4' : Int),(w5 : Int),(w6 : Int),(w7 : Int)]) hN
 rw [hm]
 have m0' : oU (ss0 : Int) 0 0 = some ((s0 : Int),(jj0 : Int)) := m0
 simp only [b9,cS,hA,a40,a41,a42,a43,q80,q81,q82,q83,q84,q85,q86,q87,t80,t81,t82,t83,t84,t85,t86,t87,i01,i12,i23,i34,d04,d14,d24,d34,d44,x00,x01,x02,x03,x04,b8,bX,eE,cD,bC,bE,dI,bN,fN,fO,lA,dL,pK,kY,e8,if_true,Bool.false_eq_true,if_false,Option.bind_some,e0,e1,e2,e3,f0,f1,f2,f3,m0',m1,m2,m3,n0,n1,n2,n3]
theorem aPt {N : Nat} (hN : 70000 ≤ N) {va : List Int} {A b0 b1 b2 b3 w0 w1 w2 w3 w4' w5 w6 w7 : Nat} (hA : bB 4 va 1 = some (A : Int)) (gA : A < 18446744073709551616) (g0 : b0 < 18446744073709551616) (g1 : b1 < 18446744073709551616) (g2 : b2 < 18446744073709551616) (g3 : b3 < 18446744073709551616) (h0 : w1 < 18446744073709551616) (h1 : w2 < 18446744073709551616) (h2 : w3 < 18446744073709551616) (h3 : w4' < 18446744073709551616) :
  ∃ s0 s1 s2 s3 c : Nat,b9 N va (w4 b0 b1 b2 b3) 1 N 0 0 [(w0 : Int),(w1 : Int),(w2 : Int),(w3 : Int),(w4' : Int),(w5 : Int),(w6 : Int),(w7 : Int)] = some ((c : Int),[(w0 : Int),(s0 : Int),(s1 : Int),(s2 : Int),(s3 : Int),(w5 : Int),(w6 : Int),(w7 : Int)]) ∧ vl w1 w2 w3 w4' + (A * b0 + 18446744073709551616 * (A * b1) + 340282366920938463463374607431768211456 * (A * b2) + 6277101735386680763835789423207666416102355444464034512896 * (A * b3)) = vl s0 s1 s2 s3 + 115792089237316195423570985008687907853269984665640564039457584007913129639936 * c ∧ s0 < 18446744073709551616 ∧ s1 < 18446744073709551616 ∧ s2 < 18446744073709551616 ∧ s3 < 18446744073709551616 ∧ c < 18446744073709551616 := by
 obtain ⟨hh0,ll0,ss0,kk0,s0,jj0,c0,e0,f0,m0,n0,v0,y0,z0⟩ := oV (N := N) gA g0 h0 (show (0 : Nat) < 18446744073709551616 by omega)
 obtain ⟨hh1,ll1,ss1,kk1,s1,jj1,c1,e1,f1,m1,n1,v1,y1,z1⟩ := oV (N := N) gA g1 h1 z0
 obtain ⟨hh2,ll2,ss2,kk2,s2,jj2,c2,e2,f2,m2,n2,v2,y2,z2⟩ := oV (N := N) gA g2 h2 z1
 obtain ⟨hh3,ll3,ss3,kk3,s3,jj3,c3,e3,f3,m3,n3,v3,y3,z3⟩ := oV (N := N) gA g3 h3 z2
 refine ⟨s0,s1,s2,s3,c3, ?_,by unfold vl; omega,y0,y1,y2,y3,z3⟩
 obtain ⟨m,hm⟩ := q4 (fun q => b9 N va (w4 b0 b1 b2 b3) 1 q 0 0 [(w0 : Int),(w1 : Int),(w2 : Int),(w3 : Int),(w4' : Int),(w5 : Int),(w6 : Int),(w7 : Int)]) hN
 rw [hm]
 have m0' : oU (ss0 : Int) 0 0 = some ((s0 : Int),(jj0 : Int)) := m0
 simp only [b9,cS,hA,a40,a41,a42,a43,q80,q81,q82,q83,q84,q85,q86,q87,t80,t81,t82,t83,t84,t85,t86,t87,i01,i12,i23,i34,d04,d14,d24,d34,d44,x00,x01,x02,x03,x04,b8,bX,eE,cD,bC,bE,dI,bN,fN,fO,lA,dL,pK,kY,e8,if_true,Bool.false_eq_true,if_false,Option.bind_some,e0,e1,e2,e3,f0,f1,f2,f3,m0',m1,m2,m3,n0,n1,n2,n3]
theorem aOA {N : Nat} (hN : 70000 ≤ N) {va : List Int} {A b0 b1 b2 b3 w0 w1 w2 w3 w4' w5 w6 w7 : Nat} (hA : bB 4 va 2 = some (A : Int)) (gA : A < 18446744073709551616) (g0 : b0 < 18446744073709551616) (g1 : b1 < 18446744073709551616) (g2 : b2 < 18446744073709551616) (g3 : b3 < 18446744073709551616) (h0 : w2 < 18446744073709551616) (h1 : w3 < 18446744073709551616) (h2 : w4' < 18446744073709551616) (h3 : w5 < 18446744073709551616) :
  ∃ s0 s1 s2 s3 c : Nat,b9 N va (w4 b0 b1 b2 b3) 2 N 0 0 [(w0 : Int),(w1 : Int),(w2 : Int),(w3 : Int),(w4' : Int),(w5 : Int),(w6 : Int),(w7 : Int)] = some ((c : Int),[(w0 : Int),(w1 : Int),(s0 : Int),(s1 : Int),(s2 : Int),(s3 : Int),(w6 : Int),(w7 : Int)]) ∧ vl w2 w3 w4' w5 + (A * b0 + 18446744073709551616 * (A * b1) + 340282366920938463463374607431768211456 * (A * b2) + 6277101735386680763835789423207666416102355444464034512896 * (A * b3)) = vl s0 s1 s2 s3 + 115792089237316195423570985008687907853269984665640564039457584007913129639936 * c ∧ s0 < 18446744073709551616 ∧ s1 < 18446744073709551616 ∧ s2 < 18446744073709551616 ∧ s3 < 18446744073709551616 ∧ c < 18446744073709551616 := by
 obtain ⟨hh0,ll0,ss0,kk0,s0,jj0,c0,e0,f0,m0,n0,v0,y0,z0⟩ := oV (N := N) gA g0 h0 (show (0 : Nat) < 18446744073709551616 by omega)
 obtain ⟨hh1,ll1,ss1,kk1,s1,jj1,c1,e1,f1,m1,n1,v1,y1,z1⟩ := oV (N := N) gA g1 h1 z0
 obtain ⟨hh2,ll2,ss2,kk2,s2,jj2,c2,e2,f2,m2,n2,v2,y2,z2⟩ := oV (N := N) gA g2 h2 z1
 obtain ⟨hh3,ll3,ss3,kk3,s3,jj3,c3,e3,f3,m3,n3,v3,y3,z3⟩ := oV (N := N) gA g3 h3 z2
 refine ⟨s0,s1,s2,s3,c3, ?_,by unfold vl; omega,y0,y1,y2,y3,z3⟩
 obtain ⟨m,hm⟩ := q4 (fun q => b9 N va (w4 b0 b1 b2 b3) 2 q 0 0 [(w0 : Int),(w1 : Int),(w2 : Int),(w3 : Int),(w4' : Int),(w5 : Int),(w6 : Int),(w7 : Int)]) hN
 rw [hm]
 have m0' : oU (ss0 : Int) 0 0 = some ((s0 : Int),(jj0 : Int)) := m0
 simp only [b9,cS,hA,a40,a41,a42,a43,q80,q81,q82,q83,q84,q85,q86,q87,t80,t81,t82,t83,t84,t85,t86,t87,i01,i12,i23,i34,d04,d14,d24,d34,d44,x00,x01,x02,x03,x04,b8,bX,eE,cD,bC,bE,dI,bN,fN,fO,lA,dL,pK,kY,e8,if_true,Bool.false_eq_true,if_false,Option.bind_some,e0,e1,e2,e3,f0,f1,f2,f3,m0',m1,m2,m3,n0,n1,n2,n3]
theorem aOB {N : Nat} (hN : 70000 ≤ N) {va : List Int} {A b0 b1 b2 b3 w0 w1 w2 w3 w4' w5 w6 w7 : Nat} (hA : bB 4 va 3 = some (A : Int)) (gA : A < 18446744073709551616) (g0 : b0 < 18446744073709551616) (g1 : b1 < 18446744073709551616) (g2 : b2 < 18446744073709551616) (g3 : b3 < 18446744073709551616) (h0 : w3 < 18446744073709551616) (h1 : w4' < 18446744073709551616) (h2 : w5 < 18446744073709551616) (h3 : w6 < 18446744073709551616) :
  ∃ s0 s1 s2 s3 c : Nat,b9 N va (w4 b0 b1 b2 b3) 3 N 0 0 [(w0 : Int),(w1 : Int),(w2 : Int),(w3 : Int),(w4' : Int),(w5 : Int),(w6 : Int),(w7 : Int)] = some ((c : Int),[(w0 : Int),(w1 : Int),(w2 : Int),(s0 : Int),(s1 : Int),(s2 : Int),(s3 : Int),(w7 : Int)]) ∧ vl w3 w4' w5 w6 + (A * b0 + 18446744073709551616 * (A * b1) + 340282366920938463463374607431768211456 * (A * b2) + 6277101735386680763835789423207666416102355444464034512896 * (A * b3)) = vl s0 s1 s2 s3 + 115792089237316195423570985008687907853269984665640564039457584007913129639936 * c ∧ s0 < 18446744073709551616 ∧ s1 < 18446744073709551616 ∧ s2 < 18446744073709551616 ∧ s3 < 18446744073709551616 ∧ c < 18446744073709551616 := by
 obtain ⟨hh0,ll0,ss0,kk0,s0,jj0,c0,e0,f0,m0,n0,v0,y0,z0⟩ := oV (N := N) gA g0 h0 (show (0 : Nat) < 18446744073709551616 by omega)
 obtain ⟨hh1,ll1,ss1,kk1,s1,jj1,c1,e1,f1,m1,n1,v1,y1,z1⟩ := oV (N := N) gA g1 h1 z0
 obtain ⟨hh2,ll2,ss2,kk2,s2,jj2,c2,e2,f2,m2,n2,v2,y2,z2⟩ := oV (N := N) gA g2 h2 z1
 obtain ⟨hh3,ll3,ss3,kk3,s3,jj3,c3,e3,f3,m3,n3,v3,y3,z3⟩ := oV (N := N) gA g3 h3 z2
 refine ⟨s0,s1,s2,s3,c3, ?_,by unfold vl; omega,y0,y1,y2,y3,z3⟩
 obtain ⟨m,hm⟩ := q4 (fun q => b9 N va (w4 b0 b1 b2 b3) 3 q 0 0 [(w0 : Int),(w1 : Int),(w2 : Int),(w3 : Int),(w4' : Int),(w5 : Int),(w6 : Int),(w7 : Int)]) hN
 rw [hm]
 have m0' : oU (ss0 : Int) 0 0 = some ((s0 : Int),(jj0 : Int)) := m0
 simp only [b9,cS,hA,a40,a41,a42,a43,q80,q81,q82,q83,q84,q85,q86,q87,t80,t81,t82,t83,t84,t85,t86,t87,i01,i12,i23,i34,d04,d14,d24,d34,d44,x00,x01,x02,x03,x04,b8,bX,eE,cD,bC,bE,dI,bN,fN,fO,lA,dL,pK,kY,e8,if_true,Bool.false_eq_true,if_false,Option.bind_some,e0,e1,e2,e3,f0,f1,f2,f3,m0',m1,m2,m3,n0,n1,n2,n3]
theorem aNH (A b0 b1 b2 b3 : Nat) : A * vl b0 b1 b2 b3 = A * b0 + 18446744073709551616 * (A * b1) + 340282366920938463463374607431768211456 * (A * b2) + 6277101735386680763835789423207666416102355444464034512896 * (A * b3) := by
 unfold vl
 rw [Nat.mul_add,Nat.mul_add,Nat.mul_add,Nat.mul_left_comm A 18446744073709551616 b1,Nat.mul_left_comm A 340282366920938463463374607431768211456 b2,Nat.mul_left_comm A 6277101735386680763835789423207666416102355444464034512896 b3]
theorem aLz {N : Nat} (hN : 70000 ≤ N) {a b : Nat} (ha : a < 115792089237316195423570985008687907853269984665640564039457584007913129639936) (hb : b < 115792089237316195423570985008687907853269984665640564039457584007913129639936) : uL N (U a) (U b) = some (U (a * b / 115792089237316195423570985008687907853269984665640564039457584007913129639936),U (a * b % 115792089237316195423570985008687907853269984665640564039457584007913129639936)) := by
 obtain ⟨a0,a1,a2,a3,x0,x1,x2,x3,ea,va⟩ := vH ha
 obtain ⟨b0,b1,b2,b3,y0,y1,y2,y3,eb,vb⟩ := vH hb
 have zW : (0 : Nat) < 18446744073709551616 := by omega
 obtain ⟨s00,s01,s02,s03,c0,e0,f0,g00,g01,g02,g03,h0⟩ := aOx (N := N) hN (w0 := 0) (w1 := 0) (w2 := 0) (w3 := 0) (w4' := 0) (w5 := 0) (w6 := 0) (w7 := 0) (a40 a0 a1 a2 a3) x0 y0 y1 y2 y3 zW zW zW zW
 obtain ⟨s10,s11,s12,s13,c1,e1,f1,g10,g11,g12,g13,h1⟩ := aPt (N := N) hN (w0 := s00) (w5 := 0) (w6 := 0) (w7 := 0) (a41 a0 a1 a2 a3) x1 y0 y1 y2 y3 g01 g02 g03 h0
 obtain ⟨s20,s21,s22,s23,c2,e2,f2,g20,g21,g22,g23,h2⟩ := aOA (N := N) hN (w0 := s00) (w1 := s10) (w6 := 0) (w7 := 0) (a42 a0 a1 a2 a3) x2 y0 y1 y2 y3 g11 g12 g13 h1
 obtain ⟨s30,s31,s32,s33,c3,e3,f3,g30,g31,g32,g33,h3⟩ := aOB (N := N) hN (w0 := s00) (w1 := s10) (w2 := s20) (w7 := 0) (a43 a0 a1 a2 a3) x3 y0 y1 y2 y3 g21 g22 g23 h2
 rw [← aNH] at f0 f1 f2 f3
 rw [← vb] at f0 f1 f2 f3
 have hab : a * b = a0 * b + 18446744073709551616 * (a1 * b) + 340282366920938463463374607431768211456 * (a2 * b) + 6277101735386680763835789423207666416102355444464034512896 * (a3 * b) := by
  rw [va]; unfold vl
  rw [Nat.add_mul,Nat.add_mul,Nat.add_mul,Nat.mul_assoc,Nat.mul_assoc,Nat.mul_assoc]
 have k1 := aCU g00 g10 g20 g30
 have hsum : a * b = vl s00 s10 s20 s30 + 115792089237316195423570985008687907853269984665640564039457584007913129639936 * vl s31 s32 s33 c3 := by
  rw [hab]
  unfold vl at *
  omega
 rw [ea,eb,show a * b / 115792089237316195423570985008687907853269984665640564039457584007913129639936 = vl s31 s32 s33 c3 by omega,show a * b % 115792089237316195423570985008687907853269984665640564039457584007913129639936 = vl s00 s10 s20 s30 by omega,← aDB g00 g10 g20 g30,← aDB g31 g32 g33 h3]
 obtain ⟨m,hm⟩ := q4 (fun q => iF N (w4 a0 a1 a2 a3) (w4 b0 b1 b2 b3) q 0 (List.replicate 8 0)) hN
 unfold uL
 rw [hm]
 have e0' : b9 N (w4 a0 a1 a2 a3) (w4 b0 b1 b2 b3) 0 N 0 0 [0,0,0,0,0,0,0,0] = some ((c0 : Int),[(s00 : Int),(s01 : Int),(s02 : Int),(s03 : Int),0,0,0,0]) := e0
 have e1' : b9 N (w4 a0 a1 a2 a3) (w4 b0 b1 b2 b3) 1 N 0 0 [(s00 : Int),(s01 : Int),(s02 : Int),(s03 : Int),(c0 : Int),0,0,0] = some ((c1 : Int),[(s00 : Int),(s10 : Int),(s11 : Int),(s12 : Int),(s13 : Int),0,0,0]) := e1
 have e2' : b9 N (w4 a0 a1 a2 a3) (w4 b0 b1 b2 b3) 2 N 0 0 [(s00 : Int),(s10 : Int),(s11 : Int),(s12 : Int),(s13 : Int),(c1 : Int),0,0] = some ((c2 : Int),[(s00 : Int),(s10 : Int),(s20 : Int),(s21 : Int),(s22 : Int),(s23 : Int),0,0]) := e2
 have e3' : b9 N (w4 a0 a1 a2 a3) (w4 b0 b1 b2 b3) 3 N 0 0 [(s00 : Int),(s10 : Int),(s20 : Int),(s21 : Int),(s22 : Int),(s23 : Int),(c2 : Int),0] = some ((c3 : Int),[(s00 : Int),(s10 : Int),(s20 : Int),(s30 : Int),(s31 : Int),(s32 : Int),(s33 : Int),0]) := e3
 simp only [iF,t4,t5,show List.replicate 8 (0 : Int) = [0,0,0,0,0,0,0,0] from rfl,e0',e1',e2',e3',q84,q85,q86,q87,t84,t85,t86,t87,i01,i12,i23,i34,d04,d14,d24,d34,d44,x04,bC,fO,e8,if_true,Bool.false_eq_true,if_false,Option.bind_some]
 rfl
theorem aAY : (2 : Nat) ^ 256 = 115792089237316195423570985008687907853269984665640564039457584007913129639936 := by decide +kernel
theorem aNJ {K v : Nat} (hK : K + 1 ≤ 256) (hv : v < 2 ^ (K + 1)) : ∃ t v',t ≤ 1 ∧ v' < 2 ^ K ∧ v = t * 2 ^ K + v' ∧ 2 * (v * 2 ^ (256 - (K + 1))) = t * 115792089237316195423570985008687907853269984665640564039457584007913129639936 + v' * 2 ^ (256 - K) ∧ v' * 2 ^ (256 - K) < 115792089237316195423570985008687907853269984665640564039457584007913129639936 := by
 have hp : 0 < 2 ^ K := Nat.pow_pos (by omega)
 rw [Nat.pow_succ] at hv
 have h256 : 2 ^ K * 2 ^ (256 - K) = 115792089237316195423570985008687907853269984665640564039457584007913129639936 := by rw [← Nat.pow_add,show K + (256 - K) = 256 by omega,aAY]
 have hlt : v % 2 ^ K < 2 ^ K := Nat.mod_lt _ hp
 refine ⟨v / 2 ^ K,v % 2 ^ K, ?_,hlt, ?_, ?_, ?_⟩
 ·exact Nat.le_of_lt_succ ((Nat.div_lt_iff_lt_mul hp).2 (by rw [Nat.mul_comm]; exact hv))
 ·rw [Nat.mul_comm]; exact (Nat.div_add_mod v (2 ^ K)).symm
 ·have hx : 2 ^ (256 - K) = 2 * 2 ^ (256 - (K + 1)) := by rw [show 256 - K = (256 - (K + 1)) + 1 by omega,Nat.pow_succ,Nat.mul_comm]
  rw [Nat.mul_left_comm,← hx]
  conv => lhs; rw [← Nat.div_add_mod v (2 ^ K),Nat.add_mul,Nat.mul_right_comm,h256]
  rw [Nat.mul_comm]
 ·rw [← h256]
  exact Nat.mul_lt_mul_of_pos_right hlt (Nat.pow_pos (by omega))
theorem s9 {α : Type} {n : Nat} {l : List α} (h : l.length = n) : aS n l = some l := by unfold aS; rw [if_pos h]
theorem aDp (T b p v : Nat) : ((T % b) * p + v) % b = (T * p + v) % b := by
 rw [Nat.add_mod,Nat.mul_mod,Nat.mod_mod,← Nat.mul_mod,← Nat.add_mod]
theorem aD0 (a b : Nat) : decide ((0 : Int) ≤ if a < b then -1 else if b < a then 1 else 0) = decide (b ≤ a) := by
 by_cases h : a < b
 ·rw [if_pos h,decide_eq_false (show ¬ b ≤ a by omega)]; rfl
 ·rw [if_neg h,decide_eq_true (show b ≤ a by omega)]
  split <;> rfl
theorem aGi (a b : Nat) : decide ((if a < b then (-1 : Int) else if b < a then 1 else 0) < 0) = decide (a < b) := by
 by_cases h : a < b
 ·rw [if_pos h,decide_eq_true h]; rfl
 ·rw [if_neg h,decide_eq_false h]
  split <;> rfl
theorem aLq (a b : Nat) : decide ((if a < b then (-1 : Int) else if b < a then 1 else 0) ≤ 0) = decide (a ≤ b) := by
 by_cases h : a < b
 ·rw [if_pos h,decide_eq_true (show a ≤ b by omega)]; rfl
 ·rw [if_neg h]
  by_cases h2 : b < a
  ·rw [if_pos h2,decide_eq_false (show ¬ a ≤ b by omega)]; rfl
  ·rw [if_neg h2,decide_eq_true (show a ≤ b by omega)]; rfl
section
variable {N : Nat} (hN : 70000 ≤ N) {b : Nat} (hb : b < 115792089237316195423570985008687907853269984665640564039457584007913129639936) (hb0 : 0 < b)
include hN hb hb0
theorem aL0 {b6 : Nat} (hw : b6 < 4) {m c K v r : Nat} (hc : c < 64) (hK : K = 64 * b6 + c) (hv : v < 2 ^ (K + 1)) (hr : r < b) {q : List Int} (hq : q.length = 4) (hnz : ¬ (r = 0 ∧ v = 0)) :
  ∃ q' v' r',q'.length = 4 ∧ v' < 2 ^ K ∧ r' < b ∧ (r' * 2 ^ K + v') % b = (r * 2 ^ (K + 1) + v) % b ∧
   cM N (U b) (b6 : Int) (m + 1) (c : Int) (U (v * 2 ^ (256 - (K + 1)))) q (U r) = cM N (U b) (b6 : Int) m ((c : Int) - 1) (U (v' * 2 ^ (256 - K))) q' (U r') := by
 obtain ⟨t,v',ht,hv',hvv,h2,h3⟩ := aNJ (by omega : K + 1 ≤ 256) hv
 have hlo : v * 2 ^ (256 - (K + 1)) < 115792089237316195423570985008687907853269984665640564039457584007913129639936 := by
  have h5 := (Nat.mul_lt_mul_right (Nat.pow_pos (n := 256 - (K + 1)) (show 0 < 2 by omega))).2 hv
  rw [← Nat.pow_add,show K + 1 + (256 - (K + 1)) = 256 by omega,aAY] at h5
  exact h5
 generalize hlov : v * 2 ^ (256 - (K + 1)) = lo at *
 generalize hlov' : v' * 2 ^ (256 - K) = lo' at *
 have hr4 : r < 115792089237316195423570985008687907853269984665640564039457584007913129639936 := by omega
 obtain ⟨k,d1,d2⟩ := aLB hN hlo (Nat.zero_le 1)
 rw [show (2 * lo + 0) % 115792089237316195423570985008687907853269984665640564039457584007913129639936 = lo' by omega,show (2 * lo + 0) / 115792089237316195423570985008687907853269984665640564039457584007913129639936 = t by omega] at *
 rw [d2] at d1
 clear d2
 obtain ⟨k,d3,d4⟩ := aLB hN hr4 ht
 have d1' : oM N (U lo) 0 = some (U lo',((t : Nat) : Int)) := d1
 have hT : (2 * r + t) % b < b := Nat.mod_lt _ hb0
 have hTv : ((2 * r + t) % b * 2 ^ K + v') % b = (r * 2 ^ (K + 1) + v) % b := by
  rw [aDp,hvv,Nat.add_mul,Nat.pow_succ,Nat.add_assoc,Nat.mul_right_comm 2 r,Nat.mul_comm (2 ^ K) 2,Nat.mul_comm (2 * 2 ^ K) r]
 have main : ∀ (q : List Int),q.length = 4 → ∃ q',q'.length = 4 ∧ qO N (U b) (b6 : Int) (c : Int) (U lo) q (U r) (cM N (U b) (b6 : Int) m) false = cM N (U b) (b6 : Int) m ((c : Int) - 1) (U lo') q' (U ((2 * r + t) % b)) := by
  intro q hq
  simp only [qO,Bool.false_eq_true,if_false,bA,d1',d3,Option.bind_some]
  have hcw : IntKind.i64.wrap ((c : Int) - 1) = (c : Int) - 1 := b4 (by omega) (by omega)
  have hsub : ∀ (x : Nat),x < 115792089237316195423570985008687907853269984665640564039457584007913129639936 → (x + 115792089237316195423570985008687907853269984665640564039457584007913129639936 - b) % 115792089237316195423570985008687907853269984665640564039457584007913129639936 = (2 * r + t) % b → ∃ q',q'.length = 4 ∧ oJ N (U b) (b6 : Int) (c : Int) q (U lo',((t : Nat) : Int)) (U x,(k : Int)) (cM N (U b) (b6 : Int) m) true = cM N (U b) (b6 : Int) m ((c : Int) - 1) (U lo') q' (U ((2 * r + t) % b)) := by
   intro x hx he
   have hs : shl .u64 1 (c : Int) = some ((1 * 2 ^ c % 2 ^ IntKind.u64.bits : Nat) : Int) := aA2 rfl 1 c
   have ha : bB 4 q (b6 : Int) = some (q[b6]'(by omega)) := by
    unfold bB
    rw [if_pos (by omega),d8 q (by omega)]
   refine ⟨q.set (Int.toNat (b6 : Int)) (bits .or .u64 (q[b6]'(by omega)) ((1 * 2 ^ c % 2 ^ IntKind.u64.bits : Nat) : Int)),by rw [List.length_set]; exact hq, ?_⟩
   simp only [oJ,if_true,aCT hN hx hb,Option.bind_some,bA,ha,hs,qS,hcw,he]
  by_cases h1 : 2 * r + t < 115792089237316195423570985008687907853269984665640564039457584007913129639936
  ·have hk0 : k = 0 := by omega
   subst hk0
   simp only [show (((0 : Nat) : Int) != 0) = false from rfl,Bool.false_eq_true,if_false,uE hN (show (2 * r + t) % 115792089237316195423570985008687907853269984665640564039457584007913129639936 < 115792089237316195423570985008687907853269984665640564039457584007913129639936 by omega) hb,Option.bind_some,aD0]
   rw [Nat.mod_eq_of_lt h1] at *
   by_cases h4 : b ≤ 2 * r + t
   ·rw [decide_eq_true h4]
    refine hsub _ h1 ?_
    rw [Nat.mod_eq_sub_mod h4,Nat.mod_eq_of_lt (show 2 * r + t - b < b by omega)]
    omega
   ·rw [decide_eq_false h4]
    refine ⟨q,hq, ?_⟩
    simp only [oJ,Bool.false_eq_true,if_false,qS,hcw]
    rw [Nat.mod_eq_of_lt (show 2 * r + t < b by omega)]
  ·have hk1 : k = 1 := by omega
   subst hk1
   simp only [show (((1 : Nat) : Int) != 0) = true from rfl,if_true]
   refine hsub _ (by omega) ?_
   rw [Nat.mod_eq_sub_mod (show b ≤ 2 * r + t by omega),Nat.mod_eq_of_lt (show 2 * r + t - b < b by omega)]
   omega
 obtain ⟨q',hq',he⟩ := main q hq
 refine ⟨q',v',(2 * r + t) % b,hq',hv',hT,hTv, ?_⟩
 rw [hlov']
 rw [cM,show decide ((0 : Int) ≤ (c : Int)) = true from decide_eq_true (by omega),if_pos rfl,bA,Option.bind_some,← tN]
 rw [vW hr4 (show 0 < 115792089237316195423570985008687907853269984665640564039457584007913129639936 by omega),bA,Option.bind_some,vW hlo (show 0 < 115792089237316195423570985008687907853269984665640564039457584007913129639936 by omega)]
 by_cases h0 : r = 0
 ·have hl0 : lo ≠ 0 := by
   intro h
   have : v = 0 := by
    rcases Nat.mul_eq_zero.1 (hlov.trans h) with h | h
    ·exact h
    ·exact absurd h (Nat.ne_of_gt (Nat.pow_pos (by omega)))
   exact hnz ⟨h0,this⟩
  rw [decide_eq_true h0,if_pos rfl,decide_eq_false hl0]
  exact he
 ·rw [decide_eq_false h0]
  exact he
theorem aGG {b6 : Nat} (hw : b6 < 4) : ∀ (c m v r : Nat) (q : List Int),c ≤ 64 → c < m → v < 2 ^ (64 * b6 + c) → r < b → q.length = 4 →
  (∃ q',q'.length = 4 ∧ (r * 2 ^ (64 * b6 + c) + v) % b = 0 ∧ cM N (U b) (b6 : Int) m ((c : Int) - 1) (U (v * 2 ^ (256 - (64 * b6 + c)))) q (U r) = some (.ret (q',U 0))) ∨
  (∃ q' v' r',q'.length = 4 ∧ v' < 2 ^ (64 * b6) ∧ r' < b ∧ (r' * 2 ^ (64 * b6) + v') % b = (r * 2 ^ (64 * b6 + c) + v) % b ∧
   cM N (U b) (b6 : Int) m ((c : Int) - 1) (U (v * 2 ^ (256 - (64 * b6 + c)))) q (U r) = some (.brk (U (v' * 2 ^ (256 - 64 * b6)),q',U r')))
 | 0,m,v,r,q,_,hm,hv,hr,hq => by
  obtain ⟨m,rfl⟩ : ∃ k,m = k + 1 := ⟨m - 1,by omega⟩
  refine .inr ⟨q,v,r,hq,hv,hr,rfl, ?_⟩
  rw [cM,show decide ((0 : Int) ≤ ((0 : Nat) : Int) - 1) = false from rfl]
  rfl
 | c + 1,m,v,r,q,hc,hm,hv,hr,hq => by
  obtain ⟨m,rfl⟩ : ∃ k,m = k + 1 := ⟨m - 1,by omega⟩
  rw [show ((c + 1 : Nat) : Int) - 1 = (c : Int) by omega]
  by_cases hz : r = 0 ∧ v = 0
  ·obtain ⟨rfl,rfl⟩ := hz
   refine .inl ⟨q,hq,by simp, ?_⟩
   rw [cM,show decide ((0 : Int) ≤ (c : Int)) = true from decide_eq_true (by omega),if_pos rfl,Nat.zero_mul]
   rfl
  ·obtain ⟨q',v',r',h1,h2,h3,h4,h5⟩ := aL0 hN hb hb0 hw (m := m) (show c < 64 by omega) rfl (show v < 2 ^ (64 * b6 + c + 1) from hv) hr hq hz
   rw [show 64 * b6 + (c + 1) = 64 * b6 + c + 1 from rfl,h5,← h4]
   exact aGG hw c m v' r' q' (by omega) (by omega) h2 h3 h1
theorem aIn : ∀ (w m v r : Nat) (q : List Int),w ≤ 4 → w < m → v < 2 ^ (64 * w) → r < b → q.length = 4 →
  ∃ q',q'.length = 4 ∧ kO N (U b) m ((w : Int) - 1) (U (v * 2 ^ (256 - 64 * w))) q (U r) = some (q',U ((r * 2 ^ (64 * w) + v) % b))
 | 0,m,v,r,q,_,hm,hv,hr,hq => by
  obtain ⟨m,rfl⟩ : ∃ k,m = k + 1 := ⟨m - 1,by omega⟩
  refine ⟨q,hq, ?_⟩
  have hv0 : v = 0 := by simpa using hv
  subst hv0
  rw [kO,show decide ((0 : Int) ≤ ((0 : Nat) : Int) - 1) = false from rfl]
  simp [Nat.mod_eq_of_lt hr]
 | w + 1,m,v,r,q,hw,hm,hv,hr,hq => by
  obtain ⟨m,rfl⟩ : ∃ k,m = k + 1 := ⟨m - 1,by omega⟩
  rw [kO,show ((w + 1 : Nat) : Int) - 1 = (w : Int) by omega,show decide ((0 : Int) ≤ (w : Int)) = true from decide_eq_true (by omega),if_pos rfl]
  have e63 : (63 : Int) = ((64 : Nat) : Int) - 1 := rfl
  have ek : 64 * (w + 1) = 64 * w + 64 := by omega
  rw [ek] at hv
  rw [e63,ek]
  rcases aGG hN hb hb0 (show w < 4 by omega) 64 N v r q (Nat.le_refl _) (by omega) hv hr hq with ⟨q',h1,h2,h3⟩ | ⟨q',v',r',h1,h2,h3,h4,h5⟩
  ·rw [h3,h2]
   exact ⟨q',h1,rfl⟩
  ·rw [h5,← h4]
   simp only [Option.bind_some,wY]
   rw [b4 (a := (w : Int) - 1) (by omega) (by omega)]
   exact aIn w m v' r' q' (by omega) (by omega) h2 h3 h1
theorem aLv {hi lo : Nat} (hh : hi < b) (hl : lo < 115792089237316195423570985008687907853269984665640564039457584007913129639936) : ∃ q',q'.length = 4 ∧ wP N (U hi) (U lo) (U b) = some (q',U ((hi * 115792089237316195423570985008687907853269984665640564039457584007913129639936 + lo) % b),true) := by
 obtain ⟨q',h1,h2⟩ := aIn hN hb hb0 4 N lo hi (List.replicate 4 0) (Nat.le_refl _) (by omega) (by rw [show 64 * 4 = 256 from rfl,aAY]; exact hl) hh (by simp)
 rw [show ((4 : Nat) : Int) - 1 = 3 from rfl,show 256 - 64 * 4 = 0 from rfl,Nat.pow_zero,Nat.mul_one,show 64 * 4 = 256 from rfl,aAY] at h2
 refine ⟨q',h1, ?_⟩
 simp only [wP,bA,Option.bind_some,uE hN hb (show hi < 115792089237316195423570985008687907853269984665640564039457584007913129639936 by omega),aLq]
 rw [decide_eq_false (show ¬ b ≤ hi by omega)]
 simp only [Bool.false_eq_true,if_false,h2,Option.bind_some,xH,s9 h1,bA]
theorem aDC {a : Nat} (ha : a < 115792089237316195423570985008687907853269984665640564039457584007913129639936) : oP N (U a) (U b) = some (U (a % b)) := by
 simp only [oP,bA,Option.bind_some,uE hN ha hb,aGi]
 by_cases h : a < b
 ·rw [decide_eq_true h,if_pos rfl,Nat.mod_eq_of_lt h]
 ·rw [decide_eq_false h]
  obtain ⟨q',h1,h2⟩ := aLv hN hb hb0 hb0 ha
  rw [tN,Nat.zero_mul,Nat.zero_add] at h2
  simp only [Bool.false_eq_true,if_false,h2,Option.bind_some,s9 h1,bA]
theorem aNb : (U b == [0,0,0,0]) = false := by
 rw [← tN,vW hb (by omega)]
 exact decide_eq_false (by omega)
theorem aKe {x y : Nat} (hx : x < 115792089237316195423570985008687907853269984665640564039457584007913129639936) (hy : y < 115792089237316195423570985008687907853269984665640564039457584007913129639936) : tL N (U x) (U y) (U b) = some (U (x * y % b)) := by
 have hp : x * y / 115792089237316195423570985008687907853269984665640564039457584007913129639936 < 115792089237316195423570985008687907853269984665640564039457584007913129639936 := by
  have h5 := Nat.mul_le_mul (Nat.le_pred_of_lt hx) (Nat.le_pred_of_lt hy)
  simp only [Nat.pred_eq_sub_one,Nat.reduceSub,Nat.reduceMul] at h5
  omega
 obtain ⟨q',h1,h2⟩ := aLv hN hb hb0 (Nat.mod_lt (x * y / 115792089237316195423570985008687907853269984665640564039457584007913129639936) hb0) (show x * y % 115792089237316195423570985008687907853269984665640564039457584007913129639936 < 115792089237316195423570985008687907853269984665640564039457584007913129639936 by omega)
 rw [aDp,Nat.mul_comm (x * y / 115792089237316195423570985008687907853269984665640564039457584007913129639936) 115792089237316195423570985008687907853269984665640564039457584007913129639936,Nat.div_add_mod] at h2
 simp only [tL,bA,Option.bind_some,aNb hN hb hb0,Bool.false_eq_true,if_false,aLz hN hx hy,aDC hN hb hb0 hp,h2,s9 h1]
theorem aGR {x y : Nat} (hx : x < 115792089237316195423570985008687907853269984665640564039457584007913129639936) (hy : y < 115792089237316195423570985008687907853269984665640564039457584007913129639936) : tO N (U x) (U y) (U b) = some (U ((x + y) % b)) := by
 have h1 := Nat.mod_lt x hb0
 have h2 := Nat.mod_lt y hb0
 have key : (x + y) % b = if x % b + y % b < b then x % b + y % b else x % b + y % b - b := by
  rw [Nat.add_mod]
  split
  ·rename_i h; exact Nat.mod_eq_of_lt h
  ·rename_i h; rw [Nat.mod_eq_sub_mod (by omega),Nat.mod_eq_of_lt (by omega)]
 simp only [tO,bA,Option.bind_some,aNb hN hb hb0,Bool.false_eq_true,if_false,aDC hN hb hb0 hx,aDC hN hb hb0 hy,aLr hN (show x % b < 115792089237316195423570985008687907853269984665640564039457584007913129639936 by omega) (show y % b < 115792089237316195423570985008687907853269984665640564039457584007913129639936 by omega)]
 rw [key]
 generalize x % b = u at *
 generalize y % b = v at *
 by_cases h : 115792089237316195423570985008687907853269984665640564039457584007913129639936 ≤ u + v
 ·rw [decide_eq_true h,if_neg (show ¬ u + v < b by omega)]
  simp only [if_true,kG,aCT hN (show (u + v) % 115792089237316195423570985008687907853269984665640564039457584007913129639936 < 115792089237316195423570985008687907853269984665640564039457584007913129639936 by omega) hb,Option.bind_some,bA,kJ]
  rw [show ((u + v) % 115792089237316195423570985008687907853269984665640564039457584007913129639936 + 115792089237316195423570985008687907853269984665640564039457584007913129639936 - b) % 115792089237316195423570985008687907853269984665640564039457584007913129639936 = u + v - b by omega]
 ·rw [decide_eq_false h]
  simp only [Bool.false_eq_true,if_false,uE hN (show (u + v) % 115792089237316195423570985008687907853269984665640564039457584007913129639936 < 115792089237316195423570985008687907853269984665640564039457584007913129639936 by omega) hb,Option.bind_some,aD0]
  rw [Nat.mod_eq_of_lt (show u + v < 115792089237316195423570985008687907853269984665640564039457584007913129639936 by omega)]
  by_cases h3 : b ≤ u + v
  ·rw [decide_eq_true h3,if_neg (show ¬ u + v < b by omega)]
   simp only [if_true,kG,aCT hN (show u + v < 115792089237316195423570985008687907853269984665640564039457584007913129639936 by omega) hb,Option.bind_some,bA,kJ]
   rw [show (u + v + 115792089237316195423570985008687907853269984665640564039457584007913129639936 - b) % 115792089237316195423570985008687907853269984665640564039457584007913129639936 = u + v - b by omega]
  ·rw [decide_eq_false h3,if_pos (show u + v < b by omega)]
   simp only [Bool.false_eq_true,if_false,kG,Option.bind_some,bA,kJ]
end
end Go.Proofs.YtnllpckhipmpgaaGreatDoor
set_option maxRecDepth 20000
namespace Go.Proofs.YtnllpckhipmpgaaGreatDoor
open Go Go.Vm
theorem aLW : ((List.range 256).all fun y => match gH 0 (y : Int) 0 with | some v => decide (0 ≤ v ∧ v ≤ 8 ∧ y < 2 ^ v.toNat) | none => false) = true := by decide +kernel
theorem aJX (z : Int) : IntKind.i64.wrap (0 + IntKind.i64.wrap z) = IntKind.i64.wrap z := by simp only [IntKind.wrap_i64]; omega
theorem aNg {N x : Nat} (hx : x < 256) {n : Nat} (hn : n ≤ 1000) : ∃ t : Nat,t ≤ 8 ∧ x < 2 ^ t ∧ gH N (x : Int) (n : Int) = some ((n + t : Nat) : Int) := by
 have h := List.all_eq_true.1 aLW x (by simpa using hx)
 unfold gH at h ⊢
 generalize hs : aIO _ (IntKind.u8.wrap (x : Int)) = s at h ⊢
 cases s with
 | none => simp at h
 | some z =>
  simp only [Option.bind_some,aJX,decide_eq_true_eq] at h ⊢
  generalize IntKind.i64.wrap z = w at *
  obtain ⟨h1,h2,h3⟩ := h
  clear hs
  refine ⟨w.toNat, ?_,h3, ?_⟩ <;> clear h3
  ·omega
  ·rw [b4 (by omega) (by omega)]
   congr 1; omega
theorem aG0 {x k t : Nat} (h : x / 2 ^ k < 2 ^ t) : x < 2 ^ (k + t) := by
 rw [Nat.pow_add,Nat.mul_comm]
 exact (Nat.div_lt_iff_lt_mul (Nat.pow_pos (by omega))).1 h
theorem aKd (a b : Nat) : decide ((a : Int) ≤ (b : Int)) = decide (a ≤ b) := by
 by_cases h : a ≤ b
 ·rw [decide_eq_true h,decide_eq_true (by omega)]
 ·rw [decide_eq_false h,decide_eq_false (by omega)]
theorem aBn {N x : Nat} (hx : x < 18446744073709551616) : ∃ n : Nat,n ≤ 64 ∧ x < 2 ^ n ∧ oE N (x : Int) = some (n : Int) := by
 have j2 : ∀ (x n : Nat),x < 65536 → n ≤ 100 → ∃ t : Nat,t ≤ 16 ∧ x < 2 ^ t ∧ iY N (x : Int) (n : Int) = some ((n + t : Nat) : Int) := by
  intro x n hx hn
  unfold iY
  rw [show (256 : Int) = ((256 : Nat) : Int) from rfl,aKd]
  by_cases h : 256 ≤ x
  ·rw [decide_eq_true h,if_pos rfl,show shr .u64 (x : Int) 8 = some ((x / 256 : Nat) : Int) from uP x 8 (Nat.lt_of_lt_of_le hx (by decide)),Option.bind_some,b4 (a := (n : Int) + 8) (by omega) (by omega),show (n : Int) + 8 = ((n + 8 : Nat) : Int) by omega]
   obtain ⟨t,h1,h2,h3⟩ := aNg (N := N) (show x / 256 < 256 by omega) (show n + 8 ≤ 1000 by omega)
   exact ⟨8 + t,Nat.add_le_add_left h1 8,aG0 (k := 8) h2,by rw [h3,Nat.add_assoc]⟩
  ·rw [decide_eq_false h]
   obtain ⟨t,h1,h2,h3⟩ := aNg (N := N) (show x < 256 by omega) (show n ≤ 1000 by omega)
   exact ⟨t,Nat.le_trans h1 (by decide),h2,h3⟩
 have j1 : ∀ (x n : Nat),x < 4294967296 → n ≤ 50 → ∃ t : Nat,t ≤ 32 ∧ x < 2 ^ t ∧ iT N (x : Int) (n : Int) = some ((n + t : Nat) : Int) := by
  intro x n hx hn
  unfold iT
  rw [show (65536 : Int) = ((65536 : Nat) : Int) from rfl,aKd]
  by_cases h : 65536 ≤ x
  ·rw [decide_eq_true h,if_pos rfl,show shr .u64 (x : Int) 16 = some ((x / 65536 : Nat) : Int) from uP x 16 (Nat.lt_of_lt_of_le hx (by decide)),Option.bind_some,b4 (a := (n : Int) + 16) (by omega) (by omega),show (n : Int) + 16 = ((n + 16 : Nat) : Int) by omega]
   obtain ⟨t,h1,h2,h3⟩ := j2 (x / 65536) (n + 16) (by omega) (by omega)
   exact ⟨16 + t,Nat.add_le_add_left h1 16,aG0 (k := 16) h2,by rw [h3,Nat.add_assoc]⟩
  ·rw [decide_eq_false h]
   obtain ⟨t,h1,h2,h3⟩ := j2 x n (by omega) (by omega)
   exact ⟨t,Nat.le_trans h1 (by decide),h2,h3⟩
 unfold oE
 rw [show (4294967296 : Int) = ((4294967296 : Nat) : Int) from rfl,aKd]
 by_cases h : 4294967296 ≤ x
 ·rw [decide_eq_true h,if_pos rfl,show shr .u64 (x : Int) 32 = some ((x / 4294967296 : Nat) : Int) from uP x 32 hx,Option.bind_some]
  obtain ⟨t,h1,h2,h3⟩ := j1 (x / 4294967296) 32 (by omega) (by omega)
  exact ⟨32 + t,Nat.add_le_add_left h1 32,aG0 (k := 32) h2,h3⟩
 ·rw [decide_eq_false h]
  obtain ⟨t,h1,h2,h3⟩ := j1 x 0 (by omega) (by omega)
  exact ⟨t,Nat.le_trans h1 (by decide),h2,by rw [Nat.zero_add] at h3; exact h3⟩
theorem aN9 {N : Nat} (hN : 70000 ≤ N) {e : Nat} (he : e < 115792089237316195423570985008687907853269984665640564039457584007913129639936) : ∃ n : Nat,n ≤ 256 ∧ e < 2 ^ n ∧ zZ N (U e) = some (n : Int) := by
 obtain ⟨a0,a1,a2,a3,x0,x1,x2,x3,ea,va⟩ := vH he
 unfold vl at va
 obtain ⟨n0,l0,p0,f0⟩ := aBn (N := N) x0
 obtain ⟨n1,l1,p1,f1⟩ := aBn (N := N) x1
 obtain ⟨n2,l2,p2,f2⟩ := aBn (N := N) x2
 obtain ⟨n3,l3,p3,f3⟩ := aBn (N := N) x3
 rw [ea]
 obtain ⟨m,hm⟩ := q4 (fun q => oQ N (w4 a0 a1 a2 a3) q 3) hN
 unfold zZ
 rw [hm]
 simp only [oQ,a40,a41,a42,a43,i32,i21,i10,i0m,show decide ((0 : Int) ≤ 3) = true from rfl,show decide ((0 : Int) ≤ 2) = true from rfl,show decide ((0 : Int) ≤ 1) = true from rfl,show decide ((0 : Int) ≤ 0) = true from rfl,show decide ((0 : Int) ≤ -1) = false from rfl,if_true,Bool.false_eq_true,if_false,Option.bind_some,wX,f0,f1,f2,f3]
 have nz : ∀ x : Nat,(((x : Nat) : Int) != 0) = !decide (x = 0) := fun x => by
  by_cases h : x = 0
  ·subst h; rfl
  ·rw [decide_eq_false h]; simp; omega
 rw [nz,nz,nz,nz]
 have wr : ∀ (i n : Nat),i ≤ 3 → n ≤ 64 → IntKind.i64.wrap (IntKind.i64.wrap (64 * (i : Int)) + (n : Int)) = ((64 * i + n : Nat) : Int) := fun i n hi hn => by
  rw [b4 (a := 64 * (i : Int)) (by omega) (by omega),b4 (by omega) (by omega)]; omega
 have q3 := wr 3 n3 (by omega) l3
 have q2 := wr 2 n2 (by omega) l2
 have q1 := wr 1 n1 (by omega) l1
 have q0 := wr 0 n0 (by omega) l0
 have pw : ∀ i n : Nat,2 ^ (64 * i + n) = 2 ^ (64 * i) * 2 ^ n := fun i n => Nat.pow_add _ _ _
 by_cases h3 : a3 = 0
 ·rw [decide_eq_true h3]
  by_cases h2 : a2 = 0
  ·rw [decide_eq_true h2]
   by_cases h1 : a1 = 0
   ·rw [decide_eq_true h1]
    by_cases h0 : a0 = 0
    ·rw [decide_eq_true h0]
     exact ⟨0,by omega,by simp; omega,rfl⟩
    ·rw [decide_eq_false h0]
     refine ⟨64 * 0 + n0,by omega, ?_, ?_⟩
     ·rw [show 64 * 0 + n0 = n0 by omega]; omega
     ·rw [← q0]; rfl
   ·rw [decide_eq_false h1]
    refine ⟨64 * 1 + n1,by omega, ?_, ?_⟩
    ·rw [pw,show 2 ^ (64 * 1) = 18446744073709551616 from rfl]
     generalize 2 ^ n1 = z at *
     omega
    ·rw [← q1]; rfl
  ·rw [decide_eq_false h2]
   refine ⟨64 * 2 + n2,by omega, ?_, ?_⟩
   ·rw [pw,show 2 ^ (64 * 2) = 340282366920938463463374607431768211456 from rfl]
    generalize 2 ^ n2 = z at *
    omega
   ·rw [← q2]; rfl
 ·rw [decide_eq_false h3]
  refine ⟨64 * 3 + n3,by omega, ?_, ?_⟩
  ·rw [pw,show 2 ^ (64 * 3) = 6277101735386680763835789423207666416102355444464034512896 from rfl]
   generalize 2 ^ n3 = z at *
   omega
  ·rw [← q3]; rfl
theorem aG7 (N : Nat) : m9 N = some (U 115792089237316195423570985008687907853269984665640564039457584007913129603823) := by unfold m9; decide +kernel
theorem z6 (N : Nat) : lX N = some (U 57896044618658097711785492504343953926634992332820282019728792003956564801911) := by unfold lX; decide +kernel
theorem aIB {N : Nat} (hN : 70000 ≤ N) {a b : Nat} (ha : a < 115792089237316195423570985008687907853269984665640564039457584007913129639936) (hb : b < 115792089237316195423570985008687907853269984665640564039457584007913129639936) : rO N (U a) (U b) = some (U (a * b % 115792089237316195423570985008687907853269984665640564039457584007913129603823)) := by
 simp only [rO,bA,aG7,Option.bind_some,aKe (b := 115792089237316195423570985008687907853269984665640564039457584007913129603823) hN (by decide) (by decide) ha hb]
theorem aLA {e : Nat} (he : e < 115792089237316195423570985008687907853269984665640564039457584007913129639936) {j : Nat} (hj : j < 256) : ∃ x y : Nat,bB 4 (U e) ((j / 64 : Nat) : Int) = some (x : Int) ∧ shr .u64 (x : Int) ((j % 64 : Nat) : Int) = some (y : Int) ∧ (bits .and .u64 (y : Int) 1 == 1) = decide (e / 2 ^ j % 2 = 1) := by
 have hx : bB 4 (U e) ((j / 64 : Nat) : Int) = some ((e / 2 ^ (64 * (j / 64)) % 18446744073709551616 : Nat) : Int) := by
  have h4 : j / 64 < 4 := by omega
  unfold U
  generalize j / 64 = k at *
  match k,h4 with
  | 0,_ => rw [show 2 ^ (64 * 0) = 1 from rfl,Nat.div_one]; rfl
  | 1,_ => rfl
  | 2,_ => rfl
  | 3,_ => rfl
 refine ⟨_,_,hx,uP _ _ (show e / 2 ^ (64 * (j / 64)) % 18446744073709551616 < 2 ^ 64 by omega), ?_⟩
 have hlt : e / 2 ^ (64 * (j / 64)) % 18446744073709551616 / 2 ^ (j % 64) < 2 ^ 64 := Nat.lt_of_le_of_lt (Nat.div_le_self _ _) (show e / 2 ^ (64 * (j / 64)) % 18446744073709551616 < 2 ^ 64 by omega)
 rw [show (1 : Int) = ((1 : Nat) : Int) from rfl,aCk (k := .u64) rfl _ 1 hlt (by decide),Nat.and_one_is_mod]
 have key : e / 2 ^ (64 * (j / 64)) % 18446744073709551616 / 2 ^ (j % 64) % 2 = e / 2 ^ j % 2 := by
  have h1 : (e / 2 ^ (64 * (j / 64)) % 2 ^ 64).testBit (j % 64) = (e / 2 ^ (64 * (j / 64))).testBit (j % 64) := by
   rw [Nat.testBit_mod_two_pow,decide_eq_true (Nat.mod_lt _ (by omega)),Bool.true_and]
  rw [Nat.testBit_div_two_pow,show j % 64 + 64 * (j / 64) = j by omega] at h1
  rw [Nat.testBit_eq_decide_div_mod_eq,Nat.testBit_eq_decide_div_mod_eq,decide_eq_decide] at h1
  have h2 : e / 2 ^ (64 * (j / 64)) % 2 ^ 64 / 2 ^ (j % 64) % 2 = e / 2 ^ j % 2 := by
   generalize e / 2 ^ (64 * (j / 64)) % 2 ^ 64 / 2 ^ (j % 64) = u at *
   generalize e / 2 ^ j = w at *
   omega
  exact h2
 rw [key]
 generalize e / 2 ^ j % 2 = u
 by_cases h : u = 1
 ·subst h; rfl
 ·rw [decide_eq_false h]; simp; omega
theorem aGT (a p e : Nat) : (a ^ (e / 2) % p) * (a ^ (e / 2) % p) % p * (if e % 2 = 1 then a else 1) % p = a ^ e % p := by
 have h : a ^ e = a ^ (e / 2) * a ^ (e / 2) * (if e % 2 = 1 then a else 1) := by
  rw [← Nat.pow_add]
  split
  ·rename_i h1
   rw [← Nat.pow_succ]; congr 1; omega
  ·rw [Nat.mul_one]; congr 1; omega
 rw [h,← Nat.mul_mod,Nat.mod_mul_mod]
section
variable {N : Nat} (hN : 70000 ≤ N)
include hN
theorem aDd {a e n : Nat} (ha : a < 115792089237316195423570985008687907853269984665640564039457584007913129639936) (he : e < 115792089237316195423570985008687907853269984665640564039457584007913129639936) (hn : n ≤ 256) : ∀ (m j : Nat),n - j < m → j ≤ n → jN N (U a) (U e) (n : Int) m (j : Int) (U (a ^ (e / 2 ^ (n - j)) % 115792089237316195423570985008687907853269984665640564039457584007913129603823)) = some (U (a ^ e % 115792089237316195423570985008687907853269984665640564039457584007913129603823))
 | 0,j,hm,_ => by omega
 | m + 1,j,hm,hj => by
  rw [jN]
  by_cases h : j < n
  ·rw [dT h,if_pos rfl]
   have hp : a ^ (e / 2 ^ (n - j)) % 115792089237316195423570985008687907853269984665640564039457584007913129603823 < 115792089237316195423570985008687907853269984665640564039457584007913129639936 := Nat.lt_of_lt_of_le (Nat.mod_lt _ (by omega)) (by omega)
   obtain ⟨x,y,b1,b2,b3⟩ := aLA he (show n - 1 - j < 256 by omega)
   rw [b4 (a := (n : Int) - 1) (by omega) (by omega),b4 (a := (n : Int) - 1 - (j : Int)) (by omega) (by omega),show (n : Int) - 1 - (j : Int) = ((n - 1 - j : Nat) : Int) by omega,show (64 : Int) = ((64 : Nat) : Int) from rfl,oK,qE,b4 (a := (((n - 1 - j) / 64 : Nat) : Int)) (by omega) (by omega)]
   simp only [bA,aIB hN hp hp,Option.bind_some,b1,b2,b3]
   have hdiv : e / 2 ^ (n - (j + 1)) / 2 = e / 2 ^ (n - j) := by rw [Nat.div_div_eq_div_mul,show 2 ^ (n - (j + 1)) * 2 = 2 ^ (n - j) by rw [← Nat.pow_succ]; congr 1; omega]
   have key := aGT a 115792089237316195423570985008687907853269984665640564039457584007913129603823 (e / 2 ^ (n - (j + 1)))
   rw [hdiv] at key
   have hlt2 : (a ^ (e / 2 ^ (n - j)) % 115792089237316195423570985008687907853269984665640564039457584007913129603823) * (a ^ (e / 2 ^ (n - j)) % 115792089237316195423570985008687907853269984665640564039457584007913129603823) % 115792089237316195423570985008687907853269984665640564039457584007913129603823 < 115792089237316195423570985008687907853269984665640564039457584007913129639936 := Nat.lt_of_lt_of_le (Nat.mod_lt _ (by omega)) (by omega)
   rw [show n - 1 - j = n - (j + 1) by omega]
   by_cases hb : e / 2 ^ (n - (j + 1)) % 2 = 1
   ·rw [decide_eq_true hb,if_pos rfl,aIB hN hlt2 ha]
    rw [if_pos hb] at key
    simp only [Option.bind_some,bA,o9,i1 (show j ≤ 100000 by omega),key]
    exact aDd ha he hn m (j + 1) (by omega) (by omega)
   ·rw [decide_eq_false hb]
    rw [if_neg hb,Nat.mul_one,Nat.mod_mod] at key
    simp only [Bool.false_eq_true,if_false,o9,i1 (show j ≤ 100000 by omega),key]
    exact aDd ha he hn m (j + 1) (by omega) (by omega)
  ·obtain rfl : j = n := by omega
   rw [dF h,Nat.sub_self,Nat.pow_zero,Nat.div_one]
   rfl
theorem aCG {a e : Nat} (ha : a < 115792089237316195423570985008687907853269984665640564039457584007913129639936) (he : e < 115792089237316195423570985008687907853269984665640564039457584007913129639936) : sN N (U a) (U e) = some (U (a ^ e % 115792089237316195423570985008687907853269984665640564039457584007913129603823)) := by
 obtain ⟨n,h1,h2,h3⟩ := aN9 hN he
 have h4 := aDd hN ha he h1 N 0 (by omega) (by omega)
 rw [Nat.sub_zero,Nat.div_eq_of_lt h2,Nat.pow_zero,show 1 % 115792089237316195423570985008687907853269984665640564039457584007913129603823 = 1 from rfl,show ((0 : Nat) : Int) = 0 from rfl] at h4
 have hU1 : ([1,0,0,0] : List Int) = U 1 := by decide +kernel
 simp only [sN,d5,hU1,bA,h3,Option.bind_some,h4,uU]
end
theorem aJN {k : Nat} (h : k ≤ 1) : ((k : Int) == 1) = ((k : Int) != 0) := by
 rcases (by omega : k = 0 ∨ k = 1) with rfl | rfl <;> rfl
theorem aJn (N : Nat) (a b : List Int) : ∀ (m : Nat) (c x : Int) (l : List Int),mX N a b m c x l = iK N a b m c x l
 | 0,_,_,_ => rfl
 | m + 1,c,x,l => by simp only [mX,iK,aJn N a b m]
theorem aJU (N : Nat) (a b : List Int) : ∀ (m : Nat) (c x : Int) (l : List Int),mV N a b m c x l = iJ N a b m c x l
 | 0,_,_,_ => rfl
 | m + 1,c,x,l => by simp only [mV,iJ,aJU N a b m]
theorem aJS (N : Nat) (a b : List Int) : ∀ (m : Nat) (x : Int),mP N a b m x = kN N a b m x
 | 0,_ => rfl
 | m + 1,x => by simp only [mP,kN,aJS N a b m]
theorem aHr (N : Nat) (a b : List Int) : nR N a b = lK N a b := by
 unfold nR lK
 rw [aJS]
 rfl
theorem aML {N : Nat} (hN : 70000 ≤ N) {a0 a1 a2 a3 b0 b1 b2 b3 : Nat} (ha0 : a0 < 18446744073709551616) (ha1 : a1 < 18446744073709551616) (ha2 : a2 < 18446744073709551616) (ha3 : a3 < 18446744073709551616) (hb0 : b0 < 18446744073709551616) (hb1 : b1 < 18446744073709551616) (hb2 : b2 < 18446744073709551616) (hb3 : b3 < 18446744073709551616) :
  sM N (w4 a0 a1 a2 a3) (w4 b0 b1 b2 b3) = sA N (w4 a0 a1 a2 a3) (w4 b0 b1 b2 b3) := by
 obtain ⟨s0,k0,e0,f0,g0,l0⟩ := oO ha0 hb0 (Nat.zero_le 1)
 obtain ⟨s1,k1,e1,f1,g1,l1⟩ := oO ha1 hb1 l0
 obtain ⟨s2,k2,e2,f2,g2,l2⟩ := oO ha2 hb2 l1
 obtain ⟨s3,k3,e3,f3,g3,l3⟩ := oO ha3 hb3 l2
 obtain ⟨m,hm⟩ := q4 (fun q => iK N (w4 a0 a1 a2 a3) (w4 b0 b1 b2 b3) q 0 0 (List.replicate 4 0)) hN
 unfold sM sA
 rw [aJn,hm]
 have e0' : oU (a0 : Int) (b0 : Int) 0 = some ((s0 : Int),(k0 : Int)) := e0
 simp only [iK,cS,a40,a41,a42,a43,q40,q41,q42,q43,t40,t41,t42,t43,r40,i01,i12,i23,i34,d04,d14,d24,d34,d44,if_true,Bool.false_eq_true,if_false,Option.bind_some,e0',e1,e2,e3,tJ,u9,aJN l3]
theorem aJc {N : Nat} (hN : 70000 ≤ N) {a b : Nat} (ha : a < 115792089237316195423570985008687907853269984665640564039457584007913129639936) (hb : b < 115792089237316195423570985008687907853269984665640564039457584007913129639936) : sM N (U a) (U b) = some (U ((a + b) % 115792089237316195423570985008687907853269984665640564039457584007913129639936),decide (115792089237316195423570985008687907853269984665640564039457584007913129639936 ≤ a + b)) := by
 obtain ⟨a0,a1,a2,a3,x0,x1,x2,x3,ea,va⟩ := vH ha
 obtain ⟨b0,b1,b2,b3,y0,y1,y2,y3,eb,vb⟩ := vH hb
 rw [← aLr hN ha hb,ea,eb]
 exact aML hN x0 x1 x2 x3 y0 y1 y2 y3
theorem aLT {N : Nat} (hN : 70000 ≤ N) {a0 a1 a2 a3 b0 b1 b2 b3 : Nat} (ha0 : a0 < 18446744073709551616) (ha1 : a1 < 18446744073709551616) (ha2 : a2 < 18446744073709551616) (ha3 : a3 < 18446744073709551616) (hb0 : b0 < 18446744073709551616) (hb1 : b1 < 18446744073709551616) (hb2 : b2 < 18446744073709551616) (hb3 : b3 < 18446744073709551616) :
  nM N (w4 a0 a1 a2 a3) (w4 b0 b1 b2 b3) = oG N (w4 a0 a1 a2 a3) (w4 b0 b1 b2 b3) := by
 obtain ⟨s0,k0,e0,f0,g0,l0⟩ := sO ha0 hb0 (Nat.zero_le 1)
 obtain ⟨s1,k1,e1,f1,g1,l1⟩ := sO ha1 hb1 l0
 obtain ⟨s2,k2,e2,f2,g2,l2⟩ := sO ha2 hb2 l1
 obtain ⟨s3,k3,e3,f3,g3,l3⟩ := sO ha3 hb3 l2
 obtain ⟨m,hm⟩ := q4 (fun q => iJ N (w4 a0 a1 a2 a3) (w4 b0 b1 b2 b3) q 0 0 (List.replicate 4 0)) hN
 unfold nM oG
 rw [aJU,hm]
 have e0' : aBl (a0 : Int) (b0 : Int) 0 = some ((s0 : Int),(k0 : Int)) := e0
 simp only [iJ,oB,a40,a41,a42,a43,q40,q41,q42,q43,t40,t41,t42,t43,r40,i01,i12,i23,i34,d04,d14,d24,d34,d44,if_true,Bool.false_eq_true,if_false,Option.bind_some,e0',e1,e2,e3,t3,vG,aJN l3]
theorem aEj {N : Nat} (hN : 70000 ≤ N) {a b : Nat} (ha : a < 115792089237316195423570985008687907853269984665640564039457584007913129639936) (hb : b < 115792089237316195423570985008687907853269984665640564039457584007913129639936) : nM N (U a) (U b) = some (U ((a + 115792089237316195423570985008687907853269984665640564039457584007913129639936 - b) % 115792089237316195423570985008687907853269984665640564039457584007913129639936),decide (a < b)) := by
 obtain ⟨a0,a1,a2,a3,x0,x1,x2,x3,ea,va⟩ := vH ha
 obtain ⟨b0,b1,b2,b3,y0,y1,y2,y3,eb,vb⟩ := vH hb
 rw [← aCT hN ha hb,ea,eb]
 exact aLT hN x0 x1 x2 x3 y0 y1 y2 y3
theorem aDN {N e : Nat} (he : e < 115792089237316195423570985008687907853269984665640564039457584007913129639936) {j : Nat} (hj : j < 256) : k4 N (U e) (j : Int) = some (decide (e / 2 ^ j % 2 = 1)) := by
 obtain ⟨x,y,h1,h2,h3⟩ := aLA he hj
 have hd : Int.tdiv (j : Int) 64 = ((j / 64 : Nat) : Int) := oK j 64
 have hm : Int.tmod (j : Int) 64 = ((j % 64 : Nat) : Int) := qE j 64
 unfold k4
 rw [hd,hm,b4 (by omega) (by omega),h1]
 simp only [Option.bind_some,h2,h3]
theorem aCQ {N n : Nat} (hn : n < 115792089237316195423570985008687907853269984665640564039457584007913129639936) : nK N (U n) = some (decide (n = 0)) := by
 unfold nK
 rw [bA]
 simp only [Option.bind_some]
 rw [← tN,vW hn (by omega)]
theorem aFy {N e : Nat} (he : e < 115792089237316195423570985008687907853269984665640564039457584007913129639936) : ∀ (f k : Nat),k < f → k ≤ 256 → e < 2 ^ k → ∃ n : Nat,n ≤ 256 ∧ e < 2 ^ n ∧ ((mR N (U e) f ((k : Int) - 1)).bind fun q => match q with | .ret v => some v | .brk _ => v4 N) = some (n : Int)
 | f + 1,0,_,_,h => by
  refine ⟨0,by omega,h, ?_⟩
  rfl
 | f + 1,k + 1,hf,hk,h => by
  unfold mR
  rw [show (((k + 1 : Nat) : Int) - 1) = (k : Int) by omega,if_pos (decide_eq_true (by omega)),bA]
  simp only [Option.bind_some]
  rw [aDN he (by omega)]
  simp only [Option.bind_some]
  by_cases hb : e / 2 ^ k % 2 = 1
  ·rw [if_pos (decide_eq_true hb)]
   refine ⟨k + 1,by omega,h, ?_⟩
   simp only [Option.bind_some]
   rw [b4 (by omega) (by omega)]
   rfl
  ·rw [if_neg (by simpa using hb),b4 (by omega) (by omega)]
   refine aFy he f k (by omega) (by omega) ?_
   have h1 : e / 2 ^ k < 2 := by
    rw [Nat.div_lt_iff_lt_mul (Nat.pow_pos (by omega))]
    rw [Nat.pow_succ] at h
    omega
   have h2 : e / 2 ^ k = 0 := by revert h1 hb; generalize e / 2 ^ k = q; intro h1 hb; omega
   exact (Nat.div_eq_zero_iff.1 h2).resolve_left (by have := Nat.pow_pos (n := k) (show 0 < 2 by omega); omega)
theorem aNI {N e : Nat} (hN : 70000 ≤ N) (he : e < 115792089237316195423570985008687907853269984665640564039457584007913129639936) : ∃ n : Nat,n ≤ 256 ∧ e < 2 ^ n ∧ aAz N (U e) = some (n : Int) := by
 obtain ⟨n,h1,h2,h3⟩ := aFy (N := N) he N 256 (by omega) (by omega) (by rw [aAY]; exact he)
 exact ⟨n,h1,h2,h3⟩
theorem aI4 (x y c : Int) : oU x y c = oU y x c := by
 unfold oU
 rw [Nat.add_comm x.toNat y.toNat]
theorem aH3 (N : Nat) (a b : List Int) (i : Int) : ∀ (m : Nat) (c x : Int) (l : List Int),mC N a b i m c x l = b9 N a b i m c x l
 | 0,_,_,_ => rfl
 | m + 1,c,x,l => by
  unfold mC b9
  simp only [aH3 N a b i m,cS]
  split
  ·refine congrArg _ (funext fun p => congrArg _ (funext fun q => congrArg _ (funext fun r => congrArg _ (funext fun t => ?_))))
   rw [aI4 t r.2 0]
  ·rfl
theorem aIo (N : Nat) (a b : List Int) : ∀ (m : Nat) (x : Int) (l : List Int),jC N a b m x l = iF N a b m x l
 | 0,_,_ => rfl
 | m + 1,x,l => by
  unfold jC iF
  simp only [aH3,vJ,uY,t4,t5,aIo N a b m]
theorem aL7 (N : Nat) (l : List Int) : rM N l = tM N l := by
 by_cases h : l.length = 8
 ·match l,h with
  | [a,b,c,d,e,f,g,h],_ => rfl
 ·unfold rM tM
  simp only [aS,if_neg h,Option.bind_none]
theorem aOw (N : Nat) (a b : List Int) : yD N a b = uL N a b := by
 unfold yD uL
 rw [aIo]
 exact congrArg _ (funext fun l => aL7 N l)
theorem aM7 {n : Nat} (h2 : n % 2 = 0) (hn : n < 115792089237316195423570985008687907853269984665640564039457584007913129639936) : ∃ x : Int,bB 4 (U n) 0 = some x ∧ (U n).set (Int.toNat 0) (bits .or .u64 x 1) = U (n + 1) := by
 refine ⟨_,rfl, ?_⟩
 have h1 : bits .or .u64 ((n % 18446744073709551616 : Nat) : Int) 1 = (((n + 1) % 18446744073709551616 : Nat) : Int) := by
  rw [show (1 : Int) = ((1 : Nat) : Int) from rfl,t0 (k := .u64) rfl _ 1 (show n % 18446744073709551616 < 2 ^ 64 by omega) (by decide)]
  congr 1
  have h3 : n % 18446744073709551616 = 2 * (n % 18446744073709551616 / 2) := by omega
  rw [h3,show 2 * (n % 18446744073709551616 / 2) ||| 1 = 2 * (n % 18446744073709551616 / 2) + 1 from by
   have := Nat.two_pow_add_eq_or_of_lt (i := 1) (b := 1) (by decide) (n % 18446744073709551616 / 2)
   simpa using this.symm]
  omega
 show [bits .or .u64 ((n % 18446744073709551616 : Nat) : Int) 1,((n / 18446744073709551616 % 18446744073709551616 : Nat) : Int),((n / 340282366920938463463374607431768211456 % 18446744073709551616 : Nat) : Int),((n / 6277101735386680763835789423207666416102355444464034512896 % 18446744073709551616 : Nat) : Int)] = U (n + 1)
 rw [h1]
 unfold U w4
 rw [show (n + 1) / 18446744073709551616 = n / 18446744073709551616 by omega,show (n + 1) / 340282366920938463463374607431768211456 = n / 340282366920938463463374607431768211456 by omega,show (n + 1) / 6277101735386680763835789423207666416102355444464034512896 = n / 6277101735386680763835789423207666416102355444464034512896 by omega]
section
variable {N : Nat} (hN : 70000 ≤ N) {b : Nat} (hb : b < 115792089237316195423570985008687907853269984665640564039457584007913129639936) (hb0 : 0 < b)
include hN hb hb0
theorem aPg {q : List Int} (hq : q.length = 4) {k : Nat} (hk : k < 256) : ∃ x y : Int,bB 4 q (IntKind.i64.wrap (Int.tdiv (k : Int) 64)) = some x ∧ shl .u64 1 (Int.tmod (k : Int) 64) = some y := by
 have hd : Int.tdiv (k : Int) 64 = ((k / 64 : Nat) : Int) := oK k 64
 have hm : Int.tmod (k : Int) 64 = ((k % 64 : Nat) : Int) := qE k 64
 rw [hd,hm,b4 (by omega) (by omega)]
 refine ⟨q[k / 64]'(by omega),_, ?_,aA2 (k := .u64) rfl 1 (k % 64)⟩
 unfold bB
 rw [if_pos (show ((k / 64 : Nat) : Int) < ((4 : Nat) : Int) by omega)]
 exact d8 q (by omega)
theorem aFL {lo : Nat} (hlo : lo < 115792089237316195423570985008687907853269984665640564039457584007913129639936) : ∀ (f k r : Nat) (q : List Int),k < f → k ≤ 256 → r < b → q.length = 4 → ∃ q',q'.length = 4 ∧ dQ N (U lo) (U b) f ((k : Int) - 1) q (U r) = some (q',U ((r * 2 ^ k + lo % 2 ^ k) % b))
 | f + 1,0,r,q,_,_,hr,hq => by
  refine ⟨q,hq, ?_⟩
  rw [show (r * 2 ^ 0 + lo % 2 ^ 0) % b = r by rw [Nat.pow_zero,Nat.mod_one]; simpa using Nat.mod_eq_of_lt hr]
  rfl
 | f + 1,k + 1,r,q,hf,hk,hr,hq => by
  have key : ∀ t : Nat,t ≤ 1 → lo / 2 ^ k % 2 = t → ∀ q1 : List Int,q1.length = 4 → ∃ q',q'.length = 4 ∧ dQ N (U lo) (U b) f ((k : Int) - 1) q1 (U ((2 * r + t) % b)) = some (q',U ((r * 2 ^ (k + 1) + lo % 2 ^ (k + 1)) % b)) := by
   intro t ht hbit q1 hq1
   obtain ⟨q',h1,h2⟩ := aFL hlo f k ((2 * r + t) % b) q1 (by omega) (by omega) (Nat.mod_lt _ hb0) hq1
   refine ⟨q',h1, ?_⟩
   rw [h2,aDp,show lo % 2 ^ (k + 1) = t * 2 ^ k + lo % 2 ^ k from by rw [Nat.pow_succ,Nat.mod_mul,hbit,Nat.add_comm,Nat.mul_comm],show r * 2 ^ (k + 1) + (t * 2 ^ k + lo % 2 ^ k) = (2 * r + t) * 2 ^ k + lo % 2 ^ k from by rw [Nat.pow_succ,Nat.add_mul,Nat.mul_comm (2 ^ k) 2,← Nat.mul_assoc,Nat.mul_comm r 2,Nat.add_assoc]]
  have hr4 : r < 115792089237316195423570985008687907853269984665640564039457584007913129639936 := by omega
  have fin : ∀ t : Nat,t ≤ 1 → lo / 2 ^ k % 2 = t → ∃ q',q'.length = 4 ∧ pD N (U lo) (U b) (k : Int) q (decide (r / 2 ^ 255 % 2 = 1)) (dQ N (U lo) (U b) f) (U ((2 * r + t) % 115792089237316195423570985008687907853269984665640564039457584007913129639936)) = some (q',U ((r * 2 ^ (k + 1) + lo % 2 ^ (k + 1)) % b)) := by
   intro t ht hbit
   have hx : (2 * r + t) % 115792089237316195423570985008687907853269984665640564039457584007913129639936 < 115792089237316195423570985008687907853269984665640564039457584007913129639936 := Nat.mod_lt _ (by omega)
   obtain ⟨y,z,e1,e2⟩ := aPg hN hb hb0 hq (show k < 256 by omega)
   have sub : ∀ (h : 115792089237316195423570985008687907853269984665640564039457584007913129639936 ≤ 2 * r + t ∨ b ≤ 2 * r + t),∃ q',q'.length = 4 ∧ mA N (U lo) (U b) (k : Int) q (U ((2 * r + t) % 115792089237316195423570985008687907853269984665640564039457584007913129639936)) (dQ N (U lo) (U b) f) true = some (q',U ((r * 2 ^ (k + 1) + lo % 2 ^ (k + 1)) % b)) := by
    intro h
    have hb2 : b ≤ 2 * r + t := by omega
    have hm : (2 * r + t) % b = 2 * r + t - b := by rw [Nat.mod_eq_sub_mod hb2,Nat.mod_eq_of_lt (by omega)]
    have hs : ((2 * r + t) % 115792089237316195423570985008687907853269984665640564039457584007913129639936 + 115792089237316195423570985008687907853269984665640564039457584007913129639936 - b) % 115792089237316195423570985008687907853269984665640564039457584007913129639936 = (2 * r + t) % b := by rw [hm]; omega
    unfold mA
    rw [if_pos rfl,bA,Option.bind_some,aEj hN hx hb,Option.bind_some,hs]
    simp only [bA,Option.bind_some,e1,e2,pQ]
    rw [b4 (by omega) (by omega)]
    exact key t ht hbit _ (by rw [List.length_set]; exact hq)
   unfold pD
   by_cases ho : r / 2 ^ 255 % 2 = 1
   ·rw [if_pos (decide_eq_true ho)]
    exact sub (.inl (by omega))
   ·rw [if_neg (by simpa using ho),bA,Option.bind_some,aHr,uE hN hx hb,Option.bind_some,aD0]
    have hnw : 2 * r + t < 115792089237316195423570985008687907853269984665640564039457584007913129639936 := by omega
    by_cases hc : b ≤ (2 * r + t) % 115792089237316195423570985008687907853269984665640564039457584007913129639936
    ·rw [decide_eq_true hc]
     exact sub (.inr (by omega))
    ·rw [decide_eq_false hc]
     rw [Nat.mod_eq_of_lt hnw] at hc ⊢
     unfold mA
     simp only [Bool.false_eq_true,if_false,pQ]
     rw [b4 (by omega) (by omega)]
     have := key t ht hbit q hq
     rwa [Nat.mod_eq_of_lt (show 2 * r + t < b by omega)] at this
  have h255 : k4 N (U r) 255 = some (decide (r / 2 ^ 255 % 2 = 1)) := aDN (j := 255) hr4 (by omega)
  unfold dQ
  rw [show (((k + 1 : Nat) : Int) - 1) = (k : Int) by omega,if_pos (decide_eq_true (by omega)),bA,Option.bind_some,h255,Option.bind_some,aJc hN hr4 hr4,Option.bind_some]
  simp only [bA,Option.bind_some]
  rw [aDN hlo (show k < 256 by omega),Option.bind_some,show r + r = 2 * r by omega]
  by_cases hbit : lo / 2 ^ k % 2 = 1
  ·rw [if_pos (decide_eq_true hbit)]
   obtain ⟨x,h1,h2⟩ := aM7 (n := 2 * r % 115792089237316195423570985008687907853269984665640564039457584007913129639936) (by omega) (by omega)
   rw [h1,Option.bind_some,h2,show 2 * r % 115792089237316195423570985008687907853269984665640564039457584007913129639936 + 1 = (2 * r + 1) % 115792089237316195423570985008687907853269984665640564039457584007913129639936 by omega]
   exact fin 1 (by omega) hbit
  ·rw [if_neg (by simpa using hbit)]
   exact fin 0 (by omega) (by omega)
theorem aJh {hi lo : Nat} (hh : hi < b) (hl : lo < 115792089237316195423570985008687907853269984665640564039457584007913129639936) : ∃ q',q'.length = 4 ∧ uT N (U hi) (U lo) (U b) = some (q',U ((hi * 115792089237316195423570985008687907853269984665640564039457584007913129639936 + lo) % b),true) := by
 obtain ⟨q',h1,h2⟩ := aFL hN hb hb0 hl N 256 hi (List.replicate 4 0) (by omega) (by omega) hh rfl
 refine ⟨q',h1, ?_⟩
 rw [aAY,Nat.mod_eq_of_lt hl] at h2
 unfold uT
 rw [bA,Option.bind_some,bA,Option.bind_some,aHr,uE hN hb (by omega),Option.bind_some,aLq,decide_eq_false (by omega)]
 simp only [Bool.false_eq_true,if_false]
 rw [show dQ N (U lo) (U b) N 255 (List.replicate 4 0) (U hi) = _ from h2,Option.bind_some]
 simp only [vF,s9 h1,bA,Option.bind_some]
theorem yE {a : Nat} (ha : a < 115792089237316195423570985008687907853269984665640564039457584007913129639936) : jP N (U a) (U b) = some (U (a % b)) := by
 obtain ⟨q',h1,h2⟩ := aJh hN hb hb0 (hi := 0) hb0 ha
 rw [Nat.zero_mul,Nat.zero_add] at h2
 unfold jP
 rw [bA,Option.bind_some,bA,Option.bind_some,← tN,h2,Option.bind_some]
 simp only [s9 h1,bA,Option.bind_some]
theorem aCA {x y : Nat} (hx : x < 115792089237316195423570985008687907853269984665640564039457584007913129639936) (hy : y < 115792089237316195423570985008687907853269984665640564039457584007913129639936) : mS N (U x) (U y) (U b) = some (U (x * y % b)) := by
 have hxb : x % b < b := Nat.mod_lt _ hb0
 have hyb : y % b < b := Nat.mod_lt _ hb0
 have hp : x % b * (y % b) / 115792089237316195423570985008687907853269984665640564039457584007913129639936 < b := by
  rw [Nat.div_lt_iff_lt_mul (by omega)]
  exact Nat.lt_of_lt_of_le (Nat.mul_lt_mul_of_lt_of_lt hxb hyb) (Nat.mul_le_mul_left _ (by omega))
 obtain ⟨q',h1,h2⟩ := aJh hN hb hb0 hp (Nat.mod_lt (x % b * (y % b)) (show 0 < 115792089237316195423570985008687907853269984665640564039457584007913129639936 by omega))
 rw [Nat.mul_comm (x % b * (y % b) / _),Nat.div_add_mod,← Nat.mul_mod] at h2
 unfold mS
 rw [bA,Option.bind_some,aCQ hb,Option.bind_some,decide_eq_false (by omega)]
 simp only [Bool.false_eq_true,if_false,bA,Option.bind_some,yE hN hb hb0 hx,yE hN hb hb0 hy,aOw,aLz hN (show x % b < 115792089237316195423570985008687907853269984665640564039457584007913129639936 by omega) (show y % b < 115792089237316195423570985008687907853269984665640564039457584007913129639936 by omega),h2,s9 h1]
theorem aJl {x y : Nat} (hx : x < 115792089237316195423570985008687907853269984665640564039457584007913129639936) (hy : y < 115792089237316195423570985008687907853269984665640564039457584007913129639936) : sH N (U x) (U y) (U b) = some (U ((x + y) % b)) := by
 have hxb : x % b < b := Nat.mod_lt _ hb0
 have hyb : y % b < b := Nat.mod_lt _ hb0
 have hs := Nat.add_mod x y b
 unfold sH
 rw [bA,Option.bind_some,aCQ hb,Option.bind_some,decide_eq_false (by omega)]
 simp only [Bool.false_eq_true,if_false,bA,Option.bind_some,yE hN hb hb0 hx,yE hN hb hb0 hy,aJc hN (show x % b < 115792089237316195423570985008687907853269984665640564039457584007913129639936 by omega) (show y % b < 115792089237316195423570985008687907853269984665640564039457584007913129639936 by omega)]
 have sub : b ≤ x % b + y % b → i7 N (U b) (U ((x % b + y % b) % 115792089237316195423570985008687907853269984665640564039457584007913129639936),decide (115792089237316195423570985008687907853269984665640564039457584007913129639936 ≤ x % b + y % b)) true = some (U ((x + y) % b)) := by
  intro h
  have hm : (x + y) % b = x % b + y % b - b := by rw [hs,Nat.mod_eq_sub_mod h,Nat.mod_eq_of_lt (by omega)]
  unfold i7
  rw [if_pos rfl,aEj hN (Nat.mod_lt _ (by omega)) hb,Option.bind_some]
  simp only [bA,Option.bind_some,lF]
  rw [hm]
  congr 2
  omega
 by_cases ho : 115792089237316195423570985008687907853269984665640564039457584007913129639936 ≤ x % b + y % b
 ·rw [if_pos (decide_eq_true ho)]
  exact sub (by omega)
 ·rw [if_neg (by simpa using ho),aHr,uE hN (Nat.mod_lt _ (by omega)) hb,Option.bind_some,aD0]
  by_cases hc : b ≤ (x % b + y % b) % 115792089237316195423570985008687907853269984665640564039457584007913129639936
  ·rw [decide_eq_true hc]
   exact sub (by omega)
  ·rw [decide_eq_false hc]
   unfold i7
   simp only [Bool.false_eq_true,if_false,bA,Option.bind_some,lF]
   rw [hs,Nat.mod_eq_of_lt (show x % b + y % b < 115792089237316195423570985008687907853269984665640564039457584007913129639936 by omega),Nat.mod_eq_of_lt (show x % b + y % b < b by omega)]
end
section
variable {N : Nat} (hN : 70000 ≤ N) {b : Nat} (hb : b < 115792089237316195423570985008687907853269984665640564039457584007913129639936) (hb0 : 0 < b)
include hN hb hb0
theorem aFq {a e : Nat} (ha : a < 115792089237316195423570985008687907853269984665640564039457584007913129639936) (he : e < 115792089237316195423570985008687907853269984665640564039457584007913129639936) : ∀ (f k : Nat),k < f → k ≤ 256 → fS N (U a) (U e) (U b) f ((k : Int) - 1) (U (a ^ (e / 2 ^ k) % b)) = some (U (a ^ e % b))
 | f + 1,0,_,_ => by rw [Nat.pow_zero,Nat.div_one]; rfl
 | f + 1,k + 1,hf,hk => by
  have ih := aFq ha he f k (by omega) (by omega)
  have hs := aGT a b (e / 2 ^ k)
  have hd : e / 2 ^ (k + 1) = e / 2 ^ k / 2 := by rw [Nat.pow_succ,Nat.div_div_eq_div_mul]
  rw [hd]
  generalize hT : a ^ (e / 2 ^ k / 2) % b = T at *
  have hTb : T < b := hT ▸ Nat.mod_lt _ hb0
  have hTT : T * T % b < b := Nat.mod_lt _ hb0
  unfold fS
  rw [show (((k + 1 : Nat) : Int) - 1) = (k : Int) by omega,if_pos (decide_eq_true (by omega)),bA,Option.bind_some,aCA hN hb hb0 (show T < 115792089237316195423570985008687907853269984665640564039457584007913129639936 by omega) (show T < 115792089237316195423570985008687907853269984665640564039457584007913129639936 by omega),Option.bind_some,bA,Option.bind_some,aDN he (show k < 256 by omega),Option.bind_some]
  by_cases hbit : e / 2 ^ k % 2 = 1
  ·rw [if_pos hbit] at hs
   rw [if_pos (decide_eq_true hbit),bA,Option.bind_some,aCA hN hb hb0 (show T * T % b < 115792089237316195423570985008687907853269984665640564039457584007913129639936 by omega) ha,Option.bind_some,bA,Option.bind_some,hs]
   unfold lB
   rw [b4 (by omega) (by omega)]
   exact ih
  ·rw [if_neg hbit,Nat.mul_one,Nat.mod_mod] at hs
   rw [if_neg (by simpa using hbit),hs]
   unfold lB
   rw [b4 (by omega) (by omega)]
   exact ih
theorem aJZ {a e : Nat} (ha : a < 115792089237316195423570985008687907853269984665640564039457584007913129639936) (he : e < 115792089237316195423570985008687907853269984665640564039457584007913129639936) : r7 N (U a) (U e) (U b) = some (U (a ^ e % b)) := by
 obtain ⟨n,h1,h2,h3⟩ := aNI hN he
 have hl := aFq hN hb hb0 ha he N n (by omega) h1
 rw [Nat.div_eq_of_lt h2,Nat.pow_zero] at hl
 unfold r7
 rw [bA,Option.bind_some,aCQ hb,Option.bind_some,decide_eq_false (by omega)]
 simp only [Bool.false_eq_true,if_false]
 rw [show eP N 1 = some (U 1) from rfl,Option.bind_some,yE hN hb hb0 (by omega),Option.bind_some,bA,Option.bind_some,bA,Option.bind_some,h3,Option.bind_some,b4 (by omega) (by omega),hl,Option.bind_some]
 rfl
end
section
variable {N : Nat} (hN : 70000 ≤ N)
theorem aCI (N : Nat) (hN : 70000 ≤ N) : j6 N = some (U 115792089237316195423570985008687907853269984665640564039457584007913129603823) := by
 unfold j6
 rw [show eP N 36113 = some (U 36113) from rfl,Option.bind_some,← tN,aEj hN (by omega) (by omega),Option.bind_some,bA,Option.bind_some]
theorem aGC (N : Nat) (va : List Int) (n : Int) : ∀ (f f' : Nat) (i : Int) (l r : List Int),f ≤ f' → fZ 0 va n f i l = some r → fZ N va n f' i l = some r
 | 0,_,_,_,_,_,h => by cases h
 | f + 1,0,_,_,_,hf,_ => by omega
 | f + 1,f' + 1,i,l,r,hf,h => by
  have ih := aGC N va n f f'
  unfold fZ at h ⊢
  split at h
  ·rename_i hc
   rw [if_pos hc]
   obtain ⟨q,h1,h⟩ := Option.bind_eq_some_iff.1 h
   obtain ⟨x,h2,h⟩ := Option.bind_eq_some_iff.1 h
   rw [h1,Option.bind_some,show k4 N va (IntKind.i64.wrap (i + n)) = some x from h2,Option.bind_some]
   split at h
   ·rename_i hx
    rw [if_pos hx]
    obtain ⟨y,h3,h⟩ := Option.bind_eq_some_iff.1 h
    obtain ⟨z,h4,h⟩ := Option.bind_eq_some_iff.1 h
    rw [h3,Option.bind_some,h4,Option.bind_some]
    exact ih _ _ _ (by omega) h
   ·rename_i hx
    rw [if_neg hx]
    exact ih _ _ _ (by omega) h
  ·rename_i hc
   rw [if_neg hc]
   exact h
theorem aNw : fZ 0 (U 115792089237316195423570985008687907853269984665640564039457584007913129603823) 1 300 0 (List.replicate 4 0) = some (U 57896044618658097711785492504343953926634992332820282019728792003956564801911) := by decide +kernel
theorem aCF (N : Nat) (hN : 70000 ≤ N) : lV N = some (U 57896044618658097711785492504343953926634992332820282019728792003956564801911) := by
 unfold lV
 rw [aCI N hN,Option.bind_some]
 unfold aAv
 rw [if_neg (by decide),if_neg (by decide),aGC N _ 1 300 N 0 _ _ (by omega) aNw,Option.bind_some]
 rfl
include hN
theorem aHt {a e : Nat} (ha : a < 115792089237316195423570985008687907853269984665640564039457584007913129639936) (he : e < 115792089237316195423570985008687907853269984665640564039457584007913129639936) : pV N (U a) (U e) = some (U (a ^ e % 115792089237316195423570985008687907853269984665640564039457584007913129603823)) := by
 unfold pV
 rw [bA,Option.bind_some,bA,Option.bind_some,aCI N hN,Option.bind_some,aJZ hN (by omega) (by omega) ha he,Option.bind_some,bA,Option.bind_some]
theorem aKw {e : Nat} (he : e < 115792089237316195423570985008687907853269984665640564039457584007913129639936) : tI N (U e) = some (U (4 ^ e % 115792089237316195423570985008687907853269984665640564039457584007913129603823)) := by
 unfold tI
 rw [show eP N 4 = some (U 4) from rfl,Option.bind_some,bA,Option.bind_some,aHt hN (by omega) he,Option.bind_some,bA,Option.bind_some]
theorem aGB {a b : Nat} (ha : a < 115792089237316195423570985008687907853269984665640564039457584007913129639936) (hb : b < 115792089237316195423570985008687907853269984665640564039457584007913129639936) : nJ N (U a) (U b) = some (U ((a + b) % 57896044618658097711785492504343953926634992332820282019728792003956564801911)) := by
 unfold nJ
 rw [bA,Option.bind_some,bA,Option.bind_some,aCF N hN,Option.bind_some,aJl hN (by omega) (by omega) ha hb,Option.bind_some,bA,Option.bind_some]
end
abbrev gP : Nat := 115792089237316195423570985008687907853269984665640564039457584007913129603823
abbrev gQ : Nat := 57896044618658097711785492504343953926634992332820282019728792003956564801911
theorem cN {α : Type} {n : Nat} {l : List α} {i : Nat} (h : i < n) (hl : i < l.length) : bB n l (i : Int) = some l[i] := by
 unfold bB; rw [if_pos (by omega),d8 l hl]
theorem cI {α : Type} {n : Nat} {l : List α} (h : l.length = n) : aS n l = some l := by unfold aS; rw [if_pos h]
theorem tP (N : Nat) (x n s : Int) (hs : bits .and .u64 (IntKind.u64.wrap (IntKind.i64.wrap (0 - n))) 31 = s) (h0 : 0 ≤ s) (h1 : s ≤ 32) : ∃ y,cL N x n = some y := by
 unfold cL iD
 rw [hs,uJ (a := 32 - s) (by omega) (by omega)]
 unfold shl shr
 rw [if_neg (by omega),if_neg (by omega)]
 exact ⟨_,rfl⟩
def rv (N : Nat) (x n : Int) : Int := (cL N x n).getD 0
theorem wW {N : Nat} {x n : Int} (h : ∃ y,cL N x n = some y) : cL N x n = some (rv N x n) := by obtain ⟨y,h⟩ := h; simp [rv,h]
theorem rv2 (N : Nat) (x : Int) : cL N x 2 = some (rv N x 2) := wW (tP N x 2 30 (by decide +kernel) (by omega) (by omega))
theorem rv6 (N : Nat) (x : Int) : cL N x 6 = some (rv N x 6) := wW (tP N x 6 26 (by decide +kernel) (by omega) (by omega))
theorem rv7 (N : Nat) (x : Int) : cL N x 7 = some (rv N x 7) := wW (tP N x 7 25 (by decide +kernel) (by omega) (by omega))
theorem aOO (N : Nat) (x : Int) : cL N x 11 = some (rv N x 11) := wW (tP N x 11 21 (by decide +kernel) (by omega) (by omega))
theorem aPu (N : Nat) (x : Int) : cL N x 13 = some (rv N x 13) := wW (tP N x 13 19 (by decide +kernel) (by omega) (by omega))
theorem aPb (N : Nat) (x : Int) : cL N x 17 = some (rv N x 17) := wW (tP N x 17 15 (by decide +kernel) (by omega) (by omega))
theorem aOZ (N : Nat) (x : Int) : cL N x 18 = some (rv N x 18) := wW (tP N x 18 14 (by decide +kernel) (by omega) (by omega))
theorem aOE (N : Nat) (x : Int) : cL N x 19 = some (rv N x 19) := wW (tP N x 19 13 (by decide +kernel) (by omega) (by omega))
theorem aPv (N : Nat) (x : Int) : cL N x 22 = some (rv N x 22) := wW (tP N x 22 10 (by decide +kernel) (by omega) (by omega))
theorem aOR (N : Nat) (x : Int) : cL N x 25 = some (rv N x 25) := wW (tP N x 25 7 (by decide +kernel) (by omega) (by omega))
theorem aOP (x : Int) : shr .u32 x 3 = some (x.fdiv (2 ^ (min (3 : Int).toNat 32))) := by unfold shr; rw [if_neg (by omega)]; rfl
theorem aOj (x : Int) : shr .u32 x 10 = some (x.fdiv (2 ^ (min (10 : Int).toNat 32))) := by unfold shr; rw [if_neg (by omega)]; rfl
theorem sL3 (N : Nat) : ∀ (m j : Nat) (l : List Int),l.length = 64 → 16 ≤ j → j ≤ 64 → 64 - j < m → ∃ r,fQ N m (j : Int) l = some r ∧ r.length = 64
 | 0,j,l,_,_,_,hm => by omega
 | m + 1,j,l,hl,h1,h2,hm => by
  rw [fQ]
  by_cases h : j < 64
  ·rw [show decide ((j : Int) < 64) = true from decide_eq_true (by omega),if_pos rfl]
   rw [b4 (a := (j : Int) - 15) (by omega) (by omega),show (j : Int) - 15 = ((j - 15 : Nat) : Int) by omega,cN (show j - 15 < 64 by omega) (by omega)]
   rw [b4 (a := (j : Int) - 2) (by omega) (by omega),show (j : Int) - 2 = ((j - 2 : Nat) : Int) by omega,cN (show j - 2 < 64 by omega) (by omega)]
   rw [b4 (a := (j : Int) - 16) (by omega) (by omega),show (j : Int) - 16 = ((j - 16 : Nat) : Int) by omega,cN (show j - 16 < 64 by omega) (by omega)]
   rw [b4 (a := (j : Int) - 7) (by omega) (by omega),show (j : Int) - 7 = ((j - 7 : Nat) : Int) by omega,cN (show j - 7 < 64 by omega) (by omega)]
   rw [cN h (by omega)]
   simp only [Option.bind_some,rv7,aOZ,aPb,aOE,aOP,aOj,i1 (show j ≤ 100000 by omega)]
   exact sL3 N m (j + 1) _ (by rw [List.length_set]; exact hl) (by omega) (by omega) (by omega)
  ·rw [show decide ((j : Int) < 64) = false from decide_eq_false (by omega)]
   exact ⟨l,rfl,hl⟩
theorem cL2 (N : Nat) (st w : List Int) (hw : w.length = 64) : ∀ (m j : Nat) (a b c d e f g h : Int),j ≤ 64 → 64 - j < m → ∃ r,fR N st w m a b c d e f g h (j : Int) = some r
 | 0,j,_,_,_,_,_,_,_,_,_,hm => by omega
 | m + 1,j,a,b,c,d,e,f,g,h,hj,hm => by
  rw [fR]
  by_cases h1 : j < 64
  ·rw [show decide ((j : Int) < 64) = true from decide_eq_true (by omega),if_pos rfl,cN h1 (show j < aAF.length from h1),cN h1 (by omega)]
   simp only [Option.bind_some,rv2,rv6,aOO,aPu,aPv,aOR,i1 (show j ≤ 100000 by omega)]
   exact cL2 N st w hw m (j + 1) _ _ _ _ _ _ _ _ (by omega) (by omega)
  ·rw [show decide ((j : Int) < 64) = false from decide_eq_false (by omega)]
   exact ⟨_,rfl⟩
def wd (b : List Nat) (i : Nat) : Nat := ((b.getD (4 * i) 0 * 256 + b.getD (4 * i + 1) 0) * 256 + b.getD (4 * i + 2) 0) * 256 + b.getD (4 * i + 3) 0
theorem uR {b : List Nat} (h : ∀ x ∈ b,x < 256) (i : Nat) : b.getD i 0 < 256 := by
 rw [List.getD_eq_getElem?_getD]
 rcases Nat.lt_or_ge i b.length with hi | hi
 ·rw [List.getElem?_eq_getElem hi]; exact h _ (List.getElem_mem hi)
 ·rw [List.getElem?_eq_none hi]; simp
theorem aEs (a b k : Nat) (h : b < 2 ^ k) : a * 2 ^ k ||| b = a * 2 ^ k + b := by
 rw [Nat.mul_comm,← Nat.two_pow_add_eq_or_of_lt h]
theorem orU (a b : Nat) (ha : a < 4294967296) (hb : b < 4294967296) : bits .or .u32 (a : Int) (b : Int) = ((a ||| b : Nat) : Int) := t0 rfl a b ha hb
theorem aMV (a b : Nat) : shl .u32 (a : Int) (b : Int) = some ((a * 2 ^ b % 4294967296 : Nat) : Int) := aA2 rfl a b
theorem aCw {b : List Nat} {i : Nat} (hl : b.length = 64) (hi : i < 64) : bB 64 (iN b) (i : Int) = some ((b.getD i 0 : Nat) : Int) := by
 rw [cN hi (by rw [aEa]; omega)]
 have h1 : i < b.length := by omega
 simp [iN,h1]
theorem aCS (n : Nat) (h : n < 4294967296) : IntKind.u32.wrap (n : Int) = n := aON (by omega) (by omega)
def aBu (b : List Nat) (j : Nat) (l : List Int) : List Int := (List.range' j (16 - j)).foldl (fun l i => l.set i ((wd b i : Nat) : Int)) l
theorem aJr (b : List Nat) (j : Nat) (l : List Int) : (aBu b j l).length = l.length := by
 unfold aBu
 generalize List.range' j (16 - j) = r
 induction r generalizing l with
 | nil => rfl
 | cons x r ih => rw [List.foldl_cons,ih,List.length_set]
section
variable (N : Nat) (b : List Nat) (hl : b.length = 64) (hb : ∀ x ∈ b,x < 256)
include hl hb
theorem sL6 (i : Nat) (hi : i < 16) (m j : Nat) (hj : j < 4) (l : List Int) (hll : l.length = 64) (v : Nat) (hv : v < 16777216) (hli : l[i]? = some (v : Int)) :
  dB N (iN b) (i : Int) (m + 1) (j : Int) l = dB N (iN b) (i : Int) m ((j + 1 : Nat) : Int) (l.set i ((v * 256 + b.getD (4 * i + j) 0 : Nat) : Int)) := by
 have hil : i < l.length := by omega
 have hbl := uR hb (4 * i + j)
 rw [dB,show decide ((j : Int) < 4) = true from decide_eq_true (by omega),if_pos rfl,cN (show i < 64 by omega) hil]
 rw [List.getElem?_eq_getElem hil] at hli
 rw [Option.some.inj hli,b4 (a := 4 * (i : Int)) (by omega) (by omega),b4 (a := 4 * (i : Int) + (j : Int)) (by omega) (by omega),show 4 * (i : Int) + (j : Int) = ((4 * i + j : Nat) : Int) by omega,aCw hl (by omega)]
 rw [show (8 : Int) = ((8 : Nat) : Int) from rfl]
 simp only [Option.bind_some,aMV,Int.toNat_natCast,i1 (show j ≤ 100000 by omega)]
 rw [aCS _ (by omega),orU _ _ (Nat.mod_lt _ (by omega)) (by omega),Nat.mod_eq_of_lt (by omega),aEs _ _ 8 (by omega)]
theorem aMp (i : Nat) (hi : i < 16) (l : List Int) (hll : l.length = 64) (hli : l[i]? = some 0) (hN : 10 ≤ N) : dB N (iN b) (i : Int) N 0 l = some (l.set i ((wd b i : Nat) : Int)) := by
 have g0 := uR hb (4 * i)
 have g1 := uR hb (4 * i + 1)
 have g2 := uR hb (4 * i + 2)
 have hil : i < l.length := by omega
 obtain ⟨m,hm⟩ : ∃ m,N = m + 5 := ⟨N - 5,by omega⟩
 have hfu : ∀ k,dB N (iN b) (i : Int) N k l = dB N (iN b) (i : Int) (m + 1 + 1 + 1 + 1 + 1) k l := fun k => by
  have : N = m + 1 + 1 + 1 + 1 + 1 := by omega
  exact congrArg (fun q => dB N (iN b) (i : Int) q k l) this
 rw [hfu,show (0 : Int) = ((0 : Nat) : Int) from rfl,sL6 N b hl hb i hi _ 0 (by omega) l hll 0 (by omega) hli]
 rw [sL6 N b hl hb i hi _ 1 (by omega) _ (by rw [List.length_set]; exact hll) (0 * 256 + b.getD (4 * i + 0) 0) (by simp only [Nat.add_zero]; omega) (List.getElem?_set_self hil),List.set_set]
 rw [sL6 N b hl hb i hi _ 2 (by omega) _ (by rw [List.length_set]; exact hll) _ (by simp only [Nat.add_zero]; omega) (List.getElem?_set_self hil),List.set_set]
 rw [sL6 N b hl hb i hi _ 3 (by omega) _ (by rw [List.length_set]; exact hll) _ (by simp only [Nat.add_zero]; omega) (List.getElem?_set_self hil),List.set_set]
 rw [dB]
 simp only [Nat.reduceAdd,show decide (((4 : Nat) : Int) < 4) = false from rfl,Bool.false_eq_true,if_false,wd,Nat.zero_mul,Nat.zero_add,Nat.add_zero]
omit hl hb in
theorem aE7 {f : Nat → Int → List Int → Option (List Int)} (hs : ∀ (m j : Nat) (l : List Int),j < 16 → l.length = 64 → l[j]? = some 0 → f (m + 1) (j : Int) l = f m ((j + 1 : Nat) : Int) (l.set j ((wd b j : Nat) : Int))) (he : ∀ m l,f (m + 1) 16 l = some l) :
  ∀ (m j : Nat) (l : List Int),16 - j < m → j ≤ 16 → l.length = 64 → (∀ i,j ≤ i → i < 64 → l[i]? = some 0) → f m (j : Int) l = some (aBu b j l)
 | 0,j,l,hm,_,_,_ => by omega
 | m + 1,j,l,hm,hj,hll,hz => by
  by_cases h : j < 16
  ·rw [hs m j l h hll (hz j (Nat.le_refl _) (by omega)),aE7 hs he m (j + 1) _ (by omega) (by omega) (by rw [List.length_set]; exact hll) (fun i h1 h2 => by rw [List.getElem?_set_ne (by omega)]; exact hz i (by omega) h2)]
   unfold aBu
   rw [show 16 - j = (16 - (j + 1)) + 1 by omega,List.range'_succ,List.foldl_cons]
  ·obtain rfl : j = 16 := by omega
   exact he m l
theorem sL4 (hN : 70000 ≤ N) : eT N (iN b) N 0 (List.replicate 64 0) = some (aBu b 0 (List.replicate 64 0)) := by
 refine aE7 b (f := eT N (iN b)) (fun m j l hj hll hz => ?_) (fun m l => by rw [eT]; rfl) N 0 _ (by omega) (by omega) (by simp) (fun i _ hi => by rw [List.getElem?_replicate,if_pos hi])
 rw [eT,show decide ((j : Int) < 16) = true from decide_eq_true (by omega),if_pos rfl,aMp N b hl hb j hj l hll hz (by omega)]
 simp only [Option.bind_some,q8,i1 (show j ≤ 100000 by omega)]
end
section
variable (N : Nat) (hN : 70000 ≤ N) (b : List Nat) (hl : b.length = 64) (hb : ∀ x ∈ b,x < 256)
include hN hl hb
theorem aLo : ∃ w,mM N (iN b) = some w ∧ w.length = 64 := by
 obtain ⟨w,h1,h2⟩ := sL3 N N 16 (aBu b 0 (List.replicate 64 0)) (by rw [aJr]; simp) (by omega) (by omega) (by omega)
 rw [show ((16 : Nat) : Int) = 16 from rfl] at h1
 refine ⟨w, ?_,h2⟩
 simp only [mM,sL4 N b hl hb hN,Option.bind_some,n6,h1,nW,cI h2]
theorem aJ4 (st : List Int) (hst : st.length = 8) : ∃ r,jH N st (iN b) = some r ∧ r.length = 8 := by
 obtain ⟨w,h1,h2⟩ := aLo N hN b hl hb
 have hbl : (iN b).length = 64 := by rw [aEa]; exact hl
 have a0 : bB 8 st 0 = some st[0] := cN (i := 0) (by omega) (by omega)
 have a1 : bB 8 st 1 = some st[1] := cN (i := 1) (by omega) (by omega)
 have a2 : bB 8 st 2 = some st[2] := cN (i := 2) (by omega) (by omega)
 have a3 : bB 8 st 3 = some st[3] := cN (i := 3) (by omega) (by omega)
 have a4 : bB 8 st 4 = some st[4] := cN (i := 4) (by omega) (by omega)
 have a5 : bB 8 st 5 = some st[5] := cN (i := 5) (by omega) (by omega)
 have a6 : bB 8 st 6 = some st[6] := cN (i := 6) (by omega) (by omega)
 have a7 : bB 8 st 7 = some st[7] := cN (i := 7) (by omega) (by omega)
 obtain ⟨r,hr⟩ := cL2 N st w h2 N 0 st[0] st[1] st[2] st[3] st[4] st[5] st[6] st[7] (by omega) (by omega)
 rw [show ((0 : Nat) : Int) = 0 from rfl] at hr
 refine ⟨[IntKind.u32.wrap (st[0] + r.1),IntKind.u32.wrap (st[1] + r.2.1),IntKind.u32.wrap (st[2] + r.2.2.1),IntKind.u32.wrap (st[3] + r.2.2.2.1),IntKind.u32.wrap (st[4] + r.2.2.2.2.1),IntKind.u32.wrap (st[5] + r.2.2.2.2.2.1),IntKind.u32.wrap (st[6] + r.2.2.2.2.2.2.1),IntKind.u32.wrap (st[7] + r.2.2.2.2.2.2.2)], ?_,rfl⟩
 simp only [jH,cI hbl,h1,cI h2,a0,a1,a2,a3,a4,a5,a6,a7,Option.bind_some,hr,nD]
end
def beG (n : Nat) (i : Nat) : Int := IntKind.u8.wrap ((IntKind.u64.wrap (8 * (n : Int))).fdiv (2 ^ (56 - 8 * i)))
def uO (n : Nat) : Nat := (64 - (n + 9) % 64) % 64
def rK (n : Nat) : List Int := (128 :: List.replicate (uO n) 0) ++ (List.range' 0 8).map (beG n)
theorem aG8 (n : Nat) : (rK n).length = 9 + uO n := by simp [rK]; omega
theorem aEf (x : Int) : 0 ≤ IntKind.u8.wrap x ∧ IntKind.u8.wrap x < 256 := by rw [IntKind.wrap_u8]; omega
theorem aHw (n : Nat) : Byt (rK n) := by
 intro x hx
 simp only [rK,List.mem_append,List.mem_cons,List.mem_replicate,List.mem_map] at hx
 rcases hx with (rfl | ⟨_,rfl⟩) | ⟨i,_,rfl⟩
 ·omega
 ·omega
 ·exact aEf _
theorem aIr (a : Int) (s : Nat) (h : s ≤ 64) : shr .u64 a (s : Int) = some (a.fdiv (2 ^ s)) := by
 unfold shr
 rw [if_neg (by omega),Int.toNat_natCast,show min s IntKind.u64.bits = s from Nat.min_eq_left h]
theorem aGE (N n : Nat) : ∀ (k m : Nat) (acc : List Int),k ≤ 8 → k < m → acc.length + k ≤ 1000 → n9 N (n : Int) m ((8 - k : Nat) : Int) acc = some (acc ++ (List.range' (8 - k) k).map (beG n))
 | 0,m,acc,_,hm,_ => by
  obtain ⟨m,rfl⟩ : ∃ q,m = q + 1 := ⟨m - 1,by omega⟩
  rw [n9,show decide (((8 - 0 : Nat) : Int) < 8) = false from rfl]; simp
 | k + 1,m,acc,hk,hm,ha => by
  obtain ⟨m,rfl⟩ : ∃ q,m = q + 1 := ⟨m - 1,by omega⟩
  rw [n9,show decide (((8 - (k + 1) : Nat) : Int) < 8) = true from decide_eq_true (by omega),if_pos rfl]
  rw [b4 (a := 8 * ((8 - (k + 1) : Nat) : Int)) (by omega) (by omega),b4 (a := 56 - 8 * ((8 - (k + 1) : Nat) : Int)) (by omega) (by omega),show 56 - 8 * ((8 - (k + 1) : Nat) : Int) = ((56 - 8 * (8 - (k + 1)) : Nat) : Int) by omega,aIr _ _ (by omega)]
  simp only [Option.bind_some]
  rw [uH (by simp; omega)]
  simp only [Option.bind_some,i1 (show 8 - (k + 1) ≤ 100000 by omega)]
  rw [show 8 - (k + 1) + 1 = 8 - k by omega,aGE N n k m _ (by omega) (by omega) (by simp; omega),List.range'_succ,List.map_cons,show 8 - (k + 1) + 1 = 8 - k by omega,List.append_assoc]
  rfl
theorem aPA (z : Nat) : (List.replicate (1 + z) (0 : Int)).set 0 128 = 128 :: List.replicate z 0 := by rw [Nat.add_comm,List.replicate_succ]; rfl
theorem aOF (N : Nat) (hN : 70000 ≤ N) (n : Nat) (hn : n ≤ 1000000000) : aAT N (n : Int) = some (rK n) := by
 have hz : uO n < 64 := Nat.mod_lt _ (by omega)
 have hlim := kH
 unfold aAT
 rw [uJ (a := (n : Int) + 9) (by omega) (by omega),show (n : Int) + 9 = ((n + 9 : Nat) : Int) by omega,show (64 : Int) = ((64 : Nat) : Int) from rfl,qE]
 have h1 : (n + 9) % 64 < 64 := Nat.mod_lt _ (by omega)
 rw [uJ (a := ((64 : Nat) : Int) - (((n + 9) % 64 : Nat) : Int)) (by omega) (by omega),show ((64 : Nat) : Int) - (((n + 9) % 64 : Nat) : Int) = ((64 - (n + 9) % 64 : Nat) : Int) by omega,qE]
 rw [show ((64 - (n + 9) % 64) % 64 : Nat) = uO n from rfl,uJ (a := 1 + ((uO n : Nat) : Int)) (by omega) (by omega),uJ (a := 9 + ((uO n : Nat) : Int)) (by omega) (by omega)]
 have hm : mkl 1 (0 : Int) (1 + ((uO n : Nat) : Int)) (9 + ((uO n : Nat) : Int)) = some (List.replicate (1 + uO n) 0) := by
  unfold mkl
  rw [if_pos ⟨by omega,by omega,by omega⟩,show (1 + ((uO n : Nat) : Int)).toNat = 1 + uO n by omega]
 have h0 : bS (List.replicate (1 + uO n) (0 : Int)) 0 = some 0 := by
  rw [show (0 : Int) = ((0 : Nat) : Int) from rfl,aAX,List.getElem?_replicate,if_pos (by omega)]
 simp only [hm,Option.bind_some,h0,Int.toNat_zero,aPA]
 have := aGE N n 8 N (128 :: List.replicate (uO n) 0) (by omega) (by omega) (by simp; omega)
 rw [show ((8 - 8 : Nat) : Int) = 0 from rfl] at this
 rw [this]; rfl
theorem aBy {f : Nat → Int → List Int → Option (List Int)} (l : List (List Int)) (hn : l.length ≤ 1000) (ht : l.flatten.length ≤ 50000000)
  (hs : ∀ m j acc (hj : j < l.length),acc.length + l[j].length ≤ 50000000 → f (m + 1) (j : Int) acc = f m ((j + 1 : Nat) : Int) (acc ++ l[j])) (he : ∀ m j acc,l.length ≤ j → f (m + 1) (j : Int) acc = some acc) (N : Nat) (hN : 70000 ≤ N) :
  f N 0 [] = some l.flatten := by
 have hfl : l.flatMap id = l.flatten := by simp
 have := aFt (f := f) (xs := l) (g := id) (B := 50000000) (by omega) hs he N 0 [] (by omega) (by omega) (by rw [List.drop_zero,hfl]; simpa using ht)
 rw [List.drop_zero,hfl] at this
 simpa using this
theorem aNe (N : Nat) (hN : 70000 ≤ N) (l : List (List Int)) (hn : l.length ≤ 1000) (ht : l.flatten.length ≤ 50000000) : zJ N l = some l.flatten := by
 have := aBy (f := oA N l) l hn ht (fun m j acc hj hB => by
  rw [oA,dT hj,if_pos rfl,d8 l hj,Option.bind_some,uH (by omega)]
  simp only [Option.bind_some,i1 (show j ≤ 100000 by omega)]) (fun m j acc hj => by rw [oA,dF (by omega)]; rfl) N hN
 unfold zJ
 rw [this]; rfl
def cmp (N : Nat) (st blk : List Int) : List Int := (jH N st blk).getD []
def q7 (msg : List Int) (i : Nat) : List Int := (msg.drop (64 * i)).take 64
theorem aBG {l : List Int} (h : Byt l) (k : Nat) : Byt (l.take k) := fun x hx => h x (List.mem_of_mem_take hx)
theorem aBk {l : List Int} (h : Byt l) (k : Nat) : Byt (l.drop k) := fun x hx => h x (List.mem_of_mem_drop hx)
theorem aJI (N : Nat) (hN : 70000 ≤ N) (st blk : List Int) (hst : st.length = 8) (hb : Byt blk) (hl : blk.length = 64) : jH N st blk = some (cmp N st blk) ∧ (cmp N st blk).length = 8 := by
 obtain ⟨b,rfl,h2⟩ := aIk hb
 obtain ⟨r,h3,h4⟩ := aJ4 N hN b (by rw [aEa] at hl; exact hl) h2 st hst
 have : cmp N st (iN b) = r := by simp [cmp,h3]
 rw [this]; exact ⟨h3,h4⟩
def tY (N : Nat) (msg st : List Int) (j k : Nat) : List Int := (List.range' j k).foldl (fun s i => cmp N s (q7 msg i)) st
section
variable (N : Nat) (hN : 70000 ≤ N) (msg : List Int) (hb : Byt msg) (hl : msg.length ≤ 2000000)
include hN hb hl
theorem aDA : ∀ (m j : Nat) (st : List Int),msg.length / 64 - j < m → j ≤ msg.length / 64 → st.length = 8 → pX N msg m (j : Int) st = some (tY N msg st j (msg.length / 64 - j)) ∧ (tY N msg st j (msg.length / 64 - j)).length = 8
 | 0,j,st,hm,_,_ => by omega
 | m + 1,j,st,hm,hj,hst => by
  rw [pX,show (64 : Int) = ((64 : Nat) : Int) from rfl,oK,b4 (a := ((msg.length / 64 : Nat) : Int)) (by omega) (by omega)]
  by_cases h : j < msg.length / 64
  ·have hlen : (q7 msg j).length = 64 := by simp [q7]; omega
   obtain ⟨c1,c2⟩ := aJI N hN st (q7 msg j) hst (aBG (aBk hb _) _) hlen
   rw [dT h,if_pos rfl,cI hst,b4 (a := ((64 : Nat) : Int) * (j : Int)) (by omega) (by omega)]
   have e1 : sub msg (((64 : Nat) : Int) * (j : Int)) (msg.length : Int) = some (msg.drop (64 * j)) := by
    unfold sub
    rw [if_pos ⟨by omega,by omega,by omega⟩,show (((64 : Nat) : Int) * (j : Int)).toNat = 64 * j by omega,Int.toNat_natCast,List.take_of_length_le (Nat.le_refl _)]
   have e2 : oS 64 (msg.drop (64 * j)) = some (q7 msg j) := by unfold oS; rw [if_pos (by simp; omega)]; rfl
   simp only [e1,e2,c1,cI c2,Option.bind_some,i1 (show j ≤ 100000 by omega)]
   obtain ⟨i1',i2'⟩ := aDA m (j + 1) _ (by omega) (by omega) c2
   have er : tY N msg st j (msg.length / 64 - j) = tY N msg (cmp N st (q7 msg j)) (j + 1) (msg.length / 64 - (j + 1)) := by
    unfold tY
    rw [show msg.length / 64 - j = (msg.length / 64 - (j + 1)) + 1 by omega,List.range'_succ,List.foldl_cons]
   rw [er]
   exact ⟨i1',i2'⟩
  ·rw [dF h,show msg.length / 64 - j = 0 by omega]
   exact ⟨rfl,hst⟩
end
def rE (st : List Int) (i : Nat) : Int := IntKind.u8.wrap ((st.getD (i / 4) 0).fdiv (2 ^ (24 - 8 * (i % 4))))
def aBt (st : List Int) : List Int := (List.range 32).map (rE st)
theorem aDg (st : List Int) : (aBt st).length = 32 := by simp [aBt]
theorem aK3 (st : List Int) : Byt (aBt st) := by
 intro x hx
 simp only [aBt,List.mem_map] at hx
 obtain ⟨i,_,rfl⟩ := hx
 exact aEf _
theorem uS (g : Nat → Int) (w j : Nat) (hj : j < w) : ((List.range j).map g ++ List.replicate (w - j) 0).set j (g j) = (List.range (j + 1)).map g ++ List.replicate (w - (j + 1)) 0 := by
 rw [List.set_append_right _ _ (by simp),show w - j = (w - (j + 1)) + 1 by omega,List.replicate_succ,List.range_succ,List.map_append,List.append_assoc]
 simp
theorem aGf (a : Int) (s : Nat) (h : s ≤ 32) : shr .u32 a (s : Int) = some (a.fdiv (2 ^ s)) := by
 unfold shr
 rw [if_neg (by omega),Int.toNat_natCast,show min s IntKind.u32.bits = s from Nat.min_eq_left h]
theorem aMY {st : List Int} (hst : st.length = 8) {i : Nat} (h : i < 8) : bB 8 st (i : Int) = some (st.getD i 0) := by
 have : i < st.length := by omega
 rw [cN h this]; simp [this]
section
variable (N : Nat) (hN : 70000 ≤ N) (st : List Int) (hst : st.length = 8)
include hN hst
theorem aGJ : ∀ (m j : Nat),32 - j < m → j ≤ 32 → qB N st m (j : Int) ((List.range j).map (rE st) ++ List.replicate (32 - j) 0) = some (aBt st)
 | 0,j,hm,_ => by omega
 | m + 1,j,hm,hj => by
  rw [qB]
  by_cases h : j < 32
  ·rw [show decide ((j : Int) < 32) = true from decide_eq_true (by omega),if_pos rfl,show (4 : Int) = ((4 : Nat) : Int) from rfl,oK,qE,b4 (a := ((j / 4 : Nat) : Int)) (by omega) (by omega),aMY hst (by omega)]
   rw [b4 (a := ((j % 4 : Nat) : Int) * 8) (by omega) (by omega),b4 (a := 24 - ((j % 4 : Nat) : Int) * 8) (by omega) (by omega),show 24 - ((j % 4 : Nat) : Int) * 8 = ((24 - 8 * (j % 4) : Nat) : Int) by omega]
   simp only [Option.bind_some]
   rw [aGf _ _ (by omega),cN h (by simp; omega)]
   simp only [Option.bind_some,Int.toNat_natCast,i1 (show j ≤ 100000 by omega)]
   have := uS (rE st) 32 j h
   rw [show IntKind.u8.wrap ((st.getD (j / 4) 0).fdiv (2 ^ (24 - 8 * (j % 4)))) = rE st j from rfl,this]
   exact aGJ m (j + 1) (by omega) (by omega)
  ·obtain rfl : j = 32 := by omega
   rw [show decide (((32 : Nat) : Int) < 32) = false from rfl]
   simp [aBt]
end
def sha256 (N : Nat) (b : List Int) : List Int := aBt (tY N (b ++ rK b.length) tG 0 ((b ++ rK b.length).length / 64))
theorem nY (N : Nat) (b : List Int) : (sha256 N b).length = 32 := aDg _
theorem tA (N : Nat) (b : List Int) : Byt (sha256 N b) := aK3 _
theorem aGv (N : Nat) (hN : 70000 ≤ N) (b : List Int) (hb : Byt b) (hl : b.length ≤ 1000000) : wL N b = some (sha256 N b) := by
 have hz : uO b.length < 64 := Nat.mod_lt _ (by omega)
 have hpl := aG8 b.length
 have hmb : Byt (b ++ rK b.length) := hb.append (aHw _)
 have hml : (b ++ rK b.length).length ≤ 2000000 := by rw [List.length_append]; omega
 obtain ⟨s1,s2⟩ := aDA N hN _ hmb hml N 0 tG (by omega) (by omega) rfl
 rw [show ((0 : Nat) : Int) = 0 from rfl,Nat.sub_zero] at s1
 rw [Nat.sub_zero] at s2
 have hw : IntKind.u64.wrap (b.length : Int) = (b.length : Int) := uJ (by omega) (by omega)
 have o := aGJ N hN (tY N (b ++ rK b.length) tG 0 ((b ++ rK b.length).length / 64)) s2 N 0 (by omega) (by omega)
 simp only [List.range_zero,List.map_nil,List.nil_append,Nat.sub_zero] at o
 rw [show ((0 : Nat) : Int) = 0 from rfl] at o
 simp only [wL,hw,aOF N hN b.length (by omega),Option.bind_some]
 rw [aNe N hN [b,rK b.length] (by simp) (by simp; omega)]
 simp only [Option.bind_some,List.flatten_cons,List.flatten_nil,List.append_nil,s1,y4,o,yX,cI (aDg _)]
 rfl
theorem aC8 (s : ByteArray) : Byt (dW s) := by
 intro x hx
 unfold dW at hx
 simp only [List.mem_map] at hx
 obtain ⟨b,_,rfl⟩ := hx
 have := b.toNat_lt
 omega
def aAf (N : Nat) (tag : ByteArray) (b : List Int) : List Int := sha256 N (sha256 N (dW tag) ++ (sha256 N (dW tag) ++ b))
theorem aBq (N : Nat) (tag : ByteArray) (b : List Int) : (aAf N tag b).length = 32 := nY _ _
theorem aEm (N : Nat) (tag : ByteArray) (b : List Int) : Byt (aAf N tag b) := tA _ _
theorem aFN (N : Nat) (hN : 70000 ≤ N) (tag : ByteArray) (ht : tag.size ≤ 1000) (b : List Int) (hb : Byt b) (hl : b.length ≤ 900000) : vN N tag b = some (aAf N tag b) := by
 have hlim := kH
 have hs : stb tag = some (dW tag) := by unfold stb; rw [if_pos (by omega)]
 have s1 := aGv N hN (dW tag) (aC8 tag) (by rw [tR]; omega)
 have l1 := nY N (dW tag)
 have t1 := aGv N hN (sha256 N (dW tag) ++ (sha256 N (dW tag) ++ b)) ((tA _ _).append ((tA _ _).append hb)) (by simp only [List.length_append,l1]; omega)
 simp only [vN,hs,s1,Option.bind_some,cI l1]
 rw [aNe N hN _ (by simp) (by simp [l1]; omega)]
 simp only [Option.bind_some,List.flatten_cons,List.flatten_nil,List.append_nil,t1,cI (nY N _)]
 rfl
theorem aOo (op : BinOp) (a b : Int) : 0 ≤ bits op .u64 a b ∧ bits op .u64 a b < 18446744073709551616 := by
 unfold bits
 rw [IntKind.wrap_u64]
 omega
theorem Wd.set {l : List Int} (h : Wd l) (i : Nat) {x : Int} (hx : 0 ≤ x ∧ x < 18446744073709551616) : Wd (l.set i x) :=
 ⟨by rw [List.length_set]; exact h.1,fun y hy => (List.mem_or_eq_of_mem_set hy).elim (h.2 y) (fun e => e ▸ hx)⟩
section
variable {N : Nat} (hN : 70000 ≤ N)
include hN
theorem aIh {h : List Int} (hl : h.length = 32) : ∀ (m j : Nat) (l : List Int),32 - j < m → j ≤ 32 → Wd l → ∃ r,eM N h m (j : Int) l = some r ∧ Wd r
 | 0,j,l,hm,_,_ => by omega
 | m + 1,j,l,hm,hj,hw => by
  rw [eM]
  by_cases hh : j < 32
  ·have h4 := hw.1
   rw [show decide ((j : Int) < 32) = true from decide_eq_true (by omega),if_pos rfl,cN hh (by omega),show (8 : Int) = ((8 : Nat) : Int) from rfl,oK,b4 (a := ((j / 8 : Nat) : Int)) (by omega) (by omega),b4 (a := 3 - ((j / 8 : Nat) : Int)) (by omega) (by omega),show 3 - ((j / 8 : Nat) : Int) = ((3 - j / 8 : Nat) : Int) by omega,cN (show 3 - j / 8 < 4 by omega) (by omega)]
   obtain ⟨y,hy⟩ : ∃ y,shl .u64 l[3 - j / 8] ((8 : Nat) : Int) = some y := by unfold shl; rw [if_neg (by omega)]; exact ⟨_,rfl⟩
   simp only [Option.bind_some,hy,i1 (show j ≤ 100000 by omega)]
   exact aIh hl m (j + 1) _ (by omega) (by omega) (hw.set _ (aOo _ _ _))
  ·rw [show decide ((j : Int) < 32) = false from decide_eq_false (by omega)]
   exact ⟨l,rfl,hw⟩
theorem u4 {h : List Int} (hl : h.length = 32) : ∃ n,n < 115792089237316195423570985008687907853269984665640564039457584007913129639936 ∧ dY N h = some (U n) := by
 obtain ⟨r,h1,h2⟩ := aIh hN hl N 0 (List.replicate 4 0) (by omega) (by omega) ⟨by simp,fun x hx => by have := List.eq_of_mem_replicate hx; omega⟩
 rw [show ((0 : Nat) : Int) = 0 from rfl] at h1
 obtain ⟨n,hn,rfl⟩ := h2.ex
 exact ⟨n,hn,by simp only [dY,cI hl,Option.bind_some,h1,lN,bA]⟩
def byG (n : Nat) (i : Nat) : Int := IntKind.u8.wrap (((U n).getD (3 - i / 8) 0).fdiv (2 ^ (56 - 8 * (i % 8))))
def fW (n : Nat) : List Int := (List.range 32).map (byG n)
omit hN in
theorem fV (n : Nat) : (fW n).length = 32 := by simp [fW]
omit hN in
theorem zK (n : Nat) : Byt (fW n) := by
 intro x hx
 simp only [fW,List.mem_map] at hx
 obtain ⟨i,_,rfl⟩ := hx
 exact aEf _
theorem aH0 (n : Nat) : ∀ (m j : Nat),32 - j < m → j ≤ 32 → iM N (U n) m (j : Int) ((List.range j).map (byG n) ++ List.replicate (32 - j) 0) = some (fW n)
 | 0,j,hm,_ => by omega
 | m + 1,j,hm,hj => by
  rw [iM]
  by_cases h : j < 32
  ·have hg : bB 4 (U n) ((3 - j / 8 : Nat) : Int) = some ((U n).getD (3 - j / 8) 0) := by
    have : 3 - j / 8 < (U n).length := by rw [aNT]; omega
    rw [cN (show 3 - j / 8 < 4 by omega) this]; simp [this]
   rw [show decide ((j : Int) < 32) = true from decide_eq_true (by omega),if_pos rfl,show (8 : Int) = ((8 : Nat) : Int) from rfl,oK,qE,b4 (a := ((j / 8 : Nat) : Int)) (by omega) (by omega),b4 (a := 3 - ((j / 8 : Nat) : Int)) (by omega) (by omega),show 3 - ((j / 8 : Nat) : Int) = ((3 - j / 8 : Nat) : Int) by omega,hg]
   rw [b4 (a := ((j % 8 : Nat) : Int) * ((8 : Nat) : Int)) (by omega) (by omega),b4 (a := 56 - ((j % 8 : Nat) : Int) * ((8 : Nat) : Int)) (by omega) (by omega),show 56 - ((j % 8 : Nat) : Int) * ((8 : Nat) : Int) = ((56 - 8 * (j % 8) : Nat) : Int) by omega]
   simp only [Option.bind_some]
   rw [aIr _ _ (by omega),cN h (by simp; omega)]
   simp only [Option.bind_some,Int.toNat_natCast,i1 (show j ≤ 100000 by omega)]
   have := uS (byG n) 32 j h
   rw [show IntKind.u8.wrap (((U n).getD (3 - j / 8) 0).fdiv (2 ^ (56 - 8 * (j % 8)))) = byG n j from rfl,this]
   exact aH0 n m (j + 1) (by omega) (by omega)
  ·obtain rfl : j = 32 := by omega
   rw [show decide (((32 : Nat) : Int) < 32) = false from rfl]
   simp [fW]
theorem aE2 (n : Nat) : qJ N (U n) = some (fW n) := by
 have := aH0 hN n N 0 (by omega) (by omega)
 simp only [List.range_zero,List.map_nil,List.nil_append,Nat.sub_zero] at this
 rw [show ((0 : Nat) : Int) = 0 from rfl] at this
 simp only [qJ,this,Option.bind_some,uD,cI (fV n)]
theorem grow (l : List (List Int)) (hn : l.length ≤ 1000) (h32 : ∀ x ∈ l,x.length = 32) : uI N l = some l.flatten := by
 have hfl : l.flatten.length ≤ l.length * 32 := by
  clear hn
  induction l with
  | nil => simp
  | cons x l ih =>
   have h1 := h32 x (by simp)
   have h2 := ih (fun y hy => h32 y (by simp [hy]))
   simp only [List.flatten_cons,List.length_append,List.length_cons]; omega
 have := aBy (f := lS N l) l hn (by omega) (fun m j acc hj hB => by
  rw [lS,dT hj,if_pos rfl,d8 l hj,Option.bind_some,cI (h32 _ (List.getElem_mem hj)),Option.bind_some,uH (by omega)]
  simp only [Option.bind_some,i1 (show j ≤ 100000 by omega)]) (fun m j acc hj => by rw [lS,dF (by omega)]; rfl) N hN
 unfold uI
 rw [this]; rfl
theorem aI7 {h : List Int} (hl : h.length = 32) : ∃ n,n < 57896044618658097711785492504343953926634992332820282019728792003956564801911 ∧ l9 N h = some (U n) := by
 obtain ⟨n,h1,h2⟩ := u4 hN hl
 refine ⟨(n + 0) % 57896044618658097711785492504343953926634992332820282019728792003956564801911,Nat.mod_lt _ (by decide), ?_⟩
 rw [show l9 N h = ((aS 32 h).bind fun q => (dY N h).bind fun x4 => (k9 N x4 [0,0,0,0]).bind fun x6 => (aS 4 x6).bind fun q_1 => some x6) from rfl]
 simp only [cI hl,Option.bind_some,h2,← tN,k9,bA,z6,aGR (b := 57896044618658097711785492504343953926634992332820282019728792003956564801911) hN (by decide) (by decide) h1 (show (0 : Nat) < 115792089237316195423570985008687907853269984665640564039457584007913129639936 by decide)]
def uV : ByteArray := ⟨#[108,105,103,104,116,99,108,105,101,110,116,47,99,104,97,108,108,101,110,103,101]⟩
theorem aHh {r p : Nat} {m : List Int} (hm : m.length = 32) (hb : Byt m) : ∃ n,n < 57896044618658097711785492504343953926634992332820282019728792003956564801911 ∧ kL N (U r) (U p) m = some (U n) := by
 obtain ⟨n,h1,h2⟩ := aI7 hN (aBq N uV (fW r ++ (fW p ++ m)))
 refine ⟨n,h1, ?_⟩
 have hrow : uI N [fW r,fW p,m] = some (fW r ++ (fW p ++ m)) := by
  rw [grow hN _ (by simp) (fun x hx => by
   simp only [List.mem_cons,List.not_mem_nil,or_false] at hx
   rcases hx with rfl | rfl | rfl
   ·exact fV _
   ·exact fV _
   ·exact hm)]
  simp
 have ht := aFN N hN uV (by decide) (fW r ++ (fW p ++ m)) ((zK _).append ((zK _).append hb)) (by simp [fV,hm])
 simp only [kL,bA,aE2 hN,cI hm,cI (fV _),hrow,Option.bind_some]
 rw [show (⟨#[108,105,103,104,116,99,108,105,101,110,116,47,99,104,97,108,108,101,110,103,101]⟩ : ByteArray) = uV from rfl,ht]
 simp only [Option.bind_some,h2,bA]
theorem sJ {a : Nat} (ha : a < 115792089237316195423570985008687907853269984665640564039457584007913129639936) : lU N (U a) = some (decide (a < 57896044618658097711785492504343953926634992332820282019728792003956564801911)) := by
 simp only [lU,bA,z6,Option.bind_some,uE hN ha (show (57896044618658097711785492504343953926634992332820282019728792003956564801911 : Nat) < 115792089237316195423570985008687907853269984665640564039457584007913129639936 by decide),aGi]
theorem aLx : ([1,0,0,0] : List Int) = U 1 := by decide +kernel
theorem aJf {a : Nat} (ha : a < 115792089237316195423570985008687907853269984665640564039457584007913129639936) : ∃ v,mO N (U a) = some v := by
 have hJ : ∀ t,∃ v,i6 N (U a) t = some v := by
  intro t
  cases t with
  | true => exact ⟨_,rfl⟩
  | false =>
   simp only [i6,Bool.false_eq_true,if_false,bA,z6,Option.bind_some,aCG hN ha (show (57896044618658097711785492504343953926634992332820282019728792003956564801911 : Nat) < 115792089237316195423570985008687907853269984665640564039457584007913129639936 by decide),d5,aLx hN]
   exact ⟨_,rfl⟩
 simp only [mO,bA,Option.bind_some,aG7,uE hN ha (show (115792089237316195423570985008687907853269984665640564039457584007913129603823 : Nat) < 115792089237316195423570985008687907853269984665640564039457584007913129639936 by decide)]
 split
 ·exact hJ _
 ·exact hJ _
theorem aGZ {a : Nat} (ha : a < 115792089237316195423570985008687907853269984665640564039457584007913129639936) : ∃ v,oF N (U a) = some v := by
 obtain ⟨v,hv⟩ := aJf hN ha
 simp only [oF,bA,d5,aLx hN,Option.bind_some,hv]
 split <;> exact ⟨_,rfl⟩
theorem aJM {p e s : Nat} {m : List Int} (hp : p < 115792089237316195423570985008687907853269984665640564039457584007913129639936) (he : e < 115792089237316195423570985008687907853269984665640564039457584007913129639936) (hs : s < 115792089237316195423570985008687907853269984665640564039457584007913129639936) (hm : m.length = 32) (hb : Byt m) : ∃ v,oR N (U p) m (U e) (U s) = some v := by
 obtain ⟨v,hv⟩ := aGZ hN hp
 have hq : (57896044618658097711785492504343953926634992332820282019728792003956564801911 : Nat) < 115792089237316195423570985008687907853269984665640564039457584007913129639936 := by decide
 have hJ : ∀ t,∃ v,gX N (U p) m (U e) (U s) t = some v := by
  intro t
  cases t with
  | true => exact ⟨_,rfl⟩
  | false =>
   have hd : (57896044618658097711785492504343953926634992332820282019728792003956564801911 + 115792089237316195423570985008687907853269984665640564039457584007913129639936 - e) % 115792089237316195423570985008687907853269984665640564039457584007913129639936 < 115792089237316195423570985008687907853269984665640564039457584007913129639936 := Nat.mod_lt _ (by decide)
   have h4 : ([4,0,0,0] : List Int) = U 4 := by decide +kernel
   have hx : ∀ z : Nat,z % 115792089237316195423570985008687907853269984665640564039457584007913129603823 < 115792089237316195423570985008687907853269984665640564039457584007913129639936 := fun z => Nat.lt_trans (Nat.mod_lt z (by decide)) (by decide)
   simp only [gX,Bool.false_eq_true,if_false,bA,z6,Option.bind_some,aCT hN hq he,qQ,d5,h4,aCG hN (show (4 : Nat) < 115792089237316195423570985008687907853269984665640564039457584007913129639936 by decide) hs,aCG hN hp hd,aIB hN (hx _) (hx _),cI hm]
   obtain ⟨n,_,hn⟩ := aHh hN (r := 4 ^ s % 115792089237316195423570985008687907853269984665640564039457584007913129603823 * (p ^ ((57896044618658097711785492504343953926634992332820282019728792003956564801911 + 115792089237316195423570985008687907853269984665640564039457584007913129639936 - e) % 115792089237316195423570985008687907853269984665640564039457584007913129639936) % 115792089237316195423570985008687907853269984665640564039457584007913129603823) % 115792089237316195423570985008687907853269984665640564039457584007913129603823) (p := p) hm hb
   rw [hn]
   exact ⟨_,rfl⟩
 simp only [oR,bA,Option.bind_some,sJ hN he,sJ hN hs,hv]
 split
 ·exact hJ _
 ·split
  ·exact hJ _
  ·exact hJ _
theorem aJe {b : List Int} : ∃ e s r,e < 115792089237316195423570985008687907853269984665640564039457584007913129639936 ∧ s < 115792089237316195423570985008687907853269984665640564039457584007913129639936 ∧ oI N b = some (U e,U s,r) := by
 have h0 : List.replicate 4 (0 : Int) = U 0 := by decide +kernel
 unfold oI
 by_cases hl : b.length = 64
 ·rw [show (((b.length : Nat) : Int) != 64) = false by rw [hl]; rfl]
  have e1 : sub b 0 32 = some (b.take 32) := by unfold sub; rw [if_pos ⟨by omega,by omega,by omega⟩]; simp
  have e2 : sub b 32 (b.length : Int) = some (b.drop 32) := by
   unfold sub; rw [if_pos ⟨by omega,by omega,by omega⟩,Int.toNat_natCast,List.take_of_length_le (Nat.le_refl _)]; rfl
  have l1 : (b.take 32).length = 32 := by simp; omega
  have l2 : (b.drop 32).length = 32 := by simp; omega
  have a1 : oS 32 (b.take 32) = some (b.take 32) := by unfold oS; rw [if_pos (by omega),List.take_of_length_le (by omega)]
  have a2 : oS 32 (b.drop 32) = some (b.drop 32) := by unfold oS; rw [if_pos (by omega),List.take_of_length_le (by omega)]
  obtain ⟨e,h1,h2⟩ := u4 hN l1
  obtain ⟨s,h3,h4⟩ := u4 hN l2
  have hJ : ∀ t,∃ e' s' r,e' < 115792089237316195423570985008687907853269984665640564039457584007913129639936 ∧ s' < 115792089237316195423570985008687907853269984665640564039457584007913129639936 ∧ lZ N (U e) (U s) t = some (U e',U s',r) := by
   intro t
   cases t with
   | true => exact ⟨0,0,5,by decide,by decide,by unfold lZ; rw [h0]; rfl⟩
   | false => exact ⟨e,s,0,h1,h3,rfl⟩
  simp only [Bool.false_eq_true,if_false,e1,e2,a1,a2,h2,h4,Option.bind_some,bA,sJ hN h1,sJ hN h3]
  split
  ·exact hJ _
  ·exact hJ _
 ·rw [show (((b.length : Nat) : Int) != 64) = true by simp; omega,if_pos rfl,h0]
  exact ⟨0,0,8,by decide,by decide,rfl⟩
theorem aJH {m : List Int} (hm : m.length = 32) (hb : Byt m) (h a : Int) (st : List (List Int)) (br : List aG) (c : Int) (key sig : List Int) : ∃ e,cE N m h a st br c key sig = some e := by
 have hJ : ∀ t,∃ e,eO N m h a st br c t = some e := fun t => by cases t <;> exact ⟨_,rfl⟩
 unfold cE
 by_cases hl : key.length = 32
 ·rw [show (((key.length : Nat) : Int) != 32) = false by rw [hl]; rfl]
  have a1 : oS 32 key = some key := by unfold oS; rw [if_pos (by omega),List.take_of_length_le (by omega)]
  obtain ⟨p,h1,h2⟩ := u4 hN hl
  obtain ⟨v,hv⟩ := aGZ hN h1
  simp only [Bool.false_eq_true,if_false,a1,h2,Option.bind_some,bA,hv]
  split
  ·exact ⟨_,rfl⟩
  ·split
   ·exact ⟨_,rfl⟩
   ·obtain ⟨e,s,r,h3,h4,h5⟩ := aJe hN (b := sig)
    simp only [h5,Option.bind_some]
    split
    ·exact hJ _
    ·obtain ⟨w,hw⟩ := aJM hN h1 h3 h4 hm hb
     simp only [cI hm,Option.bind_some,hw]
     exact hJ _
 ·rw [show (((key.length : Nat) : Int) != 32) = true by simp; omega]
  exact ⟨_,rfl⟩
end
def rB (n w : Nat) : Nat := n / 18446744073709551616 ^ (3 - w) % 18446744073709551616
theorem aIw (n : Nat) : U n = [(rB n 3 : Int),(rB n 2 : Int),(rB n 1 : Int),(rB n 0 : Int)] := by
 simp only [U,w4,rB,Nat.sub_self,Nat.pow_zero,Nat.div_one]
theorem aEv (n w : Nat) : rB n w < 18446744073709551616 := Nat.mod_lt _ (by decide)
def pS (n w j : Nat) : Nat := rB n w / 2 ^ (64 - 8 * min 8 (j - 8 * w))
def z5 (n j : Nat) : List Int := [(pS n 3 j : Int),(pS n 2 j : Int),(pS n 1 j : Int),(pS n 0 j : Int)]
theorem aMb (n j w : Nat) (hw : w < 4) : (z5 n j)[3 - w]? = some ((pS n w j : Nat) : Int) := by
 match w,hw with
 | 0,_ => rfl
 | 1,_ => rfl
 | 2,_ => rfl
 | 3,_ => rfl
theorem aFd (n i : Nat) (hi : i < 32) : byG n i = ((rB n (i / 8) / 2 ^ (56 - 8 * (i % 8)) % 256 : Nat) : Int) := by
 have h : (U n).getD (3 - i / 8) 0 = ((rB n (i / 8) : Nat) : Int) := by
  rw [aIw]
  have : i / 8 < 4 := by omega
  generalize i / 8 = w at this
  match w,this with
  | 0,_ => rfl
  | 1,_ => rfl
  | 2,_ => rfl
  | 3,_ => rfl
 unfold byG
 rw [h,show ((2 : Int) ^ (56 - 8 * (i % 8))) = ((2 ^ (56 - 8 * (i % 8)) : Nat) : Int) by simp,Int.fdiv_eq_ediv_of_nonneg _ (Int.natCast_nonneg _),← Int.natCast_ediv,IntKind.wrap_u8]
 generalize rB n (i / 8) / 2 ^ (56 - 8 * (i % 8)) = y
 omega
theorem aE4 {n w r : Nat} (hr : r < 8) : pS n w (8 * w + r + 1) = 2 ^ 8 * pS n w (8 * w + r) + rB n w / 2 ^ (56 - 8 * r) % 256 ∧ pS n w (8 * w + r) < 2 ^ 56 := by
 have e1 : 64 - 8 * min 8 (8 * w + r + 1 - 8 * w) = 56 - 8 * r := by omega
 have e2 : 64 - 8 * min 8 (8 * w + r - 8 * w) = (56 - 8 * r) + 8 := by omega
 unfold pS
 rw [e1,e2,Nat.pow_add,← Nat.div_div_eq_div_mul]
 have hu := aEv n w
 have hd : rB n w / 2 ^ (56 - 8 * r) ≤ rB n w := Nat.div_le_self _ _
 generalize rB n w / 2 ^ (56 - 8 * r) = y at hd
 have : (2 : Nat) ^ 8 = 256 := rfl
 have h56 : (2 : Nat) ^ 56 = 72057594037927936 := rfl
 rw [this,h56]
 omega
theorem kF {n w w' r : Nat} (hr : r < 8) (hne : w' ≠ w) : pS n w' (8 * w + r + 1) = pS n w' (8 * w + r) := by
 unfold pS
 rw [show min 8 (8 * w + r + 1 - 8 * w') = min 8 (8 * w + r - 8 * w') by omega]
theorem aLM {n w r : Nat} (hw : w < 4) (hr : r < 8) : (z5 n (8 * w + r)).set (3 - w) ((2 ^ 8 * pS n w (8 * w + r) + rB n w / 2 ^ (56 - 8 * r) % 256 : Nat) : Int) = z5 n (8 * w + r + 1) := by
 rw [← (aE4 hr).1]
 match w,hw with
 | 0,_ => simp only [z5]; rw [kF (w' := 1) hr (by decide),kF (w' := 2) hr (by decide),kF (w' := 3) hr (by decide)]; rfl
 | 1,_ => simp only [z5]; rw [kF (w' := 0) hr (by decide),kF (w' := 2) hr (by decide),kF (w' := 3) hr (by decide)]; rfl
 | 2,_ => simp only [z5]; rw [kF (w' := 1) hr (by decide),kF (w' := 0) hr (by decide),kF (w' := 3) hr (by decide)]; rfl
 | 3,_ => simp only [z5]; rw [kF (w' := 1) hr (by decide),kF (w' := 2) hr (by decide),kF (w' := 0) hr (by decide)]; rfl
theorem aPw (n : Nat) : z5 n 0 = [0,0,0,0] := by
 have h : ∀ w,pS n w 0 = 0 := fun w => by
  unfold pS
  rw [show 64 - 8 * min 8 (0 - 8 * w) = 64 by omega]
  exact Nat.div_eq_of_lt (by have := aEv n w; exact this)
 simp only [z5,h]; rfl
theorem aOk (n : Nat) : z5 n 32 = U n := by
 have h : ∀ w,w < 4 → pS n w 32 = rB n w := fun w hw => by
  unfold pS
  rw [show 64 - 8 * min 8 (32 - 8 * w) = 0 by omega]
  simp
 rw [aIw]; simp only [z5]; rw [h 0 (by decide),h 1 (by decide),h 2 (by decide),h 3 (by decide)]
section
variable {N : Nat} (hN : 70000 ≤ N)
include hN
theorem aHu (n : Nat) : ∀ (m j : Nat),32 - j < m → j ≤ 32 → eM N (fW n) m (j : Int) (z5 n j) = some (U n)
 | 0,j,hm,_ => by omega
 | m + 1,j,hm,hj => by
  rw [eM]
  by_cases hh : j < 32
  ·have hb : bB 32 (fW n) (j : Int) = some (byG n j) := by
    rw [cN hh (by rw [fV]; exact hh)]; simp [fW]
   have hw : j / 8 < 4 := by omega
   have hr : j % 8 < 8 := by omega
   have hg : bB 4 (z5 n j) ((3 - j / 8 : Nat) : Int) = some ((pS n (j / 8) j : Nat) : Int) := by
    rw [cN (show 3 - j / 8 < 4 by omega) (by simp [z5]; omega)]
    have := aMb n j (j / 8) hw
    rw [List.getElem?_eq_getElem (by simp [z5]; omega)] at this
    exact this
   rw [show decide ((j : Int) < 32) = true from decide_eq_true (by omega),if_pos rfl,hb,show (8 : Int) = ((8 : Nat) : Int) from rfl,oK,b4 (a := ((j / 8 : Nat) : Int)) (by omega) (by omega),b4 (a := 3 - ((j / 8 : Nat) : Int)) (by omega) (by omega),show 3 - ((j / 8 : Nat) : Int) = ((3 - j / 8 : Nat) : Int) by omega]
   simp only [Option.bind_some,hg]
   have ej : j = 8 * (j / 8) + j % 8 := by omega
   obtain ⟨p1,p2⟩ := aE4 (n := n) (w := j / 8) hr
   rw [← ej] at p1 p2
   have hs : shl .u64 ((pS n (j / 8) j : Nat) : Int) ((8 : Nat) : Int) = some ((2 ^ 8 * pS n (j / 8) j : Nat) : Int) := by
    unfold shl
    rw [if_neg (by omega),show min (Int.toNat ((8 : Nat) : Int)) IntKind.u64.bits = 8 from rfl,show ((pS n (j / 8) j : Nat) : Int) * 2 ^ 8 = ((2 ^ 8 * pS n (j / 8) j : Nat) : Int) by rw [Nat.mul_comm]; simp,uJ (by omega) (by omega)]
   rw [hs]
   simp only [Option.bind_some]
   have hbt : rB n (j / 8) / 2 ^ (56 - 8 * (j % 8)) % 256 < 2 ^ 8 := Nat.mod_lt _ (by decide)
   rw [aFd n j hh,uJ (by omega) (by have := hbt; omega),t0 rfl _ _ (by show _ < 2 ^ 64; omega) (by show _ < 2 ^ 64; omega),← Nat.two_pow_add_eq_or_of_lt hbt]
   have := aLM (n := n) hw hr
   rw [← ej] at this
   rw [Int.toNat_natCast,this,i1 (show j ≤ 100000 by omega)]
   exact aHu n m (j + 1) (by omega) (by omega)
  ·obtain rfl : j = 32 := by omega
   rw [show decide (((32 : Nat) : Int) < 32) = false from rfl,aOk]
   rfl
theorem aC2 (n : Nat) : dY N (fW n) = some (U n) := by
 have := aHu hN n N 0 (by omega) (by omega)
 rw [aPw,show ((0 : Nat) : Int) = 0 from rfl] at this
 simp only [dY,cI (fV n),Option.bind_some,r40,this,lN,bA]
end
theorem aLu : ∀ j < 32,IntKind.i64.wrap (Int.tdiv (IntKind.i64.wrap (31 - ((j : Nat) : Int))) 8) = IntKind.i64.wrap (3 - IntKind.i64.wrap (Int.tdiv ((j : Nat) : Int) 8)) ∧ IntKind.i64.wrap (8 * (Int.tmod (IntKind.i64.wrap (31 - ((j : Nat) : Int))) 8)) = IntKind.i64.wrap (56 - IntKind.i64.wrap (Int.tmod ((j : Nat) : Int) 8 * 8)) := by decide +kernel
theorem aJA (N : Nat) (a : List Int) : ∀ (m j : Nat) (l : List Int),j ≤ 32 → iZ N a m (j : Int) l = iM N a m (j : Int) l
 | 0,_,_,_ => rfl
 | m + 1,j,l,hj => by
  unfold iZ iM
  by_cases h : j < 32
  ·have hw : IntKind.i64.wrap ((j : Int) + 1) = ((j + 1 : Nat) : Int) := by rw [b4 (by omega) (by omega)]; omega
   rw [(aLu j h).1,(aLu j h).2,hw]
   simp only [aJA N a m (j + 1) _ (by omega)]
  ·rw [if_neg (by simp; omega),if_neg (by simp; omega)]
theorem aJ9 (N : Nat) (hN : 70000 ≤ N) (n : Nat) : tV N (U n) = some (fW n) := by
 have h := aE2 hN n
 unfold qJ at h
 unfold tV
 rw [show iZ N (U n) N 0 (List.replicate 32 0) = _ from aJA N (U n) N 0 _ (by omega)]
 exact h
theorem aJw (N : Nat) (hN : 70000 ≤ N) (n : Nat) : pA N (U n) = some (fW n) := by
 unfold pA
 rw [bA,Option.bind_some,aJ9 N hN,Option.bind_some,s9 (fV n),Option.bind_some]
def v8 (n w j : Nat) : Nat := 2 ^ (64 - 8 * min 8 (j - 8 * w)) * pS n w j
def stQ (n j : Nat) : List Int := [(v8 n 3 j : Int),(v8 n 2 j : Int),(v8 n 1 j : Int),(v8 n 0 j : Int)]
theorem aMo (n j w : Nat) (hw : w < 4) : (stQ n j)[3 - w]? = some ((v8 n w j : Nat) : Int) := by
 match w,hw with
 | 0,_ => rfl
 | 1,_ => rfl
 | 2,_ => rfl
 | 3,_ => rfl
theorem aOh (n w j : Nat) : v8 n w j < 2 ^ 64 := Nat.lt_of_le_of_lt (Nat.mul_div_le _ _) (aEv n w)
theorem aMR {n w r : Nat} (hr : r < 8) : v8 n w (8 * w + r + 1) = 2 ^ (64 - 8 * r) * pS n w (8 * w + r) + 2 ^ (56 - 8 * r) * (rB n w / 2 ^ (56 - 8 * r) % 256) ∧ v8 n w (8 * w + r) = 2 ^ (64 - 8 * r) * pS n w (8 * w + r) := by
 have e1 : 64 - 8 * min 8 (8 * w + r + 1 - 8 * w) = 56 - 8 * r := by omega
 have e2 : 64 - 8 * min 8 (8 * w + r - 8 * w) = 64 - 8 * r := by omega
 unfold v8
 rw [e1,e2,(aE4 hr).1,Nat.mul_add,← Nat.mul_assoc,← Nat.pow_add,show 56 - 8 * r + 8 = 64 - 8 * r by omega]
 exact ⟨rfl,rfl⟩
theorem lL {n w w' r : Nat} (hr : r < 8) (hne : w' ≠ w) : v8 n w' (8 * w + r + 1) = v8 n w' (8 * w + r) := by
 unfold v8
 rw [kF hr hne,show min 8 (8 * w + r + 1 - 8 * w') = min 8 (8 * w + r - 8 * w') by omega]
theorem aKS {n w r : Nat} (hw : w < 4) (hr : r < 8) : (stQ n (8 * w + r)).set (3 - w) ((v8 n w (8 * w + r + 1) : Nat) : Int) = stQ n (8 * w + r + 1) := by
 match w,hw with
 | 0,_ => simp only [stQ]; rw [lL (w' := 1) hr (by decide),lL (w' := 2) hr (by decide),lL (w' := 3) hr (by decide)]; rfl
 | 1,_ => simp only [stQ]; rw [lL (w' := 0) hr (by decide),lL (w' := 2) hr (by decide),lL (w' := 3) hr (by decide)]; rfl
 | 2,_ => simp only [stQ]; rw [lL (w' := 1) hr (by decide),lL (w' := 0) hr (by decide),lL (w' := 3) hr (by decide)]; rfl
 | 3,_ => simp only [stQ]; rw [lL (w' := 1) hr (by decide),lL (w' := 2) hr (by decide),lL (w' := 0) hr (by decide)]; rfl
theorem aOi (n : Nat) : stQ n 0 = [0,0,0,0] := by
 have h : ∀ w,v8 n w 0 = 0 := fun w => by
  unfold v8 pS
  rw [show 64 - 8 * min 8 (0 - 8 * w) = 64 by omega,Nat.div_eq_of_lt (by have := aEv n w; exact this)]
 simp only [stQ,h]; rfl
theorem aM3 (n : Nat) : stQ n 32 = U n := by
 have h : ∀ w,w < 4 → v8 n w 32 = rB n w := fun w hw => by
  unfold v8 pS
  rw [show 64 - 8 * min 8 (32 - 8 * w) = 0 by omega]
  simp
 rw [aIw]; simp only [stQ]; rw [h 0 (by decide),h 1 (by decide),h 2 (by decide),h 3 (by decide)]
section
variable {N : Nat} (hN : 70000 ≤ N)
include hN
theorem aG9 (n : Nat) : ∀ (m j : Nat),32 - j < m → j ≤ 32 → gF N (fW n) m (j : Int) (stQ n j) = some (U n)
 | 0,j,hm,_ => by omega
 | m + 1,j,hm,hj => by
  rw [gF]
  by_cases hh : j < 32
  ·have hb : bB 32 (fW n) (j : Int) = some (byG n j) := by
    rw [cN hh (by rw [fV]; exact hh)]; simp [fW]
   have hw : j / 8 < 4 := by omega
   have hr : j % 8 < 8 := by omega
   have hg : bB 4 (stQ n j) ((3 - j / 8 : Nat) : Int) = some ((v8 n (j / 8) j : Nat) : Int) := by
    rw [cN (show 3 - j / 8 < 4 by omega) (by simp [stQ]; omega)]
    have := aMo n j (j / 8) hw
    rw [List.getElem?_eq_getElem (by simp [stQ]; omega)] at this
    exact this
   have i1' : IntKind.i64.wrap (Int.tdiv (IntKind.i64.wrap (31 - (j : Int))) 8) = ((3 - j / 8 : Nat) : Int) := by
    rw [show 31 - (j : Int) = ((31 - j : Nat) : Int) by omega,b4 (a := ((31 - j : Nat) : Int)) (by omega) (by omega),show (8 : Int) = ((8 : Nat) : Int) from rfl,oK,b4 (by omega) (by omega),show (31 - j) / 8 = 3 - j / 8 by omega]
   have i2' : IntKind.i64.wrap (8 * (Int.tmod (IntKind.i64.wrap (31 - (j : Int))) 8)) = ((56 - 8 * (j % 8) : Nat) : Int) := by
    rw [show 31 - (j : Int) = ((31 - j : Nat) : Int) by omega,b4 (a := ((31 - j : Nat) : Int)) (by omega) (by omega),show (Int.tmod ((31 - j : Nat) : Int) 8) = (((31 - j) % 8 : Nat) : Int) from qE _ 8,b4 (by omega) (by omega)]
    omega
   rw [show decide ((j : Int) < 32) = true from decide_eq_true (by omega),if_pos rfl,i1',i2',hg,Option.bind_some,hb,Option.bind_some]
   have ej : j = 8 * (j / 8) + j % 8 := by omega
   obtain ⟨p1,p2⟩ := aMR (n := n) (w := j / 8) hr
   rw [← ej] at p1 p2
   have hbt : rB n (j / 8) / 2 ^ (56 - 8 * (j % 8)) % 256 < 256 := Nat.mod_lt _ (by decide)
   rw [aFd n j hh,uJ (by omega) (by omega),aA2 (k := .u64) rfl,Option.bind_some]
   have hlt : 2 ^ (56 - 8 * (j % 8)) * (rB n (j / 8) / 2 ^ (56 - 8 * (j % 8)) % 256) < 2 ^ (64 - 8 * (j % 8)) := by
    have h8 : 2 ^ (64 - 8 * (j % 8)) = 2 ^ (56 - 8 * (j % 8)) * 256 := by rw [show 64 - 8 * (j % 8) = 56 - 8 * (j % 8) + 8 by omega,Nat.pow_add]
    rw [h8]
    exact (Nat.mul_lt_mul_left (Nat.pow_pos (by omega))).2 hbt
   have hle : 2 ^ (64 - 8 * (j % 8)) ≤ 2 ^ 64 := Nat.pow_le_pow_right (by omega) (by omega)
   have hval : rB n (j / 8) / 2 ^ (56 - 8 * (j % 8)) % 256 * 2 ^ (56 - 8 * (j % 8)) % 2 ^ IntKind.u64.bits = 2 ^ (56 - 8 * (j % 8)) * (rB n (j / 8) / 2 ^ (56 - 8 * (j % 8)) % 256) := by
    rw [Nat.mul_comm]
    exact Nat.mod_eq_of_lt (Nat.lt_of_lt_of_le hlt hle)
   rw [hval,t0 (k := .u64) rfl _ _ (aOh n (j / 8) j) (Nat.lt_of_lt_of_le hlt hle),p2,← Nat.two_pow_add_eq_or_of_lt hlt,← p1]
   have := aKS (n := n) hw hr
   rw [← ej] at this
   rw [Int.toNat_natCast,this,i1 (show j ≤ 100000 by omega)]
   exact aG9 n m (j + 1) (by omega) (by omega)
  ·obtain rfl : j = 32 := by omega
   rw [show decide (((32 : Nat) : Int) < 32) = false from rfl,aM3]
   rfl
theorem aBY (n : Nat) : fP N (fW n) = some (U n) := by
 have := aG9 hN n N 0 (by omega) (by omega)
 rw [aOi,show ((0 : Nat) : Int) = 0 from rfl] at this
 simp only [fP,Option.bind_some,r40,this,nF,bA]
theorem aJo {n : Nat} (hn : n < 115792089237316195423570985008687907853269984665640564039457584007913129639936) : rQ N (fW n) = some (U (n % 57896044618658097711785492504343953926634992332820282019728792003956564801911)) := by
 unfold rQ
 rw [s9 (fV n),Option.bind_some,aBY hN,Option.bind_some,← tN,aGB hN hn (by omega),Option.bind_some,bA,Option.bind_some,Nat.add_zero]
theorem aLe {n : Nat} (hn : n < 115792089237316195423570985008687907853269984665640564039457584007913129639936) : l9 N (fW n) = some (U (n % 57896044618658097711785492504343953926634992332820282019728792003956564801911)) := by
 unfold l9 k9
 rw [s9 (fV n),Option.bind_some,aC2 hN,Option.bind_some,← tN,bA,Option.bind_some,bA,Option.bind_some,z6,Option.bind_some,aGR hN (by omega) (by omega) hn (by omega),Option.bind_some,bA,Option.bind_some,Option.bind_some,bA,Option.bind_some,Nat.add_zero]
end
section
variable (N : Nat) (b : List Nat) (hl : b.length = 64) (hb : ∀ x ∈ b,x < 256)
include hl hb
theorem aPs (hN : 70000 ≤ N) : eN N (iN b) N 0 (List.replicate 64 0) = some (aBu b 0 (List.replicate 64 0)) := by
 refine aE7 b (f := eN N (iN b)) (fun m j l hj hll hz => ?_) (fun m l => by rw [eN]; rfl) N 0 _ (by omega) (by omega) (by simp) (fun i _ hi => by rw [List.getElem?_replicate,if_pos hi])
 have g0 := uR hb (4 * j)
 have g1 := uR hb (4 * j + 1)
 have g2 := uR hb (4 * j + 2)
 have g3 := uR hb (4 * j + 3)
 rw [eN,show decide ((j : Int) < 16) = true from decide_eq_true (by omega),if_pos rfl]
 rw [b4 (a := 4 * (j : Int)) (by omega) (by omega),b4 (a := 4 * (j : Int) + 1) (by omega) (by omega),b4 (a := 4 * (j : Int) + 2) (by omega) (by omega),b4 (a := 4 * (j : Int) + 3) (by omega) (by omega)]
 rw [show 4 * (j : Int) = ((4 * j : Nat) : Int) by omega,show ((4 * j : Nat) : Int) + 1 = ((4 * j + 1 : Nat) : Int) by omega,show ((4 * j : Nat) : Int) + 2 = ((4 * j + 2 : Nat) : Int) by omega,show ((4 * j : Nat) : Int) + 3 = ((4 * j + 3 : Nat) : Int) by omega]
 rw [aCw hl (by omega),aCw hl (by omega),aCw hl (by omega),aCw hl (by omega),cN (show j < 64 by omega) (by omega)]
 rw [show (24 : Int) = ((24 : Nat) : Int) from rfl,show (16 : Int) = ((16 : Nat) : Int) from rfl,show (8 : Int) = ((8 : Nat) : Int) from rfl]
 simp only [Option.bind_some,Int.toNat_natCast,i1 (show j ≤ 100000 by omega),aCS _ (show b.getD (4 * j) 0 < 4294967296 by omega),aCS _ (show b.getD (4 * j + 1) 0 < 4294967296 by omega),aCS _ (show b.getD (4 * j + 2) 0 < 4294967296 by omega),aCS _ (show b.getD (4 * j + 3) 0 < 4294967296 by omega),aMV]
 congr 2
 unfold wd
 generalize b.getD (4 * j) 0 = a0 at *
 generalize b.getD (4 * j + 1) 0 = a1 at *
 generalize b.getD (4 * j + 2) 0 = a2 at *
 generalize b.getD (4 * j + 3) 0 = a3 at *
 rw [Nat.mod_eq_of_lt (show a0 * 2 ^ 24 < 4294967296 by omega),Nat.mod_eq_of_lt (show a1 * 2 ^ 16 < 4294967296 by omega),Nat.mod_eq_of_lt (show a2 * 2 ^ 8 < 4294967296 by omega)]
 rw [orU _ _ (by omega) (by omega),aEs a0 _ 24 (by omega)]
 rw [show a0 * 2 ^ 24 + a1 * 2 ^ 16 = (a0 * 2 ^ 8 + a1) * 2 ^ 16 by omega,orU _ _ (by omega) (by omega),aEs _ (a2 * 2 ^ 8) 16 (by omega)]
 rw [show (a0 * 2 ^ 8 + a1) * 2 ^ 16 + a2 * 2 ^ 8 = ((a0 * 2 ^ 8 + a1) * 2 ^ 8 + a2) * 2 ^ 8 by omega,orU _ _ (by omega) (by omega),aEs _ a3 8 (by omega)]
end
theorem aFx (N : Nat) (x n : Int) : gT N x n = cL N x n := rfl
theorem aIl (N : Nat) : ∀ (m : Nat) (i : Int) (l : List Int),g9 N m i l = fQ N m i l
 | 0,_,_ => rfl
 | m + 1,i,l => by simp only [g9,fQ,aFx,aIl N m]
theorem aHg (N : Nat) (st w : List Int) : ∀ (m : Nat) (a b c d e f g h i : Int),hY N st w aAF m a b c d e f g h i = fR N st w m a b c d e f g h i
 | 0,_,_,_,_,_,_,_,_,_ => rfl
 | m + 1,a,b,c,d,e,f,g,h,i => by simp only [hY,fR,aFx,aHg N st w m]
section
variable (N : Nat) (hN : 70000 ≤ N) (b : List Nat) (hl : b.length = 64) (hb : ∀ x ∈ b,x < 256)
include hN hl hb
theorem aII : pR N (iN b) = mM N (iN b) := by
 simp only [pR,mM,aPs N b hl hb hN,sL4 N b hl hb hN,Option.bind_some,oY,n6,aIl,oT,nW]
theorem aF0 (st : List Int) : l7 N st (iN b) = jH N st (iN b) := by
 obtain ⟨w,h1,h2⟩ := aLo N hN b hl hb
 have hK : qZ N = some aAF := rfl
 have hKl : aS 64 aAF = some aAF := rfl
 simp only [l7,jH,aII N hN b hl hb,h1,hK,hKl,Option.bind_some,aHg,oW,nD]
end
theorem aFJ (N n : Nat) : ∀ (k m : Nat) (acc : List Int),k ≤ 8 → k < m → acc.length + k ≤ 1000 → k7 N (n : Int) m ((k : Int) - 1) acc = some (acc ++ (List.range' (8 - k) k).map (beG n))
 | 0,m,acc,_,hm,_ => by
  obtain ⟨m,rfl⟩ : ∃ q,m = q + 1 := ⟨m - 1,by omega⟩
  rw [k7,show decide ((0 : Int) ≤ ((0 : Nat) : Int) - 1) = false from rfl]; simp
 | k + 1,m,acc,hk,hm,ha => by
  obtain ⟨m,rfl⟩ : ∃ q,m = q + 1 := ⟨m - 1,by omega⟩
  rw [k7,show decide ((0 : Int) ≤ ((k + 1 : Nat) : Int) - 1) = true from decide_eq_true (by omega),if_pos rfl]
  rw [b4 (a := 8 * (((k + 1 : Nat) : Int) - 1)) (by omega) (by omega),show 8 * (((k + 1 : Nat) : Int) - 1) = ((56 - 8 * (8 - (k + 1)) : Nat) : Int) by omega,aIr _ _ (by omega)]
  simp only [Option.bind_some]
  rw [uH (by simp; omega)]
  simp only [Option.bind_some]
  rw [b4 (a := ((k + 1 : Nat) : Int) - 1 - 1) (by omega) (by omega),show ((k + 1 : Nat) : Int) - 1 - 1 = (k : Int) - 1 by omega,aFJ N n k m _ (by omega) (by omega) (by simp; omega),List.range'_succ,List.map_cons,show 8 - (k + 1) + 1 = 8 - k by omega,List.append_assoc]
  rfl
theorem aFm (N n : Nat) (hn : n ≤ 1000000000) : ∀ (z m : Nat) (l : List Int),z < 64 → z < m → l.length + z ≤ 1000 → (n + l.length + 8 + z) % 64 = 0 → mF N (n : Int) m l = some (l ++ List.replicate z 0)
 | z,0,l,_,hm,_,_ => by omega
 | z,m + 1,l,hz,hm,hl,he => by
  rw [mF,uJ (a := (l.length : Int)) (by omega) (by omega),uJ (a := (n : Int) + (l.length : Int)) (by omega) (by omega),uJ (a := (n : Int) + (l.length : Int) + 8) (by omega) (by omega)]
  rw [show (n : Int) + (l.length : Int) + 8 = ((n + l.length + 8 : Nat) : Int) by omega,show (64 : Int) = ((64 : Nat) : Int) from rfl,qE]
  match z with
  | 0 =>
   rw [show (n + l.length + 8) % 64 = 0 by simpa using he]
   simp
  | z + 1 =>
   have hne : (n + l.length + 8) % 64 ≠ 0 := by omega
   rw [show ((((n + l.length + 8) % 64 : Nat) : Int) != 0) = true by simp; omega,if_pos rfl,uH (by simp; omega)]
   simp only [Option.bind_some]
   rw [aFm N n hn z m _ (by omega) (by omega) (by simp; omega) (by simp; omega),List.replicate_succ,List.append_assoc]
   rfl
theorem aPk (N : Nat) (hN : 70000 ≤ N) (n : Nat) (hn : n ≤ 1000000000) : xV N (n : Int) = some (rK n) := by
 have hz : uO n < 64 := Nat.mod_lt _ (by omega)
 have h2 : (n + 1 + 8 + uO n) % 64 = 0 := by unfold uO; omega
 unfold xV
 rw [aFm N n hn (uO n) N [128] hz (by omega) (by simp; omega) (by simpa using h2)]
 simp only [Option.bind_some,u5]
 have := aFJ N n 8 N ([128] ++ List.replicate (uO n) 0) (by omega) (by omega) (by simp; omega)
 rw [show ((8 : Nat) : Int) - 1 = 7 from rfl] at this
 rw [this]; rfl
section
variable (N : Nat) (hN : 70000 ≤ N) (msg : List Int) (hb : Byt msg) (hl : msg.length ≤ 2000000)
include hN hb hl
theorem aFK : ∀ (m j : Nat) (st : List Int),msg.length / 64 - j < m → j ≤ msg.length / 64 → st.length = 8 → mY N msg m ((64 * j : Nat) : Int) st = some (tY N msg st j (msg.length / 64 - j))
 | 0,j,st,hm,_,_ => by omega
 | m + 1,j,st,hm,hj,hst => by
  rw [mY,b4 (a := ((64 * j : Nat) : Int) + 64) (by omega) (by omega)]
  by_cases h : j < msg.length / 64
  ·have hlen : (q7 msg j).length = 64 := by simp [q7]; omega
   obtain ⟨c1,c2⟩ := aJI N hN st (q7 msg j) hst (aBG (aBk hb _) _) hlen
   have c3 : l7 N st (q7 msg j) = some (cmp N st (q7 msg j)) := by
    obtain ⟨bn,e1,e2⟩ := aIk (aBG (aBk hb (64 * j)) 64)
    have e3 : q7 msg j = iN bn := e1
    rw [e3] at c1 hlen ⊢
    rw [aF0 N hN bn (by rw [aEa] at hlen; exact hlen) e2]
    exact c1
   rw [show decide (((64 * j : Nat) : Int) + 64 ≤ (msg.length : Int)) = true from decide_eq_true (by omega),if_pos rfl]
   have e1 : sub msg ((64 * j : Nat) : Int) (msg.length : Int) = some (msg.drop (64 * j)) := by
    unfold sub
    rw [if_pos ⟨by omega,by omega,by omega⟩,Int.toNat_natCast,Int.toNat_natCast,List.take_of_length_le (Nat.le_refl _)]
   have e2 : j9 (List.replicate 64 (0 : Int)) (msg.drop (64 * j)) = q7 msg j := by
    unfold j9 q7
    rw [List.length_replicate,show List.drop (msg.drop (64 * j)).length (List.replicate 64 (0 : Int)) = [] from List.drop_eq_nil_of_le (by simp; omega),List.append_nil]
   simp only [e1,e2,Option.bind_some,cI hst,cI hlen,c3,cI c2]
   rw [show ((64 * j : Nat) : Int) + 64 = ((64 * (j + 1) : Nat) : Int) by omega,aFK m (j + 1) _ (by omega) (by omega) c2]
   unfold tY
   rw [show msg.length / 64 - j = (msg.length / 64 - (j + 1)) + 1 by omega,List.range'_succ,List.foldl_cons]
  ·rw [show decide (((64 * j : Nat) : Int) + 64 ≤ (msg.length : Int)) = false from decide_eq_false (by omega),show msg.length / 64 - j = 0 by omega]
   rfl
end
section
variable (N : Nat) (hN : 70000 ≤ N) (st : List Int) (hst : st.length = 8)
include hN hst
theorem aFA : ∀ (m j : Nat),8 - j < m → j ≤ 8 → mT N st m (j : Int) ((List.range (4 * j)).map (rE st) ++ List.replicate (32 - 4 * j) 0) = some (aBt st)
 | 0,j,hm,_ => by omega
 | m + 1,j,hm,hj => by
  rw [mT]
  by_cases h : j < 8
  ·rw [show decide ((j : Int) < 8) = true from decide_eq_true (by omega),if_pos rfl,aMY hst h]
   rw [b4 (a := 4 * (j : Int)) (by omega) (by omega),b4 (a := 4 * (j : Int) + 1) (by omega) (by omega),b4 (a := 4 * (j : Int) + 2) (by omega) (by omega),b4 (a := 4 * (j : Int) + 3) (by omega) (by omega)]
   rw [show 4 * (j : Int) = ((4 * j : Nat) : Int) by omega,show ((4 * j : Nat) : Int) + 1 = ((4 * j + 1 : Nat) : Int) by omega,show ((4 * j : Nat) : Int) + 2 = ((4 * j + 2 : Nat) : Int) by omega,show ((4 * j : Nat) : Int) + 3 = ((4 * j + 3 : Nat) : Int) by omega]
   rw [show (24 : Int) = ((24 : Nat) : Int) from rfl,show (16 : Int) = ((16 : Nat) : Int) from rfl]
   simp only [Option.bind_some,Int.toNat_natCast,i1 (show j ≤ 100000 by omega)]
   rw [show (8 : Int) = ((8 : Nat) : Int) from rfl,aGf _ 24 (by omega),aGf _ 16 (by omega),aGf _ 8 (by omega)]
   simp only [Option.bind_some]
   have o0 : IntKind.u8.wrap ((st.getD j 0).fdiv (2 ^ 24)) = rE st (4 * j) := by unfold rE; rw [show 4 * j / 4 = j by omega,show 4 * j % 4 = 0 by omega]
   have o1 : IntKind.u8.wrap ((st.getD j 0).fdiv (2 ^ 16)) = rE st (4 * j + 1) := by unfold rE; rw [show (4 * j + 1) / 4 = j by omega,show (4 * j + 1) % 4 = 1 by omega]
   have o2 : IntKind.u8.wrap ((st.getD j 0).fdiv (2 ^ 8)) = rE st (4 * j + 2) := by unfold rE; rw [show (4 * j + 2) / 4 = j by omega,show (4 * j + 2) % 4 = 2 by omega]
   have o3 : IntKind.u8.wrap (st.getD j 0) = rE st (4 * j + 3) := by
    unfold rE; rw [show (4 * j + 3) / 4 = j by omega,show (4 * j + 3) % 4 = 3 by omega]
    congr 1
    generalize st.getD j 0 = x
    simp
   rw [o0,o1,o2,o3,uS (rE st) 32 (4 * j) (by omega),uS (rE st) 32 (4 * j + 1) (by omega),uS (rE st) 32 (4 * j + 2) (by omega),uS (rE st) 32 (4 * j + 3) (by omega)]
   rw [cN (show 4 * j < 32 by omega) (by simp; omega),cN (show 4 * j + 1 < 32 by omega) (by simp; omega),cN (show 4 * j + 2 < 32 by omega) (by simp; omega),cN (show 4 * j + 3 < 32 by omega) (by simp; omega)]
   simp only [Option.bind_some]
   exact aFA m (j + 1) (by omega) (by omega)
  ·obtain rfl : j = 8 := by omega
   rw [show decide (((8 : Nat) : Int) < 8) = false from rfl]
   simp [aBt]
end
theorem aEA (N : Nat) (hN : 70000 ≤ N) (b : List Int) (hb : Byt b) (hl : b.length ≤ 1000000) : sE N b = some (sha256 N b) := by
 have hz : uO b.length < 64 := Nat.mod_lt _ (by omega)
 have hpl := aG8 b.length
 have hmb : Byt (b ++ rK b.length) := hb.append (aHw _)
 have hml : (b ++ rK b.length).length ≤ 2000000 := by rw [List.length_append]; omega
 obtain ⟨s1,s2⟩ := aDA N hN _ hmb hml N 0 tG (by omega) (by omega) rfl
 have s3 := aFK N hN _ hmb hml N 0 tG (by omega) (by omega) rfl
 rw [Nat.sub_zero] at s2
 rw [show ((64 * 0 : Nat) : Int) = 0 from rfl,Nat.sub_zero] at s3
 have hw : IntKind.u64.wrap (b.length : Int) = (b.length : Int) := uJ (by omega) (by omega)
 have o := aFA N hN (tY N (b ++ rK b.length) tG 0 ((b ++ rK b.length).length / 64)) s2 N 0 (by omega) (by omega)
 simp only [Nat.mul_zero,List.range_zero,List.map_nil,List.nil_append,Nat.sub_zero] at o
 rw [show ((0 : Nat) : Int) = 0 from rfl] at o
 have hI : t9 N = some tG := rfl
 have hIa : aS 8 tG = some tG := rfl
 simp only [sE]
 rw [uH (by simp; omega)]
 simp only [Option.bind_some,List.nil_append,hw,aPk N hN b.length (by omega)]
 rw [uH (by omega)]
 simp only [Option.bind_some,hI,hIa,s3,vK,cI s2,o,vA,cI (aDg _)]
 rfl
theorem aIJ (N : Nat) (hN : 70000 ≤ N) (tag : ByteArray) (ht : tag.size ≤ 1000) (b : List Int) (hb : Byt b) (hl : b.length ≤ 900000) : rS N tag b = some (aAf N tag b) := by
 have hlim := kH
 have hs : stb tag = some (dW tag) := by unfold stb; rw [if_pos (by omega)]
 have s2 := aEA N hN (dW tag) (aC8 tag) (by rw [tR]; omega)
 have l1 := nY N (dW tag)
 have t2 := aEA N hN (sha256 N (dW tag) ++ (sha256 N (dW tag) ++ b)) ((tA _ _).append ((tA _ _).append hb)) (by simp only [List.length_append,l1]; omega)
 simp only [rS,hs,s2,Option.bind_some,cI l1]
 rw [uH (by simp [l1])]
 simp only [Option.bind_some,List.nil_append]
 rw [uH (by simp [l1])]
 simp only [Option.bind_some]
 rw [uH (by simp [l1]; omega)]
 simp only [Option.bind_some,List.append_assoc,t2,cI (nY N _)]
 rfl
def t6 (f : Nat → Nat) (w : Nat) : Nat := f (8 * w) * 72057594037927936 + f (8 * w + 1) * 281474976710656 + f (8 * w + 2) * 1099511627776 + f (8 * w + 3) * 4294967296 + f (8 * w + 4) * 16777216 + f (8 * w + 5) * 65536 + f (8 * w + 6) * 256 + f (8 * w + 7)
theorem qI {f : Nat → Nat} (hf : ∀ i,f i < 256) (w : Nat) : t6 f w < 18446744073709551616 ∧ ∀ r,r < 8 → t6 f w / 2 ^ (56 - 8 * r) % 256 = f (8 * w + r) := by
 have h0 := hf (8 * w)
 have h1 := hf (8 * w + 1)
 have h2 := hf (8 * w + 2)
 have h3 := hf (8 * w + 3)
 have h4 := hf (8 * w + 4)
 have h5 := hf (8 * w + 5)
 have h6 := hf (8 * w + 6)
 have h7 := hf (8 * w + 7)
 unfold t6
 refine ⟨by omega,fun r hr => ?_⟩
 match r,hr with
 | 0,_ => show _ / 72057594037927936 % 256 = f (8 * w); omega
 | 1,_ => show _ / 281474976710656 % 256 = _; omega
 | 2,_ => show _ / 1099511627776 % 256 = _; omega
 | 3,_ => show _ / 4294967296 % 256 = _; omega
 | 4,_ => show _ / 16777216 % 256 = _; omega
 | 5,_ => show _ / 65536 % 256 = _; omega
 | 6,_ => show _ / 256 % 256 = _; omega
 | 7,_ => show _ / 1 % 256 = _; omega
def byF (h : List Int) (i : Nat) : Nat := ((h.getD i 0).toNat) % 256
def i3 (h : List Int) : Nat := vl (t6 (byF h) 3) (t6 (byF h) 2) (t6 (byF h) 1) (t6 (byF h) 0)
theorem uW (h : List Int) (i : Nat) : byF h i < 256 := Nat.mod_lt _ (by decide)
theorem oH (h : List Int) : i3 h < 115792089237316195423570985008687907853269984665640564039457584007913129639936 :=
 aCU (qI (uW h) 3).1 (qI (uW h) 2).1 (qI (uW h) 1).1 (qI (uW h) 0).1
theorem aAw {h : List Int} (hl : h.length = 32) (hb : Byt h) : fW (i3 h) = h := by
 have hw : ∀ w,w < 4 → rB (i3 h) w = t6 (byF h) w := by
  have e := aIw (i3 h)
  rw [show U (i3 h) = w4 (t6 (byF h) 3) (t6 (byF h) 2) (t6 (byF h) 1) (t6 (byF h) 0) from (aDB (qI (uW h) 3).1 (qI (uW h) 2).1 (qI (uW h) 1).1 (qI (uW h) 0).1).symm] at e
  simp only [w4,List.cons.injEq,Int.natCast_inj,and_true] at e
  obtain ⟨e3,e2,e1,e0⟩ := e
  intro w hw
  match w,hw with
  | 0,_ => exact e0.symm
  | 1,_ => exact e1.symm
  | 2,_ => exact e2.symm
  | 3,_ => exact e3.symm
 refine List.ext_getElem (by rw [fV,hl]) fun i h1 h2 => ?_
 rw [fV] at h1
 have hg : (fW (i3 h))[i]'(by rw [fV]; exact h1) = byG (i3 h) i := by simp [fW]
 rw [hg,aFd _ i h1,hw (i / 8) (by omega),(qI (uW h) (i / 8)).2 (i % 8) (by omega),show 8 * (i / 8) + i % 8 = i by omega]
 have hx := hb h[i] (List.getElem_mem h2)
 unfold byF
 rw [List.getD_eq_getElem?_getD,List.getElem?_eq_getElem h2,Option.getD_some]
 omega
theorem xD : gQ < 115792089237316195423570985008687907853269984665640564039457584007913129639936 := by decide +kernel
theorem aCK (a : Nat) : a % gP < 115792089237316195423570985008687907853269984665640564039457584007913129639936 := Nat.lt_trans (Nat.mod_lt _ (by decide +kernel)) (by decide +kernel)
section
variable {N : Nat} (hN : 70000 ≤ N)
include hN
theorem aGe (l : List (List Int)) (hn : l.length ≤ 1000) (ht : l.flatten.length ≤ 40000000) : lQ N l = some l.flatten := by
 have := aBy (f := jY N l) l hn (by omega) (fun m j acc hj hB => by
  rw [jY,dT hj,if_pos rfl,d8 l hj,Option.bind_some]
  unfold u7
  rw [show ((acc.length : Int) + (l[j].length : Int)) = ((acc.length + l[j].length : Nat) : Int) by omega,b4 (by omega) (by omega),aJq (by have := kH; omega),Option.bind_some,List.take_zero,uH (by simp; omega),Option.bind_some,List.nil_append,uH (by omega)]
  simp only [Option.bind_some,i1 (show j ≤ 100000 by omega)]) (fun m j acc hj => by rw [jY,dF (by omega)]; rfl) N hN
 unfold lQ
 rw [this]; rfl
def aIy (N r p : Nat) (m : List Int) : Nat := i3 (aAf N uV (fW r ++ (fW p ++ m))) % gQ
omit hN in
theorem aIp (N r p : Nat) (m : List Int) : aIy N r p m < gQ := Nat.mod_lt _ (by decide)
theorem aHG (r p : Nat) {m : List Int} (hm : m.length = 32) (hb : Byt m) : kL N (U r) (U p) m = some (U (aIy N r p m)) := by
 have hs := aLe hN (oH (aAf N uV (fW r ++ (fW p ++ m))))
 rw [aAw (aBq N uV _) (aEm N uV _)] at hs
 have hrow : uI N [fW r,fW p,m] = some (fW r ++ (fW p ++ m)) := by
  rw [grow hN _ (by simp) (fun x hx => by
   simp only [List.mem_cons,List.not_mem_nil,or_false] at hx
   rcases hx with rfl | rfl | rfl
   ·exact fV _
   ·exact fV _
   ·exact hm)]
  simp
 have ht := aFN N hN uV (by decide) (fW r ++ (fW p ++ m)) ((zK _).append ((zK _).append hb)) (by simp [fV,hm])
 simp only [kL,bA,aE2 hN,cI hm,cI (fV _),hrow,Option.bind_some]
 rw [show (⟨#[108,105,103,104,116,99,108,105,101,110,116,47,99,104,97,108,108,101,110,103,101]⟩ : ByteArray) = uV from rfl,ht]
 simp only [Option.bind_some,hs,bA]
 rfl
theorem aGN (r p : Nat) {m : List Int} (hm : m.length = 32) (hb : Byt m) : nN N (U r) (U p) m = some (U (aIy N r p m)) := by
 have hs := aJo hN (oH (aAf N uV (fW r ++ (fW p ++ m))))
 rw [aAw (aBq N uV _) (aEm N uV _)] at hs
 have hrow : lQ N [fW r,fW p,m] = some (fW r ++ (fW p ++ m)) := by
  rw [aGe hN _ (by simp) (by simp [fV,hm])]
  simp
 have ht := aIJ N hN uV (by decide) (fW r ++ (fW p ++ m)) ((zK _).append ((zK _).append hb)) (by simp [fV,hm])
 simp only [nN,bA,aJw N hN,cI hm,hrow,Option.bind_some]
 rw [show (⟨#[108,105,103,104,116,99,108,105,101,110,116,47,99,104,97,108,108,101,110,103,101]⟩ : ByteArray) = uV from rfl,ht]
 simp only [Option.bind_some,hs,bA]
 rfl
end
def aHd (p : Nat) : Bool := !decide (p = 0) && (decide (p < gP) && decide (p ^ gQ % gP = 1))
def okN (p : Nat) : Bool := !decide (p = 1) && aHd p
def aDt (N p : Nat) (m : List Int) (e s : Nat) : Bool := decide (e < gQ) && (decide (s < gQ) && (okN p && decide (e = aIy N (4 ^ s % gP * (p ^ (gQ - e) % gP) % gP) p m)))
section
variable {N : Nat} (hN : 70000 ≤ N)
include hN
theorem aKa {p : Nat} (hp : p < 115792089237316195423570985008687907853269984665640564039457584007913129639936) : mO N (U p) = some (aHd p) := by
 have he := aCG hN hp xD
 have hz : (U p == [0,0,0,0]) = decide (p = 0) := by
  rw [← tN,vW hp (by decide +kernel)]
 unfold mO aHd
 rw [bA,Option.bind_some,hz]
 by_cases h0 : p = 0
 ·rw [decide_eq_true h0]; rfl
 ·rw [decide_eq_false h0]
  simp only [Bool.false_eq_true,if_false,Bool.not_false,Bool.true_and]
  rw [aG7,Option.bind_some,uE hN hp (by decide +kernel),Option.bind_some,aD0]
  by_cases h1 : p < gP
  ·rw [decide_eq_false (Nat.not_le.2 h1),decide_eq_true h1]
   unfold i6
   simp only [Bool.false_eq_true,if_false,Bool.true_and]
   rw [bA,Option.bind_some,z6,Option.bind_some,he,Option.bind_some,show d5 N 1 = some (U 1) from rfl]
   simp only [Option.bind_some,bA]
   rw [vW (aCK _) (by decide +kernel)]
  ·rw [decide_eq_true (Nat.not_lt.1 h1),decide_eq_false h1]
   rfl
theorem aIg {p : Nat} (hp : p < 115792089237316195423570985008687907853269984665640564039457584007913129639936) : oF N (U p) = some (okN p) := by
 unfold oF okN
 rw [bA,Option.bind_some,show d5 N 1 = some (U 1) from rfl,Option.bind_some,bA,Option.bind_some,vW hp (by decide +kernel)]
 by_cases h1 : p = 1
 ·rw [decide_eq_true h1]; rfl
 ·rw [decide_eq_false h1]
  simp only [Bool.not_false,if_true,Bool.true_and]
  rw [aKa hN hp,Option.bind_some]
  rfl
theorem aKB {e : Nat} (he : e < 115792089237316195423570985008687907853269984665640564039457584007913129639936) : qQ N (U e) = some (U (4 ^ e % gP)) := by
 unfold qQ
 rw [show d5 N 4 = some (U 4) from rfl,Option.bind_some,bA,Option.bind_some,aCG hN (by decide +kernel) he,Option.bind_some,bA,Option.bind_some]
theorem aKA {p e s : Nat} (hp : p < 115792089237316195423570985008687907853269984665640564039457584007913129639936) (he4 : e < 115792089237316195423570985008687907853269984665640564039457584007913129639936) (hs4 : s < 115792089237316195423570985008687907853269984665640564039457584007913129639936) {m : List Int} (hm : m.length = 32) (hb : Byt m) :
  oR N (U p) m (U e) (U s) = some (aDt N p m e s) := by
 have hJt : gX N (U p) m (U e) (U s) true = some false := rfl
 unfold oR aDt
 rw [bA,Option.bind_some,sJ hN he4,Option.bind_some,show decide (e < 57896044618658097711785492504343953926634992332820282019728792003956564801911) = decide (e < gQ) from rfl]
 by_cases h1 : e < gQ
 ·rw [decide_eq_true h1]
  simp only [Bool.not_true,Bool.false_eq_true,if_false,Bool.true_and]
  rw [bA,Option.bind_some,sJ hN hs4,Option.bind_some,show decide (s < 57896044618658097711785492504343953926634992332820282019728792003956564801911) = decide (s < gQ) from rfl]
  by_cases h2 : s < gQ
  ·rw [decide_eq_true h2]
   simp only [Bool.not_true,Bool.false_eq_true,if_false,Bool.true_and]
   rw [bA,Option.bind_some,aIg hN hp,Option.bind_some]
   cases okN p with
   | false => exact hJt
   | true =>
    have hd : (gQ + 115792089237316195423570985008687907853269984665640564039457584007913129639936 - e) % 115792089237316195423570985008687907853269984665640564039457584007913129639936 = gQ - e := by
     have := xD
     revert h1 this
     generalize gQ = Q
     intro h1 this
     omega
    have hd4 : gQ - e < 115792089237316195423570985008687907853269984665640564039457584007913129639936 := Nat.lt_of_le_of_lt (Nat.sub_le _ _) xD
    have hch := aHG hN (4 ^ s % gP * (p ^ (gQ - e) % gP) % gP) p hm hb
    have hcl := aIp N (4 ^ s % gP * (p ^ (gQ - e) % gP) % gP) p m
    unfold gX
    simp only [Bool.not_true,Bool.false_eq_true,if_false,Bool.true_and]
    rw [z6,Option.bind_some,bA,Option.bind_some,aCT hN (show gQ < _ from xD) he4,Option.bind_some,hd]
    simp only [bA,Option.bind_some]
    rw [aKB hN hs4,Option.bind_some,aCG hN hp hd4,Option.bind_some,aIB hN (aCK _) (aCK _),Option.bind_some,bA,Option.bind_some,cI hm,Option.bind_some,hch,Option.bind_some,bA,Option.bind_some,vW he4 (Nat.lt_trans hcl xD)]
  ·rw [decide_eq_false h2]
   exact hJt
 ·rw [decide_eq_false h1]
  exact hJt
end
theorem aNi {N : Nat} (hN : 70000 ≤ N) (l : List (List Int)) (hn : l.length ≤ 1000) (ht : l.flatten.length ≤ 50000000) : pZ N l = some l.flatten := by
 have := aBy (f := jW N l) l hn ht (fun m j acc hj hB => by
  rw [jW,dT hj,if_pos rfl,d8 l hj,Option.bind_some,uH (by omega)]
  simp only [Option.bind_some,i1 (show j ≤ 100000 by omega)]) (fun m j acc hj => by rw [jW,dF (by omega)]; rfl) N hN
 unfold pZ
 rw [this]; rfl
def rW (m n : Int) : Bool := decide (1 ≤ n) && decide (n ≤ 15) && decide (1 ≤ m) && decide (m ≤ n)
theorem aKE (N : Nat) (m n : Int) : pF N m n = some (rW m n) := by
 unfold pF rW hZ
 cases decide (1 ≤ n) <;> cases decide (n ≤ 15) <;> cases decide (1 ≤ m) <;> rfl
def dJ (x : Int) (r : List Int) : aM × List Int × Int :=
 if x < 1 ∨ 17 < x then (⟨0,[],0,0⟩,[],80)
 else if x = 1 then
  match r with
  | [] => (⟨0,[],0,0⟩,[],1)
  | n :: r' => if (r'.length : Int) < n then (⟨0,[],0,0⟩,[],1) else (⟨1,r'.take n.toNat,0,0⟩,r'.drop n.toNat,0)
 else if x = 11 then
  match r with
  | m :: n :: r' => if rW m n = true then (⟨11,[],m,n⟩,r',0) else (⟨0,[],0,0⟩,[],5)
  | _ => (⟨0,[],0,0⟩,[],1)
 else (⟨x,[],0,0⟩,r,0)
theorem aBw {α : Type} (x : α) (l : List α) : bS (x :: l) 0 = some x := rfl
theorem aNt {α : Type} (x y : α) (l : List α) : bS (x :: y :: l) 1 = some y := rfl
theorem aNK {α : Type} (x : α) (l : List α) : sub (x :: l) 1 (((x :: l).length : Nat) : Int) = some l := by
 unfold sub
 rw [if_pos ⟨by omega,by simp; omega,by omega⟩,Int.toNat_natCast,List.take_of_length_le (Nat.le_refl _)]; rfl
theorem aM1 {α : Type} (x y : α) (l : List α) : sub (x :: y :: l) 2 (((x :: y :: l).length : Nat) : Int) = some l := by
 unfold sub
 rw [if_pos ⟨by omega,by simp; omega,by omega⟩,Int.toNat_natCast,List.take_of_length_le (Nat.le_refl _)]; rfl
theorem aL6 {N : Nat} (hN : 70000 ≤ N) {x : Int} {r : List Int} (hb : Byt (x :: r)) (hl : r.length ≤ 100000) :
  tW N (x :: r) = some ((dJ x r).1.Code,(dJ x r).1.Data,(dJ x r).1.M,(dJ x r).1.N,(dJ x r).2.1,(dJ x r).2.2) := by
 have hx := hb x (by simp)
 have wx : IntKind.i64.wrap x = x := b4 (by omega) (by omega)
 have hk : rL N x = some (decide (1 ≤ x) && decide (x ≤ 17)) := by
  unfold rL nE
  cases decide (1 ≤ x) <;> rfl
 unfold tW dJ
 simp only [aBw,Option.bind_some,wx,hk,aNK]
 by_cases h0 : x < 1 ∨ 17 < x
 ·rw [if_pos h0]
  have : (decide (1 ≤ x) && decide (x ≤ 17)) = false := by
   rcases h0 with h | h
   ·rw [decide_eq_false (by omega)]; rfl
   ·rw [decide_eq_false (show ¬ x ≤ 17 by omega),Bool.and_false]
  rw [this]; rfl
 ·rw [if_neg h0,show (decide (1 ≤ x) && decide (x ≤ 17)) = true by rw [decide_eq_true (by omega),decide_eq_true (by omega)]; rfl]
  simp only [Bool.not_true,Bool.false_eq_true,if_false]
  by_cases h1 : x = 1
  ·subst h1
   rw [if_pos rfl,show ((1 : Int) == 1) = true from rfl,if_pos rfl]
   match r,hb,hl with
   | [],_,_ => rfl
   | n :: r',hb,hl =>
    have hn := hb n (by simp)
    have wn : IntKind.i64.wrap n = n := b4 (by omega) (by omega)
    rw [show ((((n :: r').length : Nat) : Int) == 0) = false by simp; omega]
    simp only [Bool.false_eq_true,if_false,aBw,Option.bind_some,wn]
    have hl' : r'.length + 1 ≤ 100000 := by simpa using hl
    rw [show (((n :: r').length : Nat) : Int) - 1 = ((r'.length : Nat) : Int) by simp,b4 (a := ((r'.length : Nat) : Int)) (by omega) (by omega)]
    by_cases h2 : (r'.length : Int) < n
    ·rw [decide_eq_true h2,if_pos h2]; rfl
    ·rw [decide_eq_false h2,if_neg h2]
     have e1 : sub (n :: r') 1 (IntKind.i64.wrap (1 + n)) = some (r'.take n.toNat) := by
      rw [b4 (by omega) (by omega)]
      unfold sub
      rw [if_pos ⟨by omega,by omega,by simp; omega⟩,show (1 + n).toNat = n.toNat + 1 by omega]; rfl
     have e2 : sub (n :: r') (IntKind.i64.wrap (1 + n)) (((n :: r').length : Nat) : Int) = some (r'.drop n.toNat) := by
      rw [b4 (by omega) (by omega)]
      unfold sub
      rw [if_pos ⟨by omega,by simp; omega,by omega⟩,show (1 + n).toNat = n.toNat + 1 by omega,Int.toNat_natCast,List.take_of_length_le (Nat.le_refl _)]; rfl
     have e3 : pZ N [r'.take n.toNat] = some (r'.take n.toNat) := by
      rw [aNi hN _ (by simp) (by simp; omega)]; simp
     simp only [pP,Bool.false_eq_true,if_false,aBw,Option.bind_some,wn,e1,e2,e3,kI]
     rfl
  ·rw [if_neg h1,show (x == 1) = false by simpa using h1]
   simp only [Bool.false_eq_true,if_false]
   by_cases h2 : x = 11
   ·subst h2
    rw [if_pos rfl,show ((11 : Int) == 11) = true from rfl,if_pos rfl]
    match r,hb,hl with
    | [],_,_ => rfl
    | [m],_,_ => rfl
    | m :: n :: r',hb,hl =>
     have hm := hb m (by simp)
     have hn := hb n (by simp)
     have wm : IntKind.i64.wrap m = m := b4 (by omega) (by omega)
     have wn : IntKind.i64.wrap n = n := b4 (by omega) (by omega)
     rw [show decide ((((m :: n :: r').length : Nat) : Int) < 2) = false from decide_eq_false (by simp; omega)]
     simp only [Bool.false_eq_true,if_false,aBw,aNt,Option.bind_some,wm,wn,aM1,aKE]
     cases hr : rW m n with
     | false => rfl
     | true => rfl
   ·rw [if_neg h2,show (x == 11) = false by simpa using h2]
    simp only [Bool.false_eq_true,if_false,kI,wx]
structure vV (o : aM) : Prop where
 data : Byt o.Data ∧ o.Data.length ≤ 255
 multi : o.Code = 11 → 1 ≤ o.M ∧ o.M ≤ o.N ∧ o.N ≤ 15
theorem aBg {x : Int} {r : List Int} (hb : Byt (x :: r)) (he : (dJ x r).2.2 = 0) : vV (dJ x r).1 ∧ Byt (dJ x r).2.1 ∧ (dJ x r).2.1.length ≤ r.length ∧ ∀ t,dJ x (r ++ t) = ((dJ x r).1,(dJ x r).2.1 ++ t,0) := by
 have hr : Byt r := fun y hy => hb y (by simp [hy])
 unfold dJ at he ⊢
 by_cases h0 : x < 1 ∨ 17 < x
 ·rw [if_pos h0] at he; cases he
 ·simp only [if_neg h0] at he ⊢
  by_cases h1 : x = 1
  ·subst h1
   simp only [if_true] at he ⊢
   match r,hr,he with
   | [],_,he => cases he
   | n :: r',hr,he =>
    simp only at he ⊢
    by_cases h2 : (r'.length : Int) < n
    ·rw [if_pos h2] at he; cases he
    ·simp only [if_neg h2] at he ⊢
     have hn := hr n (by simp)
     have hr' : Byt r' := fun y hy => hr y (by simp [hy])
     refine ⟨⟨⟨aBG hr' _,by simp; omega⟩,fun h => by simp at h⟩,aBk hr' _,by simp; omega,fun t => ?_⟩
     simp only [List.cons_append]
     rw [if_neg (by simp; omega),List.take_append_of_le_length (by omega),List.drop_append_of_le_length (by omega)]
  ·simp only [if_neg h1] at he ⊢
   by_cases h2 : x = 11
   ·subst h2
    simp only [if_true] at he ⊢
    match r,hr,he with
    | [],_,he => cases he
    | [_],_,he => cases he
    | m :: n :: r',hr,he =>
     simp only [List.cons_append] at he ⊢
     by_cases h3 : rW m n = true
     ·simp only [if_pos h3] at he ⊢
      refine ⟨⟨⟨fun y hy => by simp at hy,by simp⟩,fun _ => ?_⟩,fun y hy => hr y (by simp [hy]),by simp; omega,fun t => trivial⟩
      simp only [rW,Bool.and_eq_true,decide_eq_true_eq] at h3
      exact ⟨h3.1.2,h3.2,h3.1.1.2⟩
     ·rw [if_neg h3] at he; cases he
   ·simp only [if_neg h2] at he ⊢
    exact ⟨⟨⟨fun y hy => by simp at hy,by simp⟩,fun h => absurd h h2⟩,hr,Nat.le_refl _,fun t => trivial⟩
def g8 : Nat → List Int → List aM → LR (List aM) (List aM × Int)
 | 0,_,acc => .brk acc
 | _ + 1,[],acc => .brk acc
 | k + 1,x :: r,acc => if (dJ x r).2.2 = 0 then g8 k (dJ x r).2.1 (acc ++ [(dJ x r).1]) else .ret ([],(dJ x r).2.2)
theorem aD1 {N : Nat} (hN : 70000 ≤ N) : ∀ (m : Nat) (b : List Int) (acc : List aM),b.length < m → Byt b → b.length ≤ 100000 → acc.length + b.length ≤ 200000 → jD N m b acc = some (g8 m b acc)
 | 0,b,acc,hm,_,_,_ => by omega
 | m + 1,[],acc,_,_,_,_ => rfl
 | m + 1,x :: r,acc,hm,hb,hl,ha => by
  simp only [List.length_cons] at hm hl ha
  rw [jD,show decide ((0 : Int) < (((x :: r).length : Nat) : Int)) = true from decide_eq_true (by rw [List.length_cons]; omega),if_pos rfl,aL6 hN hb (by omega)]
  simp only [Option.bind_some,g8]
  by_cases he : (dJ x r).2.2 = 0
  ·obtain ⟨h1,h2,h3,_⟩ := aBg hb he
   rw [if_pos he,he,show ((0 : Int) != 0) = false from rfl]
   have hlim := kH
   simp only [Bool.false_eq_true,if_false]
   rw [u6 (by simp; omega)]
   simp only [Option.bind_some]
   exact aD1 hN m _ _ (by omega) h2 (by omega) (by simp; omega)
  ·rw [if_neg he,show ((dJ x r).2.2 != 0) = true by simpa using he]
   rfl
theorem xL : ∀ (k k' : Nat) (b : List Int) (acc : List aM),Byt b → b.length < k → b.length < k' → g8 k b acc = g8 k' b acc
 | 0,_,b,_,_,hk,_ => by omega
 | k + 1,0,b,_,_,_,hk => by omega
 | k + 1,k' + 1,[],acc,_,_,_ => rfl
 | k + 1,k' + 1,x :: r,acc,hb,h1,h2 => by
  simp only [List.length_cons] at h1 h2
  simp only [g8]
  by_cases he : (dJ x r).2.2 = 0
  ·obtain ⟨_,h4,h3,_⟩ := aBg hb he
   rw [if_pos he,if_pos he]
   exact xL k k' _ _ h4 (by omega) (by omega)
  ·rw [if_neg he,if_neg he]
theorem aFO : ∀ (k : Nat) (b : List Int) (acc l : List aM),Byt b → b.length < k → (∀ o ∈ acc,vV o) → g8 k b acc = .brk l → (∀ o ∈ l,vV o) ∧ l.length ≤ acc.length + b.length ∧ ∀ (t : List Int) (k' : Nat),Byt t → b.length + t.length < k' → g8 k' (b ++ t) acc = g8 (t.length + 1) t l
 | 0,b,_,_,_,hk,_,_ => by omega
 | k + 1,[],acc,l,_,_,hv,h => by
  injection h with h
  subst h
  refine ⟨hv,by simp,fun t k' ht hk => ?_⟩
  rw [List.nil_append]
  exact xL _ _ _ _ ht (by simpa using hk) (by omega)
 | k + 1,x :: r,acc,l,hb,hk,hv,h => by
  simp only [List.length_cons] at hk
  simp only [g8] at h
  by_cases he : (dJ x r).2.2 = 0
  ·obtain ⟨h1,h4,h3,h5⟩ := aBg hb he
   rw [if_pos he] at h
   obtain ⟨g1,g2,g3⟩ := aFO k _ _ l h4 (by omega) (fun o ho => (List.mem_append.1 ho).elim (hv o) (fun hh => by simp only [List.mem_singleton] at hh; exact hh ▸ h1)) h
   refine ⟨g1,by simp at g2 ⊢; omega,fun t k' ht hk' => ?_⟩
   obtain ⟨k',rfl⟩ : ∃ q,k' = q + 1 := ⟨k' - 1,by omega⟩
   simp only [List.length_cons] at hk'
   rw [List.cons_append,g8,h5 t]
   simp only [if_true]
   exact g3 t k' ht (by omega)
  ·rw [if_neg he] at h; cases h
def bT (b : List Int) : List aM × Int := if 520 < b.length then ([],4) else match g8 (b.length + 1) b [] with | .ret v => v | .brk l => (l,0)
theorem aKn {N : Nat} (hN : 70000 ≤ N) {b : List Int} (hb : Byt b) : rD N b = some (bT b) := by
 unfold rD bT
 by_cases h : 520 < b.length
 ·rw [show decide ((520 : Int) < ((b.length : Nat) : Int)) = true from decide_eq_true (by omega),if_pos rfl,if_pos h]
 ·rw [show decide ((520 : Int) < ((b.length : Nat) : Int)) = false from decide_eq_false (by omega),if_neg h,aD1 hN N b [] (by omega) hb (by omega) (by simp; omega),xL N (b.length + 1) b [] hb (by omega) (by omega)]
  cases g8 (b.length + 1) b [] <;> rfl
theorem aEu : ∀ (k : Nat) (b : List Int) (acc : List aM) (v : List aM × Int),g8 k b acc = .ret v → v.1 = [] ∧ v.2 ≠ 0
 | 0,_,_,_,h => by cases h
 | k + 1,[],_,_,h => by cases h
 | k + 1,x :: r,acc,v,h => by
  simp only [g8] at h
  by_cases he : (dJ x r).2.2 = 0
  ·rw [if_pos he] at h; exact aEu k _ _ v h
  ·rw [if_neg he] at h; injection h with h; subst h; exact ⟨rfl,he⟩
theorem aAx {b : List Int} (hb : Byt b) (h : (bT b).2 = 0) : (∀ o ∈ (bT b).1,vV o) ∧ (bT b).1.length ≤ 520 ∧ b.length ≤ 520 ∧ g8 (b.length + 1) b [] = .brk (bT b).1 := by
 unfold bT at h ⊢
 by_cases hl : 520 < b.length
 ·rw [if_pos hl] at h; cases h
 ·simp only [if_neg hl] at h ⊢
  cases hp : g8 (b.length + 1) b [] with
  | ret v => rw [hp] at h; exact absurd h (aEu _ _ _ _ hp).2
  | brk l =>
   obtain ⟨g1,g2,_⟩ := aFO _ b [] l hb (by omega) (by simp) hp
   exact ⟨g1,by simp at g2; show l.length ≤ 520; omega,by omega,rfl⟩
def w9 (v : Bool) : List Int := if v then [1] else []
theorem aDu (v : Bool) : Byt (w9 v) ∧ (w9 v).length ≤ 520 := by
 cases v
 ·exact ⟨fun x hx => by simp [w9] at hx,by decide⟩
 ·exact ⟨fun x hx => by simp [w9] at hx; omega,by decide⟩
theorem aFD (N : Nat) : ∀ (m k n : Nat) (acc : List Int),n < 256 ^ k → k < m → k ≤ 10 → acc.length + k ≤ 1000 → Byt acc → n < 4294967296 → ∃ r,dM N m (n : Int) acc = some r ∧ Byt r ∧ r.length ≤ acc.length + k
 | 0,k,n,acc,_,hm,_,_,_,_ => by omega
 | m + 1,k,n,acc,hn,hm,hk,ha,hb,h32 => by
  rw [dM]
  by_cases h : 0 < n
  ·match k,hn with
   | 0,hn => simp at hn; omega
   | k + 1,hn =>
    rw [show decide ((0 : Int) < (n : Int)) = true from decide_eq_true (by omega),if_pos rfl,uH (by simp; omega)]
    simp only [Option.bind_some]
    rw [show shr .u32 (n : Int) 8 = some ((n / 256 : Nat) : Int) from uP n 8 h32,Option.bind_some]
    rw [Nat.pow_succ] at hn
    obtain ⟨r,h1,h2,h3⟩ := aFD N m k (n / 256) (acc ++ [IntKind.u8.wrap (n : Int)]) ((Nat.div_lt_iff_lt_mul (by omega)).2 hn) (by omega) (by omega) (by simp; omega) (hb.append (fun x hx => by simp only [List.mem_singleton] at hx; exact hx ▸ aEf _)) (by omega)
    exact ⟨r,h1,h2,by simp at h3; omega⟩
  ·rw [show decide ((0 : Int) < (n : Int)) = false from decide_eq_false (by omega)]
   exact ⟨acc,rfl,hb,by omega⟩
def aBd (N : Nat) (n : Int) : List Int := (eR N n).getD []
section
variable {N : Nat} (hN : 70000 ≤ N)
include hN
theorem aE6 {n : Nat} (h : n < 4294967296) : eR N (n : Int) = some (aBd N n) ∧ Byt (aBd N n) ∧ (aBd N n).length ≤ 520 := by
 obtain ⟨r,h1,h2,h3⟩ := aFD N N 4 n [] (by simpa using h) (by omega) (by omega) (by simp) (fun x hx => by simp at hx) h
 have : eR N (n : Int) = some r := by simp only [eR,h1,Option.bind_some,sS]
 rw [show aBd N n = r by simp [aBd,this]]
 exact ⟨this,h2,by simp at h3; omega⟩
theorem aCH (v : Bool) : i4 N v = some (w9 v) := by
 obtain ⟨m,hm⟩ := q4 (fun q => dM N q 1 []) hN
 obtain ⟨m',hm'⟩ := q4 (fun q => dM N q 0 []) hN
 cases v with
 | false =>
  simp only [i4,Bool.false_eq_true,if_false,eR,hm']
  rfl
 | true =>
  simp only [i4,if_true,eR,hm]
  rw [dM,show decide ((0 : Int) < 1) = true from rfl,if_pos rfl,uH (by simp)]
  simp only [Option.bind_some]
  rw [show shr .u32 1 8 = some 0 from by decide +kernel,Option.bind_some,dM]
  rfl
def aG1 (N : Nat) (b : List Int) : Int × Int := (gO N b).getD (0,0)
theorem aNs (b : List Int) : gO N b = some (aG1 N b) := by
 have hloop : b.length ≤ 4 → ∀ (m j : Nat) (v : Int),b.length - j < m → j ≤ b.length → ∃ r,eW N b m v (j : Int) = some r := by
  intro hl m
  induction m with
  | zero => intro j v hm _; omega
  | succ m ih =>
   intro j v hm hj
   rw [eW]
   by_cases h : j < b.length
   ·obtain ⟨y,hy⟩ : ∃ y,shl .u32 (IntKind.u32.wrap b[j]) (IntKind.i64.wrap (8 * (j : Int))) = some y := by
     rw [b4 (by omega) (by omega)]; unfold shl; rw [if_neg (by omega)]; exact ⟨_,rfl⟩
    rw [dT h,if_pos rfl,d8 b h]
    simp only [Option.bind_some,hy,i1 (show j ≤ 100000 by omega)]
    exact ih (j + 1) _ (by omega) (by omega)
   ·rw [dF h]; exact ⟨v,rfl⟩
 have hJ : b.length ≤ 4 → ∀ t,∃ r,eK N b t = some r := by
  intro hl t
  cases t with
  | true => exact ⟨_,rfl⟩
  | false =>
   obtain ⟨r,hr⟩ := hloop hl N 0 0 (by omega) (by omega)
   rw [show ((0 : Nat) : Int) = 0 from rfl] at hr
   simp only [eK,Bool.false_eq_true,if_false,hr,Option.bind_some,qG]
   exact ⟨_,rfl⟩
 have : ∃ r,gO N b = some r := by
  unfold gO
  by_cases h : 4 < b.length
  ·rw [show decide ((4 : Int) < ((b.length : Nat) : Int)) = true from decide_eq_true (by omega)]
   exact ⟨_,rfl⟩
  ·rw [show decide ((4 : Int) < ((b.length : Nat) : Int)) = false from decide_eq_false (by omega)]
   simp only [Bool.false_eq_true,if_false]
   by_cases h2 : 0 < b.length
   ·rw [show decide ((0 : Int) < ((b.length : Nat) : Int)) = true from decide_eq_true (by omega),if_pos rfl,b4 (by omega) (by omega),show ((b.length : Nat) : Int) - 1 = ((b.length - 1 : Nat) : Int) by omega,d8 b (by omega)]
    exact hJ (by omega) _
   ·rw [show decide ((0 : Int) < ((b.length : Nat) : Int)) = false from decide_eq_false (by omega)]
    show ∃ r,eK N b false = some r
    exact hJ (by omega) _
 obtain ⟨r,hr⟩ := this
 simp [aG1,hr]
def aID (N : Nat) (eF : List Int) (now : Int) : Int := if (aG1 N eF).2 != 0 then (aG1 N eF).2 else if decide (now < IntKind.i64.wrap (aG1 N eF).1) then 85 else 0
theorem aEl (eF : List Int) (now : Int) : j4 N eF now = some (aID N eF now) := by
 simp only [j4,aNs hN,Option.bind_some,aID]
 split
 ·rfl
 ·split <;> rfl
def nU (b : List Int) : Bool := b.any (· != 0)
theorem wG {b : List Int} (hl : b.length ≤ 60000) : iH N b = some (nU b) := by
 have := aAh (f := eQ N b) (xs := b) (p := fun x => !(x != 0)) (r := true) (fun m j hj => by
   rw [eQ,dT hj,if_pos rfl,d8 b hj]
   simp only [Option.bind_some,i1 (show j ≤ 100000 by omega)]
   cases b[j] != 0 <;> rfl) (fun m j hj => by rw [eQ,dF (by omega)]; rfl) N 0 (by omega) (by omega)
 rw [show ((0 : Nat) : Int) = 0 from rfl,List.drop_zero] at this
 unfold iH nU
 rw [this,List.any_eq_not_all_not]
 cases b.all fun x => !(x != 0) <;> rfl
end
structure WS (st : List (List Int)) : Prop where
 len : st.length ≤ 64
 it : ∀ x ∈ st,Byt x ∧ x.length ≤ 520
theorem WS.push {st : List (List Int)} (h : WS st) (hl : st.length < 64) {x : List Int} (hx : Byt x ∧ x.length ≤ 520) : WS (st ++ [x]) :=
 ⟨by simp; omega,fun y hy => (List.mem_append.1 hy).elim (h.it y) (fun e => by simp only [List.mem_singleton] at e; exact e ▸ hx)⟩
theorem WS.take {st : List (List Int)} (h : WS st) (k : Nat) : WS (st.take k) := ⟨by have := h.len; simp; omega,fun y hy => h.it y (List.mem_of_mem_take hy)⟩
theorem WS.set {st : List (List Int)} (h : WS st) (i : Nat) {x : List Int} (hx : Byt x ∧ x.length ≤ 520) : WS (st.set i x) := ⟨by rw [List.length_set]; exact h.len,fun y hy => (List.mem_or_eq_of_mem_set hy).elim (h.it y) (fun e => e ▸ hx)⟩
def d7 (st : List (List Int)) (k : Nat) : List Int := st.getD (st.length - k) []
theorem pH {st : List (List Int)} (h : WS st) {k : Nat} (h1 : 1 ≤ k) (hk : k ≤ st.length) : Byt (d7 st k) ∧ (d7 st k).length ≤ 520 ∧ bS st (IntKind.i64.wrap (((st.length : Nat) : Int) - (k : Int))) = some (d7 st k) := by
 have hl := h.len
 have hlt : st.length - k < st.length := by omega
 have e : d7 st k = st[st.length - k] := by simp [d7,hlt]
 rw [b4 (by omega) (by omega),show ((st.length : Nat) : Int) - (k : Int) = ((st.length - k : Nat) : Int) by omega,d8 st hlt,e]
 exact ⟨(h.it _ (List.getElem_mem hlt)).1,(h.it _ (List.getElem_mem hlt)).2,rfl⟩
theorem aEB {N : Nat} {m : List Int} {h a : Int} {st : List (List Int)} {br : List aG} {c : Int} (hs : st.length ≤ 64) {k : Nat} (hk : k ≤ st.length) : dE N m h a st br c (k : Int) = some (m,h,a,st.take (st.length - k),br,c) := by
 unfold dE
 rw [b4 (by omega) (by omega),show ((st.length : Nat) : Int) - (k : Int) = ((st.length - k : Nat) : Int) by omega]
 have : sub st 0 ((st.length - k : Nat) : Int) = some (st.take (st.length - k)) := by
  unfold sub; rw [if_pos ⟨by omega,by omega,by omega⟩]; simp
 rw [this]; rfl
theorem vP {l m : List (List Int)} (h : l.length + m.length ≤ 1000000) : eZ 24 l m = some (l ++ m) := by
 have := kH
 exact u6 (by omega)
theorem aBf {N : Nat} {m : List Int} {h a : Int} {st : List (List Int)} {br : List aG} {c : Int} (hs : st.length ≤ 64) {k : Nat} (hk : k ≤ st.length) (x : List Int) : cH N m h a st br c (k : Int) x = some (m,h,a,st.take (st.length - k) ++ [x],br,c) := by
 unfold cH
 rw [aEB hs hk,Option.bind_some,vP (by simp; omega)]; rfl
def xI (st : List (List Int)) (x : List Int) : Int × List (List Int) := if 64 ≤ st.length then (4,st) else (0,st ++ [x])
theorem aEN {N : Nat} {m : List Int} {h a : Int} {st : List (List Int)} {br : List aG} {c : Int} (x : List Int) : fM N m h a st br c x = some ((xI st x).1,m,h,a,(xI st x).2,br,c) := by
 unfold fM xI
 by_cases hl : 64 ≤ st.length
 ·rw [show decide ((64 : Int) ≤ ((st.length : Nat) : Int)) = true from decide_eq_true (by omega),if_pos rfl,if_pos hl]
 ·rw [show decide ((64 : Int) ≤ ((st.length : Nat) : Int)) = false from decide_eq_false (by omega),if_neg hl,vP (by simp; omega)]; rfl
def qD (N : Nat) (m key sig : List Int) : Int := (cE N m 0 0 [] [] 0 key sig).getD 0
theorem aMZ {N : Nat} (hN : 70000 ≤ N) {m : List Int} (hm : m.length = 32) (hb : Byt m) (h a : Int) (st : List (List Int)) (br : List aG) (c : Int) (key sig : List Int) : cE N m h a st br c key sig = some (qD N m key sig) := by
 obtain ⟨e,he⟩ := aJH hN hm hb 0 0 [] [] 0 key sig
 have h1 : cE N m h a st br c key sig = cE N m 0 0 [] [] 0 key sig := rfl
 rw [h1,show qD N m key sig = e by simp [qD,he],he]
def mK (N : Nat) (m : List Int) : List (List Int) → List (List Int) → Int → Int × Int
 | k :: ks,s :: ss,c => if qD N m k s != 0 then (qD N m k s,0) else mK N m ks ss (if decide (0 < (s.length : Int)) then c + 1 else c)
 | _,_,c => (0,c)
def qT (N : Nat) (m : List Int) (st : List (List Int)) (dS : Int) (n : Nat) : Int × List (List Int) :=
 if (mK N m (st.drop (st.length - n)) ((st.take (st.length - n)).drop (st.length - 2 * n)) 0).1 = 0 then (0,st.take (st.length - 2 * n) ++ [w9 (decide (dS ≤ (mK N m (st.drop (st.length - n)) ((st.take (st.length - n)).drop (st.length - 2 * n)) 0).2))])
 else ((mK N m (st.drop (st.length - n)) ((st.take (st.length - n)).drop (st.length - 2 * n)) 0).1,st)
section
variable {N : Nat} (hN : 70000 ≤ N) {m : List Int} (hm : m.length = 32) (hb : Byt m)
include hN hm hb
theorem aDi (h a : Int) (st : List (List Int)) (br : List aG) (c dS : Int) (n : Nat) (hn : n ≤ 100) (ks ss : List (List Int)) (hk : ks.length = n) (hs : ss.length = n) : ∀ (f j : Nat) (cnt : Int),n - j < f → j ≤ n → 0 ≤ cnt → cnt ≤ j →
  cK N m h a st br c dS (n : Int) ks ss f cnt (j : Int) = some (if (mK N m (ks.drop j) (ss.drop j) cnt).1 = 0 then .brk (mK N m (ks.drop j) (ss.drop j) cnt).2 else .ret ((mK N m (ks.drop j) (ss.drop j) cnt).1,m,h,a,st,br,c))
 | 0,j,cnt,hf,_,_,_ => by omega
 | f + 1,j,cnt,hf,hj,h0,h1 => by
  rw [cK]
  by_cases hjn : j < n
  ·rw [dT hjn,if_pos rfl,d8 ks (by omega),d8 ss (by omega)]
   simp only [Option.bind_some,aMZ hN hm hb]
   rw [List.drop_eq_getElem_cons (show j < ks.length by omega),List.drop_eq_getElem_cons (show j < ss.length by omega),mK]
   cases hv : qD N m ks[j] ss[j] != 0 with
   | true =>
    have hv' : qD N m ks[j] ss[j] ≠ 0 := by simpa using hv
    simp only [if_true,if_neg hv']
   | false =>
    simp only [Bool.false_eq_true,if_false,gB,i1 (show j ≤ 100000 by omega)]
    cases hl : decide (0 < ((ss[j].length : Nat) : Int)) with
    | true =>
     simp only [if_true]
     rw [b4 (a := cnt + 1) (by omega) (by omega)]
     exact aDi h a st br c dS n hn ks ss hk hs f (j + 1) _ (by omega) (by omega) (by omega) (by omega)
    | false =>
     simp only [Bool.false_eq_true,if_false]
     exact aDi h a st br c dS n hn ks ss hk hs f (j + 1) _ (by omega) (by omega) (by omega) (by omega)
  ·rw [dF hjn,List.drop_eq_nil_of_le (by omega)]
   rfl
theorem aFo {h a : Int} {st : List (List Int)} (hs : WS st) {br : List aG} {c dS : Int} {n : Nat} (h1 : 1 ≤ n) (hn : 2 * n ≤ st.length) : fX N m h a st br c dS (n : Int) = some ((qT N m st dS n).1,m,h,a,(qT N m st dS n).2,br,c) := by
 have hl := hs.len
 have e1 : qY st (IntKind.i64.wrap (((st.length : Nat) : Int) - (n : Int))) ((st.length : Nat) : Int) = some (st.drop (st.length - n)) := by
  rw [b4 (by omega) (by omega),show ((st.length : Nat) : Int) - (n : Int) = ((st.length - n : Nat) : Int) by omega]
  unfold qY
  rw [if_pos ⟨by omega,by omega,by omega⟩,Int.toNat_natCast,Int.toNat_natCast,List.take_of_length_le (Nat.le_refl _)]
 have e2 : qY st (IntKind.i64.wrap (((st.length : Nat) : Int) - (IntKind.i64.wrap (2 * (n : Int))))) (IntKind.i64.wrap (((st.length : Nat) : Int) - (n : Int))) = some ((st.take (st.length - n)).drop (st.length - 2 * n)) := by
  rw [b4 (a := 2 * (n : Int)) (by omega) (by omega),b4 (a := ((st.length : Nat) : Int) - (n : Int)) (by omega) (by omega),b4 (by omega) (by omega),show ((st.length : Nat) : Int) - (n : Int) = ((st.length - n : Nat) : Int) by omega,show ((st.length : Nat) : Int) - 2 * (n : Int) = ((st.length - 2 * n : Nat) : Int) by omega]
  unfold qY
  rw [if_pos ⟨by omega,by omega,by omega⟩,Int.toNat_natCast,Int.toNat_natCast]
 have lp := aDi hN hm hb h a st br c dS n (by omega) (st.drop (st.length - n)) ((st.take (st.length - n)).drop (st.length - 2 * n)) (by simp; omega) (by simp; omega) N 0 0 (by omega) (by omega) (by omega) (by omega)
 rw [List.drop_zero,List.drop_zero,show ((0 : Nat) : Int) = 0 from rfl] at lp
 simp only [fX,e1,e2,lp,Option.bind_some]
 unfold qT
 by_cases hz : (mK N m (st.drop (st.length - n)) ((st.take (st.length - n)).drop (st.length - 2 * n)) 0).1 = 0
 ·rw [if_pos hz,if_pos hz]
  simp only [jO,aCH hN,Option.bind_some]
  rw [b4 (a := 2 * (n : Int)) (by omega) (by omega),show 2 * (n : Int) = ((2 * n : Nat) : Int) by omega,aBf hl hn]
  rfl
 ·rw [if_neg hz,if_neg hz]
end
def tF (b : List Int) : Nat × Nat × Int := if b.length ≠ 64 then (0,0,8) else if i3 (b.take 32) < gQ ∧ i3 (b.drop 32) < gQ then (i3 (b.take 32),i3 (b.drop 32),0) else (0,0,5)
def aER (N : Nat) (m key sig : List Int) : Int :=
 if key.length ≠ 32 then 60 else if okN (i3 key) = false then 60 else if sig.length = 0 then 0 else
 if (tF sig).2.2 ≠ 0 then 61 else if aDt N (i3 key) m (tF sig).1 (tF sig).2.1 = true then 0 else 61
theorem aH4 (b : List Int) : (tF b).1 < 115792089237316195423570985008687907853269984665640564039457584007913129639936 ∧ (tF b).2.1 < 115792089237316195423570985008687907853269984665640564039457584007913129639936 := by
 unfold tF
 split
 ·exact ⟨by decide +kernel,by decide +kernel⟩
 ·split
  ·exact ⟨oH _,oH _⟩
  ·exact ⟨by decide +kernel,by decide +kernel⟩
theorem aET : List.replicate 4 (0 : Int) = U 0 := by decide +kernel
section
variable {N : Nat} (hN : 70000 ≤ N)
include hN
theorem aAH {h : List Int} (hl : h.length = 32) (hb : Byt h) : dY N h = some (U (i3 h)) := by
 have := aC2 hN (i3 h)
 rwa [aAw hl hb] at this
theorem aKc {b : List Int} (hb : Byt b) : oI N b = some (U (tF b).1,U (tF b).2.1,(tF b).2.2) := by
 unfold oI tF
 by_cases hl : b.length = 64
 ·rw [show (((b.length : Nat) : Int) != 64) = false by rw [hl]; rfl,if_neg (show ¬ b.length ≠ 64 from fun h => h hl)]
  have e1 : sub b 0 32 = some (b.take 32) := by unfold sub; rw [if_pos ⟨by omega,by omega,by omega⟩]; simp
  have e2 : sub b 32 (b.length : Int) = some (b.drop 32) := by
   unfold sub; rw [if_pos ⟨by omega,by omega,by omega⟩,Int.toNat_natCast,List.take_of_length_le (Nat.le_refl _)]; rfl
  have l1 : (b.take 32).length = 32 := by simp; omega
  have l2 : (b.drop 32).length = 32 := by simp; omega
  have a1 : oS 32 (b.take 32) = some (b.take 32) := by unfold oS; rw [if_pos (by omega),List.take_of_length_le (by omega)]
  have a2 : oS 32 (b.drop 32) = some (b.drop 32) := by unfold oS; rw [if_pos (by omega),List.take_of_length_le (by omega)]
  have b1 : Byt (b.take 32) := fun x hx => hb x (List.mem_of_mem_take hx)
  have b2 : Byt (b.drop 32) := fun x hx => hb x (List.mem_of_mem_drop hx)
  have n1 := oH (b.take 32)
  have n2 := oH (b.drop 32)
  have f1 := aAH hN l1 b1
  have f2 := aAH hN l2 b2
  generalize i3 (b.take 32) = e at *
  generalize i3 (b.drop 32) = s at *
  rw [if_neg (show ¬ (false = true) by decide),e1,Option.bind_some,a1,Option.bind_some,f1,Option.bind_some,e2,Option.bind_some,a2,Option.bind_some,f2,Option.bind_some,bA,Option.bind_some,bA,Option.bind_some,sJ hN n1,Option.bind_some,sJ hN n2,Option.bind_some,
   show decide (e < 57896044618658097711785492504343953926634992332820282019728792003956564801911) = decide (e < gQ) from rfl,show decide (s < 57896044618658097711785492504343953926634992332820282019728792003956564801911) = decide (s < gQ) from rfl]
  by_cases h1 : e < gQ
  ·by_cases h2 : s < gQ
   ·rw [decide_eq_true h1,decide_eq_true h2,if_pos (show e < gQ ∧ s < gQ from ⟨h1,h2⟩)]; rfl
   ·rw [decide_eq_true h1,decide_eq_false h2,if_neg (show ¬ (e < gQ ∧ s < gQ) from fun h => h2 h.2),← aET]; rfl
  ·rw [decide_eq_false h1,if_neg (show ¬ (e < gQ ∧ s < gQ) from fun h => h1 h.1),← aET]; rfl
 ·rw [show (((b.length : Nat) : Int) != 64) = true by simp; omega,if_pos rfl,if_pos (show b.length ≠ 64 from hl),← aET]
theorem aNQ {m : List Int} (hm : m.length = 32) (hmb : Byt m) {key sig : List Int} (hk : Byt key) (hs : Byt sig) : qD N m key sig = aER N m key sig := by
 have key0 : cE N m 0 0 [] [] 0 key sig = some (aER N m key sig) := by
  have hJ : ∀ t,eO N m 0 0 [] [] 0 t = some (if t = true then 61 else 0) := fun t => by cases t <;> rfl
  unfold cE aER
  by_cases hl : key.length = 32
  ·have a1 : oS 32 key = some key := by unfold oS; rw [if_pos (by omega),List.take_of_length_le (by omega)]
   have hd := aH4 sig
   have f1 := aAH hN hl hk
   have n1 := oH key
   have hdec := aKc hN hs
   rw [show (((key.length : Nat) : Int) != 32) = false by rw [hl]; rfl,if_neg (show ¬ key.length ≠ 32 from fun h => h hl)]
   generalize tF sig = D at *
   obtain ⟨e,s,er⟩ := D
   generalize i3 key = p at *
   have hval := aIg hN n1
   have hver := aKA hN n1 hd.1 hd.2 hm hmb
   dsimp only at hd hdec hver
   rw [if_neg (show ¬ (false = true) by decide),a1,Option.bind_some,f1,Option.bind_some,bA,Option.bind_some,hval,Option.bind_some]
   cases hv : okN p with
   | false => rfl
   | true =>
    simp only [Bool.not_true,Bool.false_eq_true,if_false,Bool.true_eq_false]
    by_cases h0 : sig.length = 0
    ·rw [if_pos h0,show (((sig.length : Nat) : Int) == 0) = true by rw [h0]; rfl]
     rfl
    ·rw [if_neg h0,show (((sig.length : Nat) : Int) == 0) = false by simp; intro h; exact h0 (by rw [h]; rfl),hdec]
     simp only [Bool.false_eq_true,if_false,Option.bind_some]
     by_cases h1 : er = 0
     ·rw [if_neg (show ¬ er ≠ 0 from fun h => h h1),show (er != 0) = false by simpa using h1]
      simp only [Bool.false_eq_true,if_false,cI hm,Option.bind_some,hver,hJ]
      cases aDt N p m e s <;> rfl
     ·rw [if_pos h1,show (er != 0) = true by simpa using h1]
      rfl
  ·rw [show (((key.length : Nat) : Int) != 32) = true by simp; omega,if_pos rfl,if_pos (show key.length ≠ 32 from hl)]
 unfold qD
 rw [key0]
 rfl
end
section
variable {N : Nat} (hN : 70000 ≤ N)
include hN
theorem aBc {a : Nat} (ha : a < 115792089237316195423570985008687907853269984665640564039457584007913129639936) : lW N (U a) = some (decide (a < gQ)) := by
 unfold lW
 rw [bA,Option.bind_some,aCF N hN,Option.bind_some,aHr,uE hN ha (show (57896044618658097711785492504343953926634992332820282019728792003956564801911 : Nat) < 115792089237316195423570985008687907853269984665640564039457584007913129639936 by decide),Option.bind_some,aGi]
theorem aJQ {p : Nat} (hp : p < 115792089237316195423570985008687907853269984665640564039457584007913129639936) : rC N (U p) = some (aHd p) := by
 have he := aHt hN hp xD
 unfold rC aHd
 rw [bA,Option.bind_some,aCQ hp,Option.bind_some]
 by_cases h0 : p = 0
 ·rw [decide_eq_true h0,Bool.not_true,Bool.false_and,if_neg (show ¬ (false = true) by decide)]; rfl
 ·rw [decide_eq_false h0,if_pos (show (!false) = true from rfl),aCI N hN,Option.bind_some,aHr,uE hN hp (show (115792089237316195423570985008687907853269984665640564039457584007913129603823 : Nat) < 115792089237316195423570985008687907853269984665640564039457584007913129639936 by decide),Option.bind_some,aGi]
  by_cases h1 : p < gP
  ·rw [if_pos (decide_eq_true (show p < 115792089237316195423570985008687907853269984665640564039457584007913129603823 from h1)),aCF N hN,Option.bind_some,show pV N (U p) (U 57896044618658097711785492504343953926634992332820282019728792003956564801911) = _ from he,Option.bind_some,show aAu N = some (U 1) from rfl,Option.bind_some,bA,Option.bind_some,bA,Option.bind_some,vW (aCK _) (by decide +kernel),decide_eq_true h1,Bool.not_false,Bool.true_and,Bool.true_and]
   rfl
  ·rw [if_neg (show ¬ decide (p < 115792089237316195423570985008687907853269984665640564039457584007913129603823) = true from fun h => h1 (of_decide_eq_true h)),decide_eq_false h1,Bool.false_and,Bool.and_false]
   rfl
theorem aGU {p : Nat} (hp : p < 115792089237316195423570985008687907853269984665640564039457584007913129639936) : qU N (U p) = some (okN p) := by
 unfold qU okN
 rw [bA,Option.bind_some,show eP N 1 = some (U 1) from rfl,Option.bind_some,bA,Option.bind_some,vW hp (by decide +kernel)]
 by_cases h1 : p = 1
 ·rw [decide_eq_true h1,Bool.not_true,Bool.false_and,if_neg (show ¬ (false = true) by decide)]; rfl
 ·rw [decide_eq_false h1,if_pos (show (!false) = true from rfl),aJQ hN hp,Option.bind_some,Bool.not_false,Bool.true_and]
  rfl
theorem aMW {a b : Nat} (ha : a < 115792089237316195423570985008687907853269984665640564039457584007913129639936) (hb : b < 115792089237316195423570985008687907853269984665640564039457584007913129639936) : xW N (U a) (U b) = some (U (a * b % gP)) := by
 unfold xW
 rw [bA,Option.bind_some,bA,Option.bind_some,aCI N hN,Option.bind_some,aCA hN (show (115792089237316195423570985008687907853269984665640564039457584007913129603823 : Nat) < 115792089237316195423570985008687907853269984665640564039457584007913129639936 by decide) (by decide) ha hb,Option.bind_some,bA,Option.bind_some]
theorem aJp {p e s : Nat} (hp : p < 115792089237316195423570985008687907853269984665640564039457584007913129639936) (he4 : e < 115792089237316195423570985008687907853269984665640564039457584007913129639936) (hs4 : s < 115792089237316195423570985008687907853269984665640564039457584007913129639936) {m : List Int} (hm : m.length = 32) (hb : Byt m) :
  r4 N (U p) m (U e) (U s) = some (aDt N p m e s) := by
 have hJt : jE N (U p) m (U e) (U s) true = some false := rfl
 unfold r4 aDt
 rw [bA,Option.bind_some,aGU hN hp,Option.bind_some]
 cases okN p with
 | false =>
  rw [if_pos (show (!false) = true from rfl),hJt]
  simp
 | true =>
  rw [if_neg (show ¬ (!true) = true by decide),bA,Option.bind_some,aBc hN he4,Option.bind_some]
  by_cases h1 : e < gQ
  ·rw [decide_eq_true h1,if_neg (show ¬ (!true) = true by decide),bA,Option.bind_some,aBc hN hs4,Option.bind_some]
   by_cases h2 : s < gQ
   ·have hd : (gQ + 115792089237316195423570985008687907853269984665640564039457584007913129639936 - e) % 115792089237316195423570985008687907853269984665640564039457584007913129639936 = gQ - e := by
     have := xD
     revert h1 this
     generalize gQ = Q
     intro h1 this
     omega
    have hd4 : gQ - e < 115792089237316195423570985008687907853269984665640564039457584007913129639936 := Nat.lt_of_le_of_lt (Nat.sub_le _ _) xD
    have hch := aGN hN (4 ^ s % gP * (p ^ (gQ - e) % gP) % gP) p hm hb
    have hcl := aIp N (4 ^ s % gP * (p ^ (gQ - e) % gP) % gP) p m
    rw [decide_eq_true h2]
    unfold jE
    rw [if_neg (show ¬ (!true) = true by decide),aCF N hN,Option.bind_some,bA,Option.bind_some,aEj hN (show gQ < _ from xD) he4,Option.bind_some,hd]
    dsimp only
    rw [bA,Option.bind_some,bA,Option.bind_some,aKw hN hs4,Option.bind_some,bA,Option.bind_some,aHt hN hp hd4,Option.bind_some,aMW hN (aCK _) (aCK _),Option.bind_some,bA,Option.bind_some,cI hm,Option.bind_some,hch,Option.bind_some,bA,Option.bind_some,vW he4 (Nat.lt_trans hcl xD)]
    rfl
   ·rw [decide_eq_false h2]
    exact hJt
  ·rw [decide_eq_false h1]
   exact hJt
theorem zP {h : List Int} (hl : h.length = 32) (hb : Byt h) : fP N h = some (U (i3 h)) := by
 have := aBY hN (i3 h)
 rwa [aAw hl hb] at this
theorem aJz {b : List Int} (hb : Byt b) : rY N b = some (U (tF b).1,U (tF b).2.1,(tF b).2.2) := by
 unfold rY tF
 by_cases hl : b.length = 64
 ·rw [show (((b.length : Nat) : Int) != 64) = false by rw [hl]; rfl,if_neg (show ¬ b.length ≠ 64 from fun h => h hl)]
  have e1 : sub b 0 32 = some (b.take 32) := by unfold sub; rw [if_pos ⟨by omega,by omega,by omega⟩]; simp
  have e2 : sub b 32 (b.length : Int) = some (b.drop 32) := by
   unfold sub; rw [if_pos ⟨by omega,by omega,by omega⟩,Int.toNat_natCast,List.take_of_length_le (Nat.le_refl _)]; rfl
  have l1 : (b.take 32).length = 32 := by simp; omega
  have l2 : (b.drop 32).length = 32 := by simp; omega
  have c1 : j9 (List.replicate 32 0) (b.take 32) = b.take 32 := aEJ (by rw [List.length_replicate,l1])
  have c2 : j9 (List.replicate 32 0) (b.drop 32) = b.drop 32 := aEJ (by rw [List.length_replicate,l2])
  have b1 : Byt (b.take 32) := fun x hx => hb x (List.mem_of_mem_take hx)
  have b2 : Byt (b.drop 32) := fun x hx => hb x (List.mem_of_mem_drop hx)
  have n1 := oH (b.take 32)
  have n2 := oH (b.drop 32)
  have f1 := zP hN l1 b1
  have f2 := zP hN l2 b2
  have a1 := cI l1
  have a2 := cI l2
  generalize i3 (b.take 32) = e at *
  generalize i3 (b.drop 32) = s at *
  rw [if_neg (show ¬ (false = true) by decide),e1,Option.bind_some,e2,Option.bind_some,c1,c2,a1,Option.bind_some,f1,Option.bind_some,a2,Option.bind_some,f2,Option.bind_some,bA,Option.bind_some,bA,Option.bind_some,aBc hN n1,Option.bind_some,aBc hN n2,Option.bind_some]
  by_cases h1 : e < gQ
  ·by_cases h2 : s < gQ
   ·rw [decide_eq_true h1,decide_eq_true h2,if_pos (show e < gQ ∧ s < gQ from ⟨h1,h2⟩)]; rfl
   ·rw [decide_eq_true h1,decide_eq_false h2,if_neg (show ¬ (e < gQ ∧ s < gQ) from fun h => h2 h.2),← aET]; rfl
  ·rw [decide_eq_false h1,if_neg (show ¬ (e < gQ ∧ s < gQ) from fun h => h1 h.1),← aET]; rfl
 ·rw [show (((b.length : Nat) : Int) != 64) = true by simp; omega,if_pos rfl,if_pos (show b.length ≠ 64 from hl),← aET]
theorem aJu {m : List Int} (hm : m.length = 32) (hmb : Byt m) {key sig : List Int} (hk : Byt key) (hs : Byt sig) : mN N sig key m = some (decide (0 < sig.length) && decide (aER N m key sig = 0),aER N m key sig) := by
 unfold mN aER
 by_cases hl : key.length = 32
 ·have c1 : j9 (List.replicate 32 0) key = key := aEJ (by rw [List.length_replicate,hl])
  have hd := aH4 sig
  have f1 := zP hN hl hk
  have n1 := oH key
  have hdec := aJz hN hs
  have a1 := cI hl
  rw [show (((key.length : Nat) : Int) != 32) = false by rw [hl]; rfl,if_neg (show ¬ key.length ≠ 32 from fun h => h hl)]
  generalize tF sig = D at *
  obtain ⟨e,s,er⟩ := D
  generalize i3 key = p at *
  have hval := aGU hN n1
  have hver := aJp hN n1 hd.1 hd.2 hm hmb
  dsimp only at hd hdec hver
  rw [if_neg (show ¬ (false = true) by decide),c1,a1,Option.bind_some,f1,Option.bind_some,bA,Option.bind_some,hval,Option.bind_some]
  cases hv : okN p with
  | false => simp
  | true =>
   rw [if_neg (show ¬ (!true) = true by decide),if_neg (show ¬ (true = false) by decide)]
   by_cases h0 : sig.length = 0
   ·rw [if_pos h0,show (((sig.length : Nat) : Int) == 0) = true by rw [h0]; rfl]
    simp [h0]
   ·rw [if_neg h0,show (((sig.length : Nat) : Int) == 0) = false by simp; intro h; exact h0 (by rw [h]; rfl),hdec,if_neg (show ¬ (false = true) by decide),Option.bind_some]
    dsimp only
    by_cases h1 : er = 0
    ·rw [if_neg (show ¬ er ≠ 0 from fun h => h h1),show (er != 0) = false by simpa using h1,if_neg (show ¬ (false = true) by decide),cI hm,Option.bind_some,hver,Option.bind_some]
     rw [decide_eq_true (show 0 < sig.length by omega)]
     cases aDt N p m e s <;> rfl
    ·rw [if_pos h1,show (er != 0) = true by simpa using h1,if_pos rfl]
     simp [nG]
 ·rw [show (((key.length : Nat) : Int) != 32) = true by simp; omega,if_pos rfl,if_pos (show key.length ≠ 32 from hl)]
  simp
end
def eqE (a b : List Int) : Bool := (nS a).toList == (nS b).toList
def rR (N : Nat) (m : List Int) (h a : Int) (o : aM) (st : List (List Int)) : Int × List (List Int) :=
 if o.Code = 1 then xI st o.Data
 else if o.Code = 2 then xI st (d7 st 1)
 else if o.Code = 3 then (0,st.take (st.length - 1))
 else if o.Code = 4 then (0,(st.set (st.length - 1) (d7 st 2)).set (st.length - 2) (d7 st 1))
 else if o.Code = 5 then (0,st.take (st.length - 2) ++ [w9 (eqE (d7 st 1) (d7 st 2))])
 else if o.Code = 6 then (0,st.take (st.length - 1) ++ [w9 (!nU (d7 st 1))])
 else if o.Code = 7 then (if nU (d7 st 1) then (0,st.take (st.length - 1)) else (84,st))
 else if o.Code = 8 then (0,st.take (st.length - 1) ++ [sha256 N (d7 st 1)])
 else if o.Code = 9 then xI st (aBd N ((d7 st 1).length : Nat))
 else if o.Code = 10 then qT N m st 1 1
 else if o.Code = 11 then qT N m st o.M o.N.toNat
 else if o.Code = 12 then (aID N (d7 st 1) h,st)
 else if o.Code = 13 then (aID N (d7 st 1) a,st)
 else if o.Code = 17 then (84,st)
 else (0,st)
def kB (o : aM) : Int :=
 if o.Code = 1 ∨ o.Code = 15 ∨ o.Code = 16 ∨ o.Code = 17 then 0 else if o.Code = 4 ∨ o.Code = 5 ∨ o.Code = 10 then 2 else if o.Code = 11 then 2 * o.N else 1
def k6 (o : aM) : Int := if o.Code = 8 then 6 else if o.Code = 10 then 21 else if o.Code = 11 then 1 + 20 * o.N else 1
theorem hH {x y : Int} (h : x ≠ y) : (x == y) = false := by simpa using h
theorem aHj (N : Nat) {o : aM} (ho : vV o) : r9 N o.Code o.Data o.M o.N = some (k6 o) := by
 unfold r9 k6
 by_cases h8 : o.Code = 8
 ·rw [h8]; rfl
 ·rw [hH h8,if_neg h8]
  by_cases h10 : o.Code = 10
  ·rw [h10]; rfl
  ·rw [hH h10,if_neg h10]
   by_cases h11 : o.Code = 11
   ·have := ho.multi h11
    rw [if_pos h11,h11,b4 (a := 20 * o.N) (by omega) (by omega),b4 (by omega) (by omega)]; rfl
   ·rw [hH h11,if_neg h11]; rfl
theorem aFs {o : aM} (ho : vV o) : 1 ≤ k6 o ∧ k6 o ≤ 301 := by
 unfold k6
 by_cases h11 : o.Code = 11
 ·have := ho.multi h11
  rw [if_neg (by omega),if_neg (by omega),if_pos h11]; omega
 ·rw [if_neg h11]
  split
  ·omega
  ·split <;> omega
theorem aK7 (N : Nat) {o : aM} (ho : vV o) : sG N o.Code o.Data o.M o.N = some (kB o) := by
 unfold sG kB jK lH
 by_cases h11 : o.Code = 11
 ·have := ho.multi h11
  simp only [h11]
  rw [b4 (a := 2 * o.N) (by omega) (by omega)]
  simp
 ·by_cases h1 : o.Code = 1
  ·simp [h1]
  ·by_cases h15 : o.Code = 15
   ·simp [h15]
   ·by_cases h16 : o.Code = 16
    ·simp [h16]
    ·by_cases h17 : o.Code = 17
     ·simp [h17]
     ·by_cases h4 : o.Code = 4
      ·simp [h4]
      ·by_cases h5 : o.Code = 5
       ·simp [h5]
       ·by_cases h10 : o.Code = 10
        ·simp [h10]
        ·simp [h1,h15,h16,h17,h4,h5,h10,h11]
section
variable {N : Nat} (hN : 70000 ≤ N) {m : List Int} (hm : m.length = 32) (hb : Byt m)
include hN hm hb
theorem aDm {st : List (List Int)} (hs : WS st) {x : List Int} (hx : Byt x ∧ x.length ≤ 520) : WS (xI st x).2 := by
 unfold xI
 by_cases h : 64 ≤ st.length
 ·rw [if_pos h]; exact hs
 ·rw [if_neg h]; exact hs.push (by omega) hx
theorem aDR {st : List (List Int)} (hs : WS st) (dS : Int) {n : Nat} (h1 : 1 ≤ n) (hn : 2 * n ≤ st.length) : WS (qT N m st dS n).2 := by
 unfold qT
 split
 ·have := hs.len
  exact (hs.take _).push (by simp; omega) (aDu _)
 ·exact hs
theorem aKZ {h a : Int} {o : aM} (ho : vV o) {st : List (List Int)} (hs : WS st) (hn : kB o ≤ (st.length : Int)) : WS (rR N m h a o st).2 := by
 have hl := hs.len
 have rep : ∀ (k : Nat) (x : List Int),1 ≤ k → k ≤ st.length → (Byt x ∧ x.length ≤ 520) → WS (st.take (st.length - k) ++ [x]) := fun k x h1 hk hx => (hs.take _).push (by simp; omega) hx
 unfold rR
 unfold kB at hn
 by_cases h1 : o.Code = 1
 ·rw [if_pos h1]
  exact aDm hN hm hb hs ⟨ho.data.1,by have := ho.data.2; omega⟩
 rw [if_neg h1]
 by_cases h2 : o.Code = 2
 ·simp [h2] at hn
  have := pH hs (k := 1) (by omega) (by omega)
  rw [if_pos h2]
  exact aDm hN hm hb hs ⟨this.1,this.2.1⟩
 rw [if_neg h2]
 by_cases h3 : o.Code = 3
 ·rw [if_pos h3]; exact hs.take _
 rw [if_neg h3]
 by_cases h4 : o.Code = 4
 ·simp [h4] at hn
  have q1 := pH hs (k := 1) (by omega) (by omega)
  have q2 := pH hs (k := 2) (by omega) (by omega)
  rw [if_pos h4]
  exact (hs.set _ ⟨q2.1,q2.2.1⟩).set _ ⟨q1.1,q1.2.1⟩
 rw [if_neg h4]
 by_cases h5 : o.Code = 5
 ·simp [h5] at hn
  rw [if_pos h5]
  exact rep 2 _ (by omega) (by omega) (aDu _)
 rw [if_neg h5]
 by_cases h6 : o.Code = 6
 ·simp [h6] at hn
  rw [if_pos h6]
  exact rep 1 _ (by omega) (by omega) (aDu _)
 rw [if_neg h6]
 by_cases h7 : o.Code = 7
 ·rw [if_pos h7]
  cases nU (d7 st 1)
  ·exact hs
  ·exact hs.take _
 rw [if_neg h7]
 by_cases h8 : o.Code = 8
 ·simp [h8] at hn
  rw [if_pos h8]
  exact rep 1 _ (by omega) (by omega) ⟨tA _ _,by rw [nY]; omega⟩
 rw [if_neg h8]
 by_cases h9 : o.Code = 9
 ·simp [h9] at hn
  have := pH hs (k := 1) (by omega) (by omega)
  rw [if_pos h9]
  exact aDm hN hm hb hs (aE6 hN (n := (d7 st 1).length) (by omega)).2
 rw [if_neg h9]
 by_cases h10 : o.Code = 10
 ·simp [h10] at hn
  rw [if_pos h10]
  exact aDR hN hm hb hs _ (by omega) (by omega)
 rw [if_neg h10]
 by_cases h11 : o.Code = 11
 ·have := ho.multi h11
  simp [h11] at hn
  rw [if_pos h11]
  exact aDR hN hm hb hs _ (by omega) (by omega)
 rw [if_neg h11]
 by_cases h12 : o.Code = 12
 ·rw [if_pos h12]; exact hs
 rw [if_neg h12]
 by_cases h13 : o.Code = 13
 ·rw [if_pos h13]; exact hs
 rw [if_neg h13]
 by_cases h17 : o.Code = 17
 ·rw [if_pos h17]; exact hs
 rw [if_neg h17]; exact hs
theorem aKs {h a : Int} {o : aM} (ho : vV o) {st : List (List Int)} (hs : WS st) (hn : kB o ≤ (st.length : Int)) (br : List aG) (c : Int) :
  jL N m h a st br c o.Code o.Data o.M o.N = some ((rR N m h a o st).1,m,h,a,(rR N m h a o st).2,br,c) := by
 have hl := hs.len
 have top : 1 ≤ st.length → bZ N m h a st br c = some (d7 st 1) := fun h1 => by
  unfold bZ
  rw [show ((st.length : Nat) : Int) - 1 = ((st.length : Nat) : Int) - ((1 : Nat) : Int) from rfl,(pH hs (k := 1) (by omega) h1).2.2]; rfl
 have len1 : 1 ≤ st.length → (d7 st 1).length ≤ 520 ∧ Byt (d7 st 1) := fun h1 => ⟨(pH hs (k := 1) (by omega) h1).2.1,(pH hs (k := 1) (by omega) h1).1⟩
 have rep1 : ∀ x,1 ≤ st.length → cH N m h a st br c 1 x = some (m,h,a,st.take (st.length - 1) ++ [x],br,c) := fun x h1 => aBf (k := 1) hl h1 x
 have rep2 : ∀ x,2 ≤ st.length → cH N m h a st br c 2 x = some (m,h,a,st.take (st.length - 2) ++ [x],br,c) := fun x h1 => aBf (k := 2) hl h1 x
 have drp : 1 ≤ st.length → dE N m h a st br c 1 = some (m,h,a,st.take (st.length - 1),br,c) := fun h1 => aEB (k := 1) hl h1
 have i2 : 2 ≤ st.length → bS st (IntKind.i64.wrap (((st.length : Nat) : Int) - 2)) = some (d7 st 2) := fun h2 => (pH hs (k := 2) (by omega) h2).2.2
 have i1' : 1 ≤ st.length → bS st (IntKind.i64.wrap (((st.length : Nat) : Int) - 1)) = some (d7 st 1) := fun h2 => (pH hs (k := 1) (by omega) h2).2.2
 unfold rR jL
 unfold kB at hn
 by_cases h1 : o.Code = 1
 ·rw [if_pos h1,h1,aEN]; rfl
 rw [if_neg h1,hH h1]
 by_cases h2 : o.Code = 2
 ·simp [h2] at hn
  rw [if_pos h2,h2,top (by omega)]
  simp only [Option.bind_some,aEN]; rfl
 rw [if_neg h2,hH h2]
 by_cases h3 : o.Code = 3
 ·simp [h3] at hn
  rw [if_pos h3,h3,drp (by omega)]; rfl
 rw [if_neg h3,hH h3]
 by_cases h4 : o.Code = 4
 ·simp [h4] at hn
  rw [if_pos h4,h4,i2 (by omega),i1' (by omega)]
  have e1 : IntKind.i64.wrap (((st.length : Nat) : Int) - 1) = ((st.length - 1 : Nat) : Int) := by rw [b4 (by omega) (by omega)]; omega
  have e2 : IntKind.i64.wrap (((st.length : Nat) : Int) - 2) = ((st.length - 2 : Nat) : Int) := by rw [b4 (by omega) (by omega)]; omega
  simp only [e1,e2,Int.toNat_natCast,Option.bind_some]
  rw [d8 _ (show st.length - 2 < (st.set (st.length - 1) (d7 st 2)).length by rw [List.length_set]; omega)]
  rfl
 rw [if_neg h4,hH h4]
 by_cases h5 : o.Code = 5
 ·simp [h5] at hn
  rw [if_pos h5,h5,top (by omega),i2 (by omega)]
  simp only [Option.bind_some,wZ,aCH hN,rep2 _ (show 2 ≤ st.length by omega)]
  rfl
 rw [if_neg h5,hH h5]
 by_cases h6 : o.Code = 6
 ·simp [h6] at hn
  rw [if_pos h6,h6,top (by omega)]
  simp only [Option.bind_some,wG hN (show (d7 st 1).length ≤ 60000 by have := (len1 (by omega)).1; omega),aCH hN,rep1 _ (show 1 ≤ st.length by omega)]
  rfl
 rw [if_neg h6,hH h6]
 by_cases h7 : o.Code = 7
 ·simp [h7] at hn
  rw [if_pos h7,h7,top (by omega)]
  simp only [Option.bind_some,wG hN (show (d7 st 1).length ≤ 60000 by have := (len1 (by omega)).1; omega),drp (show 1 ≤ st.length by omega)]
  cases nU (d7 st 1) <;> rfl
 rw [if_neg h7,hH h7]
 by_cases h8 : o.Code = 8
 ·simp [h8] at hn
  rw [if_pos h8,h8,top (by omega)]
  simp only [Option.bind_some,aGv N hN _ (len1 (by omega)).2 (show (d7 st 1).length ≤ 1000000 by have := (len1 (by omega)).1; omega),cI (nY N (d7 st 1)),rep1 _ (show 1 ≤ st.length by omega)]
  rfl
 rw [if_neg h8,hH h8]
 by_cases h9 : o.Code = 9
 ·simp [h9] at hn
  have := (len1 (by omega)).1
  rw [if_pos h9,h9,top (by omega)]
  simp only [Option.bind_some,aCS _ (show (d7 st 1).length < 4294967296 by omega),(aE6 hN (show (d7 st 1).length < 4294967296 by omega)).1,aEN]
  rfl
 rw [if_neg h9,hH h9]
 by_cases h10 : o.Code = 10
 ·simp [h10] at hn
  have := aFo hN hm hb (h := h) (a := a) hs (br := br) (c := c) (dS := 1) (n := 1) (by omega) (by omega)
  rw [show ((1 : Nat) : Int) = 1 from rfl] at this
  rw [if_pos h10,h10,this]; rfl
 rw [if_neg h10,hH h10]
 by_cases h11 : o.Code = 11
 ·have hM := ho.multi h11
  simp [h11] at hn
  have := aFo hN hm hb (h := h) (a := a) hs (br := br) (c := c) (dS := o.M) (n := o.N.toNat) (by omega) (by omega)
  rw [show ((o.N.toNat : Nat) : Int) = o.N by omega] at this
  rw [if_pos h11,h11,this]; rfl
 rw [if_neg h11,hH h11]
 by_cases h12 : o.Code = 12
 ·simp [h12] at hn
  rw [if_pos h12,h12,top (by omega)]
  simp only [Option.bind_some,aEl hN]; rfl
 rw [if_neg h12,hH h12]
 by_cases h13 : o.Code = 13
 ·simp [h13] at hn
  rw [if_pos h13,h13,top (by omega)]
  simp only [Option.bind_some,aEl hN]; rfl
 rw [if_neg h13,hH h13]
 by_cases h17 : o.Code = 17
 ·rw [if_pos h17,h17]; rfl
 rw [if_neg h17,hH h17]; rfl
end
structure St where
 st : List (List Int)
 br : List aG
 c : Int
def qH (br : List aG) : aG := br.getD (br.length - 1) ⟨true,true⟩
def aAj (o : aM) (br : List aG) : Bool := if o.Code = 15 ∨ o.Code = 16 then (qH br).outer else (qH br).outer && (qH br).taken
def aBe (N : Nat) (m : List Int) (h a : Int) (o : aM) (k : Bool) (s : St) : Int × St :=
 if o.Code = 14 then (0,⟨if k then s.st.take (s.st.length - 1) else s.st,s.br ++ [⟨k,k && nU (d7 s.st 1)⟩],s.c⟩)
 else if o.Code = 15 then (0,⟨s.st,s.br.set (s.br.length - 1) ⟨(qH s.br).outer,!(qH s.br).taken⟩,s.c⟩)
 else if o.Code = 16 then (0,⟨s.st,s.br.take (s.br.length - 1),s.c⟩)
 else if k then ((rR N m h a o s.st).1,⟨(rR N m h a o s.st).2,s.br,s.c⟩) else (0,s)
def oC (N : Nat) (m : List Int) (h a : Int) (o : aM) (s : St) : Int × St :=
 if aAj o s.br then
  (if 500 < s.c + k6 o then (83,s) else if (s.st.length : Int) < kB o then (81,s) else aBe N m h a o true ⟨s.st,s.br,s.c + k6 o⟩)
 else aBe N m h a o false s
def jI (N : Nat) (m : List Int) (h a : Int) : List aM → St → Int × St
 | [],s => (0,s)
 | o :: r,s => if (oC N m h a o s).1 = 0 then jI N m h a r (oC N m h a o s).2 else oC N m h a o s
def kT : List aM → List Bool → Option (List Bool)
 | [],l => some l
 | o :: r,l =>
  if o.Code = 14 then kT r (l ++ [false])
  else if o.Code = 15 then (if l = [] then none else if l.getD (l.length - 1) true = true then none else kT r (l.set (l.length - 1) true))
  else if o.Code = 16 then (if l = [] then none else kT r (l.take (l.length - 1)))
  else kT r l
theorem vI {n : Nat} (h1 : 1 ≤ n) (h2 : n ≤ 100000) : IntKind.i64.wrap ((n : Int) - 1) = ((n - 1 : Nat) : Int) := by rw [b4 (by omega) (by omega)]; omega
theorem lC {α : Type} {l : List α} : l = [] ↔ l.length = 0 := by cases l <;> simp
def aLs : Option (List Bool) → LR (List Bool) Bool
 | none => .ret false
 | some l => .brk l
theorem aFG (N : Nat) (l : List aM) (hl : l.length ≤ 1000) : ∀ (f j : Nat) (op : List Bool),l.length - j < f → j ≤ l.length → op.length ≤ j → cW N l f (j : Int) op = some (aLs (kT (l.drop j) op))
 | 0,j,op,hf,_,_ => by omega
 | f + 1,j,op,hf,hj,ho => by
  rw [cW]
  by_cases h : j < l.length
  ·rw [dT h,if_pos rfl,d8 l h,List.drop_eq_getElem_cons h]
   simp only [Option.bind_some,kT,iS,mJ,i1 (show j ≤ 100000 by omega)]
   have ih := fun op' (ho' : op'.length ≤ j + 1) => aFG N l hl f (j + 1) op' (by omega) (by omega) ho'
   by_cases h14 : l[j].Code = 14
   ·have := kH
    rw [if_pos h14,h14,u6 (by simp; omega)]
    exact ih _ (by simp; omega)
   rw [if_neg h14,hH h14]
   by_cases h15 : l[j].Code = 15
   ·rw [if_pos h15,h15]
    by_cases h0 : op = []
    ·rw [if_pos h0,h0]; rfl
    ·have h0' : 1 ≤ op.length := by have := mt lC.2 h0; omega
     rw [if_neg h0,vI h0' (by omega),show decide ((((op.length - 1 : Nat)) : Int) < 0) = false from decide_eq_false (by omega),d8 op (show op.length - 1 < op.length by omega),show op.getD (op.length - 1) true = op[op.length - 1] by simp [show op.length - 1 < op.length by omega]]
     cases hh : op[op.length - 1]
     ·simp only [Bool.false_eq_true,if_false,Option.bind_some,Int.toNat_natCast,show ((15 : Int) == 14) = false from rfl,show ((15 : Int) == 15) = true from rfl,if_true]
      exact ih _ (by simp; omega)
     ·rfl
   rw [if_neg h15,hH h15]
   by_cases h16 : l[j].Code = 16
   ·rw [if_pos h16,h16]
    by_cases h0 : op = []
    ·rw [if_pos h0,h0]; rfl
    ·have h0' : 1 ≤ op.length := by have := mt lC.2 h0; omega
     have e : sub op 0 ((op.length - 1 : Nat) : Int) = some (op.take (op.length - 1)) := by
      unfold sub; rw [if_pos ⟨by omega,by omega,by omega⟩]; simp
     rw [if_neg h0,vI h0' (by omega),show decide ((((op.length - 1 : Nat)) : Int) < 0) = false from decide_eq_false (by omega),e]
     exact ih _ (by simp; omega)
   rw [if_neg h16,hH h16]
   exact ih _ (by omega)
  ·rw [dF h,List.drop_eq_nil_of_le (by omega)]; rfl
def s8 (l : List aM) : Bool := match kT l [] with | none => false | some q => (q.length : Int) == 0
theorem aJY {N : Nat} (hN : 70000 ≤ N) {l : List aM} (hl : l.length ≤ 1000) : qK N l = some (s8 l) := by
 have := aFG N l hl N 0 [] (by omega) (by omega) (by simp)
 rw [List.drop_zero,show ((0 : Nat) : Int) = 0 from rfl] at this
 unfold qK s8
 rw [this]
 cases kT l [] <;> rfl
section
variable {N : Nat} (hN : 70000 ≤ N) {m : List Int} (hm : m.length = 32) (hb : Byt m)
include hN hm hb
theorem aLN {h a : Int} {o : aM} (ho : vV o) {s : St} (hs : WS s.st) (hbr : s.br.length ≤ 1000) (hc : 0 ≤ s.c ∧ s.c ≤ 500) (h15 : o.Code = 15 ∨ o.Code = 16 → s.br ≠ []) :
  ∃ s',fJ N m h a s.st s.br s.c o.Code o.Data o.M o.N = some ((oC N m h a o s).1,m,h,a,s'.st,s'.br,s'.c) ∧ ((oC N m h a o s).1 = 0 → s' = (oC N m h a o s).2 ∧ WS s'.st ∧ s.c ≤ s'.c ∧ s'.c ≤ 500 ∧ ((o.Code = 14 → s'.br.length = s.br.length + 1) ∧ (o.Code = 16 → s'.br.length = s.br.length - 1) ∧ (o.Code ≠ 14 → o.Code ≠ 16 → s'.br.length = s.br.length))) := by
 have hp := aFs ho
 have hbody : ∀ (k : Bool) (c : Int),s.c ≤ c → c ≤ 500 → (k = true → kB o ≤ (s.st.length : Int)) → ∃ s',fB N m h a s.st s.br o.Code o.Data o.M o.N k c = some ((aBe N m h a o k ⟨s.st,s.br,c⟩).1,m,h,a,s'.st,s'.br,s'.c) ∧ s' = (aBe N m h a o k ⟨s.st,s.br,c⟩).2 ∧ WS s'.st ∧ s.c ≤ s'.c ∧ s'.c ≤ 500 ∧ ((o.Code = 14 → s'.br.length = s.br.length + 1) ∧ (o.Code = 16 → s'.br.length = s.br.length - 1) ∧ (o.Code ≠ 14 → o.Code ≠ 16 → s'.br.length = s.br.length)) := by
  intro k c hc1 hc2 hk
  refine ⟨_, ?_,rfl, ?_⟩
  all_goals unfold aBe
  ·unfold fB
   by_cases h14 : o.Code = 14
   ·rw [if_pos h14,h14]
    have := kH
    cases k with
    | false =>
     simp only [Bool.false_eq_true,if_false,show ((14 : Int) == 14) = true from rfl,if_true]
     rw [u6 (by simp; omega)]; rfl
    | true =>
     have hn := hk rfl
     unfold kB at hn
     simp [h14] at hn
     have q := pH hs (k := 1) (by omega) (by omega)
     have top : bZ N m h a s.st s.br c = some (d7 s.st 1) := by
      unfold bZ
      rw [show ((s.st.length : Nat) : Int) - 1 = ((s.st.length : Nat) : Int) - ((1 : Nat) : Int) from rfl,q.2.2]; rfl
     simp only [show ((14 : Int) == 14) = true from rfl,if_true,top,Option.bind_some,wG hN (show (d7 s.st 1).length ≤ 60000 by omega)]
     rw [u6 (by simp; omega)]
     simp only [Option.bind_some,iE,if_true]
     rw [show dE N m h a s.st (s.br ++ [⟨true,nU (d7 s.st 1)⟩]) c 1 = _ from aEB (k := 1) hs.len (by omega)]
     rfl
   rw [if_neg h14,hH h14]
   by_cases h15' : o.Code = 15
   ·have h0 := h15 (.inl h15')
    have h0' : 1 ≤ s.br.length := by have := mt lC.2 h0; omega
    rw [if_pos h15',h15',vI h0' (by omega),d8 s.br (show s.br.length - 1 < s.br.length by omega)]
    simp only [show qH s.br = s.br[s.br.length - 1] by simp [qH,show s.br.length - 1 < s.br.length by omega],Int.toNat_natCast]
    rfl
   rw [if_neg h15',hH h15']
   by_cases h16 : o.Code = 16
   ·have h0 := h15 (.inr h16)
    have h0' : 1 ≤ s.br.length := by have := mt lC.2 h0; omega
    have e : sub s.br 0 ((s.br.length - 1 : Nat) : Int) = some (s.br.take (s.br.length - 1)) := by
     unfold sub; rw [if_pos ⟨by omega,by omega,by omega⟩]; simp
    rw [if_pos h16,h16,vI h0' (by omega),e]; rfl
   rw [if_neg h16,hH h16]
   cases k with
   | true => simp only [Bool.false_eq_true,if_false,if_true,aKs hN hm hb ho hs (hk rfl),Option.bind_some]
   | false => rfl
  ·by_cases h14 : o.Code = 14
   ·simp only [if_pos h14]
    refine ⟨?_,hc1,hc2,fun _ => by simp,fun h => by omega,fun h => absurd h14 h⟩
    cases k
    ·exact hs
    ·exact hs.take _
   simp only [if_neg h14]
   by_cases h15' : o.Code = 15
   ·simp only [if_pos h15']
    exact ⟨hs,hc1,hc2,fun h => by omega,fun h => by omega,fun _ _ => by simp⟩
   simp only [if_neg h15']
   by_cases h16 : o.Code = 16
   ·simp only [if_pos h16]
    exact ⟨hs,hc1,hc2,fun h => by omega,fun h => by simp,fun _ h => by omega⟩
   simp only [if_neg h16]
   cases k with
   | true => exact ⟨aKZ hN hm hb ho hs (hk rfl),hc1,hc2,fun h => by omega,fun h => by omega,fun _ _ => rfl⟩
   | false => exact ⟨hs,hc1,hc2,fun h => by omega,fun h => by omega,fun _ _ => rfl⟩
 have hJ : fJ N m h a s.st s.br s.c o.Code o.Data o.M o.N = fF N m h a s.st s.br s.c o.Code o.Data o.M o.N (aAj o s.br) := by
  unfold fJ lG aAj
  by_cases h0 : s.br = []
  ·have : ¬ (o.Code = 15 ∨ o.Code = 16) := fun h => h15 h h0
   rw [h0,if_neg this]
   simp only [fD,hH (fun h => this (.inl h)),hH (fun h => this (.inr h))]
   rfl
  ·have h0' : 1 ≤ s.br.length := by have := mt lC.2 h0; omega
   rw [show (((s.br.length : Nat) : Int) == 0) = false from hH (by omega),vI h0' (by omega),d8 s.br (show s.br.length - 1 < s.br.length by omega),show qH s.br = s.br[s.br.length - 1] by simp [qH,show s.br.length - 1 < s.br.length by omega]]
   simp only [fD,vI h0' (show s.br.length ≤ 100000 by omega),d8 s.br (show s.br.length - 1 < s.br.length by omega),gJ,Option.bind_some,Bool.false_eq_true,if_false]
   by_cases h15' : o.Code = 15
   ·rw [if_pos (show o.Code = 15 ∨ o.Code = 16 from .inl h15'),h15']
    cases s.br[s.br.length - 1].outer <;> rfl
   ·by_cases h16 : o.Code = 16
    ·rw [if_pos (show o.Code = 15 ∨ o.Code = 16 from .inr h16),h16]
     cases s.br[s.br.length - 1].outer <;> rfl
    ·rw [if_neg (show ¬ (o.Code = 15 ∨ o.Code = 16) by omega),hH h15',hH h16]
     cases s.br[s.br.length - 1].outer <;> rfl
 rw [hJ]
 unfold fF oC
 cases aAj o s.br with
 | false =>
  obtain ⟨s',h1,h2⟩ := hbody false s.c (Int.le_refl _) hc.2 (fun h => by cases h)
  exact ⟨s',h1,fun _ => h2⟩
 | true =>
  simp only [if_true,aHj N ho,aK7 N ho,Option.bind_some]
  rw [b4 (a := s.c + k6 o) (by omega) (by omega)]
  by_cases h5 : 500 < s.c + k6 o
  ·rw [decide_eq_true h5,if_pos h5]
   exact ⟨⟨s.st,s.br,s.c + k6 o⟩,rfl,fun h => by cases h⟩
  ·rw [decide_eq_false h5,if_neg h5]
   simp only [Bool.false_eq_true,if_false]
   by_cases h6 : (s.st.length : Int) < kB o
   ·rw [decide_eq_true h6,if_pos h6]
    exact ⟨⟨s.st,s.br,s.c + k6 o⟩,rfl,fun h => by cases h⟩
   ·rw [decide_eq_false h6,if_neg h6]
    obtain ⟨s',h1,h2⟩ := hbody true (s.c + k6 o) (by omega) (by omega) (fun _ => by omega)
    exact ⟨s',h1,fun _ => h2⟩
end
theorem aFv {o : aM} {r : List aM} {l q : List Bool} (h : kT (o :: r) l = some q) : (o.Code = 15 ∨ o.Code = 16 → l ≠ []) ∧ ∃ l',kT r l' = some q ∧ (o.Code = 14 → l'.length = l.length + 1) ∧ (o.Code = 16 → l'.length = l.length - 1) ∧ (o.Code ≠ 14 → o.Code ≠ 16 → l'.length = l.length) := by
 simp only [kT] at h
 by_cases h14 : o.Code = 14
 ·rw [if_pos h14] at h
  exact ⟨fun h => by omega,_,h,fun _ => by simp,fun h => by omega,fun h => absurd h14 h⟩
 rw [if_neg h14] at h
 by_cases h15 : o.Code = 15
 ·rw [if_pos h15] at h
  by_cases h0 : l = []
  ·rw [if_pos h0] at h; cases h
  ·rw [if_neg h0] at h
   by_cases h1 : l.getD (l.length - 1) true = true
   ·rw [if_pos h1] at h; cases h
   ·rw [if_neg h1] at h
    exact ⟨fun _ => h0,_,h,fun h => by omega,fun h => by omega,fun _ _ => by simp⟩
 rw [if_neg h15] at h
 by_cases h16 : o.Code = 16
 ·rw [if_pos h16] at h
  by_cases h0 : l = []
  ·rw [if_pos h0] at h; cases h
  ·rw [if_neg h0] at h
   exact ⟨fun _ => h0,_,h,fun h => by omega,fun h => by simp,fun _ h => by omega⟩
 rw [if_neg h16] at h
 exact ⟨fun h => by omega,_,h,fun h => by omega,fun h => by omega,fun _ _ => rfl⟩
structure OkS (s : St) : Prop where
 ws : WS s.st
 c : 0 ≤ s.c ∧ s.c ≤ 500
def aLb (m : List Int) (h a : Int) (x : Int × St) : LR ((List Int) × Int × Int × Int × (List (List Int)) × (List aG)) ((List (List Int)) × Int × Int) :=
 if x.1 = 0 then .brk (m,h,a,x.2.c,x.2.st,x.2.br) else .ret ([],0,x.1)
section
variable {N : Nat} (hN : 70000 ≤ N) {m : List Int} (hm : m.length = 32) (hb : Byt m)
include hN hm hb
theorem aDx {h a : Int} {o : aM} {r : List aM} (ho : vV o) {s : St} (hs : OkS s) {l q : List Bool} (hl : s.br.length = l.length) (hn : kT (o :: r) l = some q) (hbr : s.br.length ≤ 1000) :
  ∃ s',fJ N m h a s.st s.br s.c o.Code o.Data o.M o.N = some ((oC N m h a o s).1,m,h,a,s'.st,s'.br,s'.c) ∧ ((oC N m h a o s).1 = 0 → s' = (oC N m h a o s).2 ∧ OkS s' ∧ s.c ≤ s'.c ∧ s'.br.length ≤ s.br.length + 1 ∧ ∃ l',s'.br.length = l'.length ∧ kT r l' = some q) := by
 obtain ⟨n1,l',n2,n3,n4,n5⟩ := aFv hn
 obtain ⟨s',h1,h2⟩ := aLN hN hm hb (h := h) (a := a) ho hs.ws hbr hs.c (fun h e => n1 h (lC.2 (by rw [← hl,e]; rfl)))
 refine ⟨s',h1,fun he => ?_⟩
 obtain ⟨e,g1,g2,g3,g4,g5,g6⟩ := h2 he
 have hc := hs.c
 refine ⟨e,⟨g1,by omega,g3⟩,g2, ?_,l', ?_,n2⟩
 ·by_cases h14 : o.Code = 14
  ·rw [g4 h14]; omega
  ·by_cases h16 : o.Code = 16
   ·rw [g5 h16]; omega
   ·rw [g6 h14 h16]; omega
 ·by_cases h14 : o.Code = 14
  ·rw [g4 h14,n3 h14,hl]
  ·by_cases h16 : o.Code = 16
   ·rw [g5 h16,n4 h16,hl]
   ·rw [g6 h14 h16,n5 h14 h16,hl]
theorem aH1 {h a : Int} : ∀ (r : List aM) (s : St) (l q : List Bool),(∀ o ∈ r,vV o) → OkS s → s.br.length = l.length → kT r l = some q → s.br.length + r.length ≤ 1000 → (jI N m h a r s).1 = 0 → OkS (jI N m h a r s).2 ∧ s.c ≤ (jI N m h a r s).2.c ∧ (jI N m h a r s).2.br.length = q.length
 | [],s,l,q,_,hs,hl,hn,_,_ => by
  injection hn with hn
  exact ⟨hs,Int.le_refl _,hn ▸ hl⟩
 | o :: r,s,l,q,hv,hs,hl,hn,hlen,he => by
  simp only [List.length_cons] at hlen
  obtain ⟨s',h1,h2⟩ := aDx hN hm hb (h := h) (a := a) (hv o (by simp)) hs hl hn (by omega)
  simp only [jI] at he ⊢
  by_cases h0 : (oC N m h a o s).1 = 0
  ·simp only [if_pos h0] at he ⊢
   obtain ⟨e,g1,g2,g3,l',g4,g5⟩ := h2 h0
   rw [← e] at he ⊢
   obtain ⟨k1,k2,k3⟩ := aH1 r s' l' q (fun o ho => hv o (by simp [ho])) g1 g4 g5 (by omega) he
   exact ⟨k1,by omega,k3⟩
  ·rw [if_neg h0] at he
   exact absurd he h0
theorem aHl {h a : Int} (ops : List aM) (e : Int) (hv : ∀ o ∈ ops,vV o) (ho : ops.length ≤ 600) : ∀ (f j : Nat) (s : St) (l q : List Bool),ops.length - j < f → j ≤ ops.length → OkS s → s.br.length = l.length → kT (ops.drop j) l = some q → s.br.length ≤ j →
  jU N (ops,e) f (j : Int) m h a s.c s.st s.br = some (aLb m h a (jI N m h a (ops.drop j) s))
 | 0,j,s,l,q,hf,_,_,_,_,_ => by omega
 | f + 1,j,s,l,q,hf,hj,hs,hl,hn,hbr => by
  rw [jU]
  by_cases hlt : j < ops.length
  ·rw [List.drop_eq_getElem_cons hlt] at hn ⊢
   obtain ⟨s',h1,h2⟩ := aDx hN hm hb (h := h) (a := a) (hv _ (List.getElem_mem hlt)) hs hl hn (by omega)
   rw [dT hlt,if_pos rfl,d8 ops hlt]
   simp only [Option.bind_some,h1,jI]
   by_cases h0 : (oC N m h a ops[j] s).1 = 0
   ·obtain ⟨e',g1,g2,g3,l',g4,g5⟩ := h2 h0
    rw [h0,if_pos rfl,← e',show ((0 : Int) != 0) = false from rfl,i1 (by omega)]
    exact aHl ops e hv ho f (j + 1) s' l' q (by omega) (by omega) g1 g4 g5 (by omega)
   ·rw [if_neg h0,show ((oC N m h a ops[j] s).1 != 0) = true by simpa using h0]
    simp only [if_true,aLb,if_neg h0]
  ·rw [dF hlt,List.drop_eq_nil_of_le (by omega)]; rfl
end
section
variable {N : Nat} (hN : 70000 ≤ N)
include hN
theorem aFl {st : List (List Int)} (hl : st.length ≤ 1000) (h : ∀ x ∈ st,x.length ≤ 520) : nC N st = some st := by
 have lp : ∀ (f j : Nat) (acc : List (List Int)),st.length - j < f → j ≤ st.length → acc.length ≤ j → iQ N st f (j : Int) acc = some (acc ++ st.drop j) := by
  intro f
  induction f with
  | zero => intro j acc hf; omega
  | succ f ih =>
   intro j acc hf hj ha
   rw [iQ]
   by_cases hlt : j < st.length
   ·have hx := h _ (List.getElem_mem hlt)
    rw [dT hlt,if_pos rfl,d8 st hlt]
    simp only [Option.bind_some]
    rw [aNi hN [st[j]] (by simp) (by simp; omega)]
    simp only [Option.bind_some,List.flatten_cons,List.flatten_nil,List.append_nil]
    rw [vP (by simp; omega)]
    simp only [Option.bind_some,i1 (show j ≤ 100000 by omega)]
    rw [ih (j + 1) _ (by omega) (by omega) (by simp; omega),List.drop_eq_getElem_cons hlt,List.append_assoc]
    rfl
   ·rw [dF hlt,List.drop_eq_nil_of_le (by omega),List.append_nil]; rfl
 have := lp N 0 [] (by omega) (by omega) (by simp)
 rw [show ((0 : Nat) : Int) = 0 from rfl] at this
 simp only [nC,this,Option.bind_some,pW,List.nil_append,List.drop_zero]
def tZ (st : List (List Int)) : Bool := !decide (64 < st.length) && st.all fun x => !decide (520 < (x.length : Int))
theorem aI0 (st : List (List Int)) : pT N st = some (tZ st) := by
 unfold pT tZ
 by_cases hl : 64 < st.length
 ·rw [show decide ((64 : Int) < ((st.length : Nat) : Int)) = true from decide_eq_true (by omega),decide_eq_true hl]; rfl
 ·have := aAh (f := fH N st) (xs := st) (p := fun x => !decide (520 < (x.length : Int))) (r := false) (fun m j hj => by
   rw [fH,dT hj,if_pos rfl,d8 st hj]
   simp only [Option.bind_some,i1 (show j ≤ 100000 by omega)]
   cases decide (520 < ((st[j].length : Nat) : Int)) <;> rfl) (fun m j hj => by rw [fH,dF (by omega)]; rfl) N 0 (by omega) (by omega)
  rw [show ((0 : Nat) : Int) = 0 from rfl,List.drop_zero] at this
  rw [show decide ((64 : Int) < ((st.length : Nat) : Int)) = false from decide_eq_false (by omega),decide_eq_false hl,this]
  cases st.all fun x => !decide (520 < (x.length : Int)) <;> rfl
end
theorem aCz {st : List (List Int)} (hb : ∀ x ∈ st,Byt x) : tZ st = true ↔ WS st := by
 unfold tZ
 constructor
 ·intro h
  simp only [Bool.and_eq_true,List.all_eq_true,Bool.not_eq_true',decide_eq_false_iff_not] at h
  exact ⟨by omega,fun x hx => ⟨hb x hx,by have := h.2 x hx; omega⟩⟩
 ·intro h
  simp only [Bool.and_eq_true,List.all_eq_true,Bool.not_eq_true',decide_eq_false_iff_not]
  exact ⟨by have := h.len; omega,fun x hx => by have := (h.it x hx).2; omega⟩
def o6 (N : Nat) (b : List Int) (st : List (List Int)) (m : List Int) (h a : Int) : List (List Int) × Int × Int :=
 if (bT b).2 ≠ 0 then ([],0,(bT b).2) else if s8 (bT b).1 = false then ([],0,86) else if tZ st = false then ([],0,4)
 else if (jI N m h a (bT b).1 ⟨st,[],0⟩).1 = 0 then ((jI N m h a (bT b).1 ⟨st,[],0⟩).2.st,(jI N m h a (bT b).1 ⟨st,[],0⟩).2.c,0) else ([],0,(jI N m h a (bT b).1 ⟨st,[],0⟩).1)
theorem aDo {l : List aM} : s8 l = true ↔ kT l [] = some [] := by
 unfold s8
 cases kT l [] with
 | none => simp
 | some q => cases q <;> simp; omega
section
variable {N : Nat} (hN : 70000 ≤ N) {m : List Int} (hm : m.length = 32) (hb : Byt m)
include hN hm hb
theorem aH2 {b : List Int} (hbb : Byt b) {st : List (List Int)} (h a : Int) (hp : (bT b).2 = 0) (hn : s8 (bT b).1 = true) (hw : WS st) (he : (jI N m h a (bT b).1 ⟨st,[],0⟩).1 = 0) : OkS (jI N m h a (bT b).1 ⟨st,[],0⟩).2 ∧ (jI N m h a (bT b).1 ⟨st,[],0⟩).2.br = [] := by
 obtain ⟨p1,p2,_⟩ := aAx hbb hp
 obtain ⟨g1,_,g3⟩ := aH1 hN hm hb (h := h) (a := a) (bT b).1 ⟨st,[],0⟩ [] [] p1 ⟨hw,by simp⟩ rfl (aDo.1 hn) (by simp; omega) he
 exact ⟨g1,lC.2 g3⟩
theorem aHm {b : List Int} (hbb : Byt b) {st : List (List Int)} (hst : ∀ x ∈ st,Byt x) (h a : Int) : p9 N b st m h a = some (o6 N b st m h a) := by
 unfold p9 o6
 rw [aKn hN hbb]
 simp only [Option.bind_some]
 by_cases hp : (bT b).2 = 0
 ·obtain ⟨p1,p2,_⟩ := aAx hbb hp
  rw [if_neg (by simpa using hp),hp,aJY hN (by omega),aI0 hN]
  simp only [Option.bind_some,show ((0 : Int) != 0) = false from rfl,Bool.false_eq_true,if_false]
  cases hn : s8 (bT b).1 with
  | false => rfl
  | true =>
   cases hB : tZ st with
   | false => rfl
   | true =>
    have hw := (aCz hst).1 hB
    have hl := hw.len
    have lp := aHl hN hm hb (h := h) (a := a) (bT b).1 (bT b).2 p1 (by omega) N 0 ⟨st,[],0⟩ [] [] (by omega) (by omega) ⟨hw,by simp⟩ rfl (aDo.1 hn) (by simp)
    rw [show ((0 : Nat) : Int) = 0 from rfl,List.drop_zero] at lp
    simp only [Bool.not_true,Bool.false_eq_true,Bool.true_eq_false,if_false,aFl hN (show st.length ≤ 1000 by omega) (fun x hx => (hw.it x hx).2),Option.bind_some]
    rw [show (jU N (bT b) N 0 m h a 0 st []) = _ from lp]
    simp only [Option.bind_some,aLb]
    by_cases he : (jI N m h a (bT b).1 ⟨st,[],0⟩).1 = 0
    ·obtain ⟨g1,_⟩ := aH2 hN hm hb hbb h a hp hn hw he
     have gl := g1.ws.len
     rw [if_pos he,if_pos he]
     simp only [uB,aFl hN (show (jI N m h a (bT b).1 ⟨st,[],0⟩).2.st.length ≤ 1000 by omega) (fun x hx => (g1.ws.it x hx).2),Option.bind_some]
     rfl
    ·rw [if_neg he,if_neg he]; rfl
 ·rw [if_pos hp,show ((bT b).2 != 0) = true by simpa using hp]; rfl
end
def aLd (r : List (List Int) × Int × Int) : Int := if r.2.2 ≠ 0 then r.2.2 else if r.1.length ≠ 1 then 81 else if nU (r.1.getD 0 []) then 0 else 84
section
variable {N : Nat} (hN : 70000 ≤ N) {m : List Int} (hm : m.length = 32) (hb : Byt m)
include hN hm hb
theorem aH9 {b : List Int} (hbb : Byt b) {st : List (List Int)} (hst : ∀ x ∈ st,Byt x) {h a : Int} (h0 : (o6 N b st m h a).2.2 = 0) : (bT b).2 = 0 ∧ s8 (bT b).1 = true ∧ WS st ∧ (jI N m h a (bT b).1 ⟨st,[],0⟩).1 = 0 ∧ OkS (jI N m h a (bT b).1 ⟨st,[],0⟩).2 ∧ (jI N m h a (bT b).1 ⟨st,[],0⟩).2.br = [] ∧ o6 N b st m h a = ((jI N m h a (bT b).1 ⟨st,[],0⟩).2.st,(jI N m h a (bT b).1 ⟨st,[],0⟩).2.c,0) := by
 unfold o6 at h0 ⊢
 by_cases hp : (bT b).2 ≠ 0
 ·rw [if_pos hp] at h0; exact absurd h0 hp
 ·simp only [if_neg hp] at h0 ⊢
  by_cases hn : s8 (bT b).1 = false
  ·rw [if_pos hn] at h0; cases h0
  ·simp only [if_neg hn] at h0 ⊢
   by_cases hB : tZ st = false
   ·rw [if_pos hB] at h0; cases h0
   ·simp only [if_neg hB] at h0 ⊢
    by_cases he : (jI N m h a (bT b).1 ⟨st,[],0⟩).1 = 0
    ·have hn' : s8 (bT b).1 = true := by simpa using hn
     have hw := (aCz hst).1 (by simpa using hB)
     have hp' : (bT b).2 = 0 := by simpa using hp
     obtain ⟨g1,g2⟩ := aH2 hN hm hb hbb h a hp' hn' hw he
     rw [if_pos he]
     exact ⟨hp',hn',hw,he,g1,g2,rfl⟩
    ·rw [if_neg he] at h0; exact absurd h0 he
theorem aJx {b : List Int} (hbb : Byt b) {st : List (List Int)} (hst : ∀ x ∈ st,Byt x) (h a : Int) : kM N b st m h a = some (aLd (o6 N b st m h a)) := by
 unfold kM aLd
 rw [aHm hN hm hb hbb hst]
 simp only [Option.bind_some]
 by_cases h0 : (o6 N b st m h a).2.2 = 0
 ·obtain ⟨_,_,_,_,g,_,e⟩ := aH9 hN hm hb hbb hst h0
  rw [if_neg (show ¬ (o6 N b st m h a).2.2 ≠ 0 from fun h => h h0),show ((o6 N b st m h a).2.2 != 0) = false by simpa using h0]
  simp only [Bool.false_eq_true,if_false]
  have hw : ∀ x ∈ (o6 N b st m h a).1,x.length ≤ 520 := fun x hx => by rw [e] at hx; exact (g.ws.it x hx).2
  generalize (o6 N b st m h a).1 = l at hw ⊢
  match l with
  | [] => rfl
  | [x] =>
   have hx := hw x (by simp)
   simp only [aBw,Option.bind_some,wG hN (show x.length ≤ 60000 by omega)]
   show (if (!nU x) = true then some 84 else some 0) = some (if nU x = true then 0 else 84)
   cases nU x <;> rfl
  | x :: y :: r =>
   have e1 : ((((x :: y :: r).length : Nat) : Int) != 1) = true := by simp; omega
   have e2 : (x :: y :: r).length ≠ 1 := by simp
   rw [e1,if_pos e2]; rfl
 ·rw [if_pos h0,show ((o6 N b st m h a).2.2 != 0) = true by simpa using h0]; rfl
end
theorem aIi (N : Nat) (b : List Int) : ∀ (m : Nat) (x : Int),lM N b m x = eQ N b m x
 | 0,_ => rfl
 | m + 1,x => by simp only [lM,eQ,aIi N b m]
theorem aDh (N : Nat) (b : List Int) : lR N b = iH N b := by
 unfold lR iH
 rw [aIi]
 rfl
theorem aJW (N : Nat) (b : List Int) : ∀ (m : Nat) (v x : Int),jQ N b m v x = eW N b m v x
 | 0,_,_ => rfl
 | m + 1,v,x => by simp only [jQ,eW,aJW N b m]
theorem aM6 (N : Nat) (b : List Int) (t : Bool) : jF N b t = eK N b t := by
 unfold jF eK
 rw [aJW]
 rfl
theorem aMa (N : Nat) (b : List Int) : rT N b = gO N b := by
 unfold rT gO
 simp only [aM6]
theorem aD4 (N : Nat) (b : List Int) (now : Int) : pE N b now = j4 N b now := by
 unfold pE j4
 rw [aMa]
theorem aId (N : Nat) : ∀ (m n : Nat) (acc : List Int),n < 4294967296 → lJ N m (n : Int) acc = dM N m (n : Int) acc
 | 0,_,_,_ => rfl
 | m + 1,n,acc,hn => by
  have h1 : shr .u32 (n : Int) 8 = some ((n / 256 : Nat) : Int) := by
   rw [show (8 : Int) = ((8 : Nat) : Int) from rfl,uP (k := .u32) _ _ (show n < 2 ^ 32 by omega)]
  have h2 : IntKind.u32.wrap (Int.tdiv (n : Int) 256) = ((n / 256 : Nat) : Int) := by
   rw [show (256 : Int) = ((256 : Nat) : Int) from rfl,oK,IntKind.wrap_u32]
   omega
  simp only [lJ,dM,h1,h2,Option.bind_some,aId N m (n / 256) _ (show n / 256 < 4294967296 by omega)]
theorem aDn (N : Nat) {n : Nat} (hn : n < 4294967296) : qC N (n : Int) = eR N (n : Int) := by
 unfold qC eR
 rw [aId N N n [] hn]
 rfl
theorem aJd (N : Nat) (v : Bool) : kS N v = i4 N v := by
 unfold kS i4
 rw [show (1 : Int) = ((1 : Nat) : Int) from rfl,show (0 : Int) = ((0 : Nat) : Int) from rfl,aDn N (by omega),aDn N (by omega)]
section
variable {N : Nat} (hN : 70000 ≤ N)
theorem aIz (N : Nat) {st : List (List Int)} (hl : st.length ≤ 1000) (x : List Int) : k5 N st x = some (if 64 ≤ st.length then ([],4) else (st ++ [x],0)) := by
 unfold k5
 by_cases h : 64 ≤ st.length
 ·rw [if_pos (decide_eq_true (show (64 : Int) ≤ (st.length : Int) by omega)),if_pos h]
 ·have e : sub st 0 (st.length : Int) = some st := by
   unfold sub; rw [if_pos ⟨by omega,by omega,by omega⟩]; simp
  rw [if_neg (show ¬ decide ((64 : Int) ≤ (st.length : Int)) = true by simp; omega),if_neg h,e,Option.bind_some,vP (by simp; omega),Option.bind_some]
include hN
theorem aLf (st : List (List Int)) : vS N st = some (!tZ st) := by
 unfold vS tZ
 by_cases hl : 64 < st.length
 ·rw [if_pos (decide_eq_true (show (64 : Int) < (st.length : Int) by omega)),decide_eq_true hl]; rfl
 ·rw [if_neg (show ¬ decide ((64 : Int) < (st.length : Int)) = true by simp; omega),decide_eq_false hl]
  have := aAh (f := jV N st) (xs := st) (p := fun x => !decide (520 < (x.length : Int))) (r := true) (fun m j hj => by
   rw [jV,dT hj,if_pos rfl,d8 st hj,Option.bind_some,i1 (show j ≤ 100000 by omega)]
   cases decide (520 < ((st[j].length : Nat) : Int)) <;> rfl) (fun m j hj => by rw [jV,dF (by omega)]; rfl) N 0 (by omega) (by omega)
  rw [show ((0 : Nat) : Int) = 0 from rfl,List.drop_zero] at this
  rw [this,Option.bind_some]
  cases st.all fun x => !decide (520 < (x.length : Int)) <;> rfl
theorem aIV {l : List (List Int)} (hn : l.length ≤ 64) (hx : ∀ x ∈ l,x.length ≤ 520) : sC N l = some l := by
 have key : ∀ (f j : Nat) (acc : List (List Int)),l.length - j < f → j ≤ l.length → acc.length = j → iA N l f (j : Int) acc = some (acc ++ l.drop j) := by
  intro f
  induction f with
  | zero => intro j acc hf _ _; omega
  | succ f ih =>
   intro j acc hf hj ha
   rw [iA]
   by_cases h : j < l.length
   ·have hj' := hx _ (List.getElem_mem h)
    rw [dT h,if_pos rfl,d8 l h,Option.bind_some,aGe hN _ (by simp) (by simp; omega),Option.bind_some,vP (by simp; omega),Option.bind_some,i1 (by omega),ih (j + 1) _ (by omega) (by omega) (by simp [ha]),List.drop_eq_getElem_cons h]
    simp
   ·rw [dF h,List.drop_eq_nil_of_le (by omega),List.append_nil]
    rfl
 have hk := key N 0 [] (by omega) (by omega) rfl
 unfold sC
 rw [aJq (by have := kH; omega),Option.bind_some,show iA N l N 0 [] = _ from hk,Option.bind_some]
 rfl
end
end Go.Proofs.YtnllpckhipmpgaaGreatDoor
