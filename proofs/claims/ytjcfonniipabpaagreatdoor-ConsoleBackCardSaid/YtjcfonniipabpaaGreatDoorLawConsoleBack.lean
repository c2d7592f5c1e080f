/-
  THE LAW ConsoleBack: for all arguments the law that states that acts are read back from their text, and that reading, writing and reading again gives the same acts returns true, never panics, and leaves its input as it was. The five laid variables are as the pruned copy of the project has them; of these the proof uses strconv.uint64pow10.
-/
import Derived.Test.YtjcfonniipabpaaGreatDoorQConsoleAll7
set_option linter.unusedSimpArgs false
set_option linter.unusedVariables false
namespace Go.Proofs.YtjcfonniipabpaaGreatDoor
open Go Go.Vm
open Go.ChangeShapes Go.WideShapes Go.ChangeAt Go.RowKit
set_option maxRecDepth 100000 in
theorem consoleBack_contract (H : Type) (enc : TypeId × Value → H) (W : World) (base : Nat) (args : Array Value) (ds gs : List (DataW H)) (before : List MemPlace)
    (hval : ∀ (j : Nat) t v, Tryz.f6.params[j]? = some t → args[j]? = some v → Value.okWide Tryz.prog W .any base t v)
    (hW : DataW.Whole enc Tryz.prog Tryz.f6.params.toList Rows.consoleBackSpec.vars false W args.toList ds gs before) (hL : laidMetH Tryz.prog Rows.consoleBackRow.laid W) :
    Calls Tryz.prog 6 args W fun e W' => ∃ v, e = .returned v ∧ Rows.consoleBackSpec.post enc Tryz.prog Tryz.f6 false true false false W args v W' := by
  have hW' := hW
  obtain ⟨p, q, hA0, hV, rfl, hfz, hnd⟩ := hW
  have hA : DataW.TrodAll enc Tryz.prog W 0 (fun _ => true) true Tryz.f6.params.toList args.toList ds p := hA0
  rw [Tryz.params6] at hA hval
  have hA' := hA
  obtain ⟨v0, vs0, d0, ds0, p0, q0, hargs0, rfl, rfl, h0, r0⟩ := trodAll_cons hA
  obtain ⟨v1, vs1, d1, ds1, p1, q1, hargs1, rfl, rfl, h1, r1⟩ := trodAll_cons r0
  obtain ⟨hz, rfl, rfl⟩ := trodAll_nil r1
  obtain rfl : args = #[v0, v1] := by
    subst hz
    subst hargs1
    apply Array.ext'
    exact hargs0
  obtain ⟨rfl, rfl⟩ := trodVars_none hV
  obtain ⟨a0, w0, g0⟩ := pU Tryz.underlying22 (kD Tryz.underlying3) (by kernel_rfl) (by decide) (aAi (E := (eI .i64)) fun _ => rfl) (hval 0 22 v0 rfl rfl) h0
  obtain ⟨a1, w1, g1⟩ := xT Tryz.underlying9 (hval 1 9 v1 rfl rfl) h1
  clear hA0
  have hvs : VCells mA [] W [eL 1 (eI .i64) a0, eS a1] [v0, v1] := (dM g0 (dM g1 gF))
  have hfn := (uX (show iA NN a0 a1 = some true from (zZ _ _))).toP
  refine (oT (vs := [v0, v1]) Tryz.func6 rfl (by kernel_rfl) hfn (aCo hL) hvs).mono fun e W' ⟨he, bel⟩ => ?_
  subst he
  exact ⟨_, rfl, _, _, _, [], _, [], hW', trodAll_mk1 (shut_bool Tryz.underlying4 _), kR oJ bel (oU (by kernel_rfl)) hA', rfl, bel.frame _, fun h => by cases h⟩
theorem consoleBack_met (os : Os) : laidMet Tryz.prog Rows.consoleBackRow.laid ((fG os).forCall (fun _ _ => 0) ⟨#[], #[.slice none 0 0, .string ByteArray.empty], []⟩).memory :=
  laidMet_of_run' 8 (by kernel_rfl) (by kernel_rfl)
theorem consoleBack_reads (os : Os) {H : Type} (enc : TypeId × Value → H) : ∃ places, DataW.whole enc Tryz.prog ((fG os).forCall (fun _ _ => 0) ⟨#[], #[.slice none 0 0, .string ByteArray.empty], []⟩).memory Tryz.f6.params.toList Rows.consoleBackSpec.vars false (#[.slice none 0 0, .string ByteArray.empty] : Array Value).toList 8 = some ([.nil, .lit (.string [])], [], places) :=
  ⟨[], by kernel_rfl⟩
set_option maxRecDepth 100000 in
theorem consoleBack_lifted (os : Os) (started : os.Started) (H : Type) (enc : TypeId × Value → H) (F : Stop.Interp) :
    ReturnsInHanded {} Tryz.checked os 6 .any ((OpenSpec.ofChange Rows.consoleBackSpec).preRow enc Tryz.prog Tryz.f6 Rows.consoleBackRow.domain false Rows.consoleBackRow.laid) (((OpenSpec.ofChange Rows.consoleBackSpec).at F).post enc Tryz.prog Tryz.f6 false true false false) := by
  obtain ⟨places, hx⟩ := consoleBack_reads os enc
  refine returnsInHanded_of_row (C := Tryz.checked) (s := OpenSpec.ofChange Rows.consoleBackSpec) own started (by kernel_rfl) Tryz.func6
    (witness_row_at (enc := enc) (C := Tryz.checked) false (fG os) #[.slice none 0 0, .string ByteArray.empty] rfl (by kernel_rfl) (by kernel_rfl) (by kernel_rfl)
      (OpenSpec.preRow_of_cond 8 hx (by kernel_rfl) (fun k hk => by cases hk) (by kernel_rfl) (consoleBack_met os))) ?_
  intro W base args ds gs before hval hW _ _ _ hL _ _
  exact consoleBack_contract H enc W base args ds gs before hval hW hL
def consoleBack_list : List Nat := [6, 7, 14, 17, 30, 20, 19, 12, 52, 51, 80, 130, 236, 235, 232, 131, 85, 129, 151, 79, 251, 252, 233, 325, 152, 58, 95, 166, 264, 259, 167, 94, 165, 261, 262, 263, 343, 345, 416, 344, 132, 53, 81, 133, 237, 326, 32, 238, 154, 253, 169, 163, 337, 413, 168, 135, 134, 239, 137, 240, 241, 327, 409, 161, 138, 136, 147, 249, 335, 338, 128, 234, 323, 336, 149, 148, 250, 82, 139, 242, 328, 243, 87, 155, 254, 162, 260, 329, 330, 331, 332, 244, 140, 143, 245, 141, 246, 247, 333, 410, 334, 411, 471, 527, 565, 472, 473, 474, 475, 476, 477, 412, 478, 528, 255, 529, 530, 531, 566, 594, 626, 596, 599, 629, 647, 628, 627, 567, 595, 568, 598, 597, 600, 631, 649, 630, 648, 657, 532, 533, 569, 142, 144, 146, 248, 145, 83, 84, 150, 31, 54, 34, 27, 33, 55, 86, 153, 56, 89, 160, 90, 88, 156, 157, 257, 339, 340, 414, 256, 159, 158, 258, 341, 415, 342, 59, 96, 57, 91, 92, 93, 164, 35, 18, 9, 21, 41, 75, 123, 229, 124, 125, 126, 230, 22, 23, 43, 42, 76, 44, 77, 127, 231, 45, 36, 60, 61, 97, 170, 171, 172, 173, 265, 174, 175, 193, 176, 266, 177, 178, 267, 179, 198, 199, 200, 180, 98, 181, 99, 108, 211, 109, 212, 305, 213, 306, 401, 307, 308, 402, 309, 403, 310, 100, 62, 69, 113, 219, 114, 115, 116, 220, 316, 406, 317, 117, 221, 318, 319, 118, 222, 190, 223, 320, 112, 218, 224, 322, 407, 321, 408, 101, 182, 268, 346, 269, 271, 270, 272, 273, 347, 183, 274, 348, 295, 417, 479, 382, 418, 480, 481, 482, 485, 423, 424, 490, 483, 534, 419, 484, 535, 536, 275, 349, 350, 351, 377, 357, 430, 429, 431, 492, 493, 420, 486, 422, 489, 542, 421, 488, 540, 575, 576, 539, 541, 578, 610, 312, 577, 602, 570, 601, 603, 632, 604, 633, 634, 605, 635, 636, 650, 606, 607, 608, 609, 487, 537, 538, 571, 572, 573, 574, 352, 353, 425, 426, 428, 427, 491, 276, 354, 277, 355, 356, 278, 279, 358, 105, 184, 103, 191, 192, 194, 195, 196, 197, 281, 280, 210, 201, 204, 304, 202, 400, 399, 371, 450, 290, 282, 283, 359, 432, 494, 543, 579, 548, 586, 621, 620, 611, 120, 637, 638, 651, 652, 225, 581, 615, 616, 642, 654, 119, 226, 227, 655, 617, 643, 618, 644, 656, 658, 659, 666, 660, 661, 667, 668, 669, 662, 663, 664, 665, 645, 516, 564, 585, 580, 612, 547, 546, 497, 613, 639, 640, 614, 641, 653, 495, 544, 545, 583, 619, 584, 582, 444, 367, 447, 446, 442, 433, 285, 369, 496, 498, 360, 361, 362, 434, 499, 549, 500, 505, 555, 501, 550, 551, 587, 622, 435, 502, 552, 436, 437, 503, 187, 287, 288, 374, 451, 515, 563, 514, 189, 504, 554, 553, 506, 556, 557, 588, 558, 589, 590, 623, 646, 507, 438, 363, 439, 364, 440, 508, 559, 591, 624, 625, 592, 560, 593, 284, 365, 366, 441, 443, 509, 510, 561, 445, 368, 448, 511, 203, 449, 513, 512, 562, 286, 370, 372, 373, 63, 102, 185, 186, 188, 289, 64, 104, 107, 208, 207, 299, 300, 301, 397, 398, 470, 526, 302, 209, 303, 106, 205, 291, 292, 375, 452, 293, 294, 376, 296, 206, 297, 378, 379, 453, 380, 383, 456, 457, 381, 454, 455, 469, 525, 385, 459, 460, 461, 384, 458, 387, 462, 388, 463, 298, 386, 390, 464, 391, 465, 517, 519, 518, 520, 522, 521, 523, 524, 389, 393, 466, 394, 392, 396, 468, 395, 467, 65, 38, 67, 111, 214, 215, 311, 313, 216, 217, 314, 315, 404, 405, 37, 66, 110, 39, 68, 70, 71, 73, 121, 72, 74, 122, 228, 324, 40, 13, 15, 28, 49, 11]
theorem consoleBack_cl : Tryz.prog.closure 6 = consoleBack_list := Tryz.gtClosure (by kernel_rfl)
theorem consoleBack_in : (Rows.consoleBackRow.inPlace == Tryz.prog.inPlace 6) = true := by
  rw [Tryz.gtInPlace consoleBack_cl]
  kernel_rfl
theorem consoleBack_na : (Rows.consoleBackRow.named == Tryz.prog.varsNamed 6) = true := by
  rw [Tryz.gtNamed consoleBack_cl]
  kernel_rfl
theorem consoleBack_un : Tryz.prog.unfollowed 6 = true ∧ Tryz.prog.recurses 6 = true := by
  obtain ⟨c, hc⟩ : ∃ c, Tryz.f76.body = some c := ⟨_, rfl⟩
  refine nW (g := 76) (fn := Tryz.f76) (c := c) (by rw [consoleBack_cl]; kernel_rfl) Tryz.func76 hc ?_
  have h : (Tryz.f76.body.any fun c => c.unfollowed) = true := by kernel_rfl
  rw [hc] at h
  exact h
theorem consoleBack_uf : (Rows.consoleBackRow.unfollowed == Tryz.prog.unfollowed 6) = true := by
  rw [consoleBack_un.1]; rfl
theorem consoleBack_re : (Rows.consoleBackRow.recurses == Tryz.prog.recurses 6) = true := by
  rw [consoleBack_un.2]; rfl
set_option maxRecDepth 100000 in
theorem consoleBack_closed : joinedFacts Tryz.prog 6 Tryz.f6 (OpenSpec.ofChange Rows.consoleBackSpec).bare Rows.consoleBackRow = true := by
  unfold joinedFacts
  repeat' (with_reducible refine aA2 ?_ ?_)
  all_goals first | with_reducible exact oJ | with_reducible exact consoleBack_in | with_reducible exact consoleBack_uf | with_reducible exact consoleBack_re | with_reducible exact consoleBack_na | with_reducible exact Tryz.gfMaps | with_reducible exact Tryz.gfStops | with_reducible exact Tryz.gfKnobs | with_reducible exact Tryz.gfHeard | with_reducible exact Tryz.gfEnter | (rw [Tryz.gfPlainKeys]; rfl) | (as_aux_lemma => kernel_rfl)
theorem consoleBack_said : Rows.ConsoleBackSaid :=
  OpenClaim.holds_of_cond 6 Tryz.f6 rfl rfl rfl rfl rfl rfl rfl ⟨rfl, rfl, rfl, rfl, rfl⟩ rfl rfl rfl rfl rfl (by kernel_rfl) Tryz.func6 consoleBack_closed
    (of_decide_eq_true (by kernel_rfl)) (by unfold Func.isWrapper; first | (rw [if_pos (by decide +kernel)]; kernel_rfl) | (rw [if_neg (by decide +kernel)]; exact ⟨rfl, rfl⟩))
    (fun os started H enc _ F => by rw [OpenClaim.pre_eq_preRow]; exact consoleBack_lifted os started H enc F)
theorem consoleBack_plain (f : FuncId) (fn : Func) (hf : Tryz.pinned.checked.prog.funcNamed "lightclient/lightclientlaw45.ConsoleBack" = some f) (hfn : Tryz.pinned.checked.prog.funcs[f]? = some fn) :
    false = Tryz.pinned.checked.prog.looks [] ∧ ∀ (j : Nat) t, fn.params[j]? = some t → Tryz.pinned.checked.prog.wantsStandIn t = false := by
  obtain rfl : f = 6 := Option.some.inj ((show Tryz.prog.funcNamed "lightclient/lightclientlaw45.ConsoleBack" = some 6 by kernel_rfl).symm.trans hf) |>.symm
  obtain rfl : fn = Tryz.f6 := (Option.some.inj (Tryz.func6.symm.trans hfn)).symm
  refine ⟨Tryz.gfLooks.symm, fun j t ht => ?_⟩
  rw [Tryz.params6] at ht
  have hm : t ∈ [22, 9] := by simpa using Array.mem_of_getElem? ht
  have hall : ∀ u ∈ [22, 9], Tryz.prog.wantsStandIn u = false := by
    intro u hu
    have : ([22, 9].all fun u => !(Tryz.prog.wantsStandIn u)) = true := by kernel_rfl
    simpa using List.all_eq_true.1 this u hu
  exact hall t hm
theorem consoleBack_goes : false = Rows.consoleBackRow.goesBy Tryz.pinned.checked.prog := by
  show false = ((Tryz.prog.funcNamed Rows.consoleBackRow.func).any Tryz.prog.goes || false)
  rw [Tryz.gfGoesOf]; rfl
theorem consoleBack_holds : Rows.ConsoleBackCardSaid :=
  Claim7.holds_tied_plain_at .later [] _ _ _ _ consoleBack_said (fun _ h => by cases h) (by kernel_rfl) (fun _ h => by cases h) u7 rfl ⟨rfl, rfl⟩ (by kernel_rfl) rfl consoleBack_plain consoleBack_goes
end Go.Proofs.YtjcfonniipabpaaGreatDoor
