-- Written by xprint.py, a program of this session over the kit's print: not the print's own text.
import Derived.Test.YtkfehogefclhdaaPSmx0
import Derived.Test.YtkfehogefclhdaaPSmx3
namespace Go.Proofs.Ytkfehogefclhdaa.PSm
open Go.RowKit Go.Proofs.YtkfehogefclhdaaW.PrintWords Go.Proofs.YtkfehogefclhdaaW.PrintLast Go.Proofs.YtkfehogefclhdaaW.PrintMore
attribute [local go_sem] max2_int min2_int max_two min_two max_three min_three max_four min_four   -- for this text's walks alone
set_option linter.unusedVariables false
set_option linter.unusedSimpArgs false

/-! ### postbagref12_Match: function 7 -/
mutual
def postbagref12_Match.j0 : Nat → ByteArray → ByteArray → Int → Bool → Option (Bool)
  | 0, _, _, _, _ => none
  | k + 1, x0, x1, x5, x15 => if x15 = true then (postbagref12_Match.j1 k x0 x1 5) else (postbagref12_Match.j1 k x0 x1 x5)
def postbagref12_Match.j1 : Nat → ByteArray → ByteArray → Int → Option (Bool)
  | 0, _, _, _ => none
  | k + 1, x0, x1, x5 => if 0 ≤ (wrap64 ((x1.size : Int) + 1)) then (if (wrap64 ((x1.size : Int) + 1) : Int).toNat ≤ 281474976710656 then ((some (List.replicate (wrap64 ((x1.size : Int) + 1) : Int).toNat false : List Bool)).bind fun y125 => (if 0 < (y125.length : Int) then (postbagref12_Match.l0 k x0 x1 x5 (y125.set (0 : Int).toNat true) 0) else (none))) else (none)) else (none)
def postbagref12_Match.l0 : Nat → ByteArray → ByteArray → Int → List Bool → Int → Option (Bool)
  | 0, _, _, _, _, _ => none
  | k + 1, x0, x1, x5, x6, x7 => if x7 < (x0.size : Int) then (if 0 ≤ (wrap64 ((x1.size : Int) + 1)) then (if (wrap64 ((x1.size : Int) + 1) : Int).toNat ≤ 281474976710656 then (postbagref12_Match.l1 k x0 x1 x5 x6 x7 (List.replicate (wrap64 ((x1.size : Int) + 1) : Int).toNat false) 0) else (none)) else (none)) else (if 0 ≤ (x1.size : Int) then (if (x1.size : Int) < (x6.length : Int) then (some (rdOf false x6 (x1.size : Int))) else (none)) else (none))
def postbagref12_Match.l1 : Nat → ByteArray → ByteArray → Int → List Bool → Int → List Bool → Int → Option (Bool)
  | 0, _, _, _, _, _, _, _ => none
  | k + 1, x0, x1, x5, x6, x7, x8, x9 => if x9 ≤ (x1.size : Int) then (if 0 ≤ x7 then (if x7 < (x0.size : Int) then (if (bt x0 x7) = 42 then (postbagref12_Match.j4 k x0 x1 x5 x6 x7 x8 x9 true) else (postbagref12_Match.j4 k x0 x1 x5 x6 x7 x8 x9 ((bt x0 x7) == 37))) else (none)) else (none)) else (postbagref12_Match.l0 k x0 x1 x5 x8 (wrap64 (x7 + 1)))
def postbagref12_Match.j4 : Nat → ByteArray → ByteArray → Int → List Bool → Int → List Bool → Int → Bool → Option (Bool)
  | 0, _, _, _, _, _, _, _, _ => none
  | k + 1, x0, x1, x5, x6, x7, x8, x9, x47 => if x47 = true then (if 0 ≤ x9 then (if x9 < (x6.length : Int) then (if rdOf false x6 x9 = true then (if x9 < (x8.length : Int) then (postbagref12_Match.l1 k x0 x1 x5 x6 x7 (x8.set (x9 : Int).toNat true) (wrap64 (x9 + 1))) else (none)) else (if x9 > 0 then (if 0 ≤ (wrap64 (x9 - 1)) then (if (wrap64 (x9 - 1)) < (x8.length : Int) then (if rdOf false x8 (wrap64 (x9 - 1)) = true then (if 0 ≤ x7 then (if x7 < (x0.size : Int) then (if (bt x0 x7) = 42 then (if x9 < (x8.length : Int) then (postbagref12_Match.l1 k x0 x1 x5 x6 x7 (x8.set (x9 : Int).toNat true) (wrap64 (x9 + 1))) else (none)) else (if (wrap64 (x9 - 1)) < (x1.size : Int) then (if x9 < (x8.length : Int) then (postbagref12_Match.l1 k x0 x1 x5 x6 x7 (x8.set (x9 : Int).toNat ((bt x1 (wrap64 (x9 - 1))) != 47)) (wrap64 (x9 + 1))) else (none)) else (none))) else (none)) else (none)) else (if x9 < (x8.length : Int) then (postbagref12_Match.l1 k x0 x1 x5 x6 x7 (x8.set (x9 : Int).toNat false) (wrap64 (x9 + 1))) else (none))) else (none)) else (none)) else (if x9 < (x8.length : Int) then (postbagref12_Match.l1 k x0 x1 x5 x6 x7 (x8.set (x9 : Int).toNat false) (wrap64 (x9 + 1))) else (none)))) else (none)) else (none)) else (if x9 = 0 then (postbagref12_Match.j5 k x0 x1 x5 x6 x7 x8 x9 true) else (if 0 ≤ (wrap64 (x9 - 1)) then (if (wrap64 (x9 - 1)) < (x6.length : Int) then (postbagref12_Match.j5 k x0 x1 x5 x6 x7 x8 x9 (!(rdOf false x6 (wrap64 (x9 - 1))))) else (none)) else (none)))
def postbagref12_Match.j5 : Nat → ByteArray → ByteArray → Int → List Bool → Int → List Bool → Int → Bool → Option (Bool)
  | 0, _, _, _, _, _, _, _, _ => none
  | k + 1, x0, x1, x5, x6, x7, x8, x9, x88 => if x88 = true then (postbagref12_Match.l1 k x0 x1 x5 x6 x7 x8 (wrap64 (x9 + 1))) else (if 0 ≤ x7 then (if x7 < (x0.size : Int) then (if 0 ≤ (wrap64 (x9 - 1)) then (if (wrap64 (x9 - 1)) < (x1.size : Int) then (if (bt x0 x7) = (bt x1 (wrap64 (x9 - 1))) then (if 0 ≤ x9 then (if x9 < (x8.length : Int) then (postbagref12_Match.l1 k x0 x1 x5 x6 x7 (x8.set (x9 : Int).toNat true) (wrap64 (x9 + 1))) else (none)) else (none)) else (if x9 ≤ x5 then ((postbagref12_lower.f (bt x0 x7)).bind fun t142 => ((postbagref12_lower.f (bt x1 (wrap64 (x9 - 1)))).bind fun t143 => (if 0 ≤ x9 then (if x9 < (x8.length : Int) then (postbagref12_Match.l1 k x0 x1 x5 x6 x7 (x8.set (x9 : Int).toNat (t142 == t143)) (wrap64 (x9 + 1))) else (none)) else (none)))) else (if 0 ≤ x9 then (if x9 < (x8.length : Int) then (postbagref12_Match.l1 k x0 x1 x5 x6 x7 (x8.set (x9 : Int).toNat false) (wrap64 (x9 + 1))) else (none)) else (none)))) else (none)) else (none)) else (none)) else (none))
end
def postbagref12_Match.f (k : Nat) (a0 : ByteArray) (a1 : ByteArray) : Option (Bool) := if a1.toList = ([73, 78, 66, 79, 88] : List UInt8) then (postbagref12_Match.j0 k a0 a1 0 true) else ((postbagref12_below.f a1 (⟨#[73, 78, 66, 79, 88]⟩ : ByteArray)).bind fun t124 => (postbagref12_Match.j0 k a0 a1 0 t124))
theorem postbagref12_Match.mono_l : ∀ k, (∀ y0 y1 y2 y3, LeO (postbagref12_Match.j0 k y0 y1 y2 y3) (postbagref12_Match.j0 (k + 1) y0 y1 y2 y3)) ∧ (∀ y0 y1 y2, LeO (postbagref12_Match.j1 k y0 y1 y2) (postbagref12_Match.j1 (k + 1) y0 y1 y2)) ∧ (∀ y0 y1 y2 y3 y4, LeO (postbagref12_Match.l0 k y0 y1 y2 y3 y4) (postbagref12_Match.l0 (k + 1) y0 y1 y2 y3 y4)) ∧ (∀ y0 y1 y2 y3 y4 y5 y6, LeO (postbagref12_Match.l1 k y0 y1 y2 y3 y4 y5 y6) (postbagref12_Match.l1 (k + 1) y0 y1 y2 y3 y4 y5 y6)) ∧ (∀ y0 y1 y2 y3 y4 y5 y6 y7, LeO (postbagref12_Match.j4 k y0 y1 y2 y3 y4 y5 y6 y7) (postbagref12_Match.j4 (k + 1) y0 y1 y2 y3 y4 y5 y6 y7)) ∧ (∀ y0 y1 y2 y3 y4 y5 y6 y7, LeO (postbagref12_Match.j5 k y0 y1 y2 y3 y4 y5 y6 y7) (postbagref12_Match.j5 (k + 1) y0 y1 y2 y3 y4 y5 y6 y7))
  | 0 => ⟨fun _ _ _ _ r h => by simp [postbagref12_Match.j0] at h, fun _ _ _ r h => by simp [postbagref12_Match.j1] at h, fun _ _ _ _ _ r h => by simp [postbagref12_Match.l0] at h, fun _ _ _ _ _ _ _ r h => by simp [postbagref12_Match.l1] at h, fun _ _ _ _ _ _ _ _ r h => by simp [postbagref12_Match.j4] at h, fun _ _ _ _ _ _ _ _ r h => by simp [postbagref12_Match.j5] at h⟩
  | k + 1 => by
    obtain ⟨ih0, ih1, ih2, ih3, ih4, ih5⟩ := postbagref12_Match.mono_l k
    refine ⟨?_, ?_, ?_, ?_, ?_, ?_⟩
    · intro y0 y1 y2 y3
      unfold postbagref12_Match.j0
      repeat' first
      | (with_reducible exact ih0 _ _ _ _)
      | (with_reducible exact ih1 _ _ _)
      | (with_reducible exact ih2 _ _ _ _ _)
      | (with_reducible exact ih3 _ _ _ _ _ _ _)
      | (with_reducible exact ih4 _ _ _ _ _ _ _ _)
      | (with_reducible exact ih5 _ _ _ _ _ _ _ _)
      | (with_reducible exact LeO.refl _)
      | (with_reducible exact LeO.none _)
      | (with_reducible refine LeO.ite ?_ ?_)
      | (with_reducible refine LeO.bind ?_ (fun _ => ?_))
      | exact ih0 _ _ _ _
      | exact ih1 _ _ _
      | exact ih2 _ _ _ _ _
      | exact ih3 _ _ _ _ _ _ _
      | exact ih4 _ _ _ _ _ _ _ _
      | exact ih5 _ _ _ _ _ _ _ _
      | exact LeO.none _
      | refine LeO.ite ?_ ?_
      | refine LeO.bind ?_ (fun _ => ?_)
    · intro y0 y1 y2
      unfold postbagref12_Match.j1
      repeat' first
      | (with_reducible exact ih0 _ _ _ _)
      | (with_reducible exact ih1 _ _ _)
      | (with_reducible exact ih2 _ _ _ _ _)
      | (with_reducible exact ih3 _ _ _ _ _ _ _)
      | (with_reducible exact ih4 _ _ _ _ _ _ _ _)
      | (with_reducible exact ih5 _ _ _ _ _ _ _ _)
      | (with_reducible exact LeO.refl _)
      | (with_reducible exact LeO.none _)
      | (with_reducible refine LeO.ite ?_ ?_)
      | (with_reducible refine LeO.bind ?_ (fun _ => ?_))
      | exact ih0 _ _ _ _
      | exact ih1 _ _ _
      | exact ih2 _ _ _ _ _
      | exact ih3 _ _ _ _ _ _ _
      | exact ih4 _ _ _ _ _ _ _ _
      | exact ih5 _ _ _ _ _ _ _ _
      | exact LeO.none _
      | refine LeO.ite ?_ ?_
      | refine LeO.bind ?_ (fun _ => ?_)
    · intro y0 y1 y2 y3 y4
      unfold postbagref12_Match.l0
      repeat' first
      | (with_reducible exact ih0 _ _ _ _)
      | (with_reducible exact ih1 _ _ _)
      | (with_reducible exact ih2 _ _ _ _ _)
      | (with_reducible exact ih3 _ _ _ _ _ _ _)
      | (with_reducible exact ih4 _ _ _ _ _ _ _ _)
      | (with_reducible exact ih5 _ _ _ _ _ _ _ _)
      | (with_reducible exact LeO.refl _)
      | (with_reducible exact LeO.none _)
      | (with_reducible refine LeO.ite ?_ ?_)
      | (with_reducible refine LeO.bind ?_ (fun _ => ?_))
      | exact ih0 _ _ _ _
      | exact ih1 _ _ _
      | exact ih2 _ _ _ _ _
      | exact ih3 _ _ _ _ _ _ _
      | exact ih4 _ _ _ _ _ _ _ _
      | exact ih5 _ _ _ _ _ _ _ _
      | exact LeO.none _
      | refine LeO.ite ?_ ?_
      | refine LeO.bind ?_ (fun _ => ?_)
    · intro y0 y1 y2 y3 y4 y5 y6
      unfold postbagref12_Match.l1
      repeat' first
      | (with_reducible exact ih0 _ _ _ _)
      | (with_reducible exact ih1 _ _ _)
      | (with_reducible exact ih2 _ _ _ _ _)
      | (with_reducible exact ih3 _ _ _ _ _ _ _)
      | (with_reducible exact ih4 _ _ _ _ _ _ _ _)
      | (with_reducible exact ih5 _ _ _ _ _ _ _ _)
      | (with_reducible exact LeO.refl _)
      | (with_reducible exact LeO.none _)
      | (with_reducible refine LeO.ite ?_ ?_)
      | (with_reducible refine LeO.bind ?_ (fun _ => ?_))
      | exact ih0 _ _ _ _
      | exact ih1 _ _ _
      | exact ih2 _ _ _ _ _
      | exact ih3 _ _ _ _ _ _ _
      | exact ih4 _ _ _ _ _ _ _ _
      | exact ih5 _ _ _ _ _ _ _ _
      | exact LeO.none _
      | refine LeO.ite ?_ ?_
      | refine LeO.bind ?_ (fun _ => ?_)
    · intro y0 y1 y2 y3 y4 y5 y6 y7
      unfold postbagref12_Match.j4
      repeat' first
      | (with_reducible exact ih0 _ _ _ _)
      | (with_reducible exact ih1 _ _ _)
      | (with_reducible exact ih2 _ _ _ _ _)
      | (with_reducible exact ih3 _ _ _ _ _ _ _)
      | (with_reducible exact ih4 _ _ _ _ _ _ _ _)
      | (with_reducible exact ih5 _ _ _ _ _ _ _ _)
      | (with_reducible exact LeO.refl _)
      | (with_reducible exact LeO.none _)
      | (with_reducible refine LeO.ite ?_ ?_)
      | (with_reducible refine LeO.bind ?_ (fun _ => ?_))
      | exact ih0 _ _ _ _
      | exact ih1 _ _ _
      | exact ih2 _ _ _ _ _
      | exact ih3 _ _ _ _ _ _ _
      | exact ih4 _ _ _ _ _ _ _ _
      | exact ih5 _ _ _ _ _ _ _ _
      | exact LeO.none _
      | refine LeO.ite ?_ ?_
      | refine LeO.bind ?_ (fun _ => ?_)
    · intro y0 y1 y2 y3 y4 y5 y6 y7
      unfold postbagref12_Match.j5
      repeat' first
      | (with_reducible exact ih0 _ _ _ _)
      | (with_reducible exact ih1 _ _ _)
      | (with_reducible exact ih2 _ _ _ _ _)
      | (with_reducible exact ih3 _ _ _ _ _ _ _)
      | (with_reducible exact ih4 _ _ _ _ _ _ _ _)
      | (with_reducible exact ih5 _ _ _ _ _ _ _ _)
      | (with_reducible exact LeO.refl _)
      | (with_reducible exact LeO.none _)
      | (with_reducible refine LeO.ite ?_ ?_)
      | (with_reducible refine LeO.bind ?_ (fun _ => ?_))
      | exact ih0 _ _ _ _
      | exact ih1 _ _ _
      | exact ih2 _ _ _ _ _
      | exact ih3 _ _ _ _ _ _ _
      | exact ih4 _ _ _ _ _ _ _ _
      | exact ih5 _ _ _ _ _ _ _ _
      | exact LeO.none _
      | refine LeO.ite ?_ ?_
      | refine LeO.bind ?_ (fun _ => ?_)
theorem postbagref12_Match.mono : ∀ a0 a1 k, LeO (postbagref12_Match.f k a0 a1) (postbagref12_Match.f (k + 1) a0 a1) := by
  intro a0 a1 k
  obtain ⟨ih0, ih1, ih2, ih3, ih4, ih5⟩ := postbagref12_Match.mono_l k
  unfold postbagref12_Match.f
  repeat' first
      | (with_reducible exact ih0 _ _ _ _)
      | (with_reducible exact ih1 _ _ _)
      | (with_reducible exact ih2 _ _ _ _ _)
      | (with_reducible exact ih3 _ _ _ _ _ _ _)
      | (with_reducible exact ih4 _ _ _ _ _ _ _ _)
      | (with_reducible exact ih5 _ _ _ _ _ _ _ _)
      | (with_reducible exact LeO.refl _)
      | (with_reducible exact LeO.none _)
      | (with_reducible refine LeO.ite ?_ ?_)
      | (with_reducible refine LeO.bind ?_ (fun _ => ?_))
      | exact ih0 _ _ _ _
      | exact ih1 _ _ _
      | exact ih2 _ _ _ _ _
      | exact ih3 _ _ _ _ _ _ _
      | exact ih4 _ _ _ _ _ _ _ _
      | exact ih5 _ _ _ _ _ _ _ _
      | exact LeO.none _
      | refine LeO.ite ?_ ?_
      | refine LeO.bind ?_ (fun _ => ?_)
def postbagref12_Match.T16 : Bool × List (List Nat × List Nat) := (true, [([], []), ([], []), ([], []), ([], []), ([2, 3], [2, 3]), ([], []), ([], []), ([6], [6]), ([5, 7], [5, 7]), ([4, 8], [4, 8]), ([9], [9]), ([10], [10]), ([10], [10]), ([11, 12, 10], [10, 11, 12]), ([13, 10, 10], [10, 13]), ([14], [14]), ([14], [14]), ([15, 16, 14], [14, 15, 16]), ([17, 14, 14], [14, 17]), ([14], [14]), ([14], [14]), ([20, 14], [14, 20]), ([19, 21, 14], [14, 19, 21]), ([22, 18, 14], [14, 22]), ([18, 23, 14], [14, 18, 23]), ([14, 24, 10], [10, 14, 24]), ([10, 25], [10, 25]), ([0, 1, 0, 1, 2, 3, 4, 5, 6, 7, 8, 9, 10, 11, 12, 13, 14, 15, 16, 17, 18, 19, 20, 21, 22, 23, 24, 25, 26], [0, 1]), ([27, 26, 23, 0, 1, 2, 3, 4, 5, 6, 7, 8, 9, 10, 11, 12, 13, 14, 15, 16, 17, 18, 19, 20, 21, 22, 23, 24, 25, 26], [26, 27])])
def postbagref12_Match.B16 : List Nat := [0, 0, 0, 0, 12, 0, 0, 64, 224, 508, 1020, 2044, 2044, 8188, 16380, 32764, 32764, 131068, 262140, 32764, 32764, 1081340, 3702780, 8388604, 16777212, 33554428, 67108860, 134217727, 268435455]
theorem postbagref12_Match.tab16 : rtab .any (opsOf Try.f7 16) = postbagref12_Match.T16 := by kernel_rfl
theorem postbagref12_Match.bits16 : waitsOk postbagref12_Match.T16.2 postbagref12_Match.B16 = true := by kernel_rfl
set_option maxHeartbeats 8000000 in
set_option maxRecDepth 100000 in
theorem postbagref12_Match.calls (k : Nat) (a0 : ByteArray) (a1 : ByteArray) (r : Bool) (w : World) (h : postbagref12_Match.f k a0 a1 = some r) :
    Calls Try.prog 7 #[.string a0, .string a1] w fun e w' => e = .returned (.bool r) ∧ Below w.heap.size w w' := by
  have HB := Aside0.mk (Below.refl w.heap.size w)
  have H : (if a1.toList = ([73, 78, 66, 79, 88] : List UInt8) then (postbagref12_Match.j0 k a0 a1 0 true) else ((postbagref12_below.f a1 (⟨#[73, 78, 66, 79, 88]⟩ : ByteArray)).bind fun t124 => (postbagref12_Match.j0 k a0 a1 0 t124))) = some r := h
  clear h
  have HC3 := Aside0.mk H
  clear H
  go_enter Try.func7, Try.ntmps7
  go_upto_region 2 with (fail)
  go_cut [15] (fun v15 wc => ∃ (kq : Nat) (x15_2 : Bool), v15 = .bool x15_2 ∧ Aside0 (postbagref12_Match.j0 kq a0 a1 0 x15_2 = some r) ∧ Aside0 (kq ≤ k) ∧ Aside0 (Below w.heap.size w wc))
  case first =>
    have H := HC3.out
    clear HC3
    by_cases c4 : a1.toList = ([73, 78, 66, 79, 88] : List UInt8)
    · rw [if_pos c4] at H
      have c4b0 : (a1.toList == ([73, 78, 66, 79, 88] : List UInt8)) = true := beq_iff_eq.mpr c4
      have c4b1 : (a1.toList != ([73, 78, 66, 79, 88] : List UInt8)) = false := bne_eq_false_iff_eq.mpr c4
      clear c4
      (first | rw [c4b0] | (simp only [i64_w, i32_w]; rw [c4b0]) | skip)
      have H' := Aside0.mk H
      clear H
      go_wp2
      go_meet
      case rel => exact ⟨_, (true), (by first | rfl | (simp; done) | (simp [*]; done) | (simp [bne, *]; done)), H', ⟨by first | omega | exact Nat.le_refl _⟩, ⟨by repeat (first | (with_reducible first | exact HB.out | apply below_alloc | apply pw_below_drewN | apply below_drew1) | exact HB.out)⟩⟩
    · rw [if_neg c4] at H
      have c4b0 : (a1.toList == ([73, 78, 66, 79, 88] : List UInt8)) = false := beq_eq_false_iff_ne.mpr c4
      have c4b1 : (a1.toList != ([73, 78, 66, 79, 88] : List UInt8)) = true := bne_iff_ne.mpr c4
      (first | rw [c4b0] | (simp only [i64_w, i32_w]; rw [c4b0]) | skip)
      replace H := Option.bind_eq_some_iff.mp H
      obtain ⟨t124, A50, H⟩ := H
      replace H : (postbagref12_Match.j0 k a0 a1 0 t124) = some r := H
      have A5 := Aside0.mk A50
      clear A50
      have H' := Aside0.mk H
      clear H
      go_wp2_with (first | (go_at_call 13; (with_reducible refine (postbagref12_below.calls a1 (⟨#[73, 78, 66, 79, 88]⟩ : ByteArray) t124 _ A5.out).mono ?_); rintro e w' ⟨rfl, ⟨nd, rfl⟩⟩))
      go_meet
      case rel => exact ⟨_, (t124), (by first | rfl | (simp; done) | (simp [*]; done) | (simp [bne, *]; done)), H', ⟨by first | omega | exact Nat.le_refl _⟩, ⟨by repeat (first | (with_reducible first | exact HB.out | apply below_alloc | apply pw_below_drewN | apply below_drew1) | exact HB.out)⟩⟩
  case rest =>
    clear HC3
    try clear p2
    try clear c4
    try clear c4b0
    try clear c4b1
    obtain ⟨kq, x15_2, rfl, HA, HJ2, HB⟩ := hcut
    cases kq with
    | zero => exact absurd HA.out (by simp [postbagref12_Match.j0])
    | succ kj2 =>
      have H := HA.out
      clear HA
      simp only [postbagref12_Match.j0] at H
      have HC6 := Aside0.mk H
      clear H
      go_upto_if 15 with (fail)
      go_cut [5] (fun v5 wc => ∃ (kq : Nat) (x5_5 : Int), v5 = .int .i64 x5_5 ∧ Aside0 (postbagref12_Match.j1 kq a0 a1 x5_5 = some r) ∧ Aside0 (kq ≤ kj2) ∧ Aside0 (Below w.heap.size w wc))
      case first =>
        have H := HC6.out
        clear HC6
        by_cases c7 : x15_2 = true
        · subst c7
          have H1 : (postbagref12_Match.j1 kj2 a0 a1 5) = some r := by rw [if_pos rfl] at H; exact H
          clear H
          have H := H1
          clear H1
          have H' := Aside0.mk H
          clear H
          go_wp2
          go_meet
          case rel => exact ⟨_, (5), (by first | rfl | (simp; done) | (simp [*]; done) | (simp [bne, *]; done)), H', ⟨by have := HJ2.out; first | omega | exact Nat.le_refl _⟩, ⟨by repeat (first | (with_reducible first | exact HB.out | apply below_alloc | apply pw_below_drewN | apply below_drew1) | exact HB.out)⟩⟩
        · replace c7 := Bool.eq_false_iff.mpr c7
          subst c7
          have H1 : (postbagref12_Match.j1 kj2 a0 a1 0) = some r := by rw [if_neg (show ¬ (false = true) by decide)] at H; exact H
          clear H
          have H := H1
          clear H1
          have H' := Aside0.mk H
          clear H
          go_wp2
          go_meet
          case rel => exact ⟨_, (0), (by first | rfl | (simp; done) | (simp [*]; done) | (simp [bne, *]; done)), H', ⟨by have := HJ2.out; first | omega | exact Nat.le_refl _⟩, ⟨by repeat (first | (with_reducible first | exact HB.out | apply below_alloc | apply pw_below_drewN | apply below_drew1) | exact HB.out)⟩⟩
      case rest =>
        clear HC6
        try clear p2
        try clear c4
        try clear c4b0
        try clear c4b1
        try clear c7
        try clear p2
        obtain ⟨kq, x5_5, rfl, HA, HJ5, HB⟩ := hcut
        cases kq with
        | zero => exact absurd HA.out (by simp [postbagref12_Match.j1])
        | succ kj5 =>
          have H := HA.out
          clear HA
          simp only [postbagref12_Match.j1] at H
          obtain ⟨ji8, hji8⟩ : ∃ j_ : Int, (wrap64 ((a1.size : Int) + 1)) = j_ := ⟨_, rfl⟩
          replace H : (if 0 ≤ (ji8) then (if (ji8 : Int).toNat ≤ 281474976710656 then ((some (List.replicate (ji8 : Int).toNat false : List Bool)).bind fun y125 => (if 0 < (y125.length : Int) then (postbagref12_Match.l0 kj5 a0 a1 x5_5 (y125.set (0 : Int).toNat true) 0) else (none))) else (none)) else (none)) = some r := by first | (rw [hji8] at H; exact H) | (simp only [hji8] at H ⊢; exact H)
          have hji8w : (IntKind.i64.wrap ((a1.size : Int) + 1)) = ji8 := (i64_w _).trans hji8
          by_cases c9 : 0 ≤ (ji8)
          · rw [if_pos c9] at H
            have c9b0 := eq_true c9
            have c9b1 : decide (0 ≤ (ji8)) = true := decide_eq_true c9
            clear c9
            by_cases c10 : (ji8 : Int).toNat ≤ 281474976710656
            · rw [if_pos c10] at H
              have c10b0 := eq_true c10
              have c10b1 : decide ((ji8 : Int).toNat ≤ 281474976710656) = true := decide_eq_true c10
              clear c10
              obtain ⟨y125, hy125⟩ : ∃ y_ : List Bool, y_ = (List.replicate (ji8 : Int).toNat false) := ⟨_, rfl⟩
              replace H : (if 0 < (y125.length : Int) then (postbagref12_Match.l0 kj5 a0 a1 x5_5 (y125.set (0 : Int).toNat true) 0) else (none)) = some r := by first | (rw [hy125]; with_reducible exact H) | (have H2_ := (Option.bind_some _ _).symm.trans H; rw [hy125]; with_reducible exact H2_) | (have H2_ := (Option.bind_some _ _).symm.trans H; with_reducible exact H2_) | with_reducible exact H | (rw [hy125]; exact H) | exact H
              have Ny125 := Aside0.mk hy125
              clear hy125
              by_cases c11 : 0 < (y125.length : Int)
              · rw [if_pos c11] at H
                have c11b0 : decide (0 < (y125.length : Int)) = true := decide_eq_true c11
                have c11b1 : decide (0 < y125.length) = true := decide_eq_true (by omega)
                clear c11
                obtain ⟨y128, hy128⟩ : ∃ y_ : List Bool, y_ = (y125.set (0 : Int).toNat true) := ⟨_, rfl⟩
                replace H : (postbagref12_Match.l0 kj5 a0 a1 x5_5 y128 0) = some r := by first | (rw [hy128]; with_reducible exact H) | (have H2_ := (Option.bind_some _ _).symm.trans H; rw [hy128]; with_reducible exact H2_) | (have H2_ := (Option.bind_some _ _).symm.trans H; with_reducible exact H2_) | with_reducible exact H | (rw [hy128]; exact H) | exact H
                have Ny128 := Aside0.mk hy128
                clear hy128
                have H' := Aside0.mk H
                clear H
                go_wp2_with (first | ((with_reducible refine gate_dst (N := 19) rfl ?_); refine Kd.R_make Kd.bool _ 4 rfl (N := 19) rfl 26 _ _ rfl ji8 rfl rfl Try.underlying26 (.bool false) 1 info4 rfl (by decide) (by omega) false (ok := fun _ => True) (okp := fun _ => True) rfl (fun _ hk => hk) trivial (of_decide_eq_true (by first | (with_reducible assumption) | assumption)) (Nat.le_trans (Nat.mul_le_mul_right _ (of_decide_eq_true (by first | (with_reducible assumption) | assumption) : ji8.toNat ≤ 281474976710656)) (by omega)) (Below.refl _ _) (Nat.le_refl _) ?_; intro v126 w13 ho14 hb hg_ hnew_; clear hg_ hnew_; (first | rw [← Ny125.out] at ho14 | (simp only [Int.reduceToNat] at ho14; rw [← Ny125.out] at ho14)); have n0_ := Aside0.mk (Kd.R_lower ho14 (below_size (by repeat (first | (with_reducible first | exact HB.out | apply below_alloc | apply pw_below_drewN | apply below_drew1) | exact HB.out)))); have n1_ := Aside0.mk (below_step (by repeat (first | (with_reducible first | exact HB.out | apply below_alloc | apply pw_below_drewN | apply below_drew1) | exact HB.out)) hb); clear HB; have HO127 := n0_; have HB := n1_; clear n0_ n1_; clear hb ho14; have p12 : 0 ≤ (0 : Int) := (by omega); have q12 : (0 : Int) < ((y125.length : Int) : Int) := of_decide_eq_true (by first | (with_reducible assumption) | assumption); have qi12 : (0 < y125.length) = True := eq_true (by omega); obtain ⟨go12, co12, eo12, gb12, gl12, cl12, HG12⟩ := Kd.R_form HO127.out (by omega); (first | cases eo12 | (injection eo12 with ea_ en_ ec_; (first | subst ea_ | (injection ea_ with ea_; subst ea_)); subst ec_; clear en_)); have GB12 := Aside0.mk gb12; have GG12 := Aside0.mk HG12; clear gb12 gl12 HG12; obtain ⟨hx12_0, hf12_0⟩ := Kd.R_celln false HO127.out (0 : Int) p12 q12; (try rw [show ((0 : Int)).toNat = 0 from rfl] at hx12_0); (try simp only [Nat.reduceMul, Nat.zero_mul, Nat.zero_add, Nat.reduceAdd] at hx12_0); (try rw [show ((0 : Int)).toNat = 0 from rfl] at hf12_0); (try simp only [Nat.reduceMul, Nat.zero_mul, Nat.zero_add, Nat.reduceAdd] at hf12_0); replace p12 := eq_true p12; replace q12 := eq_true q12; obtain ⟨hy15_, hz15_⟩ := Kd.R_celln false HO127.out (0 : Int) (by omega) (of_decide_eq_true (by first | (with_reducible assumption) | assumption)); (try simp only [Int.reduceToNat, Int.toNat_zero, Int.toNat_ofNat, Nat.reduceMul, Nat.zero_mul, Nat.zero_add] at hy15_ hz15_); (try rw [show ((0 : Int)).toNat = 0 from rfl] at hy15_); (try rw [show ((0 : Int)).toNat = 0 from rfl] at hz15_); have HP15 := Kd.R_putg HO127.out (0 : Int) true) | ((with_reducible refine gate_store (t := 4) (p := 21) rfl ?_); refine store_event (t := 4) (p := 21) (v := ?vo_w16) (w1 := (w13.setCell ⟨go12, (0 : Int).toNat, none⟩ (.bool true))) ?hg ?ho ?hn ?hr ?_; (case ho => rfl); (case hg => rfl); (case hn => rfl); (case hr => first | (go_simp; done) | (go_simp; rfl)); intro w16 hw; have hg : w13.grownBy w16 (some go12) := (by rw [hw]; exact HP15.2); have hp_ : Kd.R Kd.bool 4 w16 w.heap.size (fun _ => True) (.slice (some ⟨go12, 0, none⟩) y125.length co12) y128 := (by rw [hw, Ny128.out]; exact HP15.1); clear HP15; have n0_ := Aside0.mk (hp_); have n1_ := Aside0.mk ((by rw [hw]; exact below_set (HB.out) GB12.out : Below w.heap.size w w16)); clear HO127; clear HB; have HO127 := n0_; have HB := n1_; clear n0_ n1_; clear hg hw hp_))
                go_loopg [6, 7] kj5 (fun kq v6 v7 w' => ∃ (x6_3 : List Bool) (x7_3 : Int), v7 = .int .i64 x7_3 ∧ Aside0 (postbagref12_Match.l0 kq a0 a1 x5_5 x6_3 x7_3 = some r) ∧ Aside0 (kq ≤ kj5) ∧ Aside0 (Kd.R Kd.bool 4 w' w.heap.size (fun _ => True) v6 x6_3) ∧ Aside0 (Below w.heap.size w w'))
                case atStart => exact ⟨(y128), (0), (by first | rfl | (simp; done) | (simp [*]; done) | (simp [bne, *]; done)), H', ⟨Nat.le_refl _⟩, ⟨by (with_reducible repeat (first | apply Kd.R_alloc | apply Kd.R_drewN | apply Kd.R_drew)); exact HO127.out⟩, ⟨by repeat (first | (with_reducible first | exact HB.out | apply below_alloc | apply pw_below_drewN | apply below_drew1) | exact HB.out)⟩⟩
                case round =>
                  clear H'
                  try clear c1
                  try clear p1
                  try clear q1
                  try clear hx1
                  try clear qi1
                  try clear p2
                  try clear c4
                  try clear c4b0
                  try clear c4b1
                  try clear p6
                  try clear c7
                  try clear c9
                  try clear c9b0
                  try clear c9b1
                  try clear c10
                  try clear c10b0
                  try clear c10b1
                  try clear c11
                  try clear c11b0
                  try clear c11b1
                  try clear p12
                  try clear q12
                  try clear hx12
                  try clear qi12
                  try clear hf12
                  try clear hx12_0
                  try clear p12
                  try clear p2
                  try clear q12
                  obtain ⟨x6_3, x7_3, rfl, HA, HK3, HO_6, HB⟩ := hrel
                  cases gk with
                  | zero => exact absurd HA.out (by simp [postbagref12_Match.l0])
                  | succ k3 =>
                    have H := HA.out
                    clear HA
                    simp only [postbagref12_Match.l0] at H
                    by_cases c17 : x7_3 < (a0.size : Int)
                    · rw [if_pos c17] at H
                      have c17b0 : decide (x7_3 < (a0.size : Int)) = true := decide_eq_true c17
                      clear c17
                      replace H : (if 0 ≤ (ji8) then (if (ji8 : Int).toNat ≤ 281474976710656 then (postbagref12_Match.l1 k3 a0 a1 x5_5 x6_3 x7_3 (List.replicate (ji8 : Int).toNat false) 0) else (none)) else (none)) = some r := by first | (rw [hji8] at H; exact H) | (simp only [hji8] at H ⊢; exact H)
                      by_cases c18 : 0 ≤ (ji8)
                      · rw [if_pos c18] at H
                        have c18b0 := eq_true c18
                        have c18b1 : decide (0 ≤ (ji8)) = true := decide_eq_true c18
                        clear c18
                        by_cases c19 : (ji8 : Int).toNat ≤ 281474976710656
                        · rw [if_pos c19] at H
                          have c19b0 := eq_true c19
                          have c19b1 : decide ((ji8 : Int).toNat ≤ 281474976710656) = true := decide_eq_true c19
                          clear c19
                          obtain ⟨y130, hy130⟩ : ∃ y_ : List Bool, y_ = (List.replicate (ji8 : Int).toNat false) := ⟨_, rfl⟩
                          replace H : (postbagref12_Match.l1 k3 a0 a1 x5_5 x6_3 x7_3 y130 0) = some r := by first | (rw [hy130]; with_reducible exact H) | (have H2_ := (Option.bind_some _ _).symm.trans H; rw [hy130]; with_reducible exact H2_) | (have H2_ := (Option.bind_some _ _).symm.trans H; with_reducible exact H2_) | with_reducible exact H | (rw [hy130]; exact H) | exact H
                          have Ny130 := Aside0.mk hy130
                          clear hy130
                          have H' := Aside0.mk H
                          clear H
                          go_wp2_with (first | ((with_reducible refine gate_dst (N := 31) rfl ?_); refine Kd.R_make Kd.bool _ 4 rfl (N := 31) rfl 26 _ _ rfl ji8 rfl rfl Try.underlying26 (.bool false) 1 info4 rfl (by decide) (by omega) false (ok := fun _ => True) (okp := fun _ => True) rfl (fun _ hk => hk) trivial (of_decide_eq_true (by first | (with_reducible assumption) | assumption)) (Nat.le_trans (Nat.mul_le_mul_right _ (of_decide_eq_true (by first | (with_reducible assumption) | assumption) : ji8.toNat ≤ 281474976710656)) (by omega)) (Below.refl _ _) (Nat.le_refl _) ?_; intro v131 w20 ho21 hb hg_ hnew_; clear hg_ hnew_; (first | rw [← Ny130.out] at ho21 | (simp only [Int.reduceToNat] at ho21; rw [← Ny130.out] at ho21)); have n0_ := Aside0.mk (Kd.R_elder' (by (with_reducible repeat (first | apply Kd.R_alloc | apply Kd.R_drewN | apply Kd.R_drew)); exact HO_6.out) (Kd.R_base ho21) hb); have n1_ := Aside0.mk (Kd.R_lower (Kd.R_new' ho21 (Kd.R_lt (by (with_reducible repeat (first | apply Kd.R_alloc | apply Kd.R_drewN | apply Kd.R_drew)); exact HO_6.out))) (below_size (by repeat (first | (with_reducible first | exact HB.out | apply below_alloc | apply pw_below_drewN | apply below_drew1) | exact HB.out)))); have n2_ := Aside0.mk (below_step (by repeat (first | (with_reducible first | exact HB.out | apply below_alloc | apply pw_below_drewN | apply below_drew1) | exact HB.out)) hb); clear HO_6; clear HB; have HO_6 := n0_; have HO132 := n1_; have HB := n2_; clear n0_ n1_ n2_; clear hb ho21))
                          go_loopg [9] k3 (fun kq v9 w' => ∃ (x8_4 : List Bool) (x9_4 : Int), v9 = .int .i64 x9_4 ∧ Aside0 (postbagref12_Match.l1 kq a0 a1 x5_5 x6_3 x7_3 x8_4 x9_4 = some r) ∧ Aside0 (kq ≤ k3) ∧ Aside0 (Kd.R Kd.bool 4 w' w.heap.size (fun k_ => some k_ ≠ (v131 : Value).ownBlock) u6 x6_3) ∧ Aside0 (Kd.R Kd.bool 4 w' w.heap.size (fun k_ => some k_ ≠ (u6 : Value).ownBlock) v131 x8_4) ∧ Aside0 (Below w.heap.size w w'))
                          case atStart => exact ⟨(y130), (0), (by first | rfl | (simp; done) | (simp [*]; done) | (simp [bne, *]; done)), H', ⟨Nat.le_refl _⟩, ⟨by (with_reducible repeat (first | apply Kd.R_alloc | apply Kd.R_drewN | apply Kd.R_drew)); exact Kd.R_mono HO_6.out (fun _ hk => hk.2)⟩, ⟨by (with_reducible repeat (first | apply Kd.R_alloc | apply Kd.R_drewN | apply Kd.R_drew)); exact Kd.R_mono HO132.out (fun _ hk => hk.2)⟩, ⟨by repeat (first | (with_reducible first | exact HB.out | apply below_alloc | apply pw_below_drewN | apply below_drew1) | exact HB.out)⟩⟩
                          case round =>
                            clear H'
                            try clear c1
                            try clear p1
                            try clear q1
                            try clear hx1
                            try clear qi1
                            try clear p2
                            try clear c4
                            try clear c4b0
                            try clear c4b1
                            try clear p6
                            try clear c7
                            try clear c9
                            try clear c9b0
                            try clear c9b1
                            try clear c10
                            try clear c10b0
                            try clear c10b1
                            try clear c11
                            try clear c11b0
                            try clear c11b1
                            try clear p12
                            try clear q12
                            try clear hx12
                            try clear qi12
                            try clear hf12
                            try clear c17
                            try clear c17b0
                            try clear c18
                            try clear c18b0
                            try clear c18b1
                            try clear c19
                            try clear c19b0
                            try clear c19b1
                            try clear hx12_0
                            try clear p1
                            try clear p12
                            try clear p2
                            try clear p6
                            try clear q1
                            try clear q12
                            obtain ⟨x8_4, x9_4, rfl, HA, HK4, HO_6, HO_8, HB⟩ := hrel
                            cases gk with
                            | zero => exact absurd HA.out (by simp [postbagref12_Match.l1])
                            | succ k4 =>
                              have H := HA.out
                              clear HA
                              simp only [postbagref12_Match.l1] at H
                              by_cases c22 : x9_4 ≤ (a1.size : Int)
                              · rw [if_pos c22] at H
                                have c22b0 : decide (x9_4 ≤ (a1.size : Int)) = true := decide_eq_true c22
                                clear c22
                                have HC23 := Aside0.mk H
                                clear H
                                go_upto_region 13 with (fail)
                                go_cut [47] (fun v47 wc => ∃ (kq : Nat) (x47_22 : Bool), v47 = .bool x47_22 ∧ Aside0 (postbagref12_Match.j4 kq a0 a1 x5_5 x6_3 x7_3 x8_4 x9_4 x47_22 = some r) ∧ Aside0 (kq ≤ k4) ∧ Aside0 (Kd.R Kd.bool 4 wc w.heap.size (fun k_ => some k_ ≠ (v131 : Value).ownBlock) u6 x6_3) ∧ Aside0 (Kd.R Kd.bool 4 wc w.heap.size (fun k_ => some k_ ≠ (u6 : Value).ownBlock) v131 x8_4) ∧ Aside0 (Below w.heap.size w wc))
                                case first =>
                                  have H := HC23.out
                                  clear HC23
                                  by_cases c24 : 0 ≤ x7_3
                                  · rw [if_pos c24] at H
                                    have c24b0 : decide (0 ≤ x7_3) = true := decide_eq_true c24
                                    clear c24
                                    (first | rw [c24b0] | (simp only [i64_w, i32_w]; rw [c24b0]) | skip)
                                    by_cases c25 : x7_3 < (a0.size : Int)
                                    · rw [if_pos c25] at H
                                      have c25b0 : decide (x7_3 < (a0.size : Int)) = true := decide_eq_true c25
                                      clear c25
                                      by_cases c27 : (bt a0 x7_3) = 42
                                      · rw [if_pos c27] at H
                                        have c27b0 : ((bt a0 x7_3) == 42) = true := beq_iff_eq.mpr c27
                                        have c27b1 : ((bt a0 x7_3) != 42) = false := bne_eq_false_iff_eq.mpr c27
                                        clear c27
                                        have H' := Aside0.mk H
                                        clear H
                                        have p26 : 0 ≤ (x7_3 : Int) := of_decide_eq_true (by first | (with_reducible assumption) | assumption)
                                        have q26 : x7_3 < (a0.size : Int) := of_decide_eq_true (by first | (with_reducible assumption) | assumption)
                                        have hx26 := bt_at a0 x7_3
                                        replace p26 := eq_true p26
                                        replace q26 := eq_true q26
                                        go_wp2
                                        go_meet
                                        case rel => exact ⟨_, (true), (by first | rfl | (simp; done) | (simp [*]; done) | (simp [bne, *]; done)), H', ⟨by have := HJ2.out; have := HJ5.out; have := HK3.out; have := HK4.out; first | omega | exact Nat.le_refl _⟩, ⟨by (with_reducible repeat (first | apply Kd.R_alloc | apply Kd.R_drewN | apply Kd.R_drew)); exact HO_6.out⟩, ⟨by (with_reducible repeat (first | apply Kd.R_alloc | apply Kd.R_drewN | apply Kd.R_drew)); exact HO_8.out⟩, ⟨by repeat (first | (with_reducible first | exact HB.out | apply below_alloc | apply pw_below_drewN | apply below_drew1) | exact HB.out)⟩⟩
                                      · rw [if_neg c27] at H
                                        have c27b0 : ((bt a0 x7_3) == 42) = false := beq_eq_false_iff_ne.mpr c27
                                        have c27b1 : ((bt a0 x7_3) != 42) = true := bne_iff_ne.mpr c27
                                        have H' := Aside0.mk H
                                        clear H
                                        have p26 : 0 ≤ (x7_3 : Int) := of_decide_eq_true (by first | (with_reducible assumption) | assumption)
                                        have q26 : x7_3 < (a0.size : Int) := of_decide_eq_true (by first | (with_reducible assumption) | assumption)
                                        have hx26 := bt_at a0 x7_3
                                        replace p26 := eq_true p26
                                        replace q26 := eq_true q26
                                        have p28 : 0 ≤ (x7_3 : Int) := of_decide_eq_true (by first | (with_reducible assumption) | assumption)
                                        have q28 : x7_3 < (a0.size : Int) := of_decide_eq_true (by first | (with_reducible assumption) | assumption)
                                        have hx28 := bt_at a0 x7_3
                                        replace p28 := eq_true p28
                                        replace q28 := eq_true q28
                                        go_wp2
                                        go_meet
                                        case rel => exact ⟨_, (((bt a0 x7_3) == 37)), (by first | rfl | (simp; done) | (simp [*]; done) | (simp [bne, *]; done)), H', ⟨by have := HJ2.out; have := HJ5.out; have := HK3.out; have := HK4.out; first | omega | exact Nat.le_refl _⟩, ⟨by (with_reducible repeat (first | apply Kd.R_alloc | apply Kd.R_drewN | apply Kd.R_drew)); exact HO_6.out⟩, ⟨by (with_reducible repeat (first | apply Kd.R_alloc | apply Kd.R_drewN | apply Kd.R_drew)); exact HO_8.out⟩, ⟨by repeat (first | (with_reducible first | exact HB.out | apply below_alloc | apply pw_below_drewN | apply below_drew1) | exact HB.out)⟩⟩
                                    · rw [if_neg c25] at H
                                      exact absurd H (by simp)
                                  · rw [if_neg c24] at H
                                    exact absurd H (by simp)
                                case rest =>
                                  clear HC23
                                  try clear c1
                                  try clear p1
                                  try clear q1
                                  try clear hx1
                                  try clear qi1
                                  try clear c2
                                  try clear p2
                                  try clear q2
                                  try clear hx2
                                  try clear c4
                                  try clear c4b0
                                  try clear c4b1
                                  try clear p6
                                  try clear c7
                                  try clear c9
                                  try clear c9b0
                                  try clear c9b1
                                  try clear c10
                                  try clear c10b0
                                  try clear c10b1
                                  try clear c11
                                  try clear c11b0
                                  try clear c11b1
                                  try clear p12
                                  try clear q12
                                  try clear hx12
                                  try clear qi12
                                  try clear hf12
                                  try clear c17
                                  try clear c17b0
                                  try clear c18
                                  try clear c18b0
                                  try clear c18b1
                                  try clear c19
                                  try clear c19b0
                                  try clear c19b1
                                  try clear c22
                                  try clear c22b0
                                  try clear c24
                                  try clear c24b0
                                  try clear c25
                                  try clear c25b0
                                  try clear p26
                                  try clear q26
                                  try clear hx26
                                  try clear c27
                                  try clear c27b0
                                  try clear c27b1
                                  try clear p28
                                  try clear q28
                                  try clear hx28
                                  try clear hx12_0
                                  try clear p1
                                  try clear p12
                                  try clear p2
                                  try clear p26
                                  try clear p28
                                  try clear p6
                                  try clear q1
                                  try clear q12
                                  try clear q26
                                  try clear q28
                                  obtain ⟨kq, x47_22, rfl, HA, HJ22, HO_6, HO_8, HB⟩ := hcut
                                  cases kq with
                                  | zero => exact absurd HA.out (by simp [postbagref12_Match.j4])
                                  | succ kj22 =>
                                    have H := HA.out
                                    clear HA
                                    simp only [postbagref12_Match.j4] at H
                                    by_cases c29 : x47_22 = true
                                    · subst c29
                                      have H1 : (if 0 ≤ x9_4 then (if x9_4 < (x6_3.length : Int) then (if rdOf false x6_3 x9_4 = true then (if x9_4 < (x8_4.length : Int) then (postbagref12_Match.l1 kj22 a0 a1 x5_5 x6_3 x7_3 (x8_4.set (x9_4 : Int).toNat true) (wrap64 (x9_4 + 1))) else (none)) else (if x9_4 > 0 then (if 0 ≤ (wrap64 (x9_4 - 1)) then (if (wrap64 (x9_4 - 1)) < (x8_4.length : Int) then (if rdOf false x8_4 (wrap64 (x9_4 - 1)) = true then (if 0 ≤ x7_3 then (if x7_3 < (a0.size : Int) then (if (bt a0 x7_3) = 42 then (if x9_4 < (x8_4.length : Int) then (postbagref12_Match.l1 kj22 a0 a1 x5_5 x6_3 x7_3 (x8_4.set (x9_4 : Int).toNat true) (wrap64 (x9_4 + 1))) else (none)) else (if (wrap64 (x9_4 - 1)) < (a1.size : Int) then (if x9_4 < (x8_4.length : Int) then (postbagref12_Match.l1 kj22 a0 a1 x5_5 x6_3 x7_3 (x8_4.set (x9_4 : Int).toNat ((bt a1 (wrap64 (x9_4 - 1))) != 47)) (wrap64 (x9_4 + 1))) else (none)) else (none))) else (none)) else (none)) else (if x9_4 < (x8_4.length : Int) then (postbagref12_Match.l1 kj22 a0 a1 x5_5 x6_3 x7_3 (x8_4.set (x9_4 : Int).toNat false) (wrap64 (x9_4 + 1))) else (none))) else (none)) else (none)) else (if x9_4 < (x8_4.length : Int) then (postbagref12_Match.l1 kj22 a0 a1 x5_5 x6_3 x7_3 (x8_4.set (x9_4 : Int).toNat false) (wrap64 (x9_4 + 1))) else (none)))) else (none)) else (none)) = some r := by rw [if_pos rfl] at H; exact H
                                      clear H
                                      have H := H1
                                      clear H1
                                      by_cases c30 : 0 ≤ x9_4
                                      · rw [if_pos c30] at H
                                        have c30b0 : decide (0 ≤ x9_4) = true := decide_eq_true c30
                                        clear c30
                                        by_cases c31 : x9_4 < (x6_3.length : Int)
                                        · rw [if_pos c31] at H
                                          have c31b0 : decide (x9_4 < (x6_3.length : Int)) = true := decide_eq_true c31
                                          clear c31
                                          obtain ⟨bq32, hbq32⟩ : ∃ b_ : Bool, b_ = (rdOf false x6_3 x9_4) := ⟨_, rfl⟩
                                          replace H : (if bq32 = true then (if x9_4 < (x8_4.length : Int) then (postbagref12_Match.l1 kj22 a0 a1 x5_5 x6_3 x7_3 (x8_4.set (x9_4 : Int).toNat true) (wrap64 (x9_4 + 1))) else (none)) else (if x9_4 > 0 then (if 0 ≤ (wrap64 (x9_4 - 1)) then (if (wrap64 (x9_4 - 1)) < (x8_4.length : Int) then (if rdOf false x8_4 (wrap64 (x9_4 - 1)) = true then (if 0 ≤ x7_3 then (if x7_3 < (a0.size : Int) then (if (bt a0 x7_3) = 42 then (if x9_4 < (x8_4.length : Int) then (postbagref12_Match.l1 kj22 a0 a1 x5_5 x6_3 x7_3 (x8_4.set (x9_4 : Int).toNat true) (wrap64 (x9_4 + 1))) else (none)) else (if (wrap64 (x9_4 - 1)) < (a1.size : Int) then (if x9_4 < (x8_4.length : Int) then (postbagref12_Match.l1 kj22 a0 a1 x5_5 x6_3 x7_3 (x8_4.set (x9_4 : Int).toNat ((bt a1 (wrap64 (x9_4 - 1))) != 47)) (wrap64 (x9_4 + 1))) else (none)) else (none))) else (none)) else (none)) else (if x9_4 < (x8_4.length : Int) then (postbagref12_Match.l1 kj22 a0 a1 x5_5 x6_3 x7_3 (x8_4.set (x9_4 : Int).toNat false) (wrap64 (x9_4 + 1))) else (none))) else (none)) else (none)) else (if x9_4 < (x8_4.length : Int) then (postbagref12_Match.l1 kj22 a0 a1 x5_5 x6_3 x7_3 (x8_4.set (x9_4 : Int).toNat false) (wrap64 (x9_4 + 1))) else (none)))) = some r := by rw [← hbq32] at H; exact H
                                          have Nbq32 := Aside0.mk hbq32
                                          clear hbq32
                                          by_cases c33 : bq32 = true
                                          · subst c33
                                            have H1 : (if x9_4 < (x8_4.length : Int) then (postbagref12_Match.l1 kj22 a0 a1 x5_5 x6_3 x7_3 (x8_4.set (x9_4 : Int).toNat true) (wrap64 (x9_4 + 1))) else (none)) = some r := by rw [if_pos rfl] at H; exact H
                                            clear H
                                            have H := H1
                                            clear H1
                                            by_cases c34 : x9_4 < (x8_4.length : Int)
                                            · rw [if_pos c34] at H
                                              have c34b0 : decide (x9_4 < (x8_4.length : Int)) = true := decide_eq_true c34
                                              clear c34
                                              obtain ⟨y134, hy134⟩ : ∃ y_ : List Bool, y_ = (x8_4.set (x9_4 : Int).toNat true) := ⟨_, rfl⟩
                                              replace H : (postbagref12_Match.l1 kj22 a0 a1 x5_5 x6_3 x7_3 y134 (wrap64 (x9_4 + 1))) = some r := by first | (rw [hy134]; with_reducible exact H) | (have H2_ := (Option.bind_some _ _).symm.trans H; rw [hy134]; with_reducible exact H2_) | (have H2_ := (Option.bind_some _ _).symm.trans H; with_reducible exact H2_) | with_reducible exact H | (rw [hy134]; exact H) | exact H
                                              have Ny134 := Aside0.mk hy134
                                              clear hy134
                                              have H' := Aside0.mk H
                                              clear H
                                              obtain ⟨Ao36, co36, eo36⟩ := Kd.R_slice HO_6.out
                                              subst eo36
                                              have p133 : 0 ≤ (x9_4 : Int) := of_decide_eq_true (by first | (with_reducible assumption) | assumption)
                                              have q133 : x9_4 < (x6_3.length : Int) := of_decide_eq_true (by first | (with_reducible assumption) | assumption)
                                              obtain ⟨ad133, e133, hx133_0⟩ := Kd.at_bool (Kd.R_reads' HO_6.out).2.2 x9_4 p133 q133
                                              (try rw [← Nbq32.out] at hx133_0)
                                              cases e133
                                              replace p133 := eq_true p133
                                              replace q133 := eq_true q133
                                              have p35 : 0 ≤ (x9_4 : Int) := of_decide_eq_true (by first | (with_reducible assumption) | assumption)
                                              have q35 : (x9_4 : Int) < ((x8_4.length : Int) : Int) := of_decide_eq_true (by first | (with_reducible assumption) | assumption)
                                              obtain ⟨go35, co35, eo35, gb35, gl35, cl35, HG35⟩ := Kd.R_form HO_8.out (by omega)
                                              (first | cases eo35 | (injection eo35 with ea_ en_ ec_; (first | subst ea_ | (injection ea_ with ea_; subst ea_)); subst ec_; clear en_))
                                              have GB35 := Aside0.mk gb35
                                              have GG35 := Aside0.mk HG35
                                              clear gb35 gl35 HG35
                                              obtain ⟨hx35_0, hf35_0⟩ := Kd.R_celln false HO_8.out (x9_4 : Int) p35 q35
                                              replace p35 := eq_true p35
                                              replace q35 := eq_true q35
                                              have HP37 := Kd.R_putg HO_8.out (x9_4 : Int) true
                                              go_wp2_with (first | ((with_reducible refine gate_store (t := 4) (p := 78) rfl ?_); refine store_event (t := 4) (p := 78) (v := ?vo_w38) (w1 := (wc.setCell ⟨go35, (x9_4 : Int).toNat, none⟩ (.bool true))) ?hg ?ho ?hn ?hr ?_; (case ho => rfl); (case hg => rfl); (case hn => rfl); (case hr => first | (go_simp; done) | (go_simp; rfl)); intro w38 hw; have hg : wc.grownBy w38 (some go35) := (by rw [hw]; exact HP37.2); have hp_ : Kd.R Kd.bool 4 w38 w.heap.size (fun k_ => some k_ ≠ (.slice (some ad133) x6_3.length co36 : Value).ownBlock) (.slice (some ⟨go35, 0, none⟩) x8_4.length co35) y134 := (by rw [hw, Ny134.out]; exact HP37.1); clear HP37; have n0_ := Aside0.mk (Kd.R_after (v := (.slice (some ⟨go35, 0, none⟩) x8_4.length co35)) (v1 := (.slice (some ⟨go35, 0, none⟩) x8_4.length co35)) (ok := (fun _ => True)) (by (with_reducible repeat (first | apply Kd.R_alloc | apply Kd.R_drewN | apply Kd.R_drew)); exact Kd.R_mono HO_6.out (fun _ hk => ⟨trivial, hk⟩)) hg (.inl rfl)); have n1_ := Aside0.mk (hp_); have n2_ := Aside0.mk ((by rw [hw]; exact below_set (HB.out) GB35.out : Below w.heap.size w w38)); clear HO_6; clear HO_8; clear HB; have HO_6 := n0_; have HO_8 := n1_; have HB := n2_; clear n0_ n1_ n2_; clear hg hw hp_))
                                              go_roundg kj22
                                              case measure => have := HJ2.out; have := HJ5.out; have := HK3.out; have := HK4.out; have := HJ22.out; omega
                                              case rel => exact ⟨(y134), (wrap64 (x9_4 + 1)), (by first | rfl | (simp; done) | (simp [*]; done) | (simp [bne, *]; done)), H', ⟨by have := HJ2.out; have := HJ5.out; have := HK3.out; have := HK4.out; have := HJ22.out; omega⟩, ⟨by (with_reducible repeat (first | apply Kd.R_alloc | apply Kd.R_drewN | apply Kd.R_drew)); exact Kd.R_mono HO_6.out (fun _ hk => hk.2)⟩, ⟨by (with_reducible repeat (first | apply Kd.R_alloc | apply Kd.R_drewN | apply Kd.R_drew)); exact HO_8.out⟩, ⟨by repeat (first | (with_reducible first | exact HB.out | apply below_alloc | apply pw_below_drewN | apply below_drew1) | exact HB.out)⟩⟩
                                            · rw [if_neg c34] at H
                                              exact absurd H (by simp)
                                          · replace c33 := Bool.eq_false_iff.mpr c33
                                            subst c33
                                            have H1 : (if x9_4 > 0 then (if 0 ≤ (wrap64 (x9_4 - 1)) then (if (wrap64 (x9_4 - 1)) < (x8_4.length : Int) then (if rdOf false x8_4 (wrap64 (x9_4 - 1)) = true then (if 0 ≤ x7_3 then (if x7_3 < (a0.size : Int) then (if (bt a0 x7_3) = 42 then (if x9_4 < (x8_4.length : Int) then (postbagref12_Match.l1 kj22 a0 a1 x5_5 x6_3 x7_3 (x8_4.set (x9_4 : Int).toNat true) (wrap64 (x9_4 + 1))) else (none)) else (if (wrap64 (x9_4 - 1)) < (a1.size : Int) then (if x9_4 < (x8_4.length : Int) then (postbagref12_Match.l1 kj22 a0 a1 x5_5 x6_3 x7_3 (x8_4.set (x9_4 : Int).toNat ((bt a1 (wrap64 (x9_4 - 1))) != 47)) (wrap64 (x9_4 + 1))) else (none)) else (none))) else (none)) else (none)) else (if x9_4 < (x8_4.length : Int) then (postbagref12_Match.l1 kj22 a0 a1 x5_5 x6_3 x7_3 (x8_4.set (x9_4 : Int).toNat false) (wrap64 (x9_4 + 1))) else (none))) else (none)) else (none)) else (if x9_4 < (x8_4.length : Int) then (postbagref12_Match.l1 kj22 a0 a1 x5_5 x6_3 x7_3 (x8_4.set (x9_4 : Int).toNat false) (wrap64 (x9_4 + 1))) else (none))) = some r := by rw [if_neg (show ¬ (false = true) by decide)] at H; exact H
                                            clear H
                                            have H := H1
                                            clear H1
                                            by_cases c39 : x9_4 > 0
                                            · rw [if_pos c39] at H
                                              have c39b0 : decide (0 < x9_4) = true := decide_eq_true c39
                                              clear c39
                                              obtain ⟨ji40, hji40⟩ : ∃ j_ : Int, (wrap64 (x9_4 - 1)) = j_ := ⟨_, rfl⟩
                                              replace H : (if 0 ≤ (ji40) then (if (ji40) < (x8_4.length : Int) then (if rdOf false x8_4 (ji40) = true then (if 0 ≤ x7_3 then (if x7_3 < (a0.size : Int) then (if (bt a0 x7_3) = 42 then (if x9_4 < (x8_4.length : Int) then (postbagref12_Match.l1 kj22 a0 a1 x5_5 x6_3 x7_3 (x8_4.set (x9_4 : Int).toNat true) (wrap64 (x9_4 + 1))) else (none)) else (if (ji40) < (a1.size : Int) then (if x9_4 < (x8_4.length : Int) then (postbagref12_Match.l1 kj22 a0 a1 x5_5 x6_3 x7_3 (x8_4.set (x9_4 : Int).toNat ((bt a1 (ji40)) != 47)) (wrap64 (x9_4 + 1))) else (none)) else (none))) else (none)) else (none)) else (if x9_4 < (x8_4.length : Int) then (postbagref12_Match.l1 kj22 a0 a1 x5_5 x6_3 x7_3 (x8_4.set (x9_4 : Int).toNat false) (wrap64 (x9_4 + 1))) else (none))) else (none)) else (none)) = some r := by first | (rw [hji40] at H; exact H) | (simp only [hji40] at H ⊢; exact H)
                                              have hji40w : (IntKind.i64.wrap (x9_4 - 1)) = ji40 := (i64_w _).trans hji40
                                              by_cases c41 : 0 ≤ (ji40)
                                              · rw [if_pos c41] at H
                                                have c41b0 : decide (0 ≤ (ji40)) = true := decide_eq_true c41
                                                clear c41
                                                by_cases c42 : (ji40) < (x8_4.length : Int)
                                                · rw [if_pos c42] at H
                                                  have c42b0 : decide ((ji40) < (x8_4.length : Int)) = true := decide_eq_true c42
                                                  clear c42
                                                  obtain ⟨bq43, hbq43⟩ : ∃ b_ : Bool, b_ = (rdOf false x8_4 (ji40)) := ⟨_, rfl⟩
                                                  replace H : (if bq43 = true then (if 0 ≤ x7_3 then (if x7_3 < (a0.size : Int) then (if (bt a0 x7_3) = 42 then (if x9_4 < (x8_4.length : Int) then (postbagref12_Match.l1 kj22 a0 a1 x5_5 x6_3 x7_3 (x8_4.set (x9_4 : Int).toNat true) (wrap64 (x9_4 + 1))) else (none)) else (if (ji40) < (a1.size : Int) then (if x9_4 < (x8_4.length : Int) then (postbagref12_Match.l1 kj22 a0 a1 x5_5 x6_3 x7_3 (x8_4.set (x9_4 : Int).toNat ((bt a1 (ji40)) != 47)) (wrap64 (x9_4 + 1))) else (none)) else (none))) else (none)) else (none)) else (if x9_4 < (x8_4.length : Int) then (postbagref12_Match.l1 kj22 a0 a1 x5_5 x6_3 x7_3 (x8_4.set (x9_4 : Int).toNat false) (wrap64 (x9_4 + 1))) else (none))) = some r := by rw [← hbq43] at H; exact H
                                                  have Nbq43 := Aside0.mk hbq43
                                                  clear hbq43
                                                  by_cases c44 : bq43 = true
                                                  · subst c44
                                                    have H1 : (if 0 ≤ x7_3 then (if x7_3 < (a0.size : Int) then (if (bt a0 x7_3) = 42 then (if x9_4 < (x8_4.length : Int) then (postbagref12_Match.l1 kj22 a0 a1 x5_5 x6_3 x7_3 (x8_4.set (x9_4 : Int).toNat true) (wrap64 (x9_4 + 1))) else (none)) else (if (ji40) < (a1.size : Int) then (if x9_4 < (x8_4.length : Int) then (postbagref12_Match.l1 kj22 a0 a1 x5_5 x6_3 x7_3 (x8_4.set (x9_4 : Int).toNat ((bt a1 (ji40)) != 47)) (wrap64 (x9_4 + 1))) else (none)) else (none))) else (none)) else (none)) = some r := by rw [if_pos rfl] at H; exact H
                                                    clear H
                                                    have H := H1
                                                    clear H1
                                                    by_cases c45 : 0 ≤ x7_3
                                                    · rw [if_pos c45] at H
                                                      have c45b0 : decide (0 ≤ x7_3) = true := decide_eq_true c45
                                                      clear c45
                                                      by_cases c46 : x7_3 < (a0.size : Int)
                                                      · rw [if_pos c46] at H
                                                        have c46b0 : decide (x7_3 < (a0.size : Int)) = true := decide_eq_true c46
                                                        clear c46
                                                        by_cases c48 : (bt a0 x7_3) = 42
                                                        · rw [if_pos c48] at H
                                                          have c48b0 : ((bt a0 x7_3) == 42) = true := beq_iff_eq.mpr c48
                                                          have c48b1 : ((bt a0 x7_3) != 42) = false := bne_eq_false_iff_eq.mpr c48
                                                          clear c48
                                                          by_cases c49 : x9_4 < (x8_4.length : Int)
                                                          · rw [if_pos c49] at H
                                                            have c49b0 : decide (x9_4 < (x8_4.length : Int)) = true := decide_eq_true c49
                                                            clear c49
                                                            obtain ⟨y136, hy136⟩ : ∃ y_ : List Bool, y_ = (x8_4.set (x9_4 : Int).toNat true) := ⟨_, rfl⟩
                                                            replace H : (postbagref12_Match.l1 kj22 a0 a1 x5_5 x6_3 x7_3 y136 (wrap64 (x9_4 + 1))) = some r := by first | (rw [hy136]; with_reducible exact H) | (have H2_ := (Option.bind_some _ _).symm.trans H; rw [hy136]; with_reducible exact H2_) | (have H2_ := (Option.bind_some _ _).symm.trans H; with_reducible exact H2_) | with_reducible exact H | (rw [hy136]; exact H) | exact H
                                                            have Ny136 := Aside0.mk hy136
                                                            clear hy136
                                                            have H' := Aside0.mk H
                                                            clear H
                                                            obtain ⟨Ao51, co51, eo51⟩ := Kd.R_slice HO_6.out
                                                            subst eo51
                                                            have p133 : 0 ≤ (x9_4 : Int) := of_decide_eq_true (by first | (with_reducible assumption) | assumption)
                                                            have q133 : x9_4 < (x6_3.length : Int) := of_decide_eq_true (by first | (with_reducible assumption) | assumption)
                                                            obtain ⟨ad133, e133, hx133_0⟩ := Kd.at_bool (Kd.R_reads' HO_6.out).2.2 x9_4 p133 q133
                                                            (try rw [← Nbq32.out] at hx133_0)
                                                            (try rw [← Nbq43.out] at hx133_0)
                                                            cases e133
                                                            replace p133 := eq_true p133
                                                            replace q133 := eq_true q133
                                                            obtain ⟨Ao52, co52, eo52⟩ := Kd.R_slice HO_8.out
                                                            subst eo52
                                                            have p135 : 0 ≤ ((ji40) : Int) := of_decide_eq_true (by first | (with_reducible assumption) | assumption)
                                                            have q135 : (ji40) < (x8_4.length : Int) := of_decide_eq_true (by first | (with_reducible assumption) | assumption)
                                                            obtain ⟨ad135, e135, hx135_0⟩ := Kd.at_bool (Kd.R_reads' HO_8.out).2.2 (ji40) p135 q135
                                                            (try rw [← Nbq32.out] at hx135_0)
                                                            (try rw [← Nbq43.out] at hx135_0)
                                                            cases e135
                                                            replace p135 := eq_true p135
                                                            replace q135 := eq_true q135
                                                            have p47 : 0 ≤ (x7_3 : Int) := of_decide_eq_true (by first | (with_reducible assumption) | assumption)
                                                            have q47 : x7_3 < (a0.size : Int) := of_decide_eq_true (by first | (with_reducible assumption) | assumption)
                                                            have hx47 := bt_at a0 x7_3
                                                            replace p47 := eq_true p47
                                                            replace q47 := eq_true q47
                                                            have p50 : 0 ≤ (x9_4 : Int) := of_decide_eq_true (by first | (with_reducible assumption) | assumption)
                                                            have q50 : (x9_4 : Int) < ((x8_4.length : Int) : Int) := of_decide_eq_true (by first | (with_reducible assumption) | assumption)
                                                            obtain ⟨go50, co50, eo50, gb50, gl50, cl50, HG50⟩ := Kd.R_form HO_8.out (by omega)
                                                            (first | cases eo50 | (injection eo50 with ea_ en_ ec_; (first | subst ea_ | (injection ea_ with ea_; subst ea_)); subst ec_; clear en_))
                                                            have GB50 := Aside0.mk gb50
                                                            have GG50 := Aside0.mk HG50
                                                            clear gb50 gl50 HG50
                                                            (first | simp only [add_plain] at hx135_0 | skip)
                                                            (try simp only [Int.toNat_natCast] at hx135_0)
                                                            obtain ⟨hx50_0, hf50_0⟩ := Kd.R_celln false HO_8.out (x9_4 : Int) p50 q50
                                                            replace p50 := eq_true p50
                                                            replace q50 := eq_true q50
                                                            have HP53 := Kd.R_putg HO_8.out (x9_4 : Int) true
                                                            go_wp2_with (first | ((with_reducible refine gate_store (t := 4) (p := 78) rfl ?_); refine store_event (t := 4) (p := 78) (v := ?vo_w54) (w1 := (wc.setCell ⟨go50, (x9_4 : Int).toNat, none⟩ (.bool true))) ?hg ?ho ?hn ?hr ?_; (case ho => rfl); (case hg => rfl); (case hn => rfl); (case hr => first | (go_simp; done) | (go_simp; rfl)); intro w54 hw; have hg : wc.grownBy w54 (some go50) := (by rw [hw]; exact HP53.2); have hp_ : Kd.R Kd.bool 4 w54 w.heap.size (fun k_ => some k_ ≠ (.slice (some ad133) x6_3.length co51 : Value).ownBlock) (.slice (some ⟨go50, 0, none⟩) x8_4.length co52) y136 := (by rw [hw, Ny136.out]; exact HP53.1); clear HP53; have n0_ := Aside0.mk (Kd.R_after (v := (.slice (some ⟨go50, 0, none⟩) x8_4.length co52)) (v1 := (.slice (some ⟨go50, 0, none⟩) x8_4.length co52)) (ok := (fun _ => True)) (by (with_reducible repeat (first | apply Kd.R_alloc | apply Kd.R_drewN | apply Kd.R_drew)); exact Kd.R_mono HO_6.out (fun _ hk => ⟨trivial, hk⟩)) hg (.inl rfl)); have n1_ := Aside0.mk (hp_); have n2_ := Aside0.mk ((by rw [hw]; exact below_set (HB.out) GB50.out : Below w.heap.size w w54)); clear HO_6; clear HO_8; clear HB; have HO_6 := n0_; have HO_8 := n1_; have HB := n2_; clear n0_ n1_ n2_; clear hg hw hp_))
                                                            go_roundg kj22
                                                            case measure => have := HJ2.out; have := HJ5.out; have := HK3.out; have := HK4.out; have := HJ22.out; omega
                                                            case rel => exact ⟨(y136), (wrap64 (x9_4 + 1)), (by first | rfl | (simp; done) | (simp [*]; done) | (simp [bne, *]; done)), H', ⟨by have := HJ2.out; have := HJ5.out; have := HK3.out; have := HK4.out; have := HJ22.out; omega⟩, ⟨by (with_reducible repeat (first | apply Kd.R_alloc | apply Kd.R_drewN | apply Kd.R_drew)); exact Kd.R_mono HO_6.out (fun _ hk => hk.2)⟩, ⟨by (with_reducible repeat (first | apply Kd.R_alloc | apply Kd.R_drewN | apply Kd.R_drew)); exact HO_8.out⟩, ⟨by repeat (first | (with_reducible first | exact HB.out | apply below_alloc | apply pw_below_drewN | apply below_drew1) | exact HB.out)⟩⟩
                                                          · rw [if_neg c49] at H
                                                            exact absurd H (by simp)
                                                        · rw [if_neg c48] at H
                                                          have c48b0 : ((bt a0 x7_3) == 42) = false := beq_eq_false_iff_ne.mpr c48
                                                          have c48b1 : ((bt a0 x7_3) != 42) = true := bne_iff_ne.mpr c48
                                                          by_cases c55 : (ji40) < (a1.size : Int)
                                                          · rw [if_pos c55] at H
                                                            have c55b0 : decide ((ji40) < (a1.size : Int)) = true := decide_eq_true c55
                                                            clear c55
                                                            by_cases c57 : x9_4 < (x8_4.length : Int)
                                                            · rw [if_pos c57] at H
                                                              have c57b0 : decide (x9_4 < (x8_4.length : Int)) = true := decide_eq_true c57
                                                              clear c57
                                                              obtain ⟨y137, hy137⟩ : ∃ y_ : List Bool, y_ = (x8_4.set (x9_4 : Int).toNat ((bt a1 (ji40)) != 47)) := ⟨_, rfl⟩
                                                              replace H : (postbagref12_Match.l1 kj22 a0 a1 x5_5 x6_3 x7_3 y137 (wrap64 (x9_4 + 1))) = some r := by first | (rw [hy137]; with_reducible exact H) | (have H2_ := (Option.bind_some _ _).symm.trans H; rw [hy137]; with_reducible exact H2_) | (have H2_ := (Option.bind_some _ _).symm.trans H; with_reducible exact H2_) | with_reducible exact H | (rw [hy137]; exact H) | exact H
                                                              have Ny137 := Aside0.mk hy137
                                                              clear hy137
                                                              have H' := Aside0.mk H
                                                              clear H
                                                              obtain ⟨Ao59, co59, eo59⟩ := Kd.R_slice HO_6.out
                                                              subst eo59
                                                              have p133 : 0 ≤ (x9_4 : Int) := of_decide_eq_true (by first | (with_reducible assumption) | assumption)
                                                              have q133 : x9_4 < (x6_3.length : Int) := of_decide_eq_true (by first | (with_reducible assumption) | assumption)
                                                              obtain ⟨ad133, e133, hx133_0⟩ := Kd.at_bool (Kd.R_reads' HO_6.out).2.2 x9_4 p133 q133
                                                              (try rw [← Nbq32.out] at hx133_0)
                                                              (try rw [← Nbq43.out] at hx133_0)
                                                              cases e133
                                                              replace p133 := eq_true p133
                                                              replace q133 := eq_true q133
                                                              obtain ⟨Ao60, co60, eo60⟩ := Kd.R_slice HO_8.out
                                                              subst eo60
                                                              have p135 : 0 ≤ ((ji40) : Int) := of_decide_eq_true (by first | (with_reducible assumption) | assumption)
                                                              have q135 : (ji40) < (x8_4.length : Int) := of_decide_eq_true (by first | (with_reducible assumption) | assumption)
                                                              obtain ⟨ad135, e135, hx135_0⟩ := Kd.at_bool (Kd.R_reads' HO_8.out).2.2 (ji40) p135 q135
                                                              (try rw [← Nbq32.out] at hx135_0)
                                                              (try rw [← Nbq43.out] at hx135_0)
                                                              cases e135
                                                              replace p135 := eq_true p135
                                                              replace q135 := eq_true q135
                                                              have p47 : 0 ≤ (x7_3 : Int) := of_decide_eq_true (by first | (with_reducible assumption) | assumption)
                                                              have q47 : x7_3 < (a0.size : Int) := of_decide_eq_true (by first | (with_reducible assumption) | assumption)
                                                              have hx47 := bt_at a0 x7_3
                                                              replace p47 := eq_true p47
                                                              replace q47 := eq_true q47
                                                              have p56 : 0 ≤ ((ji40) : Int) := of_decide_eq_true (by first | (with_reducible assumption) | assumption)
                                                              have q56 : (ji40) < (a1.size : Int) := of_decide_eq_true (by first | (with_reducible assumption) | assumption)
                                                              have hx56 := bt_at a1 (ji40)
                                                              replace p56 := eq_true p56
                                                              replace q56 := eq_true q56
                                                              have p58 : 0 ≤ (x9_4 : Int) := of_decide_eq_true (by first | (with_reducible assumption) | assumption)
                                                              have q58 : (x9_4 : Int) < ((x8_4.length : Int) : Int) := of_decide_eq_true (by first | (with_reducible assumption) | assumption)
                                                              obtain ⟨go58, co58, eo58, gb58, gl58, cl58, HG58⟩ := Kd.R_form HO_8.out (by omega)
                                                              (first | cases eo58 | (injection eo58 with ea_ en_ ec_; (first | subst ea_ | (injection ea_ with ea_; subst ea_)); subst ec_; clear en_))
                                                              have GB58 := Aside0.mk gb58
                                                              have GG58 := Aside0.mk HG58
                                                              clear gb58 gl58 HG58
                                                              (first | simp only [add_plain] at hx135_0 | skip)
                                                              (try simp only [Int.toNat_natCast] at hx135_0)
                                                              obtain ⟨hx58_0, hf58_0⟩ := Kd.R_celln false HO_8.out (x9_4 : Int) p58 q58
                                                              replace p58 := eq_true p58
                                                              replace q58 := eq_true q58
                                                              have HP61 := Kd.R_putg HO_8.out (x9_4 : Int) ((bt a1 (ji40)) != 47)
                                                              go_wp2_with (first | ((with_reducible refine gate_store (t := 4) (p := 78) rfl ?_); refine store_event (t := 4) (p := 78) (v := ?vo_w62) (w1 := (wc.setCell ⟨go58, (x9_4 : Int).toNat, none⟩ (.bool ((bt a1 (ji40)) != 47)))) ?hg ?ho ?hn ?hr ?_; (case ho => rfl); (case hg => rfl); (case hn => rfl); (case hr => first | (go_simp; done) | (go_simp; rfl)); intro w62 hw; have hg : wc.grownBy w62 (some go58) := (by rw [hw]; exact HP61.2); have hp_ : Kd.R Kd.bool 4 w62 w.heap.size (fun k_ => some k_ ≠ (.slice (some ad133) x6_3.length co59 : Value).ownBlock) (.slice (some ⟨go58, 0, none⟩) x8_4.length co60) y137 := (by rw [hw, Ny137.out]; exact HP61.1); clear HP61; have n0_ := Aside0.mk (Kd.R_after (v := (.slice (some ⟨go58, 0, none⟩) x8_4.length co60)) (v1 := (.slice (some ⟨go58, 0, none⟩) x8_4.length co60)) (ok := (fun _ => True)) (by (with_reducible repeat (first | apply Kd.R_alloc | apply Kd.R_drewN | apply Kd.R_drew)); exact Kd.R_mono HO_6.out (fun _ hk => ⟨trivial, hk⟩)) hg (.inl rfl)); have n1_ := Aside0.mk (hp_); have n2_ := Aside0.mk ((by rw [hw]; exact below_set (HB.out) GB58.out : Below w.heap.size w w62)); clear HO_6; clear HO_8; clear HB; have HO_6 := n0_; have HO_8 := n1_; have HB := n2_; clear n0_ n1_ n2_; clear hg hw hp_))
                                                              go_roundg kj22
                                                              case measure => have := HJ2.out; have := HJ5.out; have := HK3.out; have := HK4.out; have := HJ22.out; omega
                                                              case rel => exact ⟨(y137), (wrap64 (x9_4 + 1)), (by first | rfl | (simp; done) | (simp [*]; done) | (simp [bne, *]; done)), H', ⟨by have := HJ2.out; have := HJ5.out; have := HK3.out; have := HK4.out; have := HJ22.out; omega⟩, ⟨by (with_reducible repeat (first | apply Kd.R_alloc | apply Kd.R_drewN | apply Kd.R_drew)); exact Kd.R_mono HO_6.out (fun _ hk => hk.2)⟩, ⟨by (with_reducible repeat (first | apply Kd.R_alloc | apply Kd.R_drewN | apply Kd.R_drew)); exact HO_8.out⟩, ⟨by repeat (first | (with_reducible first | exact HB.out | apply below_alloc | apply pw_below_drewN | apply below_drew1) | exact HB.out)⟩⟩
                                                            · rw [if_neg c57] at H
                                                              exact absurd H (by simp)
                                                          · rw [if_neg c55] at H
                                                            exact absurd H (by simp)
                                                      · rw [if_neg c46] at H
                                                        exact absurd H (by simp)
                                                    · rw [if_neg c45] at H
                                                      exact absurd H (by simp)
                                                  · replace c44 := Bool.eq_false_iff.mpr c44
                                                    subst c44
                                                    have H1 : (if x9_4 < (x8_4.length : Int) then (postbagref12_Match.l1 kj22 a0 a1 x5_5 x6_3 x7_3 (x8_4.set (x9_4 : Int).toNat false) (wrap64 (x9_4 + 1))) else (none)) = some r := by rw [if_neg (show ¬ (false = true) by decide)] at H; exact H
                                                    clear H
                                                    have H := H1
                                                    clear H1
                                                    by_cases c63 : x9_4 < (x8_4.length : Int)
                                                    · rw [if_pos c63] at H
                                                      have c63b0 : decide (x9_4 < (x8_4.length : Int)) = true := decide_eq_true c63
                                                      clear c63
                                                      obtain ⟨y138, hy138⟩ : ∃ y_ : List Bool, y_ = (x8_4.set (x9_4 : Int).toNat false) := ⟨_, rfl⟩
                                                      replace H : (postbagref12_Match.l1 kj22 a0 a1 x5_5 x6_3 x7_3 y138 (wrap64 (x9_4 + 1))) = some r := by first | (rw [hy138]; with_reducible exact H) | (have H2_ := (Option.bind_some _ _).symm.trans H; rw [hy138]; with_reducible exact H2_) | (have H2_ := (Option.bind_some _ _).symm.trans H; with_reducible exact H2_) | with_reducible exact H | (rw [hy138]; exact H) | exact H
                                                      have Ny138 := Aside0.mk hy138
                                                      clear hy138
                                                      have H' := Aside0.mk H
                                                      clear H
                                                      obtain ⟨Ao65, co65, eo65⟩ := Kd.R_slice HO_6.out
                                                      subst eo65
                                                      have p133 : 0 ≤ (x9_4 : Int) := of_decide_eq_true (by first | (with_reducible assumption) | assumption)
                                                      have q133 : x9_4 < (x6_3.length : Int) := of_decide_eq_true (by first | (with_reducible assumption) | assumption)
                                                      obtain ⟨ad133, e133, hx133_0⟩ := Kd.at_bool (Kd.R_reads' HO_6.out).2.2 x9_4 p133 q133
                                                      (try rw [← Nbq32.out] at hx133_0)
                                                      (try rw [← Nbq43.out] at hx133_0)
                                                      cases e133
                                                      replace p133 := eq_true p133
                                                      replace q133 := eq_true q133
                                                      obtain ⟨Ao66, co66, eo66⟩ := Kd.R_slice HO_8.out
                                                      subst eo66
                                                      have p135 : 0 ≤ ((ji40) : Int) := of_decide_eq_true (by first | (with_reducible assumption) | assumption)
                                                      have q135 : (ji40) < (x8_4.length : Int) := of_decide_eq_true (by first | (with_reducible assumption) | assumption)
                                                      obtain ⟨ad135, e135, hx135_0⟩ := Kd.at_bool (Kd.R_reads' HO_8.out).2.2 (ji40) p135 q135
                                                      (try rw [← Nbq32.out] at hx135_0)
                                                      (try rw [← Nbq43.out] at hx135_0)
                                                      cases e135
                                                      replace p135 := eq_true p135
                                                      replace q135 := eq_true q135
                                                      have p64 : 0 ≤ (x9_4 : Int) := of_decide_eq_true (by first | (with_reducible assumption) | assumption)
                                                      have q64 : (x9_4 : Int) < ((x8_4.length : Int) : Int) := of_decide_eq_true (by first | (with_reducible assumption) | assumption)
                                                      obtain ⟨go64, co64, eo64, gb64, gl64, cl64, HG64⟩ := Kd.R_form HO_8.out (by omega)
                                                      (first | cases eo64 | (injection eo64 with ea_ en_ ec_; (first | subst ea_ | (injection ea_ with ea_; subst ea_)); subst ec_; clear en_))
                                                      have GB64 := Aside0.mk gb64
                                                      have GG64 := Aside0.mk HG64
                                                      clear gb64 gl64 HG64
                                                      (first | simp only [add_plain] at hx135_0 | skip)
                                                      (try simp only [Int.toNat_natCast] at hx135_0)
                                                      obtain ⟨hx64_0, hf64_0⟩ := Kd.R_celln false HO_8.out (x9_4 : Int) p64 q64
                                                      replace p64 := eq_true p64
                                                      replace q64 := eq_true q64
                                                      have HP67 := Kd.R_putg HO_8.out (x9_4 : Int) false
                                                      go_wp2_with (first | ((with_reducible refine gate_store (t := 4) (p := 78) rfl ?_); refine store_event (t := 4) (p := 78) (v := ?vo_w68) (w1 := (wc.setCell ⟨go64, (x9_4 : Int).toNat, none⟩ (.bool false))) ?hg ?ho ?hn ?hr ?_; (case ho => rfl); (case hg => rfl); (case hn => rfl); (case hr => first | (go_simp; done) | (go_simp; rfl)); intro w68 hw; have hg : wc.grownBy w68 (some go64) := (by rw [hw]; exact HP67.2); have hp_ : Kd.R Kd.bool 4 w68 w.heap.size (fun k_ => some k_ ≠ (.slice (some ad133) x6_3.length co65 : Value).ownBlock) (.slice (some ⟨go64, 0, none⟩) x8_4.length co66) y138 := (by rw [hw, Ny138.out]; exact HP67.1); clear HP67; have n0_ := Aside0.mk (Kd.R_after (v := (.slice (some ⟨go64, 0, none⟩) x8_4.length co66)) (v1 := (.slice (some ⟨go64, 0, none⟩) x8_4.length co66)) (ok := (fun _ => True)) (by (with_reducible repeat (first | apply Kd.R_alloc | apply Kd.R_drewN | apply Kd.R_drew)); exact Kd.R_mono HO_6.out (fun _ hk => ⟨trivial, hk⟩)) hg (.inl rfl)); have n1_ := Aside0.mk (hp_); have n2_ := Aside0.mk ((by rw [hw]; exact below_set (HB.out) GB64.out : Below w.heap.size w w68)); clear HO_6; clear HO_8; clear HB; have HO_6 := n0_; have HO_8 := n1_; have HB := n2_; clear n0_ n1_ n2_; clear hg hw hp_))
                                                      go_roundg kj22
                                                      case measure => have := HJ2.out; have := HJ5.out; have := HK3.out; have := HK4.out; have := HJ22.out; omega
                                                      case rel => exact ⟨(y138), (wrap64 (x9_4 + 1)), (by first | rfl | (simp; done) | (simp [*]; done) | (simp [bne, *]; done)), H', ⟨by have := HJ2.out; have := HJ5.out; have := HK3.out; have := HK4.out; have := HJ22.out; omega⟩, ⟨by (with_reducible repeat (first | apply Kd.R_alloc | apply Kd.R_drewN | apply Kd.R_drew)); exact Kd.R_mono HO_6.out (fun _ hk => hk.2)⟩, ⟨by (with_reducible repeat (first | apply Kd.R_alloc | apply Kd.R_drewN | apply Kd.R_drew)); exact HO_8.out⟩, ⟨by repeat (first | (with_reducible first | exact HB.out | apply below_alloc | apply pw_below_drewN | apply below_drew1) | exact HB.out)⟩⟩
                                                    · rw [if_neg c63] at H
                                                      exact absurd H (by simp)
                                                · rw [if_neg c42] at H
                                                  exact absurd H (by simp)
                                              · rw [if_neg c41] at H
                                                exact absurd H (by simp)
                                            · rw [if_neg c39] at H
                                              have c39b0 : decide (0 < x9_4) = false := decide_eq_false c39
                                              clear c39
                                              by_cases c69 : x9_4 < (x8_4.length : Int)
                                              · rw [if_pos c69] at H
                                                have c69b0 : decide (x9_4 < (x8_4.length : Int)) = true := decide_eq_true c69
                                                clear c69
                                                obtain ⟨y139, hy139⟩ : ∃ y_ : List Bool, y_ = (x8_4.set (x9_4 : Int).toNat false) := ⟨_, rfl⟩
                                                replace H : (postbagref12_Match.l1 kj22 a0 a1 x5_5 x6_3 x7_3 y139 (wrap64 (x9_4 + 1))) = some r := by first | (rw [hy139]; with_reducible exact H) | (have H2_ := (Option.bind_some _ _).symm.trans H; rw [hy139]; with_reducible exact H2_) | (have H2_ := (Option.bind_some _ _).symm.trans H; with_reducible exact H2_) | with_reducible exact H | (rw [hy139]; exact H) | exact H
                                                have Ny139 := Aside0.mk hy139
                                                clear hy139
                                                have H' := Aside0.mk H
                                                clear H
                                                obtain ⟨Ao71, co71, eo71⟩ := Kd.R_slice HO_6.out
                                                subst eo71
                                                have p133 : 0 ≤ (x9_4 : Int) := of_decide_eq_true (by first | (with_reducible assumption) | assumption)
                                                have q133 : x9_4 < (x6_3.length : Int) := of_decide_eq_true (by first | (with_reducible assumption) | assumption)
                                                obtain ⟨ad133, e133, hx133_0⟩ := Kd.at_bool (Kd.R_reads' HO_6.out).2.2 x9_4 p133 q133
                                                (try rw [← Nbq32.out] at hx133_0)
                                                cases e133
                                                replace p133 := eq_true p133
                                                replace q133 := eq_true q133
                                                have p70 : 0 ≤ (x9_4 : Int) := of_decide_eq_true (by first | (with_reducible assumption) | assumption)
                                                have q70 : (x9_4 : Int) < ((x8_4.length : Int) : Int) := of_decide_eq_true (by first | (with_reducible assumption) | assumption)
                                                obtain ⟨go70, co70, eo70, gb70, gl70, cl70, HG70⟩ := Kd.R_form HO_8.out (by omega)
                                                (first | cases eo70 | (injection eo70 with ea_ en_ ec_; (first | subst ea_ | (injection ea_ with ea_; subst ea_)); subst ec_; clear en_))
                                                have GB70 := Aside0.mk gb70
                                                have GG70 := Aside0.mk HG70
                                                clear gb70 gl70 HG70
                                                obtain ⟨hx70_0, hf70_0⟩ := Kd.R_celln false HO_8.out (x9_4 : Int) p70 q70
                                                replace p70 := eq_true p70
                                                replace q70 := eq_true q70
                                                have HP72 := Kd.R_putg HO_8.out (x9_4 : Int) false
                                                go_wp2_with (first | ((with_reducible refine gate_store (t := 4) (p := 78) rfl ?_); refine store_event (t := 4) (p := 78) (v := ?vo_w73) (w1 := (wc.setCell ⟨go70, (x9_4 : Int).toNat, none⟩ (.bool false))) ?hg ?ho ?hn ?hr ?_; (case ho => rfl); (case hg => rfl); (case hn => rfl); (case hr => first | (go_simp; done) | (go_simp; rfl)); intro w73 hw; have hg : wc.grownBy w73 (some go70) := (by rw [hw]; exact HP72.2); have hp_ : Kd.R Kd.bool 4 w73 w.heap.size (fun k_ => some k_ ≠ (.slice (some ad133) x6_3.length co71 : Value).ownBlock) (.slice (some ⟨go70, 0, none⟩) x8_4.length co70) y139 := (by rw [hw, Ny139.out]; exact HP72.1); clear HP72; have n0_ := Aside0.mk (Kd.R_after (v := (.slice (some ⟨go70, 0, none⟩) x8_4.length co70)) (v1 := (.slice (some ⟨go70, 0, none⟩) x8_4.length co70)) (ok := (fun _ => True)) (by (with_reducible repeat (first | apply Kd.R_alloc | apply Kd.R_drewN | apply Kd.R_drew)); exact Kd.R_mono HO_6.out (fun _ hk => ⟨trivial, hk⟩)) hg (.inl rfl)); have n1_ := Aside0.mk (hp_); have n2_ := Aside0.mk ((by rw [hw]; exact below_set (HB.out) GB70.out : Below w.heap.size w w73)); clear HO_6; clear HO_8; clear HB; have HO_6 := n0_; have HO_8 := n1_; have HB := n2_; clear n0_ n1_ n2_; clear hg hw hp_))
                                                go_roundg kj22
                                                case measure => have := HJ2.out; have := HJ5.out; have := HK3.out; have := HK4.out; have := HJ22.out; omega
                                                case rel => exact ⟨(y139), (wrap64 (x9_4 + 1)), (by first | rfl | (simp; done) | (simp [*]; done) | (simp [bne, *]; done)), H', ⟨by have := HJ2.out; have := HJ5.out; have := HK3.out; have := HK4.out; have := HJ22.out; omega⟩, ⟨by (with_reducible repeat (first | apply Kd.R_alloc | apply Kd.R_drewN | apply Kd.R_drew)); exact Kd.R_mono HO_6.out (fun _ hk => hk.2)⟩, ⟨by (with_reducible repeat (first | apply Kd.R_alloc | apply Kd.R_drewN | apply Kd.R_drew)); exact HO_8.out⟩, ⟨by repeat (first | (with_reducible first | exact HB.out | apply below_alloc | apply pw_below_drewN | apply below_drew1) | exact HB.out)⟩⟩
                                              · rw [if_neg c69] at H
                                                exact absurd H (by simp)
                                        · rw [if_neg c31] at H
                                          exact absurd H (by simp)
                                      · rw [if_neg c30] at H
                                        exact absurd H (by simp)
                                    · replace c29 := Bool.eq_false_iff.mpr c29
                                      subst c29
                                      have H1 : (if x9_4 = 0 then (postbagref12_Match.j5 kj22 a0 a1 x5_5 x6_3 x7_3 x8_4 x9_4 true) else (if 0 ≤ (wrap64 (x9_4 - 1)) then (if (wrap64 (x9_4 - 1)) < (x6_3.length : Int) then (postbagref12_Match.j5 kj22 a0 a1 x5_5 x6_3 x7_3 x8_4 x9_4 (!(rdOf false x6_3 (wrap64 (x9_4 - 1))))) else (none)) else (none))) = some r := by rw [if_neg (show ¬ (false = true) by decide)] at H; exact H
                                      clear H
                                      have H := H1
                                      clear H1
                                      have HC74 := Aside0.mk H
                                      clear H
                                      go_upto_region 15 with (fail)
                                      go_cut [88] (fun v88 wc => ∃ (kq : Nat) (x88_73 : Bool), v88 = .bool x88_73 ∧ Aside0 (postbagref12_Match.j5 kq a0 a1 x5_5 x6_3 x7_3 x8_4 x9_4 x88_73 = some r) ∧ Aside0 (kq ≤ kj22) ∧ Aside0 (Kd.R Kd.bool 4 wc w.heap.size (fun k_ => some k_ ≠ (v131 : Value).ownBlock) u6 x6_3) ∧ Aside0 (Kd.R Kd.bool 4 wc w.heap.size (fun k_ => some k_ ≠ (u6 : Value).ownBlock) v131 x8_4) ∧ Aside0 (Below w.heap.size w wc))
                                      case first =>
                                        have H := HC74.out
                                        clear HC74
                                        by_cases c75 : x9_4 = 0
                                        · rw [if_pos c75] at H
                                          have c75b0 : (x9_4 == 0) = true := beq_iff_eq.mpr c75
                                          have c75b1 : (x9_4 != 0) = false := bne_eq_false_iff_eq.mpr c75
                                          clear c75
                                          (first | rw [c75b0] | (simp only [i64_w, i32_w]; rw [c75b0]) | skip)
                                          have H' := Aside0.mk H
                                          clear H
                                          go_wp2
                                          go_meet
                                          case rel => exact ⟨_, (true), (by first | rfl | (simp; done) | (simp [*]; done) | (simp [bne, *]; done)), H', ⟨by have := HJ2.out; have := HJ5.out; have := HK3.out; have := HK4.out; have := HJ22.out; first | omega | exact Nat.le_refl _⟩, ⟨by (with_reducible repeat (first | apply Kd.R_alloc | apply Kd.R_drewN | apply Kd.R_drew)); exact HO_6.out⟩, ⟨by (with_reducible repeat (first | apply Kd.R_alloc | apply Kd.R_drewN | apply Kd.R_drew)); exact HO_8.out⟩, ⟨by repeat (first | (with_reducible first | exact HB.out | apply below_alloc | apply pw_below_drewN | apply below_drew1) | exact HB.out)⟩⟩
                                        · rw [if_neg c75] at H
                                          have c75b0 : (x9_4 == 0) = false := beq_eq_false_iff_ne.mpr c75
                                          have c75b1 : (x9_4 != 0) = true := bne_iff_ne.mpr c75
                                          (first | rw [c75b0] | (simp only [i64_w, i32_w]; rw [c75b0]) | skip)
                                          obtain ⟨ji76, hji76⟩ : ∃ j_ : Int, (wrap64 (x9_4 - 1)) = j_ := ⟨_, rfl⟩
                                          replace H : (if 0 ≤ (ji76) then (if (ji76) < (x6_3.length : Int) then (postbagref12_Match.j5 kj22 a0 a1 x5_5 x6_3 x7_3 x8_4 x9_4 (!(rdOf false x6_3 (ji76)))) else (none)) else (none)) = some r := by first | (rw [hji76] at H; exact H) | (simp only [hji76] at H ⊢; exact H)
                                          have hji76w : (IntKind.i64.wrap (x9_4 - 1)) = ji76 := (i64_w _).trans hji76
                                          by_cases c77 : 0 ≤ (ji76)
                                          · rw [if_pos c77] at H
                                            have c77b0 : decide (0 ≤ (ji76)) = true := decide_eq_true c77
                                            clear c77
                                            by_cases c78 : (ji76) < (x6_3.length : Int)
                                            · rw [if_pos c78] at H
                                              have c78b0 : decide ((ji76) < (x6_3.length : Int)) = true := decide_eq_true c78
                                              clear c78
                                              have H' := Aside0.mk H
                                              clear H
                                              obtain ⟨Ao79, co79, eo79⟩ := Kd.R_slice HO_6.out
                                              subst eo79
                                              have p140 : 0 ≤ ((ji76) : Int) := of_decide_eq_true (by first | (with_reducible assumption) | assumption)
                                              have q140 : (ji76) < (x6_3.length : Int) := of_decide_eq_true (by first | (with_reducible assumption) | assumption)
                                              obtain ⟨ad140, e140, hx140_0⟩ := Kd.at_bool (Kd.R_reads' HO_6.out).2.2 (ji76) p140 q140
                                              cases e140
                                              replace p140 := eq_true p140
                                              replace q140 := eq_true q140
                                              go_wp2
                                              go_meet
                                              case rel => exact ⟨_, (!(rdOf false x6_3 (ji76))), (by first | rfl | (simp; done) | (simp only [← hji76] <;> (first | rfl | simp)) | (simp [*]; done)), H', ⟨by have := HJ2.out; have := HJ5.out; have := HK3.out; have := HK4.out; have := HJ22.out; first | omega | exact Nat.le_refl _⟩, ⟨by (with_reducible repeat (first | apply Kd.R_alloc | apply Kd.R_drewN | apply Kd.R_drew)); exact HO_6.out⟩, ⟨by (with_reducible repeat (first | apply Kd.R_alloc | apply Kd.R_drewN | apply Kd.R_drew)); exact HO_8.out⟩, ⟨by repeat (first | (with_reducible first | exact HB.out | apply below_alloc | apply pw_below_drewN | apply below_drew1) | exact HB.out)⟩⟩
                                            · rw [if_neg c78] at H
                                              exact absurd H (by simp)
                                          · rw [if_neg c77] at H
                                            exact absurd H (by simp)
                                      case rest =>
                                        clear HC74
                                        try clear c1
                                        try clear p1
                                        try clear q1
                                        try clear hx1
                                        try clear qi1
                                        try clear c2
                                        try clear p2
                                        try clear q2
                                        try clear hx2
                                        try clear c3
                                        try clear p3
                                        try clear q3
                                        try clear hx3
                                        try clear hf3
                                        try clear c4
                                        try clear c4b0
                                        try clear c4b1
                                        try clear p4
                                        try clear q4
                                        try clear hx4
                                        try clear c5
                                        try clear p5
                                        try clear q5
                                        try clear hx5
                                        try clear hf5
                                        try clear c6
                                        try clear p6
                                        try clear q6
                                        try clear hx6
                                        try clear hf6
                                        try clear c7
                                        try clear p7
                                        try clear q7
                                        try clear hx7
                                        try clear hf7
                                        try clear c9
                                        try clear c9b0
                                        try clear c9b1
                                        try clear c10
                                        try clear c10b0
                                        try clear c10b1
                                        try clear c11
                                        try clear c11b0
                                        try clear c11b1
                                        try clear p12
                                        try clear q12
                                        try clear hx12
                                        try clear qi12
                                        try clear hf12
                                        try clear p13
                                        try clear q13
                                        try clear hx13
                                        try clear p14
                                        try clear q14
                                        try clear hx14
                                        try clear c17
                                        try clear c17b0
                                        try clear c18
                                        try clear c18b0
                                        try clear c18b1
                                        try clear c19
                                        try clear c19b0
                                        try clear c19b1
                                        try clear c22
                                        try clear c22b0
                                        try clear c24
                                        try clear c24b0
                                        try clear c25
                                        try clear c25b0
                                        try clear p26
                                        try clear q26
                                        try clear hx26
                                        try clear c27
                                        try clear c27b0
                                        try clear c27b1
                                        try clear p28
                                        try clear q28
                                        try clear hx28
                                        try clear c29
                                        try clear c30
                                        try clear c30b0
                                        try clear c31
                                        try clear c31b0
                                        try clear q32
                                        try clear c33
                                        try clear c34
                                        try clear c34b0
                                        try clear p35
                                        try clear q35
                                        try clear hx35
                                        try clear hf35
                                        try clear c39
                                        try clear c39b0
                                        try clear c41
                                        try clear c41b0
                                        try clear c42
                                        try clear c42b0
                                        try clear q43
                                        try clear c44
                                        try clear c45
                                        try clear c45b0
                                        try clear c46
                                        try clear c46b0
                                        try clear p47
                                        try clear q47
                                        try clear hx47
                                        try clear c48
                                        try clear c48b0
                                        try clear c48b1
                                        try clear c49
                                        try clear c49b0
                                        try clear p50
                                        try clear q50
                                        try clear hx50
                                        try clear hf50
                                        try clear c55
                                        try clear c55b0
                                        try clear p56
                                        try clear q56
                                        try clear hx56
                                        try clear c57
                                        try clear c57b0
                                        try clear p58
                                        try clear q58
                                        try clear hx58
                                        try clear hf58
                                        try clear c63
                                        try clear c63b0
                                        try clear p64
                                        try clear q64
                                        try clear hx64
                                        try clear hf64
                                        try clear c69
                                        try clear c69b0
                                        try clear p70
                                        try clear q70
                                        try clear hx70
                                        try clear hf70
                                        try clear c75
                                        try clear c75b0
                                        try clear c75b1
                                        try clear c77
                                        try clear c77b0
                                        try clear c78
                                        try clear c78b0
                                        try clear hx12_0
                                        try clear hx133_0
                                        try clear hx135_0
                                        try clear hx140_0
                                        try clear hx35_0
                                        try clear hx50_0
                                        try clear hx58_0
                                        try clear hx64_0
                                        try clear hx70_0
                                        try clear p1
                                        try clear p12
                                        try clear p133
                                        try clear p135
                                        try clear p140
                                        try clear p2
                                        try clear p26
                                        try clear p28
                                        try clear p35
                                        try clear p47
                                        try clear p50
                                        try clear p56
                                        try clear p58
                                        try clear p6
                                        try clear p64
                                        try clear p70
                                        try clear q1
                                        try clear q12
                                        try clear q133
                                        try clear q135
                                        try clear q140
                                        try clear q2
                                        try clear q26
                                        try clear q28
                                        try clear q35
                                        try clear q47
                                        try clear q50
                                        try clear q56
                                        try clear q58
                                        try clear q64
                                        try clear q70
                                        obtain ⟨kq, x88_73, rfl, HA, HJ73, HO_6, HO_8, HB⟩ := hcut
                                        cases kq with
                                        | zero => exact absurd HA.out (by simp [postbagref12_Match.j5])
                                        | succ kj73 =>
                                          have H := HA.out
                                          clear HA
                                          simp only [postbagref12_Match.j5] at H
                                          by_cases c80 : x88_73 = true
                                          · subst c80
                                            have H1 : (postbagref12_Match.l1 kj73 a0 a1 x5_5 x6_3 x7_3 x8_4 (wrap64 (x9_4 + 1))) = some r := by rw [if_pos rfl] at H; exact H
                                            clear H
                                            have H := H1
                                            clear H1
                                            have H' := Aside0.mk H
                                            clear H
                                            go_wp2
                                            go_roundg kj73
                                            case measure => have := HJ2.out; have := HJ5.out; have := HK3.out; have := HK4.out; have := HJ22.out; have := HJ73.out; omega
                                            case rel => exact ⟨(x8_4), (wrap64 (x9_4 + 1)), (by first | rfl | (simp; done) | (simp [*]; done) | (simp [bne, *]; done)), H', ⟨by have := HJ2.out; have := HJ5.out; have := HK3.out; have := HK4.out; have := HJ22.out; have := HJ73.out; omega⟩, ⟨by (with_reducible repeat (first | apply Kd.R_alloc | apply Kd.R_drewN | apply Kd.R_drew)); exact HO_6.out⟩, ⟨by (with_reducible repeat (first | apply Kd.R_alloc | apply Kd.R_drewN | apply Kd.R_drew)); exact HO_8.out⟩, ⟨by repeat (first | (with_reducible first | exact HB.out | apply below_alloc | apply pw_below_drewN | apply below_drew1) | exact HB.out)⟩⟩
                                          · replace c80 := Bool.eq_false_iff.mpr c80
                                            subst c80
                                            have H1 : (if 0 ≤ x7_3 then (if x7_3 < (a0.size : Int) then (if 0 ≤ (wrap64 (x9_4 - 1)) then (if (wrap64 (x9_4 - 1)) < (a1.size : Int) then (if (bt a0 x7_3) = (bt a1 (wrap64 (x9_4 - 1))) then (if 0 ≤ x9_4 then (if x9_4 < (x8_4.length : Int) then (postbagref12_Match.l1 kj73 a0 a1 x5_5 x6_3 x7_3 (x8_4.set (x9_4 : Int).toNat true) (wrap64 (x9_4 + 1))) else (none)) else (none)) else (if x9_4 ≤ x5_5 then ((postbagref12_lower.f (bt a0 x7_3)).bind fun t142 => ((postbagref12_lower.f (bt a1 (wrap64 (x9_4 - 1)))).bind fun t143 => (if 0 ≤ x9_4 then (if x9_4 < (x8_4.length : Int) then (postbagref12_Match.l1 kj73 a0 a1 x5_5 x6_3 x7_3 (x8_4.set (x9_4 : Int).toNat (t142 == t143)) (wrap64 (x9_4 + 1))) else (none)) else (none)))) else (if 0 ≤ x9_4 then (if x9_4 < (x8_4.length : Int) then (postbagref12_Match.l1 kj73 a0 a1 x5_5 x6_3 x7_3 (x8_4.set (x9_4 : Int).toNat false) (wrap64 (x9_4 + 1))) else (none)) else (none)))) else (none)) else (none)) else (none)) else (none)) = some r := by rw [if_neg (show ¬ (false = true) by decide)] at H; exact H
                                            clear H
                                            have H := H1
                                            clear H1
                                            by_cases c81 : 0 ≤ x7_3
                                            · rw [if_pos c81] at H
                                              have c81b0 : decide (0 ≤ x7_3) = true := decide_eq_true c81
                                              clear c81
                                              by_cases c82 : x7_3 < (a0.size : Int)
                                              · rw [if_pos c82] at H
                                                have c82b0 : decide (x7_3 < (a0.size : Int)) = true := decide_eq_true c82
                                                clear c82
                                                obtain ⟨ji84, hji84⟩ : ∃ j_ : Int, (wrap64 (x9_4 - 1)) = j_ := ⟨_, rfl⟩
                                                replace H : (if 0 ≤ (ji84) then (if (ji84) < (a1.size : Int) then (if (bt a0 x7_3) = (bt a1 (ji84)) then (if 0 ≤ x9_4 then (if x9_4 < (x8_4.length : Int) then (postbagref12_Match.l1 kj73 a0 a1 x5_5 x6_3 x7_3 (x8_4.set (x9_4 : Int).toNat true) (wrap64 (x9_4 + 1))) else (none)) else (none)) else (if x9_4 ≤ x5_5 then ((postbagref12_lower.f (bt a0 x7_3)).bind fun t142 => ((postbagref12_lower.f (bt a1 (ji84))).bind fun t143 => (if 0 ≤ x9_4 then (if x9_4 < (x8_4.length : Int) then (postbagref12_Match.l1 kj73 a0 a1 x5_5 x6_3 x7_3 (x8_4.set (x9_4 : Int).toNat (t142 == t143)) (wrap64 (x9_4 + 1))) else (none)) else (none)))) else (if 0 ≤ x9_4 then (if x9_4 < (x8_4.length : Int) then (postbagref12_Match.l1 kj73 a0 a1 x5_5 x6_3 x7_3 (x8_4.set (x9_4 : Int).toNat false) (wrap64 (x9_4 + 1))) else (none)) else (none)))) else (none)) else (none)) = some r := by first | (rw [hji84] at H; exact H) | (simp only [hji84] at H ⊢; exact H)
                                                have hji84w : (IntKind.i64.wrap (x9_4 - 1)) = ji84 := (i64_w _).trans hji84
                                                by_cases c85 : 0 ≤ (ji84)
                                                · rw [if_pos c85] at H
                                                  have c85b0 : decide (0 ≤ (ji84)) = true := decide_eq_true c85
                                                  clear c85
                                                  by_cases c86 : (ji84) < (a1.size : Int)
                                                  · rw [if_pos c86] at H
                                                    have c86b0 : decide ((ji84) < (a1.size : Int)) = true := decide_eq_true c86
                                                    clear c86
                                                    by_cases c88 : (bt a0 x7_3) = (bt a1 (ji84))
                                                    · rw [if_pos c88] at H
                                                      have c88b0 : ((bt a0 x7_3) == (bt a1 (ji84))) = true := beq_iff_eq.mpr c88
                                                      have c88b1 : ((bt a0 x7_3) != (bt a1 (ji84))) = false := bne_eq_false_iff_eq.mpr c88
                                                      clear c88
                                                      by_cases c89 : 0 ≤ x9_4
                                                      · rw [if_pos c89] at H
                                                        have c89b0 : decide (0 ≤ x9_4) = true := decide_eq_true c89
                                                        clear c89
                                                        by_cases c90 : x9_4 < (x8_4.length : Int)
                                                        · rw [if_pos c90] at H
                                                          have c90b0 : decide (x9_4 < (x8_4.length : Int)) = true := decide_eq_true c90
                                                          clear c90
                                                          obtain ⟨y141, hy141⟩ : ∃ y_ : List Bool, y_ = (x8_4.set (x9_4 : Int).toNat true) := ⟨_, rfl⟩
                                                          replace H : (postbagref12_Match.l1 kj73 a0 a1 x5_5 x6_3 x7_3 y141 (wrap64 (x9_4 + 1))) = some r := by first | (rw [hy141]; with_reducible exact H) | (have H2_ := (Option.bind_some _ _).symm.trans H; rw [hy141]; with_reducible exact H2_) | (have H2_ := (Option.bind_some _ _).symm.trans H; with_reducible exact H2_) | with_reducible exact H | (rw [hy141]; exact H) | exact H
                                                          have Ny141 := Aside0.mk hy141
                                                          clear hy141
                                                          have H' := Aside0.mk H
                                                          clear H
                                                          try go_wp2
                                                          have n0_ := Aside0.mk (Kd.R_drew HO_6.out)
                                                          have n1_ := Aside0.mk (Kd.R_drew HO_8.out)
                                                          have n2_ := Aside0.mk (below_drew1 HB.out)
                                                          clear HO_6
                                                          clear HO_8
                                                          clear HB
                                                          have HO_6 := n0_
                                                          have HO_8 := n1_
                                                          have HB := n2_
                                                          clear n0_ n1_ n2_
                                                          have p83 : 0 ≤ (x7_3 : Int) := of_decide_eq_true (by first | (with_reducible assumption) | assumption)
                                                          have q83 : x7_3 < (a0.size : Int) := of_decide_eq_true (by first | (with_reducible assumption) | assumption)
                                                          have hx83 := bt_at a0 x7_3
                                                          replace p83 := eq_true p83
                                                          replace q83 := eq_true q83
                                                          have p87 : 0 ≤ ((ji84) : Int) := of_decide_eq_true (by first | (with_reducible assumption) | assumption)
                                                          have q87 : (ji84) < (a1.size : Int) := of_decide_eq_true (by first | (with_reducible assumption) | assumption)
                                                          have hx87 := bt_at a1 (ji84)
                                                          replace p87 := eq_true p87
                                                          replace q87 := eq_true q87
                                                          have p91 : 0 ≤ (x9_4 : Int) := of_decide_eq_true (by first | (with_reducible assumption) | assumption)
                                                          have q91 : (x9_4 : Int) < ((x8_4.length : Int) : Int) := of_decide_eq_true (by first | (with_reducible assumption) | assumption)
                                                          obtain ⟨go91, co91, eo91, gb91, gl91, cl91, HG91⟩ := Kd.R_form HO_8.out (by omega)
                                                          (first | cases eo91 | (injection eo91 with ea_ en_ ec_; (first | subst ea_ | (injection ea_ with ea_; subst ea_)); subst ec_; clear en_))
                                                          have GB91 := Aside0.mk gb91
                                                          have GG91 := Aside0.mk HG91
                                                          clear gb91 gl91 HG91
                                                          obtain ⟨hx91_0, hf91_0⟩ := Kd.R_celln false HO_8.out (x9_4 : Int) p91 q91
                                                          replace p91 := eq_true p91
                                                          replace q91 := eq_true q91
                                                          have HP93 := Kd.R_putn HO_8.out (x9_4 : Int) true
                                                          rw [← Ny141.out] at HP93
                                                          have HQ93 := Aside0.mk HP93
                                                          clear HP93
                                                          refine start_ (n := 29) (S := fun w' => True) (ds := [28]) #[false, false, false, false, false, false, false, false, false, false, false, false, false, false, false, false, false, false, false, false, false, false, false, false, false, false, false, false, false] (by kernel_rfl) rfl rfl trivial (fun hHeld => ?_); refine with_tabW postbagref12_Match.tab16 postbagref12_Match.bits16 (fun HT_ HW_ => ?_)
                                                          generalize wc.drew = w92 at HO_6 HO_8 HB GG91 HQ93 hf91_0 hx91_0 hHeld ⊢
                                                          refine pure_ (i := 0) (N := some 89) (v := ?_) (a' := ?_) #[true, false, false, false, false, false, false, false, false, false, false, false, false, false, false, false, false, false, false, false, false, false, false, false, false, false, false, false, false] rfl rfl (any_of HT_.out (by kernel_rfl)) (fun _ _ _ h => h) (Or.inl ⟨by rfl, ?_⟩) ?_ ?_
                                                          rotate_left
                                                          · intro w'
                                                            go_simp
                                                            with_reducible rfl
                                                          rotate_left
                                                          · simp only [Act.put, List.setIfInBounds_toArray, List.set_cons_zero, List.set_cons_succ, i64_w, i32_w]
                                                            rfl
                                                          refine pure_ (i := 1) (N := some 90) (v := ?_) (a' := ?_) #[true, true, false, false, false, false, false, false, false, false, false, false, false, false, false, false, false, false, false, false, false, false, false, false, false, false, false, false, false] rfl rfl (any_of HT_.out (by kernel_rfl)) (fun _ _ _ h => h) (Or.inl ⟨by rfl, ?_⟩) ?_ ?_
                                                          rotate_left
                                                          · intro w'
                                                            go_simp
                                                            with_reducible rfl
                                                          rotate_left
                                                          · simp only [Act.put, List.setIfInBounds_toArray, List.set_cons_zero, List.set_cons_succ, i64_w, i32_w]
                                                            rfl
                                                          refine pure_ (i := 2) (N := some 91) (v := ?_) (a' := ?_) #[true, true, true, false, false, false, false, false, false, false, false, false, false, false, false, false, false, false, false, false, false, false, false, false, false, false, false, false, false] rfl rfl (any_of HT_.out (by kernel_rfl)) (fun _ _ _ h => h) (Or.inl ⟨by rfl, ?_⟩) ?_ ?_
                                                          rotate_left
                                                          · intro w'
                                                            go_simp
                                                            with_reducible rfl
                                                          rotate_left
                                                          · simp only [Act.put, List.setIfInBounds_toArray, List.set_cons_zero, List.set_cons_succ, i64_w, i32_w]
                                                            rfl
                                                          refine pure_ (i := 3) (N := some 92) (v := ?_) (a' := ?_) #[true, true, true, true, false, false, false, false, false, false, false, false, false, false, false, false, false, false, false, false, false, false, false, false, false, false, false, false, false] rfl rfl (any_of HT_.out (by kernel_rfl)) (fun _ _ _ h => h) (Or.inl ⟨by rfl, ?_⟩) ?_ ?_
                                                          rotate_left
                                                          · intro w'
                                                            go_simp
                                                            with_reducible rfl
                                                          rotate_left
                                                          · simp only [Act.put, List.setIfInBounds_toArray, List.set_cons_zero, List.set_cons_succ, i64_w, i32_w]
                                                            rfl
                                                          refine pure_ (i := 5) (N := some 94) (v := ?_) (a' := ?_) #[true, true, true, true, false, true, false, false, false, false, false, false, false, false, false, false, false, false, false, false, false, false, false, false, false, false, false, false, false] rfl rfl (any_of HT_.out (by kernel_rfl)) (fun _ _ _ h => h) (Or.inl ⟨by rfl, ?_⟩) ?_ ?_
                                                          rotate_left
                                                          · intro w'
                                                            go_simp
                                                            with_reducible rfl
                                                          rotate_left
                                                          · simp only [Act.put, List.setIfInBounds_toArray, List.set_cons_zero, List.set_cons_succ, i64_w, i32_w]
                                                            rfl
                                                          refine pure_ (i := 6) (N := some 95) (v := ?_) (a' := ?_) #[true, true, true, true, false, true, true, false, false, false, false, false, false, false, false, false, false, false, false, false, false, false, false, false, false, false, false, false, false] rfl rfl (any_of HT_.out (by kernel_rfl)) (fun _ _ _ h => h) (Or.inl ⟨by rfl, ?_⟩) ?_ ?_
                                                          rotate_left
                                                          · intro w'
                                                            go_simp
                                                            with_reducible rfl
                                                          rotate_left
                                                          · simp only [Act.put, List.setIfInBounds_toArray, List.set_cons_zero, List.set_cons_succ, i64_w, i32_w]
                                                            rfl
                                                          refine pure_ (i := 7) (N := some 96) (v := ?_) (a' := ?_) #[true, true, true, true, false, true, true, true, false, false, false, false, false, false, false, false, false, false, false, false, false, false, false, false, false, false, false, false, false] rfl rfl (any_of HT_.out (by kernel_rfl)) (fun _ _ _ h => h) (Or.inl ⟨by rfl, ?_⟩) ?_ ?_
                                                          rotate_left
                                                          · intro w'
                                                            go_simp
                                                            with_reducible rfl
                                                          rotate_left
                                                          · simp only [Act.put, List.setIfInBounds_toArray, List.set_cons_zero, List.set_cons_succ, i64_w, i32_w]
                                                            rfl
                                                          refine take_ (i := 4) (N := some 93) (v := ?_) (a' := ?_) #[true, true, true, true, true, true, true, true, false, false, false, false, false, false, false, false, false, false, false, false, false, false, false, false, false, false, false, false, false] rfl rfl (take_ofW HT_.out HW_.out (by kernel_rfl)) (fun _ _ _ h => h) (Or.inl ⟨by rfl, ?_⟩) hHeld ?_ ?_
                                                          rotate_left
                                                          · intro w' _
                                                            go_simp
                                                            with_reducible rfl
                                                          rotate_left
                                                          · simp only [Act.put, List.setIfInBounds_toArray, List.set_cons_zero, List.set_cons_succ, i64_w, i32_w]
                                                            rfl
                                                          refine take_ (i := 8) (N := some 97) (v := ?_) (a' := ?_) #[true, true, true, true, true, true, true, true, true, false, false, false, false, false, false, false, false, false, false, false, false, false, false, false, false, false, false, false, false] rfl rfl (take_ofW HT_.out HW_.out (by kernel_rfl)) (fun _ _ _ h => h) (Or.inl ⟨by rfl, ?_⟩) hHeld ?_ ?_
                                                          rotate_left
                                                          · intro w' _
                                                            go_simp
                                                            with_reducible rfl
                                                          rotate_left
                                                          · simp only [Act.put, List.setIfInBounds_toArray, List.set_cons_zero, List.set_cons_succ, i64_w, i32_w]
                                                            rfl
                                                          refine pure_ (i := 9) (N := some 98) (v := ?_) (a' := ?_) #[true, true, true, true, true, true, true, true, true, true, false, false, false, false, false, false, false, false, false, false, false, false, false, false, false, false, false, false, false] rfl rfl (any_of HT_.out (by kernel_rfl)) (fun _ _ _ h => h) (Or.inl ⟨by rfl, ?_⟩) ?_ ?_
                                                          rotate_left
                                                          · intro w'
                                                            go_simp
                                                            with_reducible rfl
                                                          rotate_left
                                                          · simp only [Act.put, List.setIfInBounds_toArray, List.set_cons_zero, List.set_cons_succ, i64_w, i32_w]
                                                            rfl
                                                          refine pure_ (i := 10) (N := some 99) (v := ?_) (a' := ?_) #[true, true, true, true, true, true, true, true, true, true, true, false, false, false, false, false, false, false, false, false, false, false, false, false, false, false, false, false, false] rfl rfl (any_of HT_.out (by kernel_rfl)) (fun _ _ _ h => h) (Or.inl ⟨by rfl, ?_⟩) ?_ ?_
                                                          rotate_left
                                                          · intro w'
                                                            go_simp
                                                            with_reducible rfl
                                                          rotate_left
                                                          · simp only [Act.put, List.setIfInBounds_toArray, List.set_cons_zero, List.set_cons_succ, i64_w, i32_w]
                                                            rfl
                                                          refine pure_ (i := 11) (N := some 100) (v := undef) (a' := ?_) #[true, true, true, true, true, true, true, true, true, true, true, true, false, false, false, false, false, false, false, false, false, false, false, false, false, false, false, false, false] rfl rfl (any_of HT_.out (by kernel_rfl)) (fun _ _ _ h => h) (Or.inr ⟨by rfl, rfl⟩) ?_ ?_
                                                          rotate_left
                                                          · simp only [Act.put, List.setIfInBounds_toArray, List.set_cons_zero, List.set_cons_succ, i64_w, i32_w]
                                                            rfl
                                                          refine pure_ (i := 12) (N := some 101) (v := undef) (a' := ?_) #[true, true, true, true, true, true, true, true, true, true, true, true, true, false, false, false, false, false, false, false, false, false, false, false, false, false, false, false, false] rfl rfl (any_of HT_.out (by kernel_rfl)) (fun _ _ _ h => h) (Or.inr ⟨by rfl, rfl⟩) ?_ ?_
                                                          rotate_left
                                                          · simp only [Act.put, List.setIfInBounds_toArray, List.set_cons_zero, List.set_cons_succ, i64_w, i32_w]
                                                            rfl
                                                          refine pure_ (i := 13) (N := some 102) (v := undef) (a' := ?_) #[true, true, true, true, true, true, true, true, true, true, true, true, true, true, false, false, false, false, false, false, false, false, false, false, false, false, false, false, false] rfl rfl (any_of HT_.out (by kernel_rfl)) (fun _ _ _ h => h) (Or.inr ⟨by rfl, rfl⟩) ?_ ?_
                                                          rotate_left
                                                          · simp only [Act.put, List.setIfInBounds_toArray, List.set_cons_zero, List.set_cons_succ, i64_w, i32_w]
                                                            rfl
                                                          refine pure_ (i := 14) (N := some 103) (v := undef) (a' := ?_) #[true, true, true, true, true, true, true, true, true, true, true, true, true, true, true, false, false, false, false, false, false, false, false, false, false, false, false, false, false] rfl rfl (any_of HT_.out (by kernel_rfl)) (fun _ _ _ h => h) (Or.inr ⟨by rfl, rfl⟩) ?_ ?_
                                                          rotate_left
                                                          · simp only [Act.put, List.setIfInBounds_toArray, List.set_cons_zero, List.set_cons_succ, i64_w, i32_w]
                                                            rfl
                                                          refine pure_ (i := 15) (N := some 104) (v := undef) (a' := ?_) #[true, true, true, true, true, true, true, true, true, true, true, true, true, true, true, true, false, false, false, false, false, false, false, false, false, false, false, false, false] rfl rfl (any_of HT_.out (by kernel_rfl)) (fun _ _ _ h => h) (Or.inr ⟨by rfl, rfl⟩) ?_ ?_
                                                          rotate_left
                                                          · simp only [Act.put, List.setIfInBounds_toArray, List.set_cons_zero, List.set_cons_succ, i64_w, i32_w]
                                                            rfl
                                                          refine pure_ (i := 16) (N := some 105) (v := undef) (a' := ?_) #[true, true, true, true, true, true, true, true, true, true, true, true, true, true, true, true, true, false, false, false, false, false, false, false, false, false, false, false, false] rfl rfl (any_of HT_.out (by kernel_rfl)) (fun _ _ _ h => h) (Or.inr ⟨by rfl, rfl⟩) ?_ ?_
                                                          rotate_left
                                                          · simp only [Act.put, List.setIfInBounds_toArray, List.set_cons_zero, List.set_cons_succ, i64_w, i32_w]
                                                            rfl
                                                          refine pure_ (i := 17) (N := some 106) (v := undef) (a' := ?_) #[true, true, true, true, true, true, true, true, true, true, true, true, true, true, true, true, true, true, false, false, false, false, false, false, false, false, false, false, false] rfl rfl (any_of HT_.out (by kernel_rfl)) (fun _ _ _ h => h) (Or.inr ⟨by rfl, rfl⟩) ?_ ?_
                                                          rotate_left
                                                          · simp only [Act.put, List.setIfInBounds_toArray, List.set_cons_zero, List.set_cons_succ, i64_w, i32_w]
                                                            rfl
                                                          refine pure_ (i := 18) (N := some 107) (v := undef) (a' := ?_) #[true, true, true, true, true, true, true, true, true, true, true, true, true, true, true, true, true, true, true, false, false, false, false, false, false, false, false, false, false] rfl rfl (any_of HT_.out (by kernel_rfl)) (fun _ _ _ h => h) (Or.inr ⟨by rfl, rfl⟩) ?_ ?_
                                                          rotate_left
                                                          · simp only [Act.put, List.setIfInBounds_toArray, List.set_cons_zero, List.set_cons_succ, i64_w, i32_w]
                                                            rfl
                                                          refine pure_ (i := 19) (N := some 108) (v := undef) (a' := ?_) #[true, true, true, true, true, true, true, true, true, true, true, true, true, true, true, true, true, true, true, true, false, false, false, false, false, false, false, false, false] rfl rfl (any_of HT_.out (by kernel_rfl)) (fun _ _ _ h => h) (Or.inr ⟨by rfl, rfl⟩) ?_ ?_
                                                          rotate_left
                                                          · simp only [Act.put, List.setIfInBounds_toArray, List.set_cons_zero, List.set_cons_succ, i64_w, i32_w]
                                                            rfl
                                                          refine pure_ (i := 20) (N := some 109) (v := undef) (a' := ?_) #[true, true, true, true, true, true, true, true, true, true, true, true, true, true, true, true, true, true, true, true, true, false, false, false, false, false, false, false, false] rfl rfl (any_of HT_.out (by kernel_rfl)) (fun _ _ _ h => h) (Or.inr ⟨by rfl, rfl⟩) ?_ ?_
                                                          rotate_left
                                                          · simp only [Act.put, List.setIfInBounds_toArray, List.set_cons_zero, List.set_cons_succ, i64_w, i32_w]
                                                            rfl
                                                          refine pure_ (i := 21) (N := some 110) (v := undef) (a' := ?_) #[true, true, true, true, true, true, true, true, true, true, true, true, true, true, true, true, true, true, true, true, true, true, false, false, false, false, false, false, false] rfl rfl (any_of HT_.out (by kernel_rfl)) (fun _ _ _ h => h) (Or.inr ⟨by rfl, rfl⟩) ?_ ?_
                                                          rotate_left
                                                          · simp only [Act.put, List.setIfInBounds_toArray, List.set_cons_zero, List.set_cons_succ, i64_w, i32_w]
                                                            rfl
                                                          refine pure_ (i := 22) (N := some 111) (v := undef) (a' := ?_) #[true, true, true, true, true, true, true, true, true, true, true, true, true, true, true, true, true, true, true, true, true, true, true, false, false, false, false, false, false] rfl rfl (any_of HT_.out (by kernel_rfl)) (fun _ _ _ h => h) (Or.inr ⟨by rfl, rfl⟩) ?_ ?_
                                                          rotate_left
                                                          · simp only [Act.put, List.setIfInBounds_toArray, List.set_cons_zero, List.set_cons_succ, i64_w, i32_w]
                                                            rfl
                                                          refine pure_ (i := 23) (N := some 112) (v := undef) (a' := ?_) #[true, true, true, true, true, true, true, true, true, true, true, true, true, true, true, true, true, true, true, true, true, true, true, true, false, false, false, false, false] rfl rfl (any_of HT_.out (by kernel_rfl)) (fun _ _ _ h => h) (Or.inr ⟨by rfl, rfl⟩) ?_ ?_
                                                          rotate_left
                                                          · simp only [Act.put, List.setIfInBounds_toArray, List.set_cons_zero, List.set_cons_succ, i64_w, i32_w]
                                                            rfl
                                                          refine pure_ (i := 24) (N := some 113) (v := undef) (a' := ?_) #[true, true, true, true, true, true, true, true, true, true, true, true, true, true, true, true, true, true, true, true, true, true, true, true, true, false, false, false, false] rfl rfl (any_of HT_.out (by kernel_rfl)) (fun _ _ _ h => h) (Or.inr ⟨by rfl, rfl⟩) ?_ ?_
                                                          rotate_left
                                                          · simp only [Act.put, List.setIfInBounds_toArray, List.set_cons_zero, List.set_cons_succ, i64_w, i32_w]
                                                            rfl
                                                          refine pure_ (i := 25) (N := some 114) (v := undef) (a' := ?_) #[true, true, true, true, true, true, true, true, true, true, true, true, true, true, true, true, true, true, true, true, true, true, true, true, true, true, false, false, false] rfl rfl (any_of HT_.out (by kernel_rfl)) (fun _ _ _ h => h) (Or.inr ⟨by rfl, rfl⟩) ?_ ?_
                                                          rotate_left
                                                          · simp only [Act.put, List.setIfInBounds_toArray, List.set_cons_zero, List.set_cons_succ, i64_w, i32_w]
                                                            rfl
                                                          refine pure_ (i := 26) (N := some 115) (v := ?_) (a' := ?_) #[true, true, true, true, true, true, true, true, true, true, true, true, true, true, true, true, true, true, true, true, true, true, true, true, true, true, true, false, false] rfl rfl (any_of HT_.out (by kernel_rfl)) (fun _ _ _ h => h) (Or.inl ⟨by rfl, ?_⟩) ?_ ?_
                                                          rotate_left
                                                          · intro w'
                                                            go_simp
                                                            with_reducible rfl
                                                          rotate_left
                                                          · simp only [Act.put, List.setIfInBounds_toArray, List.set_cons_zero, List.set_cons_succ, i64_w, i32_w]
                                                            rfl
                                                          refine pure_ (i := 27) (N := some 116) (v := ?_) (a' := ?_) #[true, true, true, true, true, true, true, true, true, true, true, true, true, true, true, true, true, true, true, true, true, true, true, true, true, true, true, true, false] rfl rfl (any_of HT_.out (by kernel_rfl)) (fun _ _ _ h => h) (Or.inl ⟨by rfl, ?_⟩) ?_ ?_
                                                          rotate_left
                                                          · intro w'
                                                            go_simp
                                                            with_reducible rfl
                                                          rotate_left
                                                          · simp only [Act.put, List.setIfInBounds_toArray, List.set_cons_zero, List.set_cons_succ, i64_w, i32_w]
                                                            rfl
                                                          refine last_ (i := 28) (N := none) #[true, true, true, true, true, true, true, true, true, true, true, true, true, true, true, true, true, true, true, true, true, true, true, true, true, true, true, true, true] rfl rfl (one_of HT_.out (by kernel_rfl)) (by decide) (fun K hK => ?_)
                                                          refine skip_ (w1 := ?_) (by rfl) rfl ?_ ?_
                                                          rotate_left
                                                          · go_simp
                                                            rfl
                                                          refine hK.out _ _ ?_
                                                          clear hK K
                                                          refine done_ (done_of HT_.out (by kernel_rfl)) ?_
                                                          try go_wp2
                                                          go_roundg kj73
                                                          case measure => have := HJ2.out; have := HJ5.out; have := HK3.out; have := HK4.out; have := HJ22.out; have := HJ73.out; omega
                                                          case rel => exact ⟨(y141), (wrap64 (x9_4 + 1)), (by first | rfl | (simp; done) | (simp [*]; done) | (simp [bne, *]; done)), H', ⟨by have := HJ2.out; have := HJ5.out; have := HK3.out; have := HK4.out; have := HJ22.out; have := HJ73.out; omega⟩, ⟨by (with_reducible repeat (first | apply Kd.R_alloc | apply Kd.R_drewN | apply Kd.R_drew)); exact Kd.R_mono (Kd.R_far (p := ⟨go91, (x9_4 : Int).toNat, none⟩) (Kd.R_mono HO_6.out (fun k_ hk => (⟨hk, fun e_ => hk (by rw [e_]; rfl)⟩ : _ ∧ k_ ≠ go91))) (fun _ hk => hk.2) (.bool true)) (fun _ hk => hk.1)⟩, ⟨by (with_reducible repeat (first | apply Kd.R_alloc | apply Kd.R_drewN | apply Kd.R_drew)); exact HQ93.out⟩, ⟨by repeat (first | (with_reducible first | exact HB.out | apply below_alloc | apply pw_below_drewN | apply below_drew1 | refine below_set ?_ GB91.out) | exact HB.out)⟩⟩
                                                        · rw [if_neg c90] at H
                                                          exact absurd H (by simp)
                                                      · rw [if_neg c89] at H
                                                        exact absurd H (by simp)
                                                    · rw [if_neg c88] at H
                                                      have c88b0 : ((bt a0 x7_3) == (bt a1 (ji84))) = false := beq_eq_false_iff_ne.mpr c88
                                                      have c88b1 : ((bt a0 x7_3) != (bt a1 (ji84))) = true := bne_iff_ne.mpr c88
                                                      by_cases c94 : x9_4 ≤ x5_5
                                                      · rw [if_pos c94] at H
                                                        have c94b0 : decide (x9_4 ≤ x5_5) = true := decide_eq_true c94
                                                        clear c94
                                                        replace H := Option.bind_eq_some_iff.mp H
                                                        obtain ⟨t142, A960, H⟩ := H
                                                        replace H : ((postbagref12_lower.f (bt a1 (ji84))).bind fun t143 => (if 0 ≤ x9_4 then (if x9_4 < (x8_4.length : Int) then (postbagref12_Match.l1 kj73 a0 a1 x5_5 x6_3 x7_3 (x8_4.set (x9_4 : Int).toNat (t142 == t143)) (wrap64 (x9_4 + 1))) else (none)) else (none))) = some r := H
                                                        have A96 := Aside0.mk A960
                                                        clear A960
                                                        replace H := Option.bind_eq_some_iff.mp H
                                                        obtain ⟨t143, A980, H⟩ := H
                                                        replace H : (if 0 ≤ x9_4 then (if x9_4 < (x8_4.length : Int) then (postbagref12_Match.l1 kj73 a0 a1 x5_5 x6_3 x7_3 (x8_4.set (x9_4 : Int).toNat (t142 == t143)) (wrap64 (x9_4 + 1))) else (none)) else (none)) = some r := H
                                                        have A98 := Aside0.mk A980
                                                        clear A980
                                                        by_cases c99 : 0 ≤ x9_4
                                                        · rw [if_pos c99] at H
                                                          have c99b0 : decide (0 ≤ x9_4) = true := decide_eq_true c99
                                                          clear c99
                                                          by_cases c100 : x9_4 < (x8_4.length : Int)
                                                          · rw [if_pos c100] at H
                                                            have c100b0 : decide (x9_4 < (x8_4.length : Int)) = true := decide_eq_true c100
                                                            clear c100
                                                            obtain ⟨y144, hy144⟩ : ∃ y_ : List Bool, y_ = (x8_4.set (x9_4 : Int).toNat (t142 == t143)) := ⟨_, rfl⟩
                                                            replace H : (postbagref12_Match.l1 kj73 a0 a1 x5_5 x6_3 x7_3 y144 (wrap64 (x9_4 + 1))) = some r := by first | (rw [hy144]; with_reducible exact H) | (have H2_ := (Option.bind_some _ _).symm.trans H; rw [hy144]; with_reducible exact H2_) | (have H2_ := (Option.bind_some _ _).symm.trans H; with_reducible exact H2_) | with_reducible exact H | (rw [hy144]; exact H) | exact H
                                                            have Ny144 := Aside0.mk hy144
                                                            clear hy144
                                                            have H' := Aside0.mk H
                                                            clear H
                                                            try go_wp2
                                                            have n0_ := Aside0.mk (Kd.R_drew HO_6.out)
                                                            have n1_ := Aside0.mk (Kd.R_drew HO_8.out)
                                                            have n2_ := Aside0.mk (below_drew1 HB.out)
                                                            clear HO_6
                                                            clear HO_8
                                                            clear HB
                                                            have HO_6 := n0_
                                                            have HO_8 := n1_
                                                            have HB := n2_
                                                            clear n0_ n1_ n2_
                                                            have p83 : 0 ≤ (x7_3 : Int) := of_decide_eq_true (by first | (with_reducible assumption) | assumption)
                                                            have q83 : x7_3 < (a0.size : Int) := of_decide_eq_true (by first | (with_reducible assumption) | assumption)
                                                            have hx83 := bt_at a0 x7_3
                                                            replace p83 := eq_true p83
                                                            replace q83 := eq_true q83
                                                            have p87 : 0 ≤ ((ji84) : Int) := of_decide_eq_true (by first | (with_reducible assumption) | assumption)
                                                            have q87 : (ji84) < (a1.size : Int) := of_decide_eq_true (by first | (with_reducible assumption) | assumption)
                                                            have hx87 := bt_at a1 (ji84)
                                                            replace p87 := eq_true p87
                                                            replace q87 := eq_true q87
                                                            have p95 : 0 ≤ (x7_3 : Int) := of_decide_eq_true (by first | (with_reducible assumption) | assumption)
                                                            have q95 : x7_3 < (a0.size : Int) := of_decide_eq_true (by first | (with_reducible assumption) | assumption)
                                                            have hx95 := bt_at a0 x7_3
                                                            replace p95 := eq_true p95
                                                            replace q95 := eq_true q95
                                                            have p97 : 0 ≤ ((ji84) : Int) := of_decide_eq_true (by first | (with_reducible assumption) | assumption)
                                                            have q97 : (ji84) < (a1.size : Int) := of_decide_eq_true (by first | (with_reducible assumption) | assumption)
                                                            have hx97 := bt_at a1 (ji84)
                                                            replace p97 := eq_true p97
                                                            replace q97 := eq_true q97
                                                            refine start_ (n := 29) (S := fun w' => True) (ds := [28]) #[false, false, false, false, false, false, false, false, false, false, false, false, false, false, false, false, false, false, false, false, false, false, false, false, false, false, false, false, false] (by kernel_rfl) rfl rfl trivial (fun hHeld => ?_); refine with_tabW postbagref12_Match.tab16 postbagref12_Match.bits16 (fun HT_ HW_ => ?_)
                                                            generalize wc.drew = w102 at HO_6 HO_8 HB hHeld ⊢
                                                            refine pure_ (i := 0) (N := some 89) (v := ?_) (a' := ?_) #[true, false, false, false, false, false, false, false, false, false, false, false, false, false, false, false, false, false, false, false, false, false, false, false, false, false, false, false, false] rfl rfl (any_of HT_.out (by kernel_rfl)) (fun _ _ _ h => h) (Or.inl ⟨by rfl, ?_⟩) ?_ ?_
                                                            rotate_left
                                                            · intro w'
                                                              go_simp
                                                              with_reducible rfl
                                                            rotate_left
                                                            · simp only [Act.put, List.setIfInBounds_toArray, List.set_cons_zero, List.set_cons_succ, i64_w, i32_w]
                                                              rfl
                                                            refine pure_ (i := 1) (N := some 90) (v := ?_) (a' := ?_) #[true, true, false, false, false, false, false, false, false, false, false, false, false, false, false, false, false, false, false, false, false, false, false, false, false, false, false, false, false] rfl rfl (any_of HT_.out (by kernel_rfl)) (fun _ _ _ h => h) (Or.inl ⟨by rfl, ?_⟩) ?_ ?_
                                                            rotate_left
                                                            · intro w'
                                                              go_simp
                                                              with_reducible rfl
                                                            rotate_left
                                                            · simp only [Act.put, List.setIfInBounds_toArray, List.set_cons_zero, List.set_cons_succ, i64_w, i32_w]
                                                              rfl
                                                            refine pure_ (i := 2) (N := some 91) (v := ?_) (a' := ?_) #[true, true, true, false, false, false, false, false, false, false, false, false, false, false, false, false, false, false, false, false, false, false, false, false, false, false, false, false, false] rfl rfl (any_of HT_.out (by kernel_rfl)) (fun _ _ _ h => h) (Or.inl ⟨by rfl, ?_⟩) ?_ ?_
                                                            rotate_left
                                                            · intro w'
                                                              go_simp
                                                              with_reducible rfl
                                                            rotate_left
                                                            · simp only [Act.put, List.setIfInBounds_toArray, List.set_cons_zero, List.set_cons_succ, i64_w, i32_w]
                                                              rfl
                                                            refine pure_ (i := 3) (N := some 92) (v := ?_) (a' := ?_) #[true, true, true, true, false, false, false, false, false, false, false, false, false, false, false, false, false, false, false, false, false, false, false, false, false, false, false, false, false] rfl rfl (any_of HT_.out (by kernel_rfl)) (fun _ _ _ h => h) (Or.inl ⟨by rfl, ?_⟩) ?_ ?_
                                                            rotate_left
                                                            · intro w'
                                                              go_simp
                                                              with_reducible rfl
                                                            rotate_left
                                                            · simp only [Act.put, List.setIfInBounds_toArray, List.set_cons_zero, List.set_cons_succ, i64_w, i32_w]
                                                              rfl
                                                            refine pure_ (i := 5) (N := some 94) (v := ?_) (a' := ?_) #[true, true, true, true, false, true, false, false, false, false, false, false, false, false, false, false, false, false, false, false, false, false, false, false, false, false, false, false, false] rfl rfl (any_of HT_.out (by kernel_rfl)) (fun _ _ _ h => h) (Or.inl ⟨by rfl, ?_⟩) ?_ ?_
                                                            rotate_left
                                                            · intro w'
                                                              go_simp
                                                              with_reducible rfl
                                                            rotate_left
                                                            · simp only [Act.put, List.setIfInBounds_toArray, List.set_cons_zero, List.set_cons_succ, i64_w, i32_w]
                                                              rfl
                                                            refine pure_ (i := 6) (N := some 95) (v := ?_) (a' := ?_) #[true, true, true, true, false, true, true, false, false, false, false, false, false, false, false, false, false, false, false, false, false, false, false, false, false, false, false, false, false] rfl rfl (any_of HT_.out (by kernel_rfl)) (fun _ _ _ h => h) (Or.inl ⟨by rfl, ?_⟩) ?_ ?_
                                                            rotate_left
                                                            · intro w'
                                                              go_simp
                                                              with_reducible rfl
                                                            rotate_left
                                                            · simp only [Act.put, List.setIfInBounds_toArray, List.set_cons_zero, List.set_cons_succ, i64_w, i32_w]
                                                              rfl
                                                            refine pure_ (i := 7) (N := some 96) (v := ?_) (a' := ?_) #[true, true, true, true, false, true, true, true, false, false, false, false, false, false, false, false, false, false, false, false, false, false, false, false, false, false, false, false, false] rfl rfl (any_of HT_.out (by kernel_rfl)) (fun _ _ _ h => h) (Or.inl ⟨by rfl, ?_⟩) ?_ ?_
                                                            rotate_left
                                                            · intro w'
                                                              go_simp
                                                              with_reducible rfl
                                                            rotate_left
                                                            · simp only [Act.put, List.setIfInBounds_toArray, List.set_cons_zero, List.set_cons_succ, i64_w, i32_w]
                                                              rfl
                                                            refine take_ (i := 4) (N := some 93) (v := ?_) (a' := ?_) #[true, true, true, true, true, true, true, true, false, false, false, false, false, false, false, false, false, false, false, false, false, false, false, false, false, false, false, false, false] rfl rfl (take_ofW HT_.out HW_.out (by kernel_rfl)) (fun _ _ _ h => h) (Or.inl ⟨by rfl, ?_⟩) hHeld ?_ ?_
                                                            rotate_left
                                                            · intro w' _
                                                              go_simp
                                                              with_reducible rfl
                                                            rotate_left
                                                            · simp only [Act.put, List.setIfInBounds_toArray, List.set_cons_zero, List.set_cons_succ, i64_w, i32_w]
                                                              rfl
                                                            refine take_ (i := 8) (N := some 97) (v := ?_) (a' := ?_) #[true, true, true, true, true, true, true, true, true, false, false, false, false, false, false, false, false, false, false, false, false, false, false, false, false, false, false, false, false] rfl rfl (take_ofW HT_.out HW_.out (by kernel_rfl)) (fun _ _ _ h => h) (Or.inl ⟨by rfl, ?_⟩) hHeld ?_ ?_
                                                            rotate_left
                                                            · intro w' _
                                                              go_simp
                                                              with_reducible rfl
                                                            rotate_left
                                                            · simp only [Act.put, List.setIfInBounds_toArray, List.set_cons_zero, List.set_cons_succ, i64_w, i32_w]
                                                              rfl
                                                            refine pure_ (i := 9) (N := some 98) (v := ?_) (a' := ?_) #[true, true, true, true, true, true, true, true, true, true, false, false, false, false, false, false, false, false, false, false, false, false, false, false, false, false, false, false, false] rfl rfl (any_of HT_.out (by kernel_rfl)) (fun _ _ _ h => h) (Or.inl ⟨by rfl, ?_⟩) ?_ ?_
                                                            rotate_left
                                                            · intro w'
                                                              go_simp
                                                              with_reducible rfl
                                                            rotate_left
                                                            · simp only [Act.put, List.setIfInBounds_toArray, List.set_cons_zero, List.set_cons_succ, i64_w, i32_w]
                                                              rfl
                                                            refine pure_ (i := 10) (N := some 99) (v := ?_) (a' := ?_) #[true, true, true, true, true, true, true, true, true, true, true, false, false, false, false, false, false, false, false, false, false, false, false, false, false, false, false, false, false] rfl rfl (any_of HT_.out (by kernel_rfl)) (fun _ _ _ h => h) (Or.inl ⟨by rfl, ?_⟩) ?_ ?_
                                                            rotate_left
                                                            · intro w'
                                                              go_simp
                                                              with_reducible rfl
                                                            rotate_left
                                                            · simp only [Act.put, List.setIfInBounds_toArray, List.set_cons_zero, List.set_cons_succ, i64_w, i32_w]
                                                              rfl
                                                            refine pure_ (i := 11) (N := some 100) (v := ?_) (a' := ?_) #[true, true, true, true, true, true, true, true, true, true, true, true, false, false, false, false, false, false, false, false, false, false, false, false, false, false, false, false, false] rfl rfl (any_of HT_.out (by kernel_rfl)) (fun _ _ _ h => h) (Or.inl ⟨by rfl, ?_⟩) ?_ ?_
                                                            rotate_left
                                                            · intro w'
                                                              go_simp
                                                              with_reducible rfl
                                                            rotate_left
                                                            · simp only [Act.put, List.setIfInBounds_toArray, List.set_cons_zero, List.set_cons_succ, i64_w, i32_w]
                                                              rfl
                                                            refine pure_ (i := 12) (N := some 101) (v := ?_) (a' := ?_) #[true, true, true, true, true, true, true, true, true, true, true, true, true, false, false, false, false, false, false, false, false, false, false, false, false, false, false, false, false] rfl rfl (any_of HT_.out (by kernel_rfl)) (fun _ _ _ h => h) (Or.inl ⟨by rfl, ?_⟩) ?_ ?_
                                                            rotate_left
                                                            · intro w'
                                                              go_simp
                                                              with_reducible rfl
                                                            rotate_left
                                                            · simp only [Act.put, List.setIfInBounds_toArray, List.set_cons_zero, List.set_cons_succ, i64_w, i32_w]
                                                              rfl
                                                            refine pure_ (i := 13) (N := some 102) (v := ?_) (a' := ?_) #[true, true, true, true, true, true, true, true, true, true, true, true, true, true, false, false, false, false, false, false, false, false, false, false, false, false, false, false, false] rfl rfl (any_of HT_.out (by kernel_rfl)) (fun _ _ _ h => h) (Or.inl ⟨by rfl, ?_⟩) ?_ ?_
                                                            rotate_left
                                                            · intro w'
                                                              go_simp
                                                              with_reducible rfl
                                                            rotate_left
                                                            · simp only [Act.put, List.setIfInBounds_toArray, List.set_cons_zero, List.set_cons_succ, i64_w, i32_w]
                                                              rfl
                                                            refine pure_ (i := 14) (N := some 103) (v := ?_) (a' := ?_) #[true, true, true, true, true, true, true, true, true, true, true, true, true, true, true, false, false, false, false, false, false, false, false, false, false, false, false, false, false] rfl rfl (any_of HT_.out (by kernel_rfl)) (fun _ _ _ h => h) (Or.inl ⟨by rfl, ?_⟩) ?_ ?_
                                                            rotate_left
                                                            · intro w'
                                                              go_simp
                                                              with_reducible rfl
                                                            rotate_left
                                                            · simp only [Act.put, List.setIfInBounds_toArray, List.set_cons_zero, List.set_cons_succ, i64_w, i32_w]
                                                              rfl
                                                            refine pure_ (i := 15) (N := some 104) (v := ?_) (a' := ?_) #[true, true, true, true, true, true, true, true, true, true, true, true, true, true, true, true, false, false, false, false, false, false, false, false, false, false, false, false, false] rfl rfl (any_of HT_.out (by kernel_rfl)) (fun _ _ _ h => h) (Or.inl ⟨by rfl, ?_⟩) ?_ ?_
                                                            rotate_left
                                                            · intro w'
                                                              go_simp
                                                              with_reducible rfl
                                                            rotate_left
                                                            · simp only [Act.put, List.setIfInBounds_toArray, List.set_cons_zero, List.set_cons_succ, i64_w, i32_w]
                                                              rfl
                                                            refine pure_ (i := 16) (N := some 105) (v := ?_) (a' := ?_) #[true, true, true, true, true, true, true, true, true, true, true, true, true, true, true, true, true, false, false, false, false, false, false, false, false, false, false, false, false] rfl rfl (any_of HT_.out (by kernel_rfl)) (fun _ _ _ h => h) (Or.inl ⟨by rfl, ?_⟩) ?_ ?_
                                                            rotate_left
                                                            · intro w'
                                                              go_simp
                                                              with_reducible rfl
                                                            rotate_left
                                                            · simp only [Act.put, List.setIfInBounds_toArray, List.set_cons_zero, List.set_cons_succ, i64_w, i32_w]
                                                              rfl
                                                            refine pure_ (i := 19) (N := some 108) (v := ?_) (a' := ?_) #[true, true, true, true, true, true, true, true, true, true, true, true, true, true, true, true, true, false, false, true, false, false, false, false, false, false, false, false, false] rfl rfl (any_of HT_.out (by kernel_rfl)) (fun _ _ _ h => h) (Or.inl ⟨by rfl, ?_⟩) ?_ ?_
                                                            rotate_left
                                                            · intro w'
                                                              go_simp
                                                              with_reducible rfl
                                                            rotate_left
                                                            · simp only [Act.put, List.setIfInBounds_toArray, List.set_cons_zero, List.set_cons_succ, i64_w, i32_w]
                                                              rfl
                                                            refine pure_ (i := 20) (N := some 109) (v := ?_) (a' := ?_) #[true, true, true, true, true, true, true, true, true, true, true, true, true, true, true, true, true, false, false, true, true, false, false, false, false, false, false, false, false] rfl rfl (any_of HT_.out (by kernel_rfl)) (fun _ _ _ h => h) (Or.inl ⟨by rfl, ?_⟩) ?_ ?_
                                                            rotate_left
                                                            · intro w'
                                                              go_simp
                                                              with_reducible rfl
                                                            rotate_left
                                                            · simp only [Act.put, List.setIfInBounds_toArray, List.set_cons_zero, List.set_cons_succ, i64_w, i32_w]
                                                              rfl
                                                            refine pure_ (i := 21) (N := some 110) (v := ?_) (a' := ?_) #[true, true, true, true, true, true, true, true, true, true, true, true, true, true, true, true, true, false, false, true, true, true, false, false, false, false, false, false, false] rfl rfl (any_of HT_.out (by kernel_rfl)) (fun _ _ _ h => h) (Or.inl ⟨by rfl, ?_⟩) ?_ ?_
                                                            rotate_left
                                                            · intro w'
                                                              go_simp
                                                              with_reducible rfl
                                                            rotate_left
                                                            · simp only [Act.put, List.setIfInBounds_toArray, List.set_cons_zero, List.set_cons_succ, i64_w, i32_w]
                                                              rfl
                                                            refine take_ (i := 17) (N := some 106) (v := ?_) (a' := ?_) #[true, true, true, true, true, true, true, true, true, true, true, true, true, true, true, true, true, true, false, true, true, true, false, false, false, false, false, false, false] rfl rfl (take_ofW HT_.out HW_.out (by kernel_rfl)) (fun _ _ _ h => h) (Or.inl ⟨by rfl, ?_⟩) hHeld ?_ ?_
                                                            rotate_left
                                                            · intro w' _
                                                              go_simp
                                                              with_reducible rfl
                                                            rotate_left
                                                            · simp only [Act.put, List.setIfInBounds_toArray, List.set_cons_zero, List.set_cons_succ, i64_w, i32_w]
                                                              rfl
                                                            refine take_ (i := 22) (N := some 111) (v := ?_) (a' := ?_) #[true, true, true, true, true, true, true, true, true, true, true, true, true, true, true, true, true, true, false, true, true, true, true, false, false, false, false, false, false] rfl rfl (take_ofW HT_.out HW_.out (by kernel_rfl)) (fun _ _ _ h => h) (Or.inl ⟨by rfl, ?_⟩) hHeld ?_ ?_
                                                            rotate_left
                                                            · intro w' _
                                                              go_simp
                                                              with_reducible rfl
                                                            rotate_left
                                                            · simp only [Act.put, List.setIfInBounds_toArray, List.set_cons_zero, List.set_cons_succ, i64_w, i32_w]
                                                              rfl
                                                            refine one_ (i := 18) (N := some 107) #[true, true, true, true, true, true, true, true, true, true, true, true, true, true, true, true, true, true, true, true, true, true, true, false, false, false, false, false, false] rfl rfl (one_of HT_.out (by kernel_rfl)) (by decide) (fun K hK => ?_)
                                                            refine goes_ Try.func14 (by kernel_rfl) rfl #[.int .u8 (bt a0 x7_3)] (by rfl) rfl rfl (by (try simp only [List.map_toArray, List.map_cons, List.map_nil]); first | done | rfl | (simp only [List.length_drop, List.length_take]; rfl)) ?_
                                                            with_reducible refine (postbagref12_lower.calls (bt a0 x7_3) t142 _ A96.out).mono ?_
                                                            rintro e w' ⟨rfl, ⟨nd, rfl⟩⟩
                                                            refine ⟨_, rfl, ?_⟩
                                                            refine hK.out _ _ trivial (fun hHeld => ?_)
                                                            clear hK K
                                                            refine norm_ (a' := ?_) ?_ ?_
                                                            rotate_left
                                                            · show Act.put _ (some 107) _ = _
                                                              simp only [Act.put, List.setIfInBounds_toArray, List.set_cons_zero, List.set_cons_succ, i64_w, i32_w]
                                                              rfl
                                                            refine one_ (i := 23) (N := some 112) #[true, true, true, true, true, true, true, true, true, true, true, true, true, true, true, true, true, true, true, true, true, true, true, true, false, false, false, false, false] rfl rfl (one_of HT_.out (by kernel_rfl)) (by decide) (fun K hK => ?_)
                                                            refine goes_ Try.func14 (by kernel_rfl) rfl #[.int .u8 (bt a1 (ji84))] (by rfl) rfl rfl (by (try simp only [List.map_toArray, List.map_cons, List.map_nil]); first | done | (simp only [hji84]; rfl) | rfl | (simp only [List.length_drop, List.length_take]; rfl)) ?_
                                                            with_reducible refine (postbagref12_lower.calls (bt a1 (ji84)) t143 _ A98.out).mono ?_
                                                            rintro e w' ⟨rfl, ⟨nd, rfl⟩⟩
                                                            refine ⟨_, rfl, ?_⟩
                                                            have p101 : 0 ≤ (x9_4 : Int) := of_decide_eq_true (by first | (with_reducible assumption) | assumption)
                                                            have q101 : (x9_4 : Int) < ((x8_4.length : Int) : Int) := of_decide_eq_true (by first | (with_reducible assumption) | assumption)
                                                            obtain ⟨go101, co101, eo101, gb101, gl101, cl101, HG101⟩ := Kd.R_form HO_8.out (by omega)
                                                            (first | cases eo101 | (injection eo101 with ea_ en_ ec_; (first | subst ea_ | (injection ea_ with ea_; subst ea_)); subst ec_; clear en_))
                                                            have GB101 := Aside0.mk gb101
                                                            have GG101 := Aside0.mk HG101
                                                            clear gb101 gl101 HG101
                                                            obtain ⟨hx101_0, hf101_0⟩ := Kd.R_celln false HO_8.out (x9_4 : Int) p101 q101
                                                            replace p101 := eq_true p101
                                                            replace q101 := eq_true q101
                                                            have HP103 := Kd.R_putn HO_8.out (x9_4 : Int) (t142 == t143)
                                                            rw [← Ny144.out] at HP103
                                                            have HQ103 := Aside0.mk HP103
                                                            clear HP103
                                                            refine hK.out _ _ trivial (fun hHeld => ?_)
                                                            clear hK K
                                                            refine norm_ (a' := ?_) ?_ ?_
                                                            rotate_left
                                                            · show Act.put _ (some 112) _ = _
                                                              simp only [Act.put, List.setIfInBounds_toArray, List.set_cons_zero, List.set_cons_succ, i64_w, i32_w]
                                                              rfl
                                                            refine pure_ (i := 24) (N := some 113) (v := ?_) (a' := ?_) #[true, true, true, true, true, true, true, true, true, true, true, true, true, true, true, true, true, true, true, true, true, true, true, true, true, false, false, false, false] rfl rfl (any_of HT_.out (by kernel_rfl)) (fun _ _ _ h => h) (Or.inl ⟨by rfl, ?_⟩) ?_ ?_
                                                            rotate_left
                                                            · intro w'
                                                              go_simp
                                                              with_reducible rfl
                                                            rotate_left
                                                            · simp only [Act.put, List.setIfInBounds_toArray, List.set_cons_zero, List.set_cons_succ, i64_w, i32_w]
                                                              rfl
                                                            refine pure_ (i := 25) (N := some 114) (v := ?_) (a' := ?_) #[true, true, true, true, true, true, true, true, true, true, true, true, true, true, true, true, true, true, true, true, true, true, true, true, true, true, false, false, false] rfl rfl (any_of HT_.out (by kernel_rfl)) (fun _ _ _ h => h) (Or.inl ⟨by rfl, ?_⟩) ?_ ?_
                                                            rotate_left
                                                            · intro w'
                                                              go_simp
                                                              with_reducible rfl
                                                            rotate_left
                                                            · simp only [Act.put, List.setIfInBounds_toArray, List.set_cons_zero, List.set_cons_succ, i64_w, i32_w]
                                                              rfl
                                                            refine pure_ (i := 26) (N := some 115) (v := ?_) (a' := ?_) #[true, true, true, true, true, true, true, true, true, true, true, true, true, true, true, true, true, true, true, true, true, true, true, true, true, true, true, false, false] rfl rfl (any_of HT_.out (by kernel_rfl)) (fun _ _ _ h => h) (Or.inl ⟨by rfl, ?_⟩) ?_ ?_
                                                            rotate_left
                                                            · intro w'
                                                              go_simp
                                                              with_reducible rfl
                                                            rotate_left
                                                            · simp only [Act.put, List.setIfInBounds_toArray, List.set_cons_zero, List.set_cons_succ, i64_w, i32_w]
                                                              rfl
                                                            refine pure_ (i := 27) (N := some 116) (v := ?_) (a' := ?_) #[true, true, true, true, true, true, true, true, true, true, true, true, true, true, true, true, true, true, true, true, true, true, true, true, true, true, true, true, false] rfl rfl (any_of HT_.out (by kernel_rfl)) (fun _ _ _ h => h) (Or.inl ⟨by rfl, ?_⟩) ?_ ?_
                                                            rotate_left
                                                            · intro w'
                                                              go_simp
                                                              with_reducible rfl
                                                            rotate_left
                                                            · simp only [Act.put, List.setIfInBounds_toArray, List.set_cons_zero, List.set_cons_succ, i64_w, i32_w]
                                                              rfl
                                                            refine last_ (i := 28) (N := none) #[true, true, true, true, true, true, true, true, true, true, true, true, true, true, true, true, true, true, true, true, true, true, true, true, true, true, true, true, true] rfl rfl (one_of HT_.out (by kernel_rfl)) (by decide) (fun K hK => ?_)
                                                            refine skip_ (w1 := ?_) (by rfl) rfl ?_ ?_
                                                            rotate_left
                                                            · go_simp
                                                              rfl
                                                            refine hK.out _ _ ?_
                                                            clear hK K
                                                            refine done_ (done_of HT_.out (by kernel_rfl)) ?_
                                                            try go_wp2
                                                            go_roundg kj73
                                                            case measure => have := HJ2.out; have := HJ5.out; have := HK3.out; have := HK4.out; have := HJ22.out; have := HJ73.out; omega
                                                            case rel => exact ⟨(y144), (wrap64 (x9_4 + 1)), (by first | rfl | (simp; done) | (simp [*]; done) | (simp [bne, *]; done)), H', ⟨by have := HJ2.out; have := HJ5.out; have := HK3.out; have := HK4.out; have := HJ22.out; have := HJ73.out; omega⟩, ⟨by (with_reducible repeat (first | apply Kd.R_alloc | apply Kd.R_drewN | apply Kd.R_drew)); exact Kd.R_mono (Kd.R_far (p := ⟨go101, (x9_4 : Int).toNat, none⟩) (Kd.R_mono HO_6.out (fun k_ hk => (⟨hk, fun e_ => hk (by rw [e_]; rfl)⟩ : _ ∧ k_ ≠ go101))) (fun _ hk => hk.2) (.bool (t142 == t143))) (fun _ hk => hk.1)⟩, ⟨by (with_reducible repeat (first | apply Kd.R_alloc | apply Kd.R_drewN | apply Kd.R_drew)); exact HQ103.out⟩, ⟨by repeat (first | (with_reducible first | exact HB.out | apply below_alloc | apply pw_below_drewN | apply below_drew1 | refine below_set ?_ GB101.out) | exact HB.out)⟩⟩
                                                          · rw [if_neg c100] at H
                                                            exact absurd H (by simp)
                                                        · rw [if_neg c99] at H
                                                          exact absurd H (by simp)
                                                      · rw [if_neg c94] at H
                                                        have c94b0 : decide (x9_4 ≤ x5_5) = false := decide_eq_false c94
                                                        clear c94
                                                        by_cases c104 : 0 ≤ x9_4
                                                        · rw [if_pos c104] at H
                                                          have c104b0 : decide (0 ≤ x9_4) = true := decide_eq_true c104
                                                          clear c104
                                                          by_cases c105 : x9_4 < (x8_4.length : Int)
                                                          · rw [if_pos c105] at H
                                                            have c105b0 : decide (x9_4 < (x8_4.length : Int)) = true := decide_eq_true c105
                                                            clear c105
                                                            obtain ⟨y145, hy145⟩ : ∃ y_ : List Bool, y_ = (x8_4.set (x9_4 : Int).toNat false) := ⟨_, rfl⟩
                                                            replace H : (postbagref12_Match.l1 kj73 a0 a1 x5_5 x6_3 x7_3 y145 (wrap64 (x9_4 + 1))) = some r := by first | (rw [hy145]; with_reducible exact H) | (have H2_ := (Option.bind_some _ _).symm.trans H; rw [hy145]; with_reducible exact H2_) | (have H2_ := (Option.bind_some _ _).symm.trans H; with_reducible exact H2_) | with_reducible exact H | (rw [hy145]; exact H) | exact H
                                                            have Ny145 := Aside0.mk hy145
                                                            clear hy145
                                                            have H' := Aside0.mk H
                                                            clear H
                                                            try go_wp2
                                                            have n0_ := Aside0.mk (Kd.R_drew HO_6.out)
                                                            have n1_ := Aside0.mk (Kd.R_drew HO_8.out)
                                                            have n2_ := Aside0.mk (below_drew1 HB.out)
                                                            clear HO_6
                                                            clear HO_8
                                                            clear HB
                                                            have HO_6 := n0_
                                                            have HO_8 := n1_
                                                            have HB := n2_
                                                            clear n0_ n1_ n2_
                                                            have p83 : 0 ≤ (x7_3 : Int) := of_decide_eq_true (by first | (with_reducible assumption) | assumption)
                                                            have q83 : x7_3 < (a0.size : Int) := of_decide_eq_true (by first | (with_reducible assumption) | assumption)
                                                            have hx83 := bt_at a0 x7_3
                                                            replace p83 := eq_true p83
                                                            replace q83 := eq_true q83
                                                            have p87 : 0 ≤ ((ji84) : Int) := of_decide_eq_true (by first | (with_reducible assumption) | assumption)
                                                            have q87 : (ji84) < (a1.size : Int) := of_decide_eq_true (by first | (with_reducible assumption) | assumption)
                                                            have hx87 := bt_at a1 (ji84)
                                                            replace p87 := eq_true p87
                                                            replace q87 := eq_true q87
                                                            have p106 : 0 ≤ (x9_4 : Int) := of_decide_eq_true (by first | (with_reducible assumption) | assumption)
                                                            have q106 : (x9_4 : Int) < ((x8_4.length : Int) : Int) := of_decide_eq_true (by first | (with_reducible assumption) | assumption)
                                                            obtain ⟨go106, co106, eo106, gb106, gl106, cl106, HG106⟩ := Kd.R_form HO_8.out (by omega)
                                                            (first | cases eo106 | (injection eo106 with ea_ en_ ec_; (first | subst ea_ | (injection ea_ with ea_; subst ea_)); subst ec_; clear en_))
                                                            have GB106 := Aside0.mk gb106
                                                            have GG106 := Aside0.mk HG106
                                                            clear gb106 gl106 HG106
                                                            obtain ⟨hx106_0, hf106_0⟩ := Kd.R_celln false HO_8.out (x9_4 : Int) p106 q106
                                                            replace p106 := eq_true p106
                                                            replace q106 := eq_true q106
                                                            have HP108 := Kd.R_putn HO_8.out (x9_4 : Int) false
                                                            rw [← Ny145.out] at HP108
                                                            have HQ108 := Aside0.mk HP108
                                                            clear HP108
                                                            refine start_ (n := 29) (S := fun w' => True) (ds := [28]) #[false, false, false, false, false, false, false, false, false, false, false, false, false, false, false, false, false, false, false, false, false, false, false, false, false, false, false, false, false] (by kernel_rfl) rfl rfl trivial (fun hHeld => ?_); refine with_tabW postbagref12_Match.tab16 postbagref12_Match.bits16 (fun HT_ HW_ => ?_)
                                                            generalize wc.drew = w107 at HO_6 HO_8 HB GG106 HQ108 hf106_0 hx106_0 hHeld ⊢
                                                            refine pure_ (i := 0) (N := some 89) (v := ?_) (a' := ?_) #[true, false, false, false, false, false, false, false, false, false, false, false, false, false, false, false, false, false, false, false, false, false, false, false, false, false, false, false, false] rfl rfl (any_of HT_.out (by kernel_rfl)) (fun _ _ _ h => h) (Or.inl ⟨by rfl, ?_⟩) ?_ ?_
                                                            rotate_left
                                                            · intro w'
                                                              go_simp
                                                              with_reducible rfl
                                                            rotate_left
                                                            · simp only [Act.put, List.setIfInBounds_toArray, List.set_cons_zero, List.set_cons_succ, i64_w, i32_w]
                                                              rfl
                                                            refine pure_ (i := 1) (N := some 90) (v := ?_) (a' := ?_) #[true, true, false, false, false, false, false, false, false, false, false, false, false, false, false, false, false, false, false, false, false, false, false, false, false, false, false, false, false] rfl rfl (any_of HT_.out (by kernel_rfl)) (fun _ _ _ h => h) (Or.inl ⟨by rfl, ?_⟩) ?_ ?_
                                                            rotate_left
                                                            · intro w'
                                                              go_simp
                                                              with_reducible rfl
                                                            rotate_left
                                                            · simp only [Act.put, List.setIfInBounds_toArray, List.set_cons_zero, List.set_cons_succ, i64_w, i32_w]
                                                              rfl
                                                            refine pure_ (i := 2) (N := some 91) (v := ?_) (a' := ?_) #[true, true, true, false, false, false, false, false, false, false, false, false, false, false, false, false, false, false, false, false, false, false, false, false, false, false, false, false, false] rfl rfl (any_of HT_.out (by kernel_rfl)) (fun _ _ _ h => h) (Or.inl ⟨by rfl, ?_⟩) ?_ ?_
                                                            rotate_left
                                                            · intro w'
                                                              go_simp
                                                              with_reducible rfl
                                                            rotate_left
                                                            · simp only [Act.put, List.setIfInBounds_toArray, List.set_cons_zero, List.set_cons_succ, i64_w, i32_w]
                                                              rfl
                                                            refine pure_ (i := 3) (N := some 92) (v := ?_) (a' := ?_) #[true, true, true, true, false, false, false, false, false, false, false, false, false, false, false, false, false, false, false, false, false, false, false, false, false, false, false, false, false] rfl rfl (any_of HT_.out (by kernel_rfl)) (fun _ _ _ h => h) (Or.inl ⟨by rfl, ?_⟩) ?_ ?_
                                                            rotate_left
                                                            · intro w'
                                                              go_simp
                                                              with_reducible rfl
                                                            rotate_left
                                                            · simp only [Act.put, List.setIfInBounds_toArray, List.set_cons_zero, List.set_cons_succ, i64_w, i32_w]
                                                              rfl
                                                            refine pure_ (i := 5) (N := some 94) (v := ?_) (a' := ?_) #[true, true, true, true, false, true, false, false, false, false, false, false, false, false, false, false, false, false, false, false, false, false, false, false, false, false, false, false, false] rfl rfl (any_of HT_.out (by kernel_rfl)) (fun _ _ _ h => h) (Or.inl ⟨by rfl, ?_⟩) ?_ ?_
                                                            rotate_left
                                                            · intro w'
                                                              go_simp
                                                              with_reducible rfl
                                                            rotate_left
                                                            · simp only [Act.put, List.setIfInBounds_toArray, List.set_cons_zero, List.set_cons_succ, i64_w, i32_w]
                                                              rfl
                                                            refine pure_ (i := 6) (N := some 95) (v := ?_) (a' := ?_) #[true, true, true, true, false, true, true, false, false, false, false, false, false, false, false, false, false, false, false, false, false, false, false, false, false, false, false, false, false] rfl rfl (any_of HT_.out (by kernel_rfl)) (fun _ _ _ h => h) (Or.inl ⟨by rfl, ?_⟩) ?_ ?_
                                                            rotate_left
                                                            · intro w'
                                                              go_simp
                                                              with_reducible rfl
                                                            rotate_left
                                                            · simp only [Act.put, List.setIfInBounds_toArray, List.set_cons_zero, List.set_cons_succ, i64_w, i32_w]
                                                              rfl
                                                            refine pure_ (i := 7) (N := some 96) (v := ?_) (a' := ?_) #[true, true, true, true, false, true, true, true, false, false, false, false, false, false, false, false, false, false, false, false, false, false, false, false, false, false, false, false, false] rfl rfl (any_of HT_.out (by kernel_rfl)) (fun _ _ _ h => h) (Or.inl ⟨by rfl, ?_⟩) ?_ ?_
                                                            rotate_left
                                                            · intro w'
                                                              go_simp
                                                              with_reducible rfl
                                                            rotate_left
                                                            · simp only [Act.put, List.setIfInBounds_toArray, List.set_cons_zero, List.set_cons_succ, i64_w, i32_w]
                                                              rfl
                                                            refine take_ (i := 4) (N := some 93) (v := ?_) (a' := ?_) #[true, true, true, true, true, true, true, true, false, false, false, false, false, false, false, false, false, false, false, false, false, false, false, false, false, false, false, false, false] rfl rfl (take_ofW HT_.out HW_.out (by kernel_rfl)) (fun _ _ _ h => h) (Or.inl ⟨by rfl, ?_⟩) hHeld ?_ ?_
                                                            rotate_left
                                                            · intro w' _
                                                              go_simp
                                                              with_reducible rfl
                                                            rotate_left
                                                            · simp only [Act.put, List.setIfInBounds_toArray, List.set_cons_zero, List.set_cons_succ, i64_w, i32_w]
                                                              rfl
                                                            refine take_ (i := 8) (N := some 97) (v := ?_) (a' := ?_) #[true, true, true, true, true, true, true, true, true, false, false, false, false, false, false, false, false, false, false, false, false, false, false, false, false, false, false, false, false] rfl rfl (take_ofW HT_.out HW_.out (by kernel_rfl)) (fun _ _ _ h => h) (Or.inl ⟨by rfl, ?_⟩) hHeld ?_ ?_
                                                            rotate_left
                                                            · intro w' _
                                                              go_simp
                                                              with_reducible rfl
                                                            rotate_left
                                                            · simp only [Act.put, List.setIfInBounds_toArray, List.set_cons_zero, List.set_cons_succ, i64_w, i32_w]
                                                              rfl
                                                            refine pure_ (i := 9) (N := some 98) (v := ?_) (a' := ?_) #[true, true, true, true, true, true, true, true, true, true, false, false, false, false, false, false, false, false, false, false, false, false, false, false, false, false, false, false, false] rfl rfl (any_of HT_.out (by kernel_rfl)) (fun _ _ _ h => h) (Or.inl ⟨by rfl, ?_⟩) ?_ ?_
                                                            rotate_left
                                                            · intro w'
                                                              go_simp
                                                              with_reducible rfl
                                                            rotate_left
                                                            · simp only [Act.put, List.setIfInBounds_toArray, List.set_cons_zero, List.set_cons_succ, i64_w, i32_w]
                                                              rfl
                                                            refine pure_ (i := 10) (N := some 99) (v := ?_) (a' := ?_) #[true, true, true, true, true, true, true, true, true, true, true, false, false, false, false, false, false, false, false, false, false, false, false, false, false, false, false, false, false] rfl rfl (any_of HT_.out (by kernel_rfl)) (fun _ _ _ h => h) (Or.inl ⟨by rfl, ?_⟩) ?_ ?_
                                                            rotate_left
                                                            · intro w'
                                                              go_simp
                                                              with_reducible rfl
                                                            rotate_left
                                                            · simp only [Act.put, List.setIfInBounds_toArray, List.set_cons_zero, List.set_cons_succ, i64_w, i32_w]
                                                              rfl
                                                            refine pure_ (i := 11) (N := some 100) (v := ?_) (a' := ?_) #[true, true, true, true, true, true, true, true, true, true, true, true, false, false, false, false, false, false, false, false, false, false, false, false, false, false, false, false, false] rfl rfl (any_of HT_.out (by kernel_rfl)) (fun _ _ _ h => h) (Or.inl ⟨by rfl, ?_⟩) ?_ ?_
                                                            rotate_left
                                                            · intro w'
                                                              go_simp
                                                              with_reducible rfl
                                                            rotate_left
                                                            · simp only [Act.put, List.setIfInBounds_toArray, List.set_cons_zero, List.set_cons_succ, i64_w, i32_w]
                                                              rfl
                                                            refine pure_ (i := 12) (N := some 101) (v := ?_) (a' := ?_) #[true, true, true, true, true, true, true, true, true, true, true, true, true, false, false, false, false, false, false, false, false, false, false, false, false, false, false, false, false] rfl rfl (any_of HT_.out (by kernel_rfl)) (fun _ _ _ h => h) (Or.inl ⟨by rfl, ?_⟩) ?_ ?_
                                                            rotate_left
                                                            · intro w'
                                                              go_simp
                                                              with_reducible rfl
                                                            rotate_left
                                                            · simp only [Act.put, List.setIfInBounds_toArray, List.set_cons_zero, List.set_cons_succ, i64_w, i32_w]
                                                              rfl
                                                            refine pure_ (i := 13) (N := some 102) (v := ?_) (a' := ?_) #[true, true, true, true, true, true, true, true, true, true, true, true, true, true, false, false, false, false, false, false, false, false, false, false, false, false, false, false, false] rfl rfl (any_of HT_.out (by kernel_rfl)) (fun _ _ _ h => h) (Or.inl ⟨by rfl, ?_⟩) ?_ ?_
                                                            rotate_left
                                                            · intro w'
                                                              go_simp
                                                              with_reducible rfl
                                                            rotate_left
                                                            · simp only [Act.put, List.setIfInBounds_toArray, List.set_cons_zero, List.set_cons_succ, i64_w, i32_w]
                                                              rfl
                                                            refine pure_ (i := 14) (N := some 103) (v := ?_) (a' := ?_) #[true, true, true, true, true, true, true, true, true, true, true, true, true, true, true, false, false, false, false, false, false, false, false, false, false, false, false, false, false] rfl rfl (any_of HT_.out (by kernel_rfl)) (fun _ _ _ h => h) (Or.inl ⟨by rfl, ?_⟩) ?_ ?_
                                                            rotate_left
                                                            · intro w'
                                                              go_simp
                                                              with_reducible rfl
                                                            rotate_left
                                                            · simp only [Act.put, List.setIfInBounds_toArray, List.set_cons_zero, List.set_cons_succ, i64_w, i32_w]
                                                              rfl
                                                            refine pure_ (i := 15) (N := some 104) (v := undef) (a' := ?_) #[true, true, true, true, true, true, true, true, true, true, true, true, true, true, true, true, false, false, false, false, false, false, false, false, false, false, false, false, false] rfl rfl (any_of HT_.out (by kernel_rfl)) (fun _ _ _ h => h) (Or.inr ⟨by rfl, rfl⟩) ?_ ?_
                                                            rotate_left
                                                            · simp only [Act.put, List.setIfInBounds_toArray, List.set_cons_zero, List.set_cons_succ, i64_w, i32_w]
                                                              rfl
                                                            refine pure_ (i := 16) (N := some 105) (v := undef) (a' := ?_) #[true, true, true, true, true, true, true, true, true, true, true, true, true, true, true, true, true, false, false, false, false, false, false, false, false, false, false, false, false] rfl rfl (any_of HT_.out (by kernel_rfl)) (fun _ _ _ h => h) (Or.inr ⟨by rfl, rfl⟩) ?_ ?_
                                                            rotate_left
                                                            · simp only [Act.put, List.setIfInBounds_toArray, List.set_cons_zero, List.set_cons_succ, i64_w, i32_w]
                                                              rfl
                                                            refine pure_ (i := 17) (N := some 106) (v := undef) (a' := ?_) #[true, true, true, true, true, true, true, true, true, true, true, true, true, true, true, true, true, true, false, false, false, false, false, false, false, false, false, false, false] rfl rfl (any_of HT_.out (by kernel_rfl)) (fun _ _ _ h => h) (Or.inr ⟨by rfl, rfl⟩) ?_ ?_
                                                            rotate_left
                                                            · simp only [Act.put, List.setIfInBounds_toArray, List.set_cons_zero, List.set_cons_succ, i64_w, i32_w]
                                                              rfl
                                                            refine pure_ (i := 18) (N := some 107) (v := undef) (a' := ?_) #[true, true, true, true, true, true, true, true, true, true, true, true, true, true, true, true, true, true, true, false, false, false, false, false, false, false, false, false, false] rfl rfl (any_of HT_.out (by kernel_rfl)) (fun _ _ _ h => h) (Or.inr ⟨by rfl, rfl⟩) ?_ ?_
                                                            rotate_left
                                                            · simp only [Act.put, List.setIfInBounds_toArray, List.set_cons_zero, List.set_cons_succ, i64_w, i32_w]
                                                              rfl
                                                            refine pure_ (i := 19) (N := some 108) (v := undef) (a' := ?_) #[true, true, true, true, true, true, true, true, true, true, true, true, true, true, true, true, true, true, true, true, false, false, false, false, false, false, false, false, false] rfl rfl (any_of HT_.out (by kernel_rfl)) (fun _ _ _ h => h) (Or.inr ⟨by rfl, rfl⟩) ?_ ?_
                                                            rotate_left
                                                            · simp only [Act.put, List.setIfInBounds_toArray, List.set_cons_zero, List.set_cons_succ, i64_w, i32_w]
                                                              rfl
                                                            refine pure_ (i := 20) (N := some 109) (v := undef) (a' := ?_) #[true, true, true, true, true, true, true, true, true, true, true, true, true, true, true, true, true, true, true, true, true, false, false, false, false, false, false, false, false] rfl rfl (any_of HT_.out (by kernel_rfl)) (fun _ _ _ h => h) (Or.inr ⟨by rfl, rfl⟩) ?_ ?_
                                                            rotate_left
                                                            · simp only [Act.put, List.setIfInBounds_toArray, List.set_cons_zero, List.set_cons_succ, i64_w, i32_w]
                                                              rfl
                                                            refine pure_ (i := 21) (N := some 110) (v := undef) (a' := ?_) #[true, true, true, true, true, true, true, true, true, true, true, true, true, true, true, true, true, true, true, true, true, true, false, false, false, false, false, false, false] rfl rfl (any_of HT_.out (by kernel_rfl)) (fun _ _ _ h => h) (Or.inr ⟨by rfl, rfl⟩) ?_ ?_
                                                            rotate_left
                                                            · simp only [Act.put, List.setIfInBounds_toArray, List.set_cons_zero, List.set_cons_succ, i64_w, i32_w]
                                                              rfl
                                                            refine pure_ (i := 22) (N := some 111) (v := undef) (a' := ?_) #[true, true, true, true, true, true, true, true, true, true, true, true, true, true, true, true, true, true, true, true, true, true, true, false, false, false, false, false, false] rfl rfl (any_of HT_.out (by kernel_rfl)) (fun _ _ _ h => h) (Or.inr ⟨by rfl, rfl⟩) ?_ ?_
                                                            rotate_left
                                                            · simp only [Act.put, List.setIfInBounds_toArray, List.set_cons_zero, List.set_cons_succ, i64_w, i32_w]
                                                              rfl
                                                            refine pure_ (i := 23) (N := some 112) (v := undef) (a' := ?_) #[true, true, true, true, true, true, true, true, true, true, true, true, true, true, true, true, true, true, true, true, true, true, true, true, false, false, false, false, false] rfl rfl (any_of HT_.out (by kernel_rfl)) (fun _ _ _ h => h) (Or.inr ⟨by rfl, rfl⟩) ?_ ?_
                                                            rotate_left
                                                            · simp only [Act.put, List.setIfInBounds_toArray, List.set_cons_zero, List.set_cons_succ, i64_w, i32_w]
                                                              rfl
                                                            refine pure_ (i := 24) (N := some 113) (v := undef) (a' := ?_) #[true, true, true, true, true, true, true, true, true, true, true, true, true, true, true, true, true, true, true, true, true, true, true, true, true, false, false, false, false] rfl rfl (any_of HT_.out (by kernel_rfl)) (fun _ _ _ h => h) (Or.inr ⟨by rfl, rfl⟩) ?_ ?_
                                                            rotate_left
                                                            · simp only [Act.put, List.setIfInBounds_toArray, List.set_cons_zero, List.set_cons_succ, i64_w, i32_w]
                                                              rfl
                                                            refine pure_ (i := 25) (N := some 114) (v := ?_) (a' := ?_) #[true, true, true, true, true, true, true, true, true, true, true, true, true, true, true, true, true, true, true, true, true, true, true, true, true, true, false, false, false] rfl rfl (any_of HT_.out (by kernel_rfl)) (fun _ _ _ h => h) (Or.inl ⟨by rfl, ?_⟩) ?_ ?_
                                                            rotate_left
                                                            · intro w'
                                                              go_simp
                                                              with_reducible rfl
                                                            rotate_left
                                                            · simp only [Act.put, List.setIfInBounds_toArray, List.set_cons_zero, List.set_cons_succ, i64_w, i32_w]
                                                              rfl
                                                            refine pure_ (i := 26) (N := some 115) (v := ?_) (a' := ?_) #[true, true, true, true, true, true, true, true, true, true, true, true, true, true, true, true, true, true, true, true, true, true, true, true, true, true, true, false, false] rfl rfl (any_of HT_.out (by kernel_rfl)) (fun _ _ _ h => h) (Or.inl ⟨by rfl, ?_⟩) ?_ ?_
                                                            rotate_left
                                                            · intro w'
                                                              go_simp
                                                              with_reducible rfl
                                                            rotate_left
                                                            · simp only [Act.put, List.setIfInBounds_toArray, List.set_cons_zero, List.set_cons_succ, i64_w, i32_w]
                                                              rfl
                                                            refine pure_ (i := 27) (N := some 116) (v := ?_) (a' := ?_) #[true, true, true, true, true, true, true, true, true, true, true, true, true, true, true, true, true, true, true, true, true, true, true, true, true, true, true, true, false] rfl rfl (any_of HT_.out (by kernel_rfl)) (fun _ _ _ h => h) (Or.inl ⟨by rfl, ?_⟩) ?_ ?_
                                                            rotate_left
                                                            · intro w'
                                                              go_simp
                                                              with_reducible rfl
                                                            rotate_left
                                                            · simp only [Act.put, List.setIfInBounds_toArray, List.set_cons_zero, List.set_cons_succ, i64_w, i32_w]
                                                              rfl
                                                            refine last_ (i := 28) (N := none) #[true, true, true, true, true, true, true, true, true, true, true, true, true, true, true, true, true, true, true, true, true, true, true, true, true, true, true, true, true] rfl rfl (one_of HT_.out (by kernel_rfl)) (by decide) (fun K hK => ?_)
                                                            refine skip_ (w1 := ?_) (by rfl) rfl ?_ ?_
                                                            rotate_left
                                                            · go_simp
                                                              rfl
                                                            refine hK.out _ _ ?_
                                                            clear hK K
                                                            refine done_ (done_of HT_.out (by kernel_rfl)) ?_
                                                            try go_wp2
                                                            go_roundg kj73
                                                            case measure => have := HJ2.out; have := HJ5.out; have := HK3.out; have := HK4.out; have := HJ22.out; have := HJ73.out; omega
                                                            case rel => exact ⟨(y145), (wrap64 (x9_4 + 1)), (by first | rfl | (simp; done) | (simp [*]; done) | (simp [bne, *]; done)), H', ⟨by have := HJ2.out; have := HJ5.out; have := HK3.out; have := HK4.out; have := HJ22.out; have := HJ73.out; omega⟩, ⟨by (with_reducible repeat (first | apply Kd.R_alloc | apply Kd.R_drewN | apply Kd.R_drew)); exact Kd.R_mono (Kd.R_far (p := ⟨go106, (x9_4 : Int).toNat, none⟩) (Kd.R_mono HO_6.out (fun k_ hk => (⟨hk, fun e_ => hk (by rw [e_]; rfl)⟩ : _ ∧ k_ ≠ go106))) (fun _ hk => hk.2) (.bool false)) (fun _ hk => hk.1)⟩, ⟨by (with_reducible repeat (first | apply Kd.R_alloc | apply Kd.R_drewN | apply Kd.R_drew)); exact HQ108.out⟩, ⟨by repeat (first | (with_reducible first | exact HB.out | apply below_alloc | apply pw_below_drewN | apply below_drew1 | refine below_set ?_ GB106.out) | exact HB.out)⟩⟩
                                                          · rw [if_neg c105] at H
                                                            exact absurd H (by simp)
                                                        · rw [if_neg c104] at H
                                                          exact absurd H (by simp)
                                                  · rw [if_neg c86] at H
                                                    exact absurd H (by simp)
                                                · rw [if_neg c85] at H
                                                  exact absurd H (by simp)
                                              · rw [if_neg c82] at H
                                                exact absurd H (by simp)
                                            · rw [if_neg c81] at H
                                              exact absurd H (by simp)
                              · rw [if_neg c22] at H
                                have c22b0 : decide (x9_4 ≤ (a1.size : Int)) = false := decide_eq_false c22
                                clear c22
                                have H' := Aside0.mk H
                                clear H
                                go_wp2
                                go_roundg k4
                                case measure => have := HJ2.out; have := HJ5.out; have := HK3.out; have := HK4.out; omega
                                case rel => exact ⟨(x8_4), (wrap64 (x7_3 + 1)), (by first | rfl | (simp; done) | (simp [*]; done) | (simp [bne, *]; done)), H', ⟨by have := HJ2.out; have := HJ5.out; have := HK3.out; have := HK4.out; omega⟩, ⟨by (with_reducible repeat (first | apply Kd.R_alloc | apply Kd.R_drewN | apply Kd.R_drew)); exact Kd.R_mono HO_8.out (fun _ hk => trivial)⟩, ⟨by repeat (first | (with_reducible first | exact HB.out | apply below_alloc | apply pw_below_drewN | apply below_drew1) | exact HB.out)⟩⟩
                        · rw [if_neg c19] at H
                          exact absurd H (by simp)
                      · rw [if_neg c18] at H
                        exact absurd H (by simp)
                    · rw [if_neg c17] at H
                      have c17b0 : decide (x7_3 < (a0.size : Int)) = false := decide_eq_false c17
                      clear c17
                      by_cases c109 : 0 ≤ (a1.size : Int)
                      · rw [if_pos c109] at H
                        have c109b0 : decide (0 ≤ (a1.size : Int)) = true := decide_eq_true c109
                        have c109b1 : decide (0 ≤ a1.size) = true := decide_eq_true (by omega)
                        clear c109
                        by_cases c110 : (a1.size : Int) < (x6_3.length : Int)
                        · rw [if_pos c110] at H
                          have c110b0 : decide ((a1.size : Int) < (x6_3.length : Int)) = true := decide_eq_true c110
                          have c110b1 : decide (a1.size < x6_3.length) = true := decide_eq_true (Int.ofNat_lt.mp c110)
                          clear c110
                          obtain rfl := Option.some.inj H
                          obtain ⟨Ao111, co111, eo111⟩ := Kd.R_slice HO_6.out
                          subst eo111
                          have p129 : 0 ≤ ((a1.size : Int) : Int) := of_decide_eq_true (by first | (with_reducible assumption) | assumption)
                          have q129 : (a1.size : Int) < (x6_3.length : Int) := of_decide_eq_true (by first | (with_reducible assumption) | assumption)
                          obtain ⟨ad129, e129, hx129_0⟩ := Kd.at_bool (Kd.R_reads' HO_6.out).2.2 (a1.size : Int) p129 q129
                          cases e129
                          (try simp only [Int.toNat_natCast] at hx129_0)
                          replace p129 := eq_true p129
                          replace q129 := eq_true q129
                          go_wp2
                          go_ret
                          exact ⟨by first | rfl | (simp [errW_none, errW_some] <;> rfl) | (simp only [← hji8]; first | rfl | (simp [errW_none, errW_some] <;> rfl)) | (simp [*, errW_none, errW_some] <;> rfl), by repeat (first | (with_reducible first | exact HB.out | apply below_alloc | apply pw_below_drewN | apply below_drew1) | exact HB.out)⟩
                        · rw [if_neg c110] at H
                          exact absurd H (by simp)
                      · rw [if_neg c109] at H
                        exact absurd H (by simp)
              · rw [if_neg c11] at H
                exact absurd H (by simp)
            · rw [if_neg c10] at H
              exact absurd H (by simp)
          · rw [if_neg c9] at H
            exact absurd H (by simp)

end Go.Proofs.Ytkfehogefclhdaa.PSm
