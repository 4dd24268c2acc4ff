-- Written by xprint.py, a program of this session over the kit's print: not the print's own text.
import Derived.Test.YtkfehogefclhdaaPSmx0
import Derived.Test.YtkfehogefclhdaaPSmx1
namespace Go.Proofs.Ytkfehogefclhdaa.PSm
open Go.RowKit Go.Proofs.YtkfehogefclhdaaW.PrintWords Go.Proofs.YtkfehogefclhdaaW.PrintLast Go.Proofs.YtkfehogefclhdaaW.PrintMore
attribute [local go_sem] max2_int min2_int max_two min_two max_three min_three max_four min_four   -- for this text's walks alone
set_option linter.unusedVariables false
set_option linter.unusedSimpArgs false

/-! ### store_Match: function 6 -/
mutual
def store_Match.j0 : Nat → ByteArray → ByteArray → Int → Bool → Option (Bool)
  | 0, _, _, _, _ => none
  | k + 1, x0, x1, x5, x17 => if x17 = true then (store_Match.j1 k x0 x1 5) else (store_Match.j1 k x0 x1 x5)
def store_Match.j1 : Nat → ByteArray → ByteArray → Int → Option (Bool)
  | 0, _, _, _ => none
  | k + 1, x0, x1, x5 => if 0 ≤ (wrap64 ((x1.size : Int) + 1)) then (if (wrap64 ((x1.size : Int) + 1) : Int).toNat ≤ 281474976710656 then ((some (List.replicate (wrap64 ((x1.size : Int) + 1) : Int).toNat false : List Bool)).bind fun y106 => (if 0 < (y106.length : Int) then (store_Match.l0 k x0 x1 x5 (y106.set (0 : Int).toNat true) (x0.size : Int) 0) else (none))) else (none)) else (none)
def store_Match.l0 : Nat → ByteArray → ByteArray → Int → List Bool → Int → Int → Option (Bool)
  | 0, _, _, _, _, _, _ => none
  | k + 1, x0, x1, x5, x6, x25, x26 => if x26 < x25 then (if 0 ≤ x26 then (if x26 < (x0.size : Int) then (if (bt x0 x26) = 42 then (store_Match.j3 k x0 x1 x5 x6 x26 (bt x0 x26) x25 x26 true) else (store_Match.j3 k x0 x1 x5 x6 x26 (bt x0 x26) x25 x26 ((bt x0 x26) == 37))) else (none)) else (none)) else (if 0 ≤ (x1.size : Int) then (if (x1.size : Int) < (x6.length : Int) then (some (rdOf false x6 (x1.size : Int))) else (none)) else (none))
def store_Match.j3 : Nat → ByteArray → ByteArray → Int → List Bool → Int → Int → Int → Int → Bool → Option (Bool)
  | 0, _, _, _, _, _, _, _, _, _ => none
  | k + 1, x0, x1, x5, x6, x7, x8, x25, x26, x37 => if x37 = true then (store_Match.l1 k x0 x1 x5 x6 x8 x25 x26 (x1.size : Int) 0) else (store_Match.l2 k x0 x1 x5 x6 x7 x8 (x1.size : Int) x25 x26)
def store_Match.l1 : Nat → ByteArray → ByteArray → Int → List Bool → Int → Int → Int → Int → Int → Option (Bool)
  | 0, _, _, _, _, _, _, _, _, _ => none
  | k + 1, x0, x1, x5, x6, x8, x25, x26, x39, x40 => if x40 < x39 then (if 0 ≤ (wrap64 (x40 + 1)) then (if (wrap64 (x40 + 1)) < (x6.length : Int) then (if rdOf false x6 (wrap64 (x40 + 1)) = true then (store_Match.l1 k x0 x1 x5 (x6.set ((wrap64 (x40 + 1)) : Int).toNat true) x8 x25 x26 x39 (wrap64 (x40 + 1))) else (if 0 ≤ x40 then (if x40 < (x6.length : Int) then (if rdOf false x6 x40 = true then (if x8 = 42 then (store_Match.l1 k x0 x1 x5 (x6.set ((wrap64 (x40 + 1)) : Int).toNat true) x8 x25 x26 x39 (wrap64 (x40 + 1))) else (if x40 < (x1.size : Int) then (store_Match.l1 k x0 x1 x5 (x6.set ((wrap64 (x40 + 1)) : Int).toNat ((bt x1 x40) != 47)) x8 x25 x26 x39 (wrap64 (x40 + 1))) else (none))) else (store_Match.l1 k x0 x1 x5 (x6.set ((wrap64 (x40 + 1)) : Int).toNat false) x8 x25 x26 x39 (wrap64 (x40 + 1)))) else (none)) else (none))) else (none)) else (none)) else (store_Match.l0 k x0 x1 x5 x6 x25 (wrap64 (x26 + 1)))
def store_Match.l2 : Nat → ByteArray → ByteArray → Int → List Bool → Int → Int → Int → Int → Int → Option (Bool)
  | 0, _, _, _, _, _, _, _, _, _ => none
  | k + 1, x0, x1, x5, x6, x7, x8, x10, x25, x26 => if x10 > 0 then (if 0 ≤ (wrap64 (x10 - 1)) then (if (wrap64 (x10 - 1)) < (x1.size : Int) then (if (wrap64 (x10 - 1)) < (x6.length : Int) then (if rdOf false x6 (wrap64 (x10 - 1)) = true then (if (bt x1 (wrap64 (x10 - 1))) = x8 then (if 0 ≤ x10 then (if x10 < (x6.length : Int) then (store_Match.l2 k x0 x1 x5 (x6.set (x10 : Int).toNat true) x7 x8 (wrap64 (x10 - 1)) x25 x26) else (none)) else (none)) else (if x10 ≤ x5 then (if (wrap64 (x10 - 1)) ≤ x10 then (if x10 ≤ (x1.size : Int) then (if 0 ≤ x7 then (if x7 ≤ (wrap64 (x7 + 1)) then (if (wrap64 (x7 + 1)) ≤ (x0.size : Int) then ((octet_Same.f (x1.extract ((wrap64 (x10 - 1)) : Int).toNat (x10 : Int).toNat) (x0.extract (x7 : Int).toNat ((wrap64 (x7 + 1)) : Int).toNat)).bind fun t119 => (if 0 ≤ x10 then (if x10 < (x6.length : Int) then (store_Match.l2 k x0 x1 x5 (x6.set (x10 : Int).toNat t119) x7 x8 (wrap64 (x10 - 1)) x25 x26) else (none)) else (none))) else (none)) else (none)) else (none)) else (none)) else (none)) else (if 0 ≤ x10 then (if x10 < (x6.length : Int) then (store_Match.l2 k x0 x1 x5 (x6.set (x10 : Int).toNat false) x7 x8 (wrap64 (x10 - 1)) x25 x26) else (none)) else (none)))) else (if 0 ≤ x10 then (if x10 < (x6.length : Int) then (store_Match.l2 k x0 x1 x5 (x6.set (x10 : Int).toNat false) x7 x8 (wrap64 (x10 - 1)) x25 x26) else (none)) else (none))) else (none)) else (none)) else (none)) else (if 0 < (x6.length : Int) then (store_Match.l0 k x0 x1 x5 (x6.set (0 : Int).toNat false) x25 (wrap64 (x26 + 1))) else (none))
end
def store_Match.f (k : Nat) (a0 : ByteArray) (a1 : ByteArray) : Option (Bool) := if a1.toList = ([73, 78, 66, 79, 88] : List UInt8) then (store_Match.j0 k a0 a1 0 true) else ((store_below.f a1 (⟨#[73, 78, 66, 79, 88]⟩ : ByteArray)).bind fun t105 => (store_Match.j0 k a0 a1 0 t105))
theorem store_Match.mono_l : ∀ k, (∀ y0 y1 y2 y3, LeO (store_Match.j0 k y0 y1 y2 y3) (store_Match.j0 (k + 1) y0 y1 y2 y3)) ∧ (∀ y0 y1 y2, LeO (store_Match.j1 k y0 y1 y2) (store_Match.j1 (k + 1) y0 y1 y2)) ∧ (∀ y0 y1 y2 y3 y4 y5, LeO (store_Match.l0 k y0 y1 y2 y3 y4 y5) (store_Match.l0 (k + 1) y0 y1 y2 y3 y4 y5)) ∧ (∀ y0 y1 y2 y3 y4 y5 y6 y7 y8, LeO (store_Match.j3 k y0 y1 y2 y3 y4 y5 y6 y7 y8) (store_Match.j3 (k + 1) y0 y1 y2 y3 y4 y5 y6 y7 y8)) ∧ (∀ y0 y1 y2 y3 y4 y5 y6 y7 y8, LeO (store_Match.l1 k y0 y1 y2 y3 y4 y5 y6 y7 y8) (store_Match.l1 (k + 1) y0 y1 y2 y3 y4 y5 y6 y7 y8)) ∧ (∀ y0 y1 y2 y3 y4 y5 y6 y7 y8, LeO (store_Match.l2 k y0 y1 y2 y3 y4 y5 y6 y7 y8) (store_Match.l2 (k + 1) y0 y1 y2 y3 y4 y5 y6 y7 y8))
  | 0 => ⟨fun _ _ _ _ r h => by simp [store_Match.j0] at h, fun _ _ _ r h => by simp [store_Match.j1] at h, fun _ _ _ _ _ _ r h => by simp [store_Match.l0] at h, fun _ _ _ _ _ _ _ _ _ r h => by simp [store_Match.j3] at h, fun _ _ _ _ _ _ _ _ _ r h => by simp [store_Match.l1] at h, fun _ _ _ _ _ _ _ _ _ r h => by simp [store_Match.l2] at h⟩
  | k + 1 => by
    obtain ⟨ih0, ih1, ih2, ih3, ih4, ih5⟩ := store_Match.mono_l k
    refine ⟨?_, ?_, ?_, ?_, ?_, ?_⟩
    · intro y0 y1 y2 y3
      unfold store_Match.j0
      repeat' first
      | (with_reducible exact ih0 _ _ _ _)
      | (with_reducible exact ih1 _ _ _)
      | (with_reducible exact ih2 _ _ _ _ _ _)
      | (with_reducible exact ih3 _ _ _ _ _ _ _ _ _)
      | (with_reducible exact ih4 _ _ _ _ _ _ _ _ _)
      | (with_reducible exact ih5 _ _ _ _ _ _ _ _ _)
      | (with_reducible exact LeO.refl _)
      | (with_reducible exact LeO.none _)
      | (with_reducible refine LeO.ite ?_ ?_)
      | (with_reducible refine LeO.bind ?_ (fun _ => ?_))
      | exact ih0 _ _ _ _
      | exact ih1 _ _ _
      | exact ih2 _ _ _ _ _ _
      | exact ih3 _ _ _ _ _ _ _ _ _
      | exact ih4 _ _ _ _ _ _ _ _ _
      | exact ih5 _ _ _ _ _ _ _ _ _
      | exact LeO.none _
      | refine LeO.ite ?_ ?_
      | refine LeO.bind ?_ (fun _ => ?_)
    · intro y0 y1 y2
      unfold store_Match.j1
      repeat' first
      | (with_reducible exact ih0 _ _ _ _)
      | (with_reducible exact ih1 _ _ _)
      | (with_reducible exact ih2 _ _ _ _ _ _)
      | (with_reducible exact ih3 _ _ _ _ _ _ _ _ _)
      | (with_reducible exact ih4 _ _ _ _ _ _ _ _ _)
      | (with_reducible exact ih5 _ _ _ _ _ _ _ _ _)
      | (with_reducible exact LeO.refl _)
      | (with_reducible exact LeO.none _)
      | (with_reducible refine LeO.ite ?_ ?_)
      | (with_reducible refine LeO.bind ?_ (fun _ => ?_))
      | exact ih0 _ _ _ _
      | exact ih1 _ _ _
      | exact ih2 _ _ _ _ _ _
      | exact ih3 _ _ _ _ _ _ _ _ _
      | exact ih4 _ _ _ _ _ _ _ _ _
      | exact ih5 _ _ _ _ _ _ _ _ _
      | exact LeO.none _
      | refine LeO.ite ?_ ?_
      | refine LeO.bind ?_ (fun _ => ?_)
    · intro y0 y1 y2 y3 y4 y5
      unfold store_Match.l0
      repeat' first
      | (with_reducible exact ih0 _ _ _ _)
      | (with_reducible exact ih1 _ _ _)
      | (with_reducible exact ih2 _ _ _ _ _ _)
      | (with_reducible exact ih3 _ _ _ _ _ _ _ _ _)
      | (with_reducible exact ih4 _ _ _ _ _ _ _ _ _)
      | (with_reducible exact ih5 _ _ _ _ _ _ _ _ _)
      | (with_reducible exact LeO.refl _)
      | (with_reducible exact LeO.none _)
      | (with_reducible refine LeO.ite ?_ ?_)
      | (with_reducible refine LeO.bind ?_ (fun _ => ?_))
      | exact ih0 _ _ _ _
      | exact ih1 _ _ _
      | exact ih2 _ _ _ _ _ _
      | exact ih3 _ _ _ _ _ _ _ _ _
      | exact ih4 _ _ _ _ _ _ _ _ _
      | exact ih5 _ _ _ _ _ _ _ _ _
      | exact LeO.none _
      | refine LeO.ite ?_ ?_
      | refine LeO.bind ?_ (fun _ => ?_)
    · intro y0 y1 y2 y3 y4 y5 y6 y7 y8
      unfold store_Match.j3
      repeat' first
      | (with_reducible exact ih0 _ _ _ _)
      | (with_reducible exact ih1 _ _ _)
      | (with_reducible exact ih2 _ _ _ _ _ _)
      | (with_reducible exact ih3 _ _ _ _ _ _ _ _ _)
      | (with_reducible exact ih4 _ _ _ _ _ _ _ _ _)
      | (with_reducible exact ih5 _ _ _ _ _ _ _ _ _)
      | (with_reducible exact LeO.refl _)
      | (with_reducible exact LeO.none _)
      | (with_reducible refine LeO.ite ?_ ?_)
      | (with_reducible refine LeO.bind ?_ (fun _ => ?_))
      | exact ih0 _ _ _ _
      | exact ih1 _ _ _
      | exact ih2 _ _ _ _ _ _
      | exact ih3 _ _ _ _ _ _ _ _ _
      | exact ih4 _ _ _ _ _ _ _ _ _
      | exact ih5 _ _ _ _ _ _ _ _ _
      | exact LeO.none _
      | refine LeO.ite ?_ ?_
      | refine LeO.bind ?_ (fun _ => ?_)
    · intro y0 y1 y2 y3 y4 y5 y6 y7 y8
      unfold store_Match.l1
      repeat' first
      | (with_reducible exact ih0 _ _ _ _)
      | (with_reducible exact ih1 _ _ _)
      | (with_reducible exact ih2 _ _ _ _ _ _)
      | (with_reducible exact ih3 _ _ _ _ _ _ _ _ _)
      | (with_reducible exact ih4 _ _ _ _ _ _ _ _ _)
      | (with_reducible exact ih5 _ _ _ _ _ _ _ _ _)
      | (with_reducible exact LeO.refl _)
      | (with_reducible exact LeO.none _)
      | (with_reducible refine LeO.ite ?_ ?_)
      | (with_reducible refine LeO.bind ?_ (fun _ => ?_))
      | exact ih0 _ _ _ _
      | exact ih1 _ _ _
      | exact ih2 _ _ _ _ _ _
      | exact ih3 _ _ _ _ _ _ _ _ _
      | exact ih4 _ _ _ _ _ _ _ _ _
      | exact ih5 _ _ _ _ _ _ _ _ _
      | exact LeO.none _
      | refine LeO.ite ?_ ?_
      | refine LeO.bind ?_ (fun _ => ?_)
    · intro y0 y1 y2 y3 y4 y5 y6 y7 y8
      unfold store_Match.l2
      repeat' first
      | (with_reducible exact ih0 _ _ _ _)
      | (with_reducible exact ih1 _ _ _)
      | (with_reducible exact ih2 _ _ _ _ _ _)
      | (with_reducible exact ih3 _ _ _ _ _ _ _ _ _)
      | (with_reducible exact ih4 _ _ _ _ _ _ _ _ _)
      | (with_reducible exact ih5 _ _ _ _ _ _ _ _ _)
      | (with_reducible exact LeO.refl _)
      | (with_reducible exact LeO.none _)
      | (with_reducible refine LeO.ite ?_ ?_)
      | (with_reducible refine LeO.bind ?_ (fun _ => ?_))
      | exact ih0 _ _ _ _
      | exact ih1 _ _ _
      | exact ih2 _ _ _ _ _ _
      | exact ih3 _ _ _ _ _ _ _ _ _
      | exact ih4 _ _ _ _ _ _ _ _ _
      | exact ih5 _ _ _ _ _ _ _ _ _
      | exact LeO.none _
      | refine LeO.ite ?_ ?_
      | refine LeO.bind ?_ (fun _ => ?_)
theorem store_Match.mono : ∀ a0 a1 k, LeO (store_Match.f k a0 a1) (store_Match.f (k + 1) a0 a1) := by
  intro a0 a1 k
  obtain ⟨ih0, ih1, ih2, ih3, ih4, ih5⟩ := store_Match.mono_l k
  unfold store_Match.f
  repeat' first
      | (with_reducible exact ih0 _ _ _ _)
      | (with_reducible exact ih1 _ _ _)
      | (with_reducible exact ih2 _ _ _ _ _ _)
      | (with_reducible exact ih3 _ _ _ _ _ _ _ _ _)
      | (with_reducible exact ih4 _ _ _ _ _ _ _ _ _)
      | (with_reducible exact ih5 _ _ _ _ _ _ _ _ _)
      | (with_reducible exact LeO.refl _)
      | (with_reducible exact LeO.none _)
      | (with_reducible refine LeO.ite ?_ ?_)
      | (with_reducible refine LeO.bind ?_ (fun _ => ?_))
      | exact ih0 _ _ _ _
      | exact ih1 _ _ _
      | exact ih2 _ _ _ _ _ _
      | exact ih3 _ _ _ _ _ _ _ _ _
      | exact ih4 _ _ _ _ _ _ _ _ _
      | exact ih5 _ _ _ _ _ _ _ _ _
      | exact LeO.none _
      | refine LeO.ite ?_ ?_
      | refine LeO.bind ?_ (fun _ => ?_)
def store_Match.T20 : Bool × List (List Nat × List Nat) := (true, [([], []), ([], []), ([], []), ([], []), ([3], [3]), ([2, 4], [2, 4]), ([5], [5]), ([6], [6]), ([7], [7]), ([7], [7]), ([8, 9, 7], [7, 8, 9]), ([10, 7, 7], [7, 10]), ([11], [11]), ([11], [11]), ([12, 13, 11], [11, 12, 13]), ([14, 11, 11], [11, 14]), ([15], [15]), ([15], [15]), ([17, 15], [15, 17]), ([15], [15]), ([16, 18, 19, 15], [15, 16, 18, 19]), ([15], [15]), ([15], [15]), ([15], [15]), ([23, 15], [15, 23]), ([21, 22, 24, 15], [15, 21, 22, 24]), ([20, 25, 15, 15], [15, 20, 25]), ([15, 26, 11], [11, 15, 26]), ([11, 27, 7], [7, 11, 27]), ([7, 28], [7, 28]), ([0, 1, 0, 1, 2, 3, 4, 5, 6, 7, 8, 9, 10, 11, 12, 13, 14, 15, 16, 17, 18, 19, 20, 21, 22, 23, 24, 25, 26, 27, 28, 29], [0, 1]), ([30, 29, 26, 0, 1, 2, 3, 4, 5, 6, 7, 8, 9, 10, 11, 12, 13, 14, 15, 16, 17, 18, 19, 20, 21, 22, 23, 24, 25, 26, 27, 28, 29], [29, 30])])
def store_Match.B20 : List Nat := [0, 0, 0, 0, 8, 28, 60, 124, 252, 252, 1020, 2044, 4092, 4092, 16380, 32764, 65532, 65532, 196604, 65532, 1048572, 65532, 65532, 65532, 8454140, 31522812, 67108860, 134217724, 268435452, 536870908, 1073741823, 2147483647]
theorem store_Match.tab20 : rtab .any (opsOf Try.f6 20) = store_Match.T20 := by kernel_rfl
theorem store_Match.bits20 : waitsOk store_Match.T20.2 store_Match.B20 = true := by kernel_rfl
set_option maxHeartbeats 8000000 in
set_option maxRecDepth 100000 in
theorem store_Match.calls (k : Nat) (a0 : ByteArray) (a1 : ByteArray) (r : Bool) (w : World) (h : store_Match.f k a0 a1 = some r) :
    Calls Try.prog 6 #[.string a0, .string a1] w fun e w' => e = .returned (.bool r) ∧ Below w.heap.size w w' := by
  have HB := Aside0.mk (Below.refl w.heap.size w)
  have H : (if a1.toList = ([73, 78, 66, 79, 88] : List UInt8) then (store_Match.j0 k a0 a1 0 true) else ((store_below.f a1 (⟨#[73, 78, 66, 79, 88]⟩ : ByteArray)).bind fun t105 => (store_Match.j0 k a0 a1 0 t105))) = some r := h
  clear h
  have HC3 := Aside0.mk H
  clear H
  go_enter Try.func6, Try.ntmps6
  go_upto_region 2 with (fail)
  go_cut [17] (fun v17 wc => ∃ (kq : Nat) (x17_2 : Bool), v17 = .bool x17_2 ∧ Aside0 (store_Match.j0 kq a0 a1 0 x17_2 = some r) ∧ Aside0 (kq ≤ k) ∧ Aside0 (Below w.heap.size w wc))
  case first =>
    have H := HC3.out
    clear HC3
    by_cases c4 : a1.toList = ([73, 78, 66, 79, 88] : List UInt8)
    · rw [if_pos c4] at H
      have c4b0 : (a1.toList == ([73, 78, 66, 79, 88] : List UInt8)) = true := beq_iff_eq.mpr c4
      have c4b1 : (a1.toList != ([73, 78, 66, 79, 88] : List UInt8)) = false := bne_eq_false_iff_eq.mpr c4
      clear c4
      (first | rw [c4b0] | (simp only [i64_w, i32_w]; rw [c4b0]) | skip)
      have H' := Aside0.mk H
      clear H
      go_wp2
      go_meet
      case rel => exact ⟨_, (true), (by first | rfl | (simp; done) | (simp [*]; done) | (simp [bne, *]; done)), H', ⟨by first | omega | exact Nat.le_refl _⟩, ⟨by repeat (first | (with_reducible first | exact HB.out | apply below_alloc | apply pw_below_drewN | apply below_drew1) | exact HB.out)⟩⟩
    · rw [if_neg c4] at H
      have c4b0 : (a1.toList == ([73, 78, 66, 79, 88] : List UInt8)) = false := beq_eq_false_iff_ne.mpr c4
      have c4b1 : (a1.toList != ([73, 78, 66, 79, 88] : List UInt8)) = true := bne_iff_ne.mpr c4
      (first | rw [c4b0] | (simp only [i64_w, i32_w]; rw [c4b0]) | skip)
      replace H := Option.bind_eq_some_iff.mp H
      obtain ⟨t105, A50, H⟩ := H
      replace H : (store_Match.j0 k a0 a1 0 t105) = some r := H
      have A5 := Aside0.mk A50
      clear A50
      have H' := Aside0.mk H
      clear H
      go_wp2_with (first | (go_at_call 11; (with_reducible refine (store_below.calls a1 (⟨#[73, 78, 66, 79, 88]⟩ : ByteArray) t105 _ A5.out).mono ?_); rintro e w' ⟨rfl, ⟨nd, rfl⟩⟩))
      go_meet
      case rel => exact ⟨_, (t105), (by first | rfl | (simp; done) | (simp [*]; done) | (simp [bne, *]; done)), H', ⟨by first | omega | exact Nat.le_refl _⟩, ⟨by repeat (first | (with_reducible first | exact HB.out | apply below_alloc | apply pw_below_drewN | apply below_drew1) | exact HB.out)⟩⟩
  case rest =>
    clear HC3
    try clear p2
    try clear c4
    try clear c4b0
    try clear c4b1
    obtain ⟨kq, x17_2, rfl, HA, HJ2, HB⟩ := hcut
    cases kq with
    | zero => exact absurd HA.out (by simp [store_Match.j0])
    | succ kj2 =>
      have H := HA.out
      clear HA
      simp only [store_Match.j0] at H
      have HC6 := Aside0.mk H
      clear H
      go_upto_if 17 with (fail)
      go_cut [5] (fun v5 wc => ∃ (kq : Nat) (x5_5 : Int), v5 = .int .i64 x5_5 ∧ Aside0 (store_Match.j1 kq a0 a1 x5_5 = some r) ∧ Aside0 (kq ≤ kj2) ∧ Aside0 (Below w.heap.size w wc))
      case first =>
        have H := HC6.out
        clear HC6
        by_cases c7 : x17_2 = true
        · subst c7
          have H1 : (store_Match.j1 kj2 a0 a1 5) = some r := by rw [if_pos rfl] at H; exact H
          clear H
          have H := H1
          clear H1
          have H' := Aside0.mk H
          clear H
          go_wp2
          go_meet
          case rel => exact ⟨_, (5), (by first | rfl | (simp; done) | (simp [*]; done) | (simp [bne, *]; done)), H', ⟨by have := HJ2.out; first | omega | exact Nat.le_refl _⟩, ⟨by repeat (first | (with_reducible first | exact HB.out | apply below_alloc | apply pw_below_drewN | apply below_drew1) | exact HB.out)⟩⟩
        · replace c7 := Bool.eq_false_iff.mpr c7
          subst c7
          have H1 : (store_Match.j1 kj2 a0 a1 0) = some r := by rw [if_neg (show ¬ (false = true) by decide)] at H; exact H
          clear H
          have H := H1
          clear H1
          have H' := Aside0.mk H
          clear H
          go_wp2
          go_meet
          case rel => exact ⟨_, (0), (by first | rfl | (simp; done) | (simp [*]; done) | (simp [bne, *]; done)), H', ⟨by have := HJ2.out; first | omega | exact Nat.le_refl _⟩, ⟨by repeat (first | (with_reducible first | exact HB.out | apply below_alloc | apply pw_below_drewN | apply below_drew1) | exact HB.out)⟩⟩
      case rest =>
        clear HC6
        try clear p2
        try clear c4
        try clear c4b0
        try clear c4b1
        try clear c6
        try clear c7
        try clear p2
        obtain ⟨kq, x5_5, rfl, HA, HJ5, HB⟩ := hcut
        cases kq with
        | zero => exact absurd HA.out (by simp [store_Match.j1])
        | succ kj5 =>
          have H := HA.out
          clear HA
          simp only [store_Match.j1] at H
          obtain ⟨ji8, hji8⟩ : ∃ j_ : Int, (wrap64 ((a1.size : Int) + 1)) = j_ := ⟨_, rfl⟩
          replace H : (if 0 ≤ (ji8) then (if (ji8 : Int).toNat ≤ 281474976710656 then ((some (List.replicate (ji8 : Int).toNat false : List Bool)).bind fun y106 => (if 0 < (y106.length : Int) then (store_Match.l0 kj5 a0 a1 x5_5 (y106.set (0 : Int).toNat true) (a0.size : Int) 0) else (none))) else (none)) else (none)) = some r := by first | (rw [hji8] at H; exact H) | (simp only [hji8] at H ⊢; exact H)
          have hji8w : (IntKind.i64.wrap ((a1.size : Int) + 1)) = ji8 := (i64_w _).trans hji8
          by_cases c9 : 0 ≤ (ji8)
          · rw [if_pos c9] at H
            have c9b0 := eq_true c9
            have c9b1 : decide (0 ≤ (ji8)) = true := decide_eq_true c9
            clear c9
            by_cases c10 : (ji8 : Int).toNat ≤ 281474976710656
            · rw [if_pos c10] at H
              have c10b0 := eq_true c10
              have c10b1 : decide ((ji8 : Int).toNat ≤ 281474976710656) = true := decide_eq_true c10
              clear c10
              obtain ⟨y106, hy106⟩ : ∃ y_ : List Bool, y_ = (List.replicate (ji8 : Int).toNat false) := ⟨_, rfl⟩
              replace H : (if 0 < (y106.length : Int) then (store_Match.l0 kj5 a0 a1 x5_5 (y106.set (0 : Int).toNat true) (a0.size : Int) 0) else (none)) = some r := by first | (rw [hy106]; with_reducible exact H) | (have H2_ := (Option.bind_some _ _).symm.trans H; rw [hy106]; with_reducible exact H2_) | (have H2_ := (Option.bind_some _ _).symm.trans H; with_reducible exact H2_) | with_reducible exact H | (rw [hy106]; exact H) | exact H
              have Ny106 := Aside0.mk hy106
              clear hy106
              by_cases c11 : 0 < (y106.length : Int)
              · rw [if_pos c11] at H
                have c11b0 : decide (0 < (y106.length : Int)) = true := decide_eq_true c11
                have c11b1 : decide (0 < y106.length) = true := decide_eq_true (by omega)
                clear c11
                obtain ⟨y109, hy109⟩ : ∃ y_ : List Bool, y_ = (y106.set (0 : Int).toNat true) := ⟨_, rfl⟩
                replace H : (store_Match.l0 kj5 a0 a1 x5_5 y109 (a0.size : Int) 0) = some r := by first | (rw [hy109]; with_reducible exact H) | (have H2_ := (Option.bind_some _ _).symm.trans H; rw [hy109]; with_reducible exact H2_) | (have H2_ := (Option.bind_some _ _).symm.trans H; with_reducible exact H2_) | with_reducible exact H | (rw [hy109]; exact H) | exact H
                have Ny109 := Aside0.mk hy109
                clear hy109
                have H' := Aside0.mk H
                clear H
                go_wp2_with (first | ((with_reducible refine gate_dst (N := 21) rfl ?_); refine Kd.R_make Kd.bool _ 4 rfl (N := 21) rfl 26 _ _ rfl ji8 rfl rfl Try.underlying26 (.bool false) 1 info4 rfl (by decide) (by omega) false (ok := fun _ => True) (okp := fun _ => True) rfl (fun _ hk => hk) trivial (of_decide_eq_true (by first | (with_reducible assumption) | assumption)) (Nat.le_trans (Nat.mul_le_mul_right _ (of_decide_eq_true (by first | (with_reducible assumption) | assumption) : ji8.toNat ≤ 281474976710656)) (by omega)) (Below.refl _ _) (Nat.le_refl _) ?_; intro v107 w13 ho14 hb hg_ hnew_; clear hg_ hnew_; (first | rw [← Ny106.out] at ho14 | (simp only [Int.reduceToNat] at ho14; rw [← Ny106.out] at ho14)); have n0_ := Aside0.mk (Kd.R_lower ho14 (below_size (by repeat (first | (with_reducible first | exact HB.out | apply below_alloc | apply pw_below_drewN | apply below_drew1) | exact HB.out)))); have n1_ := Aside0.mk (below_step (by repeat (first | (with_reducible first | exact HB.out | apply below_alloc | apply pw_below_drewN | apply below_drew1) | exact HB.out)) hb); clear HB; have HO108 := n0_; have HB := n1_; clear n0_ n1_; clear hb ho14; have p12 : 0 ≤ (0 : Int) := (by omega); have q12 : (0 : Int) < ((y106.length : Int) : Int) := of_decide_eq_true (by first | (with_reducible assumption) | assumption); have qi12 : (0 < y106.length) = True := eq_true (by omega); obtain ⟨go12, co12, eo12, gb12, gl12, cl12, HG12⟩ := Kd.R_form HO108.out (by omega); (first | cases eo12 | (injection eo12 with ea_ en_ ec_; (first | subst ea_ | (injection ea_ with ea_; subst ea_)); subst ec_; clear en_)); have GB12 := Aside0.mk gb12; have GG12 := Aside0.mk HG12; clear gb12 gl12 HG12; obtain ⟨hx12_0, hf12_0⟩ := Kd.R_celln false HO108.out (0 : Int) p12 q12; (try rw [show ((0 : Int)).toNat = 0 from rfl] at hx12_0); (try simp only [Nat.reduceMul, Nat.zero_mul, Nat.zero_add, Nat.reduceAdd] at hx12_0); (try rw [show ((0 : Int)).toNat = 0 from rfl] at hf12_0); (try simp only [Nat.reduceMul, Nat.zero_mul, Nat.zero_add, Nat.reduceAdd] at hf12_0); replace p12 := eq_true p12; replace q12 := eq_true q12; obtain ⟨hy15_, hz15_⟩ := Kd.R_celln false HO108.out (0 : Int) (by omega) (of_decide_eq_true (by first | (with_reducible assumption) | assumption)); (try simp only [Int.reduceToNat, Int.toNat_zero, Int.toNat_ofNat, Nat.reduceMul, Nat.zero_mul, Nat.zero_add] at hy15_ hz15_); (try rw [show ((0 : Int)).toNat = 0 from rfl] at hy15_); (try rw [show ((0 : Int)).toNat = 0 from rfl] at hz15_); have HP15 := Kd.R_putg HO108.out (0 : Int) true) | ((with_reducible refine gate_store (t := 4) (p := 23) rfl ?_); refine store_event (t := 4) (p := 23) (v := ?vo_w16) (w1 := (w13.setCell ⟨go12, (0 : Int).toNat, none⟩ (.bool true))) ?hg ?ho ?hn ?hr ?_; (case ho => rfl); (case hg => rfl); (case hn => rfl); (case hr => first | (go_simp; done) | (go_simp; rfl)); intro w16 hw; have hg : w13.grownBy w16 (some go12) := (by rw [hw]; exact HP15.2); have hp_ : Kd.R Kd.bool 4 w16 w.heap.size (fun _ => True) (.slice (some ⟨go12, 0, none⟩) y106.length co12) y109 := (by rw [hw, Ny109.out]; exact HP15.1); clear HP15; have n0_ := Aside0.mk (hp_); have n1_ := Aside0.mk ((by rw [hw]; exact below_set (HB.out) GB12.out : Below w.heap.size w w16)); clear HO108; clear HB; have HO108 := n0_; have HB := n1_; clear n0_ n1_; clear hg hw hp_))
                go_loopg [26] kj5 (fun kq v26 w' => ∃ (x6_3 : List Bool) (x26_3 : Int), v26 = .int .i64 x26_3 ∧ Aside0 (store_Match.l0 kq a0 a1 x5_5 x6_3 (a0.size : Int) x26_3 = some r) ∧ Aside0 (kq ≤ kj5) ∧ Aside0 (Kd.R Kd.bool 4 w' w.heap.size (fun _ => True) (.slice (some ⟨go12, 0, none⟩) y106.length co12) x6_3) ∧ Aside0 (Below w.heap.size w w'))
                case atStart => exact ⟨(y109), (0), (by first | rfl | (simp; done) | (simp [*]; done) | (simp [bne, *]; done)), H', ⟨Nat.le_refl _⟩, ⟨by (with_reducible repeat (first | apply Kd.R_alloc | apply Kd.R_drewN | apply Kd.R_drew)); exact HO108.out⟩, ⟨by repeat (first | (with_reducible first | exact HB.out | apply below_alloc | apply pw_below_drewN | apply below_drew1) | exact HB.out)⟩⟩
                case round =>
                  clear H'
                  try clear c1
                  try clear p1
                  try clear q1
                  try clear hx1
                  try clear qi1
                  try clear p2
                  try clear c4
                  try clear c4b0
                  try clear c4b1
                  try clear c6
                  try clear p6
                  try clear c7
                  try clear c9
                  try clear c9b0
                  try clear c9b1
                  try clear c10
                  try clear c10b0
                  try clear c10b1
                  try clear c11
                  try clear c11b0
                  try clear c11b1
                  try clear p12
                  try clear q12
                  try clear hx12
                  try clear qi12
                  try clear hf12
                  try clear hx12_0
                  try clear p12
                  try clear p2
                  try clear q12
                  obtain ⟨x6_3, x26_3, rfl, HA, HK3, HO_6, HB⟩ := hrel
                  have hl6_3 := (Kd.R_reads' HO_6.out).1
                  rw [hl6_3] at HO_6
                  (try simp only [hl6_3])
                  cases gk with
                  | zero => exact absurd HA.out (by simp [store_Match.l0])
                  | succ k3 =>
                    have H := HA.out
                    clear HA
                    simp only [store_Match.l0] at H
                    by_cases c17 : x26_3 < (a0.size : Int)
                    · rw [if_pos c17] at H
                      have c17b0 : decide (x26_3 < (a0.size : Int)) = true := decide_eq_true c17
                      clear c17
                      by_cases c18 : 0 ≤ x26_3
                      · rw [if_pos c18] at H
                        have c18b0 : decide (0 ≤ x26_3) = true := decide_eq_true c18
                        clear c18
                        by_cases c19 : x26_3 < (a0.size : Int)
                        · rw [if_pos c19] at H
                          have c19b0 : decide (x26_3 < (a0.size : Int)) = true := decide_eq_true c19
                          clear c19
                          have HC21 := Aside0.mk H
                          clear H
                          have p20 : 0 ≤ (x26_3 : Int) := of_decide_eq_true (by first | (with_reducible assumption) | assumption)
                          have q20 : x26_3 < (a0.size : Int) := of_decide_eq_true (by first | (with_reducible assumption) | assumption)
                          have hx20 := bt_at a0 x26_3
                          replace p20 := eq_true p20
                          replace q20 := eq_true q20
                          go_upto_region 10 with (fail)
                          go_cut [37] (fun v37 wc => ∃ (kq : Nat) (x37_20 : Bool), v37 = .bool x37_20 ∧ Aside0 (store_Match.j3 kq a0 a1 x5_5 x6_3 x26_3 (bt a0 x26_3) (a0.size : Int) x26_3 x37_20 = some r) ∧ Aside0 (kq ≤ k3) ∧ Aside0 (Kd.R Kd.bool 4 wc w.heap.size (fun _ => True) (.slice (some ⟨go12, 0, none⟩) x6_3.length co12) x6_3) ∧ Aside0 (Below w.heap.size w wc))
                          case first =>
                            have H := HC21.out
                            clear HC21
                            by_cases c22 : (bt a0 x26_3) = 42
                            · rw [if_pos c22] at H
                              have c22b0 : ((bt a0 x26_3) == 42) = true := beq_iff_eq.mpr c22
                              have c22b1 : ((bt a0 x26_3) != 42) = false := bne_eq_false_iff_eq.mpr c22
                              clear c22
                              (first | rw [c22b0] | (simp only [i64_w, i32_w]; rw [c22b0]) | skip)
                              have H' := Aside0.mk H
                              clear H
                              go_wp2
                              go_meet
                              case rel => exact ⟨_, (true), (by first | rfl | (simp; done) | (simp [*]; done) | (simp [bne, *]; done)), H', ⟨by have := HJ2.out; have := HJ5.out; have := HK3.out; first | omega | exact Nat.le_refl _⟩, ⟨by (try simp only [hl6_3]); (with_reducible repeat (first | apply Kd.R_alloc | apply Kd.R_drewN | apply Kd.R_drew)); exact HO_6.out⟩, ⟨by repeat (first | (with_reducible first | exact HB.out | apply below_alloc | apply pw_below_drewN | apply below_drew1) | exact HB.out)⟩⟩
                            · rw [if_neg c22] at H
                              have c22b0 : ((bt a0 x26_3) == 42) = false := beq_eq_false_iff_ne.mpr c22
                              have c22b1 : ((bt a0 x26_3) != 42) = true := bne_iff_ne.mpr c22
                              (first | rw [c22b0] | (simp only [i64_w, i32_w]; rw [c22b0]) | skip)
                              have H' := Aside0.mk H
                              clear H
                              go_wp2
                              go_meet
                              case rel => exact ⟨_, (((bt a0 x26_3) == 37)), (by first | rfl | (simp; done) | (simp [*]; done) | (simp [bne, *]; done)), H', ⟨by have := HJ2.out; have := HJ5.out; have := HK3.out; first | omega | exact Nat.le_refl _⟩, ⟨by (try simp only [hl6_3]); (with_reducible repeat (first | apply Kd.R_alloc | apply Kd.R_drewN | apply Kd.R_drew)); exact HO_6.out⟩, ⟨by repeat (first | (with_reducible first | exact HB.out | apply below_alloc | apply pw_below_drewN | apply below_drew1) | exact HB.out)⟩⟩
                          case rest =>
                            clear HC21
                            try clear c1
                            try clear p1
                            try clear q1
                            try clear hx1
                            try clear qi1
                            try clear c2
                            try clear p2
                            try clear q2
                            try clear hx2
                            try clear c4
                            try clear c4b0
                            try clear c4b1
                            try clear c6
                            try clear p6
                            try clear c7
                            try clear c9
                            try clear c9b0
                            try clear c9b1
                            try clear c10
                            try clear c10b0
                            try clear c10b1
                            try clear c11
                            try clear c11b0
                            try clear c11b1
                            try clear p12
                            try clear q12
                            try clear hx12
                            try clear qi12
                            try clear hf12
                            try clear c17
                            try clear c17b0
                            try clear c18
                            try clear c18b0
                            try clear c19
                            try clear c19b0
                            try clear p20
                            try clear q20
                            try clear hx20
                            try clear c22
                            try clear c22b0
                            try clear c22b1
                            try clear hx12_0
                            try clear p1
                            try clear p12
                            try clear p2
                            try clear p20
                            try clear p6
                            try clear q1
                            try clear q12
                            try clear q20
                            obtain ⟨kq, x37_20, rfl, HA, HJ20, HO_6, HB⟩ := hcut
                            cases kq with
                            | zero => exact absurd HA.out (by simp [store_Match.j3])
                            | succ kj20 =>
                              have H := HA.out
                              clear HA
                              simp only [store_Match.j3] at H
                              by_cases c23 : x37_20 = true
                              · subst c23
                                have H1 : (store_Match.l1 kj20 a0 a1 x5_5 x6_3 (bt a0 x26_3) (a0.size : Int) x26_3 (a1.size : Int) 0) = some r := by rw [if_pos rfl] at H; exact H
                                clear H
                                have H := H1
                                clear H1
                                have H' := Aside0.mk H
                                clear H
                                go_wp2
                                go_loopg [40] kj20 (fun kq v40 w' => ∃ (x6_5 : List Bool) (x40_5 : Int), v40 = .int .i64 x40_5 ∧ Aside0 (store_Match.l1 kq a0 a1 x5_5 x6_5 (bt a0 x26_3) (a0.size : Int) x26_3 (a1.size : Int) x40_5 = some r) ∧ Aside0 (kq ≤ kj20) ∧ Aside0 (Kd.R Kd.bool 4 w' w.heap.size (fun _ => True) (.slice (some ⟨go12, 0, none⟩) x6_3.length co12) x6_5) ∧ Aside0 (Below w.heap.size w w'))
                                case atStart => exact ⟨(x6_3), (0), (by first | rfl | (simp; done) | (simp [*]; done) | (simp [bne, *]; done)), H', ⟨Nat.le_refl _⟩, ⟨by (try simp only [hl6_3]); (with_reducible repeat (first | apply Kd.R_alloc | apply Kd.R_drewN | apply Kd.R_drew)); exact HO_6.out⟩, ⟨by repeat (first | (with_reducible first | exact HB.out | apply below_alloc | apply pw_below_drewN | apply below_drew1) | exact HB.out)⟩⟩
                                case round =>
                                  clear H'
                                  try clear c1
                                  try clear p1
                                  try clear q1
                                  try clear hx1
                                  try clear qi1
                                  try clear c2
                                  try clear p2
                                  try clear q2
                                  try clear hx2
                                  try clear c4
                                  try clear c4b0
                                  try clear c4b1
                                  try clear c6
                                  try clear p6
                                  try clear c7
                                  try clear c9
                                  try clear c9b0
                                  try clear c9b1
                                  try clear c10
                                  try clear c10b0
                                  try clear c10b1
                                  try clear c11
                                  try clear c11b0
                                  try clear c11b1
                                  try clear p12
                                  try clear q12
                                  try clear hx12
                                  try clear qi12
                                  try clear hf12
                                  try clear c17
                                  try clear c17b0
                                  try clear c18
                                  try clear c18b0
                                  try clear c19
                                  try clear c19b0
                                  try clear p20
                                  try clear q20
                                  try clear hx20
                                  try clear c22
                                  try clear c22b0
                                  try clear c22b1
                                  try clear c23
                                  try clear hx12_0
                                  try clear p1
                                  try clear p12
                                  try clear p2
                                  try clear p20
                                  try clear p6
                                  try clear q1
                                  try clear q12
                                  try clear q2
                                  try clear q20
                                  obtain ⟨x6_5, x40_5, rfl, HA, HK5, HO_6, HB⟩ := hrel
                                  have hl6_5 := (Kd.R_reads' HO_6.out).1
                                  rw [hl6_5] at HO_6
                                  (try simp only [hl6_5])
                                  cases gk with
                                  | zero => exact absurd HA.out (by simp [store_Match.l1])
                                  | succ k5 =>
                                    have H := HA.out
                                    clear HA
                                    simp only [store_Match.l1] at H
                                    by_cases c24 : x40_5 < (a1.size : Int)
                                    · rw [if_pos c24] at H
                                      have c24b0 : decide (x40_5 < (a1.size : Int)) = true := decide_eq_true c24
                                      clear c24
                                      obtain ⟨ji25, hji25⟩ : ∃ j_ : Int, (wrap64 (x40_5 + 1)) = j_ := ⟨_, rfl⟩
                                      replace H : (if 0 ≤ (ji25) then (if (ji25) < (x6_5.length : Int) then (if rdOf false x6_5 (ji25) = true then (store_Match.l1 k5 a0 a1 x5_5 (x6_5.set ((ji25) : Int).toNat true) (bt a0 x26_3) (a0.size : Int) x26_3 (a1.size : Int) ji25) else (if 0 ≤ x40_5 then (if x40_5 < (x6_5.length : Int) then (if rdOf false x6_5 x40_5 = true then (if (bt a0 x26_3) = 42 then (store_Match.l1 k5 a0 a1 x5_5 (x6_5.set ((ji25) : Int).toNat true) (bt a0 x26_3) (a0.size : Int) x26_3 (a1.size : Int) ji25) else (if x40_5 < (a1.size : Int) then (store_Match.l1 k5 a0 a1 x5_5 (x6_5.set ((ji25) : Int).toNat ((bt a1 x40_5) != 47)) (bt a0 x26_3) (a0.size : Int) x26_3 (a1.size : Int) ji25) else (none))) else (store_Match.l1 k5 a0 a1 x5_5 (x6_5.set ((ji25) : Int).toNat false) (bt a0 x26_3) (a0.size : Int) x26_3 (a1.size : Int) ji25)) else (none)) else (none))) else (none)) else (none)) = some r := by first | (rw [hji25] at H; exact H) | (simp only [hji25] at H ⊢; exact H)
                                      have hji25w : (IntKind.i64.wrap (x40_5 + 1)) = ji25 := (i64_w _).trans hji25
                                      by_cases c26 : 0 ≤ (ji25)
                                      · rw [if_pos c26] at H
                                        have c26b0 : decide (0 ≤ (ji25)) = true := decide_eq_true c26
                                        clear c26
                                        by_cases c27 : (ji25) < (x6_5.length : Int)
                                        · rw [if_pos c27] at H
                                          have c27b0 : decide ((ji25) < (x6_5.length : Int)) = true := decide_eq_true c27
                                          clear c27
                                          obtain ⟨bq28, hbq28⟩ : ∃ b_ : Bool, b_ = (rdOf false x6_5 (ji25)) := ⟨_, rfl⟩
                                          replace H : (if bq28 = true then (store_Match.l1 k5 a0 a1 x5_5 (x6_5.set ((ji25) : Int).toNat true) (bt a0 x26_3) (a0.size : Int) x26_3 (a1.size : Int) ji25) else (if 0 ≤ x40_5 then (if x40_5 < (x6_5.length : Int) then (if rdOf false x6_5 x40_5 = true then (if (bt a0 x26_3) = 42 then (store_Match.l1 k5 a0 a1 x5_5 (x6_5.set ((ji25) : Int).toNat true) (bt a0 x26_3) (a0.size : Int) x26_3 (a1.size : Int) ji25) else (if x40_5 < (a1.size : Int) then (store_Match.l1 k5 a0 a1 x5_5 (x6_5.set ((ji25) : Int).toNat ((bt a1 x40_5) != 47)) (bt a0 x26_3) (a0.size : Int) x26_3 (a1.size : Int) ji25) else (none))) else (store_Match.l1 k5 a0 a1 x5_5 (x6_5.set ((ji25) : Int).toNat false) (bt a0 x26_3) (a0.size : Int) x26_3 (a1.size : Int) ji25)) else (none)) else (none))) = some r := by rw [← hbq28] at H; exact H
                                          have Nbq28 := Aside0.mk hbq28
                                          clear hbq28
                                          by_cases c29 : bq28 = true
                                          · subst c29
                                            have H1 : (store_Match.l1 k5 a0 a1 x5_5 (x6_5.set ((ji25) : Int).toNat true) (bt a0 x26_3) (a0.size : Int) x26_3 (a1.size : Int) ji25) = some r := by rw [if_pos rfl] at H; exact H
                                            clear H
                                            have H := H1
                                            clear H1
                                            obtain ⟨y112, hy112⟩ : ∃ y_ : List Bool, y_ = (x6_5.set ((ji25) : Int).toNat true) := ⟨_, rfl⟩
                                            replace H : (store_Match.l1 k5 a0 a1 x5_5 y112 (bt a0 x26_3) (a0.size : Int) x26_3 (a1.size : Int) ji25) = some r := by first | (rw [hy112]; with_reducible exact H) | (have H2_ := (Option.bind_some _ _).symm.trans H; rw [hy112]; with_reducible exact H2_) | (have H2_ := (Option.bind_some _ _).symm.trans H; with_reducible exact H2_) | with_reducible exact H | (rw [hy112]; exact H) | exact H
                                            have Ny112 := Aside0.mk hy112
                                            clear hy112
                                            have H' := Aside0.mk H
                                            clear H
                                            have p111 : 0 ≤ ((ji25) : Int) := of_decide_eq_true (by first | (with_reducible assumption) | assumption)
                                            have q111 : (ji25) < (x6_5.length : Int) := of_decide_eq_true (by first | (with_reducible assumption) | assumption)
                                            obtain ⟨ad111, e111, hx111_0⟩ := Kd.at_bool (Kd.R_reads' HO_6.out).2.2 (ji25) p111 q111
                                            (try rw [← Nbq28.out] at hx111_0)
                                            obtain rfl : (⟨go12, 0, none⟩ : Addr) = ad111 := (by injection e111)
                                            (first | simp only [add_plain] at hx111_0 | simp only [add_at] at hx111_0 | simp only [Addr.add, Nat.zero_add] at hx111_0 | skip)
                                            (try simp only [Int.toNat_natCast] at hx111_0)
                                            replace p111 := eq_true p111
                                            replace q111 := eq_true q111
                                            have p30 : 0 ≤ ((ji25) : Int) := of_decide_eq_true (by first | (with_reducible assumption) | assumption)
                                            have q30 : ((ji25) : Int) < ((x6_5.length : Int) : Int) := of_decide_eq_true (by first | (with_reducible assumption) | assumption)
                                            obtain ⟨hx30_0, hf30_0⟩ := Kd.R_celln false HO_6.out ((ji25) : Int) p30 q30
                                            replace p30 := eq_true p30
                                            replace q30 := eq_true q30
                                            have HP31 := Kd.R_putg HO_6.out ((ji25) : Int) true
                                            go_wp2_with (first | ((with_reducible refine gate_store (t := 4) (p := 67) rfl ?_); refine store_event (t := 4) (p := 67) (v := ?vo_w32) (w1 := (wr.setCell ⟨go12, ((ji25) : Int).toNat, none⟩ (.bool true))) ?hg ?ho ?hn ?hr ?_; (case ho => rfl); (case hg => rfl); (case hn => rfl); (case hr => first | (go_simp; done) | (go_simp; rfl)); intro w32 hw; have hg : wr.grownBy w32 (some go12) := (by rw [hw]; exact HP31.2); have hp_ : Kd.R Kd.bool 4 w32 w.heap.size (fun _ => True) (.slice (some ⟨go12, 0, none⟩) x6_5.length co12) y112 := (by rw [hw, Ny112.out]; exact HP31.1); clear HP31; have n0_ := Aside0.mk (hp_); have n1_ := Aside0.mk ((by rw [hw]; exact below_set (HB.out) GB12.out : Below w.heap.size w w32)); clear HO_6; clear HB; have HO_6 := n0_; have HB := n1_; clear n0_ n1_; clear hg hw hp_))
                                            (try simp only [← hl6_5])
                                            go_roundg k5
                                            case measure => have := HJ2.out; have := HJ5.out; have := HK3.out; have := HJ20.out; have := HK5.out; omega
                                            case rel => exact ⟨(y112), (ji25), (by first | rfl | (simp; done) | (simp only [← hji25] <;> (first | rfl | simp)) | (simp [*]; done)), H', ⟨by have := HJ2.out; have := HJ5.out; have := HK3.out; have := HJ20.out; have := HK5.out; omega⟩, ⟨by (try simp only [hl6_3]); (try simp only [hl6_5]); (with_reducible repeat (first | apply Kd.R_alloc | apply Kd.R_drewN | apply Kd.R_drew)); exact HO_6.out⟩, ⟨by repeat (first | (with_reducible first | exact HB.out | apply below_alloc | apply pw_below_drewN | apply below_drew1) | exact HB.out)⟩⟩
                                          · replace c29 := Bool.eq_false_iff.mpr c29
                                            subst c29
                                            have H1 : (if 0 ≤ x40_5 then (if x40_5 < (x6_5.length : Int) then (if rdOf false x6_5 x40_5 = true then (if (bt a0 x26_3) = 42 then (store_Match.l1 k5 a0 a1 x5_5 (x6_5.set ((ji25) : Int).toNat true) (bt a0 x26_3) (a0.size : Int) x26_3 (a1.size : Int) ji25) else (if x40_5 < (a1.size : Int) then (store_Match.l1 k5 a0 a1 x5_5 (x6_5.set ((ji25) : Int).toNat ((bt a1 x40_5) != 47)) (bt a0 x26_3) (a0.size : Int) x26_3 (a1.size : Int) ji25) else (none))) else (store_Match.l1 k5 a0 a1 x5_5 (x6_5.set ((ji25) : Int).toNat false) (bt a0 x26_3) (a0.size : Int) x26_3 (a1.size : Int) ji25)) else (none)) else (none)) = some r := by rw [if_neg (show ¬ (false = true) by decide)] at H; exact H
                                            clear H
                                            have H := H1
                                            clear H1
                                            by_cases c33 : 0 ≤ x40_5
                                            · rw [if_pos c33] at H
                                              have c33b0 : decide (0 ≤ x40_5) = true := decide_eq_true c33
                                              clear c33
                                              by_cases c34 : x40_5 < (x6_5.length : Int)
                                              · rw [if_pos c34] at H
                                                have c34b0 : decide (x40_5 < (x6_5.length : Int)) = true := decide_eq_true c34
                                                clear c34
                                                obtain ⟨bq35, hbq35⟩ : ∃ b_ : Bool, b_ = (rdOf false x6_5 x40_5) := ⟨_, rfl⟩
                                                replace H : (if bq35 = true then (if (bt a0 x26_3) = 42 then (store_Match.l1 k5 a0 a1 x5_5 (x6_5.set ((ji25) : Int).toNat true) (bt a0 x26_3) (a0.size : Int) x26_3 (a1.size : Int) ji25) else (if x40_5 < (a1.size : Int) then (store_Match.l1 k5 a0 a1 x5_5 (x6_5.set ((ji25) : Int).toNat ((bt a1 x40_5) != 47)) (bt a0 x26_3) (a0.size : Int) x26_3 (a1.size : Int) ji25) else (none))) else (store_Match.l1 k5 a0 a1 x5_5 (x6_5.set ((ji25) : Int).toNat false) (bt a0 x26_3) (a0.size : Int) x26_3 (a1.size : Int) ji25)) = some r := by rw [← hbq35] at H; exact H
                                                have Nbq35 := Aside0.mk hbq35
                                                clear hbq35
                                                by_cases c36 : bq35 = true
                                                · subst c36
                                                  have H1 : (if (bt a0 x26_3) = 42 then (store_Match.l1 k5 a0 a1 x5_5 (x6_5.set ((ji25) : Int).toNat true) (bt a0 x26_3) (a0.size : Int) x26_3 (a1.size : Int) ji25) else (if x40_5 < (a1.size : Int) then (store_Match.l1 k5 a0 a1 x5_5 (x6_5.set ((ji25) : Int).toNat ((bt a1 x40_5) != 47)) (bt a0 x26_3) (a0.size : Int) x26_3 (a1.size : Int) ji25) else (none))) = some r := by rw [if_pos rfl] at H; exact H
                                                  clear H
                                                  have H := H1
                                                  clear H1
                                                  by_cases c37 : (bt a0 x26_3) = 42
                                                  · rw [if_pos c37] at H
                                                    have c37b0 : ((bt a0 x26_3) == 42) = true := beq_iff_eq.mpr c37
                                                    have c37b1 : ((bt a0 x26_3) != 42) = false := bne_eq_false_iff_eq.mpr c37
                                                    clear c37
                                                    obtain ⟨y114, hy114⟩ : ∃ y_ : List Bool, y_ = (x6_5.set ((ji25) : Int).toNat true) := ⟨_, rfl⟩
                                                    replace H : (store_Match.l1 k5 a0 a1 x5_5 y114 (bt a0 x26_3) (a0.size : Int) x26_3 (a1.size : Int) ji25) = some r := by first | (rw [hy114]; with_reducible exact H) | (have H2_ := (Option.bind_some _ _).symm.trans H; rw [hy114]; with_reducible exact H2_) | (have H2_ := (Option.bind_some _ _).symm.trans H; with_reducible exact H2_) | with_reducible exact H | (rw [hy114]; exact H) | exact H
                                                    have Ny114 := Aside0.mk hy114
                                                    clear hy114
                                                    have H' := Aside0.mk H
                                                    clear H
                                                    have p111 : 0 ≤ ((ji25) : Int) := of_decide_eq_true (by first | (with_reducible assumption) | assumption)
                                                    have q111 : (ji25) < (x6_5.length : Int) := of_decide_eq_true (by first | (with_reducible assumption) | assumption)
                                                    obtain ⟨ad111, e111, hx111_0⟩ := Kd.at_bool (Kd.R_reads' HO_6.out).2.2 (ji25) p111 q111
                                                    (try rw [← Nbq28.out] at hx111_0)
                                                    (try rw [← Nbq35.out] at hx111_0)
                                                    obtain rfl : (⟨go12, 0, none⟩ : Addr) = ad111 := (by injection e111)
                                                    (first | simp only [add_plain] at hx111_0 | simp only [add_at] at hx111_0 | simp only [Addr.add, Nat.zero_add] at hx111_0 | skip)
                                                    (try simp only [Int.toNat_natCast] at hx111_0)
                                                    replace p111 := eq_true p111
                                                    replace q111 := eq_true q111
                                                    have p113 : 0 ≤ (x40_5 : Int) := of_decide_eq_true (by first | (with_reducible assumption) | assumption)
                                                    have q113 : x40_5 < (x6_5.length : Int) := of_decide_eq_true (by first | (with_reducible assumption) | assumption)
                                                    obtain ⟨ad113, e113, hx113_0⟩ := Kd.at_bool (Kd.R_reads' HO_6.out).2.2 x40_5 p113 q113
                                                    (try rw [← Nbq28.out] at hx113_0)
                                                    (try rw [← Nbq35.out] at hx113_0)
                                                    obtain rfl : (⟨go12, 0, none⟩ : Addr) = ad113 := (by injection e113)
                                                    (first | simp only [add_plain] at hx113_0 | simp only [add_at] at hx113_0 | simp only [Addr.add, Nat.zero_add] at hx113_0 | skip)
                                                    (try simp only [Int.toNat_natCast] at hx113_0)
                                                    replace p113 := eq_true p113
                                                    replace q113 := eq_true q113
                                                    have p38 : 0 ≤ ((ji25) : Int) := of_decide_eq_true (by first | (with_reducible assumption) | assumption)
                                                    have q38 : ((ji25) : Int) < ((x6_5.length : Int) : Int) := of_decide_eq_true (by first | (with_reducible assumption) | assumption)
                                                    obtain ⟨hx38_0, hf38_0⟩ := Kd.R_celln false HO_6.out ((ji25) : Int) p38 q38
                                                    replace p38 := eq_true p38
                                                    replace q38 := eq_true q38
                                                    have HP39 := Kd.R_putg HO_6.out ((ji25) : Int) true
                                                    go_wp2_with (first | ((with_reducible refine gate_store (t := 4) (p := 67) rfl ?_); refine store_event (t := 4) (p := 67) (v := ?vo_w40) (w1 := (wr.setCell ⟨go12, ((ji25) : Int).toNat, none⟩ (.bool true))) ?hg ?ho ?hn ?hr ?_; (case ho => rfl); (case hg => rfl); (case hn => rfl); (case hr => first | (go_simp; done) | (go_simp; rfl)); intro w40 hw; have hg : wr.grownBy w40 (some go12) := (by rw [hw]; exact HP39.2); have hp_ : Kd.R Kd.bool 4 w40 w.heap.size (fun _ => True) (.slice (some ⟨go12, 0, none⟩) x6_5.length co12) y114 := (by rw [hw, Ny114.out]; exact HP39.1); clear HP39; have n0_ := Aside0.mk (hp_); have n1_ := Aside0.mk ((by rw [hw]; exact below_set (HB.out) GB12.out : Below w.heap.size w w40)); clear HO_6; clear HB; have HO_6 := n0_; have HB := n1_; clear n0_ n1_; clear hg hw hp_))
                                                    (try simp only [← hl6_5])
                                                    go_roundg k5
                                                    case measure => have := HJ2.out; have := HJ5.out; have := HK3.out; have := HJ20.out; have := HK5.out; omega
                                                    case rel => exact ⟨(y114), (ji25), (by first | rfl | (simp; done) | (simp only [← hji25] <;> (first | rfl | simp)) | (simp [*]; done)), H', ⟨by have := HJ2.out; have := HJ5.out; have := HK3.out; have := HJ20.out; have := HK5.out; omega⟩, ⟨by (try simp only [hl6_3]); (try simp only [hl6_5]); (with_reducible repeat (first | apply Kd.R_alloc | apply Kd.R_drewN | apply Kd.R_drew)); exact HO_6.out⟩, ⟨by repeat (first | (with_reducible first | exact HB.out | apply below_alloc | apply pw_below_drewN | apply below_drew1) | exact HB.out)⟩⟩
                                                  · rw [if_neg c37] at H
                                                    have c37b0 : ((bt a0 x26_3) == 42) = false := beq_eq_false_iff_ne.mpr c37
                                                    have c37b1 : ((bt a0 x26_3) != 42) = true := bne_iff_ne.mpr c37
                                                    by_cases c41 : x40_5 < (a1.size : Int)
                                                    · rw [if_pos c41] at H
                                                      have c41b0 : decide (x40_5 < (a1.size : Int)) = true := decide_eq_true c41
                                                      clear c41
                                                      obtain ⟨y115, hy115⟩ : ∃ y_ : List Bool, y_ = (x6_5.set ((ji25) : Int).toNat ((bt a1 x40_5) != 47)) := ⟨_, rfl⟩
                                                      replace H : (store_Match.l1 k5 a0 a1 x5_5 y115 (bt a0 x26_3) (a0.size : Int) x26_3 (a1.size : Int) ji25) = some r := by first | (rw [hy115]; with_reducible exact H) | (have H2_ := (Option.bind_some _ _).symm.trans H; rw [hy115]; with_reducible exact H2_) | (have H2_ := (Option.bind_some _ _).symm.trans H; with_reducible exact H2_) | with_reducible exact H | (rw [hy115]; exact H) | exact H
                                                      have Ny115 := Aside0.mk hy115
                                                      clear hy115
                                                      have H' := Aside0.mk H
                                                      clear H
                                                      have p111 : 0 ≤ ((ji25) : Int) := of_decide_eq_true (by first | (with_reducible assumption) | assumption)
                                                      have q111 : (ji25) < (x6_5.length : Int) := of_decide_eq_true (by first | (with_reducible assumption) | assumption)
                                                      obtain ⟨ad111, e111, hx111_0⟩ := Kd.at_bool (Kd.R_reads' HO_6.out).2.2 (ji25) p111 q111
                                                      (try rw [← Nbq28.out] at hx111_0)
                                                      (try rw [← Nbq35.out] at hx111_0)
                                                      obtain rfl : (⟨go12, 0, none⟩ : Addr) = ad111 := (by injection e111)
                                                      (first | simp only [add_plain] at hx111_0 | simp only [add_at] at hx111_0 | simp only [Addr.add, Nat.zero_add] at hx111_0 | skip)
                                                      (try simp only [Int.toNat_natCast] at hx111_0)
                                                      replace p111 := eq_true p111
                                                      replace q111 := eq_true q111
                                                      have p113 : 0 ≤ (x40_5 : Int) := of_decide_eq_true (by first | (with_reducible assumption) | assumption)
                                                      have q113 : x40_5 < (x6_5.length : Int) := of_decide_eq_true (by first | (with_reducible assumption) | assumption)
                                                      obtain ⟨ad113, e113, hx113_0⟩ := Kd.at_bool (Kd.R_reads' HO_6.out).2.2 x40_5 p113 q113
                                                      (try rw [← Nbq28.out] at hx113_0)
                                                      (try rw [← Nbq35.out] at hx113_0)
                                                      obtain rfl : (⟨go12, 0, none⟩ : Addr) = ad113 := (by injection e113)
                                                      (first | simp only [add_plain] at hx113_0 | simp only [add_at] at hx113_0 | simp only [Addr.add, Nat.zero_add] at hx113_0 | skip)
                                                      (try simp only [Int.toNat_natCast] at hx113_0)
                                                      replace p113 := eq_true p113
                                                      replace q113 := eq_true q113
                                                      have p42 : 0 ≤ (x40_5 : Int) := of_decide_eq_true (by first | (with_reducible assumption) | assumption)
                                                      have q42 : x40_5 < (a1.size : Int) := of_decide_eq_true (by first | (with_reducible assumption) | assumption)
                                                      have hx42 := bt_at a1 x40_5
                                                      replace p42 := eq_true p42
                                                      replace q42 := eq_true q42
                                                      have p43 : 0 ≤ ((ji25) : Int) := of_decide_eq_true (by first | (with_reducible assumption) | assumption)
                                                      have q43 : ((ji25) : Int) < ((x6_5.length : Int) : Int) := of_decide_eq_true (by first | (with_reducible assumption) | assumption)
                                                      obtain ⟨hx43_0, hf43_0⟩ := Kd.R_celln false HO_6.out ((ji25) : Int) p43 q43
                                                      replace p43 := eq_true p43
                                                      replace q43 := eq_true q43
                                                      have HP44 := Kd.R_putg HO_6.out ((ji25) : Int) ((bt a1 x40_5) != 47)
                                                      go_wp2_with (first | ((with_reducible refine gate_store (t := 4) (p := 67) rfl ?_); refine store_event (t := 4) (p := 67) (v := ?vo_w45) (w1 := (wr.setCell ⟨go12, ((ji25) : Int).toNat, none⟩ (.bool ((bt a1 x40_5) != 47)))) ?hg ?ho ?hn ?hr ?_; (case ho => rfl); (case hg => rfl); (case hn => rfl); (case hr => first | (go_simp; done) | (go_simp; rfl)); intro w45 hw; have hg : wr.grownBy w45 (some go12) := (by rw [hw]; exact HP44.2); have hp_ : Kd.R Kd.bool 4 w45 w.heap.size (fun _ => True) (.slice (some ⟨go12, 0, none⟩) x6_5.length co12) y115 := (by rw [hw, Ny115.out]; exact HP44.1); clear HP44; have n0_ := Aside0.mk (hp_); have n1_ := Aside0.mk ((by rw [hw]; exact below_set (HB.out) GB12.out : Below w.heap.size w w45)); clear HO_6; clear HB; have HO_6 := n0_; have HB := n1_; clear n0_ n1_; clear hg hw hp_))
                                                      (try simp only [← hl6_5])
                                                      go_roundg k5
                                                      case measure => have := HJ2.out; have := HJ5.out; have := HK3.out; have := HJ20.out; have := HK5.out; omega
                                                      case rel => exact ⟨(y115), (ji25), (by first | rfl | (simp; done) | (simp only [← hji25] <;> (first | rfl | simp)) | (simp [*]; done)), H', ⟨by have := HJ2.out; have := HJ5.out; have := HK3.out; have := HJ20.out; have := HK5.out; omega⟩, ⟨by (try simp only [hl6_3]); (try simp only [hl6_5]); (with_reducible repeat (first | apply Kd.R_alloc | apply Kd.R_drewN | apply Kd.R_drew)); exact HO_6.out⟩, ⟨by repeat (first | (with_reducible first | exact HB.out | apply below_alloc | apply pw_below_drewN | apply below_drew1) | exact HB.out)⟩⟩
                                                    · rw [if_neg c41] at H
                                                      exact absurd H (by simp)
                                                · replace c36 := Bool.eq_false_iff.mpr c36
                                                  subst c36
                                                  have H1 : (store_Match.l1 k5 a0 a1 x5_5 (x6_5.set ((ji25) : Int).toNat false) (bt a0 x26_3) (a0.size : Int) x26_3 (a1.size : Int) ji25) = some r := by rw [if_neg (show ¬ (false = true) by decide)] at H; exact H
                                                  clear H
                                                  have H := H1
                                                  clear H1
                                                  obtain ⟨y116, hy116⟩ : ∃ y_ : List Bool, y_ = (x6_5.set ((ji25) : Int).toNat false) := ⟨_, rfl⟩
                                                  replace H : (store_Match.l1 k5 a0 a1 x5_5 y116 (bt a0 x26_3) (a0.size : Int) x26_3 (a1.size : Int) ji25) = some r := by first | (rw [hy116]; with_reducible exact H) | (have H2_ := (Option.bind_some _ _).symm.trans H; rw [hy116]; with_reducible exact H2_) | (have H2_ := (Option.bind_some _ _).symm.trans H; with_reducible exact H2_) | with_reducible exact H | (rw [hy116]; exact H) | exact H
                                                  have Ny116 := Aside0.mk hy116
                                                  clear hy116
                                                  have H' := Aside0.mk H
                                                  clear H
                                                  have p111 : 0 ≤ ((ji25) : Int) := of_decide_eq_true (by first | (with_reducible assumption) | assumption)
                                                  have q111 : (ji25) < (x6_5.length : Int) := of_decide_eq_true (by first | (with_reducible assumption) | assumption)
                                                  obtain ⟨ad111, e111, hx111_0⟩ := Kd.at_bool (Kd.R_reads' HO_6.out).2.2 (ji25) p111 q111
                                                  (try rw [← Nbq28.out] at hx111_0)
                                                  (try rw [← Nbq35.out] at hx111_0)
                                                  obtain rfl : (⟨go12, 0, none⟩ : Addr) = ad111 := (by injection e111)
                                                  (first | simp only [add_plain] at hx111_0 | simp only [add_at] at hx111_0 | simp only [Addr.add, Nat.zero_add] at hx111_0 | skip)
                                                  (try simp only [Int.toNat_natCast] at hx111_0)
                                                  replace p111 := eq_true p111
                                                  replace q111 := eq_true q111
                                                  have p113 : 0 ≤ (x40_5 : Int) := of_decide_eq_true (by first | (with_reducible assumption) | assumption)
                                                  have q113 : x40_5 < (x6_5.length : Int) := of_decide_eq_true (by first | (with_reducible assumption) | assumption)
                                                  obtain ⟨ad113, e113, hx113_0⟩ := Kd.at_bool (Kd.R_reads' HO_6.out).2.2 x40_5 p113 q113
                                                  (try rw [← Nbq28.out] at hx113_0)
                                                  (try rw [← Nbq35.out] at hx113_0)
                                                  obtain rfl : (⟨go12, 0, none⟩ : Addr) = ad113 := (by injection e113)
                                                  (first | simp only [add_plain] at hx113_0 | simp only [add_at] at hx113_0 | simp only [Addr.add, Nat.zero_add] at hx113_0 | skip)
                                                  (try simp only [Int.toNat_natCast] at hx113_0)
                                                  replace p113 := eq_true p113
                                                  replace q113 := eq_true q113
                                                  have p46 : 0 ≤ ((ji25) : Int) := of_decide_eq_true (by first | (with_reducible assumption) | assumption)
                                                  have q46 : ((ji25) : Int) < ((x6_5.length : Int) : Int) := of_decide_eq_true (by first | (with_reducible assumption) | assumption)
                                                  obtain ⟨hx46_0, hf46_0⟩ := Kd.R_celln false HO_6.out ((ji25) : Int) p46 q46
                                                  replace p46 := eq_true p46
                                                  replace q46 := eq_true q46
                                                  have HP47 := Kd.R_putg HO_6.out ((ji25) : Int) false
                                                  go_wp2_with (first | ((with_reducible refine gate_store (t := 4) (p := 67) rfl ?_); refine store_event (t := 4) (p := 67) (v := ?vo_w48) (w1 := (wr.setCell ⟨go12, ((ji25) : Int).toNat, none⟩ (.bool false))) ?hg ?ho ?hn ?hr ?_; (case ho => rfl); (case hg => rfl); (case hn => rfl); (case hr => first | (go_simp; done) | (go_simp; rfl)); intro w48 hw; have hg : wr.grownBy w48 (some go12) := (by rw [hw]; exact HP47.2); have hp_ : Kd.R Kd.bool 4 w48 w.heap.size (fun _ => True) (.slice (some ⟨go12, 0, none⟩) x6_5.length co12) y116 := (by rw [hw, Ny116.out]; exact HP47.1); clear HP47; have n0_ := Aside0.mk (hp_); have n1_ := Aside0.mk ((by rw [hw]; exact below_set (HB.out) GB12.out : Below w.heap.size w w48)); clear HO_6; clear HB; have HO_6 := n0_; have HB := n1_; clear n0_ n1_; clear hg hw hp_))
                                                  (try simp only [← hl6_5])
                                                  go_roundg k5
                                                  case measure => have := HJ2.out; have := HJ5.out; have := HK3.out; have := HJ20.out; have := HK5.out; omega
                                                  case rel => exact ⟨(y116), (ji25), (by first | rfl | (simp; done) | (simp only [← hji25] <;> (first | rfl | simp)) | (simp [*]; done)), H', ⟨by have := HJ2.out; have := HJ5.out; have := HK3.out; have := HJ20.out; have := HK5.out; omega⟩, ⟨by (try simp only [hl6_3]); (try simp only [hl6_5]); (with_reducible repeat (first | apply Kd.R_alloc | apply Kd.R_drewN | apply Kd.R_drew)); exact HO_6.out⟩, ⟨by repeat (first | (with_reducible first | exact HB.out | apply below_alloc | apply pw_below_drewN | apply below_drew1) | exact HB.out)⟩⟩
                                              · rw [if_neg c34] at H
                                                exact absurd H (by simp)
                                            · rw [if_neg c33] at H
                                              exact absurd H (by simp)
                                        · rw [if_neg c27] at H
                                          exact absurd H (by simp)
                                      · rw [if_neg c26] at H
                                        exact absurd H (by simp)
                                    · rw [if_neg c24] at H
                                      have c24b0 : decide (x40_5 < (a1.size : Int)) = false := decide_eq_false c24
                                      clear c24
                                      have H' := Aside0.mk H
                                      clear H
                                      go_wp2
                                      (try simp only [← hl6_3, ← hl6_5])
                                      go_roundg k5
                                      case measure => have := HJ2.out; have := HJ5.out; have := HK3.out; have := HJ20.out; have := HK5.out; omega
                                      case rel => exact ⟨(x6_5), (wrap64 (x26_3 + 1)), (by first | rfl | (simp; done) | (simp [*]; done) | (simp [bne, *]; done)), H', ⟨by have := HJ2.out; have := HJ5.out; have := HK3.out; have := HJ20.out; have := HK5.out; omega⟩, ⟨by (try simp only [hl6_3]); (try simp only [hl6_5]); (with_reducible repeat (first | apply Kd.R_alloc | apply Kd.R_drewN | apply Kd.R_drew)); exact HO_6.out⟩, ⟨by repeat (first | (with_reducible first | exact HB.out | apply below_alloc | apply pw_below_drewN | apply below_drew1) | exact HB.out)⟩⟩
                              · replace c23 := Bool.eq_false_iff.mpr c23
                                subst c23
                                have H1 : (store_Match.l2 kj20 a0 a1 x5_5 x6_3 x26_3 (bt a0 x26_3) (a1.size : Int) (a0.size : Int) x26_3) = some r := by rw [if_neg (show ¬ (false = true) by decide)] at H; exact H
                                clear H
                                have H := H1
                                clear H1
                                have H' := Aside0.mk H
                                clear H
                                go_wp2
                                go_loopg [10] kj20 (fun kq v10 w' => ∃ (x6_5 : List Bool) (x10_5 : Int), v10 = .int .i64 x10_5 ∧ Aside0 (store_Match.l2 kq a0 a1 x5_5 x6_5 x26_3 (bt a0 x26_3) x10_5 (a0.size : Int) x26_3 = some r) ∧ Aside0 (kq ≤ kj20) ∧ Aside0 (Kd.R Kd.bool 4 w' w.heap.size (fun _ => True) (.slice (some ⟨go12, 0, none⟩) x6_3.length co12) x6_5) ∧ Aside0 (Below w.heap.size w w'))
                                case atStart => exact ⟨(x6_3), ((a1.size : Int)), (by first | rfl | (simp; done) | (simp [*]; done) | (simp [bne, *]; done)), H', ⟨Nat.le_refl _⟩, ⟨by (try simp only [hl6_3]); (with_reducible repeat (first | apply Kd.R_alloc | apply Kd.R_drewN | apply Kd.R_drew)); exact HO_6.out⟩, ⟨by repeat (first | (with_reducible first | exact HB.out | apply below_alloc | apply pw_below_drewN | apply below_drew1) | exact HB.out)⟩⟩
                                case round =>
                                  clear H'
                                  try clear c1
                                  try clear p1
                                  try clear q1
                                  try clear hx1
                                  try clear qi1
                                  try clear c2
                                  try clear p2
                                  try clear q2
                                  try clear hx2
                                  try clear c3
                                  try clear p3
                                  try clear q3
                                  try clear hx3
                                  try clear hf3
                                  try clear c4
                                  try clear c4b0
                                  try clear c4b1
                                  try clear p4
                                  try clear q4
                                  try clear hx4
                                  try clear hf4
                                  try clear c6
                                  try clear p6
                                  try clear c7
                                  try clear c9
                                  try clear c9b0
                                  try clear c9b1
                                  try clear c10
                                  try clear c10b0
                                  try clear c10b1
                                  try clear c11
                                  try clear c11b0
                                  try clear c11b1
                                  try clear p11
                                  try clear q11
                                  try clear hx11
                                  try clear p12
                                  try clear q12
                                  try clear hx12
                                  try clear qi12
                                  try clear hf12
                                  try clear c17
                                  try clear c17b0
                                  try clear c18
                                  try clear c18b0
                                  try clear c19
                                  try clear c19b0
                                  try clear p20
                                  try clear q20
                                  try clear hx20
                                  try clear c22
                                  try clear c22b0
                                  try clear c22b1
                                  try clear c23
                                  try clear c24
                                  try clear c24b0
                                  try clear c26
                                  try clear c26b0
                                  try clear c27
                                  try clear c27b0
                                  try clear q28
                                  try clear c29
                                  try clear p30
                                  try clear q30
                                  try clear hx30
                                  try clear hf30
                                  try clear c33
                                  try clear c33b0
                                  try clear c34
                                  try clear c34b0
                                  try clear q35
                                  try clear c36
                                  try clear c37
                                  try clear c37b0
                                  try clear c37b1
                                  try clear p38
                                  try clear q38
                                  try clear hx38
                                  try clear hf38
                                  try clear c41
                                  try clear c41b0
                                  try clear p42
                                  try clear q42
                                  try clear hx42
                                  try clear p43
                                  try clear q43
                                  try clear hx43
                                  try clear hf43
                                  try clear p46
                                  try clear q46
                                  try clear hx46
                                  try clear hf46
                                  try clear hx111_0
                                  try clear hx113_0
                                  try clear hx12_0
                                  try clear hx30_0
                                  try clear hx38_0
                                  try clear hx43_0
                                  try clear hx46_0
                                  try clear p1
                                  try clear p111
                                  try clear p113
                                  try clear p12
                                  try clear p2
                                  try clear p20
                                  try clear p30
                                  try clear p38
                                  try clear p42
                                  try clear p43
                                  try clear p46
                                  try clear p6
                                  try clear q1
                                  try clear q111
                                  try clear q113
                                  try clear q12
                                  try clear q2
                                  try clear q20
                                  try clear q30
                                  try clear q38
                                  try clear q42
                                  try clear q43
                                  try clear q46
                                  obtain ⟨x6_5, x10_5, rfl, HA, HK5, HO_6, HB⟩ := hrel
                                  have hl6_5 := (Kd.R_reads' HO_6.out).1
                                  rw [hl6_5] at HO_6
                                  (try simp only [hl6_5])
                                  cases gk with
                                  | zero => exact absurd HA.out (by simp [store_Match.l2])
                                  | succ k5 =>
                                    have H := HA.out
                                    clear HA
                                    simp only [store_Match.l2] at H
                                    by_cases c49 : x10_5 > 0
                                    · rw [if_pos c49] at H
                                      have c49b0 : decide (0 < x10_5) = true := decide_eq_true c49
                                      clear c49
                                      obtain ⟨ji50, hji50⟩ : ∃ j_ : Int, (wrap64 (x10_5 - 1)) = j_ := ⟨_, rfl⟩
                                      replace H : (if 0 ≤ (ji50) then (if (ji50) < (a1.size : Int) then (if (ji50) < (x6_5.length : Int) then (if rdOf false x6_5 (ji50) = true then (if (bt a1 (ji50)) = (bt a0 x26_3) then (if 0 ≤ x10_5 then (if x10_5 < (x6_5.length : Int) then (store_Match.l2 k5 a0 a1 x5_5 (x6_5.set (x10_5 : Int).toNat true) x26_3 (bt a0 x26_3) ji50 (a0.size : Int) x26_3) else (none)) else (none)) else (if x10_5 ≤ x5_5 then (if (ji50) ≤ x10_5 then (if x10_5 ≤ (a1.size : Int) then (if 0 ≤ x26_3 then (if x26_3 ≤ (wrap64 (x26_3 + 1)) then (if (wrap64 (x26_3 + 1)) ≤ (a0.size : Int) then ((octet_Same.f (a1.extract ((ji50) : Int).toNat (x10_5 : Int).toNat) (a0.extract (x26_3 : Int).toNat ((wrap64 (x26_3 + 1)) : Int).toNat)).bind fun t119 => (if 0 ≤ x10_5 then (if x10_5 < (x6_5.length : Int) then (store_Match.l2 k5 a0 a1 x5_5 (x6_5.set (x10_5 : Int).toNat t119) x26_3 (bt a0 x26_3) ji50 (a0.size : Int) x26_3) else (none)) else (none))) else (none)) else (none)) else (none)) else (none)) else (none)) else (if 0 ≤ x10_5 then (if x10_5 < (x6_5.length : Int) then (store_Match.l2 k5 a0 a1 x5_5 (x6_5.set (x10_5 : Int).toNat false) x26_3 (bt a0 x26_3) ji50 (a0.size : Int) x26_3) else (none)) else (none)))) else (if 0 ≤ x10_5 then (if x10_5 < (x6_5.length : Int) then (store_Match.l2 k5 a0 a1 x5_5 (x6_5.set (x10_5 : Int).toNat false) x26_3 (bt a0 x26_3) ji50 (a0.size : Int) x26_3) else (none)) else (none))) else (none)) else (none)) else (none)) = some r := by first | (rw [hji50] at H; exact H) | (simp only [hji50] at H ⊢; exact H)
                                      have hji50w : (IntKind.i64.wrap (x10_5 - 1)) = ji50 := (i64_w _).trans hji50
                                      by_cases c51 : 0 ≤ (ji50)
                                      · rw [if_pos c51] at H
                                        have c51b0 : decide (0 ≤ (ji50)) = true := decide_eq_true c51
                                        clear c51
                                        by_cases c52 : (ji50) < (a1.size : Int)
                                        · rw [if_pos c52] at H
                                          have c52b0 : decide ((ji50) < (a1.size : Int)) = true := decide_eq_true c52
                                          clear c52
                                          by_cases c54 : (ji50) < (x6_5.length : Int)
                                          · rw [if_pos c54] at H
                                            have c54b0 : decide ((ji50) < (x6_5.length : Int)) = true := decide_eq_true c54
                                            clear c54
                                            obtain ⟨bq55, hbq55⟩ : ∃ b_ : Bool, b_ = (rdOf false x6_5 (ji50)) := ⟨_, rfl⟩
                                            replace H : (if bq55 = true then (if (bt a1 (ji50)) = (bt a0 x26_3) then (if 0 ≤ x10_5 then (if x10_5 < (x6_5.length : Int) then (store_Match.l2 k5 a0 a1 x5_5 (x6_5.set (x10_5 : Int).toNat true) x26_3 (bt a0 x26_3) ji50 (a0.size : Int) x26_3) else (none)) else (none)) else (if x10_5 ≤ x5_5 then (if (ji50) ≤ x10_5 then (if x10_5 ≤ (a1.size : Int) then (if 0 ≤ x26_3 then (if x26_3 ≤ (wrap64 (x26_3 + 1)) then (if (wrap64 (x26_3 + 1)) ≤ (a0.size : Int) then ((octet_Same.f (a1.extract ((ji50) : Int).toNat (x10_5 : Int).toNat) (a0.extract (x26_3 : Int).toNat ((wrap64 (x26_3 + 1)) : Int).toNat)).bind fun t119 => (if 0 ≤ x10_5 then (if x10_5 < (x6_5.length : Int) then (store_Match.l2 k5 a0 a1 x5_5 (x6_5.set (x10_5 : Int).toNat t119) x26_3 (bt a0 x26_3) ji50 (a0.size : Int) x26_3) else (none)) else (none))) else (none)) else (none)) else (none)) else (none)) else (none)) else (if 0 ≤ x10_5 then (if x10_5 < (x6_5.length : Int) then (store_Match.l2 k5 a0 a1 x5_5 (x6_5.set (x10_5 : Int).toNat false) x26_3 (bt a0 x26_3) ji50 (a0.size : Int) x26_3) else (none)) else (none)))) else (if 0 ≤ x10_5 then (if x10_5 < (x6_5.length : Int) then (store_Match.l2 k5 a0 a1 x5_5 (x6_5.set (x10_5 : Int).toNat false) x26_3 (bt a0 x26_3) ji50 (a0.size : Int) x26_3) else (none)) else (none))) = some r := by rw [← hbq55] at H; exact H
                                            have Nbq55 := Aside0.mk hbq55
                                            clear hbq55
                                            by_cases c56 : bq55 = true
                                            · subst c56
                                              have H1 : (if (bt a1 (ji50)) = (bt a0 x26_3) then (if 0 ≤ x10_5 then (if x10_5 < (x6_5.length : Int) then (store_Match.l2 k5 a0 a1 x5_5 (x6_5.set (x10_5 : Int).toNat true) x26_3 (bt a0 x26_3) ji50 (a0.size : Int) x26_3) else (none)) else (none)) else (if x10_5 ≤ x5_5 then (if (ji50) ≤ x10_5 then (if x10_5 ≤ (a1.size : Int) then (if 0 ≤ x26_3 then (if x26_3 ≤ (wrap64 (x26_3 + 1)) then (if (wrap64 (x26_3 + 1)) ≤ (a0.size : Int) then ((octet_Same.f (a1.extract ((ji50) : Int).toNat (x10_5 : Int).toNat) (a0.extract (x26_3 : Int).toNat ((wrap64 (x26_3 + 1)) : Int).toNat)).bind fun t119 => (if 0 ≤ x10_5 then (if x10_5 < (x6_5.length : Int) then (store_Match.l2 k5 a0 a1 x5_5 (x6_5.set (x10_5 : Int).toNat t119) x26_3 (bt a0 x26_3) ji50 (a0.size : Int) x26_3) else (none)) else (none))) else (none)) else (none)) else (none)) else (none)) else (none)) else (if 0 ≤ x10_5 then (if x10_5 < (x6_5.length : Int) then (store_Match.l2 k5 a0 a1 x5_5 (x6_5.set (x10_5 : Int).toNat false) x26_3 (bt a0 x26_3) ji50 (a0.size : Int) x26_3) else (none)) else (none)))) = some r := by rw [if_pos rfl] at H; exact H
                                              clear H
                                              have H := H1
                                              clear H1
                                              by_cases c57 : (bt a1 (ji50)) = (bt a0 x26_3)
                                              · rw [if_pos c57] at H
                                                have c57b0 : ((bt a1 (ji50)) == (bt a0 x26_3)) = true := beq_iff_eq.mpr c57
                                                have c57b1 : ((bt a1 (ji50)) != (bt a0 x26_3)) = false := bne_eq_false_iff_eq.mpr c57
                                                clear c57
                                                by_cases c58 : 0 ≤ x10_5
                                                · rw [if_pos c58] at H
                                                  have c58b0 : decide (0 ≤ x10_5) = true := decide_eq_true c58
                                                  clear c58
                                                  by_cases c59 : x10_5 < (x6_5.length : Int)
                                                  · rw [if_pos c59] at H
                                                    have c59b0 : decide (x10_5 < (x6_5.length : Int)) = true := decide_eq_true c59
                                                    clear c59
                                                    obtain ⟨y118, hy118⟩ : ∃ y_ : List Bool, y_ = (x6_5.set (x10_5 : Int).toNat true) := ⟨_, rfl⟩
                                                    replace H : (store_Match.l2 k5 a0 a1 x5_5 y118 x26_3 (bt a0 x26_3) ji50 (a0.size : Int) x26_3) = some r := by first | (rw [hy118]; with_reducible exact H) | (have H2_ := (Option.bind_some _ _).symm.trans H; rw [hy118]; with_reducible exact H2_) | (have H2_ := (Option.bind_some _ _).symm.trans H; with_reducible exact H2_) | with_reducible exact H | (rw [hy118]; exact H) | exact H
                                                    have Ny118 := Aside0.mk hy118
                                                    clear hy118
                                                    have H' := Aside0.mk H
                                                    clear H
                                                    have p53 : 0 ≤ ((ji50) : Int) := of_decide_eq_true (by first | (with_reducible assumption) | assumption)
                                                    have q53 : (ji50) < (a1.size : Int) := of_decide_eq_true (by first | (with_reducible assumption) | assumption)
                                                    have hx53 := bt_at a1 (ji50)
                                                    replace p53 := eq_true p53
                                                    replace q53 := eq_true q53
                                                    try go_wp2
                                                    have n0_ := Aside0.mk (Kd.R_drew HO_6.out)
                                                    have n1_ := Aside0.mk (below_drew1 HB.out)
                                                    clear HO_6
                                                    clear HB
                                                    have HO_6 := n0_
                                                    have HB := n1_
                                                    clear n0_ n1_
                                                    have p117 : 0 ≤ ((ji50) : Int) := of_decide_eq_true (by first | (with_reducible assumption) | assumption)
                                                    have q117 : (ji50) < (x6_5.length : Int) := of_decide_eq_true (by first | (with_reducible assumption) | assumption)
                                                    obtain ⟨ad117, e117, hx117_0⟩ := Kd.at_bool (Kd.R_reads' HO_6.out).2.2 (ji50) p117 q117
                                                    (try rw [← Nbq55.out] at hx117_0)
                                                    obtain rfl : (⟨go12, 0, none⟩ : Addr) = ad117 := (by injection e117)
                                                    (first | simp only [add_plain] at hx117_0 | simp only [add_at] at hx117_0 | simp only [Addr.add, Nat.zero_add] at hx117_0 | skip)
                                                    (try simp only [Int.toNat_natCast] at hx117_0)
                                                    replace p117 := eq_true p117
                                                    replace q117 := eq_true q117
                                                    have p60 : 0 ≤ (x10_5 : Int) := of_decide_eq_true (by first | (with_reducible assumption) | assumption)
                                                    have q60 : (x10_5 : Int) < ((x6_5.length : Int) : Int) := of_decide_eq_true (by first | (with_reducible assumption) | assumption)
                                                    obtain ⟨hx60_0, hf60_0⟩ := Kd.R_celln false HO_6.out (x10_5 : Int) p60 q60
                                                    replace p60 := eq_true p60
                                                    replace q60 := eq_true q60
                                                    have HP62 := Kd.R_putn HO_6.out (x10_5 : Int) true
                                                    rw [← Ny118.out] at HP62
                                                    have HQ62 := Aside0.mk HP62
                                                    clear HP62
                                                    refine start_ (n := 32) (S := fun w' => w'.cell? ⟨go12, ((ji50)).toNat, none⟩ = some (.bool true)) (ds := [31]) #[false, false, false, false, false, false, false, false, false, false, false, false, false, false, false, false, false, false, false, false, false, false, false, false, false, false, false, false, false, false, false, false] (by kernel_rfl) rfl rfl (hx117_0) (fun hHeld => ?_); refine with_tabW store_Match.tab20 store_Match.bits20 (fun HT_ HW_ => ?_)
                                                    generalize wr.drew = w61 at HO_6 HB HQ62 hf60_0 hx117_0 hx60_0 hHeld ⊢
                                                    refine pure_ (i := 0) (N := some 79) (v := ?_) (a' := ?_) #[true, false, false, false, false, false, false, false, false, false, false, false, false, false, false, false, false, false, false, false, false, false, false, false, false, false, false, false, false, false, false, false] rfl rfl (any_of HT_.out (by kernel_rfl)) (fun _ _ _ h => h) (Or.inl ⟨by rfl, ?_⟩) ?_ ?_
                                                    rotate_left
                                                    · intro w'
                                                      go_simp
                                                      with_reducible rfl
                                                    rotate_left
                                                    · simp only [Act.put, List.setIfInBounds_toArray, List.set_cons_zero, List.set_cons_succ, i64_w, i32_w]
                                                      rfl
                                                    refine pure_ (i := 1) (N := some 80) (v := ?_) (a' := ?_) #[true, true, false, false, false, false, false, false, false, false, false, false, false, false, false, false, false, false, false, false, false, false, false, false, false, false, false, false, false, false, false, false] rfl rfl (any_of HT_.out (by kernel_rfl)) (fun _ _ _ h => h) (Or.inl ⟨by rfl, ?_⟩) ?_ ?_
                                                    rotate_left
                                                    · intro w'
                                                      go_simp
                                                      with_reducible rfl
                                                    rotate_left
                                                    · simp only [Act.put, List.setIfInBounds_toArray, List.set_cons_zero, List.set_cons_succ, i64_w, i32_w]
                                                      rfl
                                                    refine pure_ (i := 2) (N := some 81) (v := ?_) (a' := ?_) #[true, true, true, false, false, false, false, false, false, false, false, false, false, false, false, false, false, false, false, false, false, false, false, false, false, false, false, false, false, false, false, false] rfl rfl (any_of HT_.out (by kernel_rfl)) (fun _ _ _ h => h) (Or.inl ⟨by rfl, ?_⟩) ?_ ?_
                                                    rotate_left
                                                    · intro w'
                                                      go_simp
                                                      with_reducible rfl
                                                    rotate_left
                                                    · simp only [Act.put, List.setIfInBounds_toArray, List.set_cons_zero, List.set_cons_succ, i64_w, i32_w]
                                                      rfl
                                                    refine pure_ (i := 3) (N := some 82) (v := ?_) (a' := ?_) #[true, true, true, true, false, false, false, false, false, false, false, false, false, false, false, false, false, false, false, false, false, false, false, false, false, false, false, false, false, false, false, false] rfl rfl (any_of HT_.out (by kernel_rfl)) (fun _ _ _ h => h) (Or.inl ⟨by rfl, ?_⟩) ?_ ?_
                                                    rotate_left
                                                    · intro w'
                                                      go_simp
                                                      with_reducible rfl
                                                    rotate_left
                                                    · simp only [Act.put, List.setIfInBounds_toArray, List.set_cons_zero, List.set_cons_succ, i64_w, i32_w]
                                                      rfl
                                                    refine pure_ (i := 4) (N := some 83) (v := ?_) (a' := ?_) #[true, true, true, true, true, false, false, false, false, false, false, false, false, false, false, false, false, false, false, false, false, false, false, false, false, false, false, false, false, false, false, false] rfl rfl (any_of HT_.out (by kernel_rfl)) (fun _ _ _ h => h) (Or.inl ⟨by rfl, ?_⟩) ?_ ?_
                                                    rotate_left
                                                    · intro w'
                                                      go_simp
                                                      with_reducible rfl
                                                    rotate_left
                                                    · simp only [Act.put, List.setIfInBounds_toArray, List.set_cons_zero, List.set_cons_succ, i64_w, i32_w]
                                                      rfl
                                                    refine pure_ (i := 5) (N := some 84) (v := ?_) (a' := ?_) #[true, true, true, true, true, true, false, false, false, false, false, false, false, false, false, false, false, false, false, false, false, false, false, false, false, false, false, false, false, false, false, false] rfl rfl (any_of HT_.out (by kernel_rfl)) (fun _ _ _ h => h) (Or.inl ⟨by rfl, ?_⟩) ?_ ?_
                                                    rotate_left
                                                    · intro w'
                                                      go_simp
                                                      with_reducible rfl
                                                    rotate_left
                                                    · simp only [Act.put, List.setIfInBounds_toArray, List.set_cons_zero, List.set_cons_succ, i64_w, i32_w]
                                                      rfl
                                                    refine take_ (i := 6) (N := some 85) (v := ?_) (a' := ?_) #[true, true, true, true, true, true, true, false, false, false, false, false, false, false, false, false, false, false, false, false, false, false, false, false, false, false, false, false, false, false, false, false] rfl rfl (take_ofW HT_.out HW_.out (by kernel_rfl)) (fun _ _ _ h => h) (Or.inl ⟨by rfl, ?_⟩) hHeld ?_ ?_
                                                    rotate_left
                                                    · intro w' s0
                                                      go_simp
                                                      with_reducible rfl
                                                    rotate_left
                                                    · simp only [Act.put, List.setIfInBounds_toArray, List.set_cons_zero, List.set_cons_succ, i64_w, i32_w]
                                                      rfl
                                                    refine pure_ (i := 7) (N := some 86) (v := ?_) (a' := ?_) #[true, true, true, true, true, true, true, true, false, false, false, false, false, false, false, false, false, false, false, false, false, false, false, false, false, false, false, false, false, false, false, false] rfl rfl (any_of HT_.out (by kernel_rfl)) (fun _ _ _ h => h) (Or.inl ⟨by rfl, ?_⟩) ?_ ?_
                                                    rotate_left
                                                    · intro w'
                                                      go_simp
                                                      with_reducible rfl
                                                    rotate_left
                                                    · simp only [Act.put, List.setIfInBounds_toArray, List.set_cons_zero, List.set_cons_succ, i64_w, i32_w]
                                                      rfl
                                                    refine pure_ (i := 8) (N := some 87) (v := ?_) (a' := ?_) #[true, true, true, true, true, true, true, true, true, false, false, false, false, false, false, false, false, false, false, false, false, false, false, false, false, false, false, false, false, false, false, false] rfl rfl (any_of HT_.out (by kernel_rfl)) (fun _ _ _ h => h) (Or.inl ⟨by rfl, ?_⟩) ?_ ?_
                                                    rotate_left
                                                    · intro w'
                                                      go_simp
                                                      with_reducible rfl
                                                    rotate_left
                                                    · simp only [Act.put, List.setIfInBounds_toArray, List.set_cons_zero, List.set_cons_succ, i64_w, i32_w]
                                                      rfl
                                                    refine pure_ (i := 9) (N := some 88) (v := ?_) (a' := ?_) #[true, true, true, true, true, true, true, true, true, true, false, false, false, false, false, false, false, false, false, false, false, false, false, false, false, false, false, false, false, false, false, false] rfl rfl (any_of HT_.out (by kernel_rfl)) (fun _ _ _ h => h) (Or.inl ⟨by rfl, ?_⟩) ?_ ?_
                                                    rotate_left
                                                    · intro w'
                                                      go_simp
                                                      with_reducible rfl
                                                    rotate_left
                                                    · simp only [Act.put, List.setIfInBounds_toArray, List.set_cons_zero, List.set_cons_succ, i64_w, i32_w]
                                                      rfl
                                                    refine pure_ (i := 10) (N := some 89) (v := ?_) (a' := ?_) #[true, true, true, true, true, true, true, true, true, true, true, false, false, false, false, false, false, false, false, false, false, false, false, false, false, false, false, false, false, false, false, false] rfl rfl (any_of HT_.out (by kernel_rfl)) (fun _ _ _ h => h) (Or.inl ⟨by rfl, ?_⟩) ?_ ?_
                                                    rotate_left
                                                    · intro w'
                                                      go_simp
                                                      with_reducible rfl
                                                    rotate_left
                                                    · simp only [Act.put, List.setIfInBounds_toArray, List.set_cons_zero, List.set_cons_succ, i64_w, i32_w]
                                                      rfl
                                                    refine pure_ (i := 11) (N := some 90) (v := ?_) (a' := ?_) #[true, true, true, true, true, true, true, true, true, true, true, true, false, false, false, false, false, false, false, false, false, false, false, false, false, false, false, false, false, false, false, false] rfl rfl (any_of HT_.out (by kernel_rfl)) (fun _ _ _ h => h) (Or.inl ⟨by rfl, ?_⟩) ?_ ?_
                                                    rotate_left
                                                    · intro w'
                                                      go_simp
                                                      with_reducible rfl
                                                    rotate_left
                                                    · simp only [Act.put, List.setIfInBounds_toArray, List.set_cons_zero, List.set_cons_succ, i64_w, i32_w]
                                                      rfl
                                                    refine pure_ (i := 12) (N := some 91) (v := undef) (a' := ?_) #[true, true, true, true, true, true, true, true, true, true, true, true, true, false, false, false, false, false, false, false, false, false, false, false, false, false, false, false, false, false, false, false] rfl rfl (any_of HT_.out (by kernel_rfl)) (fun _ _ _ h => h) (Or.inr ⟨by rfl, rfl⟩) ?_ ?_
                                                    rotate_left
                                                    · simp only [Act.put, List.setIfInBounds_toArray, List.set_cons_zero, List.set_cons_succ, i64_w, i32_w]
                                                      rfl
                                                    refine pure_ (i := 13) (N := some 92) (v := undef) (a' := ?_) #[true, true, true, true, true, true, true, true, true, true, true, true, true, true, false, false, false, false, false, false, false, false, false, false, false, false, false, false, false, false, false, false] rfl rfl (any_of HT_.out (by kernel_rfl)) (fun _ _ _ h => h) (Or.inr ⟨by rfl, rfl⟩) ?_ ?_
                                                    rotate_left
                                                    · simp only [Act.put, List.setIfInBounds_toArray, List.set_cons_zero, List.set_cons_succ, i64_w, i32_w]
                                                      rfl
                                                    refine pure_ (i := 14) (N := some 93) (v := undef) (a' := ?_) #[true, true, true, true, true, true, true, true, true, true, true, true, true, true, true, false, false, false, false, false, false, false, false, false, false, false, false, false, false, false, false, false] rfl rfl (any_of HT_.out (by kernel_rfl)) (fun _ _ _ h => h) (Or.inr ⟨by rfl, rfl⟩) ?_ ?_
                                                    rotate_left
                                                    · simp only [Act.put, List.setIfInBounds_toArray, List.set_cons_zero, List.set_cons_succ, i64_w, i32_w]
                                                      rfl
                                                    refine pure_ (i := 15) (N := some 94) (v := undef) (a' := ?_) #[true, true, true, true, true, true, true, true, true, true, true, true, true, true, true, true, false, false, false, false, false, false, false, false, false, false, false, false, false, false, false, false] rfl rfl (any_of HT_.out (by kernel_rfl)) (fun _ _ _ h => h) (Or.inr ⟨by rfl, rfl⟩) ?_ ?_
                                                    rotate_left
                                                    · simp only [Act.put, List.setIfInBounds_toArray, List.set_cons_zero, List.set_cons_succ, i64_w, i32_w]
                                                      rfl
                                                    refine pure_ (i := 16) (N := some 95) (v := undef) (a' := ?_) #[true, true, true, true, true, true, true, true, true, true, true, true, true, true, true, true, true, false, false, false, false, false, false, false, false, false, false, false, false, false, false, false] rfl rfl (any_of HT_.out (by kernel_rfl)) (fun _ _ _ h => h) (Or.inr ⟨by rfl, rfl⟩) ?_ ?_
                                                    rotate_left
                                                    · simp only [Act.put, List.setIfInBounds_toArray, List.set_cons_zero, List.set_cons_succ, i64_w, i32_w]
                                                      rfl
                                                    refine pure_ (i := 17) (N := some 96) (v := undef) (a' := ?_) #[true, true, true, true, true, true, true, true, true, true, true, true, true, true, true, true, true, true, false, false, false, false, false, false, false, false, false, false, false, false, false, false] rfl rfl (any_of HT_.out (by kernel_rfl)) (fun _ _ _ h => h) (Or.inr ⟨by rfl, rfl⟩) ?_ ?_
                                                    rotate_left
                                                    · simp only [Act.put, List.setIfInBounds_toArray, List.set_cons_zero, List.set_cons_succ, i64_w, i32_w]
                                                      rfl
                                                    refine pure_ (i := 18) (N := some 97) (v := undef) (a' := ?_) #[true, true, true, true, true, true, true, true, true, true, true, true, true, true, true, true, true, true, true, false, false, false, false, false, false, false, false, false, false, false, false, false] rfl rfl (any_of HT_.out (by kernel_rfl)) (fun _ _ _ h => h) (Or.inr ⟨by rfl, rfl⟩) ?_ ?_
                                                    rotate_left
                                                    · simp only [Act.put, List.setIfInBounds_toArray, List.set_cons_zero, List.set_cons_succ, i64_w, i32_w]
                                                      rfl
                                                    refine pure_ (i := 19) (N := some 98) (v := undef) (a' := ?_) #[true, true, true, true, true, true, true, true, true, true, true, true, true, true, true, true, true, true, true, true, false, false, false, false, false, false, false, false, false, false, false, false] rfl rfl (any_of HT_.out (by kernel_rfl)) (fun _ _ _ h => h) (Or.inr ⟨by rfl, rfl⟩) ?_ ?_
                                                    rotate_left
                                                    · simp only [Act.put, List.setIfInBounds_toArray, List.set_cons_zero, List.set_cons_succ, i64_w, i32_w]
                                                      rfl
                                                    refine pure_ (i := 20) (N := some 99) (v := undef) (a' := ?_) #[true, true, true, true, true, true, true, true, true, true, true, true, true, true, true, true, true, true, true, true, true, false, false, false, false, false, false, false, false, false, false, false] rfl rfl (any_of HT_.out (by kernel_rfl)) (fun _ _ _ h => h) (Or.inr ⟨by rfl, rfl⟩) ?_ ?_
                                                    rotate_left
                                                    · simp only [Act.put, List.setIfInBounds_toArray, List.set_cons_zero, List.set_cons_succ, i64_w, i32_w]
                                                      rfl
                                                    refine pure_ (i := 21) (N := some 100) (v := undef) (a' := ?_) #[true, true, true, true, true, true, true, true, true, true, true, true, true, true, true, true, true, true, true, true, true, true, false, false, false, false, false, false, false, false, false, false] rfl rfl (any_of HT_.out (by kernel_rfl)) (fun _ _ _ h => h) (Or.inr ⟨by rfl, rfl⟩) ?_ ?_
                                                    rotate_left
                                                    · simp only [Act.put, List.setIfInBounds_toArray, List.set_cons_zero, List.set_cons_succ, i64_w, i32_w]
                                                      rfl
                                                    refine pure_ (i := 22) (N := some 101) (v := undef) (a' := ?_) #[true, true, true, true, true, true, true, true, true, true, true, true, true, true, true, true, true, true, true, true, true, true, true, false, false, false, false, false, false, false, false, false] rfl rfl (any_of HT_.out (by kernel_rfl)) (fun _ _ _ h => h) (Or.inr ⟨by rfl, rfl⟩) ?_ ?_
                                                    rotate_left
                                                    · simp only [Act.put, List.setIfInBounds_toArray, List.set_cons_zero, List.set_cons_succ, i64_w, i32_w]
                                                      rfl
                                                    refine pure_ (i := 23) (N := some 102) (v := undef) (a' := ?_) #[true, true, true, true, true, true, true, true, true, true, true, true, true, true, true, true, true, true, true, true, true, true, true, true, false, false, false, false, false, false, false, false] rfl rfl (any_of HT_.out (by kernel_rfl)) (fun _ _ _ h => h) (Or.inr ⟨by rfl, rfl⟩) ?_ ?_
                                                    rotate_left
                                                    · simp only [Act.put, List.setIfInBounds_toArray, List.set_cons_zero, List.set_cons_succ, i64_w, i32_w]
                                                      rfl
                                                    refine pure_ (i := 24) (N := some 103) (v := undef) (a' := ?_) #[true, true, true, true, true, true, true, true, true, true, true, true, true, true, true, true, true, true, true, true, true, true, true, true, true, false, false, false, false, false, false, false] rfl rfl (any_of HT_.out (by kernel_rfl)) (fun _ _ _ h => h) (Or.inr ⟨by rfl, rfl⟩) ?_ ?_
                                                    rotate_left
                                                    · simp only [Act.put, List.setIfInBounds_toArray, List.set_cons_zero, List.set_cons_succ, i64_w, i32_w]
                                                      rfl
                                                    refine pure_ (i := 25) (N := some 104) (v := undef) (a' := ?_) #[true, true, true, true, true, true, true, true, true, true, true, true, true, true, true, true, true, true, true, true, true, true, true, true, true, true, false, false, false, false, false, false] rfl rfl (any_of HT_.out (by kernel_rfl)) (fun _ _ _ h => h) (Or.inr ⟨by rfl, rfl⟩) ?_ ?_
                                                    rotate_left
                                                    · simp only [Act.put, List.setIfInBounds_toArray, List.set_cons_zero, List.set_cons_succ, i64_w, i32_w]
                                                      rfl
                                                    refine pure_ (i := 26) (N := some 105) (v := undef) (a' := ?_) #[true, true, true, true, true, true, true, true, true, true, true, true, true, true, true, true, true, true, true, true, true, true, true, true, true, true, true, false, false, false, false, false] rfl rfl (any_of HT_.out (by kernel_rfl)) (fun _ _ _ h => h) (Or.inr ⟨by rfl, rfl⟩) ?_ ?_
                                                    rotate_left
                                                    · simp only [Act.put, List.setIfInBounds_toArray, List.set_cons_zero, List.set_cons_succ, i64_w, i32_w]
                                                      rfl
                                                    refine pure_ (i := 27) (N := some 106) (v := undef) (a' := ?_) #[true, true, true, true, true, true, true, true, true, true, true, true, true, true, true, true, true, true, true, true, true, true, true, true, true, true, true, true, false, false, false, false] rfl rfl (any_of HT_.out (by kernel_rfl)) (fun _ _ _ h => h) (Or.inr ⟨by rfl, rfl⟩) ?_ ?_
                                                    rotate_left
                                                    · simp only [Act.put, List.setIfInBounds_toArray, List.set_cons_zero, List.set_cons_succ, i64_w, i32_w]
                                                      rfl
                                                    refine pure_ (i := 28) (N := some 107) (v := ?_) (a' := ?_) #[true, true, true, true, true, true, true, true, true, true, true, true, true, true, true, true, true, true, true, true, true, true, true, true, true, true, true, true, true, false, false, false] rfl rfl (any_of HT_.out (by kernel_rfl)) (fun _ _ _ h => h) (Or.inl ⟨by rfl, ?_⟩) ?_ ?_
                                                    rotate_left
                                                    · intro w'
                                                      go_simp
                                                      with_reducible rfl
                                                    rotate_left
                                                    · simp only [Act.put, List.setIfInBounds_toArray, List.set_cons_zero, List.set_cons_succ, i64_w, i32_w]
                                                      rfl
                                                    refine pure_ (i := 29) (N := some 108) (v := ?_) (a' := ?_) #[true, true, true, true, true, true, true, true, true, true, true, true, true, true, true, true, true, true, true, true, true, true, true, true, true, true, true, true, true, true, false, false] rfl rfl (any_of HT_.out (by kernel_rfl)) (fun _ _ _ h => h) (Or.inl ⟨by rfl, ?_⟩) ?_ ?_
                                                    rotate_left
                                                    · intro w'
                                                      go_simp
                                                      with_reducible rfl
                                                    rotate_left
                                                    · simp only [Act.put, List.setIfInBounds_toArray, List.set_cons_zero, List.set_cons_succ, i64_w, i32_w]
                                                      rfl
                                                    refine pure_ (i := 30) (N := some 109) (v := ?_) (a' := ?_) #[true, true, true, true, true, true, true, true, true, true, true, true, true, true, true, true, true, true, true, true, true, true, true, true, true, true, true, true, true, true, true, false] rfl rfl (any_of HT_.out (by kernel_rfl)) (fun _ _ _ h => h) (Or.inl ⟨by rfl, ?_⟩) ?_ ?_
                                                    rotate_left
                                                    · intro w'
                                                      go_simp
                                                      with_reducible rfl
                                                    rotate_left
                                                    · simp only [Act.put, List.setIfInBounds_toArray, List.set_cons_zero, List.set_cons_succ, i64_w, i32_w]
                                                      rfl
                                                    refine last_ (i := 31) (N := none) #[true, true, true, true, true, true, true, true, true, true, true, true, true, true, true, true, true, true, true, true, true, true, true, true, true, true, true, true, true, true, true, true] rfl rfl (one_of HT_.out (by kernel_rfl)) (by decide) (fun K hK => ?_)
                                                    refine skip_ (w1 := ?_) (by rfl) rfl ?_ ?_
                                                    rotate_left
                                                    · go_simp
                                                      rfl
                                                    refine hK.out _ _ ?_
                                                    clear hK K
                                                    refine done_ (done_of HT_.out (by kernel_rfl)) ?_
                                                    try go_wp2
                                                    (try simp only [← hl6_5])
                                                    go_roundg k5
                                                    case measure => have := HJ2.out; have := HJ5.out; have := HK3.out; have := HJ20.out; have := HK5.out; omega
                                                    case rel => exact ⟨(y118), (ji50), (by first | rfl | (simp; done) | (simp only [← hji50] <;> (first | rfl | simp)) | (simp [*]; done)), H', ⟨by have := HJ2.out; have := HJ5.out; have := HK3.out; have := HJ20.out; have := HK5.out; omega⟩, ⟨by (try simp only [hl6_3]); (try simp only [hl6_5]); (with_reducible repeat (first | apply Kd.R_alloc | apply Kd.R_drewN | apply Kd.R_drew)); exact HQ62.out⟩, ⟨by repeat (first | (with_reducible first | exact HB.out | apply below_alloc | apply pw_below_drewN | apply below_drew1 | refine below_set ?_ GB12.out) | exact HB.out)⟩⟩
                                                  · rw [if_neg c59] at H
                                                    exact absurd H (by simp)
                                                · rw [if_neg c58] at H
                                                  exact absurd H (by simp)
                                              · rw [if_neg c57] at H
                                                have c57b0 : ((bt a1 (ji50)) == (bt a0 x26_3)) = false := beq_eq_false_iff_ne.mpr c57
                                                have c57b1 : ((bt a1 (ji50)) != (bt a0 x26_3)) = true := bne_iff_ne.mpr c57
                                                by_cases c63 : x10_5 ≤ x5_5
                                                · rw [if_pos c63] at H
                                                  have c63b0 : decide (x10_5 ≤ x5_5) = true := decide_eq_true c63
                                                  clear c63
                                                  have c64b0 := eq_true (of_decide_eq_true (by first | (with_reducible assumption) | assumption) : 0 ≤ (ji50))
                                                  by_cases c65 : (ji50) ≤ x10_5
                                                  · rw [if_pos c65] at H
                                                    have c65b0 := eq_true c65
                                                    have c65b1 : decide ((ji50) ≤ x10_5) = true := decide_eq_true c65
                                                    clear c65
                                                    by_cases c66 : x10_5 ≤ (a1.size : Int)
                                                    · rw [if_pos c66] at H
                                                      have c66b0 := eq_true c66
                                                      have c66b1 : decide (x10_5 ≤ (a1.size : Int)) = true := decide_eq_true c66
                                                      clear c66
                                                      by_cases c67 : 0 ≤ x26_3
                                                      · rw [if_pos c67] at H
                                                        have c67b0 := eq_true c67
                                                        have c67b1 : decide (0 ≤ x26_3) = true := decide_eq_true c67
                                                        clear c67
                                                        by_cases c68 : x26_3 ≤ (wrap64 (x26_3 + 1))
                                                        · rw [if_pos c68] at H
                                                          have c68b0 := eq_true c68
                                                          have c68b1 : decide (x26_3 ≤ (wrap64 (x26_3 + 1))) = true := decide_eq_true c68
                                                          by_cases c69 : (wrap64 (x26_3 + 1)) ≤ (a0.size : Int)
                                                          · rw [if_pos c69] at H
                                                            have c69b0 := eq_true c69
                                                            have c69b1 : decide ((wrap64 (x26_3 + 1)) ≤ (a0.size : Int)) = true := decide_eq_true c69
                                                            replace H := Option.bind_eq_some_iff.mp H
                                                            obtain ⟨t119, A700, H⟩ := H
                                                            replace H : (if 0 ≤ x10_5 then (if x10_5 < (x6_5.length : Int) then (store_Match.l2 k5 a0 a1 x5_5 (x6_5.set (x10_5 : Int).toNat t119) x26_3 (bt a0 x26_3) ji50 (a0.size : Int) x26_3) else (none)) else (none)) = some r := H
                                                            have A70 := Aside0.mk A700
                                                            clear A700
                                                            by_cases c71 : 0 ≤ x10_5
                                                            · rw [if_pos c71] at H
                                                              have c71b0 : decide (0 ≤ x10_5) = true := decide_eq_true c71
                                                              clear c71
                                                              by_cases c72 : x10_5 < (x6_5.length : Int)
                                                              · rw [if_pos c72] at H
                                                                have c72b0 : decide (x10_5 < (x6_5.length : Int)) = true := decide_eq_true c72
                                                                clear c72
                                                                obtain ⟨y120, hy120⟩ : ∃ y_ : List Bool, y_ = (x6_5.set (x10_5 : Int).toNat t119) := ⟨_, rfl⟩
                                                                replace H : (store_Match.l2 k5 a0 a1 x5_5 y120 x26_3 (bt a0 x26_3) ji50 (a0.size : Int) x26_3) = some r := by first | (rw [hy120]; with_reducible exact H) | (have H2_ := (Option.bind_some _ _).symm.trans H; rw [hy120]; with_reducible exact H2_) | (have H2_ := (Option.bind_some _ _).symm.trans H; with_reducible exact H2_) | with_reducible exact H | (rw [hy120]; exact H) | exact H
                                                                have Ny120 := Aside0.mk hy120
                                                                clear hy120
                                                                have H' := Aside0.mk H
                                                                clear H
                                                                have p53 : 0 ≤ ((ji50) : Int) := of_decide_eq_true (by first | (with_reducible assumption) | assumption)
                                                                have q53 : (ji50) < (a1.size : Int) := of_decide_eq_true (by first | (with_reducible assumption) | assumption)
                                                                have hx53 := bt_at a1 (ji50)
                                                                replace p53 := eq_true p53
                                                                replace q53 := eq_true q53
                                                                try go_wp2
                                                                have n0_ := Aside0.mk (Kd.R_drew HO_6.out)
                                                                have n1_ := Aside0.mk (below_drew1 HB.out)
                                                                clear HO_6
                                                                clear HB
                                                                have HO_6 := n0_
                                                                have HB := n1_
                                                                clear n0_ n1_
                                                                have p117 : 0 ≤ ((ji50) : Int) := of_decide_eq_true (by first | (with_reducible assumption) | assumption)
                                                                have q117 : (ji50) < (x6_5.length : Int) := of_decide_eq_true (by first | (with_reducible assumption) | assumption)
                                                                obtain ⟨ad117, e117, hx117_0⟩ := Kd.at_bool (Kd.R_reads' HO_6.out).2.2 (ji50) p117 q117
                                                                (try rw [← Nbq55.out] at hx117_0)
                                                                obtain rfl : (⟨go12, 0, none⟩ : Addr) = ad117 := (by injection e117)
                                                                (first | simp only [add_plain] at hx117_0 | simp only [add_at] at hx117_0 | simp only [Addr.add, Nat.zero_add] at hx117_0 | skip)
                                                                (try simp only [Int.toNat_natCast] at hx117_0)
                                                                replace p117 := eq_true p117
                                                                replace q117 := eq_true q117
                                                                refine start_ (n := 32) (S := fun w' => w'.cell? ⟨go12, ((ji50)).toNat, none⟩ = some (.bool true)) (ds := [31]) #[false, false, false, false, false, false, false, false, false, false, false, false, false, false, false, false, false, false, false, false, false, false, false, false, false, false, false, false, false, false, false, false] (by kernel_rfl) rfl rfl (hx117_0) (fun hHeld => ?_); refine with_tabW store_Match.tab20 store_Match.bits20 (fun HT_ HW_ => ?_)
                                                                generalize wr.drew = w74 at HO_6 HB hx117_0 hHeld ⊢
                                                                refine pure_ (i := 0) (N := some 79) (v := ?_) (a' := ?_) #[true, false, false, false, false, false, false, false, false, false, false, false, false, false, false, false, false, false, false, false, false, false, false, false, false, false, false, false, false, false, false, false] rfl rfl (any_of HT_.out (by kernel_rfl)) (fun _ _ _ h => h) (Or.inl ⟨by rfl, ?_⟩) ?_ ?_
                                                                rotate_left
                                                                · intro w'
                                                                  go_simp
                                                                  with_reducible rfl
                                                                rotate_left
                                                                · simp only [Act.put, List.setIfInBounds_toArray, List.set_cons_zero, List.set_cons_succ, i64_w, i32_w]
                                                                  rfl
                                                                refine pure_ (i := 1) (N := some 80) (v := ?_) (a' := ?_) #[true, true, false, false, false, false, false, false, false, false, false, false, false, false, false, false, false, false, false, false, false, false, false, false, false, false, false, false, false, false, false, false] rfl rfl (any_of HT_.out (by kernel_rfl)) (fun _ _ _ h => h) (Or.inl ⟨by rfl, ?_⟩) ?_ ?_
                                                                rotate_left
                                                                · intro w'
                                                                  go_simp
                                                                  with_reducible rfl
                                                                rotate_left
                                                                · simp only [Act.put, List.setIfInBounds_toArray, List.set_cons_zero, List.set_cons_succ, i64_w, i32_w]
                                                                  rfl
                                                                refine pure_ (i := 2) (N := some 81) (v := ?_) (a' := ?_) #[true, true, true, false, false, false, false, false, false, false, false, false, false, false, false, false, false, false, false, false, false, false, false, false, false, false, false, false, false, false, false, false] rfl rfl (any_of HT_.out (by kernel_rfl)) (fun _ _ _ h => h) (Or.inl ⟨by rfl, ?_⟩) ?_ ?_
                                                                rotate_left
                                                                · intro w'
                                                                  go_simp
                                                                  with_reducible rfl
                                                                rotate_left
                                                                · simp only [Act.put, List.setIfInBounds_toArray, List.set_cons_zero, List.set_cons_succ, i64_w, i32_w]
                                                                  rfl
                                                                refine pure_ (i := 3) (N := some 82) (v := ?_) (a' := ?_) #[true, true, true, true, false, false, false, false, false, false, false, false, false, false, false, false, false, false, false, false, false, false, false, false, false, false, false, false, false, false, false, false] rfl rfl (any_of HT_.out (by kernel_rfl)) (fun _ _ _ h => h) (Or.inl ⟨by rfl, ?_⟩) ?_ ?_
                                                                rotate_left
                                                                · intro w'
                                                                  go_simp
                                                                  with_reducible rfl
                                                                rotate_left
                                                                · simp only [Act.put, List.setIfInBounds_toArray, List.set_cons_zero, List.set_cons_succ, i64_w, i32_w]
                                                                  rfl
                                                                refine pure_ (i := 4) (N := some 83) (v := ?_) (a' := ?_) #[true, true, true, true, true, false, false, false, false, false, false, false, false, false, false, false, false, false, false, false, false, false, false, false, false, false, false, false, false, false, false, false] rfl rfl (any_of HT_.out (by kernel_rfl)) (fun _ _ _ h => h) (Or.inl ⟨by rfl, ?_⟩) ?_ ?_
                                                                rotate_left
                                                                · intro w'
                                                                  go_simp
                                                                  with_reducible rfl
                                                                rotate_left
                                                                · simp only [Act.put, List.setIfInBounds_toArray, List.set_cons_zero, List.set_cons_succ, i64_w, i32_w]
                                                                  rfl
                                                                refine pure_ (i := 5) (N := some 84) (v := ?_) (a' := ?_) #[true, true, true, true, true, true, false, false, false, false, false, false, false, false, false, false, false, false, false, false, false, false, false, false, false, false, false, false, false, false, false, false] rfl rfl (any_of HT_.out (by kernel_rfl)) (fun _ _ _ h => h) (Or.inl ⟨by rfl, ?_⟩) ?_ ?_
                                                                rotate_left
                                                                · intro w'
                                                                  go_simp
                                                                  with_reducible rfl
                                                                rotate_left
                                                                · simp only [Act.put, List.setIfInBounds_toArray, List.set_cons_zero, List.set_cons_succ, i64_w, i32_w]
                                                                  rfl
                                                                refine take_ (i := 6) (N := some 85) (v := ?_) (a' := ?_) #[true, true, true, true, true, true, true, false, false, false, false, false, false, false, false, false, false, false, false, false, false, false, false, false, false, false, false, false, false, false, false, false] rfl rfl (take_ofW HT_.out HW_.out (by kernel_rfl)) (fun _ _ _ h => h) (Or.inl ⟨by rfl, ?_⟩) hHeld ?_ ?_
                                                                rotate_left
                                                                · intro w' s0
                                                                  go_simp
                                                                  with_reducible rfl
                                                                rotate_left
                                                                · simp only [Act.put, List.setIfInBounds_toArray, List.set_cons_zero, List.set_cons_succ, i64_w, i32_w]
                                                                  rfl
                                                                refine pure_ (i := 7) (N := some 86) (v := ?_) (a' := ?_) #[true, true, true, true, true, true, true, true, false, false, false, false, false, false, false, false, false, false, false, false, false, false, false, false, false, false, false, false, false, false, false, false] rfl rfl (any_of HT_.out (by kernel_rfl)) (fun _ _ _ h => h) (Or.inl ⟨by rfl, ?_⟩) ?_ ?_
                                                                rotate_left
                                                                · intro w'
                                                                  go_simp
                                                                  with_reducible rfl
                                                                rotate_left
                                                                · simp only [Act.put, List.setIfInBounds_toArray, List.set_cons_zero, List.set_cons_succ, i64_w, i32_w]
                                                                  rfl
                                                                refine pure_ (i := 8) (N := some 87) (v := ?_) (a' := ?_) #[true, true, true, true, true, true, true, true, true, false, false, false, false, false, false, false, false, false, false, false, false, false, false, false, false, false, false, false, false, false, false, false] rfl rfl (any_of HT_.out (by kernel_rfl)) (fun _ _ _ h => h) (Or.inl ⟨by rfl, ?_⟩) ?_ ?_
                                                                rotate_left
                                                                · intro w'
                                                                  go_simp
                                                                  with_reducible rfl
                                                                rotate_left
                                                                · simp only [Act.put, List.setIfInBounds_toArray, List.set_cons_zero, List.set_cons_succ, i64_w, i32_w]
                                                                  rfl
                                                                refine pure_ (i := 9) (N := some 88) (v := ?_) (a' := ?_) #[true, true, true, true, true, true, true, true, true, true, false, false, false, false, false, false, false, false, false, false, false, false, false, false, false, false, false, false, false, false, false, false] rfl rfl (any_of HT_.out (by kernel_rfl)) (fun _ _ _ h => h) (Or.inl ⟨by rfl, ?_⟩) ?_ ?_
                                                                rotate_left
                                                                · intro w'
                                                                  go_simp
                                                                  with_reducible rfl
                                                                rotate_left
                                                                · simp only [Act.put, List.setIfInBounds_toArray, List.set_cons_zero, List.set_cons_succ, i64_w, i32_w]
                                                                  rfl
                                                                refine pure_ (i := 10) (N := some 89) (v := ?_) (a' := ?_) #[true, true, true, true, true, true, true, true, true, true, true, false, false, false, false, false, false, false, false, false, false, false, false, false, false, false, false, false, false, false, false, false] rfl rfl (any_of HT_.out (by kernel_rfl)) (fun _ _ _ h => h) (Or.inl ⟨by rfl, ?_⟩) ?_ ?_
                                                                rotate_left
                                                                · intro w'
                                                                  go_simp
                                                                  with_reducible rfl
                                                                rotate_left
                                                                · simp only [Act.put, List.setIfInBounds_toArray, List.set_cons_zero, List.set_cons_succ, i64_w, i32_w]
                                                                  rfl
                                                                refine pure_ (i := 11) (N := some 90) (v := ?_) (a' := ?_) #[true, true, true, true, true, true, true, true, true, true, true, true, false, false, false, false, false, false, false, false, false, false, false, false, false, false, false, false, false, false, false, false] rfl rfl (any_of HT_.out (by kernel_rfl)) (fun _ _ _ h => h) (Or.inl ⟨by rfl, ?_⟩) ?_ ?_
                                                                rotate_left
                                                                · intro w'
                                                                  go_simp
                                                                  with_reducible rfl
                                                                rotate_left
                                                                · simp only [Act.put, List.setIfInBounds_toArray, List.set_cons_zero, List.set_cons_succ, i64_w, i32_w]
                                                                  rfl
                                                                refine pure_ (i := 12) (N := some 91) (v := ?_) (a' := ?_) #[true, true, true, true, true, true, true, true, true, true, true, true, true, false, false, false, false, false, false, false, false, false, false, false, false, false, false, false, false, false, false, false] rfl rfl (any_of HT_.out (by kernel_rfl)) (fun _ _ _ h => h) (Or.inl ⟨by rfl, ?_⟩) ?_ ?_
                                                                rotate_left
                                                                · intro w'
                                                                  go_simp
                                                                  with_reducible rfl
                                                                rotate_left
                                                                · simp only [Act.put, List.setIfInBounds_toArray, List.set_cons_zero, List.set_cons_succ, i64_w, i32_w]
                                                                  rfl
                                                                refine pure_ (i := 13) (N := some 92) (v := ?_) (a' := ?_) #[true, true, true, true, true, true, true, true, true, true, true, true, true, true, false, false, false, false, false, false, false, false, false, false, false, false, false, false, false, false, false, false] rfl rfl (any_of HT_.out (by kernel_rfl)) (fun _ _ _ h => h) (Or.inl ⟨by rfl, ?_⟩) ?_ ?_
                                                                rotate_left
                                                                · intro w'
                                                                  go_simp
                                                                  with_reducible rfl
                                                                rotate_left
                                                                · simp only [Act.put, List.setIfInBounds_toArray, List.set_cons_zero, List.set_cons_succ, i64_w, i32_w]
                                                                  rfl
                                                                refine pure_ (i := 14) (N := some 93) (v := ?_) (a' := ?_) #[true, true, true, true, true, true, true, true, true, true, true, true, true, true, true, false, false, false, false, false, false, false, false, false, false, false, false, false, false, false, false, false] rfl rfl (any_of HT_.out (by kernel_rfl)) (fun _ _ _ h => h) (Or.inl ⟨by rfl, ?_⟩) ?_ ?_
                                                                rotate_left
                                                                · intro w'
                                                                  go_simp
                                                                  with_reducible rfl
                                                                rotate_left
                                                                · simp only [Act.put, List.setIfInBounds_toArray, List.set_cons_zero, List.set_cons_succ, i64_w, i32_w]
                                                                  rfl
                                                                refine pure_ (i := 15) (N := some 94) (v := ?_) (a' := ?_) #[true, true, true, true, true, true, true, true, true, true, true, true, true, true, true, true, false, false, false, false, false, false, false, false, false, false, false, false, false, false, false, false] rfl rfl (any_of HT_.out (by kernel_rfl)) (fun _ _ _ h => h) (Or.inl ⟨by rfl, ?_⟩) ?_ ?_
                                                                rotate_left
                                                                · intro w'
                                                                  go_simp
                                                                  with_reducible rfl
                                                                rotate_left
                                                                · simp only [Act.put, List.setIfInBounds_toArray, List.set_cons_zero, List.set_cons_succ, i64_w, i32_w]
                                                                  rfl
                                                                refine pure_ (i := 16) (N := some 95) (v := ?_) (a' := ?_) #[true, true, true, true, true, true, true, true, true, true, true, true, true, true, true, true, true, false, false, false, false, false, false, false, false, false, false, false, false, false, false, false] rfl rfl (any_of HT_.out (by kernel_rfl)) (fun _ _ _ h => h) (Or.inl ⟨by rfl, ?_⟩) ?_ ?_
                                                                rotate_left
                                                                · intro w'
                                                                  go_simp
                                                                  with_reducible rfl
                                                                rotate_left
                                                                · simp only [Act.put, List.setIfInBounds_toArray, List.set_cons_zero, List.set_cons_succ, i64_w, i32_w]
                                                                  rfl
                                                                refine pure_ (i := 17) (N := some 96) (v := ?_) (a' := ?_) #[true, true, true, true, true, true, true, true, true, true, true, true, true, true, true, true, true, true, false, false, false, false, false, false, false, false, false, false, false, false, false, false] rfl rfl (any_of HT_.out (by kernel_rfl)) (fun _ _ _ h => h) (Or.inl ⟨by rfl, ?_⟩) ?_ ?_
                                                                rotate_left
                                                                · intro w'
                                                                  go_simp
                                                                  with_reducible rfl
                                                                rotate_left
                                                                · simp only [Act.put, List.setIfInBounds_toArray, List.set_cons_zero, List.set_cons_succ, i64_w, i32_w]
                                                                  rfl
                                                                refine pure_ (i := 18) (N := some 97) (v := ?_) (a' := ?_) #[true, true, true, true, true, true, true, true, true, true, true, true, true, true, true, true, true, true, true, false, false, false, false, false, false, false, false, false, false, false, false, false] rfl rfl (any_of HT_.out (by kernel_rfl)) (fun _ _ _ h => h) (Or.inl ⟨by rfl, ?_⟩) ?_ ?_
                                                                rotate_left
                                                                · intro w'
                                                                  go_simp
                                                                  with_reducible rfl
                                                                rotate_left
                                                                · simp only [Act.put, List.setIfInBounds_toArray, List.set_cons_zero, List.set_cons_succ, i64_w, i32_w]
                                                                  rfl
                                                                refine pure_ (i := 19) (N := some 98) (v := ?_) (a' := ?_) #[true, true, true, true, true, true, true, true, true, true, true, true, true, true, true, true, true, true, true, true, false, false, false, false, false, false, false, false, false, false, false, false] rfl rfl (any_of HT_.out (by kernel_rfl)) (fun _ _ _ h => h) (Or.inl ⟨by rfl, ?_⟩) ?_ ?_
                                                                rotate_left
                                                                · intro w'
                                                                  go_simp
                                                                  with_reducible rfl
                                                                rotate_left
                                                                · simp only [Act.put, List.setIfInBounds_toArray, List.set_cons_zero, List.set_cons_succ, i64_w, i32_w]
                                                                  rfl
                                                                refine pure_ (i := 20) (N := some 99) (v := ?_) (a' := ?_) #[true, true, true, true, true, true, true, true, true, true, true, true, true, true, true, true, true, true, true, true, true, false, false, false, false, false, false, false, false, false, false, false] rfl rfl (any_of HT_.out (by kernel_rfl)) (fun _ _ _ h => h) (Or.inl ⟨by rfl, ?_⟩) ?_ ?_
                                                                rotate_left
                                                                · intro w'
                                                                  go_simp
                                                                  with_reducible rfl
                                                                rotate_left
                                                                · simp only [Act.put, List.setIfInBounds_toArray, List.set_cons_zero, List.set_cons_succ, i64_w, i32_w]
                                                                  rfl
                                                                refine pure_ (i := 21) (N := some 100) (v := ?_) (a' := ?_) #[true, true, true, true, true, true, true, true, true, true, true, true, true, true, true, true, true, true, true, true, true, true, false, false, false, false, false, false, false, false, false, false] rfl rfl (any_of HT_.out (by kernel_rfl)) (fun _ _ _ h => h) (Or.inl ⟨by rfl, ?_⟩) ?_ ?_
                                                                rotate_left
                                                                · intro w'
                                                                  go_simp
                                                                  with_reducible rfl
                                                                rotate_left
                                                                · simp only [Act.put, List.setIfInBounds_toArray, List.set_cons_zero, List.set_cons_succ, i64_w, i32_w]
                                                                  rfl
                                                                refine pure_ (i := 22) (N := some 101) (v := ?_) (a' := ?_) #[true, true, true, true, true, true, true, true, true, true, true, true, true, true, true, true, true, true, true, true, true, true, true, false, false, false, false, false, false, false, false, false] rfl rfl (any_of HT_.out (by kernel_rfl)) (fun _ _ _ h => h) (Or.inl ⟨by rfl, ?_⟩) ?_ ?_
                                                                rotate_left
                                                                · intro w'
                                                                  go_simp
                                                                  with_reducible rfl
                                                                rotate_left
                                                                · simp only [Act.put, List.setIfInBounds_toArray, List.set_cons_zero, List.set_cons_succ, i64_w, i32_w]
                                                                  rfl
                                                                refine pure_ (i := 23) (N := some 102) (v := ?_) (a' := ?_) #[true, true, true, true, true, true, true, true, true, true, true, true, true, true, true, true, true, true, true, true, true, true, true, true, false, false, false, false, false, false, false, false] rfl rfl (any_of HT_.out (by kernel_rfl)) (fun _ _ _ h => h) (Or.inl ⟨by rfl, ?_⟩) ?_ ?_
                                                                rotate_left
                                                                · intro w'
                                                                  go_simp
                                                                  with_reducible rfl
                                                                rotate_left
                                                                · simp only [Act.put, List.setIfInBounds_toArray, List.set_cons_zero, List.set_cons_succ, i64_w, i32_w]
                                                                  rfl
                                                                refine pure_ (i := 24) (N := some 103) (v := ?_) (a' := ?_) #[true, true, true, true, true, true, true, true, true, true, true, true, true, true, true, true, true, true, true, true, true, true, true, true, true, false, false, false, false, false, false, false] rfl rfl (any_of HT_.out (by kernel_rfl)) (fun _ _ _ h => h) (Or.inl ⟨by rfl, ?_⟩) ?_ ?_
                                                                rotate_left
                                                                · intro w'
                                                                  go_simp
                                                                  with_reducible rfl
                                                                rotate_left
                                                                · simp only [Act.put, List.setIfInBounds_toArray, List.set_cons_zero, List.set_cons_succ, i64_w, i32_w]
                                                                  rfl
                                                                refine pure_ (i := 25) (N := some 104) (v := ?_) (a' := ?_) #[true, true, true, true, true, true, true, true, true, true, true, true, true, true, true, true, true, true, true, true, true, true, true, true, true, true, false, false, false, false, false, false] rfl rfl (any_of HT_.out (by kernel_rfl)) (fun _ _ _ h => h) (Or.inl ⟨by rfl, ?_⟩) ?_ ?_
                                                                rotate_left
                                                                · intro w'
                                                                  go_simp
                                                                  with_reducible rfl
                                                                rotate_left
                                                                · simp only [Act.put, List.setIfInBounds_toArray, List.set_cons_zero, List.set_cons_succ, i64_w, i32_w]
                                                                  rfl
                                                                refine one_ (i := 26) (N := some 105) #[true, true, true, true, true, true, true, true, true, true, true, true, true, true, true, true, true, true, true, true, true, true, true, true, true, true, true, false, false, false, false, false] rfl rfl (one_of HT_.out (by kernel_rfl)) (by decide) (fun K hK => ?_)
                                                                refine goes_ Try.func12 (by kernel_rfl) rfl #[.string (a1.extract ((ji50) : Int).toNat (x10_5 : Int).toNat), .string (a0.extract (x26_3 : Int).toNat ((wrap64 (x26_3 + 1)) : Int).toNat)] (by rfl) rfl rfl (by (try simp only [List.map_toArray, List.map_cons, List.map_nil]); first | done | (simp only [hji50]; rfl) | rfl | (simp only [List.length_drop, List.length_take]; rfl)) ?_
                                                                with_reducible refine (octet_Same.calls (a1.extract ((ji50) : Int).toNat (x10_5 : Int).toNat) (a0.extract (x26_3 : Int).toNat ((wrap64 (x26_3 + 1)) : Int).toNat) t119 _ A70.out).mono ?_
                                                                rintro e w75 ⟨rfl, hb⟩
                                                                have HS0_ := (hb.cell (World.block_lt_of_cell? _ _ (hHeld))).trans (hHeld)
                                                                refine ⟨_, rfl, ?_⟩
                                                                have n0_ := Aside0.mk (Kd.R_below (by (with_reducible repeat (first | apply Kd.R_alloc | apply Kd.R_drewN | apply Kd.R_drew)); exact HO_6.out) hb)
                                                                have n1_ := Aside0.mk (below_step (by repeat (first | (with_reducible first | exact HB.out | apply below_alloc | apply pw_below_drewN | apply below_drew1) | exact HB.out)) hb)
                                                                clear HO_6
                                                                clear HB
                                                                have HO_6 := n0_
                                                                have HB := n1_
                                                                clear n0_ n1_
                                                                (try clear hb)
                                                                (try clear hb2)
                                                                (try clear hk)
                                                                (try clear hi)
                                                                have p73 : 0 ≤ (x10_5 : Int) := of_decide_eq_true (by first | (with_reducible assumption) | assumption)
                                                                have q73 : (x10_5 : Int) < ((x6_5.length : Int) : Int) := of_decide_eq_true (by first | (with_reducible assumption) | assumption)
                                                                obtain ⟨hx73_0, hf73_0⟩ := Kd.R_celln false HO_6.out (x10_5 : Int) p73 q73
                                                                replace p73 := eq_true p73
                                                                replace q73 := eq_true q73
                                                                have HP76 := Kd.R_putn HO_6.out (x10_5 : Int) t119
                                                                rw [← Ny120.out] at HP76
                                                                have HQ76 := Aside0.mk HP76
                                                                clear HP76
                                                                refine hK.out _ _ (HS0_) (fun hHeld => ?_)
                                                                clear hK K
                                                                refine norm_ (a' := ?_) ?_ ?_
                                                                rotate_left
                                                                · show Act.put _ (some 105) _ = _
                                                                  simp only [Act.put, List.setIfInBounds_toArray, List.set_cons_zero, List.set_cons_succ, i64_w, i32_w]
                                                                  rfl
                                                                refine pure_ (i := 27) (N := some 106) (v := ?_) (a' := ?_) #[true, true, true, true, true, true, true, true, true, true, true, true, true, true, true, true, true, true, true, true, true, true, true, true, true, true, true, true, false, false, false, false] rfl rfl (any_of HT_.out (by kernel_rfl)) (fun _ _ _ h => h) (Or.inl ⟨by rfl, ?_⟩) ?_ ?_
                                                                rotate_left
                                                                · intro w'
                                                                  go_simp
                                                                  with_reducible rfl
                                                                rotate_left
                                                                · simp only [Act.put, List.setIfInBounds_toArray, List.set_cons_zero, List.set_cons_succ, i64_w, i32_w]
                                                                  rfl
                                                                refine pure_ (i := 28) (N := some 107) (v := ?_) (a' := ?_) #[true, true, true, true, true, true, true, true, true, true, true, true, true, true, true, true, true, true, true, true, true, true, true, true, true, true, true, true, true, false, false, false] rfl rfl (any_of HT_.out (by kernel_rfl)) (fun _ _ _ h => h) (Or.inl ⟨by rfl, ?_⟩) ?_ ?_
                                                                rotate_left
                                                                · intro w'
                                                                  go_simp
                                                                  with_reducible rfl
                                                                rotate_left
                                                                · simp only [Act.put, List.setIfInBounds_toArray, List.set_cons_zero, List.set_cons_succ, i64_w, i32_w]
                                                                  rfl
                                                                refine pure_ (i := 29) (N := some 108) (v := ?_) (a' := ?_) #[true, true, true, true, true, true, true, true, true, true, true, true, true, true, true, true, true, true, true, true, true, true, true, true, true, true, true, true, true, true, false, false] rfl rfl (any_of HT_.out (by kernel_rfl)) (fun _ _ _ h => h) (Or.inl ⟨by rfl, ?_⟩) ?_ ?_
                                                                rotate_left
                                                                · intro w'
                                                                  go_simp
                                                                  with_reducible rfl
                                                                rotate_left
                                                                · simp only [Act.put, List.setIfInBounds_toArray, List.set_cons_zero, List.set_cons_succ, i64_w, i32_w]
                                                                  rfl
                                                                refine pure_ (i := 30) (N := some 109) (v := ?_) (a' := ?_) #[true, true, true, true, true, true, true, true, true, true, true, true, true, true, true, true, true, true, true, true, true, true, true, true, true, true, true, true, true, true, true, false] rfl rfl (any_of HT_.out (by kernel_rfl)) (fun _ _ _ h => h) (Or.inl ⟨by rfl, ?_⟩) ?_ ?_
                                                                rotate_left
                                                                · intro w'
                                                                  go_simp
                                                                  with_reducible rfl
                                                                rotate_left
                                                                · simp only [Act.put, List.setIfInBounds_toArray, List.set_cons_zero, List.set_cons_succ, i64_w, i32_w]
                                                                  rfl
                                                                refine last_ (i := 31) (N := none) #[true, true, true, true, true, true, true, true, true, true, true, true, true, true, true, true, true, true, true, true, true, true, true, true, true, true, true, true, true, true, true, true] rfl rfl (one_of HT_.out (by kernel_rfl)) (by decide) (fun K hK => ?_)
                                                                refine skip_ (w1 := ?_) (by rfl) rfl ?_ ?_
                                                                rotate_left
                                                                · go_simp
                                                                  rfl
                                                                refine hK.out _ _ ?_
                                                                clear hK K
                                                                refine done_ (done_of HT_.out (by kernel_rfl)) ?_
                                                                try go_wp2
                                                                (try simp only [← hl6_5])
                                                                go_roundg k5
                                                                case measure => have := HJ2.out; have := HJ5.out; have := HK3.out; have := HJ20.out; have := HK5.out; omega
                                                                case rel => exact ⟨(y120), (ji50), (by first | rfl | (simp; done) | (simp only [← hji50] <;> (first | rfl | simp)) | (simp [*]; done)), H', ⟨by have := HJ2.out; have := HJ5.out; have := HK3.out; have := HJ20.out; have := HK5.out; omega⟩, ⟨by (try simp only [hl6_3]); (try simp only [hl6_5]); (with_reducible repeat (first | apply Kd.R_alloc | apply Kd.R_drewN | apply Kd.R_drew)); exact HQ76.out⟩, ⟨by repeat (first | (with_reducible first | exact HB.out | apply below_alloc | apply pw_below_drewN | apply below_drew1 | refine below_set ?_ GB12.out) | exact HB.out)⟩⟩
                                                              · rw [if_neg c72] at H
                                                                exact absurd H (by simp)
                                                            · rw [if_neg c71] at H
                                                              exact absurd H (by simp)
                                                          · rw [if_neg c69] at H
                                                            exact absurd H (by simp)
                                                        · rw [if_neg c68] at H
                                                          exact absurd H (by simp)
                                                      · rw [if_neg c67] at H
                                                        exact absurd H (by simp)
                                                    · rw [if_neg c66] at H
                                                      exact absurd H (by simp)
                                                  · rw [if_neg c65] at H
                                                    exact absurd H (by simp)
                                                · rw [if_neg c63] at H
                                                  have c63b0 : decide (x10_5 ≤ x5_5) = false := decide_eq_false c63
                                                  clear c63
                                                  by_cases c77 : 0 ≤ x10_5
                                                  · rw [if_pos c77] at H
                                                    have c77b0 : decide (0 ≤ x10_5) = true := decide_eq_true c77
                                                    clear c77
                                                    by_cases c78 : x10_5 < (x6_5.length : Int)
                                                    · rw [if_pos c78] at H
                                                      have c78b0 : decide (x10_5 < (x6_5.length : Int)) = true := decide_eq_true c78
                                                      clear c78
                                                      obtain ⟨y121, hy121⟩ : ∃ y_ : List Bool, y_ = (x6_5.set (x10_5 : Int).toNat false) := ⟨_, rfl⟩
                                                      replace H : (store_Match.l2 k5 a0 a1 x5_5 y121 x26_3 (bt a0 x26_3) ji50 (a0.size : Int) x26_3) = some r := by first | (rw [hy121]; with_reducible exact H) | (have H2_ := (Option.bind_some _ _).symm.trans H; rw [hy121]; with_reducible exact H2_) | (have H2_ := (Option.bind_some _ _).symm.trans H; with_reducible exact H2_) | with_reducible exact H | (rw [hy121]; exact H) | exact H
                                                      have Ny121 := Aside0.mk hy121
                                                      clear hy121
                                                      have H' := Aside0.mk H
                                                      clear H
                                                      have p53 : 0 ≤ ((ji50) : Int) := of_decide_eq_true (by first | (with_reducible assumption) | assumption)
                                                      have q53 : (ji50) < (a1.size : Int) := of_decide_eq_true (by first | (with_reducible assumption) | assumption)
                                                      have hx53 := bt_at a1 (ji50)
                                                      replace p53 := eq_true p53
                                                      replace q53 := eq_true q53
                                                      try go_wp2
                                                      have n0_ := Aside0.mk (Kd.R_drew HO_6.out)
                                                      have n1_ := Aside0.mk (below_drew1 HB.out)
                                                      clear HO_6
                                                      clear HB
                                                      have HO_6 := n0_
                                                      have HB := n1_
                                                      clear n0_ n1_
                                                      have p117 : 0 ≤ ((ji50) : Int) := of_decide_eq_true (by first | (with_reducible assumption) | assumption)
                                                      have q117 : (ji50) < (x6_5.length : Int) := of_decide_eq_true (by first | (with_reducible assumption) | assumption)
                                                      obtain ⟨ad117, e117, hx117_0⟩ := Kd.at_bool (Kd.R_reads' HO_6.out).2.2 (ji50) p117 q117
                                                      (try rw [← Nbq55.out] at hx117_0)
                                                      obtain rfl : (⟨go12, 0, none⟩ : Addr) = ad117 := (by injection e117)
                                                      (first | simp only [add_plain] at hx117_0 | simp only [add_at] at hx117_0 | simp only [Addr.add, Nat.zero_add] at hx117_0 | skip)
                                                      (try simp only [Int.toNat_natCast] at hx117_0)
                                                      replace p117 := eq_true p117
                                                      replace q117 := eq_true q117
                                                      have p79 : 0 ≤ (x10_5 : Int) := of_decide_eq_true (by first | (with_reducible assumption) | assumption)
                                                      have q79 : (x10_5 : Int) < ((x6_5.length : Int) : Int) := of_decide_eq_true (by first | (with_reducible assumption) | assumption)
                                                      obtain ⟨hx79_0, hf79_0⟩ := Kd.R_celln false HO_6.out (x10_5 : Int) p79 q79
                                                      replace p79 := eq_true p79
                                                      replace q79 := eq_true q79
                                                      have HP81 := Kd.R_putn HO_6.out (x10_5 : Int) false
                                                      rw [← Ny121.out] at HP81
                                                      have HQ81 := Aside0.mk HP81
                                                      clear HP81
                                                      refine start_ (n := 32) (S := fun w' => w'.cell? ⟨go12, ((ji50)).toNat, none⟩ = some (.bool true)) (ds := [31]) #[false, false, false, false, false, false, false, false, false, false, false, false, false, false, false, false, false, false, false, false, false, false, false, false, false, false, false, false, false, false, false, false] (by kernel_rfl) rfl rfl (hx117_0) (fun hHeld => ?_); refine with_tabW store_Match.tab20 store_Match.bits20 (fun HT_ HW_ => ?_)
                                                      generalize wr.drew = w80 at HO_6 HB HQ81 hf79_0 hx117_0 hx79_0 hHeld ⊢
                                                      refine pure_ (i := 0) (N := some 79) (v := ?_) (a' := ?_) #[true, false, false, false, false, false, false, false, false, false, false, false, false, false, false, false, false, false, false, false, false, false, false, false, false, false, false, false, false, false, false, false] rfl rfl (any_of HT_.out (by kernel_rfl)) (fun _ _ _ h => h) (Or.inl ⟨by rfl, ?_⟩) ?_ ?_
                                                      rotate_left
                                                      · intro w'
                                                        go_simp
                                                        with_reducible rfl
                                                      rotate_left
                                                      · simp only [Act.put, List.setIfInBounds_toArray, List.set_cons_zero, List.set_cons_succ, i64_w, i32_w]
                                                        rfl
                                                      refine pure_ (i := 1) (N := some 80) (v := ?_) (a' := ?_) #[true, true, false, false, false, false, false, false, false, false, false, false, false, false, false, false, false, false, false, false, false, false, false, false, false, false, false, false, false, false, false, false] rfl rfl (any_of HT_.out (by kernel_rfl)) (fun _ _ _ h => h) (Or.inl ⟨by rfl, ?_⟩) ?_ ?_
                                                      rotate_left
                                                      · intro w'
                                                        go_simp
                                                        with_reducible rfl
                                                      rotate_left
                                                      · simp only [Act.put, List.setIfInBounds_toArray, List.set_cons_zero, List.set_cons_succ, i64_w, i32_w]
                                                        rfl
                                                      refine pure_ (i := 2) (N := some 81) (v := ?_) (a' := ?_) #[true, true, true, false, false, false, false, false, false, false, false, false, false, false, false, false, false, false, false, false, false, false, false, false, false, false, false, false, false, false, false, false] rfl rfl (any_of HT_.out (by kernel_rfl)) (fun _ _ _ h => h) (Or.inl ⟨by rfl, ?_⟩) ?_ ?_
                                                      rotate_left
                                                      · intro w'
                                                        go_simp
                                                        with_reducible rfl
                                                      rotate_left
                                                      · simp only [Act.put, List.setIfInBounds_toArray, List.set_cons_zero, List.set_cons_succ, i64_w, i32_w]
                                                        rfl
                                                      refine pure_ (i := 3) (N := some 82) (v := ?_) (a' := ?_) #[true, true, true, true, false, false, false, false, false, false, false, false, false, false, false, false, false, false, false, false, false, false, false, false, false, false, false, false, false, false, false, false] rfl rfl (any_of HT_.out (by kernel_rfl)) (fun _ _ _ h => h) (Or.inl ⟨by rfl, ?_⟩) ?_ ?_
                                                      rotate_left
                                                      · intro w'
                                                        go_simp
                                                        with_reducible rfl
                                                      rotate_left
                                                      · simp only [Act.put, List.setIfInBounds_toArray, List.set_cons_zero, List.set_cons_succ, i64_w, i32_w]
                                                        rfl
                                                      refine pure_ (i := 4) (N := some 83) (v := ?_) (a' := ?_) #[true, true, true, true, true, false, false, false, false, false, false, false, false, false, false, false, false, false, false, false, false, false, false, false, false, false, false, false, false, false, false, false] rfl rfl (any_of HT_.out (by kernel_rfl)) (fun _ _ _ h => h) (Or.inl ⟨by rfl, ?_⟩) ?_ ?_
                                                      rotate_left
                                                      · intro w'
                                                        go_simp
                                                        with_reducible rfl
                                                      rotate_left
                                                      · simp only [Act.put, List.setIfInBounds_toArray, List.set_cons_zero, List.set_cons_succ, i64_w, i32_w]
                                                        rfl
                                                      refine pure_ (i := 5) (N := some 84) (v := ?_) (a' := ?_) #[true, true, true, true, true, true, false, false, false, false, false, false, false, false, false, false, false, false, false, false, false, false, false, false, false, false, false, false, false, false, false, false] rfl rfl (any_of HT_.out (by kernel_rfl)) (fun _ _ _ h => h) (Or.inl ⟨by rfl, ?_⟩) ?_ ?_
                                                      rotate_left
                                                      · intro w'
                                                        go_simp
                                                        with_reducible rfl
                                                      rotate_left
                                                      · simp only [Act.put, List.setIfInBounds_toArray, List.set_cons_zero, List.set_cons_succ, i64_w, i32_w]
                                                        rfl
                                                      refine take_ (i := 6) (N := some 85) (v := ?_) (a' := ?_) #[true, true, true, true, true, true, true, false, false, false, false, false, false, false, false, false, false, false, false, false, false, false, false, false, false, false, false, false, false, false, false, false] rfl rfl (take_ofW HT_.out HW_.out (by kernel_rfl)) (fun _ _ _ h => h) (Or.inl ⟨by rfl, ?_⟩) hHeld ?_ ?_
                                                      rotate_left
                                                      · intro w' s0
                                                        go_simp
                                                        with_reducible rfl
                                                      rotate_left
                                                      · simp only [Act.put, List.setIfInBounds_toArray, List.set_cons_zero, List.set_cons_succ, i64_w, i32_w]
                                                        rfl
                                                      refine pure_ (i := 7) (N := some 86) (v := ?_) (a' := ?_) #[true, true, true, true, true, true, true, true, false, false, false, false, false, false, false, false, false, false, false, false, false, false, false, false, false, false, false, false, false, false, false, false] rfl rfl (any_of HT_.out (by kernel_rfl)) (fun _ _ _ h => h) (Or.inl ⟨by rfl, ?_⟩) ?_ ?_
                                                      rotate_left
                                                      · intro w'
                                                        go_simp
                                                        with_reducible rfl
                                                      rotate_left
                                                      · simp only [Act.put, List.setIfInBounds_toArray, List.set_cons_zero, List.set_cons_succ, i64_w, i32_w]
                                                        rfl
                                                      refine pure_ (i := 8) (N := some 87) (v := ?_) (a' := ?_) #[true, true, true, true, true, true, true, true, true, false, false, false, false, false, false, false, false, false, false, false, false, false, false, false, false, false, false, false, false, false, false, false] rfl rfl (any_of HT_.out (by kernel_rfl)) (fun _ _ _ h => h) (Or.inl ⟨by rfl, ?_⟩) ?_ ?_
                                                      rotate_left
                                                      · intro w'
                                                        go_simp
                                                        with_reducible rfl
                                                      rotate_left
                                                      · simp only [Act.put, List.setIfInBounds_toArray, List.set_cons_zero, List.set_cons_succ, i64_w, i32_w]
                                                        rfl
                                                      refine pure_ (i := 9) (N := some 88) (v := ?_) (a' := ?_) #[true, true, true, true, true, true, true, true, true, true, false, false, false, false, false, false, false, false, false, false, false, false, false, false, false, false, false, false, false, false, false, false] rfl rfl (any_of HT_.out (by kernel_rfl)) (fun _ _ _ h => h) (Or.inl ⟨by rfl, ?_⟩) ?_ ?_
                                                      rotate_left
                                                      · intro w'
                                                        go_simp
                                                        with_reducible rfl
                                                      rotate_left
                                                      · simp only [Act.put, List.setIfInBounds_toArray, List.set_cons_zero, List.set_cons_succ, i64_w, i32_w]
                                                        rfl
                                                      refine pure_ (i := 10) (N := some 89) (v := ?_) (a' := ?_) #[true, true, true, true, true, true, true, true, true, true, true, false, false, false, false, false, false, false, false, false, false, false, false, false, false, false, false, false, false, false, false, false] rfl rfl (any_of HT_.out (by kernel_rfl)) (fun _ _ _ h => h) (Or.inl ⟨by rfl, ?_⟩) ?_ ?_
                                                      rotate_left
                                                      · intro w'
                                                        go_simp
                                                        with_reducible rfl
                                                      rotate_left
                                                      · simp only [Act.put, List.setIfInBounds_toArray, List.set_cons_zero, List.set_cons_succ, i64_w, i32_w]
                                                        rfl
                                                      refine pure_ (i := 11) (N := some 90) (v := ?_) (a' := ?_) #[true, true, true, true, true, true, true, true, true, true, true, true, false, false, false, false, false, false, false, false, false, false, false, false, false, false, false, false, false, false, false, false] rfl rfl (any_of HT_.out (by kernel_rfl)) (fun _ _ _ h => h) (Or.inl ⟨by rfl, ?_⟩) ?_ ?_
                                                      rotate_left
                                                      · intro w'
                                                        go_simp
                                                        with_reducible rfl
                                                      rotate_left
                                                      · simp only [Act.put, List.setIfInBounds_toArray, List.set_cons_zero, List.set_cons_succ, i64_w, i32_w]
                                                        rfl
                                                      refine pure_ (i := 12) (N := some 91) (v := ?_) (a' := ?_) #[true, true, true, true, true, true, true, true, true, true, true, true, true, false, false, false, false, false, false, false, false, false, false, false, false, false, false, false, false, false, false, false] rfl rfl (any_of HT_.out (by kernel_rfl)) (fun _ _ _ h => h) (Or.inl ⟨by rfl, ?_⟩) ?_ ?_
                                                      rotate_left
                                                      · intro w'
                                                        go_simp
                                                        with_reducible rfl
                                                      rotate_left
                                                      · simp only [Act.put, List.setIfInBounds_toArray, List.set_cons_zero, List.set_cons_succ, i64_w, i32_w]
                                                        rfl
                                                      refine pure_ (i := 13) (N := some 92) (v := ?_) (a' := ?_) #[true, true, true, true, true, true, true, true, true, true, true, true, true, true, false, false, false, false, false, false, false, false, false, false, false, false, false, false, false, false, false, false] rfl rfl (any_of HT_.out (by kernel_rfl)) (fun _ _ _ h => h) (Or.inl ⟨by rfl, ?_⟩) ?_ ?_
                                                      rotate_left
                                                      · intro w'
                                                        go_simp
                                                        with_reducible rfl
                                                      rotate_left
                                                      · simp only [Act.put, List.setIfInBounds_toArray, List.set_cons_zero, List.set_cons_succ, i64_w, i32_w]
                                                        rfl
                                                      refine pure_ (i := 14) (N := some 93) (v := ?_) (a' := ?_) #[true, true, true, true, true, true, true, true, true, true, true, true, true, true, true, false, false, false, false, false, false, false, false, false, false, false, false, false, false, false, false, false] rfl rfl (any_of HT_.out (by kernel_rfl)) (fun _ _ _ h => h) (Or.inl ⟨by rfl, ?_⟩) ?_ ?_
                                                      rotate_left
                                                      · intro w'
                                                        go_simp
                                                        with_reducible rfl
                                                      rotate_left
                                                      · simp only [Act.put, List.setIfInBounds_toArray, List.set_cons_zero, List.set_cons_succ, i64_w, i32_w]
                                                        rfl
                                                      refine pure_ (i := 15) (N := some 94) (v := ?_) (a' := ?_) #[true, true, true, true, true, true, true, true, true, true, true, true, true, true, true, true, false, false, false, false, false, false, false, false, false, false, false, false, false, false, false, false] rfl rfl (any_of HT_.out (by kernel_rfl)) (fun _ _ _ h => h) (Or.inl ⟨by rfl, ?_⟩) ?_ ?_
                                                      rotate_left
                                                      · intro w'
                                                        go_simp
                                                        with_reducible rfl
                                                      rotate_left
                                                      · simp only [Act.put, List.setIfInBounds_toArray, List.set_cons_zero, List.set_cons_succ, i64_w, i32_w]
                                                        rfl
                                                      refine pure_ (i := 16) (N := some 95) (v := undef) (a' := ?_) #[true, true, true, true, true, true, true, true, true, true, true, true, true, true, true, true, true, false, false, false, false, false, false, false, false, false, false, false, false, false, false, false] rfl rfl (any_of HT_.out (by kernel_rfl)) (fun _ _ _ h => h) (Or.inr ⟨by rfl, rfl⟩) ?_ ?_
                                                      rotate_left
                                                      · simp only [Act.put, List.setIfInBounds_toArray, List.set_cons_zero, List.set_cons_succ, i64_w, i32_w]
                                                        rfl
                                                      refine pure_ (i := 17) (N := some 96) (v := undef) (a' := ?_) #[true, true, true, true, true, true, true, true, true, true, true, true, true, true, true, true, true, true, false, false, false, false, false, false, false, false, false, false, false, false, false, false] rfl rfl (any_of HT_.out (by kernel_rfl)) (fun _ _ _ h => h) (Or.inr ⟨by rfl, rfl⟩) ?_ ?_
                                                      rotate_left
                                                      · simp only [Act.put, List.setIfInBounds_toArray, List.set_cons_zero, List.set_cons_succ, i64_w, i32_w]
                                                        rfl
                                                      refine pure_ (i := 18) (N := some 97) (v := undef) (a' := ?_) #[true, true, true, true, true, true, true, true, true, true, true, true, true, true, true, true, true, true, true, false, false, false, false, false, false, false, false, false, false, false, false, false] rfl rfl (any_of HT_.out (by kernel_rfl)) (fun _ _ _ h => h) (Or.inr ⟨by rfl, rfl⟩) ?_ ?_
                                                      rotate_left
                                                      · simp only [Act.put, List.setIfInBounds_toArray, List.set_cons_zero, List.set_cons_succ, i64_w, i32_w]
                                                        rfl
                                                      refine pure_ (i := 19) (N := some 98) (v := undef) (a' := ?_) #[true, true, true, true, true, true, true, true, true, true, true, true, true, true, true, true, true, true, true, true, false, false, false, false, false, false, false, false, false, false, false, false] rfl rfl (any_of HT_.out (by kernel_rfl)) (fun _ _ _ h => h) (Or.inr ⟨by rfl, rfl⟩) ?_ ?_
                                                      rotate_left
                                                      · simp only [Act.put, List.setIfInBounds_toArray, List.set_cons_zero, List.set_cons_succ, i64_w, i32_w]
                                                        rfl
                                                      refine pure_ (i := 20) (N := some 99) (v := undef) (a' := ?_) #[true, true, true, true, true, true, true, true, true, true, true, true, true, true, true, true, true, true, true, true, true, false, false, false, false, false, false, false, false, false, false, false] rfl rfl (any_of HT_.out (by kernel_rfl)) (fun _ _ _ h => h) (Or.inr ⟨by rfl, rfl⟩) ?_ ?_
                                                      rotate_left
                                                      · simp only [Act.put, List.setIfInBounds_toArray, List.set_cons_zero, List.set_cons_succ, i64_w, i32_w]
                                                        rfl
                                                      refine pure_ (i := 21) (N := some 100) (v := undef) (a' := ?_) #[true, true, true, true, true, true, true, true, true, true, true, true, true, true, true, true, true, true, true, true, true, true, false, false, false, false, false, false, false, false, false, false] rfl rfl (any_of HT_.out (by kernel_rfl)) (fun _ _ _ h => h) (Or.inr ⟨by rfl, rfl⟩) ?_ ?_
                                                      rotate_left
                                                      · simp only [Act.put, List.setIfInBounds_toArray, List.set_cons_zero, List.set_cons_succ, i64_w, i32_w]
                                                        rfl
                                                      refine pure_ (i := 22) (N := some 101) (v := undef) (a' := ?_) #[true, true, true, true, true, true, true, true, true, true, true, true, true, true, true, true, true, true, true, true, true, true, true, false, false, false, false, false, false, false, false, false] rfl rfl (any_of HT_.out (by kernel_rfl)) (fun _ _ _ h => h) (Or.inr ⟨by rfl, rfl⟩) ?_ ?_
                                                      rotate_left
                                                      · simp only [Act.put, List.setIfInBounds_toArray, List.set_cons_zero, List.set_cons_succ, i64_w, i32_w]
                                                        rfl
                                                      refine pure_ (i := 23) (N := some 102) (v := undef) (a' := ?_) #[true, true, true, true, true, true, true, true, true, true, true, true, true, true, true, true, true, true, true, true, true, true, true, true, false, false, false, false, false, false, false, false] rfl rfl (any_of HT_.out (by kernel_rfl)) (fun _ _ _ h => h) (Or.inr ⟨by rfl, rfl⟩) ?_ ?_
                                                      rotate_left
                                                      · simp only [Act.put, List.setIfInBounds_toArray, List.set_cons_zero, List.set_cons_succ, i64_w, i32_w]
                                                        rfl
                                                      refine pure_ (i := 24) (N := some 103) (v := undef) (a' := ?_) #[true, true, true, true, true, true, true, true, true, true, true, true, true, true, true, true, true, true, true, true, true, true, true, true, true, false, false, false, false, false, false, false] rfl rfl (any_of HT_.out (by kernel_rfl)) (fun _ _ _ h => h) (Or.inr ⟨by rfl, rfl⟩) ?_ ?_
                                                      rotate_left
                                                      · simp only [Act.put, List.setIfInBounds_toArray, List.set_cons_zero, List.set_cons_succ, i64_w, i32_w]
                                                        rfl
                                                      refine pure_ (i := 25) (N := some 104) (v := undef) (a' := ?_) #[true, true, true, true, true, true, true, true, true, true, true, true, true, true, true, true, true, true, true, true, true, true, true, true, true, true, false, false, false, false, false, false] rfl rfl (any_of HT_.out (by kernel_rfl)) (fun _ _ _ h => h) (Or.inr ⟨by rfl, rfl⟩) ?_ ?_
                                                      rotate_left
                                                      · simp only [Act.put, List.setIfInBounds_toArray, List.set_cons_zero, List.set_cons_succ, i64_w, i32_w]
                                                        rfl
                                                      refine pure_ (i := 26) (N := some 105) (v := undef) (a' := ?_) #[true, true, true, true, true, true, true, true, true, true, true, true, true, true, true, true, true, true, true, true, true, true, true, true, true, true, true, false, false, false, false, false] rfl rfl (any_of HT_.out (by kernel_rfl)) (fun _ _ _ h => h) (Or.inr ⟨by rfl, rfl⟩) ?_ ?_
                                                      rotate_left
                                                      · simp only [Act.put, List.setIfInBounds_toArray, List.set_cons_zero, List.set_cons_succ, i64_w, i32_w]
                                                        rfl
                                                      refine pure_ (i := 27) (N := some 106) (v := ?_) (a' := ?_) #[true, true, true, true, true, true, true, true, true, true, true, true, true, true, true, true, true, true, true, true, true, true, true, true, true, true, true, true, false, false, false, false] rfl rfl (any_of HT_.out (by kernel_rfl)) (fun _ _ _ h => h) (Or.inl ⟨by rfl, ?_⟩) ?_ ?_
                                                      rotate_left
                                                      · intro w'
                                                        go_simp
                                                        with_reducible rfl
                                                      rotate_left
                                                      · simp only [Act.put, List.setIfInBounds_toArray, List.set_cons_zero, List.set_cons_succ, i64_w, i32_w]
                                                        rfl
                                                      refine pure_ (i := 28) (N := some 107) (v := ?_) (a' := ?_) #[true, true, true, true, true, true, true, true, true, true, true, true, true, true, true, true, true, true, true, true, true, true, true, true, true, true, true, true, true, false, false, false] rfl rfl (any_of HT_.out (by kernel_rfl)) (fun _ _ _ h => h) (Or.inl ⟨by rfl, ?_⟩) ?_ ?_
                                                      rotate_left
                                                      · intro w'
                                                        go_simp
                                                        with_reducible rfl
                                                      rotate_left
                                                      · simp only [Act.put, List.setIfInBounds_toArray, List.set_cons_zero, List.set_cons_succ, i64_w, i32_w]
                                                        rfl
                                                      refine pure_ (i := 29) (N := some 108) (v := ?_) (a' := ?_) #[true, true, true, true, true, true, true, true, true, true, true, true, true, true, true, true, true, true, true, true, true, true, true, true, true, true, true, true, true, true, false, false] rfl rfl (any_of HT_.out (by kernel_rfl)) (fun _ _ _ h => h) (Or.inl ⟨by rfl, ?_⟩) ?_ ?_
                                                      rotate_left
                                                      · intro w'
                                                        go_simp
                                                        with_reducible rfl
                                                      rotate_left
                                                      · simp only [Act.put, List.setIfInBounds_toArray, List.set_cons_zero, List.set_cons_succ, i64_w, i32_w]
                                                        rfl
                                                      refine pure_ (i := 30) (N := some 109) (v := ?_) (a' := ?_) #[true, true, true, true, true, true, true, true, true, true, true, true, true, true, true, true, true, true, true, true, true, true, true, true, true, true, true, true, true, true, true, false] rfl rfl (any_of HT_.out (by kernel_rfl)) (fun _ _ _ h => h) (Or.inl ⟨by rfl, ?_⟩) ?_ ?_
                                                      rotate_left
                                                      · intro w'
                                                        go_simp
                                                        with_reducible rfl
                                                      rotate_left
                                                      · simp only [Act.put, List.setIfInBounds_toArray, List.set_cons_zero, List.set_cons_succ, i64_w, i32_w]
                                                        rfl
                                                      refine last_ (i := 31) (N := none) #[true, true, true, true, true, true, true, true, true, true, true, true, true, true, true, true, true, true, true, true, true, true, true, true, true, true, true, true, true, true, true, true] rfl rfl (one_of HT_.out (by kernel_rfl)) (by decide) (fun K hK => ?_)
                                                      refine skip_ (w1 := ?_) (by rfl) rfl ?_ ?_
                                                      rotate_left
                                                      · go_simp
                                                        rfl
                                                      refine hK.out _ _ ?_
                                                      clear hK K
                                                      refine done_ (done_of HT_.out (by kernel_rfl)) ?_
                                                      try go_wp2
                                                      (try simp only [← hl6_5])
                                                      go_roundg k5
                                                      case measure => have := HJ2.out; have := HJ5.out; have := HK3.out; have := HJ20.out; have := HK5.out; omega
                                                      case rel => exact ⟨(y121), (ji50), (by first | rfl | (simp; done) | (simp only [← hji50] <;> (first | rfl | simp)) | (simp [*]; done)), H', ⟨by have := HJ2.out; have := HJ5.out; have := HK3.out; have := HJ20.out; have := HK5.out; omega⟩, ⟨by (try simp only [hl6_3]); (try simp only [hl6_5]); (with_reducible repeat (first | apply Kd.R_alloc | apply Kd.R_drewN | apply Kd.R_drew)); exact HQ81.out⟩, ⟨by repeat (first | (with_reducible first | exact HB.out | apply below_alloc | apply pw_below_drewN | apply below_drew1 | refine below_set ?_ GB12.out) | exact HB.out)⟩⟩
                                                    · rw [if_neg c78] at H
                                                      exact absurd H (by simp)
                                                  · rw [if_neg c77] at H
                                                    exact absurd H (by simp)
                                            · replace c56 := Bool.eq_false_iff.mpr c56
                                              subst c56
                                              have H1 : (if 0 ≤ x10_5 then (if x10_5 < (x6_5.length : Int) then (store_Match.l2 k5 a0 a1 x5_5 (x6_5.set (x10_5 : Int).toNat false) x26_3 (bt a0 x26_3) ji50 (a0.size : Int) x26_3) else (none)) else (none)) = some r := by rw [if_neg (show ¬ (false = true) by decide)] at H; exact H
                                              clear H
                                              have H := H1
                                              clear H1
                                              by_cases c82 : 0 ≤ x10_5
                                              · rw [if_pos c82] at H
                                                have c82b0 : decide (0 ≤ x10_5) = true := decide_eq_true c82
                                                clear c82
                                                by_cases c83 : x10_5 < (x6_5.length : Int)
                                                · rw [if_pos c83] at H
                                                  have c83b0 : decide (x10_5 < (x6_5.length : Int)) = true := decide_eq_true c83
                                                  clear c83
                                                  obtain ⟨y122, hy122⟩ : ∃ y_ : List Bool, y_ = (x6_5.set (x10_5 : Int).toNat false) := ⟨_, rfl⟩
                                                  replace H : (store_Match.l2 k5 a0 a1 x5_5 y122 x26_3 (bt a0 x26_3) ji50 (a0.size : Int) x26_3) = some r := by first | (rw [hy122]; with_reducible exact H) | (have H2_ := (Option.bind_some _ _).symm.trans H; rw [hy122]; with_reducible exact H2_) | (have H2_ := (Option.bind_some _ _).symm.trans H; with_reducible exact H2_) | with_reducible exact H | (rw [hy122]; exact H) | exact H
                                                  have Ny122 := Aside0.mk hy122
                                                  clear hy122
                                                  have H' := Aside0.mk H
                                                  clear H
                                                  have p53 : 0 ≤ ((ji50) : Int) := of_decide_eq_true (by first | (with_reducible assumption) | assumption)
                                                  have q53 : (ji50) < (a1.size : Int) := of_decide_eq_true (by first | (with_reducible assumption) | assumption)
                                                  have hx53 := bt_at a1 (ji50)
                                                  replace p53 := eq_true p53
                                                  replace q53 := eq_true q53
                                                  try go_wp2
                                                  have n0_ := Aside0.mk (Kd.R_drew HO_6.out)
                                                  have n1_ := Aside0.mk (below_drew1 HB.out)
                                                  clear HO_6
                                                  clear HB
                                                  have HO_6 := n0_
                                                  have HB := n1_
                                                  clear n0_ n1_
                                                  have p117 : 0 ≤ ((ji50) : Int) := of_decide_eq_true (by first | (with_reducible assumption) | assumption)
                                                  have q117 : (ji50) < (x6_5.length : Int) := of_decide_eq_true (by first | (with_reducible assumption) | assumption)
                                                  obtain ⟨ad117, e117, hx117_0⟩ := Kd.at_bool (Kd.R_reads' HO_6.out).2.2 (ji50) p117 q117
                                                  (try rw [← Nbq55.out] at hx117_0)
                                                  obtain rfl : (⟨go12, 0, none⟩ : Addr) = ad117 := (by injection e117)
                                                  (first | simp only [add_plain] at hx117_0 | simp only [add_at] at hx117_0 | simp only [Addr.add, Nat.zero_add] at hx117_0 | skip)
                                                  (try simp only [Int.toNat_natCast] at hx117_0)
                                                  replace p117 := eq_true p117
                                                  replace q117 := eq_true q117
                                                  have p84 : 0 ≤ (x10_5 : Int) := of_decide_eq_true (by first | (with_reducible assumption) | assumption)
                                                  have q84 : (x10_5 : Int) < ((x6_5.length : Int) : Int) := of_decide_eq_true (by first | (with_reducible assumption) | assumption)
                                                  obtain ⟨hx84_0, hf84_0⟩ := Kd.R_celln false HO_6.out (x10_5 : Int) p84 q84
                                                  replace p84 := eq_true p84
                                                  replace q84 := eq_true q84
                                                  have HP86 := Kd.R_putn HO_6.out (x10_5 : Int) false
                                                  rw [← Ny122.out] at HP86
                                                  have HQ86 := Aside0.mk HP86
                                                  clear HP86
                                                  refine start_ (n := 32) (S := fun w' => w'.cell? ⟨go12, ((ji50)).toNat, none⟩ = some (.bool false)) (ds := [31]) #[false, false, false, false, false, false, false, false, false, false, false, false, false, false, false, false, false, false, false, false, false, false, false, false, false, false, false, false, false, false, false, false] (by kernel_rfl) rfl rfl (hx117_0) (fun hHeld => ?_); refine with_tabW store_Match.tab20 store_Match.bits20 (fun HT_ HW_ => ?_)
                                                  generalize wr.drew = w85 at HO_6 HB HQ86 hf84_0 hx117_0 hx84_0 hHeld ⊢
                                                  refine pure_ (i := 0) (N := some 79) (v := ?_) (a' := ?_) #[true, false, false, false, false, false, false, false, false, false, false, false, false, false, false, false, false, false, false, false, false, false, false, false, false, false, false, false, false, false, false, false] rfl rfl (any_of HT_.out (by kernel_rfl)) (fun _ _ _ h => h) (Or.inl ⟨by rfl, ?_⟩) ?_ ?_
                                                  rotate_left
                                                  · intro w'
                                                    go_simp
                                                    with_reducible rfl
                                                  rotate_left
                                                  · simp only [Act.put, List.setIfInBounds_toArray, List.set_cons_zero, List.set_cons_succ, i64_w, i32_w]
                                                    rfl
                                                  refine pure_ (i := 1) (N := some 80) (v := ?_) (a' := ?_) #[true, true, false, false, false, false, false, false, false, false, false, false, false, false, false, false, false, false, false, false, false, false, false, false, false, false, false, false, false, false, false, false] rfl rfl (any_of HT_.out (by kernel_rfl)) (fun _ _ _ h => h) (Or.inl ⟨by rfl, ?_⟩) ?_ ?_
                                                  rotate_left
                                                  · intro w'
                                                    go_simp
                                                    with_reducible rfl
                                                  rotate_left
                                                  · simp only [Act.put, List.setIfInBounds_toArray, List.set_cons_zero, List.set_cons_succ, i64_w, i32_w]
                                                    rfl
                                                  refine pure_ (i := 2) (N := some 81) (v := ?_) (a' := ?_) #[true, true, true, false, false, false, false, false, false, false, false, false, false, false, false, false, false, false, false, false, false, false, false, false, false, false, false, false, false, false, false, false] rfl rfl (any_of HT_.out (by kernel_rfl)) (fun _ _ _ h => h) (Or.inl ⟨by rfl, ?_⟩) ?_ ?_
                                                  rotate_left
                                                  · intro w'
                                                    go_simp
                                                    with_reducible rfl
                                                  rotate_left
                                                  · simp only [Act.put, List.setIfInBounds_toArray, List.set_cons_zero, List.set_cons_succ, i64_w, i32_w]
                                                    rfl
                                                  refine pure_ (i := 3) (N := some 82) (v := ?_) (a' := ?_) #[true, true, true, true, false, false, false, false, false, false, false, false, false, false, false, false, false, false, false, false, false, false, false, false, false, false, false, false, false, false, false, false] rfl rfl (any_of HT_.out (by kernel_rfl)) (fun _ _ _ h => h) (Or.inl ⟨by rfl, ?_⟩) ?_ ?_
                                                  rotate_left
                                                  · intro w'
                                                    go_simp
                                                    with_reducible rfl
                                                  rotate_left
                                                  · simp only [Act.put, List.setIfInBounds_toArray, List.set_cons_zero, List.set_cons_succ, i64_w, i32_w]
                                                    rfl
                                                  refine pure_ (i := 4) (N := some 83) (v := ?_) (a' := ?_) #[true, true, true, true, true, false, false, false, false, false, false, false, false, false, false, false, false, false, false, false, false, false, false, false, false, false, false, false, false, false, false, false] rfl rfl (any_of HT_.out (by kernel_rfl)) (fun _ _ _ h => h) (Or.inl ⟨by rfl, ?_⟩) ?_ ?_
                                                  rotate_left
                                                  · intro w'
                                                    go_simp
                                                    with_reducible rfl
                                                  rotate_left
                                                  · simp only [Act.put, List.setIfInBounds_toArray, List.set_cons_zero, List.set_cons_succ, i64_w, i32_w]
                                                    rfl
                                                  refine pure_ (i := 5) (N := some 84) (v := ?_) (a' := ?_) #[true, true, true, true, true, true, false, false, false, false, false, false, false, false, false, false, false, false, false, false, false, false, false, false, false, false, false, false, false, false, false, false] rfl rfl (any_of HT_.out (by kernel_rfl)) (fun _ _ _ h => h) (Or.inl ⟨by rfl, ?_⟩) ?_ ?_
                                                  rotate_left
                                                  · intro w'
                                                    go_simp
                                                    with_reducible rfl
                                                  rotate_left
                                                  · simp only [Act.put, List.setIfInBounds_toArray, List.set_cons_zero, List.set_cons_succ, i64_w, i32_w]
                                                    rfl
                                                  refine take_ (i := 6) (N := some 85) (v := ?_) (a' := ?_) #[true, true, true, true, true, true, true, false, false, false, false, false, false, false, false, false, false, false, false, false, false, false, false, false, false, false, false, false, false, false, false, false] rfl rfl (take_ofW HT_.out HW_.out (by kernel_rfl)) (fun _ _ _ h => h) (Or.inl ⟨by rfl, ?_⟩) hHeld ?_ ?_
                                                  rotate_left
                                                  · intro w' s0
                                                    go_simp
                                                    with_reducible rfl
                                                  rotate_left
                                                  · simp only [Act.put, List.setIfInBounds_toArray, List.set_cons_zero, List.set_cons_succ, i64_w, i32_w]
                                                    rfl
                                                  refine pure_ (i := 7) (N := some 86) (v := ?_) (a' := ?_) #[true, true, true, true, true, true, true, true, false, false, false, false, false, false, false, false, false, false, false, false, false, false, false, false, false, false, false, false, false, false, false, false] rfl rfl (any_of HT_.out (by kernel_rfl)) (fun _ _ _ h => h) (Or.inl ⟨by rfl, ?_⟩) ?_ ?_
                                                  rotate_left
                                                  · intro w'
                                                    go_simp
                                                    with_reducible rfl
                                                  rotate_left
                                                  · simp only [Act.put, List.setIfInBounds_toArray, List.set_cons_zero, List.set_cons_succ, i64_w, i32_w]
                                                    rfl
                                                  refine pure_ (i := 8) (N := some 87) (v := undef) (a' := ?_) #[true, true, true, true, true, true, true, true, true, false, false, false, false, false, false, false, false, false, false, false, false, false, false, false, false, false, false, false, false, false, false, false] rfl rfl (any_of HT_.out (by kernel_rfl)) (fun _ _ _ h => h) (Or.inr ⟨by rfl, rfl⟩) ?_ ?_
                                                  rotate_left
                                                  · simp only [Act.put, List.setIfInBounds_toArray, List.set_cons_zero, List.set_cons_succ, i64_w, i32_w]
                                                    rfl
                                                  refine pure_ (i := 9) (N := some 88) (v := undef) (a' := ?_) #[true, true, true, true, true, true, true, true, true, true, false, false, false, false, false, false, false, false, false, false, false, false, false, false, false, false, false, false, false, false, false, false] rfl rfl (any_of HT_.out (by kernel_rfl)) (fun _ _ _ h => h) (Or.inr ⟨by rfl, rfl⟩) ?_ ?_
                                                  rotate_left
                                                  · simp only [Act.put, List.setIfInBounds_toArray, List.set_cons_zero, List.set_cons_succ, i64_w, i32_w]
                                                    rfl
                                                  refine pure_ (i := 10) (N := some 89) (v := undef) (a' := ?_) #[true, true, true, true, true, true, true, true, true, true, true, false, false, false, false, false, false, false, false, false, false, false, false, false, false, false, false, false, false, false, false, false] rfl rfl (any_of HT_.out (by kernel_rfl)) (fun _ _ _ h => h) (Or.inr ⟨by rfl, rfl⟩) ?_ ?_
                                                  rotate_left
                                                  · simp only [Act.put, List.setIfInBounds_toArray, List.set_cons_zero, List.set_cons_succ, i64_w, i32_w]
                                                    rfl
                                                  refine pure_ (i := 11) (N := some 90) (v := undef) (a' := ?_) #[true, true, true, true, true, true, true, true, true, true, true, true, false, false, false, false, false, false, false, false, false, false, false, false, false, false, false, false, false, false, false, false] rfl rfl (any_of HT_.out (by kernel_rfl)) (fun _ _ _ h => h) (Or.inr ⟨by rfl, rfl⟩) ?_ ?_
                                                  rotate_left
                                                  · simp only [Act.put, List.setIfInBounds_toArray, List.set_cons_zero, List.set_cons_succ, i64_w, i32_w]
                                                    rfl
                                                  refine pure_ (i := 12) (N := some 91) (v := undef) (a' := ?_) #[true, true, true, true, true, true, true, true, true, true, true, true, true, false, false, false, false, false, false, false, false, false, false, false, false, false, false, false, false, false, false, false] rfl rfl (any_of HT_.out (by kernel_rfl)) (fun _ _ _ h => h) (Or.inr ⟨by rfl, rfl⟩) ?_ ?_
                                                  rotate_left
                                                  · simp only [Act.put, List.setIfInBounds_toArray, List.set_cons_zero, List.set_cons_succ, i64_w, i32_w]
                                                    rfl
                                                  refine pure_ (i := 13) (N := some 92) (v := undef) (a' := ?_) #[true, true, true, true, true, true, true, true, true, true, true, true, true, true, false, false, false, false, false, false, false, false, false, false, false, false, false, false, false, false, false, false] rfl rfl (any_of HT_.out (by kernel_rfl)) (fun _ _ _ h => h) (Or.inr ⟨by rfl, rfl⟩) ?_ ?_
                                                  rotate_left
                                                  · simp only [Act.put, List.setIfInBounds_toArray, List.set_cons_zero, List.set_cons_succ, i64_w, i32_w]
                                                    rfl
                                                  refine pure_ (i := 14) (N := some 93) (v := undef) (a' := ?_) #[true, true, true, true, true, true, true, true, true, true, true, true, true, true, true, false, false, false, false, false, false, false, false, false, false, false, false, false, false, false, false, false] rfl rfl (any_of HT_.out (by kernel_rfl)) (fun _ _ _ h => h) (Or.inr ⟨by rfl, rfl⟩) ?_ ?_
                                                  rotate_left
                                                  · simp only [Act.put, List.setIfInBounds_toArray, List.set_cons_zero, List.set_cons_succ, i64_w, i32_w]
                                                    rfl
                                                  refine pure_ (i := 15) (N := some 94) (v := undef) (a' := ?_) #[true, true, true, true, true, true, true, true, true, true, true, true, true, true, true, true, false, false, false, false, false, false, false, false, false, false, false, false, false, false, false, false] rfl rfl (any_of HT_.out (by kernel_rfl)) (fun _ _ _ h => h) (Or.inr ⟨by rfl, rfl⟩) ?_ ?_
                                                  rotate_left
                                                  · simp only [Act.put, List.setIfInBounds_toArray, List.set_cons_zero, List.set_cons_succ, i64_w, i32_w]
                                                    rfl
                                                  refine pure_ (i := 16) (N := some 95) (v := undef) (a' := ?_) #[true, true, true, true, true, true, true, true, true, true, true, true, true, true, true, true, true, false, false, false, false, false, false, false, false, false, false, false, false, false, false, false] rfl rfl (any_of HT_.out (by kernel_rfl)) (fun _ _ _ h => h) (Or.inr ⟨by rfl, rfl⟩) ?_ ?_
                                                  rotate_left
                                                  · simp only [Act.put, List.setIfInBounds_toArray, List.set_cons_zero, List.set_cons_succ, i64_w, i32_w]
                                                    rfl
                                                  refine pure_ (i := 17) (N := some 96) (v := undef) (a' := ?_) #[true, true, true, true, true, true, true, true, true, true, true, true, true, true, true, true, true, true, false, false, false, false, false, false, false, false, false, false, false, false, false, false] rfl rfl (any_of HT_.out (by kernel_rfl)) (fun _ _ _ h => h) (Or.inr ⟨by rfl, rfl⟩) ?_ ?_
                                                  rotate_left
                                                  · simp only [Act.put, List.setIfInBounds_toArray, List.set_cons_zero, List.set_cons_succ, i64_w, i32_w]
                                                    rfl
                                                  refine pure_ (i := 18) (N := some 97) (v := undef) (a' := ?_) #[true, true, true, true, true, true, true, true, true, true, true, true, true, true, true, true, true, true, true, false, false, false, false, false, false, false, false, false, false, false, false, false] rfl rfl (any_of HT_.out (by kernel_rfl)) (fun _ _ _ h => h) (Or.inr ⟨by rfl, rfl⟩) ?_ ?_
                                                  rotate_left
                                                  · simp only [Act.put, List.setIfInBounds_toArray, List.set_cons_zero, List.set_cons_succ, i64_w, i32_w]
                                                    rfl
                                                  refine pure_ (i := 19) (N := some 98) (v := undef) (a' := ?_) #[true, true, true, true, true, true, true, true, true, true, true, true, true, true, true, true, true, true, true, true, false, false, false, false, false, false, false, false, false, false, false, false] rfl rfl (any_of HT_.out (by kernel_rfl)) (fun _ _ _ h => h) (Or.inr ⟨by rfl, rfl⟩) ?_ ?_
                                                  rotate_left
                                                  · simp only [Act.put, List.setIfInBounds_toArray, List.set_cons_zero, List.set_cons_succ, i64_w, i32_w]
                                                    rfl
                                                  refine pure_ (i := 20) (N := some 99) (v := undef) (a' := ?_) #[true, true, true, true, true, true, true, true, true, true, true, true, true, true, true, true, true, true, true, true, true, false, false, false, false, false, false, false, false, false, false, false] rfl rfl (any_of HT_.out (by kernel_rfl)) (fun _ _ _ h => h) (Or.inr ⟨by rfl, rfl⟩) ?_ ?_
                                                  rotate_left
                                                  · simp only [Act.put, List.setIfInBounds_toArray, List.set_cons_zero, List.set_cons_succ, i64_w, i32_w]
                                                    rfl
                                                  refine pure_ (i := 21) (N := some 100) (v := undef) (a' := ?_) #[true, true, true, true, true, true, true, true, true, true, true, true, true, true, true, true, true, true, true, true, true, true, false, false, false, false, false, false, false, false, false, false] rfl rfl (any_of HT_.out (by kernel_rfl)) (fun _ _ _ h => h) (Or.inr ⟨by rfl, rfl⟩) ?_ ?_
                                                  rotate_left
                                                  · simp only [Act.put, List.setIfInBounds_toArray, List.set_cons_zero, List.set_cons_succ, i64_w, i32_w]
                                                    rfl
                                                  refine pure_ (i := 22) (N := some 101) (v := undef) (a' := ?_) #[true, true, true, true, true, true, true, true, true, true, true, true, true, true, true, true, true, true, true, true, true, true, true, false, false, false, false, false, false, false, false, false] rfl rfl (any_of HT_.out (by kernel_rfl)) (fun _ _ _ h => h) (Or.inr ⟨by rfl, rfl⟩) ?_ ?_
                                                  rotate_left
                                                  · simp only [Act.put, List.setIfInBounds_toArray, List.set_cons_zero, List.set_cons_succ, i64_w, i32_w]
                                                    rfl
                                                  refine pure_ (i := 23) (N := some 102) (v := undef) (a' := ?_) #[true, true, true, true, true, true, true, true, true, true, true, true, true, true, true, true, true, true, true, true, true, true, true, true, false, false, false, false, false, false, false, false] rfl rfl (any_of HT_.out (by kernel_rfl)) (fun _ _ _ h => h) (Or.inr ⟨by rfl, rfl⟩) ?_ ?_
                                                  rotate_left
                                                  · simp only [Act.put, List.setIfInBounds_toArray, List.set_cons_zero, List.set_cons_succ, i64_w, i32_w]
                                                    rfl
                                                  refine pure_ (i := 24) (N := some 103) (v := undef) (a' := ?_) #[true, true, true, true, true, true, true, true, true, true, true, true, true, true, true, true, true, true, true, true, true, true, true, true, true, false, false, false, false, false, false, false] rfl rfl (any_of HT_.out (by kernel_rfl)) (fun _ _ _ h => h) (Or.inr ⟨by rfl, rfl⟩) ?_ ?_
                                                  rotate_left
                                                  · simp only [Act.put, List.setIfInBounds_toArray, List.set_cons_zero, List.set_cons_succ, i64_w, i32_w]
                                                    rfl
                                                  refine pure_ (i := 25) (N := some 104) (v := undef) (a' := ?_) #[true, true, true, true, true, true, true, true, true, true, true, true, true, true, true, true, true, true, true, true, true, true, true, true, true, true, false, false, false, false, false, false] rfl rfl (any_of HT_.out (by kernel_rfl)) (fun _ _ _ h => h) (Or.inr ⟨by rfl, rfl⟩) ?_ ?_
                                                  rotate_left
                                                  · simp only [Act.put, List.setIfInBounds_toArray, List.set_cons_zero, List.set_cons_succ, i64_w, i32_w]
                                                    rfl
                                                  refine pure_ (i := 26) (N := some 105) (v := undef) (a' := ?_) #[true, true, true, true, true, true, true, true, true, true, true, true, true, true, true, true, true, true, true, true, true, true, true, true, true, true, true, false, false, false, false, false] rfl rfl (any_of HT_.out (by kernel_rfl)) (fun _ _ _ h => h) (Or.inr ⟨by rfl, rfl⟩) ?_ ?_
                                                  rotate_left
                                                  · simp only [Act.put, List.setIfInBounds_toArray, List.set_cons_zero, List.set_cons_succ, i64_w, i32_w]
                                                    rfl
                                                  refine pure_ (i := 27) (N := some 106) (v := undef) (a' := ?_) #[true, true, true, true, true, true, true, true, true, true, true, true, true, true, true, true, true, true, true, true, true, true, true, true, true, true, true, true, false, false, false, false] rfl rfl (any_of HT_.out (by kernel_rfl)) (fun _ _ _ h => h) (Or.inr ⟨by rfl, rfl⟩) ?_ ?_
                                                  rotate_left
                                                  · simp only [Act.put, List.setIfInBounds_toArray, List.set_cons_zero, List.set_cons_succ, i64_w, i32_w]
                                                    rfl
                                                  refine pure_ (i := 28) (N := some 107) (v := undef) (a' := ?_) #[true, true, true, true, true, true, true, true, true, true, true, true, true, true, true, true, true, true, true, true, true, true, true, true, true, true, true, true, true, false, false, false] rfl rfl (any_of HT_.out (by kernel_rfl)) (fun _ _ _ h => h) (Or.inr ⟨by rfl, rfl⟩) ?_ ?_
                                                  rotate_left
                                                  · simp only [Act.put, List.setIfInBounds_toArray, List.set_cons_zero, List.set_cons_succ, i64_w, i32_w]
                                                    rfl
                                                  refine pure_ (i := 29) (N := some 108) (v := ?_) (a' := ?_) #[true, true, true, true, true, true, true, true, true, true, true, true, true, true, true, true, true, true, true, true, true, true, true, true, true, true, true, true, true, true, false, false] rfl rfl (any_of HT_.out (by kernel_rfl)) (fun _ _ _ h => h) (Or.inl ⟨by rfl, ?_⟩) ?_ ?_
                                                  rotate_left
                                                  · intro w'
                                                    go_simp
                                                    with_reducible rfl
                                                  rotate_left
                                                  · simp only [Act.put, List.setIfInBounds_toArray, List.set_cons_zero, List.set_cons_succ, i64_w, i32_w]
                                                    rfl
                                                  refine pure_ (i := 30) (N := some 109) (v := ?_) (a' := ?_) #[true, true, true, true, true, true, true, true, true, true, true, true, true, true, true, true, true, true, true, true, true, true, true, true, true, true, true, true, true, true, true, false] rfl rfl (any_of HT_.out (by kernel_rfl)) (fun _ _ _ h => h) (Or.inl ⟨by rfl, ?_⟩) ?_ ?_
                                                  rotate_left
                                                  · intro w'
                                                    go_simp
                                                    with_reducible rfl
                                                  rotate_left
                                                  · simp only [Act.put, List.setIfInBounds_toArray, List.set_cons_zero, List.set_cons_succ, i64_w, i32_w]
                                                    rfl
                                                  refine last_ (i := 31) (N := none) #[true, true, true, true, true, true, true, true, true, true, true, true, true, true, true, true, true, true, true, true, true, true, true, true, true, true, true, true, true, true, true, true] rfl rfl (one_of HT_.out (by kernel_rfl)) (by decide) (fun K hK => ?_)
                                                  refine skip_ (w1 := ?_) (by rfl) rfl ?_ ?_
                                                  rotate_left
                                                  · go_simp
                                                    rfl
                                                  refine hK.out _ _ ?_
                                                  clear hK K
                                                  refine done_ (done_of HT_.out (by kernel_rfl)) ?_
                                                  try go_wp2
                                                  (try simp only [← hl6_5])
                                                  go_roundg k5
                                                  case measure => have := HJ2.out; have := HJ5.out; have := HK3.out; have := HJ20.out; have := HK5.out; omega
                                                  case rel => exact ⟨(y122), (ji50), (by first | rfl | (simp; done) | (simp only [← hji50] <;> (first | rfl | simp)) | (simp [*]; done)), H', ⟨by have := HJ2.out; have := HJ5.out; have := HK3.out; have := HJ20.out; have := HK5.out; omega⟩, ⟨by (try simp only [hl6_3]); (try simp only [hl6_5]); (with_reducible repeat (first | apply Kd.R_alloc | apply Kd.R_drewN | apply Kd.R_drew)); exact HQ86.out⟩, ⟨by repeat (first | (with_reducible first | exact HB.out | apply below_alloc | apply pw_below_drewN | apply below_drew1 | refine below_set ?_ GB12.out) | exact HB.out)⟩⟩
                                                · rw [if_neg c83] at H
                                                  exact absurd H (by simp)
                                              · rw [if_neg c82] at H
                                                exact absurd H (by simp)
                                          · rw [if_neg c54] at H
                                            exact absurd H (by simp)
                                        · rw [if_neg c52] at H
                                          exact absurd H (by simp)
                                      · rw [if_neg c51] at H
                                        exact absurd H (by simp)
                                    · rw [if_neg c49] at H
                                      have c49b0 : decide (0 < x10_5) = false := decide_eq_false c49
                                      clear c49
                                      by_cases c87 : 0 < (x6_5.length : Int)
                                      · rw [if_pos c87] at H
                                        have c87b0 : decide (0 < (x6_5.length : Int)) = true := decide_eq_true c87
                                        have c87b1 : decide (0 < x6_5.length) = true := decide_eq_true (by omega)
                                        clear c87
                                        obtain ⟨y123, hy123⟩ : ∃ y_ : List Bool, y_ = (x6_5.set (0 : Int).toNat false) := ⟨_, rfl⟩
                                        replace H : (store_Match.l0 k5 a0 a1 x5_5 y123 (a0.size : Int) (wrap64 (x26_3 + 1))) = some r := by first | (rw [hy123]; with_reducible exact H) | (have H2_ := (Option.bind_some _ _).symm.trans H; rw [hy123]; with_reducible exact H2_) | (have H2_ := (Option.bind_some _ _).symm.trans H; with_reducible exact H2_) | with_reducible exact H | (rw [hy123]; exact H) | exact H
                                        have Ny123 := Aside0.mk hy123
                                        clear hy123
                                        have H' := Aside0.mk H
                                        clear H
                                        have p88 : 0 ≤ (0 : Int) := (by omega)
                                        have q88 : (0 : Int) < ((x6_5.length : Int) : Int) := of_decide_eq_true (by first | (with_reducible assumption) | assumption)
                                        have qi88 : (0 < x6_5.length) = True := eq_true (by omega)
                                        obtain ⟨hx88_0, hf88_0⟩ := Kd.R_celln false HO_6.out (0 : Int) p88 q88
                                        (try rw [show ((0 : Int)).toNat = 0 from rfl] at hx88_0)
                                        (try simp only [Nat.reduceMul, Nat.zero_mul, Nat.zero_add, Nat.reduceAdd] at hx88_0)
                                        (try rw [show ((0 : Int)).toNat = 0 from rfl] at hf88_0)
                                        (try simp only [Nat.reduceMul, Nat.zero_mul, Nat.zero_add, Nat.reduceAdd] at hf88_0)
                                        replace p88 := eq_true p88
                                        replace q88 := eq_true q88
                                        have HP89 := Kd.R_putg HO_6.out (0 : Int) false
                                        go_wp2_with (first | ((with_reducible refine gate_store (t := 4) (p := 111) rfl ?_); refine store_event (t := 4) (p := 111) (v := ?vo_w90) (w1 := (wr.setCell ⟨go12, (0 : Int).toNat, none⟩ (.bool false))) ?hg ?ho ?hn ?hr ?_; (case ho => rfl); (case hg => rfl); (case hn => rfl); (case hr => first | (go_simp; done) | (go_simp; rfl)); intro w90 hw; have hg : wr.grownBy w90 (some go12) := (by rw [hw]; exact HP89.2); have hp_ : Kd.R Kd.bool 4 w90 w.heap.size (fun _ => True) (.slice (some ⟨go12, 0, none⟩) x6_5.length co12) y123 := (by rw [hw, Ny123.out]; exact HP89.1); clear HP89; have n0_ := Aside0.mk (hp_); have n1_ := Aside0.mk ((by rw [hw]; exact below_set (HB.out) GB12.out : Below w.heap.size w w90)); clear HO_6; clear HB; have HO_6 := n0_; have HB := n1_; clear n0_ n1_; clear hg hw hp_))
                                        (try simp only [← hl6_3, ← hl6_5])
                                        go_roundg k5
                                        case measure => have := HJ2.out; have := HJ5.out; have := HK3.out; have := HJ20.out; have := HK5.out; omega
                                        case rel => exact ⟨(y123), (wrap64 (x26_3 + 1)), (by first | rfl | (simp; done) | (simp [*]; done) | (simp [bne, *]; done)), H', ⟨by have := HJ2.out; have := HJ5.out; have := HK3.out; have := HJ20.out; have := HK5.out; omega⟩, ⟨by (try simp only [hl6_3]); (try simp only [hl6_5]); (with_reducible repeat (first | apply Kd.R_alloc | apply Kd.R_drewN | apply Kd.R_drew)); exact HO_6.out⟩, ⟨by repeat (first | (with_reducible first | exact HB.out | apply below_alloc | apply pw_below_drewN | apply below_drew1) | exact HB.out)⟩⟩
                                      · rw [if_neg c87] at H
                                        exact absurd H (by simp)
                        · rw [if_neg c19] at H
                          exact absurd H (by simp)
                      · rw [if_neg c18] at H
                        exact absurd H (by simp)
                    · rw [if_neg c17] at H
                      have c17b0 : decide (x26_3 < (a0.size : Int)) = false := decide_eq_false c17
                      clear c17
                      by_cases c91 : 0 ≤ (a1.size : Int)
                      · rw [if_pos c91] at H
                        have c91b0 : decide (0 ≤ (a1.size : Int)) = true := decide_eq_true c91
                        have c91b1 : decide (0 ≤ a1.size) = true := decide_eq_true (by omega)
                        clear c91
                        by_cases c92 : (a1.size : Int) < (x6_3.length : Int)
                        · rw [if_pos c92] at H
                          have c92b0 : decide ((a1.size : Int) < (x6_3.length : Int)) = true := decide_eq_true c92
                          have c92b1 : decide (a1.size < x6_3.length) = true := decide_eq_true (Int.ofNat_lt.mp c92)
                          clear c92
                          obtain rfl := Option.some.inj H
                          have p110 : 0 ≤ ((a1.size : Int) : Int) := of_decide_eq_true (by first | (with_reducible assumption) | assumption)
                          have q110 : (a1.size : Int) < (x6_3.length : Int) := of_decide_eq_true (by first | (with_reducible assumption) | assumption)
                          obtain ⟨ad110, e110, hx110_0⟩ := Kd.at_bool (Kd.R_reads' HO_6.out).2.2 (a1.size : Int) p110 q110
                          obtain rfl : (⟨go12, 0, none⟩ : Addr) = ad110 := (by injection e110)
                          (first | simp only [add_plain] at hx110_0 | simp only [add_at] at hx110_0 | simp only [Addr.add, Nat.zero_add] at hx110_0 | skip)
                          (try simp only [Int.toNat_natCast] at hx110_0)
                          replace p110 := eq_true p110
                          replace q110 := eq_true q110
                          go_wp2
                          go_ret
                          exact ⟨by first | rfl | (simp [errW_none, errW_some] <;> rfl) | (simp only [← hji8]; first | rfl | (simp [errW_none, errW_some] <;> rfl)) | (simp [*, errW_none, errW_some] <;> rfl), by repeat (first | (with_reducible first | exact HB.out | apply below_alloc | apply pw_below_drewN | apply below_drew1) | exact HB.out)⟩
                        · rw [if_neg c92] at H
                          exact absurd H (by simp)
                      · rw [if_neg c91] at H
                        exact absurd H (by simp)
              · rw [if_neg c11] at H
                exact absurd H (by simp)
            · rw [if_neg c10] at H
              exact absurd H (by simp)
          · rw [if_neg c9] at H
            exact absurd H (by simp)

end Go.Proofs.Ytkfehogefclhdaa.PSm
