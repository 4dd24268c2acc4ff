-- Written by xprint.py, a program of this session over the kit's print: not the print's own text.
import Derived.Test.YtkfehogefclhdaaPSmx0
import Derived.Test.YtkfehogefclhdaaPSmx2
import Derived.Test.YtkfehogefclhdaaPSmx5
namespace Go.Proofs.Ytkfehogefclhdaa.PSm
open Go.RowKit Go.Proofs.YtkfehogefclhdaaW.PrintWords Go.Proofs.YtkfehogefclhdaaW.PrintLast Go.Proofs.YtkfehogefclhdaaW.PrintMore
attribute [local go_sem] max2_int min2_int max_two min_two max_three min_three max_four min_four   -- for this text's walks alone
set_option linter.unusedVariables false
set_option linter.unusedSimpArgs false

/-! ### postbaglaw12_StorePatterns: function 4 -/
mutual
def postbaglaw12_StorePatterns.j0 : Nat → ByteArray → ByteArray → Int → Int → Bool → Option (Bool)
  | 0, _, _, _, _, _ => none
  | k + 1, x0, x1, x2, x3, x26 => if x26 = true then (some true) else (postbaglaw12_StorePatterns.l0 k x0 x1 x2 x3 true false 0)
def postbaglaw12_StorePatterns.l0 : Nat → ByteArray → ByteArray → Int → Int → Bool → Bool → Int → Option (Bool)
  | 0, _, _, _, _, _, _, _ => none
  | k + 1, x0, x1, x2, x3, x9, x10, x11 => if x11 < (x0.size : Int) then (if x9 = true then (if 0 ≤ x11 then (if (bt x0 x11) = 42 then (if x10 = true then (postbaglaw12_StorePatterns.l0 k x0 x1 x2 x3 false true (wrap64 (x11 + 1))) else (postbaglaw12_StorePatterns.l0 k x0 x1 x2 x3 false ((bt x0 x11) == 47) (wrap64 (x11 + 1)))) else (if x10 = true then (postbaglaw12_StorePatterns.l0 k x0 x1 x2 x3 ((bt x0 x11) != 37) true (wrap64 (x11 + 1))) else (postbaglaw12_StorePatterns.l0 k x0 x1 x2 x3 ((bt x0 x11) != 37) ((bt x0 x11) == 47) (wrap64 (x11 + 1))))) else (none)) else (if x10 = true then (postbaglaw12_StorePatterns.l0 k x0 x1 x2 x3 false true (wrap64 (x11 + 1))) else (if 0 ≤ x11 then (postbaglaw12_StorePatterns.l0 k x0 x1 x2 x3 false ((bt x0 x11) == 47) (wrap64 (x11 + 1))) else (none)))) else ((postbaglaw12_spot.f x2 (wrap64 ((x0.size : Int) + 1))).bind fun t150 => ((postbaglaw12_spot.f x3 (wrap64 ((wrap64 ((x0.size : Int) + 1)) - t150))).bind fun t151 => (postbaglaw12_StorePatterns.l1 k x0 x1 t150 (wrap64 (t150 + t151)) x9 x10 false t150)))
def postbaglaw12_StorePatterns.l1 : Nat → ByteArray → ByteArray → Int → Int → Bool → Bool → Bool → Int → Option (Bool)
  | 0, _, _, _, _, _, _, _, _ => none
  | k + 1, x0, x1, x2, x3, x9, x10, x12, x13 => if x13 < x3 then (if x12 = true then (postbaglaw12_StorePatterns.l1 k x0 x1 x2 x3 x9 x10 true (wrap64 (x13 + 1))) else (if 0 ≤ x13 then (if x13 < (x0.size : Int) then (postbaglaw12_StorePatterns.l1 k x0 x1 x2 x3 x9 x10 ((bt x0 x13) == 47) (wrap64 (x13 + 1))) else (none)) else (none))) else ((store_Match.f k (⟨#[42]⟩ : ByteArray) x0).bind fun t152 => (if t152 = true then ((store_Match.f k (⟨#[37]⟩ : ByteArray) x0).bind fun t153 => (if (t153 == x10) = true then (postbaglaw12_StorePatterns.j3 k x0 x1 x2 x3 x9 x12 true) else ((store_Match.f k (⟨#[]⟩ : ByteArray) x0).bind fun t154 => (postbaglaw12_StorePatterns.j3 k x0 x1 x2 x3 x9 x12 (t154 != (x0.toList == ([] : List UInt8))))))) else (postbaglaw12_StorePatterns.j3 k x0 x1 x2 x3 x9 x12 true)))
def postbaglaw12_StorePatterns.j3 : Nat → ByteArray → ByteArray → Int → Int → Bool → Bool → Bool → Option (Bool)
  | 0, _, _, _, _, _, _, _ => none
  | k + 1, x0, x1, x2, x3, x9, x12, x95 => if x95 = true then (some false) else (if x9 = true then (if x1.toList = x0.toList then (postbaglaw12_StorePatterns.j4 k x0 x1 x2 x3 x12 false) else (if x0.toList = ([73, 78, 66, 79, 88] : List UInt8) then (postbaglaw12_StorePatterns.j4 k x0 x1 x2 x3 x12 true) else (if (x0.size : Int) > 5 then (if 0 ≤ 6 then (if 6 ≤ (x0.size : Int) then (postbaglaw12_StorePatterns.j4 k x0 x1 x2 x3 x12 ((x0.extract 0 6).toList == ([73, 78, 66, 79, 88, 47] : List UInt8))) else (none)) else (none)) else (postbaglaw12_StorePatterns.j4 k x0 x1 x2 x3 x12 false)))) else (some true))
def postbaglaw12_StorePatterns.j4 : Nat → ByteArray → ByteArray → Int → Int → Bool → Bool → Option (Bool)
  | 0, _, _, _, _, _, _ => none
  | k + 1, x0, x1, x2, x3, x12, x14 => (store_Match.f k x1 x0).bind fun t155 => (if 0 ≤ x2 then (if x2 ≤ (x0.size : Int) then (if (x0.extract 0 (x2 : Int).toNat).size + 1 ≤ 9223372036854775807 then (if 0 ≤ x3 then (if x3 ≤ (x0.size : Int) then (if ((x0.extract 0 (x2 : Int).toNat) ++ (⟨#[42]⟩ : ByteArray)).size + (x0.extract (x3 : Int).toNat x0.size).size ≤ 9223372036854775807 then ((store_Match.f k (((x0.extract 0 (x2 : Int).toNat) ++ (⟨#[42]⟩ : ByteArray)) ++ (x0.extract (x3 : Int).toNat x0.size)) x0).bind fun t156 => (if ((x0.extract 0 (x2 : Int).toNat) ++ (⟨#[37]⟩ : ByteArray)).size + (x0.extract (x3 : Int).toNat x0.size).size ≤ 9223372036854775807 then ((store_Match.f k (((x0.extract 0 (x2 : Int).toNat) ++ (⟨#[37]⟩ : ByteArray)) ++ (x0.extract (x3 : Int).toNat x0.size)) x0).bind fun t157 => (postbaglaw12_StorePatterns.l2 k x0 x1 x12 x14 t155 t156 t157 0)) else (none))) else (none)) else (none)) else (none)) else (none)) else (none)) else (none))
def postbaglaw12_StorePatterns.l2 : Nat → ByteArray → ByteArray → Bool → Bool → Bool → Bool → Bool → Int → Option (Bool)
  | 0, _, _, _, _, _, _, _, _ => none
  | k + 1, x0, x1, x12, x14, x15, x16, x17, x18 => if x18 < (x1.size : Int) then (if 0 ≤ x18 then (if (bt x1 x18) = 42 then ((store_Match.f k x0 x0).bind fun t158 => (if t158 = true then (if x16 = true then (if x17 = true then (some true) else (some x12)) else (some false)) else (some false))) else (if (bt x1 x18) = 37 then ((store_Match.f k x0 x0).bind fun t159 => (if t159 = true then (if x16 = true then (if x17 = true then (some true) else (some x12)) else (some false)) else (some false))) else (postbaglaw12_StorePatterns.l2 k x0 x1 x12 x14 x15 x16 x17 (wrap64 (x18 + 1))))) else (none)) else (if x14 = true then ((store_Match.f k x0 x0).bind fun t160 => (if t160 = true then (if x16 = true then (if x17 = true then (some true) else (some x12)) else (some false)) else (some false))) else (if (x15 != (x1.toList == x0.toList)) = true then (some false) else ((store_Match.f k x0 x0).bind fun t161 => (if t161 = true then (if x16 = true then (if x17 = true then (some true) else (some x12)) else (some false)) else (some false)))))
end
def postbaglaw12_StorePatterns.f (k : Nat) (a0 : ByteArray) (a1 : ByteArray) (a2 : Int) (a3 : Int) : Option (Bool) := if (a0.size : Int) > 300 then (postbaglaw12_StorePatterns.j0 k a0 a1 a2 a3 true) else (postbaglaw12_StorePatterns.j0 k a0 a1 a2 a3 (decide ((a1.size : Int) > 300)))
theorem postbaglaw12_StorePatterns.mono_l : ∀ k, (∀ y0 y1 y2 y3 y4, LeO (postbaglaw12_StorePatterns.j0 k y0 y1 y2 y3 y4) (postbaglaw12_StorePatterns.j0 (k + 1) y0 y1 y2 y3 y4)) ∧ (∀ y0 y1 y2 y3 y4 y5 y6, LeO (postbaglaw12_StorePatterns.l0 k y0 y1 y2 y3 y4 y5 y6) (postbaglaw12_StorePatterns.l0 (k + 1) y0 y1 y2 y3 y4 y5 y6)) ∧ (∀ y0 y1 y2 y3 y4 y5 y6 y7, LeO (postbaglaw12_StorePatterns.l1 k y0 y1 y2 y3 y4 y5 y6 y7) (postbaglaw12_StorePatterns.l1 (k + 1) y0 y1 y2 y3 y4 y5 y6 y7)) ∧ (∀ y0 y1 y2 y3 y4 y5 y6, LeO (postbaglaw12_StorePatterns.j3 k y0 y1 y2 y3 y4 y5 y6) (postbaglaw12_StorePatterns.j3 (k + 1) y0 y1 y2 y3 y4 y5 y6)) ∧ (∀ y0 y1 y2 y3 y4 y5, LeO (postbaglaw12_StorePatterns.j4 k y0 y1 y2 y3 y4 y5) (postbaglaw12_StorePatterns.j4 (k + 1) y0 y1 y2 y3 y4 y5)) ∧ (∀ y0 y1 y2 y3 y4 y5 y6 y7, LeO (postbaglaw12_StorePatterns.l2 k y0 y1 y2 y3 y4 y5 y6 y7) (postbaglaw12_StorePatterns.l2 (k + 1) y0 y1 y2 y3 y4 y5 y6 y7))
  | 0 => ⟨fun _ _ _ _ _ r h => by simp [postbaglaw12_StorePatterns.j0] at h, fun _ _ _ _ _ _ _ r h => by simp [postbaglaw12_StorePatterns.l0] at h, fun _ _ _ _ _ _ _ _ r h => by simp [postbaglaw12_StorePatterns.l1] at h, fun _ _ _ _ _ _ _ r h => by simp [postbaglaw12_StorePatterns.j3] at h, fun _ _ _ _ _ _ r h => by simp [postbaglaw12_StorePatterns.j4] at h, fun _ _ _ _ _ _ _ _ r h => by simp [postbaglaw12_StorePatterns.l2] at h⟩
  | k + 1 => by
    obtain ⟨ih0, ih1, ih2, ih3, ih4, ih5⟩ := postbaglaw12_StorePatterns.mono_l k
    refine ⟨?_, ?_, ?_, ?_, ?_, ?_⟩
    · intro y0 y1 y2 y3 y4
      unfold postbaglaw12_StorePatterns.j0
      repeat' first
      | (with_reducible exact ih0 _ _ _ _ _)
      | (with_reducible exact ih1 _ _ _ _ _ _ _)
      | (with_reducible exact ih2 _ _ _ _ _ _ _ _)
      | (with_reducible exact ih3 _ _ _ _ _ _ _)
      | (with_reducible exact ih4 _ _ _ _ _ _)
      | (with_reducible exact ih5 _ _ _ _ _ _ _ _)
      | (with_reducible exact store_Match.mono _ _ _)
      | (with_reducible exact LeO.refl _)
      | (with_reducible exact LeO.none _)
      | (with_reducible refine LeO.ite ?_ ?_)
      | (with_reducible refine LeO.bind ?_ (fun _ => ?_))
      | exact ih0 _ _ _ _ _
      | exact ih1 _ _ _ _ _ _ _
      | exact ih2 _ _ _ _ _ _ _ _
      | exact ih3 _ _ _ _ _ _ _
      | exact ih4 _ _ _ _ _ _
      | exact ih5 _ _ _ _ _ _ _ _
      | exact store_Match.mono _ _ _
      | exact LeO.none _
      | refine LeO.ite ?_ ?_
      | refine LeO.bind ?_ (fun _ => ?_)
    · intro y0 y1 y2 y3 y4 y5 y6
      unfold postbaglaw12_StorePatterns.l0
      repeat' first
      | (with_reducible exact ih0 _ _ _ _ _)
      | (with_reducible exact ih1 _ _ _ _ _ _ _)
      | (with_reducible exact ih2 _ _ _ _ _ _ _ _)
      | (with_reducible exact ih3 _ _ _ _ _ _ _)
      | (with_reducible exact ih4 _ _ _ _ _ _)
      | (with_reducible exact ih5 _ _ _ _ _ _ _ _)
      | (with_reducible exact store_Match.mono _ _ _)
      | (with_reducible exact LeO.refl _)
      | (with_reducible exact LeO.none _)
      | (with_reducible refine LeO.ite ?_ ?_)
      | (with_reducible refine LeO.bind ?_ (fun _ => ?_))
      | exact ih0 _ _ _ _ _
      | exact ih1 _ _ _ _ _ _ _
      | exact ih2 _ _ _ _ _ _ _ _
      | exact ih3 _ _ _ _ _ _ _
      | exact ih4 _ _ _ _ _ _
      | exact ih5 _ _ _ _ _ _ _ _
      | exact store_Match.mono _ _ _
      | exact LeO.none _
      | refine LeO.ite ?_ ?_
      | refine LeO.bind ?_ (fun _ => ?_)
    · intro y0 y1 y2 y3 y4 y5 y6 y7
      unfold postbaglaw12_StorePatterns.l1
      repeat' first
      | (with_reducible exact ih0 _ _ _ _ _)
      | (with_reducible exact ih1 _ _ _ _ _ _ _)
      | (with_reducible exact ih2 _ _ _ _ _ _ _ _)
      | (with_reducible exact ih3 _ _ _ _ _ _ _)
      | (with_reducible exact ih4 _ _ _ _ _ _)
      | (with_reducible exact ih5 _ _ _ _ _ _ _ _)
      | (with_reducible exact store_Match.mono _ _ _)
      | (with_reducible exact LeO.refl _)
      | (with_reducible exact LeO.none _)
      | (with_reducible refine LeO.ite ?_ ?_)
      | (with_reducible refine LeO.bind ?_ (fun _ => ?_))
      | exact ih0 _ _ _ _ _
      | exact ih1 _ _ _ _ _ _ _
      | exact ih2 _ _ _ _ _ _ _ _
      | exact ih3 _ _ _ _ _ _ _
      | exact ih4 _ _ _ _ _ _
      | exact ih5 _ _ _ _ _ _ _ _
      | exact store_Match.mono _ _ _
      | exact LeO.none _
      | refine LeO.ite ?_ ?_
      | refine LeO.bind ?_ (fun _ => ?_)
    · intro y0 y1 y2 y3 y4 y5 y6
      unfold postbaglaw12_StorePatterns.j3
      repeat' first
      | (with_reducible exact ih0 _ _ _ _ _)
      | (with_reducible exact ih1 _ _ _ _ _ _ _)
      | (with_reducible exact ih2 _ _ _ _ _ _ _ _)
      | (with_reducible exact ih3 _ _ _ _ _ _ _)
      | (with_reducible exact ih4 _ _ _ _ _ _)
      | (with_reducible exact ih5 _ _ _ _ _ _ _ _)
      | (with_reducible exact store_Match.mono _ _ _)
      | (with_reducible exact LeO.refl _)
      | (with_reducible exact LeO.none _)
      | (with_reducible refine LeO.ite ?_ ?_)
      | (with_reducible refine LeO.bind ?_ (fun _ => ?_))
      | exact ih0 _ _ _ _ _
      | exact ih1 _ _ _ _ _ _ _
      | exact ih2 _ _ _ _ _ _ _ _
      | exact ih3 _ _ _ _ _ _ _
      | exact ih4 _ _ _ _ _ _
      | exact ih5 _ _ _ _ _ _ _ _
      | exact store_Match.mono _ _ _
      | exact LeO.none _
      | refine LeO.ite ?_ ?_
      | refine LeO.bind ?_ (fun _ => ?_)
    · intro y0 y1 y2 y3 y4 y5
      unfold postbaglaw12_StorePatterns.j4
      repeat' first
      | (with_reducible exact ih0 _ _ _ _ _)
      | (with_reducible exact ih1 _ _ _ _ _ _ _)
      | (with_reducible exact ih2 _ _ _ _ _ _ _ _)
      | (with_reducible exact ih3 _ _ _ _ _ _ _)
      | (with_reducible exact ih4 _ _ _ _ _ _)
      | (with_reducible exact ih5 _ _ _ _ _ _ _ _)
      | (with_reducible exact store_Match.mono _ _ _)
      | (with_reducible exact LeO.refl _)
      | (with_reducible exact LeO.none _)
      | (with_reducible refine LeO.ite ?_ ?_)
      | (with_reducible refine LeO.bind ?_ (fun _ => ?_))
      | exact ih0 _ _ _ _ _
      | exact ih1 _ _ _ _ _ _ _
      | exact ih2 _ _ _ _ _ _ _ _
      | exact ih3 _ _ _ _ _ _ _
      | exact ih4 _ _ _ _ _ _
      | exact ih5 _ _ _ _ _ _ _ _
      | exact store_Match.mono _ _ _
      | exact LeO.none _
      | refine LeO.ite ?_ ?_
      | refine LeO.bind ?_ (fun _ => ?_)
    · intro y0 y1 y2 y3 y4 y5 y6 y7
      unfold postbaglaw12_StorePatterns.l2
      repeat' first
      | (with_reducible exact ih0 _ _ _ _ _)
      | (with_reducible exact ih1 _ _ _ _ _ _ _)
      | (with_reducible exact ih2 _ _ _ _ _ _ _ _)
      | (with_reducible exact ih3 _ _ _ _ _ _ _)
      | (with_reducible exact ih4 _ _ _ _ _ _)
      | (with_reducible exact ih5 _ _ _ _ _ _ _ _)
      | (with_reducible exact store_Match.mono _ _ _)
      | (with_reducible exact LeO.refl _)
      | (with_reducible exact LeO.none _)
      | (with_reducible refine LeO.ite ?_ ?_)
      | (with_reducible refine LeO.bind ?_ (fun _ => ?_))
      | exact ih0 _ _ _ _ _
      | exact ih1 _ _ _ _ _ _ _
      | exact ih2 _ _ _ _ _ _ _ _
      | exact ih3 _ _ _ _ _ _ _
      | exact ih4 _ _ _ _ _ _
      | exact ih5 _ _ _ _ _ _ _ _
      | exact store_Match.mono _ _ _
      | exact LeO.none _
      | refine LeO.ite ?_ ?_
      | refine LeO.bind ?_ (fun _ => ?_)
theorem postbaglaw12_StorePatterns.mono : ∀ a0 a1 a2 a3 k, LeO (postbaglaw12_StorePatterns.f k a0 a1 a2 a3) (postbaglaw12_StorePatterns.f (k + 1) a0 a1 a2 a3) := by
  intro a0 a1 a2 a3 k
  obtain ⟨ih0, ih1, ih2, ih3, ih4, ih5⟩ := postbaglaw12_StorePatterns.mono_l k
  unfold postbaglaw12_StorePatterns.f
  repeat' first
      | (with_reducible exact ih0 _ _ _ _ _)
      | (with_reducible exact ih1 _ _ _ _ _ _ _)
      | (with_reducible exact ih2 _ _ _ _ _ _ _ _)
      | (with_reducible exact ih3 _ _ _ _ _ _ _)
      | (with_reducible exact ih4 _ _ _ _ _ _)
      | (with_reducible exact ih5 _ _ _ _ _ _ _ _)
      | (with_reducible exact store_Match.mono _ _ _)
      | (with_reducible exact LeO.refl _)
      | (with_reducible exact LeO.none _)
      | (with_reducible refine LeO.ite ?_ ?_)
      | (with_reducible refine LeO.bind ?_ (fun _ => ?_))
      | exact ih0 _ _ _ _ _
      | exact ih1 _ _ _ _ _ _ _
      | exact ih2 _ _ _ _ _ _ _ _
      | exact ih3 _ _ _ _ _ _ _
      | exact ih4 _ _ _ _ _ _
      | exact ih5 _ _ _ _ _ _ _ _
      | exact store_Match.mono _ _ _
      | exact LeO.none _
      | refine LeO.ite ?_ ?_
      | refine LeO.bind ?_ (fun _ => ?_)
def postbaglaw12_StorePatterns.T23 : Bool × List (List Nat × List Nat) := (true, [([], []), ([], []), ([0, 1], [0, 1]), ([2], [2]), ([], []), ([], []), ([4, 5], [4, 5]), ([3, 6], [3, 6]), ([], []), ([7, 8], [7, 8]), ([9, 9, 0, 1, 2, 3, 4, 5, 6, 7, 8, 9], [9])])
def postbaglaw12_StorePatterns.B23 : List Nat := [0, 0, 3, 7, 0, 0, 48, 127, 0, 511, 1023]
theorem postbaglaw12_StorePatterns.tab23 : rtab .any (opsOf Try.f4 23) = postbaglaw12_StorePatterns.T23 := by kernel_rfl
theorem postbaglaw12_StorePatterns.bits23 : waitsOk postbaglaw12_StorePatterns.T23.2 postbaglaw12_StorePatterns.B23 = true := by kernel_rfl
def postbaglaw12_StorePatterns.T24 : Bool × List (List Nat × List Nat) := (true, [([], []), ([], []), ([0, 1], [0, 1]), ([2], [2]), ([], []), ([], []), ([4, 5], [4, 5]), ([3, 6], [3, 6]), ([], []), ([7, 8], [7, 8]), ([9, 9, 0, 1, 2, 3, 4, 5, 6, 7, 8, 9], [9])])
def postbaglaw12_StorePatterns.B24 : List Nat := [0, 0, 3, 7, 0, 0, 48, 127, 0, 511, 1023]
theorem postbaglaw12_StorePatterns.tab24 : rtab .any (opsOf Try.f4 24) = postbaglaw12_StorePatterns.T24 := by kernel_rfl
theorem postbaglaw12_StorePatterns.bits24 : waitsOk postbaglaw12_StorePatterns.T24.2 postbaglaw12_StorePatterns.B24 = true := by kernel_rfl
set_option maxHeartbeats 8000000 in
set_option maxRecDepth 100000 in
theorem postbaglaw12_StorePatterns.calls (k : Nat) (a0 : ByteArray) (a1 : ByteArray) (a2 : Int) (a3 : Int) (r : Bool) (w : World) (h : postbaglaw12_StorePatterns.f k a0 a1 a2 a3 = some r) :
    Calls Try.prog 4 #[.string a0, .string a1, .int .i64 a2, .int .i64 a3] w fun e w' => e = .returned (.bool r) ∧ Below w.heap.size w w' := by
  have HB := Aside0.mk (Below.refl w.heap.size w)
  have H : (if (a0.size : Int) > 300 then (postbaglaw12_StorePatterns.j0 k a0 a1 a2 a3 true) else (postbaglaw12_StorePatterns.j0 k a0 a1 a2 a3 (decide ((a1.size : Int) > 300)))) = some r := h
  clear h
  have HC5 := Aside0.mk H
  clear H
  go_enter Try.func4, Try.ntmps4
  go_upto_region 1 with (fail)
  go_cut [26] (fun v26 wc => ∃ (kq : Nat) (x26_4 : Bool), v26 = .bool x26_4 ∧ Aside0 (postbaglaw12_StorePatterns.j0 kq a0 a1 a2 a3 x26_4 = some r) ∧ Aside0 (kq ≤ k) ∧ Aside0 (Below w.heap.size w wc))
  case first =>
    have H := HC5.out
    clear HC5
    by_cases c6 : (a0.size : Int) > 300
    · rw [if_pos c6] at H
      have c6b0 : decide (300 < (a0.size : Int)) = true := decide_eq_true c6
      have c6b1 : decide (300 < a0.size) = true := decide_eq_true (by omega)
      clear c6
      (first | rw [c6b0] | (simp only [i64_w, i32_w]; rw [c6b0]) | skip)
      have H' := Aside0.mk H
      clear H
      go_wp2
      go_meet
      case rel => exact ⟨_, (true), (by first | rfl | (simp; done) | (simp [*]; done) | (simp [bne, *]; done)), H', ⟨by first | omega | exact Nat.le_refl _⟩, ⟨by repeat (first | (with_reducible first | exact HB.out | apply below_alloc | apply pw_below_drewN | apply below_drew1) | exact HB.out)⟩⟩
    · rw [if_neg c6] at H
      have c6b0 : decide (300 < (a0.size : Int)) = false := decide_eq_false c6
      have c6b1 : decide (300 < a0.size) = false := decide_eq_false (by omega)
      clear c6
      (first | rw [c6b0] | (simp only [i64_w, i32_w]; rw [c6b0]) | skip)
      have H' := Aside0.mk H
      clear H
      go_wp2
      go_meet
      case rel => exact ⟨_, (decide ((a1.size : Int) > 300)), (by first | rfl | (simp; done) | (simp [*]; done) | (simp [bne, *]; done)), H', ⟨by first | omega | exact Nat.le_refl _⟩, ⟨by repeat (first | (with_reducible first | exact HB.out | apply below_alloc | apply pw_below_drewN | apply below_drew1) | exact HB.out)⟩⟩
  case rest =>
    clear HC5
    try clear p2
    try clear c4
    try clear c6
    try clear c6b0
    try clear c6b1
    obtain ⟨kq, x26_4, rfl, HA, HJ4, HB⟩ := hcut
    cases kq with
    | zero => exact absurd HA.out (by simp [postbaglaw12_StorePatterns.j0])
    | succ kj4 =>
      have H := HA.out
      clear HA
      simp only [postbaglaw12_StorePatterns.j0] at H
      by_cases c7 : x26_4 = true
      · subst c7
        have H1 : (some true) = some r := by rw [if_pos rfl] at H; exact H
        clear H
        have H := H1
        clear H1
        obtain rfl := Option.some.inj H
        go_wp2
        go_ret
        exact ⟨by first | rfl | (simp [errW_none, errW_some] <;> rfl) | (simp [*, errW_none, errW_some] <;> rfl), by repeat (first | (with_reducible first | exact HB.out | apply below_alloc | apply pw_below_drewN | apply below_drew1) | exact HB.out)⟩
      · replace c7 := Bool.eq_false_iff.mpr c7
        subst c7
        have H1 : (postbaglaw12_StorePatterns.l0 kj4 a0 a1 a2 a3 true false 0) = some r := by rw [if_neg (show ¬ (false = true) by decide)] at H; exact H
        clear H
        have H := H1
        clear H1
        have H' := Aside0.mk H
        clear H
        go_wp2
        go_loopg [9, 10, 11] kj4 (fun kq v9 v10 v11 w' => ∃ (x9_2 : Bool) (x10_2 : Bool) (x11_2 : Int), v9 = .bool x9_2 ∧ v10 = .bool x10_2 ∧ v11 = .int .i64 x11_2 ∧ Aside0 (postbaglaw12_StorePatterns.l0 kq a0 a1 a2 a3 x9_2 x10_2 x11_2 = some r) ∧ Aside0 (kq ≤ kj4) ∧ Aside0 (Below w.heap.size w w'))
        case atStart => exact ⟨(true), (false), (0), (by first | rfl | (simp; done) | (simp [*]; done) | (simp [bne, *]; done)), (by first | rfl | (simp; done) | (simp [*]; done) | (simp [bne, *]; done)), (by first | rfl | (simp; done) | (simp [*]; done) | (simp [bne, *]; done)), H', ⟨Nat.le_refl _⟩, ⟨by repeat (first | (with_reducible first | exact HB.out | apply below_alloc | apply pw_below_drewN | apply below_drew1) | exact HB.out)⟩⟩
        case round =>
          clear H'
          try clear p2
          try clear c4
          try clear c6
          try clear c6b0
          try clear c6b1
          try clear c7
          try clear p2
          obtain ⟨x9_2, x10_2, x11_2, rfl, rfl, rfl, HA, HK2, HB⟩ := hrel
          cases gk with
          | zero => exact absurd HA.out (by simp [postbaglaw12_StorePatterns.l0])
          | succ k2 =>
            have H := HA.out
            clear HA
            simp only [postbaglaw12_StorePatterns.l0] at H
            by_cases c8 : x11_2 < (a0.size : Int)
            · rw [if_pos c8] at H
              have c8b0 : decide (x11_2 < (a0.size : Int)) = true := decide_eq_true c8
              clear c8
              by_cases c9 : x9_2 = true
              · subst c9
                have H1 : (if 0 ≤ x11_2 then (if (bt a0 x11_2) = 42 then (if x10_2 = true then (postbaglaw12_StorePatterns.l0 k2 a0 a1 a2 a3 false true (wrap64 (x11_2 + 1))) else (postbaglaw12_StorePatterns.l0 k2 a0 a1 a2 a3 false ((bt a0 x11_2) == 47) (wrap64 (x11_2 + 1)))) else (if x10_2 = true then (postbaglaw12_StorePatterns.l0 k2 a0 a1 a2 a3 ((bt a0 x11_2) != 37) true (wrap64 (x11_2 + 1))) else (postbaglaw12_StorePatterns.l0 k2 a0 a1 a2 a3 ((bt a0 x11_2) != 37) ((bt a0 x11_2) == 47) (wrap64 (x11_2 + 1))))) else (none)) = some r := by rw [if_pos rfl] at H; exact H
                clear H
                have H := H1
                clear H1
                by_cases c10 : 0 ≤ x11_2
                · rw [if_pos c10] at H
                  have c10b0 : decide (0 ≤ x11_2) = true := decide_eq_true c10
                  clear c10
                  by_cases c12 : (bt a0 x11_2) = 42
                  · rw [if_pos c12] at H
                    have c12b0 : ((bt a0 x11_2) == 42) = true := beq_iff_eq.mpr c12
                    have c12b1 : ((bt a0 x11_2) != 42) = false := bne_eq_false_iff_eq.mpr c12
                    clear c12
                    by_cases c13 : x10_2 = true
                    · subst c13
                      have H1 : (postbaglaw12_StorePatterns.l0 k2 a0 a1 a2 a3 false true (wrap64 (x11_2 + 1))) = some r := by rw [if_pos rfl] at H; exact H
                      clear H
                      have H := H1
                      clear H1
                      have H' := Aside0.mk H
                      clear H
                      have p11 : 0 ≤ (x11_2 : Int) := of_decide_eq_true (by first | (with_reducible assumption) | assumption)
                      have q11 : x11_2 < (a0.size : Int) := of_decide_eq_true (by first | (with_reducible assumption) | assumption)
                      have hx11 := bt_at a0 x11_2
                      replace p11 := eq_true p11
                      replace q11 := eq_true q11
                      go_wp2
                      go_roundg k2
                      case measure => have := HJ4.out; have := HK2.out; omega
                      case rel => exact ⟨(false), (true), (wrap64 (x11_2 + 1)), (by first | rfl | (simp; done) | (simp [*]; done) | (simp [bne, *]; done)), (by first | rfl | (simp; done) | (simp [*]; done) | (simp [bne, *]; done)), (by first | rfl | (simp; done) | (simp [*]; done) | (simp [bne, *]; done)), H', ⟨by have := HJ4.out; have := HK2.out; omega⟩, ⟨by repeat (first | (with_reducible first | exact HB.out | apply below_alloc | apply pw_below_drewN | apply below_drew1) | exact HB.out)⟩⟩
                    · replace c13 := Bool.eq_false_iff.mpr c13
                      subst c13
                      have H1 : (postbaglaw12_StorePatterns.l0 k2 a0 a1 a2 a3 false ((bt a0 x11_2) == 47) (wrap64 (x11_2 + 1))) = some r := by rw [if_neg (show ¬ (false = true) by decide)] at H; exact H
                      clear H
                      have H := H1
                      clear H1
                      have H' := Aside0.mk H
                      clear H
                      have p11 : 0 ≤ (x11_2 : Int) := of_decide_eq_true (by first | (with_reducible assumption) | assumption)
                      have q11 : x11_2 < (a0.size : Int) := of_decide_eq_true (by first | (with_reducible assumption) | assumption)
                      have hx11 := bt_at a0 x11_2
                      replace p11 := eq_true p11
                      replace q11 := eq_true q11
                      have p14 : 0 ≤ (x11_2 : Int) := of_decide_eq_true (by first | (with_reducible assumption) | assumption)
                      have q14 : x11_2 < (a0.size : Int) := of_decide_eq_true (by first | (with_reducible assumption) | assumption)
                      have hx14 := bt_at a0 x11_2
                      replace p14 := eq_true p14
                      replace q14 := eq_true q14
                      go_wp2
                      go_roundg k2
                      case measure => have := HJ4.out; have := HK2.out; omega
                      case rel => exact ⟨(false), (((bt a0 x11_2) == 47)), (wrap64 (x11_2 + 1)), (by first | rfl | (simp; done) | (simp [*]; done) | (simp [bne, *]; done)), (by first | rfl | (simp; done) | (simp [*]; done) | (simp [bne, *]; done)), (by first | rfl | (simp; done) | (simp [*]; done) | (simp [bne, *]; done)), H', ⟨by have := HJ4.out; have := HK2.out; omega⟩, ⟨by repeat (first | (with_reducible first | exact HB.out | apply below_alloc | apply pw_below_drewN | apply below_drew1) | exact HB.out)⟩⟩
                  · rw [if_neg c12] at H
                    have c12b0 : ((bt a0 x11_2) == 42) = false := beq_eq_false_iff_ne.mpr c12
                    have c12b1 : ((bt a0 x11_2) != 42) = true := bne_iff_ne.mpr c12
                    by_cases c16 : x10_2 = true
                    · subst c16
                      have H1 : (postbaglaw12_StorePatterns.l0 k2 a0 a1 a2 a3 ((bt a0 x11_2) != 37) true (wrap64 (x11_2 + 1))) = some r := by rw [if_pos rfl] at H; exact H
                      clear H
                      have H := H1
                      clear H1
                      have H' := Aside0.mk H
                      clear H
                      have p11 : 0 ≤ (x11_2 : Int) := of_decide_eq_true (by first | (with_reducible assumption) | assumption)
                      have q11 : x11_2 < (a0.size : Int) := of_decide_eq_true (by first | (with_reducible assumption) | assumption)
                      have hx11 := bt_at a0 x11_2
                      replace p11 := eq_true p11
                      replace q11 := eq_true q11
                      have p15 : 0 ≤ (x11_2 : Int) := of_decide_eq_true (by first | (with_reducible assumption) | assumption)
                      have q15 : x11_2 < (a0.size : Int) := of_decide_eq_true (by first | (with_reducible assumption) | assumption)
                      have hx15 := bt_at a0 x11_2
                      replace p15 := eq_true p15
                      replace q15 := eq_true q15
                      go_wp2
                      go_roundg k2
                      case measure => have := HJ4.out; have := HK2.out; omega
                      case rel => exact ⟨(((bt a0 x11_2) != 37)), (true), (wrap64 (x11_2 + 1)), (by first | rfl | (simp; done) | (simp [*]; done) | (simp [bne, *]; done)), (by first | rfl | (simp; done) | (simp [*]; done) | (simp [bne, *]; done)), (by first | rfl | (simp; done) | (simp [*]; done) | (simp [bne, *]; done)), H', ⟨by have := HJ4.out; have := HK2.out; omega⟩, ⟨by repeat (first | (with_reducible first | exact HB.out | apply below_alloc | apply pw_below_drewN | apply below_drew1) | exact HB.out)⟩⟩
                    · replace c16 := Bool.eq_false_iff.mpr c16
                      subst c16
                      have H1 : (postbaglaw12_StorePatterns.l0 k2 a0 a1 a2 a3 ((bt a0 x11_2) != 37) ((bt a0 x11_2) == 47) (wrap64 (x11_2 + 1))) = some r := by rw [if_neg (show ¬ (false = true) by decide)] at H; exact H
                      clear H
                      have H := H1
                      clear H1
                      have H' := Aside0.mk H
                      clear H
                      have p11 : 0 ≤ (x11_2 : Int) := of_decide_eq_true (by first | (with_reducible assumption) | assumption)
                      have q11 : x11_2 < (a0.size : Int) := of_decide_eq_true (by first | (with_reducible assumption) | assumption)
                      have hx11 := bt_at a0 x11_2
                      replace p11 := eq_true p11
                      replace q11 := eq_true q11
                      have p15 : 0 ≤ (x11_2 : Int) := of_decide_eq_true (by first | (with_reducible assumption) | assumption)
                      have q15 : x11_2 < (a0.size : Int) := of_decide_eq_true (by first | (with_reducible assumption) | assumption)
                      have hx15 := bt_at a0 x11_2
                      replace p15 := eq_true p15
                      replace q15 := eq_true q15
                      have p17 : 0 ≤ (x11_2 : Int) := of_decide_eq_true (by first | (with_reducible assumption) | assumption)
                      have q17 : x11_2 < (a0.size : Int) := of_decide_eq_true (by first | (with_reducible assumption) | assumption)
                      have hx17 := bt_at a0 x11_2
                      replace p17 := eq_true p17
                      replace q17 := eq_true q17
                      go_wp2
                      go_roundg k2
                      case measure => have := HJ4.out; have := HK2.out; omega
                      case rel => exact ⟨(((bt a0 x11_2) != 37)), (((bt a0 x11_2) == 47)), (wrap64 (x11_2 + 1)), (by first | rfl | (simp; done) | (simp [*]; done) | (simp [bne, *]; done)), (by first | rfl | (simp; done) | (simp [*]; done) | (simp [bne, *]; done)), (by first | rfl | (simp; done) | (simp [*]; done) | (simp [bne, *]; done)), H', ⟨by have := HJ4.out; have := HK2.out; omega⟩, ⟨by repeat (first | (with_reducible first | exact HB.out | apply below_alloc | apply pw_below_drewN | apply below_drew1) | exact HB.out)⟩⟩
                · rw [if_neg c10] at H
                  exact absurd H (by simp)
              · replace c9 := Bool.eq_false_iff.mpr c9
                subst c9
                have H1 : (if x10_2 = true then (postbaglaw12_StorePatterns.l0 k2 a0 a1 a2 a3 false true (wrap64 (x11_2 + 1))) else (if 0 ≤ x11_2 then (postbaglaw12_StorePatterns.l0 k2 a0 a1 a2 a3 false ((bt a0 x11_2) == 47) (wrap64 (x11_2 + 1))) else (none))) = some r := by rw [if_neg (show ¬ (false = true) by decide)] at H; exact H
                clear H
                have H := H1
                clear H1
                by_cases c18 : x10_2 = true
                · subst c18
                  have H1 : (postbaglaw12_StorePatterns.l0 k2 a0 a1 a2 a3 false true (wrap64 (x11_2 + 1))) = some r := by rw [if_pos rfl] at H; exact H
                  clear H
                  have H := H1
                  clear H1
                  have H' := Aside0.mk H
                  clear H
                  go_wp2
                  go_roundg k2
                  case measure => have := HJ4.out; have := HK2.out; omega
                  case rel => exact ⟨(false), (true), (wrap64 (x11_2 + 1)), (by first | rfl | (simp; done) | (simp [*]; done) | (simp [bne, *]; done)), (by first | rfl | (simp; done) | (simp [*]; done) | (simp [bne, *]; done)), (by first | rfl | (simp; done) | (simp [*]; done) | (simp [bne, *]; done)), H', ⟨by have := HJ4.out; have := HK2.out; omega⟩, ⟨by repeat (first | (with_reducible first | exact HB.out | apply below_alloc | apply pw_below_drewN | apply below_drew1) | exact HB.out)⟩⟩
                · replace c18 := Bool.eq_false_iff.mpr c18
                  subst c18
                  have H1 : (if 0 ≤ x11_2 then (postbaglaw12_StorePatterns.l0 k2 a0 a1 a2 a3 false ((bt a0 x11_2) == 47) (wrap64 (x11_2 + 1))) else (none)) = some r := by rw [if_neg (show ¬ (false = true) by decide)] at H; exact H
                  clear H
                  have H := H1
                  clear H1
                  by_cases c19 : 0 ≤ x11_2
                  · rw [if_pos c19] at H
                    have c19b0 : decide (0 ≤ x11_2) = true := decide_eq_true c19
                    clear c19
                    have H' := Aside0.mk H
                    clear H
                    have p20 : 0 ≤ (x11_2 : Int) := of_decide_eq_true (by first | (with_reducible assumption) | assumption)
                    have q20 : x11_2 < (a0.size : Int) := of_decide_eq_true (by first | (with_reducible assumption) | assumption)
                    have hx20 := bt_at a0 x11_2
                    replace p20 := eq_true p20
                    replace q20 := eq_true q20
                    go_wp2
                    go_roundg k2
                    case measure => have := HJ4.out; have := HK2.out; omega
                    case rel => exact ⟨(false), (((bt a0 x11_2) == 47)), (wrap64 (x11_2 + 1)), (by first | rfl | (simp; done) | (simp [*]; done) | (simp [bne, *]; done)), (by first | rfl | (simp; done) | (simp [*]; done) | (simp [bne, *]; done)), (by first | rfl | (simp; done) | (simp [*]; done) | (simp [bne, *]; done)), H', ⟨by have := HJ4.out; have := HK2.out; omega⟩, ⟨by repeat (first | (with_reducible first | exact HB.out | apply below_alloc | apply pw_below_drewN | apply below_drew1) | exact HB.out)⟩⟩
                  · rw [if_neg c19] at H
                    exact absurd H (by simp)
            · rw [if_neg c8] at H
              have c8b0 : decide (x11_2 < (a0.size : Int)) = false := decide_eq_false c8
              clear c8
              replace H := Option.bind_eq_some_iff.mp H
              obtain ⟨t150, A210, H⟩ := H
              replace H : ((postbaglaw12_spot.f a3 (wrap64 ((wrap64 ((a0.size : Int) + 1)) - t150))).bind fun t151 => (postbaglaw12_StorePatterns.l1 k2 a0 a1 t150 (wrap64 (t150 + t151)) x9_2 x10_2 false t150)) = some r := H
              have A21 := Aside0.mk A210
              clear A210
              replace H := Option.bind_eq_some_iff.mp H
              obtain ⟨t151, A220, H⟩ := H
              replace H : (postbaglaw12_StorePatterns.l1 k2 a0 a1 t150 (wrap64 (t150 + t151)) x9_2 x10_2 false t150) = some r := H
              have A22 := Aside0.mk A220
              clear A220
              have H' := Aside0.mk H
              clear H
              go_wp2_with (first | ((with_reducible refine gate_callee (f := 8) rfl ?_); refine goesL_ (some 57) rfl rfl Try.func8 (by kernel_rfl) rfl #[.int .i64 a2, .int .i64 (wrap64 ((a0.size : Int) + 1))] rfl (by (try simp only [List.map_toArray, List.map_cons, List.map_nil]); first | done | rfl | (simp only [List.length_drop, List.length_take]; rfl)) ?_; (with_reducible refine (postbaglaw12_spot.calls a2 (wrap64 ((a0.size : Int) + 1)) t150 _ A21.out).mono ?_); rintro e w' ⟨rfl, ⟨nd, rfl⟩⟩; refine ⟨_, rfl, ?_⟩) | ((with_reducible refine gate_callee (f := 8) rfl ?_); refine goesL_ (some 65) rfl rfl Try.func8 (by kernel_rfl) rfl #[.int .i64 a3, .int .i64 (wrap64 ((wrap64 ((a0.size : Int) + 1)) - t150))] rfl (by (try simp only [List.map_toArray, List.map_cons, List.map_nil]); first | done | rfl | (simp only [List.length_drop, List.length_take]; rfl)) ?_; (with_reducible refine (postbaglaw12_spot.calls a3 (wrap64 ((wrap64 ((a0.size : Int) + 1)) - t150)) t151 _ A22.out).mono ?_); rintro e w' ⟨rfl, ⟨nd, rfl⟩⟩; refine ⟨_, rfl, ?_⟩))
              go_loopg [12, 13] k2 (fun kq v12 v13 w' => ∃ (x12_3 : Bool) (x13_3 : Int), v12 = .bool x12_3 ∧ v13 = .int .i64 x13_3 ∧ Aside0 (postbaglaw12_StorePatterns.l1 kq a0 a1 t150 (wrap64 (t150 + t151)) x9_2 x10_2 x12_3 x13_3 = some r) ∧ Aside0 (kq ≤ k2) ∧ Aside0 (Below w.heap.size w w'))
              case atStart => exact ⟨(false), (t150), (by first | rfl | (simp; done) | (simp [*]; done) | (simp [bne, *]; done)), (by first | rfl | (simp; done) | (simp [*]; done) | (simp [bne, *]; done)), H', ⟨Nat.le_refl _⟩, ⟨by repeat (first | (with_reducible first | exact HB.out | apply below_alloc | apply pw_below_drewN | apply below_drew1) | exact HB.out)⟩⟩
              case round =>
                clear H'
                try clear c1
                try clear p1
                try clear q1
                try clear hx1
                try clear p2
                try clear q2
                try clear hx2
                try clear c4
                try clear c6
                try clear c6b0
                try clear c6b1
                try clear p6
                try clear c7
                try clear c8
                try clear c8b0
                try clear c9
                try clear c10
                try clear c10b0
                try clear p11
                try clear q11
                try clear hx11
                try clear c12
                try clear c12b0
                try clear c12b1
                try clear c13
                try clear p14
                try clear q14
                try clear hx14
                try clear p15
                try clear q15
                try clear hx15
                try clear c16
                try clear p17
                try clear q17
                try clear hx17
                try clear c18
                try clear c19
                try clear c19b0
                try clear p20
                try clear q20
                try clear hx20
                try clear p11
                try clear p14
                try clear p15
                try clear p17
                try clear p2
                try clear p20
                try clear q11
                try clear q14
                try clear q15
                try clear q17
                try clear q20
                obtain ⟨x12_3, x13_3, rfl, rfl, HA, HK3, HB⟩ := hrel
                cases gk with
                | zero => exact absurd HA.out (by simp [postbaglaw12_StorePatterns.l1])
                | succ k3 =>
                  have H := HA.out
                  clear HA
                  simp only [postbaglaw12_StorePatterns.l1] at H
                  by_cases c23 : x13_3 < (wrap64 (t150 + t151))
                  · rw [if_pos c23] at H
                    have c23b0 : decide (x13_3 < (wrap64 (t150 + t151))) = true := decide_eq_true c23
                    clear c23
                    by_cases c24 : x12_3 = true
                    · subst c24
                      have H1 : (postbaglaw12_StorePatterns.l1 k3 a0 a1 t150 (wrap64 (t150 + t151)) x9_2 x10_2 true (wrap64 (x13_3 + 1))) = some r := by rw [if_pos rfl] at H; exact H
                      clear H
                      have H := H1
                      clear H1
                      have H' := Aside0.mk H
                      clear H
                      go_wp2
                      go_roundg k3
                      case measure => have := HJ4.out; have := HK2.out; have := HK3.out; omega
                      case rel => exact ⟨(true), (wrap64 (x13_3 + 1)), (by first | rfl | (simp; done) | (simp [*]; done) | (simp [bne, *]; done)), (by first | rfl | (simp; done) | (simp [*]; done) | (simp [bne, *]; done)), H', ⟨by have := HJ4.out; have := HK2.out; have := HK3.out; omega⟩, ⟨by repeat (first | (with_reducible first | exact HB.out | apply below_alloc | apply pw_below_drewN | apply below_drew1) | exact HB.out)⟩⟩
                    · replace c24 := Bool.eq_false_iff.mpr c24
                      subst c24
                      have H1 : (if 0 ≤ x13_3 then (if x13_3 < (a0.size : Int) then (postbaglaw12_StorePatterns.l1 k3 a0 a1 t150 (wrap64 (t150 + t151)) x9_2 x10_2 ((bt a0 x13_3) == 47) (wrap64 (x13_3 + 1))) else (none)) else (none)) = some r := by rw [if_neg (show ¬ (false = true) by decide)] at H; exact H
                      clear H
                      have H := H1
                      clear H1
                      by_cases c25 : 0 ≤ x13_3
                      · rw [if_pos c25] at H
                        have c25b0 : decide (0 ≤ x13_3) = true := decide_eq_true c25
                        clear c25
                        by_cases c26 : x13_3 < (a0.size : Int)
                        · rw [if_pos c26] at H
                          have c26b0 : decide (x13_3 < (a0.size : Int)) = true := decide_eq_true c26
                          clear c26
                          have H' := Aside0.mk H
                          clear H
                          have p27 : 0 ≤ (x13_3 : Int) := of_decide_eq_true (by first | (with_reducible assumption) | assumption)
                          have q27 : x13_3 < (a0.size : Int) := of_decide_eq_true (by first | (with_reducible assumption) | assumption)
                          have hx27 := bt_at a0 x13_3
                          replace p27 := eq_true p27
                          replace q27 := eq_true q27
                          go_wp2
                          go_roundg k3
                          case measure => have := HJ4.out; have := HK2.out; have := HK3.out; omega
                          case rel => exact ⟨(((bt a0 x13_3) == 47)), (wrap64 (x13_3 + 1)), (by first | rfl | (simp; done) | (simp [*]; done) | (simp [bne, *]; done)), (by first | rfl | (simp; done) | (simp [*]; done) | (simp [bne, *]; done)), H', ⟨by have := HJ4.out; have := HK2.out; have := HK3.out; omega⟩, ⟨by repeat (first | (with_reducible first | exact HB.out | apply below_alloc | apply pw_below_drewN | apply below_drew1) | exact HB.out)⟩⟩
                        · rw [if_neg c26] at H
                          exact absurd H (by simp)
                      · rw [if_neg c25] at H
                        exact absurd H (by simp)
                  · rw [if_neg c23] at H
                    have c23b0 : decide (x13_3 < (wrap64 (t150 + t151))) = false := decide_eq_false c23
                    clear c23
                    have HC28 := Aside0.mk H
                    clear H
                    go_upto_region 17 with (fail)
                    go_cut [95] (fun v95 wc => ∃ (kq : Nat) (x95_27 : Bool), v95 = .bool x95_27 ∧ Aside0 (postbaglaw12_StorePatterns.j3 kq a0 a1 t150 (wrap64 (t150 + t151)) x9_2 x12_3 x95_27 = some r) ∧ Aside0 (kq ≤ k3) ∧ Aside0 (Below w.heap.size w wc))
                    case first =>
                      have H := HC28.out
                      clear HC28
                      replace H := Option.bind_eq_some_iff.mp H
                      obtain ⟨t152, A290, H⟩ := H
                      replace H : (if t152 = true then ((store_Match.f k3 (⟨#[37]⟩ : ByteArray) a0).bind fun t153 => (if (t153 == x10_2) = true then (postbaglaw12_StorePatterns.j3 k3 a0 a1 t150 (wrap64 (t150 + t151)) x9_2 x12_3 true) else ((store_Match.f k3 (⟨#[]⟩ : ByteArray) a0).bind fun t154 => (postbaglaw12_StorePatterns.j3 k3 a0 a1 t150 (wrap64 (t150 + t151)) x9_2 x12_3 (t154 != (a0.toList == ([] : List UInt8))))))) else (postbaglaw12_StorePatterns.j3 k3 a0 a1 t150 (wrap64 (t150 + t151)) x9_2 x12_3 true)) = some r := H
                      have A29 := Aside0.mk A290
                      clear A290
                      by_cases c30 : t152 = true
                      · subst c30
                        have H1 : ((store_Match.f k3 (⟨#[37]⟩ : ByteArray) a0).bind fun t153 => (if (t153 == x10_2) = true then (postbaglaw12_StorePatterns.j3 k3 a0 a1 t150 (wrap64 (t150 + t151)) x9_2 x12_3 true) else ((store_Match.f k3 (⟨#[]⟩ : ByteArray) a0).bind fun t154 => (postbaglaw12_StorePatterns.j3 k3 a0 a1 t150 (wrap64 (t150 + t151)) x9_2 x12_3 (t154 != (a0.toList == ([] : List UInt8))))))) = some r := by rw [if_pos rfl] at H; exact H
                        clear H
                        have H := H1
                        clear H1
                        replace H := Option.bind_eq_some_iff.mp H
                        obtain ⟨t153, A310, H⟩ := H
                        replace H : (if (t153 == x10_2) = true then (postbaglaw12_StorePatterns.j3 k3 a0 a1 t150 (wrap64 (t150 + t151)) x9_2 x12_3 true) else ((store_Match.f k3 (⟨#[]⟩ : ByteArray) a0).bind fun t154 => (postbaglaw12_StorePatterns.j3 k3 a0 a1 t150 (wrap64 (t150 + t151)) x9_2 x12_3 (t154 != (a0.toList == ([] : List UInt8)))))) = some r := H
                        have A31 := Aside0.mk A310
                        clear A310
                        by_cases c32 : (t153 == x10_2) = true
                        · rw [if_pos c32] at H
                          have c32b0 : (t153 == x10_2) = true := c32
                          (try (have c32b1 : decide (t153 = x10_2) = true := by simpa using c32))
                          (try (have c32b2 : (t153 == x10_2) = true := by simpa using c32))
                          clear c32
                          (first | rw [c32b0] | (simp only [i64_w, i32_w]; rw [c32b0]) | skip)
                          have H' := Aside0.mk H
                          clear H
                          go_wp2_with (first | ((with_reducible refine gate_callee (f := 6) rfl ?_); refine goesL_ (some 81) rfl rfl Try.func6 (by kernel_rfl) rfl #[.string (⟨#[42]⟩ : ByteArray), .string a0] rfl (by (try simp only [List.map_toArray, List.map_cons, List.map_nil]); first | done | rfl | (simp only [List.length_drop, List.length_take]; rfl)) ?_; (with_reducible refine (store_Match.calls k3 (⟨#[42]⟩ : ByteArray) a0 true _ A29.out).mono ?_); rintro e w33 ⟨rfl, hb⟩; refine ⟨_, rfl, ?_⟩; have n0_ := Aside0.mk (below_step (by repeat (first | (with_reducible first | exact HB.out | apply below_alloc | apply pw_below_drewN | apply below_drew1) | exact HB.out)) hb); clear HB; have HB := n0_; clear n0_; (try clear hb); (try clear hb2); (try clear hk); (try clear hi)) | (go_at_call 6; (with_reducible refine (store_Match.calls k3 (⟨#[37]⟩ : ByteArray) a0 t153 _ A31.out).mono ?_); rintro e w34 ⟨rfl, hb⟩; have n0_ := Aside0.mk (below_step (by repeat (first | (with_reducible first | exact HB.out | apply below_alloc | apply pw_below_drewN | apply below_drew1) | exact HB.out)) hb); clear HB; have HB := n0_; clear n0_; (try clear hb); (try clear hb2); (try clear hk); (try clear hi)))
                          go_meet
                          case rel => exact ⟨_, (true), (by first | rfl | (simp; done) | (simp [*]; done) | (simp [bne, *]; done)), H', ⟨by have := HJ4.out; have := HK2.out; have := HK3.out; first | omega | exact Nat.le_refl _⟩, ⟨by repeat (first | (with_reducible first | exact HB.out | apply below_alloc | apply pw_below_drewN | apply below_drew1) | exact HB.out)⟩⟩
                        · rw [if_neg c32] at H
                          have c32b0 : (t153 == x10_2) = false := by simpa using c32
                          (try (have c32b1 : decide (t153 = x10_2) = false := by simpa using c32))
                          (try (have c32b2 : (t153 == x10_2) = false := by simpa using c32))
                          (try (have c32b3 : ¬ (t153 = x10_2) := by simpa using c32))
                          clear c32
                          (first | rw [c32b0] | (simp only [i64_w, i32_w]; rw [c32b0]) | skip)
                          replace H := Option.bind_eq_some_iff.mp H
                          obtain ⟨t154, A350, H⟩ := H
                          replace H : (postbaglaw12_StorePatterns.j3 k3 a0 a1 t150 (wrap64 (t150 + t151)) x9_2 x12_3 (t154 != (a0.toList == ([] : List UInt8)))) = some r := H
                          have A35 := Aside0.mk A350
                          clear A350
                          have H' := Aside0.mk H
                          clear H
                          go_wp2_with (first | ((with_reducible refine gate_callee (f := 6) rfl ?_); refine goesL_ (some 81) rfl rfl Try.func6 (by kernel_rfl) rfl #[.string (⟨#[42]⟩ : ByteArray), .string a0] rfl (by (try simp only [List.map_toArray, List.map_cons, List.map_nil]); first | done | rfl | (simp only [List.length_drop, List.length_take]; rfl)) ?_; (with_reducible refine (store_Match.calls k3 (⟨#[42]⟩ : ByteArray) a0 true _ A29.out).mono ?_); rintro e w36 ⟨rfl, hb⟩; refine ⟨_, rfl, ?_⟩; have n0_ := Aside0.mk (below_step (by repeat (first | (with_reducible first | exact HB.out | apply below_alloc | apply pw_below_drewN | apply below_drew1) | exact HB.out)) hb); clear HB; have HB := n0_; clear n0_; (try clear hb); (try clear hb2); (try clear hk); (try clear hi)) | (go_at_call 6; (with_reducible refine (store_Match.calls k3 (⟨#[37]⟩ : ByteArray) a0 t153 _ A31.out).mono ?_); rintro e w37 ⟨rfl, hb⟩; have n0_ := Aside0.mk (below_step (by repeat (first | (with_reducible first | exact HB.out | apply below_alloc | apply pw_below_drewN | apply below_drew1) | exact HB.out)) hb); clear HB; have HB := n0_; clear n0_; (try clear hb); (try clear hb2); (try clear hk); (try clear hi)) | (go_at_call 6; (with_reducible refine (store_Match.calls k3 (⟨#[]⟩ : ByteArray) a0 t154 _ A35.out).mono ?_); rintro e w38 ⟨rfl, hb⟩; have n0_ := Aside0.mk (below_step (by repeat (first | (with_reducible first | exact HB.out | apply below_alloc | apply pw_below_drewN | apply below_drew1) | exact HB.out)) hb); clear HB; have HB := n0_; clear n0_; (try clear hb); (try clear hb2); (try clear hk); (try clear hi)))
                          go_meet
                          case rel => exact ⟨_, ((t154 != (a0.toList == ([] : List UInt8)))), (by first | rfl | (simp; done) | (simp [*]; done) | (simp [bne, *]; done)), H', ⟨by have := HJ4.out; have := HK2.out; have := HK3.out; first | omega | exact Nat.le_refl _⟩, ⟨by repeat (first | (with_reducible first | exact HB.out | apply below_alloc | apply pw_below_drewN | apply below_drew1) | exact HB.out)⟩⟩
                      · replace c30 := Bool.eq_false_iff.mpr c30
                        subst c30
                        have H1 : (postbaglaw12_StorePatterns.j3 k3 a0 a1 t150 (wrap64 (t150 + t151)) x9_2 x12_3 true) = some r := by rw [if_neg (show ¬ (false = true) by decide)] at H; exact H
                        clear H
                        have H := H1
                        clear H1
                        have H' := Aside0.mk H
                        clear H
                        go_wp2_with (first | ((with_reducible refine gate_callee (f := 6) rfl ?_); refine goesL_ (some 81) rfl rfl Try.func6 (by kernel_rfl) rfl #[.string (⟨#[42]⟩ : ByteArray), .string a0] rfl (by (try simp only [List.map_toArray, List.map_cons, List.map_nil]); first | done | rfl | (simp only [List.length_drop, List.length_take]; rfl)) ?_; (with_reducible refine (store_Match.calls k3 (⟨#[42]⟩ : ByteArray) a0 false _ A29.out).mono ?_); rintro e w39 ⟨rfl, hb⟩; refine ⟨_, rfl, ?_⟩; have n0_ := Aside0.mk (below_step (by repeat (first | (with_reducible first | exact HB.out | apply below_alloc | apply pw_below_drewN | apply below_drew1) | exact HB.out)) hb); clear HB; have HB := n0_; clear n0_; (try clear hb); (try clear hb2); (try clear hk); (try clear hi)))
                        go_meet
                        case rel => exact ⟨_, (true), (by first | rfl | (simp; done) | (simp [*]; done) | (simp [bne, *]; done)), H', ⟨by have := HJ4.out; have := HK2.out; have := HK3.out; first | omega | exact Nat.le_refl _⟩, ⟨by repeat (first | (with_reducible first | exact HB.out | apply below_alloc | apply pw_below_drewN | apply below_drew1) | exact HB.out)⟩⟩
                    case rest =>
                      clear HC28
                      try clear c1
                      try clear p1
                      try clear q1
                      try clear hx1
                      try clear c2
                      try clear p2
                      try clear q2
                      try clear hx2
                      try clear c3
                      try clear c4
                      try clear c6
                      try clear c6b0
                      try clear c6b1
                      try clear p6
                      try clear c7
                      try clear c8
                      try clear c8b0
                      try clear c9
                      try clear c10
                      try clear c10b0
                      try clear p11
                      try clear q11
                      try clear hx11
                      try clear c12
                      try clear c12b0
                      try clear c12b1
                      try clear c13
                      try clear p14
                      try clear q14
                      try clear hx14
                      try clear p15
                      try clear q15
                      try clear hx15
                      try clear c16
                      try clear p17
                      try clear q17
                      try clear hx17
                      try clear c18
                      try clear c19
                      try clear c19b0
                      try clear p20
                      try clear q20
                      try clear hx20
                      try clear c23
                      try clear c23b0
                      try clear c24
                      try clear c25
                      try clear c25b0
                      try clear c26
                      try clear c26b0
                      try clear p27
                      try clear q27
                      try clear hx27
                      try clear c30
                      try clear c32
                      try clear c32b0
                      try clear c32b1
                      try clear c32b2
                      try clear p1
                      try clear p11
                      try clear p14
                      try clear p15
                      try clear p17
                      try clear p2
                      try clear p20
                      try clear p27
                      try clear p6
                      try clear q1
                      try clear q11
                      try clear q14
                      try clear q15
                      try clear q17
                      try clear q2
                      try clear q20
                      try clear q27
                      obtain ⟨kq, x95_27, rfl, HA, HJ27, HB⟩ := hcut
                      cases kq with
                      | zero => exact absurd HA.out (by simp [postbaglaw12_StorePatterns.j3])
                      | succ kj27 =>
                        have H := HA.out
                        clear HA
                        simp only [postbaglaw12_StorePatterns.j3] at H
                        by_cases c40 : x95_27 = true
                        · subst c40
                          have H1 : (some false) = some r := by rw [if_pos rfl] at H; exact H
                          clear H
                          have H := H1
                          clear H1
                          obtain rfl := Option.some.inj H
                          go_wp2
                          go_ret
                          exact ⟨by first | rfl | (simp [errW_none, errW_some] <;> rfl) | (simp [*, errW_none, errW_some] <;> rfl), by repeat (first | (with_reducible first | exact HB.out | apply below_alloc | apply pw_below_drewN | apply below_drew1) | exact HB.out)⟩
                        · replace c40 := Bool.eq_false_iff.mpr c40
                          subst c40
                          have H1 : (if x9_2 = true then (if a1.toList = a0.toList then (postbaglaw12_StorePatterns.j4 kj27 a0 a1 t150 (wrap64 (t150 + t151)) x12_3 false) else (if a0.toList = ([73, 78, 66, 79, 88] : List UInt8) then (postbaglaw12_StorePatterns.j4 kj27 a0 a1 t150 (wrap64 (t150 + t151)) x12_3 true) else (if (a0.size : Int) > 5 then (if 0 ≤ 6 then (if 6 ≤ (a0.size : Int) then (postbaglaw12_StorePatterns.j4 kj27 a0 a1 t150 (wrap64 (t150 + t151)) x12_3 ((a0.extract 0 6).toList == ([73, 78, 66, 79, 88, 47] : List UInt8))) else (none)) else (none)) else (postbaglaw12_StorePatterns.j4 kj27 a0 a1 t150 (wrap64 (t150 + t151)) x12_3 false)))) else (some true)) = some r := by rw [if_neg (show ¬ (false = true) by decide)] at H; exact H
                          clear H
                          have H := H1
                          clear H1
                          by_cases c41 : x9_2 = true
                          · subst c41
                            have H1 : (if a1.toList = a0.toList then (postbaglaw12_StorePatterns.j4 kj27 a0 a1 t150 (wrap64 (t150 + t151)) x12_3 false) else (if a0.toList = ([73, 78, 66, 79, 88] : List UInt8) then (postbaglaw12_StorePatterns.j4 kj27 a0 a1 t150 (wrap64 (t150 + t151)) x12_3 true) else (if (a0.size : Int) > 5 then (if 0 ≤ 6 then (if 6 ≤ (a0.size : Int) then (postbaglaw12_StorePatterns.j4 kj27 a0 a1 t150 (wrap64 (t150 + t151)) x12_3 ((a0.extract 0 6).toList == ([73, 78, 66, 79, 88, 47] : List UInt8))) else (none)) else (none)) else (postbaglaw12_StorePatterns.j4 kj27 a0 a1 t150 (wrap64 (t150 + t151)) x12_3 false)))) = some r := by rw [if_pos rfl] at H; exact H
                            clear H
                            have H := H1
                            clear H1
                            have HC42 := Aside0.mk H
                            clear H
                            go_upto_region 21 with (fail)
                            go_cut [14] (fun v14 wc => ∃ (kq : Nat) (x14_41 : Bool), v14 = .bool x14_41 ∧ Aside0 (postbaglaw12_StorePatterns.j4 kq a0 a1 t150 (wrap64 (t150 + t151)) x12_3 x14_41 = some r) ∧ Aside0 (kq ≤ kj27) ∧ Aside0 (Below w.heap.size w wc))
                            case first =>
                              have H := HC42.out
                              clear HC42
                              by_cases c43 : a1.toList = a0.toList
                              · rw [if_pos c43] at H
                                have c43b0 : (a1.toList == a0.toList) = true := beq_iff_eq.mpr c43
                                have c43b1 : (a1.toList != a0.toList) = false := bne_eq_false_iff_eq.mpr c43
                                clear c43
                                (first | rw [c43b0] | (simp only [i64_w, i32_w]; rw [c43b0]) | skip)
                                have H' := Aside0.mk H
                                clear H
                                go_wp2
                                go_meet
                                case rel => exact ⟨_, (false), (by first | rfl | (simp; done) | (simp [*]; done) | (simp [bne, *]; done)), H', ⟨by have := HJ4.out; have := HK2.out; have := HK3.out; have := HJ27.out; first | omega | exact Nat.le_refl _⟩, ⟨by repeat (first | (with_reducible first | exact HB.out | apply below_alloc | apply pw_below_drewN | apply below_drew1) | exact HB.out)⟩⟩
                              · rw [if_neg c43] at H
                                have c43b0 : (a1.toList == a0.toList) = false := beq_eq_false_iff_ne.mpr c43
                                have c43b1 : (a1.toList != a0.toList) = true := bne_iff_ne.mpr c43
                                (first | rw [c43b0] | (simp only [i64_w, i32_w]; rw [c43b0]) | skip)
                                by_cases c44 : a0.toList = ([73, 78, 66, 79, 88] : List UInt8)
                                · rw [if_pos c44] at H
                                  have c44b0 : (a0.toList == ([73, 78, 66, 79, 88] : List UInt8)) = true := beq_iff_eq.mpr c44
                                  have c44b1 : (a0.toList != ([73, 78, 66, 79, 88] : List UInt8)) = false := bne_eq_false_iff_eq.mpr c44
                                  clear c44
                                  have H' := Aside0.mk H
                                  clear H
                                  go_wp2
                                  go_meet
                                  case rel => exact ⟨_, (true), (by first | rfl | (simp; done) | (simp [*]; done) | (simp [bne, *]; done)), H', ⟨by have := HJ4.out; have := HK2.out; have := HK3.out; have := HJ27.out; first | omega | exact Nat.le_refl _⟩, ⟨by repeat (first | (with_reducible first | exact HB.out | apply below_alloc | apply pw_below_drewN | apply below_drew1) | exact HB.out)⟩⟩
                                · rw [if_neg c44] at H
                                  have c44b0 : (a0.toList == ([73, 78, 66, 79, 88] : List UInt8)) = false := beq_eq_false_iff_ne.mpr c44
                                  have c44b1 : (a0.toList != ([73, 78, 66, 79, 88] : List UInt8)) = true := bne_iff_ne.mpr c44
                                  by_cases c45 : (a0.size : Int) > 5
                                  · rw [if_pos c45] at H
                                    have c45b0 : decide (5 < (a0.size : Int)) = true := decide_eq_true c45
                                    have c45b1 : decide (5 < a0.size) = true := decide_eq_true (by omega)
                                    clear c45
                                    by_cases c46 : 0 ≤ 6
                                    · rw [if_pos c46] at H
                                      have c46b0 := eq_true c46
                                      have c46b1 : decide (0 ≤ 6) = true := decide_eq_true c46
                                      clear c46
                                      by_cases c47 : 6 ≤ (a0.size : Int)
                                      · rw [if_pos c47] at H
                                        have c47b0 := eq_true c47
                                        have c47b1 : decide (6 ≤ (a0.size : Int)) = true := decide_eq_true c47
                                        clear c47
                                        have H' := Aside0.mk H
                                        clear H
                                        go_wp2
                                        go_meet
                                        case rel => exact ⟨_, (((a0.extract 0 6).toList == ([73, 78, 66, 79, 88, 47] : List UInt8))), (by first | rfl | (simp; done) | (simp [*]; done) | (simp [bne, *]; done)), H', ⟨by have := HJ4.out; have := HK2.out; have := HK3.out; have := HJ27.out; first | omega | exact Nat.le_refl _⟩, ⟨by repeat (first | (with_reducible first | exact HB.out | apply below_alloc | apply pw_below_drewN | apply below_drew1) | exact HB.out)⟩⟩
                                      · rw [if_neg c47] at H
                                        exact absurd H (by simp)
                                    · rw [if_neg c46] at H
                                      exact absurd H (by simp)
                                  · rw [if_neg c45] at H
                                    have c45b0 : decide (5 < (a0.size : Int)) = false := decide_eq_false c45
                                    have c45b1 : decide (5 < a0.size) = false := decide_eq_false (by omega)
                                    clear c45
                                    have H' := Aside0.mk H
                                    clear H
                                    go_wp2
                                    go_meet
                                    case rel => exact ⟨_, (false), (by first | rfl | (simp; done) | (simp [*]; done) | (simp [bne, *]; done)), H', ⟨by have := HJ4.out; have := HK2.out; have := HK3.out; have := HJ27.out; first | omega | exact Nat.le_refl _⟩, ⟨by repeat (first | (with_reducible first | exact HB.out | apply below_alloc | apply pw_below_drewN | apply below_drew1) | exact HB.out)⟩⟩
                            case rest =>
                              clear HC42
                              try clear c1
                              try clear p1
                              try clear q1
                              try clear hx1
                              try clear c2
                              try clear p2
                              try clear q2
                              try clear hx2
                              try clear c3
                              try clear c4
                              try clear c6
                              try clear c6b0
                              try clear c6b1
                              try clear p6
                              try clear c7
                              try clear c8
                              try clear c8b0
                              try clear c9
                              try clear c10
                              try clear c10b0
                              try clear p11
                              try clear q11
                              try clear hx11
                              try clear c12
                              try clear c12b0
                              try clear c12b1
                              try clear c13
                              try clear p14
                              try clear q14
                              try clear hx14
                              try clear p15
                              try clear q15
                              try clear hx15
                              try clear c16
                              try clear p17
                              try clear q17
                              try clear hx17
                              try clear c18
                              try clear c19
                              try clear c19b0
                              try clear p20
                              try clear q20
                              try clear hx20
                              try clear c23
                              try clear c23b0
                              try clear c24
                              try clear c25
                              try clear c25b0
                              try clear c26
                              try clear c26b0
                              try clear p27
                              try clear q27
                              try clear hx27
                              try clear c30
                              try clear c32
                              try clear c32b0
                              try clear c32b1
                              try clear c32b2
                              try clear c40
                              try clear c41
                              try clear c43
                              try clear c43b0
                              try clear c43b1
                              try clear c44
                              try clear c44b0
                              try clear c44b1
                              try clear c45
                              try clear c45b0
                              try clear c45b1
                              try clear c46
                              try clear c46b0
                              try clear c46b1
                              try clear c47
                              try clear c47b0
                              try clear c47b1
                              try clear p1
                              try clear p11
                              try clear p14
                              try clear p15
                              try clear p17
                              try clear p2
                              try clear p20
                              try clear p27
                              try clear p6
                              try clear q1
                              try clear q11
                              try clear q14
                              try clear q15
                              try clear q17
                              try clear q2
                              try clear q20
                              try clear q27
                              obtain ⟨kq, x14_41, rfl, HA, HJ41, HB⟩ := hcut
                              cases kq with
                              | zero => exact absurd HA.out (by simp [postbaglaw12_StorePatterns.j4])
                              | succ kj41 =>
                                have H := HA.out
                                clear HA
                                simp only [postbaglaw12_StorePatterns.j4] at H
                                replace H := Option.bind_eq_some_iff.mp H
                                obtain ⟨t155, A480, H⟩ := H
                                replace H : (if 0 ≤ t150 then (if t150 ≤ (a0.size : Int) then (if (a0.extract 0 (t150 : Int).toNat).size + 1 ≤ 9223372036854775807 then (if 0 ≤ (wrap64 (t150 + t151)) then (if (wrap64 (t150 + t151)) ≤ (a0.size : Int) then (if ((a0.extract 0 (t150 : Int).toNat) ++ (⟨#[42]⟩ : ByteArray)).size + (a0.extract ((wrap64 (t150 + t151)) : Int).toNat a0.size).size ≤ 9223372036854775807 then ((store_Match.f kj41 (((a0.extract 0 (t150 : Int).toNat) ++ (⟨#[42]⟩ : ByteArray)) ++ (a0.extract ((wrap64 (t150 + t151)) : Int).toNat a0.size)) a0).bind fun t156 => (if ((a0.extract 0 (t150 : Int).toNat) ++ (⟨#[37]⟩ : ByteArray)).size + (a0.extract ((wrap64 (t150 + t151)) : Int).toNat a0.size).size ≤ 9223372036854775807 then ((store_Match.f kj41 (((a0.extract 0 (t150 : Int).toNat) ++ (⟨#[37]⟩ : ByteArray)) ++ (a0.extract ((wrap64 (t150 + t151)) : Int).toNat a0.size)) a0).bind fun t157 => (postbaglaw12_StorePatterns.l2 kj41 a0 a1 x12_3 x14_41 t155 t156 t157 0)) else (none))) else (none)) else (none)) else (none)) else (none)) else (none)) else (none)) = some r := H
                                have A48 := Aside0.mk A480
                                clear A480
                                by_cases c49 : 0 ≤ t150
                                · rw [if_pos c49] at H
                                  have c49b0 := eq_true c49
                                  have c49b1 : decide (0 ≤ t150) = true := decide_eq_true c49
                                  clear c49
                                  by_cases c50 : t150 ≤ (a0.size : Int)
                                  · rw [if_pos c50] at H
                                    have c50b0 := eq_true c50
                                    have c50b1 : decide (t150 ≤ (a0.size : Int)) = true := decide_eq_true c50
                                    clear c50
                                    by_cases c51 : (a0.extract 0 (t150 : Int).toNat).size + 1 ≤ 9223372036854775807
                                    · rw [if_pos c51] at H
                                      have c51b0 := eq_true c51
                                      have c51b1 : decide ((a0.extract 0 (t150 : Int).toNat).size + 1 ≤ 9223372036854775807) = true := decide_eq_true c51
                                      try have c51b2 : (9223372036854775807 < (a0.extract 0 (t150 : Int).toNat).size + 1) = False := eq_false (Nat.not_lt.2 c51)
                                      (try (have c51t_ : (9223372036854775807 < t150.toNat + 1) = False := eq_false (by have h_ := c51; have g0_ := of_eq_true c50b0; simp only [ByteArray.size_append, ByteArray.size_extract] at h_; omega)))
                                      obtain ⟨ji52, hji52⟩ : ∃ j_ : Int, (wrap64 (t150 + t151)) = j_ := ⟨_, rfl⟩
                                      replace H : (if 0 ≤ (ji52) then (if (ji52) ≤ (a0.size : Int) then (if ((a0.extract 0 (t150 : Int).toNat) ++ (⟨#[42]⟩ : ByteArray)).size + (a0.extract ((ji52) : Int).toNat a0.size).size ≤ 9223372036854775807 then ((store_Match.f kj41 (((a0.extract 0 (t150 : Int).toNat) ++ (⟨#[42]⟩ : ByteArray)) ++ (a0.extract ((ji52) : Int).toNat a0.size)) a0).bind fun t156 => (if ((a0.extract 0 (t150 : Int).toNat) ++ (⟨#[37]⟩ : ByteArray)).size + (a0.extract ((ji52) : Int).toNat a0.size).size ≤ 9223372036854775807 then ((store_Match.f kj41 (((a0.extract 0 (t150 : Int).toNat) ++ (⟨#[37]⟩ : ByteArray)) ++ (a0.extract ((ji52) : Int).toNat a0.size)) a0).bind fun t157 => (postbaglaw12_StorePatterns.l2 kj41 a0 a1 x12_3 x14_41 t155 t156 t157 0)) else (none))) else (none)) else (none)) else (none)) = some r := by first | (rw [hji52] at H; exact H) | (simp only [hji52] at H ⊢; exact H)
                                      (try rw [hji52] at c23b0)
                                      (try rw [hji52] at A48)
                                      have hji52w : (IntKind.i64.wrap (t150 + t151)) = ji52 := (i64_w _).trans hji52
                                      by_cases c53 : 0 ≤ (ji52)
                                      · rw [if_pos c53] at H
                                        have c53b0 := eq_true c53
                                        have c53b1 : decide (0 ≤ (ji52)) = true := decide_eq_true c53
                                        clear c53
                                        by_cases c54 : (ji52) ≤ (a0.size : Int)
                                        · rw [if_pos c54] at H
                                          have c54b0 := eq_true c54
                                          have c54b1 : decide ((ji52) ≤ (a0.size : Int)) = true := decide_eq_true c54
                                          clear c54
                                          by_cases c55 : ((a0.extract 0 (t150 : Int).toNat) ++ (⟨#[42]⟩ : ByteArray)).size + (a0.extract ((ji52) : Int).toNat a0.size).size ≤ 9223372036854775807
                                          · rw [if_pos c55] at H
                                            have c55b0 := eq_true c55
                                            have c55b1 : decide (((a0.extract 0 (t150 : Int).toNat) ++ (⟨#[42]⟩ : ByteArray)).size + (a0.extract ((ji52) : Int).toNat a0.size).size ≤ 9223372036854775807) = true := decide_eq_true c55
                                            try have c55b2 : (9223372036854775807 < ((a0.extract 0 (t150 : Int).toNat) ++ (⟨#[42]⟩ : ByteArray)).size + (a0.extract ((ji52) : Int).toNat a0.size).size) = False := eq_false (Nat.not_lt.2 c55)
                                            (try (have c55t_ : (9223372036854775807 < t150.toNat + 1 + (a0.size - ji52.toNat)) = False := eq_false (by have h_ := c55; have g0_ := of_eq_true c50b0; have g1_ := of_eq_true c54b0; simp only [ByteArray.size_append, ByteArray.size_extract, show (⟨#[42]⟩ : ByteArray).size = 1 from rfl] at h_; omega)))
                                            replace H := Option.bind_eq_some_iff.mp H
                                            obtain ⟨t156, A560, H⟩ := H
                                            replace H : (if ((a0.extract 0 (t150 : Int).toNat) ++ (⟨#[37]⟩ : ByteArray)).size + (a0.extract ((ji52) : Int).toNat a0.size).size ≤ 9223372036854775807 then ((store_Match.f kj41 (((a0.extract 0 (t150 : Int).toNat) ++ (⟨#[37]⟩ : ByteArray)) ++ (a0.extract ((ji52) : Int).toNat a0.size)) a0).bind fun t157 => (postbaglaw12_StorePatterns.l2 kj41 a0 a1 x12_3 x14_41 t155 t156 t157 0)) else (none)) = some r := H
                                            have A56 := Aside0.mk A560
                                            clear A560
                                            have c57b0 := eq_true (of_decide_eq_true (by first | (with_reducible assumption) | assumption) : 0 ≤ t150)
                                            have c58b0 := eq_true (of_decide_eq_true (by first | (with_reducible assumption) | assumption) : t150 ≤ (a0.size : Int))
                                            have c59b0 := eq_true (of_decide_eq_true (by first | (with_reducible assumption) | assumption) : 0 ≤ (ji52))
                                            have c60b0 := eq_true (of_decide_eq_true (by first | (with_reducible assumption) | assumption) : (ji52) ≤ (a0.size : Int))
                                            by_cases c61 : ((a0.extract 0 (t150 : Int).toNat) ++ (⟨#[37]⟩ : ByteArray)).size + (a0.extract ((ji52) : Int).toNat a0.size).size ≤ 9223372036854775807
                                            · rw [if_pos c61] at H
                                              have c61b0 := eq_true c61
                                              have c61b1 : decide (((a0.extract 0 (t150 : Int).toNat) ++ (⟨#[37]⟩ : ByteArray)).size + (a0.extract ((ji52) : Int).toNat a0.size).size ≤ 9223372036854775807) = true := decide_eq_true c61
                                              try have c61b2 : (9223372036854775807 < ((a0.extract 0 (t150 : Int).toNat) ++ (⟨#[37]⟩ : ByteArray)).size + (a0.extract ((ji52) : Int).toNat a0.size).size) = False := eq_false (Nat.not_lt.2 c61)
                                              (try (have c61t_ : (9223372036854775807 < t150.toNat + 1 + (a0.size - ji52.toNat)) = False := eq_false (by have h_ := c61; have g0_ := of_eq_true c50b0; have g1_ := of_eq_true c54b0; simp only [ByteArray.size_append, ByteArray.size_extract, show (⟨#[37]⟩ : ByteArray).size = 1 from rfl] at h_; omega)))
                                              replace H := Option.bind_eq_some_iff.mp H
                                              obtain ⟨t157, A620, H⟩ := H
                                              replace H : (postbaglaw12_StorePatterns.l2 kj41 a0 a1 x12_3 x14_41 t155 t156 t157 0) = some r := H
                                              have A62 := Aside0.mk A620
                                              clear A620
                                              have H' := Aside0.mk H
                                              clear H
                                              try go_wp2_with (first | ((with_reducible refine gate_callee (f := 6) rfl ?_); refine goesL_ (some 117) rfl rfl Try.func6 (by kernel_rfl) rfl #[.string a1, .string a0] rfl (by (try simp only [List.map_toArray, List.map_cons, List.map_nil]); first | done | rfl | (simp only [List.length_drop, List.length_take]; rfl)) ?_; (with_reducible refine (store_Match.calls kj41 a1 a0 t155 _ A48.out).mono ?_); rintro e w63 ⟨rfl, hb⟩; refine ⟨_, rfl, ?_⟩; have n0_ := Aside0.mk (below_step (by repeat (first | (with_reducible first | exact HB.out | apply below_alloc | apply pw_below_drewN | apply below_drew1) | exact HB.out)) hb); clear HB; have HB := n0_; clear n0_; (try clear hb); (try clear hb2); (try clear hk); (try clear hi)))
                                              have n0_ := Aside0.mk (below_drew1 HB.out)
                                              clear HB
                                              have HB := n0_
                                              clear n0_
                                              refine start_ (n := 11) (S := fun w' => True) (ds := []) #[false, false, false, false, false, false, false, false, false, false, false] (by kernel_rfl) rfl rfl trivial (fun hHeld => ?_); refine with_tabW postbaglaw12_StorePatterns.tab23 postbaglaw12_StorePatterns.bits23 (fun HT_ HW_ => ?_)
                                              generalize w63.drew = w64 at HB hHeld ⊢
                                              refine pure_ (i := 0) (N := some 118) (v := ?_) (a' := ?_) #[true, false, false, false, false, false, false, false, false, false, false] rfl rfl (any_of HT_.out (by kernel_rfl)) (fun _ _ _ h => h) (Or.inl ⟨by rfl, ?_⟩) ?_ ?_
                                              rotate_left
                                              · intro w'
                                                go_simp
                                                with_reducible rfl
                                              rotate_left
                                              · simp only [Act.put, List.setIfInBounds_toArray, List.set_cons_zero, List.set_cons_succ, i64_w, i32_w]
                                                rfl
                                              refine pure_ (i := 1) (N := some 119) (v := ?_) (a' := ?_) #[true, true, false, false, false, false, false, false, false, false, false] rfl rfl (any_of HT_.out (by kernel_rfl)) (fun _ _ _ h => h) (Or.inl ⟨by rfl, ?_⟩) ?_ ?_
                                              rotate_left
                                              · intro w'
                                                go_simp
                                                with_reducible rfl
                                              rotate_left
                                              · simp only [Act.put, List.setIfInBounds_toArray, List.set_cons_zero, List.set_cons_succ, i64_w, i32_w]
                                                rfl
                                              refine pure_ (i := 2) (N := some 120) (v := ?_) (a' := ?_) #[true, true, true, false, false, false, false, false, false, false, false] rfl rfl (any_of HT_.out (by kernel_rfl)) (fun _ _ _ h => h) (Or.inl ⟨by rfl, ?_⟩) ?_ ?_
                                              rotate_left
                                              · intro w'
                                                go_simp
                                                with_reducible rfl
                                              rotate_left
                                              · simp only [Act.put, List.setIfInBounds_toArray, List.set_cons_zero, List.set_cons_succ, i64_w, i32_w]
                                                rfl
                                              refine pure_ (i := 3) (N := some 121) (v := ?_) (a' := ?_) #[true, true, true, true, false, false, false, false, false, false, false] rfl rfl (any_of HT_.out (by kernel_rfl)) (fun _ _ _ h => h) (Or.inl ⟨by rfl, ?_⟩) ?_ ?_
                                              rotate_left
                                              · intro w'
                                                go_simp
                                                with_reducible rfl
                                              rotate_left
                                              · simp only [Act.put, List.setIfInBounds_toArray, List.set_cons_zero, List.set_cons_succ, i64_w, i32_w]
                                                rfl
                                              refine pure_ (i := 4) (N := some 122) (v := ?_) (a' := ?_) #[true, true, true, true, true, false, false, false, false, false, false] rfl rfl (any_of HT_.out (by kernel_rfl)) (fun _ _ _ h => h) (Or.inl ⟨by rfl, ?_⟩) ?_ ?_
                                              rotate_left
                                              · intro w'
                                                go_simp
                                                with_reducible rfl
                                              rotate_left
                                              · simp only [Act.put, List.setIfInBounds_toArray, List.set_cons_zero, List.set_cons_succ, i64_w, i32_w]
                                                rfl
                                              refine pure_ (i := 5) (N := some 123) (v := ?_) (a' := ?_) #[true, true, true, true, true, true, false, false, false, false, false] rfl rfl (any_of HT_.out (by kernel_rfl)) (fun _ _ _ h => h) (Or.inl ⟨by rfl, ?_⟩) ?_ ?_
                                              rotate_left
                                              · intro w'
                                                go_simp
                                                with_reducible rfl
                                              rotate_left
                                              · simp only [Act.put, List.setIfInBounds_toArray, List.set_cons_zero, List.set_cons_succ, i64_w, i32_w]
                                                rfl
                                              refine pure_ (i := 6) (N := some 124) (v := ?_) (a' := ?_) #[true, true, true, true, true, true, true, false, false, false, false] rfl rfl (any_of HT_.out (by kernel_rfl)) (fun _ _ _ h => h) (Or.inl ⟨by rfl, ?_⟩) ?_ ?_
                                              rotate_left
                                              · intro w'
                                                go_simp
                                                with_reducible rfl
                                              rotate_left
                                              · simp only [Act.put, List.setIfInBounds_toArray, List.set_cons_zero, List.set_cons_succ, i64_w, i32_w]
                                                rfl
                                              refine pure_ (i := 7) (N := some 125) (v := ?_) (a' := ?_) #[true, true, true, true, true, true, true, true, false, false, false] rfl rfl (any_of HT_.out (by kernel_rfl)) (fun _ _ _ h => h) (Or.inl ⟨by rfl, ?_⟩) ?_ ?_
                                              rotate_left
                                              · intro w'
                                                go_simp
                                                with_reducible rfl
                                              rotate_left
                                              · simp only [Act.put, List.setIfInBounds_toArray, List.set_cons_zero, List.set_cons_succ, i64_w, i32_w]
                                                rfl
                                              refine pure_ (i := 8) (N := some 126) (v := ?_) (a' := ?_) #[true, true, true, true, true, true, true, true, true, false, false] rfl rfl (any_of HT_.out (by kernel_rfl)) (fun _ _ _ h => h) (Or.inl ⟨by rfl, ?_⟩) ?_ ?_
                                              rotate_left
                                              · intro w'
                                                go_simp
                                                with_reducible rfl
                                              rotate_left
                                              · simp only [Act.put, List.setIfInBounds_toArray, List.set_cons_zero, List.set_cons_succ, i64_w, i32_w]
                                                rfl
                                              refine one_ (i := 9) (N := some 127) #[true, true, true, true, true, true, true, true, true, true, false] rfl rfl (one_of HT_.out (by kernel_rfl)) (by decide) (fun K hK => ?_)
                                              refine goes_ Try.func6 (by kernel_rfl) rfl #[.string (((a0.extract 0 (t150 : Int).toNat) ++ (⟨#[42]⟩ : ByteArray)) ++ (a0.extract ((ji52) : Int).toNat a0.size)), .string a0] (by rfl) rfl rfl (by (try simp only [List.map_toArray, List.map_cons, List.map_nil]); first | done | (simp only [hji52]; rfl) | rfl | (simp only [List.length_drop, List.length_take]; rfl)) ?_
                                              with_reducible refine (store_Match.calls kj41 (((a0.extract 0 (t150 : Int).toNat) ++ (⟨#[42]⟩ : ByteArray)) ++ (a0.extract ((ji52) : Int).toNat a0.size)) a0 t156 _ A56.out).mono ?_
                                              rintro e w65 ⟨rfl, hb⟩
                                              refine ⟨_, rfl, ?_⟩
                                              have n0_ := Aside0.mk (below_step (by repeat (first | (with_reducible first | exact HB.out | apply below_alloc | apply pw_below_drewN | apply below_drew1) | exact HB.out)) hb)
                                              clear HB
                                              have HB := n0_
                                              clear n0_
                                              (try clear hb)
                                              (try clear hb2)
                                              (try clear hk)
                                              (try clear hi)
                                              refine hK.out _ _ trivial (fun hHeld => ?_)
                                              clear hK K
                                              refine norm_ (a' := ?_) ?_ ?_
                                              rotate_left
                                              · show Act.put _ (some 127) _ = _
                                                simp only [Act.put, List.setIfInBounds_toArray, List.set_cons_zero, List.set_cons_succ, i64_w, i32_w]
                                                rfl
                                              refine pure_ (i := 10) (N := some 16) (v := ?_) (a' := ?_) #[true, true, true, true, true, true, true, true, true, true, true] rfl rfl (any_of HT_.out (by kernel_rfl)) (fun _ _ _ h => h) (Or.inl ⟨by rfl, ?_⟩) ?_ ?_
                                              rotate_left
                                              · intro w'
                                                go_simp
                                                with_reducible rfl
                                              rotate_left
                                              · simp only [Act.put, List.setIfInBounds_toArray, List.set_cons_zero, List.set_cons_succ, i64_w, i32_w]
                                                rfl
                                              refine done_ (done_of HT_.out (by kernel_rfl)) ?_
                                              try go_wp2
                                              have n0_ := Aside0.mk (below_drew1 HB.out)
                                              clear HB
                                              have HB := n0_
                                              clear n0_
                                              refine start_ (n := 11) (S := fun w' => True) (ds := []) #[false, false, false, false, false, false, false, false, false, false, false] (by kernel_rfl) rfl rfl trivial (fun hHeld => ?_); refine with_tabW postbaglaw12_StorePatterns.tab24 postbaglaw12_StorePatterns.bits24 (fun HT_ HW_ => ?_)
                                              generalize w65.drew = w66 at HB hHeld ⊢
                                              refine pure_ (i := 0) (N := some 128) (v := ?_) (a' := ?_) #[true, false, false, false, false, false, false, false, false, false, false] rfl rfl (any_of HT_.out (by kernel_rfl)) (fun _ _ _ h => h) (Or.inl ⟨by rfl, ?_⟩) ?_ ?_
                                              rotate_left
                                              · intro w'
                                                go_simp
                                                with_reducible rfl
                                              rotate_left
                                              · simp only [Act.put, List.setIfInBounds_toArray, List.set_cons_zero, List.set_cons_succ, i64_w, i32_w]
                                                rfl
                                              refine pure_ (i := 1) (N := some 129) (v := ?_) (a' := ?_) #[true, true, false, false, false, false, false, false, false, false, false] rfl rfl (any_of HT_.out (by kernel_rfl)) (fun _ _ _ h => h) (Or.inl ⟨by rfl, ?_⟩) ?_ ?_
                                              rotate_left
                                              · intro w'
                                                go_simp
                                                with_reducible rfl
                                              rotate_left
                                              · simp only [Act.put, List.setIfInBounds_toArray, List.set_cons_zero, List.set_cons_succ, i64_w, i32_w]
                                                rfl
                                              refine pure_ (i := 2) (N := some 130) (v := ?_) (a' := ?_) #[true, true, true, false, false, false, false, false, false, false, false] rfl rfl (any_of HT_.out (by kernel_rfl)) (fun _ _ _ h => h) (Or.inl ⟨by rfl, ?_⟩) ?_ ?_
                                              rotate_left
                                              · intro w'
                                                go_simp
                                                with_reducible rfl
                                              rotate_left
                                              · simp only [Act.put, List.setIfInBounds_toArray, List.set_cons_zero, List.set_cons_succ, i64_w, i32_w]
                                                rfl
                                              refine pure_ (i := 3) (N := some 131) (v := ?_) (a' := ?_) #[true, true, true, true, false, false, false, false, false, false, false] rfl rfl (any_of HT_.out (by kernel_rfl)) (fun _ _ _ h => h) (Or.inl ⟨by rfl, ?_⟩) ?_ ?_
                                              rotate_left
                                              · intro w'
                                                go_simp
                                                with_reducible rfl
                                              rotate_left
                                              · simp only [Act.put, List.setIfInBounds_toArray, List.set_cons_zero, List.set_cons_succ, i64_w, i32_w]
                                                rfl
                                              refine pure_ (i := 4) (N := some 132) (v := ?_) (a' := ?_) #[true, true, true, true, true, false, false, false, false, false, false] rfl rfl (any_of HT_.out (by kernel_rfl)) (fun _ _ _ h => h) (Or.inl ⟨by rfl, ?_⟩) ?_ ?_
                                              rotate_left
                                              · intro w'
                                                go_simp
                                                with_reducible rfl
                                              rotate_left
                                              · simp only [Act.put, List.setIfInBounds_toArray, List.set_cons_zero, List.set_cons_succ, i64_w, i32_w]
                                                rfl
                                              refine pure_ (i := 5) (N := some 133) (v := ?_) (a' := ?_) #[true, true, true, true, true, true, false, false, false, false, false] rfl rfl (any_of HT_.out (by kernel_rfl)) (fun _ _ _ h => h) (Or.inl ⟨by rfl, ?_⟩) ?_ ?_
                                              rotate_left
                                              · intro w'
                                                go_simp
                                                with_reducible rfl
                                              rotate_left
                                              · simp only [Act.put, List.setIfInBounds_toArray, List.set_cons_zero, List.set_cons_succ, i64_w, i32_w]
                                                rfl
                                              refine pure_ (i := 6) (N := some 134) (v := ?_) (a' := ?_) #[true, true, true, true, true, true, true, false, false, false, false] rfl rfl (any_of HT_.out (by kernel_rfl)) (fun _ _ _ h => h) (Or.inl ⟨by rfl, ?_⟩) ?_ ?_
                                              rotate_left
                                              · intro w'
                                                go_simp
                                                with_reducible rfl
                                              rotate_left
                                              · simp only [Act.put, List.setIfInBounds_toArray, List.set_cons_zero, List.set_cons_succ, i64_w, i32_w]
                                                rfl
                                              refine pure_ (i := 7) (N := some 135) (v := ?_) (a' := ?_) #[true, true, true, true, true, true, true, true, false, false, false] rfl rfl (any_of HT_.out (by kernel_rfl)) (fun _ _ _ h => h) (Or.inl ⟨by rfl, ?_⟩) ?_ ?_
                                              rotate_left
                                              · intro w'
                                                go_simp
                                                with_reducible rfl
                                              rotate_left
                                              · simp only [Act.put, List.setIfInBounds_toArray, List.set_cons_zero, List.set_cons_succ, i64_w, i32_w]
                                                rfl
                                              refine pure_ (i := 8) (N := some 136) (v := ?_) (a' := ?_) #[true, true, true, true, true, true, true, true, true, false, false] rfl rfl (any_of HT_.out (by kernel_rfl)) (fun _ _ _ h => h) (Or.inl ⟨by rfl, ?_⟩) ?_ ?_
                                              rotate_left
                                              · intro w'
                                                go_simp
                                                with_reducible rfl
                                              rotate_left
                                              · simp only [Act.put, List.setIfInBounds_toArray, List.set_cons_zero, List.set_cons_succ, i64_w, i32_w]
                                                rfl
                                              refine one_ (i := 9) (N := some 137) #[true, true, true, true, true, true, true, true, true, true, false] rfl rfl (one_of HT_.out (by kernel_rfl)) (by decide) (fun K hK => ?_)
                                              refine goes_ Try.func6 (by kernel_rfl) rfl #[.string (((a0.extract 0 (t150 : Int).toNat) ++ (⟨#[37]⟩ : ByteArray)) ++ (a0.extract ((ji52) : Int).toNat a0.size)), .string a0] (by rfl) rfl rfl (by (try simp only [List.map_toArray, List.map_cons, List.map_nil]); first | done | (simp only [hji52]; rfl) | rfl | (simp only [List.length_drop, List.length_take]; rfl)) ?_
                                              with_reducible refine (store_Match.calls kj41 (((a0.extract 0 (t150 : Int).toNat) ++ (⟨#[37]⟩ : ByteArray)) ++ (a0.extract ((ji52) : Int).toNat a0.size)) a0 t157 _ A62.out).mono ?_
                                              rintro e w67 ⟨rfl, hb⟩
                                              refine ⟨_, rfl, ?_⟩
                                              have n0_ := Aside0.mk (below_step (by repeat (first | (with_reducible first | exact HB.out | apply below_alloc | apply pw_below_drewN | apply below_drew1) | exact HB.out)) hb)
                                              clear HB
                                              have HB := n0_
                                              clear n0_
                                              (try clear hb)
                                              (try clear hb2)
                                              (try clear hk)
                                              (try clear hi)
                                              refine hK.out _ _ trivial (fun hHeld => ?_)
                                              clear hK K
                                              refine norm_ (a' := ?_) ?_ ?_
                                              rotate_left
                                              · show Act.put _ (some 137) _ = _
                                                simp only [Act.put, List.setIfInBounds_toArray, List.set_cons_zero, List.set_cons_succ, i64_w, i32_w]
                                                rfl
                                              refine pure_ (i := 10) (N := some 17) (v := ?_) (a' := ?_) #[true, true, true, true, true, true, true, true, true, true, true] rfl rfl (any_of HT_.out (by kernel_rfl)) (fun _ _ _ h => h) (Or.inl ⟨by rfl, ?_⟩) ?_ ?_
                                              rotate_left
                                              · intro w'
                                                go_simp
                                                with_reducible rfl
                                              rotate_left
                                              · simp only [Act.put, List.setIfInBounds_toArray, List.set_cons_zero, List.set_cons_succ, i64_w, i32_w]
                                                rfl
                                              refine done_ (done_of HT_.out (by kernel_rfl)) ?_
                                              try go_wp2
                                              go_loopg [18] kj41 (fun kq v18 w' => ∃ (x18_6 : Int), v18 = .int .i64 x18_6 ∧ Aside0 (postbaglaw12_StorePatterns.l2 kq a0 a1 x12_3 x14_41 t155 t156 t157 x18_6 = some r) ∧ Aside0 (kq ≤ kj41) ∧ Aside0 (Below w.heap.size w w'))
                                              case atStart => exact ⟨(0), (by first | rfl | (simp; done) | (simp [*]; done) | (simp [bne, *]; done)), H', ⟨Nat.le_refl _⟩, ⟨by repeat (first | (with_reducible first | exact HB.out | apply below_alloc | apply pw_below_drewN | apply below_drew1) | exact HB.out)⟩⟩
                                              case round =>
                                                clear H'
                                                try clear c1
                                                try clear p1
                                                try clear q1
                                                try clear hx1
                                                try clear c2
                                                try clear p2
                                                try clear q2
                                                try clear hx2
                                                try clear c3
                                                try clear c4
                                                try clear c5
                                                try clear c6
                                                try clear c6b0
                                                try clear c6b1
                                                try clear p6
                                                try clear c7
                                                try clear c8
                                                try clear c8b0
                                                try clear c9
                                                try clear c10
                                                try clear c10b0
                                                try clear p11
                                                try clear q11
                                                try clear hx11
                                                try clear c12
                                                try clear c12b0
                                                try clear c12b1
                                                try clear c13
                                                try clear p14
                                                try clear q14
                                                try clear hx14
                                                try clear p15
                                                try clear q15
                                                try clear hx15
                                                try clear c16
                                                try clear p17
                                                try clear q17
                                                try clear hx17
                                                try clear c18
                                                try clear c19
                                                try clear c19b0
                                                try clear p20
                                                try clear q20
                                                try clear hx20
                                                try clear c23
                                                try clear c23b0
                                                try clear c24
                                                try clear c25
                                                try clear c25b0
                                                try clear c26
                                                try clear c26b0
                                                try clear p27
                                                try clear q27
                                                try clear hx27
                                                try clear c30
                                                try clear c32
                                                try clear c32b0
                                                try clear c32b1
                                                try clear c32b2
                                                try clear c40
                                                try clear c41
                                                try clear c43
                                                try clear c43b0
                                                try clear c43b1
                                                try clear c44
                                                try clear c44b0
                                                try clear c44b1
                                                try clear c45
                                                try clear c45b0
                                                try clear c45b1
                                                try clear c46
                                                try clear c46b0
                                                try clear c46b1
                                                try clear c47
                                                try clear c47b0
                                                try clear c47b1
                                                try clear c49
                                                try clear c49b0
                                                try clear c49b1
                                                try clear c50
                                                try clear c50b0
                                                try clear c50b1
                                                try clear c51
                                                try clear c51b0
                                                try clear c51b1
                                                try clear c51b2
                                                try clear c53
                                                try clear c53b0
                                                try clear c53b1
                                                try clear c54
                                                try clear c54b0
                                                try clear c54b1
                                                try clear c55
                                                try clear c55b0
                                                try clear c55b1
                                                try clear c55b2
                                                try clear c57
                                                try clear c57b0
                                                try clear c58
                                                try clear c58b0
                                                try clear c59
                                                try clear c59b0
                                                try clear c60
                                                try clear c60b0
                                                try clear c61
                                                try clear c61b0
                                                try clear c61b1
                                                try clear c61b2
                                                try clear p64
                                                try clear p1
                                                try clear p11
                                                try clear p14
                                                try clear p15
                                                try clear p17
                                                try clear p2
                                                try clear p20
                                                try clear p27
                                                try clear p6
                                                try clear q1
                                                try clear q11
                                                try clear q14
                                                try clear q15
                                                try clear q17
                                                try clear q2
                                                try clear q20
                                                try clear q27
                                                obtain ⟨x18_6, rfl, HA, HK6, HB⟩ := hrel
                                                cases gk with
                                                | zero => exact absurd HA.out (by simp [postbaglaw12_StorePatterns.l2])
                                                | succ k6 =>
                                                  have H := HA.out
                                                  clear HA
                                                  simp only [postbaglaw12_StorePatterns.l2] at H
                                                  by_cases c68 : x18_6 < (a1.size : Int)
                                                  · rw [if_pos c68] at H
                                                    have c68b0 : decide (x18_6 < (a1.size : Int)) = true := decide_eq_true c68
                                                    clear c68
                                                    by_cases c69 : 0 ≤ x18_6
                                                    · rw [if_pos c69] at H
                                                      have c69b0 : decide (0 ≤ x18_6) = true := decide_eq_true c69
                                                      clear c69
                                                      by_cases c71 : (bt a1 x18_6) = 42
                                                      · rw [if_pos c71] at H
                                                        have c71b0 : ((bt a1 x18_6) == 42) = true := beq_iff_eq.mpr c71
                                                        have c71b1 : ((bt a1 x18_6) != 42) = false := bne_eq_false_iff_eq.mpr c71
                                                        clear c71
                                                        replace H := Option.bind_eq_some_iff.mp H
                                                        obtain ⟨t158, A720, H⟩ := H
                                                        replace H : (if t158 = true then (if t156 = true then (if t157 = true then (some true) else (some x12_3)) else (some false)) else (some false)) = some r := H
                                                        have A72 := Aside0.mk A720
                                                        clear A720
                                                        by_cases c73 : t158 = true
                                                        · subst c73
                                                          have H1 : (if t156 = true then (if t157 = true then (some true) else (some x12_3)) else (some false)) = some r := by rw [if_pos rfl] at H; exact H
                                                          clear H
                                                          have H := H1
                                                          clear H1
                                                          by_cases c74 : t156 = true
                                                          · subst c74
                                                            have H1 : (if t157 = true then (some true) else (some x12_3)) = some r := by rw [if_pos rfl] at H; exact H
                                                            clear H
                                                            have H := H1
                                                            clear H1
                                                            by_cases c75 : t157 = true
                                                            · subst c75
                                                              have H1 : (some true) = some r := by rw [if_pos rfl] at H; exact H
                                                              clear H
                                                              have H := H1
                                                              clear H1
                                                              obtain rfl := Option.some.inj H
                                                              have p70 : 0 ≤ (x18_6 : Int) := of_decide_eq_true (by first | (with_reducible assumption) | assumption)
                                                              have q70 : x18_6 < (a1.size : Int) := of_decide_eq_true (by first | (with_reducible assumption) | assumption)
                                                              have hx70 := bt_at a1 x18_6
                                                              replace p70 := eq_true p70
                                                              replace q70 := eq_true q70
                                                              go_wp2_with (first | ((with_reducible refine gate_callee (f := 6) rfl ?_); refine goesL_ (some 156) rfl rfl Try.func6 (by kernel_rfl) rfl #[.string a0, .string a0] rfl (by (try simp only [List.map_toArray, List.map_cons, List.map_nil]); first | done | rfl | (simp only [List.length_drop, List.length_take]; rfl)) ?_; (with_reducible refine (store_Match.calls k6 a0 a0 true _ A72.out).mono ?_); rintro e w76 ⟨rfl, hb⟩; refine ⟨_, rfl, ?_⟩; have n0_ := Aside0.mk (below_step (by repeat (first | (with_reducible first | exact HB.out | apply below_alloc | apply pw_below_drewN | apply below_drew1) | exact HB.out)) hb); clear HB; have HB := n0_; clear n0_; (try clear hb); (try clear hb2); (try clear hk); (try clear hi)))
                                                              go_ret
                                                              exact ⟨by first | rfl | (simp [errW_none, errW_some] <;> rfl) | (simp only [← hji52]; first | rfl | (simp [errW_none, errW_some] <;> rfl)) | (simp [*, errW_none, errW_some] <;> rfl), by repeat (first | (with_reducible first | exact HB.out | apply below_alloc | apply pw_below_drewN | apply below_drew1) | exact HB.out)⟩
                                                            · replace c75 := Bool.eq_false_iff.mpr c75
                                                              subst c75
                                                              have H1 : (some x12_3) = some r := by rw [if_neg (show ¬ (false = true) by decide)] at H; exact H
                                                              clear H
                                                              have H := H1
                                                              clear H1
                                                              obtain rfl := Option.some.inj H
                                                              have p70 : 0 ≤ (x18_6 : Int) := of_decide_eq_true (by first | (with_reducible assumption) | assumption)
                                                              have q70 : x18_6 < (a1.size : Int) := of_decide_eq_true (by first | (with_reducible assumption) | assumption)
                                                              have hx70 := bt_at a1 x18_6
                                                              replace p70 := eq_true p70
                                                              replace q70 := eq_true q70
                                                              go_wp2_with (first | ((with_reducible refine gate_callee (f := 6) rfl ?_); refine goesL_ (some 156) rfl rfl Try.func6 (by kernel_rfl) rfl #[.string a0, .string a0] rfl (by (try simp only [List.map_toArray, List.map_cons, List.map_nil]); first | done | rfl | (simp only [List.length_drop, List.length_take]; rfl)) ?_; (with_reducible refine (store_Match.calls k6 a0 a0 true _ A72.out).mono ?_); rintro e w77 ⟨rfl, hb⟩; refine ⟨_, rfl, ?_⟩; have n0_ := Aside0.mk (below_step (by repeat (first | (with_reducible first | exact HB.out | apply below_alloc | apply pw_below_drewN | apply below_drew1) | exact HB.out)) hb); clear HB; have HB := n0_; clear n0_; (try clear hb); (try clear hb2); (try clear hk); (try clear hi)))
                                                              go_ret
                                                              exact ⟨by first | rfl | (simp [errW_none, errW_some] <;> rfl) | (simp only [← hji52]; first | rfl | (simp [errW_none, errW_some] <;> rfl)) | (simp [*, errW_none, errW_some] <;> rfl), by repeat (first | (with_reducible first | exact HB.out | apply below_alloc | apply pw_below_drewN | apply below_drew1) | exact HB.out)⟩
                                                          · replace c74 := Bool.eq_false_iff.mpr c74
                                                            subst c74
                                                            have H1 : (some false) = some r := by rw [if_neg (show ¬ (false = true) by decide)] at H; exact H
                                                            clear H
                                                            have H := H1
                                                            clear H1
                                                            obtain rfl := Option.some.inj H
                                                            have p70 : 0 ≤ (x18_6 : Int) := of_decide_eq_true (by first | (with_reducible assumption) | assumption)
                                                            have q70 : x18_6 < (a1.size : Int) := of_decide_eq_true (by first | (with_reducible assumption) | assumption)
                                                            have hx70 := bt_at a1 x18_6
                                                            replace p70 := eq_true p70
                                                            replace q70 := eq_true q70
                                                            go_wp2_with (first | ((with_reducible refine gate_callee (f := 6) rfl ?_); refine goesL_ (some 156) rfl rfl Try.func6 (by kernel_rfl) rfl #[.string a0, .string a0] rfl (by (try simp only [List.map_toArray, List.map_cons, List.map_nil]); first | done | rfl | (simp only [List.length_drop, List.length_take]; rfl)) ?_; (with_reducible refine (store_Match.calls k6 a0 a0 true _ A72.out).mono ?_); rintro e w78 ⟨rfl, hb⟩; refine ⟨_, rfl, ?_⟩; have n0_ := Aside0.mk (below_step (by repeat (first | (with_reducible first | exact HB.out | apply below_alloc | apply pw_below_drewN | apply below_drew1) | exact HB.out)) hb); clear HB; have HB := n0_; clear n0_; (try clear hb); (try clear hb2); (try clear hk); (try clear hi)))
                                                            go_ret
                                                            exact ⟨by first | rfl | (simp [errW_none, errW_some] <;> rfl) | (simp only [← hji52]; first | rfl | (simp [errW_none, errW_some] <;> rfl)) | (simp [*, errW_none, errW_some] <;> rfl), by repeat (first | (with_reducible first | exact HB.out | apply below_alloc | apply pw_below_drewN | apply below_drew1) | exact HB.out)⟩
                                                        · replace c73 := Bool.eq_false_iff.mpr c73
                                                          subst c73
                                                          have H1 : (some false) = some r := by rw [if_neg (show ¬ (false = true) by decide)] at H; exact H
                                                          clear H
                                                          have H := H1
                                                          clear H1
                                                          obtain rfl := Option.some.inj H
                                                          have p70 : 0 ≤ (x18_6 : Int) := of_decide_eq_true (by first | (with_reducible assumption) | assumption)
                                                          have q70 : x18_6 < (a1.size : Int) := of_decide_eq_true (by first | (with_reducible assumption) | assumption)
                                                          have hx70 := bt_at a1 x18_6
                                                          replace p70 := eq_true p70
                                                          replace q70 := eq_true q70
                                                          go_wp2_with (first | ((with_reducible refine gate_callee (f := 6) rfl ?_); refine goesL_ (some 156) rfl rfl Try.func6 (by kernel_rfl) rfl #[.string a0, .string a0] rfl (by (try simp only [List.map_toArray, List.map_cons, List.map_nil]); first | done | rfl | (simp only [List.length_drop, List.length_take]; rfl)) ?_; (with_reducible refine (store_Match.calls k6 a0 a0 false _ A72.out).mono ?_); rintro e w79 ⟨rfl, hb⟩; refine ⟨_, rfl, ?_⟩; have n0_ := Aside0.mk (below_step (by repeat (first | (with_reducible first | exact HB.out | apply below_alloc | apply pw_below_drewN | apply below_drew1) | exact HB.out)) hb); clear HB; have HB := n0_; clear n0_; (try clear hb); (try clear hb2); (try clear hk); (try clear hi)))
                                                          go_ret
                                                          exact ⟨by first | rfl | (simp [errW_none, errW_some] <;> rfl) | (simp only [← hji52]; first | rfl | (simp [errW_none, errW_some] <;> rfl)) | (simp [*, errW_none, errW_some] <;> rfl), by repeat (first | (with_reducible first | exact HB.out | apply below_alloc | apply pw_below_drewN | apply below_drew1) | exact HB.out)⟩
                                                      · rw [if_neg c71] at H
                                                        have c71b0 : ((bt a1 x18_6) == 42) = false := beq_eq_false_iff_ne.mpr c71
                                                        have c71b1 : ((bt a1 x18_6) != 42) = true := bne_iff_ne.mpr c71
                                                        by_cases c81 : (bt a1 x18_6) = 37
                                                        · rw [if_pos c81] at H
                                                          have c81b0 : ((bt a1 x18_6) == 37) = true := beq_iff_eq.mpr c81
                                                          have c81b1 : ((bt a1 x18_6) != 37) = false := bne_eq_false_iff_eq.mpr c81
                                                          clear c81
                                                          replace H := Option.bind_eq_some_iff.mp H
                                                          obtain ⟨t159, A820, H⟩ := H
                                                          replace H : (if t159 = true then (if t156 = true then (if t157 = true then (some true) else (some x12_3)) else (some false)) else (some false)) = some r := H
                                                          have A82 := Aside0.mk A820
                                                          clear A820
                                                          by_cases c83 : t159 = true
                                                          · subst c83
                                                            have H1 : (if t156 = true then (if t157 = true then (some true) else (some x12_3)) else (some false)) = some r := by rw [if_pos rfl] at H; exact H
                                                            clear H
                                                            have H := H1
                                                            clear H1
                                                            by_cases c84 : t156 = true
                                                            · subst c84
                                                              have H1 : (if t157 = true then (some true) else (some x12_3)) = some r := by rw [if_pos rfl] at H; exact H
                                                              clear H
                                                              have H := H1
                                                              clear H1
                                                              by_cases c85 : t157 = true
                                                              · subst c85
                                                                have H1 : (some true) = some r := by rw [if_pos rfl] at H; exact H
                                                                clear H
                                                                have H := H1
                                                                clear H1
                                                                obtain rfl := Option.some.inj H
                                                                have p70 : 0 ≤ (x18_6 : Int) := of_decide_eq_true (by first | (with_reducible assumption) | assumption)
                                                                have q70 : x18_6 < (a1.size : Int) := of_decide_eq_true (by first | (with_reducible assumption) | assumption)
                                                                have hx70 := bt_at a1 x18_6
                                                                replace p70 := eq_true p70
                                                                replace q70 := eq_true q70
                                                                have p80 : 0 ≤ (x18_6 : Int) := of_decide_eq_true (by first | (with_reducible assumption) | assumption)
                                                                have q80 : x18_6 < (a1.size : Int) := of_decide_eq_true (by first | (with_reducible assumption) | assumption)
                                                                have hx80 := bt_at a1 x18_6
                                                                replace p80 := eq_true p80
                                                                replace q80 := eq_true q80
                                                                go_wp2_with (first | ((with_reducible refine gate_callee (f := 6) rfl ?_); refine goesL_ (some 156) rfl rfl Try.func6 (by kernel_rfl) rfl #[.string a0, .string a0] rfl (by (try simp only [List.map_toArray, List.map_cons, List.map_nil]); first | done | rfl | (simp only [List.length_drop, List.length_take]; rfl)) ?_; (with_reducible refine (store_Match.calls k6 a0 a0 true _ A82.out).mono ?_); rintro e w86 ⟨rfl, hb⟩; refine ⟨_, rfl, ?_⟩; have n0_ := Aside0.mk (below_step (by repeat (first | (with_reducible first | exact HB.out | apply below_alloc | apply pw_below_drewN | apply below_drew1) | exact HB.out)) hb); clear HB; have HB := n0_; clear n0_; (try clear hb); (try clear hb2); (try clear hk); (try clear hi)))
                                                                go_ret
                                                                exact ⟨by first | rfl | (simp [errW_none, errW_some] <;> rfl) | (simp only [← hji52]; first | rfl | (simp [errW_none, errW_some] <;> rfl)) | (simp [*, errW_none, errW_some] <;> rfl), by repeat (first | (with_reducible first | exact HB.out | apply below_alloc | apply pw_below_drewN | apply below_drew1) | exact HB.out)⟩
                                                              · replace c85 := Bool.eq_false_iff.mpr c85
                                                                subst c85
                                                                have H1 : (some x12_3) = some r := by rw [if_neg (show ¬ (false = true) by decide)] at H; exact H
                                                                clear H
                                                                have H := H1
                                                                clear H1
                                                                obtain rfl := Option.some.inj H
                                                                have p70 : 0 ≤ (x18_6 : Int) := of_decide_eq_true (by first | (with_reducible assumption) | assumption)
                                                                have q70 : x18_6 < (a1.size : Int) := of_decide_eq_true (by first | (with_reducible assumption) | assumption)
                                                                have hx70 := bt_at a1 x18_6
                                                                replace p70 := eq_true p70
                                                                replace q70 := eq_true q70
                                                                have p80 : 0 ≤ (x18_6 : Int) := of_decide_eq_true (by first | (with_reducible assumption) | assumption)
                                                                have q80 : x18_6 < (a1.size : Int) := of_decide_eq_true (by first | (with_reducible assumption) | assumption)
                                                                have hx80 := bt_at a1 x18_6
                                                                replace p80 := eq_true p80
                                                                replace q80 := eq_true q80
                                                                go_wp2_with (first | ((with_reducible refine gate_callee (f := 6) rfl ?_); refine goesL_ (some 156) rfl rfl Try.func6 (by kernel_rfl) rfl #[.string a0, .string a0] rfl (by (try simp only [List.map_toArray, List.map_cons, List.map_nil]); first | done | rfl | (simp only [List.length_drop, List.length_take]; rfl)) ?_; (with_reducible refine (store_Match.calls k6 a0 a0 true _ A82.out).mono ?_); rintro e w87 ⟨rfl, hb⟩; refine ⟨_, rfl, ?_⟩; have n0_ := Aside0.mk (below_step (by repeat (first | (with_reducible first | exact HB.out | apply below_alloc | apply pw_below_drewN | apply below_drew1) | exact HB.out)) hb); clear HB; have HB := n0_; clear n0_; (try clear hb); (try clear hb2); (try clear hk); (try clear hi)))
                                                                go_ret
                                                                exact ⟨by first | rfl | (simp [errW_none, errW_some] <;> rfl) | (simp only [← hji52]; first | rfl | (simp [errW_none, errW_some] <;> rfl)) | (simp [*, errW_none, errW_some] <;> rfl), by repeat (first | (with_reducible first | exact HB.out | apply below_alloc | apply pw_below_drewN | apply below_drew1) | exact HB.out)⟩
                                                            · replace c84 := Bool.eq_false_iff.mpr c84
                                                              subst c84
                                                              have H1 : (some false) = some r := by rw [if_neg (show ¬ (false = true) by decide)] at H; exact H
                                                              clear H
                                                              have H := H1
                                                              clear H1
                                                              obtain rfl := Option.some.inj H
                                                              have p70 : 0 ≤ (x18_6 : Int) := of_decide_eq_true (by first | (with_reducible assumption) | assumption)
                                                              have q70 : x18_6 < (a1.size : Int) := of_decide_eq_true (by first | (with_reducible assumption) | assumption)
                                                              have hx70 := bt_at a1 x18_6
                                                              replace p70 := eq_true p70
                                                              replace q70 := eq_true q70
                                                              have p80 : 0 ≤ (x18_6 : Int) := of_decide_eq_true (by first | (with_reducible assumption) | assumption)
                                                              have q80 : x18_6 < (a1.size : Int) := of_decide_eq_true (by first | (with_reducible assumption) | assumption)
                                                              have hx80 := bt_at a1 x18_6
                                                              replace p80 := eq_true p80
                                                              replace q80 := eq_true q80
                                                              go_wp2_with (first | ((with_reducible refine gate_callee (f := 6) rfl ?_); refine goesL_ (some 156) rfl rfl Try.func6 (by kernel_rfl) rfl #[.string a0, .string a0] rfl (by (try simp only [List.map_toArray, List.map_cons, List.map_nil]); first | done | rfl | (simp only [List.length_drop, List.length_take]; rfl)) ?_; (with_reducible refine (store_Match.calls k6 a0 a0 true _ A82.out).mono ?_); rintro e w88 ⟨rfl, hb⟩; refine ⟨_, rfl, ?_⟩; have n0_ := Aside0.mk (below_step (by repeat (first | (with_reducible first | exact HB.out | apply below_alloc | apply pw_below_drewN | apply below_drew1) | exact HB.out)) hb); clear HB; have HB := n0_; clear n0_; (try clear hb); (try clear hb2); (try clear hk); (try clear hi)))
                                                              go_ret
                                                              exact ⟨by first | rfl | (simp [errW_none, errW_some] <;> rfl) | (simp only [← hji52]; first | rfl | (simp [errW_none, errW_some] <;> rfl)) | (simp [*, errW_none, errW_some] <;> rfl), by repeat (first | (with_reducible first | exact HB.out | apply below_alloc | apply pw_below_drewN | apply below_drew1) | exact HB.out)⟩
                                                          · replace c83 := Bool.eq_false_iff.mpr c83
                                                            subst c83
                                                            have H1 : (some false) = some r := by rw [if_neg (show ¬ (false = true) by decide)] at H; exact H
                                                            clear H
                                                            have H := H1
                                                            clear H1
                                                            obtain rfl := Option.some.inj H
                                                            have p70 : 0 ≤ (x18_6 : Int) := of_decide_eq_true (by first | (with_reducible assumption) | assumption)
                                                            have q70 : x18_6 < (a1.size : Int) := of_decide_eq_true (by first | (with_reducible assumption) | assumption)
                                                            have hx70 := bt_at a1 x18_6
                                                            replace p70 := eq_true p70
                                                            replace q70 := eq_true q70
                                                            have p80 : 0 ≤ (x18_6 : Int) := of_decide_eq_true (by first | (with_reducible assumption) | assumption)
                                                            have q80 : x18_6 < (a1.size : Int) := of_decide_eq_true (by first | (with_reducible assumption) | assumption)
                                                            have hx80 := bt_at a1 x18_6
                                                            replace p80 := eq_true p80
                                                            replace q80 := eq_true q80
                                                            go_wp2_with (first | ((with_reducible refine gate_callee (f := 6) rfl ?_); refine goesL_ (some 156) rfl rfl Try.func6 (by kernel_rfl) rfl #[.string a0, .string a0] rfl (by (try simp only [List.map_toArray, List.map_cons, List.map_nil]); first | done | rfl | (simp only [List.length_drop, List.length_take]; rfl)) ?_; (with_reducible refine (store_Match.calls k6 a0 a0 false _ A82.out).mono ?_); rintro e w89 ⟨rfl, hb⟩; refine ⟨_, rfl, ?_⟩; have n0_ := Aside0.mk (below_step (by repeat (first | (with_reducible first | exact HB.out | apply below_alloc | apply pw_below_drewN | apply below_drew1) | exact HB.out)) hb); clear HB; have HB := n0_; clear n0_; (try clear hb); (try clear hb2); (try clear hk); (try clear hi)))
                                                            go_ret
                                                            exact ⟨by first | rfl | (simp [errW_none, errW_some] <;> rfl) | (simp only [← hji52]; first | rfl | (simp [errW_none, errW_some] <;> rfl)) | (simp [*, errW_none, errW_some] <;> rfl), by repeat (first | (with_reducible first | exact HB.out | apply below_alloc | apply pw_below_drewN | apply below_drew1) | exact HB.out)⟩
                                                        · rw [if_neg c81] at H
                                                          have c81b0 : ((bt a1 x18_6) == 37) = false := beq_eq_false_iff_ne.mpr c81
                                                          have c81b1 : ((bt a1 x18_6) != 37) = true := bne_iff_ne.mpr c81
                                                          have H' := Aside0.mk H
                                                          clear H
                                                          have p70 : 0 ≤ (x18_6 : Int) := of_decide_eq_true (by first | (with_reducible assumption) | assumption)
                                                          have q70 : x18_6 < (a1.size : Int) := of_decide_eq_true (by first | (with_reducible assumption) | assumption)
                                                          have hx70 := bt_at a1 x18_6
                                                          replace p70 := eq_true p70
                                                          replace q70 := eq_true q70
                                                          have p80 : 0 ≤ (x18_6 : Int) := of_decide_eq_true (by first | (with_reducible assumption) | assumption)
                                                          have q80 : x18_6 < (a1.size : Int) := of_decide_eq_true (by first | (with_reducible assumption) | assumption)
                                                          have hx80 := bt_at a1 x18_6
                                                          replace p80 := eq_true p80
                                                          replace q80 := eq_true q80
                                                          go_wp2
                                                          go_roundg k6
                                                          case measure => have := HJ4.out; have := HK2.out; have := HK3.out; have := HJ27.out; have := HJ41.out; have := HK6.out; omega
                                                          case rel => exact ⟨(wrap64 (x18_6 + 1)), (by first | rfl | (simp; done) | (simp [*]; done) | (simp [bne, *]; done)), H', ⟨by have := HJ4.out; have := HK2.out; have := HK3.out; have := HJ27.out; have := HJ41.out; have := HK6.out; omega⟩, ⟨by repeat (first | (with_reducible first | exact HB.out | apply below_alloc | apply pw_below_drewN | apply below_drew1) | exact HB.out)⟩⟩
                                                    · rw [if_neg c69] at H
                                                      exact absurd H (by simp)
                                                  · rw [if_neg c68] at H
                                                    have c68b0 : decide (x18_6 < (a1.size : Int)) = false := decide_eq_false c68
                                                    clear c68
                                                    by_cases c90 : x14_41 = true
                                                    · subst c90
                                                      have H1 : ((store_Match.f k6 a0 a0).bind fun t160 => (if t160 = true then (if t156 = true then (if t157 = true then (some true) else (some x12_3)) else (some false)) else (some false))) = some r := by rw [if_pos rfl] at H; exact H
                                                      clear H
                                                      have H := H1
                                                      clear H1
                                                      replace H := Option.bind_eq_some_iff.mp H
                                                      obtain ⟨t160, A910, H⟩ := H
                                                      replace H : (if t160 = true then (if t156 = true then (if t157 = true then (some true) else (some x12_3)) else (some false)) else (some false)) = some r := H
                                                      have A91 := Aside0.mk A910
                                                      clear A910
                                                      by_cases c92 : t160 = true
                                                      · subst c92
                                                        have H1 : (if t156 = true then (if t157 = true then (some true) else (some x12_3)) else (some false)) = some r := by rw [if_pos rfl] at H; exact H
                                                        clear H
                                                        have H := H1
                                                        clear H1
                                                        by_cases c93 : t156 = true
                                                        · subst c93
                                                          have H1 : (if t157 = true then (some true) else (some x12_3)) = some r := by rw [if_pos rfl] at H; exact H
                                                          clear H
                                                          have H := H1
                                                          clear H1
                                                          by_cases c94 : t157 = true
                                                          · subst c94
                                                            have H1 : (some true) = some r := by rw [if_pos rfl] at H; exact H
                                                            clear H
                                                            have H := H1
                                                            clear H1
                                                            obtain rfl := Option.some.inj H
                                                            go_wp2_with (first | ((with_reducible refine gate_callee (f := 6) rfl ?_); refine goesL_ (some 177) rfl rfl Try.func6 (by kernel_rfl) rfl #[.string a0, .string a0] rfl (by (try simp only [List.map_toArray, List.map_cons, List.map_nil]); first | done | rfl | (simp only [List.length_drop, List.length_take]; rfl)) ?_; (with_reducible refine (store_Match.calls k6 a0 a0 true _ A91.out).mono ?_); rintro e w95 ⟨rfl, hb⟩; refine ⟨_, rfl, ?_⟩; have n0_ := Aside0.mk (below_step (by repeat (first | (with_reducible first | exact HB.out | apply below_alloc | apply pw_below_drewN | apply below_drew1) | exact HB.out)) hb); clear HB; have HB := n0_; clear n0_; (try clear hb); (try clear hb2); (try clear hk); (try clear hi)))
                                                            go_ret
                                                            exact ⟨by first | rfl | (simp [errW_none, errW_some] <;> rfl) | (simp only [← hji52]; first | rfl | (simp [errW_none, errW_some] <;> rfl)) | (simp [*, errW_none, errW_some] <;> rfl), by repeat (first | (with_reducible first | exact HB.out | apply below_alloc | apply pw_below_drewN | apply below_drew1) | exact HB.out)⟩
                                                          · replace c94 := Bool.eq_false_iff.mpr c94
                                                            subst c94
                                                            have H1 : (some x12_3) = some r := by rw [if_neg (show ¬ (false = true) by decide)] at H; exact H
                                                            clear H
                                                            have H := H1
                                                            clear H1
                                                            obtain rfl := Option.some.inj H
                                                            go_wp2_with (first | ((with_reducible refine gate_callee (f := 6) rfl ?_); refine goesL_ (some 177) rfl rfl Try.func6 (by kernel_rfl) rfl #[.string a0, .string a0] rfl (by (try simp only [List.map_toArray, List.map_cons, List.map_nil]); first | done | rfl | (simp only [List.length_drop, List.length_take]; rfl)) ?_; (with_reducible refine (store_Match.calls k6 a0 a0 true _ A91.out).mono ?_); rintro e w96 ⟨rfl, hb⟩; refine ⟨_, rfl, ?_⟩; have n0_ := Aside0.mk (below_step (by repeat (first | (with_reducible first | exact HB.out | apply below_alloc | apply pw_below_drewN | apply below_drew1) | exact HB.out)) hb); clear HB; have HB := n0_; clear n0_; (try clear hb); (try clear hb2); (try clear hk); (try clear hi)))
                                                            go_ret
                                                            exact ⟨by first | rfl | (simp [errW_none, errW_some] <;> rfl) | (simp only [← hji52]; first | rfl | (simp [errW_none, errW_some] <;> rfl)) | (simp [*, errW_none, errW_some] <;> rfl), by repeat (first | (with_reducible first | exact HB.out | apply below_alloc | apply pw_below_drewN | apply below_drew1) | exact HB.out)⟩
                                                        · replace c93 := Bool.eq_false_iff.mpr c93
                                                          subst c93
                                                          have H1 : (some false) = some r := by rw [if_neg (show ¬ (false = true) by decide)] at H; exact H
                                                          clear H
                                                          have H := H1
                                                          clear H1
                                                          obtain rfl := Option.some.inj H
                                                          go_wp2_with (first | ((with_reducible refine gate_callee (f := 6) rfl ?_); refine goesL_ (some 177) rfl rfl Try.func6 (by kernel_rfl) rfl #[.string a0, .string a0] rfl (by (try simp only [List.map_toArray, List.map_cons, List.map_nil]); first | done | rfl | (simp only [List.length_drop, List.length_take]; rfl)) ?_; (with_reducible refine (store_Match.calls k6 a0 a0 true _ A91.out).mono ?_); rintro e w97 ⟨rfl, hb⟩; refine ⟨_, rfl, ?_⟩; have n0_ := Aside0.mk (below_step (by repeat (first | (with_reducible first | exact HB.out | apply below_alloc | apply pw_below_drewN | apply below_drew1) | exact HB.out)) hb); clear HB; have HB := n0_; clear n0_; (try clear hb); (try clear hb2); (try clear hk); (try clear hi)))
                                                          go_ret
                                                          exact ⟨by first | rfl | (simp [errW_none, errW_some] <;> rfl) | (simp only [← hji52]; first | rfl | (simp [errW_none, errW_some] <;> rfl)) | (simp [*, errW_none, errW_some] <;> rfl), by repeat (first | (with_reducible first | exact HB.out | apply below_alloc | apply pw_below_drewN | apply below_drew1) | exact HB.out)⟩
                                                      · replace c92 := Bool.eq_false_iff.mpr c92
                                                        subst c92
                                                        have H1 : (some false) = some r := by rw [if_neg (show ¬ (false = true) by decide)] at H; exact H
                                                        clear H
                                                        have H := H1
                                                        clear H1
                                                        obtain rfl := Option.some.inj H
                                                        go_wp2_with (first | ((with_reducible refine gate_callee (f := 6) rfl ?_); refine goesL_ (some 177) rfl rfl Try.func6 (by kernel_rfl) rfl #[.string a0, .string a0] rfl (by (try simp only [List.map_toArray, List.map_cons, List.map_nil]); first | done | rfl | (simp only [List.length_drop, List.length_take]; rfl)) ?_; (with_reducible refine (store_Match.calls k6 a0 a0 false _ A91.out).mono ?_); rintro e w98 ⟨rfl, hb⟩; refine ⟨_, rfl, ?_⟩; have n0_ := Aside0.mk (below_step (by repeat (first | (with_reducible first | exact HB.out | apply below_alloc | apply pw_below_drewN | apply below_drew1) | exact HB.out)) hb); clear HB; have HB := n0_; clear n0_; (try clear hb); (try clear hb2); (try clear hk); (try clear hi)))
                                                        go_ret
                                                        exact ⟨by first | rfl | (simp [errW_none, errW_some] <;> rfl) | (simp only [← hji52]; first | rfl | (simp [errW_none, errW_some] <;> rfl)) | (simp [*, errW_none, errW_some] <;> rfl), by repeat (first | (with_reducible first | exact HB.out | apply below_alloc | apply pw_below_drewN | apply below_drew1) | exact HB.out)⟩
                                                    · replace c90 := Bool.eq_false_iff.mpr c90
                                                      subst c90
                                                      have H1 : (if (t155 != (a1.toList == a0.toList)) = true then (some false) else ((store_Match.f k6 a0 a0).bind fun t161 => (if t161 = true then (if t156 = true then (if t157 = true then (some true) else (some x12_3)) else (some false)) else (some false)))) = some r := by rw [if_neg (show ¬ (false = true) by decide)] at H; exact H
                                                      clear H
                                                      have H := H1
                                                      clear H1
                                                      by_cases c99 : (t155 != (a1.toList == a0.toList)) = true
                                                      · rw [if_pos c99] at H
                                                        have c99b0 : (t155 != (a1.toList == a0.toList)) = true := c99
                                                        (try (have c99b1 : decide (t155 = (a1.toList == a0.toList)) = false := by simpa using c99))
                                                        (try (have c99b2 : (t155 == (a1.toList == a0.toList)) = false := by simpa using c99))
                                                        (try (have c99b3 : ¬ (t155 = (a1.toList == a0.toList)) := by simpa using c99))
                                                        clear c99
                                                        obtain rfl := Option.some.inj H
                                                        go_wp2
                                                        go_ret
                                                        exact ⟨by first | rfl | (simp [errW_none, errW_some] <;> rfl) | (simp only [← hji52]; first | rfl | (simp [errW_none, errW_some] <;> rfl)) | (simp [*, errW_none, errW_some] <;> rfl), by repeat (first | (with_reducible first | exact HB.out | apply below_alloc | apply pw_below_drewN | apply below_drew1) | exact HB.out)⟩
                                                      · rw [if_neg c99] at H
                                                        have c99b0 : (t155 != (a1.toList == a0.toList)) = false := by simpa using c99
                                                        (try (have c99b1 : decide (t155 = (a1.toList == a0.toList)) = true := by simpa using c99))
                                                        (try (have c99b2 : (t155 == (a1.toList == a0.toList)) = true := by simpa using c99))
                                                        clear c99
                                                        replace H := Option.bind_eq_some_iff.mp H
                                                        obtain ⟨t161, A1000, H⟩ := H
                                                        replace H : (if t161 = true then (if t156 = true then (if t157 = true then (some true) else (some x12_3)) else (some false)) else (some false)) = some r := H
                                                        have A100 := Aside0.mk A1000
                                                        clear A1000
                                                        by_cases c101 : t161 = true
                                                        · subst c101
                                                          have H1 : (if t156 = true then (if t157 = true then (some true) else (some x12_3)) else (some false)) = some r := by rw [if_pos rfl] at H; exact H
                                                          clear H
                                                          have H := H1
                                                          clear H1
                                                          by_cases c102 : t156 = true
                                                          · subst c102
                                                            have H1 : (if t157 = true then (some true) else (some x12_3)) = some r := by rw [if_pos rfl] at H; exact H
                                                            clear H
                                                            have H := H1
                                                            clear H1
                                                            by_cases c103 : t157 = true
                                                            · subst c103
                                                              have H1 : (some true) = some r := by rw [if_pos rfl] at H; exact H
                                                              clear H
                                                              have H := H1
                                                              clear H1
                                                              obtain rfl := Option.some.inj H
                                                              go_wp2_with (first | ((with_reducible refine gate_callee (f := 6) rfl ?_); refine goesL_ (some 177) rfl rfl Try.func6 (by kernel_rfl) rfl #[.string a0, .string a0] rfl (by (try simp only [List.map_toArray, List.map_cons, List.map_nil]); first | done | rfl | (simp only [List.length_drop, List.length_take]; rfl)) ?_; (with_reducible refine (store_Match.calls k6 a0 a0 true _ A100.out).mono ?_); rintro e w104 ⟨rfl, hb⟩; refine ⟨_, rfl, ?_⟩; have n0_ := Aside0.mk (below_step (by repeat (first | (with_reducible first | exact HB.out | apply below_alloc | apply pw_below_drewN | apply below_drew1) | exact HB.out)) hb); clear HB; have HB := n0_; clear n0_; (try clear hb); (try clear hb2); (try clear hk); (try clear hi)))
                                                              go_ret
                                                              exact ⟨by first | rfl | (simp [errW_none, errW_some] <;> rfl) | (simp only [← hji52]; first | rfl | (simp [errW_none, errW_some] <;> rfl)) | (simp [*, errW_none, errW_some] <;> rfl), by repeat (first | (with_reducible first | exact HB.out | apply below_alloc | apply pw_below_drewN | apply below_drew1) | exact HB.out)⟩
                                                            · replace c103 := Bool.eq_false_iff.mpr c103
                                                              subst c103
                                                              have H1 : (some x12_3) = some r := by rw [if_neg (show ¬ (false = true) by decide)] at H; exact H
                                                              clear H
                                                              have H := H1
                                                              clear H1
                                                              obtain rfl := Option.some.inj H
                                                              go_wp2_with (first | ((with_reducible refine gate_callee (f := 6) rfl ?_); refine goesL_ (some 177) rfl rfl Try.func6 (by kernel_rfl) rfl #[.string a0, .string a0] rfl (by (try simp only [List.map_toArray, List.map_cons, List.map_nil]); first | done | rfl | (simp only [List.length_drop, List.length_take]; rfl)) ?_; (with_reducible refine (store_Match.calls k6 a0 a0 true _ A100.out).mono ?_); rintro e w105 ⟨rfl, hb⟩; refine ⟨_, rfl, ?_⟩; have n0_ := Aside0.mk (below_step (by repeat (first | (with_reducible first | exact HB.out | apply below_alloc | apply pw_below_drewN | apply below_drew1) | exact HB.out)) hb); clear HB; have HB := n0_; clear n0_; (try clear hb); (try clear hb2); (try clear hk); (try clear hi)))
                                                              go_ret
                                                              exact ⟨by first | rfl | (simp [errW_none, errW_some] <;> rfl) | (simp only [← hji52]; first | rfl | (simp [errW_none, errW_some] <;> rfl)) | (simp [*, errW_none, errW_some] <;> rfl), by repeat (first | (with_reducible first | exact HB.out | apply below_alloc | apply pw_below_drewN | apply below_drew1) | exact HB.out)⟩
                                                          · replace c102 := Bool.eq_false_iff.mpr c102
                                                            subst c102
                                                            have H1 : (some false) = some r := by rw [if_neg (show ¬ (false = true) by decide)] at H; exact H
                                                            clear H
                                                            have H := H1
                                                            clear H1
                                                            obtain rfl := Option.some.inj H
                                                            go_wp2_with (first | ((with_reducible refine gate_callee (f := 6) rfl ?_); refine goesL_ (some 177) rfl rfl Try.func6 (by kernel_rfl) rfl #[.string a0, .string a0] rfl (by (try simp only [List.map_toArray, List.map_cons, List.map_nil]); first | done | rfl | (simp only [List.length_drop, List.length_take]; rfl)) ?_; (with_reducible refine (store_Match.calls k6 a0 a0 true _ A100.out).mono ?_); rintro e w106 ⟨rfl, hb⟩; refine ⟨_, rfl, ?_⟩; have n0_ := Aside0.mk (below_step (by repeat (first | (with_reducible first | exact HB.out | apply below_alloc | apply pw_below_drewN | apply below_drew1) | exact HB.out)) hb); clear HB; have HB := n0_; clear n0_; (try clear hb); (try clear hb2); (try clear hk); (try clear hi)))
                                                            go_ret
                                                            exact ⟨by first | rfl | (simp [errW_none, errW_some] <;> rfl) | (simp only [← hji52]; first | rfl | (simp [errW_none, errW_some] <;> rfl)) | (simp [*, errW_none, errW_some] <;> rfl), by repeat (first | (with_reducible first | exact HB.out | apply below_alloc | apply pw_below_drewN | apply below_drew1) | exact HB.out)⟩
                                                        · replace c101 := Bool.eq_false_iff.mpr c101
                                                          subst c101
                                                          have H1 : (some false) = some r := by rw [if_neg (show ¬ (false = true) by decide)] at H; exact H
                                                          clear H
                                                          have H := H1
                                                          clear H1
                                                          obtain rfl := Option.some.inj H
                                                          go_wp2_with (first | ((with_reducible refine gate_callee (f := 6) rfl ?_); refine goesL_ (some 177) rfl rfl Try.func6 (by kernel_rfl) rfl #[.string a0, .string a0] rfl (by (try simp only [List.map_toArray, List.map_cons, List.map_nil]); first | done | rfl | (simp only [List.length_drop, List.length_take]; rfl)) ?_; (with_reducible refine (store_Match.calls k6 a0 a0 false _ A100.out).mono ?_); rintro e w107 ⟨rfl, hb⟩; refine ⟨_, rfl, ?_⟩; have n0_ := Aside0.mk (below_step (by repeat (first | (with_reducible first | exact HB.out | apply below_alloc | apply pw_below_drewN | apply below_drew1) | exact HB.out)) hb); clear HB; have HB := n0_; clear n0_; (try clear hb); (try clear hb2); (try clear hk); (try clear hi)))
                                                          go_ret
                                                          exact ⟨by first | rfl | (simp [errW_none, errW_some] <;> rfl) | (simp only [← hji52]; first | rfl | (simp [errW_none, errW_some] <;> rfl)) | (simp [*, errW_none, errW_some] <;> rfl), by repeat (first | (with_reducible first | exact HB.out | apply below_alloc | apply pw_below_drewN | apply below_drew1) | exact HB.out)⟩
                                            · rw [if_neg c61] at H
                                              exact absurd H (by simp)
                                          · rw [if_neg c55] at H
                                            exact absurd H (by simp)
                                        · rw [if_neg c54] at H
                                          exact absurd H (by simp)
                                      · rw [if_neg c53] at H
                                        exact absurd H (by simp)
                                    · rw [if_neg c51] at H
                                      exact absurd H (by simp)
                                  · rw [if_neg c50] at H
                                    exact absurd H (by simp)
                                · rw [if_neg c49] at H
                                  exact absurd H (by simp)
                          · replace c41 := Bool.eq_false_iff.mpr c41
                            subst c41
                            have H1 : (some true) = some r := by rw [if_neg (show ¬ (false = true) by decide)] at H; exact H
                            clear H
                            have H := H1
                            clear H1
                            obtain rfl := Option.some.inj H
                            go_wp2
                            go_ret
                            exact ⟨by first | rfl | (simp [errW_none, errW_some] <;> rfl) | (simp [*, errW_none, errW_some] <;> rfl), by repeat (first | (with_reducible first | exact HB.out | apply below_alloc | apply pw_below_drewN | apply below_drew1) | exact HB.out)⟩

/-- THE ONE PURE STATEMENT of postbaglaw12_StorePatterns: yours. -/
def postbaglaw12_StorePatterns.Pure : Prop := ∀ (a0 : ByteArray) (a1 : ByteArray) (a2 : Int) (a3 : Int), a0.size ≤ 140737488351232 → a1.size ≤ 140737488351232 → (Lit.int .i64 a2).wf = true → (Lit.int .i64 a3).wf = true → ∃ k, postbaglaw12_StorePatterns.f k a0 a1 a2 a3 = some true
theorem postbaglaw12_StorePatterns.walk (P : postbaglaw12_StorePatterns.Pure) (a0 : ByteArray) (a1 : ByteArray) (a2 : Int) (a3 : Int) (w : World) (w0 : a0.size ≤ 140737488351232) (w1 : a1.size ≤ 140737488351232) (w2 : (Lit.int .i64 a2).wf = true) (w3 : (Lit.int .i64 a3).wf = true) :
    Calls Try.prog 4 #[.string a0, .string a1, .int .i64 a2, .int .i64 a3] w fun e w' => e = .returned (.bool true) ∧ Below w.heap.size w w' := by
  obtain ⟨k, h⟩ := P a0 a1 a2 a3 w0 w1 w2 w3
  refine (postbaglaw12_StorePatterns.calls k a0 a1 a2 a3 true w h).mono ?_
  rintro e w' ⟨rfl, hd⟩
  exact ⟨rfl, hd⟩

end Go.Proofs.Ytkfehogefclhdaa.PSm
