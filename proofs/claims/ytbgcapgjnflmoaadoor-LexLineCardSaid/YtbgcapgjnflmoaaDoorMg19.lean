/- Contracts of the functions that the statement reaches, and plain lemmas: PLyx1. -/
import Derived.Test.YtbgcapgjnflmoaaDoorMg18
set_option linter.unusedVariables false
set_option linter.unusedSimpArgs false
set_option linter.unnecessarySimpa false
-- Written by xprint.py, a program of this session over the kit's print: not the print's own text.
namespace Go.Proofs.YtbgcapgjnflmoaaDoor.PLy
open Go.RowKit Go.Proofs.YtbgcapgjnflmoaaDoorW.PrintWords Go.Proofs.YtbgcapgjnflmoaaDoorW.PrintLast Go.Proofs.YtbgcapgjnflmoaaDoorW.PrintMore
attribute [local go_sem] max2_int min2_int max_two min_two max_three min_three max_four min_four   -- for this text's walks alone
set_option linter.unusedVariables false
set_option linter.unusedSimpArgs false


/-! ### strings_ContainsRune: function 53 -/
def strings_ContainsRune.f (a0 : ByteArray) (a1 : Int) : Option Bool := if 0 ≤ a1 then (if a1 < 128 then some (decide (0 ≤ Lib.indexByte a0.data.toList a1.toNat.toUInt8)) else none) else none
theorem strings_ContainsRune.calls (a0 : ByteArray) (a1 : Int) (r : Bool) (w : World) (h : strings_ContainsRune.f a0 a1 = some r) :
    Calls Tryd.prog 53 #[.string a0, .int .i32 a1] w fun e w' => e = .returned (.bool r) ∧ Drawn0 w w' := by
  unfold strings_ContainsRune.f at h
  by_cases c : 0 ≤ a1
  · rw [if_pos c] at h
    by_cases c2 : a1 < 128
    · rw [if_pos c2] at h
      obtain rfl := Option.some.inj h
      exact (Tryd.strings_ContainsRune_ascii a0 a1 w c c2).mono fun e w' h => ⟨h.1, by rw [h.2]; exact Drawn0.refl _⟩
    · rw [if_neg c2] at h
      exact absurd h (by simp)
  · rw [if_neg c] at h
    exact absurd h (by simp)

/-! ### lex_grade: function 38 -/
mutual
def lex_grade.j0 : Nat → Int → Int → Bool → Option (Int)
  | 0, _, _, _ => none
  | k + 1, x0, x3, x4 => if x4 = true then (some x3) else (if x0 ≥ 48 then (lex_grade.j1 k x0 x3 (decide (x0 ≤ 57))) else (lex_grade.j1 k x0 x3 false))
def lex_grade.j1 : Nat → Int → Int → Bool → Option (Int)
  | 0, _, _, _ => none
  | k + 1, x0, x3, x11 => if x11 = true then (if x0 = 13 then (some (Go.bits .or .u8 (Go.bits .or .u8 (Go.bits .or .u8 (Go.bits .or .u8 x3 16) 2) 4) 1)) else (if x0 = 10 then (some (Go.bits .or .u8 (Go.bits .or .u8 (Go.bits .or .u8 (Go.bits .or .u8 x3 16) 2) 4) 1)) else (some (Go.bits .or .u8 (Go.bits .or .u8 (Go.bits .or .u8 (Go.bits .or .u8 (Go.bits .or .u8 x3 16) 2) 4) 1) 8)))) else (if x0 > 32 then (if x0 < 127 then ((strings_ContainsRune.f (⟨#[40, 41, 91, 93, 123, 125, 34, 37, 42, 92]⟩ : ByteArray) (wrap32 (x0))).bind fun t101 => (lex_grade.j2 k x0 x3 (!t101))) else (lex_grade.j2 k x0 x3 false)) else (lex_grade.j2 k x0 x3 false))
def lex_grade.j2 : Nat → Int → Int → Bool → Option (Int)
  | 0, _, _, _ => none
  | k + 1, x0, x3, x18 => if x18 = true then (if x0 = 13 then (some (Go.bits .or .u8 (Go.bits .or .u8 (Go.bits .or .u8 x3 2) 4) 1)) else (if x0 = 10 then (some (Go.bits .or .u8 (Go.bits .or .u8 (Go.bits .or .u8 x3 2) 4) 1)) else (some (Go.bits .or .u8 (Go.bits .or .u8 (Go.bits .or .u8 (Go.bits .or .u8 x3 2) 4) 1) 8)))) else (if x0 = 37 then (lex_grade.j3 k x0 x3 true) else (lex_grade.j3 k x0 x3 (x0 == 42)))
def lex_grade.j3 : Nat → Int → Int → Bool → Option (Int)
  | 0, _, _, _ => none
  | k + 1, x0, x3, x31 => if x31 = true then (if x0 = 13 then (some (Go.bits .or .u8 (Go.bits .or .u8 x3 4) 1)) else (if x0 = 10 then (some (Go.bits .or .u8 (Go.bits .or .u8 x3 4) 1)) else (some (Go.bits .or .u8 (Go.bits .or .u8 (Go.bits .or .u8 x3 4) 1) 8)))) else (if x0 = 92 then (if x0 = 13 then (some (Go.bits .or .u8 x3 1)) else (if x0 = 10 then (some (Go.bits .or .u8 x3 1)) else (some (Go.bits .or .u8 (Go.bits .or .u8 x3 1) 8)))) else (if x0 = 13 then (some x3) else (if x0 = 10 then (some x3) else (some (Go.bits .or .u8 x3 8)))))
end
def lex_grade.f (k : Nat) (a0 : Int) : Option (Int) := if a0 = 0 then (lex_grade.j0 k a0 0 true) else (lex_grade.j0 k a0 0 (decide (a0 > 127)))
theorem lex_grade.mono_l : ∀ k, (∀ y0 y1 y2, LeO (lex_grade.j0 k y0 y1 y2) (lex_grade.j0 (k + 1) y0 y1 y2)) ∧ (∀ y0 y1 y2, LeO (lex_grade.j1 k y0 y1 y2) (lex_grade.j1 (k + 1) y0 y1 y2)) ∧ (∀ y0 y1 y2, LeO (lex_grade.j2 k y0 y1 y2) (lex_grade.j2 (k + 1) y0 y1 y2)) ∧ (∀ y0 y1 y2, LeO (lex_grade.j3 k y0 y1 y2) (lex_grade.j3 (k + 1) y0 y1 y2))
  | 0 => ⟨fun _ _ _ r h => by simp [lex_grade.j0] at h, fun _ _ _ r h => by simp [lex_grade.j1] at h, fun _ _ _ r h => by simp [lex_grade.j2] at h, fun _ _ _ r h => by simp [lex_grade.j3] at h⟩
  | k + 1 => by
    obtain ⟨ih0, ih1, ih2, ih3⟩ := lex_grade.mono_l k
    refine ⟨?_, ?_, ?_, ?_⟩
    · intro y0 y1 y2
      unfold lex_grade.j0
      repeat' first
      | (with_reducible exact ih0 _ _ _)
      | (with_reducible exact ih1 _ _ _)
      | (with_reducible exact ih2 _ _ _)
      | (with_reducible exact ih3 _ _ _)
      | (with_reducible exact LeO.refl _)
      | (with_reducible exact LeO.none _)
      | (with_reducible refine LeO.ite ?_ ?_)
      | (with_reducible refine LeO.bind ?_ (fun _ => ?_))
      | exact ih0 _ _ _
      | exact ih1 _ _ _
      | exact ih2 _ _ _
      | exact ih3 _ _ _
      | exact LeO.none _
      | refine LeO.ite ?_ ?_
      | refine LeO.bind ?_ (fun _ => ?_)
    · intro y0 y1 y2
      unfold lex_grade.j1
      repeat' first
      | (with_reducible exact ih0 _ _ _)
      | (with_reducible exact ih1 _ _ _)
      | (with_reducible exact ih2 _ _ _)
      | (with_reducible exact ih3 _ _ _)
      | (with_reducible exact LeO.refl _)
      | (with_reducible exact LeO.none _)
      | (with_reducible refine LeO.ite ?_ ?_)
      | (with_reducible refine LeO.bind ?_ (fun _ => ?_))
      | exact ih0 _ _ _
      | exact ih1 _ _ _
      | exact ih2 _ _ _
      | exact ih3 _ _ _
      | exact LeO.none _
      | refine LeO.ite ?_ ?_
      | refine LeO.bind ?_ (fun _ => ?_)
    · intro y0 y1 y2
      unfold lex_grade.j2
      repeat' first
      | (with_reducible exact ih0 _ _ _)
      | (with_reducible exact ih1 _ _ _)
      | (with_reducible exact ih2 _ _ _)
      | (with_reducible exact ih3 _ _ _)
      | (with_reducible exact LeO.refl _)
      | (with_reducible exact LeO.none _)
      | (with_reducible refine LeO.ite ?_ ?_)
      | (with_reducible refine LeO.bind ?_ (fun _ => ?_))
      | exact ih0 _ _ _
      | exact ih1 _ _ _
      | exact ih2 _ _ _
      | exact ih3 _ _ _
      | exact LeO.none _
      | refine LeO.ite ?_ ?_
      | refine LeO.bind ?_ (fun _ => ?_)
    · intro y0 y1 y2
      unfold lex_grade.j3
      repeat' first
      | (with_reducible exact ih0 _ _ _)
      | (with_reducible exact ih1 _ _ _)
      | (with_reducible exact ih2 _ _ _)
      | (with_reducible exact ih3 _ _ _)
      | (with_reducible exact LeO.refl _)
      | (with_reducible exact LeO.none _)
      | (with_reducible refine LeO.ite ?_ ?_)
      | (with_reducible refine LeO.bind ?_ (fun _ => ?_))
      | exact ih0 _ _ _
      | exact ih1 _ _ _
      | exact ih2 _ _ _
      | exact ih3 _ _ _
      | exact LeO.none _
      | refine LeO.ite ?_ ?_
      | refine LeO.bind ?_ (fun _ => ?_)
theorem lex_grade.mono : ∀ a0 k, LeO (lex_grade.f k a0) (lex_grade.f (k + 1) a0) := by
  intro a0 k
  obtain ⟨ih0, ih1, ih2, ih3⟩ := lex_grade.mono_l k
  unfold lex_grade.f
  repeat' first
      | (with_reducible exact ih0 _ _ _)
      | (with_reducible exact ih1 _ _ _)
      | (with_reducible exact ih2 _ _ _)
      | (with_reducible exact ih3 _ _ _)
      | (with_reducible exact LeO.refl _)
      | (with_reducible exact LeO.none _)
      | (with_reducible refine LeO.ite ?_ ?_)
      | (with_reducible refine LeO.bind ?_ (fun _ => ?_))
      | exact ih0 _ _ _
      | exact ih1 _ _ _
      | exact ih2 _ _ _
      | exact ih3 _ _ _
      | exact LeO.none _
      | refine LeO.ite ?_ ?_
      | refine LeO.bind ?_ (fun _ => ?_)
set_option maxHeartbeats 8000000 in
set_option maxRecDepth 100000 in
theorem lex_grade.calls (k : Nat) (a0 : Int) (r : Int) (w : World) (h : lex_grade.f k a0 = some r) :
    Calls Tryd.prog 38 #[.int .u8 a0] w fun e w' => e = .returned (.int .u8 r) ∧ Drawn0 w w' := by
  have H : (if a0 = 0 then (lex_grade.j0 k a0 0 true) else (lex_grade.j0 k a0 0 (decide (a0 > 127)))) = some r := h
  clear h
  have HC2 := Aside0.mk H
  clear H
  go_enter Tryd.func38, Tryd.ntmps38
  go_upto_region 2 with (fail)
  go_cut [4] (fun v4 wc => ∃ (kq : Nat) (x4_1 : Bool), v4 = .bool x4_1 ∧ Aside0 (lex_grade.j0 kq a0 0 x4_1 = some r) ∧ Aside0 (kq ≤ k) ∧ Drawn0 w wc)
  case first =>
    have H := HC2.out
    clear HC2
    by_cases c3 : a0 = 0
    · rw [if_pos c3] at H
      have c3b0 : (a0 == 0) = true := beq_iff_eq.mpr c3
      have c3b1 : (a0 != 0) = false := bne_eq_false_iff_eq.mpr c3
      clear c3
      (first | rw [c3b0] | (simp only [i64_w, i32_w]; rw [c3b0]) | skip)
      have H' := Aside0.mk H
      clear H
      go_wp2
      go_meet
      case rel => exact ⟨_, (true), (by first | rfl | (simp; done) | (simp [*]; done) | (simp [bne, *]; done)), H', ⟨by first | omega | exact Nat.le_refl _⟩, by repeat (first | exact Drawn0.refl _ | apply Drawn0.step)⟩
    · rw [if_neg c3] at H
      have c3b0 : (a0 == 0) = false := beq_eq_false_iff_ne.mpr c3
      have c3b1 : (a0 != 0) = true := bne_iff_ne.mpr c3
      (first | rw [c3b0] | (simp only [i64_w, i32_w]; rw [c3b0]) | skip)
      have H' := Aside0.mk H
      clear H
      go_wp2
      go_meet
      case rel => exact ⟨_, (decide (a0 > 127)), (by first | rfl | (simp; done) | (simp [*]; done) | (simp [bne, *]; done)), H', ⟨by first | omega | exact Nat.le_refl _⟩, by repeat (first | exact Drawn0.refl _ | apply Drawn0.step)⟩
  case rest =>
    clear HC2
    try clear p2
    try clear c3
    try clear c3b0
    try clear c3b1
    obtain ⟨kq, x4_1, rfl, HA, HJ1, ⟨mc1, rfl⟩⟩ := hcut
    cases kq with
    | zero => exact absurd HA.out (by simp [lex_grade.j0])
    | succ kj1 =>
      have H := HA.out
      clear HA
      simp only [lex_grade.j0] at H
      by_cases c4 : x4_1 = true
      · subst c4
        have H1 : (some 0) = some r := by rw [if_pos rfl] at H; exact H
        clear H
        have H := H1
        clear H1
        obtain rfl := Option.some.inj H
        go_wp2
        go_ret
        exact ⟨by first | rfl | (simp; done) | (simp [*]; done), by repeat (first | exact Drawn0.refl _ | apply Drawn0.step)⟩
      · replace c4 := Bool.eq_false_iff.mpr c4
        subst c4
        have H1 : (if a0 ≥ 48 then (lex_grade.j1 kj1 a0 0 (decide (a0 ≤ 57))) else (lex_grade.j1 kj1 a0 0 false)) = some r := by rw [if_neg (show ¬ (false = true) by decide)] at H; exact H
        clear H
        have H := H1
        clear H1
        have HC5 := Aside0.mk H
        clear H
        go_upto_region 3 with (fail)
        go_cut [11] (fun v11 wc => ∃ (kq : Nat) (x11_4 : Bool), v11 = .bool x11_4 ∧ Aside0 (lex_grade.j1 kq a0 0 x11_4 = some r) ∧ Aside0 (kq ≤ kj1) ∧ Drawn0 w wc)
        case first =>
          have H := HC5.out
          clear HC5
          by_cases c6 : a0 ≥ 48
          · rw [if_pos c6] at H
            have c6b0 : decide (48 ≤ a0) = true := decide_eq_true c6
            clear c6
            (first | rw [c6b0] | (simp only [i64_w, i32_w]; rw [c6b0]) | skip)
            have H' := Aside0.mk H
            clear H
            go_wp2
            go_meet
            case rel => exact ⟨_, (decide (a0 ≤ 57)), (by first | rfl | (simp; done) | (simp [*]; done) | (simp [bne, *]; done)), H', ⟨by have := HJ1.out; first | omega | exact Nat.le_refl _⟩, by repeat (first | exact Drawn0.refl _ | apply Drawn0.step)⟩
          · rw [if_neg c6] at H
            have c6b0 : decide (48 ≤ a0) = false := decide_eq_false c6
            clear c6
            (first | rw [c6b0] | (simp only [i64_w, i32_w]; rw [c6b0]) | skip)
            have H' := Aside0.mk H
            clear H
            go_wp2
            go_meet
            case rel => exact ⟨_, (false), (by first | rfl | (simp; done) | (simp [*]; done) | (simp [bne, *]; done)), H', ⟨by have := HJ1.out; first | omega | exact Nat.le_refl _⟩, by repeat (first | exact Drawn0.refl _ | apply Drawn0.step)⟩
        case rest =>
          clear HC5
          try clear c1
          try clear p2
          try clear c3
          try clear c3b0
          try clear c3b1
          try clear c4
          try clear c6
          try clear c6b0
          try clear p2
          obtain ⟨kq, x11_4, rfl, HA, HJ4, ⟨mc4, rfl⟩⟩ := hcut
          cases kq with
          | zero => exact absurd HA.out (by simp [lex_grade.j1])
          | succ kj4 =>
            have H := HA.out
            clear HA
            simp only [lex_grade.j1] at H
            by_cases c7 : x11_4 = true
            · subst c7
              have H1 : (if a0 = 13 then (some (Go.bits .or .u8 (Go.bits .or .u8 (Go.bits .or .u8 (Go.bits .or .u8 0 16) 2) 4) 1)) else (if a0 = 10 then (some (Go.bits .or .u8 (Go.bits .or .u8 (Go.bits .or .u8 (Go.bits .or .u8 0 16) 2) 4) 1)) else (some (Go.bits .or .u8 (Go.bits .or .u8 (Go.bits .or .u8 (Go.bits .or .u8 (Go.bits .or .u8 0 16) 2) 4) 1) 8)))) = some r := by rw [if_pos rfl] at H; exact H
              clear H
              have H := H1
              clear H1
              by_cases c8 : a0 = 13
              · rw [if_pos c8] at H
                have c8b0 : (a0 == 13) = true := beq_iff_eq.mpr c8
                have c8b1 : (a0 != 13) = false := bne_eq_false_iff_eq.mpr c8
                clear c8
                obtain rfl := Option.some.inj H
                go_wp2
                go_ret
                exact ⟨by first | rfl | (simp; done) | (simp [*]; done), by repeat (first | exact Drawn0.refl _ | apply Drawn0.step)⟩
              · rw [if_neg c8] at H
                have c8b0 : (a0 == 13) = false := beq_eq_false_iff_ne.mpr c8
                have c8b1 : (a0 != 13) = true := bne_iff_ne.mpr c8
                by_cases c9 : a0 = 10
                · rw [if_pos c9] at H
                  have c9b0 : (a0 == 10) = true := beq_iff_eq.mpr c9
                  have c9b1 : (a0 != 10) = false := bne_eq_false_iff_eq.mpr c9
                  clear c9
                  obtain rfl := Option.some.inj H
                  go_wp2
                  go_ret
                  exact ⟨by first | rfl | (simp; done) | (simp [*]; done), by repeat (first | exact Drawn0.refl _ | apply Drawn0.step)⟩
                · rw [if_neg c9] at H
                  have c9b0 : (a0 == 10) = false := beq_eq_false_iff_ne.mpr c9
                  have c9b1 : (a0 != 10) = true := bne_iff_ne.mpr c9
                  obtain rfl := Option.some.inj H
                  go_wp2
                  go_ret
                  exact ⟨by first | rfl | (simp; done) | (simp [*]; done), by repeat (first | exact Drawn0.refl _ | apply Drawn0.step)⟩
            · replace c7 := Bool.eq_false_iff.mpr c7
              subst c7
              have H1 : (if a0 > 32 then (if a0 < 127 then ((strings_ContainsRune.f (⟨#[40, 41, 91, 93, 123, 125, 34, 37, 42, 92]⟩ : ByteArray) (wrap32 (a0))).bind fun t101 => (lex_grade.j2 kj4 a0 0 (!t101))) else (lex_grade.j2 kj4 a0 0 false)) else (lex_grade.j2 kj4 a0 0 false)) = some r := by rw [if_neg (show ¬ (false = true) by decide)] at H; exact H
              clear H
              have H := H1
              clear H1
              have HC10 := Aside0.mk H
              clear H
              go_upto_region 4 with (fail)
              go_cut [18] (fun v18 wc => ∃ (kq : Nat) (x18_9 : Bool), v18 = .bool x18_9 ∧ Aside0 (lex_grade.j2 kq a0 0 x18_9 = some r) ∧ Aside0 (kq ≤ kj4) ∧ Drawn0 w wc)
              case first =>
                have H := HC10.out
                clear HC10
                by_cases c11 : a0 > 32
                · rw [if_pos c11] at H
                  have c11b0 : decide (32 < a0) = true := decide_eq_true c11
                  clear c11
                  (first | rw [c11b0] | (simp only [i64_w, i32_w]; rw [c11b0]) | skip)
                  by_cases c12 : a0 < 127
                  · rw [if_pos c12] at H
                    have c12b0 : decide (a0 < 127) = true := decide_eq_true c12
                    clear c12
                    replace H := Option.bind_eq_some_iff.mp H
                    obtain ⟨t101, A130, H⟩ := H
                    replace H : (lex_grade.j2 kj4 a0 0 (!t101)) = some r := H
                    have A13 := Aside0.mk A130
                    clear A130
                    have H' := Aside0.mk H
                    clear H
                    go_wp2_with (first | (go_at_call 53; (with_reducible refine (strings_ContainsRune.calls (⟨#[40, 41, 91, 93, 123, 125, 34, 37, 42, 92]⟩ : ByteArray) (wrap32 (a0)) t101 _ A13.out).mono ?_); rintro e w' ⟨rfl, ⟨nd, rfl⟩⟩))
                    go_meet
                    case rel => exact ⟨_, (!t101), (by first | rfl | (simp; done) | (simp [*]; done) | (simp [bne, *]; done)), H', ⟨by have := HJ1.out; have := HJ4.out; first | omega | exact Nat.le_refl _⟩, by repeat (first | exact Drawn0.refl _ | apply Drawn0.step)⟩
                  · rw [if_neg c12] at H
                    have c12b0 : decide (a0 < 127) = false := decide_eq_false c12
                    clear c12
                    have H' := Aside0.mk H
                    clear H
                    go_wp2
                    go_meet
                    case rel => exact ⟨_, (false), (by first | rfl | (simp; done) | (simp [*]; done) | (simp [bne, *]; done)), H', ⟨by have := HJ1.out; have := HJ4.out; first | omega | exact Nat.le_refl _⟩, by repeat (first | exact Drawn0.refl _ | apply Drawn0.step)⟩
                · rw [if_neg c11] at H
                  have c11b0 : decide (32 < a0) = false := decide_eq_false c11
                  clear c11
                  (first | rw [c11b0] | (simp only [i64_w, i32_w]; rw [c11b0]) | skip)
                  have H' := Aside0.mk H
                  clear H
                  go_wp2
                  go_meet
                  case rel => exact ⟨_, (false), (by first | rfl | (simp; done) | (simp [*]; done) | (simp [bne, *]; done)), H', ⟨by have := HJ1.out; have := HJ4.out; first | omega | exact Nat.le_refl _⟩, by repeat (first | exact Drawn0.refl _ | apply Drawn0.step)⟩
              case rest =>
                clear HC10
                try clear c1
                try clear p2
                try clear c3
                try clear c3b0
                try clear c3b1
                try clear p3
                try clear c4
                try clear c6
                try clear c6b0
                try clear c7
                try clear c8
                try clear c8b0
                try clear c8b1
                try clear c9
                try clear c9b0
                try clear c9b1
                try clear c11
                try clear c11b0
                try clear c12
                try clear c12b0
                try clear p2
                obtain ⟨kq, x18_9, rfl, HA, HJ9, ⟨mc9, rfl⟩⟩ := hcut
                cases kq with
                | zero => exact absurd HA.out (by simp [lex_grade.j2])
                | succ kj9 =>
                  have H := HA.out
                  clear HA
                  simp only [lex_grade.j2] at H
                  by_cases c14 : x18_9 = true
                  · subst c14
                    have H1 : (if a0 = 13 then (some (Go.bits .or .u8 (Go.bits .or .u8 (Go.bits .or .u8 0 2) 4) 1)) else (if a0 = 10 then (some (Go.bits .or .u8 (Go.bits .or .u8 (Go.bits .or .u8 0 2) 4) 1)) else (some (Go.bits .or .u8 (Go.bits .or .u8 (Go.bits .or .u8 (Go.bits .or .u8 0 2) 4) 1) 8)))) = some r := by rw [if_pos rfl] at H; exact H
                    clear H
                    have H := H1
                    clear H1
                    by_cases c15 : a0 = 13
                    · rw [if_pos c15] at H
                      have c15b0 : (a0 == 13) = true := beq_iff_eq.mpr c15
                      have c15b1 : (a0 != 13) = false := bne_eq_false_iff_eq.mpr c15
                      clear c15
                      obtain rfl := Option.some.inj H
                      go_wp2
                      go_ret
                      exact ⟨by first | rfl | (simp; done) | (simp [*]; done), by repeat (first | exact Drawn0.refl _ | apply Drawn0.step)⟩
                    · rw [if_neg c15] at H
                      have c15b0 : (a0 == 13) = false := beq_eq_false_iff_ne.mpr c15
                      have c15b1 : (a0 != 13) = true := bne_iff_ne.mpr c15
                      by_cases c16 : a0 = 10
                      · rw [if_pos c16] at H
                        have c16b0 : (a0 == 10) = true := beq_iff_eq.mpr c16
                        have c16b1 : (a0 != 10) = false := bne_eq_false_iff_eq.mpr c16
                        clear c16
                        obtain rfl := Option.some.inj H
                        go_wp2
                        go_ret
                        exact ⟨by first | rfl | (simp; done) | (simp [*]; done), by repeat (first | exact Drawn0.refl _ | apply Drawn0.step)⟩
                      · rw [if_neg c16] at H
                        have c16b0 : (a0 == 10) = false := beq_eq_false_iff_ne.mpr c16
                        have c16b1 : (a0 != 10) = true := bne_iff_ne.mpr c16
                        obtain rfl := Option.some.inj H
                        go_wp2
                        go_ret
                        exact ⟨by first | rfl | (simp; done) | (simp [*]; done), by repeat (first | exact Drawn0.refl _ | apply Drawn0.step)⟩
                  · replace c14 := Bool.eq_false_iff.mpr c14
                    subst c14
                    have H1 : (if a0 = 37 then (lex_grade.j3 kj9 a0 0 true) else (lex_grade.j3 kj9 a0 0 (a0 == 42))) = some r := by rw [if_neg (show ¬ (false = true) by decide)] at H; exact H
                    clear H
                    have H := H1
                    clear H1
                    have HC17 := Aside0.mk H
                    clear H
                    go_upto_region 5 with (fail)
                    go_cut [31] (fun v31 wc => ∃ (kq : Nat) (x31_16 : Bool), v31 = .bool x31_16 ∧ Aside0 (lex_grade.j3 kq a0 0 x31_16 = some r) ∧ Aside0 (kq ≤ kj9) ∧ Drawn0 w wc)
                    case first =>
                      have H := HC17.out
                      clear HC17
                      by_cases c18 : a0 = 37
                      · rw [if_pos c18] at H
                        have c18b0 : (a0 == 37) = true := beq_iff_eq.mpr c18
                        have c18b1 : (a0 != 37) = false := bne_eq_false_iff_eq.mpr c18
                        clear c18
                        (first | rw [c18b0] | (simp only [i64_w, i32_w]; rw [c18b0]) | skip)
                        have H' := Aside0.mk H
                        clear H
                        go_wp2
                        go_meet
                        case rel => exact ⟨_, (true), (by first | rfl | (simp; done) | (simp [*]; done) | (simp [bne, *]; done)), H', ⟨by have := HJ1.out; have := HJ4.out; have := HJ9.out; first | omega | exact Nat.le_refl _⟩, by repeat (first | exact Drawn0.refl _ | apply Drawn0.step)⟩
                      · rw [if_neg c18] at H
                        have c18b0 : (a0 == 37) = false := beq_eq_false_iff_ne.mpr c18
                        have c18b1 : (a0 != 37) = true := bne_iff_ne.mpr c18
                        (first | rw [c18b0] | (simp only [i64_w, i32_w]; rw [c18b0]) | skip)
                        have H' := Aside0.mk H
                        clear H
                        go_wp2
                        go_meet
                        case rel => exact ⟨_, ((a0 == 42)), (by first | rfl | (simp; done) | (simp [*]; done) | (simp [bne, *]; done)), H', ⟨by have := HJ1.out; have := HJ4.out; have := HJ9.out; first | omega | exact Nat.le_refl _⟩, by repeat (first | exact Drawn0.refl _ | apply Drawn0.step)⟩
                    case rest =>
                      clear HC17
                      try clear c1
                      try clear p2
                      try clear c3
                      try clear c3b0
                      try clear c3b1
                      try clear p3
                      try clear c4
                      try clear c6
                      try clear c6b0
                      try clear c7
                      try clear c8
                      try clear c8b0
                      try clear c8b1
                      try clear c9
                      try clear c9b0
                      try clear c9b1
                      try clear c11
                      try clear c11b0
                      try clear c12
                      try clear c12b0
                      try clear c14
                      try clear c15
                      try clear c15b0
                      try clear c15b1
                      try clear c16
                      try clear c16b0
                      try clear c16b1
                      try clear c18
                      try clear c18b0
                      try clear c18b1
                      try clear p2
                      try clear p3
                      obtain ⟨kq, x31_16, rfl, HA, HJ16, ⟨mc16, rfl⟩⟩ := hcut
                      cases kq with
                      | zero => exact absurd HA.out (by simp [lex_grade.j3])
                      | succ kj16 =>
                        have H := HA.out
                        clear HA
                        simp only [lex_grade.j3] at H
                        by_cases c19 : x31_16 = true
                        · subst c19
                          have H1 : (if a0 = 13 then (some (Go.bits .or .u8 (Go.bits .or .u8 0 4) 1)) else (if a0 = 10 then (some (Go.bits .or .u8 (Go.bits .or .u8 0 4) 1)) else (some (Go.bits .or .u8 (Go.bits .or .u8 (Go.bits .or .u8 0 4) 1) 8)))) = some r := by rw [if_pos rfl] at H; exact H
                          clear H
                          have H := H1
                          clear H1
                          by_cases c20 : a0 = 13
                          · rw [if_pos c20] at H
                            have c20b0 : (a0 == 13) = true := beq_iff_eq.mpr c20
                            have c20b1 : (a0 != 13) = false := bne_eq_false_iff_eq.mpr c20
                            clear c20
                            obtain rfl := Option.some.inj H
                            go_wp2
                            go_ret
                            exact ⟨by first | rfl | (simp; done) | (simp [*]; done), by repeat (first | exact Drawn0.refl _ | apply Drawn0.step)⟩
                          · rw [if_neg c20] at H
                            have c20b0 : (a0 == 13) = false := beq_eq_false_iff_ne.mpr c20
                            have c20b1 : (a0 != 13) = true := bne_iff_ne.mpr c20
                            by_cases c21 : a0 = 10
                            · rw [if_pos c21] at H
                              have c21b0 : (a0 == 10) = true := beq_iff_eq.mpr c21
                              have c21b1 : (a0 != 10) = false := bne_eq_false_iff_eq.mpr c21
                              clear c21
                              obtain rfl := Option.some.inj H
                              go_wp2
                              go_ret
                              exact ⟨by first | rfl | (simp; done) | (simp [*]; done), by repeat (first | exact Drawn0.refl _ | apply Drawn0.step)⟩
                            · rw [if_neg c21] at H
                              have c21b0 : (a0 == 10) = false := beq_eq_false_iff_ne.mpr c21
                              have c21b1 : (a0 != 10) = true := bne_iff_ne.mpr c21
                              obtain rfl := Option.some.inj H
                              go_wp2
                              go_ret
                              exact ⟨by first | rfl | (simp; done) | (simp [*]; done), by repeat (first | exact Drawn0.refl _ | apply Drawn0.step)⟩
                        · replace c19 := Bool.eq_false_iff.mpr c19
                          subst c19
                          have H1 : (if a0 = 92 then (if a0 = 13 then (some (Go.bits .or .u8 0 1)) else (if a0 = 10 then (some (Go.bits .or .u8 0 1)) else (some (Go.bits .or .u8 (Go.bits .or .u8 0 1) 8)))) else (if a0 = 13 then (some 0) else (if a0 = 10 then (some 0) else (some (Go.bits .or .u8 0 8))))) = some r := by rw [if_neg (show ¬ (false = true) by decide)] at H; exact H
                          clear H
                          have H := H1
                          clear H1
                          by_cases c22 : a0 = 92
                          · rw [if_pos c22] at H
                            have c22b0 : (a0 == 92) = true := beq_iff_eq.mpr c22
                            have c22b1 : (a0 != 92) = false := bne_eq_false_iff_eq.mpr c22
                            clear c22
                            by_cases c23 : a0 = 13
                            · rw [if_pos c23] at H
                              have c23b0 : (a0 == 13) = true := beq_iff_eq.mpr c23
                              have c23b1 : (a0 != 13) = false := bne_eq_false_iff_eq.mpr c23
                              clear c23
                              obtain rfl := Option.some.inj H
                              go_wp2
                              go_ret
                              exact ⟨by first | rfl | (simp; done) | (simp [*]; done), by repeat (first | exact Drawn0.refl _ | apply Drawn0.step)⟩
                            · rw [if_neg c23] at H
                              have c23b0 : (a0 == 13) = false := beq_eq_false_iff_ne.mpr c23
                              have c23b1 : (a0 != 13) = true := bne_iff_ne.mpr c23
                              by_cases c24 : a0 = 10
                              · rw [if_pos c24] at H
                                have c24b0 : (a0 == 10) = true := beq_iff_eq.mpr c24
                                have c24b1 : (a0 != 10) = false := bne_eq_false_iff_eq.mpr c24
                                clear c24
                                obtain rfl := Option.some.inj H
                                go_wp2
                                go_ret
                                exact ⟨by first | rfl | (simp; done) | (simp [*]; done), by repeat (first | exact Drawn0.refl _ | apply Drawn0.step)⟩
                              · rw [if_neg c24] at H
                                have c24b0 : (a0 == 10) = false := beq_eq_false_iff_ne.mpr c24
                                have c24b1 : (a0 != 10) = true := bne_iff_ne.mpr c24
                                obtain rfl := Option.some.inj H
                                go_wp2
                                go_ret
                                exact ⟨by first | rfl | (simp; done) | (simp [*]; done), by repeat (first | exact Drawn0.refl _ | apply Drawn0.step)⟩
                          · rw [if_neg c22] at H
                            have c22b0 : (a0 == 92) = false := beq_eq_false_iff_ne.mpr c22
                            have c22b1 : (a0 != 92) = true := bne_iff_ne.mpr c22
                            by_cases c25 : a0 = 13
                            · rw [if_pos c25] at H
                              have c25b0 : (a0 == 13) = true := beq_iff_eq.mpr c25
                              have c25b1 : (a0 != 13) = false := bne_eq_false_iff_eq.mpr c25
                              clear c25
                              obtain rfl := Option.some.inj H
                              go_wp2
                              go_ret
                              exact ⟨by first | rfl | (simp; done) | (simp [*]; done), by repeat (first | exact Drawn0.refl _ | apply Drawn0.step)⟩
                            · rw [if_neg c25] at H
                              have c25b0 : (a0 == 13) = false := beq_eq_false_iff_ne.mpr c25
                              have c25b1 : (a0 != 13) = true := bne_iff_ne.mpr c25
                              by_cases c26 : a0 = 10
                              · rw [if_pos c26] at H
                                have c26b0 : (a0 == 10) = true := beq_iff_eq.mpr c26
                                have c26b1 : (a0 != 10) = false := bne_eq_false_iff_eq.mpr c26
                                clear c26
                                obtain rfl := Option.some.inj H
                                go_wp2
                                go_ret
                                exact ⟨by first | rfl | (simp; done) | (simp [*]; done), by repeat (first | exact Drawn0.refl _ | apply Drawn0.step)⟩
                              · rw [if_neg c26] at H
                                have c26b0 : (a0 == 10) = false := beq_eq_false_iff_ne.mpr c26
                                have c26b1 : (a0 != 10) = true := bne_iff_ne.mpr c26
                                obtain rfl := Option.some.inj H
                                go_wp2
                                go_ret
                                exact ⟨by first | rfl | (simp; done) | (simp [*]; done), by repeat (first | exact Drawn0.refl _ | apply Drawn0.step)⟩

/-! ### lex_all: function 33 -/
def lex_all.l0 : Nat → ByteArray → Int → Int → Int → Option (Bool)
  | 0, _, _, _, _ => none
  | k + 1, x0, x1, x7, x8 => if x8 < x7 then (if 0 ≤ x8 then (if x8 < (x0.size : Int) then ((lex_grade.f k (bt x0 x8)).bind fun t102 => (if (Go.bits .and .u8 t102 x1) = 0 then (some false) else (lex_all.l0 k x0 x1 x7 (wrap64 (x8 + 1))))) else (none)) else (none)) else (some true)
def lex_all.f (k : Nat) (a0 : ByteArray) (a1 : Int) : Option (Bool) := lex_all.l0 k a0 a1 (a0.size : Int) 0
theorem lex_all.mono_l : ∀ k, (∀ y0 y1 y2 y3, LeO (lex_all.l0 k y0 y1 y2 y3) (lex_all.l0 (k + 1) y0 y1 y2 y3))
  | 0 => fun _ _ _ _ r h => by simp [lex_all.l0] at h
  | k + 1 => by
    have ih0 := lex_all.mono_l k
    · intro y0 y1 y2 y3
      unfold lex_all.l0
      repeat' first
      | (with_reducible exact ih0 _ _ _ _)
      | (with_reducible exact lex_grade.mono _ _)
      | (with_reducible exact LeO.refl _)
      | (with_reducible exact LeO.none _)
      | (with_reducible refine LeO.ite ?_ ?_)
      | (with_reducible refine LeO.bind ?_ (fun _ => ?_))
      | exact ih0 _ _ _ _
      | exact lex_grade.mono _ _
      | exact LeO.none _
      | refine LeO.ite ?_ ?_
      | refine LeO.bind ?_ (fun _ => ?_)
theorem lex_all.mono : ∀ a0 a1 k, LeO (lex_all.f k a0 a1) (lex_all.f (k + 1) a0 a1) := by
  intro a0 a1 k
  have ih0 := lex_all.mono_l k
  unfold lex_all.f
  repeat' first
      | (with_reducible exact ih0 _ _ _ _)
      | (with_reducible exact lex_grade.mono _ _)
      | (with_reducible exact LeO.refl _)
      | (with_reducible exact LeO.none _)
      | (with_reducible refine LeO.ite ?_ ?_)
      | (with_reducible refine LeO.bind ?_ (fun _ => ?_))
      | exact ih0 _ _ _ _
      | exact lex_grade.mono _ _
      | exact LeO.none _
      | refine LeO.ite ?_ ?_
      | refine LeO.bind ?_ (fun _ => ?_)
set_option maxHeartbeats 8000000 in
set_option maxRecDepth 100000 in
theorem lex_all.calls (k : Nat) (a0 : ByteArray) (a1 : Int) (r : Bool) (w : World) (h : lex_all.f k a0 a1 = some r) :
    Calls Tryd.prog 33 #[.string a0, .int .u8 a1] w fun e w' => e = .returned (.bool r) ∧ Drawn0 w w' := by
  have H : (lex_all.l0 k a0 a1 (a0.size : Int) 0) = some r := h
  clear h
  have H' := Aside0.mk H
  clear H
  go_enter Tryd.func33, Tryd.ntmps33
  go_wp2
  go_loopg [8] k (fun kq v8 w' => ∃ (x8_1 : Int), v8 = .int .i64 x8_1 ∧ Aside0 (lex_all.l0 kq a0 a1 (a0.size : Int) x8_1 = some r) ∧ Aside0 (kq ≤ k) ∧ Drawn0 w w')
  case atStart => exact ⟨(0), (by first | rfl | (simp; done) | (simp [*]; done) | (simp [bne, *]; done)), H', ⟨Nat.le_refl _⟩, by repeat (first | exact Drawn0.refl _ | apply Drawn0.step)⟩
  case round =>
    clear H'
    try clear p2
    obtain ⟨x8_1, rfl, HA, HK1, ⟨m1, rfl⟩⟩ := hrel
    cases gk with
    | zero => exact absurd HA.out (by simp [lex_all.l0])
    | succ k1 =>
      have H := HA.out
      clear HA
      simp only [lex_all.l0] at H
      by_cases c3 : x8_1 < (a0.size : Int)
      · rw [if_pos c3] at H
        have c3b0 : decide (x8_1 < (a0.size : Int)) = true := decide_eq_true c3
        clear c3
        by_cases c4 : 0 ≤ x8_1
        · rw [if_pos c4] at H
          have c4b0 : decide (0 ≤ x8_1) = true := decide_eq_true c4
          clear c4
          by_cases c5 : x8_1 < (a0.size : Int)
          · rw [if_pos c5] at H
            have c5b0 : decide (x8_1 < (a0.size : Int)) = true := decide_eq_true c5
            clear c5
            replace H := Option.bind_eq_some_iff.mp H
            obtain ⟨t102, A70, H⟩ := H
            replace H : (if (Go.bits .and .u8 t102 a1) = 0 then (some false) else (lex_all.l0 k1 a0 a1 (a0.size : Int) (wrap64 (x8_1 + 1)))) = some r := H
            have A7 := Aside0.mk A70
            clear A70
            by_cases c8 : (Go.bits .and .u8 t102 a1) = 0
            · rw [if_pos c8] at H
              have c8b0 : ((Go.bits .and .u8 t102 a1) == 0) = true := beq_iff_eq.mpr c8
              have c8b1 : ((Go.bits .and .u8 t102 a1) != 0) = false := bne_eq_false_iff_eq.mpr c8
              clear c8
              obtain rfl := Option.some.inj H
              have p6 : 0 ≤ (x8_1 : Int) := of_decide_eq_true (by first | (with_reducible assumption) | assumption)
              have q6 : x8_1 < (a0.size : Int) := of_decide_eq_true (by first | (with_reducible assumption) | assumption)
              have hx6 := bt_at a0 x8_1
              replace p6 := eq_true p6
              replace q6 := eq_true q6
              go_wp2_with (first | ((with_reducible refine gate_callee (f := 38) rfl ?_); refine goesL_ (some 14) rfl rfl Tryd.func38 (by kernel_rfl) rfl #[.int .u8 (bt a0 x8_1)] rfl (by (try simp only [List.map_toArray, List.map_cons, List.map_nil]); first | done | rfl | (simp only [List.length_drop, List.length_take]; rfl)) ?_; (with_reducible refine (lex_grade.calls k1 (bt a0 x8_1) t102 _ A7.out).mono ?_); rintro e w' ⟨rfl, ⟨nd, rfl⟩⟩; refine ⟨_, rfl, ?_⟩))
              go_ret
              exact ⟨by first | rfl | (simp; done) | (simp [*]; done), by repeat (first | exact Drawn0.refl _ | apply Drawn0.step)⟩
            · rw [if_neg c8] at H
              have c8b0 : ((Go.bits .and .u8 t102 a1) == 0) = false := beq_eq_false_iff_ne.mpr c8
              have c8b1 : ((Go.bits .and .u8 t102 a1) != 0) = true := bne_iff_ne.mpr c8
              have H' := Aside0.mk H
              clear H
              have p6 : 0 ≤ (x8_1 : Int) := of_decide_eq_true (by first | (with_reducible assumption) | assumption)
              have q6 : x8_1 < (a0.size : Int) := of_decide_eq_true (by first | (with_reducible assumption) | assumption)
              have hx6 := bt_at a0 x8_1
              replace p6 := eq_true p6
              replace q6 := eq_true q6
              go_wp2_with (first | ((with_reducible refine gate_callee (f := 38) rfl ?_); refine goesL_ (some 14) rfl rfl Tryd.func38 (by kernel_rfl) rfl #[.int .u8 (bt a0 x8_1)] rfl (by (try simp only [List.map_toArray, List.map_cons, List.map_nil]); first | done | rfl | (simp only [List.length_drop, List.length_take]; rfl)) ?_; (with_reducible refine (lex_grade.calls k1 (bt a0 x8_1) t102 _ A7.out).mono ?_); rintro e w' ⟨rfl, ⟨nd, rfl⟩⟩; refine ⟨_, rfl, ?_⟩))
              go_roundg k1
              case measure => have := HK1.out; omega
              case rel => exact ⟨(wrap64 (x8_1 + 1)), (by first | rfl | (simp; done) | (simp [*]; done) | (simp [bne, *]; done)), H', ⟨by have := HK1.out; omega⟩, by repeat (first | exact Drawn0.refl _ | apply Drawn0.step)⟩
          · rw [if_neg c5] at H
            exact absurd H (by simp)
        · rw [if_neg c4] at H
          exact absurd H (by simp)
      · rw [if_neg c3] at H
        have c3b0 : decide (x8_1 < (a0.size : Int)) = false := decide_eq_false c3
        clear c3
        obtain rfl := Option.some.inj H
        go_wp2
        go_ret
        exact ⟨by first | rfl | (simp; done) | (simp [*]; done), by repeat (first | exact Drawn0.refl _ | apply Drawn0.step)⟩


/-! ### lex_quote: function 34 -/
def lex_quote.f (a0 : ByteArray) : Option ByteArray := if a0.size ≤ 70368744177000 then some (Ext.quoteBA a0) else none
theorem lex_quote.calls (a0 : ByteArray) (r : ByteArray) (w : World) (h : lex_quote.f a0 = some r) :
    Calls Tryd.prog 34 #[.string a0] w fun e w' => e = .returned (.string r) ∧ Below w.heap.size w w' := by
  unfold lex_quote.f at h
  by_cases c : a0.size ≤ 70368744177000
  · rw [if_pos c] at h
    obtain rfl := Option.some.inj h
    exact Ext.quote_any a0 w c
  · rw [if_neg c] at h
    exact absurd h (by simp)


/-! ### strconv_Itoa: function 35 -/
def strconv_Itoa.f (a0 : Int) : Option ByteArray := if -9223372036854775808 ≤ a0 ∧ a0 ≤ 9223372036854775807 then some (Ext.itoaBA a0) else none
theorem strconv_Itoa.calls (a0 : Int) (r : ByteArray) (w : World) (h : strconv_Itoa.f a0 = some r) (HW0 : Ext.WP w) :
    Calls Tryd.prog 35 #[.int .i64 a0] w fun e w' => e = .returned (.string r) ∧ Below w.heap.size w w' := by
  unfold strconv_Itoa.f at h
  by_cases c : -9223372036854775808 ≤ a0 ∧ a0 ≤ 9223372036854775807
  · rw [if_pos c] at h
    obtain rfl := Option.some.inj h
    exact Ext.itoa_any a0 w c.1 c.2 HW0
  · rw [if_neg c] at h
    exact absurd h (by simp)

/-! ### lex_String: function 19 -/
def lex_String.f (k : Nat) (a0 : ByteArray) : Option (ByteArray) := (lex_all.f k a0 8).bind fun t103 => (if t103 = true then ((lex_quote.f a0).bind fun t104 => (some t104)) else ((strconv_Itoa.f (a0.size : Int)).bind fun t105 => (if 1 + t105.size ≤ 9223372036854775807 then (if ((⟨#[123]⟩ : ByteArray) ++ t105).size + 3 ≤ 9223372036854775807 then (if (((⟨#[123]⟩ : ByteArray) ++ t105) ++ (⟨#[125, 13, 10]⟩ : ByteArray)).size + a0.size ≤ 9223372036854775807 then (some ((((⟨#[123]⟩ : ByteArray) ++ t105) ++ (⟨#[125, 13, 10]⟩ : ByteArray)) ++ a0)) else (none)) else (none)) else (none))))
theorem lex_String.mono : ∀ a0 k, LeO (lex_String.f k a0) (lex_String.f (k + 1) a0) := by
  intro a0 k
  unfold lex_String.f
  repeat' first
      | (with_reducible exact lex_all.mono _ _ _)
      | (with_reducible exact LeO.refl _)
      | (with_reducible exact LeO.none _)
      | (with_reducible refine LeO.ite ?_ ?_)
      | (with_reducible refine LeO.bind ?_ (fun _ => ?_))
      | exact lex_all.mono _ _ _
      | exact LeO.none _
      | refine LeO.ite ?_ ?_
      | refine LeO.bind ?_ (fun _ => ?_)
set_option maxHeartbeats 8000000 in
set_option maxRecDepth 100000 in
theorem lex_String.calls (k : Nat) (a0 : ByteArray) (r : ByteArray) (w : World) (h : lex_String.f k a0 = some r) (HW0 : Ext.WP w) :
    Calls Tryd.prog 19 #[.string a0] w fun e w' => e = .returned (.string r) ∧ Below w.heap.size w w' := by
  have HW := Aside0.mk HW0
  clear HW0
  have HB := Aside0.mk (Below.refl w.heap.size w)
  have H : ((lex_all.f k a0 8).bind fun t103 => (if t103 = true then ((lex_quote.f a0).bind fun t104 => (some t104)) else ((strconv_Itoa.f (a0.size : Int)).bind fun t105 => (if 1 + t105.size ≤ 9223372036854775807 then (if ((⟨#[123]⟩ : ByteArray) ++ t105).size + 3 ≤ 9223372036854775807 then (if (((⟨#[123]⟩ : ByteArray) ++ t105) ++ (⟨#[125, 13, 10]⟩ : ByteArray)).size + a0.size ≤ 9223372036854775807 then (some ((((⟨#[123]⟩ : ByteArray) ++ t105) ++ (⟨#[125, 13, 10]⟩ : ByteArray)) ++ a0)) else (none)) else (none)) else (none))))) = some r := h
  clear h
  replace H := Option.bind_eq_some_iff.mp H
  obtain ⟨t103, A20, H⟩ := H
  replace H : (if t103 = true then ((lex_quote.f a0).bind fun t104 => (some t104)) else ((strconv_Itoa.f (a0.size : Int)).bind fun t105 => (if 1 + t105.size ≤ 9223372036854775807 then (if ((⟨#[123]⟩ : ByteArray) ++ t105).size + 3 ≤ 9223372036854775807 then (if (((⟨#[123]⟩ : ByteArray) ++ t105) ++ (⟨#[125, 13, 10]⟩ : ByteArray)).size + a0.size ≤ 9223372036854775807 then (some ((((⟨#[123]⟩ : ByteArray) ++ t105) ++ (⟨#[125, 13, 10]⟩ : ByteArray)) ++ a0)) else (none)) else (none)) else (none)))) = some r := H
  have A2 := Aside0.mk A20
  clear A20
  by_cases c3 : t103 = true
  · subst c3
    have H1 : ((lex_quote.f a0).bind fun t104 => (some t104)) = some r := by rw [if_pos rfl] at H; exact H
    clear H
    have H := H1
    clear H1
    replace H := Option.bind_eq_some_iff.mp H
    obtain ⟨t104, A40, H⟩ := H
    replace H : (some t104) = some r := H
    have A4 := Aside0.mk A40
    clear A40
    obtain rfl := Option.some.inj H
    go_enter Tryd.func19, Tryd.ntmps19
    go_wp2_with (first | ((with_reducible refine gate_callee (f := 33) rfl ?_); refine goesL_ (some 4) rfl rfl Tryd.func33 (by kernel_rfl) rfl #[.string a0, .int .u8 8] rfl (by (try simp only [List.map_toArray, List.map_cons, List.map_nil]); first | done | rfl | (simp only [List.length_drop, List.length_take]; rfl)) ?_; (with_reducible refine (lex_all.calls k a0 8 true _ A2.out).mono ?_); rintro e w' ⟨rfl, ⟨nd, rfl⟩⟩; refine ⟨_, rfl, ?_⟩) | ((with_reducible refine gate_callee (f := 34) rfl ?_); refine goesL_ (some 6) rfl rfl Tryd.func34 (by kernel_rfl) rfl #[.string a0] rfl (by (try simp only [List.map_toArray, List.map_cons, List.map_nil]); first | done | rfl | (simp only [List.length_drop, List.length_take]; rfl)) ?_; (with_reducible refine (lex_quote.calls a0 t104 _ A4.out).mono ?_); rintro e w5 ⟨rfl, hb⟩; refine ⟨_, rfl, ?_⟩; have n0_ := Aside0.mk (below_step (by repeat (first | (with_reducible first | exact HB.out | apply below_alloc | apply pw_below_drewN | apply below_drew1) | exact HB.out)) hb); clear HB; have HB := n0_; clear n0_; (try clear hb); (try clear hb2); (try clear hk); (try clear hi)))
    go_ret
    exact ⟨by first | rfl | (simp [errW_none, errW_some] <;> rfl) | (simp [*, errW_none, errW_some] <;> rfl), by repeat (first | (with_reducible first | exact HB.out | apply below_alloc | apply pw_below_drewN | apply below_drew1) | exact HB.out)⟩
  · replace c3 := Bool.eq_false_iff.mpr c3
    subst c3
    have H1 : ((strconv_Itoa.f (a0.size : Int)).bind fun t105 => (if 1 + t105.size ≤ 9223372036854775807 then (if ((⟨#[123]⟩ : ByteArray) ++ t105).size + 3 ≤ 9223372036854775807 then (if (((⟨#[123]⟩ : ByteArray) ++ t105) ++ (⟨#[125, 13, 10]⟩ : ByteArray)).size + a0.size ≤ 9223372036854775807 then (some ((((⟨#[123]⟩ : ByteArray) ++ t105) ++ (⟨#[125, 13, 10]⟩ : ByteArray)) ++ a0)) else (none)) else (none)) else (none))) = some r := by rw [if_neg (show ¬ (false = true) by decide)] at H; exact H
    clear H
    have H := H1
    clear H1
    replace H := Option.bind_eq_some_iff.mp H
    obtain ⟨t105, A60, H⟩ := H
    replace H : (if 1 + t105.size ≤ 9223372036854775807 then (if ((⟨#[123]⟩ : ByteArray) ++ t105).size + 3 ≤ 9223372036854775807 then (if (((⟨#[123]⟩ : ByteArray) ++ t105) ++ (⟨#[125, 13, 10]⟩ : ByteArray)).size + a0.size ≤ 9223372036854775807 then (some ((((⟨#[123]⟩ : ByteArray) ++ t105) ++ (⟨#[125, 13, 10]⟩ : ByteArray)) ++ a0)) else (none)) else (none)) else (none)) = some r := H
    have A6 := Aside0.mk A60
    clear A60
    by_cases c7 : 1 + t105.size ≤ 9223372036854775807
    · rw [if_pos c7] at H
      have c7b0 := eq_true c7
      have c7b1 : decide (1 + t105.size ≤ 9223372036854775807) = true := decide_eq_true c7
      try have c7b2 : (9223372036854775807 < 1 + t105.size) = False := eq_false (Nat.not_lt.2 c7)
      by_cases c8 : ((⟨#[123]⟩ : ByteArray) ++ t105).size + 3 ≤ 9223372036854775807
      · rw [if_pos c8] at H
        have c8b0 := eq_true c8
        have c8b1 : decide (((⟨#[123]⟩ : ByteArray) ++ t105).size + 3 ≤ 9223372036854775807) = true := decide_eq_true c8
        try have c8b2 : (9223372036854775807 < ((⟨#[123]⟩ : ByteArray) ++ t105).size + 3) = False := eq_false (Nat.not_lt.2 c8)
        (try (have c8t_ : (9223372036854775807 < 1 + t105.size + 3) = False := eq_false (by have h_ := c8; simp only [ByteArray.size_append, ByteArray.size_extract, show (⟨#[123]⟩ : ByteArray).size = 1 from rfl] at h_; omega)))
        by_cases c9 : (((⟨#[123]⟩ : ByteArray) ++ t105) ++ (⟨#[125, 13, 10]⟩ : ByteArray)).size + a0.size ≤ 9223372036854775807
        · rw [if_pos c9] at H
          have c9b0 := eq_true c9
          have c9b1 : decide ((((⟨#[123]⟩ : ByteArray) ++ t105) ++ (⟨#[125, 13, 10]⟩ : ByteArray)).size + a0.size ≤ 9223372036854775807) = true := decide_eq_true c9
          try have c9b2 : (9223372036854775807 < (((⟨#[123]⟩ : ByteArray) ++ t105) ++ (⟨#[125, 13, 10]⟩ : ByteArray)).size + a0.size) = False := eq_false (Nat.not_lt.2 c9)
          (try (have c9t_ : (9223372036854775807 < 1 + t105.size + 3 + a0.size) = False := eq_false (by have h_ := c9; simp only [ByteArray.size_append, ByteArray.size_extract, show (⟨#[123]⟩ : ByteArray).size = 1 from rfl, show (⟨#[125, 13, 10]⟩ : ByteArray).size = 3 from rfl] at h_; omega)))
          obtain rfl := Option.some.inj H
          go_enter Tryd.func19, Tryd.ntmps19
          go_wp2_with (first | ((with_reducible refine gate_callee (f := 33) rfl ?_); refine goesL_ (some 4) rfl rfl Tryd.func33 (by kernel_rfl) rfl #[.string a0, .int .u8 8] rfl (by (try simp only [List.map_toArray, List.map_cons, List.map_nil]); first | done | rfl | (simp only [List.length_drop, List.length_take]; rfl)) ?_; (with_reducible refine (lex_all.calls k a0 8 false _ A2.out).mono ?_); rintro e w' ⟨rfl, ⟨nd, rfl⟩⟩; refine ⟨_, rfl, ?_⟩) | ((with_reducible refine gate_callee (f := 35) rfl ?_); refine goesL_ (some 9) rfl rfl Tryd.func35 (by kernel_rfl) rfl #[.int .i64 (a0.size : Int)] rfl (by (try simp only [List.map_toArray, List.map_cons, List.map_nil]); first | done | rfl | (simp only [List.length_drop, List.length_take]; rfl)) ?_; (with_reducible refine (strconv_Itoa.calls (a0.size : Int) t105 _ A6.out ?hwp1_).mono ?_); (case hwp1_ => exact Ext.WP.below HW.out (by repeat (first | (with_reducible first | exact HB.out | apply below_alloc | apply pw_below_drewN | apply below_drew1) | exact HB.out))); rintro e w10 ⟨rfl, hb⟩; refine ⟨_, rfl, ?_⟩; have n0_ := Aside0.mk (below_step (by repeat (first | (with_reducible first | exact HB.out | apply below_alloc | apply pw_below_drewN | apply below_drew1) | exact HB.out)) hb); clear HB; have HB := n0_; clear n0_; (try clear hb); (try clear hb2); (try clear hk); (try clear hi)))
          go_ret
          exact ⟨by first | rfl | (simp [errW_none, errW_some] <;> rfl) | (simp [*, errW_none, errW_some] <;> rfl), by repeat (first | (with_reducible first | exact HB.out | apply below_alloc | apply pw_below_drewN | apply below_drew1) | exact HB.out)⟩
        · rw [if_neg c9] at H
          exact absurd H (by simp)
      · rw [if_neg c8] at H
        exact absurd H (by simp)
    · rw [if_neg c7] at H
      exact absurd H (by simp)


/-! ### octet_Lower: function 60 -/
def octet_Lower.f (a0 : ByteArray) : Option ByteArray := if a0.size ≤ 140737488351232 then some (Ext.lowBA a0) else none
theorem octet_Lower.calls (a0 : ByteArray) (r : ByteArray) (w : World) (h : octet_Lower.f a0 = some r) :
    Calls Tryd.prog 60 #[.string a0] w fun e w' => e = .returned (.string r) ∧ Below w.heap.size w w' := by
  unfold octet_Lower.f at h
  by_cases c : a0.size ≤ 140737488351232
  · rw [if_pos c] at h
    obtain rfl := Option.some.inj h
    exact Ext.lower_any a0 w c
  · rw [if_neg c] at h
    exact absurd h (by simp)

/-! ### octet_Same: function 49 -/
def octet_Same.f (a0 : ByteArray) (a1 : ByteArray) : Option (Bool) := (octet_Lower.f a0).bind fun t106 => ((octet_Lower.f a1).bind fun t107 => (some (t106.toList == t107.toList)))
set_option maxHeartbeats 8000000 in
set_option maxRecDepth 100000 in
theorem octet_Same.calls (a0 : ByteArray) (a1 : ByteArray) (r : Bool) (w : World) (h : octet_Same.f a0 a1 = some r) :
    Calls Tryd.prog 49 #[.string a0, .string a1] w fun e w' => e = .returned (.bool r) ∧ Below w.heap.size w w' := by
  have HB := Aside0.mk (Below.refl w.heap.size w)
  have H : ((octet_Lower.f a0).bind fun t106 => ((octet_Lower.f a1).bind fun t107 => (some (t106.toList == t107.toList)))) = some r := h
  clear h
  replace H := Option.bind_eq_some_iff.mp H
  obtain ⟨t106, A30, H⟩ := H
  replace H : ((octet_Lower.f a1).bind fun t107 => (some (t106.toList == t107.toList))) = some r := H
  have A3 := Aside0.mk A30
  clear A30
  replace H := Option.bind_eq_some_iff.mp H
  obtain ⟨t107, A40, H⟩ := H
  replace H : (some (t106.toList == t107.toList)) = some r := H
  have A4 := Aside0.mk A40
  clear A40
  obtain rfl := Option.some.inj H
  go_enter Tryd.func49, Tryd.ntmps49
  go_wp2_with (first | ((with_reducible refine gate_callee (f := 60) rfl ?_); refine goesL_ (some 6) rfl rfl Tryd.func60 (by kernel_rfl) rfl #[.string a0] rfl (by (try simp only [List.map_toArray, List.map_cons, List.map_nil]); first | done | rfl | (simp only [List.length_drop, List.length_take]; rfl)) ?_; (with_reducible refine (octet_Lower.calls a0 t106 _ A3.out).mono ?_); rintro e w5 ⟨rfl, hb⟩; refine ⟨_, rfl, ?_⟩; have n0_ := Aside0.mk (below_step (by repeat (first | (with_reducible first | exact HB.out | apply below_alloc | apply pw_below_drewN | apply below_drew1) | exact HB.out)) hb); clear HB; have HB := n0_; clear n0_; (try clear hb); (try clear hb2); (try clear hk); (try clear hi)) | ((with_reducible refine gate_callee (f := 60) rfl ?_); refine goesL_ (some 8) rfl rfl Tryd.func60 (by kernel_rfl) rfl #[.string a1] rfl (by (try simp only [List.map_toArray, List.map_cons, List.map_nil]); first | done | rfl | (simp only [List.length_drop, List.length_take]; rfl)) ?_; (with_reducible refine (octet_Lower.calls a1 t107 _ A4.out).mono ?_); rintro e w6 ⟨rfl, hb⟩; refine ⟨_, rfl, ?_⟩; have n0_ := Aside0.mk (below_step (by repeat (first | (with_reducible first | exact HB.out | apply below_alloc | apply pw_below_drewN | apply below_drew1) | exact HB.out)) hb); clear HB; have HB := n0_; clear n0_; (try clear hb); (try clear hb2); (try clear hk); (try clear hi)))
  go_ret
  exact ⟨by first | rfl | (simp [errW_none, errW_some] <;> rfl) | (simp [*, errW_none, errW_some] <;> rfl), by repeat (first | (with_reducible first | exact HB.out | apply below_alloc | apply pw_below_drewN | apply below_drew1) | exact HB.out)⟩


/-! ### strings_Contains: function 50 -/
def strings_Contains.f (a0 : ByteArray) (a1 : ByteArray) : Option Bool := if a1.size = 1 then some (decide (0 ≤ Lib.indexByte a0.data.toList (a1.data.toList.headD 0))) else none
theorem strings_Contains.calls (a0 : ByteArray) (a1 : ByteArray) (r : Bool) (w : World) (h : strings_Contains.f a0 a1 = some r) :
    Calls Tryd.prog 50 #[.string a0, .string a1] w fun e w' => e = .returned (.bool r) ∧ Drawn0 w w' := by
  unfold strings_Contains.f at h
  by_cases c : a1.size = 1
  · rw [if_pos c] at h
    obtain rfl := Option.some.inj h
    obtain ⟨x, rfl⟩ : ∃ x, a1 = ⟨#[x]⟩ := by
      obtain ⟨d⟩ := a1
      obtain ⟨x, hx⟩ := Array.size_eq_one_iff.1 c
      exact ⟨x, by rw [hx]⟩
    exact (Tryd.strings_Contains_one a0 x w).mono fun e w' h => ⟨h.1, by rw [h.2]; exact Drawn0.refl _⟩
  · rw [if_neg c] at h
    exact absurd h (by simp)

end Go.Proofs.YtbgcapgjnflmoaaDoor.PLy
