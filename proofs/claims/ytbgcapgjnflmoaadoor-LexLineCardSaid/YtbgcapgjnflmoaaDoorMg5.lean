/- Contracts of the functions that the statement reaches, and plain lemmas: PLxx2. -/
import Derived.Test.YtbgcapgjnflmoaaDoorMg1
import Derived.Test.YtbgcapgjnflmoaaDoorMg2
set_option linter.unusedVariables false
set_option linter.unusedSimpArgs false
set_option linter.unnecessarySimpa false
-- Written by xprint.py, a program of this session over the kit's print: not the print's own text.
namespace Go.Proofs.YtbgcapgjnflmoaaDoor.PLx
open Go.RowKit Go.Proofs.YtbgcapgjnflmoaaDoorW.PrintWords Go.Proofs.YtbgcapgjnflmoaaDoorW.PrintLast Go.Proofs.YtbgcapgjnflmoaaDoorW.PrintMore
attribute [local go_sem] max2_int min2_int max_two min_two max_three min_three max_four min_four   -- for this text's walks alone
set_option linter.unusedVariables false
set_option linter.unusedSimpArgs false

/-! ### lex_announcement: function 32 -/
mutual
def lex_announcement.j0 : Nat → ByteArray → Bool → Option (Int × Bool × Int)
  | 0, _, _ => none
  | k + 1, x0, x14 => if x14 = true then (some (0, false, 0)) else (lex_announcement.l0 k x0 0 1)
def lex_announcement.j2 : Nat → ByteArray → Int → Int → Option (Int × Bool × Int)
  | 0, _, _, _ => none
  | k + 1, x0, x5, x6 => if x6 = 1 then (some (0, false, 0)) else (if x6 < (x0.size : Int) then (if 0 ≤ x6 then (lex_announcement.j3 k x0 x5 x6 ((bt x0 x6) == 43)) else (none)) else (lex_announcement.j3 k x0 x5 x6 false))
def lex_announcement.j3 : Nat → ByteArray → Int → Int → Bool → Option (Int × Bool × Int)
  | 0, _, _, _, _ => none
  | k + 1, x0, x5, x6, x7 => if x7 = true then (if (wrap64 (x6 + 1)) = (x0.size : Int) then (some (0, false, 0)) else (if 0 ≤ (wrap64 (x6 + 1)) then (if (wrap64 (x6 + 1)) < (x0.size : Int) then (if (bt x0 (wrap64 (x6 + 1))) = 125 then (some (x5, x7, wrap64 ((wrap64 (x6 + 1)) + 1))) else (some (0, false, 0))) else (none)) else (none))) else (if x6 = (x0.size : Int) then (some (0, false, 0)) else (if 0 ≤ x6 then (if x6 < (x0.size : Int) then (if (bt x0 x6) = 125 then (some (x5, x7, wrap64 (x6 + 1))) else (some (0, false, 0))) else (none)) else (none)))
def lex_announcement.l0 : Nat → ByteArray → Int → Int → Option (Int × Bool × Int)
  | 0, _, _, _ => none
  | k + 1, x0, x5, x6 => if x6 < (x0.size : Int) then (if 0 ≤ x6 then ((lex_grade.f k (bt x0 x6)).bind fun t102 => (if (Go.bits .and .u8 t102 16) = 0 then (lex_announcement.j2 k x0 x5 x6) else (lex_announcement.l0 k x0 (mn (wrap64 ((wrap64 (x5 * 10)) + (((bt x0 x6) - 48) % 256))) 4294967296) (wrap64 (x6 + 1))))) else (none)) else (lex_announcement.j2 k x0 x5 x6)
end
def lex_announcement.f (k : Nat) (a0 : ByteArray) : Option (Int × Bool × Int) := if a0.toList = ([] : List UInt8) then (lex_announcement.j0 k a0 true) else (if 0 < (a0.size : Int) then (lex_announcement.j0 k a0 ((bt a0 0) != 123)) else (none))
theorem lex_announcement.mono_l : ∀ k, (∀ y0 y1, LeO (lex_announcement.j0 k y0 y1) (lex_announcement.j0 (k + 1) y0 y1)) ∧ (∀ y0 y1 y2, LeO (lex_announcement.j2 k y0 y1 y2) (lex_announcement.j2 (k + 1) y0 y1 y2)) ∧ (∀ y0 y1 y2 y3, LeO (lex_announcement.j3 k y0 y1 y2 y3) (lex_announcement.j3 (k + 1) y0 y1 y2 y3)) ∧ (∀ y0 y1 y2, LeO (lex_announcement.l0 k y0 y1 y2) (lex_announcement.l0 (k + 1) y0 y1 y2))
  | 0 => ⟨fun _ _ r h => by simp [lex_announcement.j0] at h, fun _ _ _ r h => by simp [lex_announcement.j2] at h, fun _ _ _ _ r h => by simp [lex_announcement.j3] at h, fun _ _ _ r h => by simp [lex_announcement.l0] at h⟩
  | k + 1 => by
    obtain ⟨ih0, ih1, ih2, ih3⟩ := lex_announcement.mono_l k
    refine ⟨?_, ?_, ?_, ?_⟩
    · intro y0 y1
      unfold lex_announcement.j0
      repeat' first
      | (with_reducible exact ih0 _ _)
      | (with_reducible exact ih1 _ _ _)
      | (with_reducible exact ih2 _ _ _ _)
      | (with_reducible exact ih3 _ _ _)
      | (with_reducible exact lex_grade.mono _ _)
      | (with_reducible exact LeO.refl _)
      | (with_reducible exact LeO.none _)
      | (with_reducible refine LeO.ite ?_ ?_)
      | (with_reducible refine LeO.bind ?_ (fun _ => ?_))
      | exact ih0 _ _
      | exact ih1 _ _ _
      | exact ih2 _ _ _ _
      | exact ih3 _ _ _
      | exact lex_grade.mono _ _
      | exact LeO.none _
      | refine LeO.ite ?_ ?_
      | refine LeO.bind ?_ (fun _ => ?_)
    · intro y0 y1 y2
      unfold lex_announcement.j2
      repeat' first
      | (with_reducible exact ih0 _ _)
      | (with_reducible exact ih1 _ _ _)
      | (with_reducible exact ih2 _ _ _ _)
      | (with_reducible exact ih3 _ _ _)
      | (with_reducible exact lex_grade.mono _ _)
      | (with_reducible exact LeO.refl _)
      | (with_reducible exact LeO.none _)
      | (with_reducible refine LeO.ite ?_ ?_)
      | (with_reducible refine LeO.bind ?_ (fun _ => ?_))
      | exact ih0 _ _
      | exact ih1 _ _ _
      | exact ih2 _ _ _ _
      | exact ih3 _ _ _
      | exact lex_grade.mono _ _
      | exact LeO.none _
      | refine LeO.ite ?_ ?_
      | refine LeO.bind ?_ (fun _ => ?_)
    · intro y0 y1 y2 y3
      unfold lex_announcement.j3
      repeat' first
      | (with_reducible exact ih0 _ _)
      | (with_reducible exact ih1 _ _ _)
      | (with_reducible exact ih2 _ _ _ _)
      | (with_reducible exact ih3 _ _ _)
      | (with_reducible exact lex_grade.mono _ _)
      | (with_reducible exact LeO.refl _)
      | (with_reducible exact LeO.none _)
      | (with_reducible refine LeO.ite ?_ ?_)
      | (with_reducible refine LeO.bind ?_ (fun _ => ?_))
      | exact ih0 _ _
      | exact ih1 _ _ _
      | exact ih2 _ _ _ _
      | exact ih3 _ _ _
      | exact lex_grade.mono _ _
      | exact LeO.none _
      | refine LeO.ite ?_ ?_
      | refine LeO.bind ?_ (fun _ => ?_)
    · intro y0 y1 y2
      unfold lex_announcement.l0
      repeat' first
      | (with_reducible exact ih0 _ _)
      | (with_reducible exact ih1 _ _ _)
      | (with_reducible exact ih2 _ _ _ _)
      | (with_reducible exact ih3 _ _ _)
      | (with_reducible exact lex_grade.mono _ _)
      | (with_reducible exact LeO.refl _)
      | (with_reducible exact LeO.none _)
      | (with_reducible refine LeO.ite ?_ ?_)
      | (with_reducible refine LeO.bind ?_ (fun _ => ?_))
      | exact ih0 _ _
      | exact ih1 _ _ _
      | exact ih2 _ _ _ _
      | exact ih3 _ _ _
      | exact lex_grade.mono _ _
      | exact LeO.none _
      | refine LeO.ite ?_ ?_
      | refine LeO.bind ?_ (fun _ => ?_)
theorem lex_announcement.mono : ∀ a0 k, LeO (lex_announcement.f k a0) (lex_announcement.f (k + 1) a0) := by
  intro a0 k
  obtain ⟨ih0, ih1, ih2, ih3⟩ := lex_announcement.mono_l k
  unfold lex_announcement.f
  repeat' first
      | (with_reducible exact ih0 _ _)
      | (with_reducible exact ih1 _ _ _)
      | (with_reducible exact ih2 _ _ _ _)
      | (with_reducible exact ih3 _ _ _)
      | (with_reducible exact lex_grade.mono _ _)
      | (with_reducible exact LeO.refl _)
      | (with_reducible exact LeO.none _)
      | (with_reducible refine LeO.ite ?_ ?_)
      | (with_reducible refine LeO.bind ?_ (fun _ => ?_))
      | exact ih0 _ _
      | exact ih1 _ _ _
      | exact ih2 _ _ _ _
      | exact ih3 _ _ _
      | exact lex_grade.mono _ _
      | exact LeO.none _
      | refine LeO.ite ?_ ?_
      | refine LeO.bind ?_ (fun _ => ?_)
set_option maxHeartbeats 8000000 in
set_option maxRecDepth 100000 in
theorem lex_announcement.calls (k : Nat) (a0 : ByteArray) (r1 : Int) (r2 : Bool) (r3 : Int) (w : World) (h : lex_announcement.f k a0 = some (r1, r2, r3)) :
    Calls Tryd.prog 32 #[.string a0] w fun e w' => e = .returned (.tuple #[.int .i64 r1, .bool r2, .int .i64 r3]) ∧ Below w.heap.size w w' := by
  have HB := Aside0.mk (Below.refl w.heap.size w)
  have H : (if a0.toList = ([] : List UInt8) then (lex_announcement.j0 k a0 true) else (if 0 < (a0.size : Int) then (lex_announcement.j0 k a0 ((bt a0 0) != 123)) else (none))) = some (r1, r2, r3) := h
  clear h
  have HC2 := Aside0.mk H
  clear H
  go_enter Tryd.func32, Tryd.ntmps32
  go_upto_region 1 with (fail)
  go_cut [14] (fun v14 wc => ∃ (kq : Nat) (x14_1 : Bool), v14 = .bool x14_1 ∧ Aside0 (lex_announcement.j0 kq a0 x14_1 = some (r1, r2, r3)) ∧ Aside0 (kq ≤ k) ∧ Aside0 (Below w.heap.size w wc))
  case first =>
    have H := HC2.out
    clear HC2
    by_cases c3 : a0.toList = ([] : List UInt8)
    · rw [if_pos c3] at H
      have c3b0 : (a0.toList == ([] : List UInt8)) = true := beq_iff_eq.mpr c3
      have c3b1 : (a0.toList != ([] : List UInt8)) = false := bne_eq_false_iff_eq.mpr c3
      clear c3
      (first | rw [c3b0] | (simp only [i64_w, i32_w]; rw [c3b0]) | skip)
      have H' := Aside0.mk H
      clear H
      go_wp2
      go_meet
      case rel => exact ⟨_, (true), (by first | rfl | (simp; done) | (simp [*]; done) | (simp [bne, *]; done)), H', ⟨by first | omega | exact Nat.le_refl _⟩, ⟨by repeat (first | (with_reducible first | exact HB.out | apply below_alloc | apply pw_below_drewN | apply below_drew1) | exact HB.out)⟩⟩
    · rw [if_neg c3] at H
      have c3b0 : (a0.toList == ([] : List UInt8)) = false := beq_eq_false_iff_ne.mpr c3
      have c3b1 : (a0.toList != ([] : List UInt8)) = true := bne_iff_ne.mpr c3
      (first | rw [c3b0] | (simp only [i64_w, i32_w]; rw [c3b0]) | skip)
      by_cases c4 : 0 < (a0.size : Int)
      · rw [if_pos c4] at H
        have c4b0 : decide (0 < (a0.size : Int)) = true := decide_eq_true c4
        have c4b1 : decide (0 < a0.size) = true := decide_eq_true (by omega)
        clear c4
        have H' := Aside0.mk H
        clear H
        have p5 : 0 ≤ (0 : Int) := (by omega)
        have q5 : 0 < a0.size := (by have : (0 : Int) < (a0.size : Int) := of_decide_eq_true (by first | (with_reducible assumption) | assumption); omega)
        have hx5 : ∀ h : 0 < a0.size, ((a0[0]'h).toNat : Int) = bt a0 0 := bt_at a0 0
        clear p5
        have qi5 : (0 < (a0.size : Int)) = True := eq_true (of_decide_eq_true (by first | (with_reducible assumption) | assumption))
        replace q5 := eq_true q5
        go_wp2
        go_meet
        case rel => exact ⟨_, (((bt a0 0) != 123)), (by first | rfl | (simp; done) | (simp [*]; done) | (simp [bne, *]; done)), H', ⟨by first | omega | exact Nat.le_refl _⟩, ⟨by repeat (first | (with_reducible first | exact HB.out | apply below_alloc | apply pw_below_drewN | apply below_drew1) | exact HB.out)⟩⟩
      · rw [if_neg c4] at H
        exact absurd H (by simp)
  case rest =>
    clear HC2
    try clear p2
    try clear c3
    try clear c3b0
    try clear c3b1
    try clear c4
    try clear c4b0
    try clear c4b1
    try clear p5
    try clear q5
    try clear hx5
    try clear qi5
    try clear p5
    try clear q5
    obtain ⟨kq, x14_1, rfl, HA, HJ1, HB⟩ := hcut
    cases kq with
    | zero => exact absurd HA.out (by simp [lex_announcement.j0])
    | succ kj1 =>
      have H := HA.out
      clear HA
      simp only [lex_announcement.j0] at H
      by_cases c6 : x14_1 = true
      · subst c6
        have H1 : (some (0, false, 0)) = some (r1, r2, r3) := by rw [if_pos rfl] at H; exact H
        clear H
        have H := H1
        clear H1
        simp only [Option.some.injEq, Prod.mk.injEq] at H
        obtain ⟨rfl, rfl, rfl⟩ := H
        go_wp2
        go_ret3
        exact ⟨by first | rfl | (simp [errW_none, errW_some] <;> rfl) | (simp [*, errW_none, errW_some] <;> rfl), by repeat (first | (with_reducible first | exact HB.out | apply below_alloc | apply pw_below_drewN | apply below_drew1) | exact HB.out)⟩
      · replace c6 := Bool.eq_false_iff.mpr c6
        subst c6
        have H1 : (lex_announcement.l0 kj1 a0 0 1) = some (r1, r2, r3) := by rw [if_neg (show ¬ (false = true) by decide)] at H; exact H
        clear H
        have H := H1
        clear H1
        have HC7 := Aside0.mk H
        clear H
        go_upto_block 0 with (fail)
        go_cut [5, 6] (fun v5 v6 wc => ∃ (kq : Nat) (x5_6 : Int) (x6_6 : Int), v5 = .int .i64 x5_6 ∧ v6 = .int .i64 x6_6 ∧ Aside0 (lex_announcement.j2 kq a0 x5_6 x6_6 = some (r1, r2, r3)) ∧ Aside0 (kq ≤ kj1) ∧ Aside0 (Below w.heap.size w wc))
        case first =>
          have H := HC7.out
          clear HC7
          have H' := Aside0.mk H
          clear H
          go_wp2
          go_loopg [5, 6] kj1 (fun kq v5 v6 w' => ∃ (x5_2 : Int) (x6_2 : Int), v5 = .int .i64 x5_2 ∧ v6 = .int .i64 x6_2 ∧ Aside0 (lex_announcement.l0 kq a0 x5_2 x6_2 = some (r1, r2, r3)) ∧ Aside0 (kq ≤ kj1) ∧ Aside0 (Below w.heap.size w w'))
          case atStart => exact ⟨(0), (1), (by first | rfl | (simp; done) | (simp [*]; done) | (simp [bne, *]; done)), (by first | rfl | (simp; done) | (simp [*]; done) | (simp [bne, *]; done)), H', ⟨Nat.le_refl _⟩, ⟨by repeat (first | (with_reducible first | exact HB.out | apply below_alloc | apply pw_below_drewN | apply below_drew1) | exact HB.out)⟩⟩
          case round =>
            clear H'
            try clear p2
            try clear c3
            try clear c3b0
            try clear c3b1
            try clear c4
            try clear c4b0
            try clear c4b1
            try clear p5
            try clear q5
            try clear hx5
            try clear qi5
            try clear c6
            try clear p2
            try clear p5
            try clear q5
            obtain ⟨x5_2, x6_2, rfl, rfl, HA, HK2, HB⟩ := hrel
            cases gk with
            | zero => exact absurd HA.out (by simp [lex_announcement.l0])
            | succ k2 =>
              have H := HA.out
              clear HA
              simp only [lex_announcement.l0] at H
              by_cases c8 : x6_2 < (a0.size : Int)
              · rw [if_pos c8] at H
                have c8b0 : decide (x6_2 < (a0.size : Int)) = true := decide_eq_true c8
                clear c8
                (first | rw [c8b0] | (simp only [i64_w, i32_w]; rw [c8b0]) | skip)
                by_cases c9 : 0 ≤ x6_2
                · rw [if_pos c9] at H
                  have c9b0 : decide (0 ≤ x6_2) = true := decide_eq_true c9
                  clear c9
                  replace H := Option.bind_eq_some_iff.mp H
                  obtain ⟨t102, A110, H⟩ := H
                  replace H : (if (Go.bits .and .u8 t102 16) = 0 then (lex_announcement.j2 k2 a0 x5_2 x6_2) else (lex_announcement.l0 k2 a0 (mn (wrap64 ((wrap64 (x5_2 * 10)) + (((bt a0 x6_2) - 48) % 256))) 4294967296) (wrap64 (x6_2 + 1)))) = some (r1, r2, r3) := H
                  have A11 := Aside0.mk A110
                  clear A110
                  by_cases c12 : (Go.bits .and .u8 t102 16) = 0
                  · rw [if_pos c12] at H
                    have c12b0 : ((Go.bits .and .u8 t102 16) == 0) = true := beq_iff_eq.mpr c12
                    have c12b1 : ((Go.bits .and .u8 t102 16) != 0) = false := bne_eq_false_iff_eq.mpr c12
                    clear c12
                    have H' := Aside0.mk H
                    clear H
                    have p10 : 0 ≤ (x6_2 : Int) := of_decide_eq_true (by first | (with_reducible assumption) | assumption)
                    have q10 : x6_2 < (a0.size : Int) := of_decide_eq_true (by first | (with_reducible assumption) | assumption)
                    have hx10 := bt_at a0 x6_2
                    replace p10 := eq_true p10
                    replace q10 := eq_true q10
                    go_wp2_with (first | (go_at_call 38; (with_reducible refine (lex_grade.calls k2 (bt a0 x6_2) t102 _ A11.out).mono ?_); rintro e w' ⟨rfl, ⟨nd, rfl⟩⟩))
                    go_meet
                    case rel => exact ⟨_, (x5_2), (x6_2), (by first | rfl | (simp; done) | (simp [*]; done) | (simp [bne, *]; done)), (by first | rfl | (simp; done) | (simp [*]; done) | (simp [bne, *]; done)), H', ⟨by have := HJ1.out; have := HK2.out; first | omega | exact Nat.le_refl _⟩, ⟨by repeat (first | (with_reducible first | exact HB.out | apply below_alloc | apply pw_below_drewN | apply below_drew1) | exact HB.out)⟩⟩
                  · rw [if_neg c12] at H
                    have c12b0 : ((Go.bits .and .u8 t102 16) == 0) = false := beq_eq_false_iff_ne.mpr c12
                    have c12b1 : ((Go.bits .and .u8 t102 16) != 0) = true := bne_iff_ne.mpr c12
                    obtain ⟨ji14, hji14⟩ : ∃ j_ : Int, (mn (wrap64 ((wrap64 (x5_2 * 10)) + (((bt a0 x6_2) - 48) % 256))) 4294967296) = j_ := ⟨_, rfl⟩
                    replace H : (lex_announcement.l0 k2 a0 ji14 (wrap64 (x6_2 + 1))) = some (r1, r2, r3) := by first | (rw [hji14] at H; exact H) | (simp only [hji14] at H ⊢; exact H)
                    (try rw [hji14] at A11)
                    have hji14_ : (if 4294967296 < (wrap64 ((wrap64 (x5_2 * 10)) + (((bt a0 x6_2) - 48) % 256))) then 4294967296 else (wrap64 ((wrap64 (x5_2 * 10)) + (((bt a0 x6_2) - 48) % 256)))) = ji14 := hji14
                    have H' := Aside0.mk H
                    clear H
                    have p10 : 0 ≤ (x6_2 : Int) := of_decide_eq_true (by first | (with_reducible assumption) | assumption)
                    have q10 : x6_2 < (a0.size : Int) := of_decide_eq_true (by first | (with_reducible assumption) | assumption)
                    have hx10 := bt_at a0 x6_2
                    replace p10 := eq_true p10
                    replace q10 := eq_true q10
                    go_wp2_with (first | (go_at_call 38; (with_reducible refine (lex_grade.calls k2 (bt a0 x6_2) t102 _ A11.out).mono ?_); rintro e w' ⟨rfl, ⟨nd, rfl⟩⟩; have p13 : 0 ≤ (x6_2 : Int) := of_decide_eq_true (by first | (with_reducible assumption) | assumption); have q13 : x6_2 < (a0.size : Int) := of_decide_eq_true (by first | (with_reducible assumption) | assumption); have hx13 := bt_at a0 x6_2; replace p13 := eq_true p13; replace q13 := eq_true q13))
                    go_roundg k2
                    case measure => have := HJ1.out; have := HK2.out; omega
                    case rel => exact ⟨(ji14), (wrap64 (x6_2 + 1)), (by first | rfl | (simp; done) | (simp only [← hji14] <;> (first | rfl | simp)) | (simp [*]; done)), (by first | rfl | (simp; done) | (simp [*]; done) | (simp [bne, *]; done)), H', ⟨by have := HJ1.out; have := HK2.out; omega⟩, ⟨by repeat (first | (with_reducible first | exact HB.out | apply below_alloc | apply pw_below_drewN | apply below_drew1) | exact HB.out)⟩⟩
                · rw [if_neg c9] at H
                  exact absurd H (by simp)
              · rw [if_neg c8] at H
                have c8b0 : decide (x6_2 < (a0.size : Int)) = false := decide_eq_false c8
                clear c8
                (first | rw [c8b0] | (simp only [i64_w, i32_w]; rw [c8b0]) | skip)
                have H' := Aside0.mk H
                clear H
                go_wp2
                go_meet
                case rel => exact ⟨_, (x5_2), (x6_2), (by first | rfl | (simp; done) | (simp [*]; done) | (simp [bne, *]; done)), (by first | rfl | (simp; done) | (simp [*]; done) | (simp [bne, *]; done)), H', ⟨by have := HJ1.out; have := HK2.out; first | omega | exact Nat.le_refl _⟩, ⟨by repeat (first | (with_reducible first | exact HB.out | apply below_alloc | apply pw_below_drewN | apply below_drew1) | exact HB.out)⟩⟩
        case rest =>
          clear HC7
          try clear c1
          try clear p1
          try clear q1
          try clear hx1
          try clear p2
          try clear c3
          try clear c3b0
          try clear c3b1
          try clear c4
          try clear c4b0
          try clear c4b1
          try clear p5
          try clear q5
          try clear hx5
          try clear qi5
          try clear c6
          try clear p6
          try clear c8
          try clear c8b0
          try clear c9
          try clear c9b0
          try clear p10
          try clear q10
          try clear hx10
          try clear c12
          try clear c12b0
          try clear c12b1
          try clear p13
          try clear q13
          try clear hx13
          try clear p10
          try clear p13
          try clear p2
          try clear p5
          try clear q10
          try clear q13
          try clear q5
          obtain ⟨kq, x5_6, x6_6, rfl, rfl, HA, HJ6, HB⟩ := hcut
          cases kq with
          | zero => exact absurd HA.out (by simp [lex_announcement.j2])
          | succ kj6 =>
            have H := HA.out
            clear HA
            simp only [lex_announcement.j2] at H
            by_cases c15 : x6_6 = 1
            · rw [if_pos c15] at H
              have c15b0 : (x6_6 == 1) = true := beq_iff_eq.mpr c15
              have c15b1 : (x6_6 != 1) = false := bne_eq_false_iff_eq.mpr c15
              clear c15
              simp only [Option.some.injEq, Prod.mk.injEq] at H
              obtain ⟨rfl, rfl, rfl⟩ := H
              go_wp2
              go_ret3
              exact ⟨by first | rfl | (simp [errW_none, errW_some] <;> rfl) | (simp [*, errW_none, errW_some] <;> rfl), by repeat (first | (with_reducible first | exact HB.out | apply below_alloc | apply pw_below_drewN | apply below_drew1) | exact HB.out)⟩
            · rw [if_neg c15] at H
              have c15b0 : (x6_6 == 1) = false := beq_eq_false_iff_ne.mpr c15
              have c15b1 : (x6_6 != 1) = true := bne_iff_ne.mpr c15
              have HC16 := Aside0.mk H
              clear H
              go_upto_region 9 with (fail)
              go_cut [7] (fun v7 wc => ∃ (kq : Nat) (x7_15 : Bool), v7 = .bool x7_15 ∧ Aside0 (lex_announcement.j3 kq a0 x5_6 x6_6 x7_15 = some (r1, r2, r3)) ∧ Aside0 (kq ≤ kj6) ∧ Aside0 (Below w.heap.size w wc))
              case first =>
                have H := HC16.out
                clear HC16
                by_cases c17 : x6_6 < (a0.size : Int)
                · rw [if_pos c17] at H
                  have c17b0 : decide (x6_6 < (a0.size : Int)) = true := decide_eq_true c17
                  clear c17
                  (first | rw [c17b0] | (simp only [i64_w, i32_w]; rw [c17b0]) | skip)
                  by_cases c18 : 0 ≤ x6_6
                  · rw [if_pos c18] at H
                    have c18b0 : decide (0 ≤ x6_6) = true := decide_eq_true c18
                    clear c18
                    have H' := Aside0.mk H
                    clear H
                    have p19 : 0 ≤ (x6_6 : Int) := of_decide_eq_true (by first | (with_reducible assumption) | assumption)
                    have q19 : x6_6 < (a0.size : Int) := of_decide_eq_true (by first | (with_reducible assumption) | assumption)
                    have hx19 := bt_at a0 x6_6
                    replace p19 := eq_true p19
                    replace q19 := eq_true q19
                    go_wp2
                    go_meet
                    case rel => exact ⟨_, (((bt a0 x6_6) == 43)), (by first | rfl | (simp; done) | (simp [*]; done) | (simp [bne, *]; done)), H', ⟨by have := HJ1.out; have := HJ6.out; first | omega | exact Nat.le_refl _⟩, ⟨by repeat (first | (with_reducible first | exact HB.out | apply below_alloc | apply pw_below_drewN | apply below_drew1) | exact HB.out)⟩⟩
                  · rw [if_neg c18] at H
                    exact absurd H (by simp)
                · rw [if_neg c17] at H
                  have c17b0 : decide (x6_6 < (a0.size : Int)) = false := decide_eq_false c17
                  clear c17
                  (first | rw [c17b0] | (simp only [i64_w, i32_w]; rw [c17b0]) | skip)
                  have H' := Aside0.mk H
                  clear H
                  go_wp2
                  go_meet
                  case rel => exact ⟨_, (false), (by first | rfl | (simp; done) | (simp [*]; done) | (simp [bne, *]; done)), H', ⟨by have := HJ1.out; have := HJ6.out; first | omega | exact Nat.le_refl _⟩, ⟨by repeat (first | (with_reducible first | exact HB.out | apply below_alloc | apply pw_below_drewN | apply below_drew1) | exact HB.out)⟩⟩
              case rest =>
                clear HC16
                try clear c1
                try clear p1
                try clear q1
                try clear hx1
                try clear p2
                try clear c3
                try clear c3b0
                try clear c3b1
                try clear c4
                try clear c4b0
                try clear c4b1
                try clear p5
                try clear q5
                try clear hx5
                try clear qi5
                try clear c6
                try clear p6
                try clear c8
                try clear c8b0
                try clear c9
                try clear c9b0
                try clear p10
                try clear q10
                try clear hx10
                try clear c12
                try clear c12b0
                try clear c12b1
                try clear p13
                try clear q13
                try clear hx13
                try clear c15
                try clear c15b0
                try clear c15b1
                try clear c17
                try clear c17b0
                try clear c18
                try clear c18b0
                try clear p19
                try clear q19
                try clear hx19
                try clear p1
                try clear p10
                try clear p13
                try clear p19
                try clear p2
                try clear p5
                try clear p6
                try clear q1
                try clear q10
                try clear q13
                try clear q19
                try clear q5
                obtain ⟨kq, x7_15, rfl, HA, HJ15, HB⟩ := hcut
                cases kq with
                | zero => exact absurd HA.out (by simp [lex_announcement.j3])
                | succ kj15 =>
                  have H := HA.out
                  clear HA
                  simp only [lex_announcement.j3] at H
                  by_cases c20 : x7_15 = true
                  · subst c20
                    have H1 : (if (wrap64 (x6_6 + 1)) = (a0.size : Int) then (some (0, false, 0)) else (if 0 ≤ (wrap64 (x6_6 + 1)) then (if (wrap64 (x6_6 + 1)) < (a0.size : Int) then (if (bt a0 (wrap64 (x6_6 + 1))) = 125 then (some (x5_6, true, wrap64 ((wrap64 (x6_6 + 1)) + 1))) else (some (0, false, 0))) else (none)) else (none))) = some (r1, r2, r3) := by rw [if_pos rfl] at H; exact H
                    clear H
                    have H := H1
                    clear H1
                    by_cases c21 : (wrap64 (x6_6 + 1)) = (a0.size : Int)
                    · rw [if_pos c21] at H
                      have c21b0 : ((wrap64 (x6_6 + 1)) == (a0.size : Int)) = true := beq_iff_eq.mpr c21
                      have c21b1 : ((wrap64 (x6_6 + 1)) != (a0.size : Int)) = false := bne_eq_false_iff_eq.mpr c21
                      clear c21
                      simp only [Option.some.injEq, Prod.mk.injEq] at H
                      obtain ⟨rfl, rfl, rfl⟩ := H
                      go_wp2
                      go_ret3
                      exact ⟨by first | rfl | (simp [errW_none, errW_some] <;> rfl) | (simp [*, errW_none, errW_some] <;> rfl), by repeat (first | (with_reducible first | exact HB.out | apply below_alloc | apply pw_below_drewN | apply below_drew1) | exact HB.out)⟩
                    · rw [if_neg c21] at H
                      have c21b0 : ((wrap64 (x6_6 + 1)) == (a0.size : Int)) = false := beq_eq_false_iff_ne.mpr c21
                      have c21b1 : ((wrap64 (x6_6 + 1)) != (a0.size : Int)) = true := bne_iff_ne.mpr c21
                      obtain ⟨ji22, hji22⟩ : ∃ j_ : Int, (wrap64 (x6_6 + 1)) = j_ := ⟨_, rfl⟩
                      replace H : (if 0 ≤ (ji22) then (if (ji22) < (a0.size : Int) then (if (bt a0 (ji22)) = 125 then (some (x5_6, true, wrap64 ((ji22) + 1))) else (some (0, false, 0))) else (none)) else (none)) = some (r1, r2, r3) := by first | (rw [hji22] at H; exact H) | (simp only [hji22] at H ⊢; exact H)
                      (try rw [hji22] at c21b0)
                      (try rw [hji22] at c21b1)
                      have hji22w : (IntKind.i64.wrap (x6_6 + 1)) = ji22 := (i64_w _).trans hji22
                      by_cases c23 : 0 ≤ (ji22)
                      · rw [if_pos c23] at H
                        have c23b0 : decide (0 ≤ (ji22)) = true := decide_eq_true c23
                        clear c23
                        by_cases c24 : (ji22) < (a0.size : Int)
                        · rw [if_pos c24] at H
                          have c24b0 : decide ((ji22) < (a0.size : Int)) = true := decide_eq_true c24
                          clear c24
                          by_cases c26 : (bt a0 (ji22)) = 125
                          · rw [if_pos c26] at H
                            have c26b0 : ((bt a0 (ji22)) == 125) = true := beq_iff_eq.mpr c26
                            have c26b1 : ((bt a0 (ji22)) != 125) = false := bne_eq_false_iff_eq.mpr c26
                            clear c26
                            simp only [Option.some.injEq, Prod.mk.injEq] at H
                            obtain ⟨rfl, rfl, rfl⟩ := H
                            have p25 : 0 ≤ ((ji22) : Int) := of_decide_eq_true (by first | (with_reducible assumption) | assumption)
                            have q25 : (ji22) < (a0.size : Int) := of_decide_eq_true (by first | (with_reducible assumption) | assumption)
                            have hx25 := bt_at a0 (ji22)
                            replace p25 := eq_true p25
                            replace q25 := eq_true q25
                            go_wp2
                            go_ret3
                            exact ⟨by first | rfl | (simp [errW_none, errW_some] <;> rfl) | (simp only [← hji22]; first | rfl | (simp [errW_none, errW_some] <;> rfl)) | (simp [*, errW_none, errW_some] <;> rfl), by repeat (first | (with_reducible first | exact HB.out | apply below_alloc | apply pw_below_drewN | apply below_drew1) | exact HB.out)⟩
                          · rw [if_neg c26] at H
                            have c26b0 : ((bt a0 (ji22)) == 125) = false := beq_eq_false_iff_ne.mpr c26
                            have c26b1 : ((bt a0 (ji22)) != 125) = true := bne_iff_ne.mpr c26
                            simp only [Option.some.injEq, Prod.mk.injEq] at H
                            obtain ⟨rfl, rfl, rfl⟩ := H
                            have p25 : 0 ≤ ((ji22) : Int) := of_decide_eq_true (by first | (with_reducible assumption) | assumption)
                            have q25 : (ji22) < (a0.size : Int) := of_decide_eq_true (by first | (with_reducible assumption) | assumption)
                            have hx25 := bt_at a0 (ji22)
                            replace p25 := eq_true p25
                            replace q25 := eq_true q25
                            go_wp2
                            go_ret3
                            exact ⟨by first | rfl | (simp [errW_none, errW_some] <;> rfl) | (simp only [← hji22]; first | rfl | (simp [errW_none, errW_some] <;> rfl)) | (simp [*, errW_none, errW_some] <;> rfl), by repeat (first | (with_reducible first | exact HB.out | apply below_alloc | apply pw_below_drewN | apply below_drew1) | exact HB.out)⟩
                        · rw [if_neg c24] at H
                          exact absurd H (by simp)
                      · rw [if_neg c23] at H
                        exact absurd H (by simp)
                  · replace c20 := Bool.eq_false_iff.mpr c20
                    subst c20
                    have H1 : (if x6_6 = (a0.size : Int) then (some (0, false, 0)) else (if 0 ≤ x6_6 then (if x6_6 < (a0.size : Int) then (if (bt a0 x6_6) = 125 then (some (x5_6, false, wrap64 (x6_6 + 1))) else (some (0, false, 0))) else (none)) else (none))) = some (r1, r2, r3) := by rw [if_neg (show ¬ (false = true) by decide)] at H; exact H
                    clear H
                    have H := H1
                    clear H1
                    by_cases c27 : x6_6 = (a0.size : Int)
                    · rw [if_pos c27] at H
                      have c27b0 : (x6_6 == (a0.size : Int)) = true := beq_iff_eq.mpr c27
                      have c27b1 : (x6_6 != (a0.size : Int)) = false := bne_eq_false_iff_eq.mpr c27
                      clear c27
                      simp only [Option.some.injEq, Prod.mk.injEq] at H
                      obtain ⟨rfl, rfl, rfl⟩ := H
                      go_wp2
                      go_ret3
                      exact ⟨by first | rfl | (simp [errW_none, errW_some] <;> rfl) | (simp [*, errW_none, errW_some] <;> rfl), by repeat (first | (with_reducible first | exact HB.out | apply below_alloc | apply pw_below_drewN | apply below_drew1) | exact HB.out)⟩
                    · rw [if_neg c27] at H
                      have c27b0 : (x6_6 == (a0.size : Int)) = false := beq_eq_false_iff_ne.mpr c27
                      have c27b1 : (x6_6 != (a0.size : Int)) = true := bne_iff_ne.mpr c27
                      by_cases c28 : 0 ≤ x6_6
                      · rw [if_pos c28] at H
                        have c28b0 : decide (0 ≤ x6_6) = true := decide_eq_true c28
                        clear c28
                        by_cases c29 : x6_6 < (a0.size : Int)
                        · rw [if_pos c29] at H
                          have c29b0 : decide (x6_6 < (a0.size : Int)) = true := decide_eq_true c29
                          clear c29
                          by_cases c31 : (bt a0 x6_6) = 125
                          · rw [if_pos c31] at H
                            have c31b0 : ((bt a0 x6_6) == 125) = true := beq_iff_eq.mpr c31
                            have c31b1 : ((bt a0 x6_6) != 125) = false := bne_eq_false_iff_eq.mpr c31
                            clear c31
                            simp only [Option.some.injEq, Prod.mk.injEq] at H
                            obtain ⟨rfl, rfl, rfl⟩ := H
                            have p30 : 0 ≤ (x6_6 : Int) := of_decide_eq_true (by first | (with_reducible assumption) | assumption)
                            have q30 : x6_6 < (a0.size : Int) := of_decide_eq_true (by first | (with_reducible assumption) | assumption)
                            have hx30 := bt_at a0 x6_6
                            replace p30 := eq_true p30
                            replace q30 := eq_true q30
                            go_wp2
                            go_ret3
                            exact ⟨by first | rfl | (simp [errW_none, errW_some] <;> rfl) | (simp [*, errW_none, errW_some] <;> rfl), by repeat (first | (with_reducible first | exact HB.out | apply below_alloc | apply pw_below_drewN | apply below_drew1) | exact HB.out)⟩
                          · rw [if_neg c31] at H
                            have c31b0 : ((bt a0 x6_6) == 125) = false := beq_eq_false_iff_ne.mpr c31
                            have c31b1 : ((bt a0 x6_6) != 125) = true := bne_iff_ne.mpr c31
                            simp only [Option.some.injEq, Prod.mk.injEq] at H
                            obtain ⟨rfl, rfl, rfl⟩ := H
                            have p30 : 0 ≤ (x6_6 : Int) := of_decide_eq_true (by first | (with_reducible assumption) | assumption)
                            have q30 : x6_6 < (a0.size : Int) := of_decide_eq_true (by first | (with_reducible assumption) | assumption)
                            have hx30 := bt_at a0 x6_6
                            replace p30 := eq_true p30
                            replace q30 := eq_true q30
                            go_wp2
                            go_ret3
                            exact ⟨by first | rfl | (simp [errW_none, errW_some] <;> rfl) | (simp [*, errW_none, errW_some] <;> rfl), by repeat (first | (with_reducible first | exact HB.out | apply below_alloc | apply pw_below_drewN | apply below_drew1) | exact HB.out)⟩
                        · rw [if_neg c29] at H
                          exact absurd H (by simp)
                      · rw [if_neg c28] at H
                        exact absurd H (by simp)

/-! ### stringslite_HasSuffix: function 47 -/
def stringslite_HasSuffix.f (a0 : ByteArray) (a1 : ByteArray) : Option (Bool) := if (a0.size : Int) ≥ (a1.size : Int) then (if 0 ≤ (wrap64 ((a0.size : Int) - (a1.size : Int))) then (if (wrap64 ((a0.size : Int) - (a1.size : Int))) ≤ (a0.size : Int) then (some ((a0.extract ((wrap64 ((a0.size : Int) - (a1.size : Int))) : Int).toNat a0.size).toList == a1.toList)) else (none)) else (none)) else (some false)
set_option maxHeartbeats 8000000 in
set_option maxRecDepth 100000 in
theorem stringslite_HasSuffix.calls (a0 : ByteArray) (a1 : ByteArray) (r : Bool) (w : World) (h : stringslite_HasSuffix.f a0 a1 = some r) :
    Calls Tryd.prog 47 #[.string a0, .string a1] w fun e w' => e = .returned (.bool r) ∧ Drawn0 w w' := by
  have H : (if (a0.size : Int) ≥ (a1.size : Int) then (if 0 ≤ (wrap64 ((a0.size : Int) - (a1.size : Int))) then (if (wrap64 ((a0.size : Int) - (a1.size : Int))) ≤ (a0.size : Int) then (some ((a0.extract ((wrap64 ((a0.size : Int) - (a1.size : Int))) : Int).toNat a0.size).toList == a1.toList)) else (none)) else (none)) else (some false)) = some r := h
  clear h
  by_cases c3 : (a0.size : Int) ≥ (a1.size : Int)
  · rw [if_pos c3] at H
    have c3b0 : decide ((a1.size : Int) ≤ (a0.size : Int)) = true := decide_eq_true c3
    have c3b1 : decide (a1.size ≤ a0.size) = true := decide_eq_true (Int.ofNat_le.mp c3)
    clear c3
    obtain ⟨ji4, hji4⟩ : ∃ j_ : Int, (wrap64 ((a0.size : Int) - (a1.size : Int))) = j_ := ⟨_, rfl⟩
    replace H : (if 0 ≤ (ji4) then (if (ji4) ≤ (a0.size : Int) then (some ((a0.extract ((ji4) : Int).toNat a0.size).toList == a1.toList)) else (none)) else (none)) = some r := by first | (rw [hji4] at H; exact H) | (simp only [hji4] at H ⊢; exact H)
    have hji4w : (IntKind.i64.wrap ((a0.size : Int) - (a1.size : Int))) = ji4 := (i64_w _).trans hji4
    by_cases c5 : 0 ≤ (ji4)
    · rw [if_pos c5] at H
      have c5b0 := eq_true c5
      have c5b1 : decide (0 ≤ (ji4)) = true := decide_eq_true c5
      clear c5
      by_cases c6 : (ji4) ≤ (a0.size : Int)
      · rw [if_pos c6] at H
        have c6b0 := eq_true c6
        have c6b1 : decide ((ji4) ≤ (a0.size : Int)) = true := decide_eq_true c6
        clear c6
        obtain rfl := Option.some.inj H
        go_enter Tryd.func47, Tryd.ntmps47
        go_wp2
        go_ret
        exact ⟨by first | rfl | (simp; done) | (simp only [← hji4] <;> (first | rfl | simp)) | (simp [*]; done), by repeat (first | exact Drawn0.refl _ | apply Drawn0.step)⟩
      · rw [if_neg c6] at H
        exact absurd H (by simp)
    · rw [if_neg c5] at H
      exact absurd H (by simp)
  · rw [if_neg c3] at H
    have c3b0 : decide ((a1.size : Int) ≤ (a0.size : Int)) = false := decide_eq_false c3
    have c3b1 : decide (a1.size ≤ a0.size) = false := decide_eq_false (fun h => c3 (Int.ofNat_le.mpr h))
    clear c3
    obtain rfl := Option.some.inj H
    go_enter Tryd.func47, Tryd.ntmps47
    go_wp2
    go_ret
    exact ⟨by first | rfl | (simp; done) | (simp [*]; done), by repeat (first | exact Drawn0.refl _ | apply Drawn0.step)⟩

/-! ### strings_HasSuffix: function 31 -/
def strings_HasSuffix.f (a0 : ByteArray) (a1 : ByteArray) : Option (Bool) := (stringslite_HasSuffix.f a0 a1).bind fun t103 => (some t103)
set_option maxHeartbeats 8000000 in
set_option maxRecDepth 100000 in
theorem strings_HasSuffix.calls (a0 : ByteArray) (a1 : ByteArray) (r : Bool) (w : World) (h : strings_HasSuffix.f a0 a1 = some r) :
    Calls Tryd.prog 31 #[.string a0, .string a1] w fun e w' => e = .returned (.bool r) ∧ Drawn0 w w' := by
  have H : ((stringslite_HasSuffix.f a0 a1).bind fun t103 => (some t103)) = some r := h
  clear h
  replace H := Option.bind_eq_some_iff.mp H
  obtain ⟨t103, A30, H⟩ := H
  replace H : (some t103) = some r := H
  have A3 := Aside0.mk A30
  clear A30
  obtain rfl := Option.some.inj H
  go_enter Tryd.func31, Tryd.ntmps31
  go_wp2_with (first | ((with_reducible refine gate_callee (f := 47) rfl ?_); refine goesL_ (some 7) rfl rfl Tryd.func47 (by kernel_rfl) rfl #[.string a0, .string a1] rfl (by (try simp only [List.map_toArray, List.map_cons, List.map_nil]); first | done | rfl | (simp only [List.length_drop, List.length_take]; rfl)) ?_; (with_reducible refine (stringslite_HasSuffix.calls a0 a1 t103 _ A3.out).mono ?_); rintro e w' ⟨rfl, ⟨nd, rfl⟩⟩; refine ⟨_, rfl, ?_⟩))
  go_ret
  exact ⟨by first | rfl | (simp; done) | (simp [*]; done), by repeat (first | exact Drawn0.refl _ | apply Drawn0.step)⟩

end Go.Proofs.YtbgcapgjnflmoaaDoor.PLx
