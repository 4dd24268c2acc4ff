/- Contracts of the functions that the statement reaches, and plain lemmas: PLpx2. -/
import Derived.Test.YtbgcapgjnflmoaaDoorMg26
set_option linter.unusedVariables false
set_option linter.unusedSimpArgs false
set_option linter.unnecessarySimpa false
-- Written by xprint.py, a program of this session over the kit's print: not the print's own text.
namespace Go.Proofs.YtbgcapgjnflmoaaDoor.PLp
open Go.RowKit Go.Proofs.YtbgcapgjnflmoaaDoorW.PrintWords Go.Proofs.YtbgcapgjnflmoaaDoorW.PrintLast Go.Proofs.YtbgcapgjnflmoaaDoorW.PrintMore
attribute [local go_sem] max2_int min2_int max_two min_two max_three min_three max_four min_four   -- for this text's walks alone
set_option linter.unusedVariables false
set_option linter.unusedSimpArgs false

/-! ### postbaglaw3_plain: function 16 -/
mutual
def postbaglaw3_plain.l0 : Nat → ByteArray → List Int → Bool → Int → Option (ByteArray)
  | 0, _, _, _, _ => none
  | k + 1, x0, x3, x4, x5 => if x5 < (x0.size : Int) then (if 0 ≤ x5 then (if x4 = true then (if (bt x0 x5) = 92 then (postbaglaw3_plain.j1 k x0 x3 x4 x5 (bt x0 x5) (decide ((wrap64 (x5 + 1)) < (x0.size : Int)))) else (postbaglaw3_plain.j1 k x0 x3 x4 x5 (bt x0 x5) false)) else (postbaglaw3_plain.j1 k x0 x3 x4 x5 (bt x0 x5) false)) else (none)) else (some (strOfNums x3))
def postbaglaw3_plain.j1 : Nat → ByteArray → List Int → Bool → Int → Int → Bool → Option (ByteArray)
  | 0, _, _, _, _, _, _ => none
  | k + 1, x0, x3, x4, x5, x6, x16 => if x16 = true then (if x3.length < 140737488355328 then ((some (x3 ++ [x6] : List Int)).bind fun y105 => (if 0 ≤ (wrap64 (x5 + 1)) then (if (wrap64 (x5 + 1)) < (x0.size : Int) then (if y105.length < 140737488355328 then (postbaglaw3_plain.l0 k x0 (y105 ++ [bt x0 (wrap64 (x5 + 1))]) x4 (wrap64 ((wrap64 (x5 + 1)) + 1))) else (none)) else (none)) else (none))) else (none)) else (if x6 = 34 then (if x3.length < 140737488355328 then (postbaglaw3_plain.l0 k x0 (x3 ++ [x6]) (!x4) (wrap64 (x5 + 1))) else (none)) else (if x4 = true then (postbaglaw3_plain.j2 k x0 x3 x4 x5 x6 false) else (if x6 = 43 then (if x5 > 0 then (if 0 ≤ (wrap64 (x5 - 1)) then (if (wrap64 (x5 - 1)) < (x0.size : Int) then (if (bt x0 (wrap64 (x5 - 1))) ≥ 48 then (if (bt x0 (wrap64 (x5 - 1))) ≤ 57 then ((postbaglaw3_announced.f k x3).bind fun t114 => (postbaglaw3_plain.j2 k x0 x3 x4 x5 x6 t114)) else (postbaglaw3_plain.j2 k x0 x3 x4 x5 x6 false)) else (postbaglaw3_plain.j2 k x0 x3 x4 x5 x6 false)) else (none)) else (none)) else (postbaglaw3_plain.j2 k x0 x3 x4 x5 x6 false)) else (postbaglaw3_plain.j2 k x0 x3 x4 x5 x6 false))))
def postbaglaw3_plain.j2 : Nat → ByteArray → List Int → Bool → Int → Int → Bool → Option (ByteArray)
  | 0, _, _, _, _, _, _ => none
  | k + 1, x0, x3, x4, x5, x6, x43 => if x43 = true then (postbaglaw3_plain.l0 k x0 x3 x4 (wrap64 (x5 + 1))) else (if x4 = true then (if x3.length < 140737488355328 then (postbaglaw3_plain.l0 k x0 (x3 ++ [x6]) x4 (wrap64 (x5 + 1))) else (none)) else (if x6 = 48 then (if (x3.length : Int) > 0 then (if 0 ≤ (wrap64 ((x3.length : Int) - 1)) then (if (wrap64 ((x3.length : Int) - 1)) < (x3.length : Int) then (if (rd x3 (wrap64 ((x3.length : Int) - 1))) = 123 then (if (wrap64 (x5 + 1)) < (x0.size : Int) then (if 0 ≤ (wrap64 (x5 + 1)) then (if (bt x0 (wrap64 (x5 + 1))) ≥ 48 then (if (bt x0 (wrap64 (x5 + 1))) ≤ 57 then (postbaglaw3_plain.l0 k x0 x3 x4 (wrap64 (x5 + 1))) else (if x3.length < 140737488355328 then (postbaglaw3_plain.l0 k x0 (x3 ++ [x6]) x4 (wrap64 (x5 + 1))) else (none))) else (if x3.length < 140737488355328 then (postbaglaw3_plain.l0 k x0 (x3 ++ [x6]) x4 (wrap64 (x5 + 1))) else (none))) else (none)) else (if x3.length < 140737488355328 then (postbaglaw3_plain.l0 k x0 (x3 ++ [x6]) x4 (wrap64 (x5 + 1))) else (none))) else (if x3.length < 140737488355328 then (postbaglaw3_plain.l0 k x0 (x3 ++ [x6]) x4 (wrap64 (x5 + 1))) else (none))) else (none)) else (none)) else (if x3.length < 140737488355328 then (postbaglaw3_plain.l0 k x0 (x3 ++ [x6]) x4 (wrap64 (x5 + 1))) else (none))) else (if x3.length < 140737488355328 then (postbaglaw3_plain.l0 k x0 (x3 ++ [x6]) x4 (wrap64 (x5 + 1))) else (none))))
end
def postbaglaw3_plain.f (k : Nat) (a0 : ByteArray) : Option (ByteArray) := postbaglaw3_plain.l0 k a0 ([] : List Int) false 0
theorem postbaglaw3_plain.mono_l : ∀ k, (∀ y0 y1 y2 y3, LeO (postbaglaw3_plain.l0 k y0 y1 y2 y3) (postbaglaw3_plain.l0 (k + 1) y0 y1 y2 y3)) ∧ (∀ y0 y1 y2 y3 y4 y5, LeO (postbaglaw3_plain.j1 k y0 y1 y2 y3 y4 y5) (postbaglaw3_plain.j1 (k + 1) y0 y1 y2 y3 y4 y5)) ∧ (∀ y0 y1 y2 y3 y4 y5, LeO (postbaglaw3_plain.j2 k y0 y1 y2 y3 y4 y5) (postbaglaw3_plain.j2 (k + 1) y0 y1 y2 y3 y4 y5))
  | 0 => ⟨fun _ _ _ _ r h => by simp [postbaglaw3_plain.l0] at h, fun _ _ _ _ _ _ r h => by simp [postbaglaw3_plain.j1] at h, fun _ _ _ _ _ _ r h => by simp [postbaglaw3_plain.j2] at h⟩
  | k + 1 => by
    obtain ⟨ih0, ih1, ih2⟩ := postbaglaw3_plain.mono_l k
    refine ⟨?_, ?_, ?_⟩
    · intro y0 y1 y2 y3
      unfold postbaglaw3_plain.l0
      repeat' first
      | (with_reducible exact ih0 _ _ _ _)
      | (with_reducible exact ih1 _ _ _ _ _ _)
      | (with_reducible exact ih2 _ _ _ _ _ _)
      | (with_reducible exact postbaglaw3_announced.mono _ _)
      | (with_reducible exact LeO.refl _)
      | (with_reducible exact LeO.none _)
      | (with_reducible refine LeO.ite ?_ ?_)
      | (with_reducible refine LeO.bind ?_ (fun _ => ?_))
      | exact ih0 _ _ _ _
      | exact ih1 _ _ _ _ _ _
      | exact ih2 _ _ _ _ _ _
      | exact postbaglaw3_announced.mono _ _
      | exact LeO.none _
      | refine LeO.ite ?_ ?_
      | refine LeO.bind ?_ (fun _ => ?_)
    · intro y0 y1 y2 y3 y4 y5
      unfold postbaglaw3_plain.j1
      repeat' first
      | (with_reducible exact ih0 _ _ _ _)
      | (with_reducible exact ih1 _ _ _ _ _ _)
      | (with_reducible exact ih2 _ _ _ _ _ _)
      | (with_reducible exact postbaglaw3_announced.mono _ _)
      | (with_reducible exact LeO.refl _)
      | (with_reducible exact LeO.none _)
      | (with_reducible refine LeO.ite ?_ ?_)
      | (with_reducible refine LeO.bind ?_ (fun _ => ?_))
      | exact ih0 _ _ _ _
      | exact ih1 _ _ _ _ _ _
      | exact ih2 _ _ _ _ _ _
      | exact postbaglaw3_announced.mono _ _
      | exact LeO.none _
      | refine LeO.ite ?_ ?_
      | refine LeO.bind ?_ (fun _ => ?_)
    · intro y0 y1 y2 y3 y4 y5
      unfold postbaglaw3_plain.j2
      repeat' first
      | (with_reducible exact ih0 _ _ _ _)
      | (with_reducible exact ih1 _ _ _ _ _ _)
      | (with_reducible exact ih2 _ _ _ _ _ _)
      | (with_reducible exact postbaglaw3_announced.mono _ _)
      | (with_reducible exact LeO.refl _)
      | (with_reducible exact LeO.none _)
      | (with_reducible refine LeO.ite ?_ ?_)
      | (with_reducible refine LeO.bind ?_ (fun _ => ?_))
      | exact ih0 _ _ _ _
      | exact ih1 _ _ _ _ _ _
      | exact ih2 _ _ _ _ _ _
      | exact postbaglaw3_announced.mono _ _
      | exact LeO.none _
      | refine LeO.ite ?_ ?_
      | refine LeO.bind ?_ (fun _ => ?_)
theorem postbaglaw3_plain.mono : ∀ a0 k, LeO (postbaglaw3_plain.f k a0) (postbaglaw3_plain.f (k + 1) a0) := by
  intro a0 k
  obtain ⟨ih0, ih1, ih2⟩ := postbaglaw3_plain.mono_l k
  unfold postbaglaw3_plain.f
  repeat' first
      | (with_reducible exact ih0 _ _ _ _)
      | (with_reducible exact ih1 _ _ _ _ _ _)
      | (with_reducible exact ih2 _ _ _ _ _ _)
      | (with_reducible exact postbaglaw3_announced.mono _ _)
      | (with_reducible exact LeO.refl _)
      | (with_reducible exact LeO.none _)
      | (with_reducible refine LeO.ite ?_ ?_)
      | (with_reducible refine LeO.bind ?_ (fun _ => ?_))
      | exact ih0 _ _ _ _
      | exact ih1 _ _ _ _ _ _
      | exact ih2 _ _ _ _ _ _
      | exact postbaglaw3_announced.mono _ _
      | exact LeO.none _
      | refine LeO.ite ?_ ?_
      | refine LeO.bind ?_ (fun _ => ?_)
set_option maxHeartbeats 8000000 in
set_option maxRecDepth 100000 in
theorem postbaglaw3_plain.calls (k : Nat) (a0 : ByteArray) (r : ByteArray) (w : World) (h : postbaglaw3_plain.f k a0 = some r) :
    Calls Tryd.prog 16 #[.string a0] w fun e w' => e = .returned (.string r) ∧ Below w.heap.size w w' := by
  have HB := Aside0.mk (Below.refl w.heap.size w)
  have H : (postbaglaw3_plain.l0 k a0 ([] : List Int) false 0) = some r := h
  clear h
  have H' := Aside0.mk H
  clear H
  go_enter Tryd.func16, Tryd.ntmps16
  go_wp2
  go_loopg [3, 4, 5] k (fun kq v3 v4 v5 w' => ∃ (x3_1 : List Int) (x4_1 : Bool) (x5_1 : Int), v4 = .bool x4_1 ∧ v5 = .int .i64 x5_1 ∧ Aside0 (postbaglaw3_plain.l0 kq a0 x3_1 x4_1 x5_1 = some r) ∧ Aside0 (kq ≤ k) ∧ Aside0 (Kd.R (Kd.int .u8) 5 w' w.heap.size (fun _ => True) v3 x3_1) ∧ Aside0 (Below w.heap.size w w'))
  case atStart => exact ⟨(([] : List Int)), (false), (0), (by first | rfl | (simp; done) | (simp [*]; done) | (simp [bne, *]; done)), (by first | rfl | (simp; done) | (simp [*]; done) | (simp [bne, *]; done)), H', ⟨Nat.le_refl _⟩, ⟨by first | exact Kd.R_nil _ _ _ _ _ | exact Kd.N_nil _ _ _ _ _ | exact Kd.V_nil _ _ _ _ _ | exact Kd.Q_nil _ _ _ _ _ | exact Kd.S_nil _ _ _ _ _⟩, ⟨by repeat (first | (with_reducible first | exact HB.out | apply below_alloc | apply pw_below_drewN | apply below_drew1) | exact HB.out)⟩⟩
  case round =>
    clear H'
    try clear c1
    obtain ⟨x3_1, x4_1, x5_1, rfl, rfl, HA, HK1, HO_3, HB⟩ := hrel
    cases gk with
    | zero => exact absurd HA.out (by simp [postbaglaw3_plain.l0])
    | succ k1 =>
      have H := HA.out
      clear HA
      simp only [postbaglaw3_plain.l0] at H
      by_cases c2 : x5_1 < (a0.size : Int)
      · rw [if_pos c2] at H
        have c2b0 : decide (x5_1 < (a0.size : Int)) = true := decide_eq_true c2
        clear c2
        by_cases c3 : 0 ≤ x5_1
        · rw [if_pos c3] at H
          have c3b0 : decide (0 ≤ x5_1) = true := decide_eq_true c3
          clear c3
          have HC5 := Aside0.mk H
          clear H
          have p4 : 0 ≤ (x5_1 : Int) := of_decide_eq_true (by first | (with_reducible assumption) | assumption)
          have q4 : x5_1 < (a0.size : Int) := of_decide_eq_true (by first | (with_reducible assumption) | assumption)
          have hx4 := bt_at a0 x5_1
          replace p4 := eq_true p4
          replace q4 := eq_true q4
          go_upto_region 7 with (fail)
          go_cut [16] (fun v16 wc => ∃ (kq : Nat) (x16_4 : Bool), v16 = .bool x16_4 ∧ Aside0 (postbaglaw3_plain.j1 kq a0 x3_1 x4_1 x5_1 (bt a0 x5_1) x16_4 = some r) ∧ Aside0 (kq ≤ k1) ∧ Aside0 (Kd.R (Kd.int .u8) 5 wc w.heap.size (fun _ => True) u3 x3_1) ∧ Aside0 (Below w.heap.size w wc))
          case first =>
            have H := HC5.out
            clear HC5
            by_cases c6 : x4_1 = true
            · subst c6
              have H1 : (if (bt a0 x5_1) = 92 then (postbaglaw3_plain.j1 k1 a0 x3_1 true x5_1 (bt a0 x5_1) (decide ((wrap64 (x5_1 + 1)) < (a0.size : Int)))) else (postbaglaw3_plain.j1 k1 a0 x3_1 true x5_1 (bt a0 x5_1) false)) = some r := by rw [if_pos rfl] at H; exact H
              clear H
              have H := H1
              clear H1
              by_cases c7 : (bt a0 x5_1) = 92
              · rw [if_pos c7] at H
                have c7b0 : ((bt a0 x5_1) == 92) = true := beq_iff_eq.mpr c7
                have c7b1 : ((bt a0 x5_1) != 92) = false := bne_eq_false_iff_eq.mpr c7
                clear c7
                (first | rw [c7b0] | (simp only [i64_w, i32_w]; rw [c7b0]) | skip)
                have H' := Aside0.mk H
                clear H
                go_wp2
                go_meet
                case rel => exact ⟨_, (decide ((wrap64 (x5_1 + 1)) < (a0.size : Int))), (by first | rfl | (simp; done) | (simp [*]; done) | (simp [bne, *]; done)), H', ⟨by have := HK1.out; first | omega | exact Nat.le_refl _⟩, ⟨by (with_reducible repeat (first | apply Kd.R_alloc | apply Kd.R_drewN | apply Kd.R_drew)); exact HO_3.out⟩, ⟨by repeat (first | (with_reducible first | exact HB.out | apply below_alloc | apply pw_below_drewN | apply below_drew1) | exact HB.out)⟩⟩
              · rw [if_neg c7] at H
                have c7b0 : ((bt a0 x5_1) == 92) = false := beq_eq_false_iff_ne.mpr c7
                have c7b1 : ((bt a0 x5_1) != 92) = true := bne_iff_ne.mpr c7
                (first | rw [c7b0] | (simp only [i64_w, i32_w]; rw [c7b0]) | skip)
                have H' := Aside0.mk H
                clear H
                go_wp2
                go_meet
                case rel => exact ⟨_, (false), (by first | rfl | (simp; done) | (simp [*]; done) | (simp [bne, *]; done)), H', ⟨by have := HK1.out; first | omega | exact Nat.le_refl _⟩, ⟨by (with_reducible repeat (first | apply Kd.R_alloc | apply Kd.R_drewN | apply Kd.R_drew)); exact HO_3.out⟩, ⟨by repeat (first | (with_reducible first | exact HB.out | apply below_alloc | apply pw_below_drewN | apply below_drew1) | exact HB.out)⟩⟩
            · replace c6 := Bool.eq_false_iff.mpr c6
              subst c6
              have H1 : (postbaglaw3_plain.j1 k1 a0 x3_1 false x5_1 (bt a0 x5_1) false) = some r := by rw [if_neg (show ¬ (false = true) by decide)] at H; exact H
              clear H
              have H := H1
              clear H1
              have H' := Aside0.mk H
              clear H
              go_wp2
              go_meet
              case rel => exact ⟨_, (false), (by first | rfl | (simp; done) | (simp [*]; done) | (simp [bne, *]; done)), H', ⟨by have := HK1.out; first | omega | exact Nat.le_refl _⟩, ⟨by (with_reducible repeat (first | apply Kd.R_alloc | apply Kd.R_drewN | apply Kd.R_drew)); exact HO_3.out⟩, ⟨by repeat (first | (with_reducible first | exact HB.out | apply below_alloc | apply pw_below_drewN | apply below_drew1) | exact HB.out)⟩⟩
          case rest =>
            clear HC5
            try clear c1
            try clear c2
            try clear c2b0
            try clear p2
            try clear c3
            try clear c3b0
            try clear p4
            try clear q4
            try clear hx4
            try clear c6
            try clear p6
            try clear c7
            try clear c7b0
            try clear c7b1
            try clear p4
            try clear q4
            obtain ⟨kq, x16_4, rfl, HA, HJ4, HO_3, HB⟩ := hcut
            cases kq with
            | zero => exact absurd HA.out (by simp [postbaglaw3_plain.j1])
            | succ kj4 =>
              have H := HA.out
              clear HA
              simp only [postbaglaw3_plain.j1] at H
              by_cases c8 : x16_4 = true
              · subst c8
                have H1 : (if x3_1.length < 140737488355328 then ((some (x3_1 ++ [(bt a0 x5_1)] : List Int)).bind fun y105 => (if 0 ≤ (wrap64 (x5_1 + 1)) then (if (wrap64 (x5_1 + 1)) < (a0.size : Int) then (if y105.length < 140737488355328 then (postbaglaw3_plain.l0 kj4 a0 (y105 ++ [bt a0 (wrap64 (x5_1 + 1))]) x4_1 (wrap64 ((wrap64 (x5_1 + 1)) + 1))) else (none)) else (none)) else (none))) else (none)) = some r := by rw [if_pos rfl] at H; exact H
                clear H
                have H := H1
                clear H1
                by_cases c9 : x3_1.length < 140737488355328
                · rw [if_pos c9] at H
                  have LMc9 := Aside0.mk c9
                  clear c9
                  obtain ⟨y105, hy105⟩ : ∃ y_ : List Int, y_ = (x3_1 ++ [(bt a0 x5_1)]) := ⟨_, rfl⟩
                  replace H : (if 0 ≤ (wrap64 (x5_1 + 1)) then (if (wrap64 (x5_1 + 1)) < (a0.size : Int) then (if y105.length < 140737488355328 then (postbaglaw3_plain.l0 kj4 a0 (y105 ++ [bt a0 (wrap64 (x5_1 + 1))]) x4_1 (wrap64 ((wrap64 (x5_1 + 1)) + 1))) else (none)) else (none)) else (none)) = some r := by first | (rw [hy105]; with_reducible exact H) | (have H2_ := (Option.bind_some _ _).symm.trans H; rw [hy105]; with_reducible exact H2_) | (have H2_ := (Option.bind_some _ _).symm.trans H; with_reducible exact H2_) | with_reducible exact H | (rw [hy105]; exact H) | exact H
                  have Ny105 := Aside0.mk hy105
                  clear hy105
                  obtain ⟨ji10, hji10⟩ : ∃ j_ : Int, (wrap64 (x5_1 + 1)) = j_ := ⟨_, rfl⟩
                  replace H : (if 0 ≤ (ji10) then (if (ji10) < (a0.size : Int) then (if y105.length < 140737488355328 then (postbaglaw3_plain.l0 kj4 a0 (y105 ++ [bt a0 (ji10)]) x4_1 (wrap64 ((ji10) + 1))) else (none)) else (none)) else (none)) = some r := by first | (rw [hji10] at H; exact H) | (simp only [hji10] at H ⊢; exact H)
                  have hji10w : (IntKind.i64.wrap (x5_1 + 1)) = ji10 := (i64_w _).trans hji10
                  by_cases c11 : 0 ≤ (ji10)
                  · rw [if_pos c11] at H
                    have c11b0 : decide (0 ≤ (ji10)) = true := decide_eq_true c11
                    clear c11
                    by_cases c12 : (ji10) < (a0.size : Int)
                    · rw [if_pos c12] at H
                      have c12b0 : decide ((ji10) < (a0.size : Int)) = true := decide_eq_true c12
                      clear c12
                      by_cases c14 : y105.length < 140737488355328
                      · rw [if_pos c14] at H
                        have LMc14 := Aside0.mk c14
                        clear c14
                        obtain ⟨y108, hy108⟩ : ∃ y_ : List Int, y_ = (y105 ++ [bt a0 (ji10)]) := ⟨_, rfl⟩
                        replace H : (postbaglaw3_plain.l0 kj4 a0 y108 x4_1 (wrap64 ((ji10) + 1))) = some r := by first | (rw [hy108]; with_reducible exact H) | (have H2_ := (Option.bind_some _ _).symm.trans H; rw [hy108]; with_reducible exact H2_) | (have H2_ := (Option.bind_some _ _).symm.trans H; with_reducible exact H2_) | with_reducible exact H | (rw [hy108]; exact H) | exact H
                        have Ny108 := Aside0.mk hy108
                        clear hy108
                        have H' := Aside0.mk H
                        clear H
                        go_wp2_with (first | ((with_reducible refine gate_builtin (b := .append) (xs := #[.tmp 29, .tmp 31]) rfl ?_); (try (refine gate_guard (by rfl) ?_; dsimp only)); at_builtin; refine Kd.R_append (Kd.int .u8) (w0 := w) w.heap.size rfl (.tmp 29) (.tmp 31) 41 5 (.int .u8 0) 1 rfl Tryd.underlying41 info5 rfl (by decide) (by omega) u3 x3_1 (bt a0 x5_1) [.int .u8 (bt a0 x5_1)] (fun _ => True) (fun _ => False) rfl rfl ?aP (fun _ hk => hk.elim) ?aF ?aO ?aB ?aS ?aL ?_; (case aP => exact rfl); (case aB => exact (by repeat (first | (with_reducible first | exact HB.out | apply below_alloc | apply pw_below_drewN | apply below_drew1) | exact HB.out))); (case aF => exact (fun _ _ => trivial)); (case aO => exact (by (with_reducible repeat (first | apply Kd.R_alloc | apply Kd.R_drewN | apply Kd.R_drew)); exact HO_3.out)); (case aS => exact (below_size (by repeat (first | (with_reducible first | exact HB.out | apply below_alloc | apply pw_below_drewN | apply below_drew1) | exact HB.out)))); (case aL => have := LMc9.out; omega); intro v106 w15 ho hb hg hat; rw [← Ny105.out] at ho; have n0_ := Aside0.mk (hb); have n1_ := Aside0.mk (ho); clear HB; clear HO_3; have HB := n0_; have HO107 := n1_; clear n0_ n1_; clear ho hb hg hat; have p13 : 0 ≤ ((ji10) : Int) := of_decide_eq_true (by first | (with_reducible assumption) | assumption); have q13 : (ji10) < (a0.size : Int) := of_decide_eq_true (by first | (with_reducible assumption) | assumption); have hx13 := bt_at a0 (ji10); replace p13 := eq_true p13; replace q13 := eq_true q13) | ((with_reducible refine gate_builtin (b := .append) (xs := #[.tmp 114, .tmp 116]) rfl ?_); (try (refine gate_guard (by rfl) ?_; dsimp only)); at_builtin; refine Kd.R_append (Kd.int .u8) (w0 := w) w.heap.size rfl (.tmp 114) (.tmp 116) 41 5 (.int .u8 0) 1 rfl Tryd.underlying41 info5 rfl (by decide) (by omega) v106 y105 (bt a0 (ji10)) [.int .u8 (bt a0 (ji10))] (fun _ => True) (fun _ => False) rfl rfl ?aP (fun _ hk => hk.elim) ?aF ?aO ?aB ?aS ?aL ?_; (case aP => exact rfl); (case aB => exact (by repeat (first | (with_reducible first | exact HB.out | apply below_alloc | apply pw_below_drewN | apply below_drew1) | exact HB.out))); (case aF => exact (fun _ _ => trivial)); (case aO => exact (by (with_reducible repeat (first | apply Kd.R_alloc | apply Kd.R_drewN | apply Kd.R_drew)); exact HO107.out)); (case aS => exact (below_size (by repeat (first | (with_reducible first | exact HB.out | apply below_alloc | apply pw_below_drewN | apply below_drew1) | exact HB.out)))); (case aL => have := LMc14.out; omega); intro v109 w16 ho hb hg hat; rw [← Ny108.out] at ho; have n0_ := Aside0.mk (hb); have n1_ := Aside0.mk (ho); clear HB; clear HO107; have HB := n0_; have HO110 := n1_; clear n0_ n1_; clear ho hb hg hat))
                        go_roundg kj4
                        case measure => have := HK1.out; have := HJ4.out; omega
                        case rel => exact ⟨(y108), (x4_1), (wrap64 ((ji10) + 1)), (by first | rfl | (simp; done) | (simp [*]; done) | (simp [bne, *]; done)), (by first | rfl | (simp; done) | (simp only [← hji10] <;> (first | rfl | simp)) | (simp [*]; done)), H', ⟨by have := HK1.out; have := HJ4.out; omega⟩, ⟨by (with_reducible repeat (first | apply Kd.R_alloc | apply Kd.R_drewN | apply Kd.R_drew)); exact HO110.out⟩, ⟨by repeat (first | (with_reducible first | exact HB.out | apply below_alloc | apply pw_below_drewN | apply below_drew1) | exact HB.out)⟩⟩
                      · rw [if_neg c14] at H
                        exact absurd H (by simp)
                    · rw [if_neg c12] at H
                      exact absurd H (by simp)
                  · rw [if_neg c11] at H
                    exact absurd H (by simp)
                · rw [if_neg c9] at H
                  exact absurd H (by simp)
              · replace c8 := Bool.eq_false_iff.mpr c8
                subst c8
                have H1 : (if (bt a0 x5_1) = 34 then (if x3_1.length < 140737488355328 then (postbaglaw3_plain.l0 kj4 a0 (x3_1 ++ [(bt a0 x5_1)]) (!x4_1) (wrap64 (x5_1 + 1))) else (none)) else (if x4_1 = true then (postbaglaw3_plain.j2 kj4 a0 x3_1 x4_1 x5_1 (bt a0 x5_1) false) else (if (bt a0 x5_1) = 43 then (if x5_1 > 0 then (if 0 ≤ (wrap64 (x5_1 - 1)) then (if (wrap64 (x5_1 - 1)) < (a0.size : Int) then (if (bt a0 (wrap64 (x5_1 - 1))) ≥ 48 then (if (bt a0 (wrap64 (x5_1 - 1))) ≤ 57 then ((postbaglaw3_announced.f kj4 x3_1).bind fun t114 => (postbaglaw3_plain.j2 kj4 a0 x3_1 x4_1 x5_1 (bt a0 x5_1) t114)) else (postbaglaw3_plain.j2 kj4 a0 x3_1 x4_1 x5_1 (bt a0 x5_1) false)) else (postbaglaw3_plain.j2 kj4 a0 x3_1 x4_1 x5_1 (bt a0 x5_1) false)) else (none)) else (none)) else (postbaglaw3_plain.j2 kj4 a0 x3_1 x4_1 x5_1 (bt a0 x5_1) false)) else (postbaglaw3_plain.j2 kj4 a0 x3_1 x4_1 x5_1 (bt a0 x5_1) false)))) = some r := by rw [if_neg (show ¬ (false = true) by decide)] at H; exact H
                clear H
                have H := H1
                clear H1
                by_cases c17 : (bt a0 x5_1) = 34
                · rw [if_pos c17] at H
                  have c17b0 : ((bt a0 x5_1) == 34) = true := beq_iff_eq.mpr c17
                  have c17b1 : ((bt a0 x5_1) != 34) = false := bne_eq_false_iff_eq.mpr c17
                  clear c17
                  by_cases c18 : x3_1.length < 140737488355328
                  · rw [if_pos c18] at H
                    have LMc18 := Aside0.mk c18
                    clear c18
                    obtain ⟨y111, hy111⟩ : ∃ y_ : List Int, y_ = (x3_1 ++ [(bt a0 x5_1)]) := ⟨_, rfl⟩
                    replace H : (postbaglaw3_plain.l0 kj4 a0 y111 (!x4_1) (wrap64 (x5_1 + 1))) = some r := by first | (rw [hy111]; with_reducible exact H) | (have H2_ := (Option.bind_some _ _).symm.trans H; rw [hy111]; with_reducible exact H2_) | (have H2_ := (Option.bind_some _ _).symm.trans H; with_reducible exact H2_) | with_reducible exact H | (rw [hy111]; exact H) | exact H
                    have Ny111 := Aside0.mk hy111
                    clear hy111
                    have H' := Aside0.mk H
                    clear H
                    go_wp2_with (first | ((with_reducible refine gate_builtin (b := .append) (xs := #[.tmp 114, .tmp 116]) rfl ?_); (try (refine gate_guard (by rfl) ?_; dsimp only)); at_builtin; refine Kd.R_append (Kd.int .u8) (w0 := w) w.heap.size rfl (.tmp 114) (.tmp 116) 41 5 (.int .u8 0) 1 rfl Tryd.underlying41 info5 rfl (by decide) (by omega) u3 x3_1 (bt a0 x5_1) [.int .u8 (bt a0 x5_1)] (fun _ => True) (fun _ => False) rfl rfl ?aP (fun _ hk => hk.elim) ?aF ?aO ?aB ?aS ?aL ?_; (case aP => exact rfl); (case aB => exact (by repeat (first | (with_reducible first | exact HB.out | apply below_alloc | apply pw_below_drewN | apply below_drew1) | exact HB.out))); (case aF => exact (fun _ _ => trivial)); (case aO => exact (by (with_reducible repeat (first | apply Kd.R_alloc | apply Kd.R_drewN | apply Kd.R_drew)); exact HO_3.out)); (case aS => exact (below_size (by repeat (first | (with_reducible first | exact HB.out | apply below_alloc | apply pw_below_drewN | apply below_drew1) | exact HB.out)))); (case aL => have := LMc18.out; omega); intro v112 w19 ho hb hg hat; rw [← Ny111.out] at ho; have n0_ := Aside0.mk (hb); have n1_ := Aside0.mk (ho); clear HB; clear HO_3; have HB := n0_; have HO113 := n1_; clear n0_ n1_; clear ho hb hg hat))
                    go_roundg kj4
                    case measure => have := HK1.out; have := HJ4.out; omega
                    case rel => exact ⟨(y111), (!x4_1), (wrap64 (x5_1 + 1)), (by first | rfl | (simp; done) | (simp [*]; done) | (simp [bne, *]; done)), (by first | rfl | (simp; done) | (simp [*]; done) | (simp [bne, *]; done)), H', ⟨by have := HK1.out; have := HJ4.out; omega⟩, ⟨by (with_reducible repeat (first | apply Kd.R_alloc | apply Kd.R_drewN | apply Kd.R_drew)); exact HO113.out⟩, ⟨by repeat (first | (with_reducible first | exact HB.out | apply below_alloc | apply pw_below_drewN | apply below_drew1) | exact HB.out)⟩⟩
                  · rw [if_neg c18] at H
                    exact absurd H (by simp)
                · rw [if_neg c17] at H
                  have c17b0 : ((bt a0 x5_1) == 34) = false := beq_eq_false_iff_ne.mpr c17
                  have c17b1 : ((bt a0 x5_1) != 34) = true := bne_iff_ne.mpr c17
                  have HC20 := Aside0.mk H
                  clear H
                  go_upto_region 13 with (fail)
                  go_cut [43] (fun v43 wc => ∃ (kq : Nat) (x43_19 : Bool), v43 = .bool x43_19 ∧ Aside0 (postbaglaw3_plain.j2 kq a0 x3_1 x4_1 x5_1 (bt a0 x5_1) x43_19 = some r) ∧ Aside0 (kq ≤ kj4) ∧ Aside0 (Kd.R (Kd.int .u8) 5 wc w.heap.size (fun _ => True) u3 x3_1) ∧ Aside0 (Below w.heap.size w wc))
                  case first =>
                    have H := HC20.out
                    clear HC20
                    by_cases c21 : x4_1 = true
                    · subst c21
                      have H1 : (postbaglaw3_plain.j2 kj4 a0 x3_1 true x5_1 (bt a0 x5_1) false) = some r := by rw [if_pos rfl] at H; exact H
                      clear H
                      have H := H1
                      clear H1
                      have H' := Aside0.mk H
                      clear H
                      go_wp2
                      go_meet
                      case rel => exact ⟨_, (false), (by first | rfl | (simp; done) | (simp [*]; done) | (simp [bne, *]; done)), H', ⟨by have := HK1.out; have := HJ4.out; first | omega | exact Nat.le_refl _⟩, ⟨by (with_reducible repeat (first | apply Kd.R_alloc | apply Kd.R_drewN | apply Kd.R_drew)); exact HO_3.out⟩, ⟨by repeat (first | (with_reducible first | exact HB.out | apply below_alloc | apply pw_below_drewN | apply below_drew1) | exact HB.out)⟩⟩
                    · replace c21 := Bool.eq_false_iff.mpr c21
                      subst c21
                      have H1 : (if (bt a0 x5_1) = 43 then (if x5_1 > 0 then (if 0 ≤ (wrap64 (x5_1 - 1)) then (if (wrap64 (x5_1 - 1)) < (a0.size : Int) then (if (bt a0 (wrap64 (x5_1 - 1))) ≥ 48 then (if (bt a0 (wrap64 (x5_1 - 1))) ≤ 57 then ((postbaglaw3_announced.f kj4 x3_1).bind fun t114 => (postbaglaw3_plain.j2 kj4 a0 x3_1 false x5_1 (bt a0 x5_1) t114)) else (postbaglaw3_plain.j2 kj4 a0 x3_1 false x5_1 (bt a0 x5_1) false)) else (postbaglaw3_plain.j2 kj4 a0 x3_1 false x5_1 (bt a0 x5_1) false)) else (none)) else (none)) else (postbaglaw3_plain.j2 kj4 a0 x3_1 false x5_1 (bt a0 x5_1) false)) else (postbaglaw3_plain.j2 kj4 a0 x3_1 false x5_1 (bt a0 x5_1) false)) = some r := by rw [if_neg (show ¬ (false = true) by decide)] at H; exact H
                      clear H
                      have H := H1
                      clear H1
                      by_cases c22 : (bt a0 x5_1) = 43
                      · rw [if_pos c22] at H
                        have c22b0 : ((bt a0 x5_1) == 43) = true := beq_iff_eq.mpr c22
                        have c22b1 : ((bt a0 x5_1) != 43) = false := bne_eq_false_iff_eq.mpr c22
                        clear c22
                        (first | rw [c22b0] | (simp only [i64_w, i32_w]; rw [c22b0]) | skip)
                        by_cases c23 : x5_1 > 0
                        · rw [if_pos c23] at H
                          have c23b0 : decide (0 < x5_1) = true := decide_eq_true c23
                          clear c23
                          obtain ⟨ji24, hji24⟩ : ∃ j_ : Int, (wrap64 (x5_1 - 1)) = j_ := ⟨_, rfl⟩
                          replace H : (if 0 ≤ (ji24) then (if (ji24) < (a0.size : Int) then (if (bt a0 (ji24)) ≥ 48 then (if (bt a0 (ji24)) ≤ 57 then ((postbaglaw3_announced.f kj4 x3_1).bind fun t114 => (postbaglaw3_plain.j2 kj4 a0 x3_1 false x5_1 (bt a0 x5_1) t114)) else (postbaglaw3_plain.j2 kj4 a0 x3_1 false x5_1 (bt a0 x5_1) false)) else (postbaglaw3_plain.j2 kj4 a0 x3_1 false x5_1 (bt a0 x5_1) false)) else (none)) else (none)) = some r := by first | (rw [hji24] at H; exact H) | (simp only [hji24] at H ⊢; exact H)
                          have hji24w : (IntKind.i64.wrap (x5_1 - 1)) = ji24 := (i64_w _).trans hji24
                          by_cases c25 : 0 ≤ (ji24)
                          · rw [if_pos c25] at H
                            have c25b0 : decide (0 ≤ (ji24)) = true := decide_eq_true c25
                            clear c25
                            by_cases c26 : (ji24) < (a0.size : Int)
                            · rw [if_pos c26] at H
                              have c26b0 : decide ((ji24) < (a0.size : Int)) = true := decide_eq_true c26
                              clear c26
                              by_cases c28 : (bt a0 (ji24)) ≥ 48
                              · rw [if_pos c28] at H
                                have c28b0 : decide (48 ≤ (bt a0 (ji24))) = true := decide_eq_true c28
                                clear c28
                                by_cases c30 : (bt a0 (ji24)) ≤ 57
                                · rw [if_pos c30] at H
                                  have c30b0 : decide ((bt a0 (ji24)) ≤ 57) = true := decide_eq_true c30
                                  clear c30
                                  replace H := Option.bind_eq_some_iff.mp H
                                  obtain ⟨t114, A310, H⟩ := H
                                  replace H : (postbaglaw3_plain.j2 kj4 a0 x3_1 false x5_1 (bt a0 x5_1) t114) = some r := H
                                  have A31 := Aside0.mk A310
                                  clear A310
                                  have H' := Aside0.mk H
                                  clear H
                                  have p27 : 0 ≤ ((ji24) : Int) := of_decide_eq_true (by first | (with_reducible assumption) | assumption)
                                  have q27 : (ji24) < (a0.size : Int) := of_decide_eq_true (by first | (with_reducible assumption) | assumption)
                                  have hx27 := bt_at a0 (ji24)
                                  replace p27 := eq_true p27
                                  replace q27 := eq_true q27
                                  have p29 : 0 ≤ ((ji24) : Int) := of_decide_eq_true (by first | (with_reducible assumption) | assumption)
                                  have q29 : (ji24) < (a0.size : Int) := of_decide_eq_true (by first | (with_reducible assumption) | assumption)
                                  have hx29 := bt_at a0 (ji24)
                                  replace p29 := eq_true p29
                                  replace q29 := eq_true q29
                                  obtain ⟨Ao32, co32, eo32⟩ := Kd.R_slice HO_3.out
                                  subst eo32
                                  go_wp2_with (first | (go_at_call 29; (with_reducible refine (postbaglaw3_announced.calls kj4 _ _ x3_1 t114 _ ?side1 ?side2 A31.out).mono ?_); (case side1 => repeat (first | exact (Kd.R_reads' HO_3.out).2.2 | (with_reducible refine Kd.C_alloc ?_ _) | (with_reducible refine Kd.C_drewN ?_ _) | (with_reducible refine Kd.C_drew ?_))); (case side2 => exact (Kd.R_reads' HO_3.out).2.1); rintro e w' ⟨rfl, ⟨nd, rfl⟩⟩))
                                  go_meet
                                  case rel => exact ⟨_, (t114), (by first | rfl | (simp; done) | (simp [*]; done) | (simp [bne, *]; done)), H', ⟨by have := HK1.out; have := HJ4.out; first | omega | exact Nat.le_refl _⟩, ⟨by (with_reducible repeat (first | apply Kd.R_alloc | apply Kd.R_drewN | apply Kd.R_drew)); exact HO_3.out⟩, ⟨by repeat (first | (with_reducible first | exact HB.out | apply below_alloc | apply pw_below_drewN | apply below_drew1) | exact HB.out)⟩⟩
                                · rw [if_neg c30] at H
                                  have c30b0 : decide ((bt a0 (ji24)) ≤ 57) = false := decide_eq_false c30
                                  clear c30
                                  have H' := Aside0.mk H
                                  clear H
                                  have p27 : 0 ≤ ((ji24) : Int) := of_decide_eq_true (by first | (with_reducible assumption) | assumption)
                                  have q27 : (ji24) < (a0.size : Int) := of_decide_eq_true (by first | (with_reducible assumption) | assumption)
                                  have hx27 := bt_at a0 (ji24)
                                  replace p27 := eq_true p27
                                  replace q27 := eq_true q27
                                  have p29 : 0 ≤ ((ji24) : Int) := of_decide_eq_true (by first | (with_reducible assumption) | assumption)
                                  have q29 : (ji24) < (a0.size : Int) := of_decide_eq_true (by first | (with_reducible assumption) | assumption)
                                  have hx29 := bt_at a0 (ji24)
                                  replace p29 := eq_true p29
                                  replace q29 := eq_true q29
                                  go_wp2
                                  go_meet
                                  case rel => exact ⟨_, (false), (by first | rfl | (simp; done) | (simp [*]; done) | (simp [bne, *]; done)), H', ⟨by have := HK1.out; have := HJ4.out; first | omega | exact Nat.le_refl _⟩, ⟨by (with_reducible repeat (first | apply Kd.R_alloc | apply Kd.R_drewN | apply Kd.R_drew)); exact HO_3.out⟩, ⟨by repeat (first | (with_reducible first | exact HB.out | apply below_alloc | apply pw_below_drewN | apply below_drew1) | exact HB.out)⟩⟩
                              · rw [if_neg c28] at H
                                have c28b0 : decide (48 ≤ (bt a0 (ji24))) = false := decide_eq_false c28
                                clear c28
                                have H' := Aside0.mk H
                                clear H
                                have p27 : 0 ≤ ((ji24) : Int) := of_decide_eq_true (by first | (with_reducible assumption) | assumption)
                                have q27 : (ji24) < (a0.size : Int) := of_decide_eq_true (by first | (with_reducible assumption) | assumption)
                                have hx27 := bt_at a0 (ji24)
                                replace p27 := eq_true p27
                                replace q27 := eq_true q27
                                go_wp2
                                go_meet
                                case rel => exact ⟨_, (false), (by first | rfl | (simp; done) | (simp [*]; done) | (simp [bne, *]; done)), H', ⟨by have := HK1.out; have := HJ4.out; first | omega | exact Nat.le_refl _⟩, ⟨by (with_reducible repeat (first | apply Kd.R_alloc | apply Kd.R_drewN | apply Kd.R_drew)); exact HO_3.out⟩, ⟨by repeat (first | (with_reducible first | exact HB.out | apply below_alloc | apply pw_below_drewN | apply below_drew1) | exact HB.out)⟩⟩
                            · rw [if_neg c26] at H
                              exact absurd H (by simp)
                          · rw [if_neg c25] at H
                            exact absurd H (by simp)
                        · rw [if_neg c23] at H
                          have c23b0 : decide (0 < x5_1) = false := decide_eq_false c23
                          clear c23
                          have H' := Aside0.mk H
                          clear H
                          go_wp2
                          go_meet
                          case rel => exact ⟨_, (false), (by first | rfl | (simp; done) | (simp [*]; done) | (simp [bne, *]; done)), H', ⟨by have := HK1.out; have := HJ4.out; first | omega | exact Nat.le_refl _⟩, ⟨by (with_reducible repeat (first | apply Kd.R_alloc | apply Kd.R_drewN | apply Kd.R_drew)); exact HO_3.out⟩, ⟨by repeat (first | (with_reducible first | exact HB.out | apply below_alloc | apply pw_below_drewN | apply below_drew1) | exact HB.out)⟩⟩
                      · rw [if_neg c22] at H
                        have c22b0 : ((bt a0 x5_1) == 43) = false := beq_eq_false_iff_ne.mpr c22
                        have c22b1 : ((bt a0 x5_1) != 43) = true := bne_iff_ne.mpr c22
                        (first | rw [c22b0] | (simp only [i64_w, i32_w]; rw [c22b0]) | skip)
                        have H' := Aside0.mk H
                        clear H
                        go_wp2
                        go_meet
                        case rel => exact ⟨_, (false), (by first | rfl | (simp; done) | (simp [*]; done) | (simp [bne, *]; done)), H', ⟨by have := HK1.out; have := HJ4.out; first | omega | exact Nat.le_refl _⟩, ⟨by (with_reducible repeat (first | apply Kd.R_alloc | apply Kd.R_drewN | apply Kd.R_drew)); exact HO_3.out⟩, ⟨by repeat (first | (with_reducible first | exact HB.out | apply below_alloc | apply pw_below_drewN | apply below_drew1) | exact HB.out)⟩⟩
                  case rest =>
                    clear HC20
                    try clear c1
                    try clear p1
                    try clear q1
                    try clear hx1
                    try clear c2
                    try clear c2b0
                    try clear p2
                    try clear q2
                    try clear hx2
                    try clear c3
                    try clear c3b0
                    try clear p4
                    try clear q4
                    try clear hx4
                    try clear c6
                    try clear p6
                    try clear c7
                    try clear c7b0
                    try clear c7b1
                    try clear c8
                    try clear c9
                    try clear c11
                    try clear c11b0
                    try clear c12
                    try clear c12b0
                    try clear p13
                    try clear q13
                    try clear hx13
                    try clear c14
                    try clear c16
                    try clear c17
                    try clear c17b0
                    try clear c17b1
                    try clear c18
                    try clear c21
                    try clear c22
                    try clear c22b0
                    try clear c22b1
                    try clear c23
                    try clear c23b0
                    try clear c25
                    try clear c25b0
                    try clear c26
                    try clear c26b0
                    try clear p27
                    try clear q27
                    try clear hx27
                    try clear c28
                    try clear c28b0
                    try clear p29
                    try clear q29
                    try clear hx29
                    try clear c30
                    try clear c30b0
                    try clear p13
                    try clear p2
                    try clear p27
                    try clear p29
                    try clear p4
                    try clear p6
                    try clear q13
                    try clear q27
                    try clear q29
                    try clear q4
                    obtain ⟨kq, x43_19, rfl, HA, HJ19, HO_3, HB⟩ := hcut
                    cases kq with
                    | zero => exact absurd HA.out (by simp [postbaglaw3_plain.j2])
                    | succ kj19 =>
                      have H := HA.out
                      clear HA
                      simp only [postbaglaw3_plain.j2] at H
                      by_cases c33 : x43_19 = true
                      · subst c33
                        have H1 : (postbaglaw3_plain.l0 kj19 a0 x3_1 x4_1 (wrap64 (x5_1 + 1))) = some r := by rw [if_pos rfl] at H; exact H
                        clear H
                        have H := H1
                        clear H1
                        have H' := Aside0.mk H
                        clear H
                        go_wp2
                        go_roundg kj19
                        case measure => have := HK1.out; have := HJ4.out; have := HJ19.out; omega
                        case rel => exact ⟨(x3_1), (x4_1), (wrap64 (x5_1 + 1)), (by first | rfl | (simp; done) | (simp [*]; done) | (simp [bne, *]; done)), (by first | rfl | (simp; done) | (simp [*]; done) | (simp [bne, *]; done)), H', ⟨by have := HK1.out; have := HJ4.out; have := HJ19.out; omega⟩, ⟨by (with_reducible repeat (first | apply Kd.R_alloc | apply Kd.R_drewN | apply Kd.R_drew)); exact HO_3.out⟩, ⟨by repeat (first | (with_reducible first | exact HB.out | apply below_alloc | apply pw_below_drewN | apply below_drew1) | exact HB.out)⟩⟩
                      · replace c33 := Bool.eq_false_iff.mpr c33
                        subst c33
                        have H1 : (if x4_1 = true then (if x3_1.length < 140737488355328 then (postbaglaw3_plain.l0 kj19 a0 (x3_1 ++ [(bt a0 x5_1)]) x4_1 (wrap64 (x5_1 + 1))) else (none)) else (if (bt a0 x5_1) = 48 then (if (x3_1.length : Int) > 0 then (if 0 ≤ (wrap64 ((x3_1.length : Int) - 1)) then (if (wrap64 ((x3_1.length : Int) - 1)) < (x3_1.length : Int) then (if (rd x3_1 (wrap64 ((x3_1.length : Int) - 1))) = 123 then (if (wrap64 (x5_1 + 1)) < (a0.size : Int) then (if 0 ≤ (wrap64 (x5_1 + 1)) then (if (bt a0 (wrap64 (x5_1 + 1))) ≥ 48 then (if (bt a0 (wrap64 (x5_1 + 1))) ≤ 57 then (postbaglaw3_plain.l0 kj19 a0 x3_1 x4_1 (wrap64 (x5_1 + 1))) else (if x3_1.length < 140737488355328 then (postbaglaw3_plain.l0 kj19 a0 (x3_1 ++ [(bt a0 x5_1)]) x4_1 (wrap64 (x5_1 + 1))) else (none))) else (if x3_1.length < 140737488355328 then (postbaglaw3_plain.l0 kj19 a0 (x3_1 ++ [(bt a0 x5_1)]) x4_1 (wrap64 (x5_1 + 1))) else (none))) else (none)) else (if x3_1.length < 140737488355328 then (postbaglaw3_plain.l0 kj19 a0 (x3_1 ++ [(bt a0 x5_1)]) x4_1 (wrap64 (x5_1 + 1))) else (none))) else (if x3_1.length < 140737488355328 then (postbaglaw3_plain.l0 kj19 a0 (x3_1 ++ [(bt a0 x5_1)]) x4_1 (wrap64 (x5_1 + 1))) else (none))) else (none)) else (none)) else (if x3_1.length < 140737488355328 then (postbaglaw3_plain.l0 kj19 a0 (x3_1 ++ [(bt a0 x5_1)]) x4_1 (wrap64 (x5_1 + 1))) else (none))) else (if x3_1.length < 140737488355328 then (postbaglaw3_plain.l0 kj19 a0 (x3_1 ++ [(bt a0 x5_1)]) x4_1 (wrap64 (x5_1 + 1))) else (none)))) = some r := by rw [if_neg (show ¬ (false = true) by decide)] at H; exact H
                        clear H
                        have H := H1
                        clear H1
                        by_cases c34 : x4_1 = true
                        · subst c34
                          have H1 : (if x3_1.length < 140737488355328 then (postbaglaw3_plain.l0 kj19 a0 (x3_1 ++ [(bt a0 x5_1)]) true (wrap64 (x5_1 + 1))) else (none)) = some r := by rw [if_pos rfl] at H; exact H
                          clear H
                          have H := H1
                          clear H1
                          by_cases c35 : x3_1.length < 140737488355328
                          · rw [if_pos c35] at H
                            have LMc35 := Aside0.mk c35
                            clear c35
                            obtain ⟨y115, hy115⟩ : ∃ y_ : List Int, y_ = (x3_1 ++ [(bt a0 x5_1)]) := ⟨_, rfl⟩
                            replace H : (postbaglaw3_plain.l0 kj19 a0 y115 true (wrap64 (x5_1 + 1))) = some r := by first | (rw [hy115]; with_reducible exact H) | (have H2_ := (Option.bind_some _ _).symm.trans H; rw [hy115]; with_reducible exact H2_) | (have H2_ := (Option.bind_some _ _).symm.trans H; with_reducible exact H2_) | with_reducible exact H | (rw [hy115]; exact H) | exact H
                            have Ny115 := Aside0.mk hy115
                            clear hy115
                            have H' := Aside0.mk H
                            clear H
                            go_wp2_with (first | ((with_reducible refine gate_builtin (b := .append) (xs := #[.tmp 114, .tmp 116]) rfl ?_); (try (refine gate_guard (by rfl) ?_; dsimp only)); at_builtin; refine Kd.R_append (Kd.int .u8) (w0 := w) w.heap.size rfl (.tmp 114) (.tmp 116) 41 5 (.int .u8 0) 1 rfl Tryd.underlying41 info5 rfl (by decide) (by omega) u3 x3_1 (bt a0 x5_1) [.int .u8 (bt a0 x5_1)] (fun _ => True) (fun _ => False) rfl rfl ?aP (fun _ hk => hk.elim) ?aF ?aO ?aB ?aS ?aL ?_; (case aP => exact rfl); (case aB => exact (by repeat (first | (with_reducible first | exact HB.out | apply below_alloc | apply pw_below_drewN | apply below_drew1) | exact HB.out))); (case aF => exact (fun _ _ => trivial)); (case aO => exact (by (with_reducible repeat (first | apply Kd.R_alloc | apply Kd.R_drewN | apply Kd.R_drew)); exact HO_3.out)); (case aS => exact (below_size (by repeat (first | (with_reducible first | exact HB.out | apply below_alloc | apply pw_below_drewN | apply below_drew1) | exact HB.out)))); (case aL => have := LMc35.out; omega); intro v116 w36 ho hb hg hat; rw [← Ny115.out] at ho; have n0_ := Aside0.mk (hb); have n1_ := Aside0.mk (ho); clear HB; clear HO_3; have HB := n0_; have HO117 := n1_; clear n0_ n1_; clear ho hb hg hat))
                            go_roundg kj19
                            case measure => have := HK1.out; have := HJ4.out; have := HJ19.out; omega
                            case rel => exact ⟨(y115), (true), (wrap64 (x5_1 + 1)), (by first | rfl | (simp; done) | (simp [*]; done) | (simp [bne, *]; done)), (by first | rfl | (simp; done) | (simp [*]; done) | (simp [bne, *]; done)), H', ⟨by have := HK1.out; have := HJ4.out; have := HJ19.out; omega⟩, ⟨by (with_reducible repeat (first | apply Kd.R_alloc | apply Kd.R_drewN | apply Kd.R_drew)); exact HO117.out⟩, ⟨by repeat (first | (with_reducible first | exact HB.out | apply below_alloc | apply pw_below_drewN | apply below_drew1) | exact HB.out)⟩⟩
                          · rw [if_neg c35] at H
                            exact absurd H (by simp)
                        · replace c34 := Bool.eq_false_iff.mpr c34
                          subst c34
                          have H1 : (if (bt a0 x5_1) = 48 then (if (x3_1.length : Int) > 0 then (if 0 ≤ (wrap64 ((x3_1.length : Int) - 1)) then (if (wrap64 ((x3_1.length : Int) - 1)) < (x3_1.length : Int) then (if (rd x3_1 (wrap64 ((x3_1.length : Int) - 1))) = 123 then (if (wrap64 (x5_1 + 1)) < (a0.size : Int) then (if 0 ≤ (wrap64 (x5_1 + 1)) then (if (bt a0 (wrap64 (x5_1 + 1))) ≥ 48 then (if (bt a0 (wrap64 (x5_1 + 1))) ≤ 57 then (postbaglaw3_plain.l0 kj19 a0 x3_1 false (wrap64 (x5_1 + 1))) else (if x3_1.length < 140737488355328 then (postbaglaw3_plain.l0 kj19 a0 (x3_1 ++ [(bt a0 x5_1)]) false (wrap64 (x5_1 + 1))) else (none))) else (if x3_1.length < 140737488355328 then (postbaglaw3_plain.l0 kj19 a0 (x3_1 ++ [(bt a0 x5_1)]) false (wrap64 (x5_1 + 1))) else (none))) else (none)) else (if x3_1.length < 140737488355328 then (postbaglaw3_plain.l0 kj19 a0 (x3_1 ++ [(bt a0 x5_1)]) false (wrap64 (x5_1 + 1))) else (none))) else (if x3_1.length < 140737488355328 then (postbaglaw3_plain.l0 kj19 a0 (x3_1 ++ [(bt a0 x5_1)]) false (wrap64 (x5_1 + 1))) else (none))) else (none)) else (none)) else (if x3_1.length < 140737488355328 then (postbaglaw3_plain.l0 kj19 a0 (x3_1 ++ [(bt a0 x5_1)]) false (wrap64 (x5_1 + 1))) else (none))) else (if x3_1.length < 140737488355328 then (postbaglaw3_plain.l0 kj19 a0 (x3_1 ++ [(bt a0 x5_1)]) false (wrap64 (x5_1 + 1))) else (none))) = some r := by rw [if_neg (show ¬ (false = true) by decide)] at H; exact H
                          clear H
                          have H := H1
                          clear H1
                          by_cases c37 : (bt a0 x5_1) = 48
                          · rw [if_pos c37] at H
                            have c37b0 : ((bt a0 x5_1) == 48) = true := beq_iff_eq.mpr c37
                            have c37b1 : ((bt a0 x5_1) != 48) = false := bne_eq_false_iff_eq.mpr c37
                            clear c37
                            by_cases c38 : (x3_1.length : Int) > 0
                            · rw [if_pos c38] at H
                              have c38b0 : decide (0 < (x3_1.length : Int)) = true := decide_eq_true c38
                              have c38b1 : decide (0 < x3_1.length) = true := decide_eq_true (by omega)
                              clear c38
                              obtain ⟨ji39, hji39⟩ : ∃ j_ : Int, (wrap64 ((x3_1.length : Int) - 1)) = j_ := ⟨_, rfl⟩
                              replace H : (if 0 ≤ (ji39) then (if (ji39) < (x3_1.length : Int) then (if (rd x3_1 (ji39)) = 123 then (if (wrap64 (x5_1 + 1)) < (a0.size : Int) then (if 0 ≤ (wrap64 (x5_1 + 1)) then (if (bt a0 (wrap64 (x5_1 + 1))) ≥ 48 then (if (bt a0 (wrap64 (x5_1 + 1))) ≤ 57 then (postbaglaw3_plain.l0 kj19 a0 x3_1 false (wrap64 (x5_1 + 1))) else (if x3_1.length < 140737488355328 then (postbaglaw3_plain.l0 kj19 a0 (x3_1 ++ [(bt a0 x5_1)]) false (wrap64 (x5_1 + 1))) else (none))) else (if x3_1.length < 140737488355328 then (postbaglaw3_plain.l0 kj19 a0 (x3_1 ++ [(bt a0 x5_1)]) false (wrap64 (x5_1 + 1))) else (none))) else (none)) else (if x3_1.length < 140737488355328 then (postbaglaw3_plain.l0 kj19 a0 (x3_1 ++ [(bt a0 x5_1)]) false (wrap64 (x5_1 + 1))) else (none))) else (if x3_1.length < 140737488355328 then (postbaglaw3_plain.l0 kj19 a0 (x3_1 ++ [(bt a0 x5_1)]) false (wrap64 (x5_1 + 1))) else (none))) else (none)) else (none)) = some r := by first | (rw [hji39] at H; exact H) | (simp only [hji39] at H ⊢; exact H)
                              have hji39w : (IntKind.i64.wrap ((x3_1.length : Int) - 1)) = ji39 := (i64_w _).trans hji39
                              by_cases c40 : 0 ≤ (ji39)
                              · rw [if_pos c40] at H
                                have c40b0 : decide (0 ≤ (ji39)) = true := decide_eq_true c40
                                clear c40
                                by_cases c41 : (ji39) < (x3_1.length : Int)
                                · rw [if_pos c41] at H
                                  have c41b0 : decide ((ji39) < (x3_1.length : Int)) = true := decide_eq_true c41
                                  clear c41
                                  by_cases c42 : (rd x3_1 (ji39)) = 123
                                  · rw [if_pos c42] at H
                                    have c42b0 : ((rd x3_1 (ji39)) == 123) = true := beq_iff_eq.mpr c42
                                    have c42b1 : ((rd x3_1 (ji39)) != 123) = false := bne_eq_false_iff_eq.mpr c42
                                    clear c42
                                    by_cases c43 : (wrap64 (x5_1 + 1)) < (a0.size : Int)
                                    · rw [if_pos c43] at H
                                      have c43b0 : decide ((wrap64 (x5_1 + 1)) < (a0.size : Int)) = true := decide_eq_true c43
                                      clear c43
                                      obtain ⟨ji44, hji44⟩ : ∃ j_ : Int, (wrap64 (x5_1 + 1)) = j_ := ⟨_, rfl⟩
                                      replace H : (if 0 ≤ (ji44) then (if (bt a0 (ji44)) ≥ 48 then (if (bt a0 (ji44)) ≤ 57 then (postbaglaw3_plain.l0 kj19 a0 x3_1 false ji44) else (if x3_1.length < 140737488355328 then (postbaglaw3_plain.l0 kj19 a0 (x3_1 ++ [(bt a0 x5_1)]) false ji44) else (none))) else (if x3_1.length < 140737488355328 then (postbaglaw3_plain.l0 kj19 a0 (x3_1 ++ [(bt a0 x5_1)]) false ji44) else (none))) else (none)) = some r := by first | (rw [hji44] at H; exact H) | (simp only [hji44] at H ⊢; exact H)
                                      (try rw [hji44] at c43b0)
                                      have hji44w : (IntKind.i64.wrap (x5_1 + 1)) = ji44 := (i64_w _).trans hji44
                                      by_cases c45 : 0 ≤ (ji44)
                                      · rw [if_pos c45] at H
                                        have c45b0 : decide (0 ≤ (ji44)) = true := decide_eq_true c45
                                        clear c45
                                        by_cases c47 : (bt a0 (ji44)) ≥ 48
                                        · rw [if_pos c47] at H
                                          have c47b0 : decide (48 ≤ (bt a0 (ji44))) = true := decide_eq_true c47
                                          clear c47
                                          by_cases c49 : (bt a0 (ji44)) ≤ 57
                                          · rw [if_pos c49] at H
                                            have c49b0 : decide ((bt a0 (ji44)) ≤ 57) = true := decide_eq_true c49
                                            clear c49
                                            have H' := Aside0.mk H
                                            clear H
                                            obtain ⟨Ao50, co50, eo50⟩ := Kd.R_slice HO_3.out
                                            subst eo50
                                            have p118 : 0 ≤ ((ji39) : Int) := of_decide_eq_true (by first | (with_reducible assumption) | assumption)
                                            have q118 : (ji39) < (x3_1.length : Int) := of_decide_eq_true (by first | (with_reducible assumption) | assumption)
                                            obtain ⟨ad118, e118, hx118_0⟩ := Kd.at_int (Kd.R_reads' HO_3.out).2.2 (ji39) p118 q118
                                            cases e118
                                            replace p118 := eq_true p118
                                            replace q118 := eq_true q118
                                            have p46 : 0 ≤ ((ji44) : Int) := of_decide_eq_true (by first | (with_reducible assumption) | assumption)
                                            have q46 : (ji44) < (a0.size : Int) := of_decide_eq_true (by first | (with_reducible assumption) | assumption)
                                            have hx46 := bt_at a0 (ji44)
                                            replace p46 := eq_true p46
                                            replace q46 := eq_true q46
                                            have p48 : 0 ≤ ((ji44) : Int) := of_decide_eq_true (by first | (with_reducible assumption) | assumption)
                                            have q48 : (ji44) < (a0.size : Int) := of_decide_eq_true (by first | (with_reducible assumption) | assumption)
                                            have hx48 := bt_at a0 (ji44)
                                            replace p48 := eq_true p48
                                            replace q48 := eq_true q48
                                            go_wp2
                                            go_roundg kj19
                                            case measure => have := HK1.out; have := HJ4.out; have := HJ19.out; omega
                                            case rel => exact ⟨(x3_1), (false), (ji44), (by first | rfl | (simp; done) | (simp [*]; done) | (simp [bne, *]; done)), (by first | rfl | (simp; done) | (simp only [← hji44] <;> (first | rfl | simp)) | (simp [*]; done)), H', ⟨by have := HK1.out; have := HJ4.out; have := HJ19.out; omega⟩, ⟨by (with_reducible repeat (first | apply Kd.R_alloc | apply Kd.R_drewN | apply Kd.R_drew)); exact HO_3.out⟩, ⟨by repeat (first | (with_reducible first | exact HB.out | apply below_alloc | apply pw_below_drewN | apply below_drew1) | exact HB.out)⟩⟩
                                          · rw [if_neg c49] at H
                                            have c49b0 : decide ((bt a0 (ji44)) ≤ 57) = false := decide_eq_false c49
                                            clear c49
                                            by_cases c51 : x3_1.length < 140737488355328
                                            · rw [if_pos c51] at H
                                              have LMc51 := Aside0.mk c51
                                              clear c51
                                              obtain ⟨y119, hy119⟩ : ∃ y_ : List Int, y_ = (x3_1 ++ [(bt a0 x5_1)]) := ⟨_, rfl⟩
                                              replace H : (postbaglaw3_plain.l0 kj19 a0 y119 false ji44) = some r := by first | (rw [hy119]; with_reducible exact H) | (have H2_ := (Option.bind_some _ _).symm.trans H; rw [hy119]; with_reducible exact H2_) | (have H2_ := (Option.bind_some _ _).symm.trans H; with_reducible exact H2_) | with_reducible exact H | (rw [hy119]; exact H) | exact H
                                              have Ny119 := Aside0.mk hy119
                                              clear hy119
                                              have H' := Aside0.mk H
                                              clear H
                                              obtain ⟨Ao52, co52, eo52⟩ := Kd.R_slice HO_3.out
                                              subst eo52
                                              have p118 : 0 ≤ ((ji39) : Int) := of_decide_eq_true (by first | (with_reducible assumption) | assumption)
                                              have q118 : (ji39) < (x3_1.length : Int) := of_decide_eq_true (by first | (with_reducible assumption) | assumption)
                                              obtain ⟨ad118, e118, hx118_0⟩ := Kd.at_int (Kd.R_reads' HO_3.out).2.2 (ji39) p118 q118
                                              cases e118
                                              replace p118 := eq_true p118
                                              replace q118 := eq_true q118
                                              have p46 : 0 ≤ ((ji44) : Int) := of_decide_eq_true (by first | (with_reducible assumption) | assumption)
                                              have q46 : (ji44) < (a0.size : Int) := of_decide_eq_true (by first | (with_reducible assumption) | assumption)
                                              have hx46 := bt_at a0 (ji44)
                                              replace p46 := eq_true p46
                                              replace q46 := eq_true q46
                                              have p48 : 0 ≤ ((ji44) : Int) := of_decide_eq_true (by first | (with_reducible assumption) | assumption)
                                              have q48 : (ji44) < (a0.size : Int) := of_decide_eq_true (by first | (with_reducible assumption) | assumption)
                                              have hx48 := bt_at a0 (ji44)
                                              replace p48 := eq_true p48
                                              replace q48 := eq_true q48
                                              go_wp2_with (first | ((with_reducible refine gate_builtin (b := .append) (xs := #[.tmp 114, .tmp 116]) rfl ?_); (try (refine gate_guard (by rfl) ?_; dsimp only)); at_builtin; refine Kd.R_append (Kd.int .u8) (w0 := w) w.heap.size rfl (.tmp 114) (.tmp 116) 41 5 (.int .u8 0) 1 rfl Tryd.underlying41 info5 rfl (by decide) (by omega) (.slice (some ad118) x3_1.length co52) x3_1 (bt a0 x5_1) [.int .u8 (bt a0 x5_1)] (fun _ => True) (fun _ => False) rfl rfl ?aP (fun _ hk => hk.elim) ?aF ?aO ?aB ?aS ?aL ?_; (case aP => exact rfl); (case aB => exact (by repeat (first | (with_reducible first | exact HB.out | apply below_alloc | apply pw_below_drewN | apply below_drew1) | exact HB.out))); (case aF => exact (fun _ _ => trivial)); (case aO => exact (by (with_reducible repeat (first | apply Kd.R_alloc | apply Kd.R_drewN | apply Kd.R_drew)); exact HO_3.out)); (case aS => exact (below_size (by repeat (first | (with_reducible first | exact HB.out | apply below_alloc | apply pw_below_drewN | apply below_drew1) | exact HB.out)))); (case aL => have := LMc51.out; omega); intro v120 w53 ho hb hg hat; rw [← Ny119.out] at ho; have n0_ := Aside0.mk (hb); have n1_ := Aside0.mk (ho); clear HB; clear HO_3; have HB := n0_; have HO121 := n1_; clear n0_ n1_; clear ho hb hg hat))
                                              go_roundg kj19
                                              case measure => have := HK1.out; have := HJ4.out; have := HJ19.out; omega
                                              case rel => exact ⟨(y119), (false), (ji44), (by first | rfl | (simp; done) | (simp [*]; done) | (simp [bne, *]; done)), (by first | rfl | (simp; done) | (simp only [← hji44] <;> (first | rfl | simp)) | (simp [*]; done)), H', ⟨by have := HK1.out; have := HJ4.out; have := HJ19.out; omega⟩, ⟨by (with_reducible repeat (first | apply Kd.R_alloc | apply Kd.R_drewN | apply Kd.R_drew)); exact HO121.out⟩, ⟨by repeat (first | (with_reducible first | exact HB.out | apply below_alloc | apply pw_below_drewN | apply below_drew1) | exact HB.out)⟩⟩
                                            · rw [if_neg c51] at H
                                              exact absurd H (by simp)
                                        · rw [if_neg c47] at H
                                          have c47b0 : decide (48 ≤ (bt a0 (ji44))) = false := decide_eq_false c47
                                          clear c47
                                          by_cases c54 : x3_1.length < 140737488355328
                                          · rw [if_pos c54] at H
                                            have LMc54 := Aside0.mk c54
                                            clear c54
                                            obtain ⟨y122, hy122⟩ : ∃ y_ : List Int, y_ = (x3_1 ++ [(bt a0 x5_1)]) := ⟨_, rfl⟩
                                            replace H : (postbaglaw3_plain.l0 kj19 a0 y122 false ji44) = some r := by first | (rw [hy122]; with_reducible exact H) | (have H2_ := (Option.bind_some _ _).symm.trans H; rw [hy122]; with_reducible exact H2_) | (have H2_ := (Option.bind_some _ _).symm.trans H; with_reducible exact H2_) | with_reducible exact H | (rw [hy122]; exact H) | exact H
                                            have Ny122 := Aside0.mk hy122
                                            clear hy122
                                            have H' := Aside0.mk H
                                            clear H
                                            obtain ⟨Ao55, co55, eo55⟩ := Kd.R_slice HO_3.out
                                            subst eo55
                                            have p118 : 0 ≤ ((ji39) : Int) := of_decide_eq_true (by first | (with_reducible assumption) | assumption)
                                            have q118 : (ji39) < (x3_1.length : Int) := of_decide_eq_true (by first | (with_reducible assumption) | assumption)
                                            obtain ⟨ad118, e118, hx118_0⟩ := Kd.at_int (Kd.R_reads' HO_3.out).2.2 (ji39) p118 q118
                                            cases e118
                                            replace p118 := eq_true p118
                                            replace q118 := eq_true q118
                                            have p46 : 0 ≤ ((ji44) : Int) := of_decide_eq_true (by first | (with_reducible assumption) | assumption)
                                            have q46 : (ji44) < (a0.size : Int) := of_decide_eq_true (by first | (with_reducible assumption) | assumption)
                                            have hx46 := bt_at a0 (ji44)
                                            replace p46 := eq_true p46
                                            replace q46 := eq_true q46
                                            go_wp2_with (first | ((with_reducible refine gate_builtin (b := .append) (xs := #[.tmp 114, .tmp 116]) rfl ?_); (try (refine gate_guard (by rfl) ?_; dsimp only)); at_builtin; refine Kd.R_append (Kd.int .u8) (w0 := w) w.heap.size rfl (.tmp 114) (.tmp 116) 41 5 (.int .u8 0) 1 rfl Tryd.underlying41 info5 rfl (by decide) (by omega) (.slice (some ad118) x3_1.length co55) x3_1 (bt a0 x5_1) [.int .u8 (bt a0 x5_1)] (fun _ => True) (fun _ => False) rfl rfl ?aP (fun _ hk => hk.elim) ?aF ?aO ?aB ?aS ?aL ?_; (case aP => exact rfl); (case aB => exact (by repeat (first | (with_reducible first | exact HB.out | apply below_alloc | apply pw_below_drewN | apply below_drew1) | exact HB.out))); (case aF => exact (fun _ _ => trivial)); (case aO => exact (by (with_reducible repeat (first | apply Kd.R_alloc | apply Kd.R_drewN | apply Kd.R_drew)); exact HO_3.out)); (case aS => exact (below_size (by repeat (first | (with_reducible first | exact HB.out | apply below_alloc | apply pw_below_drewN | apply below_drew1) | exact HB.out)))); (case aL => have := LMc54.out; omega); intro v123 w56 ho hb hg hat; rw [← Ny122.out] at ho; have n0_ := Aside0.mk (hb); have n1_ := Aside0.mk (ho); clear HB; clear HO_3; have HB := n0_; have HO124 := n1_; clear n0_ n1_; clear ho hb hg hat))
                                            go_roundg kj19
                                            case measure => have := HK1.out; have := HJ4.out; have := HJ19.out; omega
                                            case rel => exact ⟨(y122), (false), (ji44), (by first | rfl | (simp; done) | (simp [*]; done) | (simp [bne, *]; done)), (by first | rfl | (simp; done) | (simp only [← hji44] <;> (first | rfl | simp)) | (simp [*]; done)), H', ⟨by have := HK1.out; have := HJ4.out; have := HJ19.out; omega⟩, ⟨by (with_reducible repeat (first | apply Kd.R_alloc | apply Kd.R_drewN | apply Kd.R_drew)); exact HO124.out⟩, ⟨by repeat (first | (with_reducible first | exact HB.out | apply below_alloc | apply pw_below_drewN | apply below_drew1) | exact HB.out)⟩⟩
                                          · rw [if_neg c54] at H
                                            exact absurd H (by simp)
                                      · rw [if_neg c45] at H
                                        exact absurd H (by simp)
                                    · rw [if_neg c43] at H
                                      have c43b0 : decide ((wrap64 (x5_1 + 1)) < (a0.size : Int)) = false := decide_eq_false c43
                                      clear c43
                                      by_cases c57 : x3_1.length < 140737488355328
                                      · rw [if_pos c57] at H
                                        have LMc57 := Aside0.mk c57
                                        clear c57
                                        obtain ⟨y125, hy125⟩ : ∃ y_ : List Int, y_ = (x3_1 ++ [(bt a0 x5_1)]) := ⟨_, rfl⟩
                                        replace H : (postbaglaw3_plain.l0 kj19 a0 y125 false (wrap64 (x5_1 + 1))) = some r := by first | (rw [hy125]; with_reducible exact H) | (have H2_ := (Option.bind_some _ _).symm.trans H; rw [hy125]; with_reducible exact H2_) | (have H2_ := (Option.bind_some _ _).symm.trans H; with_reducible exact H2_) | with_reducible exact H | (rw [hy125]; exact H) | exact H
                                        have Ny125 := Aside0.mk hy125
                                        clear hy125
                                        have H' := Aside0.mk H
                                        clear H
                                        obtain ⟨Ao58, co58, eo58⟩ := Kd.R_slice HO_3.out
                                        subst eo58
                                        have p118 : 0 ≤ ((ji39) : Int) := of_decide_eq_true (by first | (with_reducible assumption) | assumption)
                                        have q118 : (ji39) < (x3_1.length : Int) := of_decide_eq_true (by first | (with_reducible assumption) | assumption)
                                        obtain ⟨ad118, e118, hx118_0⟩ := Kd.at_int (Kd.R_reads' HO_3.out).2.2 (ji39) p118 q118
                                        cases e118
                                        replace p118 := eq_true p118
                                        replace q118 := eq_true q118
                                        go_wp2_with (first | ((with_reducible refine gate_builtin (b := .append) (xs := #[.tmp 114, .tmp 116]) rfl ?_); (try (refine gate_guard (by rfl) ?_; dsimp only)); at_builtin; refine Kd.R_append (Kd.int .u8) (w0 := w) w.heap.size rfl (.tmp 114) (.tmp 116) 41 5 (.int .u8 0) 1 rfl Tryd.underlying41 info5 rfl (by decide) (by omega) (.slice (some ad118) x3_1.length co58) x3_1 (bt a0 x5_1) [.int .u8 (bt a0 x5_1)] (fun _ => True) (fun _ => False) rfl rfl ?aP (fun _ hk => hk.elim) ?aF ?aO ?aB ?aS ?aL ?_; (case aP => exact rfl); (case aB => exact (by repeat (first | (with_reducible first | exact HB.out | apply below_alloc | apply pw_below_drewN | apply below_drew1) | exact HB.out))); (case aF => exact (fun _ _ => trivial)); (case aO => exact (by (with_reducible repeat (first | apply Kd.R_alloc | apply Kd.R_drewN | apply Kd.R_drew)); exact HO_3.out)); (case aS => exact (below_size (by repeat (first | (with_reducible first | exact HB.out | apply below_alloc | apply pw_below_drewN | apply below_drew1) | exact HB.out)))); (case aL => have := LMc57.out; omega); intro v126 w59 ho hb hg hat; rw [← Ny125.out] at ho; have n0_ := Aside0.mk (hb); have n1_ := Aside0.mk (ho); clear HB; clear HO_3; have HB := n0_; have HO127 := n1_; clear n0_ n1_; clear ho hb hg hat))
                                        go_roundg kj19
                                        case measure => have := HK1.out; have := HJ4.out; have := HJ19.out; omega
                                        case rel => exact ⟨(y125), (false), (wrap64 (x5_1 + 1)), (by first | rfl | (simp; done) | (simp [*]; done) | (simp [bne, *]; done)), (by first | rfl | (simp; done) | (simp [*]; done) | (simp [bne, *]; done)), H', ⟨by have := HK1.out; have := HJ4.out; have := HJ19.out; omega⟩, ⟨by (with_reducible repeat (first | apply Kd.R_alloc | apply Kd.R_drewN | apply Kd.R_drew)); exact HO127.out⟩, ⟨by repeat (first | (with_reducible first | exact HB.out | apply below_alloc | apply pw_below_drewN | apply below_drew1) | exact HB.out)⟩⟩
                                      · rw [if_neg c57] at H
                                        exact absurd H (by simp)
                                  · rw [if_neg c42] at H
                                    have c42b0 : ((rd x3_1 (ji39)) == 123) = false := beq_eq_false_iff_ne.mpr c42
                                    have c42b1 : ((rd x3_1 (ji39)) != 123) = true := bne_iff_ne.mpr c42
                                    by_cases c60 : x3_1.length < 140737488355328
                                    · rw [if_pos c60] at H
                                      have LMc60 := Aside0.mk c60
                                      clear c60
                                      obtain ⟨y128, hy128⟩ : ∃ y_ : List Int, y_ = (x3_1 ++ [(bt a0 x5_1)]) := ⟨_, rfl⟩
                                      replace H : (postbaglaw3_plain.l0 kj19 a0 y128 false (wrap64 (x5_1 + 1))) = some r := by first | (rw [hy128]; with_reducible exact H) | (have H2_ := (Option.bind_some _ _).symm.trans H; rw [hy128]; with_reducible exact H2_) | (have H2_ := (Option.bind_some _ _).symm.trans H; with_reducible exact H2_) | with_reducible exact H | (rw [hy128]; exact H) | exact H
                                      have Ny128 := Aside0.mk hy128
                                      clear hy128
                                      have H' := Aside0.mk H
                                      clear H
                                      obtain ⟨Ao61, co61, eo61⟩ := Kd.R_slice HO_3.out
                                      subst eo61
                                      have p118 : 0 ≤ ((ji39) : Int) := of_decide_eq_true (by first | (with_reducible assumption) | assumption)
                                      have q118 : (ji39) < (x3_1.length : Int) := of_decide_eq_true (by first | (with_reducible assumption) | assumption)
                                      obtain ⟨ad118, e118, hx118_0⟩ := Kd.at_int (Kd.R_reads' HO_3.out).2.2 (ji39) p118 q118
                                      cases e118
                                      replace p118 := eq_true p118
                                      replace q118 := eq_true q118
                                      go_wp2_with (first | ((with_reducible refine gate_builtin (b := .append) (xs := #[.tmp 114, .tmp 116]) rfl ?_); (try (refine gate_guard (by rfl) ?_; dsimp only)); at_builtin; refine Kd.R_append (Kd.int .u8) (w0 := w) w.heap.size rfl (.tmp 114) (.tmp 116) 41 5 (.int .u8 0) 1 rfl Tryd.underlying41 info5 rfl (by decide) (by omega) (.slice (some ad118) x3_1.length co61) x3_1 (bt a0 x5_1) [.int .u8 (bt a0 x5_1)] (fun _ => True) (fun _ => False) rfl rfl ?aP (fun _ hk => hk.elim) ?aF ?aO ?aB ?aS ?aL ?_; (case aP => exact rfl); (case aB => exact (by repeat (first | (with_reducible first | exact HB.out | apply below_alloc | apply pw_below_drewN | apply below_drew1) | exact HB.out))); (case aF => exact (fun _ _ => trivial)); (case aO => exact (by (with_reducible repeat (first | apply Kd.R_alloc | apply Kd.R_drewN | apply Kd.R_drew)); exact HO_3.out)); (case aS => exact (below_size (by repeat (first | (with_reducible first | exact HB.out | apply below_alloc | apply pw_below_drewN | apply below_drew1) | exact HB.out)))); (case aL => have := LMc60.out; omega); intro v129 w62 ho hb hg hat; rw [← Ny128.out] at ho; have n0_ := Aside0.mk (hb); have n1_ := Aside0.mk (ho); clear HB; clear HO_3; have HB := n0_; have HO130 := n1_; clear n0_ n1_; clear ho hb hg hat))
                                      go_roundg kj19
                                      case measure => have := HK1.out; have := HJ4.out; have := HJ19.out; omega
                                      case rel => exact ⟨(y128), (false), (wrap64 (x5_1 + 1)), (by first | rfl | (simp; done) | (simp [*]; done) | (simp [bne, *]; done)), (by first | rfl | (simp; done) | (simp [*]; done) | (simp [bne, *]; done)), H', ⟨by have := HK1.out; have := HJ4.out; have := HJ19.out; omega⟩, ⟨by (with_reducible repeat (first | apply Kd.R_alloc | apply Kd.R_drewN | apply Kd.R_drew)); exact HO130.out⟩, ⟨by repeat (first | (with_reducible first | exact HB.out | apply below_alloc | apply pw_below_drewN | apply below_drew1) | exact HB.out)⟩⟩
                                    · rw [if_neg c60] at H
                                      exact absurd H (by simp)
                                · rw [if_neg c41] at H
                                  exact absurd H (by simp)
                              · rw [if_neg c40] at H
                                exact absurd H (by simp)
                            · rw [if_neg c38] at H
                              have c38b0 : decide (0 < (x3_1.length : Int)) = false := decide_eq_false c38
                              have c38b1 : decide (0 < x3_1.length) = false := decide_eq_false (by omega)
                              clear c38
                              by_cases c63 : x3_1.length < 140737488355328
                              · rw [if_pos c63] at H
                                have LMc63 := Aside0.mk c63
                                clear c63
                                obtain ⟨y131, hy131⟩ : ∃ y_ : List Int, y_ = (x3_1 ++ [(bt a0 x5_1)]) := ⟨_, rfl⟩
                                replace H : (postbaglaw3_plain.l0 kj19 a0 y131 false (wrap64 (x5_1 + 1))) = some r := by first | (rw [hy131]; with_reducible exact H) | (have H2_ := (Option.bind_some _ _).symm.trans H; rw [hy131]; with_reducible exact H2_) | (have H2_ := (Option.bind_some _ _).symm.trans H; with_reducible exact H2_) | with_reducible exact H | (rw [hy131]; exact H) | exact H
                                have Ny131 := Aside0.mk hy131
                                clear hy131
                                have H' := Aside0.mk H
                                clear H
                                obtain ⟨Ao64, co64, eo64⟩ := Kd.R_slice HO_3.out
                                subst eo64
                                go_wp2_with (first | ((with_reducible refine gate_builtin (b := .append) (xs := #[.tmp 114, .tmp 116]) rfl ?_); (try (refine gate_guard (by rfl) ?_; dsimp only)); at_builtin; refine Kd.R_append (Kd.int .u8) (w0 := w) w.heap.size rfl (.tmp 114) (.tmp 116) 41 5 (.int .u8 0) 1 rfl Tryd.underlying41 info5 rfl (by decide) (by omega) (.slice Ao64 x3_1.length co64) x3_1 (bt a0 x5_1) [.int .u8 (bt a0 x5_1)] (fun _ => True) (fun _ => False) rfl rfl ?aP (fun _ hk => hk.elim) ?aF ?aO ?aB ?aS ?aL ?_; (case aP => exact rfl); (case aB => exact (by repeat (first | (with_reducible first | exact HB.out | apply below_alloc | apply pw_below_drewN | apply below_drew1) | exact HB.out))); (case aF => exact (fun _ _ => trivial)); (case aO => exact (by (with_reducible repeat (first | apply Kd.R_alloc | apply Kd.R_drewN | apply Kd.R_drew)); exact HO_3.out)); (case aS => exact (below_size (by repeat (first | (with_reducible first | exact HB.out | apply below_alloc | apply pw_below_drewN | apply below_drew1) | exact HB.out)))); (case aL => have := LMc63.out; omega); intro v132 w65 ho hb hg hat; rw [← Ny131.out] at ho; have n0_ := Aside0.mk (hb); have n1_ := Aside0.mk (ho); clear HB; clear HO_3; have HB := n0_; have HO133 := n1_; clear n0_ n1_; clear ho hb hg hat))
                                go_roundg kj19
                                case measure => have := HK1.out; have := HJ4.out; have := HJ19.out; omega
                                case rel => exact ⟨(y131), (false), (wrap64 (x5_1 + 1)), (by first | rfl | (simp; done) | (simp [*]; done) | (simp [bne, *]; done)), (by first | rfl | (simp; done) | (simp [*]; done) | (simp [bne, *]; done)), H', ⟨by have := HK1.out; have := HJ4.out; have := HJ19.out; omega⟩, ⟨by (with_reducible repeat (first | apply Kd.R_alloc | apply Kd.R_drewN | apply Kd.R_drew)); exact HO133.out⟩, ⟨by repeat (first | (with_reducible first | exact HB.out | apply below_alloc | apply pw_below_drewN | apply below_drew1) | exact HB.out)⟩⟩
                              · rw [if_neg c63] at H
                                exact absurd H (by simp)
                          · rw [if_neg c37] at H
                            have c37b0 : ((bt a0 x5_1) == 48) = false := beq_eq_false_iff_ne.mpr c37
                            have c37b1 : ((bt a0 x5_1) != 48) = true := bne_iff_ne.mpr c37
                            by_cases c66 : x3_1.length < 140737488355328
                            · rw [if_pos c66] at H
                              have LMc66 := Aside0.mk c66
                              clear c66
                              obtain ⟨y134, hy134⟩ : ∃ y_ : List Int, y_ = (x3_1 ++ [(bt a0 x5_1)]) := ⟨_, rfl⟩
                              replace H : (postbaglaw3_plain.l0 kj19 a0 y134 false (wrap64 (x5_1 + 1))) = some r := by first | (rw [hy134]; with_reducible exact H) | (have H2_ := (Option.bind_some _ _).symm.trans H; rw [hy134]; with_reducible exact H2_) | (have H2_ := (Option.bind_some _ _).symm.trans H; with_reducible exact H2_) | with_reducible exact H | (rw [hy134]; exact H) | exact H
                              have Ny134 := Aside0.mk hy134
                              clear hy134
                              have H' := Aside0.mk H
                              clear H
                              go_wp2_with (first | ((with_reducible refine gate_builtin (b := .append) (xs := #[.tmp 114, .tmp 116]) rfl ?_); (try (refine gate_guard (by rfl) ?_; dsimp only)); at_builtin; refine Kd.R_append (Kd.int .u8) (w0 := w) w.heap.size rfl (.tmp 114) (.tmp 116) 41 5 (.int .u8 0) 1 rfl Tryd.underlying41 info5 rfl (by decide) (by omega) u3 x3_1 (bt a0 x5_1) [.int .u8 (bt a0 x5_1)] (fun _ => True) (fun _ => False) rfl rfl ?aP (fun _ hk => hk.elim) ?aF ?aO ?aB ?aS ?aL ?_; (case aP => exact rfl); (case aB => exact (by repeat (first | (with_reducible first | exact HB.out | apply below_alloc | apply pw_below_drewN | apply below_drew1) | exact HB.out))); (case aF => exact (fun _ _ => trivial)); (case aO => exact (by (with_reducible repeat (first | apply Kd.R_alloc | apply Kd.R_drewN | apply Kd.R_drew)); exact HO_3.out)); (case aS => exact (below_size (by repeat (first | (with_reducible first | exact HB.out | apply below_alloc | apply pw_below_drewN | apply below_drew1) | exact HB.out)))); (case aL => have := LMc66.out; omega); intro v135 w67 ho hb hg hat; rw [← Ny134.out] at ho; have n0_ := Aside0.mk (hb); have n1_ := Aside0.mk (ho); clear HB; clear HO_3; have HB := n0_; have HO136 := n1_; clear n0_ n1_; clear ho hb hg hat))
                              go_roundg kj19
                              case measure => have := HK1.out; have := HJ4.out; have := HJ19.out; omega
                              case rel => exact ⟨(y134), (false), (wrap64 (x5_1 + 1)), (by first | rfl | (simp; done) | (simp [*]; done) | (simp [bne, *]; done)), (by first | rfl | (simp; done) | (simp [*]; done) | (simp [bne, *]; done)), H', ⟨by have := HK1.out; have := HJ4.out; have := HJ19.out; omega⟩, ⟨by (with_reducible repeat (first | apply Kd.R_alloc | apply Kd.R_drewN | apply Kd.R_drew)); exact HO136.out⟩, ⟨by repeat (first | (with_reducible first | exact HB.out | apply below_alloc | apply pw_below_drewN | apply below_drew1) | exact HB.out)⟩⟩
                            · rw [if_neg c66] at H
                              exact absurd H (by simp)
        · rw [if_neg c3] at H
          exact absurd H (by simp)
      · rw [if_neg c2] at H
        have c2b0 : decide (x5_1 < (a0.size : Int)) = false := decide_eq_false c2
        clear c2
        obtain rfl := Option.some.inj H
        have hcv68 := own_string (P := Tryd.prog) Tryd.underlying41 Tryd.underlying5 Tryd.underlying9 (Kd.own_of_R HO_3.out)
        go_wp2
        go_ret
        exact ⟨by first | rfl | (simp [errW_none, errW_some] <;> rfl) | (simp [*, errW_none, errW_some] <;> rfl), by repeat (first | (with_reducible first | exact HB.out | apply below_alloc | apply pw_below_drewN | apply below_drew1) | exact HB.out)⟩

end Go.Proofs.YtbgcapgjnflmoaaDoor.PLp
