/- Contracts of the functions that the statement reaches, and plain lemmas: PLxx3, PLxx4. -/
import Derived.Test.YtbgcapgjnflmoaaDoorMg1
import Derived.Test.YtbgcapgjnflmoaaDoorMg5
set_option linter.unusedVariables false
set_option linter.unusedSimpArgs false
set_option linter.unnecessarySimpa false
-- Written by xprint.py, a program of this session over the kit's print: not the print's own text.
namespace Go.Proofs.YtbgcapgjnflmoaaDoor.PLx
open Go.RowKit Go.Proofs.YtbgcapgjnflmoaaDoorW.PrintWords Go.Proofs.YtbgcapgjnflmoaaDoorW.PrintLast Go.Proofs.YtbgcapgjnflmoaaDoorW.PrintMore
attribute [local go_sem] max2_int min2_int max_two min_two max_three min_three max_four min_four   -- for this text's walks alone
set_option linter.unusedVariables false
set_option linter.unusedSimpArgs false

/-! ### lex_Announced: function 18 -/
mutual
def lex_Announced.l0 : Nat → ByteArray → Bool → Int → Option (Int × Bool × Bool)
  | 0, _, _, _ => none
  | k + 1, x0, x5, x6 => if x6 < (x0.size : Int) then (if 0 ≤ x6 then (if x5 = true then (lex_Announced.j1 k x0 x5 x6 (bt x0 x6) ((bt x0 x6) == 92)) else (lex_Announced.j1 k x0 x5 x6 (bt x0 x6) false)) else (none)) else (some (0, false, false))
def lex_Announced.j1 : Nat → ByteArray → Bool → Int → Int → Bool → Option (Int × Bool × Bool)
  | 0, _, _, _, _, _ => none
  | k + 1, x0, x5, x6, x7, x23 => if x23 = true then (lex_Announced.l0 k x0 x5 (wrap64 ((wrap64 (x6 + 1)) + 1))) else (if x7 = 34 then (lex_Announced.l0 k x0 (!x5) (wrap64 (x6 + 1))) else (if x5 = true then (lex_Announced.j2 k x0 x5 x6 false) else (lex_Announced.j2 k x0 x5 x6 (x7 == 123))))
def lex_Announced.j2 : Nat → ByteArray → Bool → Int → Bool → Option (Int × Bool × Bool)
  | 0, _, _, _, _ => none
  | k + 1, x0, x5, x6, x36 => if x36 = true then (if 0 ≤ x6 then (if x6 ≤ (x0.size : Int) then ((lex_announcement.f k (x0.extract (x6 : Int).toNat x0.size)).bind fun bt105 => (if bt105.2.2 = (wrap64 ((x0.size : Int) - x6)) then (some (bt105.1, bt105.2.1, true)) else (lex_Announced.l0 k x0 x5 (wrap64 (x6 + 1))))) else (none)) else (none)) else (lex_Announced.l0 k x0 x5 (wrap64 (x6 + 1)))
end
def lex_Announced.f (k : Nat) (a0 : ByteArray) : Option (Int × Bool × Bool) := (strings_HasSuffix.f a0 (⟨#[125]⟩ : ByteArray)).bind fun t104 => (if t104 = true then (lex_Announced.l0 k a0 false 0) else (some (0, false, false)))
theorem lex_Announced.mono_l : ∀ k, (∀ y0 y1 y2, LeO (lex_Announced.l0 k y0 y1 y2) (lex_Announced.l0 (k + 1) y0 y1 y2)) ∧ (∀ y0 y1 y2 y3 y4, LeO (lex_Announced.j1 k y0 y1 y2 y3 y4) (lex_Announced.j1 (k + 1) y0 y1 y2 y3 y4)) ∧ (∀ y0 y1 y2 y3, LeO (lex_Announced.j2 k y0 y1 y2 y3) (lex_Announced.j2 (k + 1) y0 y1 y2 y3))
  | 0 => ⟨fun _ _ _ r h => by simp [lex_Announced.l0] at h, fun _ _ _ _ _ r h => by simp [lex_Announced.j1] at h, fun _ _ _ _ r h => by simp [lex_Announced.j2] at h⟩
  | k + 1 => by
    obtain ⟨ih0, ih1, ih2⟩ := lex_Announced.mono_l k
    refine ⟨?_, ?_, ?_⟩
    · intro y0 y1 y2
      unfold lex_Announced.l0
      repeat' first
      | (with_reducible exact ih0 _ _ _)
      | (with_reducible exact ih1 _ _ _ _ _)
      | (with_reducible exact ih2 _ _ _ _)
      | (with_reducible exact lex_announcement.mono _ _)
      | (with_reducible exact LeO.refl _)
      | (with_reducible exact LeO.none _)
      | (with_reducible refine LeO.ite ?_ ?_)
      | (with_reducible refine LeO.bind ?_ (fun _ => ?_))
      | exact ih0 _ _ _
      | exact ih1 _ _ _ _ _
      | exact ih2 _ _ _ _
      | exact lex_announcement.mono _ _
      | exact LeO.none _
      | refine LeO.ite ?_ ?_
      | refine LeO.bind ?_ (fun _ => ?_)
    · intro y0 y1 y2 y3 y4
      unfold lex_Announced.j1
      repeat' first
      | (with_reducible exact ih0 _ _ _)
      | (with_reducible exact ih1 _ _ _ _ _)
      | (with_reducible exact ih2 _ _ _ _)
      | (with_reducible exact lex_announcement.mono _ _)
      | (with_reducible exact LeO.refl _)
      | (with_reducible exact LeO.none _)
      | (with_reducible refine LeO.ite ?_ ?_)
      | (with_reducible refine LeO.bind ?_ (fun _ => ?_))
      | exact ih0 _ _ _
      | exact ih1 _ _ _ _ _
      | exact ih2 _ _ _ _
      | exact lex_announcement.mono _ _
      | exact LeO.none _
      | refine LeO.ite ?_ ?_
      | refine LeO.bind ?_ (fun _ => ?_)
    · intro y0 y1 y2 y3
      unfold lex_Announced.j2
      repeat' first
      | (with_reducible exact ih0 _ _ _)
      | (with_reducible exact ih1 _ _ _ _ _)
      | (with_reducible exact ih2 _ _ _ _)
      | (with_reducible exact lex_announcement.mono _ _)
      | (with_reducible exact LeO.refl _)
      | (with_reducible exact LeO.none _)
      | (with_reducible refine LeO.ite ?_ ?_)
      | (with_reducible refine LeO.bind ?_ (fun _ => ?_))
      | exact ih0 _ _ _
      | exact ih1 _ _ _ _ _
      | exact ih2 _ _ _ _
      | exact lex_announcement.mono _ _
      | exact LeO.none _
      | refine LeO.ite ?_ ?_
      | refine LeO.bind ?_ (fun _ => ?_)
theorem lex_Announced.mono : ∀ a0 k, LeO (lex_Announced.f k a0) (lex_Announced.f (k + 1) a0) := by
  intro a0 k
  obtain ⟨ih0, ih1, ih2⟩ := lex_Announced.mono_l k
  unfold lex_Announced.f
  repeat' first
      | (with_reducible exact ih0 _ _ _)
      | (with_reducible exact ih1 _ _ _ _ _)
      | (with_reducible exact ih2 _ _ _ _)
      | (with_reducible exact lex_announcement.mono _ _)
      | (with_reducible exact LeO.refl _)
      | (with_reducible exact LeO.none _)
      | (with_reducible refine LeO.ite ?_ ?_)
      | (with_reducible refine LeO.bind ?_ (fun _ => ?_))
      | exact ih0 _ _ _
      | exact ih1 _ _ _ _ _
      | exact ih2 _ _ _ _
      | exact lex_announcement.mono _ _
      | exact LeO.none _
      | refine LeO.ite ?_ ?_
      | refine LeO.bind ?_ (fun _ => ?_)
set_option maxHeartbeats 8000000 in
set_option maxRecDepth 100000 in
theorem lex_Announced.calls (k : Nat) (a0 : ByteArray) (r1 : Int) (r2 : Bool) (r3 : Bool) (w : World) (h : lex_Announced.f k a0 = some (r1, r2, r3)) :
    Calls Tryd.prog 18 #[.string a0] w fun e w' => e = .returned (.tuple #[.int .i64 r1, .bool r2, .bool r3]) ∧ Below w.heap.size w w' := by
  have HB := Aside0.mk (Below.refl w.heap.size w)
  have H : ((strings_HasSuffix.f a0 (⟨#[125]⟩ : ByteArray)).bind fun t104 => (if t104 = true then (lex_Announced.l0 k a0 false 0) else (some (0, false, false)))) = some (r1, r2, r3) := h
  clear h
  replace H := Option.bind_eq_some_iff.mp H
  obtain ⟨t104, A20, H⟩ := H
  replace H : (if t104 = true then (lex_Announced.l0 k a0 false 0) else (some (0, false, false))) = some (r1, r2, r3) := H
  have A2 := Aside0.mk A20
  clear A20
  by_cases c3 : t104 = true
  · subst c3
    have H1 : (lex_Announced.l0 k a0 false 0) = some (r1, r2, r3) := by rw [if_pos rfl] at H; exact H
    clear H
    have H := H1
    clear H1
    have H' := Aside0.mk H
    clear H
    go_enter Tryd.func18, Tryd.ntmps18
    go_wp2_with (first | ((with_reducible refine gate_callee (f := 31) rfl ?_); refine goesL_ (some 12) rfl rfl Tryd.func31 (by kernel_rfl) rfl #[.string a0, .string (⟨#[125]⟩ : ByteArray)] rfl (by (try simp only [List.map_toArray, List.map_cons, List.map_nil]); first | done | rfl | (simp only [List.length_drop, List.length_take]; rfl)) ?_; (with_reducible refine (strings_HasSuffix.calls a0 (⟨#[125]⟩ : ByteArray) true _ A2.out).mono ?_); rintro e w' ⟨rfl, ⟨nd, rfl⟩⟩; refine ⟨_, rfl, ?_⟩))
    go_loopg [5, 6] k (fun kq v5 v6 w' => ∃ (x5_1 : Bool) (x6_1 : Int), v5 = .bool x5_1 ∧ v6 = .int .i64 x6_1 ∧ Aside0 (lex_Announced.l0 kq a0 x5_1 x6_1 = some (r1, r2, r3)) ∧ Aside0 (kq ≤ k) ∧ Aside0 (Below w.heap.size w w'))
    case atStart => exact ⟨(false), (0), (by first | rfl | (simp; done) | (simp [*]; done) | (simp [bne, *]; done)), (by first | rfl | (simp; done) | (simp [*]; done) | (simp [bne, *]; done)), H', ⟨Nat.le_refl _⟩, ⟨by repeat (first | (with_reducible first | exact HB.out | apply below_alloc | apply pw_below_drewN | apply below_drew1) | exact HB.out)⟩⟩
    case round =>
      clear H'
      try clear c1
      try clear p2
      try clear c3
      obtain ⟨x5_1, x6_1, rfl, rfl, HA, HK1, HB⟩ := hrel
      cases gk with
      | zero => exact absurd HA.out (by simp [lex_Announced.l0])
      | succ k1 =>
        have H := HA.out
        clear HA
        simp only [lex_Announced.l0] at H
        by_cases c4 : x6_1 < (a0.size : Int)
        · rw [if_pos c4] at H
          have c4b0 : decide (x6_1 < (a0.size : Int)) = true := decide_eq_true c4
          clear c4
          by_cases c5 : 0 ≤ x6_1
          · rw [if_pos c5] at H
            have c5b0 : decide (0 ≤ x6_1) = true := decide_eq_true c5
            clear c5
            have HC7 := Aside0.mk H
            clear H
            have p6 : 0 ≤ (x6_1 : Int) := of_decide_eq_true (by first | (with_reducible assumption) | assumption)
            have q6 : x6_1 < (a0.size : Int) := of_decide_eq_true (by first | (with_reducible assumption) | assumption)
            have hx6 := bt_at a0 x6_1
            replace p6 := eq_true p6
            replace q6 := eq_true q6
            go_upto_region 8 with (fail)
            go_cut [23] (fun v23 wc => ∃ (kq : Nat) (x23_6 : Bool), v23 = .bool x23_6 ∧ Aside0 (lex_Announced.j1 kq a0 x5_1 x6_1 (bt a0 x6_1) x23_6 = some (r1, r2, r3)) ∧ Aside0 (kq ≤ k1) ∧ Aside0 (Below w.heap.size w wc))
            case first =>
              have H := HC7.out
              clear HC7
              by_cases c8 : x5_1 = true
              · subst c8
                have H1 : (lex_Announced.j1 k1 a0 true x6_1 (bt a0 x6_1) ((bt a0 x6_1) == 92)) = some (r1, r2, r3) := by rw [if_pos rfl] at H; exact H
                clear H
                have H := H1
                clear H1
                have H' := Aside0.mk H
                clear H
                go_wp2
                go_meet
                case rel => exact ⟨_, (((bt a0 x6_1) == 92)), (by first | rfl | (simp; done) | (simp [*]; done) | (simp [bne, *]; done)), H', ⟨by have := HK1.out; first | omega | exact Nat.le_refl _⟩, ⟨by repeat (first | (with_reducible first | exact HB.out | apply below_alloc | apply pw_below_drewN | apply below_drew1) | exact HB.out)⟩⟩
              · replace c8 := Bool.eq_false_iff.mpr c8
                subst c8
                have H1 : (lex_Announced.j1 k1 a0 false x6_1 (bt a0 x6_1) false) = some (r1, r2, r3) := by rw [if_neg (show ¬ (false = true) by decide)] at H; exact H
                clear H
                have H := H1
                clear H1
                have H' := Aside0.mk H
                clear H
                go_wp2
                go_meet
                case rel => exact ⟨_, (false), (by first | rfl | (simp; done) | (simp [*]; done) | (simp [bne, *]; done)), H', ⟨by have := HK1.out; first | omega | exact Nat.le_refl _⟩, ⟨by repeat (first | (with_reducible first | exact HB.out | apply below_alloc | apply pw_below_drewN | apply below_drew1) | exact HB.out)⟩⟩
            case rest =>
              clear HC7
              try clear c1
              try clear p2
              try clear c3
              try clear c4
              try clear c4b0
              try clear c5
              try clear c5b0
              try clear p6
              try clear q6
              try clear hx6
              try clear c8
              try clear p2
              try clear p6
              try clear q6
              obtain ⟨kq, x23_6, rfl, HA, HJ6, HB⟩ := hcut
              cases kq with
              | zero => exact absurd HA.out (by simp [lex_Announced.j1])
              | succ kj6 =>
                have H := HA.out
                clear HA
                simp only [lex_Announced.j1] at H
                by_cases c9 : x23_6 = true
                · subst c9
                  have H1 : (lex_Announced.l0 kj6 a0 x5_1 (wrap64 ((wrap64 (x6_1 + 1)) + 1))) = some (r1, r2, r3) := by rw [if_pos rfl] at H; exact H
                  clear H
                  have H := H1
                  clear H1
                  have H' := Aside0.mk H
                  clear H
                  go_wp2
                  go_roundg kj6
                  case measure => have := HK1.out; have := HJ6.out; omega
                  case rel => exact ⟨(x5_1), (wrap64 ((wrap64 (x6_1 + 1)) + 1)), (by first | rfl | (simp; done) | (simp [*]; done) | (simp [bne, *]; done)), (by first | rfl | (simp; done) | (simp [*]; done) | (simp [bne, *]; done)), H', ⟨by have := HK1.out; have := HJ6.out; omega⟩, ⟨by repeat (first | (with_reducible first | exact HB.out | apply below_alloc | apply pw_below_drewN | apply below_drew1) | exact HB.out)⟩⟩
                · replace c9 := Bool.eq_false_iff.mpr c9
                  subst c9
                  have H1 : (if (bt a0 x6_1) = 34 then (lex_Announced.l0 kj6 a0 (!x5_1) (wrap64 (x6_1 + 1))) else (if x5_1 = true then (lex_Announced.j2 kj6 a0 x5_1 x6_1 false) else (lex_Announced.j2 kj6 a0 x5_1 x6_1 ((bt a0 x6_1) == 123)))) = some (r1, r2, r3) := by rw [if_neg (show ¬ (false = true) by decide)] at H; exact H
                  clear H
                  have H := H1
                  clear H1
                  by_cases c10 : (bt a0 x6_1) = 34
                  · rw [if_pos c10] at H
                    have c10b0 : ((bt a0 x6_1) == 34) = true := beq_iff_eq.mpr c10
                    have c10b1 : ((bt a0 x6_1) != 34) = false := bne_eq_false_iff_eq.mpr c10
                    clear c10
                    have H' := Aside0.mk H
                    clear H
                    go_wp2
                    go_roundg kj6
                    case measure => have := HK1.out; have := HJ6.out; omega
                    case rel => exact ⟨(!x5_1), (wrap64 (x6_1 + 1)), (by first | rfl | (simp; done) | (simp [*]; done) | (simp [bne, *]; done)), (by first | rfl | (simp; done) | (simp [*]; done) | (simp [bne, *]; done)), H', ⟨by have := HK1.out; have := HJ6.out; omega⟩, ⟨by repeat (first | (with_reducible first | exact HB.out | apply below_alloc | apply pw_below_drewN | apply below_drew1) | exact HB.out)⟩⟩
                  · rw [if_neg c10] at H
                    have c10b0 : ((bt a0 x6_1) == 34) = false := beq_eq_false_iff_ne.mpr c10
                    have c10b1 : ((bt a0 x6_1) != 34) = true := bne_iff_ne.mpr c10
                    have HC11 := Aside0.mk H
                    clear H
                    go_upto_region 12 with (fail)
                    go_cut [36] (fun v36 wc => ∃ (kq : Nat) (x36_10 : Bool), v36 = .bool x36_10 ∧ Aside0 (lex_Announced.j2 kq a0 x5_1 x6_1 x36_10 = some (r1, r2, r3)) ∧ Aside0 (kq ≤ kj6) ∧ Aside0 (Below w.heap.size w wc))
                    case first =>
                      have H := HC11.out
                      clear HC11
                      by_cases c12 : x5_1 = true
                      · subst c12
                        have H1 : (lex_Announced.j2 kj6 a0 true x6_1 false) = some (r1, r2, r3) := by rw [if_pos rfl] at H; exact H
                        clear H
                        have H := H1
                        clear H1
                        have H' := Aside0.mk H
                        clear H
                        go_wp2
                        go_meet
                        case rel => exact ⟨_, (false), (by first | rfl | (simp; done) | (simp [*]; done) | (simp [bne, *]; done)), H', ⟨by have := HK1.out; have := HJ6.out; first | omega | exact Nat.le_refl _⟩, ⟨by repeat (first | (with_reducible first | exact HB.out | apply below_alloc | apply pw_below_drewN | apply below_drew1) | exact HB.out)⟩⟩
                      · replace c12 := Bool.eq_false_iff.mpr c12
                        subst c12
                        have H1 : (lex_Announced.j2 kj6 a0 false x6_1 ((bt a0 x6_1) == 123)) = some (r1, r2, r3) := by rw [if_neg (show ¬ (false = true) by decide)] at H; exact H
                        clear H
                        have H := H1
                        clear H1
                        have H' := Aside0.mk H
                        clear H
                        go_wp2
                        go_meet
                        case rel => exact ⟨_, (((bt a0 x6_1) == 123)), (by first | rfl | (simp; done) | (simp [*]; done) | (simp [bne, *]; done)), H', ⟨by have := HK1.out; have := HJ6.out; first | omega | exact Nat.le_refl _⟩, ⟨by repeat (first | (with_reducible first | exact HB.out | apply below_alloc | apply pw_below_drewN | apply below_drew1) | exact HB.out)⟩⟩
                    case rest =>
                      clear HC11
                      try clear c1
                      try clear p2
                      try clear c3
                      try clear c4
                      try clear c4b0
                      try clear c5
                      try clear c5b0
                      try clear p6
                      try clear q6
                      try clear hx6
                      try clear c8
                      try clear c9
                      try clear c10
                      try clear c10b0
                      try clear c10b1
                      try clear c12
                      try clear p2
                      try clear p6
                      try clear q6
                      obtain ⟨kq, x36_10, rfl, HA, HJ10, HB⟩ := hcut
                      cases kq with
                      | zero => exact absurd HA.out (by simp [lex_Announced.j2])
                      | succ kj10 =>
                        have H := HA.out
                        clear HA
                        simp only [lex_Announced.j2] at H
                        by_cases c13 : x36_10 = true
                        · subst c13
                          have H1 : (if 0 ≤ x6_1 then (if x6_1 ≤ (a0.size : Int) then ((lex_announcement.f kj10 (a0.extract (x6_1 : Int).toNat a0.size)).bind fun bt105 => (if bt105.2.2 = (wrap64 ((a0.size : Int) - x6_1)) then (some (bt105.1, bt105.2.1, true)) else (lex_Announced.l0 kj10 a0 x5_1 (wrap64 (x6_1 + 1))))) else (none)) else (none)) = some (r1, r2, r3) := by rw [if_pos rfl] at H; exact H
                          clear H
                          have H := H1
                          clear H1
                          by_cases c14 : 0 ≤ x6_1
                          · rw [if_pos c14] at H
                            have c14b0 := eq_true c14
                            have c14b1 : decide (0 ≤ x6_1) = true := decide_eq_true c14
                            clear c14
                            by_cases c15 : x6_1 ≤ (a0.size : Int)
                            · rw [if_pos c15] at H
                              have c15b0 := eq_true c15
                              have c15b1 : decide (x6_1 ≤ (a0.size : Int)) = true := decide_eq_true c15
                              clear c15
                              replace H := Option.bind_eq_some_iff.mp H
                              obtain ⟨⟨t105, t106, t107⟩, A160, H⟩ := H
                              replace H : (if t107 = (wrap64 ((a0.size : Int) - x6_1)) then (some (t105, t106, true)) else (lex_Announced.l0 kj10 a0 x5_1 (wrap64 (x6_1 + 1)))) = some (r1, r2, r3) := H
                              have A16 := Aside0.mk A160
                              clear A160
                              by_cases c17 : t107 = (wrap64 ((a0.size : Int) - x6_1))
                              · rw [if_pos c17] at H
                                have c17b0 : (t107 == (wrap64 ((a0.size : Int) - x6_1))) = true := beq_iff_eq.mpr c17
                                have c17b1 : (t107 != (wrap64 ((a0.size : Int) - x6_1))) = false := bne_eq_false_iff_eq.mpr c17
                                clear c17
                                simp only [Option.some.injEq, Prod.mk.injEq] at H
                                obtain ⟨rfl, rfl, rfl⟩ := H
                                go_wp2_with (first | ((with_reducible refine gate_callee (f := 32) rfl ?_); refine goesL_ (some 47) rfl rfl Tryd.func32 (by kernel_rfl) rfl #[.string (a0.extract (x6_1 : Int).toNat a0.size)] rfl (by (try simp only [List.map_toArray, List.map_cons, List.map_nil]); first | done | rfl | (simp only [List.length_drop, List.length_take]; rfl)) ?_; (with_reducible refine (lex_announcement.calls kj10 (a0.extract (x6_1 : Int).toNat a0.size) t105 t106 t107 _ A16.out).mono ?_); rintro e w18 ⟨rfl, hb⟩; refine ⟨_, rfl, ?_⟩; have n0_ := Aside0.mk (below_step (by repeat (first | (with_reducible first | exact HB.out | apply below_alloc | apply pw_below_drewN | apply below_drew1) | exact HB.out)) hb); clear HB; have HB := n0_; clear n0_; (try clear hb); (try clear hb2); (try clear hk); (try clear hi)))
                                go_ret3
                                exact ⟨by first | rfl | (simp [errW_none, errW_some] <;> rfl) | (simp [*, errW_none, errW_some] <;> rfl), by repeat (first | (with_reducible first | exact HB.out | apply below_alloc | apply pw_below_drewN | apply below_drew1) | exact HB.out)⟩
                              · rw [if_neg c17] at H
                                have c17b0 : (t107 == (wrap64 ((a0.size : Int) - x6_1))) = false := beq_eq_false_iff_ne.mpr c17
                                have c17b1 : (t107 != (wrap64 ((a0.size : Int) - x6_1))) = true := bne_iff_ne.mpr c17
                                have H' := Aside0.mk H
                                clear H
                                go_wp2_with (first | ((with_reducible refine gate_callee (f := 32) rfl ?_); refine goesL_ (some 47) rfl rfl Tryd.func32 (by kernel_rfl) rfl #[.string (a0.extract (x6_1 : Int).toNat a0.size)] rfl (by (try simp only [List.map_toArray, List.map_cons, List.map_nil]); first | done | rfl | (simp only [List.length_drop, List.length_take]; rfl)) ?_; (with_reducible refine (lex_announcement.calls kj10 (a0.extract (x6_1 : Int).toNat a0.size) t105 t106 t107 _ A16.out).mono ?_); rintro e w19 ⟨rfl, hb⟩; refine ⟨_, rfl, ?_⟩; have n0_ := Aside0.mk (below_step (by repeat (first | (with_reducible first | exact HB.out | apply below_alloc | apply pw_below_drewN | apply below_drew1) | exact HB.out)) hb); clear HB; have HB := n0_; clear n0_; (try clear hb); (try clear hb2); (try clear hk); (try clear hi)))
                                go_roundg kj10
                                case measure => have := HK1.out; have := HJ6.out; have := HJ10.out; omega
                                case rel => exact ⟨(x5_1), (wrap64 (x6_1 + 1)), (by first | rfl | (simp; done) | (simp [*]; done) | (simp [bne, *]; done)), (by first | rfl | (simp; done) | (simp [*]; done) | (simp [bne, *]; done)), H', ⟨by have := HK1.out; have := HJ6.out; have := HJ10.out; omega⟩, ⟨by repeat (first | (with_reducible first | exact HB.out | apply below_alloc | apply pw_below_drewN | apply below_drew1) | exact HB.out)⟩⟩
                            · rw [if_neg c15] at H
                              exact absurd H (by simp)
                          · rw [if_neg c14] at H
                            exact absurd H (by simp)
                        · replace c13 := Bool.eq_false_iff.mpr c13
                          subst c13
                          have H1 : (lex_Announced.l0 kj10 a0 x5_1 (wrap64 (x6_1 + 1))) = some (r1, r2, r3) := by rw [if_neg (show ¬ (false = true) by decide)] at H; exact H
                          clear H
                          have H := H1
                          clear H1
                          have H' := Aside0.mk H
                          clear H
                          go_wp2
                          go_roundg kj10
                          case measure => have := HK1.out; have := HJ6.out; have := HJ10.out; omega
                          case rel => exact ⟨(x5_1), (wrap64 (x6_1 + 1)), (by first | rfl | (simp; done) | (simp [*]; done) | (simp [bne, *]; done)), (by first | rfl | (simp; done) | (simp [*]; done) | (simp [bne, *]; done)), H', ⟨by have := HK1.out; have := HJ6.out; have := HJ10.out; omega⟩, ⟨by repeat (first | (with_reducible first | exact HB.out | apply below_alloc | apply pw_below_drewN | apply below_drew1) | exact HB.out)⟩⟩
          · rw [if_neg c5] at H
            exact absurd H (by simp)
        · rw [if_neg c4] at H
          have c4b0 : decide (x6_1 < (a0.size : Int)) = false := decide_eq_false c4
          clear c4
          simp only [Option.some.injEq, Prod.mk.injEq] at H
          obtain ⟨rfl, rfl, rfl⟩ := H
          go_wp2
          go_ret3
          exact ⟨by first | rfl | (simp [errW_none, errW_some] <;> rfl) | (simp [*, errW_none, errW_some] <;> rfl), by repeat (first | (with_reducible first | exact HB.out | apply below_alloc | apply pw_below_drewN | apply below_drew1) | exact HB.out)⟩
  · replace c3 := Bool.eq_false_iff.mpr c3
    subst c3
    have H1 : (some (0, false, false)) = some (r1, r2, r3) := by rw [if_neg (show ¬ (false = true) by decide)] at H; exact H
    clear H
    have H := H1
    clear H1
    simp only [Option.some.injEq, Prod.mk.injEq] at H
    obtain ⟨rfl, rfl, rfl⟩ := H
    go_enter Tryd.func18, Tryd.ntmps18
    go_wp2_with (first | ((with_reducible refine gate_callee (f := 31) rfl ?_); refine goesL_ (some 12) rfl rfl Tryd.func31 (by kernel_rfl) rfl #[.string a0, .string (⟨#[125]⟩ : ByteArray)] rfl (by (try simp only [List.map_toArray, List.map_cons, List.map_nil]); first | done | rfl | (simp only [List.length_drop, List.length_take]; rfl)) ?_; (with_reducible refine (strings_HasSuffix.calls a0 (⟨#[125]⟩ : ByteArray) false _ A2.out).mono ?_); rintro e w' ⟨rfl, ⟨nd, rfl⟩⟩; refine ⟨_, rfl, ?_⟩))
    go_ret3
    exact ⟨by first | rfl | (simp [errW_none, errW_some] <;> rfl) | (simp [*, errW_none, errW_some] <;> rfl), by repeat (first | (with_reducible first | exact HB.out | apply below_alloc | apply pw_below_drewN | apply below_drew1) | exact HB.out)⟩

/-! ### postbagref3_digit: function 46 -/
def postbagref3_digit.f (a0 : Int) : Option (Bool) := if a0 ≥ 48 then (some (decide (a0 ≤ 57))) else (some false)
set_option maxHeartbeats 8000000 in
set_option maxRecDepth 100000 in
theorem postbagref3_digit.calls (a0 : Int) (r : Bool) (w : World) (h : postbagref3_digit.f a0 = some r) :
    Calls Tryd.prog 46 #[.int .u8 a0] w fun e w' => e = .returned (.bool r) ∧ Drawn0 w w' := by
  have H : (if a0 ≥ 48 then (some (decide (a0 ≤ 57))) else (some false)) = some r := h
  clear h
  by_cases c2 : a0 ≥ 48
  · rw [if_pos c2] at H
    have c2b0 : decide (48 ≤ a0) = true := decide_eq_true c2
    clear c2
    obtain rfl := Option.some.inj H
    go_enter Tryd.func46, Tryd.ntmps46
    go_wp2
    go_ret
    exact ⟨by first | rfl | (simp; done) | (simp [*]; done), by repeat (first | exact Drawn0.refl _ | apply Drawn0.step)⟩
  · rw [if_neg c2] at H
    have c2b0 : decide (48 ≤ a0) = false := decide_eq_false c2
    clear c2
    obtain rfl := Option.some.inj H
    go_enter Tryd.func46, Tryd.ntmps46
    go_wp2
    go_ret
    exact ⟨by first | rfl | (simp; done) | (simp [*]; done), by repeat (first | exact Drawn0.refl _ | apply Drawn0.step)⟩

end Go.Proofs.YtbgcapgjnflmoaaDoor.PLx

-- Written by xprint.py, a program of this session over the kit's print: not the print's own text.
namespace Go.Proofs.YtbgcapgjnflmoaaDoor.PLx
open Go.RowKit Go.Proofs.YtbgcapgjnflmoaaDoorW.PrintWords Go.Proofs.YtbgcapgjnflmoaaDoorW.PrintLast Go.Proofs.YtbgcapgjnflmoaaDoorW.PrintMore
attribute [local go_sem] max2_int min2_int max_two min_two max_three min_three max_four min_four   -- for this text's walks alone
set_option linter.unusedVariables false
set_option linter.unusedSimpArgs false

/-! ### postbagref3_announcement: function 30 -/
mutual
def postbagref3_announcement.j0 : Nat → ByteArray → Int → Bool → Option (Int × Bool × Int × Bool)
  | 0, _, _, _ => none
  | k + 1, x0, x1, x20 => if x20 = true then (some (0, false, 0, false)) else (postbagref3_announcement.l0 k x0 x1 (wrap64 (x1 + 1)) 0)
def postbagref3_announcement.j2 : Nat → ByteArray → Int → Int → Int → Option (Int × Bool × Int × Bool)
  | 0, _, _, _, _ => none
  | k + 1, x0, x1, x8, x9 => if x8 = (wrap64 (x1 + 1)) then (some (0, false, 0, false)) else (if x8 < (x0.size : Int) then (if 0 ≤ x8 then (postbagref3_announcement.j3 k x0 x8 x9 ((bt x0 x8) == 43)) else (none)) else (postbagref3_announcement.j3 k x0 x8 x9 false))
def postbagref3_announcement.j3 : Nat → ByteArray → Int → Int → Bool → Option (Int × Bool × Int × Bool)
  | 0, _, _, _, _ => none
  | k + 1, x0, x8, x9, x10 => if x10 = true then (if (wrap64 (x8 + 1)) ≥ (x0.size : Int) then (some (0, false, 0, false)) else (if 0 ≤ (wrap64 (x8 + 1)) then (if (wrap64 (x8 + 1)) < (x0.size : Int) then (if (bt x0 (wrap64 (x8 + 1))) = 125 then (some (x9, x10, wrap64 ((wrap64 (x8 + 1)) + 1), true)) else (some (0, false, 0, false))) else (none)) else (none))) else (if x8 ≥ (x0.size : Int) then (some (0, false, 0, false)) else (if 0 ≤ x8 then (if x8 < (x0.size : Int) then (if (bt x0 x8) = 125 then (some (x9, x10, wrap64 (x8 + 1), true)) else (some (0, false, 0, false))) else (none)) else (none)))
def postbagref3_announcement.l0 : Nat → ByteArray → Int → Int → Int → Option (Int × Bool × Int × Bool)
  | 0, _, _, _, _ => none
  | k + 1, x0, x1, x8, x9 => if x8 < (x0.size : Int) then (if 0 ≤ x8 then ((postbagref3_digit.f (bt x0 x8)).bind fun t108 => (if t108 = true then (postbagref3_announcement.l0 k x0 x1 (wrap64 (x8 + 1)) (mn (wrap64 ((wrap64 (x9 * 10)) + (((bt x0 x8) - 48) % 256))) 4294967296)) else (postbagref3_announcement.j2 k x0 x1 x8 x9))) else (none)) else (postbagref3_announcement.j2 k x0 x1 x8 x9)
end
def postbagref3_announcement.f (k : Nat) (a0 : ByteArray) (a1 : Int) : Option (Int × Bool × Int × Bool) := if a1 ≥ (a0.size : Int) then (postbagref3_announcement.j0 k a0 a1 true) else (if 0 ≤ a1 then (if a1 < (a0.size : Int) then (postbagref3_announcement.j0 k a0 a1 ((bt a0 a1) != 123)) else (none)) else (none))
theorem postbagref3_announcement.mono_l : ∀ k, (∀ y0 y1 y2, LeO (postbagref3_announcement.j0 k y0 y1 y2) (postbagref3_announcement.j0 (k + 1) y0 y1 y2)) ∧ (∀ y0 y1 y2 y3, LeO (postbagref3_announcement.j2 k y0 y1 y2 y3) (postbagref3_announcement.j2 (k + 1) y0 y1 y2 y3)) ∧ (∀ y0 y1 y2 y3, LeO (postbagref3_announcement.j3 k y0 y1 y2 y3) (postbagref3_announcement.j3 (k + 1) y0 y1 y2 y3)) ∧ (∀ y0 y1 y2 y3, LeO (postbagref3_announcement.l0 k y0 y1 y2 y3) (postbagref3_announcement.l0 (k + 1) y0 y1 y2 y3))
  | 0 => ⟨fun _ _ _ r h => by simp [postbagref3_announcement.j0] at h, fun _ _ _ _ r h => by simp [postbagref3_announcement.j2] at h, fun _ _ _ _ r h => by simp [postbagref3_announcement.j3] at h, fun _ _ _ _ r h => by simp [postbagref3_announcement.l0] at h⟩
  | k + 1 => by
    obtain ⟨ih0, ih1, ih2, ih3⟩ := postbagref3_announcement.mono_l k
    refine ⟨?_, ?_, ?_, ?_⟩
    · intro y0 y1 y2
      unfold postbagref3_announcement.j0
      repeat' first
      | (with_reducible exact ih0 _ _ _)
      | (with_reducible exact ih1 _ _ _ _)
      | (with_reducible exact ih2 _ _ _ _)
      | (with_reducible exact ih3 _ _ _ _)
      | (with_reducible exact LeO.refl _)
      | (with_reducible exact LeO.none _)
      | (with_reducible refine LeO.ite ?_ ?_)
      | (with_reducible refine LeO.bind ?_ (fun _ => ?_))
      | exact ih0 _ _ _
      | exact ih1 _ _ _ _
      | exact ih2 _ _ _ _
      | exact ih3 _ _ _ _
      | exact LeO.none _
      | refine LeO.ite ?_ ?_
      | refine LeO.bind ?_ (fun _ => ?_)
    · intro y0 y1 y2 y3
      unfold postbagref3_announcement.j2
      repeat' first
      | (with_reducible exact ih0 _ _ _)
      | (with_reducible exact ih1 _ _ _ _)
      | (with_reducible exact ih2 _ _ _ _)
      | (with_reducible exact ih3 _ _ _ _)
      | (with_reducible exact LeO.refl _)
      | (with_reducible exact LeO.none _)
      | (with_reducible refine LeO.ite ?_ ?_)
      | (with_reducible refine LeO.bind ?_ (fun _ => ?_))
      | exact ih0 _ _ _
      | exact ih1 _ _ _ _
      | exact ih2 _ _ _ _
      | exact ih3 _ _ _ _
      | exact LeO.none _
      | refine LeO.ite ?_ ?_
      | refine LeO.bind ?_ (fun _ => ?_)
    · intro y0 y1 y2 y3
      unfold postbagref3_announcement.j3
      repeat' first
      | (with_reducible exact ih0 _ _ _)
      | (with_reducible exact ih1 _ _ _ _)
      | (with_reducible exact ih2 _ _ _ _)
      | (with_reducible exact ih3 _ _ _ _)
      | (with_reducible exact LeO.refl _)
      | (with_reducible exact LeO.none _)
      | (with_reducible refine LeO.ite ?_ ?_)
      | (with_reducible refine LeO.bind ?_ (fun _ => ?_))
      | exact ih0 _ _ _
      | exact ih1 _ _ _ _
      | exact ih2 _ _ _ _
      | exact ih3 _ _ _ _
      | exact LeO.none _
      | refine LeO.ite ?_ ?_
      | refine LeO.bind ?_ (fun _ => ?_)
    · intro y0 y1 y2 y3
      unfold postbagref3_announcement.l0
      repeat' first
      | (with_reducible exact ih0 _ _ _)
      | (with_reducible exact ih1 _ _ _ _)
      | (with_reducible exact ih2 _ _ _ _)
      | (with_reducible exact ih3 _ _ _ _)
      | (with_reducible exact LeO.refl _)
      | (with_reducible exact LeO.none _)
      | (with_reducible refine LeO.ite ?_ ?_)
      | (with_reducible refine LeO.bind ?_ (fun _ => ?_))
      | exact ih0 _ _ _
      | exact ih1 _ _ _ _
      | exact ih2 _ _ _ _
      | exact ih3 _ _ _ _
      | exact LeO.none _
      | refine LeO.ite ?_ ?_
      | refine LeO.bind ?_ (fun _ => ?_)
theorem postbagref3_announcement.mono : ∀ a0 a1 k, LeO (postbagref3_announcement.f k a0 a1) (postbagref3_announcement.f (k + 1) a0 a1) := by
  intro a0 a1 k
  obtain ⟨ih0, ih1, ih2, ih3⟩ := postbagref3_announcement.mono_l k
  unfold postbagref3_announcement.f
  repeat' first
      | (with_reducible exact ih0 _ _ _)
      | (with_reducible exact ih1 _ _ _ _)
      | (with_reducible exact ih2 _ _ _ _)
      | (with_reducible exact ih3 _ _ _ _)
      | (with_reducible exact LeO.refl _)
      | (with_reducible exact LeO.none _)
      | (with_reducible refine LeO.ite ?_ ?_)
      | (with_reducible refine LeO.bind ?_ (fun _ => ?_))
      | exact ih0 _ _ _
      | exact ih1 _ _ _ _
      | exact ih2 _ _ _ _
      | exact ih3 _ _ _ _
      | exact LeO.none _
      | refine LeO.ite ?_ ?_
      | refine LeO.bind ?_ (fun _ => ?_)
set_option maxHeartbeats 8000000 in
set_option maxRecDepth 100000 in
theorem postbagref3_announcement.calls (k : Nat) (a0 : ByteArray) (a1 : Int) (r1 : Int) (r2 : Bool) (r3 : Int) (r4 : Bool) (w : World) (h : postbagref3_announcement.f k a0 a1 = some (r1, r2, r3, r4)) :
    Calls Tryd.prog 30 #[.string a0, .int .i64 a1] w fun e w' => e = .returned (.tuple #[.int .i64 r1, .bool r2, .int .i64 r3, .bool r4]) ∧ Below w.heap.size w w' := by
  have HB := Aside0.mk (Below.refl w.heap.size w)
  have H : (if a1 ≥ (a0.size : Int) then (postbagref3_announcement.j0 k a0 a1 true) else (if 0 ≤ a1 then (if a1 < (a0.size : Int) then (postbagref3_announcement.j0 k a0 a1 ((bt a0 a1) != 123)) else (none)) else (none))) = some (r1, r2, r3, r4) := h
  clear h
  have HC3 := Aside0.mk H
  clear H
  go_enter Tryd.func30, Tryd.ntmps30
  go_upto_region 1 with (fail)
  go_cut [20] (fun v20 wc => ∃ (kq : Nat) (x20_2 : Bool), v20 = .bool x20_2 ∧ Aside0 (postbagref3_announcement.j0 kq a0 a1 x20_2 = some (r1, r2, r3, r4)) ∧ Aside0 (kq ≤ k) ∧ Aside0 (Below w.heap.size w wc))
  case first =>
    have H := HC3.out
    clear HC3
    by_cases c4 : a1 ≥ (a0.size : Int)
    · rw [if_pos c4] at H
      have c4b0 : decide ((a0.size : Int) ≤ a1) = true := decide_eq_true c4
      clear c4
      (first | rw [c4b0] | (simp only [i64_w, i32_w]; rw [c4b0]) | skip)
      have H' := Aside0.mk H
      clear H
      go_wp2
      go_meet
      case rel => exact ⟨_, (true), (by first | rfl | (simp; done) | (simp [*]; done) | (simp [bne, *]; done)), H', ⟨by first | omega | exact Nat.le_refl _⟩, ⟨by repeat (first | (with_reducible first | exact HB.out | apply below_alloc | apply pw_below_drewN | apply below_drew1) | exact HB.out)⟩⟩
    · rw [if_neg c4] at H
      have c4b0 : decide ((a0.size : Int) ≤ a1) = false := decide_eq_false c4
      clear c4
      (first | rw [c4b0] | (simp only [i64_w, i32_w]; rw [c4b0]) | skip)
      by_cases c5 : 0 ≤ a1
      · rw [if_pos c5] at H
        have c5b0 : decide (0 ≤ a1) = true := decide_eq_true c5
        clear c5
        by_cases c6 : a1 < (a0.size : Int)
        · rw [if_pos c6] at H
          have c6b0 : decide (a1 < (a0.size : Int)) = true := decide_eq_true c6
          clear c6
          have H' := Aside0.mk H
          clear H
          have p7 : 0 ≤ (a1 : Int) := of_decide_eq_true (by first | (with_reducible assumption) | assumption)
          have q7 : a1 < (a0.size : Int) := of_decide_eq_true (by first | (with_reducible assumption) | assumption)
          have hx7 := bt_at a0 a1
          replace p7 := eq_true p7
          replace q7 := eq_true q7
          go_wp2
          go_meet
          case rel => exact ⟨_, (((bt a0 a1) != 123)), (by first | rfl | (simp; done) | (simp [*]; done) | (simp [bne, *]; done)), H', ⟨by first | omega | exact Nat.le_refl _⟩, ⟨by repeat (first | (with_reducible first | exact HB.out | apply below_alloc | apply pw_below_drewN | apply below_drew1) | exact HB.out)⟩⟩
        · rw [if_neg c6] at H
          exact absurd H (by simp)
      · rw [if_neg c5] at H
        exact absurd H (by simp)
  case rest =>
    clear HC3
    try clear p2
    try clear c3
    try clear c4
    try clear c4b0
    try clear c5
    try clear c5b0
    try clear c6
    try clear c6b0
    try clear p7
    try clear q7
    try clear hx7
    try clear p7
    try clear q7
    obtain ⟨kq, x20_2, rfl, HA, HJ2, HB⟩ := hcut
    cases kq with
    | zero => exact absurd HA.out (by simp [postbagref3_announcement.j0])
    | succ kj2 =>
      have H := HA.out
      clear HA
      simp only [postbagref3_announcement.j0] at H
      by_cases c8 : x20_2 = true
      · subst c8
        have H1 : (some (0, false, 0, false)) = some (r1, r2, r3, r4) := by rw [if_pos rfl] at H; exact H
        clear H
        have H := H1
        clear H1
        simp only [Option.some.injEq, Prod.mk.injEq] at H
        obtain ⟨rfl, rfl, rfl, rfl⟩ := H
        go_wp2
        refine bodyPost_ret (results_list (rs := [.tmp 4, .tmp 5, .tmp 6, .tmp 7]) rfl (by simp) (.tmp (.tmp (.tmp (.tmp .nil))))) rfl ?_
        exact ⟨by first | rfl | (simp [errW_none, errW_some] <;> rfl) | (simp [*, errW_none, errW_some] <;> rfl), by repeat (first | (with_reducible first | exact HB.out | apply below_alloc | apply pw_below_drewN | apply below_drew1) | exact HB.out)⟩
      · replace c8 := Bool.eq_false_iff.mpr c8
        subst c8
        have H1 : (postbagref3_announcement.l0 kj2 a0 a1 (wrap64 (a1 + 1)) 0) = some (r1, r2, r3, r4) := by rw [if_neg (show ¬ (false = true) by decide)] at H; exact H
        clear H
        have H := H1
        clear H1
        have HC9 := Aside0.mk H
        clear H
        go_upto_block 0 with (fail)
        go_cut [8, 9] (fun v8 v9 wc => ∃ (kq : Nat) (x8_8 : Int) (x9_8 : Int), v8 = .int .i64 x8_8 ∧ v9 = .int .i64 x9_8 ∧ Aside0 (postbagref3_announcement.j2 kq a0 a1 x8_8 x9_8 = some (r1, r2, r3, r4)) ∧ Aside0 (kq ≤ kj2) ∧ Aside0 (Below w.heap.size w wc))
        case first =>
          have H := HC9.out
          clear HC9
          have H' := Aside0.mk H
          clear H
          go_wp2
          go_loopg [8, 9] kj2 (fun kq v8 v9 w' => ∃ (x8_2 : Int) (x9_2 : Int), v8 = .int .i64 x8_2 ∧ v9 = .int .i64 x9_2 ∧ Aside0 (postbagref3_announcement.l0 kq a0 a1 x8_2 x9_2 = some (r1, r2, r3, r4)) ∧ Aside0 (kq ≤ kj2) ∧ Aside0 (Below w.heap.size w w'))
          case atStart => exact ⟨(wrap64 (a1 + 1)), (0), (by first | rfl | (simp; done) | (simp [*]; done) | (simp [bne, *]; done)), (by first | rfl | (simp; done) | (simp [*]; done) | (simp [bne, *]; done)), H', ⟨Nat.le_refl _⟩, ⟨by repeat (first | (with_reducible first | exact HB.out | apply below_alloc | apply pw_below_drewN | apply below_drew1) | exact HB.out)⟩⟩
          case round =>
            clear H'
            try clear p2
            try clear c3
            try clear c4
            try clear c4b0
            try clear c5
            try clear c5b0
            try clear c6
            try clear c6b0
            try clear p6
            try clear p7
            try clear q7
            try clear hx7
            try clear c8
            try clear p2
            try clear p7
            try clear q7
            obtain ⟨x8_2, x9_2, rfl, rfl, HA, HK2, HB⟩ := hrel
            cases gk with
            | zero => exact absurd HA.out (by simp [postbagref3_announcement.l0])
            | succ k2 =>
              have H := HA.out
              clear HA
              simp only [postbagref3_announcement.l0] at H
              by_cases c10 : x8_2 < (a0.size : Int)
              · rw [if_pos c10] at H
                have c10b0 : decide (x8_2 < (a0.size : Int)) = true := decide_eq_true c10
                clear c10
                (first | rw [c10b0] | (simp only [i64_w, i32_w]; rw [c10b0]) | skip)
                by_cases c11 : 0 ≤ x8_2
                · rw [if_pos c11] at H
                  have c11b0 : decide (0 ≤ x8_2) = true := decide_eq_true c11
                  clear c11
                  replace H := Option.bind_eq_some_iff.mp H
                  obtain ⟨t108, A130, H⟩ := H
                  replace H : (if t108 = true then (postbagref3_announcement.l0 k2 a0 a1 (wrap64 (x8_2 + 1)) (mn (wrap64 ((wrap64 (x9_2 * 10)) + (((bt a0 x8_2) - 48) % 256))) 4294967296)) else (postbagref3_announcement.j2 k2 a0 a1 x8_2 x9_2)) = some (r1, r2, r3, r4) := H
                  have A13 := Aside0.mk A130
                  clear A130
                  by_cases c14 : t108 = true
                  · subst c14
                    have H1 : (postbagref3_announcement.l0 k2 a0 a1 (wrap64 (x8_2 + 1)) (mn (wrap64 ((wrap64 (x9_2 * 10)) + (((bt a0 x8_2) - 48) % 256))) 4294967296)) = some (r1, r2, r3, r4) := by rw [if_pos rfl] at H; exact H
                    clear H
                    have H := H1
                    clear H1
                    obtain ⟨ji16, hji16⟩ : ∃ j_ : Int, (mn (wrap64 ((wrap64 (x9_2 * 10)) + (((bt a0 x8_2) - 48) % 256))) 4294967296) = j_ := ⟨_, rfl⟩
                    replace H : (postbagref3_announcement.l0 k2 a0 a1 (wrap64 (x8_2 + 1)) ji16) = some (r1, r2, r3, r4) := by first | (rw [hji16] at H; exact H) | (simp only [hji16] at H ⊢; exact H)
                    (try rw [hji16] at A13)
                    have hji16_ : (if 4294967296 < (wrap64 ((wrap64 (x9_2 * 10)) + (((bt a0 x8_2) - 48) % 256))) then 4294967296 else (wrap64 ((wrap64 (x9_2 * 10)) + (((bt a0 x8_2) - 48) % 256)))) = ji16 := hji16
                    have H' := Aside0.mk H
                    clear H
                    have p12 : 0 ≤ (x8_2 : Int) := of_decide_eq_true (by first | (with_reducible assumption) | assumption)
                    have q12 : x8_2 < (a0.size : Int) := of_decide_eq_true (by first | (with_reducible assumption) | assumption)
                    have hx12 := bt_at a0 x8_2
                    replace p12 := eq_true p12
                    replace q12 := eq_true q12
                    go_wp2_with (first | (go_at_call 46; (with_reducible refine (postbagref3_digit.calls (bt a0 x8_2) true _ A13.out).mono ?_); rintro e w' ⟨rfl, ⟨nd, rfl⟩⟩; have p15 : 0 ≤ (x8_2 : Int) := of_decide_eq_true (by first | (with_reducible assumption) | assumption); have q15 : x8_2 < (a0.size : Int) := of_decide_eq_true (by first | (with_reducible assumption) | assumption); have hx15 := bt_at a0 x8_2; replace p15 := eq_true p15; replace q15 := eq_true q15))
                    go_roundg k2
                    case measure => have := HJ2.out; have := HK2.out; omega
                    case rel => exact ⟨(wrap64 (x8_2 + 1)), (ji16), (by first | rfl | (simp; done) | (simp [*]; done) | (simp [bne, *]; done)), (by first | rfl | (simp; done) | (simp only [← hji16] <;> (first | rfl | simp)) | (simp [*]; done)), H', ⟨by have := HJ2.out; have := HK2.out; omega⟩, ⟨by repeat (first | (with_reducible first | exact HB.out | apply below_alloc | apply pw_below_drewN | apply below_drew1) | exact HB.out)⟩⟩
                  · replace c14 := Bool.eq_false_iff.mpr c14
                    subst c14
                    have H1 : (postbagref3_announcement.j2 k2 a0 a1 x8_2 x9_2) = some (r1, r2, r3, r4) := by rw [if_neg (show ¬ (false = true) by decide)] at H; exact H
                    clear H
                    have H := H1
                    clear H1
                    have H' := Aside0.mk H
                    clear H
                    have p12 : 0 ≤ (x8_2 : Int) := of_decide_eq_true (by first | (with_reducible assumption) | assumption)
                    have q12 : x8_2 < (a0.size : Int) := of_decide_eq_true (by first | (with_reducible assumption) | assumption)
                    have hx12 := bt_at a0 x8_2
                    replace p12 := eq_true p12
                    replace q12 := eq_true q12
                    go_wp2_with (first | (go_at_call 46; (with_reducible refine (postbagref3_digit.calls (bt a0 x8_2) false _ A13.out).mono ?_); rintro e w' ⟨rfl, ⟨nd, rfl⟩⟩))
                    go_meet
                    case rel => exact ⟨_, (x8_2), (x9_2), (by first | rfl | (simp; done) | (simp [*]; done) | (simp [bne, *]; done)), (by first | rfl | (simp; done) | (simp [*]; done) | (simp [bne, *]; done)), H', ⟨by have := HJ2.out; have := HK2.out; first | omega | exact Nat.le_refl _⟩, ⟨by repeat (first | (with_reducible first | exact HB.out | apply below_alloc | apply pw_below_drewN | apply below_drew1) | exact HB.out)⟩⟩
                · rw [if_neg c11] at H
                  exact absurd H (by simp)
              · rw [if_neg c10] at H
                have c10b0 : decide (x8_2 < (a0.size : Int)) = false := decide_eq_false c10
                clear c10
                (first | rw [c10b0] | (simp only [i64_w, i32_w]; rw [c10b0]) | skip)
                have H' := Aside0.mk H
                clear H
                go_wp2
                go_meet
                case rel => exact ⟨_, (x8_2), (x9_2), (by first | rfl | (simp; done) | (simp [*]; done) | (simp [bne, *]; done)), (by first | rfl | (simp; done) | (simp [*]; done) | (simp [bne, *]; done)), H', ⟨by have := HJ2.out; have := HK2.out; first | omega | exact Nat.le_refl _⟩, ⟨by repeat (first | (with_reducible first | exact HB.out | apply below_alloc | apply pw_below_drewN | apply below_drew1) | exact HB.out)⟩⟩
        case rest =>
          clear HC9
          try clear c1
          try clear p1
          try clear q1
          try clear hx1
          try clear p2
          try clear c3
          try clear c4
          try clear c4b0
          try clear c5
          try clear c5b0
          try clear c6
          try clear c6b0
          try clear p6
          try clear p7
          try clear q7
          try clear hx7
          try clear c8
          try clear c10
          try clear c10b0
          try clear c11
          try clear c11b0
          try clear p12
          try clear q12
          try clear hx12
          try clear c14
          try clear p15
          try clear q15
          try clear hx15
          try clear p12
          try clear p15
          try clear p2
          try clear p6
          try clear p7
          try clear q12
          try clear q15
          try clear q7
          obtain ⟨kq, x8_8, x9_8, rfl, rfl, HA, HJ8, HB⟩ := hcut
          cases kq with
          | zero => exact absurd HA.out (by simp [postbagref3_announcement.j2])
          | succ kj8 =>
            have H := HA.out
            clear HA
            simp only [postbagref3_announcement.j2] at H
            by_cases c17 : x8_8 = (wrap64 (a1 + 1))
            · rw [if_pos c17] at H
              have c17b0 : (x8_8 == (wrap64 (a1 + 1))) = true := beq_iff_eq.mpr c17
              have c17b1 : (x8_8 != (wrap64 (a1 + 1))) = false := bne_eq_false_iff_eq.mpr c17
              clear c17
              simp only [Option.some.injEq, Prod.mk.injEq] at H
              obtain ⟨rfl, rfl, rfl, rfl⟩ := H
              go_wp2
              refine bodyPost_ret (results_list (rs := [.tmp 4, .tmp 5, .tmp 6, .tmp 7]) rfl (by simp) (.tmp (.tmp (.tmp (.tmp .nil))))) rfl ?_
              exact ⟨by first | rfl | (simp [errW_none, errW_some] <;> rfl) | (simp [*, errW_none, errW_some] <;> rfl), by repeat (first | (with_reducible first | exact HB.out | apply below_alloc | apply pw_below_drewN | apply below_drew1) | exact HB.out)⟩
            · rw [if_neg c17] at H
              have c17b0 : (x8_8 == (wrap64 (a1 + 1))) = false := beq_eq_false_iff_ne.mpr c17
              have c17b1 : (x8_8 != (wrap64 (a1 + 1))) = true := bne_iff_ne.mpr c17
              have HC18 := Aside0.mk H
              clear H
              go_upto_region 10 with (fail)
              go_cut [10] (fun v10 wc => ∃ (kq : Nat) (x10_17 : Bool), v10 = .bool x10_17 ∧ Aside0 (postbagref3_announcement.j3 kq a0 x8_8 x9_8 x10_17 = some (r1, r2, r3, r4)) ∧ Aside0 (kq ≤ kj8) ∧ Aside0 (Below w.heap.size w wc))
              case first =>
                have H := HC18.out
                clear HC18
                by_cases c19 : x8_8 < (a0.size : Int)
                · rw [if_pos c19] at H
                  have c19b0 : decide (x8_8 < (a0.size : Int)) = true := decide_eq_true c19
                  clear c19
                  (first | rw [c19b0] | (simp only [i64_w, i32_w]; rw [c19b0]) | skip)
                  by_cases c20 : 0 ≤ x8_8
                  · rw [if_pos c20] at H
                    have c20b0 : decide (0 ≤ x8_8) = true := decide_eq_true c20
                    clear c20
                    have H' := Aside0.mk H
                    clear H
                    have p21 : 0 ≤ (x8_8 : Int) := of_decide_eq_true (by first | (with_reducible assumption) | assumption)
                    have q21 : x8_8 < (a0.size : Int) := of_decide_eq_true (by first | (with_reducible assumption) | assumption)
                    have hx21 := bt_at a0 x8_8
                    replace p21 := eq_true p21
                    replace q21 := eq_true q21
                    go_wp2
                    go_meet
                    case rel => exact ⟨_, (((bt a0 x8_8) == 43)), (by first | rfl | (simp; done) | (simp [*]; done) | (simp [bne, *]; done)), H', ⟨by have := HJ2.out; have := HJ8.out; first | omega | exact Nat.le_refl _⟩, ⟨by repeat (first | (with_reducible first | exact HB.out | apply below_alloc | apply pw_below_drewN | apply below_drew1) | exact HB.out)⟩⟩
                  · rw [if_neg c20] at H
                    exact absurd H (by simp)
                · rw [if_neg c19] at H
                  have c19b0 : decide (x8_8 < (a0.size : Int)) = false := decide_eq_false c19
                  clear c19
                  (first | rw [c19b0] | (simp only [i64_w, i32_w]; rw [c19b0]) | skip)
                  have H' := Aside0.mk H
                  clear H
                  go_wp2
                  go_meet
                  case rel => exact ⟨_, (false), (by first | rfl | (simp; done) | (simp [*]; done) | (simp [bne, *]; done)), H', ⟨by have := HJ2.out; have := HJ8.out; first | omega | exact Nat.le_refl _⟩, ⟨by repeat (first | (with_reducible first | exact HB.out | apply below_alloc | apply pw_below_drewN | apply below_drew1) | exact HB.out)⟩⟩
              case rest =>
                clear HC18
                try clear c1
                try clear p1
                try clear q1
                try clear hx1
                try clear c2
                try clear p2
                try clear q2
                try clear hx2
                try clear c3
                try clear c4
                try clear c4b0
                try clear c5
                try clear c5b0
                try clear c6
                try clear c6b0
                try clear p6
                try clear p7
                try clear q7
                try clear hx7
                try clear c8
                try clear c10
                try clear c10b0
                try clear c11
                try clear c11b0
                try clear p12
                try clear q12
                try clear hx12
                try clear c14
                try clear p15
                try clear q15
                try clear hx15
                try clear c17
                try clear c17b0
                try clear c17b1
                try clear c19
                try clear c19b0
                try clear c20
                try clear c20b0
                try clear p21
                try clear q21
                try clear hx21
                try clear p1
                try clear p12
                try clear p15
                try clear p2
                try clear p21
                try clear p6
                try clear p7
                try clear q1
                try clear q12
                try clear q15
                try clear q21
                try clear q7
                obtain ⟨kq, x10_17, rfl, HA, HJ17, HB⟩ := hcut
                cases kq with
                | zero => exact absurd HA.out (by simp [postbagref3_announcement.j3])
                | succ kj17 =>
                  have H := HA.out
                  clear HA
                  simp only [postbagref3_announcement.j3] at H
                  by_cases c22 : x10_17 = true
                  · subst c22
                    have H1 : (if (wrap64 (x8_8 + 1)) ≥ (a0.size : Int) then (some (0, false, 0, false)) else (if 0 ≤ (wrap64 (x8_8 + 1)) then (if (wrap64 (x8_8 + 1)) < (a0.size : Int) then (if (bt a0 (wrap64 (x8_8 + 1))) = 125 then (some (x9_8, true, wrap64 ((wrap64 (x8_8 + 1)) + 1), true)) else (some (0, false, 0, false))) else (none)) else (none))) = some (r1, r2, r3, r4) := by rw [if_pos rfl] at H; exact H
                    clear H
                    have H := H1
                    clear H1
                    by_cases c23 : (wrap64 (x8_8 + 1)) ≥ (a0.size : Int)
                    · rw [if_pos c23] at H
                      have c23b0 : decide ((a0.size : Int) ≤ (wrap64 (x8_8 + 1))) = true := decide_eq_true c23
                      clear c23
                      simp only [Option.some.injEq, Prod.mk.injEq] at H
                      obtain ⟨rfl, rfl, rfl, rfl⟩ := H
                      go_wp2
                      refine bodyPost_ret (results_list (rs := [.tmp 4, .tmp 5, .tmp 6, .tmp 7]) rfl (by simp) (.tmp (.tmp (.tmp (.tmp .nil))))) rfl ?_
                      exact ⟨by first | rfl | (simp [errW_none, errW_some] <;> rfl) | (simp [*, errW_none, errW_some] <;> rfl), by repeat (first | (with_reducible first | exact HB.out | apply below_alloc | apply pw_below_drewN | apply below_drew1) | exact HB.out)⟩
                    · rw [if_neg c23] at H
                      have c23b0 : decide ((a0.size : Int) ≤ (wrap64 (x8_8 + 1))) = false := decide_eq_false c23
                      clear c23
                      obtain ⟨ji24, hji24⟩ : ∃ j_ : Int, (wrap64 (x8_8 + 1)) = j_ := ⟨_, rfl⟩
                      replace H : (if 0 ≤ (ji24) then (if (ji24) < (a0.size : Int) then (if (bt a0 (ji24)) = 125 then (some (x9_8, true, wrap64 ((ji24) + 1), true)) else (some (0, false, 0, false))) else (none)) else (none)) = some (r1, r2, r3, r4) := by first | (rw [hji24] at H; exact H) | (simp only [hji24] at H ⊢; exact H)
                      (try rw [hji24] at c23b0)
                      have hji24w : (IntKind.i64.wrap (x8_8 + 1)) = ji24 := (i64_w _).trans hji24
                      by_cases c25 : 0 ≤ (ji24)
                      · rw [if_pos c25] at H
                        have c25b0 : decide (0 ≤ (ji24)) = true := decide_eq_true c25
                        clear c25
                        by_cases c26 : (ji24) < (a0.size : Int)
                        · rw [if_pos c26] at H
                          have c26b0 : decide ((ji24) < (a0.size : Int)) = true := decide_eq_true c26
                          clear c26
                          by_cases c28 : (bt a0 (ji24)) = 125
                          · rw [if_pos c28] at H
                            have c28b0 : ((bt a0 (ji24)) == 125) = true := beq_iff_eq.mpr c28
                            have c28b1 : ((bt a0 (ji24)) != 125) = false := bne_eq_false_iff_eq.mpr c28
                            clear c28
                            simp only [Option.some.injEq, Prod.mk.injEq] at H
                            obtain ⟨rfl, rfl, rfl, rfl⟩ := H
                            have p27 : 0 ≤ ((ji24) : Int) := of_decide_eq_true (by first | (with_reducible assumption) | assumption)
                            have q27 : (ji24) < (a0.size : Int) := of_decide_eq_true (by first | (with_reducible assumption) | assumption)
                            have hx27 := bt_at a0 (ji24)
                            replace p27 := eq_true p27
                            replace q27 := eq_true q27
                            go_wp2
                            refine bodyPost_ret (results_list (rs := [.tmp 4, .tmp 5, .tmp 6, .tmp 7]) rfl (by simp) (.tmp (.tmp (.tmp (.tmp .nil))))) rfl ?_
                            exact ⟨by first | rfl | (simp [errW_none, errW_some] <;> rfl) | (simp only [← hji24]; first | rfl | (simp [errW_none, errW_some] <;> rfl)) | (simp [*, errW_none, errW_some] <;> rfl), by repeat (first | (with_reducible first | exact HB.out | apply below_alloc | apply pw_below_drewN | apply below_drew1) | exact HB.out)⟩
                          · rw [if_neg c28] at H
                            have c28b0 : ((bt a0 (ji24)) == 125) = false := beq_eq_false_iff_ne.mpr c28
                            have c28b1 : ((bt a0 (ji24)) != 125) = true := bne_iff_ne.mpr c28
                            simp only [Option.some.injEq, Prod.mk.injEq] at H
                            obtain ⟨rfl, rfl, rfl, rfl⟩ := H
                            have p27 : 0 ≤ ((ji24) : Int) := of_decide_eq_true (by first | (with_reducible assumption) | assumption)
                            have q27 : (ji24) < (a0.size : Int) := of_decide_eq_true (by first | (with_reducible assumption) | assumption)
                            have hx27 := bt_at a0 (ji24)
                            replace p27 := eq_true p27
                            replace q27 := eq_true q27
                            go_wp2
                            refine bodyPost_ret (results_list (rs := [.tmp 4, .tmp 5, .tmp 6, .tmp 7]) rfl (by simp) (.tmp (.tmp (.tmp (.tmp .nil))))) rfl ?_
                            exact ⟨by first | rfl | (simp [errW_none, errW_some] <;> rfl) | (simp only [← hji24]; first | rfl | (simp [errW_none, errW_some] <;> rfl)) | (simp [*, errW_none, errW_some] <;> rfl), by repeat (first | (with_reducible first | exact HB.out | apply below_alloc | apply pw_below_drewN | apply below_drew1) | exact HB.out)⟩
                        · rw [if_neg c26] at H
                          exact absurd H (by simp)
                      · rw [if_neg c25] at H
                        exact absurd H (by simp)
                  · replace c22 := Bool.eq_false_iff.mpr c22
                    subst c22
                    have H1 : (if x8_8 ≥ (a0.size : Int) then (some (0, false, 0, false)) else (if 0 ≤ x8_8 then (if x8_8 < (a0.size : Int) then (if (bt a0 x8_8) = 125 then (some (x9_8, false, wrap64 (x8_8 + 1), true)) else (some (0, false, 0, false))) else (none)) else (none))) = some (r1, r2, r3, r4) := by rw [if_neg (show ¬ (false = true) by decide)] at H; exact H
                    clear H
                    have H := H1
                    clear H1
                    by_cases c29 : x8_8 ≥ (a0.size : Int)
                    · rw [if_pos c29] at H
                      have c29b0 : decide ((a0.size : Int) ≤ x8_8) = true := decide_eq_true c29
                      clear c29
                      simp only [Option.some.injEq, Prod.mk.injEq] at H
                      obtain ⟨rfl, rfl, rfl, rfl⟩ := H
                      go_wp2
                      refine bodyPost_ret (results_list (rs := [.tmp 4, .tmp 5, .tmp 6, .tmp 7]) rfl (by simp) (.tmp (.tmp (.tmp (.tmp .nil))))) rfl ?_
                      exact ⟨by first | rfl | (simp [errW_none, errW_some] <;> rfl) | (simp [*, errW_none, errW_some] <;> rfl), by repeat (first | (with_reducible first | exact HB.out | apply below_alloc | apply pw_below_drewN | apply below_drew1) | exact HB.out)⟩
                    · rw [if_neg c29] at H
                      have c29b0 : decide ((a0.size : Int) ≤ x8_8) = false := decide_eq_false c29
                      clear c29
                      by_cases c30 : 0 ≤ x8_8
                      · rw [if_pos c30] at H
                        have c30b0 : decide (0 ≤ x8_8) = true := decide_eq_true c30
                        clear c30
                        by_cases c31 : x8_8 < (a0.size : Int)
                        · rw [if_pos c31] at H
                          have c31b0 : decide (x8_8 < (a0.size : Int)) = true := decide_eq_true c31
                          clear c31
                          by_cases c33 : (bt a0 x8_8) = 125
                          · rw [if_pos c33] at H
                            have c33b0 : ((bt a0 x8_8) == 125) = true := beq_iff_eq.mpr c33
                            have c33b1 : ((bt a0 x8_8) != 125) = false := bne_eq_false_iff_eq.mpr c33
                            clear c33
                            simp only [Option.some.injEq, Prod.mk.injEq] at H
                            obtain ⟨rfl, rfl, rfl, rfl⟩ := H
                            have p32 : 0 ≤ (x8_8 : Int) := of_decide_eq_true (by first | (with_reducible assumption) | assumption)
                            have q32 : x8_8 < (a0.size : Int) := of_decide_eq_true (by first | (with_reducible assumption) | assumption)
                            have hx32 := bt_at a0 x8_8
                            replace p32 := eq_true p32
                            replace q32 := eq_true q32
                            go_wp2
                            refine bodyPost_ret (results_list (rs := [.tmp 4, .tmp 5, .tmp 6, .tmp 7]) rfl (by simp) (.tmp (.tmp (.tmp (.tmp .nil))))) rfl ?_
                            exact ⟨by first | rfl | (simp [errW_none, errW_some] <;> rfl) | (simp [*, errW_none, errW_some] <;> rfl), by repeat (first | (with_reducible first | exact HB.out | apply below_alloc | apply pw_below_drewN | apply below_drew1) | exact HB.out)⟩
                          · rw [if_neg c33] at H
                            have c33b0 : ((bt a0 x8_8) == 125) = false := beq_eq_false_iff_ne.mpr c33
                            have c33b1 : ((bt a0 x8_8) != 125) = true := bne_iff_ne.mpr c33
                            simp only [Option.some.injEq, Prod.mk.injEq] at H
                            obtain ⟨rfl, rfl, rfl, rfl⟩ := H
                            have p32 : 0 ≤ (x8_8 : Int) := of_decide_eq_true (by first | (with_reducible assumption) | assumption)
                            have q32 : x8_8 < (a0.size : Int) := of_decide_eq_true (by first | (with_reducible assumption) | assumption)
                            have hx32 := bt_at a0 x8_8
                            replace p32 := eq_true p32
                            replace q32 := eq_true q32
                            go_wp2
                            refine bodyPost_ret (results_list (rs := [.tmp 4, .tmp 5, .tmp 6, .tmp 7]) rfl (by simp) (.tmp (.tmp (.tmp (.tmp .nil))))) rfl ?_
                            exact ⟨by first | rfl | (simp [errW_none, errW_some] <;> rfl) | (simp [*, errW_none, errW_some] <;> rfl), by repeat (first | (with_reducible first | exact HB.out | apply below_alloc | apply pw_below_drewN | apply below_drew1) | exact HB.out)⟩
                        · rw [if_neg c31] at H
                          exact absurd H (by simp)
                      · rw [if_neg c30] at H
                        exact absurd H (by simp)

/-! ### postbagref3_Announced: function 17 -/
mutual
def postbagref3_Announced.l0 : Nat → ByteArray → Bool → Int → Option (Int × Bool × Bool)
  | 0, _, _, _ => none
  | k + 1, x0, x5, x6 => if x6 < (x0.size : Int) then (if 0 ≤ x6 then (if x5 = true then (if (bt x0 x6) = 92 then (postbagref3_Announced.l0 k x0 x5 (wrap64 ((wrap64 (x6 + 1)) + 1))) else (postbagref3_Announced.l0 k x0 ((bt x0 x6) != 34) (wrap64 (x6 + 1)))) else ((postbagref3_announcement.f k x0 x6).bind fun bt109 => (if bt109.2.2.2 = true then (postbagref3_Announced.j1 k x0 x6 (bt x0 x6) bt109.1 bt109.2.1 (bt109.2.2.1 == (x0.size : Int))) else (postbagref3_Announced.j1 k x0 x6 (bt x0 x6) bt109.1 bt109.2.1 false)))) else (none)) else (some (0, false, false))
def postbagref3_Announced.j1 : Nat → ByteArray → Int → Int → Int → Bool → Bool → Option (Int × Bool × Bool)
  | 0, _, _, _, _, _, _ => none
  | k + 1, x0, x6, x7, x8, x9, x37 => if x37 = true then (some (x8, x9, true)) else (postbagref3_Announced.l0 k x0 (x7 == 34) (wrap64 (x6 + 1)))
end
def postbagref3_Announced.f (k : Nat) (a0 : ByteArray) : Option (Int × Bool × Bool) := postbagref3_Announced.l0 k a0 false 0
theorem postbagref3_Announced.mono_l : ∀ k, (∀ y0 y1 y2, LeO (postbagref3_Announced.l0 k y0 y1 y2) (postbagref3_Announced.l0 (k + 1) y0 y1 y2)) ∧ (∀ y0 y1 y2 y3 y4 y5, LeO (postbagref3_Announced.j1 k y0 y1 y2 y3 y4 y5) (postbagref3_Announced.j1 (k + 1) y0 y1 y2 y3 y4 y5))
  | 0 => ⟨fun _ _ _ r h => by simp [postbagref3_Announced.l0] at h, fun _ _ _ _ _ _ r h => by simp [postbagref3_Announced.j1] at h⟩
  | k + 1 => by
    obtain ⟨ih0, ih1⟩ := postbagref3_Announced.mono_l k
    refine ⟨?_, ?_⟩
    · intro y0 y1 y2
      unfold postbagref3_Announced.l0
      repeat' first
      | (with_reducible exact ih0 _ _ _)
      | (with_reducible exact ih1 _ _ _ _ _ _)
      | (with_reducible exact postbagref3_announcement.mono _ _ _)
      | (with_reducible exact LeO.refl _)
      | (with_reducible exact LeO.none _)
      | (with_reducible refine LeO.ite ?_ ?_)
      | (with_reducible refine LeO.bind ?_ (fun _ => ?_))
      | exact ih0 _ _ _
      | exact ih1 _ _ _ _ _ _
      | exact postbagref3_announcement.mono _ _ _
      | exact LeO.none _
      | refine LeO.ite ?_ ?_
      | refine LeO.bind ?_ (fun _ => ?_)
    · intro y0 y1 y2 y3 y4 y5
      unfold postbagref3_Announced.j1
      repeat' first
      | (with_reducible exact ih0 _ _ _)
      | (with_reducible exact ih1 _ _ _ _ _ _)
      | (with_reducible exact postbagref3_announcement.mono _ _ _)
      | (with_reducible exact LeO.refl _)
      | (with_reducible exact LeO.none _)
      | (with_reducible refine LeO.ite ?_ ?_)
      | (with_reducible refine LeO.bind ?_ (fun _ => ?_))
      | exact ih0 _ _ _
      | exact ih1 _ _ _ _ _ _
      | exact postbagref3_announcement.mono _ _ _
      | exact LeO.none _
      | refine LeO.ite ?_ ?_
      | refine LeO.bind ?_ (fun _ => ?_)
theorem postbagref3_Announced.mono : ∀ a0 k, LeO (postbagref3_Announced.f k a0) (postbagref3_Announced.f (k + 1) a0) := by
  intro a0 k
  obtain ⟨ih0, ih1⟩ := postbagref3_Announced.mono_l k
  unfold postbagref3_Announced.f
  repeat' first
      | (with_reducible exact ih0 _ _ _)
      | (with_reducible exact ih1 _ _ _ _ _ _)
      | (with_reducible exact postbagref3_announcement.mono _ _ _)
      | (with_reducible exact LeO.refl _)
      | (with_reducible exact LeO.none _)
      | (with_reducible refine LeO.ite ?_ ?_)
      | (with_reducible refine LeO.bind ?_ (fun _ => ?_))
      | exact ih0 _ _ _
      | exact ih1 _ _ _ _ _ _
      | exact postbagref3_announcement.mono _ _ _
      | exact LeO.none _
      | refine LeO.ite ?_ ?_
      | refine LeO.bind ?_ (fun _ => ?_)
set_option maxHeartbeats 8000000 in
set_option maxRecDepth 100000 in
theorem postbagref3_Announced.calls (k : Nat) (a0 : ByteArray) (r1 : Int) (r2 : Bool) (r3 : Bool) (w : World) (h : postbagref3_Announced.f k a0 = some (r1, r2, r3)) :
    Calls Tryd.prog 17 #[.string a0] w fun e w' => e = .returned (.tuple #[.int .i64 r1, .bool r2, .bool r3]) ∧ Below w.heap.size w w' := by
  have HB := Aside0.mk (Below.refl w.heap.size w)
  have H : (postbagref3_Announced.l0 k a0 false 0) = some (r1, r2, r3) := h
  clear h
  have H' := Aside0.mk H
  clear H
  go_enter Tryd.func17, Tryd.ntmps17
  go_wp2
  go_loopg [5, 6] k (fun kq v5 v6 w' => ∃ (x5_1 : Bool) (x6_1 : Int), v5 = .bool x5_1 ∧ v6 = .int .i64 x6_1 ∧ Aside0 (postbagref3_Announced.l0 kq a0 x5_1 x6_1 = some (r1, r2, r3)) ∧ Aside0 (kq ≤ k) ∧ Aside0 (Below w.heap.size w w'))
  case atStart => exact ⟨(false), (0), (by first | rfl | (simp; done) | (simp [*]; done) | (simp [bne, *]; done)), (by first | rfl | (simp; done) | (simp [*]; done) | (simp [bne, *]; done)), H', ⟨Nat.le_refl _⟩, ⟨by repeat (first | (with_reducible first | exact HB.out | apply below_alloc | apply pw_below_drewN | apply below_drew1) | exact HB.out)⟩⟩
  case round =>
    clear H'
    try clear c1
    obtain ⟨x5_1, x6_1, rfl, rfl, HA, HK1, HB⟩ := hrel
    cases gk with
    | zero => exact absurd HA.out (by simp [postbagref3_Announced.l0])
    | succ k1 =>
      have H := HA.out
      clear HA
      simp only [postbagref3_Announced.l0] at H
      by_cases c2 : x6_1 < (a0.size : Int)
      · rw [if_pos c2] at H
        have c2b0 : decide (x6_1 < (a0.size : Int)) = true := decide_eq_true c2
        clear c2
        by_cases c3 : 0 ≤ x6_1
        · rw [if_pos c3] at H
          have c3b0 : decide (0 ≤ x6_1) = true := decide_eq_true c3
          clear c3
          by_cases c5 : x5_1 = true
          · subst c5
            have H1 : (if (bt a0 x6_1) = 92 then (postbagref3_Announced.l0 k1 a0 true (wrap64 ((wrap64 (x6_1 + 1)) + 1))) else (postbagref3_Announced.l0 k1 a0 ((bt a0 x6_1) != 34) (wrap64 (x6_1 + 1)))) = some (r1, r2, r3) := by rw [if_pos rfl] at H; exact H
            clear H
            have H := H1
            clear H1
            by_cases c6 : (bt a0 x6_1) = 92
            · rw [if_pos c6] at H
              have c6b0 : ((bt a0 x6_1) == 92) = true := beq_iff_eq.mpr c6
              have c6b1 : ((bt a0 x6_1) != 92) = false := bne_eq_false_iff_eq.mpr c6
              clear c6
              have H' := Aside0.mk H
              clear H
              have p4 : 0 ≤ (x6_1 : Int) := of_decide_eq_true (by first | (with_reducible assumption) | assumption)
              have q4 : x6_1 < (a0.size : Int) := of_decide_eq_true (by first | (with_reducible assumption) | assumption)
              have hx4 := bt_at a0 x6_1
              replace p4 := eq_true p4
              replace q4 := eq_true q4
              go_wp2
              go_roundg k1
              case measure => have := HK1.out; omega
              case rel => exact ⟨(true), (wrap64 ((wrap64 (x6_1 + 1)) + 1)), (by first | rfl | (simp; done) | (simp [*]; done) | (simp [bne, *]; done)), (by first | rfl | (simp; done) | (simp [*]; done) | (simp [bne, *]; done)), H', ⟨by have := HK1.out; omega⟩, ⟨by repeat (first | (with_reducible first | exact HB.out | apply below_alloc | apply pw_below_drewN | apply below_drew1) | exact HB.out)⟩⟩
            · rw [if_neg c6] at H
              have c6b0 : ((bt a0 x6_1) == 92) = false := beq_eq_false_iff_ne.mpr c6
              have c6b1 : ((bt a0 x6_1) != 92) = true := bne_iff_ne.mpr c6
              have H' := Aside0.mk H
              clear H
              have p4 : 0 ≤ (x6_1 : Int) := of_decide_eq_true (by first | (with_reducible assumption) | assumption)
              have q4 : x6_1 < (a0.size : Int) := of_decide_eq_true (by first | (with_reducible assumption) | assumption)
              have hx4 := bt_at a0 x6_1
              replace p4 := eq_true p4
              replace q4 := eq_true q4
              go_wp2
              go_roundg k1
              case measure => have := HK1.out; omega
              case rel => exact ⟨(((bt a0 x6_1) != 34)), (wrap64 (x6_1 + 1)), (by first | rfl | (simp; done) | (simp [*]; done) | (simp [bne, *]; done)), (by first | rfl | (simp; done) | (simp [*]; done) | (simp [bne, *]; done)), H', ⟨by have := HK1.out; omega⟩, ⟨by repeat (first | (with_reducible first | exact HB.out | apply below_alloc | apply pw_below_drewN | apply below_drew1) | exact HB.out)⟩⟩
          · replace c5 := Bool.eq_false_iff.mpr c5
            subst c5
            have H1 : ((postbagref3_announcement.f k1 a0 x6_1).bind fun bt109 => (if bt109.2.2.2 = true then (postbagref3_Announced.j1 k1 a0 x6_1 (bt a0 x6_1) bt109.1 bt109.2.1 (bt109.2.2.1 == (a0.size : Int))) else (postbagref3_Announced.j1 k1 a0 x6_1 (bt a0 x6_1) bt109.1 bt109.2.1 false))) = some (r1, r2, r3) := by rw [if_neg (show ¬ (false = true) by decide)] at H; exact H
            clear H
            have H := H1
            clear H1
            replace H := Option.bind_eq_some_iff.mp H
            obtain ⟨⟨t109, t110, t111, t112⟩, A70, H⟩ := H
            replace H : (if t112 = true then (postbagref3_Announced.j1 k1 a0 x6_1 (bt a0 x6_1) t109 t110 (t111 == (a0.size : Int))) else (postbagref3_Announced.j1 k1 a0 x6_1 (bt a0 x6_1) t109 t110 false)) = some (r1, r2, r3) := H
            have A7 := Aside0.mk A70
            clear A70
            have HC8 := Aside0.mk H
            clear H
            have p4 : 0 ≤ (x6_1 : Int) := of_decide_eq_true (by first | (with_reducible assumption) | assumption)
            have q4 : x6_1 < (a0.size : Int) := of_decide_eq_true (by first | (with_reducible assumption) | assumption)
            have hx4 := bt_at a0 x6_1
            replace p4 := eq_true p4
            replace q4 := eq_true q4
            go_upto_region 8 with (first | ((with_reducible refine gate_callee (f := 30) rfl ?_); refine goesL_ (some 26) rfl rfl Tryd.func30 (by kernel_rfl) rfl #[.string a0, .int .i64 x6_1] rfl (by (try simp only [List.map_toArray, List.map_cons, List.map_nil]); first | done | rfl | (simp only [List.length_drop, List.length_take]; rfl)) ?_; (with_reducible refine (postbagref3_announcement.calls k1 a0 x6_1 t109 t110 t111 t112 _ A7.out).mono ?_); rintro e w9 ⟨rfl, hb⟩; refine ⟨_, rfl, ?_⟩; have n0_ := Aside0.mk (below_step (by repeat (first | (with_reducible first | exact HB.out | apply below_alloc | apply pw_below_drewN | apply below_drew1) | exact HB.out)) hb); clear HB; have HB := n0_; clear n0_; (try clear hb); (try clear hb2); (try clear hk); (try clear hi)))
            (try simp only [Act.put, List.setIfInBounds_toArray, List.set_cons_zero, List.set_cons_succ])
            go_cut [37] (fun v37 wc => ∃ (kq : Nat) (x37_7 : Bool), v37 = .bool x37_7 ∧ Aside0 (postbagref3_Announced.j1 kq a0 x6_1 (bt a0 x6_1) t109 t110 x37_7 = some (r1, r2, r3)) ∧ Aside0 (kq ≤ k1) ∧ Aside0 (Below w.heap.size w wc))
            case first =>
              have H := HC8.out
              clear HC8
              by_cases c10 : t112 = true
              · subst c10
                have H1 : (postbagref3_Announced.j1 k1 a0 x6_1 (bt a0 x6_1) t109 t110 (t111 == (a0.size : Int))) = some (r1, r2, r3) := by rw [if_pos rfl] at H; exact H
                clear H
                have H := H1
                clear H1
                have H' := Aside0.mk H
                clear H
                go_wp2
                go_meet
                case rel => exact ⟨_, ((t111 == (a0.size : Int))), (by first | rfl | (simp; done) | (simp [*]; done) | (simp [bne, *]; done)), H', ⟨by have := HK1.out; first | omega | exact Nat.le_refl _⟩, ⟨by repeat (first | (with_reducible first | exact HB.out | apply below_alloc | apply pw_below_drewN | apply below_drew1) | exact HB.out)⟩⟩
              · replace c10 := Bool.eq_false_iff.mpr c10
                subst c10
                have H1 : (postbagref3_Announced.j1 k1 a0 x6_1 (bt a0 x6_1) t109 t110 false) = some (r1, r2, r3) := by rw [if_neg (show ¬ (false = true) by decide)] at H; exact H
                clear H
                have H := H1
                clear H1
                have H' := Aside0.mk H
                clear H
                go_wp2
                go_meet
                case rel => exact ⟨_, (false), (by first | rfl | (simp; done) | (simp [*]; done) | (simp [bne, *]; done)), H', ⟨by have := HK1.out; first | omega | exact Nat.le_refl _⟩, ⟨by repeat (first | (with_reducible first | exact HB.out | apply below_alloc | apply pw_below_drewN | apply below_drew1) | exact HB.out)⟩⟩
            case rest =>
              clear HC8
              try clear c1
              try clear c2
              try clear c2b0
              try clear p2
              try clear c3
              try clear c3b0
              try clear p4
              try clear q4
              try clear hx4
              try clear c5
              try clear c6
              try clear c6b0
              try clear c6b1
              try clear p6
              try clear c10
              try clear p4
              try clear q4
              obtain ⟨kq, x37_7, rfl, HA, HJ7, HB⟩ := hcut
              cases kq with
              | zero => exact absurd HA.out (by simp [postbagref3_Announced.j1])
              | succ kj7 =>
                have H := HA.out
                clear HA
                simp only [postbagref3_Announced.j1] at H
                by_cases c11 : x37_7 = true
                · subst c11
                  have H1 : (some (t109, t110, true)) = some (r1, r2, r3) := by rw [if_pos rfl] at H; exact H
                  clear H
                  have H := H1
                  clear H1
                  simp only [Option.some.injEq, Prod.mk.injEq] at H
                  obtain ⟨rfl, rfl, rfl⟩ := H
                  go_wp2
                  go_ret3
                  exact ⟨by first | rfl | (simp [errW_none, errW_some] <;> rfl) | (simp [*, errW_none, errW_some] <;> rfl), by repeat (first | (with_reducible first | exact HB.out | apply below_alloc | apply pw_below_drewN | apply below_drew1) | exact HB.out)⟩
                · replace c11 := Bool.eq_false_iff.mpr c11
                  subst c11
                  have H1 : (postbagref3_Announced.l0 kj7 a0 ((bt a0 x6_1) == 34) (wrap64 (x6_1 + 1))) = some (r1, r2, r3) := by rw [if_neg (show ¬ (false = true) by decide)] at H; exact H
                  clear H
                  have H := H1
                  clear H1
                  have H' := Aside0.mk H
                  clear H
                  go_wp2
                  go_roundg kj7
                  case measure => have := HK1.out; have := HJ7.out; omega
                  case rel => exact ⟨(((bt a0 x6_1) == 34)), (wrap64 (x6_1 + 1)), (by first | rfl | (simp; done) | (simp [*]; done) | (simp [bne, *]; done)), (by first | rfl | (simp; done) | (simp [*]; done) | (simp [bne, *]; done)), H', ⟨by have := HK1.out; have := HJ7.out; omega⟩, ⟨by repeat (first | (with_reducible first | exact HB.out | apply below_alloc | apply pw_below_drewN | apply below_drew1) | exact HB.out)⟩⟩
        · rw [if_neg c3] at H
          exact absurd H (by simp)
      · rw [if_neg c2] at H
        have c2b0 : decide (x6_1 < (a0.size : Int)) = false := decide_eq_false c2
        clear c2
        simp only [Option.some.injEq, Prod.mk.injEq] at H
        obtain ⟨rfl, rfl, rfl⟩ := H
        go_wp2
        go_ret3
        exact ⟨by first | rfl | (simp [errW_none, errW_some] <;> rfl) | (simp [*, errW_none, errW_some] <;> rfl), by repeat (first | (with_reducible first | exact HB.out | apply below_alloc | apply pw_below_drewN | apply below_drew1) | exact HB.out)⟩

end Go.Proofs.YtbgcapgjnflmoaaDoor.PLx
