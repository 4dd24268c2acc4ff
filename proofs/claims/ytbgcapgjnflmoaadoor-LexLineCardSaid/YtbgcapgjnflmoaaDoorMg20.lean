/- Contracts of the functions that the statement reaches, and plain lemmas: PLyx2, PLyx. -/
import Derived.Test.YtbgcapgjnflmoaaDoorMg18
import Derived.Test.YtbgcapgjnflmoaaDoorMg19
set_option linter.unusedVariables false
set_option linter.unusedSimpArgs false
set_option linter.unnecessarySimpa false
-- Written by xprint.py, a program of this session over the kit's print: not the print's own text.
namespace Go.Proofs.YtbgcapgjnflmoaaDoor.PLy
open Go.RowKit Go.Proofs.YtbgcapgjnflmoaaDoorW.PrintWords Go.Proofs.YtbgcapgjnflmoaaDoorW.PrintLast Go.Proofs.YtbgcapgjnflmoaaDoorW.PrintMore
attribute [local go_sem] max2_int min2_int max_two min_two max_three min_three max_four min_four   -- for this text's walks alone
set_option linter.unusedVariables false
set_option linter.unusedSimpArgs false

/-! ### lex_Is: function 36 -/
def lex_Is.f : Nat → Int → ByteArray → Option (Bool)
  | 0, _, _ => none
  | k + 1, a0, a1 => if a1.toList = ([] : List UInt8) then (some false) else (if a0 = 1 then ((lex_all.f k a1 2).bind fun t108 => (some t108)) else (if a0 = 2 then ((lex_all.f k a1 2).bind fun t113 => (if t113 = true then ((octet_Same.f a1 (⟨#[78, 73, 76]⟩ : ByteArray)).bind fun t114 => (some (!t114))) else (some false))) else (if a0 = 3 then ((lex_all.f k a1 2).bind fun t109 => (if t109 = true then (if (a1.size : Int) ≤ 32 then ((strings_Contains.f a1 (⟨#[43]⟩ : ByteArray)).bind fun t110 => (some (!t110))) else (some false)) else (some false))) else (if a0 = 4 then (if 0 < (a1.size : Int) then (if (bt a1 0) = 92 then (if 1 ≤ (a1.size : Int) then ((lex_Is.f k 1 (a1.extract 1 a1.size)).bind fun t115 => (some t115)) else (none)) else ((lex_all.f k a1 2).bind fun t116 => (if t116 = true then (some (decide ((a1.size : Int) ≤ 24))) else (some false)))) else (none)) else (if a0 = 5 then ((lex_all.f k a1 2).bind fun t111 => (if t111 = true then (some (decide ((a1.size : Int) ≤ 24))) else (some false))) else (if a0 = 6 then ((lex_all.f k a1 4).bind fun t112 => (some t112)) else (some false)))))))
theorem lex_Is.mono_l : ∀ k, (∀ y0 y1, LeO (lex_Is.f k y0 y1) (lex_Is.f (k + 1) y0 y1))
  | 0 => fun _ _ r h => by simp [lex_Is.f] at h
  | k + 1 => by
    have ih0 := lex_Is.mono_l k
    · intro y0 y1
      unfold lex_Is.f
      repeat' first
      | (with_reducible exact ih0 _ _)
      | (with_reducible exact lex_all.mono _ _ _)
      | (with_reducible exact LeO.refl _)
      | (with_reducible exact LeO.none _)
      | (with_reducible refine LeO.ite ?_ ?_)
      | (with_reducible refine LeO.bind ?_ (fun _ => ?_))
      | exact ih0 _ _
      | exact lex_all.mono _ _ _
      | exact LeO.none _
      | refine LeO.ite ?_ ?_
      | refine LeO.bind ?_ (fun _ => ?_)
theorem lex_Is.mono : ∀ a0 a1 k, LeO (lex_Is.f k a0 a1) (lex_Is.f (k + 1) a0 a1) := by
  intro a0 a1 k
  have ih0 := lex_Is.mono_l k
  exact ih0 a0 a1
set_option maxHeartbeats 8000000 in
set_option maxRecDepth 100000 in
theorem lex_Is.calls (k : Nat) : ∀ (a0 : Int) (a1 : ByteArray) (r : Bool) (w : World) (h : lex_Is.f k a0 a1 = some r),
    Calls Tryd.prog 36 #[.int .i64 a0, .string a1] w fun e w' => e = .returned (.bool r) ∧ Below w.heap.size w w' := by
  induction k using Nat.strongRecOn with
  | _ k ih =>
  intro a0 a1 r w h
  cases k with
  | zero => exact absurd h (by simp [lex_Is.f])
  | succ k =>
  simp only [lex_Is.f] at h
  have HB := Aside0.mk (Below.refl w.heap.size w)
  have H : (if a1.toList = ([] : List UInt8) then (some false) else (if a0 = 1 then ((lex_all.f k a1 2).bind fun t108 => (some t108)) else (if a0 = 2 then ((lex_all.f k a1 2).bind fun t113 => (if t113 = true then ((octet_Same.f a1 (⟨#[78, 73, 76]⟩ : ByteArray)).bind fun t114 => (some (!t114))) else (some false))) else (if a0 = 3 then ((lex_all.f k a1 2).bind fun t109 => (if t109 = true then (if (a1.size : Int) ≤ 32 then ((strings_Contains.f a1 (⟨#[43]⟩ : ByteArray)).bind fun t110 => (some (!t110))) else (some false)) else (some false))) else (if a0 = 4 then (if 0 < (a1.size : Int) then (if (bt a1 0) = 92 then (if 1 ≤ (a1.size : Int) then ((lex_Is.f k 1 (a1.extract 1 a1.size)).bind fun t115 => (some t115)) else (none)) else ((lex_all.f k a1 2).bind fun t116 => (if t116 = true then (some (decide ((a1.size : Int) ≤ 24))) else (some false)))) else (none)) else (if a0 = 5 then ((lex_all.f k a1 2).bind fun t111 => (if t111 = true then (some (decide ((a1.size : Int) ≤ 24))) else (some false))) else (if a0 = 6 then ((lex_all.f k a1 4).bind fun t112 => (some t112)) else (some false)))))))) = some r := h
  clear h
  by_cases c3 : a1.toList = ([] : List UInt8)
  · rw [if_pos c3] at H
    have c3b0 : (a1.toList == ([] : List UInt8)) = true := beq_iff_eq.mpr c3
    have c3b1 : (a1.toList != ([] : List UInt8)) = false := bne_eq_false_iff_eq.mpr c3
    clear c3
    obtain rfl := Option.some.inj H
    go_enter Tryd.func36, Tryd.ntmps36
    go_wp2
    go_ret
    exact ⟨by first | rfl | (simp [errW_none, errW_some] <;> rfl) | (simp [*, errW_none, errW_some] <;> rfl), by repeat (first | (with_reducible first | exact HB.out | apply below_alloc | apply pw_below_drewN | apply below_drew1) | exact HB.out)⟩
  · rw [if_neg c3] at H
    have c3b0 : (a1.toList == ([] : List UInt8)) = false := beq_eq_false_iff_ne.mpr c3
    have c3b1 : (a1.toList != ([] : List UInt8)) = true := bne_iff_ne.mpr c3
    by_cases c4 : a0 = 1
    · rw [if_pos c4] at H
      have c4b0 : (a0 == 1) = true := beq_iff_eq.mpr c4
      have c4b1 : (a0 != 1) = false := bne_eq_false_iff_eq.mpr c4
      clear c4
      replace H := Option.bind_eq_some_iff.mp H
      obtain ⟨t108, A50, H⟩ := H
      replace H : (some t108) = some r := H
      have A5 := Aside0.mk A50
      clear A50
      obtain rfl := Option.some.inj H
      go_enter Tryd.func36, Tryd.ntmps36
      go_wp2_with (first | ((with_reducible refine gate_callee (f := 33) rfl ?_); refine goesL_ (some 21) rfl rfl Tryd.func33 (by kernel_rfl) rfl #[.string a1, .int .u8 2] rfl (by (try simp only [List.map_toArray, List.map_cons, List.map_nil]); first | done | rfl | (simp only [List.length_drop, List.length_take]; rfl)) ?_; (with_reducible refine (lex_all.calls k a1 2 t108 _ A5.out).mono ?_); rintro e w' ⟨rfl, ⟨nd, rfl⟩⟩; refine ⟨_, rfl, ?_⟩))
      go_ret
      exact ⟨by first | rfl | (simp [errW_none, errW_some] <;> rfl) | (simp [*, errW_none, errW_some] <;> rfl), by repeat (first | (with_reducible first | exact HB.out | apply below_alloc | apply pw_below_drewN | apply below_drew1) | exact HB.out)⟩
    · rw [if_neg c4] at H
      have c4b0 : (a0 == 1) = false := beq_eq_false_iff_ne.mpr c4
      have c4b1 : (a0 != 1) = true := bne_iff_ne.mpr c4
      by_cases c6 : a0 = 2
      · rw [if_pos c6] at H
        have c6b0 : (a0 == 2) = true := beq_iff_eq.mpr c6
        have c6b1 : (a0 != 2) = false := bne_eq_false_iff_eq.mpr c6
        clear c6
        replace H := Option.bind_eq_some_iff.mp H
        obtain ⟨t113, A70, H⟩ := H
        replace H : (if t113 = true then ((octet_Same.f a1 (⟨#[78, 73, 76]⟩ : ByteArray)).bind fun t114 => (some (!t114))) else (some false)) = some r := H
        have A7 := Aside0.mk A70
        clear A70
        by_cases c8 : t113 = true
        · subst c8
          have H1 : ((octet_Same.f a1 (⟨#[78, 73, 76]⟩ : ByteArray)).bind fun t114 => (some (!t114))) = some r := by rw [if_pos rfl] at H; exact H
          clear H
          have H := H1
          clear H1
          replace H := Option.bind_eq_some_iff.mp H
          obtain ⟨t114, A90, H⟩ := H
          replace H : (some (!t114)) = some r := H
          have A9 := Aside0.mk A90
          clear A90
          obtain rfl := Option.some.inj H
          go_enter Tryd.func36, Tryd.ntmps36
          go_wp2_with (first | ((with_reducible refine gate_callee (f := 33) rfl ?_); refine goesL_ (some 23) rfl rfl Tryd.func33 (by kernel_rfl) rfl #[.string a1, .int .u8 2] rfl (by (try simp only [List.map_toArray, List.map_cons, List.map_nil]); first | done | rfl | (simp only [List.length_drop, List.length_take]; rfl)) ?_; (with_reducible refine (lex_all.calls k a1 2 true _ A7.out).mono ?_); rintro e w' ⟨rfl, ⟨nd, rfl⟩⟩; refine ⟨_, rfl, ?_⟩) | (go_at_call 49; (with_reducible refine (octet_Same.calls a1 (⟨#[78, 73, 76]⟩ : ByteArray) t114 _ A9.out).mono ?_); rintro e w10 ⟨rfl, hb⟩; have n0_ := Aside0.mk (below_step (by repeat (first | (with_reducible first | exact HB.out | apply below_alloc | apply pw_below_drewN | apply below_drew1) | exact HB.out)) hb); clear HB; have HB := n0_; clear n0_; (try clear hb); (try clear hb2); (try clear hk); (try clear hi)))
          go_ret
          exact ⟨by first | rfl | (simp [errW_none, errW_some] <;> rfl) | (simp [*, errW_none, errW_some] <;> rfl), by repeat (first | (with_reducible first | exact HB.out | apply below_alloc | apply pw_below_drewN | apply below_drew1) | exact HB.out)⟩
        · replace c8 := Bool.eq_false_iff.mpr c8
          subst c8
          have H1 : (some false) = some r := by rw [if_neg (show ¬ (false = true) by decide)] at H; exact H
          clear H
          have H := H1
          clear H1
          obtain rfl := Option.some.inj H
          go_enter Tryd.func36, Tryd.ntmps36
          go_wp2_with (first | ((with_reducible refine gate_callee (f := 33) rfl ?_); refine goesL_ (some 23) rfl rfl Tryd.func33 (by kernel_rfl) rfl #[.string a1, .int .u8 2] rfl (by (try simp only [List.map_toArray, List.map_cons, List.map_nil]); first | done | rfl | (simp only [List.length_drop, List.length_take]; rfl)) ?_; (with_reducible refine (lex_all.calls k a1 2 false _ A7.out).mono ?_); rintro e w' ⟨rfl, ⟨nd, rfl⟩⟩; refine ⟨_, rfl, ?_⟩))
          go_ret
          exact ⟨by first | rfl | (simp [errW_none, errW_some] <;> rfl) | (simp [*, errW_none, errW_some] <;> rfl), by repeat (first | (with_reducible first | exact HB.out | apply below_alloc | apply pw_below_drewN | apply below_drew1) | exact HB.out)⟩
      · rw [if_neg c6] at H
        have c6b0 : (a0 == 2) = false := beq_eq_false_iff_ne.mpr c6
        have c6b1 : (a0 != 2) = true := bne_iff_ne.mpr c6
        by_cases c11 : a0 = 3
        · rw [if_pos c11] at H
          have c11b0 : (a0 == 3) = true := beq_iff_eq.mpr c11
          have c11b1 : (a0 != 3) = false := bne_eq_false_iff_eq.mpr c11
          clear c11
          replace H := Option.bind_eq_some_iff.mp H
          obtain ⟨t109, A120, H⟩ := H
          replace H : (if t109 = true then (if (a1.size : Int) ≤ 32 then ((strings_Contains.f a1 (⟨#[43]⟩ : ByteArray)).bind fun t110 => (some (!t110))) else (some false)) else (some false)) = some r := H
          have A12 := Aside0.mk A120
          clear A120
          by_cases c13 : t109 = true
          · subst c13
            have H1 : (if (a1.size : Int) ≤ 32 then ((strings_Contains.f a1 (⟨#[43]⟩ : ByteArray)).bind fun t110 => (some (!t110))) else (some false)) = some r := by rw [if_pos rfl] at H; exact H
            clear H
            have H := H1
            clear H1
            by_cases c14 : (a1.size : Int) ≤ 32
            · rw [if_pos c14] at H
              have c14b0 : decide ((a1.size : Int) ≤ 32) = true := decide_eq_true c14
              have c14b1 : decide (a1.size ≤ 32) = true := decide_eq_true (by omega)
              clear c14
              replace H := Option.bind_eq_some_iff.mp H
              obtain ⟨t110, A150, H⟩ := H
              replace H : (some (!t110)) = some r := H
              have A15 := Aside0.mk A150
              clear A150
              obtain rfl := Option.some.inj H
              go_enter Tryd.func36, Tryd.ntmps36
              go_wp2_with (first | ((with_reducible refine gate_callee (f := 33) rfl ?_); refine goesL_ (some 30) rfl rfl Tryd.func33 (by kernel_rfl) rfl #[.string a1, .int .u8 2] rfl (by (try simp only [List.map_toArray, List.map_cons, List.map_nil]); first | done | rfl | (simp only [List.length_drop, List.length_take]; rfl)) ?_; (with_reducible refine (lex_all.calls k a1 2 true _ A12.out).mono ?_); rintro e w' ⟨rfl, ⟨nd, rfl⟩⟩; refine ⟨_, rfl, ?_⟩) | (go_at_call 50; (with_reducible refine (strings_Contains.calls a1 (⟨#[43]⟩ : ByteArray) t110 _ A15.out).mono ?_); rintro e w' ⟨rfl, ⟨nd, rfl⟩⟩))
              go_ret
              exact ⟨by first | rfl | (simp [errW_none, errW_some] <;> rfl) | (simp [*, errW_none, errW_some] <;> rfl), by repeat (first | (with_reducible first | exact HB.out | apply below_alloc | apply pw_below_drewN | apply below_drew1) | exact HB.out)⟩
            · rw [if_neg c14] at H
              have c14b0 : decide ((a1.size : Int) ≤ 32) = false := decide_eq_false c14
              have c14b1 : decide (a1.size ≤ 32) = false := decide_eq_false (by omega)
              clear c14
              obtain rfl := Option.some.inj H
              go_enter Tryd.func36, Tryd.ntmps36
              go_wp2_with (first | ((with_reducible refine gate_callee (f := 33) rfl ?_); refine goesL_ (some 30) rfl rfl Tryd.func33 (by kernel_rfl) rfl #[.string a1, .int .u8 2] rfl (by (try simp only [List.map_toArray, List.map_cons, List.map_nil]); first | done | rfl | (simp only [List.length_drop, List.length_take]; rfl)) ?_; (with_reducible refine (lex_all.calls k a1 2 true _ A12.out).mono ?_); rintro e w' ⟨rfl, ⟨nd, rfl⟩⟩; refine ⟨_, rfl, ?_⟩))
              go_ret
              exact ⟨by first | rfl | (simp [errW_none, errW_some] <;> rfl) | (simp [*, errW_none, errW_some] <;> rfl), by repeat (first | (with_reducible first | exact HB.out | apply below_alloc | apply pw_below_drewN | apply below_drew1) | exact HB.out)⟩
          · replace c13 := Bool.eq_false_iff.mpr c13
            subst c13
            have H1 : (some false) = some r := by rw [if_neg (show ¬ (false = true) by decide)] at H; exact H
            clear H
            have H := H1
            clear H1
            obtain rfl := Option.some.inj H
            go_enter Tryd.func36, Tryd.ntmps36
            go_wp2_with (first | ((with_reducible refine gate_callee (f := 33) rfl ?_); refine goesL_ (some 30) rfl rfl Tryd.func33 (by kernel_rfl) rfl #[.string a1, .int .u8 2] rfl (by (try simp only [List.map_toArray, List.map_cons, List.map_nil]); first | done | rfl | (simp only [List.length_drop, List.length_take]; rfl)) ?_; (with_reducible refine (lex_all.calls k a1 2 false _ A12.out).mono ?_); rintro e w' ⟨rfl, ⟨nd, rfl⟩⟩; refine ⟨_, rfl, ?_⟩))
            go_ret
            exact ⟨by first | rfl | (simp [errW_none, errW_some] <;> rfl) | (simp [*, errW_none, errW_some] <;> rfl), by repeat (first | (with_reducible first | exact HB.out | apply below_alloc | apply pw_below_drewN | apply below_drew1) | exact HB.out)⟩
        · rw [if_neg c11] at H
          have c11b0 : (a0 == 3) = false := beq_eq_false_iff_ne.mpr c11
          have c11b1 : (a0 != 3) = true := bne_iff_ne.mpr c11
          by_cases c16 : a0 = 4
          · rw [if_pos c16] at H
            have c16b0 : (a0 == 4) = true := beq_iff_eq.mpr c16
            have c16b1 : (a0 != 4) = false := bne_eq_false_iff_eq.mpr c16
            clear c16
            by_cases c17 : 0 < (a1.size : Int)
            · rw [if_pos c17] at H
              have c17b0 : decide (0 < (a1.size : Int)) = true := decide_eq_true c17
              have c17b1 : decide (0 < a1.size) = true := decide_eq_true (by omega)
              clear c17
              by_cases c19 : (bt a1 0) = 92
              · rw [if_pos c19] at H
                have c19b0 : ((bt a1 0) == 92) = true := beq_iff_eq.mpr c19
                have c19b1 : ((bt a1 0) != 92) = false := bne_eq_false_iff_eq.mpr c19
                clear c19
                by_cases c20 : 1 ≤ (a1.size : Int)
                · rw [if_pos c20] at H
                  have c20b0 := eq_true c20
                  have c20b1 : decide (1 ≤ (a1.size : Int)) = true := decide_eq_true c20
                  clear c20
                  replace H := Option.bind_eq_some_iff.mp H
                  obtain ⟨t115, A210, H⟩ := H
                  replace H : (some t115) = some r := H
                  have A21 := Aside0.mk A210
                  clear A210
                  obtain rfl := Option.some.inj H
                  have p18 : 0 ≤ (0 : Int) := (by omega)
                  have q18 : 0 < a1.size := (by have : (0 : Int) < (a1.size : Int) := of_decide_eq_true (by first | (with_reducible assumption) | assumption); omega)
                  have hx18 : ∀ h : 0 < a1.size, ((a1[0]'h).toNat : Int) = bt a1 0 := bt_at a1 0
                  clear p18
                  have qi18 : (0 < (a1.size : Int)) = True := eq_true (of_decide_eq_true (by first | (with_reducible assumption) | assumption))
                  replace q18 := eq_true q18
                  go_enter Tryd.func36, Tryd.ntmps36
                  go_wp2_with (first | ((with_reducible refine gate_callee (f := 36) rfl ?_); refine goesL_ (some 46) rfl rfl Tryd.func36 (by kernel_rfl) rfl #[.int .i64 1, .string (a1.extract 1 a1.size)] rfl (by (try simp only [List.map_toArray, List.map_cons, List.map_nil]); first | done | rfl | (simp only [List.length_drop, List.length_take]; rfl)) ?_; (with_reducible refine (ih k (by omega) 1 (a1.extract 1 a1.size) t115 _ A21.out).mono ?_); rintro e w22 ⟨rfl, hb⟩; refine ⟨_, rfl, ?_⟩; have n0_ := Aside0.mk (below_step (by repeat (first | (with_reducible first | exact HB.out | apply below_alloc | apply pw_below_drewN | apply below_drew1) | exact HB.out)) hb); clear HB; have HB := n0_; clear n0_; (try clear hb); (try clear hb2); (try clear hk); (try clear hi)))
                  go_ret
                  exact ⟨by first | rfl | (simp [errW_none, errW_some] <;> rfl) | (simp [*, errW_none, errW_some] <;> rfl), by repeat (first | (with_reducible first | exact HB.out | apply below_alloc | apply pw_below_drewN | apply below_drew1) | exact HB.out)⟩
                · rw [if_neg c20] at H
                  exact absurd H (by simp)
              · rw [if_neg c19] at H
                have c19b0 : ((bt a1 0) == 92) = false := beq_eq_false_iff_ne.mpr c19
                have c19b1 : ((bt a1 0) != 92) = true := bne_iff_ne.mpr c19
                replace H := Option.bind_eq_some_iff.mp H
                obtain ⟨t116, A230, H⟩ := H
                replace H : (if t116 = true then (some (decide ((a1.size : Int) ≤ 24))) else (some false)) = some r := H
                have A23 := Aside0.mk A230
                clear A230
                by_cases c24 : t116 = true
                · subst c24
                  have H1 : (some (decide ((a1.size : Int) ≤ 24))) = some r := by rw [if_pos rfl] at H; exact H
                  clear H
                  have H := H1
                  clear H1
                  obtain rfl := Option.some.inj H
                  have p18 : 0 ≤ (0 : Int) := (by omega)
                  have q18 : 0 < a1.size := (by have : (0 : Int) < (a1.size : Int) := of_decide_eq_true (by first | (with_reducible assumption) | assumption); omega)
                  have hx18 : ∀ h : 0 < a1.size, ((a1[0]'h).toNat : Int) = bt a1 0 := bt_at a1 0
                  clear p18
                  have qi18 : (0 < (a1.size : Int)) = True := eq_true (of_decide_eq_true (by first | (with_reducible assumption) | assumption))
                  replace q18 := eq_true q18
                  go_enter Tryd.func36, Tryd.ntmps36
                  go_wp2_with (first | ((with_reducible refine gate_callee (f := 33) rfl ?_); refine goesL_ (some 48) rfl rfl Tryd.func33 (by kernel_rfl) rfl #[.string a1, .int .u8 2] rfl (by (try simp only [List.map_toArray, List.map_cons, List.map_nil]); first | done | rfl | (simp only [List.length_drop, List.length_take]; rfl)) ?_; (with_reducible refine (lex_all.calls k a1 2 true _ A23.out).mono ?_); rintro e w' ⟨rfl, ⟨nd, rfl⟩⟩; refine ⟨_, rfl, ?_⟩))
                  go_ret
                  exact ⟨by first | rfl | (simp [errW_none, errW_some] <;> rfl) | (simp [*, errW_none, errW_some] <;> rfl), by repeat (first | (with_reducible first | exact HB.out | apply below_alloc | apply pw_below_drewN | apply below_drew1) | exact HB.out)⟩
                · replace c24 := Bool.eq_false_iff.mpr c24
                  subst c24
                  have H1 : (some false) = some r := by rw [if_neg (show ¬ (false = true) by decide)] at H; exact H
                  clear H
                  have H := H1
                  clear H1
                  obtain rfl := Option.some.inj H
                  have p18 : 0 ≤ (0 : Int) := (by omega)
                  have q18 : 0 < a1.size := (by have : (0 : Int) < (a1.size : Int) := of_decide_eq_true (by first | (with_reducible assumption) | assumption); omega)
                  have hx18 : ∀ h : 0 < a1.size, ((a1[0]'h).toNat : Int) = bt a1 0 := bt_at a1 0
                  clear p18
                  have qi18 : (0 < (a1.size : Int)) = True := eq_true (of_decide_eq_true (by first | (with_reducible assumption) | assumption))
                  replace q18 := eq_true q18
                  go_enter Tryd.func36, Tryd.ntmps36
                  go_wp2_with (first | ((with_reducible refine gate_callee (f := 33) rfl ?_); refine goesL_ (some 48) rfl rfl Tryd.func33 (by kernel_rfl) rfl #[.string a1, .int .u8 2] rfl (by (try simp only [List.map_toArray, List.map_cons, List.map_nil]); first | done | rfl | (simp only [List.length_drop, List.length_take]; rfl)) ?_; (with_reducible refine (lex_all.calls k a1 2 false _ A23.out).mono ?_); rintro e w' ⟨rfl, ⟨nd, rfl⟩⟩; refine ⟨_, rfl, ?_⟩))
                  go_ret
                  exact ⟨by first | rfl | (simp [errW_none, errW_some] <;> rfl) | (simp [*, errW_none, errW_some] <;> rfl), by repeat (first | (with_reducible first | exact HB.out | apply below_alloc | apply pw_below_drewN | apply below_drew1) | exact HB.out)⟩
            · rw [if_neg c17] at H
              exact absurd H (by simp)
          · rw [if_neg c16] at H
            have c16b0 : (a0 == 4) = false := beq_eq_false_iff_ne.mpr c16
            have c16b1 : (a0 != 4) = true := bne_iff_ne.mpr c16
            by_cases c25 : a0 = 5
            · rw [if_pos c25] at H
              have c25b0 : (a0 == 5) = true := beq_iff_eq.mpr c25
              have c25b1 : (a0 != 5) = false := bne_eq_false_iff_eq.mpr c25
              clear c25
              replace H := Option.bind_eq_some_iff.mp H
              obtain ⟨t111, A260, H⟩ := H
              replace H : (if t111 = true then (some (decide ((a1.size : Int) ≤ 24))) else (some false)) = some r := H
              have A26 := Aside0.mk A260
              clear A260
              by_cases c27 : t111 = true
              · subst c27
                have H1 : (some (decide ((a1.size : Int) ≤ 24))) = some r := by rw [if_pos rfl] at H; exact H
                clear H
                have H := H1
                clear H1
                obtain rfl := Option.some.inj H
                go_enter Tryd.func36, Tryd.ntmps36
                go_wp2_with (first | ((with_reducible refine gate_callee (f := 33) rfl ?_); refine goesL_ (some 48) rfl rfl Tryd.func33 (by kernel_rfl) rfl #[.string a1, .int .u8 2] rfl (by (try simp only [List.map_toArray, List.map_cons, List.map_nil]); first | done | rfl | (simp only [List.length_drop, List.length_take]; rfl)) ?_; (with_reducible refine (lex_all.calls k a1 2 true _ A26.out).mono ?_); rintro e w' ⟨rfl, ⟨nd, rfl⟩⟩; refine ⟨_, rfl, ?_⟩))
                go_ret
                exact ⟨by first | rfl | (simp [errW_none, errW_some] <;> rfl) | (simp [*, errW_none, errW_some] <;> rfl), by repeat (first | (with_reducible first | exact HB.out | apply below_alloc | apply pw_below_drewN | apply below_drew1) | exact HB.out)⟩
              · replace c27 := Bool.eq_false_iff.mpr c27
                subst c27
                have H1 : (some false) = some r := by rw [if_neg (show ¬ (false = true) by decide)] at H; exact H
                clear H
                have H := H1
                clear H1
                obtain rfl := Option.some.inj H
                go_enter Tryd.func36, Tryd.ntmps36
                go_wp2_with (first | ((with_reducible refine gate_callee (f := 33) rfl ?_); refine goesL_ (some 48) rfl rfl Tryd.func33 (by kernel_rfl) rfl #[.string a1, .int .u8 2] rfl (by (try simp only [List.map_toArray, List.map_cons, List.map_nil]); first | done | rfl | (simp only [List.length_drop, List.length_take]; rfl)) ?_; (with_reducible refine (lex_all.calls k a1 2 false _ A26.out).mono ?_); rintro e w' ⟨rfl, ⟨nd, rfl⟩⟩; refine ⟨_, rfl, ?_⟩))
                go_ret
                exact ⟨by first | rfl | (simp [errW_none, errW_some] <;> rfl) | (simp [*, errW_none, errW_some] <;> rfl), by repeat (first | (with_reducible first | exact HB.out | apply below_alloc | apply pw_below_drewN | apply below_drew1) | exact HB.out)⟩
            · rw [if_neg c25] at H
              have c25b0 : (a0 == 5) = false := beq_eq_false_iff_ne.mpr c25
              have c25b1 : (a0 != 5) = true := bne_iff_ne.mpr c25
              by_cases c28 : a0 = 6
              · rw [if_pos c28] at H
                have c28b0 : (a0 == 6) = true := beq_iff_eq.mpr c28
                have c28b1 : (a0 != 6) = false := bne_eq_false_iff_eq.mpr c28
                clear c28
                replace H := Option.bind_eq_some_iff.mp H
                obtain ⟨t112, A290, H⟩ := H
                replace H : (some t112) = some r := H
                have A29 := Aside0.mk A290
                clear A290
                obtain rfl := Option.some.inj H
                go_enter Tryd.func36, Tryd.ntmps36
                go_wp2_with (first | ((with_reducible refine gate_callee (f := 33) rfl ?_); refine goesL_ (some 55) rfl rfl Tryd.func33 (by kernel_rfl) rfl #[.string a1, .int .u8 4] rfl (by (try simp only [List.map_toArray, List.map_cons, List.map_nil]); first | done | rfl | (simp only [List.length_drop, List.length_take]; rfl)) ?_; (with_reducible refine (lex_all.calls k a1 4 t112 _ A29.out).mono ?_); rintro e w' ⟨rfl, ⟨nd, rfl⟩⟩; refine ⟨_, rfl, ?_⟩))
                go_ret
                exact ⟨by first | rfl | (simp [errW_none, errW_some] <;> rfl) | (simp [*, errW_none, errW_some] <;> rfl), by repeat (first | (with_reducible first | exact HB.out | apply below_alloc | apply pw_below_drewN | apply below_drew1) | exact HB.out)⟩
              · rw [if_neg c28] at H
                have c28b0 : (a0 == 6) = false := beq_eq_false_iff_ne.mpr c28
                have c28b1 : (a0 != 6) = true := bne_iff_ne.mpr c28
                obtain rfl := Option.some.inj H
                go_enter Tryd.func36, Tryd.ntmps36
                go_wp2
                go_ret
                exact ⟨by first | rfl | (simp [errW_none, errW_some] <;> rfl) | (simp [*, errW_none, errW_some] <;> rfl), by repeat (first | (with_reducible first | exact HB.out | apply below_alloc | apply pw_below_drewN | apply below_drew1) | exact HB.out)⟩

/-! ### lex_Put: function 20 -/
def lex_Put.f (k : Nat) (a0 : ByteArray) : Option (ByteArray) := (lex_Is.f k 2 a0).bind fun t117 => (if t117 = true then (some a0) else ((lex_String.f k a0).bind fun t118 => (some t118)))
theorem lex_Put.mono : ∀ a0 k, LeO (lex_Put.f k a0) (lex_Put.f (k + 1) a0) := by
  intro a0 k
  unfold lex_Put.f
  repeat' first
      | (with_reducible exact lex_Is.mono _ _ _)
      | (with_reducible exact lex_String.mono _ _)
      | (with_reducible exact LeO.refl _)
      | (with_reducible exact LeO.none _)
      | (with_reducible refine LeO.ite ?_ ?_)
      | (with_reducible refine LeO.bind ?_ (fun _ => ?_))
      | exact lex_Is.mono _ _ _
      | exact lex_String.mono _ _
      | exact LeO.none _
      | refine LeO.ite ?_ ?_
      | refine LeO.bind ?_ (fun _ => ?_)
set_option maxHeartbeats 8000000 in
set_option maxRecDepth 100000 in
theorem lex_Put.calls (k : Nat) (a0 : ByteArray) (r : ByteArray) (w : World) (h : lex_Put.f k a0 = some r) (HW0 : Ext.WP w) :
    Calls Tryd.prog 20 #[.string a0] w fun e w' => e = .returned (.string r) ∧ Below w.heap.size w w' := by
  have HW := Aside0.mk HW0
  clear HW0
  have HB := Aside0.mk (Below.refl w.heap.size w)
  have H : ((lex_Is.f k 2 a0).bind fun t117 => (if t117 = true then (some a0) else ((lex_String.f k a0).bind fun t118 => (some t118)))) = some r := h
  clear h
  replace H := Option.bind_eq_some_iff.mp H
  obtain ⟨t117, A20, H⟩ := H
  replace H : (if t117 = true then (some a0) else ((lex_String.f k a0).bind fun t118 => (some t118))) = some r := H
  have A2 := Aside0.mk A20
  clear A20
  by_cases c3 : t117 = true
  · subst c3
    have H1 : (some a0) = some r := by rw [if_pos rfl] at H; exact H
    clear H
    have H := H1
    clear H1
    obtain rfl := Option.some.inj H
    go_enter Tryd.func20, Tryd.ntmps20
    go_wp2_with (first | ((with_reducible refine gate_callee (f := 36) rfl ?_); refine goesL_ (some 4) rfl rfl Tryd.func36 (by kernel_rfl) rfl #[.int .i64 2, .string a0] rfl (by (try simp only [List.map_toArray, List.map_cons, List.map_nil]); first | done | rfl | (simp only [List.length_drop, List.length_take]; rfl)) ?_; (with_reducible refine (lex_Is.calls k 2 a0 true _ A2.out).mono ?_); rintro e w4 ⟨rfl, hb⟩; refine ⟨_, rfl, ?_⟩; have n0_ := Aside0.mk (below_step (by repeat (first | (with_reducible first | exact HB.out | apply below_alloc | apply pw_below_drewN | apply below_drew1) | exact HB.out)) hb); clear HB; have HB := n0_; clear n0_; (try clear hb); (try clear hb2); (try clear hk); (try clear hi)))
    go_ret
    exact ⟨by first | rfl | (simp [errW_none, errW_some] <;> rfl) | (simp [*, errW_none, errW_some] <;> rfl), by repeat (first | (with_reducible first | exact HB.out | apply below_alloc | apply pw_below_drewN | apply below_drew1) | exact HB.out)⟩
  · replace c3 := Bool.eq_false_iff.mpr c3
    subst c3
    have H1 : ((lex_String.f k a0).bind fun t118 => (some t118)) = some r := by rw [if_neg (show ¬ (false = true) by decide)] at H; exact H
    clear H
    have H := H1
    clear H1
    replace H := Option.bind_eq_some_iff.mp H
    obtain ⟨t118, A50, H⟩ := H
    replace H : (some t118) = some r := H
    have A5 := Aside0.mk A50
    clear A50
    obtain rfl := Option.some.inj H
    go_enter Tryd.func20, Tryd.ntmps20
    go_wp2_with (first | ((with_reducible refine gate_callee (f := 36) rfl ?_); refine goesL_ (some 4) rfl rfl Tryd.func36 (by kernel_rfl) rfl #[.int .i64 2, .string a0] rfl (by (try simp only [List.map_toArray, List.map_cons, List.map_nil]); first | done | rfl | (simp only [List.length_drop, List.length_take]; rfl)) ?_; (with_reducible refine (lex_Is.calls k 2 a0 false _ A2.out).mono ?_); rintro e w6 ⟨rfl, hb⟩; refine ⟨_, rfl, ?_⟩; have n0_ := Aside0.mk (below_step (by repeat (first | (with_reducible first | exact HB.out | apply below_alloc | apply pw_below_drewN | apply below_drew1) | exact HB.out)) hb); clear HB; have HB := n0_; clear n0_; (try clear hb); (try clear hb2); (try clear hk); (try clear hi)) | ((with_reducible refine gate_callee (f := 19) rfl ?_); refine goesL_ (some 7) rfl rfl Tryd.func19 (by kernel_rfl) rfl #[.string a0] rfl (by (try simp only [List.map_toArray, List.map_cons, List.map_nil]); first | done | rfl | (simp only [List.length_drop, List.length_take]; rfl)) ?_; (with_reducible refine (lex_String.calls k a0 t118 _ A5.out ?hwp2_).mono ?_); (case hwp2_ => exact Ext.WP.below HW.out (by repeat (first | (with_reducible first | exact HB.out | apply below_alloc | apply pw_below_drewN | apply below_drew1) | exact HB.out))); rintro e w7 ⟨rfl, hb⟩; refine ⟨_, rfl, ?_⟩; have n0_ := Aside0.mk (below_step (by repeat (first | (with_reducible first | exact HB.out | apply below_alloc | apply pw_below_drewN | apply below_drew1) | exact HB.out)) hb); clear HB; have HB := n0_; clear n0_; (try clear hb); (try clear hb2); (try clear hk); (try clear hi)))
    go_ret
    exact ⟨by first | rfl | (simp [errW_none, errW_some] <;> rfl) | (simp [*, errW_none, errW_some] <;> rfl), by repeat (first | (with_reducible first | exact HB.out | apply below_alloc | apply pw_below_drewN | apply below_drew1) | exact HB.out)⟩

end Go.Proofs.YtbgcapgjnflmoaaDoor.PLy

-- Written by xprint.py, a program of this session over the kit's print: not the print's own text.
namespace Go.Proofs.YtbgcapgjnflmoaaDoor.PLy
open Go.RowKit Go.Proofs.YtbgcapgjnflmoaaDoorW.PrintWords Go.Proofs.YtbgcapgjnflmoaaDoorW.PrintLast Go.Proofs.YtbgcapgjnflmoaaDoorW.PrintMore
attribute [local go_sem] max2_int min2_int max_two min_two max_three min_three max_four min_four   -- for this text's walks alone
set_option linter.unusedVariables false
set_option linter.unusedSimpArgs false

end Go.Proofs.YtbgcapgjnflmoaaDoor.PLy
