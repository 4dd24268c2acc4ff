-- Written by xprint.py, a program of this session over the kit's print: not the print's own text.
import Derived.Test.YtkfehogefclhdaaDoorPLtx0
import Derived.Test.YtkfehogefclhdaaDoorPLtx2
namespace Go.Proofs.YtkfehogefclhdaaDoor.PLt
open Go.RowKit Go.Proofs.YtkfehogefclhdaaDoorW.PrintWords Go.Proofs.YtkfehogefclhdaaDoorW.PrintLast Go.Proofs.YtkfehogefclhdaaDoorW.PrintMore
attribute [local go_sem] max2_int min2_int max_two min_two max_three min_three max_four min_four   -- for this text's walks alone
set_option linter.unusedVariables false
set_option linter.unusedSimpArgs false

/-! ### postbaglaw3_LexOrders: function 5 -/
mutual
def postbaglaw3_LexOrders.j0 : Nat → ByteArray → Bool → Bool → Option (Bool)
  | 0, _, _, _ => none
  | k + 1, x0, x3, x35 => if x35 = true then (some false) else ((lex_Is.f k 5 x0).bind fun t135 => (if t135 = true then ((lex_Is.f k 4 x0).bind fun t136 => (if t136 = true then (if 1 + x0.size ≤ 9223372036854775807 then ((lex_Is.f k 4 ((⟨#[92]⟩ : ByteArray) ++ x0)).bind fun t137 => (if (t137 != x3) = true then (postbaglaw3_LexOrders.j1 k x0 x3 true) else ((lex_Put.f k x0).bind fun t138 => ((lex_Is.f k 2 x0).bind fun t139 => (postbaglaw3_LexOrders.j1 k x0 x3 ((t138.toList == x0.toList) != t139)))))) else (none)) else (postbaglaw3_LexOrders.j1 k x0 x3 true))) else (if 1 + x0.size ≤ 9223372036854775807 then ((lex_Is.f k 4 ((⟨#[92]⟩ : ByteArray) ++ x0)).bind fun t140 => (if (t140 != x3) = true then (postbaglaw3_LexOrders.j1 k x0 x3 true) else ((lex_Put.f k x0).bind fun t141 => ((lex_Is.f k 2 x0).bind fun t142 => (postbaglaw3_LexOrders.j1 k x0 x3 ((t141.toList == x0.toList) != t142)))))) else (none))))
def postbaglaw3_LexOrders.j1 : Nat → ByteArray → Bool → Bool → Option (Bool)
  | 0, _, _, _ => none
  | k + 1, x0, x3, x58 => if x58 = true then (some false) else ((lex_Is.f k 5 x0).bind fun t143 => (if x3 = true then (if (t143 == (decide ((x0.size : Int) ≤ 24))) = true then ((lex_Is.f k 3 (⟨#[116]⟩ : ByteArray)).bind fun t144 => (if t144 = true then ((lex_Is.f k 3 (⟨#[43]⟩ : ByteArray)).bind fun t145 => (if t145 = true then (some false) else ((lex_Is.f k 2 (⟨#[110, 73, 108]⟩ : ByteArray)).bind fun t146 => (some (!t146))))) else (some false))) else (some false)) else (if (t143 == false) = true then ((lex_Is.f k 3 (⟨#[116]⟩ : ByteArray)).bind fun t147 => (if t147 = true then ((lex_Is.f k 3 (⟨#[43]⟩ : ByteArray)).bind fun t148 => (if t148 = true then (some false) else ((lex_Is.f k 2 (⟨#[110, 73, 108]⟩ : ByteArray)).bind fun t149 => (some (!t149))))) else (some false))) else (some false))))
end
def postbaglaw3_LexOrders.f (k : Nat) (a0 : ByteArray) : Option (Bool) := (lex_Is.f k 1 a0).bind fun t119 => ((lex_Is.f k 2 a0).bind fun t120 => (if t120 = true then (if t119 = true then ((lex_Is.f k 3 a0).bind fun t121 => (if t121 = true then ((lex_Is.f k 5 a0).bind fun t122 => (if t122 = true then ((lex_Is.f k 6 a0).bind fun t123 => (postbaglaw3_LexOrders.j0 k a0 t119 (!t123))) else ((lex_Is.f k 6 a0).bind fun t124 => (postbaglaw3_LexOrders.j0 k a0 t119 (!t124))))) else ((lex_Is.f k 5 a0).bind fun t125 => (if t125 = true then ((lex_Is.f k 6 a0).bind fun t126 => (postbaglaw3_LexOrders.j0 k a0 t119 (!t126))) else ((lex_Is.f k 6 a0).bind fun t127 => (postbaglaw3_LexOrders.j0 k a0 t119 (!t127))))))) else (postbaglaw3_LexOrders.j0 k a0 t119 true)) else ((lex_Is.f k 3 a0).bind fun t128 => (if t128 = true then (if t119 = true then ((lex_Is.f k 5 a0).bind fun t129 => (if t129 = true then ((lex_Is.f k 6 a0).bind fun t130 => (postbaglaw3_LexOrders.j0 k a0 t119 (!t130))) else ((lex_Is.f k 6 a0).bind fun t131 => (postbaglaw3_LexOrders.j0 k a0 t119 (!t131))))) else (postbaglaw3_LexOrders.j0 k a0 t119 true)) else ((lex_Is.f k 5 a0).bind fun t132 => (if t132 = true then (if t119 = true then ((lex_Is.f k 6 a0).bind fun t133 => (postbaglaw3_LexOrders.j0 k a0 t119 (!t133))) else (postbaglaw3_LexOrders.j0 k a0 t119 true)) else (if t119 = true then ((lex_Is.f k 6 a0).bind fun t134 => (postbaglaw3_LexOrders.j0 k a0 t119 (!t134))) else (postbaglaw3_LexOrders.j0 k a0 t119 false))))))))
theorem postbaglaw3_LexOrders.mono_l : ∀ k, (∀ y0 y1 y2, LeO (postbaglaw3_LexOrders.j0 k y0 y1 y2) (postbaglaw3_LexOrders.j0 (k + 1) y0 y1 y2)) ∧ (∀ y0 y1 y2, LeO (postbaglaw3_LexOrders.j1 k y0 y1 y2) (postbaglaw3_LexOrders.j1 (k + 1) y0 y1 y2))
  | 0 => ⟨fun _ _ _ r h => by simp [postbaglaw3_LexOrders.j0] at h, fun _ _ _ r h => by simp [postbaglaw3_LexOrders.j1] at h⟩
  | k + 1 => by
    obtain ⟨ih0, ih1⟩ := postbaglaw3_LexOrders.mono_l k
    refine ⟨?_, ?_⟩
    · intro y0 y1 y2
      unfold postbaglaw3_LexOrders.j0
      repeat' first
      | (with_reducible exact ih0 _ _ _)
      | (with_reducible exact ih1 _ _ _)
      | (with_reducible exact lex_Is.mono _ _ _)
      | (with_reducible exact lex_Put.mono _ _)
      | (with_reducible exact LeO.refl _)
      | (with_reducible exact LeO.none _)
      | (with_reducible refine LeO.ite ?_ ?_)
      | (with_reducible refine LeO.bind ?_ (fun _ => ?_))
      | exact ih0 _ _ _
      | exact ih1 _ _ _
      | exact lex_Is.mono _ _ _
      | exact lex_Put.mono _ _
      | exact LeO.none _
      | refine LeO.ite ?_ ?_
      | refine LeO.bind ?_ (fun _ => ?_)
    · intro y0 y1 y2
      unfold postbaglaw3_LexOrders.j1
      repeat' first
      | (with_reducible exact ih0 _ _ _)
      | (with_reducible exact ih1 _ _ _)
      | (with_reducible exact lex_Is.mono _ _ _)
      | (with_reducible exact lex_Put.mono _ _)
      | (with_reducible exact LeO.refl _)
      | (with_reducible exact LeO.none _)
      | (with_reducible refine LeO.ite ?_ ?_)
      | (with_reducible refine LeO.bind ?_ (fun _ => ?_))
      | exact ih0 _ _ _
      | exact ih1 _ _ _
      | exact lex_Is.mono _ _ _
      | exact lex_Put.mono _ _
      | exact LeO.none _
      | refine LeO.ite ?_ ?_
      | refine LeO.bind ?_ (fun _ => ?_)
theorem postbaglaw3_LexOrders.mono : ∀ a0 k, LeO (postbaglaw3_LexOrders.f k a0) (postbaglaw3_LexOrders.f (k + 1) a0) := by
  intro a0 k
  obtain ⟨ih0, ih1⟩ := postbaglaw3_LexOrders.mono_l k
  unfold postbaglaw3_LexOrders.f
  repeat' first
      | (with_reducible exact ih0 _ _ _)
      | (with_reducible exact ih1 _ _ _)
      | (with_reducible exact lex_Is.mono _ _ _)
      | (with_reducible exact lex_Put.mono _ _)
      | (with_reducible exact LeO.refl _)
      | (with_reducible exact LeO.none _)
      | (with_reducible refine LeO.ite ?_ ?_)
      | (with_reducible refine LeO.bind ?_ (fun _ => ?_))
      | exact ih0 _ _ _
      | exact ih1 _ _ _
      | exact lex_Is.mono _ _ _
      | exact lex_Put.mono _ _
      | exact LeO.none _
      | refine LeO.ite ?_ ?_
      | refine LeO.bind ?_ (fun _ => ?_)
set_option maxHeartbeats 8000000 in
set_option maxRecDepth 100000 in
theorem postbaglaw3_LexOrders.calls (k : Nat) (a0 : ByteArray) (r : Bool) (w : World) (h : postbaglaw3_LexOrders.f k a0 = some r) (HW0 : Ext.WP w) :
    Calls Tryd.prog 5 #[.string a0] w fun e w' => e = .returned (.bool r) ∧ Below w.heap.size w w' := by
  have HW := Aside0.mk HW0
  clear HW0
  have HB := Aside0.mk (Below.refl w.heap.size w)
  have H : ((lex_Is.f k 1 a0).bind fun t119 => ((lex_Is.f k 2 a0).bind fun t120 => (if t120 = true then (if t119 = true then ((lex_Is.f k 3 a0).bind fun t121 => (if t121 = true then ((lex_Is.f k 5 a0).bind fun t122 => (if t122 = true then ((lex_Is.f k 6 a0).bind fun t123 => (postbaglaw3_LexOrders.j0 k a0 t119 (!t123))) else ((lex_Is.f k 6 a0).bind fun t124 => (postbaglaw3_LexOrders.j0 k a0 t119 (!t124))))) else ((lex_Is.f k 5 a0).bind fun t125 => (if t125 = true then ((lex_Is.f k 6 a0).bind fun t126 => (postbaglaw3_LexOrders.j0 k a0 t119 (!t126))) else ((lex_Is.f k 6 a0).bind fun t127 => (postbaglaw3_LexOrders.j0 k a0 t119 (!t127))))))) else (postbaglaw3_LexOrders.j0 k a0 t119 true)) else ((lex_Is.f k 3 a0).bind fun t128 => (if t128 = true then (if t119 = true then ((lex_Is.f k 5 a0).bind fun t129 => (if t129 = true then ((lex_Is.f k 6 a0).bind fun t130 => (postbaglaw3_LexOrders.j0 k a0 t119 (!t130))) else ((lex_Is.f k 6 a0).bind fun t131 => (postbaglaw3_LexOrders.j0 k a0 t119 (!t131))))) else (postbaglaw3_LexOrders.j0 k a0 t119 true)) else ((lex_Is.f k 5 a0).bind fun t132 => (if t132 = true then (if t119 = true then ((lex_Is.f k 6 a0).bind fun t133 => (postbaglaw3_LexOrders.j0 k a0 t119 (!t133))) else (postbaglaw3_LexOrders.j0 k a0 t119 true)) else (if t119 = true then ((lex_Is.f k 6 a0).bind fun t134 => (postbaglaw3_LexOrders.j0 k a0 t119 (!t134))) else (postbaglaw3_LexOrders.j0 k a0 t119 false))))))))) = some r := h
  clear h
  replace H := Option.bind_eq_some_iff.mp H
  obtain ⟨t119, A20, H⟩ := H
  replace H : ((lex_Is.f k 2 a0).bind fun t120 => (if t120 = true then (if t119 = true then ((lex_Is.f k 3 a0).bind fun t121 => (if t121 = true then ((lex_Is.f k 5 a0).bind fun t122 => (if t122 = true then ((lex_Is.f k 6 a0).bind fun t123 => (postbaglaw3_LexOrders.j0 k a0 t119 (!t123))) else ((lex_Is.f k 6 a0).bind fun t124 => (postbaglaw3_LexOrders.j0 k a0 t119 (!t124))))) else ((lex_Is.f k 5 a0).bind fun t125 => (if t125 = true then ((lex_Is.f k 6 a0).bind fun t126 => (postbaglaw3_LexOrders.j0 k a0 t119 (!t126))) else ((lex_Is.f k 6 a0).bind fun t127 => (postbaglaw3_LexOrders.j0 k a0 t119 (!t127))))))) else (postbaglaw3_LexOrders.j0 k a0 t119 true)) else ((lex_Is.f k 3 a0).bind fun t128 => (if t128 = true then (if t119 = true then ((lex_Is.f k 5 a0).bind fun t129 => (if t129 = true then ((lex_Is.f k 6 a0).bind fun t130 => (postbaglaw3_LexOrders.j0 k a0 t119 (!t130))) else ((lex_Is.f k 6 a0).bind fun t131 => (postbaglaw3_LexOrders.j0 k a0 t119 (!t131))))) else (postbaglaw3_LexOrders.j0 k a0 t119 true)) else ((lex_Is.f k 5 a0).bind fun t132 => (if t132 = true then (if t119 = true then ((lex_Is.f k 6 a0).bind fun t133 => (postbaglaw3_LexOrders.j0 k a0 t119 (!t133))) else (postbaglaw3_LexOrders.j0 k a0 t119 true)) else (if t119 = true then ((lex_Is.f k 6 a0).bind fun t134 => (postbaglaw3_LexOrders.j0 k a0 t119 (!t134))) else (postbaglaw3_LexOrders.j0 k a0 t119 false)))))))) = some r := H
  have A2 := Aside0.mk A20
  clear A20
  have HC3 := Aside0.mk H
  clear H
  go_enter Tryd.func5, Tryd.ntmps5
  go_upto_region 2 with (first | ((with_reducible refine gate_callee (f := 25) rfl ?_); refine goesL_ (some 5) rfl rfl Tryd.func25 (by kernel_rfl) rfl #[.int .i64 1, .string a0] rfl (by (try simp only [List.map_toArray, List.map_cons, List.map_nil]); first | done | rfl | (simp only [List.length_drop, List.length_take]; rfl)) ?_; (with_reducible refine (lex_Is.calls k 1 a0 t119 _ A2.out).mono ?_); rintro e w4 ⟨rfl, hb⟩; refine ⟨_, rfl, ?_⟩; have n0_ := Aside0.mk (below_step (by repeat (first | (with_reducible first | exact HB.out | apply below_alloc | apply pw_below_drewN | apply below_drew1) | exact HB.out)) hb); clear HB; have HB := n0_; clear n0_; (try clear hb); (try clear hb2); (try clear hk); (try clear hi)))
  (try simp only [Act.put, List.setIfInBounds_toArray, List.set_cons_zero, List.set_cons_succ])
  go_cut [35] (fun v35 wc => ∃ (kq : Nat) (x35_2 : Bool), v35 = .bool x35_2 ∧ Aside0 (postbaglaw3_LexOrders.j0 kq a0 t119 x35_2 = some r) ∧ Aside0 (kq ≤ k) ∧ Aside0 (Below w.heap.size w wc))
  case first =>
    have H := HC3.out
    clear HC3
    replace H := Option.bind_eq_some_iff.mp H
    obtain ⟨t120, A50, H⟩ := H
    replace H : (if t120 = true then (if t119 = true then ((lex_Is.f k 3 a0).bind fun t121 => (if t121 = true then ((lex_Is.f k 5 a0).bind fun t122 => (if t122 = true then ((lex_Is.f k 6 a0).bind fun t123 => (postbaglaw3_LexOrders.j0 k a0 t119 (!t123))) else ((lex_Is.f k 6 a0).bind fun t124 => (postbaglaw3_LexOrders.j0 k a0 t119 (!t124))))) else ((lex_Is.f k 5 a0).bind fun t125 => (if t125 = true then ((lex_Is.f k 6 a0).bind fun t126 => (postbaglaw3_LexOrders.j0 k a0 t119 (!t126))) else ((lex_Is.f k 6 a0).bind fun t127 => (postbaglaw3_LexOrders.j0 k a0 t119 (!t127))))))) else (postbaglaw3_LexOrders.j0 k a0 t119 true)) else ((lex_Is.f k 3 a0).bind fun t128 => (if t128 = true then (if t119 = true then ((lex_Is.f k 5 a0).bind fun t129 => (if t129 = true then ((lex_Is.f k 6 a0).bind fun t130 => (postbaglaw3_LexOrders.j0 k a0 t119 (!t130))) else ((lex_Is.f k 6 a0).bind fun t131 => (postbaglaw3_LexOrders.j0 k a0 t119 (!t131))))) else (postbaglaw3_LexOrders.j0 k a0 t119 true)) else ((lex_Is.f k 5 a0).bind fun t132 => (if t132 = true then (if t119 = true then ((lex_Is.f k 6 a0).bind fun t133 => (postbaglaw3_LexOrders.j0 k a0 t119 (!t133))) else (postbaglaw3_LexOrders.j0 k a0 t119 true)) else (if t119 = true then ((lex_Is.f k 6 a0).bind fun t134 => (postbaglaw3_LexOrders.j0 k a0 t119 (!t134))) else (postbaglaw3_LexOrders.j0 k a0 t119 false))))))) = some r := H
    have A5 := Aside0.mk A50
    clear A50
    by_cases c6 : t120 = true
    · subst c6
      have H1 : (if t119 = true then ((lex_Is.f k 3 a0).bind fun t121 => (if t121 = true then ((lex_Is.f k 5 a0).bind fun t122 => (if t122 = true then ((lex_Is.f k 6 a0).bind fun t123 => (postbaglaw3_LexOrders.j0 k a0 t119 (!t123))) else ((lex_Is.f k 6 a0).bind fun t124 => (postbaglaw3_LexOrders.j0 k a0 t119 (!t124))))) else ((lex_Is.f k 5 a0).bind fun t125 => (if t125 = true then ((lex_Is.f k 6 a0).bind fun t126 => (postbaglaw3_LexOrders.j0 k a0 t119 (!t126))) else ((lex_Is.f k 6 a0).bind fun t127 => (postbaglaw3_LexOrders.j0 k a0 t119 (!t127))))))) else (postbaglaw3_LexOrders.j0 k a0 t119 true)) = some r := by rw [if_pos rfl] at H; exact H
      clear H
      have H := H1
      clear H1
      by_cases c7 : t119 = true
      · subst c7
        have H1 : ((lex_Is.f k 3 a0).bind fun t121 => (if t121 = true then ((lex_Is.f k 5 a0).bind fun t122 => (if t122 = true then ((lex_Is.f k 6 a0).bind fun t123 => (postbaglaw3_LexOrders.j0 k a0 true (!t123))) else ((lex_Is.f k 6 a0).bind fun t124 => (postbaglaw3_LexOrders.j0 k a0 true (!t124))))) else ((lex_Is.f k 5 a0).bind fun t125 => (if t125 = true then ((lex_Is.f k 6 a0).bind fun t126 => (postbaglaw3_LexOrders.j0 k a0 true (!t126))) else ((lex_Is.f k 6 a0).bind fun t127 => (postbaglaw3_LexOrders.j0 k a0 true (!t127))))))) = some r := by rw [if_pos rfl] at H; exact H
        clear H
        have H := H1
        clear H1
        replace H := Option.bind_eq_some_iff.mp H
        obtain ⟨t121, A80, H⟩ := H
        replace H : (if t121 = true then ((lex_Is.f k 5 a0).bind fun t122 => (if t122 = true then ((lex_Is.f k 6 a0).bind fun t123 => (postbaglaw3_LexOrders.j0 k a0 true (!t123))) else ((lex_Is.f k 6 a0).bind fun t124 => (postbaglaw3_LexOrders.j0 k a0 true (!t124))))) else ((lex_Is.f k 5 a0).bind fun t125 => (if t125 = true then ((lex_Is.f k 6 a0).bind fun t126 => (postbaglaw3_LexOrders.j0 k a0 true (!t126))) else ((lex_Is.f k 6 a0).bind fun t127 => (postbaglaw3_LexOrders.j0 k a0 true (!t127)))))) = some r := H
        have A8 := Aside0.mk A80
        clear A80
        by_cases c9 : t121 = true
        · subst c9
          have H1 : ((lex_Is.f k 5 a0).bind fun t122 => (if t122 = true then ((lex_Is.f k 6 a0).bind fun t123 => (postbaglaw3_LexOrders.j0 k a0 true (!t123))) else ((lex_Is.f k 6 a0).bind fun t124 => (postbaglaw3_LexOrders.j0 k a0 true (!t124))))) = some r := by rw [if_pos rfl] at H; exact H
          clear H
          have H := H1
          clear H1
          replace H := Option.bind_eq_some_iff.mp H
          obtain ⟨t122, A100, H⟩ := H
          replace H : (if t122 = true then ((lex_Is.f k 6 a0).bind fun t123 => (postbaglaw3_LexOrders.j0 k a0 true (!t123))) else ((lex_Is.f k 6 a0).bind fun t124 => (postbaglaw3_LexOrders.j0 k a0 true (!t124)))) = some r := H
          have A10 := Aside0.mk A100
          clear A100
          by_cases c11 : t122 = true
          · subst c11
            have H1 : ((lex_Is.f k 6 a0).bind fun t123 => (postbaglaw3_LexOrders.j0 k a0 true (!t123))) = some r := by rw [if_pos rfl] at H; exact H
            clear H
            have H := H1
            clear H1
            replace H := Option.bind_eq_some_iff.mp H
            obtain ⟨t123, A120, H⟩ := H
            replace H : (postbaglaw3_LexOrders.j0 k a0 true (!t123)) = some r := H
            have A12 := Aside0.mk A120
            clear A120
            have H' := Aside0.mk H
            clear H
            go_wp2_with (first | ((with_reducible refine gate_callee (f := 25) rfl ?_); refine goesL_ (some 7) rfl rfl Tryd.func25 (by kernel_rfl) rfl #[.int .i64 2, .string a0] rfl (by (try simp only [List.map_toArray, List.map_cons, List.map_nil]); first | done | rfl | (simp only [List.length_drop, List.length_take]; rfl)) ?_; (with_reducible refine (lex_Is.calls k 2 a0 true _ A5.out).mono ?_); rintro e w13 ⟨rfl, hb⟩; refine ⟨_, rfl, ?_⟩; have n0_ := Aside0.mk (below_step (by repeat (first | (with_reducible first | exact HB.out | apply below_alloc | apply pw_below_drewN | apply below_drew1) | exact HB.out)) hb); clear HB; have HB := n0_; clear n0_; (try clear hb); (try clear hb2); (try clear hk); (try clear hi)) | (go_at_call 25; (with_reducible refine (lex_Is.calls k 3 a0 true _ A8.out).mono ?_); rintro e w14 ⟨rfl, hb⟩; have n0_ := Aside0.mk (below_step (by repeat (first | (with_reducible first | exact HB.out | apply below_alloc | apply pw_below_drewN | apply below_drew1) | exact HB.out)) hb); clear HB; have HB := n0_; clear n0_; (try clear hb); (try clear hb2); (try clear hk); (try clear hi)) | (go_at_call 25; (with_reducible refine (lex_Is.calls k 5 a0 true _ A10.out).mono ?_); rintro e w15 ⟨rfl, hb⟩; have n0_ := Aside0.mk (below_step (by repeat (first | (with_reducible first | exact HB.out | apply below_alloc | apply pw_below_drewN | apply below_drew1) | exact HB.out)) hb); clear HB; have HB := n0_; clear n0_; (try clear hb); (try clear hb2); (try clear hk); (try clear hi)) | (go_at_call 25; (with_reducible refine (lex_Is.calls k 6 a0 t123 _ A12.out).mono ?_); rintro e w16 ⟨rfl, hb⟩; have n0_ := Aside0.mk (below_step (by repeat (first | (with_reducible first | exact HB.out | apply below_alloc | apply pw_below_drewN | apply below_drew1) | exact HB.out)) hb); clear HB; have HB := n0_; clear n0_; (try clear hb); (try clear hb2); (try clear hk); (try clear hi)))
            go_meet
            case rel => exact ⟨_, (!t123), (by first | rfl | (simp; done) | (simp [*]; done) | (simp [bne, *]; done)), H', ⟨by first | omega | exact Nat.le_refl _⟩, ⟨by repeat (first | (with_reducible first | exact HB.out | apply below_alloc | apply pw_below_drewN | apply below_drew1) | exact HB.out)⟩⟩
          · replace c11 := Bool.eq_false_iff.mpr c11
            subst c11
            have H1 : ((lex_Is.f k 6 a0).bind fun t124 => (postbaglaw3_LexOrders.j0 k a0 true (!t124))) = some r := by rw [if_neg (show ¬ (false = true) by decide)] at H; exact H
            clear H
            have H := H1
            clear H1
            replace H := Option.bind_eq_some_iff.mp H
            obtain ⟨t124, A170, H⟩ := H
            replace H : (postbaglaw3_LexOrders.j0 k a0 true (!t124)) = some r := H
            have A17 := Aside0.mk A170
            clear A170
            have H' := Aside0.mk H
            clear H
            go_wp2_with (first | ((with_reducible refine gate_callee (f := 25) rfl ?_); refine goesL_ (some 7) rfl rfl Tryd.func25 (by kernel_rfl) rfl #[.int .i64 2, .string a0] rfl (by (try simp only [List.map_toArray, List.map_cons, List.map_nil]); first | done | rfl | (simp only [List.length_drop, List.length_take]; rfl)) ?_; (with_reducible refine (lex_Is.calls k 2 a0 true _ A5.out).mono ?_); rintro e w18 ⟨rfl, hb⟩; refine ⟨_, rfl, ?_⟩; have n0_ := Aside0.mk (below_step (by repeat (first | (with_reducible first | exact HB.out | apply below_alloc | apply pw_below_drewN | apply below_drew1) | exact HB.out)) hb); clear HB; have HB := n0_; clear n0_; (try clear hb); (try clear hb2); (try clear hk); (try clear hi)) | (go_at_call 25; (with_reducible refine (lex_Is.calls k 3 a0 true _ A8.out).mono ?_); rintro e w19 ⟨rfl, hb⟩; have n0_ := Aside0.mk (below_step (by repeat (first | (with_reducible first | exact HB.out | apply below_alloc | apply pw_below_drewN | apply below_drew1) | exact HB.out)) hb); clear HB; have HB := n0_; clear n0_; (try clear hb); (try clear hb2); (try clear hk); (try clear hi)) | (go_at_call 25; (with_reducible refine (lex_Is.calls k 5 a0 false _ A10.out).mono ?_); rintro e w20 ⟨rfl, hb⟩; have n0_ := Aside0.mk (below_step (by repeat (first | (with_reducible first | exact HB.out | apply below_alloc | apply pw_below_drewN | apply below_drew1) | exact HB.out)) hb); clear HB; have HB := n0_; clear n0_; (try clear hb); (try clear hb2); (try clear hk); (try clear hi)) | (go_at_call 25; (with_reducible refine (lex_Is.calls k 6 a0 t124 _ A17.out).mono ?_); rintro e w21 ⟨rfl, hb⟩; have n0_ := Aside0.mk (below_step (by repeat (first | (with_reducible first | exact HB.out | apply below_alloc | apply pw_below_drewN | apply below_drew1) | exact HB.out)) hb); clear HB; have HB := n0_; clear n0_; (try clear hb); (try clear hb2); (try clear hk); (try clear hi)))
            go_meet
            case rel => exact ⟨_, (!t124), (by first | rfl | (simp; done) | (simp [*]; done) | (simp [bne, *]; done)), H', ⟨by first | omega | exact Nat.le_refl _⟩, ⟨by repeat (first | (with_reducible first | exact HB.out | apply below_alloc | apply pw_below_drewN | apply below_drew1) | exact HB.out)⟩⟩
        · replace c9 := Bool.eq_false_iff.mpr c9
          subst c9
          have H1 : ((lex_Is.f k 5 a0).bind fun t125 => (if t125 = true then ((lex_Is.f k 6 a0).bind fun t126 => (postbaglaw3_LexOrders.j0 k a0 true (!t126))) else ((lex_Is.f k 6 a0).bind fun t127 => (postbaglaw3_LexOrders.j0 k a0 true (!t127))))) = some r := by rw [if_neg (show ¬ (false = true) by decide)] at H; exact H
          clear H
          have H := H1
          clear H1
          replace H := Option.bind_eq_some_iff.mp H
          obtain ⟨t125, A220, H⟩ := H
          replace H : (if t125 = true then ((lex_Is.f k 6 a0).bind fun t126 => (postbaglaw3_LexOrders.j0 k a0 true (!t126))) else ((lex_Is.f k 6 a0).bind fun t127 => (postbaglaw3_LexOrders.j0 k a0 true (!t127)))) = some r := H
          have A22 := Aside0.mk A220
          clear A220
          by_cases c23 : t125 = true
          · subst c23
            have H1 : ((lex_Is.f k 6 a0).bind fun t126 => (postbaglaw3_LexOrders.j0 k a0 true (!t126))) = some r := by rw [if_pos rfl] at H; exact H
            clear H
            have H := H1
            clear H1
            replace H := Option.bind_eq_some_iff.mp H
            obtain ⟨t126, A240, H⟩ := H
            replace H : (postbaglaw3_LexOrders.j0 k a0 true (!t126)) = some r := H
            have A24 := Aside0.mk A240
            clear A240
            have H' := Aside0.mk H
            clear H
            go_wp2_with (first | ((with_reducible refine gate_callee (f := 25) rfl ?_); refine goesL_ (some 7) rfl rfl Tryd.func25 (by kernel_rfl) rfl #[.int .i64 2, .string a0] rfl (by (try simp only [List.map_toArray, List.map_cons, List.map_nil]); first | done | rfl | (simp only [List.length_drop, List.length_take]; rfl)) ?_; (with_reducible refine (lex_Is.calls k 2 a0 true _ A5.out).mono ?_); rintro e w25 ⟨rfl, hb⟩; refine ⟨_, rfl, ?_⟩; have n0_ := Aside0.mk (below_step (by repeat (first | (with_reducible first | exact HB.out | apply below_alloc | apply pw_below_drewN | apply below_drew1) | exact HB.out)) hb); clear HB; have HB := n0_; clear n0_; (try clear hb); (try clear hb2); (try clear hk); (try clear hi)) | (go_at_call 25; (with_reducible refine (lex_Is.calls k 3 a0 false _ A8.out).mono ?_); rintro e w26 ⟨rfl, hb⟩; have n0_ := Aside0.mk (below_step (by repeat (first | (with_reducible first | exact HB.out | apply below_alloc | apply pw_below_drewN | apply below_drew1) | exact HB.out)) hb); clear HB; have HB := n0_; clear n0_; (try clear hb); (try clear hb2); (try clear hk); (try clear hi)) | (go_at_call 25; (with_reducible refine (lex_Is.calls k 5 a0 true _ A22.out).mono ?_); rintro e w27 ⟨rfl, hb⟩; have n0_ := Aside0.mk (below_step (by repeat (first | (with_reducible first | exact HB.out | apply below_alloc | apply pw_below_drewN | apply below_drew1) | exact HB.out)) hb); clear HB; have HB := n0_; clear n0_; (try clear hb); (try clear hb2); (try clear hk); (try clear hi)) | (go_at_call 25; (with_reducible refine (lex_Is.calls k 6 a0 t126 _ A24.out).mono ?_); rintro e w28 ⟨rfl, hb⟩; have n0_ := Aside0.mk (below_step (by repeat (first | (with_reducible first | exact HB.out | apply below_alloc | apply pw_below_drewN | apply below_drew1) | exact HB.out)) hb); clear HB; have HB := n0_; clear n0_; (try clear hb); (try clear hb2); (try clear hk); (try clear hi)))
            go_meet
            case rel => exact ⟨_, (!t126), (by first | rfl | (simp; done) | (simp [*]; done) | (simp [bne, *]; done)), H', ⟨by first | omega | exact Nat.le_refl _⟩, ⟨by repeat (first | (with_reducible first | exact HB.out | apply below_alloc | apply pw_below_drewN | apply below_drew1) | exact HB.out)⟩⟩
          · replace c23 := Bool.eq_false_iff.mpr c23
            subst c23
            have H1 : ((lex_Is.f k 6 a0).bind fun t127 => (postbaglaw3_LexOrders.j0 k a0 true (!t127))) = some r := by rw [if_neg (show ¬ (false = true) by decide)] at H; exact H
            clear H
            have H := H1
            clear H1
            replace H := Option.bind_eq_some_iff.mp H
            obtain ⟨t127, A290, H⟩ := H
            replace H : (postbaglaw3_LexOrders.j0 k a0 true (!t127)) = some r := H
            have A29 := Aside0.mk A290
            clear A290
            have H' := Aside0.mk H
            clear H
            go_wp2_with (first | ((with_reducible refine gate_callee (f := 25) rfl ?_); refine goesL_ (some 7) rfl rfl Tryd.func25 (by kernel_rfl) rfl #[.int .i64 2, .string a0] rfl (by (try simp only [List.map_toArray, List.map_cons, List.map_nil]); first | done | rfl | (simp only [List.length_drop, List.length_take]; rfl)) ?_; (with_reducible refine (lex_Is.calls k 2 a0 true _ A5.out).mono ?_); rintro e w30 ⟨rfl, hb⟩; refine ⟨_, rfl, ?_⟩; have n0_ := Aside0.mk (below_step (by repeat (first | (with_reducible first | exact HB.out | apply below_alloc | apply pw_below_drewN | apply below_drew1) | exact HB.out)) hb); clear HB; have HB := n0_; clear n0_; (try clear hb); (try clear hb2); (try clear hk); (try clear hi)) | (go_at_call 25; (with_reducible refine (lex_Is.calls k 3 a0 false _ A8.out).mono ?_); rintro e w31 ⟨rfl, hb⟩; have n0_ := Aside0.mk (below_step (by repeat (first | (with_reducible first | exact HB.out | apply below_alloc | apply pw_below_drewN | apply below_drew1) | exact HB.out)) hb); clear HB; have HB := n0_; clear n0_; (try clear hb); (try clear hb2); (try clear hk); (try clear hi)) | (go_at_call 25; (with_reducible refine (lex_Is.calls k 5 a0 false _ A22.out).mono ?_); rintro e w32 ⟨rfl, hb⟩; have n0_ := Aside0.mk (below_step (by repeat (first | (with_reducible first | exact HB.out | apply below_alloc | apply pw_below_drewN | apply below_drew1) | exact HB.out)) hb); clear HB; have HB := n0_; clear n0_; (try clear hb); (try clear hb2); (try clear hk); (try clear hi)) | (go_at_call 25; (with_reducible refine (lex_Is.calls k 6 a0 t127 _ A29.out).mono ?_); rintro e w33 ⟨rfl, hb⟩; have n0_ := Aside0.mk (below_step (by repeat (first | (with_reducible first | exact HB.out | apply below_alloc | apply pw_below_drewN | apply below_drew1) | exact HB.out)) hb); clear HB; have HB := n0_; clear n0_; (try clear hb); (try clear hb2); (try clear hk); (try clear hi)))
            go_meet
            case rel => exact ⟨_, (!t127), (by first | rfl | (simp; done) | (simp [*]; done) | (simp [bne, *]; done)), H', ⟨by first | omega | exact Nat.le_refl _⟩, ⟨by repeat (first | (with_reducible first | exact HB.out | apply below_alloc | apply pw_below_drewN | apply below_drew1) | exact HB.out)⟩⟩
      · replace c7 := Bool.eq_false_iff.mpr c7
        subst c7
        have H1 : (postbaglaw3_LexOrders.j0 k a0 false true) = some r := by rw [if_neg (show ¬ (false = true) by decide)] at H; exact H
        clear H
        have H := H1
        clear H1
        have H' := Aside0.mk H
        clear H
        go_wp2_with (first | ((with_reducible refine gate_callee (f := 25) rfl ?_); refine goesL_ (some 7) rfl rfl Tryd.func25 (by kernel_rfl) rfl #[.int .i64 2, .string a0] rfl (by (try simp only [List.map_toArray, List.map_cons, List.map_nil]); first | done | rfl | (simp only [List.length_drop, List.length_take]; rfl)) ?_; (with_reducible refine (lex_Is.calls k 2 a0 true _ A5.out).mono ?_); rintro e w34 ⟨rfl, hb⟩; refine ⟨_, rfl, ?_⟩; have n0_ := Aside0.mk (below_step (by repeat (first | (with_reducible first | exact HB.out | apply below_alloc | apply pw_below_drewN | apply below_drew1) | exact HB.out)) hb); clear HB; have HB := n0_; clear n0_; (try clear hb); (try clear hb2); (try clear hk); (try clear hi)))
        go_meet
        case rel => exact ⟨_, (true), (by first | rfl | (simp; done) | (simp [*]; done) | (simp [bne, *]; done)), H', ⟨by first | omega | exact Nat.le_refl _⟩, ⟨by repeat (first | (with_reducible first | exact HB.out | apply below_alloc | apply pw_below_drewN | apply below_drew1) | exact HB.out)⟩⟩
    · replace c6 := Bool.eq_false_iff.mpr c6
      subst c6
      have H1 : ((lex_Is.f k 3 a0).bind fun t128 => (if t128 = true then (if t119 = true then ((lex_Is.f k 5 a0).bind fun t129 => (if t129 = true then ((lex_Is.f k 6 a0).bind fun t130 => (postbaglaw3_LexOrders.j0 k a0 t119 (!t130))) else ((lex_Is.f k 6 a0).bind fun t131 => (postbaglaw3_LexOrders.j0 k a0 t119 (!t131))))) else (postbaglaw3_LexOrders.j0 k a0 t119 true)) else ((lex_Is.f k 5 a0).bind fun t132 => (if t132 = true then (if t119 = true then ((lex_Is.f k 6 a0).bind fun t133 => (postbaglaw3_LexOrders.j0 k a0 t119 (!t133))) else (postbaglaw3_LexOrders.j0 k a0 t119 true)) else (if t119 = true then ((lex_Is.f k 6 a0).bind fun t134 => (postbaglaw3_LexOrders.j0 k a0 t119 (!t134))) else (postbaglaw3_LexOrders.j0 k a0 t119 false)))))) = some r := by rw [if_neg (show ¬ (false = true) by decide)] at H; exact H
      clear H
      have H := H1
      clear H1
      replace H := Option.bind_eq_some_iff.mp H
      obtain ⟨t128, A350, H⟩ := H
      replace H : (if t128 = true then (if t119 = true then ((lex_Is.f k 5 a0).bind fun t129 => (if t129 = true then ((lex_Is.f k 6 a0).bind fun t130 => (postbaglaw3_LexOrders.j0 k a0 t119 (!t130))) else ((lex_Is.f k 6 a0).bind fun t131 => (postbaglaw3_LexOrders.j0 k a0 t119 (!t131))))) else (postbaglaw3_LexOrders.j0 k a0 t119 true)) else ((lex_Is.f k 5 a0).bind fun t132 => (if t132 = true then (if t119 = true then ((lex_Is.f k 6 a0).bind fun t133 => (postbaglaw3_LexOrders.j0 k a0 t119 (!t133))) else (postbaglaw3_LexOrders.j0 k a0 t119 true)) else (if t119 = true then ((lex_Is.f k 6 a0).bind fun t134 => (postbaglaw3_LexOrders.j0 k a0 t119 (!t134))) else (postbaglaw3_LexOrders.j0 k a0 t119 false))))) = some r := H
      have A35 := Aside0.mk A350
      clear A350
      by_cases c36 : t128 = true
      · subst c36
        have H1 : (if t119 = true then ((lex_Is.f k 5 a0).bind fun t129 => (if t129 = true then ((lex_Is.f k 6 a0).bind fun t130 => (postbaglaw3_LexOrders.j0 k a0 t119 (!t130))) else ((lex_Is.f k 6 a0).bind fun t131 => (postbaglaw3_LexOrders.j0 k a0 t119 (!t131))))) else (postbaglaw3_LexOrders.j0 k a0 t119 true)) = some r := by rw [if_pos rfl] at H; exact H
        clear H
        have H := H1
        clear H1
        by_cases c37 : t119 = true
        · subst c37
          have H1 : ((lex_Is.f k 5 a0).bind fun t129 => (if t129 = true then ((lex_Is.f k 6 a0).bind fun t130 => (postbaglaw3_LexOrders.j0 k a0 true (!t130))) else ((lex_Is.f k 6 a0).bind fun t131 => (postbaglaw3_LexOrders.j0 k a0 true (!t131))))) = some r := by rw [if_pos rfl] at H; exact H
          clear H
          have H := H1
          clear H1
          replace H := Option.bind_eq_some_iff.mp H
          obtain ⟨t129, A380, H⟩ := H
          replace H : (if t129 = true then ((lex_Is.f k 6 a0).bind fun t130 => (postbaglaw3_LexOrders.j0 k a0 true (!t130))) else ((lex_Is.f k 6 a0).bind fun t131 => (postbaglaw3_LexOrders.j0 k a0 true (!t131)))) = some r := H
          have A38 := Aside0.mk A380
          clear A380
          by_cases c39 : t129 = true
          · subst c39
            have H1 : ((lex_Is.f k 6 a0).bind fun t130 => (postbaglaw3_LexOrders.j0 k a0 true (!t130))) = some r := by rw [if_pos rfl] at H; exact H
            clear H
            have H := H1
            clear H1
            replace H := Option.bind_eq_some_iff.mp H
            obtain ⟨t130, A400, H⟩ := H
            replace H : (postbaglaw3_LexOrders.j0 k a0 true (!t130)) = some r := H
            have A40 := Aside0.mk A400
            clear A400
            have H' := Aside0.mk H
            clear H
            go_wp2_with (first | ((with_reducible refine gate_callee (f := 25) rfl ?_); refine goesL_ (some 7) rfl rfl Tryd.func25 (by kernel_rfl) rfl #[.int .i64 2, .string a0] rfl (by (try simp only [List.map_toArray, List.map_cons, List.map_nil]); first | done | rfl | (simp only [List.length_drop, List.length_take]; rfl)) ?_; (with_reducible refine (lex_Is.calls k 2 a0 false _ A5.out).mono ?_); rintro e w41 ⟨rfl, hb⟩; refine ⟨_, rfl, ?_⟩; have n0_ := Aside0.mk (below_step (by repeat (first | (with_reducible first | exact HB.out | apply below_alloc | apply pw_below_drewN | apply below_drew1) | exact HB.out)) hb); clear HB; have HB := n0_; clear n0_; (try clear hb); (try clear hb2); (try clear hk); (try clear hi)) | (go_at_call 25; (with_reducible refine (lex_Is.calls k 3 a0 true _ A35.out).mono ?_); rintro e w42 ⟨rfl, hb⟩; have n0_ := Aside0.mk (below_step (by repeat (first | (with_reducible first | exact HB.out | apply below_alloc | apply pw_below_drewN | apply below_drew1) | exact HB.out)) hb); clear HB; have HB := n0_; clear n0_; (try clear hb); (try clear hb2); (try clear hk); (try clear hi)) | (go_at_call 25; (with_reducible refine (lex_Is.calls k 5 a0 true _ A38.out).mono ?_); rintro e w43 ⟨rfl, hb⟩; have n0_ := Aside0.mk (below_step (by repeat (first | (with_reducible first | exact HB.out | apply below_alloc | apply pw_below_drewN | apply below_drew1) | exact HB.out)) hb); clear HB; have HB := n0_; clear n0_; (try clear hb); (try clear hb2); (try clear hk); (try clear hi)) | (go_at_call 25; (with_reducible refine (lex_Is.calls k 6 a0 t130 _ A40.out).mono ?_); rintro e w44 ⟨rfl, hb⟩; have n0_ := Aside0.mk (below_step (by repeat (first | (with_reducible first | exact HB.out | apply below_alloc | apply pw_below_drewN | apply below_drew1) | exact HB.out)) hb); clear HB; have HB := n0_; clear n0_; (try clear hb); (try clear hb2); (try clear hk); (try clear hi)))
            go_meet
            case rel => exact ⟨_, (!t130), (by first | rfl | (simp; done) | (simp [*]; done) | (simp [bne, *]; done)), H', ⟨by first | omega | exact Nat.le_refl _⟩, ⟨by repeat (first | (with_reducible first | exact HB.out | apply below_alloc | apply pw_below_drewN | apply below_drew1) | exact HB.out)⟩⟩
          · replace c39 := Bool.eq_false_iff.mpr c39
            subst c39
            have H1 : ((lex_Is.f k 6 a0).bind fun t131 => (postbaglaw3_LexOrders.j0 k a0 true (!t131))) = some r := by rw [if_neg (show ¬ (false = true) by decide)] at H; exact H
            clear H
            have H := H1
            clear H1
            replace H := Option.bind_eq_some_iff.mp H
            obtain ⟨t131, A450, H⟩ := H
            replace H : (postbaglaw3_LexOrders.j0 k a0 true (!t131)) = some r := H
            have A45 := Aside0.mk A450
            clear A450
            have H' := Aside0.mk H
            clear H
            go_wp2_with (first | ((with_reducible refine gate_callee (f := 25) rfl ?_); refine goesL_ (some 7) rfl rfl Tryd.func25 (by kernel_rfl) rfl #[.int .i64 2, .string a0] rfl (by (try simp only [List.map_toArray, List.map_cons, List.map_nil]); first | done | rfl | (simp only [List.length_drop, List.length_take]; rfl)) ?_; (with_reducible refine (lex_Is.calls k 2 a0 false _ A5.out).mono ?_); rintro e w46 ⟨rfl, hb⟩; refine ⟨_, rfl, ?_⟩; have n0_ := Aside0.mk (below_step (by repeat (first | (with_reducible first | exact HB.out | apply below_alloc | apply pw_below_drewN | apply below_drew1) | exact HB.out)) hb); clear HB; have HB := n0_; clear n0_; (try clear hb); (try clear hb2); (try clear hk); (try clear hi)) | (go_at_call 25; (with_reducible refine (lex_Is.calls k 3 a0 true _ A35.out).mono ?_); rintro e w47 ⟨rfl, hb⟩; have n0_ := Aside0.mk (below_step (by repeat (first | (with_reducible first | exact HB.out | apply below_alloc | apply pw_below_drewN | apply below_drew1) | exact HB.out)) hb); clear HB; have HB := n0_; clear n0_; (try clear hb); (try clear hb2); (try clear hk); (try clear hi)) | (go_at_call 25; (with_reducible refine (lex_Is.calls k 5 a0 false _ A38.out).mono ?_); rintro e w48 ⟨rfl, hb⟩; have n0_ := Aside0.mk (below_step (by repeat (first | (with_reducible first | exact HB.out | apply below_alloc | apply pw_below_drewN | apply below_drew1) | exact HB.out)) hb); clear HB; have HB := n0_; clear n0_; (try clear hb); (try clear hb2); (try clear hk); (try clear hi)) | (go_at_call 25; (with_reducible refine (lex_Is.calls k 6 a0 t131 _ A45.out).mono ?_); rintro e w49 ⟨rfl, hb⟩; have n0_ := Aside0.mk (below_step (by repeat (first | (with_reducible first | exact HB.out | apply below_alloc | apply pw_below_drewN | apply below_drew1) | exact HB.out)) hb); clear HB; have HB := n0_; clear n0_; (try clear hb); (try clear hb2); (try clear hk); (try clear hi)))
            go_meet
            case rel => exact ⟨_, (!t131), (by first | rfl | (simp; done) | (simp [*]; done) | (simp [bne, *]; done)), H', ⟨by first | omega | exact Nat.le_refl _⟩, ⟨by repeat (first | (with_reducible first | exact HB.out | apply below_alloc | apply pw_below_drewN | apply below_drew1) | exact HB.out)⟩⟩
        · replace c37 := Bool.eq_false_iff.mpr c37
          subst c37
          have H1 : (postbaglaw3_LexOrders.j0 k a0 false true) = some r := by rw [if_neg (show ¬ (false = true) by decide)] at H; exact H
          clear H
          have H := H1
          clear H1
          have H' := Aside0.mk H
          clear H
          go_wp2_with (first | ((with_reducible refine gate_callee (f := 25) rfl ?_); refine goesL_ (some 7) rfl rfl Tryd.func25 (by kernel_rfl) rfl #[.int .i64 2, .string a0] rfl (by (try simp only [List.map_toArray, List.map_cons, List.map_nil]); first | done | rfl | (simp only [List.length_drop, List.length_take]; rfl)) ?_; (with_reducible refine (lex_Is.calls k 2 a0 false _ A5.out).mono ?_); rintro e w50 ⟨rfl, hb⟩; refine ⟨_, rfl, ?_⟩; have n0_ := Aside0.mk (below_step (by repeat (first | (with_reducible first | exact HB.out | apply below_alloc | apply pw_below_drewN | apply below_drew1) | exact HB.out)) hb); clear HB; have HB := n0_; clear n0_; (try clear hb); (try clear hb2); (try clear hk); (try clear hi)) | (go_at_call 25; (with_reducible refine (lex_Is.calls k 3 a0 true _ A35.out).mono ?_); rintro e w51 ⟨rfl, hb⟩; have n0_ := Aside0.mk (below_step (by repeat (first | (with_reducible first | exact HB.out | apply below_alloc | apply pw_below_drewN | apply below_drew1) | exact HB.out)) hb); clear HB; have HB := n0_; clear n0_; (try clear hb); (try clear hb2); (try clear hk); (try clear hi)))
          go_meet
          case rel => exact ⟨_, (true), (by first | rfl | (simp; done) | (simp [*]; done) | (simp [bne, *]; done)), H', ⟨by first | omega | exact Nat.le_refl _⟩, ⟨by repeat (first | (with_reducible first | exact HB.out | apply below_alloc | apply pw_below_drewN | apply below_drew1) | exact HB.out)⟩⟩
      · replace c36 := Bool.eq_false_iff.mpr c36
        subst c36
        have H1 : ((lex_Is.f k 5 a0).bind fun t132 => (if t132 = true then (if t119 = true then ((lex_Is.f k 6 a0).bind fun t133 => (postbaglaw3_LexOrders.j0 k a0 t119 (!t133))) else (postbaglaw3_LexOrders.j0 k a0 t119 true)) else (if t119 = true then ((lex_Is.f k 6 a0).bind fun t134 => (postbaglaw3_LexOrders.j0 k a0 t119 (!t134))) else (postbaglaw3_LexOrders.j0 k a0 t119 false)))) = some r := by rw [if_neg (show ¬ (false = true) by decide)] at H; exact H
        clear H
        have H := H1
        clear H1
        replace H := Option.bind_eq_some_iff.mp H
        obtain ⟨t132, A520, H⟩ := H
        replace H : (if t132 = true then (if t119 = true then ((lex_Is.f k 6 a0).bind fun t133 => (postbaglaw3_LexOrders.j0 k a0 t119 (!t133))) else (postbaglaw3_LexOrders.j0 k a0 t119 true)) else (if t119 = true then ((lex_Is.f k 6 a0).bind fun t134 => (postbaglaw3_LexOrders.j0 k a0 t119 (!t134))) else (postbaglaw3_LexOrders.j0 k a0 t119 false))) = some r := H
        have A52 := Aside0.mk A520
        clear A520
        by_cases c53 : t132 = true
        · subst c53
          have H1 : (if t119 = true then ((lex_Is.f k 6 a0).bind fun t133 => (postbaglaw3_LexOrders.j0 k a0 t119 (!t133))) else (postbaglaw3_LexOrders.j0 k a0 t119 true)) = some r := by rw [if_pos rfl] at H; exact H
          clear H
          have H := H1
          clear H1
          by_cases c54 : t119 = true
          · subst c54
            have H1 : ((lex_Is.f k 6 a0).bind fun t133 => (postbaglaw3_LexOrders.j0 k a0 true (!t133))) = some r := by rw [if_pos rfl] at H; exact H
            clear H
            have H := H1
            clear H1
            replace H := Option.bind_eq_some_iff.mp H
            obtain ⟨t133, A550, H⟩ := H
            replace H : (postbaglaw3_LexOrders.j0 k a0 true (!t133)) = some r := H
            have A55 := Aside0.mk A550
            clear A550
            have H' := Aside0.mk H
            clear H
            go_wp2_with (first | ((with_reducible refine gate_callee (f := 25) rfl ?_); refine goesL_ (some 7) rfl rfl Tryd.func25 (by kernel_rfl) rfl #[.int .i64 2, .string a0] rfl (by (try simp only [List.map_toArray, List.map_cons, List.map_nil]); first | done | rfl | (simp only [List.length_drop, List.length_take]; rfl)) ?_; (with_reducible refine (lex_Is.calls k 2 a0 false _ A5.out).mono ?_); rintro e w56 ⟨rfl, hb⟩; refine ⟨_, rfl, ?_⟩; have n0_ := Aside0.mk (below_step (by repeat (first | (with_reducible first | exact HB.out | apply below_alloc | apply pw_below_drewN | apply below_drew1) | exact HB.out)) hb); clear HB; have HB := n0_; clear n0_; (try clear hb); (try clear hb2); (try clear hk); (try clear hi)) | (go_at_call 25; (with_reducible refine (lex_Is.calls k 3 a0 false _ A35.out).mono ?_); rintro e w57 ⟨rfl, hb⟩; have n0_ := Aside0.mk (below_step (by repeat (first | (with_reducible first | exact HB.out | apply below_alloc | apply pw_below_drewN | apply below_drew1) | exact HB.out)) hb); clear HB; have HB := n0_; clear n0_; (try clear hb); (try clear hb2); (try clear hk); (try clear hi)) | (go_at_call 25; (with_reducible refine (lex_Is.calls k 5 a0 true _ A52.out).mono ?_); rintro e w58 ⟨rfl, hb⟩; have n0_ := Aside0.mk (below_step (by repeat (first | (with_reducible first | exact HB.out | apply below_alloc | apply pw_below_drewN | apply below_drew1) | exact HB.out)) hb); clear HB; have HB := n0_; clear n0_; (try clear hb); (try clear hb2); (try clear hk); (try clear hi)) | (go_at_call 25; (with_reducible refine (lex_Is.calls k 6 a0 t133 _ A55.out).mono ?_); rintro e w59 ⟨rfl, hb⟩; have n0_ := Aside0.mk (below_step (by repeat (first | (with_reducible first | exact HB.out | apply below_alloc | apply pw_below_drewN | apply below_drew1) | exact HB.out)) hb); clear HB; have HB := n0_; clear n0_; (try clear hb); (try clear hb2); (try clear hk); (try clear hi)))
            go_meet
            case rel => exact ⟨_, (!t133), (by first | rfl | (simp; done) | (simp [*]; done) | (simp [bne, *]; done)), H', ⟨by first | omega | exact Nat.le_refl _⟩, ⟨by repeat (first | (with_reducible first | exact HB.out | apply below_alloc | apply pw_below_drewN | apply below_drew1) | exact HB.out)⟩⟩
          · replace c54 := Bool.eq_false_iff.mpr c54
            subst c54
            have H1 : (postbaglaw3_LexOrders.j0 k a0 false true) = some r := by rw [if_neg (show ¬ (false = true) by decide)] at H; exact H
            clear H
            have H := H1
            clear H1
            have H' := Aside0.mk H
            clear H
            go_wp2_with (first | ((with_reducible refine gate_callee (f := 25) rfl ?_); refine goesL_ (some 7) rfl rfl Tryd.func25 (by kernel_rfl) rfl #[.int .i64 2, .string a0] rfl (by (try simp only [List.map_toArray, List.map_cons, List.map_nil]); first | done | rfl | (simp only [List.length_drop, List.length_take]; rfl)) ?_; (with_reducible refine (lex_Is.calls k 2 a0 false _ A5.out).mono ?_); rintro e w60 ⟨rfl, hb⟩; refine ⟨_, rfl, ?_⟩; have n0_ := Aside0.mk (below_step (by repeat (first | (with_reducible first | exact HB.out | apply below_alloc | apply pw_below_drewN | apply below_drew1) | exact HB.out)) hb); clear HB; have HB := n0_; clear n0_; (try clear hb); (try clear hb2); (try clear hk); (try clear hi)) | (go_at_call 25; (with_reducible refine (lex_Is.calls k 3 a0 false _ A35.out).mono ?_); rintro e w61 ⟨rfl, hb⟩; have n0_ := Aside0.mk (below_step (by repeat (first | (with_reducible first | exact HB.out | apply below_alloc | apply pw_below_drewN | apply below_drew1) | exact HB.out)) hb); clear HB; have HB := n0_; clear n0_; (try clear hb); (try clear hb2); (try clear hk); (try clear hi)) | (go_at_call 25; (with_reducible refine (lex_Is.calls k 5 a0 true _ A52.out).mono ?_); rintro e w62 ⟨rfl, hb⟩; have n0_ := Aside0.mk (below_step (by repeat (first | (with_reducible first | exact HB.out | apply below_alloc | apply pw_below_drewN | apply below_drew1) | exact HB.out)) hb); clear HB; have HB := n0_; clear n0_; (try clear hb); (try clear hb2); (try clear hk); (try clear hi)))
            go_meet
            case rel => exact ⟨_, (true), (by first | rfl | (simp; done) | (simp [*]; done) | (simp [bne, *]; done)), H', ⟨by first | omega | exact Nat.le_refl _⟩, ⟨by repeat (first | (with_reducible first | exact HB.out | apply below_alloc | apply pw_below_drewN | apply below_drew1) | exact HB.out)⟩⟩
        · replace c53 := Bool.eq_false_iff.mpr c53
          subst c53
          have H1 : (if t119 = true then ((lex_Is.f k 6 a0).bind fun t134 => (postbaglaw3_LexOrders.j0 k a0 t119 (!t134))) else (postbaglaw3_LexOrders.j0 k a0 t119 false)) = some r := by rw [if_neg (show ¬ (false = true) by decide)] at H; exact H
          clear H
          have H := H1
          clear H1
          by_cases c63 : t119 = true
          · subst c63
            have H1 : ((lex_Is.f k 6 a0).bind fun t134 => (postbaglaw3_LexOrders.j0 k a0 true (!t134))) = some r := by rw [if_pos rfl] at H; exact H
            clear H
            have H := H1
            clear H1
            replace H := Option.bind_eq_some_iff.mp H
            obtain ⟨t134, A640, H⟩ := H
            replace H : (postbaglaw3_LexOrders.j0 k a0 true (!t134)) = some r := H
            have A64 := Aside0.mk A640
            clear A640
            have H' := Aside0.mk H
            clear H
            go_wp2_with (first | ((with_reducible refine gate_callee (f := 25) rfl ?_); refine goesL_ (some 7) rfl rfl Tryd.func25 (by kernel_rfl) rfl #[.int .i64 2, .string a0] rfl (by (try simp only [List.map_toArray, List.map_cons, List.map_nil]); first | done | rfl | (simp only [List.length_drop, List.length_take]; rfl)) ?_; (with_reducible refine (lex_Is.calls k 2 a0 false _ A5.out).mono ?_); rintro e w65 ⟨rfl, hb⟩; refine ⟨_, rfl, ?_⟩; have n0_ := Aside0.mk (below_step (by repeat (first | (with_reducible first | exact HB.out | apply below_alloc | apply pw_below_drewN | apply below_drew1) | exact HB.out)) hb); clear HB; have HB := n0_; clear n0_; (try clear hb); (try clear hb2); (try clear hk); (try clear hi)) | (go_at_call 25; (with_reducible refine (lex_Is.calls k 3 a0 false _ A35.out).mono ?_); rintro e w66 ⟨rfl, hb⟩; have n0_ := Aside0.mk (below_step (by repeat (first | (with_reducible first | exact HB.out | apply below_alloc | apply pw_below_drewN | apply below_drew1) | exact HB.out)) hb); clear HB; have HB := n0_; clear n0_; (try clear hb); (try clear hb2); (try clear hk); (try clear hi)) | (go_at_call 25; (with_reducible refine (lex_Is.calls k 5 a0 false _ A52.out).mono ?_); rintro e w67 ⟨rfl, hb⟩; have n0_ := Aside0.mk (below_step (by repeat (first | (with_reducible first | exact HB.out | apply below_alloc | apply pw_below_drewN | apply below_drew1) | exact HB.out)) hb); clear HB; have HB := n0_; clear n0_; (try clear hb); (try clear hb2); (try clear hk); (try clear hi)) | (go_at_call 25; (with_reducible refine (lex_Is.calls k 6 a0 t134 _ A64.out).mono ?_); rintro e w68 ⟨rfl, hb⟩; have n0_ := Aside0.mk (below_step (by repeat (first | (with_reducible first | exact HB.out | apply below_alloc | apply pw_below_drewN | apply below_drew1) | exact HB.out)) hb); clear HB; have HB := n0_; clear n0_; (try clear hb); (try clear hb2); (try clear hk); (try clear hi)))
            go_meet
            case rel => exact ⟨_, (!t134), (by first | rfl | (simp; done) | (simp [*]; done) | (simp [bne, *]; done)), H', ⟨by first | omega | exact Nat.le_refl _⟩, ⟨by repeat (first | (with_reducible first | exact HB.out | apply below_alloc | apply pw_below_drewN | apply below_drew1) | exact HB.out)⟩⟩
          · replace c63 := Bool.eq_false_iff.mpr c63
            subst c63
            have H1 : (postbaglaw3_LexOrders.j0 k a0 false false) = some r := by rw [if_neg (show ¬ (false = true) by decide)] at H; exact H
            clear H
            have H := H1
            clear H1
            have H' := Aside0.mk H
            clear H
            go_wp2_with (first | ((with_reducible refine gate_callee (f := 25) rfl ?_); refine goesL_ (some 7) rfl rfl Tryd.func25 (by kernel_rfl) rfl #[.int .i64 2, .string a0] rfl (by (try simp only [List.map_toArray, List.map_cons, List.map_nil]); first | done | rfl | (simp only [List.length_drop, List.length_take]; rfl)) ?_; (with_reducible refine (lex_Is.calls k 2 a0 false _ A5.out).mono ?_); rintro e w69 ⟨rfl, hb⟩; refine ⟨_, rfl, ?_⟩; have n0_ := Aside0.mk (below_step (by repeat (first | (with_reducible first | exact HB.out | apply below_alloc | apply pw_below_drewN | apply below_drew1) | exact HB.out)) hb); clear HB; have HB := n0_; clear n0_; (try clear hb); (try clear hb2); (try clear hk); (try clear hi)) | (go_at_call 25; (with_reducible refine (lex_Is.calls k 3 a0 false _ A35.out).mono ?_); rintro e w70 ⟨rfl, hb⟩; have n0_ := Aside0.mk (below_step (by repeat (first | (with_reducible first | exact HB.out | apply below_alloc | apply pw_below_drewN | apply below_drew1) | exact HB.out)) hb); clear HB; have HB := n0_; clear n0_; (try clear hb); (try clear hb2); (try clear hk); (try clear hi)) | (go_at_call 25; (with_reducible refine (lex_Is.calls k 5 a0 false _ A52.out).mono ?_); rintro e w71 ⟨rfl, hb⟩; have n0_ := Aside0.mk (below_step (by repeat (first | (with_reducible first | exact HB.out | apply below_alloc | apply pw_below_drewN | apply below_drew1) | exact HB.out)) hb); clear HB; have HB := n0_; clear n0_; (try clear hb); (try clear hb2); (try clear hk); (try clear hi)))
            go_meet
            case rel => exact ⟨_, (false), (by first | rfl | (simp; done) | (simp [*]; done) | (simp [bne, *]; done)), H', ⟨by first | omega | exact Nat.le_refl _⟩, ⟨by repeat (first | (with_reducible first | exact HB.out | apply below_alloc | apply pw_below_drewN | apply below_drew1) | exact HB.out)⟩⟩
  case rest =>
    clear HC3
    try clear c1
    try clear c2
    try clear p2
    try clear c3
    try clear c5
    try clear c6
    try clear c7
    try clear c9
    try clear c11
    try clear c23
    try clear c25
    try clear c36
    try clear c37
    try clear c39
    try clear c53
    try clear c54
    try clear c63
    obtain ⟨kq, x35_2, rfl, HA, HJ2, HB⟩ := hcut
    cases kq with
    | zero => exact absurd HA.out (by simp [postbaglaw3_LexOrders.j0])
    | succ kj2 =>
      have H := HA.out
      clear HA
      simp only [postbaglaw3_LexOrders.j0] at H
      by_cases c72 : x35_2 = true
      · subst c72
        have H1 : (some false) = some r := by rw [if_pos rfl] at H; exact H
        clear H
        have H := H1
        clear H1
        obtain rfl := Option.some.inj H
        go_wp2
        go_ret
        exact ⟨by first | rfl | (simp [errW_none, errW_some] <;> rfl) | (simp [*, errW_none, errW_some] <;> rfl), by repeat (first | (with_reducible first | exact HB.out | apply below_alloc | apply pw_below_drewN | apply below_drew1) | exact HB.out)⟩
      · replace c72 := Bool.eq_false_iff.mpr c72
        subst c72
        have H1 : ((lex_Is.f kj2 5 a0).bind fun t135 => (if t135 = true then ((lex_Is.f kj2 4 a0).bind fun t136 => (if t136 = true then (if 1 + a0.size ≤ 9223372036854775807 then ((lex_Is.f kj2 4 ((⟨#[92]⟩ : ByteArray) ++ a0)).bind fun t137 => (if (t137 != t119) = true then (postbaglaw3_LexOrders.j1 kj2 a0 t119 true) else ((lex_Put.f kj2 a0).bind fun t138 => ((lex_Is.f kj2 2 a0).bind fun t139 => (postbaglaw3_LexOrders.j1 kj2 a0 t119 ((t138.toList == a0.toList) != t139)))))) else (none)) else (postbaglaw3_LexOrders.j1 kj2 a0 t119 true))) else (if 1 + a0.size ≤ 9223372036854775807 then ((lex_Is.f kj2 4 ((⟨#[92]⟩ : ByteArray) ++ a0)).bind fun t140 => (if (t140 != t119) = true then (postbaglaw3_LexOrders.j1 kj2 a0 t119 true) else ((lex_Put.f kj2 a0).bind fun t141 => ((lex_Is.f kj2 2 a0).bind fun t142 => (postbaglaw3_LexOrders.j1 kj2 a0 t119 ((t141.toList == a0.toList) != t142)))))) else (none)))) = some r := by rw [if_neg (show ¬ (false = true) by decide)] at H; exact H
        clear H
        have H := H1
        clear H1
        have HC73 := Aside0.mk H
        clear H
        go_upto_region 4 with (fail)
        go_cut [58] (fun v58 wc => ∃ (kq : Nat) (x58_72 : Bool), v58 = .bool x58_72 ∧ Aside0 (postbaglaw3_LexOrders.j1 kq a0 t119 x58_72 = some r) ∧ Aside0 (kq ≤ kj2) ∧ Aside0 (Below w.heap.size w wc))
        case first =>
          have H := HC73.out
          clear HC73
          replace H := Option.bind_eq_some_iff.mp H
          obtain ⟨t135, A740, H⟩ := H
          replace H : (if t135 = true then ((lex_Is.f kj2 4 a0).bind fun t136 => (if t136 = true then (if 1 + a0.size ≤ 9223372036854775807 then ((lex_Is.f kj2 4 ((⟨#[92]⟩ : ByteArray) ++ a0)).bind fun t137 => (if (t137 != t119) = true then (postbaglaw3_LexOrders.j1 kj2 a0 t119 true) else ((lex_Put.f kj2 a0).bind fun t138 => ((lex_Is.f kj2 2 a0).bind fun t139 => (postbaglaw3_LexOrders.j1 kj2 a0 t119 ((t138.toList == a0.toList) != t139)))))) else (none)) else (postbaglaw3_LexOrders.j1 kj2 a0 t119 true))) else (if 1 + a0.size ≤ 9223372036854775807 then ((lex_Is.f kj2 4 ((⟨#[92]⟩ : ByteArray) ++ a0)).bind fun t140 => (if (t140 != t119) = true then (postbaglaw3_LexOrders.j1 kj2 a0 t119 true) else ((lex_Put.f kj2 a0).bind fun t141 => ((lex_Is.f kj2 2 a0).bind fun t142 => (postbaglaw3_LexOrders.j1 kj2 a0 t119 ((t141.toList == a0.toList) != t142)))))) else (none))) = some r := H
          have A74 := Aside0.mk A740
          clear A740
          by_cases c75 : t135 = true
          · subst c75
            have H1 : ((lex_Is.f kj2 4 a0).bind fun t136 => (if t136 = true then (if 1 + a0.size ≤ 9223372036854775807 then ((lex_Is.f kj2 4 ((⟨#[92]⟩ : ByteArray) ++ a0)).bind fun t137 => (if (t137 != t119) = true then (postbaglaw3_LexOrders.j1 kj2 a0 t119 true) else ((lex_Put.f kj2 a0).bind fun t138 => ((lex_Is.f kj2 2 a0).bind fun t139 => (postbaglaw3_LexOrders.j1 kj2 a0 t119 ((t138.toList == a0.toList) != t139)))))) else (none)) else (postbaglaw3_LexOrders.j1 kj2 a0 t119 true))) = some r := by rw [if_pos rfl] at H; exact H
            clear H
            have H := H1
            clear H1
            replace H := Option.bind_eq_some_iff.mp H
            obtain ⟨t136, A760, H⟩ := H
            replace H : (if t136 = true then (if 1 + a0.size ≤ 9223372036854775807 then ((lex_Is.f kj2 4 ((⟨#[92]⟩ : ByteArray) ++ a0)).bind fun t137 => (if (t137 != t119) = true then (postbaglaw3_LexOrders.j1 kj2 a0 t119 true) else ((lex_Put.f kj2 a0).bind fun t138 => ((lex_Is.f kj2 2 a0).bind fun t139 => (postbaglaw3_LexOrders.j1 kj2 a0 t119 ((t138.toList == a0.toList) != t139)))))) else (none)) else (postbaglaw3_LexOrders.j1 kj2 a0 t119 true)) = some r := H
            have A76 := Aside0.mk A760
            clear A760
            by_cases c77 : t136 = true
            · subst c77
              have H1 : (if 1 + a0.size ≤ 9223372036854775807 then ((lex_Is.f kj2 4 ((⟨#[92]⟩ : ByteArray) ++ a0)).bind fun t137 => (if (t137 != t119) = true then (postbaglaw3_LexOrders.j1 kj2 a0 t119 true) else ((lex_Put.f kj2 a0).bind fun t138 => ((lex_Is.f kj2 2 a0).bind fun t139 => (postbaglaw3_LexOrders.j1 kj2 a0 t119 ((t138.toList == a0.toList) != t139)))))) else (none)) = some r := by rw [if_pos rfl] at H; exact H
              clear H
              have H := H1
              clear H1
              by_cases c78 : 1 + a0.size ≤ 9223372036854775807
              · rw [if_pos c78] at H
                have c78b0 := eq_true c78
                have c78b1 : decide (1 + a0.size ≤ 9223372036854775807) = true := decide_eq_true c78
                try have c78b2 : (9223372036854775807 < 1 + a0.size) = False := eq_false (Nat.not_lt.2 c78)
                replace H := Option.bind_eq_some_iff.mp H
                obtain ⟨t137, A790, H⟩ := H
                replace H : (if (t137 != t119) = true then (postbaglaw3_LexOrders.j1 kj2 a0 t119 true) else ((lex_Put.f kj2 a0).bind fun t138 => ((lex_Is.f kj2 2 a0).bind fun t139 => (postbaglaw3_LexOrders.j1 kj2 a0 t119 ((t138.toList == a0.toList) != t139))))) = some r := H
                have A79 := Aside0.mk A790
                clear A790
                by_cases c80 : (t137 != t119) = true
                · rw [if_pos c80] at H
                  have c80b0 : (t137 != t119) = true := c80
                  (try (have c80b1 : decide (t137 = t119) = false := by simpa using c80))
                  (try (have c80b2 : (t137 == t119) = false := by simpa using c80))
                  (try (have c80b3 : ¬ (t137 = t119) := by simpa using c80))
                  clear c80
                  (first | rw [c80b0] | (simp only [i64_w, i32_w]; rw [c80b0]) | skip)
                  have H' := Aside0.mk H
                  clear H
                  go_wp2_with (first | ((with_reducible refine gate_callee (f := 25) rfl ?_); refine goesL_ (some 37) rfl rfl Tryd.func25 (by kernel_rfl) rfl #[.int .i64 5, .string a0] rfl (by (try simp only [List.map_toArray, List.map_cons, List.map_nil]); first | done | rfl | (simp only [List.length_drop, List.length_take]; rfl)) ?_; (with_reducible refine (lex_Is.calls kj2 5 a0 true _ A74.out).mono ?_); rintro e w81 ⟨rfl, hb⟩; refine ⟨_, rfl, ?_⟩; have n0_ := Aside0.mk (below_step (by repeat (first | (with_reducible first | exact HB.out | apply below_alloc | apply pw_below_drewN | apply below_drew1) | exact HB.out)) hb); clear HB; have HB := n0_; clear n0_; (try clear hb); (try clear hb2); (try clear hk); (try clear hi)) | (go_at_call 25; (with_reducible refine (lex_Is.calls kj2 4 a0 true _ A76.out).mono ?_); rintro e w82 ⟨rfl, hb⟩; have n0_ := Aside0.mk (below_step (by repeat (first | (with_reducible first | exact HB.out | apply below_alloc | apply pw_below_drewN | apply below_drew1) | exact HB.out)) hb); clear HB; have HB := n0_; clear n0_; (try clear hb); (try clear hb2); (try clear hk); (try clear hi)) | (go_at_call 25; (with_reducible refine (lex_Is.calls kj2 4 ((⟨#[92]⟩ : ByteArray) ++ a0) t137 _ A79.out).mono ?_); rintro e w83 ⟨rfl, hb⟩; have n0_ := Aside0.mk (below_step (by repeat (first | (with_reducible first | exact HB.out | apply below_alloc | apply pw_below_drewN | apply below_drew1) | exact HB.out)) hb); clear HB; have HB := n0_; clear n0_; (try clear hb); (try clear hb2); (try clear hk); (try clear hi)))
                  go_meet
                  case rel => exact ⟨_, (true), (by first | rfl | (simp; done) | (simp [*]; done) | (simp [bne, *]; done)), H', ⟨by have := HJ2.out; first | omega | exact Nat.le_refl _⟩, ⟨by repeat (first | (with_reducible first | exact HB.out | apply below_alloc | apply pw_below_drewN | apply below_drew1) | exact HB.out)⟩⟩
                · rw [if_neg c80] at H
                  have c80b0 : (t137 != t119) = false := by simpa using c80
                  (try (have c80b1 : decide (t137 = t119) = true := by simpa using c80))
                  (try (have c80b2 : (t137 == t119) = true := by simpa using c80))
                  clear c80
                  (first | rw [c80b0] | (simp only [i64_w, i32_w]; rw [c80b0]) | skip)
                  replace H := Option.bind_eq_some_iff.mp H
                  obtain ⟨t138, A840, H⟩ := H
                  replace H : ((lex_Is.f kj2 2 a0).bind fun t139 => (postbaglaw3_LexOrders.j1 kj2 a0 t119 ((t138.toList == a0.toList) != t139))) = some r := H
                  have A84 := Aside0.mk A840
                  clear A840
                  replace H := Option.bind_eq_some_iff.mp H
                  obtain ⟨t139, A850, H⟩ := H
                  replace H : (postbaglaw3_LexOrders.j1 kj2 a0 t119 ((t138.toList == a0.toList) != t139)) = some r := H
                  have A85 := Aside0.mk A850
                  clear A850
                  have H' := Aside0.mk H
                  clear H
                  go_wp2_with (first | ((with_reducible refine gate_callee (f := 25) rfl ?_); refine goesL_ (some 37) rfl rfl Tryd.func25 (by kernel_rfl) rfl #[.int .i64 5, .string a0] rfl (by (try simp only [List.map_toArray, List.map_cons, List.map_nil]); first | done | rfl | (simp only [List.length_drop, List.length_take]; rfl)) ?_; (with_reducible refine (lex_Is.calls kj2 5 a0 true _ A74.out).mono ?_); rintro e w86 ⟨rfl, hb⟩; refine ⟨_, rfl, ?_⟩; have n0_ := Aside0.mk (below_step (by repeat (first | (with_reducible first | exact HB.out | apply below_alloc | apply pw_below_drewN | apply below_drew1) | exact HB.out)) hb); clear HB; have HB := n0_; clear n0_; (try clear hb); (try clear hb2); (try clear hk); (try clear hi)) | (go_at_call 25; (with_reducible refine (lex_Is.calls kj2 4 a0 true _ A76.out).mono ?_); rintro e w87 ⟨rfl, hb⟩; have n0_ := Aside0.mk (below_step (by repeat (first | (with_reducible first | exact HB.out | apply below_alloc | apply pw_below_drewN | apply below_drew1) | exact HB.out)) hb); clear HB; have HB := n0_; clear n0_; (try clear hb); (try clear hb2); (try clear hk); (try clear hi)) | (go_at_call 25; (with_reducible refine (lex_Is.calls kj2 4 ((⟨#[92]⟩ : ByteArray) ++ a0) t137 _ A79.out).mono ?_); rintro e w88 ⟨rfl, hb⟩; have n0_ := Aside0.mk (below_step (by repeat (first | (with_reducible first | exact HB.out | apply below_alloc | apply pw_below_drewN | apply below_drew1) | exact HB.out)) hb); clear HB; have HB := n0_; clear n0_; (try clear hb); (try clear hb2); (try clear hk); (try clear hi)) | (go_at_call 26; (with_reducible refine (lex_Put.calls kj2 a0 t138 _ A84.out ?hwp3_).mono ?_); (case hwp3_ => exact Ext.WP.below HW.out (by repeat (first | (with_reducible first | exact HB.out | apply below_alloc | apply pw_below_drewN | apply below_drew1) | exact HB.out))); rintro e w89 ⟨rfl, hb⟩; have n0_ := Aside0.mk (below_step (by repeat (first | (with_reducible first | exact HB.out | apply below_alloc | apply pw_below_drewN | apply below_drew1) | exact HB.out)) hb); clear HB; have HB := n0_; clear n0_; (try clear hb); (try clear hb2); (try clear hk); (try clear hi)) | (go_at_call 25; (with_reducible refine (lex_Is.calls kj2 2 a0 t139 _ A85.out).mono ?_); rintro e w90 ⟨rfl, hb⟩; have n0_ := Aside0.mk (below_step (by repeat (first | (with_reducible first | exact HB.out | apply below_alloc | apply pw_below_drewN | apply below_drew1) | exact HB.out)) hb); clear HB; have HB := n0_; clear n0_; (try clear hb); (try clear hb2); (try clear hk); (try clear hi)))
                  go_meet
                  case rel => exact ⟨_, (((t138.toList == a0.toList) != t139)), (by first | rfl | (simp; done) | (simp [*]; done) | (simp [bne, *]; done)), H', ⟨by have := HJ2.out; first | omega | exact Nat.le_refl _⟩, ⟨by repeat (first | (with_reducible first | exact HB.out | apply below_alloc | apply pw_below_drewN | apply below_drew1) | exact HB.out)⟩⟩
              · rw [if_neg c78] at H
                exact absurd H (by simp)
            · replace c77 := Bool.eq_false_iff.mpr c77
              subst c77
              have H1 : (postbaglaw3_LexOrders.j1 kj2 a0 t119 true) = some r := by rw [if_neg (show ¬ (false = true) by decide)] at H; exact H
              clear H
              have H := H1
              clear H1
              have H' := Aside0.mk H
              clear H
              go_wp2_with (first | ((with_reducible refine gate_callee (f := 25) rfl ?_); refine goesL_ (some 37) rfl rfl Tryd.func25 (by kernel_rfl) rfl #[.int .i64 5, .string a0] rfl (by (try simp only [List.map_toArray, List.map_cons, List.map_nil]); first | done | rfl | (simp only [List.length_drop, List.length_take]; rfl)) ?_; (with_reducible refine (lex_Is.calls kj2 5 a0 true _ A74.out).mono ?_); rintro e w91 ⟨rfl, hb⟩; refine ⟨_, rfl, ?_⟩; have n0_ := Aside0.mk (below_step (by repeat (first | (with_reducible first | exact HB.out | apply below_alloc | apply pw_below_drewN | apply below_drew1) | exact HB.out)) hb); clear HB; have HB := n0_; clear n0_; (try clear hb); (try clear hb2); (try clear hk); (try clear hi)) | (go_at_call 25; (with_reducible refine (lex_Is.calls kj2 4 a0 false _ A76.out).mono ?_); rintro e w92 ⟨rfl, hb⟩; have n0_ := Aside0.mk (below_step (by repeat (first | (with_reducible first | exact HB.out | apply below_alloc | apply pw_below_drewN | apply below_drew1) | exact HB.out)) hb); clear HB; have HB := n0_; clear n0_; (try clear hb); (try clear hb2); (try clear hk); (try clear hi)))
              go_meet
              case rel => exact ⟨_, (true), (by first | rfl | (simp; done) | (simp [*]; done) | (simp [bne, *]; done)), H', ⟨by have := HJ2.out; first | omega | exact Nat.le_refl _⟩, ⟨by repeat (first | (with_reducible first | exact HB.out | apply below_alloc | apply pw_below_drewN | apply below_drew1) | exact HB.out)⟩⟩
          · replace c75 := Bool.eq_false_iff.mpr c75
            subst c75
            have H1 : (if 1 + a0.size ≤ 9223372036854775807 then ((lex_Is.f kj2 4 ((⟨#[92]⟩ : ByteArray) ++ a0)).bind fun t140 => (if (t140 != t119) = true then (postbaglaw3_LexOrders.j1 kj2 a0 t119 true) else ((lex_Put.f kj2 a0).bind fun t141 => ((lex_Is.f kj2 2 a0).bind fun t142 => (postbaglaw3_LexOrders.j1 kj2 a0 t119 ((t141.toList == a0.toList) != t142)))))) else (none)) = some r := by rw [if_neg (show ¬ (false = true) by decide)] at H; exact H
            clear H
            have H := H1
            clear H1
            by_cases c93 : 1 + a0.size ≤ 9223372036854775807
            · rw [if_pos c93] at H
              have c93b0 := eq_true c93
              have c93b1 : decide (1 + a0.size ≤ 9223372036854775807) = true := decide_eq_true c93
              try have c93b2 : (9223372036854775807 < 1 + a0.size) = False := eq_false (Nat.not_lt.2 c93)
              replace H := Option.bind_eq_some_iff.mp H
              obtain ⟨t140, A940, H⟩ := H
              replace H : (if (t140 != t119) = true then (postbaglaw3_LexOrders.j1 kj2 a0 t119 true) else ((lex_Put.f kj2 a0).bind fun t141 => ((lex_Is.f kj2 2 a0).bind fun t142 => (postbaglaw3_LexOrders.j1 kj2 a0 t119 ((t141.toList == a0.toList) != t142))))) = some r := H
              have A94 := Aside0.mk A940
              clear A940
              by_cases c95 : (t140 != t119) = true
              · rw [if_pos c95] at H
                have c95b0 : (t140 != t119) = true := c95
                (try (have c95b1 : decide (t140 = t119) = false := by simpa using c95))
                (try (have c95b2 : (t140 == t119) = false := by simpa using c95))
                (try (have c95b3 : ¬ (t140 = t119) := by simpa using c95))
                clear c95
                have H' := Aside0.mk H
                clear H
                go_wp2_with (first | ((with_reducible refine gate_callee (f := 25) rfl ?_); refine goesL_ (some 37) rfl rfl Tryd.func25 (by kernel_rfl) rfl #[.int .i64 5, .string a0] rfl (by (try simp only [List.map_toArray, List.map_cons, List.map_nil]); first | done | rfl | (simp only [List.length_drop, List.length_take]; rfl)) ?_; (with_reducible refine (lex_Is.calls kj2 5 a0 false _ A74.out).mono ?_); rintro e w96 ⟨rfl, hb⟩; refine ⟨_, rfl, ?_⟩; have n0_ := Aside0.mk (below_step (by repeat (first | (with_reducible first | exact HB.out | apply below_alloc | apply pw_below_drewN | apply below_drew1) | exact HB.out)) hb); clear HB; have HB := n0_; clear n0_; (try clear hb); (try clear hb2); (try clear hk); (try clear hi)) | (go_at_call 25; (with_reducible refine (lex_Is.calls kj2 4 ((⟨#[92]⟩ : ByteArray) ++ a0) t140 _ A94.out).mono ?_); rintro e w97 ⟨rfl, hb⟩; have n0_ := Aside0.mk (below_step (by repeat (first | (with_reducible first | exact HB.out | apply below_alloc | apply pw_below_drewN | apply below_drew1) | exact HB.out)) hb); clear HB; have HB := n0_; clear n0_; (try clear hb); (try clear hb2); (try clear hk); (try clear hi)))
                go_meet
                case rel => exact ⟨_, (true), (by first | rfl | (simp; done) | (simp [*]; done) | (simp [bne, *]; done)), H', ⟨by have := HJ2.out; first | omega | exact Nat.le_refl _⟩, ⟨by repeat (first | (with_reducible first | exact HB.out | apply below_alloc | apply pw_below_drewN | apply below_drew1) | exact HB.out)⟩⟩
              · rw [if_neg c95] at H
                have c95b0 : (t140 != t119) = false := by simpa using c95
                (try (have c95b1 : decide (t140 = t119) = true := by simpa using c95))
                (try (have c95b2 : (t140 == t119) = true := by simpa using c95))
                clear c95
                replace H := Option.bind_eq_some_iff.mp H
                obtain ⟨t141, A980, H⟩ := H
                replace H : ((lex_Is.f kj2 2 a0).bind fun t142 => (postbaglaw3_LexOrders.j1 kj2 a0 t119 ((t141.toList == a0.toList) != t142))) = some r := H
                have A98 := Aside0.mk A980
                clear A980
                replace H := Option.bind_eq_some_iff.mp H
                obtain ⟨t142, A990, H⟩ := H
                replace H : (postbaglaw3_LexOrders.j1 kj2 a0 t119 ((t141.toList == a0.toList) != t142)) = some r := H
                have A99 := Aside0.mk A990
                clear A990
                have H' := Aside0.mk H
                clear H
                go_wp2_with (first | ((with_reducible refine gate_callee (f := 25) rfl ?_); refine goesL_ (some 37) rfl rfl Tryd.func25 (by kernel_rfl) rfl #[.int .i64 5, .string a0] rfl (by (try simp only [List.map_toArray, List.map_cons, List.map_nil]); first | done | rfl | (simp only [List.length_drop, List.length_take]; rfl)) ?_; (with_reducible refine (lex_Is.calls kj2 5 a0 false _ A74.out).mono ?_); rintro e w100 ⟨rfl, hb⟩; refine ⟨_, rfl, ?_⟩; have n0_ := Aside0.mk (below_step (by repeat (first | (with_reducible first | exact HB.out | apply below_alloc | apply pw_below_drewN | apply below_drew1) | exact HB.out)) hb); clear HB; have HB := n0_; clear n0_; (try clear hb); (try clear hb2); (try clear hk); (try clear hi)) | (go_at_call 25; (with_reducible refine (lex_Is.calls kj2 4 ((⟨#[92]⟩ : ByteArray) ++ a0) t140 _ A94.out).mono ?_); rintro e w101 ⟨rfl, hb⟩; have n0_ := Aside0.mk (below_step (by repeat (first | (with_reducible first | exact HB.out | apply below_alloc | apply pw_below_drewN | apply below_drew1) | exact HB.out)) hb); clear HB; have HB := n0_; clear n0_; (try clear hb); (try clear hb2); (try clear hk); (try clear hi)) | (go_at_call 26; (with_reducible refine (lex_Put.calls kj2 a0 t141 _ A98.out ?hwp4_).mono ?_); (case hwp4_ => exact Ext.WP.below HW.out (by repeat (first | (with_reducible first | exact HB.out | apply below_alloc | apply pw_below_drewN | apply below_drew1) | exact HB.out))); rintro e w102 ⟨rfl, hb⟩; have n0_ := Aside0.mk (below_step (by repeat (first | (with_reducible first | exact HB.out | apply below_alloc | apply pw_below_drewN | apply below_drew1) | exact HB.out)) hb); clear HB; have HB := n0_; clear n0_; (try clear hb); (try clear hb2); (try clear hk); (try clear hi)) | (go_at_call 25; (with_reducible refine (lex_Is.calls kj2 2 a0 t142 _ A99.out).mono ?_); rintro e w103 ⟨rfl, hb⟩; have n0_ := Aside0.mk (below_step (by repeat (first | (with_reducible first | exact HB.out | apply below_alloc | apply pw_below_drewN | apply below_drew1) | exact HB.out)) hb); clear HB; have HB := n0_; clear n0_; (try clear hb); (try clear hb2); (try clear hk); (try clear hi)))
                go_meet
                case rel => exact ⟨_, (((t141.toList == a0.toList) != t142)), (by first | rfl | (simp; done) | (simp [*]; done) | (simp [bne, *]; done)), H', ⟨by have := HJ2.out; first | omega | exact Nat.le_refl _⟩, ⟨by repeat (first | (with_reducible first | exact HB.out | apply below_alloc | apply pw_below_drewN | apply below_drew1) | exact HB.out)⟩⟩
            · rw [if_neg c93] at H
              exact absurd H (by simp)
        case rest =>
          clear HC73
          try clear c1
          try clear c2
          try clear p2
          try clear c3
          try clear c5
          try clear c6
          try clear c7
          try clear c8
          try clear c9
          try clear c11
          try clear c23
          try clear c25
          try clear c36
          try clear c37
          try clear c39
          try clear c53
          try clear c54
          try clear c63
          try clear c72
          try clear c75
          try clear c77
          try clear c78
          try clear c78b0
          try clear c78b1
          try clear c78b2
          try clear c80
          try clear c80b0
          try clear c80b1
          try clear c80b2
          try clear c93
          try clear c93b0
          try clear c93b1
          try clear c93b2
          try clear c95
          try clear c95b0
          try clear c95b1
          try clear c95b2
          try clear p2
          obtain ⟨kq, x58_72, rfl, HA, HJ72, HB⟩ := hcut
          cases kq with
          | zero => exact absurd HA.out (by simp [postbaglaw3_LexOrders.j1])
          | succ kj72 =>
            have H := HA.out
            clear HA
            simp only [postbaglaw3_LexOrders.j1] at H
            by_cases c104 : x58_72 = true
            · subst c104
              have H1 : (some false) = some r := by rw [if_pos rfl] at H; exact H
              clear H
              have H := H1
              clear H1
              obtain rfl := Option.some.inj H
              go_wp2
              go_ret
              exact ⟨by first | rfl | (simp [errW_none, errW_some] <;> rfl) | (simp [*, errW_none, errW_some] <;> rfl), by repeat (first | (with_reducible first | exact HB.out | apply below_alloc | apply pw_below_drewN | apply below_drew1) | exact HB.out)⟩
            · replace c104 := Bool.eq_false_iff.mpr c104
              subst c104
              have H1 : ((lex_Is.f kj72 5 a0).bind fun t143 => (if t119 = true then (if (t143 == (decide ((a0.size : Int) ≤ 24))) = true then ((lex_Is.f kj72 3 (⟨#[116]⟩ : ByteArray)).bind fun t144 => (if t144 = true then ((lex_Is.f kj72 3 (⟨#[43]⟩ : ByteArray)).bind fun t145 => (if t145 = true then (some false) else ((lex_Is.f kj72 2 (⟨#[110, 73, 108]⟩ : ByteArray)).bind fun t146 => (some (!t146))))) else (some false))) else (some false)) else (if (t143 == false) = true then ((lex_Is.f kj72 3 (⟨#[116]⟩ : ByteArray)).bind fun t147 => (if t147 = true then ((lex_Is.f kj72 3 (⟨#[43]⟩ : ByteArray)).bind fun t148 => (if t148 = true then (some false) else ((lex_Is.f kj72 2 (⟨#[110, 73, 108]⟩ : ByteArray)).bind fun t149 => (some (!t149))))) else (some false))) else (some false)))) = some r := by rw [if_neg (show ¬ (false = true) by decide)] at H; exact H
              clear H
              have H := H1
              clear H1
              replace H := Option.bind_eq_some_iff.mp H
              obtain ⟨t143, A1050, H⟩ := H
              replace H : (if t119 = true then (if (t143 == (decide ((a0.size : Int) ≤ 24))) = true then ((lex_Is.f kj72 3 (⟨#[116]⟩ : ByteArray)).bind fun t144 => (if t144 = true then ((lex_Is.f kj72 3 (⟨#[43]⟩ : ByteArray)).bind fun t145 => (if t145 = true then (some false) else ((lex_Is.f kj72 2 (⟨#[110, 73, 108]⟩ : ByteArray)).bind fun t146 => (some (!t146))))) else (some false))) else (some false)) else (if (t143 == false) = true then ((lex_Is.f kj72 3 (⟨#[116]⟩ : ByteArray)).bind fun t147 => (if t147 = true then ((lex_Is.f kj72 3 (⟨#[43]⟩ : ByteArray)).bind fun t148 => (if t148 = true then (some false) else ((lex_Is.f kj72 2 (⟨#[110, 73, 108]⟩ : ByteArray)).bind fun t149 => (some (!t149))))) else (some false))) else (some false))) = some r := H
              have A105 := Aside0.mk A1050
              clear A1050
              by_cases c106 : t119 = true
              · subst c106
                have H1 : (if (t143 == (decide ((a0.size : Int) ≤ 24))) = true then ((lex_Is.f kj72 3 (⟨#[116]⟩ : ByteArray)).bind fun t144 => (if t144 = true then ((lex_Is.f kj72 3 (⟨#[43]⟩ : ByteArray)).bind fun t145 => (if t145 = true then (some false) else ((lex_Is.f kj72 2 (⟨#[110, 73, 108]⟩ : ByteArray)).bind fun t146 => (some (!t146))))) else (some false))) else (some false)) = some r := by rw [if_pos rfl] at H; exact H
                clear H
                have H := H1
                clear H1
                by_cases c107 : (t143 == (decide ((a0.size : Int) ≤ 24))) = true
                · rw [if_pos c107] at H
                  have c107b0 : (t143 == (decide ((a0.size : Int) ≤ 24))) = true := c107
                  (try (have c107b1 : decide (t143 = (decide ((a0.size : Int) ≤ 24))) = true := by simpa using c107))
                  (try (have c107b2 : (t143 == (decide ((a0.size : Int) ≤ 24))) = true := by simpa using c107))
                  clear c107
                  replace H := Option.bind_eq_some_iff.mp H
                  obtain ⟨t144, A1080, H⟩ := H
                  replace H : (if t144 = true then ((lex_Is.f kj72 3 (⟨#[43]⟩ : ByteArray)).bind fun t145 => (if t145 = true then (some false) else ((lex_Is.f kj72 2 (⟨#[110, 73, 108]⟩ : ByteArray)).bind fun t146 => (some (!t146))))) else (some false)) = some r := H
                  have A108 := Aside0.mk A1080
                  clear A1080
                  by_cases c109 : t144 = true
                  · subst c109
                    have H1 : ((lex_Is.f kj72 3 (⟨#[43]⟩ : ByteArray)).bind fun t145 => (if t145 = true then (some false) else ((lex_Is.f kj72 2 (⟨#[110, 73, 108]⟩ : ByteArray)).bind fun t146 => (some (!t146))))) = some r := by rw [if_pos rfl] at H; exact H
                    clear H
                    have H := H1
                    clear H1
                    replace H := Option.bind_eq_some_iff.mp H
                    obtain ⟨t145, A1100, H⟩ := H
                    replace H : (if t145 = true then (some false) else ((lex_Is.f kj72 2 (⟨#[110, 73, 108]⟩ : ByteArray)).bind fun t146 => (some (!t146)))) = some r := H
                    have A110 := Aside0.mk A1100
                    clear A1100
                    by_cases c111 : t145 = true
                    · subst c111
                      have H1 : (some false) = some r := by rw [if_pos rfl] at H; exact H
                      clear H
                      have H := H1
                      clear H1
                      obtain rfl := Option.some.inj H
                      go_wp2_with (first | ((with_reducible refine gate_callee (f := 25) rfl ?_); refine goesL_ (some 60) rfl rfl Tryd.func25 (by kernel_rfl) rfl #[.int .i64 5, .string a0] rfl (by (try simp only [List.map_toArray, List.map_cons, List.map_nil]); first | done | rfl | (simp only [List.length_drop, List.length_take]; rfl)) ?_; (with_reducible refine (lex_Is.calls kj72 5 a0 t143 _ A105.out).mono ?_); rintro e w112 ⟨rfl, hb⟩; refine ⟨_, rfl, ?_⟩; have n0_ := Aside0.mk (below_step (by repeat (first | (with_reducible first | exact HB.out | apply below_alloc | apply pw_below_drewN | apply below_drew1) | exact HB.out)) hb); clear HB; have HB := n0_; clear n0_; (try clear hb); (try clear hb2); (try clear hk); (try clear hi)) | (go_at_call 25; (with_reducible refine (lex_Is.calls kj72 3 (⟨#[116]⟩ : ByteArray) true _ A108.out).mono ?_); rintro e w113 ⟨rfl, hb⟩; have n0_ := Aside0.mk (below_step (by repeat (first | (with_reducible first | exact HB.out | apply below_alloc | apply pw_below_drewN | apply below_drew1) | exact HB.out)) hb); clear HB; have HB := n0_; clear n0_; (try clear hb); (try clear hb2); (try clear hk); (try clear hi)) | (go_at_call 25; (with_reducible refine (lex_Is.calls kj72 3 (⟨#[43]⟩ : ByteArray) true _ A110.out).mono ?_); rintro e w114 ⟨rfl, hb⟩; have n0_ := Aside0.mk (below_step (by repeat (first | (with_reducible first | exact HB.out | apply below_alloc | apply pw_below_drewN | apply below_drew1) | exact HB.out)) hb); clear HB; have HB := n0_; clear n0_; (try clear hb); (try clear hb2); (try clear hk); (try clear hi)))
                      go_ret
                      exact ⟨by first | rfl | (simp [errW_none, errW_some] <;> rfl) | (simp [*, errW_none, errW_some] <;> rfl), by repeat (first | (with_reducible first | exact HB.out | apply below_alloc | apply pw_below_drewN | apply below_drew1) | exact HB.out)⟩
                    · replace c111 := Bool.eq_false_iff.mpr c111
                      subst c111
                      have H1 : ((lex_Is.f kj72 2 (⟨#[110, 73, 108]⟩ : ByteArray)).bind fun t146 => (some (!t146))) = some r := by rw [if_neg (show ¬ (false = true) by decide)] at H; exact H
                      clear H
                      have H := H1
                      clear H1
                      replace H := Option.bind_eq_some_iff.mp H
                      obtain ⟨t146, A1150, H⟩ := H
                      replace H : (some (!t146)) = some r := H
                      have A115 := Aside0.mk A1150
                      clear A1150
                      obtain rfl := Option.some.inj H
                      go_wp2_with (first | ((with_reducible refine gate_callee (f := 25) rfl ?_); refine goesL_ (some 60) rfl rfl Tryd.func25 (by kernel_rfl) rfl #[.int .i64 5, .string a0] rfl (by (try simp only [List.map_toArray, List.map_cons, List.map_nil]); first | done | rfl | (simp only [List.length_drop, List.length_take]; rfl)) ?_; (with_reducible refine (lex_Is.calls kj72 5 a0 t143 _ A105.out).mono ?_); rintro e w116 ⟨rfl, hb⟩; refine ⟨_, rfl, ?_⟩; have n0_ := Aside0.mk (below_step (by repeat (first | (with_reducible first | exact HB.out | apply below_alloc | apply pw_below_drewN | apply below_drew1) | exact HB.out)) hb); clear HB; have HB := n0_; clear n0_; (try clear hb); (try clear hb2); (try clear hk); (try clear hi)) | (go_at_call 25; (with_reducible refine (lex_Is.calls kj72 3 (⟨#[116]⟩ : ByteArray) true _ A108.out).mono ?_); rintro e w117 ⟨rfl, hb⟩; have n0_ := Aside0.mk (below_step (by repeat (first | (with_reducible first | exact HB.out | apply below_alloc | apply pw_below_drewN | apply below_drew1) | exact HB.out)) hb); clear HB; have HB := n0_; clear n0_; (try clear hb); (try clear hb2); (try clear hk); (try clear hi)) | (go_at_call 25; (with_reducible refine (lex_Is.calls kj72 3 (⟨#[43]⟩ : ByteArray) false _ A110.out).mono ?_); rintro e w118 ⟨rfl, hb⟩; have n0_ := Aside0.mk (below_step (by repeat (first | (with_reducible first | exact HB.out | apply below_alloc | apply pw_below_drewN | apply below_drew1) | exact HB.out)) hb); clear HB; have HB := n0_; clear n0_; (try clear hb); (try clear hb2); (try clear hk); (try clear hi)) | (go_at_call 25; (with_reducible refine (lex_Is.calls kj72 2 (⟨#[110, 73, 108]⟩ : ByteArray) t146 _ A115.out).mono ?_); rintro e w119 ⟨rfl, hb⟩; have n0_ := Aside0.mk (below_step (by repeat (first | (with_reducible first | exact HB.out | apply below_alloc | apply pw_below_drewN | apply below_drew1) | exact HB.out)) hb); clear HB; have HB := n0_; clear n0_; (try clear hb); (try clear hb2); (try clear hk); (try clear hi)))
                      go_ret
                      exact ⟨by first | rfl | (simp [errW_none, errW_some] <;> rfl) | (simp [*, errW_none, errW_some] <;> rfl), by repeat (first | (with_reducible first | exact HB.out | apply below_alloc | apply pw_below_drewN | apply below_drew1) | exact HB.out)⟩
                  · replace c109 := Bool.eq_false_iff.mpr c109
                    subst c109
                    have H1 : (some false) = some r := by rw [if_neg (show ¬ (false = true) by decide)] at H; exact H
                    clear H
                    have H := H1
                    clear H1
                    obtain rfl := Option.some.inj H
                    go_wp2_with (first | ((with_reducible refine gate_callee (f := 25) rfl ?_); refine goesL_ (some 60) rfl rfl Tryd.func25 (by kernel_rfl) rfl #[.int .i64 5, .string a0] rfl (by (try simp only [List.map_toArray, List.map_cons, List.map_nil]); first | done | rfl | (simp only [List.length_drop, List.length_take]; rfl)) ?_; (with_reducible refine (lex_Is.calls kj72 5 a0 t143 _ A105.out).mono ?_); rintro e w120 ⟨rfl, hb⟩; refine ⟨_, rfl, ?_⟩; have n0_ := Aside0.mk (below_step (by repeat (first | (with_reducible first | exact HB.out | apply below_alloc | apply pw_below_drewN | apply below_drew1) | exact HB.out)) hb); clear HB; have HB := n0_; clear n0_; (try clear hb); (try clear hb2); (try clear hk); (try clear hi)) | (go_at_call 25; (with_reducible refine (lex_Is.calls kj72 3 (⟨#[116]⟩ : ByteArray) false _ A108.out).mono ?_); rintro e w121 ⟨rfl, hb⟩; have n0_ := Aside0.mk (below_step (by repeat (first | (with_reducible first | exact HB.out | apply below_alloc | apply pw_below_drewN | apply below_drew1) | exact HB.out)) hb); clear HB; have HB := n0_; clear n0_; (try clear hb); (try clear hb2); (try clear hk); (try clear hi)))
                    go_ret
                    exact ⟨by first | rfl | (simp [errW_none, errW_some] <;> rfl) | (simp [*, errW_none, errW_some] <;> rfl), by repeat (first | (with_reducible first | exact HB.out | apply below_alloc | apply pw_below_drewN | apply below_drew1) | exact HB.out)⟩
                · rw [if_neg c107] at H
                  have c107b0 : (t143 == (decide ((a0.size : Int) ≤ 24))) = false := by simpa using c107
                  (try (have c107b1 : decide (t143 = (decide ((a0.size : Int) ≤ 24))) = false := by simpa using c107))
                  (try (have c107b2 : (t143 == (decide ((a0.size : Int) ≤ 24))) = false := by simpa using c107))
                  (try (have c107b3 : ¬ (t143 = (decide ((a0.size : Int) ≤ 24))) := by simpa using c107))
                  clear c107
                  obtain rfl := Option.some.inj H
                  go_wp2_with (first | ((with_reducible refine gate_callee (f := 25) rfl ?_); refine goesL_ (some 60) rfl rfl Tryd.func25 (by kernel_rfl) rfl #[.int .i64 5, .string a0] rfl (by (try simp only [List.map_toArray, List.map_cons, List.map_nil]); first | done | rfl | (simp only [List.length_drop, List.length_take]; rfl)) ?_; (with_reducible refine (lex_Is.calls kj72 5 a0 t143 _ A105.out).mono ?_); rintro e w122 ⟨rfl, hb⟩; refine ⟨_, rfl, ?_⟩; have n0_ := Aside0.mk (below_step (by repeat (first | (with_reducible first | exact HB.out | apply below_alloc | apply pw_below_drewN | apply below_drew1) | exact HB.out)) hb); clear HB; have HB := n0_; clear n0_; (try clear hb); (try clear hb2); (try clear hk); (try clear hi)))
                  go_ret
                  exact ⟨by first | rfl | (simp [errW_none, errW_some] <;> rfl) | (simp [*, errW_none, errW_some] <;> rfl), by repeat (first | (with_reducible first | exact HB.out | apply below_alloc | apply pw_below_drewN | apply below_drew1) | exact HB.out)⟩
              · replace c106 := Bool.eq_false_iff.mpr c106
                subst c106
                have H1 : (if (t143 == false) = true then ((lex_Is.f kj72 3 (⟨#[116]⟩ : ByteArray)).bind fun t147 => (if t147 = true then ((lex_Is.f kj72 3 (⟨#[43]⟩ : ByteArray)).bind fun t148 => (if t148 = true then (some false) else ((lex_Is.f kj72 2 (⟨#[110, 73, 108]⟩ : ByteArray)).bind fun t149 => (some (!t149))))) else (some false))) else (some false)) = some r := by rw [if_neg (show ¬ (false = true) by decide)] at H; exact H
                clear H
                have H := H1
                clear H1
                by_cases c123 : (t143 == false) = true
                · rw [if_pos c123] at H
                  have c123b0 : (t143 == false) = true := c123
                  (try (have c123b1 : decide (t143 = false) = true := by simpa using c123))
                  (try (have c123b2 : (t143 == false) = true := by simpa using c123))
                  clear c123
                  replace H := Option.bind_eq_some_iff.mp H
                  obtain ⟨t147, A1240, H⟩ := H
                  replace H : (if t147 = true then ((lex_Is.f kj72 3 (⟨#[43]⟩ : ByteArray)).bind fun t148 => (if t148 = true then (some false) else ((lex_Is.f kj72 2 (⟨#[110, 73, 108]⟩ : ByteArray)).bind fun t149 => (some (!t149))))) else (some false)) = some r := H
                  have A124 := Aside0.mk A1240
                  clear A1240
                  by_cases c125 : t147 = true
                  · subst c125
                    have H1 : ((lex_Is.f kj72 3 (⟨#[43]⟩ : ByteArray)).bind fun t148 => (if t148 = true then (some false) else ((lex_Is.f kj72 2 (⟨#[110, 73, 108]⟩ : ByteArray)).bind fun t149 => (some (!t149))))) = some r := by rw [if_pos rfl] at H; exact H
                    clear H
                    have H := H1
                    clear H1
                    replace H := Option.bind_eq_some_iff.mp H
                    obtain ⟨t148, A1260, H⟩ := H
                    replace H : (if t148 = true then (some false) else ((lex_Is.f kj72 2 (⟨#[110, 73, 108]⟩ : ByteArray)).bind fun t149 => (some (!t149)))) = some r := H
                    have A126 := Aside0.mk A1260
                    clear A1260
                    by_cases c127 : t148 = true
                    · subst c127
                      have H1 : (some false) = some r := by rw [if_pos rfl] at H; exact H
                      clear H
                      have H := H1
                      clear H1
                      obtain rfl := Option.some.inj H
                      go_wp2_with (first | ((with_reducible refine gate_callee (f := 25) rfl ?_); refine goesL_ (some 60) rfl rfl Tryd.func25 (by kernel_rfl) rfl #[.int .i64 5, .string a0] rfl (by (try simp only [List.map_toArray, List.map_cons, List.map_nil]); first | done | rfl | (simp only [List.length_drop, List.length_take]; rfl)) ?_; (with_reducible refine (lex_Is.calls kj72 5 a0 t143 _ A105.out).mono ?_); rintro e w128 ⟨rfl, hb⟩; refine ⟨_, rfl, ?_⟩; have n0_ := Aside0.mk (below_step (by repeat (first | (with_reducible first | exact HB.out | apply below_alloc | apply pw_below_drewN | apply below_drew1) | exact HB.out)) hb); clear HB; have HB := n0_; clear n0_; (try clear hb); (try clear hb2); (try clear hk); (try clear hi)) | (go_at_call 25; (with_reducible refine (lex_Is.calls kj72 3 (⟨#[116]⟩ : ByteArray) true _ A124.out).mono ?_); rintro e w129 ⟨rfl, hb⟩; have n0_ := Aside0.mk (below_step (by repeat (first | (with_reducible first | exact HB.out | apply below_alloc | apply pw_below_drewN | apply below_drew1) | exact HB.out)) hb); clear HB; have HB := n0_; clear n0_; (try clear hb); (try clear hb2); (try clear hk); (try clear hi)) | (go_at_call 25; (with_reducible refine (lex_Is.calls kj72 3 (⟨#[43]⟩ : ByteArray) true _ A126.out).mono ?_); rintro e w130 ⟨rfl, hb⟩; have n0_ := Aside0.mk (below_step (by repeat (first | (with_reducible first | exact HB.out | apply below_alloc | apply pw_below_drewN | apply below_drew1) | exact HB.out)) hb); clear HB; have HB := n0_; clear n0_; (try clear hb); (try clear hb2); (try clear hk); (try clear hi)))
                      go_ret
                      exact ⟨by first | rfl | (simp [errW_none, errW_some] <;> rfl) | (simp [*, errW_none, errW_some] <;> rfl), by repeat (first | (with_reducible first | exact HB.out | apply below_alloc | apply pw_below_drewN | apply below_drew1) | exact HB.out)⟩
                    · replace c127 := Bool.eq_false_iff.mpr c127
                      subst c127
                      have H1 : ((lex_Is.f kj72 2 (⟨#[110, 73, 108]⟩ : ByteArray)).bind fun t149 => (some (!t149))) = some r := by rw [if_neg (show ¬ (false = true) by decide)] at H; exact H
                      clear H
                      have H := H1
                      clear H1
                      replace H := Option.bind_eq_some_iff.mp H
                      obtain ⟨t149, A1310, H⟩ := H
                      replace H : (some (!t149)) = some r := H
                      have A131 := Aside0.mk A1310
                      clear A1310
                      obtain rfl := Option.some.inj H
                      go_wp2_with (first | ((with_reducible refine gate_callee (f := 25) rfl ?_); refine goesL_ (some 60) rfl rfl Tryd.func25 (by kernel_rfl) rfl #[.int .i64 5, .string a0] rfl (by (try simp only [List.map_toArray, List.map_cons, List.map_nil]); first | done | rfl | (simp only [List.length_drop, List.length_take]; rfl)) ?_; (with_reducible refine (lex_Is.calls kj72 5 a0 t143 _ A105.out).mono ?_); rintro e w132 ⟨rfl, hb⟩; refine ⟨_, rfl, ?_⟩; have n0_ := Aside0.mk (below_step (by repeat (first | (with_reducible first | exact HB.out | apply below_alloc | apply pw_below_drewN | apply below_drew1) | exact HB.out)) hb); clear HB; have HB := n0_; clear n0_; (try clear hb); (try clear hb2); (try clear hk); (try clear hi)) | (go_at_call 25; (with_reducible refine (lex_Is.calls kj72 3 (⟨#[116]⟩ : ByteArray) true _ A124.out).mono ?_); rintro e w133 ⟨rfl, hb⟩; have n0_ := Aside0.mk (below_step (by repeat (first | (with_reducible first | exact HB.out | apply below_alloc | apply pw_below_drewN | apply below_drew1) | exact HB.out)) hb); clear HB; have HB := n0_; clear n0_; (try clear hb); (try clear hb2); (try clear hk); (try clear hi)) | (go_at_call 25; (with_reducible refine (lex_Is.calls kj72 3 (⟨#[43]⟩ : ByteArray) false _ A126.out).mono ?_); rintro e w134 ⟨rfl, hb⟩; have n0_ := Aside0.mk (below_step (by repeat (first | (with_reducible first | exact HB.out | apply below_alloc | apply pw_below_drewN | apply below_drew1) | exact HB.out)) hb); clear HB; have HB := n0_; clear n0_; (try clear hb); (try clear hb2); (try clear hk); (try clear hi)) | (go_at_call 25; (with_reducible refine (lex_Is.calls kj72 2 (⟨#[110, 73, 108]⟩ : ByteArray) t149 _ A131.out).mono ?_); rintro e w135 ⟨rfl, hb⟩; have n0_ := Aside0.mk (below_step (by repeat (first | (with_reducible first | exact HB.out | apply below_alloc | apply pw_below_drewN | apply below_drew1) | exact HB.out)) hb); clear HB; have HB := n0_; clear n0_; (try clear hb); (try clear hb2); (try clear hk); (try clear hi)))
                      go_ret
                      exact ⟨by first | rfl | (simp [errW_none, errW_some] <;> rfl) | (simp [*, errW_none, errW_some] <;> rfl), by repeat (first | (with_reducible first | exact HB.out | apply below_alloc | apply pw_below_drewN | apply below_drew1) | exact HB.out)⟩
                  · replace c125 := Bool.eq_false_iff.mpr c125
                    subst c125
                    have H1 : (some false) = some r := by rw [if_neg (show ¬ (false = true) by decide)] at H; exact H
                    clear H
                    have H := H1
                    clear H1
                    obtain rfl := Option.some.inj H
                    go_wp2_with (first | ((with_reducible refine gate_callee (f := 25) rfl ?_); refine goesL_ (some 60) rfl rfl Tryd.func25 (by kernel_rfl) rfl #[.int .i64 5, .string a0] rfl (by (try simp only [List.map_toArray, List.map_cons, List.map_nil]); first | done | rfl | (simp only [List.length_drop, List.length_take]; rfl)) ?_; (with_reducible refine (lex_Is.calls kj72 5 a0 t143 _ A105.out).mono ?_); rintro e w136 ⟨rfl, hb⟩; refine ⟨_, rfl, ?_⟩; have n0_ := Aside0.mk (below_step (by repeat (first | (with_reducible first | exact HB.out | apply below_alloc | apply pw_below_drewN | apply below_drew1) | exact HB.out)) hb); clear HB; have HB := n0_; clear n0_; (try clear hb); (try clear hb2); (try clear hk); (try clear hi)) | (go_at_call 25; (with_reducible refine (lex_Is.calls kj72 3 (⟨#[116]⟩ : ByteArray) false _ A124.out).mono ?_); rintro e w137 ⟨rfl, hb⟩; have n0_ := Aside0.mk (below_step (by repeat (first | (with_reducible first | exact HB.out | apply below_alloc | apply pw_below_drewN | apply below_drew1) | exact HB.out)) hb); clear HB; have HB := n0_; clear n0_; (try clear hb); (try clear hb2); (try clear hk); (try clear hi)))
                    go_ret
                    exact ⟨by first | rfl | (simp [errW_none, errW_some] <;> rfl) | (simp [*, errW_none, errW_some] <;> rfl), by repeat (first | (with_reducible first | exact HB.out | apply below_alloc | apply pw_below_drewN | apply below_drew1) | exact HB.out)⟩
                · rw [if_neg c123] at H
                  have c123b0 : (t143 == false) = false := by simpa using c123
                  (try (have c123b1 : decide (t143 = false) = false := by simpa using c123))
                  (try (have c123b2 : (t143 == false) = false := by simpa using c123))
                  (try (have c123b3 : ¬ (t143 = false) := by simpa using c123))
                  clear c123
                  obtain rfl := Option.some.inj H
                  go_wp2_with (first | ((with_reducible refine gate_callee (f := 25) rfl ?_); refine goesL_ (some 60) rfl rfl Tryd.func25 (by kernel_rfl) rfl #[.int .i64 5, .string a0] rfl (by (try simp only [List.map_toArray, List.map_cons, List.map_nil]); first | done | rfl | (simp only [List.length_drop, List.length_take]; rfl)) ?_; (with_reducible refine (lex_Is.calls kj72 5 a0 t143 _ A105.out).mono ?_); rintro e w138 ⟨rfl, hb⟩; refine ⟨_, rfl, ?_⟩; have n0_ := Aside0.mk (below_step (by repeat (first | (with_reducible first | exact HB.out | apply below_alloc | apply pw_below_drewN | apply below_drew1) | exact HB.out)) hb); clear HB; have HB := n0_; clear n0_; (try clear hb); (try clear hb2); (try clear hk); (try clear hi)))
                  go_ret
                  exact ⟨by first | rfl | (simp [errW_none, errW_some] <;> rfl) | (simp [*, errW_none, errW_some] <;> rfl), by repeat (first | (with_reducible first | exact HB.out | apply below_alloc | apply pw_below_drewN | apply below_drew1) | exact HB.out)⟩

/-- THE ONE PURE STATEMENT of postbaglaw3_LexOrders: yours. -/
def postbaglaw3_LexOrders.Pure : Prop := ∀ (a0 : ByteArray), a0.size ≤ 140737488351232 → ∃ k, postbaglaw3_LexOrders.f k a0 = some true

/-! ### postbagref3_decimal: function 67 -/
def postbagref3_decimal.f : Nat → Int → Option (ByteArray)
  | 0, _ => none
  | k + 1, a0 => if a0 < 10 then (some (strOfNums (([(wrap64 (48 + a0)) % 256] : List Int)))) else ((postbagref3_decimal.f k (wrap64 (Int.tdiv a0 10))).bind fun t153 => ((postbagref3_decimal.f k (Int.tmod a0 10)).bind fun t154 => (if t153.size + t154.size ≤ 9223372036854775807 then (some (t153 ++ t154)) else (none))))
theorem postbagref3_decimal.mono_l : ∀ k, (∀ y0, LeO (postbagref3_decimal.f k y0) (postbagref3_decimal.f (k + 1) y0))
  | 0 => fun _ r h => by simp [postbagref3_decimal.f] at h
  | k + 1 => by
    have ih0 := postbagref3_decimal.mono_l k
    · intro y0
      unfold postbagref3_decimal.f
      repeat' first
      | (with_reducible exact ih0 _)
      | (with_reducible exact LeO.refl _)
      | (with_reducible exact LeO.none _)
      | (with_reducible refine LeO.ite ?_ ?_)
      | (with_reducible refine LeO.bind ?_ (fun _ => ?_))
      | exact ih0 _
      | exact LeO.none _
      | refine LeO.ite ?_ ?_
      | refine LeO.bind ?_ (fun _ => ?_)
theorem postbagref3_decimal.mono : ∀ a0 k, LeO (postbagref3_decimal.f k a0) (postbagref3_decimal.f (k + 1) a0) := by
  intro a0 k
  have ih0 := postbagref3_decimal.mono_l k
  exact ih0 a0
set_option maxHeartbeats 8000000 in
set_option maxRecDepth 100000 in
theorem postbagref3_decimal.calls (k : Nat) : ∀ (a0 : Int) (r : ByteArray) (w : World) (h : postbagref3_decimal.f k a0 = some r),
    Calls Tryd.prog 67 #[.int .i64 a0] w fun e w' => e = .returned (.string r) ∧ Below w.heap.size w w' := by
  induction k using Nat.strongRecOn with
  | _ k ih =>
  intro a0 r w h
  cases k with
  | zero => exact absurd h (by simp [postbagref3_decimal.f])
  | succ k =>
  simp only [postbagref3_decimal.f] at h
  have HB := Aside0.mk (Below.refl w.heap.size w)
  have H : (if a0 < 10 then (some (strOfNums (([(wrap64 (48 + a0)) % 256] : List Int)))) else ((postbagref3_decimal.f k (wrap64 (Int.tdiv a0 10))).bind fun t153 => ((postbagref3_decimal.f k (Int.tmod a0 10)).bind fun t154 => (if t153.size + t154.size ≤ 9223372036854775807 then (some (t153 ++ t154)) else (none))))) = some r := h
  clear h
  by_cases c2 : a0 < 10
  · rw [if_pos c2] at H
    have c2b0 : decide (a0 < 10) = true := decide_eq_true c2
    clear c2
    obtain ⟨y150, hy150⟩ : ∃ y_ : List Int, y_ = (([(wrap64 (48 + a0)) % 256] : List Int)) := ⟨_, rfl⟩
    replace H : (some (strOfNums y150)) = some r := by first | (rw [hy150]; with_reducible exact H) | (have H2_ := (Option.bind_some _ _).symm.trans H; rw [hy150]; with_reducible exact H2_) | (have H2_ := (Option.bind_some _ _).symm.trans H; with_reducible exact H2_) | with_reducible exact H | (rw [hy150]; exact H) | exact H
    have Ny150 := Aside0.mk hy150
    clear hy150
    obtain rfl := Option.some.inj H
    go_enter Tryd.func67, Tryd.ntmps67
    go_wp2_with (first | ((with_reducible refine gate_dst (N := 8) rfl ?_); refine Kd.R_lit (Kd.int .u8) _ 5 ?hg (N := 8) ?hd (xs := ([(wrap64 (48 + a0)) % 256] : List Int)) (inner := [.int .u8 ((wrap64 (48 + a0)) % 256)]) (ok := fun _ => True) (okp := fun _ => True) ?hr ?hp (fun _ hk => hk) trivial (Below.refl _ _) (Nat.le_refl _) (by simp) ?_; (case hd => rfl); (case hg => rfl); (case hr => first | (go_simp; done) | (go_simp; rfl)); (case hp => exact (Reps.one (show Kd.M (Kd.int .u8) _ _ _ ((wrap64 (48 + a0)) % 256) [.int .u8 ((wrap64 (48 + a0)) % 256)] from rfl) (Reps.none _ _))); intro v151 w3 ho4 hb hg_ hnew_; clear hg_ hnew_; (first | rw [← Ny150.out] at ho4 | (simp only [Int.reduceToNat] at ho4; rw [← Ny150.out] at ho4)); have n0_ := Aside0.mk (Kd.R_lower ho4 (below_size (by repeat (first | (with_reducible first | exact HB.out | apply below_alloc | apply pw_below_drewN | apply below_drew1) | exact HB.out)))); have n1_ := Aside0.mk (below_step (by repeat (first | (with_reducible first | exact HB.out | apply below_alloc | apply pw_below_drewN | apply below_drew1) | exact HB.out)) hb); clear HB; have HO152 := n0_; have HB := n1_; clear n0_ n1_; clear hb ho4; have hcv5 := own_string (P := Tryd.prog) Tryd.underlying120 Tryd.underlying5 Tryd.underlying9 (Kd.own_of_R HO152.out)))
    go_ret
    exact ⟨by first | rfl | (simp [errW_none, errW_some] <;> rfl) | (simp [*, errW_none, errW_some] <;> rfl), by repeat (first | (with_reducible first | exact HB.out | apply below_alloc | apply pw_below_drewN | apply below_drew1) | exact HB.out)⟩
  · rw [if_neg c2] at H
    have c2b0 : decide (a0 < 10) = false := decide_eq_false c2
    clear c2
    replace H := Option.bind_eq_some_iff.mp H
    obtain ⟨t153, A60, H⟩ := H
    replace H : ((postbagref3_decimal.f k (Int.tmod a0 10)).bind fun t154 => (if t153.size + t154.size ≤ 9223372036854775807 then (some (t153 ++ t154)) else (none))) = some r := H
    have A6 := Aside0.mk A60
    clear A60
    replace H := Option.bind_eq_some_iff.mp H
    obtain ⟨t154, A70, H⟩ := H
    replace H : (if t153.size + t154.size ≤ 9223372036854775807 then (some (t153 ++ t154)) else (none)) = some r := H
    have A7 := Aside0.mk A70
    clear A70
    by_cases c8 : t153.size + t154.size ≤ 9223372036854775807
    · rw [if_pos c8] at H
      have c8b0 := eq_true c8
      have c8b1 : decide (t153.size + t154.size ≤ 9223372036854775807) = true := decide_eq_true c8
      try have c8b2 : (9223372036854775807 < t153.size + t154.size) = False := eq_false (Nat.not_lt.2 c8)
      obtain rfl := Option.some.inj H
      go_enter Tryd.func67, Tryd.ntmps67
      go_wp2_with (first | ((with_reducible refine gate_callee (f := 67) rfl ?_); refine goesL_ (some 12) rfl rfl Tryd.func67 (by kernel_rfl) rfl #[.int .i64 (wrap64 (Int.tdiv a0 10))] rfl (by (try simp only [List.map_toArray, List.map_cons, List.map_nil]); first | done | rfl | (simp only [List.length_drop, List.length_take]; rfl)) ?_; (with_reducible refine (ih k (by omega) (wrap64 (Int.tdiv a0 10)) t153 _ A6.out).mono ?_); rintro e w9 ⟨rfl, hb⟩; refine ⟨_, rfl, ?_⟩; have n0_ := Aside0.mk (below_step (by repeat (first | (with_reducible first | exact HB.out | apply below_alloc | apply pw_below_drewN | apply below_drew1) | exact HB.out)) hb); clear HB; have HB := n0_; clear n0_; (try clear hb); (try clear hb2); (try clear hk); (try clear hi)) | ((with_reducible refine gate_callee (f := 67) rfl ?_); refine goesL_ (some 15) rfl rfl Tryd.func67 (by kernel_rfl) rfl #[.int .i64 (Int.tmod a0 10)] rfl (by (try simp only [List.map_toArray, List.map_cons, List.map_nil]); first | done | rfl | (simp only [List.length_drop, List.length_take]; rfl)) ?_; (with_reducible refine (ih k (by omega) (Int.tmod a0 10) t154 _ A7.out).mono ?_); rintro e w10 ⟨rfl, hb⟩; refine ⟨_, rfl, ?_⟩; have n0_ := Aside0.mk (below_step (by repeat (first | (with_reducible first | exact HB.out | apply below_alloc | apply pw_below_drewN | apply below_drew1) | exact HB.out)) hb); clear HB; have HB := n0_; clear n0_; (try clear hb); (try clear hb2); (try clear hk); (try clear hi)))
      go_ret
      exact ⟨by first | rfl | (simp [errW_none, errW_some] <;> rfl) | (simp [*, errW_none, errW_some] <;> rfl), by repeat (first | (with_reducible first | exact HB.out | apply below_alloc | apply pw_below_drewN | apply below_drew1) | exact HB.out)⟩
    · rw [if_neg c8] at H
      exact absurd H (by simp)

end Go.Proofs.YtkfehogefclhdaaDoor.PLt
