import Derived.Test.YtkfehogefclhdaaDoorTexts
namespace Go.Proofs.YtkfehogefclhdaaDoor.Pure
open Go.RowKit Go.Proofs.YtkfehogefclhdaaDoor.PLt Go.Proofs.YtkfehogefclhdaaDoorW.PrintWords Go.Proofs.YtkfehogefclhdaaDoorW.PrintLast

theorem spec1 (l : List UInt8) : isSpec 1 l = atomL l := rfl
theorem spec2 (l : List UInt8) : isSpec 2 l = (atomL l && !nullL l) := rfl
theorem spec3 (l : List UInt8) : isSpec 3 l = (atomL l && (decide (l.length ≤ 32) && !l.contains 43)) := rfl
theorem spec4 (l : List UInt8) : isSpec 4 l = (if l.headD 0 = 92 then atomL l.tail else atomL l && decide (l.length ≤ 24)) := rfl
theorem spec5 (l : List UInt8) : isSpec 5 l = (atomL l && decide (l.length ≤ 24)) := rfl
theorem spec6 (l : List UInt8) : isSpec 6 l = (l.all matchU && decide (0 < l.length)) := rfl
theorem plain92 : plainU 92 = false := by decide +kernel
theorem atom_match (l : List UInt8) (h : atomL l = true) : isSpec 6 l = true := by
  rw [spec6]; unfold atomL at h
  simp only [Bool.and_eq_true, List.all_eq_true] at h ⊢
  exact ⟨fun x hx => by unfold matchU; rw [h.1 x hx]; rfl, h.2⟩
theorem key_flag (l : List UInt8) (h : isSpec 5 l = true) : isSpec 4 l = true := by
  rw [spec5] at h; rw [spec4]
  cases l with
  | nil => simp [atomL] at h
  | cons b r =>
    by_cases e : b = 92
    · subst e
      unfold atomL at h
      rw [List.all_cons, plain92] at h
      simp at h
    · rw [if_neg (show ¬ (b :: r).headD 0 = 92 from e)]; exact h
theorem flag_back (s : ByteArray) : isSpec 4 ((⟨#[92]⟩ : ByteArray) ++ s).data.toList = isSpec 1 s.data.toList := by
  rw [spec4, spec1, ByteArray.data_append, Array.toList_append]
  show (if (92 :: s.data.toList).headD 0 = 92 then atomL (92 :: s.data.toList).tail else _) = _
  rw [List.headD_cons, if_pos rfl, List.tail_cons]
theorem put_same (s : ByteArray) : ((putBA s).toList == s.toList) = isSpec 2 s.data.toList := by
  unfold putBA
  cases c : isSpec 2 s.data.toList with
  | true => rw [if_pos rfl]; exact beq_self_eq_true _
  | false =>
    rw [if_neg (by decide), beq_eq_false_iff_ne]
    intro h
    rw [ByteArray.toList_eq, ByteArray.toList_eq] at h
    have hl := congrArg List.length h
    rw [size_len, size_len] at hl
    unfold stringBA at hl
    split at hl
    · have := quote_size s; omega
    · unfold litBA at hl
      rw [ByteArray.size_append, ByteArray.size_append] at hl
      have e3 : (⟨#[125, 13, 10]⟩ : ByteArray).size = 3 := rfl
      omega
theorem LexOrdersUpto (a0 : ByteArray) (hs : a0.size ≤ 1048576) : ∃ k, postbaglaw3_LexOrders.f k a0 = some true := by
  refine Ev.rounds ?_
  have I := fun c => lex_Is_ev a0 (by omega) c
  have fin : ∀ {g : Nat → Option Bool}, Ev (fun k => (lex_Is.f k 3 (⟨#[116]⟩ : ByteArray)).bind fun t144 => (if t144 = true then ((lex_Is.f k 3 (⟨#[43]⟩ : ByteArray)).bind fun t145 => (if t145 = true then (some false) else ((lex_Is.f k 2 (⟨#[110, 73, 108]⟩ : ByteArray)).bind fun t146 => (some (!t146))))) else (some false))) true := by
    intro _
    refine Ev.bind (lex_Is_ev ⟨#[116]⟩ (by decide) 3) ?_
    refine Ev.congr (fun k => by rw [if_pos (by decide +kernel)]) ?_
    refine Ev.bind (lex_Is_ev ⟨#[43]⟩ (by decide) 3) ?_
    refine Ev.congr (fun k => by rw [if_neg (by decide +kernel)]) ?_
    refine Ev.bind (lex_Is_ev ⟨#[110, 73, 108]⟩ (by decide) 2) ?_
    exact Ev.congr (fun k => by rw [show isSpec 2 (⟨#[110, 73, 108]⟩ : ByteArray).data.toList = false by decide +kernel]; rfl) (Ev.now true)
  have j1 : Ev (fun k => postbaglaw3_LexOrders.j1 k a0 (isSpec 1 a0.data.toList) false) true := by
    have h5 : isSpec 5 a0.data.toList = (isSpec 1 a0.data.toList && decide ((a0.size : Int) ≤ 24)) := by
      rw [spec5, spec1, size_len]; congr 1; rw [decide_eq_decide]; omega
    refine Ev.step (fun k => by simp only [postbaglaw3_LexOrders.j1]; rw [if_neg (by decide)]) (Ev.bind (I 5) ?_)
    rw [h5]
    cases c : isSpec 1 a0.data.toList with
    | true =>
      refine Ev.congr (fun k => by rw [if_pos rfl, if_pos (by simp)]) ?_
      exact fin (g := fun _ => none)
    | false =>
      refine Ev.congr (fun k => by rw [if_neg (by decide), if_pos (by simp)]) ?_
      exact fin (g := fun _ => none)
  have j0 : Ev (fun k => postbaglaw3_LexOrders.j0 k a0 (isSpec 1 a0.data.toList) false) true := by
    have tail : Ev (fun k => (lex_Is.f k 4 ((⟨#[92]⟩ : ByteArray) ++ a0)).bind fun t137 => (if (t137 != isSpec 1 a0.data.toList) = true then (postbaglaw3_LexOrders.j1 k a0 (isSpec 1 a0.data.toList) true) else ((lex_Put.f k a0).bind fun t138 => ((lex_Is.f k 2 a0).bind fun t139 => (postbaglaw3_LexOrders.j1 k a0 (isSpec 1 a0.data.toList) ((t138.toList == a0.toList) != t139)))))) true := by
      refine Ev.bind (lex_Is_ev ((⟨#[92]⟩ : ByteArray) ++ a0) (by rw [ByteArray.size_append]; have e1 : (⟨#[92]⟩ : ByteArray).size = 1 := rfl; omega) 4) ?_
      refine Ev.congr (fun k => by rw [if_neg (by rw [flag_back]; simp)]) ?_
      refine Ev.bind (lex_Put_ev a0 hs) (Ev.bind (I 2) ?_)
      exact Ev.congr (fun k => by rw [put_same, bne_self_eq_false]) j1
    refine Ev.step (fun k => by simp only [postbaglaw3_LexOrders.j0]; rw [if_neg (by decide)]) (Ev.bind (I 5) ?_)
    cases c : isSpec 5 a0.data.toList with
    | true =>
      refine Ev.congr (fun k => by rw [if_pos rfl]) (Ev.bind (I 4) ?_)
      exact Ev.congr (fun k => by rw [if_pos (key_flag _ c), if_pos (by omega)]) tail
    | false => exact Ev.congr (fun k => by rw [if_neg (by decide), if_pos (by omega)]) tail
  unfold postbaglaw3_LexOrders.f
  refine Ev.bind (I 1) (Ev.bind (I 2) ?_)
  have h2 : isSpec 1 a0.data.toList = false → isSpec 2 a0.data.toList = false := fun h => by rw [spec2]; rw [spec1] at h; rw [h]; rfl
  have h3 : isSpec 1 a0.data.toList = false → isSpec 3 a0.data.toList = false := fun h => by rw [spec3]; rw [spec1] at h; rw [h]; rfl
  have h5 : isSpec 1 a0.data.toList = false → isSpec 5 a0.data.toList = false := fun h => by rw [spec5]; rw [spec1] at h; rw [h]; rfl
  cases c1 : isSpec 1 a0.data.toList with
  | false =>
    rw [c1] at j0
    refine Ev.congr (fun k => by rw [if_neg (by rw [h2 c1]; decide)]) (Ev.bind (I 3) ?_)
    refine Ev.congr (fun k => by rw [if_neg (by rw [h3 c1]; decide)]) (Ev.bind (I 5) ?_)
    exact Ev.congr (fun k => by rw [if_neg (by rw [h5 c1]; decide), if_neg (by decide)]) j0
  | true =>
    rw [c1] at j0
    have h6 := atom_match a0.data.toList (by rw [← spec1]; exact c1)
    have t6 : Ev (fun k => (lex_Is.f k 6 a0).bind fun t123 => (postbaglaw3_LexOrders.j0 k a0 true (!t123))) true := by
      refine Ev.bind (I 6) ?_
      exact Ev.congr (fun k => by rw [h6]; rfl) j0
    have t5 : Ev (fun k => (lex_Is.f k 5 a0).bind fun t122 => (if t122 = true then ((lex_Is.f k 6 a0).bind fun t123 => (postbaglaw3_LexOrders.j0 k a0 true (!t123))) else ((lex_Is.f k 6 a0).bind fun t124 => (postbaglaw3_LexOrders.j0 k a0 true (!t124))))) true := by
      refine Ev.bind (I 5) ?_
      cases isSpec 5 a0.data.toList with
      | true => exact Ev.congr (fun k => by rw [if_pos rfl]) t6
      | false => exact Ev.congr (fun k => by rw [if_neg (by decide)]) t6
    cases c2 : isSpec 2 a0.data.toList with
    | true =>
      refine Ev.congr (fun k => by rw [if_pos rfl, if_pos rfl]) (Ev.bind (I 3) ?_)
      cases isSpec 3 a0.data.toList with
      | true => exact Ev.congr (fun k => by rw [if_pos rfl]) t5
      | false => exact Ev.congr (fun k => by rw [if_neg (by decide)]) t5
    | false =>
      refine Ev.congr (fun k => by rw [if_neg (by decide)]) (Ev.bind (I 3) ?_)
      cases isSpec 3 a0.data.toList with
      | true => exact Ev.congr (fun k => by rw [if_pos rfl, if_pos rfl]) t5
      | false =>
        refine Ev.congr (fun k => by rw [if_neg (by decide)]) (Ev.bind (I 5) ?_)
        cases isSpec 5 a0.data.toList with
        | true => exact Ev.congr (fun k => by rw [if_pos rfl, if_pos rfl]) t6
        | false => exact Ev.congr (fun k => by rw [if_neg (by decide), if_pos rfl]) t6
end Go.Proofs.YtkfehogefclhdaaDoor.Pure
