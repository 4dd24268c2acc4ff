import Derived.Test.YtkfehogefclhdaaDoorPLnx
namespace Go.Proofs.YtkfehogefclhdaaDoor.Pure
open Go.RowKit Go.Proofs.YtkfehogefclhdaaDoor.PLn Go.Proofs.YtkfehogefclhdaaDoorW.PrintWords Go.Proofs.YtkfehogefclhdaaDoorW.PrintLast

def resN (most : Int) (n : Nat) (l : List UInt8) : Int × Int := if l.all countU = true ∧ (valF n l : Int) ≤ most then ((valF n l : Int), 0) else (0, 3)
theorem digit_some (b : UInt8) : postbagref3_digit.f (b.toNat : Int) = some (countU b) := by
  unfold postbagref3_digit.f countU
  by_cases c : (b.toNat : Int) ≥ 48
  · rw [if_pos c, decide_eq_true (show 48 ≤ b.toNat by omega), Bool.true_and]; congr 1; rw [decide_eq_decide]; omega
  · rw [if_neg c, decide_eq_false (show ¬ 48 ≤ b.toNat by omega), Bool.false_and]
theorem sub10 {m c : Int} (h0 : 0 ≤ c) (h1 : ¬ c > m) (h2 : m ≤ 9223372036854775807) : wrap64 (Int.tdiv (wrap64 (m - c)) 10) = (m - c) / 10 := by
  rw [w64 (z := m - c) (by omega) (by omega), Int.tdiv_eq_ediv_of_nonneg (by omega), w64 (by omega) (by omega)]
theorem mul10 {m c n : Int} (h0 : 0 ≤ c) (h1 : ¬ c > m) (h2 : m ≤ 9223372036854775807) (hn : 0 ≤ n) (h3 : ¬ n > (m - c) / 10) : wrap64 ((wrap64 (n * 10)) + c) = n * 10 + c := by
  rw [w64 (z := n * 10) (by omega) (by omega), w64 (by omega) (by omega)]
theorem le10 {m c n : Int} (h1 : ¬ c > m) (h3 : ¬ n > (m - c) / 10) : n * 10 + c ≤ m := by omega
theorem enterW (s : ByteArray) (most : Int) (hs : s.size ≤ 140737488351232) (n i : Nat) (hlt : i < s.size) (hc : countU s[i] = true) (k : Nat) :
    postbagref3_Number.l0 (k + 1) s most n i = (if ((s[i].toNat - 48 : Nat) : Int) > most then (some (0, 3)) else (if (n : Int) > (wrap64 (Int.tdiv (wrap64 (most - ((s[i].toNat - 48 : Nat) : Int))) 10)) then (some (0, 3)) else (postbagref3_Number.l0 k s most (wrap64 ((wrap64 ((n : Int) * 10)) + ((s[i].toNat - 48 : Nat) : Int))) (i + 1 : Nat)))) := by
  have e1 : wrap64 ((i : Int) + 1) = ((i + 1 : Nat) : Int) := by rw [w64 (by omega) (by omega)]; rfl
  have hb := bt_nat s i hlt
  have hc' := hc
  unfold countU at hc'
  rw [Bool.and_eq_true, decide_eq_true_eq, decide_eq_true_eq] at hc'
  obtain ⟨c1, c2⟩ := hc'
  have ed : (bt s i - 48) % 256 = ((s[i].toNat - 48 : Nat) : Int) := by rw [hb]; omega
  simp only [postbagref3_Number.l0]
  rw [if_pos (by omega), if_pos (by omega), ed, e1, hb, digit_some, hc]
  simp only [Option.bind_some, if_true]
theorem ref_loop (s : ByteArray) (most : Int) (hs : s.size ≤ 140737488351232) (hm0 : -9223372036854775808 ≤ most) (hm1 : most ≤ 9223372036854775807) :
    ∀ (d i n : Nat), s.size - i = d → i ≤ s.size → (n : Int) ≤ 9223372036854775807 → (i < s.size ∨ (n : Int) ≤ most) → Ev (fun k => postbagref3_Number.l0 k s most n i) (resN most n (s.data.toList.drop i)) := by
  intro d
  induction d with
  | zero =>
    intro i n hd hi hn hor
    have e : i = s.size := by omega
    subst e
    have h2 : (n : Int) ≤ most := by omega
    rw [List.drop_of_length_le (by simp)]
    refine Ev.step (f := fun _ => some ((n : Int), 0)) (fun k => by simp only [postbagref3_Number.l0]; rw [if_neg (by omega)]) ?_
    unfold resN; rw [if_pos ⟨rfl, h2⟩]
    exact Ev.now _
  | succ d ih =>
    intro i n hd hi hn hor
    have hlt : i < s.size := by omega
    have e1 : wrap64 ((i : Int) + 1) = ((i + 1 : Nat) : Int) := by rw [w64 (by omega) (by omega)]; rfl
    have hb := bt_nat s i hlt
    rw [drop_at s i hlt]
    have hg : ∀ c : UInt8, (valF n (c :: s.data.toList.drop (i + 1))) = valF (n * 10 + (c.toNat - 48)) (s.data.toList.drop (i + 1)) := fun _ => rfl
    have hge := val_ge (s.data.toList.drop (i + 1)) (n * 10 + (s[i].toNat - 48))
    cases hc : countU s[i] with
    | false =>
      have : resN most n (s[i] :: s.data.toList.drop (i + 1)) = (0, 3) := by
        unfold resN; rw [if_neg]; rintro ⟨h, _⟩; rw [List.all_cons, hc] at h; simp at h
      rw [this]
      refine Ev.step (f := fun _ => some (0, 3)) (fun k => ?_) (Ev.now _)
      simp only [postbagref3_Number.l0]
      rw [if_pos (by omega), if_pos (by omega), hb, digit_some, hc]; rfl
    | true =>
      have hc' := hc
      unfold countU at hc'
      rw [Bool.and_eq_true, decide_eq_true_eq, decide_eq_true_eq] at hc'
      obtain ⟨c1, c2⟩ := hc'
      have enter := enterW s most hs n i hlt hc
      have big : most < ((n * 10 + (s[i].toNat - 48) : Nat) : Int) → resN most n (s[i] :: s.data.toList.drop (i + 1)) = (0, 3) := fun h => by
        unfold resN; rw [if_neg]; rintro ⟨_, h2⟩; rw [hg] at h2; omega
      by_cases h1 : ((s[i].toNat - 48 : Nat) : Int) > most
      · rw [big (by omega)]
        exact Ev.step (f := fun _ => some (0, 3)) (fun k => by rw [enter, if_pos h1]) (Ev.now _)
      · have e3 := sub10 (m := most) (c := ((s[i].toNat - 48 : Nat) : Int)) (by omega) h1 hm1
        by_cases h2 : (n : Int) > (most - ((s[i].toNat - 48 : Nat) : Int)) / 10
        · rw [big (by omega)]
          exact Ev.step (f := fun _ => some (0, 3)) (fun k => by rw [enter, if_neg h1, e3, if_pos h2]) (Ev.now _)
        · have e4 : wrap64 ((wrap64 ((n : Int) * 10)) + ((s[i].toNat - 48 : Nat) : Int)) = ((n * 10 + (s[i].toNat - 48) : Nat) : Int) := by
            rw [mul10 (m := most) (by omega) h1 hm1 (by omega) h2]; omega
          have hle : ((n * 10 + (s[i].toNat - 48) : Nat) : Int) ≤ most := by
            have := le10 h1 h2
            rw [Int.natCast_add, Int.natCast_mul]; exact this
          have hn2 := ih (i + 1) (n * 10 + (s[i].toNat - 48)) (by omega) (by omega) (Int.le_trans hle hm1) (.inr hle)
          have er : resN most n (s[i] :: s.data.toList.drop (i + 1)) = resN most (n * 10 + (s[i].toNat - 48)) (s.data.toList.drop (i + 1)) := by
            unfold resN; rw [hg, List.all_cons, hc, Bool.true_and]
          rw [er]
          exact Ev.step (fun k => by rw [enter, if_neg h1, e3, if_neg h2, e4]) hn2
theorem ref_Number_ev (s : ByteArray) (most : Int) (hs : s.size ≤ 140737488351232) (hm0 : -9223372036854775808 ≤ most) (hm1 : most ≤ 9223372036854775807) :
    Ev (fun k => postbagref3_Number.f k s most) (numV (numO s.data.toList most), numE (numO s.data.toList most)) := by
  have e2 : s.data.toList.length = s.size := by simp
  have no : Ev (fun k => postbagref3_Number.j0 k s most true) (0, 3) := Ev.step (f := fun _ => some (0, 3)) (fun k => by simp only [postbagref3_Number.j0, if_true]) (Ev.now _)
  by_cases h0 : s.data.toList = []
  · have e : numO s.data.toList most = none := by unfold numO; rw [if_pos h0]
    rw [e]
    exact Ev.congr (fun k => by unfold postbagref3_Number.f; rw [if_pos (by rw [ByteArray.toList_eq]; exact h0)]) no
  · have hz0 : 0 < s.size := by rw [← e2]; exact List.length_pos_iff.2 h0
    have hne : ¬ s.toList = [] := by rw [ByteArray.toList_eq]; exact h0
    have hd : s.data.toList.headD 0 = s[0] := by have := drop_at s 0 hz0; rw [List.drop_zero] at this; rw [this]; rfl
    have hb : bt s 0 = (s[0].toNat : Int) := bt_nat s 0 hz0
    have go : ¬ (1 < s.data.toList.length ∧ s.data.toList.headD 0 = 48) → Ev (fun k => postbagref3_Number.j0 k s most false) (numV (numO s.data.toList most), numE (numO s.data.toList most)) := fun hno => by
      have hl := ref_loop s most hs hm0 hm1 s.size 0 0 rfl (by omega) (by omega) (.inl hz0)
      rw [List.drop_zero] at hl
      have er : resN most 0 s.data.toList = (numV (numO s.data.toList most), numE (numO s.data.toList most)) := by
        unfold resN numO
        rw [if_neg h0]
        cases ha : s.data.toList.all countU with
        | false => rw [if_neg (by simp), if_pos rfl]; rfl
        | true =>
          rw [if_neg (show ¬ (true = false) by decide), if_neg hno]
          by_cases hv : (valF 0 s.data.toList : Int) ≤ most
          · rw [if_pos ⟨rfl, hv⟩, if_pos hv]; rfl
          · rw [if_neg (fun h => hv h.2), if_neg hv]; rfl
      rw [er] at hl
      exact Ev.step (fun k => by simp only [postbagref3_Number.j0]; rw [if_neg (by decide)]; rfl) hl
    by_cases h1 : (s.size : Int) > 1
    · by_cases h48 : s[0] = 48
      · have e : numO s.data.toList most = none := by
          unfold numO; rw [if_neg h0]; split
          · rfl
          · rw [if_pos ⟨by omega, by rw [hd, h48]⟩]
        rw [e]
        exact Ev.congr (fun k => by unfold postbagref3_Number.f; rw [if_neg hne, if_pos h1, if_pos (by omega), hb, h48]; rfl) no
      · have hc2 : (bt s 0 == 48) = false := beq_eq_false_iff_ne.2 (fun h => h48 (UInt8.toNat_inj.1 (by have : (48 : UInt8).toNat = 48 := rfl; omega)))
        exact Ev.congr (fun k => by unfold postbagref3_Number.f; rw [if_neg hne, if_pos h1, if_pos (by omega), hc2]) (go (fun h => h48 (by rw [← hd]; exact h.2)))
    · exact Ev.congr (fun k => by unfold postbagref3_Number.f; rw [if_neg hne, if_neg h1]) (go (by omega))
theorem bounds_w {a : Int} (h : (Lit.int .i64 a).wf = true) : -9223372036854775808 ≤ a ∧ a ≤ 9223372036854775807 := by
  simp only [Lit.wf, Bool.and_eq_true, decide_eq_true_eq] at h
  exact h
theorem ten_is : numO (⟨#[49, 48]⟩ : ByteArray).data.toList 10 = some 10 := by decide +kernel
theorem LexNumbers (a0 : ByteArray) (a1 : Int) (hs : a0.size ≤ 140737488351232) (w1 : (Lit.int .i64 a1).wf = true) : ∃ k, postbaglaw3_LexNumbers.f k a0 a1 = some true := by
  obtain ⟨b0, b1⟩ := bounds_w w1
  refine Ev.rounds ?_
  unfold postbaglaw3_LexNumbers.f
  refine Ev.bind (ref_Number_ev a0 a1 hs b0 b1) ?_
  refine Ev.congr (fun k => ?_) (Ev.now true)
  have e1 : lex_Number.f a0 a1 = some (numV (numO a0.data.toList a1), numE (numO a0.data.toList a1)) := by unfold lex_Number.f; rw [if_pos ⟨hs, b1⟩]
  have e2 : lex_Number.f (⟨#[49, 48]⟩ : ByteArray) 10 = some (10, 0) := by unfold lex_Number.f; rw [if_pos (by decide), ten_is]; rfl
  rw [e1, e2]
  simp only [Option.bind_some, postbaglaw3_num.f, if_true]
  rfl
end Go.Proofs.YtkfehogefclhdaaDoor.Pure
