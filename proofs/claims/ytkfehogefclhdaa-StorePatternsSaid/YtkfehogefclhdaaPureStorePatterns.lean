/- For every name, other text and two numbers (texts of at most 300 bytes; longer ones are passed by): the patterns that are cut out of a name fit it as P12.14 says. No condition. -/
import Derived.Test.YtkfehogefclhdaaPSmx6
import Derived.Test.YtkfehogefclhdaaPats
namespace Go.Proofs.Ytkfehogefclhdaa.Pure
open Go.RowKit Go.Proofs.Ytkfehogefclhdaa.PSm Go.Proofs.YtkfehogefclhdaaW.PrintWords Go.Proofs.YtkfehogefclhdaaW.PrintLast

def bareB (s : ByteArray) : Nat → Bool
  | 0 => true
  | j + 1 => bareB s j && (bt s j != 42 && bt s j != 37)
theorem bareB_bare (s : ByteArray) : ∀ n, bareB s n = true → ∀ t : Nat, t < n → bt s t ≠ 42 ∧ bt s t ≠ 37 := by
  intro n
  induction n with
  | zero => intro _ t h; omega
  | succ n ih =>
    intro h t ht
    simp only [bareB, Bool.and_eq_true, bne_iff_ne] at h
    by_cases e : t = n
    · subst e; exact h.2
    · exact ih h.1 t (by omega)
theorem spot_some (a n : Int) (h0 : -9223372036854775808 ≤ a) (h1 : a ≤ 9223372036854775807) (hn : 0 < n) (hn2 : n ≤ 9223372036854775807) : ∃ t : Int, postbaglaw12_spot.f a n = some t ∧ 0 ≤ t ∧ t < n := by
  unfold postbaglaw12_spot.f
  by_cases c : a < 0
  · rw [if_pos c, if_neg (by omega), w64 (z := a + 1) (by omega) (by omega), w64 (by omega) (by omega)]
    exact ⟨_, rfl, Int.tmod_nonneg _ (by omega), Int.tmod_lt_of_pos _ hn⟩
  · rw [if_neg c, if_neg (by omega)]
    exact ⟨_, rfl, Int.tmod_nonneg _ (by omega), Int.tmod_lt_of_pos _ hn⟩

section
variable (s o : ByteArray) (hs : s.size ≤ 300) (ho : o.size ≤ 300)
include hs ho

omit ho in
theorem selfE (h : Bare s) : Ev (fun k => store_Match.f k s s) true := by
  have := store_Match_ev s s (by omega) (by omega)
  rwa [match_self s h] at this
/-- The last loop: wildcards of the other text. -/
theorem last_l2 (hb : Bare s) (x12 low a b c : Bool) (hbt : b = true) (hc : c = true ∨ x12 = true) (ha : ∀ _ : Bare o, low = false → a = (o.toList == s.toList)) :
    ∀ (d j : Nat), o.size - j = d → j ≤ o.size → (∀ t : Nat, t < j → bt o t ≠ 42 ∧ bt o t ≠ 37) → Ev (fun k => postbaglaw12_StorePatterns.l2 k s o x12 low a b c j) true := by
  have fin : ∀ k : Nat → Option Bool, Ev k true → Ev (fun n => (k n).bind fun t => if t = true then (if b = true then (if c = true then some true else some x12) else some false) else some false) true := fun k hk => by
    refine Ev.bind hk ?_
    refine Ev.congr (fun n => ?_) (Ev.now true)
    rw [if_pos rfl, if_pos hbt]
    rcases hc with h | h
    · rw [if_pos h]
    · split <;> simp [h]
  intro d
  induction d with
  | zero =>
    intro j hd hj hbo
    have e : j = o.size := by omega
    subst e
    cases hl : low with
    | true =>
      refine Ev.step (fun k => ?_) (fin _ (selfE s hs hb))
      simp only [postbaglaw12_StorePatterns.l2]; rw [if_neg (by omega)]; simp only [if_true]
    | false =>
      refine Ev.step (fun k => ?_) (fin _ (selfE s hs hb))
      simp only [postbaglaw12_StorePatterns.l2]; rw [if_neg (by omega), ha hbo hl]; simp
  | succ d ih =>
    intro j hd hj hbo
    have e1 : wrap64 ((j : Int) + 1) = ((j + 1 : Nat) : Int) := by rw [w64 (by omega) (by omega)]; rfl
    by_cases h1 : bt o j = 42
    · refine Ev.step (fun k => ?_) (fin _ (selfE s hs hb))
      simp only [postbaglaw12_StorePatterns.l2]; rw [if_pos (by omega), if_pos (by omega), if_pos h1]
    · by_cases h2 : bt o j = 37
      · refine Ev.step (fun k => ?_) (fin _ (selfE s hs hb))
        simp only [postbaglaw12_StorePatterns.l2]; rw [if_pos (by omega), if_pos (by omega), if_neg h1, if_pos h2]
      · refine Ev.step (fun k => ?_) (ih (j + 1) (by omega) (by omega) (fun t ht => by
          by_cases e : t = j
          · subst e; exact ⟨h1, h2⟩
          · exact hbo t (by omega)))
        simp only [postbaglaw12_StorePatterns.l2]; rw [if_pos (by omega), if_pos (by omega), if_neg h1, if_neg h2, e1]
/-- The three patterns, and the loop behind them. -/
theorem last_j4 (hb : Bare s) (i k : Nat) (h1 : i ≤ k) (h2 : k ≤ s.size) (low : Bool) (hlow : low = false → o.toList = s.toList ∨ foldB s = false) :
    Ev (fun n => postbaglaw12_StorePatterns.j4 n s o i k (slashB s i (k - i)) low) true := by
  have hi : i ≤ s.size := by omega
  have e42 : (((s.extract 0 ((i : Int) : Int).toNat) ++ (⟨#[42]⟩ : ByteArray)) ++ (s.extract ((k : Int) : Int).toNat s.size)) = cutP s i k 42 := by rw [Int.toNat_natCast, Int.toNat_natCast]; rfl
  have e37 : (((s.extract 0 ((i : Int) : Int).toNat) ++ (⟨#[37]⟩ : ByteArray)) ++ (s.extract ((k : Int) : Int).toNat s.size)) = cutP s i k 37 := by rw [Int.toNat_natCast, Int.toNat_natCast]; rfl
  have z42 := cutP_size s i k 42 hi
  have z37 := cutP_size s i k 37 hi
  have b42 := match_cut s hb i k h1 h2 42 (.inl rfl) (.inl rfl)
  refine Ev.step (f := fun n => (store_Match.f n o s).bind fun t155 => (store_Match.f n (cutP s i k 42) s).bind fun t156 => (store_Match.f n (cutP s i k 37) s).bind fun t157 => postbaglaw12_StorePatterns.l2 n s o (slashB s i (k - i)) low t155 t156 t157 0) (fun n => ?_) ?_
  · simp only [postbaglaw12_StorePatterns.j4]
    congr 1; funext t155
    rw [if_pos (by omega), if_pos (by omega), if_pos (by rw [ByteArray.size_extract]; omega), if_pos (by omega), if_pos (by omega)]
    rw [if_pos (by rw [ByteArray.size_append, ByteArray.size_extract, ByteArray.size_extract]; have e1 : (⟨#[42]⟩ : ByteArray).size = 1 := rfl; omega), e42]
    congr 1; funext t156
    rw [if_pos (by rw [ByteArray.size_append, ByteArray.size_extract, ByteArray.size_extract]; have e1 : (⟨#[37]⟩ : ByteArray).size = 1 := rfl; omega), e37]
  refine Ev.bind (store_Match_ev o s (by omega) (by omega)) (Ev.bind (store_Match_ev (cutP s i k 42) s (by omega) (by omega)) (Ev.bind (store_Match_ev (cutP s i k 37) s (by omega) (by omega)) ?_))
  refine last_l2 s o hs ho hb (slashB s i (k - i)) low _ _ _ b42 ?_ ?_ o.size 0 rfl (by omega) (fun t ht => by omega)
  · cases hsl : slashB s i (k - i) with
    | true => exact .inr rfl
    | false => exact .inl (match_cut s hb i k h1 h2 37 (.inr rfl) (.inr hsl))
  · intro hbo hl
    rcases hlow hl with h | h
    · rw [h, beq_self_eq_true]
      have e : o = s := by apply ByteArray.ext; rw [ByteArray.toList_eq, ByteArray.toList_eq] at h; exact Array.toList_inj.1 h
      rw [e]; exact match_self s hb
    · exact match_exact o s hbo h
theorem last_j3 (i k : Nat) (h1 : i ≤ k) (h2 : k ≤ s.size) : Ev (fun n => postbaglaw12_StorePatterns.j3 n s o i k (bareB s s.size) (slashB s i (k - i)) false) true := by
  cases hbb : bareB s s.size with
  | false => exact Ev.step (f := fun _ => some true) (fun n => by simp [postbaglaw12_StorePatterns.j3]) (Ev.now _)
  | true =>
    have hb : Bare s := bareB_bare s s.size hbb
    have j4 := fun low h => last_j4 s o hs ho hb i k h1 h2 low h
    have no5 : ¬ ((s.size : Int) > 5) → (s.extract 0 6).toList ≠ [73, 78, 66, 79, 88, 47] := fun h he => by
      have := congrArg List.length he
      rw [toList_len, ByteArray.size_extract] at this
      simp at this
      omega
    by_cases c1 : o.toList = s.toList
    · refine Ev.step (fun n => ?_) (j4 false (fun _ => .inl c1))
      simp only [postbaglaw12_StorePatterns.j3]; rw [if_neg (by decide), if_pos trivial, if_pos c1]
    · by_cases c2 : s.toList = ([73, 78, 66, 79, 88] : List UInt8)
      · refine Ev.step (fun n => ?_) (j4 true (fun h => by cases h))
        simp only [postbaglaw12_StorePatterns.j3]; rw [if_neg (by decide), if_pos trivial, if_neg c1, if_pos c2]
      · by_cases c3 : (s.size : Int) > 5
        · refine Ev.step (fun n => ?_) (j4 ((s.extract 0 6).toList == ([73, 78, 66, 79, 88, 47] : List UInt8)) (fun h => .inr (by unfold foldB; rw [beq_eq_false_iff_ne.2 c2, h]; rfl)))
          simp only [postbaglaw12_StorePatterns.j3]; rw [if_neg (by decide), if_pos trivial, if_neg c1, if_neg c2, if_pos c3, if_pos (by decide), if_pos (by omega)]
        · refine Ev.step (fun n => ?_) (j4 false (fun _ => .inr (by unfold foldB; rw [beq_eq_false_iff_ne.2 c2, beq_eq_false_iff_ne.2 (no5 c3)]; rfl)))
          simp only [postbaglaw12_StorePatterns.j3]; rw [if_neg (by decide), if_pos trivial, if_neg c1, if_neg c2, if_neg c3]
/-- The loop over the piece, and the first three questions. -/
theorem last_l1 (i k : Nat) (h1 : i ≤ k) (h2 : k ≤ s.size) : ∀ (d j : Nat), k - j = d → i ≤ j → j ≤ k →
    Ev (fun n => postbaglaw12_StorePatterns.l1 n s o i k (bareB s s.size) (slashB s 0 s.size) (slashB s i (j - i)) j) true := by
  intro d
  induction d with
  | zero =>
    intro j hd hij hjk
    have e : j = k := by omega
    subst e
    have q1 := store_Match_ev ⟨#[42]⟩ s (by decide) (by omega)
    rw [match_all s ⟨#[42]⟩ rfl rfl] at q1
    have q2 := store_Match_ev ⟨#[37]⟩ s (by decide) (by omega)
    rw [match_percent s ⟨#[37]⟩ rfl rfl] at q2
    have q3 := store_Match_ev ⟨#[]⟩ s (by decide) (by omega)
    rw [match_empty s ⟨#[]⟩ rfl] at q3
    refine Ev.step (fun n => by simp only [postbaglaw12_StorePatterns.l1]; rw [if_neg (by omega)]) (Ev.bind q1 (Ev.congr (fun n => by rw [if_pos rfl]) (Ev.bind q2 (Ev.congr (fun n => by rw [if_neg (by cases slashB s 0 s.size <;> decide)]) (Ev.bind q3 ?_)))))
    refine Ev.congr (fun n => ?_) (last_j3 s o hs ho i j h1 h2)
    congr 1
    have : (s.toList == ([] : List UInt8)) = (s.size == 0) := by
      rw [Bool.eq_iff_iff, beq_iff_eq, beq_iff_eq]
      constructor
      · intro h; rw [← toList_len, h]; rfl
      · intro h; exact List.eq_nil_of_length_eq_zero (by rw [toList_len]; exact h)
    rw [this]; simp
  | succ d ih =>
    intro j hd hij hjk
    have e1 : wrap64 ((j : Int) + 1) = ((j + 1 : Nat) : Int) := by rw [w64 (by omega) (by omega)]; rfl
    have hn := ih (j + 1) (by omega) (by omega) (by omega)
    have es : slashB s i (j + 1 - i) = (slashB s i (j - i) || bt s j == 47) := by
      rw [show j + 1 - i = (j - i) + 1 by omega]; simp only [slashB]; rw [show i + (j - i) = j by omega]
    rw [es] at hn
    cases hx : slashB s i (j - i) with
    | true =>
      rw [hx] at hn
      refine Ev.step (fun n => ?_) hn
      simp only [postbaglaw12_StorePatterns.l1, if_true]; rw [if_pos (by omega), e1]; rfl
    | false =>
      rw [hx, Bool.false_or] at hn
      refine Ev.step (fun n => ?_) hn
      simp only [postbaglaw12_StorePatterns.l1]; rw [if_pos (by omega), if_neg (by decide), if_pos (by omega), if_pos (by omega), e1]
variable (i0 k0 : Int) (wi0 : -9223372036854775808 ≤ i0) (wi1 : i0 ≤ 9223372036854775807) (wk0 : -9223372036854775808 ≤ k0) (wk1 : k0 ≤ 9223372036854775807)
include wi0 wi1 wk0 wk1
theorem last_l0 : ∀ (d j : Nat), s.size - j = d → j ≤ s.size → Ev (fun n => postbaglaw12_StorePatterns.l0 n s o i0 k0 (bareB s j) (slashB s 0 j) j) true := by
  intro d
  induction d with
  | zero =>
    intro j hd hj
    have e : j = s.size := by omega
    subst e
    obtain ⟨t, ht, t0, t1⟩ := spot_some i0 ((s.size : Int) + 1) wi0 wi1 (by omega) (by omega)
    obtain ⟨u, hu, u0, u1⟩ := spot_some k0 ((s.size : Int) + 1 - t) wk0 wk1 (by omega) (by omega)
    obtain ⟨i, rfl⟩ := Int.eq_ofNat_of_zero_le t0
    obtain ⟨g, rfl⟩ := Int.eq_ofNat_of_zero_le u0
    have hl := last_l1 s o hs ho i (i + g) (by omega) (by omega) g i (by omega) (by omega) (by omega)
    rw [show slashB s i (i - i) = false by rw [Nat.sub_self]; rfl] at hl
    refine Ev.step (fun n => ?_) hl
    simp only [postbaglaw12_StorePatterns.l0]
    rw [if_neg (by omega), w64 (z := (s.size : Int) + 1) (by omega) (by omega), ht]
    simp only [Option.bind_some]
    rw [w64 (z := (s.size : Int) + 1 - i) (by omega) (by omega), hu]
    simp only [Option.bind_some]
    rw [w64 (by omega) (by omega)]; rfl
  | succ d ih =>
    intro j hd hj
    have e1 : wrap64 ((j : Int) + 1) = ((j + 1 : Nat) : Int) := by rw [w64 (by omega) (by omega)]; rfl
    have hn := ih (j + 1) (by omega) (by omega)
    have es : slashB s 0 (j + 1) = (slashB s 0 j || bt s j == 47) := by simp only [slashB]; rw [Nat.zero_add]
    have eb : bareB s (j + 1) = (bareB s j && (bt s j != 42 && bt s j != 37)) := rfl
    rw [es, eb] at hn
    refine Ev.step (fun n => ?_) hn
    simp only [postbaglaw12_StorePatterns.l0]
    rw [if_pos (by omega), e1]
    cases hb : bareB s j <;> cases hx : slashB s 0 j
    · rw [if_neg (by decide), if_neg (by decide), if_pos (by omega)]; rfl
    · rw [if_neg (by decide), if_pos rfl]; rfl
    · rw [if_pos rfl, if_pos (by omega)]
      by_cases c : bt s j = 42
      · rw [if_pos c, if_neg (by decide), c]; rfl
      · rw [if_neg c, if_neg (by decide), bne_iff_ne.2 c]; rfl
    · rw [if_pos rfl, if_pos (by omega)]
      by_cases c : bt s j = 42
      · rw [if_pos c, if_pos rfl, c]; rfl
      · rw [if_neg c, if_pos rfl, bne_iff_ne.2 c]; rfl
end
theorem bounds_w {a : Int} (h : (Lit.int .i64 a).wf = true) : -9223372036854775808 ≤ a ∧ a ≤ 9223372036854775807 := by
  simp only [Lit.wf, Bool.and_eq_true, decide_eq_true_eq] at h
  exact h
theorem StorePatterns : postbaglaw12_StorePatterns.Pure := by
  intro a0 a1 a2 a3 _ _ w2 w3
  have b2 : -9223372036854775808 ≤ a2 ∧ a2 ≤ 9223372036854775807 := by first | exact bounds_w w2 | exact bounds_w w3
  have b3 : -9223372036854775808 ≤ a3 ∧ a3 ≤ 9223372036854775807 := by first | exact bounds_w w2 | exact bounds_w w3
  refine Ev.rounds ?_
  have big : Ev (fun k => postbaglaw12_StorePatterns.j0 k a0 a1 a2 a3 true) true := Ev.step (f := fun _ => some true) (fun k => by simp only [postbaglaw12_StorePatterns.j0, if_true]) (Ev.now _)
  by_cases c : (a0.size : Int) > 300
  · exact Ev.congr (fun k => by unfold postbaglaw12_StorePatterns.f; rw [if_pos c]) big
  · by_cases c2 : (a1.size : Int) > 300
    · exact Ev.congr (fun k => by unfold postbaglaw12_StorePatterns.f; rw [if_neg c, decide_eq_true c2]) big
    · have h := last_l0 a0 a1 (by omega) (by omega) a2 a3 b2.1 b2.2 b3.1 b3.2 a0.size 0 rfl (by omega)
      refine Ev.congr (fun k => by unfold postbaglaw12_StorePatterns.f; rw [if_neg c, decide_eq_false c2]) (Ev.step (fun k => ?_) h)
      simp only [postbaglaw12_StorePatterns.j0]; rw [if_neg (by decide)]; rfl
end Go.Proofs.Ytkfehogefclhdaa.Pure
