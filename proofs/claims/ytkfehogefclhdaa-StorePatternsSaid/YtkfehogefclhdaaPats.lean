import Derived.Test.YtkfehogefclhdaaMatch
namespace Go.Proofs.Ytkfehogefclhdaa.Pure
open Go.RowKit Go.Proofs.Ytkfehogefclhdaa.PSm Go.Proofs.YtkfehogefclhdaaW.PrintWords Go.Proofs.YtkfehogefclhdaaW.PrintLast

/-! What the one meaning of Match has of properties. -/
def Bare (s : ByteArray) : Prop := ∀ t : Nat, t < s.size → bt s t ≠ 42 ∧ bt s t ≠ 37

theorem star_up (nm : ByteArray) (c : Int) (f : Nat → Bool) (j : Nat) (h : f j = true) : starF nm c f j = true := by
  cases j with
  | zero => exact h
  | succ j => simp only [starF]; rw [h]; rfl
theorem star_on (nm : ByteArray) (c : Int) (f : Nat → Bool) (j : Nat) (h : starF nm c f j = true) : ∀ d : Nat, (∀ t, j ≤ t → t < j + d → c = 42 ∨ bt nm t ≠ 47) → starF nm c f (j + d) = true := by
  intro d
  induction d with
  | zero => intro _; exact h
  | succ d ih =>
    intro hs
    have h1 := ih (fun t h1 h2 => hs t h1 (by omega))
    show starF nm c f (j + d + 1) = true
    simp only [starF]; rw [h1]
    rcases hs (j + d) (by omega) (by omega) with h2 | h2
    · rw [h2]; simp
    · rw [bne_iff_ne.2 h2]; simp
theorem M_star (p nm : ByteArray) (fold i : Nat) (hw : bt p i = 42 ∨ bt p i = 37) : M p nm fold (i + 1) = starF nm (bt p i) (M p nm fold i) := by funext t; simp only [M, rowF]; rw [if_pos hw]
theorem M_lit (p nm : ByteArray) (fold i : Nat) (hw : bt p i ≠ 42 ∧ bt p i ≠ 37) : M p nm fold (i + 1) = litF nm fold (bt p i) (M p nm fold i) := by funext t; simp only [M, rowF]; rw [if_neg (by omega)]
/-- Where the pattern's bytes are the name's, it goes on. -/
theorem M_on (p nm : ByteArray) (fold i j : Nat) (h : M p nm fold i j = true) : ∀ d : Nat, (∀ t, t < d → bt p (i + t : Nat) = bt nm (j + t : Nat) ∧ bt p (i + t : Nat) ≠ 42 ∧ bt p (i + t : Nat) ≠ 37) → M p nm fold (i + d) (j + d) = true := by
  intro d
  induction d with
  | zero => intro _; exact h
  | succ d ih =>
    intro hs
    have h1 := ih (fun t ht => hs t (by omega))
    obtain ⟨he, hb⟩ := hs d (by omega)
    show M p nm fold (i + d + 1) (j + d + 1) = true
    rw [M_lit p nm fold (i + d) hb]; simp only [litF]; rw [h1, he]; simp
theorem match_all (nm p : ByteArray) (h1 : p.size = 1) (h : bt p 0 = 42) : matchB p nm = true := by
  unfold matchB
  rw [h1, M_star p nm _ 0 (.inl h)]
  have := star_on nm (bt p (0 : Nat)) (M p nm (foldOf nm) 0) 0 rfl nm.size (fun t _ _ => .inl h)
  rwa [Nat.zero_add] at this
def slashB (s : ByteArray) (lo : Nat) : Nat → Bool
  | 0 => false
  | t + 1 => slashB s lo t || bt s (lo + t : Nat) == 47
theorem slash_no (s : ByteArray) (lo : Nat) : ∀ d, slashB s lo d = false → ∀ t, lo ≤ t → t < lo + d → bt s t ≠ 47 := by
  intro d
  induction d with
  | zero => intro _ t h1 h2; omega
  | succ d ih =>
    intro h t h1 h2
    simp only [slashB, Bool.or_eq_false_iff, beq_eq_false_iff_ne] at h
    by_cases e : t = lo + d
    · subst e; exact h.2
    · exact ih h.1 t h1 (by omega)
theorem match_percent (nm p : ByteArray) (h1 : p.size = 1) (h : bt p 0 = 37) : matchB p nm = !(slashB nm 0 nm.size) := by
  unfold matchB
  rw [h1, M_star p nm _ 0 (.inr h)]
  have : ∀ d, starF nm (bt p (0 : Nat)) (M p nm (foldOf nm) 0) d = !(slashB nm 0 d) := by
    intro d
    induction d with
    | zero => rfl
    | succ d ih =>
      simp only [starF, slashB]
      have e : M p nm (foldOf nm) 0 (d + 1) = false := rfl
      have h' : bt p ((0 : Nat) : Int) = 37 := h
      rw [ih, h', e, Nat.zero_add]
      simp [bne]
  exact this _
theorem match_empty (nm p : ByteArray) (h1 : p.size = 0) : matchB p nm = (nm.size == 0) := by
  unfold matchB; rw [h1]; rfl
theorem match_self (s : ByteArray) (hb : Bare s) : matchB s s = true := by
  have := M_on s s (foldOf s) 0 0 rfl s.size (fun t ht => by rw [Nat.zero_add]; exact ⟨rfl, hb t ht⟩)
  rwa [Nat.zero_add] at this
theorem M_exact (p nm : ByteArray) (hb : Bare p) : ∀ i, i ≤ p.size → ∀ j, (M p nm 0 i j = true ↔ i = j ∧ ∀ t : Nat, t < i → bt p t = bt nm t) := by
  intro i
  induction i with
  | zero => intro _ j; simp only [M, beq_iff_eq]; exact ⟨fun h => ⟨h.symm, fun t ht => by omega⟩, fun h => h.1.symm⟩
  | succ i ih =>
    intro hi j
    rw [M_lit p nm 0 i (hb i (by omega))]
    cases j with
    | zero => simp [litF]
    | succ j =>
      simp only [litF, Bool.and_eq_true, Bool.or_eq_true, beq_iff_eq, decide_eq_true_eq]
      rw [ih (by omega) j]
      constructor
      · rintro ⟨⟨h1, h2⟩, h3 | h3⟩
        · refine ⟨by omega, fun t ht => ?_⟩
          by_cases e : t = i
          · subst e; rw [← h3, h1]
          · exact h2 t (by omega)
        · omega
      · rintro ⟨h1, h2⟩
        exact ⟨⟨by omega, fun t ht => h2 t (by omega)⟩, .inl (by rw [h2 i (by omega), show i = j by omega])⟩
theorem ext_bt {a b : ByteArray} (hs : a.size = b.size) (h : ∀ t : Nat, t < a.size → bt a t = bt b t) : a = b := by
  apply ByteArray.ext
  apply Array.ext
  · exact hs
  · intro i h1 h2
    have h1' : i < a.size := h1
    have h2' : i < b.size := h2
    have := h i h1'
    rw [bt_nat a i h1', bt_nat b i h2'] at this
    exact UInt8.toNat_inj.1 (by have e1 : a[i] = a.data[i] := rfl; have e2 : b[i] = b.data[i] := rfl; rw [← e1, ← e2]; omega)
theorem match_exact (p nm : ByteArray) (hb : Bare p) (hf : foldB nm = false) : matchB p nm = (p.toList == nm.toList) := by
  unfold matchB foldOf
  rw [hf, if_neg (by decide), Bool.eq_iff_iff, M_exact p nm hb p.size (Nat.le_refl _) nm.size, beq_iff_eq]
  constructor
  · rintro ⟨h1, h2⟩; rw [ext_bt h1 h2]
  · intro h
    have : p = nm := by apply ByteArray.ext; rw [ByteArray.toList_eq, ByteArray.toList_eq] at h; exact Array.toList_inj.1 h
    subst this; exact ⟨rfl, fun _ _ => rfl⟩

/-! A name of which a piece is taken out, and something set in its place. -/
def cutP (s : ByteArray) (i k : Nat) (c : UInt8) : ByteArray := ((s.extract 0 i) ++ (⟨#[c]⟩ : ByteArray)) ++ (s.extract k s.size)
theorem bt_get (s : ByteArray) (t : Nat) : bt s (t : Int) = (((s.data.toList)[t]?.getD 0).toNat : Int) := by
  unfold bt
  by_cases h : t < s.size
  · have h' : t < s.data.size := h
    simp [h]; rfl
  · have h' : ¬ t < s.data.size := h
    simp [h]
theorem cutP_data (s : ByteArray) (i k : Nat) (c : UInt8) : (cutP s i k c).data.toList = s.data.toList.take i ++ [c] ++ s.data.toList.drop k := by
  unfold cutP
  simp only [ByteArray.data_append, Array.toList_append, ByteArray.data_extract, Array.toList_extract, List.extract_eq_take_drop, List.drop_zero, Nat.sub_zero]
  congr 1
  rw [List.take_of_length_le]; simp
theorem cutP_size (s : ByteArray) (i k : Nat) (c : UInt8) (hi : i ≤ s.size) : (cutP s i k c).size = i + 1 + (s.size - k) := by
  have h := congrArg List.length (cutP_data s i k c)
  have e1 : (cutP s i k c).data.size = (cutP s i k c).size := rfl
  have e2 : s.data.size = s.size := rfl
  simp [e1, e2] at h
  omega
theorem cutP_head (s : ByteArray) (i k : Nat) (c : UInt8) (hi : i ≤ s.size) (t : Nat) (ht : t < i) : bt (cutP s i k c) t = bt s t := by
  have e2 : s.data.size = s.size := rfl
  rw [bt_get, bt_get, cutP_data, List.getElem?_append_left (by simp [e2]; omega), List.getElem?_append_left (by simp [e2]; omega), List.getElem?_take, if_pos ht]
theorem cutP_mid (s : ByteArray) (i k : Nat) (c : UInt8) (hi : i ≤ s.size) : bt (cutP s i k c) i = c.toNat := by
  have e2 : s.data.size = s.size := rfl
  rw [bt_get, cutP_data, List.getElem?_append_left (by simp [e2]; omega), List.getElem?_append_right (by simp [e2]; omega)]
  simp [e2, Nat.min_eq_left hi]
theorem cutP_tail (s : ByteArray) (i k : Nat) (c : UInt8) (hi : i ≤ s.size) (t : Nat) : bt (cutP s i k c) (i + 1 + t : Nat) = bt s (k + t : Nat) := by
  have e2 : s.data.size = s.size := rfl
  rw [bt_get, bt_get, cutP_data, List.getElem?_append_right (by simp [e2]; omega)]
  simp [e2, Nat.min_eq_left hi]
theorem match_cut (s : ByteArray) (hb : Bare s) (i k : Nat) (h1 : i ≤ k) (h2 : k ≤ s.size) (c : UInt8) (hc : c.toNat = 42 ∨ c.toNat = 37) (hn : c.toNat = 42 ∨ slashB s i (k - i) = false) : matchB (cutP s i k c) s = true := by
  unfold matchB
  have hi : i ≤ s.size := by omega
  have m1 : M (cutP s i k c) s (foldOf s) i i = true := by
    have := M_on (cutP s i k c) s (foldOf s) 0 0 rfl i (fun t ht => by rw [Nat.zero_add, cutP_head s i k c hi t ht]; exact ⟨rfl, hb t (by omega)⟩)
    rwa [Nat.zero_add] at this
  have m2 : M (cutP s i k c) s (foldOf s) (i + 1) k = true := by
    rw [M_star _ _ _ _ (by rw [cutP_mid s i k c hi]; omega)]
    have := star_on s (bt (cutP s i k c) i) _ i (star_up _ _ _ _ m1) (k - i) (fun t ht1 ht2 => by
      rw [cutP_mid s i k c hi]
      rcases hn with h | h
      · exact .inl (by omega)
      · exact .inr (slash_no s i (k - i) h t ht1 ht2))
    rwa [Nat.add_sub_cancel' h1] at this
  have m3 := M_on (cutP s i k c) s (foldOf s) (i + 1) k m2 (s.size - k) (fun t ht => by rw [cutP_tail s i k c hi t]; exact ⟨rfl, hb (k + t) (by omega)⟩)
  rw [cutP_size s i k c hi]
  rwa [Nat.add_sub_cancel' h2] at m3
end Go.Proofs.Ytkfehogefclhdaa.Pure
