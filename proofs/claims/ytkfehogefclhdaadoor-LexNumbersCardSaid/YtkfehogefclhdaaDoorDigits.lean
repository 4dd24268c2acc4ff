import Derived.Test.YtkfehogefclhdaaDoorClasses
import Derived.Lib.AtoiAll
namespace Go.Proofs.YtkfehogefclhdaaDoor.Pure
open Go.RowKit

/-! A text of digits, as a number. -/
def valF (acc : Nat) (l : List UInt8) : Nat := l.foldl (fun n c => n * 10 + (c.toNat - 48)) acc
theorem val_ge : ∀ (l : List UInt8) (acc : Nat), acc ≤ valF acc l := by
  intro l
  induction l with
  | nil => intro acc; exact Nat.le_refl _
  | cons c l ih => intro acc; have := ih (acc * 10 + (c.toNat - 48)); unfold valF at *; rw [List.foldl_cons]; omega
theorem count_cons {c : UInt8} {l : List UInt8} (h : (c :: l).all countU = true) : 48 ≤ c.toNat ∧ c.toNat ≤ 57 ∧ l.all countU = true := by
  rw [List.all_cons, Bool.and_eq_true] at h
  have h1 := h.1
  unfold countU at h1
  rw [Bool.and_eq_true, decide_eq_true_eq, decide_eq_true_eq] at h1
  exact ⟨h1.1, h1.2, h.2⟩
theorem parse_digits : ∀ (l : List UInt8) (acc : Nat), l.all countU = true → acc < 18446744073709551616 → Lib.parseUint10 acc l = if valF acc l < 18446744073709551616 then .ok (valF acc l) else .range := by
  intro l
  induction l with
  | nil => intro acc _ h; simp only [Lib.parseUint10]; rw [if_pos (show valF acc [] < _ from h)]; rfl
  | cons c l ih =>
    intro acc h hacc
    obtain ⟨c1, c2, hr⟩ := count_cons h
    have hv : valF acc (c :: l) = valF (acc * 10 + (c.toNat - 48)) l := rfl
    have hg := val_ge l (acc * 10 + (c.toNat - 48))
    simp only [Lib.parseUint10]
    rw [if_pos ⟨c1, c2⟩]
    by_cases h1 : 1844674407370955162 ≤ acc
    · rw [if_pos h1, hv, if_neg (by omega)]
    · rw [if_neg h1]
      by_cases h2 : 18446744073709551616 ≤ acc * 10 + (c.toNat - 48)
      · rw [if_pos h2, hv, if_neg (by omega)]
      · rw [if_neg h2, ih _ hr (by omega), hv]
theorem atoi_digits (l : List UInt8) (h0 : l ≠ []) (h : l.all countU = true) : Lib.atoiAll l = if valF 0 l < 9223372036854775808 then .ok (valF 0 l : Int) else .range := by
  cases l with
  | nil => exact absurd rfl h0
  | cons c r =>
    obtain ⟨c1, c2, _⟩ := count_cons h
    have hs : (if c.toNat = 43 ∨ c.toNat = 45 then r else c :: r) = c :: r := if_neg (by omega)
    have hm : Lib.parseMag (c :: r) = Lib.parseUint10 0 (c :: r) := by unfold Lib.parseMag; rw [if_neg (by simp)]
    have hn : ¬ c.toNat = 45 := by omega
    unfold Lib.atoiAll
    simp only [hs, hm, parse_digits _ _ h (show 0 < 18446744073709551616 by decide)]
    by_cases h1 : valF 0 (c :: r) < 18446744073709551616
    · rw [if_pos h1]
      simp only [hn]
      by_cases h2 : valF 0 (c :: r) < 9223372036854775808
      · rw [if_neg (fun h => absurd h2 (Nat.not_lt.2 h.2)), if_neg (by simp), if_neg (by simp), if_pos h2]
      · rw [if_pos ⟨by simp, by omega⟩, if_neg h2]
    · rw [if_neg h1, if_neg (by omega)]
/-- The number that a text is, if it is one, up to a greatest one. -/
def numO (l : List UInt8) (most : Int) : Option Int :=
  if l = [] then none else if l.all countU = false then none else if 1 < l.length ∧ l.headD 0 = 48 then none
  else if (valF 0 l : Int) ≤ most then some (valF 0 l : Int) else none
def numV (o : Option Int) : Int := o.getD 0
def numE (o : Option Int) : Int := if o.isSome then 0 else 3
end Go.Proofs.YtkfehogefclhdaaDoor.Pure
