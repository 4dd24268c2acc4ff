import Derived.Test.YtkfehogefclhdaaDoorProg
import Derived.Test.YtkfehogefclhdaaDoorShelf
import Derived.WalkKit
import Derived.WalkSpells
import Derived.WalkLawsBesides
import Derived.Lib.Builder
import Derived.Lib.Hide
import Derived.Deep.QuietTactic
import Derived.BigQuiet
namespace Go.Proofs.YtkfehogefclhdaaDoor.Ext
open Go.RowKit

/-- What a byte is written as within quotes. -/
def esc (c : UInt8) : List UInt8 := if c = 34 ∨ c = 92 then [92, c] else [c]
/-- A text in quotes. -/
def quoteL (l : List UInt8) : List UInt8 := 34 :: (l.flatMap esc ++ [34])
def quoteBA (s : ByteArray) : ByteArray := ⟨(quoteL s.data.toList).toArray⟩
theorem esc_len (l : List UInt8) : (l.flatMap esc).length ≤ 2 * l.length := by
  induction l with
  | nil => simp
  | cons c l ih =>
    rw [List.flatMap_cons, List.length_append]
    have : (esc c).length ≤ 2 := by unfold esc; split <;> simp
    simp only [List.length_cons]; omega
theorem take_esc (s : ByteArray) (k : Nat) (h : k < s.size) : (s.data.toList.take (k + 1)).flatMap esc = (s.data.toList.take k).flatMap esc ++ esc s[k] := by
  rw [List.take_succ_eq_append_getElem (by simpa using h), List.flatMap_append]
  simp; rfl
theorem bytes_snoc (l : List UInt8) (c : UInt8) : Lib.byteCells l ++ [.int .u8 (c.toNat : Int)] = Lib.byteCells (l ++ [c]) := by simp [Lib.byteCells]
def held (s : ByteArray) (k : Nat) : List UInt8 := 34 :: (s.data.toList.take k).flatMap esc
theorem held_len (s : ByteArray) (k : Nat) : (held s k).length ≤ 2 * s.size + 1 := by
  unfold held
  have h := esc_len (s.data.toList.take k)
  have h2 : (s.data.toList.take k).length ≤ s.data.toList.length := by rw [List.length_take]; omega
  have h3 : s.data.toList.length = s.size := by simp
  simp only [List.length_cons]; omega
theorem held_plain (s : ByteArray) (k : Nat) (h : k < s.size) (h1 : s[k] ≠ 34) (h2 : s[k] ≠ 92) : held s k ++ [s[k]] = held s (k + 1) := by
  unfold held; rw [take_esc s k h]; unfold esc; rw [if_neg (by simp [h1, h2])]; rfl
theorem held_esc (s : ByteArray) (k : Nat) (h : k < s.size) (h1 : s[k] = 34 ∨ s[k] = 92) : held s k ++ [92] ++ [s[k]] = held s (k + 1) := by
  unfold held; rw [take_esc s k h]; unfold esc; rw [if_pos h1]; simp
theorem held_end (s : ByteArray) : held s s.size ++ [34] = quoteL s.data.toList := by
  unfold held quoteL; rw [List.take_of_length_le (by simp)]; rfl
theorem cells_len (l : List UInt8) : (Lib.byteCells l).length = l.length := by simp [Lib.byteCells]

set_option maxRecDepth 100000 in
set_option maxHeartbeats 4000000 in
theorem quote_any (s : ByteArray) (w : World) (hs : s.size ≤ 70368744177000) :
    Calls Tryd.prog 65 #[.string s] w fun e w' => e = .returned (.string (quoteBA s)) ∧ Below w.heap.size w w' := by
  have hl0 := held_len s
  go_enter Tryd.func65, Tryd.ntmps65
  go_wp2_with fail
  refine (Tryd.Builder_WriteByte w.heap.size w.heap.size [] 34 _ (Lib.fresh_isBuilder 122 5 w) (by simp) (by simp)).mono ?_
  rintro e w1 ⟨rfl, hb1, hw1⟩
  have hB1 : Below w.heap.size w w1 := ((Below.refl _ _).alloc (Nat.le_refl _) _).trans hw1
  have hI1 : Lib.IsBuilder 122 5 w.heap.size w.heap.size (Lib.byteCells (held s 0)) w1 := .inr hb1
  clear hb1 hw1
  have H1 := Lib.hid (And.intro hI1 hB1); clear hI1 hB1
  go_wp2_with fail
  go_loopw [8] (fun i wr => ∃ k : Nat, k ≤ s.size ∧ i = .int .i64 k ∧ Hid (Lib.IsBuilder 122 5 w.heap.size w.heap.size (Lib.byteCells (held s k)) wr ∧ Below w.heap.size w wr)) (fun i _ => s.size - (intOf i).toNat)
  case atStart => exact ⟨0, Nat.zero_le _, rfl, H1⟩
  case round =>
    obtain ⟨k, hk, rfl, HH⟩ := hrel
    have hl1 := held_len s k
    by_cases hlt : k < s.size
    · obtain ⟨c, hc⟩ : ∃ c : Int, ∀ h : k < s.size, ((s[k]'h).toNat : Int) = c := ⟨((s[k]'hlt).toNat : Int), fun _ => rfl⟩
      have HC := Lib.hid (hc hlt)
      have hc0 : (0 : Int) ≤ c := by rw [← hc hlt]; omega
      have hc1 : c < 256 := by rw [← hc hlt]; have := (s[k]).toNat_lt; omega
      have h2 : (held s (k + 1)).length ≤ 2 * s.size + 1 := held_len s (k + 1)
      have hsz := HH.2.size
      by_cases h34 : c = 34
      · have d1 : (c == 34) = true := beq_iff_eq.2 h34
        have H34 := Lib.hid h34; clear h34
        go_wp2_with fail
        refine (Tryd.Builder_WriteByte w.heap.size w.heap.size _ 92 _ HH.1 (by rw [cells_len]; omega) (by have := HH.2.size; omega)).mono ?_
        rintro e w2 ⟨rfl, hb2, hw2⟩
        have H2 := Lib.hid (And.intro hb2 (HH.2.trans hw2)); clear hb2 hw2
        go_wp2_with fail
        refine (Tryd.Builder_WriteByte w.heap.size w.heap.size _ c _ (.inr H2.1) (by rw [List.length_append, cells_len]; simp only [List.length_cons, List.length_nil]; omega) (by have := H2.2.size; omega)).mono ?_
        rintro e w3 ⟨rfl, hb3, hw3⟩
        have H3 := Lib.hid (And.intro hb3 (H2.2.trans hw3)); clear hb3 hw3
        go_wp2
        go_roundw
        case rel =>
          refine ⟨k + 1, by omega, by go_num, ?_, H3.2⟩
          have e92 : (.int .u8 92 : Value) = .int .u8 (((92 : UInt8).toNat : Nat) : Int) := rfl
          have hh := H3.1
          rw [e92, bytes_snoc, ← HC.out, bytes_snoc, held_esc s k hlt (.inl (UInt8.toNat_inj.1 (by have h1 := HC.out; have h2 := H34.out; have h3 : (34 : UInt8).toNat = 34 := rfl; omega)))] at hh
          exact .inr hh
        case measure => simp [intOf]; omega
      · have d1 : (c == 34) = false := beq_eq_false_iff_ne.2 h34
        by_cases h92 : c = 92
        · have d2 : (c == 92) = true := beq_iff_eq.2 h92
          have H34 := Lib.hid h34; clear h34
          have H92 := Lib.hid h92; clear h92
          go_wp2_with fail
          refine (Tryd.Builder_WriteByte w.heap.size w.heap.size _ 92 _ HH.1 (by rw [cells_len]; omega) (by have := HH.2.size; omega)).mono ?_
          rintro e w2 ⟨rfl, hb2, hw2⟩
          have H2 := Lib.hid (And.intro hb2 (HH.2.trans hw2)); clear hb2 hw2
          go_wp2_with fail
          refine (Tryd.Builder_WriteByte w.heap.size w.heap.size _ c _ (.inr H2.1) (by rw [List.length_append, cells_len]; simp only [List.length_cons, List.length_nil]; omega) (by have := H2.2.size; omega)).mono ?_
          rintro e w3 ⟨rfl, hb3, hw3⟩
          have H3 := Lib.hid (And.intro hb3 (H2.2.trans hw3)); clear hb3 hw3
          go_wp2
          go_roundw
          case rel =>
            refine ⟨k + 1, by omega, by go_num, ?_, H3.2⟩
            have e92 : (.int .u8 92 : Value) = .int .u8 (((92 : UInt8).toNat : Nat) : Int) := rfl
            have hh := H3.1
            rw [e92, bytes_snoc, ← HC.out, bytes_snoc, held_esc s k hlt (.inr (UInt8.toNat_inj.1 (by have h1 := HC.out; have h2 := H92.out; have h3 : (92 : UInt8).toNat = 92 := rfl; omega)))] at hh
            exact .inr hh
          case measure => simp [intOf]; omega
        · have d2 : (c == 92) = false := beq_eq_false_iff_ne.2 h92
          have H34 := Lib.hid h34; clear h34
          have H92 := Lib.hid h92; clear h92
          go_wp2_with fail
          refine (Tryd.Builder_WriteByte w.heap.size w.heap.size _ c _ HH.1 (by rw [cells_len]; omega) (by have := HH.2.size; omega)).mono ?_
          rintro e w3 ⟨rfl, hb3, hw3⟩
          have H3 := Lib.hid (And.intro hb3 (HH.2.trans hw3)); clear hb3 hw3
          go_wp2
          go_roundw
          case rel =>
            refine ⟨k + 1, by omega, by go_num, ?_, H3.2⟩
            have hh := H3.1
            rw [← HC.out, bytes_snoc, held_plain s k hlt (fun h => H34.out (by rw [← HC.out, h]; rfl)) (fun h => H92.out (by rw [← HC.out, h]; rfl))] at hh
            exact .inr hh
          case measure => simp [intOf]; omega
    · obtain rfl : k = s.size := by omega
      have hsz := HH.2.size
      go_wp2_with fail
      refine (Tryd.Builder_WriteByte w.heap.size w.heap.size _ 34 _ HH.1 (by rw [cells_len]; omega) (by omega)).mono ?_
      rintro e w2 ⟨rfl, hb2, hw2⟩
      have H2 : Hid (Lib.IsBuilder 122 5 w.heap.size w.heap.size (Lib.byteCells (quoteL s.data.toList)) w2 ∧ Below w.heap.size w w2) := by
        refine ⟨.inr ?_, HH.2.trans hw2⟩
        have e34 : (.int .u8 34 : Value) = .int .u8 (((34 : UInt8).toNat : Nat) : Int) := rfl
        rw [e34, bytes_snoc, held_end] at hb2
        exact hb2
      clear hb2 hw2
      go_wp2_with fail
      refine (Tryd.Builder_String_any w.heap.size w.heap.size _ _ H2.1 (by have := H2.2.size; omega)).mono ?_
      rintro e w3 ⟨rfl, hw3⟩
      have H3 := Lib.hid (H2.2.trans hw3); clear hw3
      go_wp2
      go_ret
      exact ⟨rfl, H3.out⟩
end Go.Proofs.YtkfehogefclhdaaDoor.Ext
