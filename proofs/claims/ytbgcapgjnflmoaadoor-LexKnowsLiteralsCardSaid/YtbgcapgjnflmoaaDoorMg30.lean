/- Contracts of the functions that the statement reaches, and plain lemmas: ScKl. -/
import Derived.Test.YtbgcapgjnflmoaaDoorMg27
import Derived.Test.YtbgcapgjnflmoaaDoorMg28
import Derived.Test.YtbgcapgjnflmoaaDoorMg29
set_option linter.unusedVariables false
set_option linter.unusedSimpArgs false
set_option linter.unnecessarySimpa false
/- LexKnowsLiterals, at every line, all literals and every number. -/
namespace Go.Proofs.YtbgcapgjnflmoaaDoor.Sc
open Go.RowKit Go.Proofs.YtbgcapgjnflmoaaDoorW.PrintWords Go.Proofs.YtbgcapgjnflmoaaDoorW.PrintMore Go.Proofs.YtbgcapgjnflmoaaDoor.PLx
variable {w0 w w1 : World}
theorem scan_size {s : ByteArray} {lits : List ByteArray} (h : (scan s lits).2 = 0) : s.size ≤ 4096 := by
  unfold scan at h
  split at h
  · rename_i hc; exact hc.1
  · cases h
theorem C_lit1 (W : World) (z : ByteArray) : Kd.C k43 (W.alloc (Obj.cells #[.int .i64 3, .string z, .slice none 0 0, .bool false] 43)) (some ⟨W.heap.size, 0, none⟩) 1 [⟨3, z, [], false⟩] := by
  refine ⟨rfl, by decide, fun _ => ⟨_, rfl, fun j x hx => ?_⟩⟩
  have hb := blk_new W (Obj.cells #[.int .i64 3, .string z, .slice none 0 0, .bool false] 43)
  match j, hx with
  | 0, hx =>
    cases hx
    refine ⟨_, rfl, k43_mk _ ⟨3, z, [], false⟩ (A2 := none) (c2 := 0) (Nat.le_refl _) (C_none _ _), fun i u hu => ?_⟩
    rw [add_plain, blk_cell hb]
    match i, hu with
    | 0, hu => exact hu
    | 1, hu => exact hu
    | 2, hu => exact hu
    | 3, hu => exact hu
def zeros (m : Nat) : ByteArray := strOfNums (List.replicate m 0)
theorem zeros_size (m : Nat) : (zeros m).size = m := by
  unfold zeros strOfNums
  show (Array.size _) = m
  simp
theorem zeros_conv (m : Nat) (hm : m ≤ 999) (W : World) : (convert 41 9 (.slice (some ⟨W.heap.size, 0, none⟩) m m)).run Tryd.prog (W.alloc (.cells (madeCells #[.int .u8 0] m) 5)) = .ok (.string (zeros m)) (W.alloc (.cells (madeCells #[.int .u8 0] m) 5)) :=
  own_string (P := Tryd.prog) Tryd.underlying41 Tryd.underlying5 Tryd.underlying9 (own_made W 0 5 .u8 m (Nat.zero_le _) (by omega))
theorem bytesL_append (a b : ByteArray) : bytesL (a ++ b) = bytesL a ++ bytesL b := by simp [bytesL]
/-- The three announcements behind a line that scans. -/
theorem ann_three {s : ByteArray} {lits : List ByteArray} (h : (scan s lits).2 = 0) {z : ByteArray} (hz : z.size ≤ 999) :
    (∃ k, lex_Announced.f k ((s ++ ⟨#[32]⟩) ++ ofB (annL z)) = some ((z.size : Int), false, true)) ∧ (∃ k, lex_Announced.f k ((s ++ ⟨#[32, 34]⟩) ++ ofB (annL z)) = some (0, false, false)) ∧
    (∃ k, lex_Announced.f k ((s ++ (ofB (annL z)).extract 0 ((ofB (annL z)).size - 1)) ++ ⟨#[43, 125]⟩) = some ((z.size : Int), true, true)) := by
  have h1 := scan_size h
  have h2 := annL_len z hz
  have h3 : (ofB (annL z)).size = (annL z).length := by rw [← bytesL_len, bytesL_ofB]
  obtain ⟨f1, f2, f3, f4⟩ := lit_fin ⟨z.size, by omega⟩
  have ev : ∀ (b : ByteArray) (r : List UInt8) (v : Int × Bool × Bool), b.size ≤ 10000 → r ≠ [] → bytesL b = bytesL s ++ r → anq false r = v → ∃ k, lex_Announced.f k b = some v := fun b r v hb hr he hv => by
    obtain ⟨k, hk⟩ := (lex_ev (s := b) (by omega)).rounds
    refine ⟨k, hk.trans ?_⟩
    rw [← hv, ← anq_scan h hr, ← he]
    unfold anq
    rw [bytesL_len]
  refine ⟨ev _ (32 :: annL z) _ ?_ (by simp) ?_ f2, ev _ (32 :: 34 :: annL z) _ ?_ (by simp) ?_ f3, ev _ (123 :: (Go.Lib.itoa (z.size : Int) ++ [43, 125])) _ ?_ (by simp) ?_ f4⟩
  · rw [ByteArray.size_append, ByteArray.size_append, h3]; show _ + 1 + _ ≤ _; omega
  · rw [bytesL_append, bytesL_append, bytesL_ofB, List.append_assoc]; rfl
  · rw [ByteArray.size_append, ByteArray.size_append, h3]; show _ + 2 + _ ≤ _; omega
  · rw [bytesL_append, bytesL_append, bytesL_ofB, List.append_assoc]; rfl
  · rw [ByteArray.size_append, ByteArray.size_append, ByteArray.size_extract, h3]; show _ + _ + 2 ≤ _; omega
  · rw [bytesL_append, bytesL_append, List.append_assoc]
    congr 1
    have e : bytesL ((ofB (annL z)).extract 0 ((ofB (annL z)).size - 1)) = 123 :: Go.Lib.itoa (z.size : Int) := by
      rw [h3]
      unfold bytesL ofB annL
      simp only [ByteArray.data_extract, Array.toList_extract, List.extract_eq_take_drop, List.drop_zero, List.length_cons, List.length_append, List.length_nil]
      rw [show ∀ (l : List UInt8), 123 :: (l ++ [125]) = (123 :: l) ++ [125] from fun _ => rfl, List.take_left' (by simp)]
    rw [e]; simp [bytesL]
set_option maxRecDepth 100000 in
set_option maxHeartbeats 4000000 in
theorem knows_late {A : Option Addr} {cA : Nat} (s : ByteArray) (lits : List ByteArray) (m : Nat) (hs : s.size ≤ 140737488351232) (hm : m ≤ 999) (h0 : (scan s lits).2 = 0) (hne : s.toList.isEmpty = false) (hC : Kd.string.C w A lits.length lits) (hc : lits.length ≤ cA) (hls : lits.length ≤ 9223372036854775807) (hW : Ext.WP w) :
    Calls Tryd.prog 6 #[.string s, .slice A lits.length cA, .int .i64 (m : Int)] w fun e w' => e = .returned (.bool true) ∧ Below w.heap.size w w' := by
  have h3 := ann_three h0 (z := zeros m) (by rw [zeros_size]; exact hm)
  have hj := fun (W3 : World) (v : Nat) (hC3 : Kd.C k43 W3 (some ⟨v, 0, none⟩) 1 [⟨3, zeros m, [], false⟩]) (hwp : Ext.WP W3) => join_ok (cA := 1) hC3 (Nat.le_refl _) (by simp)
    (fun x hx => by rw [List.mem_singleton.1 hx]; exact ⟨.inr rfl, by show (zeros m).size ≤ _; rw [zeros_size]; omega⟩) hwp (wr_lit (zeros m)) (by unfold annL; simp) (by have := annL_len (zeros m) (by rw [zeros_size]; exact hm); omega) (by simp)
    (scan_lit (zeros m) (by rw [zeros_size]; exact hm)) ⟨10, same_one _⟩
  have hts : (ofB (annL (zeros m))).size ≤ 102 := by have := annL_len (zeros m) (by rw [zeros_size]; exact hm); rw [← bytesL_len, bytesL_ofB]; exact this
  have hts1 : 1 ≤ (ofB (annL (zeros m))).size := by rw [← bytesL_len, bytesL_ofB]; unfold annL; simp
  unfold JPost at hj
  obtain ⟨t, ht⟩ : ∃ t, ofB (annL (zeros m)) = t := ⟨_, rfl⟩
  rw [ht] at h3 hj hts hts1
  have hs9 := scan_size h0
  obtain ⟨⟨k1, H1⟩, ⟨k2, H2⟩, ⟨k3, H3⟩⟩ := h3
  rw [zeros_size] at H1 H3
  have HJ : Hid _ := hj
  clear hj ht
  have hti : (t.size : Int) ≤ 102 := by omega
  have hti1 : (1 : Int) ≤ (t.size : Int) := by omega
  have hsi : (s.size : Int) ≤ 4096 := by omega
  clear hts hts1
  have hmk := print_make_int (P := Tryd.prog) 41 5 (.int .u8 0) 1 Tryd.underlying41 info5 rfl (by decide) (m : Int) (by omega) (by omega)
  rw [Int.toNat_natCast] at hmk
  have hcv := zeros_conv m hm
  have HH1 : Hid _ := H1
  have HH2 : Hid _ := H2
  have HH3 : Hid _ := H3
  have HW : Hid _ := hW
  have HC : Hid _ := And.intro hC (And.intro hc hls)
  have H0 : Hid _ := h0
  have c1 : decide ((m : Int) < 0) = false := decide_eq_false (by omega)
  have c2 : decide ((999 : Int) < (m : Int)) = false := decide_eq_false (by omega)
  clear H1 H2 H3 hW hC hc hls h0
  go_enter Tryd.func6, Tryd.ntmps6
  go_wp2_with fail
  refine (known_ok HW.out).mono ?_
  rintro e w1 ⟨rfl, hb1⟩
  have HB1 : Hid _ := hb1
  clear hb1
  go_wp2_with fail
  refine Calls.mono (scan_ok s lits w1 (Kd.C_below HC.out.1 HB1.out) HC.out.2.1 HC.out.2.2) ?_
  rintro e w2 ⟨v2, rfl, hr2, hb2⟩
  rw [H0.out]
  clear hr2
  have HB2 : Hid _ := below_then HB1.out HB1.out.size hb2
  clear hb2
  go_wp2_with (first | (go_at_call 12; refine Calls.mono (num_ok _ _) ?_; rintro e w' ⟨rfl, h'⟩; replace h' := h'.symm; subst h'))
  obtain ⟨W3, hW3⟩ : ∃ W, (w2.alloc (Obj.cells (madeCells #[.int .u8 0] m) 5)).alloc (Obj.cells #[.int .i64 3, .string (zeros m), .slice none 0 0, .bool false] 43) = W := ⟨_, rfl⟩
  have hb3 : Below w.heap.size w W3 := by rw [← hW3]; exact below_alloc (below_alloc HB2.out _) _
  have hC3 : Kd.C k43 W3 (some ⟨w2.heap.size + 1, 0, none⟩) 1 [⟨3, zeros m, [], false⟩] := by
    rw [← hW3, show w2.heap.size + 1 = (w2.alloc (Obj.cells (madeCells #[.int .u8 0] m) 5)).heap.size by simp]; exact C_lit1 _ _
  rw [hW3]
  have HB3 : Hid _ := hb3
  have HC3 : Hid _ := hC3
  clear hW3 hb3 hC3
  refine Calls.mono (HJ.out W3 _ HC3.out (HW.out.below HB3.out)) ?_
  rintro e w4 ⟨A4, c4, rfl, _, _, hb4⟩
  have HB4 : Hid _ := below_then HB3.out HB3.out.size hb4
  clear hb4
  rw [show ([zeros m] : List ByteArray).length = 1 from rfl]
  go_wp2_with (first | (go_at_call 12; refine Calls.mono (num_ok _ _) ?_; rintro e w' ⟨rfl, h'⟩; replace h' := h'.symm; subst h'))
  refine (lex_Announced.calls k1 _ (m : Int) false true w4 HH1.out).mono ?_
  rintro e w5 ⟨rfl, hb5⟩
  have HB5 : Hid _ := below_then HB4.out HB4.out.size hb5
  clear hb5
  go_wp2_with fail
  refine (lex_Announced.calls k2 _ 0 false false w5 HH2.out).mono ?_
  rintro e w6 ⟨rfl, hb6⟩
  have HB6 : Hid _ := below_then HB5.out HB5.out.size hb6
  clear hb6
  go_wp2_with fail
  refine (lex_Announced.calls k3 _ (m : Int) true true w6 HH3.out).mono ?_
  rintro e w7 ⟨rfl, hb7⟩
  have HB7 : Hid _ := below_then HB6.out HB6.out.size hb7
  clear hb7
  go_wp2
  go_ret
  exact ⟨by simp, HB7.out⟩
set_option maxRecDepth 100000 in
set_option maxHeartbeats 4000000 in
theorem knows_early {A : Option Addr} {cA : Nat} (s : ByteArray) (lits : List ByteArray) (n : Int) (hs : s.size ≤ 140737488351232) (hg : ¬((scan s lits).2 = 0 ∧ 0 ≤ n ∧ n ≤ 999 ∧ s.toList.isEmpty = false)) (hC : Kd.string.C w A lits.length lits) (hc : lits.length ≤ cA) (hls : lits.length ≤ 9223372036854775807) (hW : Ext.WP w) :
    Calls Tryd.prog 6 #[.string s, .slice A lits.length cA, .int .i64 n] w fun e w' => e = .returned (.bool true) ∧ Below w.heap.size w w' := by
  obtain ⟨R, hR⟩ : ∃ R, (scan s lits).2 = R := ⟨_, rfl⟩
  rw [hR] at hg
  have HW : Hid _ := hW
  have HC : Hid _ := And.intro hC (And.intro hc hls)
  have HR : Hid _ := hR
  have HG : Hid _ := hg
  clear hW hC hc hls hR hg
  go_enter Tryd.func6, Tryd.ntmps6
  go_wp2_with fail
  refine (known_ok HW.out).mono ?_
  rintro e w1 ⟨rfl, hb1⟩
  have HB1 : Hid _ := hb1
  clear hb1
  go_wp2_with fail
  refine Calls.mono (scan_ok s lits w1 (Kd.C_below HC.out.1 HB1.out) HC.out.2.1 HC.out.2.2) ?_
  rintro e w2 ⟨v2, rfl, hr2, hb2⟩
  rw [HR.out]
  clear hr2
  have HB2 : Hid _ := below_then HB1.out HB1.out.size hb2
  clear hb2
  by_cases c0 : R = 0
  · subst c0
    by_cases c1 : n < 0
    · have c1' : decide (n < 0) = true := decide_eq_true c1
      go_wp2_with (first | (go_at_call 12; refine Calls.mono (num_ok _ _) ?_; rintro e w' ⟨rfl, h'⟩; replace h' := h'.symm; subst h'))
      go_ret
      exact ⟨rfl, HB2.out⟩
    · have c1' : decide (n < 0) = false := decide_eq_false c1
      by_cases c2 : 999 < n
      · have c2' : decide ((999 : Int) < n) = true := decide_eq_true c2
        go_wp2_with (first | (go_at_call 12; refine Calls.mono (num_ok _ _) ?_; rintro e w' ⟨rfl, h'⟩; replace h' := h'.symm; subst h'))
        go_ret
        exact ⟨rfl, HB2.out⟩
      · have c2' : decide ((999 : Int) < n) = false := decide_eq_false c2
        cases c3 : s.toList.isEmpty with
        | false => exact absurd ⟨rfl, by omega, by omega, c3⟩ HG.out
        | true =>
          go_wp2_with (first | (go_at_call 12; refine Calls.mono (num_ok _ _) ?_; rintro e w' ⟨rfl, h'⟩; replace h' := h'.symm; subst h'))
          go_ret
          exact ⟨rfl, HB2.out⟩
  · have c0' : (R != 0) = true := bne_yes c0
    go_wp2_with (first | (go_at_call 12; refine Calls.mono (num_ok _ _) ?_; rintro e w' ⟨rfl, h'⟩; replace h' := h'.symm; subst h'))
    go_ret
    exact ⟨rfl, HB2.out⟩
end Go.Proofs.YtbgcapgjnflmoaaDoor.Sc
