/- Contracts of the functions that the statement reaches, and plain lemmas: ScQte, ScLit. -/
import Derived.Test.YtbgcapgjnflmoaaDoorMg23
import Derived.Test.YtbgcapgjnflmoaaDoorMg12
import Derived.Test.YtbgcapgjnflmoaaDoorMg18
set_option linter.unusedVariables false
set_option linter.unusedSimpArgs false
set_option linter.unnecessarySimpa false
/- What a line that scans does to what is announced behind it: nothing. -/
namespace Go.Proofs.YtbgcapgjnflmoaaDoor.Sc
def anq (q : Bool) (l : List UInt8) : Int × Bool × Bool := annc (l.length + 1) q l
theorem annc_fuel : ∀ (n m : Nat) (q : Bool) (l : List UInt8), l.length < n → l.length < m → annc n q l = annc m q l
  | 0, _, _, _, h, _ => by omega
  | _, 0, _, _, _, h => by omega
  | n + 1, m + 1, _, [], _, _ => by simp [annc]
  | n + 1, m + 1, true, c :: r, h, h' => by
    simp only [List.length_cons] at h h'
    rw [annc, annc]
    split
    · exact annc_fuel n m _ _ (by simp; omega) (by simp; omega)
    · exact annc_fuel n m _ _ (by omega) (by omega)
  | n + 1, m + 1, false, c :: r, h, h' => by
    simp only [List.length_cons] at h h'
    rw [annc, annc, annc_fuel n m _ r (by omega) (by omega)]
theorem anq_quote (r : List UInt8) : anq false (34 :: r) = anq true r := by
  unfold anq; rw [List.length_cons, annc, ann_head' (by decide)]; rfl
theorem anq_plain {c : UInt8} {r : List UInt8} (h1 : c ≠ 123) (h2 : c ≠ 34) : anq false (c :: r) = anq false r := by
  unfold anq; rw [List.length_cons, annc, ann_head' h1]
  simp only
  rw [show (c == 34) = false by simpa using h2]
theorem anq_open {m : Nat} {p : Bool} {x : UInt8} {r xs : List UInt8} (h : ann (123 :: r) = some (m, p, x :: xs)) : anq false (123 :: r) = anq false r := by
  unfold anq; rw [List.length_cons, annc, h]; rfl
theorem anq_end (r : List UInt8) : anq true (34 :: r) = anq false r := by
  unfold anq; rw [List.length_cons, annc_line, if_neg (by decide)]; rfl
theorem anq_in {c : UInt8} {r : List UInt8} (h1 : c ≠ 92) (h2 : c ≠ 34) : anq true (c :: r) = anq true r := by
  unfold anq; rw [List.length_cons, annc_line, if_neg h1, show (c != 34) = true by simpa using h2]
theorem anq_esc (d : UInt8) (r : List UInt8) : anq true (92 :: d :: r) = anq true r := by
  unfold anq; rw [List.length_cons, annc_line, if_pos rfl]
  exact annc_fuel _ _ _ _ (by simp; omega) (by simp)
theorem anq_over : ∀ (t : List UInt8) (r : List UInt8), (∀ c, c ∈ t → c ≠ 123 ∧ c ≠ 34) → anq false (t ++ r) = anq false r
  | [], _, _ => rfl
  | c :: t, r, h => by
    rw [List.cons_append, anq_plain (h c List.mem_cons_self).1 (h c List.mem_cons_self).2]
    exact anq_over t r (fun d hd => h d (List.mem_cons_of_mem _ hd))
theorem anq_qd : ∀ (n : Nat) (e : Int) (r out t q rest : List UInt8), r.length < n → qd e r out = .ok (t, q) → anq true (r ++ rest) = anq false (q ++ rest)
  | 0, _, _, _, _, _, _, h, _ => by omega
  | n + 1, e, [], out, t, q, rest, _, h => by cases h
  | n + 1, e, c :: r, out, t, q, rest, hn, h => by
    simp only [List.length_cons] at hn
    rw [qd.eq_def] at h
    simp only at h
    by_cases h1 : c = 34
    · rw [if_pos h1] at h
      cases h
      rw [h1, List.cons_append, anq_end]
    · rw [if_neg h1] at h
      by_cases h2 : gquote c = false
      · rw [if_pos h2] at h; cases h
      · rw [if_neg h2] at h
        by_cases h3 : c = 92
        · rw [if_pos h3] at h
          cases r with
          | nil => cases h
          | cons d r' =>
            simp only at h
            simp only [List.length_cons] at hn
            by_cases h4 : d = 34 ∨ d = 92
            · rw [if_pos h4] at h
              rw [h3, List.cons_append, List.cons_append, anq_esc]
              exact anq_qd n e r' _ t q rest (by omega) h
            · rw [if_neg h4] at h; cases h
        · rw [if_neg h3] at h
          rw [List.cons_append, anq_in h3 h1]
          exact anq_qd n e r _ t q rest (by omega) h
theorem dig_no {c : UInt8} (h : dig c = true) : c ≠ 123 ∧ c ≠ 34 := by
  have : 48 ≤ c.toNat ∧ c.toNat ≤ 57 := by simpa [dig] using h
  exact ⟨by rintro rfl; exact absurd this (by decide), by rintro rfl; exact absurd this (by decide)⟩
theorem gword_no9 {c : UInt8} (h : gword c = true) : c ≠ 123 ∧ c ≠ 34 := ⟨by rintro rfl; exact absurd h (by decide), by rintro rfl; exact absurd h (by decide)⟩
theorem digs_parts : ∀ (l : List UInt8) (n : Nat), ∃ t, l = t ++ (digs n l).2 ∧ (∀ c, c ∈ t → c ≠ 123 ∧ c ≠ 34) ∧ ∀ rest, (digs n l).2 ≠ [] → digs n (l ++ rest) = ((digs n l).1, (digs n l).2 ++ rest)
  | [], n => ⟨[], rfl, by simp, fun rest h => absurd rfl h⟩
  | c :: r, n => by
    cases hg : dig c with
    | false =>
      have e : digs n (c :: r) = (n, c :: r) := by rw [digs, if_neg (by rw [hg]; decide)]
      rw [e]
      exact ⟨[], rfl, by simp, fun rest _ => by rw [List.cons_append, digs, if_neg (by rw [hg]; decide)]⟩
    | true =>
      have e : digs n (c :: r) = digs (min (n * 10 + (c.toNat - 48)) 4294967296) r := by rw [digs, if_pos hg]
      obtain ⟨t, h1, h2, h3⟩ := digs_parts r (min (n * 10 + (c.toNat - 48)) 4294967296)
      rw [e]
      refine ⟨c :: t, by rw [List.cons_append, ← h1], fun d hd => ?_, fun rest hr => ?_⟩
      · rcases List.mem_cons.1 hd with rfl | hd
        · exact dig_no hg
        · exact h2 d hd
      · rw [List.cons_append, digs, if_pos hg]; exact h3 rest hr
theorem ann_parts {l q : List UInt8} {n : Nat} {p : Bool} (h : ann l = some (n, p, q)) : ∃ t, l = 123 :: (t ++ q) ∧ (∀ c, c ∈ t → c ≠ 123 ∧ c ≠ 34) ∧ ∀ rest, ann (l ++ rest) = some (n, p, q ++ rest) := by
  cases l with
  | nil => cases h
  | cons c r =>
    simp only [ann] at h
    split at h
    · rename_i hc
      subst hc
      cases r with
      | nil => cases h
      | cons d r' =>
        simp only [annIn] at h
        split at h
        · rename_i hg
          obtain ⟨t, h1, h2, h3⟩ := digs_parts (d :: r') 0
          generalize digs 0 (d :: r') = z at h h1 h3
          obtain ⟨m, y⟩ := z
          simp only at h h1 h3
          cases y with
          | nil => cases h
          | cons a y' =>
            have hext : ∀ rest, ann (123 :: d :: r' ++ rest) = annEnd m (a :: y' ++ rest) := fun rest => by
              have := h3 rest (by simp)
              rw [List.cons_append, List.cons_append, ann, if_pos rfl, annIn, if_pos hg, ← List.cons_append, this]
            simp only [annEnd] at h
            by_cases h4 : a = 125
            · rw [if_pos h4] at h
              cases h
              refine ⟨t ++ [a], by rw [h1]; simp, fun c hc => ?_, fun rest => by rw [hext, List.cons_append, annEnd, if_pos h4]⟩
              rcases List.mem_append.1 hc with hc | hc
              · exact h2 c hc
              · rw [List.mem_singleton.1 hc, h4]; decide
            · rw [if_neg h4] at h
              by_cases h5 : a = 43
              · rw [if_pos h5] at h
                cases y' with
                | nil => cases h
                | cons b y2 =>
                  simp only [annPlus] at h
                  by_cases h6 : b = 125
                  · rw [if_pos h6] at h
                    cases h
                    refine ⟨t ++ [a, b], by rw [h1]; simp, fun c hc => ?_, fun rest => by rw [hext, List.cons_append, annEnd, if_neg h4, if_pos h5, List.cons_append, annPlus, if_pos h6]⟩
                    rcases List.mem_append.1 hc with hc | hc
                    · exact h2 c hc
                    · rcases List.mem_cons.1 hc with rfl | hc
                      · rw [h5]; decide
                      · rw [List.mem_singleton.1 hc, h6]; decide
                  · rw [if_neg h6] at h; cases h
              · rw [if_neg h5] at h; cases h
        · cases h
    · cases h
theorem anq_enter {s s' : Ma} {g : Bool} {c : UInt8} {r q rest : List UInt8} (hr : rest ≠ []) (hs : starts c r = true) (h : enter s g c r = .ok (s', q)) : anq false (c :: r ++ rest) = anq false (q ++ rest) := by
  unfold enter at h
  cases ha : ann (c :: r) with
  | some v =>
    obtain ⟨n, p, q'⟩ := v
    rw [ha] at h
    simp only at h
    have hq : q' = q := by
      cases hl : s.lits with
      | nil => rw [hl] at h; cases h
      | cons x xs =>
        rw [hl] at h
        simp only at h
        split at h
        · cases h; rfl
        · cases h
    subst hq
    obtain ⟨t, h1, h2, h3⟩ := ann_parts ha
    have h4 := h3 rest
    rw [h1] at h4 ⊢
    cases hz : q' ++ rest with
    | nil => exact absurd (List.append_eq_nil_iff.1 hz).2 hr
    | cons x xs =>
      rw [hz] at h4
      rw [List.cons_append] at h4 ⊢
      rw [anq_open h4, List.append_assoc, hz, anq_over t _ h2]
  | none =>
    rw [ha] at h
    simp only at h
    by_cases h34 : c = 34
    · rw [if_pos h34] at h
      cases hq : qd s.early r [] with
      | error e => rw [hq] at h; cases h
      | ok v =>
        obtain ⟨t, q'⟩ := v
        rw [hq] at h
        cases h
        rw [h34, List.cons_append, anq_quote]
        exact anq_qd _ _ r [] t q rest (Nat.lt_succ_self _) hq
    · rw [if_neg h34] at h
      by_cases h40 : c = 40 ∨ c = 91
      · rw [if_pos h40] at h
        split at h
        · cases h
          rw [List.cons_append, anq_plain (by rcases h40 with rfl | rfl <;> decide) (by rcases h40 with rfl | rfl <;> decide)]
        · cases h
      · rw [if_neg h40] at h
        cases h
        conv => lhs; rw [← List.takeWhile_append_dropWhile (p := gword) (l := c :: r)]
        rw [List.append_assoc]
        exact anq_over _ _ (fun d hd => gword_no9 (List.all_eq_true.1 List.all_takeWhile d hd))
theorem anq_round {b f b' f' : Bool} {s s' : Ma} {c : UInt8} {r q rest : List UInt8} (hr : rest ≠ []) (h : round b f s c r = .ok (b', f', s', q)) : anq false (c :: r ++ rest) = anq false (q ++ rest) := by
  unfold round at h
  by_cases h32 : c = 32
  · rw [if_pos h32] at h
    split at h
    · cases h
    · cases h; rw [List.cons_append, h32, anq_plain (by decide) (by decide)]
  · rw [if_neg h32] at h
    by_cases h41 : c = 41 ∨ c = 93
    · rw [if_pos h41] at h
      cases hs : shut s c with
      | none => rw [hs] at h; cases h
      | some z =>
        rw [hs] at h
        cases h
        rw [List.cons_append, anq_plain (by rcases h41 with rfl | rfl <;> decide) (by rcases h41 with rfl | rfl <;> decide)]
    · rw [if_neg h41] at h
      cases hb : begin_ s (!b && !f) c r with
      | error e => rw [hb] at h; cases h
      | ok v =>
        obtain ⟨s2, q2⟩ := v
        rw [hb] at h
        cases h
        unfold begin_ at hb
        by_cases hst : starts c r = false
        · rw [if_pos hst] at hb; cases hb
        · rw [if_neg hst] at hb
          split at hb
          · exact anq_enter hr (by simpa using hst) hb
          · cases hb
theorem anq_run : ∀ (n : Nat) (b f : Bool) (s s' : Ma) (l rest : List UInt8), rest ≠ [] → run n b f s l = .ok s' → anq false (l ++ rest) = anq false rest
  | 0, _, _, _, _, _, _, _, h => by cases h
  | n + 1, b, f, s, s', [], rest, _, _ => rfl
  | n + 1, b, f, s, s', c :: r, rest, hr, h => by
    rw [run] at h
    cases hd : round b f s c r with
    | error e => rw [hd] at h; cases h
    | ok v =>
      obtain ⟨b2, f2, s2, q⟩ := v
      rw [hd] at h
      rw [anq_round hr hd]
      exact anq_run n b2 f2 s2 s' q rest hr h
/-- Behind a line that scans, what is announced is what the rest announces. -/
theorem anq_scan {line : ByteArray} {lits : List ByteArray} (h : (scan line lits).2 = 0) {rest : List UInt8} (hr : rest ≠ []) : anq false (bytesL line ++ rest) = anq false rest := by
  unfold scan at h
  split at h
  · split at h
    · unfold scanL at h
      cases hx : run ((bytesL line).length + 1) false true ⟨0, lits, Fr.line, []⟩ (bytesL line) with
      | error e =>
        rw [hx] at h
        exact absurd h (run_err (Nat.lt_succ_self _) hx)
      | ok s' => exact anq_run _ _ _ _ s' _ rest hr hx
    · cases h
  · cases h
end Go.Proofs.YtbgcapgjnflmoaaDoor.Sc

/- One literal, joined: its line, scanned and announced. -/
namespace Go.Proofs.YtbgcapgjnflmoaaDoor.Sc
open Go.Proofs.YtbgcapgjnflmoaaDoor.PLx
set_option maxRecDepth 100000 in
theorem lit_fin : ∀ n : Fin 1000, ann (123 :: (Go.Lib.itoa ((n.val : Nat) : Int) ++ [125])) = some (n.val, false, []) ∧ anq false (32 :: 123 :: (Go.Lib.itoa ((n.val : Nat) : Int) ++ [125])) = ((n.val : Int), false, true) ∧
    anq false (32 :: 34 :: 123 :: (Go.Lib.itoa ((n.val : Nat) : Int) ++ [125])) = (0, false, false) ∧ anq false (123 :: (Go.Lib.itoa ((n.val : Nat) : Int) ++ [43, 125])) = ((n.val : Int), true, true) := by decide +kernel
theorem bytesL_ofB (l : List UInt8) : bytesL (ofB l) = l := by simp [bytesL, ofB]
theorem wr_lit (s : ByteArray) : wrS true [⟨3, s, [], false⟩] [] [] = some (annL s, [s]) := by
  rw [wrS, if_pos (by exact ⟨by simp, by simp⟩), if_neg (by show ¬ ((3 : Int) = 1); decide), if_pos rfl, wrS]
  rfl
theorem annL_len (s : ByteArray) (h : s.size ≤ 999) : (annL s).length ≤ 102 := by
  have := itoa_le s.size (by omega)
  unfold annL
  simp only [List.length_cons, List.length_append, List.length_nil]
  omega
theorem scan_lit (s : ByteArray) (h : s.size ≤ 999) : scan (ofB (annL s)) [s] = ([⟨3, s, [], false⟩], 0) := by
  have hl := annL_len s h
  have hsz : (ofB (annL s)).size = (annL s).length := by rw [← bytesL_len, bytesL_ofB]
  have ha : ann (annL s) = some (s.size, false, []) := (lit_fin ⟨s.size, by omega⟩).1
  unfold scan
  rw [if_pos ⟨by rw [hsz]; omega, by simp⟩, if_pos (by simp; omega), bytesL_ofB]
  unfold scanL
  have hb : begin_ ⟨0, [s], Fr.line, []⟩ false 123 (Go.Lib.itoa (s.size : Int) ++ [125]) = .ok (⟨1, [], Fr.line.put ⟨3, s, [], false⟩, []⟩, []) := by
    have ha' : ann (123 :: (Go.Lib.itoa (s.size : Int) ++ [125])) = some (s.size, false, []) := ha
    unfold begin_
    rw [if_neg (by unfold starts; rw [ha']; simp), if_pos (by show 0 + 1 ≤ 512; decide)]
    unfold enter
    rw [ha']
    simp
  have hr : run ((annL s).length + 1) false true ⟨0, [s], Fr.line, []⟩ (annL s) = .ok ⟨1, [], Fr.line.put ⟨3, s, [], false⟩, []⟩ := by
    show run (((Go.Lib.itoa (s.size : Int) ++ [125]).length + 1) + 1) false true ⟨0, [s], Fr.line, []⟩ (123 :: (Go.Lib.itoa (s.size : Int) ++ [125])) = _
    rw [run]
    unfold round
    rw [if_neg (by decide), if_neg (by decide), show (!false && !true) = false from rfl, hb]
    simp only
    rw [run, if_pos rfl]
    rfl
  rw [hr]
  rfl
theorem same_one (s : ByteArray) : lex_same.f 10 [⟨3, s, [], false⟩] [⟨3, s, [], false⟩] = some true := by
  have e : Go.RowKit.wrap64 1 = 1 := w64 (by decide) (by decide)
  simp [lex_same.f, lex_same.l0, rd_T43, e]
end Go.Proofs.YtbgcapgjnflmoaaDoor.Sc
