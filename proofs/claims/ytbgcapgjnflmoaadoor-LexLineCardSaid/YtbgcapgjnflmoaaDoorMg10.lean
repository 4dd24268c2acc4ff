/- Contracts of the functions that the statement reaches, and plain lemmas: ScRound. -/
import Derived.Test.YtbgcapgjnflmoaaDoorMg6
import Derived.Test.YtbgcapgjnflmoaaDoorMg7
import Derived.Test.YtbgcapgjnflmoaaDoorMg8
import Derived.Test.YtbgcapgjnflmoaaDoorMg9
set_option linter.unusedVariables false
set_option linter.unusedSimpArgs false
set_option linter.unnecessarySimpa false
/- begin, all cases; what a round keeps. -/
namespace Go.Proofs.YtbgcapgjnflmoaaDoor.Sc
open Go.RowKit Go.Proofs.YtbgcapgjnflmoaaDoorW.PrintWords Go.Proofs.YtbgcapgjnflmoaaDoorW.PrintMore Go.Proofs.YtbgcapgjnflmoaaDoor.PLx
variable {w0 w w1 : World} {p : Nat} {line : ByteArray} {pos count : Nat} {lits : List ByteArray} {vo : Value} {l : List FV}

theorem begin_ok {s : Ma} (h : Is w0 w p line pos s) (hpos : pos < line.size) (hline : line.size ≤ 4096) {c : UInt8} {r : List UInt8} (hcr : (bytesL line).drop pos = c :: r) (glued : Bool)
    (hct : s.count ≤ 100000) (hbl : s.below.length ≤ 12) (htk : s.top.kids.length ≤ 100000) :
    Calls Tryd.prog 42 #[.pointer (some ⟨p, 0, none⟩), .bool glued] w (BPost w0 p line (begin_ s glued c r)) := by
  cases hst : starts c r with
  | false => exact begin_no h hpos hline hcr glued hct hbl htk hst
  | true =>
    cases ha : ann (c :: r) with
    | some v =>
      obtain ⟨n, pl, q⟩ := v
      exact begin_lit h hpos hline hcr glued hct hbl htk ha
    | none =>
      by_cases h34 : c = 34
      · exact begin_quote h hpos hline hcr glued hct hbl htk h34
      · by_cases h40 : c = 40
        · exact begin_open h hpos hline hcr glued hct hbl htk h40
        · by_cases h91 : c = 91
          · exact begin_bracket h hpos hline hcr glued hct hbl htk h91
          · refine begin_atom h hpos hline hcr glued hct hbl htk ?_
            unfold starts at hst
            rw [ha, show (c == 34) = false by simpa using h34, show (c == 40) = false by simpa using h40, show (c == 91) = false by simpa using h91] at hst
            simpa using hst
/-- Bounds on what is open, at a place in the line. -/
structure Bd (k : Nat) (s : Ma) : Prop where
  ct : s.count ≤ 512
  bl : s.below.length ≤ 12
  tk : s.top.kids.length ≤ k
  bk : ∀ f, f ∈ s.below → f.kids.length ≤ k
  k0 : (s.top.kind :: s.below.map (·.kind)).getLast? = some 0
theorem Bd.mono {k k' : Nat} {s : Ma} (h : Bd k s) (hk : k ≤ k') : Bd k' s := ⟨h.ct, h.bl, Nat.le_trans h.tk hk, fun f hf => Nat.le_trans (h.bk f hf) hk, h.k0⟩
theorem Bd.put {k : Nat} {s : Ma} (h : Bd k s) (x : Wd) (ls : List ByteArray) (c : Nat) (hc : c ≤ 512) : Bd (k + 1) ⟨c, ls, s.top.put x, s.below⟩ :=
  ⟨hc, h.bl, by simp only [Fr.put, List.length_append, List.length_singleton]; have := h.tk; omega, fun f hf => Nat.le_succ_of_le (h.bk f hf), h.k0⟩
theorem shut_bd {k : Nat} {s s' : Ma} {c : UInt8} (h : Bd k s) (hs : shut s c = some s') : Bd (k + 1) s' := by
  unfold shut at hs
  cases hb : s.below with
  | nil => rw [hb] at hs; cases hs
  | cons f b =>
    rw [hb] at hs
    simp only at hs
    split at hs
    · cases hs
      have hbl := h.bl
      rw [hb] at hbl
      simp only [List.length_cons] at hbl
      refine ⟨h.ct, by show b.length ≤ 12; omega, ?_, fun g hg => Nat.le_succ_of_le (h.bk g (by rw [hb]; exact List.mem_cons_of_mem _ hg)), ?_⟩
      · have := h.bk f (by rw [hb]; exact List.mem_cons_self)
        simp only [Fr.put, List.length_append, List.length_singleton]
        omega
      · have := h.k0
        rw [hb, List.map_cons, List.getLast?_cons_cons] at this
        exact this
    · cases hs
theorem begin_bd {k : Nat} {s s' : Ma} {g : Bool} {c : UInt8} {r q : List UInt8} (h : Bd k s) (hs : begin_ s g c r = .ok (s', q)) : Bd (k + 1) s' := by
  unfold begin_ at hs
  split at hs
  · cases hs
  · split at hs
    · rename_i hct
      unfold enter at hs
      split at hs
      · split at hs
        · cases hs
        · split at hs
          · cases hs; exact h.put _ _ _ hct
          · cases hs
      · split at hs
        · split at hs
          · cases hs
          · cases hs; exact h.put _ _ _ hct
        · split at hs
          · split at hs
            · rename_i hbl
              cases hs
              refine ⟨hct, by simp only [List.length_cons]; exact hbl, Nat.zero_le _, fun f hf => ?_, ?_⟩
              · rcases List.mem_cons.1 hf with rfl | hf
                · exact Nat.le_succ_of_le h.tk
                · exact Nat.le_succ_of_le (h.bk f hf)
              · rw [List.map_cons, List.getLast?_cons_cons]
                exact h.k0
            · cases hs
          · cases hs; exact h.put _ _ _ hct
    · cases hs
theorem round_bd {k : Nat} {s s' : Ma} {b f b' f' : Bool} {c : UInt8} {r q : List UInt8} (h : Bd k s) (hs : round b f s c r = .ok (b', f', s', q)) : Bd (k + 1) s' := by
  unfold round at hs
  split at hs
  · split at hs
    · cases hs
    · cases hs; exact h.mono (Nat.le_succ _)
  · split at hs
    · split at hs
      · cases hs
      · rename_i s2 hs2
        cases hs
        exact shut_bd h hs2
    · split at hs
      · cases hs
      · rename_i hb
        cases hs
        exact begin_bd h hb
/-! ### what is left is an end of the line -/
theorem annEnd_suf {n m : Nat} {p : Bool} {l q : List UInt8} (h : annEnd n l = some (m, p, q)) : q <:+ l := by
  cases l with
  | nil => cases h
  | cons c r =>
    simp only [annEnd] at h
    split at h
    · cases h; exact List.suffix_cons _ _
    · split at h
      · cases r with
        | nil => cases h
        | cons d r' =>
          simp only [annPlus] at h
          split at h
          · cases h; exact (List.suffix_cons _ _).trans (List.suffix_cons _ _)
          · cases h
      · cases h
theorem ann_suf {n : Nat} {p : Bool} {l q : List UInt8} (h : ann l = some (n, p, q)) : q <:+ l := by
  cases l with
  | nil => cases h
  | cons c r =>
    simp only [ann] at h
    split at h
    · cases r with
      | nil => cases h
      | cons d r' =>
        simp only [annIn] at h
        split at h
        · exact (annEnd_suf h).trans ((show (digs 0 (d :: r')).2 <:+ (d :: r') from digs_suffix (d :: r') 0).trans (List.suffix_cons _ _))
        · cases h
    · cases h
theorem qd_suf {e : Int} : ∀ {l out t q : List UInt8}, qd e l out = .ok (t, q) → q <:+ l := by
  intro l
  induction hn : l.length using Nat.strongRecOn generalizing l with
  | _ n ih =>
    intro out t q h
    subst hn
    cases l with
    | nil => rw [qdnil] at h; cases h
    | cons c r =>
      by_cases h34 : c = 34
      · subst h34; rw [qd34'] at h; cases h; exact List.suffix_cons _ _
      · cases hg : gquote c with
        | false => rw [qdbad h34 hg] at h; cases h
        | true =>
          by_cases h92 : c = 92
          · subst h92
            cases r with
            | nil => rw [qd92e] at h; cases h
            | cons d r' =>
              by_cases hd : d = 34 ∨ d = 92
              · rw [qd92 hd] at h
                exact ((ih r'.length (by simp only [List.length_cons]; omega) rfl h).trans (List.suffix_cons _ _)).trans (List.suffix_cons _ _)
              · rw [qd92n hd] at h; cases h
          · rw [qdc h34 hg h92] at h
            exact (ih r.length (by simp only [List.length_cons]; omega) rfl h).trans (List.suffix_cons _ _)
theorem begin_suf {s s' : Ma} {g : Bool} {c : UInt8} {r q : List UInt8} (hs : begin_ s g c r = .ok (s', q)) : q <:+ (c :: r) := by
  unfold begin_ at hs
  split at hs
  · cases hs
  · split at hs
    · unfold enter at hs
      split at hs
      · rename_i ha
        split at hs
        · cases hs
        · split at hs
          · cases hs; exact ann_suf ha
          · cases hs
      · split at hs
        · split at hs
          · cases hs
          · rename_i hq
            cases hs; exact (qd_suf hq).trans (List.suffix_cons _ _)
        · split at hs
          · split at hs
            · cases hs; exact List.suffix_cons _ _
            · cases hs
          · cases hs; exact List.dropWhile_suffix _
    · cases hs
theorem round_suf {s s' : Ma} {b f b' f' : Bool} {c : UInt8} {r q : List UInt8} (hs : round b f s c r = .ok (b', f', s', q)) : q <:+ (c :: r) := by
  unfold round at hs
  split at hs
  · split at hs
    · cases hs
    · cases hs; exact List.suffix_cons _ _
  · split at hs
    · split at hs
      · cases hs
      · cases hs; exact List.suffix_cons _ _
    · split at hs
      · cases hs
      · rename_i hb
        cases hs
        exact begin_suf hb
/-- A round, then the rest of the line from its own place on. -/
theorem run_round {line : ByteArray} {k : Nat} (hk : k < line.size) {c : UInt8} {r : List UInt8} (hcr : (bytesL line).drop k = c :: r) {b f : Bool} {s : Ma} {R : Except Int Ma} (hR : run (line.size - k + 1) b f s ((bytesL line).drop k) = R) :
    (∃ e, round b f s c r = .error e ∧ R = .error e) ∨ (∃ b' f' s' q, round b f s c r = .ok (b', f', s', q) ∧ k < line.size - q.length ∧ line.size - q.length ≤ line.size ∧ (bytesL line).drop (line.size - q.length) = q ∧ run (line.size - (line.size - q.length) + 1) b' f' s' ((bytesL line).drop (line.size - q.length)) = R) := by
  rw [hcr, run] at hR
  cases hr : round b f s c r with
  | error e => rw [hr] at hR; exact .inl ⟨e, rfl, hR.symm⟩
  | ok v =>
    obtain ⟨b', f', s', q⟩ := v
    rw [hr] at hR
    have hle := round_le hr
    have hsuf := round_suf hr
    have hrl : r.length + 1 = line.size - k := by
      have := congrArg List.length hcr
      rw [List.length_drop, bytesL_len] at this
      simpa using this.symm
    rw [← hcr] at hsuf
    have hs2 := hsuf.trans (List.drop_suffix k (bytesL line))
    have hd := List.suffix_iff_eq_drop.1 hs2
    rw [bytesL_len] at hd
    refine .inr ⟨b', f', s', q, rfl, by omega, by omega, hd.symm, ?_⟩
    rw [← hd, ← hR]
    exact run_fuel _ _ _ _ _ _ (by omega) (by omega)
/-! ### the library's small functions, at the line -/
theorem trim_at (line : ByteArray) (k : Nat) (h : k < line.size) (hb : line[k] = 32) (w : World) : Calls Tryd.prog 39 #[.string (line.extract k line.size), .string ⟨#[32]⟩] w fun e w' => e = .returned (.string (line.extract (k + 1) line.size)) ∧ w' = w := by
  refine (Tryd.strings_TrimPrefix _ _ w).mono ?_
  rintro e w' ⟨rfl, rfl⟩
  refine ⟨?_, rfl⟩
  have e1 : (line.extract k line.size).data.toList = (bytesL line).drop k := extract_bytes line k
  rw [e1, drop_at line k h, hb]
  have e2 : Lib.trimPrefix (32 :: (bytesL line).drop (k + 1)) [32] = (bytesL line).drop (k + 1) := by simp [Lib.trimPrefix, Lib.hasPrefix]
  rw [show ((⟨#[32]⟩ : ByteArray).data.toList) = [32] from rfl, e2]
  congr 2
  apply ByteArray.ext
  apply Array.ext'
  have e3 := extract_bytes line (k + 1)
  unfold bytesL at e3 ⊢
  exact e3.symm
def headIs (b : UInt8) : List UInt8 → Bool
  | [] => false
  | d :: _ => d == b
theorem beq_comm_u8 (d b : UInt8) : (b == d) = (d == b) := by
  by_cases h : b = d
  · subst h; rfl
  · rw [beq_eq_false_iff_ne.2 h, beq_eq_false_iff_ne.2 (Ne.symm h)]
theorem has_at (line : ByteArray) (k : Nat) (b : UInt8) (w : World) : Calls Tryd.prog 40 #[.string (line.extract k line.size), .string ⟨#[b]⟩] w fun e w' => e = .returned (.bool (headIs b ((bytesL line).drop k))) ∧ w' = w := by
  refine (Tryd.strings_HasPrefix _ _ w).mono ?_
  rintro e w' ⟨rfl, rfl⟩
  refine ⟨?_, rfl⟩
  have e1 : (line.extract k line.size).data.toList = (bytesL line).drop k := extract_bytes line k
  rw [e1, show ((⟨#[b]⟩ : ByteArray).data.toList) = [b] from rfl]
  congr 2
  cases (bytesL line).drop k with
  | nil => simp [Lib.hasPrefix, headIs]
  | cons d r =>
    unfold Lib.hasPrefix headIs
    rw [List.isPrefixOf, List.isPrefixOf, Bool.and_true]
    exact beq_comm_u8 d b
/-- What shut leaves. -/
def SPost (w0 : World) (p : Nat) (line : ByteArray) (k : Nat) (R : Option Ma) (e : Ending) (w' : World) : Prop :=
  match R with
  | none => e = .returned (.int .i64 33) ∧ Below w0.heap.size w0 w'
  | some s' => e = .returned (.int .i64 0) ∧ Is w0 w' p line k s'
theorem shut_is {s : Ma} {k : Nat} (h : Is w0 w p line k s) (hb : Bd k s) (hk : k ≤ 4096) (c : UInt8) : Calls Tryd.prog 41 #[.pointer (some ⟨p, 0, none⟩), .int .u8 c.toNat] w (SPost w0 p line k (shut s c)) := by
  obtain ⟨vo, l, v, hop, hmap⟩ := h
  have hl := map_len hmap
  have hbl := hb.bl
  by_cases hc : s.top.kind = 4 ∧ c = 41 ∨ s.top.kind = 5 ∧ c = 93
  · cases hbe : s.below with
    | nil =>
      have := hb.k0
      rw [hbe] at this
      simp at this
      rcases hc with ⟨h1, _⟩ | ⟨h1, _⟩ <;> omega
    | cons f b =>
      have hm2 : l.map (·.1) = b.reverse ++ [f] := by rw [hmap, hbe, List.reverse_cons]
      obtain ⟨l2, x, hlx⟩ : ∃ l2 x, l = l2 ++ [x] := by
        rcases List.eq_nil_or_concat l with e | ⟨l2, x, e⟩
        · rw [e] at hm2; simp at hm2
        · exact ⟨l2, x, by rw [e]; simp⟩
      subst hlx
      rw [List.map_append, List.map_singleton] at hm2
      obtain ⟨hma, hmb⟩ := List.append_inj' hm2 rfl
      have hxf : x.1 = f := by injection hmb
      obtain ⟨g, u⟩ := x
      have hgf : g = f := hxf
      subst hgf
      have hbk := hb.bk g (by rw [hbe]; exact List.mem_cons_self)
      refine (shut_ok hop (by simp at hl; omega) (by omega) c hc).mono ?_
      rintro e w' ⟨rfl, vo', u', hop'⟩
      unfold shut
      rw [hbe]
      simp only
      rw [if_pos hc]
      exact ⟨rfl, vo', l2, u', hop', hma⟩
  · refine (shut_no hop (by omega) c hc).mono ?_
    intro e w' h
    unfold shut
    cases hbe : s.below with
    | nil => exact h
    | cons f b =>
      simp only
      rw [if_neg hc]
      exact h
end Go.Proofs.YtbgcapgjnflmoaaDoor.Sc
