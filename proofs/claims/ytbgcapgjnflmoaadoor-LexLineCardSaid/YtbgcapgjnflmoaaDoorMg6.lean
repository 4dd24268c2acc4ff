/- Contracts of the functions that the statement reaches, and plain lemmas: ScAnn, ScBg0, ScBgN. -/
import Derived.Test.YtbgcapgjnflmoaaDoorMg4
import Derived.Test.YtbgcapgjnflmoaaDoorMg5
set_option linter.unusedVariables false
set_option linter.unusedSimpArgs false
set_option linter.unnecessarySimpa false
/- Announcements, as the program reads them. -/
namespace Go.Proofs.YtbgcapgjnflmoaaDoor.Sc
open Go.RowKit Go.Proofs.YtbgcapgjnflmoaaDoorW.PrintWords Go.Proofs.YtbgcapgjnflmoaaDoorW.PrintMore Go.Proofs.YtbgcapgjnflmoaaDoorW.PrintLast Go.Proofs.YtbgcapgjnflmoaaDoor.PLx

theorem w64 {z : Int} (h0 : -9223372036854775808 ≤ z) (h1 : z ≤ 9223372036854775807) : wrap64 z = z := by unfold wrap64; omega
theorem bt_nat (s : ByteArray) (i : Nat) (h : i < s.size) : bt s (i : Int) = ((s[i]).toNat : Int) := by
  unfold bt; simp [h]
theorem grade_ev (b : UInt8) : Ev (fun k => lex_grade.f k (b.toNat : Int)) (gradeI b.toNat) :=
  Ev.of (lex_grade.mono _) (k := 6) (grade_fin ⟨b.toNat, b.toNat_lt⟩)
theorem toList_nil (s : ByteArray) : s.toList = [] ↔ s.size = 0 := by
  rw [ByteArray.toList_eq]
  constructor
  · intro h
    have := congrArg List.length h
    simpa using this
  · intro h
    apply List.eq_nil_of_length_eq_zero
    simpa using h
/-- What an announcement's answer is, as the program tells it; of a text that has size bytes. -/
def told (size : Nat) : Option (Nat × Bool × List UInt8) → Int × Bool × Int
  | none => (0, false, 0)
  | some (n, p, q) => (n, p, ((size - q.length : Nat) : Int))
theorem digs_bound : ∀ (l : List UInt8) (n : Nat), n ≤ 4294967296 → (digs n l).1 ≤ 4294967296
  | [], n, h => h
  | c :: r, n, h => by
    unfold digs
    split
    · exact digs_bound r _ (Nat.min_le_right _ _)
    · exact h
theorem b_eq (b : UInt8) (z : Int) (c : UInt8) (h : (c.toNat : Int) = z) : ((b.toNat : Int) = z) ↔ b = c := by
  constructor
  · intro e; rw [← UInt8.toNat_inj]; omega
  · rintro rfl; exact h
theorem digs_suffix : ∀ (l : List UInt8) (n : Nat), ∃ t, t ++ (digs n l).2 = l
  | [], n => ⟨[], rfl⟩
  | c :: r, n => by
    unfold digs
    split
    · obtain ⟨t, ht⟩ := digs_suffix r (min (n * 10 + (c.toNat - 48)) 4294967296)
      exact ⟨c :: t, by rw [List.cons_append, ht]⟩
    · exact ⟨[], rfl⟩
theorem ann_head' {c : UInt8} {r : List UInt8} (h : c ≠ 123) : ann (c :: r) = none := by rw [ann, if_neg h]
section
variable {s : ByteArray} (hs : s.size ≤ 140737488351232)
include hs
theorem j3_ev (m : Nat) (j : Nat) (hj : j ≤ s.size) (p : Bool) (hp : p = true ↔ ∃ q, (bytesL s).drop j = 43 :: q) :
    Ev (fun k => lex_announcement.j3 k s m j p) (told s.size (annEnd m ((bytesL s).drop j))) := by
  cases hpv : p with
  | true =>
    obtain ⟨q, hq⟩ := hp.1 hpv
    rw [hq]
    have hlt : j < s.size := by
      rcases Nat.lt_or_ge j s.size with h | h
      · exact h
      · rw [drop_end s j h] at hq; cases hq
    have hd := drop_at s j hlt
    rw [hq] at hd
    have hq2 : q = (bytesL s).drop (j + 1) := by injection hd
    have e1 : wrap64 ((j : Int) + 1) = ((j + 1 : Nat) : Int) := by rw [w64 (by omega) (by omega)]; rfl
    have e2 : wrap64 (((j + 1 : Nat) : Int) + 1) = ((j + 2 : Nat) : Int) := by rw [w64 (by omega) (by omega)]; rfl
    rw [annEnd, if_neg (by decide), if_pos rfl, hq2]
    by_cases he : j + 1 = s.size
    · rw [drop_end s (j + 1) (by omega)]
      refine Ev.step (f := fun _ => some (0, false, 0)) (fun k => ?_) (Ev.now _)
      simp only [lex_announcement.j3]
      rw [if_pos trivial, e1, if_pos (by omega)]
    · have hl2 : j + 1 < s.size := by omega
      rw [drop_at s (j + 1) hl2]
      by_cases hc : s[j + 1] = 125
      · refine Ev.step (f := fun _ => some ((m : Int), true, ((j + 2 : Nat) : Int))) (fun k => ?_) ?_
        · simp only [lex_announcement.j3]
          rw [if_pos trivial, e1, if_neg (by omega), if_pos (by omega), if_pos (by omega), bt_nat s (j + 1) hl2, if_pos ((b_eq _ 125 125 rfl).2 hc), e2]
        · rw [annPlus, if_pos hc]
          simp only [told]
          rw [List.length_drop, bytesL_len, show s.size - (s.size - (j + 1 + 1)) = j + 2 by omega]
          exact Ev.now _
      · refine Ev.step (f := fun _ => some (0, false, 0)) (fun k => ?_) ?_
        · simp only [lex_announcement.j3]
          rw [if_pos trivial, e1, if_neg (by omega), if_pos (by omega), if_pos (by omega), bt_nat s (j + 1) hl2, if_neg (fun h => hc ((b_eq _ 125 125 rfl).1 h))]
        · rw [annPlus, if_neg hc]
          exact Ev.now _
  | false =>
    have hno : ∀ q, (bytesL s).drop j ≠ 43 :: q := fun q h => by have := hp.2 ⟨q, h⟩; rw [hpv] at this; cases this
    have e1 : wrap64 ((j : Int) + 1) = ((j + 1 : Nat) : Int) := by rw [w64 (by omega) (by omega)]; rfl
    by_cases he : j = s.size
    · rw [drop_end s j (by omega)]
      refine Ev.step (f := fun _ => some (0, false, 0)) (fun k => ?_) (Ev.now _)
      simp only [lex_announcement.j3]
      rw [if_neg (by decide), if_pos (by omega)]
    · have hlt : j < s.size := by omega
      have hd := drop_at s j hlt
      have h43 : s[j] ≠ 43 := fun h => hno _ (by rw [hd, h])
      rw [hd]
      by_cases hc : s[j] = 125
      · refine Ev.step (f := fun _ => some ((m : Int), false, ((j + 1 : Nat) : Int))) (fun k => ?_) ?_
        · simp only [lex_announcement.j3]
          rw [if_neg (by decide), if_neg (by omega), if_pos (by omega), if_pos (by omega), bt_nat s j hlt, if_pos ((b_eq _ 125 125 rfl).2 hc), e1]
        · rw [annEnd, if_pos hc]
          simp only [told]
          rw [List.length_drop, bytesL_len, show s.size - (s.size - (j + 1)) = j + 1 by omega]
          exact Ev.now _
      · refine Ev.step (f := fun _ => some (0, false, 0)) (fun k => ?_) ?_
        · simp only [lex_announcement.j3]
          rw [if_neg (by decide), if_neg (by omega), if_pos (by omega), if_pos (by omega), bt_nat s j hlt, if_neg (fun h => hc ((b_eq _ 125 125 rfl).1 h))]
        · rw [annEnd, if_neg hc, if_neg h43]
          exact Ev.now _
theorem j2_ev (m : Nat) (j : Nat) (hj : j ≤ s.size) (h1 : j ≠ 1) : Ev (fun k => lex_announcement.j2 k s m j) (told s.size (annEnd m ((bytesL s).drop j))) := by
  by_cases hlt : j < s.size
  · refine Ev.step (f := fun k => lex_announcement.j3 k s m j ((bt s j) == 43)) (fun k => ?_) (j3_ev hs m j hj _ ?_)
    · simp only [lex_announcement.j2]
      rw [if_neg (by omega), if_pos (by omega), if_pos (by omega)]
    · rw [bt_nat s j hlt, drop_at s j hlt, beq_iff_eq, b_eq _ 43 43 rfl]
      constructor
      · intro h; exact ⟨_, by rw [h]⟩
      · rintro ⟨q, h⟩; injection h
  · refine Ev.step (f := fun k => lex_announcement.j3 k s m j false) (fun k => ?_) (j3_ev hs m j hj _ ?_)
    · simp only [lex_announcement.j2]
      rw [if_neg (by omega), if_neg (by omega)]
    · rw [drop_end s j (by omega)]
      constructor
      · intro h; cases h
      · rintro ⟨q, h⟩; cases h
theorem l0_ev {r : Int × Bool × Int} : ∀ (d i n : Nat), s.size - i = d → i ≤ s.size → n ≤ 4294967296 → Ev (fun k => lex_announcement.j2 k s ((digs n ((bytesL s).drop i)).1 : Int) ((s.size - (digs n ((bytesL s).drop i)).2.length : Nat) : Int)) r → Ev (fun k => lex_announcement.l0 k s n i) r := by
  intro d
  induction d with
  | zero =>
    intro i n hd hi _ h
    rw [drop_end s i (by omega)] at h
    simp only [digs, List.length_nil, Nat.sub_zero] at h
    have : i = s.size := by omega
    subst this
    refine Ev.step (f := fun k => lex_announcement.j2 k s n s.size) (fun k => ?_) h
    simp only [lex_announcement.l0]
    rw [if_neg (by omega)]
  | succ d ih =>
    intro i n hd hi hn h
    have hlt : i < s.size := by omega
    rw [drop_at s i hlt] at h
    have e1 : wrap64 ((i : Int) + 1) = ((i + 1 : Nat) : Int) := by rw [w64 (by omega) (by omega)]; rfl
    have hcount := count_of s[i]
    refine Ev.step (f := fun k => (lex_grade.f k (s[i].toNat : Int)).bind fun t102 => if Go.bits .and .u8 t102 16 = 0 then lex_announcement.j2 k s n i else lex_announcement.l0 k s (mn (wrap64 ((wrap64 ((n : Int) * 10)) + (((s[i].toNat : Int) - 48) % 256))) 4294967296) ((i + 1 : Nat) : Int)) (fun k => ?_) (Ev.bind (grade_ev s[i]) ?_)
    · simp only [lex_announcement.l0]
      rw [if_pos (by omega), if_pos (by omega), bt_nat s i hlt, e1]
    · by_cases hc : Go.bits .and .u8 (gradeI (s[i].toNat : Int)) 16 = 0
      · have hg : dig s[i] = false := by rw [decide_eq_true hc] at hcount; simpa using hcount
        have hdg : digs n (s[i] :: (bytesL s).drop (i + 1)) = (n, s[i] :: (bytesL s).drop (i + 1)) := by rw [digs, if_neg (by rw [hg]; decide)]
        rw [hdg] at h
        simp only [List.length_cons, List.length_drop, bytesL_len] at h
        rw [show s.size - (s.size - (i + 1) + 1) = i by omega] at h
        exact Ev.congr (fun k => by rw [if_pos hc]) h
      · have hg : dig s[i] = true := by rw [decide_eq_false hc] at hcount; simpa using hcount
        have hr : 48 ≤ s[i].toNat ∧ s[i].toNat ≤ 57 := by simpa [dig] using hg
        have hdg : digs n (s[i] :: (bytesL s).drop (i + 1)) = digs (min (n * 10 + (s[i].toNat - 48)) 4294967296) ((bytesL s).drop (i + 1)) := by rw [digs, if_pos hg]
        have en : mn (wrap64 ((wrap64 ((n : Int) * 10)) + (((s[i].toNat : Int) - 48) % 256))) 4294967296 = ((min (n * 10 + (s[i].toNat - 48)) 4294967296 : Nat) : Int) := by
          rw [w64 (z := (n : Int) * 10) (by omega) (by omega), w64 (by omega) (by omega)]
          unfold mn
          split <;> omega
        rw [hdg] at h
        refine Ev.congr (fun k => by rw [if_neg hc, en]) (ih (i + 1) _ (by omega) (by omega) (Nat.min_le_right _ _) h)
theorem ann_ev : Ev (fun k => lex_announcement.f k s) (told s.size (ann (bytesL s))) := by
  by_cases h0 : s.size = 0
  · have e : bytesL s = [] := List.eq_nil_of_length_eq_zero (by rw [bytesL_len]; exact h0)
    rw [e]
    refine Ev.congr (f := fun k => lex_announcement.j0 k s true) (fun k => ?_) (Ev.step (f := fun _ => some (0, false, 0)) (fun k => ?_) (Ev.now _))
    · unfold lex_announcement.f; rw [if_pos ((toList_nil s).2 h0)]
    · simp only [lex_announcement.j0]; rw [if_pos trivial]
  · have hpos : 0 < s.size := by omega
    have ed : bytesL s = s[0] :: (bytesL s).drop 1 := by have := drop_at s 0 hpos; simpa using this
    refine Ev.congr (f := fun k => lex_announcement.j0 k s ((s[0].toNat : Int) != 123)) (fun k => ?_) ?_
    · unfold lex_announcement.f; rw [if_neg (fun h => h0 ((toList_nil s).1 h)), if_pos (by omega)]
      have := bt_nat s 0 hpos
      rw [Int.natCast_zero] at this
      rw [this]
    · by_cases hc : s[0] = 123
      · refine Ev.step (f := fun k => lex_announcement.l0 k s 0 1) (fun k => ?_) ?_
        · simp only [lex_announcement.j0]
          rw [if_neg]
          have : (s[0].toNat : Int) = 123 := (b_eq _ 123 123 rfl).2 hc
          rw [this]; decide
        · have hgo := l0_ev hs (r := told s.size (ann (bytesL s))) (s.size - 1) 1 0 rfl (by omega) (by omega)
          refine hgo ?_
          rw [ed, ann, if_pos hc, ← ed]
          cases hd : (bytesL s).drop 1 with
          | nil =>
            have h1 : s.size = 1 := by
              have := congrArg List.length hd
              rw [List.length_drop, bytesL_len] at this
              simp at this; omega
            simp only [digs, List.length_nil, annIn]
            rw [h1]
            refine Ev.step (f := fun _ => some (0, false, 0)) (fun k => ?_) (Ev.now _)
            simp only [lex_announcement.j2]
            rw [if_pos (by omega)]
          | cons a r =>
            have hlen : r.length = s.size - 2 ∧ 2 ≤ s.size := by
              have := congrArg List.length hd
              rw [List.length_drop, bytesL_len] at this
              simp at this; omega
            simp only [annIn]
            by_cases hg : dig a = true
            · rw [if_pos hg]
              have hdl : (digs 0 (a :: r)).2.length ≤ r.length := by rw [digs, if_pos hg]; exact digs_le r _
              have hsuf : (bytesL s).drop (s.size - (digs 0 (a :: r)).2.length) = (digs 0 (a :: r)).2 := by
                have hx := digs_suffix (a :: r) 0
                rw [← hd] at hx ⊢
                obtain ⟨t, ht⟩ := hx
                have hs2 : (bytesL s) = (bytesL s).take 1 ++ (t ++ (digs 0 ((bytesL s).drop 1)).2) := by rw [ht]; exact (List.take_append_drop 1 _).symm
                have hl := congrArg List.length hs2
                rw [bytesL_len] at hl
                generalize (digs 0 ((bytesL s).drop 1)).2 = z at *
                conv => lhs; rw [hs2]
                rw [← List.append_assoc]
                apply List.drop_left'
                rw [List.length_append, List.length_append] at hl
                rw [List.length_append]
                omega
              have := j2_ev hs (digs 0 (a :: r)).1 (s.size - (digs 0 (a :: r)).2.length) (by omega) (by omega)
              rw [hsuf] at this
              exact this
            · rw [if_neg hg]
              have hdg : digs 0 (a :: r) = (0, a :: r) := by rw [digs, if_neg hg]
              rw [hdg]
              simp only [List.length_cons]
              rw [show s.size - (r.length + 1) = 1 by omega]
              refine Ev.step (f := fun _ => some (0, false, 0)) (fun k => ?_) (Ev.now _)
              simp only [lex_announcement.j2]
              rw [if_pos (by omega)]
      · refine Ev.step (f := fun _ => some (0, false, 0)) (fun k => ?_) ?_
        · simp only [lex_announcement.j0]
          rw [if_pos]
          simp only [bne_iff_ne, ne_eq]
          exact fun h => hc ((b_eq _ 123 123 rfl).1 h)
        · rw [ed, ann_head' hc]
          exact Ev.now _
end
theorem ann_calls (s : ByteArray) (hs : s.size ≤ 140737488351232) (w : World) : Calls Tryd.prog 32 #[.string s] w fun e w' => e = .returned (.tuple #[.int .i64 (told s.size (ann (bytesL s))).1, .bool (told s.size (ann (bytesL s))).2.1, .int .i64 (told s.size (ann (bytesL s))).2.2]) ∧ Below w.heap.size w w' := by
  obtain ⟨k, hk⟩ := (ann_ev hs).rounds
  exact lex_announcement.calls k s _ _ _ w hk
end Go.Proofs.YtbgcapgjnflmoaaDoor.Sc

/- begin: what its cases share. -/
namespace Go.Proofs.YtbgcapgjnflmoaaDoor.Sc
open Go.RowKit Go.Proofs.YtbgcapgjnflmoaaDoorW.PrintWords Go.Proofs.YtbgcapgjnflmoaaDoorW.PrintMore Go.Proofs.YtbgcapgjnflmoaaDoor.PLx
variable {w0 w w1 : World} {p : Nat} {line : ByteArray} {pos count : Nat} {lits : List ByteArray} {vo : Value} {l : List FV}

/-- The scanner in memory is the machine s, at pos. -/
def Is (w0 w : World) (p : Nat) (line : ByteArray) (pos : Nat) (s : Ma) : Prop := ∃ vo l v, Op w0 w p line pos s.count s.lits vo (l ++ [(s.top, v)]) ∧ l.map (·.1) = s.below.reverse
theorem map_len {l : List FV} {b : List Fr} (h : l.map (·.1) = b.reverse) : l.length = b.length := by
  have := congrArg List.length h
  simpa using this
/-- What begin leaves. -/
def BPost (w0 : World) (p : Nat) (line : ByteArray) (R : Except Int (Ma × List UInt8)) (e : Ending) (w' : World) : Prop :=
  match R with
  | .error c => e = .returned (.int .i64 c) ∧ Below w0.heap.size w0 w'
  | .ok (s', q) => e = .returned (.int .i64 0) ∧ Is w0 w' p line (line.size - q.length) s'
theorem BPost.err {c : Int} {w' : World} (h : Below w0.heap.size w0 w') : BPost w0 p line (.error c) (.returned (.int .i64 c)) w' := ⟨rfl, h⟩
theorem BPost.fine {s : Ma} {q : List UInt8} {w' : World} {k : Nat} (h : Is w0 w' p line k s) (hk : line.size - q.length = k) : BPost w0 p line (.ok (s, q)) (.returned (.int .i64 0)) w' := ⟨rfl, by rw [hk]; exact h⟩
theorem extract_bytes (line : ByteArray) (i : Nat) : bytesL (line.extract i line.size) = (bytesL line).drop i := by
  unfold bytesL
  rw [ByteArray.data_extract, Array.toList_extract]
  have e : line.data.toList.length ≤ line.size := Nat.le_of_eq (by simp)
  rw [List.extract_eq_take_drop]
  apply List.take_of_length_le
  rw [List.length_drop]; omega
theorem ann_at (line : ByteArray) (hs : line.size ≤ 140737488351232) (i : Nat) (hi : i ≤ line.size) {cr : List UInt8} (hd : (bytesL line).drop i = cr) (w : World) : Calls Tryd.prog 32 #[.string (line.extract i line.size)] w fun e w' => e = .returned (.tuple #[.int .i64 (told (line.size - i) (ann cr)).1, .bool (told (line.size - i) (ann cr)).2.1, .int .i64 (told (line.size - i) (ann cr)).2.2]) ∧ Below w.heap.size w w' := by
  have hz : (line.extract i line.size).size = line.size - i := by rw [ByteArray.size_extract]; omega
  have := ann_calls (line.extract i line.size) (by rw [hz]; omega) w
  rw [extract_bytes, hd, hz] at this
  exact this
theorem Op.setCount' (h : Op w0 w p line pos count lits vo l) (z : Int) (k : Nat) (hz : z = (k : Int)) : Op w0 (w.setCell ⟨p, 3, none⟩ (.int .i64 z)) p line pos k lits vo l := by subst hz; exact h.setCount k
theorem Op.setPos' (h : Op w0 w p line pos count lits vo l) (z : Int) (k : Nat) (hz : z = (k : Int)) : Op w0 (w.setCell ⟨p, 2, none⟩ (.int .i64 z)) p line k count lits vo l := by subst hz; exact h.setPos k
theorem beq_no {a b : Int} (h : a ≠ b) : (a == b) = false := beq_eq_false_iff_ne.2 h
theorem beq_yes {a b : Int} (h : a = b) : (a == b) = true := beq_iff_eq.2 h
theorem bne_no {a b : Int} (h : a = b) : (a != b) = false := by rw [h]; exact bne_self_eq_false b
theorem bne_yes {a b : Int} (h : a ≠ b) : (a != b) = true := by simpa using h
theorem ci_ne {c d : UInt8} {ci : Int} (h : (c.toNat : Int) = ci) (n : Int) (hd : (d.toNat : Int) = n) (hc : c ≠ d) : ci ≠ n := fun e => hc (by rw [← UInt8.toNat_inj]; omega)
theorem ci_eq {c d : UInt8} {ci : Int} (h : (c.toNat : Int) = ci) (n : Int) (hd : (d.toNat : Int) = n) (hc : c = d) : ci = n := by rw [← h, hc]; exact hd
theorem qd_err {e : Int} : ∀ {l out : List UInt8} {x : Int}, qd e l out = .error x → x = e ∨ x = 31 := by
  intro l
  induction hn : l.length using Nat.strongRecOn generalizing l with
  | _ n ih =>
    intro out x h
    subst hn
    cases l with
    | nil => rw [qdnil] at h; cases h; exact .inl rfl
    | cons c r =>
      by_cases h34 : c = 34
      · subst h34; rw [qd34'] at h; cases h
      · cases hg : gquote c with
        | false => rw [qdbad h34 hg] at h; cases h; exact .inr rfl
        | true =>
          by_cases h92 : c = 92
          · subst h92
            cases r with
            | nil => rw [qd92e] at h; cases h; exact .inl rfl
            | cons d r' =>
              by_cases hd : d = 34 ∨ d = 92
              · rw [qd92 hd] at h
                exact ih r'.length (by simp only [List.length_cons]; omega) rfl h
              · rw [qd92n hd] at h; cases h; exact .inr rfl
          · rw [qdc h34 hg h92] at h
            exact ih r.length (by simp only [List.length_cons]; omega) rfl h
/-- The four bytes that a word may begin with are no bytes of an atom. -/
theorem gword_no {c : UInt8} (h : c = 34 ∨ c = 40 ∨ c = 91 ∨ c = 123) : gword c = false := by
  rcases h with rfl | rfl | rfl | rfl <;> decide
theorem over_ok {s : Ma} {g : Bool} {c : UInt8} {r : List UInt8} {R : Except Int (Ma × List UInt8)} (hs : starts c r = true) (ho : ¬ s.count + 1 ≤ 512) (h : begin_ s g c r = R) : R = .error 34 := by
  rw [← h, begin_, if_neg (by rw [hs]; decide), if_neg ho]
theorem in_ok {s : Ma} {g : Bool} {c : UInt8} {r : List UInt8} {R : Except Int (Ma × List UInt8)} (hs : starts c r = true) (ho : s.count + 1 ≤ 512) (h : begin_ s g c r = R) : R = enter ⟨s.count + 1, s.lits, s.top, s.below⟩ g c r := by
  rw [← h, begin_, if_neg (by rw [hs]; decide), if_pos ho]
end Go.Proofs.YtbgcapgjnflmoaaDoor.Sc

/- begin: no word begins here. -/
namespace Go.Proofs.YtbgcapgjnflmoaaDoor.Sc
open Go.RowKit Go.Proofs.YtbgcapgjnflmoaaDoorW.PrintWords Go.Proofs.YtbgcapgjnflmoaaDoorW.PrintMore Go.Proofs.YtbgcapgjnflmoaaDoor.PLx
variable {w0 w w1 : World} {p : Nat} {line : ByteArray} {pos count : Nat} {lits : List ByteArray} {vo : Value} {l : List FV}

set_option maxRecDepth 100000 in
set_option maxHeartbeats 4000000 in
theorem begin_no {s : Ma} (h : Is w0 w p line pos s) (hpos : pos < line.size) (hline : line.size ≤ 4096) {c : UInt8} {r : List UInt8} (hcr : (bytesL line).drop pos = c :: r) (glued : Bool)
    (hct : s.count ≤ 100000) (hbl : s.below.length ≤ 12) (htk : s.top.kids.length ≤ 100000) (hst : starts c r = false) :
    Calls Tryd.prog 42 #[.pointer (some ⟨p, 0, none⟩), .bool glued] w (BPost w0 p line (begin_ s glued c r)) := by
  obtain ⟨R, hR⟩ : ∃ R, begin_ s glued c r = R := ⟨_, rfl⟩
  rw [hR]
  obtain ⟨vo, l, v, hop, hmap⟩ := h
  obtain ⟨A, cA, hcA, hlit, c0, c1, c2, c3, c5, c4, cz⟩ := hop.cells
  have hd := drop_at line pos hpos
  rw [hcr] at hd
  have hb : line[pos] = c := by injection hd with h1 h2; exact h1.symm
  obtain ⟨ci, hci⟩ : ∃ ci : Int, (c.toNat : Int) = ci := ⟨_, rfl⟩
  have hix : ∀ h : pos < line.size, ((line[pos]'h).toNat : Int) = ci := fun h => by rw [hb]; exact hci
  have hi0 : (0 : Int) ≤ ci := by omega
  have hi1 : ci < 256 := by have := c.toNat_lt; omega
  have hp0 : (pos : Int) < (line.size : Int) := by omega
  have hp1 : (pos : Int) ≤ (line.size : Int) := by omega
  have hp2 : (pos : Int) ≤ 4096 := by omega
  have hc9 : (s.count : Int) ≤ 100000 := by omega
  obtain ⟨gq, hgq⟩ : ∃ gq, Go.bits .and .u8 (gradeI ci) 1 = gq := ⟨_, rfl⟩
  have hword := word_of c
  rw [hci, hgq] at hword
  have HWORD : Hid _ := hword
  have HCI : Hid _ := hci
  have HOP : Hid _ := hop
  have HMAP : Hid _ := hmap
  have HR : Hid _ := hR
  have HL : Hid _ := hline
  have HP : Hid _ := hpos
  have HCT : Hid _ := hct
  have HBL : Hid _ := hbl
  have HTK : Hid _ := htk
  have HCR : Hid _ := hcr
  obtain ⟨a1, a2, a3, hT⟩ : ∃ a1 a2 a3, told (line.size - pos) (ann (c :: r)) = (a1, a2, a3) := ⟨_, _, _, rfl⟩
  have hann := fun W => ann_at line (by omega) pos (by omega) hcr W
  rw [hT] at hann
  have HANN : Hid _ := hann
  have HT : Hid _ := hT
  have hsp := hst
  unfold starts at hsp
  simp only [Bool.or_eq_false_iff] at hsp
  obtain ⟨⟨⟨⟨s1, s2⟩, s3⟩, s4⟩, s5⟩ := hsp
  have f1 : (gq == 0) = true := by rw [s1] at hword; exact beq_yes (of_decide_eq_true hword)
  have f2 : (ci != 34) = true := bne_yes (ci_ne (d := 34) hci 34 rfl (by simpa using s2))
  have f3 : (ci != 40) = true := bne_yes (ci_ne (d := 40) hci 40 rfl (by simpa using s3))
  have f4 : (ci != 91) = true := bne_yes (ci_ne (d := 91) hci 91 rfl (by simpa using s4))
  have f5 : (a3 == 0) = true := by
    cases ha : ann (c :: r) with
    | some x => rw [ha] at s5; cases s5
    | none => rw [ha] at hT; simp only [told, Prod.mk.injEq] at hT; exact beq_yes hT.2.2.symm
  have HST : Hid _ := hst
  clear hst s1 s2 s3 s4 s5
  clear hop hmap hR hline hpos c4 hcr hd hb hct hann hbl htk hword hci c3 c5 cz
  try clear hT
  go_enter Tryd.func42, Tryd.ntmps42
  go_wp2
  go_quiet (fail)
  obtain ⟨n1, rfl⟩ : ∃ n1, n1 = nq := ⟨_, rfl⟩
  have key : ∀ n, Op w0 (w.drewN n) p line pos s.count s.lits vo (l ++ [(s.top, v)]) := fun n => HOP.out.drewN n
  go_wp2
  go_region_held3 (fun W => W.cell? ⟨p, 0, none⟩ = some (.string line) ∧ W.cell? ⟨p, 2, none⟩ = some (.int .i64 pos))
    (first | exact ⟨c0, c2⟩ | exact ⟨g0, g2⟩)
    (first | (go_at_call 32; refine (HANN.out _).mono ?_; rintro e w2 ⟨rfl, hb2⟩; have HO2 : Hid _ := (key _).below hb2; obtain ⟨_, _, _, _, g0, g1, g2, g3, g5, g4, gz⟩ := HO2.out.cells; clear g1 g3 g5 g4 gz))
  clear c0 c1 c2 hcA hlit hix hp0 hp1
  obtain ⟨A2, cA2, hcA2, hlit2, _, d1, _, d3, d5, d4, dz⟩ := HO2.out.cells
  have hgd : w2.cell? ⟨p, 4 + ci.toNat, none⟩ = some (.int .u8 (gradeI ci)) := by
    have := d4 c.toNat c.toNat_lt
    rw [← HCI.out, Int.toNat_natCast]; exact this
  have hlit2' : Hid _ := hlit2
  have dz3 := dz 3
  clear d4 key dz hlit2
  go_wp2
  go_ret
  rw [← HR.out, begin_, if_pos HST.out]
  exact BPost.err HO2.out.bel
end Go.Proofs.YtbgcapgjnflmoaaDoor.Sc
