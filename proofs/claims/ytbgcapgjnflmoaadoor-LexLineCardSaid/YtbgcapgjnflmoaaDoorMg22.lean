/- Contracts of the functions that the statement reaches, and plain lemmas: ScAnr, ScAnd, ScQte. -/
import Derived.Test.YtbgcapgjnflmoaaDoorMg6
import Derived.Test.YtbgcapgjnflmoaaDoorMg15
import Derived.Test.YtbgcapgjnflmoaaDoorMg12
set_option linter.unusedVariables false
set_option linter.unusedSimpArgs false
set_option linter.unnecessarySimpa false
/- Announcements, as the document reads them. -/
namespace Go.Proofs.YtbgcapgjnflmoaaDoor.Sc
open Go.RowKit Go.Proofs.YtbgcapgjnflmoaaDoorW.PrintWords Go.Proofs.YtbgcapgjnflmoaaDoorW.PrintMore Go.Proofs.YtbgcapgjnflmoaaDoorW.PrintLast Go.Proofs.YtbgcapgjnflmoaaDoor.PLx
/-- What an announcement's answer is, as the document tells it; of a text that has size bytes in all. -/
def toldR (size : Nat) : Option (Nat × Bool × List UInt8) → Int × Bool × Int × Bool
  | none => (0, false, 0, false)
  | some (n, p, q) => (n, p, ((size - q.length : Nat) : Int), true)
theorem digit_f (b : UInt8) : postbagref3_digit.f (b.toNat : Int) = some (dig b) := by
  unfold postbagref3_digit.f dig
  by_cases h : (48 : Nat) ≤ b.toNat
  · rw [if_pos (by omega)]
    congr 1
    by_cases h2 : b.toNat ≤ 57
    · rw [decide_eq_true (by omega), decide_eq_true ⟨h, h2⟩]
    · rw [decide_eq_false (by omega), decide_eq_false (by omega)]
  · rw [if_neg (by omega), decide_eq_false (by omega)]
section
variable {s : ByteArray} (hs : s.size ≤ 140737488351232)
include hs
theorem r3_ev (m : Nat) (j : Nat) (hj : j ≤ s.size) (p : Bool) (hp : p = true ↔ ∃ q, (bytesL s).drop j = 43 :: q) :
    Ev (fun k => postbagref3_announcement.j3 k s j m p) (toldR s.size (annEnd m ((bytesL s).drop j))) := by
  cases hpv : p with
  | true =>
    obtain ⟨q, hq⟩ := hp.1 hpv
    rw [hq]
    have hlt : j < s.size := by
      rcases Nat.lt_or_ge j s.size with h | h
      · exact h
      · rw [drop_end s j h] at hq; cases hq
    have hd := drop_at s j hlt
    rw [hq] at hd
    have hq2 : q = (bytesL s).drop (j + 1) := by injection hd
    have e1 : wrap64 ((j : Int) + 1) = ((j + 1 : Nat) : Int) := by rw [w64 (by omega) (by omega)]; rfl
    have e2 : wrap64 (((j + 1 : Nat) : Int) + 1) = ((j + 2 : Nat) : Int) := by rw [w64 (by omega) (by omega)]; rfl
    rw [annEnd, if_neg (by decide), if_pos rfl, hq2]
    by_cases he : j + 1 = s.size
    · rw [drop_end s (j + 1) (by omega)]
      refine Ev.step (f := fun _ => some (0, false, 0, false)) (fun k => ?_) (Ev.now _)
      simp only [postbagref3_announcement.j3]
      rw [if_pos trivial, e1, if_pos (by omega)]
    · have hl2 : j + 1 < s.size := by omega
      rw [drop_at s (j + 1) hl2]
      by_cases hc : s[j + 1] = 125
      · refine Ev.step (f := fun _ => some ((m : Int), true, ((j + 2 : Nat) : Int), true)) (fun k => ?_) ?_
        · simp only [postbagref3_announcement.j3]
          rw [if_pos trivial, e1, if_neg (by omega), if_pos (by omega), if_pos (by omega), bt_nat s (j + 1) hl2, if_pos ((b_eq _ 125 125 rfl).2 hc), e2]
        · rw [annPlus, if_pos hc]
          simp only [toldR]
          rw [List.length_drop, bytesL_len, show s.size - (s.size - (j + 1 + 1)) = j + 2 by omega]
          exact Ev.now _
      · refine Ev.step (f := fun _ => some (0, false, 0, false)) (fun k => ?_) ?_
        · simp only [postbagref3_announcement.j3]
          rw [if_pos trivial, e1, if_neg (by omega), if_pos (by omega), if_pos (by omega), bt_nat s (j + 1) hl2, if_neg (fun h => hc ((b_eq _ 125 125 rfl).1 h))]
        · rw [annPlus, if_neg hc]
          exact Ev.now _
  | false =>
    have hno : ∀ q, (bytesL s).drop j ≠ 43 :: q := fun q h => by have := hp.2 ⟨q, h⟩; rw [hpv] at this; cases this
    have e1 : wrap64 ((j : Int) + 1) = ((j + 1 : Nat) : Int) := by rw [w64 (by omega) (by omega)]; rfl
    by_cases he : j = s.size
    · rw [drop_end s j (by omega)]
      refine Ev.step (f := fun _ => some (0, false, 0, false)) (fun k => ?_) (Ev.now _)
      simp only [postbagref3_announcement.j3]
      rw [if_neg (by decide), if_pos (by omega)]
    · have hlt : j < s.size := by omega
      have hd := drop_at s j hlt
      have h43 : s[j] ≠ 43 := fun h => hno _ (by rw [hd, h])
      rw [hd]
      by_cases hc : s[j] = 125
      · refine Ev.step (f := fun _ => some ((m : Int), false, ((j + 1 : Nat) : Int), true)) (fun k => ?_) ?_
        · simp only [postbagref3_announcement.j3]
          rw [if_neg (by decide), if_neg (by omega), if_pos (by omega), if_pos (by omega), bt_nat s j hlt, if_pos ((b_eq _ 125 125 rfl).2 hc), e1]
        · rw [annEnd, if_pos hc]
          simp only [toldR]
          rw [List.length_drop, bytesL_len, show s.size - (s.size - (j + 1)) = j + 1 by omega]
          exact Ev.now _
      · refine Ev.step (f := fun _ => some (0, false, 0, false)) (fun k => ?_) ?_
        · simp only [postbagref3_announcement.j3]
          rw [if_neg (by decide), if_neg (by omega), if_pos (by omega), if_pos (by omega), bt_nat s j hlt, if_neg (fun h => hc ((b_eq _ 125 125 rfl).1 h))]
        · rw [annEnd, if_neg hc, if_neg h43]
          exact Ev.now _
theorem r2_ev (a m : Nat) (j : Nat) (hj : j ≤ s.size) (ha : a + 1 ≤ s.size) (h1 : j ≠ a + 1) : Ev (fun k => postbagref3_announcement.j2 k s a j m) (toldR s.size (annEnd m ((bytesL s).drop j))) := by
  have ea : wrap64 ((a : Int) + 1) = ((a + 1 : Nat) : Int) := by rw [w64 (by omega) (by omega)]; rfl
  by_cases hlt : j < s.size
  · refine Ev.step (f := fun k => postbagref3_announcement.j3 k s j m ((bt s j) == 43)) (fun k => ?_) (r3_ev hs m j hj _ ?_)
    · simp only [postbagref3_announcement.j2]
      rw [ea, if_neg (by omega), if_pos (by omega), if_pos (by omega)]
    · rw [bt_nat s j hlt, drop_at s j hlt, beq_iff_eq, b_eq _ 43 43 rfl]
      constructor
      · intro h; exact ⟨_, by rw [h]⟩
      · rintro ⟨q, h⟩; injection h
  · refine Ev.step (f := fun k => postbagref3_announcement.j3 k s j m false) (fun k => ?_) (r3_ev hs m j hj _ ?_)
    · simp only [postbagref3_announcement.j2]
      rw [ea, if_neg (by omega), if_neg (by omega)]
    · rw [drop_end s j (by omega)]
      constructor
      · intro h; cases h
      · rintro ⟨q, h⟩; cases h
theorem rl_ev {r : Int × Bool × Int × Bool} (a : Nat) : ∀ (d i n : Nat), s.size - i = d → i ≤ s.size → n ≤ 4294967296 → Ev (fun k => postbagref3_announcement.j2 k s a ((s.size - (digs n ((bytesL s).drop i)).2.length : Nat) : Int) ((digs n ((bytesL s).drop i)).1 : Int)) r → Ev (fun k => postbagref3_announcement.l0 k s a i n) r := by
  intro d
  induction d with
  | zero =>
    intro i n hd hi _ h
    rw [drop_end s i (by omega)] at h
    simp only [digs, List.length_nil, Nat.sub_zero] at h
    have : i = s.size := by omega
    subst this
    refine Ev.step (f := fun k => postbagref3_announcement.j2 k s a s.size n) (fun k => ?_) h
    simp only [postbagref3_announcement.l0]
    rw [if_neg (by omega)]
  | succ d ih =>
    intro i n hd hi hn h
    have hlt : i < s.size := by omega
    rw [drop_at s i hlt] at h
    have e1 : wrap64 ((i : Int) + 1) = ((i + 1 : Nat) : Int) := by rw [w64 (by omega) (by omega)]; rfl
    refine Ev.step (f := fun k => (some (dig s[i])).bind fun t108 => if t108 = true then postbagref3_announcement.l0 k s a ((i + 1 : Nat) : Int) (mn (wrap64 ((wrap64 ((n : Int) * 10)) + (((s[i].toNat : Int) - 48) % 256))) 4294967296) else postbagref3_announcement.j2 k s a i n) (fun k => ?_) ?_
    · simp only [postbagref3_announcement.l0]
      rw [if_pos (by omega), if_pos (by omega), bt_nat s i hlt, e1, digit_f]
    · simp only [Option.bind_some]
      cases hg : dig s[i] with
      | false =>
        have hdg : digs n (s[i] :: (bytesL s).drop (i + 1)) = (n, s[i] :: (bytesL s).drop (i + 1)) := by rw [digs, if_neg (by rw [hg]; decide)]
        rw [hdg] at h
        simp only [List.length_cons, List.length_drop, bytesL_len] at h
        rw [show s.size - (s.size - (i + 1) + 1) = i by omega] at h
        exact Ev.congr (fun k => by rw [if_neg (by decide)]) h
      | true =>
        have hr : 48 ≤ s[i].toNat ∧ s[i].toNat ≤ 57 := by simpa [dig] using hg
        have hdg : digs n (s[i] :: (bytesL s).drop (i + 1)) = digs (min (n * 10 + (s[i].toNat - 48)) 4294967296) ((bytesL s).drop (i + 1)) := by rw [digs, if_pos hg]
        have en : mn (wrap64 ((wrap64 ((n : Int) * 10)) + (((s[i].toNat : Int) - 48) % 256))) 4294967296 = ((min (n * 10 + (s[i].toNat - 48)) 4294967296 : Nat) : Int) := by
          rw [w64 (z := (n : Int) * 10) (by omega) (by omega), w64 (by omega) (by omega)]
          unfold mn
          split <;> omega
        rw [hdg] at h
        refine Ev.congr (fun k => by rw [if_pos rfl, en]) (ih (i + 1) _ (by omega) (by omega) (Nat.min_le_right _ _) h)
theorem anr_ev (i : Nat) (hi : i < s.size) : Ev (fun k => postbagref3_announcement.f k s i) (toldR s.size (ann ((bytesL s).drop i))) := by
  have ed := drop_at s i hi
  have e1 : wrap64 ((i : Int) + 1) = ((i + 1 : Nat) : Int) := by rw [w64 (by omega) (by omega)]; rfl
  refine Ev.congr (f := fun k => postbagref3_announcement.j0 k s i ((s[i].toNat : Int) != 123)) (fun k => ?_) ?_
  · unfold postbagref3_announcement.f; rw [if_neg (by omega), if_pos (by omega), if_pos (by omega), bt_nat s i hi]
  · by_cases hc : s[i] = 123
    · refine Ev.step (f := fun k => postbagref3_announcement.l0 k s i ((i + 1 : Nat) : Int) 0) (fun k => ?_) ?_
      · simp only [postbagref3_announcement.j0]
        rw [if_neg, e1]
        have : (s[i].toNat : Int) = 123 := (b_eq _ 123 123 rfl).2 hc
        rw [this]; decide
      · have hgo := rl_ev hs (r := toldR s.size (ann ((bytesL s).drop i))) i (s.size - (i + 1)) (i + 1) 0 rfl (by omega) (by omega)
        refine hgo ?_
        rw [ed, ann, if_pos hc]
        cases hd : (bytesL s).drop (i + 1) with
        | nil =>
          have h1 : s.size = i + 1 := by
            have := congrArg List.length hd
            rw [List.length_drop, bytesL_len] at this
            simp at this; omega
          simp only [digs, List.length_nil, annIn]
          refine Ev.step (f := fun _ => some (0, false, 0, false)) (fun k => ?_) (Ev.now _)
          simp only [postbagref3_announcement.j2]
          rw [e1, if_pos (by omega)]
        | cons b r =>
          have hlen : r.length = s.size - (i + 2) ∧ i + 2 ≤ s.size := by
            have := congrArg List.length hd
            rw [List.length_drop, bytesL_len] at this
            simp at this; omega
          simp only [annIn]
          by_cases hg : dig b = true
          · rw [if_pos hg]
            have hdl : (digs 0 (b :: r)).2.length ≤ r.length := by rw [digs, if_pos hg]; exact digs_le r _
            have hsuf : (bytesL s).drop (s.size - (digs 0 (b :: r)).2.length) = (digs 0 (b :: r)).2 := by
              obtain ⟨t, ht⟩ := digs_suffix (b :: r) 0
              have hs2 : (bytesL s) = (bytesL s).take (i + 1) ++ (t ++ (digs 0 (b :: r)).2) := by rw [ht, ← hd]; exact (List.take_append_drop (i + 1) _).symm
              have hl := congrArg List.length hs2
              rw [bytesL_len] at hl
              generalize (digs 0 (b :: r)).2 = z at *
              conv => lhs; rw [hs2]
              rw [← List.append_assoc]
              apply List.drop_left'
              rw [List.length_append, List.length_append] at hl
              rw [List.length_append]
              omega
            have := r2_ev hs i (digs 0 (b :: r)).1 (s.size - (digs 0 (b :: r)).2.length) (by omega) (by omega) (by omega)
            rw [hsuf] at this
            exact this
          · rw [if_neg hg]
            have hdg : digs 0 (b :: r) = (0, b :: r) := by rw [digs, if_neg hg]
            rw [hdg]
            simp only [List.length_cons]
            rw [show s.size - (r.length + 1) = i + 1 by omega]
            refine Ev.step (f := fun _ => some (0, false, 0, false)) (fun k => ?_) (Ev.now _)
            simp only [postbagref3_announcement.j2]
            rw [e1, if_pos (by omega)]
    · refine Ev.step (f := fun _ => some (0, false, 0, false)) (fun k => ?_) ?_
      · simp only [postbagref3_announcement.j0]
        rw [if_pos]
        simp only [bne_iff_ne, ne_eq]
        exact fun h => hc ((b_eq _ 123 123 rfl).1 h)
      · rw [ed, ann_head' hc]
        exact Ev.now _
end
end Go.Proofs.YtbgcapgjnflmoaaDoor.Sc

/- Announced: the program and the document tell the same. -/
namespace Go.Proofs.YtbgcapgjnflmoaaDoor.Sc
open Go.RowKit Go.Proofs.YtbgcapgjnflmoaaDoorW.PrintWords Go.Proofs.YtbgcapgjnflmoaaDoorW.PrintMore Go.Proofs.YtbgcapgjnflmoaaDoorW.PrintLast Go.Proofs.YtbgcapgjnflmoaaDoor.PLx
/-- What a line announces at its end; whether a quoted word is open. -/
def annc : Nat → Bool → List UInt8 → Int × Bool × Bool
  | 0, _, _ => (0, false, false)
  | _ + 1, _, [] => (0, false, false)
  | n + 1, true, c :: r => if c = 92 then annc n true (r.drop 1) else annc n (c != 34) r
  | n + 1, false, c :: r => match ann (c :: r) with
    | some (m, p, []) => (m, p, true)
    | _ => annc n (c == 34) r
def NoEnd (l : List UInt8) : Prop := ∀ t, l ≠ t ++ [125]
theorem NoEnd.tail {c : UInt8} {r : List UInt8} (h : NoEnd (c :: r)) : NoEnd r := fun t e => h (c :: t) (by rw [e]; rfl)
theorem NoEnd.drop {l : List UInt8} (h : NoEnd l) : NoEnd (l.drop 1) := by
  cases l with
  | nil => exact h
  | cons c r => exact h.tail
theorem annPlus_end {n m : Nat} {p : Bool} {l q : List UInt8} (h : annPlus n l = some (m, p, q)) : l = 125 :: q := by
  cases l with
  | nil => cases h
  | cons d r =>
    simp only [annPlus] at h
    split at h
    · rename_i e; cases h; rw [e]
    · cases h
theorem annEnd_end {n m : Nat} {p : Bool} {l q : List UInt8} (h : annEnd n l = some (m, p, q)) : ∃ t, l = t ++ 125 :: q := by
  cases l with
  | nil => cases h
  | cons c r =>
    simp only [annEnd] at h
    split at h
    · rename_i e; cases h; exact ⟨[], by rw [e]; rfl⟩
    · split at h
      · exact ⟨[c], by rw [annPlus_end h]; rfl⟩
      · cases h
theorem ann_end {m : Nat} {p : Bool} {l q : List UInt8} (h : ann l = some (m, p, q)) : ∃ t, l = t ++ 125 :: q := by
  cases l with
  | nil => cases h
  | cons c r =>
    simp only [ann] at h
    split at h
    · cases r with
      | nil => cases h
      | cons d r' =>
        simp only [annIn] at h
        split at h
        · obtain ⟨t, ht⟩ := annEnd_end h
          obtain ⟨t', ht'⟩ := digs_suffix (d :: r') 0
          exact ⟨c :: (t' ++ t), by rw [← ht', ht]; simp⟩
        · cases h
    · cases h
theorem annc_no : ∀ (n : Nat) (q : Bool) (l : List UInt8), NoEnd l → annc n q l = (0, false, false)
  | 0, _, _, _ => rfl
  | n + 1, _, [], _ => by unfold annc; rfl
  | n + 1, true, c :: r, h => by
    unfold annc
    split
    · exact annc_no n _ _ h.tail.drop
    · exact annc_no n _ _ h.tail
  | n + 1, false, c :: r, h => by
    unfold annc
    split
    · rename_i m p ha
      obtain ⟨t, ht⟩ := ann_end ha
      exact absurd ht (h t)
    · exact annc_no n _ _ h.tail
theorem annc_line (n : Nat) (c : UInt8) (r : List UInt8) : annc (n + 1) true (c :: r) = if c = 92 then annc n true (r.drop 1) else annc n (c != 34) r := by rw [annc]
section
variable {s : ByteArray} (hs : s.size ≤ 140737488351232)
include hs
theorem ref_l0 : ∀ (n : Nat) (q : Bool) (i : Nat), s.size - i < n → i ≤ s.size + 1 → Ev (fun k => postbagref3_Announced.l0 k s q i) (annc n q ((bytesL s).drop i)) := by
  intro n
  induction n with
  | zero => intro q i h; omega
  | succ n ih =>
    intro q i hn hi
    by_cases hlt : i < s.size
    · have e1 : wrap64 ((i : Int) + 1) = ((i + 1 : Nat) : Int) := by rw [w64 (by omega) (by omega)]; rfl
      have e2 : wrap64 (((i + 1 : Nat) : Int) + 1) = ((i + 2 : Nat) : Int) := by rw [w64 (by omega) (by omega)]; rfl
      rw [drop_at s i hlt]
      cases q with
      | true =>
        rw [annc_line]
        by_cases hc : s[i] = 92
        · rw [if_pos hc, List.drop_drop]
          refine Ev.step (f := fun k => postbagref3_Announced.l0 k s true ((i + 2 : Nat) : Int)) (fun k => ?_) (ih true (i + 2) (by omega) (by omega))
          simp only [postbagref3_Announced.l0]
          rw [if_pos (by omega), if_pos (by omega), if_pos trivial, bt_nat s i hlt, if_pos ((b_eq _ 92 92 rfl).2 hc), e1, e2]
        · rw [if_neg hc]
          refine Ev.step (f := fun k => postbagref3_Announced.l0 k s (s[i] != 34) ((i + 1 : Nat) : Int)) (fun k => ?_) (ih _ (i + 1) (by omega) (by omega))
          simp only [postbagref3_Announced.l0]
          rw [if_pos (by omega), if_pos (by omega), if_pos trivial, bt_nat s i hlt, if_neg (fun h => hc ((b_eq _ 92 92 rfl).1 h)), e1]
          congr 1
          rw [Bool.eq_iff_iff]
          simp only [bne_iff_ne, ne_eq, b_eq _ 34 34 rfl]
      | false =>
        have hb : ((s[i].toNat : Int) == 34) = (s[i] == 34) := by rw [Bool.eq_iff_iff]; simp only [beq_iff_eq, b_eq _ 34 34 rfl]
        refine Ev.step (f := fun k => (postbagref3_announcement.f k s i).bind fun bt109 => if bt109.2.2.2 = true then postbagref3_Announced.j1 k s i (s[i].toNat : Int) bt109.1 bt109.2.1 (bt109.2.2.1 == (s.size : Int)) else postbagref3_Announced.j1 k s i (s[i].toNat : Int) bt109.1 bt109.2.1 false) (fun k => ?_) (Ev.bind (anr_ev hs i hlt) ?_)
        · simp only [postbagref3_Announced.l0]
          rw [if_pos (by omega), if_pos (by omega), if_neg (by decide), bt_nat s i hlt]
        · have hnext : ∀ (a : Int) (b : Bool) (f : Bool), f = false → Ev (fun k => postbagref3_Announced.j1 k s i (s[i].toNat : Int) a b f) (annc n (s[i] == 34) ((bytesL s).drop (i + 1))) := fun a b f hf => by
            refine Ev.step (f := fun k => postbagref3_Announced.l0 k s (s[i] == 34) ((i + 1 : Nat) : Int)) (fun k => ?_) (ih _ (i + 1) (by omega) (by omega))
            simp only [postbagref3_Announced.j1]
            rw [hf, if_neg (by decide), hb, e1]
          rw [drop_at s i hlt]
          rw [annc]
          cases ha : ann (s[i] :: (bytesL s).drop (i + 1)) with
          | none =>
            rw [show toldR s.size none = (0, false, 0, false) from rfl]
            exact Ev.congr (fun k => if_neg (by decide)) (hnext 0 false false rfl)
          | some v =>
            obtain ⟨m, p, q⟩ := v
            have hql := ann_lt ha
            simp only [List.length_cons, List.length_drop, bytesL_len] at hql
            rw [show toldR s.size (some (m, p, q)) = ((m : Int), p, ((s.size - q.length : Nat) : Int), true) from rfl]
            cases q with
            | nil =>
              refine Ev.congr (f := fun k => postbagref3_Announced.j1 k s i (s[i].toNat : Int) m p true) (fun k => (if_pos rfl).trans (by rw [show (((m : Int), p, ((s.size - ([] : List UInt8).length : Nat) : Int), true) : Int × Bool × Int × Bool).2.2.1 = (s.size : Int) from rfl, beq_self_eq_true])) (Ev.step (f := fun _ => some ((m : Int), p, true)) (fun k => ?_) (Ev.now _))
              simp only [postbagref3_Announced.j1]
              rw [if_pos trivial]
            | cons x xs =>
              simp only [List.length_cons] at hql
              refine Ev.congr (fun k => if_pos rfl) (hnext m p _ ?_)
              rw [beq_eq_false_iff_ne]
              simp only [List.length_cons]
              omega
    · rw [drop_end s i (by omega)]
      refine Ev.step (f := fun _ => some (0, false, false)) (fun k => ?_) ?_
      · simp only [postbagref3_Announced.l0]
        rw [if_neg (by omega)]
      · rw [annc]; exact Ev.now _
theorem ref_ev : Ev (fun k => postbagref3_Announced.f k s) (annc (s.size + 1) false (bytesL s)) := by
  have := ref_l0 hs (s.size + 1) false 0 (by omega) (by omega)
  rw [List.drop_zero] at this
  exact this
theorem lex_l0 : ∀ (n : Nat) (q : Bool) (i : Nat), s.size - i < n → i ≤ s.size + 1 → Ev (fun k => lex_Announced.l0 k s q i) (annc n q ((bytesL s).drop i)) := by
  intro n
  induction n with
  | zero => intro q i h; omega
  | succ n ih =>
    intro q i hn hi
    by_cases hlt : i < s.size
    · have e1 : wrap64 ((i : Int) + 1) = ((i + 1 : Nat) : Int) := by rw [w64 (by omega) (by omega)]; rfl
      have e2 : wrap64 (((i + 1 : Nat) : Int) + 1) = ((i + 2 : Nat) : Int) := by rw [w64 (by omega) (by omega)]; rfl
      have e3 : wrap64 ((s.size : Int) - (i : Int)) = ((s.size - i : Nat) : Int) := by rw [w64 (by omega) (by omega)]; omega
      have h34 : ∀ q', Ev (fun k => lex_Announced.l0 k s q' ((i + 1 : Nat) : Int)) (annc n q' ((bytesL s).drop (i + 1))) := fun q' => ih q' (i + 1) (by omega) (by omega)
      rw [drop_at s i hlt]
      cases q with
      | true =>
        rw [annc_line]
        refine Ev.step (f := fun k => lex_Announced.j1 k s true i (s[i].toNat : Int) ((s[i].toNat : Int) == 92)) (fun k => ?_) ?_
        · simp only [lex_Announced.l0]
          rw [if_pos (by omega), if_pos (by omega), if_pos trivial, bt_nat s i hlt]
        · by_cases hc : s[i] = 92
          · rw [if_pos hc, List.drop_drop]
            refine Ev.step (f := fun k => lex_Announced.l0 k s true ((i + 2 : Nat) : Int)) (fun k => ?_) (ih true (i + 2) (by omega) (by omega))
            simp only [lex_Announced.j1]
            rw [if_pos (beq_iff_eq.2 ((b_eq _ 92 92 rfl).2 hc)), e1, e2]
          · rw [if_neg hc]
            have hc' : ¬ (((s[i].toNat : Int) == 92) = true) := fun h => hc ((b_eq _ 92 92 rfl).1 (beq_iff_eq.1 h))
            by_cases h4 : s[i] = 34
            · rw [show (s[i] != 34) = false by rw [h4]; rfl]
              refine Ev.step (f := fun k => lex_Announced.l0 k s false ((i + 1 : Nat) : Int)) (fun k => ?_) (h34 false)
              simp only [lex_Announced.j1]
              rw [if_neg hc', if_pos ((b_eq _ 34 34 rfl).2 h4), e1]; rfl
            · rw [show (s[i] != 34) = true by simpa using h4]
              refine Ev.step (f := fun k => lex_Announced.j2 k s true i false) (fun k => ?_) (Ev.step (f := fun k => lex_Announced.l0 k s true ((i + 1 : Nat) : Int)) (fun k => ?_) (h34 true))
              · simp only [lex_Announced.j1]
                rw [if_neg hc', if_neg (fun h => h4 ((b_eq _ 34 34 rfl).1 h)), if_pos trivial]
              · simp only [lex_Announced.j2]
                rw [if_neg (by decide), e1]
      | false =>
        refine Ev.step (f := fun k => lex_Announced.j1 k s false i (s[i].toNat : Int) false) (fun k => ?_) ?_
        · simp only [lex_Announced.l0]
          rw [if_pos (by omega), if_pos (by omega), if_neg (by decide), bt_nat s i hlt]
        · by_cases h4 : s[i] = 34
          · rw [annc, ann_head' (by rw [h4]; decide)]
            simp only
            rw [show (s[i] == 34) = true by rw [h4]; rfl]
            refine Ev.step (f := fun k => lex_Announced.l0 k s true ((i + 1 : Nat) : Int)) (fun k => ?_) (h34 true)
            simp only [lex_Announced.j1]
            rw [if_neg (by decide), if_pos ((b_eq _ 34 34 rfl).2 h4), e1]; rfl
          · have h4b : (s[i] == 34) = false := by simpa using h4
            refine Ev.step (f := fun k => lex_Announced.j2 k s false i ((s[i].toNat : Int) == 123)) (fun k => ?_) ?_
            · simp only [lex_Announced.j1]
              rw [if_neg (by decide), if_neg (fun h => h4 ((b_eq _ 34 34 rfl).1 h)), if_neg (by decide)]
            · by_cases h5 : s[i] = 123
              · have hz : (s.extract i s.size).size = s.size - i := by rw [ByteArray.size_extract]; omega
                have hx := ann_ev (s := s.extract i s.size) (by rw [hz]; omega)
                rw [extract_bytes, hz, drop_at s i hlt] at hx
                refine Ev.step (f := fun k => (lex_announcement.f k (s.extract i s.size)).bind fun bt105 => if bt105.2.2 = ((s.size - i : Nat) : Int) then some (bt105.1, bt105.2.1, true) else lex_Announced.l0 k s false ((i + 1 : Nat) : Int)) (fun k => ?_) (Ev.bind hx ?_)
                · simp only [lex_Announced.j2]
                  rw [if_pos (beq_iff_eq.2 ((b_eq _ 123 123 rfl).2 h5)), if_pos (by omega), if_pos (by omega), e1, e3, Int.toNat_natCast]
                · rw [annc, h4b]
                  cases ha : ann (s[i] :: (bytesL s).drop (i + 1)) with
                  | none =>
                    rw [show told (s.size - i) none = (0, false, 0) from rfl]
                    exact Ev.congr (fun k => if_neg (by show ¬ ((0 : Int) = _); omega)) (h34 false)
                  | some v =>
                    obtain ⟨m, p, q⟩ := v
                    have hql := ann_lt ha
                    simp only [List.length_cons, List.length_drop, bytesL_len] at hql
                    rw [show told (s.size - i) (some (m, p, q)) = ((m : Int), p, ((s.size - i - q.length : Nat) : Int)) from rfl]
                    cases q with
                    | nil => exact Ev.congr (f := fun _ => some ((m : Int), p, true)) (fun k => if_pos rfl) (Ev.now _)
                    | cons x xs =>
                      simp only [List.length_cons] at hql
                      exact Ev.congr (fun k => if_neg (by show ¬ (((s.size - i - (x :: xs).length : Nat) : Int) = _); rw [List.length_cons]; omega)) (h34 false)
              · rw [annc, ann_head' h5]
                simp only
                rw [h4b]
                refine Ev.step (f := fun k => lex_Announced.l0 k s false ((i + 1 : Nat) : Int)) (fun k => ?_) (h34 false)
                simp only [lex_Announced.j2]
                rw [if_neg (fun h => h5 ((b_eq _ 123 123 rfl).1 (beq_iff_eq.1 h))), e1]
    · rw [drop_end s i (by omega)]
      refine Ev.step (f := fun _ => some (0, false, false)) (fun k => ?_) ?_
      · simp only [lex_Announced.l0]
        rw [if_neg (by omega)]
      · rw [annc]; exact Ev.now _
theorem suffix_f : ∃ b, strings_HasSuffix.f s ⟨#[125]⟩ = some b ∧ (b = false → NoEnd (bytesL s)) := by
  unfold strings_HasSuffix.f stringslite_HasSuffix.f
  rw [show ((⟨#[125]⟩ : ByteArray).size : Int) = 1 from rfl]
  by_cases h : 1 ≤ s.size
  · have e : wrap64 ((s.size : Int) - 1) = ((s.size - 1 : Nat) : Int) := by rw [w64 (by omega) (by omega)]; omega
    rw [if_pos (by omega), e, if_pos (by omega), if_pos (by omega)]
    refine ⟨_, rfl, fun hb t ht => ?_⟩
    rw [Int.toNat_natCast, beq_eq_false_iff_ne] at hb
    refine hb ?_
    have hl := congrArg List.length ht
    rw [bytesL_len, List.length_append] at hl
    simp only [List.length_singleton] at hl
    rw [ByteArray.toList_eq, ByteArray.toList_eq]
    show bytesL (s.extract (s.size - 1) s.size) = [125]
    rw [extract_bytes, ht, List.drop_left' (by omega)]
  · rw [if_neg (by omega)]
    refine ⟨_, rfl, fun _ t ht => ?_⟩
    have hl := congrArg List.length ht
    rw [bytesL_len, List.length_append] at hl
    simp at hl
    omega
theorem lex_ev : Ev (fun k => lex_Announced.f k s) (annc (s.size + 1) false (bytesL s)) := by
  obtain ⟨b, hb, hno⟩ := suffix_f hs
  have := lex_l0 hs (s.size + 1) false 0 (by omega) (by omega)
  rw [List.drop_zero] at this
  cases b with
  | true =>
    refine Ev.congr (f := fun k => lex_Announced.l0 k s false 0) (fun k => ?_) this
    unfold lex_Announced.f
    rw [hb]; rfl
  | false =>
    rw [annc_no _ _ _ (hno rfl)]
    refine Ev.congr (f := fun _ => some (0, false, false)) (fun k => ?_) (Ev.now _)
    unfold lex_Announced.f
    rw [hb]; rfl
end
end Go.Proofs.YtbgcapgjnflmoaaDoor.Sc

/- What a line that scans does to what is announced behind it: nothing. -/
namespace Go.Proofs.YtbgcapgjnflmoaaDoor.Sc
def anq (q : Bool) (l : List UInt8) : Int × Bool × Bool := annc (l.length + 1) q l
theorem annc_fuel : ∀ (n m : Nat) (q : Bool) (l : List UInt8), l.length < n → l.length < m → annc n q l = annc m q l
  | 0, _, _, _, h, _ => by omega
  | _, 0, _, _, _, h => by omega
  | n + 1, m + 1, _, [], _, _ => by simp [annc]
  | n + 1, m + 1, true, c :: r, h, h' => by
    simp only [List.length_cons] at h h'
    rw [annc, annc]
    split
    · exact annc_fuel n m _ _ (by simp; omega) (by simp; omega)
    · exact annc_fuel n m _ _ (by omega) (by omega)
  | n + 1, m + 1, false, c :: r, h, h' => by
    simp only [List.length_cons] at h h'
    rw [annc, annc, annc_fuel n m _ r (by omega) (by omega)]
theorem anq_quote (r : List UInt8) : anq false (34 :: r) = anq true r := by
  unfold anq; rw [List.length_cons, annc, ann_head' (by decide)]; rfl
theorem anq_plain {c : UInt8} {r : List UInt8} (h1 : c ≠ 123) (h2 : c ≠ 34) : anq false (c :: r) = anq false r := by
  unfold anq; rw [List.length_cons, annc, ann_head' h1]
  simp only
  rw [show (c == 34) = false by simpa using h2]
theorem anq_open {m : Nat} {p : Bool} {x : UInt8} {r xs : List UInt8} (h : ann (123 :: r) = some (m, p, x :: xs)) : anq false (123 :: r) = anq false r := by
  unfold anq; rw [List.length_cons, annc, h]; rfl
theorem anq_end (r : List UInt8) : anq true (34 :: r) = anq false r := by
  unfold anq; rw [List.length_cons, annc_line, if_neg (by decide)]; rfl
theorem anq_in {c : UInt8} {r : List UInt8} (h1 : c ≠ 92) (h2 : c ≠ 34) : anq true (c :: r) = anq true r := by
  unfold anq; rw [List.length_cons, annc_line, if_neg h1, show (c != 34) = true by simpa using h2]
theorem anq_esc (d : UInt8) (r : List UInt8) : anq true (92 :: d :: r) = anq true r := by
  unfold anq; rw [List.length_cons, annc_line, if_pos rfl]
  exact annc_fuel _ _ _ _ (by simp; omega) (by simp)
theorem anq_over : ∀ (t : List UInt8) (r : List UInt8), (∀ c, c ∈ t → c ≠ 123 ∧ c ≠ 34) → anq false (t ++ r) = anq false r
  | [], _, _ => rfl
  | c :: t, r, h => by
    rw [List.cons_append, anq_plain (h c List.mem_cons_self).1 (h c List.mem_cons_self).2]
    exact anq_over t r (fun d hd => h d (List.mem_cons_of_mem _ hd))
theorem anq_qd : ∀ (n : Nat) (e : Int) (r out t q rest : List UInt8), r.length < n → qd e r out = .ok (t, q) → anq true (r ++ rest) = anq false (q ++ rest)
  | 0, _, _, _, _, _, _, h, _ => by omega
  | n + 1, e, [], out, t, q, rest, _, h => by cases h
  | n + 1, e, c :: r, out, t, q, rest, hn, h => by
    simp only [List.length_cons] at hn
    rw [qd.eq_def] at h
    simp only at h
    by_cases h1 : c = 34
    · rw [if_pos h1] at h
      cases h
      rw [h1, List.cons_append, anq_end]
    · rw [if_neg h1] at h
      by_cases h2 : gquote c = false
      · rw [if_pos h2] at h; cases h
      · rw [if_neg h2] at h
        by_cases h3 : c = 92
        · rw [if_pos h3] at h
          cases r with
          | nil => cases h
          | cons d r' =>
            simp only at h
            simp only [List.length_cons] at hn
            by_cases h4 : d = 34 ∨ d = 92
            · rw [if_pos h4] at h
              rw [h3, List.cons_append, List.cons_append, anq_esc]
              exact anq_qd n e r' _ t q rest (by omega) h
            · rw [if_neg h4] at h; cases h
        · rw [if_neg h3] at h
          rw [List.cons_append, anq_in h3 h1]
          exact anq_qd n e r _ t q rest (by omega) h
theorem dig_no {c : UInt8} (h : dig c = true) : c ≠ 123 ∧ c ≠ 34 := by
  have : 48 ≤ c.toNat ∧ c.toNat ≤ 57 := by simpa [dig] using h
  exact ⟨by rintro rfl; exact absurd this (by decide), by rintro rfl; exact absurd this (by decide)⟩
theorem gword_no9 {c : UInt8} (h : gword c = true) : c ≠ 123 ∧ c ≠ 34 := ⟨by rintro rfl; exact absurd h (by decide), by rintro rfl; exact absurd h (by decide)⟩
theorem digs_parts : ∀ (l : List UInt8) (n : Nat), ∃ t, l = t ++ (digs n l).2 ∧ (∀ c, c ∈ t → c ≠ 123 ∧ c ≠ 34) ∧ ∀ rest, (digs n l).2 ≠ [] → digs n (l ++ rest) = ((digs n l).1, (digs n l).2 ++ rest)
  | [], n => ⟨[], rfl, by simp, fun rest h => absurd rfl h⟩
  | c :: r, n => by
    cases hg : dig c with
    | false =>
      have e : digs n (c :: r) = (n, c :: r) := by rw [digs, if_neg (by rw [hg]; decide)]
      rw [e]
      exact ⟨[], rfl, by simp, fun rest _ => by rw [List.cons_append, digs, if_neg (by rw [hg]; decide)]⟩
    | true =>
      have e : digs n (c :: r) = digs (min (n * 10 + (c.toNat - 48)) 4294967296) r := by rw [digs, if_pos hg]
      obtain ⟨t, h1, h2, h3⟩ := digs_parts r (min (n * 10 + (c.toNat - 48)) 4294967296)
      rw [e]
      refine ⟨c :: t, by rw [List.cons_append, ← h1], fun d hd => ?_, fun rest hr => ?_⟩
      · rcases List.mem_cons.1 hd with rfl | hd
        · exact dig_no hg
        · exact h2 d hd
      · rw [List.cons_append, digs, if_pos hg]; exact h3 rest hr
theorem ann_parts {l q : List UInt8} {n : Nat} {p : Bool} (h : ann l = some (n, p, q)) : ∃ t, l = 123 :: (t ++ q) ∧ (∀ c, c ∈ t → c ≠ 123 ∧ c ≠ 34) ∧ ∀ rest, ann (l ++ rest) = some (n, p, q ++ rest) := by
  cases l with
  | nil => cases h
  | cons c r =>
    simp only [ann] at h
    split at h
    · rename_i hc
      subst hc
      cases r with
      | nil => cases h
      | cons d r' =>
        simp only [annIn] at h
        split at h
        · rename_i hg
          obtain ⟨t, h1, h2, h3⟩ := digs_parts (d :: r') 0
          generalize digs 0 (d :: r') = z at h h1 h3
          obtain ⟨m, y⟩ := z
          simp only at h h1 h3
          cases y with
          | nil => cases h
          | cons a y' =>
            have hext : ∀ rest, ann (123 :: d :: r' ++ rest) = annEnd m (a :: y' ++ rest) := fun rest => by
              have := h3 rest (by simp)
              rw [List.cons_append, List.cons_append, ann, if_pos rfl, annIn, if_pos hg, ← List.cons_append, this]
            simp only [annEnd] at h
            by_cases h4 : a = 125
            · rw [if_pos h4] at h
              cases h
              refine ⟨t ++ [a], by rw [h1]; simp, fun c hc => ?_, fun rest => by rw [hext, List.cons_append, annEnd, if_pos h4]⟩
              rcases List.mem_append.1 hc with hc | hc
              · exact h2 c hc
              · rw [List.mem_singleton.1 hc, h4]; decide
            · rw [if_neg h4] at h
              by_cases h5 : a = 43
              · rw [if_pos h5] at h
                cases y' with
                | nil => cases h
                | cons b y2 =>
                  simp only [annPlus] at h
                  by_cases h6 : b = 125
                  · rw [if_pos h6] at h
                    cases h
                    refine ⟨t ++ [a, b], by rw [h1]; simp, fun c hc => ?_, fun rest => by rw [hext, List.cons_append, annEnd, if_neg h4, if_pos h5, List.cons_append, annPlus, if_pos h6]⟩
                    rcases List.mem_append.1 hc with hc | hc
                    · exact h2 c hc
                    · rcases List.mem_cons.1 hc with rfl | hc
                      · rw [h5]; decide
                      · rw [List.mem_singleton.1 hc, h6]; decide
                  · rw [if_neg h6] at h; cases h
              · rw [if_neg h5] at h; cases h
        · cases h
    · cases h
theorem anq_enter {s s' : Ma} {g : Bool} {c : UInt8} {r q rest : List UInt8} (hr : rest ≠ []) (hs : starts c r = true) (h : enter s g c r = .ok (s', q)) : anq false (c :: r ++ rest) = anq false (q ++ rest) := by
  unfold enter at h
  cases ha : ann (c :: r) with
  | some v =>
    obtain ⟨n, p, q'⟩ := v
    rw [ha] at h
    simp only at h
    have hq : q' = q := by
      cases hl : s.lits with
      | nil => rw [hl] at h; cases h
      | cons x xs =>
        rw [hl] at h
        simp only at h
        split at h
        · cases h; rfl
        · cases h
    subst hq
    obtain ⟨t, h1, h2, h3⟩ := ann_parts ha
    have h4 := h3 rest
    rw [h1] at h4 ⊢
    cases hz : q' ++ rest with
    | nil => exact absurd (List.append_eq_nil_iff.1 hz).2 hr
    | cons x xs =>
      rw [hz] at h4
      rw [List.cons_append] at h4 ⊢
      rw [anq_open h4, List.append_assoc, hz, anq_over t _ h2]
  | none =>
    rw [ha] at h
    simp only at h
    by_cases h34 : c = 34
    · rw [if_pos h34] at h
      cases hq : qd s.early r [] with
      | error e => rw [hq] at h; cases h
      | ok v =>
        obtain ⟨t, q'⟩ := v
        rw [hq] at h
        cases h
        rw [h34, List.cons_append, anq_quote]
        exact anq_qd _ _ r [] t q rest (Nat.lt_succ_self _) hq
    · rw [if_neg h34] at h
      by_cases h40 : c = 40 ∨ c = 91
      · rw [if_pos h40] at h
        split at h
        · cases h
          rw [List.cons_append, anq_plain (by rcases h40 with rfl | rfl <;> decide) (by rcases h40 with rfl | rfl <;> decide)]
        · cases h
      · rw [if_neg h40] at h
        cases h
        conv => lhs; rw [← List.takeWhile_append_dropWhile (p := gword) (l := c :: r)]
        rw [List.append_assoc]
        exact anq_over _ _ (fun d hd => gword_no9 (List.all_eq_true.1 List.all_takeWhile d hd))
theorem anq_round {b f b' f' : Bool} {s s' : Ma} {c : UInt8} {r q rest : List UInt8} (hr : rest ≠ []) (h : round b f s c r = .ok (b', f', s', q)) : anq false (c :: r ++ rest) = anq false (q ++ rest) := by
  unfold round at h
  by_cases h32 : c = 32
  · rw [if_pos h32] at h
    split at h
    · cases h
    · cases h; rw [List.cons_append, h32, anq_plain (by decide) (by decide)]
  · rw [if_neg h32] at h
    by_cases h41 : c = 41 ∨ c = 93
    · rw [if_pos h41] at h
      cases hs : shut s c with
      | none => rw [hs] at h; cases h
      | some z =>
        rw [hs] at h
        cases h
        rw [List.cons_append, anq_plain (by rcases h41 with rfl | rfl <;> decide) (by rcases h41 with rfl | rfl <;> decide)]
    · rw [if_neg h41] at h
      cases hb : begin_ s (!b && !f) c r with
      | error e => rw [hb] at h; cases h
      | ok v =>
        obtain ⟨s2, q2⟩ := v
        rw [hb] at h
        cases h
        unfold begin_ at hb
        by_cases hst : starts c r = false
        · rw [if_pos hst] at hb; cases hb
        · rw [if_neg hst] at hb
          split at hb
          · exact anq_enter hr (by simpa using hst) hb
          · cases hb
theorem anq_run : ∀ (n : Nat) (b f : Bool) (s s' : Ma) (l rest : List UInt8), rest ≠ [] → run n b f s l = .ok s' → anq false (l ++ rest) = anq false rest
  | 0, _, _, _, _, _, _, _, h => by cases h
  | n + 1, b, f, s, s', [], rest, _, _ => rfl
  | n + 1, b, f, s, s', c :: r, rest, hr, h => by
    rw [run] at h
    cases hd : round b f s c r with
    | error e => rw [hd] at h; cases h
    | ok v =>
      obtain ⟨b2, f2, s2, q⟩ := v
      rw [hd] at h
      rw [anq_round hr hd]
      exact anq_run n b2 f2 s2 s' q rest hr h
/-- Behind a line that scans, what is announced is what the rest announces. -/
theorem anq_scan {line : ByteArray} {lits : List ByteArray} (h : (scan line lits).2 = 0) {rest : List UInt8} (hr : rest ≠ []) : anq false (bytesL line ++ rest) = anq false rest := by
  unfold scan at h
  split at h
  · split at h
    · unfold scanL at h
      cases hx : run ((bytesL line).length + 1) false true ⟨0, lits, Fr.line, []⟩ (bytesL line) with
      | error e =>
        rw [hx] at h
        exact absurd h (run_err (Nat.lt_succ_self _) hx)
      | ok s' => exact anq_run _ _ _ _ s' _ rest hr hx
    · cases h
  · cases h
end Go.Proofs.YtbgcapgjnflmoaaDoor.Sc
