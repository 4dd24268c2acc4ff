/- Contracts of the functions that the statement reaches, and plain lemmas: ScAnr. -/
import Derived.Test.YtbgcapgjnflmoaaDoorMg6
import Derived.Test.YtbgcapgjnflmoaaDoorMg15
set_option linter.unusedVariables false
set_option linter.unusedSimpArgs false
set_option linter.unnecessarySimpa false
/- Announcements, as the document reads them. -/
namespace Go.Proofs.YtbgcapgjnflmoaaDoor.Sc
open Go.RowKit Go.Proofs.YtbgcapgjnflmoaaDoorW.PrintWords Go.Proofs.YtbgcapgjnflmoaaDoorW.PrintMore Go.Proofs.YtbgcapgjnflmoaaDoorW.PrintLast Go.Proofs.YtbgcapgjnflmoaaDoor.PLx
/-- What an announcement's answer is, as the document tells it; of a text that has size bytes in all. -/
def toldR (size : Nat) : Option (Nat × Bool × List UInt8) → Int × Bool × Int × Bool
  | none => (0, false, 0, false)
  | some (n, p, q) => (n, p, ((size - q.length : Nat) : Int), true)
theorem digit_f (b : UInt8) : postbagref3_digit.f (b.toNat : Int) = some (dig b) := by
  unfold postbagref3_digit.f dig
  by_cases h : (48 : Nat) ≤ b.toNat
  · rw [if_pos (by omega)]
    congr 1
    by_cases h2 : b.toNat ≤ 57
    · rw [decide_eq_true (by omega), decide_eq_true ⟨h, h2⟩]
    · rw [decide_eq_false (by omega), decide_eq_false (by omega)]
  · rw [if_neg (by omega), decide_eq_false (by omega)]
section
variable {s : ByteArray} (hs : s.size ≤ 140737488351232)
include hs
theorem r3_ev (m : Nat) (j : Nat) (hj : j ≤ s.size) (p : Bool) (hp : p = true ↔ ∃ q, (bytesL s).drop j = 43 :: q) :
    Ev (fun k => postbagref3_announcement.j3 k s j m p) (toldR s.size (annEnd m ((bytesL s).drop j))) := by
  cases hpv : p with
  | true =>
    obtain ⟨q, hq⟩ := hp.1 hpv
    rw [hq]
    have hlt : j < s.size := by
      rcases Nat.lt_or_ge j s.size with h | h
      · exact h
      · rw [drop_end s j h] at hq; cases hq
    have hd := drop_at s j hlt
    rw [hq] at hd
    have hq2 : q = (bytesL s).drop (j + 1) := by injection hd
    have e1 : wrap64 ((j : Int) + 1) = ((j + 1 : Nat) : Int) := by rw [w64 (by omega) (by omega)]; rfl
    have e2 : wrap64 (((j + 1 : Nat) : Int) + 1) = ((j + 2 : Nat) : Int) := by rw [w64 (by omega) (by omega)]; rfl
    rw [annEnd, if_neg (by decide), if_pos rfl, hq2]
    by_cases he : j + 1 = s.size
    · rw [drop_end s (j + 1) (by omega)]
      refine Ev.step (f := fun _ => some (0, false, 0, false)) (fun k => ?_) (Ev.now _)
      simp only [postbagref3_announcement.j3]
      rw [if_pos trivial, e1, if_pos (by omega)]
    · have hl2 : j + 1 < s.size := by omega
      rw [drop_at s (j + 1) hl2]
      by_cases hc : s[j + 1] = 125
      · refine Ev.step (f := fun _ => some ((m : Int), true, ((j + 2 : Nat) : Int), true)) (fun k => ?_) ?_
        · simp only [postbagref3_announcement.j3]
          rw [if_pos trivial, e1, if_neg (by omega), if_pos (by omega), if_pos (by omega), bt_nat s (j + 1) hl2, if_pos ((b_eq _ 125 125 rfl).2 hc), e2]
        · rw [annPlus, if_pos hc]
          simp only [toldR]
          rw [List.length_drop, bytesL_len, show s.size - (s.size - (j + 1 + 1)) = j + 2 by omega]
          exact Ev.now _
      · refine Ev.step (f := fun _ => some (0, false, 0, false)) (fun k => ?_) ?_
        · simp only [postbagref3_announcement.j3]
          rw [if_pos trivial, e1, if_neg (by omega), if_pos (by omega), if_pos (by omega), bt_nat s (j + 1) hl2, if_neg (fun h => hc ((b_eq _ 125 125 rfl).1 h))]
        · rw [annPlus, if_neg hc]
          exact Ev.now _
  | false =>
    have hno : ∀ q, (bytesL s).drop j ≠ 43 :: q := fun q h => by have := hp.2 ⟨q, h⟩; rw [hpv] at this; cases this
    have e1 : wrap64 ((j : Int) + 1) = ((j + 1 : Nat) : Int) := by rw [w64 (by omega) (by omega)]; rfl
    by_cases he : j = s.size
    · rw [drop_end s j (by omega)]
      refine Ev.step (f := fun _ => some (0, false, 0, false)) (fun k => ?_) (Ev.now _)
      simp only [postbagref3_announcement.j3]
      rw [if_neg (by decide), if_pos (by omega)]
    · have hlt : j < s.size := by omega
      have hd := drop_at s j hlt
      have h43 : s[j] ≠ 43 := fun h => hno _ (by rw [hd, h])
      rw [hd]
      by_cases hc : s[j] = 125
      · refine Ev.step (f := fun _ => some ((m : Int), false, ((j + 1 : Nat) : Int), true)) (fun k => ?_) ?_
        · simp only [postbagref3_announcement.j3]
          rw [if_neg (by decide), if_neg (by omega), if_pos (by omega), if_pos (by omega), bt_nat s j hlt, if_pos ((b_eq _ 125 125 rfl).2 hc), e1]
        · rw [annEnd, if_pos hc]
          simp only [toldR]
          rw [List.length_drop, bytesL_len, show s.size - (s.size - (j + 1)) = j + 1 by omega]
          exact Ev.now _
      · refine Ev.step (f := fun _ => some (0, false, 0, false)) (fun k => ?_) ?_
        · simp only [postbagref3_announcement.j3]
          rw [if_neg (by decide), if_neg (by omega), if_pos (by omega), if_pos (by omega), bt_nat s j hlt, if_neg (fun h => hc ((b_eq _ 125 125 rfl).1 h))]
        · rw [annEnd, if_neg hc, if_neg h43]
          exact Ev.now _
theorem r2_ev (a m : Nat) (j : Nat) (hj : j ≤ s.size) (ha : a + 1 ≤ s.size) (h1 : j ≠ a + 1) : Ev (fun k => postbagref3_announcement.j2 k s a j m) (toldR s.size (annEnd m ((bytesL s).drop j))) := by
  have ea : wrap64 ((a : Int) + 1) = ((a + 1 : Nat) : Int) := by rw [w64 (by omega) (by omega)]; rfl
  by_cases hlt : j < s.size
  · refine Ev.step (f := fun k => postbagref3_announcement.j3 k s j m ((bt s j) == 43)) (fun k => ?_) (r3_ev hs m j hj _ ?_)
    · simp only [postbagref3_announcement.j2]
      rw [ea, if_neg (by omega), if_pos (by omega), if_pos (by omega)]
    · rw [bt_nat s j hlt, drop_at s j hlt, beq_iff_eq, b_eq _ 43 43 rfl]
      constructor
      · intro h; exact ⟨_, by rw [h]⟩
      · rintro ⟨q, h⟩; injection h
  · refine Ev.step (f := fun k => postbagref3_announcement.j3 k s j m false) (fun k => ?_) (r3_ev hs m j hj _ ?_)
    · simp only [postbagref3_announcement.j2]
      rw [ea, if_neg (by omega), if_neg (by omega)]
    · rw [drop_end s j (by omega)]
      constructor
      · intro h; cases h
      · rintro ⟨q, h⟩; cases h
theorem rl_ev {r : Int × Bool × Int × Bool} (a : Nat) : ∀ (d i n : Nat), s.size - i = d → i ≤ s.size → n ≤ 4294967296 → Ev (fun k => postbagref3_announcement.j2 k s a ((s.size - (digs n ((bytesL s).drop i)).2.length : Nat) : Int) ((digs n ((bytesL s).drop i)).1 : Int)) r → Ev (fun k => postbagref3_announcement.l0 k s a i n) r := by
  intro d
  induction d with
  | zero =>
    intro i n hd hi _ h
    rw [drop_end s i (by omega)] at h
    simp only [digs, List.length_nil, Nat.sub_zero] at h
    have : i = s.size := by omega
    subst this
    refine Ev.step (f := fun k => postbagref3_announcement.j2 k s a s.size n) (fun k => ?_) h
    simp only [postbagref3_announcement.l0]
    rw [if_neg (by omega)]
  | succ d ih =>
    intro i n hd hi hn h
    have hlt : i < s.size := by omega
    rw [drop_at s i hlt] at h
    have e1 : wrap64 ((i : Int) + 1) = ((i + 1 : Nat) : Int) := by rw [w64 (by omega) (by omega)]; rfl
    refine Ev.step (f := fun k => (some (dig s[i])).bind fun t108 => if t108 = true then postbagref3_announcement.l0 k s a ((i + 1 : Nat) : Int) (mn (wrap64 ((wrap64 ((n : Int) * 10)) + (((s[i].toNat : Int) - 48) % 256))) 4294967296) else postbagref3_announcement.j2 k s a i n) (fun k => ?_) ?_
    · simp only [postbagref3_announcement.l0]
      rw [if_pos (by omega), if_pos (by omega), bt_nat s i hlt, e1, digit_f]
    · simp only [Option.bind_some]
      cases hg : dig s[i] with
      | false =>
        have hdg : digs n (s[i] :: (bytesL s).drop (i + 1)) = (n, s[i] :: (bytesL s).drop (i + 1)) := by rw [digs, if_neg (by rw [hg]; decide)]
        rw [hdg] at h
        simp only [List.length_cons, List.length_drop, bytesL_len] at h
        rw [show s.size - (s.size - (i + 1) + 1) = i by omega] at h
        exact Ev.congr (fun k => by rw [if_neg (by decide)]) h
      | true =>
        have hr : 48 ≤ s[i].toNat ∧ s[i].toNat ≤ 57 := by simpa [dig] using hg
        have hdg : digs n (s[i] :: (bytesL s).drop (i + 1)) = digs (min (n * 10 + (s[i].toNat - 48)) 4294967296) ((bytesL s).drop (i + 1)) := by rw [digs, if_pos hg]
        have en : mn (wrap64 ((wrap64 ((n : Int) * 10)) + (((s[i].toNat : Int) - 48) % 256))) 4294967296 = ((min (n * 10 + (s[i].toNat - 48)) 4294967296 : Nat) : Int) := by
          rw [w64 (z := (n : Int) * 10) (by omega) (by omega), w64 (by omega) (by omega)]
          unfold mn
          split <;> omega
        rw [hdg] at h
        refine Ev.congr (fun k => by rw [if_pos rfl, en]) (ih (i + 1) _ (by omega) (by omega) (Nat.min_le_right _ _) h)
theorem anr_ev (i : Nat) (hi : i < s.size) : Ev (fun k => postbagref3_announcement.f k s i) (toldR s.size (ann ((bytesL s).drop i))) := by
  have ed := drop_at s i hi
  have e1 : wrap64 ((i : Int) + 1) = ((i + 1 : Nat) : Int) := by rw [w64 (by omega) (by omega)]; rfl
  refine Ev.congr (f := fun k => postbagref3_announcement.j0 k s i ((s[i].toNat : Int) != 123)) (fun k => ?_) ?_
  · unfold postbagref3_announcement.f; rw [if_neg (by omega), if_pos (by omega), if_pos (by omega), bt_nat s i hi]
  · by_cases hc : s[i] = 123
    · refine Ev.step (f := fun k => postbagref3_announcement.l0 k s i ((i + 1 : Nat) : Int) 0) (fun k => ?_) ?_
      · simp only [postbagref3_announcement.j0]
        rw [if_neg, e1]
        have : (s[i].toNat : Int) = 123 := (b_eq _ 123 123 rfl).2 hc
        rw [this]; decide
      · have hgo := rl_ev hs (r := toldR s.size (ann ((bytesL s).drop i))) i (s.size - (i + 1)) (i + 1) 0 rfl (by omega) (by omega)
        refine hgo ?_
        rw [ed, ann, if_pos hc]
        cases hd : (bytesL s).drop (i + 1) with
        | nil =>
          have h1 : s.size = i + 1 := by
            have := congrArg List.length hd
            rw [List.length_drop, bytesL_len] at this
            simp at this; omega
          simp only [digs, List.length_nil, annIn]
          refine Ev.step (f := fun _ => some (0, false, 0, false)) (fun k => ?_) (Ev.now _)
          simp only [postbagref3_announcement.j2]
          rw [e1, if_pos (by omega)]
        | cons b r =>
          have hlen : r.length = s.size - (i + 2) ∧ i + 2 ≤ s.size := by
            have := congrArg List.length hd
            rw [List.length_drop, bytesL_len] at this
            simp at this; omega
          simp only [annIn]
          by_cases hg : dig b = true
          · rw [if_pos hg]
            have hdl : (digs 0 (b :: r)).2.length ≤ r.length := by rw [digs, if_pos hg]; exact digs_le r _
            have hsuf : (bytesL s).drop (s.size - (digs 0 (b :: r)).2.length) = (digs 0 (b :: r)).2 := by
              obtain ⟨t, ht⟩ := digs_suffix (b :: r) 0
              have hs2 : (bytesL s) = (bytesL s).take (i + 1) ++ (t ++ (digs 0 (b :: r)).2) := by rw [ht, ← hd]; exact (List.take_append_drop (i + 1) _).symm
              have hl := congrArg List.length hs2
              rw [bytesL_len] at hl
              generalize (digs 0 (b :: r)).2 = z at *
              conv => lhs; rw [hs2]
              rw [← List.append_assoc]
              apply List.drop_left'
              rw [List.length_append, List.length_append] at hl
              rw [List.length_append]
              omega
            have := r2_ev hs i (digs 0 (b :: r)).1 (s.size - (digs 0 (b :: r)).2.length) (by omega) (by omega) (by omega)
            rw [hsuf] at this
            exact this
          · rw [if_neg hg]
            have hdg : digs 0 (b :: r) = (0, b :: r) := by rw [digs, if_neg hg]
            rw [hdg]
            simp only [List.length_cons]
            rw [show s.size - (r.length + 1) = i + 1 by omega]
            refine Ev.step (f := fun _ => some (0, false, 0, false)) (fun k => ?_) (Ev.now _)
            simp only [postbagref3_announcement.j2]
            rw [e1, if_pos (by omega)]
    · refine Ev.step (f := fun _ => some (0, false, 0, false)) (fun k => ?_) ?_
      · simp only [postbagref3_announcement.j0]
        rw [if_pos]
        simp only [bne_iff_ne, ne_eq]
        exact fun h => hc ((b_eq _ 123 123 rfl).1 h)
      · rw [ed, ann_head' hc]
        exact Ev.now _
end
end Go.Proofs.YtbgcapgjnflmoaaDoor.Sc
