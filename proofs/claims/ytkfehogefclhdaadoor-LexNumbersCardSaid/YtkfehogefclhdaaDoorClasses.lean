import Derived.Test.YtkfehogefclhdaaDoorPLtx
import Derived.Lib.IndexAny
namespace Go.Proofs.YtkfehogefclhdaaDoor.Pure
open Go.RowKit Go.Proofs.YtkfehogefclhdaaDoor.PLt Go.Proofs.YtkfehogefclhdaaDoorW.PrintWords Go.Proofs.YtkfehogefclhdaaDoorW.PrintLast

/-! The classes of texts, on lists of bytes. -/
theorem w64 {z : Int} (h0 : -9223372036854775808 ≤ z) (h1 : z ≤ 9223372036854775807) : wrap64 z = z := by unfold wrap64; omega
def gradeI (c : Int) : Int := (lex_grade.f 6 c).getD 0
def plainI (c : Int) : Bool := (postbagref3_plain.f c).getD false
theorem grade_fin : ∀ c : Fin 256, lex_grade.f 6 (c.val : Int) = some (gradeI c.val) := by decide +kernel
theorem plain_fin : ∀ c : Fin 256, postbagref3_plain.f (c.val : Int) = some (plainI c.val) := by decide +kernel
theorem atom_fin : ∀ c : Fin 256, (decide (Go.bits .and .u8 (gradeI c.val) 2 = 0)) = !(plainI c.val) := by decide +kernel
theorem match_fin : ∀ c : Fin 256, (decide (Go.bits .and .u8 (gradeI c.val) 4 = 0)) = !(plainI c.val || c.val == 37 || c.val == 42) := by decide +kernel
theorem quote_fin : ∀ c : Fin 256, (decide (Go.bits .and .u8 (gradeI c.val) 8 = 0)) = (c.val == 0 || decide (127 < c.val) || c.val == 10 || c.val == 13) := by decide +kernel
theorem count_fin : ∀ c : Fin 256, (decide (Go.bits .and .u8 (gradeI c.val) 16 = 0)) = !(decide (48 ≤ c.val) && decide (c.val ≤ 57)) := by decide +kernel
def plainU (b : UInt8) : Bool := plainI (b.toNat : Int)
def matchU (b : UInt8) : Bool := plainU b || b == 37 || b == 42
def quoteU (b : UInt8) : Bool := !(b == 0 || decide (127 < b.toNat) || b == 10 || b == 13)
def countU (b : UInt8) : Bool := decide (48 ≤ b.toNat) && decide (b.toNat ≤ 57)
/-- What a bit stands for. -/
def goodU (bit : Int) (b : UInt8) : Bool := !(decide (Go.bits .and .u8 (gradeI (b.toNat : Int)) bit = 0))
theorem fin_of (b : UInt8) : ∃ c : Fin 256, c.val = b.toNat := ⟨⟨b.toNat, b.toNat_lt⟩, rfl⟩
theorem eqU (b : UInt8) (n : Nat) (m : UInt8) (h : m.toNat = n) : (b == m) = (b.toNat == n) := by
  rw [Bool.eq_iff_iff, beq_iff_eq, beq_iff_eq, ← UInt8.toNat_inj, h]
theorem good_atom (b : UInt8) : goodU 2 b = plainU b := by
  obtain ⟨c, hc⟩ := fin_of b
  unfold goodU plainU; rw [← hc, atom_fin c, Bool.not_not]
theorem good_match (b : UInt8) : goodU 4 b = matchU b := by
  obtain ⟨c, hc⟩ := fin_of b
  unfold goodU matchU plainU; rw [← hc, match_fin c, Bool.not_not, hc, eqU b 37 37 rfl, eqU b 42 42 rfl]
theorem good_quote (b : UInt8) : goodU 8 b = quoteU b := by
  obtain ⟨c, hc⟩ := fin_of b
  unfold goodU quoteU; rw [← hc, quote_fin c, hc, eqU b 0 0 rfl, eqU b 10 10 rfl, eqU b 13 13 rfl]
theorem good_count (b : UInt8) : goodU 16 b = countU b := by
  obtain ⟨c, hc⟩ := fin_of b
  unfold goodU countU; rw [← hc, count_fin c, Bool.not_not]
theorem bt_nat (s : ByteArray) (i : Nat) (h : i < s.size) : bt s (i : Int) = ((s[i]).toNat : Int) := by
  unfold bt; simp [h]
theorem drop_at (s : ByteArray) (i : Nat) (h : i < s.size) : s.data.toList.drop i = s[i] :: s.data.toList.drop (i + 1) := by
  have h' : i < s.data.size := h
  rw [List.drop_eq_getElem_cons (by simpa using h')]; simp; rfl
theorem grade_ev (b : UInt8) : Ev (fun k => lex_grade.f k (b.toNat : Int)) (gradeI b.toNat) := by
  obtain ⟨c, hc⟩ := fin_of b
  exact Ev.of (lex_grade.mono _) (k := 6) (by rw [← hc]; exact grade_fin c)
theorem plain_some (b : UInt8) : postbagref3_plain.f (b.toNat : Int) = some (plainU b) := by
  obtain ⟨c, hc⟩ := fin_of b
  unfold plainU; rw [← hc]; exact plain_fin c

section
variable (s : ByteArray) (hs : s.size ≤ 140737488351232)
include hs
theorem all_ev (bit : Int) : Ev (fun k => lex_all.f k s bit) (s.data.toList.all (goodU bit)) := by
  have go : ∀ (d i : Nat), s.size - i = d → i ≤ s.size → Ev (fun k => lex_all.l0 k s bit s.size i) ((s.data.toList.drop i).all (goodU bit)) := by
    intro d
    induction d with
    | zero =>
      intro i hd hi
      have e : i = s.size := by omega
      subst e
      refine Ev.step (f := fun _ => some true) (fun k => ?_) ?_
      · simp only [lex_all.l0]; rw [if_neg (by omega)]
      · rw [List.drop_of_length_le (by simp)]; exact Ev.now true
    | succ d ih =>
      intro i hd hi
      have hlt : i < s.size := by omega
      have e1 : wrap64 ((i : Int) + 1) = ((i + 1 : Nat) : Int) := by rw [w64 (by omega) (by omega)]; rfl
      have hn := ih (i + 1) (by omega) (by omega)
      rw [drop_at s i hlt, List.all_cons]
      refine Ev.step (f := fun k => (lex_grade.f k (s[i].toNat : Int)).bind fun t104 => if Go.bits .and .u8 t104 bit = 0 then some false else lex_all.l0 k s bit s.size (i + 1 : Nat)) (fun k => ?_) (Ev.bind (grade_ev s[i]) ?_)
      · simp only [lex_all.l0]; rw [if_pos (by omega), if_pos (by omega), if_pos (by omega), bt_nat s i hlt, e1]
      · by_cases c : Go.bits .and .u8 (gradeI (s[i].toNat : Int)) bit = 0
        · have hg : goodU bit s[i] = false := by unfold goodU; rw [decide_eq_true c]; rfl
          rw [hg, Bool.false_and]
          exact Ev.congr (fun k => by rw [if_pos c]) (Ev.now false)
        · have hg : goodU bit s[i] = true := by unfold goodU; rw [decide_eq_false c]; rfl
          rw [hg, Bool.true_and]
          exact Ev.congr (fun k => by rw [if_neg c]) hn
  have := go s.size 0 rfl (by omega)
  rw [List.drop_zero] at this
  exact this
theorem ref_atom_ev : Ev (fun k => postbagref3_atom.f k s) (s.data.toList.all plainU && decide (0 < s.size)) := by
  have go : ∀ (d i : Nat), s.size - i = d → i ≤ s.size → Ev (fun k => postbagref3_atom.l0 k s i) ((s.data.toList.drop i).all plainU && decide (0 < s.size)) := by
    intro d
    induction d with
    | zero =>
      intro i hd hi
      have e : i = s.size := by omega
      subst e
      refine Ev.step (f := fun _ => some (decide (0 < s.size))) (fun k => ?_) ?_
      · simp only [postbagref3_atom.l0]; rw [if_neg (by omega)]; congr 1; simp
      · rw [List.drop_of_length_le (by simp)]; exact Ev.now _
    | succ d ih =>
      intro i hd hi
      have hlt : i < s.size := by omega
      have e1 : wrap64 ((i : Int) + 1) = ((i + 1 : Nat) : Int) := by rw [w64 (by omega) (by omega)]; rfl
      have hn := ih (i + 1) (by omega) (by omega)
      rw [drop_at s i hlt, List.all_cons, Bool.and_assoc]
      refine Ev.step (f := fun k => if plainU s[i] = true then postbagref3_atom.l0 k s (i + 1 : Nat) else some false) (fun k => ?_) ?_
      · simp only [postbagref3_atom.l0]; rw [if_pos (by omega), if_pos (by omega), bt_nat s i hlt, plain_some, e1]; rfl
      · cases c : plainU s[i] with
        | true => rw [Bool.true_and]; exact hn
        | false => rw [Bool.false_and]; exact Ev.now false
  have := go s.size 0 rfl (by omega)
  rw [List.drop_zero] at this
  exact this
theorem ref_tag_ev : Ev (fun k => postbagref3_Is.l0 k s 0) (!(s.data.toList.contains 43) && ((s.data.toList.all plainU && decide (0 < s.size)) && decide (s.size ≤ 32))) := by
  have go : ∀ (d i : Nat), s.size - i = d → i ≤ s.size → Ev (fun k => postbagref3_Is.l0 k s i) (!((s.data.toList.drop i).contains 43) && ((s.data.toList.all plainU && decide (0 < s.size)) && decide (s.size ≤ 32))) := by
    intro d
    induction d with
    | zero =>
      intro i hd hi
      have e : i = s.size := by omega
      subst e
      refine Ev.step (fun k => by simp only [postbagref3_Is.l0]; rw [if_neg (by omega)]) (Ev.bind (ref_atom_ev s hs) ?_)
      rw [List.drop_of_length_le (by simp)]
      cases c : (s.data.toList.all plainU && decide (0 < s.size)) with
      | true => exact Ev.congr (fun k => by rw [if_pos rfl]; congr 1; rw [show (![].contains (43 : UInt8)) = true from rfl, Bool.true_and, Bool.true_and, decide_eq_decide]; omega) (Ev.now _)
      | false => exact Ev.congr (fun k => by rw [if_neg (by decide)]; rfl) (Ev.now _)
    | succ d ih =>
      intro i hd hi
      have hlt : i < s.size := by omega
      have e1 : wrap64 ((i : Int) + 1) = ((i + 1 : Nat) : Int) := by rw [w64 (by omega) (by omega)]; rfl
      have hn := ih (i + 1) (by omega) (by omega)
      rw [drop_at s i hlt, List.contains_cons]
      have eb : ((43 : UInt8) == s[i]) = (s[i].toNat == 43) := by rw [← eqU s[i] 43 43 rfl, Bool.eq_iff_iff, beq_iff_eq, beq_iff_eq]; exact eq_comm
      rw [eb]
      by_cases c : s[i].toNat = 43
      · refine Ev.step (f := fun _ => some false) (fun k => ?_) ?_
        · simp only [postbagref3_Is.l0]; rw [if_pos (by omega), if_pos (by omega), bt_nat s i hlt, if_pos (by omega)]
        · rw [c]; exact Ev.now false
      · refine Ev.step (fun k => ?_) (f := fun k => postbagref3_Is.l0 k s (i + 1 : Nat)) ?_
        · simp only [postbagref3_Is.l0]; rw [if_pos (by omega), if_pos (by omega), bt_nat s i hlt, if_neg (by omega), e1]
        · rw [beq_eq_false_iff_ne.2 c, Bool.false_or]; exact hn
  have := go s.size 0 rfl (by omega)
  rw [List.drop_zero] at this
  exact this
theorem ref_pat_ev : Ev (fun k => postbagref3_Is.l1 k s 0) (s.data.toList.all matchU && decide (0 < s.size)) := by
  have go : ∀ (d i : Nat), s.size - i = d → i ≤ s.size → Ev (fun k => postbagref3_Is.l1 k s i) ((s.data.toList.drop i).all matchU && decide (0 < s.size)) := by
    intro d
    induction d with
    | zero =>
      intro i hd hi
      have e : i = s.size := by omega
      subst e
      refine Ev.step (f := fun _ => some (decide (0 < s.size))) (fun k => ?_) ?_
      · simp only [postbagref3_Is.l1]; rw [if_neg (by omega)]; congr 1; simp
      · rw [List.drop_of_length_le (by simp)]; exact Ev.now _
    | succ d ih =>
      intro i hd hi
      have hlt : i < s.size := by omega
      have e1 : wrap64 ((i : Int) + 1) = ((i + 1 : Nat) : Int) := by rw [w64 (by omega) (by omega)]; rfl
      have hn := ih (i + 1) (by omega) (by omega)
      rw [drop_at s i hlt, List.all_cons, Bool.and_assoc]
      have e37 := eqU s[i] 37 37 rfl
      have e42 := eqU s[i] 42 42 rfl
      have hm : matchU s[i] = (plainU s[i] || s[i].toNat == 37 || s[i].toNat == 42) := by unfold matchU; rw [← e37, ← e42]
      refine Ev.step (f := fun k => if matchU s[i] = true then postbagref3_Is.l1 k s (i + 1 : Nat) else some false) (fun k => ?_) ?_
      · simp only [postbagref3_Is.l1]; rw [if_pos (by omega), if_pos (by omega), bt_nat s i hlt, plain_some, e1, hm]
        simp only [Option.bind_some]
        cases plainU s[i] with
        | true => simp
        | false =>
          by_cases a : s[i].toNat = 37
          · rw [if_neg (by decide), if_pos (by omega), a]; rfl
          · by_cases b : s[i].toNat = 42
            · rw [if_neg (by decide), if_neg (by omega), if_pos (by omega), b]; rfl
            · rw [if_neg (by decide), if_neg (by omega), if_neg (by omega), beq_eq_false_iff_ne.2 a, beq_eq_false_iff_ne.2 b]; rfl
      · cases c : matchU s[i] with
        | true => rw [Bool.true_and]; exact hn
        | false => rw [Bool.false_and]; exact Ev.now false
  have := go s.size 0 rfl (by omega)
  rw [List.drop_zero] at this
  exact this
end
end Go.Proofs.YtkfehogefclhdaaDoor.Pure
