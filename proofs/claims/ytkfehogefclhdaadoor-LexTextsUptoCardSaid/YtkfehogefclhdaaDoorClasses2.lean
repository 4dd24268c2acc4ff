import Derived.Test.YtkfehogefclhdaaDoorClasses
namespace Go.Proofs.YtkfehogefclhdaaDoor.Pure
open Go.RowKit Go.Proofs.YtkfehogefclhdaaDoor.PLt Go.Proofs.YtkfehogefclhdaaDoorW.PrintWords Go.Proofs.YtkfehogefclhdaaDoorW.PrintLast

def atomL (l : List UInt8) : Bool := l.all plainU && decide (0 < l.length)
def nullL (l : List UInt8) : Bool := l.map Ext.lowB == [110, 105, 108]
def isSpec (cls : Int) (l : List UInt8) : Bool :=
  if cls = 1 then atomL l
  else if cls = 2 then atomL l && !nullL l
  else if cls = 3 then atomL l && (decide (l.length ≤ 32) && !l.contains 43)
  else if cls = 4 then (if l.headD 0 = 92 then atomL l.tail else atomL l && decide (l.length ≤ 24))
  else if cls = 5 then atomL l && decide (l.length ≤ 24)
  else if cls = 6 then l.all matchU && decide (0 < l.length)
  else false
theorem size_len (s : ByteArray) : s.data.toList.length = s.size := by simp
theorem isSpec_nil (cls : Int) : isSpec cls [] = false := by
  unfold isSpec atomL
  repeat' split
  all_goals first | rfl | simp_all
theorem low_fin : ∀ c : Fin 256, (Ext.lowB (UInt8.ofNat c.val) == 110) = (c.val == 78 || c.val == 110) ∧ (Ext.lowB (UInt8.ofNat c.val) == 105) = (c.val == 73 || c.val == 105) ∧ (Ext.lowB (UInt8.ofNat c.val) == 108) = (c.val == 76 || c.val == 108) := by decide +kernel
theorem low_of (b : UInt8) : (Ext.lowB b == 110) = (b.toNat == 78 || b.toNat == 110) ∧ (Ext.lowB b == 105) = (b.toNat == 73 || b.toNat == 105) ∧ (Ext.lowB b == 108) = (b.toNat == 76 || b.toNat == 108) := by
  have := low_fin ⟨b.toNat, b.toNat_lt⟩
  simpa using this
theorem tail_data (s : ByteArray) : (s.extract 1 s.size).data.toList = s.data.toList.tail := by
  simp only [ByteArray.data_extract, Array.toList_extract, List.extract_eq_take_drop]
  rw [List.take_of_length_le (by simp), List.drop_one]
theorem ref_null (s : ByteArray) : postbagref3_null.f s = some (nullL s.data.toList) := by
  unfold postbagref3_null.f
  by_cases c : (s.size : Int) = 3
  · have c' : s.size = 3 := by omega
    rw [if_pos c]
    obtain ⟨x, y, z, hl⟩ : ∃ x y z, s.data.toList = [x, y, z] := by
      have h := size_len s
      rw [c'] at h
      match hq : s.data.toList, h with
      | [x, y, z], _ => exact ⟨x, y, z, rfl⟩
    have g : ∀ (i : Nat) (h : i < s.size), s[i] = s.data.toList[i]'(by rw [size_len]; exact h) := fun i h => by simp; rfl
    have e0 : bt s 0 = (x.toNat : Int) := by have := bt_nat s 0 (by omega); rw [g 0 (by omega)] at this; simp only [hl] at this; exact this
    have e1 : bt s 1 = (y.toNat : Int) := by have := bt_nat s 1 (by omega); rw [g 1 (by omega)] at this; simp only [hl] at this; exact this
    have e2 : bt s 2 = (z.toNat : Int) := by have := bt_nat s 2 (by omega); rw [g 2 (by omega)] at this; simp only [hl] at this; exact this
    have hn : nullL s.data.toList = ((x.toNat == 78 || x.toNat == 110) && ((y.toNat == 73 || y.toNat == 105) && (z.toNat == 76 || z.toNat == 108))) := by
      rw [hl, ← (low_of x).1, ← (low_of y).2.1, ← (low_of z).2.2]
      unfold nullL
      rw [Bool.eq_iff_iff]
      simp
    rw [hn, e0, e1, e2]
    have q0 : (0 : Int) < (s.size : Int) := by omega
    have q1 : (1 : Int) < (s.size : Int) := by omega
    have q2 : (2 : Int) < (s.size : Int) := by omega
    simp only [q0, q1, q2, if_true]
    have n0 : ∀ (a : UInt8) (m : Nat), ((a.toNat : Int) = (m : Int)) ↔ (a.toNat == m) = true := fun a m => by rw [beq_iff_eq]; omega
    have n78 := n0 x 78; have n110 := n0 x 110; have n73 := n0 y 73; have n105 := n0 y 105; have n76 := n0 z 76
    have n108 : ((z.toNat : Int) == 108) = (z.toNat == 108) := by rw [Bool.eq_iff_iff, beq_iff_eq, beq_iff_eq]; omega
    simp only [Int.cast_ofNat_Int] at n78 n110 n73 n105 n76
    simp only [n78, n110, n73, n105, n76, n108]
    cases (x.toNat == 78) <;> cases (x.toNat == 110) <;> cases (y.toNat == 73) <;> cases (y.toNat == 105) <;> cases (z.toNat == 76) <;> cases (z.toNat == 108) <;> rfl
  · rw [if_neg c]
    congr 1
    symm
    unfold nullL
    rw [beq_eq_false_iff_ne]
    intro h
    have := congrArg List.length h
    rw [List.length_map, size_len] at this
    simp at this
    omega
theorem same_nil (s : ByteArray) (hs : s.size ≤ 140737488351232) : octet_Same.f s (⟨#[78, 73, 76]⟩ : ByteArray) = some (nullL s.data.toList) := by
  unfold octet_Same.f octet_Lower.f
  rw [if_pos hs, if_pos (by decide)]
  simp only [Option.bind_some]
  congr 1
  rw [ByteArray.toList_eq, ByteArray.toList_eq]
  unfold nullL Ext.lowBA
  simp only [Array.toList_map]
  rfl
section
variable (s : ByteArray) (hs : s.size ≤ 140737488351232)
include hs
omit hs in
theorem pos_len (h : s.toList ≠ []) : decide (0 < s.data.toList.length) = true := by
  rw [ByteArray.toList_eq] at h
  exact decide_eq_true (List.length_pos_iff.2 h)
theorem all_atom (h : s.toList ≠ []) : Ev (fun k => lex_all.f k s 2) (atomL s.data.toList) := by
  have := all_ev s hs 2
  rw [show (goodU 2) = plainU from funext good_atom] at this
  unfold atomL; rwa [pos_len s h, Bool.and_true]
theorem lex_atom (h : s.toList ≠ []) : Ev (fun k => lex_Is.f k 1 s) (atomL s.data.toList) := by
  refine Ev.step (fun k => by simp only [lex_Is.f]; rw [if_neg h]; simp only [if_true]) (Ev.bind (all_atom s hs h) (Ev.now _))
/-- lex.Is, of every class. -/
theorem lex_Is_ev (cls : Int) : Ev (fun k => lex_Is.f k cls s) (isSpec cls s.data.toList) := by
  by_cases h : s.toList = []
  · rw [show s.data.toList = [] by rw [← ByteArray.toList_eq]; exact h, isSpec_nil]
    refine Ev.step (f := fun _ => some false) (fun k => ?_) (Ev.now false)
    simp only [lex_Is.f]; rw [if_pos h]
  · have hp := pos_len s h
    have hsz : 0 < s.size := by rw [← size_len]; exact of_decide_eq_true hp
    by_cases c1 : cls = 1
    · subst c1; exact lex_atom s hs h
    by_cases c2 : cls = 2
    · subst c2
      unfold isSpec; rw [if_neg (by decide), if_pos rfl]
      refine Ev.step (fun k => by simp only [lex_Is.f]; rw [if_neg h, if_neg (by decide), if_pos trivial]) (Ev.bind (all_atom s hs h) ?_)
      cases c : atomL s.data.toList with
      | true => exact Ev.congr (fun k => by rw [if_pos rfl, same_nil s hs]; rfl) (Ev.now _)
      | false => exact Ev.congr (fun k => by rw [if_neg (by decide)]; rfl) (Ev.now _)
    by_cases c3 : cls = 3
    · subst c3
      unfold isSpec; rw [if_neg (by decide), if_neg (by decide), if_pos rfl]
      refine Ev.step (fun k => by simp only [lex_Is.f]; rw [if_neg h, if_neg (by decide), if_neg (by decide), if_pos trivial]) (Ev.bind (all_atom s hs h) ?_)
      cases c : atomL s.data.toList with
      | true =>
        refine Ev.congr (fun k => ?_) (Ev.now _)
        rw [if_pos rfl]
        by_cases hl : s.size ≤ 32
        · rw [if_pos (by omega)]
          unfold strings_Contains.f
          rw [if_pos (by decide)]
          simp only [Option.bind_some]
          rw [size_len, decide_eq_true hl, Lib.contains_iff_indexByte]; rfl
        · rw [if_neg (by omega), size_len, decide_eq_false hl]; rfl
      | false => exact Ev.congr (fun k => by rw [if_neg (by decide)]; rfl) (Ev.now _)
    by_cases c4 : cls = 4
    · subst c4
      unfold isSpec; rw [if_neg (by decide), if_neg (by decide), if_neg (by decide), if_pos rfl]
      have e0 : bt s 0 = ((s.data.toList.headD 0).toNat : Int) := by
        have := bt_nat s 0 hsz
        rw [show ((0 : Nat) : Int) = 0 from rfl] at this
        rw [this]
        have hd := drop_at s 0 hsz
        rw [List.drop_zero] at hd
        rw [hd]; rfl
      by_cases hb : s.data.toList.headD 0 = 92
      · rw [if_pos hb]
        have hb2 : bt s 0 = 92 := by rw [e0, hb]; rfl
        have tl := tail_data s
        by_cases ht : (s.extract 1 s.size).toList = []
        · rw [← tl, show (s.extract 1 s.size).data.toList = [] by rw [← ByteArray.toList_eq]; exact ht]
          refine Ev.step (f := fun k => (lex_Is.f k 1 (s.extract 1 s.size)).bind fun t => some t) (fun k => ?_) (Ev.bind (Ev.step (f := fun _ => some false) (fun k => ?_) (Ev.now false)) (Ev.now _))
          · simp only [lex_Is.f]; rw [if_neg h, if_neg (by decide), if_neg (by decide), if_neg (by decide), if_pos trivial, if_pos (by omega), if_pos hb2, if_pos (by omega)]
          · simp only [lex_Is.f]; rw [if_pos ht]
        · have := lex_atom (s.extract 1 s.size) (by rw [ByteArray.size_extract]; omega) ht
          rw [tl] at this
          refine Ev.step (f := fun k => (lex_Is.f k 1 (s.extract 1 s.size)).bind fun t => some t) (fun k => ?_) (Ev.bind this (Ev.now _))
          simp only [lex_Is.f]; rw [if_neg h, if_neg (by decide), if_neg (by decide), if_neg (by decide), if_pos trivial, if_pos (by omega), if_pos hb2, if_pos (by omega)]
      · rw [if_neg hb]
        have hb2 : ¬ bt s 0 = 92 := fun he => hb (by rw [e0] at he; exact UInt8.toNat_inj.1 (by have e : (92 : UInt8).toNat = 92 := rfl; omega))
        refine Ev.step (fun k => by simp only [lex_Is.f]; rw [if_neg h, if_neg (by decide), if_neg (by decide), if_neg (by decide), if_pos trivial, if_pos (by omega), if_neg hb2]) (Ev.bind (all_atom s hs h) ?_)
        cases c : atomL s.data.toList with
        | true => exact Ev.congr (fun k => by rw [if_pos rfl]; congr 1; rw [size_len, Bool.true_and, decide_eq_decide]; omega) (Ev.now _)
        | false => exact Ev.congr (fun k => by rw [if_neg (by decide)]; rfl) (Ev.now _)
    by_cases c5 : cls = 5
    · subst c5
      unfold isSpec; rw [if_neg (by decide), if_neg (by decide), if_neg (by decide), if_neg (by decide), if_pos rfl]
      refine Ev.step (fun k => by simp only [lex_Is.f]; rw [if_neg h, if_neg (by decide), if_neg (by decide), if_neg (by decide), if_neg (by decide), if_pos trivial]) (Ev.bind (all_atom s hs h) ?_)
      cases c : atomL s.data.toList with
      | true => exact Ev.congr (fun k => by rw [if_pos rfl]; congr 1; rw [size_len, Bool.true_and, decide_eq_decide]; omega) (Ev.now _)
      | false => exact Ev.congr (fun k => by rw [if_neg (by decide)]; rfl) (Ev.now _)
    by_cases c6 : cls = 6
    · subst c6
      unfold isSpec; rw [if_neg (by decide), if_neg (by decide), if_neg (by decide), if_neg (by decide), if_neg (by decide), if_pos rfl, hp, Bool.and_true]
      have := all_ev s hs 4
      rw [show (goodU 4) = matchU from funext good_match] at this
      exact Ev.step (fun k => by simp only [lex_Is.f]; rw [if_neg h, if_neg (by decide), if_neg (by decide), if_neg (by decide), if_neg (by decide), if_neg (by decide), if_pos trivial]) (Ev.bind this (Ev.now _))
    · unfold isSpec; rw [if_neg c1, if_neg c2, if_neg c3, if_neg c4, if_neg c5, if_neg c6]
      exact Ev.step (f := fun _ => some false) (fun k => by simp only [lex_Is.f]; rw [if_neg h, if_neg c1, if_neg c2, if_neg c3, if_neg c4, if_neg c5, if_neg c6]) (Ev.now false)
theorem ref_atom : Ev (fun k => postbagref3_atom.f k s) (atomL s.data.toList) := by
  have := ref_atom_ev s hs
  unfold atomL; rwa [size_len]
/-- The reference's Is, of every class. -/
theorem ref_Is_ev (cls : Int) : Ev (fun k => postbagref3_Is.f k cls s) (isSpec cls s.data.toList) := by
  have ha := ref_atom s hs
  by_cases c1 : cls = 1
  · subst c1
    exact Ev.congr (fun k => by unfold postbagref3_Is.f; rw [if_pos rfl]) (Ev.bind ha (Ev.now _))
  by_cases c2 : cls = 2
  · subst c2
    unfold isSpec; rw [if_neg (by decide), if_pos rfl]
    refine Ev.congr (fun k => by unfold postbagref3_Is.f; rw [if_neg (by decide), if_pos rfl]) (Ev.bind ha ?_)
    cases c : atomL s.data.toList with
    | true => exact Ev.congr (fun k => by rw [if_pos rfl, ref_null s]; rfl) (Ev.now _)
    | false => exact Ev.congr (fun k => by rw [if_neg (by decide)]; rfl) (Ev.now _)
  by_cases c3 : cls = 3
  · subst c3
    unfold isSpec; rw [if_neg (by decide), if_neg (by decide), if_pos rfl]
    have := ref_tag_ev s hs
    refine Ev.congr (fun k => by unfold postbagref3_Is.f; rw [if_neg (by decide), if_neg (by decide), if_pos rfl]) ?_
    rw [← size_len s] at this
    have e : (atomL s.data.toList && (decide (s.data.toList.length ≤ 32) && !s.data.toList.contains 43)) = (!(s.data.toList.contains 43) && ((s.data.toList.all plainU && decide (0 < s.data.toList.length)) && decide (s.data.toList.length ≤ 32))) := by
      unfold atomL
      cases s.data.toList.contains 43 <;> cases (s.data.toList.all plainU && decide (0 < s.data.toList.length)) <;> cases decide (s.data.toList.length ≤ 32) <;> rfl
    rw [e]; exact this
  by_cases c4 : cls = 4
  · subst c4
    unfold isSpec; rw [if_neg (by decide), if_neg (by decide), if_neg (by decide), if_pos rfl]
    have no : Ev (fun k => postbagref3_Is.j1 k s false) (atomL s.data.toList && decide (s.data.toList.length ≤ 24)) := by
      refine Ev.step (fun k => by simp only [postbagref3_Is.j1]; rw [if_neg (by decide)]) (Ev.bind ha ?_)
      cases c : atomL s.data.toList with
      | true => exact Ev.congr (fun k => by rw [if_pos rfl]; congr 1; rw [size_len, Bool.true_and, decide_eq_decide]; omega) (Ev.now _)
      | false => exact Ev.congr (fun k => by rw [if_neg (by decide)]; rfl) (Ev.now _)
    by_cases hz : 0 < s.size
    · have e0 : bt s 0 = ((s.data.toList.headD 0).toNat : Int) := by
        have := bt_nat s 0 hz
        rw [show ((0 : Nat) : Int) = 0 from rfl] at this
        rw [this]
        have hd := drop_at s 0 hz
        rw [List.drop_zero] at hd
        rw [hd]; rfl
      by_cases hb : s.data.toList.headD 0 = 92
      · rw [if_pos hb]
        have hb2 : (bt s 0 == 92) = true := by rw [e0, hb]; rfl
        refine Ev.congr (fun k => by unfold postbagref3_Is.f; rw [if_neg (by decide), if_neg (by decide), if_neg (by decide), if_neg (by decide), if_pos rfl, if_pos (by omega), if_pos (by omega), hb2]) ?_
        have := ref_atom (s.extract 1 s.size) (by rw [ByteArray.size_extract]; omega)
        rw [tail_data] at this
        exact Ev.step (fun k => by simp only [postbagref3_Is.j1, if_true]; rw [if_pos (by omega)]) (Ev.bind this (Ev.now _))
      · rw [if_neg hb]
        have hb2 : (bt s 0 == 92) = false := beq_eq_false_iff_ne.2 (fun he => hb (by rw [e0] at he; exact UInt8.toNat_inj.1 (by have e : (92 : UInt8).toNat = 92 := rfl; omega)))
        refine Ev.congr (fun k => by unfold postbagref3_Is.f; rw [if_neg (by decide), if_neg (by decide), if_neg (by decide), if_neg (by decide), if_pos rfl, if_pos (by omega), if_pos (by omega), hb2]) no
    · have hl : s.data.toList = [] := List.eq_nil_of_length_eq_zero (by rw [size_len]; omega)
      have hh : ¬ s.data.toList.headD 0 = 92 := by rw [hl]; decide
      rw [if_neg hh]
      exact Ev.congr (fun k => by unfold postbagref3_Is.f; rw [if_neg (by decide), if_neg (by decide), if_neg (by decide), if_neg (by decide), if_pos rfl, if_neg (by omega)]) no
  by_cases c5 : cls = 5
  · subst c5
    unfold isSpec; rw [if_neg (by decide), if_neg (by decide), if_neg (by decide), if_neg (by decide), if_pos rfl]
    refine Ev.congr (fun k => by unfold postbagref3_Is.f; rw [if_neg (by decide), if_neg (by decide), if_neg (by decide), if_pos rfl]) (Ev.bind ha ?_)
    cases c : atomL s.data.toList with
    | true => exact Ev.congr (fun k => by rw [if_pos rfl]; congr 1; rw [size_len, Bool.true_and, decide_eq_decide]; omega) (Ev.now _)
    | false => exact Ev.congr (fun k => by rw [if_neg (by decide)]; rfl) (Ev.now _)
  by_cases c6 : cls = 6
  · subst c6
    unfold isSpec; rw [if_neg (by decide), if_neg (by decide), if_neg (by decide), if_neg (by decide), if_neg (by decide), if_pos rfl, size_len]
    exact Ev.congr (fun k => by unfold postbagref3_Is.f; rw [if_neg (by decide), if_neg (by decide), if_neg (by decide), if_neg (by decide), if_neg (by decide), if_pos rfl]) (ref_pat_ev s hs)
  · unfold isSpec; rw [if_neg c1, if_neg c2, if_neg c3, if_neg c4, if_neg c5, if_neg c6]
    exact Ev.congr (fun k => by unfold postbagref3_Is.f; rw [if_neg c1, if_neg c2, if_neg c3, if_neg c5, if_neg c4, if_neg c6]) (Ev.now false)
end
end Go.Proofs.YtkfehogefclhdaaDoor.Pure
