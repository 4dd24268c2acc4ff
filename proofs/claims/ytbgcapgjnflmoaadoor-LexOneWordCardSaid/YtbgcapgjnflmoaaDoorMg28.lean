/- Contracts of the functions that the statement reaches, and plain lemmas: ClassesO, Classes2O, TextsO. -/
import Derived.Test.YtbgcapgjnflmoaaDoorMg27
import Derived.Lib.IndexAny
import Derived.Test.YtbgcapgjnflmoaaDoorMg0
set_option linter.unusedVariables false
set_option linter.unusedSimpArgs false
set_option linter.unnecessarySimpa false
namespace Go.Proofs.YtbgcapgjnflmoaaDoor.Pure
open Go.RowKit Go.Proofs.YtbgcapgjnflmoaaDoor.PLo Go.Proofs.YtbgcapgjnflmoaaDoorW.PrintWords Go.Proofs.YtbgcapgjnflmoaaDoorW.PrintLast

/-! The classes of texts, on lists of bytes. -/
theorem w64 {z : Int} (h0 : -9223372036854775808 ≤ z) (h1 : z ≤ 9223372036854775807) : wrap64 z = z := by unfold wrap64; omega
def gradeI (c : Int) : Int := (lex_grade.f 6 c).getD 0
def plainI (c : Int) : Bool := !(decide (Go.bits .and .u8 (gradeI c) 2 = 0))
theorem grade_fin : ∀ c : Fin 256, lex_grade.f 6 (c.val : Int) = some (gradeI c.val) := by decide +kernel
theorem atom_fin : ∀ c : Fin 256, (decide (Go.bits .and .u8 (gradeI c.val) 2 = 0)) = !(plainI c.val) := fun c => (Bool.not_not _).symm
theorem match_fin : ∀ c : Fin 256, (decide (Go.bits .and .u8 (gradeI c.val) 4 = 0)) = !(plainI c.val || c.val == 37 || c.val == 42) := by decide +kernel
theorem quote_fin : ∀ c : Fin 256, (decide (Go.bits .and .u8 (gradeI c.val) 8 = 0)) = (c.val == 0 || decide (127 < c.val) || c.val == 10 || c.val == 13) := by decide +kernel
theorem count_fin : ∀ c : Fin 256, (decide (Go.bits .and .u8 (gradeI c.val) 16 = 0)) = !(decide (48 ≤ c.val) && decide (c.val ≤ 57)) := by decide +kernel
def plainU (b : UInt8) : Bool := plainI (b.toNat : Int)
def matchU (b : UInt8) : Bool := plainU b || b == 37 || b == 42
def quoteU (b : UInt8) : Bool := !(b == 0 || decide (127 < b.toNat) || b == 10 || b == 13)
def countU (b : UInt8) : Bool := decide (48 ≤ b.toNat) && decide (b.toNat ≤ 57)
/-- What a bit stands for. -/
def goodU (bit : Int) (b : UInt8) : Bool := !(decide (Go.bits .and .u8 (gradeI (b.toNat : Int)) bit = 0))
theorem fin_of (b : UInt8) : ∃ c : Fin 256, c.val = b.toNat := ⟨⟨b.toNat, b.toNat_lt⟩, rfl⟩
theorem eqU (b : UInt8) (n : Nat) (m : UInt8) (h : m.toNat = n) : (b == m) = (b.toNat == n) := by
  rw [Bool.eq_iff_iff, beq_iff_eq, beq_iff_eq, ← UInt8.toNat_inj, h]
theorem good_atom (b : UInt8) : goodU 2 b = plainU b := by
  obtain ⟨c, hc⟩ := fin_of b
  unfold goodU plainU; rw [← hc, atom_fin c, Bool.not_not]
theorem good_match (b : UInt8) : goodU 4 b = matchU b := by
  obtain ⟨c, hc⟩ := fin_of b
  unfold goodU matchU plainU; rw [← hc, match_fin c, Bool.not_not, hc, eqU b 37 37 rfl, eqU b 42 42 rfl]
theorem good_quote (b : UInt8) : goodU 8 b = quoteU b := by
  obtain ⟨c, hc⟩ := fin_of b
  unfold goodU quoteU; rw [← hc, quote_fin c, hc, eqU b 0 0 rfl, eqU b 10 10 rfl, eqU b 13 13 rfl]
theorem good_count (b : UInt8) : goodU 16 b = countU b := by
  obtain ⟨c, hc⟩ := fin_of b
  unfold goodU countU; rw [← hc, count_fin c, Bool.not_not]
theorem bt_nat (s : ByteArray) (i : Nat) (h : i < s.size) : bt s (i : Int) = ((s[i]).toNat : Int) := by
  unfold bt; simp [h]
theorem drop_at (s : ByteArray) (i : Nat) (h : i < s.size) : s.data.toList.drop i = s[i] :: s.data.toList.drop (i + 1) := by
  have h' : i < s.data.size := h
  rw [List.drop_eq_getElem_cons (by simpa using h')]; simp; rfl
theorem grade_ev (b : UInt8) : Ev (fun k => lex_grade.f k (b.toNat : Int)) (gradeI b.toNat) := by
  obtain ⟨c, hc⟩ := fin_of b
  exact Ev.of (lex_grade.mono _) (k := 6) (by rw [← hc]; exact grade_fin c)

section
variable (s : ByteArray) (hs : s.size ≤ 140737488351232)
include hs
theorem all_ev (bit : Int) : Ev (fun k => lex_all.f k s bit) (s.data.toList.all (goodU bit)) := by
  have go : ∀ (d i : Nat), s.size - i = d → i ≤ s.size → Ev (fun k => lex_all.l0 k s bit s.size i) ((s.data.toList.drop i).all (goodU bit)) := by
    intro d
    induction d with
    | zero =>
      intro i hd hi
      have e : i = s.size := by omega
      subst e
      refine Ev.step (f := fun _ => some true) (fun k => ?_) ?_
      · simp only [lex_all.l0]; rw [if_neg (by omega)]
      · rw [List.drop_of_length_le (by simp)]; exact Ev.now true
    | succ d ih =>
      intro i hd hi
      have hlt : i < s.size := by omega
      have e1 : wrap64 ((i : Int) + 1) = ((i + 1 : Nat) : Int) := by rw [w64 (by omega) (by omega)]; rfl
      have hn := ih (i + 1) (by omega) (by omega)
      rw [drop_at s i hlt, List.all_cons]
      refine Ev.step (f := fun k => (lex_grade.f k (s[i].toNat : Int)).bind fun t104 => if Go.bits .and .u8 t104 bit = 0 then some false else lex_all.l0 k s bit s.size (i + 1 : Nat)) (fun k => ?_) (Ev.bind (grade_ev s[i]) ?_)
      · simp only [lex_all.l0]; rw [if_pos (by omega), if_pos (by omega), if_pos (by omega), bt_nat s i hlt, e1]
      · by_cases c : Go.bits .and .u8 (gradeI (s[i].toNat : Int)) bit = 0
        · have hg : goodU bit s[i] = false := by unfold goodU; rw [decide_eq_true c]; rfl
          rw [hg, Bool.false_and]
          exact Ev.congr (fun k => by rw [if_pos c]) (Ev.now false)
        · have hg : goodU bit s[i] = true := by unfold goodU; rw [decide_eq_false c]; rfl
          rw [hg, Bool.true_and]
          exact Ev.congr (fun k => by rw [if_neg c]) hn
  have := go s.size 0 rfl (by omega)
  rw [List.drop_zero] at this
  exact this
end
end Go.Proofs.YtbgcapgjnflmoaaDoor.Pure

namespace Go.Proofs.YtbgcapgjnflmoaaDoor.Pure
open Go.RowKit Go.Proofs.YtbgcapgjnflmoaaDoor.PLo Go.Proofs.YtbgcapgjnflmoaaDoorW.PrintWords Go.Proofs.YtbgcapgjnflmoaaDoorW.PrintLast

def atomL (l : List UInt8) : Bool := l.all plainU && decide (0 < l.length)
def nullL (l : List UInt8) : Bool := l.map Ext.lowB == [110, 105, 108]
def isSpec (cls : Int) (l : List UInt8) : Bool :=
  if cls = 1 then atomL l
  else if cls = 2 then atomL l && !nullL l
  else if cls = 3 then atomL l && (decide (l.length ≤ 32) && !l.contains 43)
  else if cls = 4 then (if l.headD 0 = 92 then atomL l.tail else atomL l && decide (l.length ≤ 24))
  else if cls = 5 then atomL l && decide (l.length ≤ 24)
  else if cls = 6 then l.all matchU && decide (0 < l.length)
  else false
theorem size_len (s : ByteArray) : s.data.toList.length = s.size := by simp
theorem isSpec_nil (cls : Int) : isSpec cls [] = false := by
  unfold isSpec atomL
  repeat' split
  all_goals first | rfl | simp_all
theorem low_fin : ∀ c : Fin 256, (Ext.lowB (UInt8.ofNat c.val) == 110) = (c.val == 78 || c.val == 110) ∧ (Ext.lowB (UInt8.ofNat c.val) == 105) = (c.val == 73 || c.val == 105) ∧ (Ext.lowB (UInt8.ofNat c.val) == 108) = (c.val == 76 || c.val == 108) := by decide +kernel
theorem low_of (b : UInt8) : (Ext.lowB b == 110) = (b.toNat == 78 || b.toNat == 110) ∧ (Ext.lowB b == 105) = (b.toNat == 73 || b.toNat == 105) ∧ (Ext.lowB b == 108) = (b.toNat == 76 || b.toNat == 108) := by
  have := low_fin ⟨b.toNat, b.toNat_lt⟩
  simpa using this
theorem tail_data (s : ByteArray) : (s.extract 1 s.size).data.toList = s.data.toList.tail := by
  simp only [ByteArray.data_extract, Array.toList_extract, List.extract_eq_take_drop]
  rw [List.take_of_length_le (by simp), List.drop_one]
theorem same_nil (s : ByteArray) (hs : s.size ≤ 140737488351232) : octet_Same.f s (⟨#[78, 73, 76]⟩ : ByteArray) = some (nullL s.data.toList) := by
  unfold octet_Same.f octet_Lower.f
  rw [if_pos hs, if_pos (by decide)]
  simp only [Option.bind_some]
  congr 1
  rw [ByteArray.toList_eq, ByteArray.toList_eq]
  unfold nullL Ext.lowBA
  simp only [Array.toList_map]
  rfl
section
variable (s : ByteArray) (hs : s.size ≤ 140737488351232)
include hs
omit hs in
theorem pos_len (h : s.toList ≠ []) : decide (0 < s.data.toList.length) = true := by
  rw [ByteArray.toList_eq] at h
  exact decide_eq_true (List.length_pos_iff.2 h)
theorem all_atom (h : s.toList ≠ []) : Ev (fun k => lex_all.f k s 2) (atomL s.data.toList) := by
  have := all_ev s hs 2
  rw [show (goodU 2) = plainU from funext good_atom] at this
  unfold atomL; rwa [pos_len s h, Bool.and_true]
theorem lex_atom (h : s.toList ≠ []) : Ev (fun k => lex_Is.f k 1 s) (atomL s.data.toList) := by
  refine Ev.step (fun k => by simp only [lex_Is.f]; rw [if_neg h]; simp only [if_true]) (Ev.bind (all_atom s hs h) (Ev.now _))
/-- lex.Is, of every class. -/
theorem lex_Is_ev (cls : Int) : Ev (fun k => lex_Is.f k cls s) (isSpec cls s.data.toList) := by
  by_cases h : s.toList = []
  · rw [show s.data.toList = [] by rw [← ByteArray.toList_eq]; exact h, isSpec_nil]
    refine Ev.step (f := fun _ => some false) (fun k => ?_) (Ev.now false)
    simp only [lex_Is.f]; rw [if_pos h]
  · have hp := pos_len s h
    have hsz : 0 < s.size := by rw [← size_len]; exact of_decide_eq_true hp
    by_cases c1 : cls = 1
    · subst c1; exact lex_atom s hs h
    by_cases c2 : cls = 2
    · subst c2
      unfold isSpec; rw [if_neg (by decide), if_pos rfl]
      refine Ev.step (fun k => by simp only [lex_Is.f]; rw [if_neg h, if_neg (by decide), if_pos trivial]) (Ev.bind (all_atom s hs h) ?_)
      cases c : atomL s.data.toList with
      | true => exact Ev.congr (fun k => by rw [if_pos rfl, same_nil s hs]; rfl) (Ev.now _)
      | false => exact Ev.congr (fun k => by rw [if_neg (by decide)]; rfl) (Ev.now _)
    by_cases c3 : cls = 3
    · subst c3
      unfold isSpec; rw [if_neg (by decide), if_neg (by decide), if_pos rfl]
      refine Ev.step (fun k => by simp only [lex_Is.f]; rw [if_neg h, if_neg (by decide), if_neg (by decide), if_pos trivial]) (Ev.bind (all_atom s hs h) ?_)
      cases c : atomL s.data.toList with
      | true =>
        refine Ev.congr (fun k => ?_) (Ev.now _)
        rw [if_pos rfl]
        by_cases hl : s.size ≤ 32
        · rw [if_pos (by omega)]
          unfold strings_Contains.f
          rw [if_pos (by decide)]
          simp only [Option.bind_some]
          rw [size_len, decide_eq_true hl, Lib.contains_iff_indexByte]; rfl
        · rw [if_neg (by omega), size_len, decide_eq_false hl]; rfl
      | false => exact Ev.congr (fun k => by rw [if_neg (by decide)]; rfl) (Ev.now _)
    by_cases c4 : cls = 4
    · subst c4
      unfold isSpec; rw [if_neg (by decide), if_neg (by decide), if_neg (by decide), if_pos rfl]
      have e0 : bt s 0 = ((s.data.toList.headD 0).toNat : Int) := by
        have := bt_nat s 0 hsz
        rw [show ((0 : Nat) : Int) = 0 from rfl] at this
        rw [this]
        have hd := drop_at s 0 hsz
        rw [List.drop_zero] at hd
        rw [hd]; rfl
      by_cases hb : s.data.toList.headD 0 = 92
      · rw [if_pos hb]
        have hb2 : bt s 0 = 92 := by rw [e0, hb]; rfl
        have tl := tail_data s
        by_cases ht : (s.extract 1 s.size).toList = []
        · rw [← tl, show (s.extract 1 s.size).data.toList = [] by rw [← ByteArray.toList_eq]; exact ht]
          refine Ev.step (f := fun k => (lex_Is.f k 1 (s.extract 1 s.size)).bind fun t => some t) (fun k => ?_) (Ev.bind (Ev.step (f := fun _ => some false) (fun k => ?_) (Ev.now false)) (Ev.now _))
          · simp only [lex_Is.f]; rw [if_neg h, if_neg (by decide), if_neg (by decide), if_neg (by decide), if_pos trivial, if_pos (by omega), if_pos hb2, if_pos (by omega)]
          · simp only [lex_Is.f]; rw [if_pos ht]
        · have := lex_atom (s.extract 1 s.size) (by rw [ByteArray.size_extract]; omega) ht
          rw [tl] at this
          refine Ev.step (f := fun k => (lex_Is.f k 1 (s.extract 1 s.size)).bind fun t => some t) (fun k => ?_) (Ev.bind this (Ev.now _))
          simp only [lex_Is.f]; rw [if_neg h, if_neg (by decide), if_neg (by decide), if_neg (by decide), if_pos trivial, if_pos (by omega), if_pos hb2, if_pos (by omega)]
      · rw [if_neg hb]
        have hb2 : ¬ bt s 0 = 92 := fun he => hb (by rw [e0] at he; exact UInt8.toNat_inj.1 (by have e : (92 : UInt8).toNat = 92 := rfl; omega))
        refine Ev.step (fun k => by simp only [lex_Is.f]; rw [if_neg h, if_neg (by decide), if_neg (by decide), if_neg (by decide), if_pos trivial, if_pos (by omega), if_neg hb2]) (Ev.bind (all_atom s hs h) ?_)
        cases c : atomL s.data.toList with
        | true => exact Ev.congr (fun k => by rw [if_pos rfl]; congr 1; rw [size_len, Bool.true_and, decide_eq_decide]; omega) (Ev.now _)
        | false => exact Ev.congr (fun k => by rw [if_neg (by decide)]; rfl) (Ev.now _)
    by_cases c5 : cls = 5
    · subst c5
      unfold isSpec; rw [if_neg (by decide), if_neg (by decide), if_neg (by decide), if_neg (by decide), if_pos rfl]
      refine Ev.step (fun k => by simp only [lex_Is.f]; rw [if_neg h, if_neg (by decide), if_neg (by decide), if_neg (by decide), if_neg (by decide), if_pos trivial]) (Ev.bind (all_atom s hs h) ?_)
      cases c : atomL s.data.toList with
      | true => exact Ev.congr (fun k => by rw [if_pos rfl]; congr 1; rw [size_len, Bool.true_and, decide_eq_decide]; omega) (Ev.now _)
      | false => exact Ev.congr (fun k => by rw [if_neg (by decide)]; rfl) (Ev.now _)
    by_cases c6 : cls = 6
    · subst c6
      unfold isSpec; rw [if_neg (by decide), if_neg (by decide), if_neg (by decide), if_neg (by decide), if_neg (by decide), if_pos rfl, hp, Bool.and_true]
      have := all_ev s hs 4
      rw [show (goodU 4) = matchU from funext good_match] at this
      exact Ev.step (fun k => by simp only [lex_Is.f]; rw [if_neg h, if_neg (by decide), if_neg (by decide), if_neg (by decide), if_neg (by decide), if_neg (by decide), if_pos trivial]) (Ev.bind this (Ev.now _))
    · unfold isSpec; rw [if_neg c1, if_neg c2, if_neg c3, if_neg c4, if_neg c5, if_neg c6]
      exact Ev.step (f := fun _ => some false) (fun k => by simp only [lex_Is.f]; rw [if_neg h, if_neg c1, if_neg c2, if_neg c3, if_neg c4, if_neg c5, if_neg c6]) (Ev.now false)
end
end Go.Proofs.YtbgcapgjnflmoaaDoor.Pure

namespace Go.Proofs.YtbgcapgjnflmoaaDoor.Pure
open Go.RowKit Go.Proofs.YtbgcapgjnflmoaaDoor.PLo Go.Proofs.YtbgcapgjnflmoaaDoorW.PrintWords Go.Proofs.YtbgcapgjnflmoaaDoorW.PrintLast

/-! Texts as they are sent. -/
def litBA (s : ByteArray) : ByteArray := (((⟨#[123]⟩ : ByteArray) ++ Ext.itoaBA (s.size : Int)) ++ (⟨#[125, 13, 10]⟩ : ByteArray)) ++ s
def stringBA (s : ByteArray) : ByteArray := if s.data.toList.all quoteU = true then Ext.quoteBA s else litBA s
def putBA (s : ByteArray) : ByteArray := if isSpec 2 s.data.toList = true then s else stringBA s
theorem dec_len : ∀ n : Nat, (Lib.decDigits n).length ≤ n + 1 := by
  intro n
  induction n using Nat.strongRecOn with
  | _ n ih =>
    rw [Lib.decDigits]
    split
    · simp
    · have := ih (n / 10) (by omega)
      simp only [List.length_append, List.length_cons, List.length_nil]; omega
theorem itoa_nat (n : Nat) : Lib.itoa (n : Int) = Lib.decDigits n := by
  unfold Lib.itoa; rw [if_neg (by omega), Int.toNat_natCast]
theorem itoa_size (n : Nat) : (Ext.itoaBA (n : Int)).size ≤ n + 1 := by
  unfold Ext.itoaBA; rw [itoa_nat]
  have := dec_len n
  show (Lib.decDigits n).toArray.size ≤ n + 1
  simpa using this
theorem quote_size (s : ByteArray) : s.size + 2 ≤ (Ext.quoteBA s).size := by
  show s.size + 2 ≤ (Ext.quoteL s.data.toList).toArray.size
  have h1 : ∀ l : List UInt8, l.length ≤ (l.flatMap Ext.esc).length := by
    intro l
    induction l with
    | nil => simp
    | cons c l ih =>
      rw [List.flatMap_cons, List.length_append]
      have : 1 ≤ (Ext.esc c).length := by unfold Ext.esc; split <;> simp
      simp only [List.length_cons]; omega
  have := h1 s.data.toList
  rw [size_len] at this
  unfold Ext.quoteL
  simp only [List.size_toArray, List.length_cons, List.length_append, List.length_nil]; omega
section
variable (s : ByteArray) (hs : s.size ≤ 1048576)
include hs
theorem lit_steps {α : Type} (t : ByteArray) (ht : t = Ext.itoaBA (s.size : Int)) (f : ByteArray → Option α) :
    (if 1 + t.size ≤ 9223372036854775807 then (if ((⟨#[123]⟩ : ByteArray) ++ t).size + 3 ≤ 9223372036854775807 then (if (((⟨#[123]⟩ : ByteArray) ++ t) ++ (⟨#[125, 13, 10]⟩ : ByteArray)).size + s.size ≤ 9223372036854775807 then (f ((((⟨#[123]⟩ : ByteArray) ++ t) ++ (⟨#[125, 13, 10]⟩ : ByteArray)) ++ s)) else (none)) else (none)) else (none)) = f (litBA s) := by
  subst ht
  have h := itoa_size s.size
  have e1 : (⟨#[123]⟩ : ByteArray).size = 1 := rfl
  have e3 : (⟨#[125, 13, 10]⟩ : ByteArray).size = 3 := rfl
  rw [if_pos (by omega), if_pos (by rw [ByteArray.size_append, e1]; omega), if_pos (by rw [ByteArray.size_append, ByteArray.size_append, e1, e3]; omega)]
  rfl
theorem all_quote_ev : Ev (fun k => lex_all.f k s 8) (s.data.toList.all quoteU) := by
  have := all_ev s (by omega) 8
  rwa [show (goodU 8) = quoteU from funext good_quote] at this
theorem itoa_some : strconv_Itoa.f (s.size : Int) = some (Ext.itoaBA (s.size : Int)) := by
  unfold strconv_Itoa.f; rw [if_pos (by omega)]
theorem lex_String_ev : Ev (fun k => lex_String.f k s) (stringBA s) := by
  refine Ev.congr (fun k => by unfold lex_String.f; rfl) (Ev.bind (all_quote_ev s hs) ?_)
  unfold stringBA
  cases c : s.data.toList.all quoteU with
  | true =>
    refine Ev.congr (fun k => ?_) (Ev.now _)
    rw [if_pos rfl]; unfold lex_quote.f; rw [if_pos (by omega)]; rfl
  | false =>
    refine Ev.congr (fun k => ?_) (Ev.now _)
    rw [if_neg (by decide), itoa_some s hs]
    simp only [Option.bind_some]
    exact lit_steps s hs _ rfl some
theorem lex_Put_ev : Ev (fun k => lex_Put.f k s) (putBA s) := by
  refine Ev.congr (fun k => by unfold lex_Put.f; rfl) (Ev.bind (lex_Is_ev s (by omega) 2) ?_)
  unfold putBA
  cases c : isSpec 2 s.data.toList with
  | true => exact Ev.congr (fun k => by rw [if_pos rfl]; rfl) (Ev.now _)
  | false => exact Ev.congr (fun k => by rw [if_neg (by decide)]) (Ev.bind (lex_String_ev s hs) (Ev.now _))
theorem lex_Nstring_ev (is : Bool) : Ev (fun k => lex_Nstring.f k is s) (if is = true then stringBA s else ⟨#[78, 73, 76]⟩) := by
  cases is with
  | true => exact Ev.congr (fun k => by unfold lex_Nstring.f; rw [if_pos rfl]) (Ev.bind (lex_String_ev s hs) (Ev.now _))
  | false => exact Ev.congr (fun k => by unfold lex_Nstring.f; rw [if_neg (by decide)]; rfl) (Ev.now _)
end
end Go.Proofs.YtbgcapgjnflmoaaDoor.Pure
