import Derived.Test.YtkfehogefclhdaaDoorTexts
namespace Go.Proofs.YtkfehogefclhdaaDoor.Pure
open Go.RowKit Go.Proofs.YtkfehogefclhdaaDoor.PLt Go.Proofs.YtkfehogefclhdaaDoorW.PrintWords Go.Proofs.YtkfehogefclhdaaDoorW.PrintLast

/-! The reference's texts. -/
theorem ref_decimal_ev : ∀ n : Nat, n ≤ 9223372036854775807 → Ev (fun k => postbagref3_decimal.f k (n : Int)) (⟨(Lib.decDigits n).toArray⟩ : ByteArray) := by
  intro n
  induction n using Nat.strongRecOn with
  | _ n ih =>
    intro hn
    rw [Lib.decDigits]
    split
    · rename_i h
      refine Ev.step (f := fun _ => some _) (fun k => ?_) (Ev.now _)
      simp only [postbagref3_decimal.f]
      rw [if_pos (by omega), w64 (by omega) (by omega)]
      congr 1
      unfold strOfNums
      have e : ((48 + (n : Int)) % 256).toNat = 48 + n := by omega
      simp only [List.map_cons, List.map_nil]
      rw [e]
    · rename_i h
      have e1 : Int.tdiv (n : Int) 10 = ((n / 10 : Nat) : Int) := by rw [Int.tdiv_eq_ediv_of_nonneg (by omega)]; omega
      have e2 : Int.tmod (n : Int) 10 = ((n % 10 : Nat) : Int) := by rw [Int.tmod_eq_emod_of_nonneg (by omega)]; omega
      have h1 := ih (n / 10) (by omega) (by omega)
      have h2 := ih (n % 10) (by omega) (by omega)
      rw [Lib.decDigits.eq_def (n % 10), dif_pos (by omega)] at h2
      refine Ev.step (fun k => by simp only [postbagref3_decimal.f]; rw [if_neg (by omega), e1, w64 (by omega) (by omega), e2]) (Ev.bind h1 (Ev.bind h2 (Ev.congr (fun k => ?_) (Ev.now _))))
      have hl := dec_len (n / 10)
      have s1 : (⟨(Lib.decDigits (n / 10)).toArray⟩ : ByteArray).size = (Lib.decDigits (n / 10)).length := by show (Lib.decDigits (n / 10)).toArray.size = _; simp
      have s2 : (⟨([UInt8.ofNat (48 + n % 10)]).toArray⟩ : ByteArray).size = 1 := rfl
      rw [if_pos (by rw [s1, s2]; omega)]
      congr 1
def numsOf (l : List UInt8) : List Int := l.map fun b => (b.toNat : Int)
theorem str_nums (l : List UInt8) : strOfNums (numsOf l) = ⟨l.toArray⟩ := by
  unfold strOfNums numsOf; simp [List.map_map, Function.comp_def]
section
variable (s : ByteArray) (hs : s.size ≤ 1048576)
include hs
theorem ref_quote_ev : Ev (fun k => postbagref3_quote.f k s) (Ext.quoteBA s) := by
  have go : ∀ (d i : Nat), s.size - i = d → i ≤ s.size → Ev (fun k => postbagref3_quote.l0 k s (numsOf (Ext.held s i)) i) (Ext.quoteBA s) := by
    intro d
    induction d with
    | zero =>
      intro i hd hi
      have e : i = s.size := by omega
      subst e
      have hl := Ext.held_len s s.size
      refine Ev.step (f := fun _ => some (Ext.quoteBA s)) (fun k => ?_) (Ev.now _)
      simp only [postbagref3_quote.l0]
      have hl2 : (numsOf (Ext.held s s.size)).length = (Ext.held s s.size).length := by simp [numsOf]
      rw [if_neg (by omega), if_pos (by rw [hl2]; omega)]
      have e2 : numsOf (Ext.held s s.size) ++ [34] = numsOf (Ext.quoteL s.data.toList) := by
        rw [← Ext.held_end s]; unfold numsOf; simp
      rw [e2, str_nums]; rfl
    | succ d ih =>
      intro i hd hi
      have hlt : i < s.size := by omega
      have e1 : wrap64 ((i : Int) + 1) = ((i + 1 : Nat) : Int) := by rw [w64 (by omega) (by omega)]; rfl
      have hn := ih (i + 1) (by omega) (by omega)
      have hl := Ext.held_len s i
      have hl2 : (numsOf (Ext.held s i)).length = (Ext.held s i).length := by simp [numsOf]
      have hb := bt_nat s i hlt
      have esc : ∀ x : UInt8, s[i] = x → (x = 34 ∨ x = 92) → (numsOf (Ext.held s i) ++ [92]) ++ [bt s i] = numsOf (Ext.held s (i + 1)) := fun x hx hx2 => by
        rw [← Ext.held_esc s i hlt (by rw [hx]; exact hx2), hb]; unfold numsOf; simp
      by_cases h34 : bt s i = 34
      · have hx : s[i] = 34 := UInt8.toNat_inj.1 (by have e : (34 : UInt8).toNat = 34 := rfl; omega)
        refine Ev.step (fun k => ?_) hn
        simp only [postbagref3_quote.l0]
        rw [if_pos (by omega), if_pos (by omega), if_pos h34, if_pos (by rw [hl2]; omega)]
        simp only [Option.bind_some]
        rw [if_pos (by rw [List.length_append, hl2]; simp; omega), esc _ hx (.inl rfl), e1]
      · by_cases h92 : bt s i = 92
        · have hx : s[i] = 92 := UInt8.toNat_inj.1 (by have e : (92 : UInt8).toNat = 92 := rfl; omega)
          refine Ev.step (fun k => ?_) hn
          simp only [postbagref3_quote.l0]
          rw [if_pos (by omega), if_pos (by omega), if_neg h34, if_pos h92, if_pos (by rw [hl2]; omega)]
          simp only [Option.bind_some]
          rw [if_pos (by rw [List.length_append, hl2]; simp; omega), esc _ hx (.inr rfl), e1]
        · refine Ev.step (fun k => ?_) hn
          have ep : numsOf (Ext.held s i) ++ [bt s i] = numsOf (Ext.held s (i + 1)) := by
            rw [← Ext.held_plain s i hlt (fun h => h34 (by rw [hb, h]; rfl)) (fun h => h92 (by rw [hb, h]; rfl)), hb]; unfold numsOf; simp
          simp only [postbagref3_quote.l0]
          rw [if_pos (by omega), if_pos (by omega), if_neg h34, if_neg h92, if_pos (by rw [hl2]; omega), ep, e1]
  have := go s.size 0 rfl (by omega)
  exact this
theorem ref_lit {α : Type} (f : ByteArray → Option α) {r : α} (hf : f (litBA s) = some r) : Ev (fun k => (postbagref3_decimal.f k (s.size : Int)).bind fun t => (if 1 + t.size ≤ 9223372036854775807 then (if ((⟨#[123]⟩ : ByteArray) ++ t).size + 3 ≤ 9223372036854775807 then (if (((⟨#[123]⟩ : ByteArray) ++ t) ++ (⟨#[125, 13, 10]⟩ : ByteArray)).size + s.size ≤ 9223372036854775807 then (f ((((⟨#[123]⟩ : ByteArray) ++ t) ++ (⟨#[125, 13, 10]⟩ : ByteArray)) ++ s)) else (none)) else (none)) else (none))) r := by
  refine Ev.bind (ref_decimal_ev s.size (by omega)) (Ev.congr (fun k => ?_) (Ev.now r))
  rw [lit_steps s hs _ (by unfold Ext.itoaBA; rw [itoa_nat]), hf]
theorem ref_String_ev : Ev (fun k => postbagref3_String.f k s) (stringBA s) := by
  have hq := ref_quote_ev s hs
  have go : ∀ (d i : Nat), s.size - i = d → i ≤ s.size → Ev (fun k => postbagref3_String.l0 k s i) (if (s.data.toList.drop i).all quoteU = true then Ext.quoteBA s else litBA s) := by
    intro d
    induction d with
    | zero =>
      intro i hd hi
      have e : i = s.size := by omega
      subst e
      rw [List.drop_of_length_le (by simp), if_pos (List.all_nil (f := quoteU))]
      exact Ev.step (fun k => by simp only [postbagref3_String.l0]; rw [if_neg (by omega)]) (Ev.bind hq (Ev.now _))
    | succ d ih =>
      intro i hd hi
      have hlt : i < s.size := by omega
      have e1 : wrap64 ((i : Int) + 1) = ((i + 1 : Nat) : Int) := by rw [w64 (by omega) (by omega)]; rfl
      have hn := ih (i + 1) (by omega) (by omega)
      have hb := bt_nat s i hlt
      rw [drop_at s i hlt, List.all_cons]
      have q : quoteU s[i] = !(s[i].toNat == 0 || decide (127 < s[i].toNat) || s[i].toNat == 10 || s[i].toNat == 13) := by
        unfold quoteU; rw [eqU s[i] 0 0 rfl, eqU s[i] 10 10 rfl, eqU s[i] 13 13 rfl]
      by_cases c0 : bt s i < 1
      · have z : s[i].toNat = 0 := by omega
        have qf : quoteU s[i] = false := by rw [q, z]; rfl
        rw [qf, Bool.false_and, if_neg (by decide)]
        exact Ev.step (fun k => by simp only [postbagref3_String.l0]; rw [if_pos (by omega), if_pos (by omega), if_pos c0]) (ref_lit s hs some rfl)
      · have z0 : (s[i].toNat == 0) = false := beq_eq_false_iff_ne.2 (by omega)
        by_cases c1 : bt s i > 127
        · have z : decide (127 < s[i].toNat) = true := decide_eq_true (by omega)
          have qf : quoteU s[i] = false := by rw [q, z0, z]; rfl
          rw [qf, Bool.false_and, if_neg (by decide)]
          exact Ev.step (fun k => by simp only [postbagref3_String.l0]; rw [if_pos (by omega), if_pos (by omega), if_neg c0, if_pos c1]) (ref_lit s hs some rfl)
        · have z1 : decide (127 < s[i].toNat) = false := decide_eq_false (by omega)
          by_cases c2 : bt s i = 10
          · have z : (s[i].toNat == 10) = true := beq_iff_eq.2 (by omega)
            have qf : quoteU s[i] = false := by rw [q, z0, z1, z]; rfl
            rw [qf, Bool.false_and, if_neg (by decide)]
            exact Ev.step (fun k => by simp only [postbagref3_String.l0]; rw [if_pos (by omega), if_pos (by omega), if_neg c0, if_neg c1, if_pos c2]) (ref_lit s hs some rfl)
          · have z2 : (s[i].toNat == 10) = false := beq_eq_false_iff_ne.2 (by omega)
            by_cases c3 : bt s i = 13
            · have z : (s[i].toNat == 13) = true := beq_iff_eq.2 (by omega)
              have qf : quoteU s[i] = false := by rw [q, z0, z1, z2, z]; rfl
              rw [qf, Bool.false_and, if_neg (by decide)]
              exact Ev.step (fun k => by simp only [postbagref3_String.l0]; rw [if_pos (by omega), if_pos (by omega), if_neg c0, if_neg c1, if_neg c2, if_pos c3]) (ref_lit s hs some rfl)
            · have z3 : (s[i].toNat == 13) = false := beq_eq_false_iff_ne.2 (by omega)
              have qt : quoteU s[i] = true := by rw [q, z0, z1, z2, z3]; rfl
              rw [qt, Bool.true_and]
              exact Ev.step (fun k => by simp only [postbagref3_String.l0]; rw [if_pos (by omega), if_pos (by omega), if_neg c0, if_neg c1, if_neg c2, if_neg c3, e1]) hn
  have := go s.size 0 rfl (by omega)
  rw [List.drop_zero] at this
  exact this
theorem ref_Put_ev : Ev (fun k => postbagref3_Put.f k s) (putBA s) := by
  refine Ev.congr (fun k => by unfold postbagref3_Put.f; rfl) (Ev.bind (ref_Is_ev s (by omega) 2) ?_)
  unfold putBA
  cases c : isSpec 2 s.data.toList with
  | true => exact Ev.congr (fun k => by rw [if_pos rfl]; rfl) (Ev.now _)
  | false => exact Ev.congr (fun k => by rw [if_neg (by decide)]) (Ev.bind (ref_String_ev s hs) (Ev.now _))
theorem ref_Nstring_ev (is : Bool) : Ev (fun k => postbagref3_Nstring.f k is s) (if is = true then stringBA s else ⟨#[78, 73, 76]⟩) := by
  cases is with
  | true => exact Ev.congr (fun k => by unfold postbagref3_Nstring.f; rw [if_pos rfl]) (Ev.bind (ref_String_ev s hs) (Ev.now _))
  | false => exact Ev.congr (fun k => by unfold postbagref3_Nstring.f; rw [if_neg (by decide)]; rfl) (Ev.now _)
end
theorem put_inbox : putBA ⟨#[73, 78, 66, 79, 88]⟩ = ⟨#[73, 78, 66, 79, 88]⟩ := by
  unfold putBA; rw [if_pos (by decide +kernel)]
theorem LexTextsUpto (a0 : ByteArray) (a1 : Bool) (hs : a0.size ≤ 1048576) : ∃ k, postbaglaw3_LexTexts.f k a0 a1 = some true := by
  refine Ev.rounds ?_
  unfold postbaglaw3_LexTexts.f
  refine Ev.bind (lex_String_ev a0 hs) (Ev.bind (ref_String_ev a0 hs) ?_)
  refine Ev.congr (fun k => by rw [if_pos rfl]) ?_
  refine Ev.bind (lex_Put_ev a0 hs) (Ev.bind (ref_Put_ev a0 hs) ?_)
  refine Ev.congr (fun k => by rw [if_pos rfl]) ?_
  refine Ev.bind (lex_Nstring_ev a0 hs a1) (Ev.bind (ref_Nstring_ev a0 hs a1) ?_)
  refine Ev.congr (fun k => by rw [if_pos rfl]) ?_
  refine Ev.bind (lex_Put_ev ⟨#[73, 78, 66, 79, 88]⟩ (by decide)) (Ev.congr (fun k => ?_) (Ev.now true))
  rw [put_inbox, ByteArray.toList_eq]; rfl
end Go.Proofs.YtkfehogefclhdaaDoor.Pure
