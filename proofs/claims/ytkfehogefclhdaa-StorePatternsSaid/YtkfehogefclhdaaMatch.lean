import Derived.Test.YtkfehogefclhdaaPSmx1
import Derived.Test.YtkfehogefclhdaaPSmx2
import Derived.Test.YtkfehogefclhdaaPSmx4
namespace Go.Proofs.Ytkfehogefclhdaa.Pure
open Go.RowKit Go.Proofs.Ytkfehogefclhdaa.PSm Go.Proofs.YtkfehogefclhdaaW.PrintWords Go.Proofs.YtkfehogefclhdaaW.PrintLast

/-! The one meaning of Match, which both texts come to. -/
def lowI (c : Int) : Int := if 65 ≤ c ∧ c ≤ 90 then c + 32 else c
def starF (nm : ByteArray) (c : Int) (f : Nat → Bool) : Nat → Bool
  | 0 => f 0
  | j + 1 => f (j + 1) || (starF nm c f j && (c == 42 || bt nm j != 47))
def litF (nm : ByteArray) (fold : Nat) (c : Int) (f : Nat → Bool) : Nat → Bool
  | 0 => false
  | j + 1 => f j && (bt nm j == c || (decide (j + 1 ≤ fold) && (lowI (bt nm j) == lowI c)))
def rowF (nm : ByteArray) (fold : Nat) (c : Int) (f : Nat → Bool) : Nat → Bool := if c = 42 ∨ c = 37 then starF nm c f else litF nm fold c f
def M (p nm : ByteArray) (fold : Nat) : Nat → Nat → Bool
  | 0 => fun j => j == 0
  | i + 1 => rowF nm fold (bt p i) (M p nm fold i)
def foldB (nm : ByteArray) : Bool := nm.toList == [73, 78, 66, 79, 88] || (nm.extract 0 6).toList == [73, 78, 66, 79, 88, 47]
def foldOf (nm : ByteArray) : Nat := if foldB nm then 5 else 0
def matchB (p nm : ByteArray) : Bool := M p nm (foldOf nm) p.size nm.size

/-! Rows. -/
def Row (xs : List Bool) (n : Nat) (f : Nat → Bool) : Prop := xs.length = n + 1 ∧ ∀ j, j ≤ n → xs.getD j false = f j
theorem getD_set (xs : List Bool) (j t : Nat) (v : Bool) (h : j < xs.length) : (xs.set j v).getD t false = if t = j then v else xs.getD t false := by
  simp only [List.getD_eq_getElem?_getD, List.getElem?_set]
  by_cases e : j = t
  · subst e; simp [h]
  · simp [e, Ne.symm e]
theorem Row.rd {xs : List Bool} {n : Nat} {f : Nat → Bool} (h : Row xs n f) {j : Nat} (hj : j ≤ n) : rdOf false xs (j : Int) = f j := by
  unfold rdOf; rw [Int.toNat_natCast]; exact h.2 j hj
theorem Row.set {xs : List Bool} {n : Nat} {f g : Nat → Bool} (h : Row xs n f) {j : Nat} {v : Bool} (hj : j ≤ n) (hv : g j = v) (hg : ∀ t, t ≠ j → g t = f t) : Row (xs.set j v) n g := by
  refine ⟨by simpa using h.1, fun t ht => ?_⟩
  rw [getD_set xs j t v (by rw [h.1]; omega)]
  by_cases e : t = j
  · subst e; simp [hv]
  · rw [if_neg e, h.2 t ht, hg t e]
theorem Row.congr {xs : List Bool} {n : Nat} {f g : Nat → Bool} (h : Row xs n f) (hg : ∀ t, t ≤ n → g t = f t) : Row xs n g := ⟨h.1, fun t ht => by rw [h.2 t ht, hg t ht]⟩
theorem Row.first (n : Nat) (p nm : ByteArray) (fold : Nat) : Row ((List.replicate (n + 1) false).set 0 true) n (M p nm fold 0) := by
  refine ⟨by simp, fun t ht => ?_⟩
  rw [getD_set _ _ _ _ (by simp)]
  by_cases e : t = 0
  · subst e; simp [M]
  · have : (t == 0) = false := by simpa using e
    rw [if_neg e]; simp only [M, this, List.getD_eq_getElem?_getD, List.getElem?_replicate]; split <;> rfl
theorem w64 {z : Int} (h0 : -9223372036854775808 ≤ z) (h1 : z ≤ 9223372036854775807) : wrap64 z = z := by unfold wrap64; omega

/-- What stands in a row that is written from the left on: up to j the new, behind it the old. -/
def mixL (f g : Nat → Bool) (j : Nat) : Nat → Bool := fun t => if t ≤ j then g t else f t
def mixR (f g : Nat → Bool) (j : Nat) : Nat → Bool := fun t => if j < t then g t else f t

theorem lowB_lowI (c : UInt8) : ((Ext.lowB c).toNat : Int) = lowI c.toNat := by
  unfold lowI
  by_cases h : 65 ≤ (c.toNat : Int) ∧ (c.toNat : Int) ≤ 90
  · rw [if_pos h, Ext.lowB_yes h.1 h.2]
  · rw [if_neg h, Ext.lowB_no (by omega)]
theorem bt_nat (s : ByteArray) (i : Nat) (h : i < s.size) : bt s (i : Int) = ((s[i]).toNat : Int) := by
  unfold bt; simp [h]
theorem one_byte (s : ByteArray) (i : Nat) (h : i < s.size) : (s.extract i (i + 1)).data.toList = [s[i]] := by
  have h' : i < s.data.size := h
  simp only [ByteArray.data_extract, Array.toList_extract]
  rw [List.extract_eq_take_drop, List.drop_eq_getElem_cons (by simpa using h')]
  simp; rfl

theorem same_one (a b : ByteArray) (i j : Nat) (hi : i < a.size) (hj : j < b.size) :
    octet_Same.f (a.extract i (i + 1)) (b.extract j (j + 1)) = some (lowI (bt a i) == lowI (bt b j)) := by
  have ea := one_byte a i hi
  have eb := one_byte b j hj
  have sa : (a.extract i (i + 1)).size ≤ 140737488351232 := by rw [ByteArray.size_extract]; omega
  have sb : (b.extract j (j + 1)).size ≤ 140737488351232 := by rw [ByteArray.size_extract]; omega
  unfold octet_Same.f octet_Lower.f
  rw [if_pos sa, if_pos sb]; simp only [Option.bind_some]
  congr 1
  rw [ByteArray.toList_eq, ByteArray.toList_eq]
  simp only [Ext.lowBA, Array.toList_map, ea, eb, List.map_cons, List.map_nil]
  rw [bt_nat a i hi, bt_nat b j hj, ← lowB_lowI, ← lowB_lowI, Bool.eq_iff_iff]
  simp only [beq_iff_eq, List.cons.injEq, and_true]
  constructor
  · intro h; rw [h]
  · intro h; exact UInt8.toNat_inj.1 (by omega)

/-! The program's text. -/
section prog
variable (p nm : ByteArray) (fold : Nat) (hp : p.size ≤ 140737488351232) (hn : nm.size ≤ 140737488351232)
include hp hn

/-- '*' or '%': the row is written from the left on. -/
theorem prog_star (i : Nat) (hi : i < p.size) (hw : bt p i = 42 ∨ bt p i = 37)
    (next : ∀ xs, Row xs nm.size (M p nm fold (i + 1)) → Ev (fun k => store_Match.l0 k p nm fold xs p.size (i + 1 : Nat)) (M p nm fold p.size nm.size)) :
    ∀ (d j : Nat) (xs : List Bool), nm.size - j = d → j ≤ nm.size → Row xs nm.size (mixL (M p nm fold i) (starF nm (bt p i) (M p nm fold i)) j) →
      Ev (fun k => store_Match.l1 k p nm fold xs (bt p i) p.size i nm.size j) (M p nm fold p.size nm.size) := by
  intro d
  induction d with
  | zero =>
    intro j xs hd hj hx
    have e : j = nm.size := by omega
    subst e
    refine Ev.step (f := fun k => store_Match.l0 k p nm fold xs p.size (i + 1 : Nat)) (fun k => ?_) (next xs (hx.congr fun t ht => ?_))
    · simp only [store_Match.l1]; rw [if_neg (by omega), w64 (by omega) (by omega)]; rfl
    · simp only [M, rowF]; rw [if_pos hw]; simp [mixL, ht]
  | succ d ih =>
    intro j xs hd hj hx
    have hlt : j < nm.size := by omega
    have e1 : wrap64 ((j : Int) + 1) = ((j + 1 : Nat) : Int) := by rw [w64 (by omega) (by omega)]; rfl
    have hr1 := hx.rd (j := j + 1) (by omega)
    have hr0 := hx.rd (j := j) (by omega)
    have hm1 : mixL (M p nm fold i) (starF nm (bt p i) (M p nm fold i)) j (j + 1) = M p nm fold i (j + 1) := by unfold mixL; rw [if_neg (by omega)]
    have hm0 : mixL (M p nm fold i) (starF nm (bt p i) (M p nm fold i)) j j = starF nm (bt p i) (M p nm fold i) j := by simp [mixL]
    rw [hm1] at hr1; rw [hm0] at hr0
    have hl : xs.length = nm.size + 1 := hx.1
    have stepv : ∀ v, starF nm (bt p i) (M p nm fold i) (j + 1) = v → Row (xs.set (j + 1) v) nm.size (mixL (M p nm fold i) (starF nm (bt p i) (M p nm fold i)) (j + 1)) := fun v hv =>
      hx.set (by omega) (by simp [mixL, hv]) (fun t ht => by
        unfold mixL
        by_cases h : t ≤ j
        · simp [h, show t ≤ j + 1 by omega]
        · simp [h, show ¬ t ≤ j + 1 by omega])
    have go : ∀ v, starF nm (bt p i) (M p nm fold i) (j + 1) = v → (∀ k, store_Match.l1 (k + 1) p nm fold xs (bt p i) p.size i nm.size j = store_Match.l1 k p nm fold (xs.set (j + 1) v) (bt p i) p.size i nm.size (j + 1 : Nat)) →
        Ev (fun k => store_Match.l1 k p nm fold xs (bt p i) p.size i nm.size j) (M p nm fold p.size nm.size) := fun v hv hk =>
      Ev.step hk (ih (j + 1) _ (by omega) (by omega) (stepv v hv))
    have hs : starF nm (bt p i) (M p nm fold i) (j + 1) = (M p nm fold i (j + 1) || (starF nm (bt p i) (M p nm fold i) j && (bt p i == 42 || bt nm j != 47))) := rfl
    cases h1 : M p nm fold i (j + 1) with
    | true =>
      refine go true (by rw [hs, h1]; rfl) (fun k => ?_)
      simp only [store_Match.l1]
      rw [if_pos (by omega), if_pos (by rw [e1]; omega), if_pos (by rw [e1, hl]; omega), e1, hr1, h1, if_pos rfl, Int.toNat_natCast]
    | false =>
      cases h0 : starF nm (bt p i) (M p nm fold i) j with
      | false =>
        refine go false (by rw [hs, h1, h0]; rfl) (fun k => ?_)
        simp only [store_Match.l1]
        rw [if_pos (by omega), if_pos (by rw [e1]; omega), if_pos (by rw [e1, hl]; omega), e1, hr1, h1, if_neg (by decide), if_pos (by omega), if_pos (by rw [hl]; omega), hr0, h0, if_neg (by decide), Int.toNat_natCast]
      | true =>
        by_cases hc : bt p i = 42
        · refine go true (by rw [hs, h1, h0, hc]; rfl) (fun k => ?_)
          simp only [store_Match.l1]
          rw [if_pos (by omega), if_pos (by rw [e1]; omega), if_pos (by rw [e1, hl]; omega), e1, hr1, h1, if_neg (by decide), if_pos (by omega), if_pos (by rw [hl]; omega), hr0, h0, if_pos rfl, if_pos hc, Int.toNat_natCast]
        · have hc' : (bt p i == 42) = false := by simpa using hc
          refine go (bt nm j != 47) (by rw [hs, h1, h0, hc']; simp) (fun k => ?_)
          simp only [store_Match.l1]
          rw [if_pos (by omega), if_pos (by rw [e1]; omega), if_pos (by rw [e1, hl]; omega), e1, hr1, h1, if_neg (by decide), if_pos (by omega), if_pos (by rw [hl]; omega), hr0, h0, if_pos rfl, if_neg hc, if_pos (by omega), Int.toNat_natCast]

/-- Any other byte: the row is written from the right on. -/
theorem prog_lit (_hf : fold ≤ 5) (i : Nat) (hi : i < p.size) (hw : ¬ (bt p i = 42 ∨ bt p i = 37))
    (next : ∀ xs, Row xs nm.size (M p nm fold (i + 1)) → Ev (fun k => store_Match.l0 k p nm fold xs p.size (i + 1 : Nat)) (M p nm fold p.size nm.size)) :
    ∀ (j : Nat) (xs : List Bool), j ≤ nm.size → Row xs nm.size (mixR (M p nm fold i) (litF nm fold (bt p i) (M p nm fold i)) j) →
      Ev (fun k => store_Match.l2 k p nm fold xs i (bt p i) j p.size i) (M p nm fold p.size nm.size) := by
  intro j
  induction j with
  | zero =>
    intro xs hj hx
    have hl : xs.length = nm.size + 1 := hx.1
    refine Ev.step (f := fun k => store_Match.l0 k p nm fold (xs.set 0 false) p.size (i + 1 : Nat)) (fun k => ?_) (next _ ((hx.set (j := 0) (g := litF nm fold (bt p i) (M p nm fold i)) (by omega) rfl (fun t ht => ?_)).congr fun t ht => ?_))
    · simp only [store_Match.l2]; rw [if_neg (by omega), if_pos (by omega), w64 (by omega) (by omega)]; rfl
    · unfold mixR; rw [if_pos (by omega)]
    · simp only [M, rowF]; rw [if_neg hw]
  | succ j ih =>
    intro xs hj hx
    have hl : xs.length = nm.size + 1 := hx.1
    have e1 : wrap64 (((j + 1 : Nat) : Int) - 1) = (j : Int) := by rw [w64 (by omega) (by omega)]; omega
    have e2 : wrap64 ((i : Int) + 1) = ((i + 1 : Nat) : Int) := by rw [w64 (by omega) (by omega)]; rfl
    have hr0 := hx.rd (j := j) (by omega)
    have hm0 : mixR (M p nm fold i) (litF nm fold (bt p i) (M p nm fold i)) (j + 1) j = M p nm fold i j := by unfold mixR; rw [if_neg (by omega)]
    rw [hm0] at hr0
    have stepv : ∀ v, litF nm fold (bt p i) (M p nm fold i) (j + 1) = v → Row (xs.set (j + 1) v) nm.size (mixR (M p nm fold i) (litF nm fold (bt p i) (M p nm fold i)) j) := fun v hv =>
      hx.set (by omega) (by unfold mixR; rw [if_pos (by omega)]; exact hv) (fun t ht => by
        unfold mixR
        by_cases h : j + 1 < t
        · rw [if_pos h, if_pos (by omega)]
        · rw [if_neg h, if_neg (by omega)])
    have go : ∀ v, litF nm fold (bt p i) (M p nm fold i) (j + 1) = v → (∀ k, store_Match.l2 (k + 1) p nm fold xs i (bt p i) (j + 1 : Nat) p.size i = store_Match.l2 k p nm fold (xs.set (j + 1) v) i (bt p i) j p.size i) →
        Ev (fun k => store_Match.l2 k p nm fold xs i (bt p i) (j + 1 : Nat) p.size i) (M p nm fold p.size nm.size) := fun v hv hk =>
      Ev.step hk (ih _ (by omega) (stepv v hv))
    have hs : litF nm fold (bt p i) (M p nm fold i) (j + 1) = (M p nm fold i j && (bt nm j == bt p i || (decide (j + 1 ≤ fold) && (lowI (bt nm j) == lowI (bt p i))))) := rfl
    cases h0 : M p nm fold i j with
    | false =>
      refine go false (by rw [hs, h0]; rfl) (fun k => ?_)
      simp only [store_Match.l2]
      rw [if_pos (by omega), if_pos (by rw [e1]; omega), if_pos (by rw [e1]; omega), if_pos (by rw [e1, hl]; omega), e1, hr0, h0, if_neg (by decide), if_pos (by omega), if_pos (by rw [hl]; omega), Int.toNat_natCast]
    | true =>
      by_cases hc : bt nm j = bt p i
      · refine go true (by rw [hs, h0, hc]; simp) (fun k => ?_)
        simp only [store_Match.l2]
        rw [if_pos (by omega), if_pos (by rw [e1]; omega), if_pos (by rw [e1]; omega), if_pos (by rw [e1, hl]; omega), e1, hr0, h0, if_pos rfl, if_pos hc, if_pos (by omega), if_pos (by rw [hl]; omega), Int.toNat_natCast]
      · have hc' : (bt nm j == bt p i) = false := by simpa using hc
        by_cases hfo : j + 1 ≤ fold
        · refine go (lowI (bt nm j) == lowI (bt p i)) (by rw [hs, h0, hc']; simp [hfo]) (fun k => ?_)
          simp only [store_Match.l2]
          rw [if_pos (by omega), if_pos (by rw [e1]; omega), if_pos (by rw [e1]; omega), if_pos (by rw [e1, hl]; omega), e1, hr0, h0, if_pos rfl, if_neg hc, if_pos (by omega), if_pos (by omega), if_pos (by omega), if_pos (by omega), e2, if_pos (by omega), if_pos (by omega)]
          simp only [Int.toNat_natCast]
          rw [same_one nm p j i (by omega) hi]; simp only [Option.bind_some]
          rw [if_pos (by omega), if_pos (by rw [hl]; omega)]
        · have hfd : decide (j + 1 ≤ fold) = false := by simpa using hfo
          refine go false (by rw [hs, h0, hc', hfd]; rfl) (fun k => ?_)
          simp only [store_Match.l2]
          rw [if_pos (by omega), if_pos (by rw [e1]; omega), if_pos (by rw [e1]; omega), if_pos (by rw [e1, hl]; omega), e1, hr0, h0, if_pos rfl, if_neg hc, if_neg (by omega), if_pos (by omega), if_pos (by rw [hl]; omega), Int.toNat_natCast]

theorem prog_rows (hf : fold ≤ 5) : ∀ (d i : Nat) (xs : List Bool), p.size - i = d → i ≤ p.size → Row xs nm.size (M p nm fold i) →
    Ev (fun k => store_Match.l0 k p nm fold xs p.size i) (M p nm fold p.size nm.size) := by
  intro d
  induction d with
  | zero =>
    intro i xs hd hi hx
    have e : i = p.size := by omega
    subst e
    have hl : xs.length = nm.size + 1 := hx.1
    refine Ev.step (f := fun _ => some (M p nm fold p.size nm.size)) (fun k => ?_) (Ev.now _)
    simp only [store_Match.l0]; rw [if_neg (by omega), if_pos (by omega), if_pos (by rw [hl]; omega), hx.rd (Nat.le_refl _)]
  | succ d ih =>
    intro i xs hd hi hx
    have hlt : i < p.size := by omega
    have next := fun xs h => ih (i + 1) xs (by omega) (by omega) h
    by_cases hw : bt p i = 42 ∨ bt p i = 37
    · have hstar := prog_star p nm fold hp hn i hlt hw next nm.size 0 xs (by omega) (by omega) (hx.congr fun t ht => by unfold mixL; split <;> (try rfl); rw [show t = 0 by omega]; rfl)
      refine Ev.step (f := fun k => store_Match.j3 k p nm fold xs i (bt p i) p.size i true) (fun k => ?_) (Ev.step (fun k => ?_) hstar)
      · simp only [store_Match.l0]; rw [if_pos (by omega), if_pos (by omega), if_pos (by omega)]
        rcases hw with h | h
        · rw [if_pos h]
        · rw [if_neg (by omega), h]; rfl
      · simp only [store_Match.j3, if_true]; rfl
    · have hlit := prog_lit p nm fold hp hn hf i hlt hw next nm.size xs (Nat.le_refl _) (hx.congr fun t ht => by unfold mixR; rw [if_neg (by omega)])
      refine Ev.step (f := fun k => store_Match.j3 k p nm fold xs i (bt p i) p.size i false) (fun k => ?_) (Ev.step (fun k => ?_) hlit)
      · simp only [store_Match.l0]; rw [if_pos (by omega), if_pos (by omega), if_pos (by omega), if_neg (fun h => hw (.inl h)), show (bt p i == 37) = false by simpa using fun h => hw (.inr h)]
      · simp [store_Match.j3]
theorem prog_j1 (hf : fold ≤ 5) : Ev (fun k => store_Match.j1 k p nm fold) (M p nm fold p.size nm.size) := by
  have h := prog_rows p nm fold hp hn hf p.size 0 _ rfl (by omega) (Row.first nm.size p nm fold)
  refine Ev.step (fun k => ?_) h
  simp only [store_Match.j1]
  rw [if_pos (by rw [w64 (by omega) (by omega)]; omega), if_pos (by rw [w64 (by omega) (by omega)]; omega), w64 (by omega) (by omega)]
  simp only [Option.bind_some]
  rw [if_pos (by simp)]
  rfl
end prog
theorem below_of (nm : ByteArray) (hn : nm.size ≤ 140737488351232) : store_below.f nm (⟨#[73, 78, 66, 79, 88]⟩ : ByteArray) = some ((nm.extract 0 6).toList == [73, 78, 66, 79, 88, 47]) := by
  have e : ((⟨#[73, 78, 66, 79, 88]⟩ : ByteArray) ++ (⟨#[47]⟩ : ByteArray)) = ⟨#[73, 78, 66, 79, 88, 47]⟩ := rfl
  unfold store_below.f strings_HasPrefix.f stringslite_HasPrefix.f
  rw [if_pos (by decide), e]
  have s6 : (((⟨#[73, 78, 66, 79, 88, 47]⟩ : ByteArray).size : Nat) : Int) = 6 := rfl
  rw [s6]
  by_cases h : (nm.size : Int) ≥ 6
  · rw [if_pos h, if_pos (by decide), if_pos (by omega), ByteArray.toList_eq ⟨#[73, 78, 66, 79, 88, 47]⟩]; rfl
  · rw [if_neg h]; simp only [Option.bind_some]
    congr 1
    symm
    rw [ByteArray.toList_eq, beq_eq_false_iff_ne]
    intro he
    have := congrArg List.length he
    simp at this
    omega
theorem store_Match_ev (p nm : ByteArray) (hp : p.size ≤ 140737488351232) (hn : nm.size ≤ 140737488351232) : Ev (fun k => store_Match.f k p nm) (matchB p nm) := by
  unfold matchB
  have h5 : foldOf nm ≤ 5 := by unfold foldOf; split <;> omega
  have hj := prog_j1 p nm (foldOf nm) hp hn h5
  have key : ∀ b : Bool, foldB nm = b → Ev (fun k => store_Match.j0 k p nm 0 b) (M p nm (foldOf nm) p.size nm.size) := fun b hb => by
    refine Ev.step (fun k => ?_) hj
    simp only [store_Match.j0]
    cases b with
    | true => rw [if_pos rfl]; unfold foldOf; rw [hb]; rfl
    | false => rw [if_neg (by decide)]; unfold foldOf; rw [hb]; rfl
  by_cases hN : nm.toList = ([73, 78, 66, 79, 88] : List UInt8)
  · refine Ev.congr (fun k => ?_) (key true (by unfold foldB; rw [hN]; rfl))
    unfold store_Match.f; rw [if_pos hN]
  · refine Ev.congr (fun k => ?_) (key (foldB nm) rfl)
    unfold store_Match.f; rw [if_neg hN, below_of nm hn]; simp only [Option.bind_some]
    congr 1
    unfold foldB
    rw [beq_eq_false_iff_ne.2 hN, Bool.false_or]

/-! The reference's text. -/
theorem ref_lower (c : Int) (h1 : c ≤ 255) : postbagref12_lower.f c = some (lowI c) := by
  unfold postbagref12_lower.f lowI
  by_cases a : c ≥ 65
  · rw [if_pos a]
    by_cases b : c ≤ 90
    · rw [if_pos b, if_pos ⟨a, b⟩]; congr 1; omega
    · rw [if_neg b, if_neg (by omega)]
  · rw [if_neg a, if_neg (by omega)]
section ref
variable (p nm : ByteArray) (fold : Nat) (hp : p.size ≤ 140737488351232) (hn : nm.size ≤ 140737488351232)
include hp hn

/-- One byte of the pattern: the new row is written from the left on, the old one stays. -/
theorem ref_row (i : Nat) (hi : i < p.size) (xs : List Bool) (hx : Row xs nm.size (M p nm fold i))
    (next : ∀ ys, Row ys nm.size (M p nm fold (i + 1)) → Ev (fun k => postbagref12_Match.l0 k p nm fold ys (i + 1 : Nat)) (M p nm fold p.size nm.size)) :
    ∀ (d j : Nat) (ys : List Bool), nm.size + 1 - j = d → j ≤ nm.size + 1 → ys.length = nm.size + 1 → (∀ t, t ≤ nm.size → ys.getD t false = if t < j then M p nm fold (i + 1) t else false) →
      Ev (fun k => postbagref12_Match.l1 k p nm fold xs i ys j) (M p nm fold p.size nm.size) := by
  have hl : xs.length = nm.size + 1 := hx.1
  have ei : wrap64 ((i : Int) + 1) = ((i + 1 : Nat) : Int) := by rw [w64 (by omega) (by omega)]; rfl
  intro d
  induction d with
  | zero =>
    intro j ys hd hj hy hc
    refine Ev.step (f := fun k => postbagref12_Match.l0 k p nm fold ys (i + 1 : Nat)) (fun k => ?_) (next ys ⟨hy, fun t ht => by rw [hc t ht, if_pos (by omega)]⟩)
    simp only [postbagref12_Match.l1]; rw [if_neg (by omega), ei]
  | succ d ih =>
    intro j ys hd hj hy hc
    have hlt : j ≤ nm.size := by omega
    have e1 : wrap64 ((j : Int) + 1) = ((j + 1 : Nat) : Int) := by rw [w64 (by omega) (by omega)]; rfl
    have hr := hx.rd hlt
    have stay : M p nm fold (i + 1) j = false → Ev (fun k => postbagref12_Match.l1 k p nm fold xs i ys (j + 1 : Nat)) (M p nm fold p.size nm.size) := fun hv =>
      ih (j + 1) ys (by omega) (by omega) hy (fun t ht => by
        rw [hc t ht]
        by_cases h : t < j
        · rw [if_pos h, if_pos (by omega)]
        · rw [if_neg h]; split
          · rw [show t = j by omega, hv]
          · rfl)
    have put : ∀ v, M p nm fold (i + 1) j = v → Ev (fun k => postbagref12_Match.l1 k p nm fold xs i (ys.set j v) (j + 1 : Nat)) (M p nm fold p.size nm.size) := fun v hv =>
      ih (j + 1) _ (by omega) (by omega) (by simpa using hy) (fun t ht => by
        rw [getD_set _ _ _ _ (by omega)]
        by_cases h : t = j
        · subst h; rw [if_pos rfl, if_pos (by omega), hv]
        · rw [if_neg h, hc t ht]
          by_cases h2 : t < j
          · rw [if_pos h2, if_pos (by omega)]
          · rw [if_neg h2, if_neg (by omega)])
    have hyp : ∀ t, t < j → rdOf false ys (t : Int) = M p nm fold (i + 1) t := fun t ht => by
      unfold rdOf; rw [Int.toNat_natCast, hc t (by omega), if_pos ht]
    by_cases hw : bt p i = 42 ∨ bt p i = 37
    · have hM : M p nm fold (i + 1) = starF nm (bt p i) (M p nm fold i) := by funext t; simp only [M, rowF]; rw [if_pos hw]
      have putG : ∀ v, M p nm fold (i + 1) j = v → (∀ k, postbagref12_Match.j4 (k + 1) p nm fold xs i ys j true = postbagref12_Match.l1 k p nm fold xs i (ys.set j v) (j + 1 : Nat)) →
          Ev (fun k => postbagref12_Match.l1 k p nm fold xs i ys j) (M p nm fold p.size nm.size) := fun v hv hk => by
        refine Ev.step (f := fun k => postbagref12_Match.j4 k p nm fold xs i ys j true) (fun k => ?_) (Ev.step hk (put v hv))
        simp only [postbagref12_Match.l1]; rw [if_pos (by omega), if_pos (by omega), if_pos (by omega)]
        rcases hw with h | h
        · rw [if_pos h]
        · rw [if_neg (by omega), h]; rfl
      have hb0 : M p nm fold i j = true → M p nm fold (i + 1) j = true := fun h => by
        rw [hM]; cases j with
        | zero => exact h
        | succ j => simp only [starF]; rw [h]; rfl
      cases h1 : M p nm fold i j with
      | true =>
        refine putG true (hb0 h1) (fun k => ?_)
        simp only [postbagref12_Match.j4]; rw [if_pos trivial, if_pos (by omega), if_pos (by rw [hl]; omega), hr, h1, if_pos rfl, if_pos (by rw [hy]; omega), e1, Int.toNat_natCast]
      | false =>
        cases j with
        | zero =>
          refine putG false (by rw [hM]; exact h1) (fun k => ?_)
          simp only [postbagref12_Match.j4]; rw [if_pos trivial, if_pos (by omega), if_pos (by rw [hl]; omega), hr, h1, if_neg (by decide), if_neg (by omega), if_pos (by rw [hy]; omega), e1, Int.toNat_natCast]
        | succ j =>
          have e0 : wrap64 (((j + 1 : Nat) : Int) - 1) = (j : Int) := by rw [w64 (by omega) (by omega)]; omega
          have hq := hyp j (by omega)
          have hs : M p nm fold (i + 1) (j + 1) = (M p nm fold i (j + 1) || (M p nm fold (i + 1) j && (bt p i == 42 || bt nm j != 47))) := by rw [hM]; rfl
          cases h0 : M p nm fold (i + 1) j with
          | false =>
            refine putG false (by rw [hs, h1, h0]; rfl) (fun k => ?_)
            simp only [postbagref12_Match.j4]
            rw [if_pos trivial, if_pos (by omega), if_pos (by rw [hl]; omega), hr, h1, if_neg (by decide), if_pos (by omega), if_pos (by rw [e0]; omega), if_pos (by rw [e0, hy]; omega), e0, hq, h0, if_neg (by decide), if_pos (by rw [hy]; omega), e1, Int.toNat_natCast]
          | true =>
            by_cases hc2 : bt p i = 42
            · refine putG true (by rw [hs, h1, h0, hc2]; rfl) (fun k => ?_)
              simp only [postbagref12_Match.j4]
              rw [if_pos trivial, if_pos (by omega), if_pos (by rw [hl]; omega), hr, h1, if_neg (by decide), if_pos (by omega), if_pos (by rw [e0]; omega), if_pos (by rw [e0, hy]; omega), e0, hq, h0, if_pos rfl, if_pos (by omega), if_pos (by omega), if_pos hc2, if_pos (by rw [hy]; omega), e1, Int.toNat_natCast]
            · have hc3 : (bt p i == 42) = false := by simpa using hc2
              refine putG (bt nm j != 47) (by rw [hs, h1, h0, hc3]; simp) (fun k => ?_)
              simp only [postbagref12_Match.j4]
              rw [if_pos trivial, if_pos (by omega), if_pos (by rw [hl]; omega), hr, h1, if_neg (by decide), if_pos (by omega), if_pos (by rw [e0]; omega), if_pos (by rw [e0, hy]; omega), e0, hq, h0, if_pos rfl, if_pos (by omega), if_pos (by omega), if_neg hc2, if_pos (by omega), if_pos (by rw [hy]; omega), e1, Int.toNat_natCast]
    · have hM : M p nm fold (i + 1) = litF nm fold (bt p i) (M p nm fold i) := by funext t; simp only [M, rowF]; rw [if_neg hw]
      have enter : Ev (fun k => postbagref12_Match.j4 k p nm fold xs i ys j false) (M p nm fold p.size nm.size) → Ev (fun k => postbagref12_Match.l1 k p nm fold xs i ys j) (M p nm fold p.size nm.size) := fun h => by
        refine Ev.step (fun k => ?_) h
        simp only [postbagref12_Match.l1]; rw [if_pos (by omega), if_pos (by omega), if_pos (by omega), if_neg (fun h => hw (.inl h)), show (bt p i == 37) = false by simpa using fun h => hw (.inr h)]
      refine enter ?_
      cases j with
      | zero =>
        refine Ev.step (f := fun k => postbagref12_Match.j5 k p nm fold xs i ys 0 true) (fun k => ?_) (Ev.step (fun k => ?_) (stay (by rw [hM]; rfl)))
        · simp [postbagref12_Match.j4]
        · simp only [postbagref12_Match.j5, if_true]; rw [w64 (by omega) (by omega)]; rfl
      | succ j =>
        have e0 : wrap64 (((j + 1 : Nat) : Int) - 1) = (j : Int) := by rw [w64 (by omega) (by omega)]; omega
        have hr' := hx.rd (j := j) (by omega)
        have hs : M p nm fold (i + 1) (j + 1) = (M p nm fold i j && (bt nm j == bt p i || (decide (j + 1 ≤ fold) && (lowI (bt nm j) == lowI (bt p i))))) := by rw [hM]; rfl
        have enter2 : Ev (fun k => postbagref12_Match.j5 k p nm fold xs i ys (j + 1 : Nat) (!(M p nm fold i j))) (M p nm fold p.size nm.size) → Ev (fun k => postbagref12_Match.j4 k p nm fold xs i ys (j + 1 : Nat) false) (M p nm fold p.size nm.size) := fun h => by
          refine Ev.step (fun k => ?_) h
          simp only [postbagref12_Match.j4]; rw [if_neg (by decide), if_neg (by omega), if_pos (by rw [e0]; omega), if_pos (by rw [e0, hl]; omega), e0, hr']
        refine enter2 ?_
        cases h1 : M p nm fold i j with
        | false =>
          refine Ev.step (fun k => ?_) (stay (by rw [hs, h1]; rfl))
          simp only [postbagref12_Match.j5, Bool.not_false, if_true]; rw [e1]
        | true =>
          have putG : ∀ v, M p nm fold (i + 1) (j + 1) = v → (∀ k, postbagref12_Match.j5 (k + 1) p nm fold xs i ys (j + 1 : Nat) false = postbagref12_Match.l1 k p nm fold xs i (ys.set (j + 1) v) (j + 1 + 1 : Nat)) →
              Ev (fun k => postbagref12_Match.j5 k p nm fold xs i ys (j + 1 : Nat) (!true)) (M p nm fold p.size nm.size) := fun v hv hk => Ev.step hk (put v hv)
          by_cases hcc : bt p i = bt nm j
          · refine putG true (by rw [hs, h1, hcc]; simp) (fun k => ?_)
            simp only [postbagref12_Match.j5]
            rw [if_neg (by decide), if_pos (by omega), if_pos (by omega), if_pos (by rw [e0]; omega), if_pos (by rw [e0]; omega), e0, if_pos hcc, if_pos (by omega), if_pos (by rw [hy]; omega), e1, Int.toNat_natCast]
          · have hcc' : (bt nm j == bt p i) = false := by simpa using fun h => hcc h.symm
            by_cases hfo : j + 1 ≤ fold
            · have hb1 := (bt_range p i).2
              have hb2 := (bt_range nm j).2
              refine putG (lowI (bt p i) == lowI (bt nm j)) (by rw [hs, h1, hcc']; simp only [hfo, decide_true, Bool.true_and, Bool.false_or]; rw [Bool.eq_iff_iff, beq_iff_eq, beq_iff_eq]; exact eq_comm) (fun k => ?_)
              simp only [postbagref12_Match.j5]
              rw [if_neg (by decide), if_pos (by omega), if_pos (by omega), if_pos (by rw [e0]; omega), if_pos (by rw [e0]; omega), e0, if_neg hcc, if_pos (by omega), ref_lower _ hb1, ref_lower _ hb2]
              simp only [Option.bind_some]
              rw [if_pos (by omega), if_pos (by rw [hy]; omega), e1, Int.toNat_natCast]
            · have hfd : decide (j + 1 ≤ fold) = false := by simpa using hfo
              refine putG false (by rw [hs, h1, hcc', hfd]; rfl) (fun k => ?_)
              simp only [postbagref12_Match.j5]
              rw [if_neg (by decide), if_pos (by omega), if_pos (by omega), if_pos (by rw [e0]; omega), if_pos (by rw [e0]; omega), e0, if_neg hcc, if_neg (by omega), if_pos (by omega), if_pos (by rw [hy]; omega), e1, Int.toNat_natCast]

theorem ref_rows : ∀ (d i : Nat) (xs : List Bool), p.size - i = d → i ≤ p.size → Row xs nm.size (M p nm fold i) →
    Ev (fun k => postbagref12_Match.l0 k p nm fold xs i) (M p nm fold p.size nm.size) := by
  intro d
  induction d with
  | zero =>
    intro i xs hd hi hx
    have e : i = p.size := by omega
    subst e
    have hl : xs.length = nm.size + 1 := hx.1
    refine Ev.step (f := fun _ => some (M p nm fold p.size nm.size)) (fun k => ?_) (Ev.now _)
    simp only [postbagref12_Match.l0]; rw [if_neg (by omega), if_pos (by omega), if_pos (by rw [hl]; omega), hx.rd (Nat.le_refl _)]
  | succ d ih =>
    intro i xs hd hi hx
    have hlt : i < p.size := by omega
    have h := ref_row p nm fold hp hn i hlt xs hx (fun ys h => ih (i + 1) ys (by omega) (by omega) h) (nm.size + 1) 0 (List.replicate (nm.size + 1) false) rfl (by omega) (by simp) (fun t ht => by
      rw [if_neg (by omega)]; simp only [List.getD_eq_getElem?_getD, List.getElem?_replicate]; split <;> rfl)
    refine Ev.step (fun k => ?_) h
    simp only [postbagref12_Match.l0]
    rw [if_pos (by omega), if_pos (by rw [w64 (by omega) (by omega)]; omega), if_pos (by rw [w64 (by omega) (by omega)]; omega), w64 (by omega) (by omega)]
    rfl
theorem ref_j1 : Ev (fun k => postbagref12_Match.j1 k p nm fold) (M p nm fold p.size nm.size) := by
  have h := ref_rows p nm fold hp hn p.size 0 _ rfl (by omega) (Row.first nm.size p nm fold)
  refine Ev.step (fun k => ?_) h
  simp only [postbagref12_Match.j1]
  rw [if_pos (by rw [w64 (by omega) (by omega)]; omega), if_pos (by rw [w64 (by omega) (by omega)]; omega), w64 (by omega) (by omega)]
  simp only [Option.bind_some]
  rw [if_pos (by simp)]
  rfl
end ref
theorem toList_len (s : ByteArray) : s.toList.length = s.size := by rw [ByteArray.toList_eq]; simp
theorem ref_below (nm : ByteArray) : postbagref12_below.f nm (⟨#[73, 78, 66, 79, 88]⟩ : ByteArray) = some ((nm.extract 0 6).toList == [73, 78, 66, 79, 88, 47]) := by
  unfold postbagref12_below.f
  have s5 : (((⟨#[73, 78, 66, 79, 88]⟩ : ByteArray).size : Nat) : Int) = 5 := rfl
  rw [s5]
  by_cases h : (nm.size : Int) > 5
  · rw [if_pos h, if_pos (by decide), if_pos (by omega), ByteArray.toList_eq ⟨#[73, 78, 66, 79, 88]⟩]
    have h6 : (nm.extract 0 6).toList = (nm.extract 0 5).toList ++ [nm[5]'(by omega)] := by
      rw [ByteArray.toList_eq, ByteArray.toList_eq]
      have : (5 : Nat) < nm.data.size := by have : nm.data.size = nm.size := rfl; omega
      simp only [ByteArray.data_extract, Array.toList_extract, List.extract_eq_take_drop, List.drop_zero, Nat.sub_zero]
      rw [List.take_succ_eq_append_getElem (by simpa using this)]; simp; rfl
    have h5l : (nm.extract 0 5).toList.length = 5 := by rw [toList_len, ByteArray.size_extract]; omega
    have hb : bt nm 5 = ((nm[5]'(by omega)).toNat : Int) := bt_nat nm 5 (by omega)
    have t5 : ((5 : Int).toNat) = 5 := rfl
    rw [t5, h6]
    by_cases e : (nm.extract 0 5).toList = [73, 78, 66, 79, 88]
    · rw [if_pos e, if_pos (by omega), hb]
      congr 1
      rw [Bool.eq_iff_iff]
      simp only [beq_iff_eq, e]
      constructor
      · intro h; rw [show nm[5]'(by omega) = 47 from UInt8.toNat_inj.1 (by have h2 : (47 : UInt8).toNat = 47 := rfl; omega)]; rfl
      · intro h
        have := congrArg (fun l => l.getD 5 0) h
        simp at this
        rw [this]; rfl
    · rw [if_neg e]
      congr 1
      symm
      rw [beq_eq_false_iff_ne]
      intro h
      apply e
      have := congrArg (List.take 5) h
      rw [List.take_append_of_le_length (by omega), List.take_of_length_le (by omega)] at this
      exact this
  · rw [if_neg h]
    congr 1
    symm
    rw [beq_eq_false_iff_ne]
    intro he
    have := congrArg List.length he
    rw [toList_len, ByteArray.size_extract] at this
    simp at this
    omega
theorem ref_Match_ev (p nm : ByteArray) (hp : p.size ≤ 140737488351232) (hn : nm.size ≤ 140737488351232) : Ev (fun k => postbagref12_Match.f k p nm) (matchB p nm) := by
  unfold matchB
  have hj := ref_j1 p nm (foldOf nm) hp hn
  have key : ∀ b : Bool, foldB nm = b → Ev (fun k => postbagref12_Match.j0 k p nm 0 b) (M p nm (foldOf nm) p.size nm.size) := fun b hb => by
    refine Ev.step (fun k => ?_) hj
    simp only [postbagref12_Match.j0]
    cases b with
    | true => rw [if_pos rfl]; unfold foldOf; rw [hb]; rfl
    | false => rw [if_neg (by decide)]; unfold foldOf; rw [hb]; rfl
  by_cases hN : nm.toList = ([73, 78, 66, 79, 88] : List UInt8)
  · refine Ev.congr (fun k => ?_) (key true (by unfold foldB; rw [hN]; rfl))
    unfold postbagref12_Match.f; rw [if_pos hN]
  · refine Ev.congr (fun k => ?_) (key (foldB nm) rfl)
    unfold postbagref12_Match.f; rw [if_neg hN, ref_below nm]; simp only [Option.bind_some]
    congr 1
    unfold foldB
    rw [beq_eq_false_iff_ne.2 hN, Bool.false_or]
end Go.Proofs.Ytkfehogefclhdaa.Pure
