/- Contracts of the functions that the statement reaches, and plain lemmas: ScPl, ScPn, ScPa, ScPo, ScPx, ScPr, ScPs, ScPt, ScPv, ScLn. -/
import Derived.Test.YtbgcapgjnflmoaaDoorMg23
import Derived.Test.YtbgcapgjnflmoaaDoorMg22
set_option linter.unusedVariables false
set_option linter.unusedSimpArgs false
set_option linter.unnecessarySimpa false
/- plain, over the bytes of a line: what it does to the pieces that a line is made of. -/
namespace Go.Proofs.YtbgcapgjnflmoaaDoor.Sc
open Go.Proofs.YtbgcapgjnflmoaaDoor.PLx
/-- Do these bytes end with a brace and digits? -/
def annB (b : List UInt8) : Bool := decide ((b.reverse.dropWhile dig).length < b.length) && (b.reverse.dropWhile dig).head? == some 123
def isDig : Option UInt8 → Bool
  | some c => dig c
  | none => false
def pl : Option UInt8 → Bool → List UInt8 → List UInt8 → List UInt8
  | _, _, b, [] => b
  | prev, true, b, c :: r =>
    if c = 92 then (match r with
      | [] => b ++ [92]
      | d :: r' => pl (some d) true (b ++ [92, d]) r')
    else pl (some c) (c != 34) (b ++ [c]) r
  | prev, false, b, c :: r =>
    if c = 34 then pl (some c) true (b ++ [c]) r
    else if c = 43 ∧ isDig prev = true ∧ annB b = true then pl (some c) false b r
    else if c = 48 ∧ b.getLast? = some 123 ∧ isDig r.head? = true then pl (some c) false b r
    else pl (some c) false (b ++ [c]) r
/-- No announcement is under way. -/
def NB (b : List UInt8) : Prop := (b.reverse.dropWhile dig).head? ≠ some 123
theorem NB.ann {b : List UInt8} (h : NB b) : annB b = false := by
  unfold annB
  rw [Bool.and_eq_false_iff]
  exact .inr (beq_eq_false_iff_ne.2 h)
theorem NB.last {b : List UInt8} (h : NB b) : b.getLast? ≠ some 123 := by
  intro e
  apply h
  rw [List.getLast?_eq_head?_reverse] at e
  cases hr : b.reverse with
  | nil => rw [hr] at e; cases e
  | cons c r =>
    rw [hr] at e
    simp only [List.head?_cons, Option.some.injEq] at e
    rw [e, List.dropWhile_cons, if_neg (by decide)]; rfl
theorem NB.snoc {b : List UInt8} (h : NB b) {c : UInt8} (hc : c ≠ 123) : NB (b ++ [c]) := by
  unfold NB
  rw [List.reverse_append]
  show ((c :: b.reverse).dropWhile dig).head? ≠ some 123
  rw [List.dropWhile_cons]
  split
  · exact h
  · simpa using hc
theorem NB.end_ (b : List UInt8) {c : UInt8} (hc : c ≠ 123) (hd : dig c = false) : NB (b ++ [c]) := by
  unfold NB
  rw [List.reverse_append]
  show ((c :: b.reverse).dropWhile dig).head? ≠ some 123
  rw [List.dropWhile_cons, if_neg (by rw [hd]; decide)]
  simpa using hc
theorem NB.nil : NB [] := by unfold NB; simp
theorem pl_one {b r : List UInt8} {prev : Option UInt8} {c : UInt8} (h : NB b) (hc : c ≠ 34) : pl prev false b (c :: r) = pl (some c) false (b ++ [c]) r := by
  rw [pl, if_neg hc, if_neg (by rw [h.ann]; simp), if_neg (fun e => h.last e.2.1)]
/-- A piece of bytes that open nothing. -/
theorem pl_piece : ∀ (a : List UInt8) (b r : List UInt8) (prev : Option UInt8), NB b → (∀ c, c ∈ a → c ≠ 34 ∧ c ≠ 123) → ∃ prev', pl prev false b (a ++ r) = pl prev' false (b ++ a) r ∧ NB (b ++ a)
  | [], b, r, prev, h, _ => ⟨prev, by simp, by simpa using h⟩
  | c :: a, b, r, prev, h, hc => by
    have h1 := hc c List.mem_cons_self
    obtain ⟨prev', e, hn⟩ := pl_piece a (b ++ [c]) r (some c) (h.snoc h1.2) (fun d hd => hc d (List.mem_cons_of_mem _ hd))
    refine ⟨prev', ?_, by simpa using hn⟩
    rw [List.cons_append, pl_one h h1.1, e]
    simp
theorem pl_in {b r : List UInt8} {prev : Option UInt8} {c : UInt8} (h : c ≠ 92) : pl prev true b (c :: r) = pl (some c) (c != 34) (b ++ [c]) r := by
  rw [pl.eq_def]
  exact if_neg h
theorem pl_esc {b r : List UInt8} {prev : Option UInt8} {d : UInt8} : pl prev true b (92 :: d :: r) = pl (some d) true (b ++ [92, d]) r := by
  rw [pl.eq_def]
  exact if_pos rfl
/-- Within quotes, up to the last one. -/
theorem pl_qd (ee : Int) : ∀ (n : Nat) (r0 out t q b : List UInt8) (prev : Option UInt8), r0.length < n → qd ee r0 out = .ok (t, q) →
    ∃ t0, t = out ++ t0 ∧ r0 = t0.flatMap Ext.esc ++ 34 :: q ∧ t0.all gquote = true ∧ pl prev true b r0 = pl (some 34) false (b ++ (t0.flatMap Ext.esc ++ [34])) q
  | 0, _, _, _, _, _, _, h, _ => by omega
  | n + 1, [], out, t, q, b, prev, _, h => by rw [qdnil] at h; cases h
  | n + 1, c :: r, out, t, q, b, prev, hn, h => by
    simp only [List.length_cons] at hn
    by_cases h34 : c = 34
    · subst h34
      rw [qd34'] at h
      simp only [Except.ok.injEq, Prod.mk.injEq] at h
      obtain ⟨rfl, rfl⟩ := h
      exact ⟨[], by simp, by simp, rfl, by rw [pl_in (by decide)]; rfl⟩
    · by_cases hg : gquote c = false
      · rw [qdbad h34 hg] at h; cases h
      · have hg : gquote c = true := by simpa using hg
        by_cases h92 : c = 92
        · subst h92
          cases r with
          | nil => rw [qd92e] at h; cases h
          | cons d r' =>
            simp only [List.length_cons] at hn
            by_cases hd : d = 34 ∨ d = 92
            · rw [qd92 hd] at h
              obtain ⟨t0, h1, h2, h3, h4⟩ := pl_qd ee n r' (out ++ [d]) t q (b ++ [92, d]) (some d) (by omega) h
              have he : Ext.esc d = [92, d] := if_pos hd
              refine ⟨d :: t0, by rw [h1]; simp, by rw [List.flatMap_cons, he, h2]; simp, ?_, ?_⟩
              · rw [List.all_cons, h3, Bool.and_true]
                rcases hd with rfl | rfl <;> decide
              · rw [pl_esc, h4, List.flatMap_cons, he]; simp
            · rw [qd92n hd] at h; cases h
        · rw [qdc h34 hg h92] at h
          obtain ⟨t0, h1, h2, h3, h4⟩ := pl_qd ee n r (out ++ [c]) t q (b ++ [c]) (some c) (by omega) h
          have he : Ext.esc c = [c] := if_neg (fun e => e.elim h34 h92)
          refine ⟨c :: t0, by rw [h1]; simp, by rw [List.flatMap_cons, he, h2]; simp, by rw [List.all_cons, h3, hg]; rfl, ?_⟩
          rw [pl_in h92, show (c != 34) = true by simpa using h34, h4, List.flatMap_cons, he]; simp
end Go.Proofs.YtbgcapgjnflmoaaDoor.Sc

/- plain, over an announcement. -/
namespace Go.Proofs.YtbgcapgjnflmoaaDoor.Sc
open Go.Proofs.YtbgcapgjnflmoaaDoor.PLx
def dv (n : Nat) (c : UInt8) : Nat := n * 10 + (c.toNat - 48)
def stripZ : List UInt8 → List UInt8
  | [] => []
  | [c] => [c]
  | c :: d :: r => if c = 48 then stripZ (d :: r) else c :: d :: r
theorem dig_iff {c : UInt8} : dig c = true ↔ 48 ≤ c.toNat ∧ c.toNat ≤ 57 := by unfold dig; simp
/-- What the digits ahead come to, where it is not too much. -/
theorem digs_val : ∀ (t rest : List UInt8) (m : Nat), t.all dig = true → isDig rest.head? = false → m ≤ 4294967296 →
    (digs m (t ++ rest)).2 = rest ∧ ((digs m (t ++ rest)).1 < 4294967296 → (digs m (t ++ rest)).1 = t.foldl dv m) ∧ (m = 4294967296 → (digs m (t ++ rest)).1 = 4294967296)
  | [], rest, m, _, hr, _ => by
    cases rest with
    | nil => exact ⟨rfl, fun _ => rfl, fun h => h⟩
    | cons c r =>
      have hc : dig c = false := hr
      rw [List.nil_append, digs, if_neg (by rw [hc]; decide)]
      exact ⟨rfl, fun _ => rfl, fun h => h⟩
  | c :: t, rest, m, ht, hr, hm => by
    simp only [List.all_cons, Bool.and_eq_true] at ht
    rw [List.cons_append, digs, if_pos ht.1]
    obtain ⟨h1, h2, h3⟩ := digs_val t rest (min (m * 10 + (c.toNat - 48)) 4294967296) ht.2 hr (by omega)
    refine ⟨h1, fun h => ?_, fun h => h3 (by omega)⟩
    rw [h2 h, List.foldl_cons]
    by_cases hb : m * 10 + (c.toNat - 48) < 4294967296
    · rw [show min (m * 10 + (c.toNat - 48)) 4294967296 = dv m c by unfold dv; omega]
    · have := h3 (by omega)
      omega
theorem dv_ge : ∀ (y : List UInt8) (n : Nat), n ≤ y.foldl dv n
  | [], _ => Nat.le_refl _
  | c :: y, n => by
    rw [List.foldl_cons]
    have := dv_ge y (dv n c)
    unfold dv at this ⊢
    omega
theorem dec_of : ∀ (n : Nat) (z : List UInt8), z.length = n → z ≠ [] → z.all dig = true → (z.length = 1 ∨ z.head? ≠ some 48) → Go.Lib.decDigits (z.foldl dv 0) = z := by
  intro n
  induction n using Nat.strongRecOn with
  | _ n ih =>
  intro z hn hz hd hh
  obtain ⟨y, d, rfl⟩ : ∃ y d, z = y ++ [d] := ⟨z.dropLast, z.getLast hz, (List.dropLast_concat_getLast hz).symm⟩
  rw [List.all_append, Bool.and_eq_true] at hd
  have hdd : dig d = true := by simpa using hd.2
  rw [dig_iff] at hdd
  rw [List.foldl_append]
  show Go.Lib.decDigits (dv (y.foldl dv 0) d) = _
  by_cases hy : y = []
  · subst hy
    simp only [List.foldl_nil, List.nil_append]
    rw [Go.Lib.decDigits, dif_pos (show dv 0 d < 10 by unfold dv; omega)]
    congr 1
    unfold dv
    rw [← UInt8.toNat_inj, UInt8.toNat_ofNat']
    omega
  · have hhead : y.head? ≠ some 48 := by
      rcases hh with h | h
      · rw [List.length_append] at h
        have : 0 < y.length := List.length_pos_iff.2 hy
        simp only [List.length_singleton] at h
        omega
      · cases y with
        | nil => exact absurd rfl hy
        | cons a y => simpa using h
    have hpos : 1 ≤ y.foldl dv 0 := by
      cases y with
      | nil => exact absurd rfl hy
      | cons a y =>
        rw [List.foldl_cons]
        have hda : dig a = true := by simp only [List.all_cons, Bool.and_eq_true] at hd; exact hd.1.1
        rw [dig_iff] at hda
        have hne : a.toNat ≠ 48 := fun e => hhead (by simp only [List.head?_cons, Option.some.injEq]; exact UInt8.toNat_inj.1 e)
        have := dv_ge y (dv 0 a)
        unfold dv at this
        unfold dv
        omega
    have hi := ih y.length (by rw [← hn]; simp) y rfl hy hd.1 (.inr hhead)
    obtain ⟨X, hX⟩ : ∃ X, y.foldl dv 0 = X := ⟨_, rfl⟩
    rw [hX] at hpos hi ⊢
    have e : dv X d = X * 10 + (d.toNat - 48) := rfl
    rw [Go.Lib.decDigits, dif_neg (show ¬ dv X d < 10 by omega), show dv X d / 10 = X by omega, hi]
    congr 2
    rw [← UInt8.toNat_inj, UInt8.toNat_ofNat']
    omega
theorem strip_ok : ∀ (t : List UInt8), t ≠ [] → t.all dig = true → stripZ t ≠ [] ∧ (stripZ t).all dig = true ∧ ((stripZ t).length = 1 ∨ (stripZ t).head? ≠ some 48) ∧ (stripZ t).foldl dv 0 = t.foldl dv 0
  | [], h, _ => absurd rfl h
  | [c], _, hd => ⟨by simp [stripZ], by simpa [stripZ] using hd, .inl rfl, rfl⟩
  | c :: d :: r, _, hd => by
    rw [stripZ]
    by_cases hc : c = 48
    · rw [if_pos hc]
      simp only [List.all_cons, Bool.and_eq_true] at hd
      obtain ⟨h1, h2, h3, h4⟩ := strip_ok (d :: r) (by simp) (by simp only [List.all_cons, Bool.and_eq_true]; exact hd.2)
      refine ⟨h1, h2, h3, ?_⟩
      rw [h4, hc]
      show List.foldl dv 0 (d :: r) = List.foldl dv (dv 0 48) (d :: r)
      rfl
    · rw [if_neg hc]
      exact ⟨by simp, hd, .inr (by simpa using hc), rfl⟩
/-- plain, over the digits of an announcement. -/
theorem pl_digits : ∀ (t : List UInt8) (b rest : List UInt8) (prev : Option UInt8), t ≠ [] → t.all dig = true → isDig rest.head? = false →
    ∃ c, dig c = true ∧ pl prev false (b ++ [123]) (t ++ rest) = pl (some c) false (b ++ 123 :: stripZ t) rest
  | [], _, _, _, h, _, _ => absurd rfl h
  | [c], b, rest, prev, _, hd, hr => by
    have hdc : dig c = true := by simpa using hd
    have hn := dig_no hdc
    have h43 : c ≠ 43 := by rintro rfl; exact absurd hdc (by decide)
    refine ⟨c, hdc, ?_⟩
    rw [List.singleton_append, pl, if_neg hn.2, if_neg (fun e => h43 e.1), if_neg (fun e => by rw [hr] at e; exact absurd e.2.2 (by decide))]
    simp [stripZ]
  | c :: d :: r, b, rest, prev, _, hd, hr => by
    simp only [List.all_cons, Bool.and_eq_true] at hd
    have hn := dig_no hd.1
    have h43 : c ≠ 43 := by rintro rfl; exact absurd hd.1 (by decide)
    by_cases hc : c = 48
    · obtain ⟨c', h1, h2⟩ := pl_digits (d :: r) b rest (some c) (by simp) (by simp only [List.all_cons, Bool.and_eq_true]; exact hd.2) hr
      refine ⟨c', h1, ?_⟩
      rw [List.cons_append, pl, if_neg hn.2, if_neg (fun e => h43 e.1), if_pos ⟨hc, by simp, hd.2.1⟩, h2, stripZ, if_pos hc]
    · -- no nought ahead: all that follows stays
      have key : ∀ (y : List UInt8) (b' : List UInt8) (p' : Option UInt8) (e : UInt8), dig e = true → y.all dig = true → b'.getLast? = some e → p' = some e →
          ∃ c', dig c' = true ∧ pl p' false b' (y ++ rest) = pl (some c') false (b' ++ y) rest := by
        intro y
        induction y with
        | nil => intro b' p' e he _ _ hp; exact ⟨e, he, by rw [hp]; simp⟩
        | cons g y ih =>
          intro b' p' e he hy hl hp
          simp only [List.all_cons, Bool.and_eq_true] at hy
          have hg := dig_no hy.1
          have hg43 : g ≠ 43 := by rintro rfl; exact absurd hy.1 (by decide)
          obtain ⟨c', h1, h2⟩ := ih (b' ++ [g]) (some g) g hy.1 hy.2 (by simp) rfl
          refine ⟨c', h1, ?_⟩
          rw [List.cons_append, pl, if_neg hg.2, if_neg (fun e' => hg43 e'.1), if_neg (fun e' => by
            rw [hl] at e'
            have := e'.2.1
            simp only [Option.some.injEq] at this
            rw [this] at he
            exact absurd he (by decide)), h2]
          simp
      obtain ⟨c', h1, h2⟩ := key (d :: r) (b ++ [123] ++ [c]) (some c) c hd.1 (by simp only [List.all_cons, Bool.and_eq_true]; exact hd.2) (by simp) rfl
      refine ⟨c', h1, ?_⟩
      rw [List.cons_append, pl, if_neg hn.2, if_neg (fun e => h43 e.1), if_neg (fun e => hc e.1), h2, stripZ, if_neg hc]
      simp
theorem annB_at (b z : List UInt8) (hz : z ≠ []) (hd : z.all dig = true) : annB (b ++ 123 :: z) = true := by
  have hr : (b ++ 123 :: z).reverse.dropWhile dig = 123 :: b.reverse := by
    rw [show (b ++ 123 :: z).reverse = z.reverse ++ 123 :: b.reverse by simp]
    have : ∀ (y s : List UInt8), y.all dig = true → (y ++ 123 :: s).dropWhile dig = 123 :: s := by
      intro y
      induction y with
      | nil => intro s _; rw [List.nil_append, List.dropWhile_cons, if_neg (by decide)]
      | cons a y ih =>
        intro s hy
        simp only [List.all_cons, Bool.and_eq_true] at hy
        rw [List.cons_append, List.dropWhile_cons, if_pos hy.1, ih s hy.2]
    exact this _ _ (by rw [List.all_reverse]; exact hd)
  unfold annB
  rw [hr]
  simp only [List.length_cons, List.length_reverse, List.length_append, List.head?_cons, beq_self_eq_true, Bool.and_true]
  have := List.length_pos_iff.2 hz
  exact decide_eq_true (by omega)
end Go.Proofs.YtbgcapgjnflmoaaDoor.Sc

/- plain, over a whole announcement. -/
namespace Go.Proofs.YtbgcapgjnflmoaaDoor.Sc
open Go.Proofs.YtbgcapgjnflmoaaDoor.PLx
theorem digs_exact : ∀ (t rest : List UInt8) (m : Nat), t.all dig = true → isDig rest.head? = false → t.foldl dv m < 4294967296 → digs m (t ++ rest) = (t.foldl dv m, rest)
  | [], rest, m, _, hr, _ => by
    cases rest with
    | nil => rfl
    | cons c r =>
      have hc : dig c = false := hr
      rw [List.nil_append, digs, if_neg (by rw [hc]; decide)]; rfl
  | c :: t, rest, m, ht, hr, hv => by
    simp only [List.all_cons, Bool.and_eq_true] at ht
    rw [List.foldl_cons] at hv
    have h1 := dv_ge t (dv m c)
    rw [List.cons_append, digs, if_pos ht.1, show min (m * 10 + (c.toNat - 48)) 4294967296 = dv m c by have e : dv m c = m * 10 + (c.toNat - 48) := rfl; omega]
    exact digs_exact t rest (dv m c) ht.2 hr hv
theorem itoa_dec (n : Nat) : Go.Lib.itoa (n : Int) = Go.Lib.decDigits n := by
  unfold Go.Lib.itoa; rw [if_neg (by omega), Int.toNat_natCast]
theorem split_dig (l : List UInt8) : ∃ t rest, l = t ++ rest ∧ t.all dig = true ∧ isDig rest.head? = false := by
  refine ⟨l.takeWhile dig, l.dropWhile dig, List.takeWhile_append_dropWhile.symm, List.all_takeWhile, ?_⟩
  induction l with
  | nil => rfl
  | cons c l ih =>
    rw [List.dropWhile_cons]
    split
    · exact ih
    · rename_i h; simpa [isDig] using h
/-- What stands in an announcement. -/
theorem ann_open {r0 q : List UInt8} {n : Nat} {p : Bool} (h : ann (123 :: r0) = some (n, p, q)) (hn : n ≤ 100000) :
    ∃ t rest, r0 = t ++ rest ∧ t ≠ [] ∧ t.all dig = true ∧ isDig rest.head? = false ∧ stripZ t = Go.Lib.itoa (n : Int) ∧ (stripZ t).foldl dv 0 = n ∧ (rest = 125 :: q ∨ rest = 43 :: 125 :: q) := by
  obtain ⟨t, rest, rfl, ht, hr⟩ := split_dig r0
  rw [ann, if_pos rfl] at h
  have hne : t ≠ [] := by
    rintro rfl
    cases rest with
    | nil => cases h
    | cons c r =>
      have hc : dig c = false := hr
      rw [List.nil_append, annIn, if_neg (by rw [hc]; decide)] at h
      cases h
  obtain ⟨h1, h2, h3⟩ := digs_val t rest 0 ht hr (by omega)
  have hin : annIn (t ++ rest) = annEnd (digs 0 (t ++ rest)).1 (digs 0 (t ++ rest)).2 := by
    cases t with
    | nil => exact absurd rfl hne
    | cons c t =>
      have hc : dig c = true := by simp only [List.all_cons, Bool.and_eq_true] at ht; exact ht.1
      rw [List.cons_append, annIn, if_pos hc]
  rw [hin, h1] at h
  obtain ⟨s1, s2, s3, s4⟩ := strip_ok t hne ht
  have fin : n = (digs 0 (t ++ rest)).1 → stripZ t = Go.Lib.itoa (n : Int) ∧ (stripZ t).foldl dv 0 = n := fun e => by
    have hv := h2 (by omega)
    exact ⟨by rw [itoa_dec, e, hv, ← s4, dec_of _ _ rfl s1 s2 s3], by rw [s4, e, hv]⟩
  cases rest with
  | nil => cases h
  | cons c r =>
    simp only [annEnd] at h
    by_cases h4 : c = 125
    · rw [if_pos h4] at h
      simp only [Option.some.injEq, Prod.mk.injEq] at h
      exact ⟨t, _, rfl, hne, ht, hr, (fin h.1.symm).1, (fin h.1.symm).2, .inl (by rw [h4, h.2.2])⟩
    · rw [if_neg h4] at h
      by_cases h5 : c = 43
      · rw [if_pos h5] at h
        cases r with
        | nil => cases h
        | cons d r =>
          simp only [annPlus] at h
          by_cases h6 : d = 125
          · rw [if_pos h6] at h
            simp only [Option.some.injEq, Prod.mk.injEq] at h
            exact ⟨t, _, rfl, hne, ht, hr, (fin h.1.symm).1, (fin h.1.symm).2, .inr (by rw [h5, h6, h.2.2])⟩
          · rw [if_neg h6] at h; cases h
      · rw [if_neg h5] at h; cases h
theorem pl_ann {b r0 q : List UInt8} {n : Nat} {p : Bool} {prev : Option UInt8} (h : ann (123 :: r0) = some (n, p, q)) (hn : n ≤ 100000) (hb : NB b) :
    ∃ prev', pl prev false b (123 :: r0) = pl prev' false (b ++ 123 :: (Go.Lib.itoa (n : Int) ++ [125])) q ∧ NB (b ++ 123 :: (Go.Lib.itoa (n : Int) ++ [125])) := by
  obtain ⟨t, rest, rfl, hne, ht, hr, hz, _, hrest⟩ := ann_open h hn
  obtain ⟨c, hc, hd⟩ := pl_digits t b rest (some 123) hne ht hr
  obtain ⟨s1, s2, _, _⟩ := strip_ok t hne ht
  have hN : NB (b ++ 123 :: (Go.Lib.itoa (n : Int) ++ [125])) := by
    rw [show b ++ 123 :: (Go.Lib.itoa (n : Int) ++ [125]) = (b ++ 123 :: Go.Lib.itoa (n : Int)) ++ [125] by simp]
    exact NB.end_ _ (by decide) (by decide)
  have last : ∀ pv, pl pv false (b ++ 123 :: stripZ t) (125 :: q) = pl (some 125) false (b ++ 123 :: (Go.Lib.itoa (n : Int) ++ [125])) q := fun pv => by
    rw [pl, if_neg (by decide), if_neg (fun e => absurd e.1 (by decide)), if_neg (fun e => absurd e.1 (by decide)), hz]
    simp
  refine ⟨some 125, ?_, hN⟩
  rw [pl_one hb (by decide), hd]
  rcases hrest with rfl | rfl
  · exact last _
  · rw [pl, if_neg (by decide), if_pos ⟨rfl, hc, annB_at b _ s1 s2⟩]
    exact last _
/-- What is written of a literal is an announcement of it. -/
theorem ann_written (n : Nat) (hn : n ≤ 100000) {t : List UInt8} (hne : t ≠ []) (ht : t.all dig = true) (hz : stripZ t = Go.Lib.itoa (n : Int)) (hv : (stripZ t).foldl dv 0 = n) (r : List UInt8) : ann (123 :: (Go.Lib.itoa (n : Int) ++ 125 :: r)) = some (n, false, r) := by
  obtain ⟨s1, s2, _, _⟩ := strip_ok t hne ht
  rw [← hz, ann, if_pos rfl]
  have hd := digs_exact (stripZ t) (125 :: r) 0 s2 rfl (by omega)
  cases hs : stripZ t with
  | nil => exact absurd hs s1
  | cons c y =>
    rw [hs] at hd s2 hv
    have hc : dig c = true := by simp only [List.all_cons, Bool.and_eq_true] at s2; exact s2.1
    rw [List.cons_append, annIn, if_pos hc, ← List.cons_append, hd, hv]
    rfl
theorem ann_again {r0 q : List UInt8} {n : Nat} {p : Bool} (h : ann (123 :: r0) = some (n, p, q)) (hn : n ≤ 100000) (r : List UInt8) : ann (123 :: (Go.Lib.itoa (n : Int) ++ 125 :: r)) = some (n, false, r) := by
  obtain ⟨t, rest, _, hne, ht, _, hz, hv, _⟩ := ann_open h hn
  exact ann_written n hn hne ht hz hv r
end Go.Proofs.YtbgcapgjnflmoaaDoor.Sc

/- What is written of what is open. -/
namespace Go.Proofs.YtbgcapgjnflmoaaDoor.Sc
open Go.Proofs.YtbgcapgjnflmoaaDoor.PLx
theorem wL_snoc : ∀ (l : List Wd) (first : Bool) (x : Wd), wL first (l ++ [x]) = wL first l ++ (sepL (first && l.isEmpty) x ++ wW x)
  | [], first, x => by
    rw [List.nil_append, wL_cons, wL_nil, wL_nil]
    simp
  | y :: l, first, x => by
    rw [List.cons_append, wL_cons, wL_snoc l false x, wL_cons]
    simp
theorem tL_snoc : ∀ (l : List Wd) (x : Wd), tL (l ++ [x]) = tL l ++ tW x
  | [], x => by rw [List.nil_append, tL_cons, tL_nil]; simp
  | y :: l, x => by rw [List.cons_append, tL_cons, tL_snoc l x, tL_cons]; simp
def sepO (g top : Fr) : List UInt8 := if !g.kids.isEmpty && !top.glued then [32] else []
/-- What is written of the words so far, the innermost list on top. -/
def outO : Fr → List Fr → List UInt8
  | top, [] => wL true top.kids
  | top, g :: b => outO g b ++ (sepO g top ++ ((if top.kind = 5 then 91 else 40) :: wL true top.kids))
def litO : Fr → List Fr → List ByteArray
  | top, [] => tL top.kids
  | top, g :: b => litO g b ++ tL top.kids
theorem outO_put (top : Fr) (b : List Fr) (x : Wd) : outO (top.put x) b = outO top b ++ (sepL top.kids.isEmpty x ++ wW x) := by
  cases b with
  | nil =>
    show wL true (top.kids ++ [x]) = _
    rw [wL_snoc, Bool.true_and]; rfl
  | cons g b =>
    show outO g b ++ (sepO g top ++ ((if top.kind = 5 then 91 else 40) :: wL true (top.kids ++ [x]))) = (outO g b ++ (sepO g top ++ ((if top.kind = 5 then 91 else 40) :: wL true top.kids))) ++ _
    rw [wL_snoc, Bool.true_and]
    simp
theorem litO_put (top : Fr) (b : List Fr) (x : Wd) : litO (top.put x) b = litO top b ++ tW x := by
  cases b with
  | nil =>
    show tL (top.kids ++ [x]) = _
    rw [tL_snoc]; rfl
  | cons g b =>
    show litO g b ++ tL (top.kids ++ [x]) = (litO g b ++ tL top.kids) ++ tW x
    rw [tL_snoc]; simp
theorem sepO_word (g top : Fr) : sepL g.kids.isEmpty top.word = sepO g top := rfl
/-- A list that is shut: its last byte is written. -/
theorem outO_shut {s s' : Ma} {c : UInt8} (h : shut s c = some s') (hk : s.top.kind = 4 ∨ s.top.kind = 5) : outO s'.top s'.below = outO s.top s.below ++ [c] ∧ litO s'.top s'.below = litO s.top s.below ∧ s'.lits = s.lits ∧ s'.top.kids.isEmpty = false := by
  unfold shut at h
  cases hb : s.below with
  | nil => rw [hb] at h; cases h
  | cons f b =>
    rw [hb] at h
    simp only at h
    split at h
    · rename_i hc
      simp only [Option.some.injEq] at h
      subst h
      refine ⟨?_, ?_, rfl, ?_⟩
      · show outO (f.put s.top.word) b = _
        rw [outO_put, sepO_word]
        show _ = (outO f b ++ (sepO f s.top ++ ((if s.top.kind = 5 then 91 else 40) :: wL true s.top.kids))) ++ [c]
        rcases hc with ⟨h4, h41⟩ | ⟨h5, h93⟩
        · rw [wW_4 (show s.top.word.f0 = 4 from h4), h41, if_neg (by omega)]
          show _ ++ (_ ++ (40 :: (wL true s.top.kids ++ [41]))) = _
          simp
        · rw [wW_5 (show s.top.word.f0 = 5 from h5), h93, if_pos h5]
          show _ ++ (_ ++ (91 :: (wL true s.top.kids ++ [93]))) = _
          simp
      · show litO (f.put s.top.word) b = _
        rw [litO_put, tW_4 (show s.top.word.f0 = 4 ∨ s.top.word.f0 = 5 from hk)]
        rfl
      · show (f.kids ++ [s.top.word]).isEmpty = false
        simp
    · cases h
end Go.Proofs.YtbgcapgjnflmoaaDoor.Sc

/- Small things on quotes and announcements, each by itself (as ScOne, ScLit and ScRef have them). -/
namespace Go.Proofs.YtbgcapgjnflmoaaDoor.Sc
open Go.Proofs.YtbgcapgjnflmoaaDoor.PLx
theorem qd_escP (e : Int) : ∀ (l out rest : List UInt8), l.all gquote = true → qd e (l.flatMap Ext.esc ++ 34 :: rest) out = .ok (out ++ l, rest)
  | [], out, rest, _ => by
    show qd e (34 :: rest) out = _
    rw [qd.eq_def]; simp
  | c :: l, out, rest, h => by
    simp only [List.all_cons, Bool.and_eq_true] at h
    rw [List.flatMap_cons]
    by_cases hc : c = 34 ∨ c = 92
    · rw [show Ext.esc c = [92, c] from if_pos hc, show ([92, c] ++ l.flatMap Ext.esc) ++ 34 :: rest = 92 :: c :: (l.flatMap Ext.esc ++ 34 :: rest) by simp, qd.eq_def]
      simp only
      rw [if_neg (by decide), if_neg (by decide), if_pos trivial, if_pos hc, qd_escP e l (out ++ [c]) rest h.2]; simp
    · rw [show Ext.esc c = [c] from if_neg hc, show ([c] ++ l.flatMap Ext.esc) ++ 34 :: rest = c :: (l.flatMap Ext.esc ++ 34 :: rest) by simp, qd.eq_def]
      simp only
      rw [if_neg (fun h => hc (.inl h)), if_neg (by rw [h.1]; decide), if_neg (fun h => hc (.inr h)), qd_escP e l (out ++ [c]) rest h.2]; simp
theorem bytesL_quoteP (s : ByteArray) : bytesL (Ext.quoteBA s) = 34 :: ((bytesL s).flatMap Ext.esc ++ [34]) := rfl
theorem bytesL_ofBP (l : List UInt8) : bytesL (ofB l) = l := by simp [bytesL, ofB]
theorem qd34P {c : UInt8} {r : List UInt8} (h : c = 34) : ann (c :: r) = none := by
  subst h
  rw [ann, if_neg (by decide)]
theorem ann_headP {c : UInt8} {r : List UInt8} (h : c ≠ 123) : ann (c :: r) = none := by
  rw [ann, if_neg h]
end Go.Proofs.YtbgcapgjnflmoaaDoor.Sc

/- A line that is scanned: what plain makes of it is what is written of its words, and is scanned to the same. -/
namespace Go.Proofs.YtbgcapgjnflmoaaDoor.Sc
open Go.Proofs.YtbgcapgjnflmoaaDoor.PLx
def Kinds : Fr → List Fr → Prop
  | _, [] => True
  | top, g :: b => (top.kind = 4 ∨ top.kind = 5) ∧ Kinds g b
theorem Kinds.put {top : Fr} {b : List Fr} (h : Kinds top b) (x : Wd) : Kinds (top.put x) b := by cases b <;> exact h
theorem Kinds.shut {s s' : Ma} {c : UInt8} (h : Kinds s.top s.below) (hs : shut s c = some s') : Kinds s'.top s'.below ∧ (s.top.kind = 4 ∨ s.top.kind = 5) := by
  unfold Sc.shut at hs
  cases hb : s.below with
  | nil => rw [hb] at hs; cases hs
  | cons f b =>
    rw [hb] at hs h
    simp only at hs
    split at hs
    · simp only [Option.some.injEq] at hs
      subst hs
      exact ⟨h.2.put _, h.1⟩
    · cases hs
/-- What a word's beginning does: the bytes that plain makes of it, and that they begin the same word. -/
def Enters (s s' : Ma) (glued : Bool) (c : UInt8) (r q : List UInt8) : Prop :=
  ∃ a : List UInt8, outO s'.top s'.below = outO s.top s.below ++ ((if !s.top.kids.isEmpty && !glued then [32] else []) ++ (c :: a)) ∧ ∀ (b : List UInt8) (prev : Option UInt8), NB b → ∃ prev', pl prev false b (c :: r) = pl prev' false (b ++ (c :: a)) q ∧ NB (b ++ (c :: a)) ∧
    (∀ p, p.head? = q.head? → begin_ s glued c (a ++ p) = .ok (s', p))
theorem take_stop {g : UInt8 → Bool} : ∀ (a p : List UInt8), a.all g = true → (∀ c, p.head? = some c → g c = false) → (a ++ p).takeWhile g = a ∧ (a ++ p).dropWhile g = p
  | [], p, _, h => by
    cases p with
    | nil => exact ⟨rfl, rfl⟩
    | cons c p =>
      have := h c rfl
      rw [List.nil_append, List.takeWhile_cons, List.dropWhile_cons, if_neg (by rw [this]; decide), if_neg (by rw [this]; decide)]
      exact ⟨rfl, rfl⟩
  | c :: a, p, ha, h => by
    simp only [List.all_cons, Bool.and_eq_true] at ha
    obtain ⟨h1, h2⟩ := take_stop a p ha.2 h
    rw [List.cons_append, List.takeWhile_cons, List.dropWhile_cons, if_pos ha.1, if_pos ha.1, h1, h2]
    exact ⟨rfl, rfl⟩
theorem drop_head {g : UInt8 → Bool} : ∀ (l : List UInt8) (c : UInt8), (l.dropWhile g).head? = some c → g c = false
  | [], c, h => by cases h
  | d :: l, c, h => by
    rw [List.dropWhile_cons] at h
    split at h
    · exact drop_head l c h
    · rename_i hd
      simp only [List.head?_cons, Option.some.injEq] at h
      rw [← h]; simpa using hd
theorem enters_of {s s' : Ma} {glued : Bool} {c : UInt8} {r q : List UInt8} (h : begin_ s glued c r = .ok (s', q)) (hl : ∀ x, x ∈ s.lits → x.size ≤ 100000) : Enters s s' glued c r q := by
  unfold begin_ at h
  by_cases hst : starts c r = false
  · rw [if_pos hst] at h; cases h
  rw [if_neg hst] at h
  by_cases hct' : ¬ s.count + 1 ≤ 512
  · rw [if_neg hct'] at h; cases h
  have hct : s.count + 1 ≤ 512 := Decidable.not_not.1 hct'
  rw [if_pos hct] at h
  unfold enter at h
  cases ha : ann (c :: r) with
  | some v =>
    obtain ⟨n, p0, q'⟩ := v
    rw [ha] at h
    simp only at h
    have hc : c = 123 := by
      by_cases hc : c = 123
      · exact hc
      · rw [ann, if_neg hc] at ha; cases ha
    subst hc
    cases hls : s.lits with
    | nil => rw [hls] at h; cases h
    | cons x xs =>
      rw [hls] at h
      simp only at h
      by_cases hx : x.size = n
      · rw [if_pos hx] at h
        simp only [Except.ok.injEq, Prod.mk.injEq] at h
        obtain ⟨rfl, rfl⟩ := h
        have hn : n ≤ 100000 := by rw [← hx]; exact hl x (by rw [hls]; exact List.mem_cons_self)
        refine ⟨Go.Lib.itoa (n : Int) ++ [125], by
          show outO (s.top.put ⟨3, x, [], glued⟩) s.below = _
          rw [outO_put, wW_3 rfl, ← hx]; rfl, fun b prev hb => ?_⟩
        obtain ⟨prev', h1, h2⟩ := pl_ann (b := b) (prev := prev) ha hn hb
        refine ⟨prev', h1, h2, fun p hp => ?_⟩
        have ha2 := ann_again ha hn p
        rw [show Go.Lib.itoa (n : Int) ++ 125 :: p = (Go.Lib.itoa (n : Int) ++ [125]) ++ p by simp] at ha2
        unfold begin_
        rw [if_neg (by unfold starts; rw [ha2]; simp), if_pos hct]
        unfold enter
        rw [ha2]
        simp only [hls]
        rw [if_pos hx]
      · rw [if_neg hx] at h; cases h
  | none =>
    rw [ha] at h
    simp only at h
    by_cases h34 : c = 34
    · subst h34
      rw [if_pos rfl] at h
      cases hq : qd (Ma.early ⟨s.count + 1, s.lits, s.top, s.below⟩) r [] with
      | error e => rw [hq] at h; cases h
      | ok v =>
        obtain ⟨t, q'⟩ := v
        rw [hq] at h
        simp only [Except.ok.injEq, Prod.mk.injEq] at h
        obtain ⟨rfl, rfl⟩ := h
        obtain ⟨t0, e1, e2, e3, _⟩ := pl_qd _ (r.length + 1) r [] t q' [] none (Nat.lt_succ_self _) hq
        have e1' : t = t0 := by simpa using e1
        subst e1'
        refine ⟨t.flatMap Ext.esc ++ [34], by
          show outO (s.top.put ⟨2, ofB t, [], glued⟩) s.below = _
          rw [outO_put, wW_2 rfl, bytesL_quoteP, bytesL_ofBP]; rfl, fun b prev hb => ?_⟩
        obtain ⟨t1, f1, _, _, f4⟩ := pl_qd _ (r.length + 1) r [] t q' (b ++ [34]) (some 34) (Nat.lt_succ_self _) hq
        have f1' : t1 = t := by simpa using f1.symm
        subst f1'
        refine ⟨some 34, ?_, ?_, fun p hp => ?_⟩
        · rw [pl, if_pos rfl, f4]; simp
        · rw [show b ++ 34 :: (t1.flatMap Ext.esc ++ [34]) = (b ++ 34 :: t1.flatMap Ext.esc) ++ [34] by simp]
          exact NB.end_ _ (by decide) (by decide)
        · have hq2 := qd_escP (Ma.early ⟨s.count + 1, s.lits, s.top, s.below⟩) t1 [] p e3
          rw [show t1.flatMap Ext.esc ++ 34 :: p = (t1.flatMap Ext.esc ++ [34]) ++ p by simp] at hq2
          unfold begin_
          rw [if_neg (by unfold starts; simp), if_pos hct]
          unfold enter
          rw [qd34P rfl]
          simp only
          rw [if_pos trivial, hq2]
          simp
    · rw [if_neg h34] at h
      by_cases h40 : c = 40 ∨ c = 91
      · rw [if_pos h40] at h
        by_cases hdp : s.below.length < 12
        · rw [if_pos hdp] at h
          simp only [Except.ok.injEq, Prod.mk.injEq] at h
          obtain ⟨rfl, rfl⟩ := h
          have hc123 : c ≠ 123 := by rcases h40 with rfl | rfl <;> decide
          refine ⟨[], by
            show outO s.top s.below ++ (sepO s.top ⟨if c = 91 then 5 else 4, glued, []⟩ ++ ((if (if c = 91 then (5 : Int) else 4) = 5 then 91 else 40) :: wL true [])) = _
            rw [wL_nil]
            rcases h40 with rfl | rfl <;> rfl, fun b prev hb => ⟨some c, by rw [pl_one hb h34], hb.snoc hc123, fun p hp => ?_⟩⟩
          unfold begin_
          rw [if_neg (by unfold starts; rcases h40 with rfl | rfl <;> simp), if_pos hct]
          unfold enter
          rw [List.nil_append, ann_headP hc123]
          simp only
          rw [if_neg h34, if_pos h40, if_pos hdp]
        · rw [if_neg hdp] at h; cases h
      · rw [if_neg h40] at h
        simp only [Except.ok.injEq, Prod.mk.injEq] at h
        obtain ⟨rfl, rfl⟩ := h
        have hg : gword c = true := by
          unfold starts at hst
          rw [ha] at hst
          simp only [Option.isSome_none, Bool.or_false, Bool.not_eq_false, Bool.or_eq_true, beq_iff_eq] at hst
          rcases hst with ((h | h) | h) | h
          · exact h
          · exact absurd h h34
          · exact absurd (.inl h) h40
          · exact absurd (.inr h) h40
        have hsp : c :: r = (c :: r).takeWhile gword ++ (c :: r).dropWhile gword := List.takeWhile_append_dropWhile.symm
        rw [List.takeWhile_cons, if_pos hg] at hsp ⊢
        refine ⟨r.takeWhile gword, by
          show outO (s.top.put ⟨1, ofB (c :: r.takeWhile gword), [], glued⟩) s.below = _
          rw [outO_put, wW_1 rfl, bytesL_ofBP]; rfl, fun b prev hb => ?_⟩
        have hall : (c :: r.takeWhile gword).all gword = true := by rw [List.all_cons, hg, List.all_takeWhile]; rfl
        obtain ⟨prev', h1, h2⟩ := pl_piece (c :: r.takeWhile gword) b ((c :: r).dropWhile gword) prev hb (fun d hd => by
          have := gword_no9 (List.all_eq_true.1 hall d hd)
          exact ⟨this.2, this.1⟩)
        refine ⟨prev', ?_, h2, fun p hp => ?_⟩
        · rw [← h1, ← hsp]
        · obtain ⟨t1, t2⟩ := take_stop (c :: r.takeWhile gword) p hall (fun d hd => drop_head (c :: r) d (by rw [← hp]; exact hd))
          have hc123 : c ≠ 123 := (gword_no9 hg).1
          unfold begin_
          rw [if_neg (by unfold starts; rw [hg]; simp), if_pos hct]
          unfold enter
          rw [ann_headP hc123]
          simp only
          rw [if_neg h34, if_neg h40, show c :: (r.takeWhile gword ++ p) = (c :: r.takeWhile gword) ++ p from rfl, t1, t2]
end Go.Proofs.YtbgcapgjnflmoaaDoor.Sc

/- What is open behind a word's beginning. -/
namespace Go.Proofs.YtbgcapgjnflmoaaDoor.Sc
open Go.Proofs.YtbgcapgjnflmoaaDoor.PLx
/-- What is written of what is open, behind a word's beginning. -/
theorem enters_out {s s' : Ma} {glued : Bool} {c : UInt8} {r q : List UInt8} (h : begin_ s glued c r = .ok (s', q)) (hk : Kinds s.top s.below) : Kinds s'.top s'.below ∧ s'.top.kids.isEmpty = decide (s.below.length < s'.below.length) ∧ litO s'.top s'.below ++ s'.lits = litO s.top s.below ++ s.lits ∧ ∀ x, x ∈ s'.lits → x ∈ s.lits := by
  unfold begin_ at h
  by_cases hst : starts c r = false
  · rw [if_pos hst] at h; cases h
  rw [if_neg hst] at h
  by_cases hct' : ¬ s.count + 1 ≤ 512
  · rw [if_neg hct'] at h; cases h
  rw [if_pos (Decidable.not_not.1 hct')] at h
  unfold enter at h
  have pe : ∀ (x : Wd), (s.top.kids ++ [x]).isEmpty = decide (s.below.length < s.below.length) := fun x => by simp
  cases ha : ann (c :: r) with
  | some v =>
    obtain ⟨n, p0, q'⟩ := v
    rw [ha] at h
    simp only at h
    cases hls : s.lits with
    | nil => rw [hls] at h; cases h
    | cons x xs =>
      rw [hls] at h
      simp only at h
      by_cases hx : x.size = n
      · rw [if_pos hx] at h
        simp only [Except.ok.injEq, Prod.mk.injEq] at h
        obtain ⟨rfl, rfl⟩ := h
        refine ⟨hk.put _, pe _, ?_, fun y hy => List.mem_cons_of_mem _ hy⟩
        show litO (s.top.put ⟨3, x, [], glued⟩) s.below ++ xs = _
        rw [litO_put, tW_3 rfl]
        simp
      · rw [if_neg hx] at h; cases h
  | none =>
    rw [ha] at h
    simp only at h
    by_cases h34 : c = 34
    · rw [if_pos h34] at h
      cases hq : qd (Ma.early ⟨s.count + 1, s.lits, s.top, s.below⟩) r [] with
      | error e => rw [hq] at h; cases h
      | ok v =>
        obtain ⟨t, q'⟩ := v
        rw [hq] at h
        simp only [Except.ok.injEq, Prod.mk.injEq] at h
        obtain ⟨rfl, rfl⟩ := h
        refine ⟨hk.put _, pe _, ?_, fun y hy => hy⟩
        show litO (s.top.put ⟨2, ofB t, [], glued⟩) s.below ++ s.lits = _
        rw [litO_put, tW_0 (.inr rfl)]
        simp
    · rw [if_neg h34] at h
      by_cases h40 : c = 40 ∨ c = 91
      · rw [if_pos h40] at h
        by_cases hdp : s.below.length < 12
        · rw [if_pos hdp] at h
          simp only [Except.ok.injEq, Prod.mk.injEq] at h
          obtain ⟨rfl, rfl⟩ := h
          refine ⟨⟨by show (if c = 91 then (5 : Int) else 4) = 4 ∨ (if c = 91 then (5 : Int) else 4) = 5; split <;> simp, hk⟩, by simp, ?_, fun y hy => hy⟩
          show (litO s.top s.below ++ tL []) ++ s.lits = _
          rw [tL_nil]; simp
        · rw [if_neg hdp] at h; cases h
      · rw [if_neg h40] at h
        simp only [Except.ok.injEq, Prod.mk.injEq] at h
        obtain ⟨rfl, rfl⟩ := h
        refine ⟨hk.put _, pe _, ?_, fun y hy => hy⟩
        show litO (s.top.put ⟨1, ofB ((c :: r).takeWhile gword), [], glued⟩) s.below ++ s.lits = _
        rw [litO_put, tW_0 (.inl rfl)]
        simp
theorem shuts_head {p r : List UInt8} (h : p.head? = r.head?) : shuts p = shuts r := by
  cases p <;> cases r <;> simp_all [shuts]
theorem line_run : ∀ (n : Nat) (blank : Bool) (s s' : Ma) (rest b : List UInt8) (prev : Option UInt8), run n blank s.top.kids.isEmpty s rest = .ok s' → Kinds s.top s.below → NB b → b = outO s.top s.below ++ (if blank = true then [32] else []) →
    (blank = true → s.top.kids.isEmpty = false) → (blank = true → shuts rest = false) → (∀ x, x ∈ s.lits → x.size ≤ 100000) →
    ∃ p, pl prev false b rest = b ++ p ∧ b ++ p = outO s'.top s'.below ∧ s'.below = [] ∧ (∀ N, p.length < N → run N blank s.top.kids.isEmpty s p = .ok s') ∧ p.head? = rest.head? ∧ litO s'.top s'.below ++ s'.lits = litO s.top s.below ++ s.lits
  | 0, _, _, _, _, _, _, h, _, _, _, _, _, _ => by cases h
  | n + 1, blank, s, s', [], b, prev, h, hk, hb, hout, _, _, _ => by
    have h0 := h
    rw [run] at h
    split at h
    · rename_i hbel
      cases blank with
      | true => cases h
      | false =>
        simp only [Bool.false_eq_true, if_false, Except.ok.injEq] at h
        subst h
        refine ⟨[], by rw [pl]; simp, by rw [hout]; simp, hbel, fun N hN => ?_, rfl, rfl⟩
        cases N with
        | zero => simp at hN
        | succ N => rw [run, if_pos hbel]; rfl
    · cases h
  | n + 1, blank, s, s', c :: r, b, prev, h, hk, hb, hout, hbk, hbs, hl => by
    rw [run] at h
    cases hr : round blank s.top.kids.isEmpty s c r with
    | error e => rw [hr] at h; cases h
    | ok v =>
      obtain ⟨b2, f2, s2, q⟩ := v
      rw [hr] at h
      simp only at h
      have hr0 := hr
      unfold round at hr
      by_cases h32 : c = 32
      · rw [if_pos h32] at hr
        cases hcond : (blank || s.top.kids.isEmpty || shuts r) with
        | true => rw [hcond] at hr; cases hr
        | false =>
          rw [hcond] at hr
          simp only [Bool.false_eq_true, if_false, Except.ok.injEq, Prod.mk.injEq] at hr
          obtain ⟨rfl, rfl, rfl, rfl⟩ := hr
          simp only [Bool.or_eq_false_iff] at hcond
          obtain ⟨⟨hbl, hke⟩, hsh⟩ := hcond
          obtain ⟨p, e1, e2, e3, e4, e5, e6⟩ := line_run n true s s' r (b ++ [32]) (some 32) h hk (hb.snoc (by decide)) (by rw [hout, hbl]; simp) (fun _ => hke) (fun _ => hsh) hl
          refine ⟨32 :: p, ?_, by rw [← e2]; simp, e3, fun N hN => ?_, by rw [h32]; rfl, e6⟩
          · rw [h32, pl_one hb (by decide), e1]; simp
          · cases N with
            | zero => simp at hN
            | succ N =>
              rw [run]
              unfold round
              rw [if_pos rfl, hbl, hke, shuts_head e5, hsh]
              simp only [Bool.or_self, Bool.false_eq_true, if_false]
              rw [← hke]
              exact e4 N (by simp only [List.length_cons] at hN; omega)
      · rw [if_neg h32] at hr
        by_cases h41 : c = 41 ∨ c = 93
        · rw [if_pos h41] at hr
          cases hs : shut s c with
          | none => rw [hs] at hr; cases hr
          | some z =>
            rw [hs] at hr
            simp only [Except.ok.injEq, Prod.mk.injEq] at hr
            obtain ⟨rfl, rfl, rfl, rfl⟩ := hr
            have hbl : blank = false := by
              cases blank with
              | false => rfl
              | true =>
                have := hbs rfl
                unfold shuts at this
                rcases h41 with rfl | rfl <;> cases this
            obtain ⟨hk2, hkk⟩ := hk.shut hs
            obtain ⟨o1, o2, o3, o4⟩ := outO_shut hs hkk
            rw [show run n false false z r = run n false z.top.kids.isEmpty z r by rw [o4]] at h
            have hc1 : c ≠ 34 := by rcases h41 with rfl | rfl <;> decide
            have hc2 : c ≠ 123 := by rcases h41 with rfl | rfl <;> decide
            obtain ⟨p, e1, e2, e3, e4, e5, e6⟩ := line_run n false z s' r (b ++ [c]) (some c) h hk2 (hb.snoc hc2) (by rw [hout, hbl, o1]; simp) (fun e => by cases e) (fun e => by cases e) (by rw [o3]; exact hl)
            refine ⟨c :: p, ?_, by rw [← e2]; simp, e3, fun N hN => ?_, rfl, by rw [e6, o2, o3]⟩
            · rw [pl_one hb hc1, e1]; simp
            · cases N with
              | zero => simp at hN
              | succ N =>
                rw [run]
                unfold round
                rw [if_neg h32, if_pos h41, hs]
                simp only
                have e9 := e4 N (by simp only [List.length_cons] at hN; omega)
                rw [o4] at e9
                exact e9
        · rw [if_neg h41] at hr
          cases hbg : begin_ s (!blank && !s.top.kids.isEmpty) c r with
          | error e => rw [hbg] at hr; cases hr
          | ok v =>
            obtain ⟨z, q'⟩ := v
            rw [hbg] at hr
            simp only [Except.ok.injEq, Prod.mk.injEq] at hr
            obtain ⟨rfl, rfl, rfl, rfl⟩ := hr
            obtain ⟨a, o1, hent⟩ := enters_of hbg hl
            obtain ⟨k2, k3, k4, k5⟩ := enters_out hbg hk
            obtain ⟨prev', f1, f2, f3⟩ := hent b prev hb
            rw [← k3] at h
            have ho : b ++ (c :: a) = outO z.top z.below ++ (if false = true then [32] else []) := by
              rw [o1, hout]
              cases blank with
              | true => rw [hbk rfl]; simp
              | false => cases s.top.kids.isEmpty <;> simp
            obtain ⟨p, e1, e2, e3, e4, e5, e6⟩ := line_run n false z s' q' (b ++ (c :: a)) prev' h k2 f2 ho (fun e => by cases e) (fun e => by cases e) (fun x hx => hl x (k5 x hx))
            refine ⟨c :: (a ++ p), ?_, by rw [← e2]; simp, e3, fun N hN => ?_, rfl, by rw [e6, k4]⟩
            · rw [f1, e1]; simp
            · cases N with
              | zero => simp at hN
              | succ N =>
                rw [run]
                unfold round
                rw [if_neg h32, if_neg h41, f3 p e5]
                simp only
                rw [← k3]
                exact e4 N (by simp only [List.length_cons, List.length_append] at hN; omega)
end Go.Proofs.YtbgcapgjnflmoaaDoor.Sc

/- A line that is scanned, made plain: it is what is written of its words, and is scanned to them. -/
namespace Go.Proofs.YtbgcapgjnflmoaaDoor.Sc
open Go.Proofs.YtbgcapgjnflmoaaDoor.PLx
theorem pl_len : ∀ (n : Nat) (r : List UInt8), r.length < n → ∀ (prev : Option UInt8) (q : Bool) (b : List UInt8), (pl prev q b r).length ≤ b.length + r.length
  | 0, _, h, _, _, _ => by omega
  | n + 1, [], _, prev, q, b => by cases q <;> (rw [pl.eq_def]; simp)
  | n + 1, c :: r, h, prev, true, b => by
    simp only [List.length_cons] at h
    by_cases h92 : c = 92
    · subst h92
      cases r with
      | nil => rw [show pl prev true b [92] = b ++ [92] by rw [pl.eq_def]; exact if_pos rfl]; simp
      | cons d r =>
        simp only [List.length_cons] at h
        rw [pl_esc]
        have := pl_len n r (by omega) (some d) true (b ++ [92, d])
        simp only [List.length_append, List.length_cons, List.length_nil] at this ⊢
        omega
    · rw [pl_in h92]
      have := pl_len n r (by omega) (some c) (c != 34) (b ++ [c])
      simp only [List.length_append, List.length_cons, List.length_nil] at this ⊢
      omega
  | n + 1, c :: r, h, prev, false, b => by
    simp only [List.length_cons] at h
    have k1 := pl_len n r (by omega) (some c) true (b ++ [c])
    have k2 := pl_len n r (by omega) (some c) false (b ++ [c])
    have k3 := pl_len n r (by omega) (some c) false b
    simp only [List.length_append, List.length_cons, List.length_nil] at k1 k2
    rw [pl]
    simp only [List.length_cons]
    split
    · omega
    · split
      · omega
      · split <;> omega
theorem line_plain {line : ByteArray} {lits : List ByteArray} {l : List Wd} (h : scan line lits = (l, 0)) :
    pl none false [] (bytesL line) = wL true l ∧ tL l = lits ∧ scan (ofB (wL true l)) lits = (l, 0) ∧ (wL true l).length ≤ 4096 ∧ lits.length ≤ 512 := by
  have hb : line.size ≤ 4096 ∧ lits.length ≤ 512 := by
    unfold scan at h
    split at h
    · assumption
    · cases h
  have hall : lits.all (fun x => decide (x.size ≤ 16384)) = true := by
    unfold scan at h
    rw [if_pos hb] at h
    split at h
    · assumption
    · cases h
  have h2 := h
  unfold scan at h2
  rw [if_pos hb, if_pos hall] at h2
  unfold scanL at h2
  cases hr : run ((bytesL line).length + 1) false true ⟨0, lits, Fr.line, []⟩ (bytesL line) with
  | error e =>
    rw [hr] at h2
    simp only [Prod.mk.injEq] at h2
    exact absurd h2.2 (run_err (Nat.lt_succ_self _) hr)
  | ok s' =>
    rw [hr] at h2
    simp only at h2
    by_cases hl : s'.lits = []
    · rw [if_pos hl] at h2
      simp only [Prod.mk.injEq, and_true] at h2
      obtain ⟨p, e1, e2, e3, e4, e5, e6⟩ := line_run ((bytesL line).length + 1) false ⟨0, lits, Fr.line, []⟩ s' (bytesL line) [] none hr trivial NB.nil (by show [] = wL true [] ++ []; rw [wL_nil]; rfl) (fun e => by cases e) (fun e => by cases e) (fun x hx => by
        have := of_decide_eq_true (List.all_eq_true.1 hall x hx)
        omega)
      rw [List.nil_append] at e1 e2
      have hp : p = wL true l := by rw [e2, ← h2]; unfold outO; rw [e3]
      have ht : tL l = lits := by
        rw [hl, List.append_nil] at e6
        have : litO s'.top s'.below = tL l := by rw [← h2]; unfold litO; rw [e3]
        rw [this] at e6
        rw [e6]
        show tL [] ++ lits = lits
        rw [tL_nil]; rfl
      have hlen : p.length ≤ 4096 := by
        have := pl_len ((bytesL line).length + 1) (bytesL line) (Nat.lt_succ_self _) none false []
        rw [e1, bytesL_len] at this
        simp only [List.length_nil] at this
        omega
      refine ⟨e1.trans hp, ht, ?_, by rw [← hp]; exact hlen, hb.2⟩
      rw [← hp]
      have hsz : (ofB p).size = p.length := by rw [← bytesL_len, bytesL_ofBP]
      unfold scan
      rw [if_pos ⟨by rw [hsz]; exact hlen, hb.2⟩, if_pos hall, bytesL_ofBP]
      unfold scanL
      rw [show run (p.length + 1) false true ⟨0, lits, Fr.line, []⟩ p = .ok s' from e4 (p.length + 1) (Nat.lt_succ_self _)]
      simp only
      rw [if_pos hl, h2]
    · rw [if_neg hl] at h2
      simp at h2
end Go.Proofs.YtbgcapgjnflmoaaDoor.Sc

/- The words of a line that is scanned: their kinds, how deep they are. -/
namespace Go.Proofs.YtbgcapgjnflmoaaDoor.Sc
open Go.Proofs.YtbgcapgjnflmoaaDoor.PLx
theorem Vd_snoc {m : Nat} {l : List Wd} {x : Wd} (h : Vd m l) (hx : (x.f0 = 1 ∨ x.f0 = 2 ∨ (x.f0 = 3 ∧ x.f1.size ≤ 100000)) ∨ ((x.f0 = 4 ∨ x.f0 = 5) ∧ ∃ mm, m = mm + 1 ∧ Vd mm x.f2)) : Vd m (l ++ [x]) := by
  cases m with
  | zero =>
    intro y hy
    rcases List.mem_append.1 hy with hy | hy
    · exact h y hy
    · rw [List.mem_singleton.1 hy]
      rcases hx with hx | ⟨_, mm, e, _⟩
      · exact hx
      · omega
  | succ m =>
    intro y hy
    rcases List.mem_append.1 hy with hy | hy
    · exact h y hy
    · rw [List.mem_singleton.1 hy]
      rcases hx with hx | ⟨h1, mm, e, h2⟩
      · exact .inl hx
      · rw [show m = mm by omega]; exact .inr ⟨h1, h2⟩
/-- Of what is open: each list's words are no deeper than there is room. -/
def VdO : Fr → List Fr → Prop
  | top, [] => Vd 12 top.kids
  | top, g :: b => Vd (12 - (b.length + 1)) top.kids ∧ b.length + 1 ≤ 12 ∧ (top.kind = 4 ∨ top.kind = 5) ∧ VdO g b
theorem VdO.put {top : Fr} {b : List Fr} (h : VdO top b) {x : Wd} (hx : x.f0 = 1 ∨ x.f0 = 2 ∨ (x.f0 = 3 ∧ x.f1.size ≤ 100000)) : VdO (top.put x) b := by
  cases b with
  | nil => exact Vd_snoc h (.inl hx)
  | cons g b => exact ⟨Vd_snoc h.1 (.inl hx), h.2⟩
theorem VdO.shut {s s' : Ma} {c : UInt8} (h : VdO s.top s.below) (hs : shut s c = some s') : VdO s'.top s'.below := by
  unfold Sc.shut at hs
  cases hb : s.below with
  | nil => rw [hb] at hs; cases hs
  | cons f b =>
    rw [hb] at hs h
    simp only at hs
    split at hs
    · simp only [Option.some.injEq] at hs
      subst hs
      obtain ⟨h1, h2, h3, h4⟩ := h
      have hx : (s.top.word.f0 = 4 ∨ s.top.word.f0 = 5) ∧ Vd (12 - (b.length + 1)) s.top.word.f2 := ⟨h3, h1⟩
      cases b with
      | nil => exact Vd_snoc h4 (.inr ⟨hx.1, 11, rfl, hx.2⟩)
      | cons g b =>
        simp only [List.length_cons] at h2 hx
        exact ⟨Vd_snoc h4.1 (.inr ⟨hx.1, 12 - (b.length + 1 + 1), by omega, hx.2⟩), h4.2⟩
    · cases hs
theorem VdO.enter {s s' : Ma} {glued : Bool} {c : UInt8} {r q : List UInt8} (h : begin_ s glued c r = .ok (s', q)) (hv : VdO s.top s.below) (hl : ∀ x, x ∈ s.lits → x.size ≤ 100000) : VdO s'.top s'.below ∧ ∀ x, x ∈ s'.lits → x.size ≤ 100000 := by
  unfold begin_ at h
  by_cases hst : starts c r = false
  · rw [if_pos hst] at h; cases h
  rw [if_neg hst] at h
  by_cases hct' : ¬ s.count + 1 ≤ 512
  · rw [if_neg hct'] at h; cases h
  rw [if_pos (Decidable.not_not.1 hct')] at h
  unfold Sc.enter at h
  cases ha : ann (c :: r) with
  | some v =>
    obtain ⟨n, p0, q'⟩ := v
    rw [ha] at h
    simp only at h
    cases hls : s.lits with
    | nil => rw [hls] at h; cases h
    | cons x xs =>
      rw [hls] at h
      simp only at h
      by_cases hx : x.size = n
      · rw [if_pos hx] at h
        simp only [Except.ok.injEq, Prod.mk.injEq] at h
        obtain ⟨rfl, rfl⟩ := h
        exact ⟨hv.put (.inr (.inr ⟨rfl, hl x (by rw [hls]; exact List.mem_cons_self)⟩)), fun y hy => hl y (by rw [hls]; exact List.mem_cons_of_mem _ hy)⟩
      · rw [if_neg hx] at h; cases h
  | none =>
    rw [ha] at h
    simp only at h
    by_cases h34 : c = 34
    · rw [if_pos h34] at h
      cases hq : qd (Ma.early ⟨s.count + 1, s.lits, s.top, s.below⟩) r [] with
      | error e => rw [hq] at h; cases h
      | ok v =>
        obtain ⟨t, q'⟩ := v
        rw [hq] at h
        simp only [Except.ok.injEq, Prod.mk.injEq] at h
        obtain ⟨rfl, rfl⟩ := h
        exact ⟨hv.put (.inr (.inl rfl)), hl⟩
    · rw [if_neg h34] at h
      by_cases h40 : c = 40 ∨ c = 91
      · rw [if_pos h40] at h
        by_cases hdp : s.below.length < 12
        · rw [if_pos hdp] at h
          simp only [Except.ok.injEq, Prod.mk.injEq] at h
          obtain ⟨rfl, rfl⟩ := h
          have hn : ∀ m, Vd m [] := fun m => by cases m <;> (intro x hx; cases hx)
          exact ⟨⟨hn _, by omega, by show (if c = 91 then (5 : Int) else 4) = 4 ∨ (if c = 91 then (5 : Int) else 4) = 5; split <;> simp, hv⟩, hl⟩
        · rw [if_neg hdp] at h; cases h
      · rw [if_neg h40] at h
        simp only [Except.ok.injEq, Prod.mk.injEq] at h
        obtain ⟨rfl, rfl⟩ := h
        exact ⟨hv.put (.inl rfl), hl⟩
theorem run_VdO : ∀ (n : Nat) (b f : Bool) (s s' : Ma) (rest : List UInt8), run n b f s rest = .ok s' → VdO s.top s.below → (∀ x, x ∈ s.lits → x.size ≤ 100000) → VdO s'.top s'.below ∧ s'.below = []
  | 0, _, _, _, _, _, h, _, _ => by cases h
  | n + 1, b, f, s, s', [], h, hv, hl => by
    rw [run] at h
    split at h
    · rename_i hbel
      cases b with
      | true => cases h
      | false =>
        simp only [Bool.false_eq_true, if_false, Except.ok.injEq] at h
        subst h
        exact ⟨hv, hbel⟩
    · cases h
  | n + 1, b, f, s, s', c :: r, h, hv, hl => by
    rw [run] at h
    cases hr : round b f s c r with
    | error e => rw [hr] at h; cases h
    | ok v =>
      obtain ⟨b2, f2, s2, q⟩ := v
      rw [hr] at h
      simp only at h
      unfold round at hr
      by_cases h32 : c = 32
      · rw [if_pos h32] at hr
        split at hr
        · cases hr
        · simp only [Except.ok.injEq, Prod.mk.injEq] at hr
          obtain ⟨rfl, rfl, rfl, rfl⟩ := hr
          exact run_VdO n _ _ _ s' _ h hv hl
      · rw [if_neg h32] at hr
        by_cases h41 : c = 41 ∨ c = 93
        · rw [if_pos h41] at hr
          cases hs : shut s c with
          | none => rw [hs] at hr; cases hr
          | some z =>
            rw [hs] at hr
            simp only [Except.ok.injEq, Prod.mk.injEq] at hr
            obtain ⟨rfl, rfl, rfl, rfl⟩ := hr
            have hzl : z.lits = s.lits := by
              unfold Sc.shut at hs
              split at hs
              · cases hs
              · split at hs
                · simp only [Option.some.injEq] at hs; rw [← hs]
                · cases hs
            exact run_VdO n _ _ z s' _ h (hv.shut hs) (by rw [hzl]; exact hl)
        · rw [if_neg h41] at hr
          cases hbg : begin_ s (!b && !f) c r with
          | error e => rw [hbg] at hr; cases hr
          | ok v =>
            obtain ⟨z, q'⟩ := v
            rw [hbg] at hr
            simp only [Except.ok.injEq, Prod.mk.injEq] at hr
            obtain ⟨rfl, rfl, rfl, rfl⟩ := hr
            obtain ⟨h1, h2⟩ := VdO.enter hbg hv hl
            exact run_VdO n _ _ z s' _ h h1 h2
/-- The words of a line that is scanned are of the kinds that there are, at most 12 deep. -/
theorem scan_Vd {line : ByteArray} {lits : List ByteArray} {l : List Wd} (h : scan line lits = (l, 0)) : Vd 12 l := by
  have hb : line.size ≤ 4096 ∧ lits.length ≤ 512 := by
    unfold scan at h
    split at h
    · assumption
    · cases h
  have hall : lits.all (fun x => decide (x.size ≤ 16384)) = true := by
    unfold scan at h
    rw [if_pos hb] at h
    split at h
    · assumption
    · cases h
  unfold scan at h
  rw [if_pos hb, if_pos hall] at h
  unfold scanL at h
  cases hr : run ((bytesL line).length + 1) false true ⟨0, lits, Fr.line, []⟩ (bytesL line) with
  | error e =>
    rw [hr] at h
    simp only [Prod.mk.injEq] at h
    exact absurd h.2 (run_err (Nat.lt_succ_self _) hr)
  | ok s' =>
    rw [hr] at h
    simp only at h
    by_cases hl : s'.lits = []
    · rw [if_pos hl] at h
      simp only [Prod.mk.injEq, and_true] at h
      obtain ⟨h1, h2⟩ := run_VdO _ _ _ _ s' _ hr (show Vd 12 [] from fun x hx => by cases hx) (fun x hx => by
        have := of_decide_eq_true (List.all_eq_true.1 hall x hx)
        omega)
      rw [h2] at h1
      rw [← h]
      exact h1
    · rw [if_neg hl] at h
      simp at h
end Go.Proofs.YtbgcapgjnflmoaaDoor.Sc

/- How many words a line that is scanned has; where nothing is written of them there are none. -/
namespace Go.Proofs.YtbgcapgjnflmoaaDoor.Sc
open Go.Proofs.YtbgcapgjnflmoaaDoor.PLx
/-- The words in what is open. -/
def nF : List Fr → Nat
  | [] => 0
  | f :: b => f.kids.length + 1 + nF b
theorem shut_n {s s' : Ma} {c : UInt8} (hs : shut s c = some s') : s'.top.kids.length + nF s'.below ≤ s.top.kids.length + nF s.below ∧ s'.count = s.count := by
  unfold Sc.shut at hs
  cases hb : s.below with
  | nil => rw [hb] at hs; cases hs
  | cons f b =>
    rw [hb] at hs
    simp only at hs
    split at hs
    · simp only [Option.some.injEq] at hs
      subst hs
      refine ⟨?_, rfl⟩
      show (f.kids ++ [s.top.word]).length + nF b ≤ s.top.kids.length + (f.kids.length + 1 + nF b)
      simp only [List.length_append, List.length_cons, List.length_nil]
      omega
    · cases hs
theorem begin_n {s s' : Ma} {glued : Bool} {c : UInt8} {r q : List UInt8} (h : begin_ s glued c r = .ok (s', q)) (hv : s.top.kids.length + nF s.below ≤ s.count) : s'.top.kids.length + nF s'.below ≤ s'.count ∧ s'.count ≤ 512 := by
  unfold begin_ at h
  by_cases hst : starts c r = false
  · rw [if_pos hst] at h; cases h
  rw [if_neg hst] at h
  by_cases hct' : ¬ s.count + 1 ≤ 512
  · rw [if_neg hct'] at h; cases h
  have hct := Decidable.not_not.1 hct'
  rw [if_pos hct] at h
  have hput : ∀ x : Wd, (s.top.put x).kids.length + nF s.below ≤ s.count + 1 := fun x => by
    show (s.top.kids ++ [x]).length + nF s.below ≤ s.count + 1
    simp only [List.length_append, List.length_cons, List.length_nil]
    omega
  unfold Sc.enter at h
  cases ha : ann (c :: r) with
  | some v =>
    obtain ⟨n, p0, q'⟩ := v
    rw [ha] at h
    simp only at h
    cases hls : s.lits with
    | nil => rw [hls] at h; cases h
    | cons x xs =>
      rw [hls] at h
      simp only at h
      by_cases hx : x.size = n
      · rw [if_pos hx] at h
        simp only [Except.ok.injEq, Prod.mk.injEq] at h
        obtain ⟨rfl, rfl⟩ := h
        exact ⟨hput _, hct⟩
      · rw [if_neg hx] at h; cases h
  | none =>
    rw [ha] at h
    simp only at h
    by_cases h34 : c = 34
    · rw [if_pos h34] at h
      cases hq : qd (Ma.early ⟨s.count + 1, s.lits, s.top, s.below⟩) r [] with
      | error e => rw [hq] at h; cases h
      | ok v =>
        obtain ⟨t, q'⟩ := v
        rw [hq] at h
        simp only [Except.ok.injEq, Prod.mk.injEq] at h
        obtain ⟨rfl, rfl⟩ := h
        exact ⟨hput _, hct⟩
    · rw [if_neg h34] at h
      by_cases h40 : c = 40 ∨ c = 91
      · rw [if_pos h40] at h
        by_cases hdp : s.below.length < 12
        · rw [if_pos hdp] at h
          simp only [Except.ok.injEq, Prod.mk.injEq] at h
          obtain ⟨rfl, rfl⟩ := h
          refine ⟨?_, hct⟩
          show ([] : List Wd).length + (s.top.kids.length + 1 + nF s.below) ≤ s.count + 1
          simp only [List.length_nil]
          omega
        · rw [if_neg hdp] at h; cases h
      · rw [if_neg h40] at h
        simp only [Except.ok.injEq, Prod.mk.injEq] at h
        obtain ⟨rfl, rfl⟩ := h
        exact ⟨hput _, hct⟩
theorem run_n : ∀ (n : Nat) (b f : Bool) (s s' : Ma) (rest : List UInt8), run n b f s rest = .ok s' → s.top.kids.length + nF s.below ≤ s.count → s.count ≤ 512 → s'.top.kids.length ≤ 512
  | 0, _, _, _, _, _, h, _, _ => by cases h
  | n + 1, b, f, s, s', [], h, hv, hl => by
    rw [run] at h
    split at h
    · cases b with
      | true => cases h
      | false =>
        simp only [Bool.false_eq_true, if_false, Except.ok.injEq] at h
        subst h
        omega
    · cases h
  | n + 1, b, f, s, s', c :: r, h, hv, hl => by
    rw [run] at h
    cases hr : round b f s c r with
    | error e => rw [hr] at h; cases h
    | ok v =>
      obtain ⟨b2, f2, s2, q⟩ := v
      rw [hr] at h
      simp only at h
      unfold round at hr
      by_cases h32 : c = 32
      · rw [if_pos h32] at hr
        split at hr
        · cases hr
        · simp only [Except.ok.injEq, Prod.mk.injEq] at hr
          obtain ⟨rfl, rfl, rfl, rfl⟩ := hr
          exact run_n n _ _ _ s' _ h hv hl
      · rw [if_neg h32] at hr
        by_cases h41 : c = 41 ∨ c = 93
        · rw [if_pos h41] at hr
          cases hs : shut s c with
          | none => rw [hs] at hr; cases hr
          | some z =>
            rw [hs] at hr
            simp only [Except.ok.injEq, Prod.mk.injEq] at hr
            obtain ⟨rfl, rfl, rfl, rfl⟩ := hr
            obtain ⟨k1, k2⟩ := shut_n hs
            exact run_n n _ _ z s' _ h (by omega) (by omega)
        · rw [if_neg h41] at hr
          cases hbg : begin_ s (!b && !f) c r with
          | error e => rw [hbg] at hr; cases hr
          | ok v =>
            obtain ⟨z, q'⟩ := v
            rw [hbg] at hr
            simp only [Except.ok.injEq, Prod.mk.injEq] at hr
            obtain ⟨rfl, rfl, rfl, rfl⟩ := hr
            obtain ⟨h1, h2⟩ := begin_n hbg hv
            exact run_n n _ _ z s' _ h h1 h2
/-- A line that is scanned has at most 512 words. -/
theorem scan_n {line : ByteArray} {lits : List ByteArray} {l : List Wd} (h : scan line lits = (l, 0)) : l.length ≤ 512 := by
  unfold scan at h
  split at h
  · split at h
    · unfold scanL at h
      cases hr : run ((bytesL line).length + 1) false true ⟨0, lits, Fr.line, []⟩ (bytesL line) with
      | error e =>
        rw [hr] at h
        simp only [Prod.mk.injEq] at h
        exact absurd h.2 (run_err (Nat.lt_succ_self _) hr)
      | ok s' =>
        rw [hr] at h
        simp only at h
        by_cases hl : s'.lits = []
        · rw [if_pos hl] at h
          simp only [Prod.mk.injEq, and_true] at h
          rw [← h]
          exact run_n _ _ _ _ s' _ hr (Nat.le_refl 0) (Nat.zero_le _)
        · rw [if_neg hl] at h
          simp at h
    · cases h
  · cases h
/-- A line of no text has no words and no literals. -/
theorem scan_nil {lits : List ByteArray} {l : List Wd} (h : scan (ofB []) lits = (l, 0)) : l = [] ∧ lits = [] := by
  unfold scan at h
  split at h
  · split at h
    · unfold scanL at h
      rw [show bytesL (ofB []) = [] from rfl, show run (([] : List UInt8).length + 1) false true ⟨0, lits, Fr.line, []⟩ [] = .ok ⟨0, lits, Fr.line, []⟩ from rfl] at h
      simp only at h
      split at h
      · rename_i hl
        simp only [Prod.mk.injEq, and_true] at h
        exact ⟨h.symm, hl⟩
      · simp at h
    · cases h
  · cases h
theorem scan_no : scan (ofB []) [] = ([], 0) := by
  unfold scan scanL
  rfl
end Go.Proofs.YtbgcapgjnflmoaaDoor.Sc
