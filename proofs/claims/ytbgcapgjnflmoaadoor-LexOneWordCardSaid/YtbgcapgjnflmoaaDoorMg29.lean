/- Contracts of the functions that the statement reaches, and plain lemmas: ScOne, ScOneW, ScOw, POwx. -/
import Derived.Test.YtbgcapgjnflmoaaDoorMg24
import Derived.Test.YtbgcapgjnflmoaaDoorMg28
import Derived.Test.YtbgcapgjnflmoaaDoorMg22
import Derived.Test.YtbgcapgjnflmoaaDoorMg23
set_option linter.unusedVariables false
set_option linter.unusedSimpArgs false
set_option linter.unnecessarySimpa false
/- What is sent of one text, scanned: one word. -/
namespace Go.Proofs.YtbgcapgjnflmoaaDoor.Sc
open Go.Proofs.YtbgcapgjnflmoaaDoor.PLx
set_option maxRecDepth 100000 in
theorem lit_two : ∀ n : Fin 2001, ann (123 :: (Go.Lib.itoa ((n.val : Nat) : Int) ++ [125])) = some (n.val, false, []) ∧ anq false (123 :: (Go.Lib.itoa ((n.val : Nat) : Int) ++ [125])) = ((n.val : Int), false, true) ∧
    (123 :: (Go.Lib.itoa ((n.val : Nat) : Int) ++ [125])).all (· != 13) = true := by decide +kernel
theorem quote_fin9 : ∀ c : Fin 256, Pure.quoteU (UInt8.ofNat c.val) = gquote (UInt8.ofNat c.val) := by decide +kernel
theorem quote_g (b : UInt8) : Pure.quoteU b = gquote b := by
  have h := quote_fin9 ⟨b.toNat, b.toNat_lt⟩
  simpa using h
theorem ofB_bytesL (s : ByteArray) : ofB (bytesL s) = s := by simp [ofB, bytesL]
theorem qd_esc (e : Int) : ∀ (l out rest : List UInt8), l.all gquote = true → qd e (l.flatMap Ext.esc ++ 34 :: rest) out = .ok (out ++ l, rest)
  | [], out, rest, _ => by
    show qd e (34 :: rest) out = _
    rw [qd.eq_def]; simp
  | c :: l, out, rest, h => by
    simp only [List.all_cons, Bool.and_eq_true] at h
    rw [List.flatMap_cons]
    by_cases hc : c = 34 ∨ c = 92
    · rw [show Ext.esc c = [92, c] from if_pos hc, show ([92, c] ++ l.flatMap Ext.esc) ++ 34 :: rest = 92 :: c :: (l.flatMap Ext.esc ++ 34 :: rest) by simp, qd.eq_def]
      simp only
      rw [if_neg (by decide), if_neg (by decide), if_pos trivial, if_pos hc, qd_esc e l (out ++ [c]) rest h.2]; simp
    · rw [show Ext.esc c = [c] from if_neg hc, show ([c] ++ l.flatMap Ext.esc) ++ 34 :: rest = c :: (l.flatMap Ext.esc ++ 34 :: rest) by simp, qd.eq_def]
      simp only
      rw [if_neg (fun h => hc (.inl h)), if_neg (by rw [h.1]; decide), if_neg (fun h => hc (.inr h)), qd_esc e l (out ++ [c]) rest h.2]; simp
theorem bytesL_quote (s : ByteArray) : bytesL (Ext.quoteBA s) = 34 :: ((bytesL s).flatMap Ext.esc ++ [34]) := rfl
theorem quote_len (s : ByteArray) : (Ext.quoteBA s).size ≤ 2 * s.size + 2 := by
  have h := Ext.esc_len (bytesL s)
  rw [← bytesL_len, bytesL_quote]
  rw [bytesL_len] at h
  simp only [List.length_cons, List.length_append, List.length_nil]
  omega
theorem scan_quote (s : ByteArray) (h : s.size ≤ 2000) (hq : (bytesL s).all gquote = true) : scan (Ext.quoteBA s) [] = ([⟨2, s, [], false⟩], 0) := by
  have hl := quote_len s
  unfold scan
  rw [if_pos ⟨by omega, by simp⟩, if_pos (by simp), bytesL_quote]
  unfold scanL
  have hb : begin_ ⟨0, [], Fr.line, []⟩ false 34 ((bytesL s).flatMap Ext.esc ++ [34]) = .ok (⟨1, [], Fr.line.put ⟨2, s, [], false⟩, []⟩, []) := by
    unfold begin_
    rw [if_neg (by unfold starts; simp), if_pos (by show 0 + 1 ≤ 512; decide)]
    unfold enter
    rw [show ann (34 :: ((bytesL s).flatMap Ext.esc ++ [34])) = none from rfl]
    simp only
    rw [if_pos trivial, qd_esc _ _ _ _ hq]
    simp only [List.nil_append, ofB_bytesL]
    rfl
  have hr : run ((34 :: ((bytesL s).flatMap Ext.esc ++ [34])).length + 1) false true ⟨0, [], Fr.line, []⟩ (34 :: ((bytesL s).flatMap Ext.esc ++ [34])) = .ok ⟨1, [], Fr.line.put ⟨2, s, [], false⟩, []⟩ := by
    show run ((((bytesL s).flatMap Ext.esc ++ [34]).length + 1) + 1) false true ⟨0, [], Fr.line, []⟩ (34 :: ((bytesL s).flatMap Ext.esc ++ [34])) = _
    rw [run]
    unfold round
    rw [if_neg (by decide), if_neg (by decide), show (!false && !true) = false from rfl, hb]
    simp only
    rw [run, if_pos rfl]
    rfl
  rw [hr]
  rfl
theorem atom_fin9 : ∀ c : Fin 256, Pure.plainU (UInt8.ofNat c.val) = true → gword (UInt8.ofNat c.val) = true ∧ UInt8.ofNat c.val ≠ 13 ∧ UInt8.ofNat c.val ≠ 34 ∧ UInt8.ofNat c.val ≠ 123 := by decide +kernel
theorem atom_g (b : UInt8) (h : Pure.plainU b = true) : gword b = true ∧ b ≠ 13 ∧ b ≠ 34 ∧ b ≠ 123 := by
  have h' := atom_fin9 ⟨b.toNat, b.toNat_lt⟩
  simp only [UInt8.ofNat_toNat] at h'
  exact h' h
theorem take_all {p : UInt8 → Bool} : ∀ {l : List UInt8}, l.all p = true → l.takeWhile p = l
  | [], _ => rfl
  | c :: l, h => by
    simp only [List.all_cons, Bool.and_eq_true] at h
    rw [List.takeWhile_cons, if_pos h.1, take_all h.2]
theorem drop_all {p : UInt8 → Bool} : ∀ {l : List UInt8}, l.all p = true → l.dropWhile p = []
  | [], _ => rfl
  | c :: l, h => by
    simp only [List.all_cons, Bool.and_eq_true] at h
    rw [List.dropWhile_cons, if_pos h.1, drop_all h.2]
theorem gword_no7 {c : UInt8} (h : gword c = true) : c ≠ 32 ∧ c ≠ 41 ∧ c ≠ 93 ∧ c ≠ 34 ∧ c ≠ 40 ∧ c ≠ 91 ∧ c ≠ 123 := by
  refine ⟨?_, ?_, ?_, ?_, ?_, ?_, ?_⟩ <;> (rintro rfl; exact absurd h (by decide))
theorem scan_atom (s : ByteArray) (h : s.size ≤ 2000) (h0 : bytesL s ≠ []) (hq : (bytesL s).all gword = true) : scan s [] = ([⟨1, s, [], false⟩], 0) := by
  unfold scan
  rw [if_pos ⟨by omega, by simp⟩, if_pos (by simp)]
  unfold scanL
  obtain ⟨l, hs⟩ : ∃ l, bytesL s = l := ⟨_, rfl⟩
  have hofB : ofB l = s := by rw [← hs, ofB_bytesL]
  rw [hs] at hq h0 ⊢
  cases l with
  | nil => exact absurd rfl h0
  | cons c r =>
    have hc : gword c = true := by simp only [List.all_cons, Bool.and_eq_true] at hq; exact hq.1
    obtain ⟨n1, n2, n3, n4, n5, n6, n7⟩ := gword_no7 hc
    have hb : begin_ ⟨0, [], Fr.line, []⟩ false c r = .ok (⟨1, [], Fr.line.put ⟨1, s, [], false⟩, []⟩, []) := by
      unfold begin_
      rw [if_neg (by unfold starts; simp [hc]), if_pos (by show 0 + 1 ≤ 512; decide)]
      unfold enter
      rw [show ann (c :: r) = none by simp [ann, n7]]
      simp only
      have ht : (c :: r).takeWhile gword = c :: r := take_all hq
      have hd : (c :: r).dropWhile gword = [] := drop_all hq
      rw [if_neg n4, if_neg (by simp [n5, n6]), ht, hd, hofB]
      rfl
    have hr : run ((c :: r).length + 1) false true ⟨0, [], Fr.line, []⟩ (c :: r) = .ok ⟨1, [], Fr.line.put ⟨1, s, [], false⟩, []⟩ := by
      show run ((r.length + 1) + 1) false true ⟨0, [], Fr.line, []⟩ (c :: r) = _
      rw [run]
      unfold round
      rw [if_neg n1, if_neg (by simp [n2, n3]), show (!false && !true) = false from rfl, hb]
      simp only
      rw [run, if_pos rfl]
      rfl
    rw [hr]
    rfl
theorem annL_len2 (s : ByteArray) (h : s.size ≤ 2000) : (annL s).length ≤ 102 := by
  have := itoa_le s.size (by omega)
  unfold annL
  simp only [List.length_cons, List.length_append, List.length_nil]
  omega
theorem scan_lit2 (s : ByteArray) (h : s.size ≤ 2000) : scan (ofB (annL s)) [s] = ([⟨3, s, [], false⟩], 0) := by
  have hl := annL_len2 s h
  have hsz : (ofB (annL s)).size = (annL s).length := by rw [← bytesL_len, bytesL_ofB]
  have ha : ann (annL s) = some (s.size, false, []) := (lit_two ⟨s.size, by omega⟩).1
  unfold scan
  rw [if_pos ⟨by rw [hsz]; omega, by simp⟩, if_pos (by simp; omega), bytesL_ofB]
  unfold scanL
  have hb : begin_ ⟨0, [s], Fr.line, []⟩ false 123 (Go.Lib.itoa (s.size : Int) ++ [125]) = .ok (⟨1, [], Fr.line.put ⟨3, s, [], false⟩, []⟩, []) := by
    have ha' : ann (123 :: (Go.Lib.itoa (s.size : Int) ++ [125])) = some (s.size, false, []) := ha
    unfold begin_
    rw [if_neg (by unfold starts; rw [ha']; simp), if_pos (by show 0 + 1 ≤ 512; decide)]
    unfold enter
    rw [ha']
    simp
  have hr : run ((annL s).length + 1) false true ⟨0, [s], Fr.line, []⟩ (annL s) = .ok ⟨1, [], Fr.line.put ⟨3, s, [], false⟩, []⟩ := by
    show run (((Go.Lib.itoa (s.size : Int) ++ [125]).length + 1) + 1) false true ⟨0, [s], Fr.line, []⟩ (123 :: (Go.Lib.itoa (s.size : Int) ++ [125])) = _
    rw [run]
    unfold round
    rw [if_neg (by decide), if_neg (by decide), show (!false && !true) = false from rfl, hb]
    simp only
    rw [run, if_pos rfl]
    rfl
  rw [hr]
  rfl
/-- Where a line's end stands first. -/
def cutN : List UInt8 → Nat → Option Nat
  | [], _ => none
  | c :: r, i => if c = 13 ∧ r.head? = some 10 then some i else cutN r (i + 1)
theorem cut_no : ∀ (l : List UInt8) (i : Nat), l.all (· != 13) = true → cutN l i = none
  | [], _, _ => rfl
  | c :: r, i, h => by
    simp only [List.all_cons, Bool.and_eq_true, bne_iff_ne, ne_eq] at h
    rw [cutN, if_neg (fun hh => h.1 hh.1)]
    exact cut_no r _ h.2
theorem cut_at : ∀ (a r : List UInt8) (i : Nat), a.all (· != 13) = true → cutN (a ++ 13 :: 10 :: r) i = some (i + a.length)
  | [], r, i, _ => by rw [List.nil_append, cutN, if_pos ⟨rfl, rfl⟩]; rfl
  | c :: a, r, i, h => by
    simp only [List.all_cons, Bool.and_eq_true, bne_iff_ne, ne_eq] at h
    rw [List.cons_append, cutN, if_neg (fun hh => h.1 hh.1), cut_at a r _ h.2, List.length_cons]
    congr 1; omega
/-- What is sent is one word, whose text is s. -/
def OneW (sent s : ByteArray) : Prop :=
  match cutN (bytesL sent) 0 with
  | none => ∃ k, scan sent [] = ([⟨k, s, [], false⟩], 0)
  | some i => annc (i + 1) false ((bytesL sent).take i) = (((sent.extract (i + 2) sent.size).size : Int), false, true) ∧ ∃ k, scan (sent.extract 0 i) [sent.extract (i + 2) sent.size] = ([⟨k, s, [], false⟩], 0)
theorem OneW.inj {sent s t : ByteArray} (h : OneW sent s) (h' : OneW sent t) : s = t := by
  unfold OneW at h h'
  split at h
  · rename_i hc
    rw [hc] at h'
    obtain ⟨k, hk⟩ := h
    obtain ⟨k', hk'⟩ := h'
    rw [hk] at hk'
    simp only [Prod.mk.injEq, List.cons.injEq, PLx.S43.mk.injEq] at hk'
    exact hk'.1.1.2.1
  · rename_i i hc
    rw [hc] at h'
    obtain ⟨_, k, hk⟩ := h
    obtain ⟨_, k', hk'⟩ := h'
    rw [hk] at hk'
    simp only [Prod.mk.injEq, List.cons.injEq, PLx.S43.mk.injEq] at hk'
    exact hk'.1.1.2.1
theorem all_mono {p q : UInt8 → Bool} : ∀ {l : List UInt8}, (∀ c, p c = true → q c = true) → l.all p = true → l.all q = true := by
  intro l h hl
  rw [List.all_eq_true] at hl ⊢
  exact fun c hc => h c (hl c hc)
theorem gquote_no (c : UInt8) (h : gquote c = true) : (c != 13) = true := by
  rw [bne_iff_ne]; rintro rfl; exact absurd h (by decide)
theorem quote_cut (l : List UInt8) (h : l.all gquote = true) : (34 :: (l.flatMap Ext.esc ++ [34])).all (· != 13) = true := by
  rw [List.all_eq_true] at h ⊢
  intro c hc
  simp only [List.mem_cons, List.mem_append, List.mem_flatMap, List.not_mem_nil, or_false] at hc
  rcases hc with rfl | ⟨d, hd, hc⟩ | rfl
  · decide
  · unfold Ext.esc at hc
    split at hc
    · simp only [List.mem_cons, List.not_mem_nil, or_false] at hc
      rcases hc with rfl | rfl
      · decide
      · exact gquote_no _ (h _ hd)
    · simp only [List.mem_cons, List.not_mem_nil, or_false] at hc
      subst hc
      exact gquote_no _ (h _ hd)
  · decide
theorem lit_bytes (s : ByteArray) : bytesL (Pure.litBA s) = annL s ++ 13 :: 10 :: bytesL s := by
  unfold Pure.litBA bytesL annL
  simp [Ext.itoaBA]
theorem take_extract (b : ByteArray) (i : Nat) : b.extract 0 i = ofB ((bytesL b).take i) := by
  unfold ofB bytesL
  apply ByteArray.ext
  apply Array.ext'
  simp [ByteArray.data_extract]
theorem drop_extract (b : ByteArray) (i : Nat) : b.extract i b.size = ofB ((bytesL b).drop i) := by
  rw [← extract_bytes, ofB_bytesL]
theorem string_one (s : ByteArray) (h : s.size ≤ 2000) : OneW (Pure.stringBA s) s := by
  unfold OneW Pure.stringBA
  rw [show Pure.quoteU = gquote from funext quote_g, show s.data.toList = bytesL s from rfl]
  cases hq : (bytesL s).all gquote with
  | true =>
    rw [if_pos rfl, bytesL_quote, cut_no _ _ (quote_cut _ hq)]
    exact ⟨2, scan_quote s h hq⟩
  | false =>
    have hf := lit_two ⟨s.size, by omega⟩
    rw [if_neg (by decide), lit_bytes, cut_at (annL s) _ 0 hf.2.2, Nat.zero_add]
    simp only
    rw [take_extract, drop_extract, lit_bytes, List.take_left', show annL s ++ 13 :: 10 :: bytesL s = (annL s ++ [13, 10]) ++ bytesL s by simp, List.drop_left' (by simp), ofB_bytesL]
    · exact ⟨hf.2.1, 3, scan_lit2 s h⟩
    · rfl
theorem put_one (s : ByteArray) (h : s.size ≤ 2000) : OneW (Pure.putBA s) s := by
  unfold Pure.putBA
  cases hq : Pure.isSpec 2 s.data.toList with
  | false => exact string_one s h
  | true =>
    rw [if_pos rfl]
    have h0 : bytesL s ≠ [] := by
      intro e
      rw [show s.data.toList = [] from e, Pure.isSpec_nil] at hq
      cases hq
    have ha : (bytesL s).all Pure.plainU = true := by
      have h2 : (Pure.atomL s.data.toList && !Pure.nullL s.data.toList) = true := hq
      unfold Pure.atomL at h2
      simp only [Bool.and_eq_true] at h2
      exact h2.1.1
    unfold OneW
    rw [cut_no _ _ (all_mono (fun c hc => by rw [bne_iff_ne]; exact (atom_g c hc).2.1) ha)]
    exact ⟨1, scan_atom s h h0 (all_mono (fun c hc => (atom_g c hc).1) ha)⟩
theorem put_nil (s : ByteArray) : Pure.putBA s ≠ ⟨#[78, 73, 76]⟩ := by
  unfold Pure.putBA
  intro e
  split at e
  · rename_i h
    rw [e] at h
    exact absurd h (by rw [show Pure.isSpec 2 (⟨#[78, 73, 76]⟩ : ByteArray).data.toList = false by kernel_rfl]; decide)
  · unfold Pure.stringBA at e
    split at e
    · exact absurd (congrArg (fun b : ByteArray => (bytesL b).head?) e) (by rw [show (bytesL (Ext.quoteBA s)).head? = some 34 from rfl]; decide)
    · have := congrArg (fun b : ByteArray => (bytesL b).head?) e
      rw [show (bytesL (Pure.litBA s)).head? = some 123 by rw [lit_bytes]; rfl] at this
      exact absurd this (by decide)
end Go.Proofs.YtbgcapgjnflmoaaDoor.Sc

/- one: the walk. -/
namespace Go.Proofs.YtbgcapgjnflmoaaDoor.Sc
open Go.RowKit Go.Proofs.YtbgcapgjnflmoaaDoorW.PrintWords Go.Proofs.YtbgcapgjnflmoaaDoorW.PrintMore Go.Proofs.YtbgcapgjnflmoaaDoor.PLx
variable {w0 w w1 : World}
theorem CS_one (W : World) (z : ByteArray) (t : TypeId) : Kd.string.C (W.alloc (Obj.cells #[.string z] t)) (some ⟨W.heap.size, 0, none⟩) 1 [z] := by
  refine Kd.C_of_reads (d := ByteArray.empty) ⟨rfl, by decide, fun _ => ⟨_, rfl, fun j hj => ?_⟩⟩
  have hj0 : j = 0 := by simpa using hj
  subst hj0
  exact blk_cell (blk_new W _) 0
theorem cutN_end {l : List UInt8} (h : l.length ≤ 1) (i : Nat) : cutN l i = none := by
  match l, h with
  | [], _ => rfl
  | [c], _ => rw [cutN, if_neg (by simp)]; rfl
set_option maxRecDepth 100000 in
set_option maxHeartbeats 4000000 in
theorem one_ok (sent s : ByteArray) (hz : sent.size ≤ 100000) (h : OneW sent s) : Calls Tryd.prog 21 #[.string sent, .string s] w fun e w' => e = .returned (.bool true) ∧ Below w.heap.size w w' := by
  obtain ⟨R, hR⟩ : ∃ R, cutN (bytesL sent) 0 = R := ⟨_, rfl⟩
  unfold OneW at h
  rw [hR] at h
  have HR : Hid _ := hR
  have HONE : Hid _ := h
  clear hR h
  go_enter Tryd.func21, Tryd.ntmps21
  go_wp2
  go_loop [5, 6, 7] (fun v5 v6 vi => ∃ i : Nat, i ≤ sent.size ∧ vi = .int .i64 i ∧ v5 = .string sent ∧ v6 = .slice none 0 0 ∧ Hid (cutN ((bytesL sent).drop i) i = R)) (fun _ _ vi => sent.size - (intOf vi).toNat)
  case atStart => exact ⟨0, Nat.zero_le _, rfl, rfl, rfl, (by rw [List.drop_zero]; exact HR.out : cutN ((bytesL sent).drop 0) 0 = R)⟩
  case round =>
    obtain ⟨i, hi, rfl, rfl, rfl, HK⟩ := hrel
    have hi0 : (0 : Int) ≤ (i : Int) := by omega
    by_cases hlt : i + 1 < sent.size
    · have hltb : decide ((i : Int) + 1 < (sent.size : Int)) = true := decide_eq_true (by omega)
      have hi1 : (i : Int) < (sent.size : Int) := by omega
      have hi2 : (i : Int) + 1 < (sent.size : Int) := by omega
      have hz9 : (sent.size : Int) ≤ 100000 := by omega
      obtain ⟨c1, hc1⟩ : ∃ c : Int, ((sent[i]'(by omega)).toNat : Int) = c := ⟨_, rfl⟩
      obtain ⟨c2, hc2⟩ : ∃ c : Int, ((sent[i + 1]'hlt).toNat : Int) = c := ⟨_, rfl⟩
      have hix1 : ∀ h : i < sent.size, ((sent[i]'h).toNat : Int) = c1 := fun _ => hc1
      have hix2 : ∀ h : i + 1 < sent.size, ((sent[i + 1]'h).toNat : Int) = c2 := fun _ => hc2
      have hdrop : cutN ((bytesL sent).drop i) i = if sent[i]'(by omega) = 13 ∧ sent[i + 1]'hlt = 10 then some i else cutN ((bytesL sent).drop (i + 1)) (i + 1) := by
        rw [drop_at sent i (by omega), cutN, drop_at sent (i + 1) hlt]
        simp only [List.head?_cons, Option.some.injEq]
      have hk := HK.out
      rw [hdrop] at hk
      by_cases hb : sent[i]'(by omega) = 13 ∧ sent[i + 1]'hlt = 10
      · rw [if_pos hb] at hk
        subst hk
        have e1 : c1 = 13 := by rw [← hc1, hb.1]; rfl
        have e2 : c2 = 10 := by rw [← hc2, hb.2]; rfl
        subst e1
        subst e2
        clear hc1 hc2 hdrop hb
        obtain ⟨hann, k, hsc⟩ := HONE.out
        obtain ⟨L, hL⟩ : ∃ L, sent.extract 0 i = L := ⟨_, rfl⟩
        obtain ⟨T, hT⟩ : ∃ T, sent.extract (i + 2) sent.size = T := ⟨_, rfl⟩
        have hLs : L.size = i := by rw [← hL, ByteArray.size_extract]; omega
        have hex1 : bytesL L = (bytesL sent).take i := by rw [← hL, take_extract, bytesL_ofB]
        obtain ⟨k1, H1⟩ := (lex_ev (s := L) (by omega)).rounds
        rw [hex1, hLs, hann, hT] at H1
        rw [hL, hT] at hsc
        have hTn : ((T.size : Int) != (T.size : Int)) = false := by simp
        have H1 : Hid _ := H1
        have HS : Hid _ := hsc
        clear hann hsc hLs hex1
        go_wp2_with fail
        refine (lex_Announced.calls k1 L (T.size : Int) false true _ H1.out).mono ?_
        rintro e w5 ⟨rfl, hb5⟩
        have hcell : w5.cell? ⟨w.heap.size, 0, none⟩ = some (.string T) := blk_cell (blk_below (blk_new w (Obj.cells #[.string T] 9)) hb5) 0
        have HCS : Hid _ := Kd.C_below (CS_one w T 9) hb5
        have HB5 : Hid _ := below_then (below_alloc (Below.refl w.heap.size w) (Obj.cells #[.string T] 9)) (below_alloc (Below.refl w.heap.size w) (Obj.cells #[.string T] 9)).size hb5
        clear hb5
        go_wp2_with fail
        refine Calls.mono (scan_ok L [T] w5 HCS.out (Nat.le_refl _) (by simp)) ?_
        rintro e w6 ⟨v1, rfl, hr1, hb6⟩
        rw [HS.out] at hr1 ⊢
        have HB6 : Hid _ := below_then HB5.out HB5.out.size hb6
        clear hb6 hcell
        obtain ⟨g1, cp, hf1, hg1, hgl1, _⟩ := Kd.R_form hr1 (by simp)
        obtain ⟨A1, cq, hv1, hcq, hC1⟩ := Kd.R_reads hr1
        obtain rfl : A1 = some ⟨g1, 0, none⟩ := by rw [hf1] at hv1; injection hv1 with h1 h2 h3; exact h1.symm
        clear hf1 hr1
        rw [show ([⟨k, s, [], false⟩] : List Wd).length = 1 from rfl] at hv1 hcq hC1
        subst hv1
        obtain ⟨ad, A2, c3, ead0, y0, y1, y2, y3, hy2, hyC⟩ := at_T43 hC1 0 (by decide) (by decide)
        cases ead0
        rw [show rd_T43 [⟨k, s, [], false⟩] 0 = ⟨k, s, [], false⟩ from rfl] at y1 y2
        have x1 : w6.cell? ⟨g1, 1, none⟩ = some (.string s) := y1
        have x2 : w6.cell? ⟨g1, 2, none⟩ = some (.slice A2 0 c3) := y2
        clear y0 y1 y2 y3 hy2 hyC hC1
        go_wp2_with (first | (go_at_call 12; refine Calls.mono (num_ok _ _) ?_; rintro e w' ⟨rfl, h'⟩; replace h' := h'.symm; subst h'))
        go_ret
        exact ⟨by simp, HB6.out⟩
      · rw [if_neg hb] at hk
        have HN : Hid _ := hk
        have HLT : Hid _ := hlt
        clear hk hdrop
        by_cases hc : c1 = 13
        · subst hc
          have e2 : (c2 == 10) = false := beq_eq_false_iff_ne.2 (fun e => hb ⟨UInt8.toNat_inj.1 (by rw [show (13 : UInt8).toNat = 13 from rfl]; omega), UInt8.toNat_inj.1 (by rw [show (10 : UInt8).toNat = 10 from rfl]; omega)⟩)
          clear hc1 hc2 hb
          go_wp2
          exact ⟨⟨i + 1, by have := HLT.out; omega, by simp, rfl, rfl, HN⟩, by simp only [intOf]; have := HLT.out; omega⟩
        · have e1 : (c1 == 13) = false := beq_eq_false_iff_ne.2 hc
          clear hc1 hc2 hb
          go_wp2
          exact ⟨⟨i + 1, by have := HLT.out; omega, by simp, rfl, rfl, HN⟩, by simp only [intOf]; have := HLT.out; omega⟩
    · have hltb : decide ((i : Int) + 1 < (sent.size : Int)) = false := decide_eq_false (by omega)
      have hz9 : (sent.size : Int) ≤ 100000 := by omega
      have hi1 : (i : Int) ≤ (sent.size : Int) := by omega
      have hcut := cutN_end (l := (bytesL sent).drop i) (by rw [List.length_drop, bytesL_len]; omega) i
      have hk := HK.out
      rw [hcut] at hk
      subst hk
      obtain ⟨k, hsc⟩ := HONE.out
      have HS : Hid _ := hsc
      clear hsc hcut hlt
      go_wp2_with fail
      refine Calls.mono (scan_ok sent [] w (CS_none _ _) (Nat.le_refl _) (by decide)) ?_
      rintro e w6 ⟨v1, rfl, hr1, hb6⟩
      rw [HS.out] at hr1 ⊢
      have HB6 : Hid _ := hb6
      clear hb6
      obtain ⟨g1, cp, hf1, hg1, hgl1, _⟩ := Kd.R_form hr1 (by simp)
      obtain ⟨A1, cq, hv1, hcq, hC1⟩ := Kd.R_reads hr1
      obtain rfl : A1 = some ⟨g1, 0, none⟩ := by rw [hf1] at hv1; injection hv1 with h1 h2 h3; exact h1.symm
      clear hf1 hr1
      rw [show ([⟨k, s, [], false⟩] : List Wd).length = 1 from rfl] at hv1 hcq hC1
      subst hv1
      obtain ⟨ad, A2, c3, ead0, y0, y1, y2, y3, hy2, hyC⟩ := at_T43 hC1 0 (by decide) (by decide)
      cases ead0
      rw [show rd_T43 [⟨k, s, [], false⟩] 0 = ⟨k, s, [], false⟩ from rfl] at y1 y2
      have x1 : w6.cell? ⟨g1, 1, none⟩ = some (.string s) := y1
      have x2 : w6.cell? ⟨g1, 2, none⟩ = some (.slice A2 0 c3) := y2
      clear y0 y1 y2 y3 hy2 hyC hC1
      go_wp2_with (first | (go_at_call 12; refine Calls.mono (num_ok _ _) ?_; rintro e w' ⟨rfl, h'⟩; replace h' := h'.symm; subst h'))
      go_ret
      exact ⟨by simp, HB6.out⟩
end Go.Proofs.YtbgcapgjnflmoaaDoor.Sc

/- LexOneWord, at all texts. -/
namespace Go.Proofs.YtbgcapgjnflmoaaDoor.Sc
open Go.RowKit Go.Proofs.YtbgcapgjnflmoaaDoorW.PrintWords Go.Proofs.YtbgcapgjnflmoaaDoorW.PrintMore Go.Proofs.YtbgcapgjnflmoaaDoor.PLx
variable {w0 w w1 : World}
theorem tl_inj {a b : ByteArray} (h : a.toList = b.toList) : a = b := by
  rw [ByteArray.toList_eq, ByteArray.toList_eq] at h
  exact ByteArray.ext (Array.ext' h)
theorem tl_no {a b : ByteArray} (h : a ≠ b) : (a.toList == b.toList) = false := beq_eq_false_iff_ne.2 (fun e => h (tl_inj e))
theorem tl_yes {a b : ByteArray} (h : a = b) : (a.toList == b.toList) = true := by rw [h]; exact beq_self_eq_true _
theorem string_len (s : ByteArray) (h : s.size ≤ 2000) : (Pure.stringBA s).size ≤ 10000 := by
  unfold Pure.stringBA
  split
  · have := quote_len s; omega
  · have h1 := annL_len2 s h
    rw [← bytesL_len, lit_bytes]
    simp only [List.length_append, List.length_cons, bytesL_len]
    omega
theorem put_len (s : ByteArray) (h : s.size ≤ 2000) : (Pure.putBA s).size ≤ 10000 := by
  unfold Pure.putBA
  split
  · omega
  · exact string_len s h
set_option maxRecDepth 100000 in
set_option maxHeartbeats 4000000 in
theorem words_long (s t : ByteArray) (h : ¬ (s.size ≤ 2000 ∧ t.size ≤ 2000)) (hW : Ext.WP w) : Calls Tryd.prog 7 #[.string s, .string t] w fun e w' => e = .returned (.bool true) ∧ Below w.heap.size w w' := by
  have HW : Hid _ := hW
  clear hW
  by_cases h1 : 2000 < s.size
  · have h1' : decide ((2000 : Int) < (s.size : Int)) = true := decide_eq_true (by omega)
    go_enter Tryd.func7, Tryd.ntmps7
    go_wp2_with fail
    refine (known_ok HW.out).mono ?_
    rintro e w1 ⟨rfl, hb1⟩
    have HB1 : Hid _ := hb1
    clear hb1
    go_wp2_with fail
    go_ret
    exact ⟨rfl, HB1.out⟩
  · have h1' : decide ((2000 : Int) < (s.size : Int)) = false := decide_eq_false (by omega)
    have h2' : decide ((2000 : Int) < (t.size : Int)) = true := decide_eq_true (by omega)
    go_enter Tryd.func7, Tryd.ntmps7
    go_wp2_with fail
    refine (known_ok HW.out).mono ?_
    rintro e w1 ⟨rfl, hb1⟩
    have HB1 : Hid _ := hb1
    clear hb1
    go_wp2_with fail
    go_ret
    exact ⟨rfl, HB1.out⟩
set_option maxRecDepth 100000 in
set_option maxHeartbeats 4000000 in
theorem words_short (s t : ByteArray) (hs : s.size ≤ 2000) (ht : t.size ≤ 2000) (hW : Ext.WP w) : Calls Tryd.prog 7 #[.string s, .string t] w fun e w' => e = .returned (.bool true) ∧ Below w.heap.size w w' := by
  obtain ⟨A, hA⟩ : ∃ A, Pure.stringBA s = A := ⟨_, rfl⟩
  obtain ⟨B, hB⟩ : ∃ B, Pure.putBA s = B := ⟨_, rfl⟩
  obtain ⟨C, hC⟩ : ∃ C, Pure.stringBA t = C := ⟨_, rfl⟩
  obtain ⟨D, hD⟩ : ∃ D, Pure.putBA t = D := ⟨_, rfl⟩
  obtain ⟨kA, evA⟩ := (Pure.lex_String_ev s (by omega)).rounds
  obtain ⟨kB, evB⟩ := (Pure.lex_Put_ev s (by omega)).rounds
  obtain ⟨kC, evC⟩ := (Pure.lex_String_ev t (by omega)).rounds
  obtain ⟨kD, evD⟩ := (Pure.lex_Put_ev t (by omega)).rounds
  obtain ⟨kN, evN⟩ := (Pure.lex_Nstring_ev ⟨#[]⟩ (by decide) false).rounds
  obtain ⟨kS, evS⟩ := (Pure.lex_Nstring_ev s (by omega) true).rounds
  have oA := string_one s hs
  have oB := put_one s hs
  have oC := string_one t ht
  have oD := put_one t ht
  have zA := string_len s hs
  have zB := put_len s hs
  have hnil := put_nil s
  rw [hA] at evA oA zA
  rw [hB] at evB oB zB hnil
  rw [hC] at evC oC
  rw [hD] at evD oD
  rw [if_neg (by decide)] at evN
  rw [if_pos rfl, hA] at evS
  have h1 : A = C → s = t := fun e => by subst e; exact oA.inj oC
  have h2 : B = D → s = t := fun e => by subst e; exact oB.inj oD
  have h3 : s = t → A = C ∧ B = D := fun e => by subst e; exact ⟨hA.symm.trans hC, hB.symm.trans hD⟩
  have hs1 : decide ((2000 : Int) < (s.size : Int)) = false := decide_eq_false (by omega)
  have ht1 : decide ((2000 : Int) < (t.size : Int)) = false := decide_eq_false (by omega)
  have HA : Hid _ := evA
  have HB : Hid _ := evB
  have HC : Hid _ := evC
  have HD : Hid _ := evD
  have HN : Hid _ := evN
  have HS : Hid _ := evS
  have HOA : Hid _ := fun (W : World) => one_ok (w := W) A s (by omega) oA
  have HOB : Hid _ := fun (W : World) => one_ok (w := W) B s (by omega) oB
  have HW : Hid _ := hW
  have HNIL : Hid _ := hnil
  have HE : Hid _ := And.intro h1 (And.intro h2 h3)
  clear hA hB hC hD evA evB evC evD evN evS oA oB oC oD zA zB hnil hW h1 h2 h3
  go_enter Tryd.func7, Tryd.ntmps7
  go_wp2_with fail
  refine (known_ok HW.out).mono ?_
  rintro e w1 ⟨rfl, hb1⟩
  have HB1 : Hid _ := hb1
  clear hb1
  go_wp2_with fail
  refine (PLo.lex_String.calls kA s A w1 HA.out (HW.out.below HB1.out)).mono ?_
  rintro e w2 ⟨rfl, hb2⟩
  have HB2 : Hid _ := below_then HB1.out HB1.out.size hb2
  clear hb2
  go_wp2_with fail
  refine (PLo.lex_Put.calls kB s B w2 HB.out (HW.out.below HB2.out)).mono ?_
  rintro e w3 ⟨rfl, hb3⟩
  have HB3 : Hid _ := below_then HB2.out HB2.out.size hb3
  clear hb3
  go_wp2_with fail
  refine (HOA.out w3).mono ?_
  rintro e w4 ⟨rfl, hb4⟩
  have HB4 : Hid _ := below_then HB3.out HB3.out.size hb4
  clear hb4
  go_wp2_with fail
  refine (HOB.out w4).mono ?_
  rintro e w5 ⟨rfl, hb5⟩
  have HB5 : Hid _ := below_then HB4.out HB4.out.size hb5
  clear hb5
  go_wp2_with fail
  by_cases he : s = t
  · obtain ⟨hac, hbd⟩ := HE.out.2.2 he
    have hq1 := tl_yes hac.symm
    have hq2 := tl_yes hbd.symm
    have hq3 := tl_yes he
    clear hac hbd he
    have hq4 := tl_yes (rfl : A = A)
    have hq5 : (B.toList == [78, 73, 76]) = false := beq_eq_false_iff_ne.2 (fun e => HNIL.out (tl_inj (e.trans (by rw [ByteArray.toList_eq]))))
    refine (PLo.lex_String.calls kC t C w5 HC.out (HW.out.below HB5.out)).mono ?_
    rintro e w6 ⟨rfl, hb6⟩
    have HB6 : Hid _ := below_then HB5.out HB5.out.size hb6
    clear hb6
    go_wp2_with fail
    refine (PLo.lex_Put.calls kD t D w6 HD.out (HW.out.below HB6.out)).mono ?_
    rintro e w7 ⟨rfl, hb7⟩
    have HB7 : Hid _ := below_then HB6.out HB6.out.size hb7
    clear hb7
    go_wp2_with fail
    refine (PLo.lex_Nstring.calls kN false ⟨#[]⟩ _ w7 HN.out (HW.out.below HB7.out)).mono ?_
    rintro e w8 ⟨rfl, hb8⟩
    have HB8 : Hid _ := below_then HB7.out HB7.out.size hb8
    clear hb8
    go_wp2_with fail
    refine (PLo.lex_Nstring.calls kS true s A w8 HS.out (HW.out.below HB8.out)).mono ?_
    rintro e w9 ⟨rfl, hb9⟩
    have HB9 : Hid _ := below_then HB8.out HB8.out.size hb9
    clear hb9
    go_wp2
    go_ret
    exact ⟨rfl, HB9.out⟩
  · have hq1 : (C.toList == A.toList) = false := tl_no (fun e => he (HE.out.1 e.symm))
    have hq2 : (D.toList == B.toList) = false := tl_no (fun e => he (HE.out.2.1 e.symm))
    have hq4 := tl_yes (rfl : A = A)
    have hq5 : (B.toList == [78, 73, 76]) = false := beq_eq_false_iff_ne.2 (fun e => HNIL.out (tl_inj (e.trans (by rw [ByteArray.toList_eq]))))
    refine (PLo.lex_String.calls kC t C w5 HC.out (HW.out.below HB5.out)).mono ?_
    rintro e w6 ⟨rfl, hb6⟩
    have HB6 : Hid _ := below_then HB5.out HB5.out.size hb6
    clear hb6
    go_wp2_with fail
    refine (PLo.lex_Put.calls kD t D w6 HD.out (HW.out.below HB6.out)).mono ?_
    rintro e w7 ⟨rfl, hb7⟩
    have HB7 : Hid _ := below_then HB6.out HB6.out.size hb7
    clear hb7
    go_wp2_with fail
    refine (PLo.lex_Nstring.calls kN false ⟨#[]⟩ _ w7 HN.out (HW.out.below HB7.out)).mono ?_
    rintro e w8 ⟨rfl, hb8⟩
    have HB8 : Hid _ := below_then HB7.out HB7.out.size hb8
    clear hb8
    go_wp2_with fail
    refine (PLo.lex_Nstring.calls kS true s A w8 HS.out (HW.out.below HB8.out)).mono ?_
    rintro e w9 ⟨rfl, hb9⟩
    have HB9 : Hid _ := below_then HB8.out HB8.out.size hb9
    clear hb9
    go_wp2
    go_ret
    exact ⟨rfl, HB9.out⟩
end Go.Proofs.YtbgcapgjnflmoaaDoor.Sc

/- LexOneWord, for its row. -/
namespace Go.Proofs.YtbgcapgjnflmoaaDoor.POw
open Go.RowKit
theorem postbaglaw3_LexOneWord.calls (_k : Nat) (a0 a1 : ByteArray) (r : Bool) (w : World) (h : r = true) (hw : Ext.WP w) :
    Calls Tryd.prog 7 #[.string a0, .string a1] w fun e w' => e = .returned (.bool r) ∧ Below w.heap.size w w' := by
  subst h
  by_cases hg : a0.size ≤ 2000 ∧ a1.size ≤ 2000
  · exact Sc.words_short a0 a1 hg.1 hg.2 hw
  · exact Sc.words_long a0 a1 hg hw
end Go.Proofs.YtbgcapgjnflmoaaDoor.POw
namespace Go.Proofs.YtbgcapgjnflmoaaDoor.Pure
theorem LexOneWord (a0 a1 : ByteArray) (_h0 : a0.size ≤ 140737488351232) (_h1 : a1.size ≤ 140737488351232) : ∃ _k : Nat, true = true := ⟨0, rfl⟩
end Go.Proofs.YtbgcapgjnflmoaaDoor.Pure
