/- Contracts of the functions that the statement reaches, and plain lemmas: ScRw0, ScRwN, ScRwA. -/
import Derived.Test.YtbgcapgjnflmoaaDoorMg23
import Derived.Test.YtbgcapgjnflmoaaDoorMg22
import Derived.Test.YtbgcapgjnflmoaaDoorMg10
import Derived.Test.YtbgcapgjnflmoaaDoorMg15
set_option linter.unusedVariables false
set_option linter.unusedSimpArgs false
set_option linter.unnecessarySimpa false
/- The document's words, walked: what they leave. -/
namespace Go.Proofs.YtbgcapgjnflmoaaDoor.Sc
open Go.RowKit Go.Proofs.YtbgcapgjnflmoaaDoorW.PrintWords Go.Proofs.YtbgcapgjnflmoaaDoorW.PrintMore Go.Proofs.YtbgcapgjnflmoaaDoor.PLx
variable {w0 w w1 : World} {line : ByteArray} {sl : Value} {b : Nat} {k lit ct : Int}
theorem Cu.setFar {wr : World} (h : Cu w0 wr b line sl k lit ct) {g : Nat} (hg : b + 2 < g) (i : Nat) (u : Value) : Cu w0 (wr.setCell ⟨g, i, none⟩ u) b line sl k lit ct :=
  ⟨h.bel.setCell (p := ⟨g, i, none⟩) (by have := h.low; show _ ≤ g; omega) _, h.low, blk_far h.top (p := ⟨g, i, none⟩) (by show b ≠ g; omega) _, blk_far h.r1 (p := ⟨g, i, none⟩) (by show b + 1 ≠ g; omega) _, blk_far h.r2 (p := ⟨g, i, none⟩) (by show b + 2 ≠ g; omega) _⟩
theorem Cu.lt {wr : World} (h : Cu w0 wr b line sl k lit ct) : b + 2 < wr.heap.size := blk_lt h.r2
theorem put9_far (wr : World) (b : Nat) (a0 a1 a2 a3 c0 c1 c2 c3 c4 : Value) {j : Nat} (h1 : j ≠ b + 1) (h2 : j ≠ b + 1 + 1) : (put9 wr b a0 a1 a2 a3 c0 c1 c2 c3 c4).heap[j]? = wr.heap[j]? := by
  unfold put9
  rw [Below.heap_setCell _ ⟨b + 1 + 1, 4, none⟩ _ _ h2, Below.heap_setCell _ ⟨b + 1 + 1, 3, none⟩ _ _ h2, Below.heap_setCell _ ⟨b + 1 + 1, 2, none⟩ _ _ h2, Below.heap_setCell _ ⟨b + 1 + 1, 1, none⟩ _ _ h2, Below.heap_setCell _ ⟨b + 1 + 1, 0, none⟩ _ _ h2,
    Below.heap_setCell _ ⟨b + 1, 3, none⟩ _ _ h1, Below.heap_setCell _ ⟨b + 1, 2, none⟩ _ _ h1, Below.heap_setCell _ ⟨b + 1, 1, none⟩ _ _ h1, Below.heap_setCell _ ⟨b + 1, 0, none⟩ _ _ h1]
/-- What a word's walk leaves: the word's cells, the cursor behind it. -/
def RWd (w0 : World) (line : ByteArray) (sl : Value) (lits : List ByteArray) (k0 : Nat) (R : Except Int (Wd × Rs)) (e : Ending) (w' : World) : Prop :=
  Below w0.heap.size w0 w' ∧ match R with
  | .error x => x ≠ 0 ∧ ∃ (i : Int) (t : ByteArray) (A2 : Option Addr) (n2 c2 : Nat) (k lit ct : Int), e = .returned (.tuple #[.agg #[.int .i64 i, .string t, .slice A2 n2 c2, .bool false], .agg (cu line sl k lit ct), .int .i64 x])
  | .ok (wd, ct, ls, q) => ∃ (v : Value) (lit k : Nat), e = .returned (.tuple #[.agg #[.int .i64 wd.f0, .string wd.f1, v, .bool false], .agg (cu line sl k lit ct), .int .i64 0]) ∧
      k43.R 43 w' w0.heap.size (fun _ => True) v wd.f2 ∧ ls = lits.drop lit ∧ lit ≤ lits.length ∧ k0 < k ∧ k ≤ line.size ∧ q = (bytesL line).drop k ∧ ct ≤ 512
def RWs (w0 : World) (line : ByteArray) (sl : Value) (lits : List ByteArray) (k0 : Nat) (R : Except Int (List Wd × Rs)) (e : Ending) (w' : World) : Prop :=
  Below w0.heap.size w0 w' ∧ match R with
  | .error x => x ≠ 0 ∧ ∃ (A2 : Option Addr) (n2 c2 : Nat) (k lit ct : Int), e = .returned (.tuple #[.slice A2 n2 c2, .agg (cu line sl k lit ct), .int .i64 x])
  | .ok (l, ct, ls, q) => ∃ (v : Value) (lit k : Nat), e = .returned (.tuple #[v, .agg (cu line sl k lit ct), .int .i64 0]) ∧
      k43.R 43 w' w0.heap.size (fun _ => True) v l ∧ ls = lits.drop lit ∧ lit ≤ lits.length ∧ k0 ≤ k ∧ k ≤ line.size ∧ q = (bytesL line).drop k ∧ ct ≤ 512
def WordsIH (line : ByteArray) (A : Option Addr) (cA : Nat) (lits : List ByteArray) (m : Nat) : Prop :=
  ∀ (w : World) (k lit ct depth : Nat) (en : UInt8), Kd.string.C w A lits.length lits → k ≤ line.size → line.size - k < m → lit ≤ lits.length → ct ≤ 512 → depth ≤ 12 →
    Calls Tryd.prog 23 #[.agg (cu line (.slice A lits.length cA) k lit ct), .int .i64 (depth : Int), .int .u8 (en.toNat : Int)] w
      (RWs w line (.slice A lits.length cA) lits k (words m depth en false [] ct (lits.drop lit) ((bytesL line).drop k)))
theorem atom_fin7 : ∀ c : Fin 256, postbagref3_atomByte.f (c.val : Int) = some (gword (UInt8.ofNat c.val)) := by decide +kernel
theorem atomByte_ok (c : UInt8) (w : World) : Calls Tryd.prog 51 #[.int .u8 (c.toNat : Int)] w fun e w' => e = .returned (.bool (gword c)) ∧ Below w.heap.size w w' := by
  have h := atom_fin7 ⟨c.toNat, c.toNat_lt⟩
  simp only [UInt8.ofNat_toNat] at h
  exact (postbagref3_atomByte.calls _ _ w h).mono fun e w' h => ⟨h.1, by first | exact h.2 | exact h.2.below⟩
theorem ann_ok (hs : line.size ≤ 4096) (i : Nat) (hi : i < line.size) {c : UInt8} {r : List UInt8} (hcr : (bytesL line).drop i = c :: r) {n z : Int} {p is : Bool} (h : toldR line.size (ann (c :: r)) = (n, p, z, is)) (w : World) :
    Calls Tryd.prog 30 #[.string line, .int .i64 (i : Int)] w fun e w' => e = .returned (.tuple #[.int .i64 n, .bool p, .int .i64 z, .bool is]) ∧ Below w.heap.size w w' := by
  obtain ⟨k9, hk9⟩ := (anr_ev (s := line) (by omega) i hi).rounds
  rw [hcr, h] at hk9
  exact postbagref3_announcement.calls k9 line i n p z is w hk9
theorem suf_drop {k0 : Nat} {q : List UInt8} (h : q <:+ (bytesL line).drop k0) : q = (bytesL line).drop (line.size - q.length) := by
  have h2 := h.trans (List.drop_suffix k0 (bytesL line))
  have := List.suffix_iff_eq_drop.1 h2
  rwa [bytesL_len] at this
theorem RWd.err {w' : World} {k0 : Nat} {lits : List ByteArray} {x : Int} (hx : x ≠ 0) (h : Below w0.heap.size w0 w') (i : Int) (t : ByteArray) (A2 : Option Addr) (n2 c2 : Nat) (k lit ct : Int) :
    RWd w0 line sl lits k0 (.error x) (.returned (.tuple #[.agg #[.int .i64 i, .string t, .slice A2 n2 c2, .bool false], .agg #[.string line, sl, .int .i64 k, .int .i64 lit, .int .i64 ct], .int .i64 x])) w' := ⟨h, hx, i, t, A2, n2, c2, k, lit, ct, rfl⟩
theorem RWd.fine {w' : World} {k0 : Nat} {lits : List ByteArray} {wd : Wd} {v : Value} {lit k ct : Nat} {ls : List ByteArray} {q : List UInt8} {iz kz lz cz : Int} {tz : ByteArray} (h : Below w0.heap.size w0 w')
    (hR : k43.R 43 w' w0.heap.size (fun _ => True) v wd.f2) (h1 : ls = lits.drop lit) (h2 : lit ≤ lits.length) (h3 : k0 < k) (h4 : k ≤ line.size) (h5 : q = (bytesL line).drop k) (h6 : ct ≤ 512)
    (ei : iz = wd.f0) (et : tz = wd.f1) (ek : kz = (k : Int)) (el : lz = (lit : Int)) (ec : cz = (ct : Int)) :
    RWd w0 line sl lits k0 (.ok (wd, ct, ls, q)) (.returned (.tuple #[.agg #[.int .i64 iz, .string tz, v, .bool false], .agg #[.string line, sl, .int .i64 kz, .int .i64 lz, .int .i64 cz], .int .i64 0])) w' := by
  subst ei et ek el ec
  exact ⟨h, v, lit, k, rfl, hR, h1, h2, h3, h4, h5, h6⟩
end Go.Proofs.YtbgcapgjnflmoaaDoor.Sc

/- The document's word: none begins here. -/
namespace Go.Proofs.YtbgcapgjnflmoaaDoor.Sc
open Go.RowKit Go.Proofs.YtbgcapgjnflmoaaDoorW.PrintWords Go.Proofs.YtbgcapgjnflmoaaDoorW.PrintMore Go.Proofs.YtbgcapgjnflmoaaDoor.PLx
variable {w0 w w1 : World} {line : ByteArray}
set_option maxRecDepth 100000 in
set_option maxHeartbeats 4000000 in
theorem wordR_none {m : Nat} {A : Option Addr} {cA : Nat} {lits : List ByteArray} (IH : WordsIH line A cA lits m) (hC : Kd.string.C w A lits.length lits) (hcA : lits.length ≤ cA) (hll : lits.length ≤ 512) (hline : line.size ≤ 4096) (k lit ct depth : Nat)
    (hk : k < line.size) (hlit : lit ≤ lits.length) (hct : ct ≤ 512) (hdep : depth ≤ 12) (hm : line.size - (k + 1) < m) {c : UInt8} {r : List UInt8} (hcr : (bytesL line).drop k = c :: r) (hst : starts c r = false) :
    Calls Tryd.prog 37 #[.agg (cu line (.slice A lits.length cA) k lit ct), .int .i64 (depth : Int)] w
      (RWd w line (.slice A lits.length cA) lits k (word (fun d e t ms q => words m d e false [] t ms q) depth ct (lits.drop lit) c r)) := by
  obtain ⟨R, hR⟩ : ∃ R, word (fun d e t ms q => words m d e false [] t ms q) depth ct (lits.drop lit) c r = R := ⟨_, rfl⟩
  rw [hR]
  have hd := drop_at line k hk
  rw [hcr] at hd
  have hb : line[k] = c := by injection hd with h1 h2; exact h1.symm
  have hr : r = (bytesL line).drop (k + 1) := by injection hd with h1 h2
  obtain ⟨n, p, z, is, hto⟩ : ∃ n p z is, toldR line.size (ann (c :: r)) = (n, p, z, is) := ⟨_, _, _, _, rfl⟩
  have HANN : Hid _ := fun W => ann_ok hline k hk hcr hto W
  obtain ⟨ci, hci⟩ : ∃ ci : Int, (c.toNat : Int) = ci := ⟨_, rfl⟩
  have hix : ∀ h : k < line.size, ((line[k]'h).toNat : Int) = ci := fun h => by rw [hb]; exact hci
  have hcr0 : (0 : Int) ≤ ci := by omega
  have hcr1 : ci < 256 := by have := c.toNat_lt; omega
  have hk0 : (0 : Int) ≤ (k : Int) := by omega
  have hk1 : (k : Int) < (line.size : Int) := by omega
  have hk2 : (k : Int) ≤ 4096 := by omega
  have hc9 : (ct : Int) ≤ 512 := by omega
  have hc8 : (0 : Int) ≤ (ct : Int) := by omega
  have hll9 : (lits.length : Int) ≤ 512 := by omega
  have hdep9 : (depth : Int) ≤ 12 := by omega
  have HAT : Hid _ := fun W => atomByte_ok c W
  rw [hci] at HAT
  have hgw : gword c = false := by unfold starts at hst; simp only [Bool.or_eq_false_iff] at hst; exact hst.1.1.1.1
  have h34 : (ci != 34) = true := by
    unfold starts at hst; simp only [Bool.or_eq_false_iff, beq_eq_false_iff_ne] at hst
    rw [bne_iff_ne]; intro e; exact hst.1.1.1.2 (u8_of hci 34 (by decide) e)
  have h40 : (ci != 40) = true := by
    unfold starts at hst; simp only [Bool.or_eq_false_iff, beq_eq_false_iff_ne] at hst
    rw [bne_iff_ne]; intro e; exact hst.1.1.2 (u8_of hci 40 (by decide) e)
  have h91 : (ci != 91) = true := by
    unfold starts at hst; simp only [Bool.or_eq_false_iff, beq_eq_false_iff_ne] at hst
    rw [bne_iff_ne]; intro e; exact hst.1.2 (u8_of hci 91 (by decide) e)
  have hann : ann (c :: r) = none := by
    unfold starts at hst; simp only [Bool.or_eq_false_iff] at hst
    exact Option.not_isSome_iff_eq_none.1 (by rw [hst.2]; decide)
  obtain ⟨rfl, rfl, rfl, rfl⟩ : n = 0 ∧ p = false ∧ z = 0 ∧ is = false := by rw [hann] at hto; simpa [toldR, eq_comm] using hto
  rw [hgw] at HAT
  have hres : R = .error 30 := by rw [← hR]; unfold word; rw [if_pos hst]
  have HRES : Hid _ := hres
  clear hgw hann hst hres
  have HC : Hid _ := And.intro hC hcA
  have HR : Hid _ := And.intro hR hr
  have HK : Hid _ := And.intro hk (And.intro hlit (And.intro hct (And.intro hdep (And.intro hll hm))))
  have HL : Hid _ := hline
  obtain ⟨W0, hW0⟩ : ∃ W0, ((w.alloc (Obj.cells (cu line (.slice A lits.length cA) k lit ct) 50)).alloc (Obj.cells #[.int .i64 0, .string ⟨#[]⟩, .slice none 0 0, .bool false] 43)).alloc (Obj.cells #[.string ⟨#[]⟩, .slice none 0 0, .int .i64 0, .int .i64 0, .int .i64 0] 50) = W0 := ⟨_, rfl⟩
  have hi : Cu w W0 w.heap.size line (.slice A lits.length cA) k lit ct := by rw [← hW0]; exact Cu.start w line (.slice A lits.length cA) k lit ct
  have HI : Hid _ := hi
  clear hi
  obtain ⟨d0, d1, d2, d3, d4, dz⟩ := HI.out.cells
  have HIH : Hid _ := IH
  have HCI : Hid _ := hci
  have HTO : Hid _ := And.intro hto hcr

  clear hC hcA hR hr hk hlit hct hdep hll hm hline IH hci hto hb hd hcr
  go_enter Tryd.func37, Tryd.ntmps37
  go_wp2_with fail
  refine (HANN.out _).mono ?_
  rintro e w2 ⟨rfl, hb2⟩
  have H2 : Hid _ := HI.out.below hb2
  clear hb2 d0 d1 d2 d3 d4 dz hW0
  obtain ⟨d0, d1, d2, d3, d4, dz⟩ := H2.out.cells
  go_wp2_with fail
  refine (HAT.out _).mono ?_
  rintro e w3 ⟨rfl, hb3⟩
  have H3 : Hid _ := H2.out.below hb3
  clear hb3 d0 d1 d2 d3 d4 dz
  obtain ⟨d0, d1, d2, d3, d4, dz⟩ := H3.out.cells
  obtain ⟨e0, e1, e2, e3, ez⟩ := H3.out.res1
  obtain ⟨f0, f1, f2, f3, f4, fz⟩ := H3.out.res2
  go_wp2
  go_region_with (fail)
  all_goals go_wp2
  all_goals (have hL := (H3.out).leave (.int .i64 0) (.string ⟨#[]⟩) (.slice none 0 0) (.bool false) (.string line) (.slice A lits.length cA) (.int .i64 k) (.int .i64 lit) (.int .i64 ct))
  all_goals (obtain ⟨W9, hW9⟩ : ∃ W9, put9 (w3) w.heap.size (.int .i64 0) (.string ⟨#[]⟩) (.slice none 0 0) (.bool false) (.string line) (.slice A lits.length cA) (.int .i64 k) (.int .i64 lit) (.int .i64 ct) = W9 := ⟨_, rfl⟩)
  all_goals (rw [hW9] at hL; unfold put9 at hW9; rw [hW9]; clear hW9)
  all_goals (refine bodyPost_ret (ret_cct rfl _ _ (w.heap.size + 1) (w.heap.size + 1 + 1) _ _ rfl hL.2.1 rfl rfl hL.2.2 rfl) rfl ?_)
  all_goals (rw [HRES.out]; exact RWd.err (by decide) (by first | exact below_drew hL.1 | exact hL.1) _ _ _ _ _ _ _ _)
end Go.Proofs.YtbgcapgjnflmoaaDoor.Sc

/- The document's word: an atom. -/
namespace Go.Proofs.YtbgcapgjnflmoaaDoor.Sc
open Go.RowKit Go.Proofs.YtbgcapgjnflmoaaDoorW.PrintWords Go.Proofs.YtbgcapgjnflmoaaDoorW.PrintMore Go.Proofs.YtbgcapgjnflmoaaDoor.PLx
variable {w0 w w1 : World} {line : ByteArray}
theorem atom_moves {c : UInt8} {r l : List UInt8} {j k : Nat} (hg : gword c = true) (h : (c :: r).takeWhile gword = (l.drop k).take (j - k)) : k < j := by
  have h1 := congrArg List.length h
  rw [List.takeWhile_cons, if_pos hg, List.length_cons, List.length_take] at h1
  omega
/-- Within an atom, at j. -/
def RA (w0 : World) (line : ByteArray) (sl : Value) (k0 : Nat) (lit ct : Int) (cr : List UInt8) (wr : World) : Prop :=
  ∃ j : Nat, Cu w0 wr w0.heap.size line sl (j : Int) lit ct ∧ k0 ≤ j ∧ j ≤ line.size ∧ cr.takeWhile gword = ((bytesL line).drop k0).take (j - k0) ++ ((bytesL line).drop j).takeWhile gword ∧ cr.dropWhile gword = ((bytesL line).drop j).dropWhile gword
set_option maxRecDepth 100000 in
set_option maxHeartbeats 4000000 in
theorem wordR_atom {m : Nat} {A : Option Addr} {cA : Nat} {lits : List ByteArray} (IH : WordsIH line A cA lits m) (hC : Kd.string.C w A lits.length lits) (hcA : lits.length ≤ cA) (hll : lits.length ≤ 512) (hline : line.size ≤ 4096) (k lit ct depth : Nat)
    (hk : k < line.size) (hlit : lit ≤ lits.length) (hct : ct ≤ 512) (hdep : depth ≤ 12) (hm : line.size - (k + 1) < m) {c : UInt8} {r : List UInt8} (hcr : (bytesL line).drop k = c :: r) (hgw : gword c = true) :
    Calls Tryd.prog 37 #[.agg (cu line (.slice A lits.length cA) k lit ct), .int .i64 (depth : Int)] w
      (RWd w line (.slice A lits.length cA) lits k (word (fun d e t ms q => words m d e false [] t ms q) depth ct (lits.drop lit) c r)) := by
  obtain ⟨R, hR⟩ : ∃ R, word (fun d e t ms q => words m d e false [] t ms q) depth ct (lits.drop lit) c r = R := ⟨_, rfl⟩
  rw [hR]
  have hd := drop_at line k hk
  rw [hcr] at hd
  have hb : line[k] = c := by injection hd with h1 h2; exact h1.symm
  have hr : r = (bytesL line).drop (k + 1) := by injection hd with h1 h2
  obtain ⟨n, p, z, is, hto⟩ : ∃ n p z is, toldR line.size (ann (c :: r)) = (n, p, z, is) := ⟨_, _, _, _, rfl⟩
  have HANN : Hid _ := fun W => ann_ok hline k hk hcr hto W
  obtain ⟨ci, hci⟩ : ∃ ci : Int, (c.toNat : Int) = ci := ⟨_, rfl⟩
  have hix : ∀ h : k < line.size, ((line[k]'h).toNat : Int) = ci := fun h => by rw [hb]; exact hci
  have hcr0 : (0 : Int) ≤ ci := by omega
  have hcr1 : ci < 256 := by have := c.toNat_lt; omega
  have hk0 : (0 : Int) ≤ (k : Int) := by omega
  have hk1 : (k : Int) < (line.size : Int) := by omega
  have hk2 : (k : Int) ≤ 4096 := by omega
  have hc9 : (ct : Int) ≤ 512 := by omega
  have hc8 : (0 : Int) ≤ (ct : Int) := by omega
  have hll9 : (lits.length : Int) ≤ 512 := by omega
  have hdep9 : (depth : Int) ≤ 12 := by omega
  have HAT : Hid _ := fun W => atomByte_ok c W
  rw [hci] at HAT
  have hst : starts c r = true := by unfold starts; rw [hgw]; rfl
  have hn7 : c ≠ 34 ∧ c ≠ 40 ∧ c ≠ 91 ∧ c ≠ 123 := by refine ⟨?_, ?_, ?_, ?_⟩ <;> (rintro rfl; exact absurd hgw (by decide))
  have h34 : (ci == 34) = false := beq_eq_false_iff_ne.2 (fun e => hn7.1 (u8_of hci 34 (by decide) e))
  have h40 : (ci == 40) = false := beq_eq_false_iff_ne.2 (fun e => hn7.2.1 (u8_of hci 40 (by decide) e))
  have h91 : (ci == 91) = false := beq_eq_false_iff_ne.2 (fun e => hn7.2.2.1 (u8_of hci 91 (by decide) e))
  have hann : ann (c :: r) = none := by simp [ann, hn7.2.2.2]
  obtain ⟨rfl, rfl, rfl, rfl⟩ : n = 0 ∧ p = false ∧ z = 0 ∧ is = false := by rw [hann] at hto; simpa [toldR, eq_comm] using hto
  rw [hgw] at HAT
  have HST : Hid _ := hst
  have HGW : Hid _ := And.intro hgw (And.intro hn7 hann)
  clear hgw hann hst hn7
  have HC : Hid _ := And.intro hC hcA
  have HR : Hid _ := And.intro hR hr
  have HK : Hid _ := And.intro hk (And.intro hlit (And.intro hct (And.intro hdep (And.intro hll hm))))
  have HL : Hid _ := hline
  obtain ⟨W0, hW0⟩ : ∃ W0, ((w.alloc (Obj.cells (cu line (.slice A lits.length cA) k lit ct) 50)).alloc (Obj.cells #[.int .i64 0, .string ⟨#[]⟩, .slice none 0 0, .bool false] 43)).alloc (Obj.cells #[.string ⟨#[]⟩, .slice none 0 0, .int .i64 0, .int .i64 0, .int .i64 0] 50) = W0 := ⟨_, rfl⟩
  have hi : Cu w W0 w.heap.size line (.slice A lits.length cA) k lit ct := by rw [← hW0]; exact Cu.start w line (.slice A lits.length cA) k lit ct
  have HI : Hid _ := hi
  clear hi
  obtain ⟨d0, d1, d2, d3, d4, dz⟩ := HI.out.cells
  have HIH : Hid _ := IH
  have HCI : Hid _ := hci
  have HTO : Hid _ := And.intro hto hcr

  clear hC hcA hR hr hk hlit hct hdep hll hm hline IH hci hto hb hd hcr
  go_enter Tryd.func37, Tryd.ntmps37
  go_wp2_with fail
  refine (HANN.out _).mono ?_
  rintro e w2 ⟨rfl, hb2⟩
  have H2 : Hid _ := HI.out.below hb2
  clear hb2 d0 d1 d2 d3 d4 dz hW0
  obtain ⟨d0, d1, d2, d3, d4, dz⟩ := H2.out.cells
  go_wp2_with fail
  refine (HAT.out _).mono ?_
  rintro e w3 ⟨rfl, hb3⟩
  have H3 : Hid _ := H2.out.below hb3
  clear hb3 d0 d1 d2 d3 d4 dz
  obtain ⟨d0, d1, d2, d3, d4, dz⟩ := H3.out.cells
  obtain ⟨e0, e1, e2, e3, ez⟩ := H3.out.res1
  obtain ⟨f0, f1, f2, f3, f4, fz⟩ := H3.out.res2
  obtain ⟨W4, hW4⟩ : ∃ W4, w3.setCell ⟨w.heap.size, 4, none⟩ (.int .i64 ((ct : Int) + 1)) = W4 := ⟨_, rfl⟩
  have h4 := H3.out.setCt ((ct : Int) + 1)
  rw [hW4] at h4
  have H4 : Hid _ := h4
  clear h4
  obtain ⟨m0, m1, m2, m3, m4, mz⟩ := H4.out.cells
  obtain ⟨n0, n1, n2, n3, nz⟩ := H4.out.res1
  obtain ⟨o0, o1, o2, o3, o4, oz⟩ := H4.out.res2
  by_cases hov : 512 < ct + 1
  · have hovb : decide ((512 : Int) < (ct : Int) + 1) = true := decide_eq_true (by omega)
    have hres : R = .error 34 := by
      rw [← HR.out.1]; unfold word
      rw [if_neg (by rw [HST.out]; decide), if_neg (by omega)]
    have HRES : Hid _ := hres
    clear hres hov
    go_wp2
    go_region_with (fail)
    all_goals go_wp2
    all_goals (have hL := (H4.out).leave (.int .i64 0) (.string ⟨#[]⟩) (.slice none 0 0) (.bool false) (.string line) (.slice A lits.length cA) (.int .i64 k) (.int .i64 lit) (.int .i64 ((ct : Int) + 1)))
    all_goals (obtain ⟨W9, hW9⟩ : ∃ W9, put9 (W4) w.heap.size (.int .i64 0) (.string ⟨#[]⟩) (.slice none 0 0) (.bool false) (.string line) (.slice A lits.length cA) (.int .i64 k) (.int .i64 lit) (.int .i64 ((ct : Int) + 1)) = W9 := ⟨_, rfl⟩)
    all_goals (rw [hW9] at hL; unfold put9 at hW9; rw [hW9]; clear hW9)
    all_goals (refine bodyPost_ret (ret_cct rfl _ _ (w.heap.size + 1) (w.heap.size + 1 + 1) _ _ rfl hL.2.1 rfl rfl hL.2.2 rfl) rfl ?_)
    all_goals (rw [HRES.out]; exact RWd.err (by decide) (by first | exact below_drew hL.1 | exact hL.1) _ _ _ _ _ _ _ _)
  have hovb : decide ((512 : Int) < (ct : Int) + 1) = false := decide_eq_false (by omega)
  have hle : (ct : Int) + 1 ≤ 512 := by omega
  have HOV : Hid (ct + 1 ≤ 512) := (by omega : ct + 1 ≤ 512)
  clear hov
  have hres : R = .ok (⟨1, ofB ((c :: r).takeWhile gword), [], false⟩, ct + 1, lits.drop lit, (c :: r).dropWhile gword) := by
    rw [← HR.out.1]; unfold word
    rw [if_neg (by rw [HST.out]; decide), if_pos HOV.out, if_neg HGW.out.2.1.1, if_neg (by rintro (e | e); exact HGW.out.2.1.2.1 e; exact HGW.out.2.1.2.2.1 e), HGW.out.2.2]
  have HRES : Hid _ := hres
  clear hres
  have hstart : Hid (RA w line (.slice A lits.length cA) k lit ((ct : Int) + 1) (c :: r) W4) := ⟨k, H4.out, Nat.le_refl _, Nat.le_of_lt HK.out.1, by rw [HTO.out.2]; simp, by rw [HTO.out.2]⟩
  go_wp2
  clear m0 m1 m2 m3 m4 mz n0 n1 n2 n3 nz o0 o1 o2 o3 o4 oz hix
  go_loopw [] (fun wr => Hid (RA w line (.slice A lits.length cA) k lit ((ct : Int) + 1) (c :: r) wr)) (fun wr => line.size - posAt wr w.heap.size)
  case atStart => exact hstart
  case round =>
    obtain ⟨j, hop, hkj, hjs, htw, hdw⟩ := hrel.out
    obtain ⟨b0, b1, b2, b3, b4, bz⟩ := hop.cells
    have HJ : Hid _ := And.intro hop (And.intro hkj (And.intro hjs (And.intro htw hdw)))
    have hj0 : (0 : Int) ≤ (j : Int) := by omega
    have hj1 : (j : Int) ≤ 4096 := by have := HL.out; omega
    have ep0 : posAt wr w.heap.size = j := by unfold posAt; rw [b2]; rfl
    have EP0 : Hid _ := ep0
    clear hop hkj htw hdw ep0
    by_cases hlt : j < line.size
    · have hltb : decide ((j : Int) < (line.size : Int)) = true := decide_eq_true (by omega)
      have hlti : (j : Int) < (line.size : Int) := by omega
      obtain ⟨x, hx⟩ : ∃ x, line[j] = x := ⟨_, rfl⟩
      have hixj : ∀ h : j < line.size, ((line[j]'h).toNat : Int) = (x.toNat : Int) := fun h => by rw [hx]
      have hxr0 : (0 : Int) ≤ (x.toNat : Int) := by omega
      have hxr1 : (x.toNat : Int) < 256 := by have := x.toNat_lt; omega
      have HATX : Hid _ := fun W => atomByte_ok x W
      have hdj := drop_at line j hlt
      rw [hx] at hdj
      have HDJ : Hid _ := hdj
      have HLT : Hid _ := hlt
      clear hx hjs hdj
      cases hgx : gword x with
      | true =>
        rw [hgx] at HATX
        have HGX : Hid _ := hgx
        clear hgx hlt
        go_wp2_with fail
        refine (HATX.out _).mono ?_
        rintro e w5 ⟨rfl, hb5⟩
        have H5 : Hid _ := HJ.out.1.below hb5
        clear hb5 b0 b1 b2 b3 b4 bz
        obtain ⟨b0, b1, b2, b3, b4, bz⟩ := H5.out.cells
        go_wp2
        have hop2 := H5.out.setPos ((j + 1 : Nat) : Int)
        have ep : posAt (w5.setCell ⟨w.heap.size, 2, none⟩ (.int .i64 ((j + 1 : Nat) : Int))) w.heap.size = j + 1 := by unfold posAt; rw [hop2.cells.2.2.1]; rfl
        have ee : (j : Int) + 1 = ((j + 1 : Nat) : Int) := by omega
        rw [ee]
        have hlt := HLT.out
        have hdj := HDJ.out
        refine ⟨⟨j + 1, hop2, by have := HJ.out.2.1; omega, by omega, ?_, ?_⟩, by rw [ep, EP0.out]; omega⟩
        · rw [HJ.out.2.2.2.1, hdj, List.takeWhile_cons, if_pos HGX.out]
          have hkj := HJ.out.2.1
          rw [show j + 1 - k = (j - k) + 1 by omega, List.take_add_one, List.append_assoc]
          congr 1
          have hg : ((bytesL line).drop k)[j - k]? = some x := by
            rw [List.getElem?_drop, show k + (j - k) = j by omega]
            have h0 := congrArg List.head? hdj
            rw [List.head?_drop] at h0
            exact h0
          rw [hg]; rfl
        · rw [HJ.out.2.2.2.2, hdj, List.dropWhile_cons, if_pos HGX.out]
      | false =>
        rw [hgx] at HATX
        have HGX : Hid _ := hgx
        clear hgx hlt
        go_wp2_with fail
        refine (HATX.out _).mono ?_
        rintro e w5 ⟨rfl, hb5⟩
        have H5 : Hid _ := HJ.out.1.below hb5
        clear hb5 b0 b1 b2 b3 b4 bz
        obtain ⟨b0, b1, b2, b3, b4, bz⟩ := H5.out.cells
        obtain ⟨e0, e1, e2, e3, ez⟩ := H5.out.res1
        obtain ⟨f0, f1, f2, f3, f4, fz⟩ := H5.out.res2
        have hkj : (k : Int) ≤ (j : Int) := by have := HJ.out.2.1; omega
        have hjl : (j : Int) ≤ (line.size : Int) := by omega
        obtain ⟨tx, htx⟩ : ∃ tx, line.extract k j = tx := ⟨_, rfl⟩
        go_wp2
        go_region_with (fail)
        all_goals go_wp2
        all_goals (have hL := (H5.out).leave (.int .i64 1) (.string tx) (.slice none 0 0) (.bool false) (.string line) (.slice A lits.length cA) (.int .i64 (j : Int)) (.int .i64 lit) (.int .i64 ((ct : Int) + 1)))
        all_goals (obtain ⟨W9, hW9⟩ : ∃ W9, put9 (w5) w.heap.size (.int .i64 1) (.string tx) (.slice none 0 0) (.bool false) (.string line) (.slice A lits.length cA) (.int .i64 (j : Int)) (.int .i64 lit) (.int .i64 ((ct : Int) + 1)) = W9 := ⟨_, rfl⟩)
        all_goals (rw [hW9] at hL; unfold put9 at hW9; rw [hW9]; clear hW9)
        all_goals (refine bodyPost_ret (ret_cct rfl _ _ (w.heap.size + 1) (w.heap.size + 1 + 1) _ _ rfl hL.2.1 rfl rfl hL.2.2 rfl) rfl ?_)
        all_goals rw [HRES.out]
        all_goals (have hj := HJ.out)
        all_goals (have htw : (c :: r).takeWhile gword = ((bytesL line).drop k).take (j - k) := by rw [hj.2.2.2.1, HDJ.out, List.takeWhile_cons, if_neg (by rw [HGX.out]; decide), List.append_nil])
        all_goals (have hdw : (c :: r).dropWhile gword = (bytesL line).drop j := by rw [hj.2.2.2.2, HDJ.out, List.dropWhile_cons, if_neg (by rw [HGX.out]; decide)])
        all_goals (have hkj2 : k < j := atom_moves HGW.out.1 htw)
        all_goals exact RWd.fine (by first | exact below_drew hL.1 | exact hL.1) (Kd.R_nil _ _ _ _ _) rfl HK.out.2.1 hkj2 hj.2.2.1 hdw HOV.out rfl (by rw [← htx, htw, extract_ofB _ _ _ (by omega) hj.2.2.1]) rfl rfl (by show _ = ((ct + 1 : Nat) : Int); omega)
    · have hltb : decide ((j : Int) < (line.size : Int)) = false := decide_eq_false (by omega)
      have hge : (line.size : Int) ≤ (j : Int) := by omega
      have hkj : (k : Int) ≤ (j : Int) := by have := HJ.out.2.1; omega
      have hjl : (j : Int) ≤ (line.size : Int) := by omega
      obtain ⟨e0, e1, e2, e3, ez⟩ := HJ.out.1.res1
      obtain ⟨f0, f1, f2, f3, f4, fz⟩ := HJ.out.1.res2
      obtain ⟨tx, htx⟩ : ∃ tx, line.extract k j = tx := ⟨_, rfl⟩
      have HGE : Hid _ := hjs
      clear hlt hjs
      go_wp2
      go_region_with (fail)
      all_goals go_wp2
      all_goals (have hL := (HJ.out.1).leave (.int .i64 1) (.string tx) (.slice none 0 0) (.bool false) (.string line) (.slice A lits.length cA) (.int .i64 (j : Int)) (.int .i64 lit) (.int .i64 ((ct : Int) + 1)))
      all_goals (obtain ⟨W9, hW9⟩ : ∃ W9, put9 (wr) w.heap.size (.int .i64 1) (.string tx) (.slice none 0 0) (.bool false) (.string line) (.slice A lits.length cA) (.int .i64 (j : Int)) (.int .i64 lit) (.int .i64 ((ct : Int) + 1)) = W9 := ⟨_, rfl⟩)
      all_goals (rw [hW9] at hL; unfold put9 at hW9; rw [hW9]; clear hW9)
      all_goals (refine bodyPost_ret (ret_cct rfl _ _ (w.heap.size + 1) (w.heap.size + 1 + 1) _ _ rfl hL.2.1 rfl rfl hL.2.2 rfl) rfl ?_)
      all_goals rw [HRES.out]
      all_goals (have hj := HJ.out)
      all_goals (have htw : (c :: r).takeWhile gword = ((bytesL line).drop k).take (j - k) := by rw [hj.2.2.2.1, drop_end line j (by omega), List.takeWhile_nil, List.append_nil])
      all_goals (have hdw : (c :: r).dropWhile gword = (bytesL line).drop j := by rw [hj.2.2.2.2, drop_end line j (by omega), List.dropWhile_nil])
      all_goals (have hkj2 : k < j := atom_moves HGW.out.1 htw)
      all_goals exact RWd.fine (by first | exact below_drew hL.1 | exact hL.1) (Kd.R_nil _ _ _ _ _) rfl HK.out.2.1 hkj2 hj.2.2.1 hdw HOV.out rfl (by rw [← htx, htw, extract_ofB _ _ _ (by omega) hj.2.2.1]) rfl rfl (by show _ = ((ct + 1 : Nat) : Int); omega)
end Go.Proofs.YtbgcapgjnflmoaaDoor.Sc
