/- Contracts of the functions that the statement reaches, and plain lemmas: ScWrite. -/
import Derived.Test.YtbgcapgjnflmoaaDoorMg13
import Derived.Test.YtbgcapgjnflmoaaDoorMg0
import Derived.Lib.ItoaLen
set_option linter.unusedVariables false
set_option linter.unusedSimpArgs false
set_option linter.unnecessarySimpa false
/- write, of words that are atoms or literals. -/
namespace Go.Proofs.YtbgcapgjnflmoaaDoor.Sc
open Go.RowKit Go.Proofs.YtbgcapgjnflmoaaDoorW.PrintWords Go.Proofs.YtbgcapgjnflmoaaDoorW.PrintMore Go.Proofs.YtbgcapgjnflmoaaDoor.PLx
variable {w0 w w1 : World} {p : Nat} {out : List UInt8} {lits : List ByteArray} {pv v u : Value}

/-- A literal's announcement. -/
def annL (s : ByteArray) : List UInt8 := 123 :: (Lib.itoa (s.size : Int) ++ [125])
theorem ann_size (n : Int) : (((⟨#[123]⟩ : ByteArray) ++ Ext.itoaBA n) ++ (⟨#[125]⟩ : ByteArray)).size = (Lib.itoa n).length + 2 := by
  simp only [ByteArray.size_append]
  show 1 + (Lib.itoa n).toArray.size + 1 = _
  rw [List.size_toArray]; omega
theorem ann_bytes (n : Int) : bytesL (((⟨#[123]⟩ : ByteArray) ++ Ext.itoaBA n) ++ (⟨#[125]⟩ : ByteArray)) = 123 :: (Lib.itoa n ++ [125]) := by
  unfold bytesL Ext.itoaBA
  simp
theorem itoa_le (n : Nat) (h : n ≤ 100000) : (Lib.itoa (n : Int)).length ≤ 100 := by
  have := Lib.itoa_length_le (n : Int) (by omega) (by omega)
  omega
theorem itoaBA_le (n : Nat) (h : n ≤ 100000) : (Ext.itoaBA (n : Int)).size ≤ 100 := by
  have := itoa_le n h
  show (Lib.itoa (n : Int)).toArray.size ≤ 100
  rw [List.size_toArray]; exact this
/-- What write does to the bytes and the literals: words that are atoms or literals. -/
def wrS : Bool → List Wd → List UInt8 → List ByteArray → Option (List UInt8 × List ByteArray)
  | _, [], o, ls => some (o, ls)
  | first, x :: r, o, ls =>
    if (if !first && !x.f3 then o ++ [32] else o).length ≤ 4096 ∧ ls.length ≤ 512 then
      (if x.f0 = 1 then wrS false r ((if !first && !x.f3 then o ++ [32] else o) ++ bytesL x.f1) ls
      else if x.f0 = 3 then wrS false r ((if !first && !x.f3 then o ++ [32] else o) ++ annL x.f1) (ls ++ [x.f1]) else none)
    else none
theorem newsS (w : World) (s : ByteArray) : ∀ (j : Nat) (u : Value), [Value.string s][j]? = some u → ((w.alloc (Obj.cells #[.string s] 9)).drew).cell? ((⟨w.heap.size, 0, none⟩ : Addr).add j) = some u :=
  World.news_of_block (w := (w.alloc (Obj.cells #[.string s] 9)).drew) (blk_new w (Obj.cells #[.string s] 9))
theorem froz_alloc {w : World} {o : Obj} {g i : Nat} (hl : g < w.heap.size) (hc : w.frozen? ⟨g, i, none⟩ = false) : ((w.alloc o).drew).frozen? ⟨g, i, none⟩ = false := by
  have e : ((w.alloc o).drew).heap[g]? = w.heap[g]? := Below.heap_alloc w o g hl
  rw [← hc]; unfold World.frozen?; rw [e]
/-- The literals' row has grown and is stored back. -/
theorem lit_end {Wc w6 : World} {o : List UInt8} {ls : List ByteArray} {s : ByteArray} {u6 : Value} {pv6 v6 : Value} {gn cn : Nat} {ob : Obj} (h : WrI w0 Wc p o ls pv6 v6 u6)
    (hown : w6.ownsRow w0.heap.size 9 1 (.slice (some ⟨gn, 0, none⟩) (ls.length + 1) cn) (ls.length + 1) (sv ls ++ [.string s])) (hg : ((Wc.alloc ob).drew).grownBy w6 u6.ownBlock) :
    WrI w0 (w6.setCell ⟨p, 2, none⟩ (.slice (some ⟨gn, 0, none⟩) (ls.length + 1) cn)) p o (ls ++ [s]) pv6 v6 (.slice (some ⟨gn, 0, none⟩) (ls.length + 1) cn) := by
  have h2 := h.move (w1 := (Wc.alloc ob).drew) (below_drew (below_alloc (Below.refl _ _) _))
  refine h2.putLit (lits' := ls ++ [s]) (pw_below_grown h2.bel u6.ownBlock h2.base hg (fun k hk => own_base h2.lit k hk)) hg ?_
  rw [sv_len, show sv (ls ++ [s]) = sv ls ++ [Value.string s] from encs_append _ _, show (ls ++ [s]).length = ls.length + 1 by simp]
  exact hown
/-- What write leaves. -/
def WPo (w0 : World) (p : Nat) (R : Option (List UInt8 × List ByteArray)) (e : Ending) (w' : World) : Prop :=
  match R with
  | none => e = .returned (.bool false) ∧ Below w0.heap.size w0 w'
  | some (o, ls) => e = .returned (.bool true) ∧ ∃ pv v u, WrI w0 w' p o ls pv v u
theorem WPo.no {w' : World} (h : Below w0.heap.size w0 w') : WPo w0 p none (.returned (.bool false)) w' := ⟨rfl, h⟩
theorem WPo.yes {w' : World} (h : WrI w0 w' p out lits pv v u) : WPo w0 p (some (out, lits)) (.returned (.bool true)) w' := ⟨rfl, _, _, _, h⟩
/-- In the midst. -/
def WrL (w0 : World) (p : Nat) (l : List Wd) (R : Option (List UInt8 × List ByteArray)) (k : Nat) (wr : World) : Prop :=
  ∃ o ls pv v u, WrI w0 wr p o ls pv v u ∧ wrS (k == 0) (l.drop k) o ls = R ∧ o.length ≤ 200000 ∧ ls.length ≤ 100000
set_option maxRecDepth 100000 in
set_option maxHeartbeats 4000000 in
theorem write_ok {A : Option Addr} {cA : Nat} {l : List Wd} (h : WrI w0 w p [] [] pv v u) (hr : Kd.C k43 w0 A l.length l) (hc : l.length ≤ cA) (hl : l.length ≤ 512)
    (hk : ∀ x, x ∈ l → (x.f0 = 1 ∨ x.f0 = 3) ∧ x.f1.size ≤ 100000) (hwp : Ext.WP w0) :
    Calls Tryd.prog 26 #[.pointer (some ⟨p, 0, none⟩), .slice A l.length cA, .int .i64 0] w (WPo w0 p (wrS true l [] [])) := by
  obtain ⟨R, hR⟩ : ∃ R, wrS true l [] [] = R := ⟨_, rfl⟩
  rw [hR]
  have HS : Hid (WrL w0 p l R 0 w) := ⟨[], [], _, _, _, h, by rw [← hR]; rfl, by simp, by simp⟩
  have HRD : Hid _ := hr
  have HC : Hid _ := hc
  have HL : Hid _ := hl
  have HK : Hid _ := hk
  have HWP : Hid _ := hwp
  have hl9 : (l.length : Int) ≤ 512 := by omega
  clear h hr hc hl hk hwp hR
  go_enter Tryd.func26, Tryd.ntmps26
  go_wp2
  go_loopw [14] (fun vi wr => ∃ k : Nat, k ≤ l.length ∧ vi = .int .i64 k ∧ Hid (WrL w0 p l R k wr)) (fun vi _ => l.length - (intOf vi).toNat)
  case atStart => exact ⟨0, Nat.zero_le _, rfl, HS⟩
  case round =>
    obtain ⟨k, hkl, rfl, HH⟩ := hrel
    by_cases hlt : k < l.length
    · obtain ⟨o, ls, pv', v', u', hw, hrun, hol, hll⟩ := HH.out
      obtain ⟨x, hx⟩ : ∃ x, l[k] = x := ⟨_, rfl⟩
      obtain ⟨ad, A2, c2, eA, a0, a1, a2, a3, ha2, hC2⟩ := at_T43 HRD.out (k : Int) (by omega) (by omega)
      have hrd : rd_T43 l (k : Int) = x := by unfold rd_T43; rw [Int.toNat_natCast, List.getD_eq_getElem?_getD, List.getElem?_eq_getElem hlt, hx]; rfl
      rw [hrd] at a0 a1 a2 a3
      simp only [Int.toNat_natCast] at a0 a1 a2 a3
      subst eA
      have e0 := pw_cell_below hw.bel a0
      have e1 := pw_cell_below hw.bel a1
      have e2 := pw_cell_below hw.bel a2
      have e3 := pw_cell_below hw.bel a3
      have hxk := HK.out x (by rw [← hx]; exact List.getElem_mem hlt)
      rw [List.drop_eq_getElem_cons hlt, hx, wrS] at hrun
      have hltb : decide ((k : Int) < (l.length : Int)) = true := decide_eq_true (by omega)
      have hlti : (k : Int) < (l.length : Int) := by omega
      have hk0 : (0 : Int) ≤ (k : Int) := by omega
      have HW : Hid _ := hw
      have HXK : Hid _ := hxk
      have HO : Hid _ := And.intro hol hll
      have HLT : Hid _ := hlt
      obtain ⟨Wa, hWa⟩ : ∃ W, wr.alloc (Obj.cells #[.int .i64 x.f0, .string x.f1, .slice A2 x.f2.length c2, .bool x.f3] 43) = W := ⟨_, rfl⟩
      have hba : Below wr.heap.size wr Wa := by rw [← hWa]; exact below_alloc (Below.refl _ _) _
      have hblk : Wa.heap[wr.heap.size]? = some (.cells #[.int .i64 x.f0, .string x.f1, .slice A2 x.f2.length c2, .bool x.f3] 43 (0, 0)) := by rw [← hWa]; exact blk_new wr _
      have HA : Hid _ := And.intro (hw.move hba) hblk
      obtain ⟨q, hq⟩ : ∃ q, wr.heap.size = q := ⟨_, rfl⟩
      have b0 := blk_cell hblk 0
      have b1 := blk_cell hblk 1
      have b3 := blk_cell hblk 3
      simp only [List.getElem?_toArray, List.getElem?_cons_zero, List.getElem?_cons_succ, hq] at b0 b1 b3
      rw [hq] at HA
      obtain ⟨a0', a1', a2', a3'⟩ := (hw.move hba).cells
      have hway : (k = 0 ∧ decide ((0 : Int) < (k : Int)) = false) ∨ (k ≠ 0 ∧ decide ((0 : Int) < (k : Int)) = true ∧ x.f3 = true) ∨ (k ≠ 0 ∧ decide ((0 : Int) < (k : Int)) = true ∧ x.f3 = false) := by
        by_cases h0 : k = 0
        · exact .inl ⟨h0, decide_eq_false (by omega)⟩
        · cases hf : x.f3
          · exact .inr (.inr ⟨h0, decide_eq_true (by omega), rfl⟩)
          · exact .inr (.inl ⟨h0, decide_eq_true (by omega), rfl⟩)
      have HWAY : Hid _ := hway
      have HQ : Hid _ := hq
      obtain ⟨o1, ho1⟩ : ∃ o1, (if !(k == 0) && !x.f3 then o ++ [32] else o) = o1 := ⟨_, rfl⟩
      rw [ho1] at hrun
      have HRUN : Hid _ := hrun
      have HO1 : Hid _ := ho1
      clear a0 a1 a2 a3 ha2 hC2 hrd hx hw hrun hxk hol hll hlt hba hblk hway ho1
      rcases HWAY.out with ⟨hk0', f0⟩ | ⟨hk0', f0, f3⟩ | ⟨hk0', f0, f3⟩
      · have ho1 : o1 = o := by rw [← HO1.out, hk0']; rfl
        obtain ⟨Wb, rfl⟩ : ∃ Wb, Wb = Wa := ⟨_, rfl⟩
        have HB : Hid (WrI w0 Wb p o1 ls pv' v' u' ∧ Wb.heap[q]? = some (.cells #[.int .i64 x.f0, .string x.f1, .slice A2 x.f2.length c2, .bool x.f3] 43 (0, 0))) := by rw [ho1]; exact HA.out
        have HO2 : Hid (o1.length ≤ 200001) := by rw [ho1]; have := HO.out.1; show o.length ≤ 200001; omega
        have hk0n : ¬ (0 < k) := by omega
        clear a0' a1' a2' a3' b0 b1 b3 ho1 hk0'
        go_wp2_with fail
        clear e0 e1 e2 e3 hWa
        have hcase : (decide ((4096 : Int) < (o1.length : Int)) = true ∧ R = none) ∨ (decide ((4096 : Int) < (o1.length : Int)) = false ∧ decide ((512 : Int) < (ls.length : Int)) = true ∧ R = none) ∨ (decide ((4096 : Int) < (o1.length : Int)) = false ∧ decide ((512 : Int) < (ls.length : Int)) = false ∧ o1.length ≤ 4096 ∧ ls.length ≤ 512) := by
          by_cases h1 : 4096 < o1.length
          · exact .inl ⟨decide_eq_true (by omega), by rw [← HRUN.out, if_neg (by omega)]⟩
          · by_cases h2 : 512 < ls.length
            · exact .inr (.inl ⟨decide_eq_false (by omega), decide_eq_true (by omega), by rw [← HRUN.out, if_neg (by omega)]⟩)
            · exact .inr (.inr ⟨decide_eq_false (by omega), decide_eq_false (by omega), by omega, by omega⟩)
        have HCASE : Hid _ := hcase
        obtain ⟨y0, y1, y2, yz⟩ := HB.out.1.cells
        obtain ⟨Au, ku, rfl⟩ := own_slice HB.out.1.lit
        rw [sv_len] at y2
        have b0 := blk_cell HB.out.2 0
        have b1 := blk_cell HB.out.2 1
        simp only [List.getElem?_toArray, List.getElem?_cons_zero, List.getElem?_cons_succ] at b0 b1
        clear hcase
        rcases HCASE.out with ⟨t1, t2⟩ | ⟨t1, t2, t3⟩ | ⟨t1, t2, t3, t4⟩
        · have HR0 : Hid _ := t2
          clear t2
          go_wp2_with (go_at_call 44; refine (len_ok HB.out.1).mono ?_; rintro e w' ⟨rfl, h'⟩; replace h' := h'.symm; subst h')
          go_ret
          rw [HR0.out]
          exact WPo.no HB.out.1.bel
        · have HR0 : Hid _ := t3
          clear t3
          go_wp2_with (go_at_call 44; refine (len_ok HB.out.1).mono ?_; rintro e w' ⟨rfl, h'⟩; replace h' := h'.symm; subst h')
          go_ret
          rw [HR0.out]
          exact WPo.no HB.out.1.bel
        · have hrun := HRUN.out
          rw [if_pos ⟨t3, t4⟩] at hrun
          have HRUN2 : Hid _ := hrun
          have HT : Hid _ := And.intro t3 t4
          clear t3 t4 hrun
          rcases HXK.out.1 with hk1 | hk3
          · have hr2 := HRUN2.out
            rw [if_pos hk1] at hr2
            have HR2 : Hid _ := hr2
            have f1 : (x.f0 == 1) = true := beq_iff_eq.2 hk1
            clear hk1 hr2
            go_wp2_with (go_at_call 44; refine (len_ok HB.out.1).mono ?_; rintro e w' ⟨rfl, h'⟩; replace h' := h'.symm; subst h')
            go_region_with (first | (go_at_call 45; refine (wstr_ok (HB.out.1.move (pw_below_drewN (Below.refl _ _) _)) x.f1 (by have := HT.out.1; have := HXK.out.2; omega)).mono ?_; rintro e Wc ⟨rfl, vc, hwc, hfc⟩; have HWC : Hid _ := hwc; clear hwc hfc))
            all_goals go_wp2
            all_goals (refine ⟨⟨k + 1, by have := HLT.out; omega, by simp, ⟨_, _, _, _, _, HWC.out, ?_, ?_, ?_⟩⟩, by simp only [intOf]; have := HLT.out; omega⟩)
            all_goals (first | exact (show wrS ((k + 1) == 0) _ _ _ = R from HR2.out) | skip)
            all_goals (first | (show (o1 ++ bytesL x.f1).length ≤ 200000; rw [List.length_append, bytesL_len]; have := HT.out.1; have := HXK.out.2; omega) | exact HO.out.2)
          · have hr2 := HRUN2.out
            rw [if_neg (by omega), if_pos hk3] at hr2
            have HR2 : Hid _ := hr2
            have f1 : (x.f0 == 1) = false := beq_eq_false_iff_ne.2 (by omega)
            have f2 : (x.f0 == 2) = false := beq_eq_false_iff_ne.2 (by omega)
            have f3' : (x.f0 == 3) = true := beq_iff_eq.2 hk3
            have hba9 : ∀ n, WrI w0 (Wb.drewN n) p o1 ls _ _ _ := fun n => HB.out.1.move (pw_below_drewN (Below.refl _ _) n)
            have hwp9 : ∀ n, Ext.WP (Wb.drewN n) := fun n => HWP.out.below (hba9 n).bel
            have HBA : Hid _ := hba9
            have HQNE : Hid (q ≠ p ∧ some q ≠ v'.ownBlock) := ⟨by rintro rfl; have := HB.out.1.top; rw [HB.out.2] at this; simp at this, fun e => by obtain ⟨cs, hcs⟩ := own_typed HB.out.1.buf q e.symm; rw [HB.out.2] at hcs; simp at hcs⟩
            have HWP9 : Hid _ := hwp9
            have hz0 : (-9223372036854775808 : Int) ≤ (x.f1.size : Int) := by omega
            have hz1 : (x.f1.size : Int) ≤ 9223372036854775807 := by have := HXK.out.2; omega
            have hit := fun W hw => Ext.itoa_any (x.f1.size : Int) W hz0 hz1 hw
            have hsz := itoaBA_le x.f1.size HXK.out.2
            obtain ⟨sn, hsn⟩ : ∃ sn, Ext.itoaBA (x.f1.size : Int) = sn := ⟨_, rfl⟩
            rw [hsn] at hit hsz
            have HSN : Hid _ := hsn
            have HIT : Hid _ := hit
            have hA1 : (9223372036854775807 < 1 + sn.size) = False := eq_false (by omega)
            have hB1 : (9223372036854775807 < 1 + sn.size + 1) = False := eq_false (by omega)
            have hs9 : o1.length + (((⟨#[123]⟩ : ByteArray) ++ sn) ++ (⟨#[125]⟩ : ByteArray)).size ≤ 1000000000 := by rw [← hsn, ann_size]; have := itoa_le x.f1.size HXK.out.2; have := HT.out.1; omega
            have HS9 : Hid _ := hs9
            clear hit hsz hsn hs9
            clear hk3 hr2 hba9 hwp9 hz0 hz1
            go_wp2_with (go_at_call 44; refine (len_ok HB.out.1).mono ?_; rintro e w' ⟨rfl, h'⟩; replace h' := h'.symm; subst h')
            go_region_with (first
              | (go_at_call 35; refine (HIT.out _ (HWP9.out _)).mono ?_; rintro e Wi ⟨rfl, hbi⟩; have HBI : Hid _ := And.intro ((HBA.out _).move hbi) hbi; clear hbi)
              | (go_at_call 45; refine (wstr_ok HBI.out.1 (((⟨#[123]⟩ : ByteArray) ++ sn) ++ (⟨#[125]⟩ : ByteArray)) HS9.out).mono ?_; rintro e Wc ⟨rfl, vc, hwc, hfc⟩; have HWC : Hid _ := And.intro hwc hfc; clear hwc hfc))
            all_goals (have hw9 := HWC.out.1)
            all_goals rw [sv_len] at hw9
            all_goals (obtain ⟨g0, g1, g2, gz⟩ := hw9.cells)
            all_goals (have hqne := HQNE.out)
            all_goals (have gq := (HWC.out.2.2 q (by have := HBI.out.2.size; have := blk_lt HB.out.2; exact Nat.lt_of_lt_of_le this HBI.out.2.size) hqne.1 hqne.2).trans ((HBI.out.2.block q (blk_lt HB.out.2)).trans HB.out.2))
            all_goals (have gq1 := blk_cell gq 1)
            all_goals simp only [List.getElem?_toArray, List.getElem?_cons_zero, List.getElem?_cons_succ] at gq1
            all_goals (have hlit := hw9.lit)
            all_goals rw [sv_len] at hlit
            all_goals (have HPQ : Hid _ := And.intro (blk_lt hw9.top) (blk_lt gq))
            all_goals (have hal1 : ∀ (o : Obj) (j : Nat), (Wc.alloc o).cell? ⟨p, j, none⟩ = Wc.cell? ⟨p, j, none⟩ := fun o j => World.cell?_alloc_past _ _ _ HPQ.out.1)
            all_goals (have hal2 : ∀ (o : Obj) (j : Nat), (Wc.alloc o).cell? ⟨q, j, none⟩ = Wc.cell? ⟨q, j, none⟩ := fun o j => World.cell?_alloc_past _ _ _ HPQ.out.2)
            all_goals (obtain ⟨i0, hj0, hz0, hz1, hz2⟩ := info_parts info9)
            all_goals (have HBASE : Hid _ := hw9.base)
            all_goals (have HNU : Hid _ := hw9.nu)
            all_goals (have gz2 := gz 2)
            all_goals (have HW9 : Hid _ := hw9)
            all_goals clear gq y0 y1 y2 yz b0 b1 hA1 hB1 hqne gz hw9
            all_goals go_wp2
            all_goals go_region_law (first
              | (refine step_append_lies _ rfl (.tmp 78) (.tmp 81) 22 rfl w0.heap.size 9 i0 _ 1 16 Tryd.underlying22 hj0 hz0 hz1 hz2 rfl (by decide) (.slice Au ls.length ku) _ _ rfl (hlit.alloc (Obj.cells #[.string x.f1] 9)) ⟨Wc.heap.size, 0, none⟩ 1 1 [.string x.f1] rfl rfl (newsS Wc x.f1) (by intro u hu; simp at hu; rw [hu]; rfl) (by decide) (by have := HT.out.2; unfold maxLen; omega) (by have := HT.out.2; omega) (by have := HBASE.out; show w0.heap.size ≤ (World.alloc _ _).heap.size; simp; omega) _ rfl ?_
                 intro gn cn w6 hown6 hg6 hat6 hlt6
                 have k2 := cell_row6 (w := (Wc.alloc (Obj.cells #[.string x.f1] 9)).drew) hg6 HNU.out (by show p < (Wc.alloc _).heap.size; have := HPQ.out.1; simp; omega) ((hal1 _ 2).trans g2)
                 have kz := froz_row6 (w := (Wc.alloc (Obj.cells #[.string x.f1] 9)).drew) (g := p) (i := 2) hg6 HNU.out (by show p < (Wc.alloc _).heap.size; have := HPQ.out.1; simp; omega) (froz_alloc HPQ.out.1 gz2)
                 have HPL : Hid _ := lit_end HW9.out hown6 hg6))
            all_goals go_wp2
            all_goals (refine ⟨⟨k + 1, by have := HLT.out; omega, by simp, ⟨_, _, _, _, _, HPL.out, ?_, ?_, ?_⟩⟩, by simp only [intOf]; have := HLT.out; omega⟩)
            all_goals (first | (show (wrS ((k + 1) == 0) _ _ _ = R); rw [← HR2.out, ← HSN.out, ann_bytes]; rfl) | skip)
            all_goals (first | (show (o1 ++ bytesL _).length ≤ 200000; rw [List.length_append, bytesL_len, ← HSN.out, ann_size]; have := itoa_le x.f1.size HXK.out.2; have := HT.out.1; omega) | (show (ls ++ [x.f1]).length ≤ 100000; have := HT.out.2; simp; omega))
      · have ho1 : o1 = o := by rw [← HO1.out, f3]; simp
        obtain ⟨Wb, rfl⟩ : ∃ Wb, Wb = Wa := ⟨_, rfl⟩
        have HB : Hid (WrI w0 Wb p o1 ls pv' v' u' ∧ Wb.heap[q]? = some (.cells #[.int .i64 x.f0, .string x.f1, .slice A2 x.f2.length c2, .bool x.f3] 43 (0, 0))) := by rw [ho1]; exact HA.out
        have HO2 : Hid (o1.length ≤ 200001) := by rw [ho1]; have := HO.out.1; show o.length ≤ 200001; omega
        have hk0n : 0 < k := by omega
        rw [f3] at b3
        clear a0' a1' a2' a3' b0 b1 ho1 hk0' f3
        go_wp2_with fail
        clear e0 e1 e2 e3 hWa b3
        have hcase : (decide ((4096 : Int) < (o1.length : Int)) = true ∧ R = none) ∨ (decide ((4096 : Int) < (o1.length : Int)) = false ∧ decide ((512 : Int) < (ls.length : Int)) = true ∧ R = none) ∨ (decide ((4096 : Int) < (o1.length : Int)) = false ∧ decide ((512 : Int) < (ls.length : Int)) = false ∧ o1.length ≤ 4096 ∧ ls.length ≤ 512) := by
          by_cases h1 : 4096 < o1.length
          · exact .inl ⟨decide_eq_true (by omega), by rw [← HRUN.out, if_neg (by omega)]⟩
          · by_cases h2 : 512 < ls.length
            · exact .inr (.inl ⟨decide_eq_false (by omega), decide_eq_true (by omega), by rw [← HRUN.out, if_neg (by omega)]⟩)
            · exact .inr (.inr ⟨decide_eq_false (by omega), decide_eq_false (by omega), by omega, by omega⟩)
        have HCASE : Hid _ := hcase
        obtain ⟨y0, y1, y2, yz⟩ := HB.out.1.cells
        obtain ⟨Au, ku, rfl⟩ := own_slice HB.out.1.lit
        rw [sv_len] at y2
        have b0 := blk_cell HB.out.2 0
        have b1 := blk_cell HB.out.2 1
        simp only [List.getElem?_toArray, List.getElem?_cons_zero, List.getElem?_cons_succ] at b0 b1
        clear hcase
        rcases HCASE.out with ⟨t1, t2⟩ | ⟨t1, t2, t3⟩ | ⟨t1, t2, t3, t4⟩
        · have HR0 : Hid _ := t2
          clear t2
          go_wp2_with (go_at_call 44; refine (len_ok HB.out.1).mono ?_; rintro e w' ⟨rfl, h'⟩; replace h' := h'.symm; subst h')
          go_ret
          rw [HR0.out]
          exact WPo.no HB.out.1.bel
        · have HR0 : Hid _ := t3
          clear t3
          go_wp2_with (go_at_call 44; refine (len_ok HB.out.1).mono ?_; rintro e w' ⟨rfl, h'⟩; replace h' := h'.symm; subst h')
          go_ret
          rw [HR0.out]
          exact WPo.no HB.out.1.bel
        · have hrun := HRUN.out
          rw [if_pos ⟨t3, t4⟩] at hrun
          have HRUN2 : Hid _ := hrun
          have HT : Hid _ := And.intro t3 t4
          clear t3 t4 hrun
          rcases HXK.out.1 with hk1 | hk3
          · have hr2 := HRUN2.out
            rw [if_pos hk1] at hr2
            have HR2 : Hid _ := hr2
            have f1 : (x.f0 == 1) = true := beq_iff_eq.2 hk1
            clear hk1 hr2
            go_wp2_with (go_at_call 44; refine (len_ok HB.out.1).mono ?_; rintro e w' ⟨rfl, h'⟩; replace h' := h'.symm; subst h')
            go_region_with (first | (go_at_call 45; refine (wstr_ok (HB.out.1.move (pw_below_drewN (Below.refl _ _) _)) x.f1 (by have := HT.out.1; have := HXK.out.2; omega)).mono ?_; rintro e Wc ⟨rfl, vc, hwc, hfc⟩; have HWC : Hid _ := hwc; clear hwc hfc))
            all_goals go_wp2
            all_goals (refine ⟨⟨k + 1, by have := HLT.out; omega, by simp, ⟨_, _, _, _, _, HWC.out, ?_, ?_, ?_⟩⟩, by simp only [intOf]; have := HLT.out; omega⟩)
            all_goals (first | exact (show wrS ((k + 1) == 0) _ _ _ = R from HR2.out) | skip)
            all_goals (first | (show (o1 ++ bytesL x.f1).length ≤ 200000; rw [List.length_append, bytesL_len]; have := HT.out.1; have := HXK.out.2; omega) | exact HO.out.2)
          · have hr2 := HRUN2.out
            rw [if_neg (by omega), if_pos hk3] at hr2
            have HR2 : Hid _ := hr2
            have f1 : (x.f0 == 1) = false := beq_eq_false_iff_ne.2 (by omega)
            have f2 : (x.f0 == 2) = false := beq_eq_false_iff_ne.2 (by omega)
            have f3' : (x.f0 == 3) = true := beq_iff_eq.2 hk3
            have hba9 : ∀ n, WrI w0 (Wb.drewN n) p o1 ls _ _ _ := fun n => HB.out.1.move (pw_below_drewN (Below.refl _ _) n)
            have hwp9 : ∀ n, Ext.WP (Wb.drewN n) := fun n => HWP.out.below (hba9 n).bel
            have HBA : Hid _ := hba9
            have HQNE : Hid (q ≠ p ∧ some q ≠ v'.ownBlock) := ⟨by rintro rfl; have := HB.out.1.top; rw [HB.out.2] at this; simp at this, fun e => by obtain ⟨cs, hcs⟩ := own_typed HB.out.1.buf q e.symm; rw [HB.out.2] at hcs; simp at hcs⟩
            have HWP9 : Hid _ := hwp9
            have hz0 : (-9223372036854775808 : Int) ≤ (x.f1.size : Int) := by omega
            have hz1 : (x.f1.size : Int) ≤ 9223372036854775807 := by have := HXK.out.2; omega
            have hit := fun W hw => Ext.itoa_any (x.f1.size : Int) W hz0 hz1 hw
            have hsz := itoaBA_le x.f1.size HXK.out.2
            obtain ⟨sn, hsn⟩ : ∃ sn, Ext.itoaBA (x.f1.size : Int) = sn := ⟨_, rfl⟩
            rw [hsn] at hit hsz
            have HSN : Hid _ := hsn
            have HIT : Hid _ := hit
            have hA1 : (9223372036854775807 < 1 + sn.size) = False := eq_false (by omega)
            have hB1 : (9223372036854775807 < 1 + sn.size + 1) = False := eq_false (by omega)
            have hs9 : o1.length + (((⟨#[123]⟩ : ByteArray) ++ sn) ++ (⟨#[125]⟩ : ByteArray)).size ≤ 1000000000 := by rw [← hsn, ann_size]; have := itoa_le x.f1.size HXK.out.2; have := HT.out.1; omega
            have HS9 : Hid _ := hs9
            clear hit hsz hsn hs9
            clear hk3 hr2 hba9 hwp9 hz0 hz1
            go_wp2_with (go_at_call 44; refine (len_ok HB.out.1).mono ?_; rintro e w' ⟨rfl, h'⟩; replace h' := h'.symm; subst h')
            go_region_with (first
              | (go_at_call 35; refine (HIT.out _ (HWP9.out _)).mono ?_; rintro e Wi ⟨rfl, hbi⟩; have HBI : Hid _ := And.intro ((HBA.out _).move hbi) hbi; clear hbi)
              | (go_at_call 45; refine (wstr_ok HBI.out.1 (((⟨#[123]⟩ : ByteArray) ++ sn) ++ (⟨#[125]⟩ : ByteArray)) HS9.out).mono ?_; rintro e Wc ⟨rfl, vc, hwc, hfc⟩; have HWC : Hid _ := And.intro hwc hfc; clear hwc hfc))
            all_goals (have hw9 := HWC.out.1)
            all_goals rw [sv_len] at hw9
            all_goals (obtain ⟨g0, g1, g2, gz⟩ := hw9.cells)
            all_goals (have hqne := HQNE.out)
            all_goals (have gq := (HWC.out.2.2 q (by have := HBI.out.2.size; have := blk_lt HB.out.2; exact Nat.lt_of_lt_of_le this HBI.out.2.size) hqne.1 hqne.2).trans ((HBI.out.2.block q (blk_lt HB.out.2)).trans HB.out.2))
            all_goals (have gq1 := blk_cell gq 1)
            all_goals simp only [List.getElem?_toArray, List.getElem?_cons_zero, List.getElem?_cons_succ] at gq1
            all_goals (have hlit := hw9.lit)
            all_goals rw [sv_len] at hlit
            all_goals (have HPQ : Hid _ := And.intro (blk_lt hw9.top) (blk_lt gq))
            all_goals (have hal1 : ∀ (o : Obj) (j : Nat), (Wc.alloc o).cell? ⟨p, j, none⟩ = Wc.cell? ⟨p, j, none⟩ := fun o j => World.cell?_alloc_past _ _ _ HPQ.out.1)
            all_goals (have hal2 : ∀ (o : Obj) (j : Nat), (Wc.alloc o).cell? ⟨q, j, none⟩ = Wc.cell? ⟨q, j, none⟩ := fun o j => World.cell?_alloc_past _ _ _ HPQ.out.2)
            all_goals (obtain ⟨i0, hj0, hz0, hz1, hz2⟩ := info_parts info9)
            all_goals (have HBASE : Hid _ := hw9.base)
            all_goals (have HNU : Hid _ := hw9.nu)
            all_goals (have gz2 := gz 2)
            all_goals (have HW9 : Hid _ := hw9)
            all_goals clear gq y0 y1 y2 yz b0 b1 hA1 hB1 hqne gz hw9
            all_goals go_wp2
            all_goals go_region_law (first
              | (refine step_append_lies _ rfl (.tmp 78) (.tmp 81) 22 rfl w0.heap.size 9 i0 _ 1 16 Tryd.underlying22 hj0 hz0 hz1 hz2 rfl (by decide) (.slice Au ls.length ku) _ _ rfl (hlit.alloc (Obj.cells #[.string x.f1] 9)) ⟨Wc.heap.size, 0, none⟩ 1 1 [.string x.f1] rfl rfl (newsS Wc x.f1) (by intro u hu; simp at hu; rw [hu]; rfl) (by decide) (by have := HT.out.2; unfold maxLen; omega) (by have := HT.out.2; omega) (by have := HBASE.out; show w0.heap.size ≤ (World.alloc _ _).heap.size; simp; omega) _ rfl ?_
                 intro gn cn w6 hown6 hg6 hat6 hlt6
                 have k2 := cell_row6 (w := (Wc.alloc (Obj.cells #[.string x.f1] 9)).drew) hg6 HNU.out (by show p < (Wc.alloc _).heap.size; have := HPQ.out.1; simp; omega) ((hal1 _ 2).trans g2)
                 have kz := froz_row6 (w := (Wc.alloc (Obj.cells #[.string x.f1] 9)).drew) (g := p) (i := 2) hg6 HNU.out (by show p < (Wc.alloc _).heap.size; have := HPQ.out.1; simp; omega) (froz_alloc HPQ.out.1 gz2)
                 have HPL : Hid _ := lit_end HW9.out hown6 hg6))
            all_goals go_wp2
            all_goals (refine ⟨⟨k + 1, by have := HLT.out; omega, by simp, ⟨_, _, _, _, _, HPL.out, ?_, ?_, ?_⟩⟩, by simp only [intOf]; have := HLT.out; omega⟩)
            all_goals (first | (show (wrS ((k + 1) == 0) _ _ _ = R); rw [← HR2.out, ← HSN.out, ann_bytes]; rfl) | skip)
            all_goals (first | (show (o1 ++ bytesL _).length ≤ 200000; rw [List.length_append, bytesL_len, ← HSN.out, ann_size]; have := itoa_le x.f1.size HXK.out.2; have := HT.out.1; omega) | (show (ls ++ [x.f1]).length ≤ 100000; have := HT.out.2; simp; omega))
      · have ho1 : o1 = o ++ [32] := by rw [← HO1.out, f3, show (k == 0) = false by simpa using hk0']; rfl
        have HO2 : Hid (o1.length ≤ 200001) := by rw [ho1]; have := HO.out.1; show (o ++ [32]).length ≤ 200001; simp; omega
        have HO3 : Hid _ := ho1
        have hk0n : 0 < k := by omega
        rw [f3] at b3
        clear a0' a1' a2' a3' b0 b1 ho1 hk0' f3
        go_wp2_with (go_at_call 43; refine (wbyte_ok HA.out.1 32 (by have := HO.out.1; omega)).mono ?_; rintro e Wb ⟨rfl, vb, hwb, hfb⟩; have HB : Hid (WrI w0 Wb p o1 ls (.pointer (some ⟨p, 0, none⟩)) vb u' ∧ Wb.heap[q]? = some (.cells #[.int .i64 x.f0, .string x.f1, .slice A2 x.f2.length c2, .bool x.f3] 43 (0, 0))) := ⟨by rw [HO3.out]; exact hwb, (hfb.2 q (blk_lt HA.out.2) (by rintro rfl; have := HA.out.1.top; rw [HA.out.2] at this; simp at this) (fun e => by obtain ⟨cs, hcs⟩ := own_typed HA.out.1.buf q e.symm; rw [HA.out.2] at hcs; simp at hcs)).trans HA.out.2⟩; clear hwb hfb)
        clear e0 e1 e2 e3 hWa b3
        have hcase : (decide ((4096 : Int) < (o1.length : Int)) = true ∧ R = none) ∨ (decide ((4096 : Int) < (o1.length : Int)) = false ∧ decide ((512 : Int) < (ls.length : Int)) = true ∧ R = none) ∨ (decide ((4096 : Int) < (o1.length : Int)) = false ∧ decide ((512 : Int) < (ls.length : Int)) = false ∧ o1.length ≤ 4096 ∧ ls.length ≤ 512) := by
          by_cases h1 : 4096 < o1.length
          · exact .inl ⟨decide_eq_true (by omega), by rw [← HRUN.out, if_neg (by omega)]⟩
          · by_cases h2 : 512 < ls.length
            · exact .inr (.inl ⟨decide_eq_false (by omega), decide_eq_true (by omega), by rw [← HRUN.out, if_neg (by omega)]⟩)
            · exact .inr (.inr ⟨decide_eq_false (by omega), decide_eq_false (by omega), by omega, by omega⟩)
        have HCASE : Hid _ := hcase
        obtain ⟨y0, y1, y2, yz⟩ := HB.out.1.cells
        obtain ⟨Au, ku, rfl⟩ := own_slice HB.out.1.lit
        rw [sv_len] at y2
        have b0 := blk_cell HB.out.2 0
        have b1 := blk_cell HB.out.2 1
        simp only [List.getElem?_toArray, List.getElem?_cons_zero, List.getElem?_cons_succ] at b0 b1
        clear hcase
        rcases HCASE.out with ⟨t1, t2⟩ | ⟨t1, t2, t3⟩ | ⟨t1, t2, t3, t4⟩
        · have HR0 : Hid _ := t2
          clear t2
          go_wp2_with (go_at_call 44; refine (len_ok HB.out.1).mono ?_; rintro e w' ⟨rfl, h'⟩; replace h' := h'.symm; subst h')
          go_ret
          rw [HR0.out]
          exact WPo.no HB.out.1.bel
        · have HR0 : Hid _ := t3
          clear t3
          go_wp2_with (go_at_call 44; refine (len_ok HB.out.1).mono ?_; rintro e w' ⟨rfl, h'⟩; replace h' := h'.symm; subst h')
          go_ret
          rw [HR0.out]
          exact WPo.no HB.out.1.bel
        · have hrun := HRUN.out
          rw [if_pos ⟨t3, t4⟩] at hrun
          have HRUN2 : Hid _ := hrun
          have HT : Hid _ := And.intro t3 t4
          clear t3 t4 hrun
          rcases HXK.out.1 with hk1 | hk3
          · have hr2 := HRUN2.out
            rw [if_pos hk1] at hr2
            have HR2 : Hid _ := hr2
            have f1 : (x.f0 == 1) = true := beq_iff_eq.2 hk1
            clear hk1 hr2
            go_wp2_with (go_at_call 44; refine (len_ok HB.out.1).mono ?_; rintro e w' ⟨rfl, h'⟩; replace h' := h'.symm; subst h')
            go_region_with (first | (go_at_call 45; refine (wstr_ok (HB.out.1.move (pw_below_drewN (Below.refl _ _) _)) x.f1 (by have := HT.out.1; have := HXK.out.2; omega)).mono ?_; rintro e Wc ⟨rfl, vc, hwc, hfc⟩; have HWC : Hid _ := hwc; clear hwc hfc))
            all_goals go_wp2
            all_goals (refine ⟨⟨k + 1, by have := HLT.out; omega, by simp, ⟨_, _, _, _, _, HWC.out, ?_, ?_, ?_⟩⟩, by simp only [intOf]; have := HLT.out; omega⟩)
            all_goals (first | exact (show wrS ((k + 1) == 0) _ _ _ = R from HR2.out) | skip)
            all_goals (first | (show (o1 ++ bytesL x.f1).length ≤ 200000; rw [List.length_append, bytesL_len]; have := HT.out.1; have := HXK.out.2; omega) | exact HO.out.2)
          · have hr2 := HRUN2.out
            rw [if_neg (by omega), if_pos hk3] at hr2
            have HR2 : Hid _ := hr2
            have f1 : (x.f0 == 1) = false := beq_eq_false_iff_ne.2 (by omega)
            have f2 : (x.f0 == 2) = false := beq_eq_false_iff_ne.2 (by omega)
            have f3' : (x.f0 == 3) = true := beq_iff_eq.2 hk3
            have hba9 : ∀ n, WrI w0 (Wb.drewN n) p o1 ls _ _ _ := fun n => HB.out.1.move (pw_below_drewN (Below.refl _ _) n)
            have hwp9 : ∀ n, Ext.WP (Wb.drewN n) := fun n => HWP.out.below (hba9 n).bel
            have HBA : Hid _ := hba9
            have HQNE : Hid (q ≠ p ∧ some q ≠ vb.ownBlock) := ⟨by rintro rfl; have := HB.out.1.top; rw [HB.out.2] at this; simp at this, fun e => by obtain ⟨cs, hcs⟩ := own_typed HB.out.1.buf q e.symm; rw [HB.out.2] at hcs; simp at hcs⟩
            have HWP9 : Hid _ := hwp9
            have hz0 : (-9223372036854775808 : Int) ≤ (x.f1.size : Int) := by omega
            have hz1 : (x.f1.size : Int) ≤ 9223372036854775807 := by have := HXK.out.2; omega
            have hit := fun W hw => Ext.itoa_any (x.f1.size : Int) W hz0 hz1 hw
            have hsz := itoaBA_le x.f1.size HXK.out.2
            obtain ⟨sn, hsn⟩ : ∃ sn, Ext.itoaBA (x.f1.size : Int) = sn := ⟨_, rfl⟩
            rw [hsn] at hit hsz
            have HSN : Hid _ := hsn
            have HIT : Hid _ := hit
            have hA1 : (9223372036854775807 < 1 + sn.size) = False := eq_false (by omega)
            have hB1 : (9223372036854775807 < 1 + sn.size + 1) = False := eq_false (by omega)
            have hs9 : o1.length + (((⟨#[123]⟩ : ByteArray) ++ sn) ++ (⟨#[125]⟩ : ByteArray)).size ≤ 1000000000 := by rw [← hsn, ann_size]; have := itoa_le x.f1.size HXK.out.2; have := HT.out.1; omega
            have HS9 : Hid _ := hs9
            clear hit hsz hsn hs9
            clear hk3 hr2 hba9 hwp9 hz0 hz1
            go_wp2_with (go_at_call 44; refine (len_ok HB.out.1).mono ?_; rintro e w' ⟨rfl, h'⟩; replace h' := h'.symm; subst h')
            go_region_with (first
              | (go_at_call 35; refine (HIT.out _ (HWP9.out _)).mono ?_; rintro e Wi ⟨rfl, hbi⟩; have HBI : Hid _ := And.intro ((HBA.out _).move hbi) hbi; clear hbi)
              | (go_at_call 45; refine (wstr_ok HBI.out.1 (((⟨#[123]⟩ : ByteArray) ++ sn) ++ (⟨#[125]⟩ : ByteArray)) HS9.out).mono ?_; rintro e Wc ⟨rfl, vc, hwc, hfc⟩; have HWC : Hid _ := And.intro hwc hfc; clear hwc hfc))
            all_goals (have hw9 := HWC.out.1)
            all_goals rw [sv_len] at hw9
            all_goals (obtain ⟨g0, g1, g2, gz⟩ := hw9.cells)
            all_goals (have hqne := HQNE.out)
            all_goals (have gq := (HWC.out.2.2 q (by have := HBI.out.2.size; have := blk_lt HB.out.2; exact Nat.lt_of_lt_of_le this HBI.out.2.size) hqne.1 hqne.2).trans ((HBI.out.2.block q (blk_lt HB.out.2)).trans HB.out.2))
            all_goals (have gq1 := blk_cell gq 1)
            all_goals simp only [List.getElem?_toArray, List.getElem?_cons_zero, List.getElem?_cons_succ] at gq1
            all_goals (have hlit := hw9.lit)
            all_goals rw [sv_len] at hlit
            all_goals (have HPQ : Hid _ := And.intro (blk_lt hw9.top) (blk_lt gq))
            all_goals (have hal1 : ∀ (o : Obj) (j : Nat), (Wc.alloc o).cell? ⟨p, j, none⟩ = Wc.cell? ⟨p, j, none⟩ := fun o j => World.cell?_alloc_past _ _ _ HPQ.out.1)
            all_goals (have hal2 : ∀ (o : Obj) (j : Nat), (Wc.alloc o).cell? ⟨q, j, none⟩ = Wc.cell? ⟨q, j, none⟩ := fun o j => World.cell?_alloc_past _ _ _ HPQ.out.2)
            all_goals (obtain ⟨i0, hj0, hz0, hz1, hz2⟩ := info_parts info9)
            all_goals (have HBASE : Hid _ := hw9.base)
            all_goals (have HNU : Hid _ := hw9.nu)
            all_goals (have gz2 := gz 2)
            all_goals (have HW9 : Hid _ := hw9)
            all_goals clear gq y0 y1 y2 yz b0 b1 hA1 hB1 hqne gz hw9
            all_goals go_wp2
            all_goals go_region_law (first
              | (refine step_append_lies _ rfl (.tmp 78) (.tmp 81) 22 rfl w0.heap.size 9 i0 _ 1 16 Tryd.underlying22 hj0 hz0 hz1 hz2 rfl (by decide) (.slice Au ls.length ku) _ _ rfl (hlit.alloc (Obj.cells #[.string x.f1] 9)) ⟨Wc.heap.size, 0, none⟩ 1 1 [.string x.f1] rfl rfl (newsS Wc x.f1) (by intro u hu; simp at hu; rw [hu]; rfl) (by decide) (by have := HT.out.2; unfold maxLen; omega) (by have := HT.out.2; omega) (by have := HBASE.out; show w0.heap.size ≤ (World.alloc _ _).heap.size; simp; omega) _ rfl ?_
                 intro gn cn w6 hown6 hg6 hat6 hlt6
                 have k2 := cell_row6 (w := (Wc.alloc (Obj.cells #[.string x.f1] 9)).drew) hg6 HNU.out (by show p < (Wc.alloc _).heap.size; have := HPQ.out.1; simp; omega) ((hal1 _ 2).trans g2)
                 have kz := froz_row6 (w := (Wc.alloc (Obj.cells #[.string x.f1] 9)).drew) (g := p) (i := 2) hg6 HNU.out (by show p < (Wc.alloc _).heap.size; have := HPQ.out.1; simp; omega) (froz_alloc HPQ.out.1 gz2)
                 have HPL : Hid _ := lit_end HW9.out hown6 hg6))
            all_goals go_wp2
            all_goals (refine ⟨⟨k + 1, by have := HLT.out; omega, by simp, ⟨_, _, _, _, _, HPL.out, ?_, ?_, ?_⟩⟩, by simp only [intOf]; have := HLT.out; omega⟩)
            all_goals (first | (show (wrS ((k + 1) == 0) _ _ _ = R); rw [← HR2.out, ← HSN.out, ann_bytes]; rfl) | skip)
            all_goals (first | (show (o1 ++ bytesL _).length ≤ 200000; rw [List.length_append, bytesL_len, ← HSN.out, ann_size]; have := itoa_le x.f1.size HXK.out.2; have := HT.out.1; omega) | (show (ls ++ [x.f1]).length ≤ 100000; have := HT.out.2; simp; omega))
    · obtain ⟨o, ls, pv7, v7, u7, hw, hrun, hol, hll⟩ := HH.out
      have hkk : k = l.length := by omega
      rw [hkk, List.drop_length] at hrun
      have HFIN : Hid _ := And.intro hw hrun
      have hltf : decide ((k : Int) < (l.length : Int)) = false := decide_eq_false (by omega)
      clear hw hrun hol hll hkk
      go_wp2
      go_ret
      have hR9 := HFIN.out.2
      rw [wrS] at hR9
      rw [← hR9]
      exact WPo.yes HFIN.out.1
end Go.Proofs.YtbgcapgjnflmoaaDoor.Sc
