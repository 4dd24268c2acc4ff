/- Contracts of the functions that the statement reaches, and plain lemmas: ScWrt. -/
import Derived.Test.YtbgcapgjnflmoaaDoorMg14
import Derived.Test.YtbgcapgjnflmoaaDoorMg0
import Derived.Deep.Cut
set_option linter.unusedVariables false
set_option linter.unusedSimpArgs false
set_option linter.unnecessarySimpa false
/- write, of words with lists in them. -/
namespace Go.Proofs.YtbgcapgjnflmoaaDoor.Sc
open Go.RowKit Go.Proofs.YtbgcapgjnflmoaaDoorW.PrintWords Go.Proofs.YtbgcapgjnflmoaaDoorW.PrintMore Go.Proofs.YtbgcapgjnflmoaaDoor.PLx
variable {w0 w w1 : World} {p : Nat} {out : List UInt8} {lits : List ByteArray} {pv v u : Value}
/-- What write writes: of a word, of words. -/
def sepL (first : Bool) (x : Wd) : List UInt8 := if !first && !x.f3 then [32] else []
mutual
def wW : Wd → List UInt8
  | ⟨k, t, l, _⟩ => if k = 1 then bytesL t else if k = 2 then bytesL (Ext.quoteBA t) else if k = 3 then annL t else if k = 4 then 40 :: (wL true l ++ [41]) else 91 :: (wL true l ++ [93])
def wL : Bool → List Wd → List UInt8
  | _, [] => []
  | first, x :: r => sepL first x ++ (wW x ++ wL false r)
end
mutual
def tW : Wd → List ByteArray
  | ⟨k, t, l, _⟩ => if k = 1 then [] else if k = 2 then [] else if k = 3 then [t] else tL l
def tL : List Wd → List ByteArray
  | [] => []
  | x :: r => tW x ++ tL r
end
/-- The kinds that there are, no deeper than m. -/
def Vd : Nat → List Wd → Prop
  | 0, l => ∀ x, x ∈ l → x.f0 = 1 ∨ x.f0 = 2 ∨ (x.f0 = 3 ∧ x.f1.size ≤ 100000)
  | m + 1, l => ∀ x, x ∈ l → (x.f0 = 1 ∨ x.f0 = 2 ∨ (x.f0 = 3 ∧ x.f1.size ≤ 100000)) ∨ ((x.f0 = 4 ∨ x.f0 = 5) ∧ Vd m x.f2)
theorem wW_1 {x : Wd} (h : x.f0 = 1) : wW x = bytesL x.f1 := by cases x; simp only at h; unfold wW; rw [if_pos h]
theorem wW_2 {x : Wd} (h : x.f0 = 2) : wW x = bytesL (Ext.quoteBA x.f1) := by cases x; simp only at h; unfold wW; rw [if_neg (by omega), if_pos h]
theorem wW_3 {x : Wd} (h : x.f0 = 3) : wW x = annL x.f1 := by cases x; simp only at h; unfold wW; rw [if_neg (by omega), if_neg (by omega), if_pos h]
theorem wW_4 {x : Wd} (h : x.f0 = 4) : wW x = 40 :: (wL true x.f2 ++ [41]) := by
  cases x; simp only at h
  conv => lhs; unfold wW
  rw [if_neg (by omega), if_neg (by omega), if_neg (by omega), if_pos h]
theorem wW_5 {x : Wd} (h : x.f0 = 5) : wW x = 91 :: (wL true x.f2 ++ [93]) := by
  cases x; simp only at h
  conv => lhs; unfold wW
  rw [if_neg (by omega), if_neg (by omega), if_neg (by omega), if_neg (by omega)]
theorem tW_3 {x : Wd} (h : x.f0 = 3) : tW x = [x.f1] := by cases x; simp only at h; unfold tW; rw [if_neg (by omega), if_neg (by omega), if_pos h]
theorem tW_0 {x : Wd} (h : x.f0 = 1 ∨ x.f0 = 2) : tW x = [] := by
  cases x; simp only at h; unfold tW
  rcases h with h | h
  · rw [if_pos h]
  · rw [if_neg (by omega), if_pos h]
theorem tW_4 {x : Wd} (h : x.f0 = 4 ∨ x.f0 = 5) : tW x = tL x.f2 := by
  cases x; simp only at h
  conv => lhs; unfold tW
  rw [if_neg (by omega), if_neg (by omega), if_neg (by omega)]
theorem wL_cons (first : Bool) (x : Wd) (r : List Wd) : wL first (x :: r) = sepL first x ++ (wW x ++ wL false r) := by conv => lhs; unfold wL
theorem tL_cons (x : Wd) (r : List Wd) : tL (x :: r) = tW x ++ tL r := by conv => lhs; unfold tL
theorem wL_nil (first : Bool) : wL first [] = [] := by unfold wL; rfl
theorem tL_nil : tL [] = [] := by unfold tL; rfl
theorem wbyte_z (h : WrI w0 w p out lits pv v u) (c : UInt8) (z : Int) (hz : (c.toNat : Int) = z) (hl : out.length ≤ 1000000000) : Calls Tryd.prog 43 #[.pointer (some ⟨p, 0, none⟩), .int .u8 z] w fun e w' => e = .returned .nilIface ∧ ∃ v', WrI w0 w' p (out ++ [c]) lits (.pointer (some ⟨p, 0, none⟩)) v' u ∧ Fr6 w w' p v := by
  subst hz
  exact wbyte_ok h c hl
theorem quote_less (s : ByteArray) : s.size ≤ (Ext.quoteBA s).size := by
  have key : ∀ l : List UInt8, l.length ≤ (l.flatMap Ext.esc).length := by
    intro l
    induction l with
    | nil => exact Nat.le_refl _
    | cons c r ih =>
      rw [List.flatMap_cons, List.length_append, List.length_cons]
      have : 1 ≤ (Ext.esc c).length := by unfold Ext.esc; split <;> simp
      omega
  have h := key (bytesL s)
  rw [bytesL_len] at h
  rw [← bytesL_len (Ext.quoteBA s), show bytesL (Ext.quoteBA s) = 34 :: ((bytesL s).flatMap Ext.esc ++ [34]) from rfl, List.length_cons, List.length_append]
  omega
theorem Vd_get {m : Nat} {l : List Wd} (h : Vd m l) {x : Wd} (hx : x ∈ l) : (x.f0 = 1 ∨ x.f0 = 2 ∨ (x.f0 = 3 ∧ x.f1.size ≤ 100000)) ∨ ((x.f0 = 4 ∨ x.f0 = 5) ∧ ∃ mm, m = mm + 1 ∧ Vd mm x.f2) := by
  cases m with
  | zero => exact .inl (h x hx)
  | succ m =>
    rcases h x hx with h | ⟨h1, h2⟩
    · exact .inl h
    · exact .inr ⟨h1, m, rfl, h2⟩
/-- In the midst. -/
def WrT (w0 : World) (p : Nat) (l : List Wd) (OUT : List UInt8) (LOUT : List ByteArray) (k : Nat) (wr : World) : Prop :=
  ∃ o ls pv v u, WrI w0 wr p o ls pv v u ∧ o ++ wL (k == 0) (l.drop k) = OUT ∧ ls ++ tL (l.drop k) = LOUT
set_option maxRecDepth 100000 in
set_option maxHeartbeats 8000000 in
theorem writeT_ok : ∀ (m d : Nat), m + d = 12 → ∀ (l : List Wd) {A : Option Addr} {cA : Nat} {w : World} {o0 : List UInt8} {ls0 : List ByteArray} {pv v u : Value}, WrI w0 w p o0 ls0 pv v u → Kd.C k43 w0 A l.length l → l.length ≤ cA → Vd m l →
    o0.length + (wL true l).length ≤ 4096 → ls0.length + (tL l).length ≤ 512 → Ext.WP w0 →
    Calls Tryd.prog 26 #[.pointer (some ⟨p, 0, none⟩), .slice A l.length cA, .int .i64 (d : Int)] w (WPo w0 p (some (o0 ++ wL true l, ls0 ++ tL l))) := by
  intro m
  induction m using Nat.strongRecOn with
  | _ m ih =>
  intro d hd l A cA w o0 ls0 pv v u h hr hc hv hmo hml hwp
  obtain ⟨OUT, hO⟩ : ∃ OUT, o0 ++ wL true l = OUT := ⟨_, rfl⟩
  obtain ⟨LOUT, hLO⟩ : ∃ LOUT, ls0 ++ tL l = LOUT := ⟨_, rfl⟩
  rw [hO, hLO]
  have HS : Hid (WrT w0 p l OUT LOUT 0 w) := ⟨o0, ls0, _, _, _, h, hO, hLO⟩
  have HMAX : Hid (OUT.length ≤ 4096 ∧ LOUT.length ≤ 512) := ⟨by rw [← hO, List.length_append]; exact hmo, by rw [← hLO, List.length_append]; exact hml⟩
  have HRD : Hid _ := hr
  have HC : Hid _ := hc
  have HV : Hid _ := hv
  have HWP : Hid _ := hwp
  have HIH : Hid _ := ih
  have HD : Hid _ := hd
  have hl9 : (l.length : Int) ≤ 9223372036854775807 := by have := hr.2.1; omega
  have hd9 : (d : Int) ≤ 12 := by omega
  have hdb : decide ((12 : Int) < (d : Int)) = false := decide_eq_false (by omega)
  have hd0 : (0 : Int) ≤ (d : Int) := by omega
  clear h hr hc hv hmo hml hwp ih hd hO hLO
  go_enter Tryd.func26, Tryd.ntmps26
  go_wp2
  go_loopw [14] (fun vi wr => ∃ k : Nat, k ≤ l.length ∧ vi = .int .i64 k ∧ Hid (WrT w0 p l OUT LOUT k wr)) (fun vi _ => l.length - (intOf vi).toNat)
  case atStart => exact ⟨0, Nat.zero_le _, rfl, HS⟩
  case round =>
    obtain ⟨k, hkl, rfl, HH⟩ := hrel
    by_cases hlt : k < l.length
    · obtain ⟨o, ls, pv', v', u', hw, hout, hlout⟩ := HH.out
      obtain ⟨x, hx⟩ : ∃ x, l[k] = x := ⟨_, rfl⟩
      obtain ⟨ad, A2, c2, eA, a0, a1, a2, a3, ha2, hC2⟩ := at_T43 HRD.out (k : Int) (by omega) (by omega)
      have hrd : rd_T43 l (k : Int) = x := by unfold rd_T43; rw [Int.toNat_natCast, List.getD_eq_getElem?_getD, List.getElem?_eq_getElem hlt, hx]; rfl
      rw [hrd] at a0 a1 a2 a3 ha2 hC2
      simp only [Int.toNat_natCast] at a0 a1 a2 a3
      subst eA
      have e0 := pw_cell_below hw.bel a0
      have e1 := pw_cell_below hw.bel a1
      have e2 := pw_cell_below hw.bel a2
      have e3 := pw_cell_below hw.bel a3
      have hvx := Vd_get HV.out (show x ∈ l by rw [← hx]; exact List.getElem_mem hlt)
      have HVX : Hid _ := hvx
      have HKID : Hid _ := And.intro hC2 ha2
      rw [List.drop_eq_getElem_cons hlt, hx, wL_cons] at hout
      rw [List.drop_eq_getElem_cons hlt, hx, tL_cons] at hlout
      have hltb : decide ((k : Int) < (l.length : Int)) = true := decide_eq_true (by omega)
      have hlti : (k : Int) < (l.length : Int) := by omega
      have hk0 : (0 : Int) ≤ (k : Int) := by omega
      have HW : Hid _ := hw
      have HLT : Hid _ := hlt
      have hol : o.length ≤ 4096 := by have h2 := HMAX.out.1; rw [← hout] at h2; simp only [List.length_append] at h2; omega
      have HO : Hid (o.length ≤ 4096 ∧ True) := ⟨hol, trivial⟩
      obtain ⟨Wa, hWa⟩ : ∃ W, wr.alloc (Obj.cells #[.int .i64 x.f0, .string x.f1, .slice A2 x.f2.length c2, .bool x.f3] 43) = W := ⟨_, rfl⟩
      have hba : Below wr.heap.size wr Wa := by rw [← hWa]; exact below_alloc (Below.refl _ _) _
      have hblk : Wa.heap[wr.heap.size]? = some (.cells #[.int .i64 x.f0, .string x.f1, .slice A2 x.f2.length c2, .bool x.f3] 43 (0, 0)) := by rw [← hWa]; exact blk_new wr _
      have HA : Hid _ := And.intro (hw.move hba) hblk
      obtain ⟨q, hq⟩ : ∃ q, wr.heap.size = q := ⟨_, rfl⟩
      have b0 := blk_cell hblk 0
      have b1 := blk_cell hblk 1
      have b3 := blk_cell hblk 3
      simp only [List.getElem?_toArray, List.getElem?_cons_zero, List.getElem?_cons_succ, hq] at b0 b1 b3
      rw [hq] at HA
      obtain ⟨a0', a1', a2', a3'⟩ := (hw.move hba).cells
      obtain ⟨B, hB⟩ : ∃ B : Bool, (!(k == 0) && !x.f3) = B := ⟨_, rfl⟩
      have HBB : Hid _ := hB
      have HQ : Hid _ := hq
      obtain ⟨o1, ho1⟩ : ∃ o1, o ++ sepL (k == 0) x = o1 := ⟨_, rfl⟩
      rw [← List.append_assoc, ho1] at hout
      have HOUT : Hid _ := hout
      have HLOUT : Hid _ := hlout
      have HO1 : Hid _ := ho1
      have ho2 : o1 = if B = true then o ++ [32] else o := by
        rw [← ho1]; unfold sepL; rw [hB]; cases B <;> simp
      have HO2 : Hid _ := ho2
      clear a0 a1 a2 a3 ha2 hC2 hrd hx hw hout hlout hvx hol hlt hba hblk ho1 ho2 hB
      go_upto_region 6 with (fail)
      clear hWa e0 e1 e2 e3
      go_cut [25] from 15 (fun s25 wc => s25 = .bool B ∧ wc = Wa)
      case first =>
        by_cases h0 : k = 0
        · have f0 : decide ((0 : Int) < (k : Int)) = false := decide_eq_false (by omega)
          have hBf : B = false := by rw [← HBB.out, h0]; rfl
          have hk0n : ¬ (0 < k) := by omega
          have HBf : Hid _ := hBf
          clear h0 hBf
          go_wp2
          go_meet
          case rel => exact ⟨by rw [HBf.out], rfl⟩
        · have f0 : decide ((0 : Int) < (k : Int)) = true := decide_eq_true (by omega)
          have hk0n : 0 < k := by omega
          cases hf3 : x.f3 with
          | true =>
            rw [hf3] at b3
            have HBf : Hid (B = false) := (by rw [← HBB.out, hf3]; simp : B = false)
            clear h0
            go_wp2
            go_meet
            case rel => exact ⟨by rw [HBf.out], rfl⟩
          | false =>
            rw [hf3] at b3
            have HBf : Hid (B = true) := (by rw [← HBB.out, hf3, show (k == 0) = false by simpa using h0]; rfl : B = true)
            clear h0
            go_wp2
            go_meet
            case rel => exact ⟨by rw [HBf.out], rfl⟩
      case rest =>
        obtain ⟨rfl, rfl⟩ := hcut
        go_upto_if 25 with (fail)
        go_cut [] from 15 (fun wc => ∃ pvb vb, Hid (WrI w0 wc p o1 ls pvb vb u' ∧ wc.heap[q]? = some (.cells #[.int .i64 x.f0, .string x.f1, .slice A2 x.f2.length c2, .bool x.f3] 43 (0, 0))))
        case first =>
          cases B with
          | false =>
            go_wp2
            go_meet
            case rel => exact ⟨_, _, by rw [show o1 = o from HO2.out]; exact HA.out⟩
          | true =>
            go_wp2_with (go_at_call 43; refine (wbyte_ok HA.out.1 32 (by have := HO.out.1; omega)).mono ?_; rintro e Wb ⟨rfl, vb, hwb, hfb⟩; have HB : Hid (WrI w0 Wb p o1 ls (.pointer (some ⟨p, 0, none⟩)) vb u' ∧ Wb.heap[q]? = some (.cells #[.int .i64 x.f0, .string x.f1, .slice A2 x.f2.length c2, .bool x.f3] 43 (0, 0))) := ⟨by rw [show o1 = o ++ [32] from HO2.out]; exact hwb, (hfb.2 q (blk_lt HA.out.2) (by rintro rfl; have := HA.out.1.top; rw [HA.out.2] at this; simp at this) (fun e => by obtain ⟨cs, hcs⟩ := own_typed HA.out.1.buf q e.symm; rw [HA.out.2] at hcs; simp at hcs)).trans HA.out.2⟩; clear hwb hfb)
            go_meet
            case rel => exact ⟨_, _, HB⟩
        case rest =>
          obtain ⟨pvb, vb, HB⟩ := hcut
          clear b0 b1 b3 a0' a1' a2' a3'
          have hto : o1.length ≤ 4096 := by have := HOUT.out; have h2 := HMAX.out.1; rw [← this] at h2; simp only [List.length_append] at h2; omega
          have htl : ls.length ≤ 512 := by have := HLOUT.out; have h2 := HMAX.out.2; rw [← this] at h2; simp only [List.length_append] at h2; omega
          have t1 : decide ((4096 : Int) < (o1.length : Int)) = false := decide_eq_false (by omega)
          have t2 : decide ((512 : Int) < (ls.length : Int)) = false := decide_eq_false (by omega)
          have HT : Hid _ := And.intro hto htl
          obtain ⟨y0, y1, y2, yz⟩ := HB.out.1.cells
          obtain ⟨Au, ku, rfl⟩ := own_slice HB.out.1.lit
          rw [sv_len] at y2
          have b0 := blk_cell HB.out.2 0
          have b1 := blk_cell HB.out.2 1
          simp only [List.getElem?_toArray, List.getElem?_cons_zero, List.getElem?_cons_succ] at b0 b1
          clear hto htl
          rcases HVX.out with (hk1 | hk2 | ⟨hk3, hx3⟩) | ⟨hk45, mm, hmm, hvd⟩
          · skip
            have f1 : (x.f0 == 1) = true := beq_iff_eq.2 (by omega)
            have hx1 : x.f1.size ≤ 4096 := by have := HOUT.out; rw [wW_1 hk1] at this; have h2 := HMAX.out.1; rw [← this] at h2; simp only [List.length_append, bytesL_len] at h2; omega
            have HX1 : Hid _ := hx1
            have HKK : Hid _ := hk1
            clear hk1 hx1
            go_wp2_with (go_at_call 44; refine (len_ok HB.out.1).mono ?_; rintro e w' ⟨rfl, h'⟩; replace h' := h'.symm; subst h')
            go_region_with (first | (go_at_call 45; refine (wstr_ok (HB.out.1.move (pw_below_drewN (Below.refl _ _) _)) x.f1 (by have := HT.out.1; have := HX1.out; omega)).mono ?_; rintro e Wc ⟨rfl, vc, hwc, hfc⟩; have HWC : Hid _ := hwc; clear hwc hfc))
            all_goals go_wp2
            all_goals (refine ⟨⟨k + 1, by have := HLT.out; omega, by simp, ⟨_, _, _, _, _, HWC.out, ?_, ?_⟩⟩, by simp only [intOf]; have := HLT.out; omega⟩)
            all_goals (first | (show _ ++ wL false _ = OUT; rw [← HOUT.out, wW_1 HKK.out]; simp only [List.append_assoc, List.cons_append, List.nil_append]) | (show _ ++ tL _ = LOUT; rw [← HLOUT.out, tW_0 (.inl HKK.out)]; simp only [List.append_assoc, List.cons_append, List.nil_append]))
          · skip
            have f1 : (x.f0 == 1) = false := beq_eq_false_iff_ne.2 (by omega)
            have f2 : (x.f0 == 2) = true := beq_iff_eq.2 (by omega)
            have hx1 : (Ext.quoteBA x.f1).size ≤ 4096 := by have := HOUT.out; rw [wW_2 hk2] at this; have h2 := HMAX.out.1; rw [← this] at h2; simp only [List.length_append, bytesL_len] at h2; omega
            have hx2 : x.f1.size ≤ 4096 := by have := quote_less x.f1; omega
            have HX1 : Hid _ := And.intro hx1 hx2
            have HKK : Hid _ := hk2
            have hba9 : ∀ n, WrI w0 (wc.drewN n) p o1 ls _ _ _ := fun n => HB.out.1.move (pw_below_drewN (Below.refl _ _) n)
            have HBA : Hid _ := hba9
            clear hk2 hx1 hx2 hba9
            go_wp2_with (go_at_call 44; refine (len_ok HB.out.1).mono ?_; rintro e w' ⟨rfl, h'⟩; replace h' := h'.symm; subst h')
            go_region_with (first
              | (go_at_call 34; refine (Ext.quote_any x.f1 _ (by have := HX1.out.2; omega)).mono ?_; rintro e Wi ⟨rfl, hbi⟩; have HBI : Hid _ := (HBA.out _).move hbi; clear hbi)
              | (go_at_call 45; refine (wstr_ok HBI.out (Ext.quoteBA x.f1) (by have := HT.out.1; have := HX1.out.1; omega)).mono ?_; rintro e Wc ⟨rfl, vc, hwc, hfc⟩; have HWC : Hid _ := hwc; clear hwc hfc))
            all_goals go_wp2
            all_goals (refine ⟨⟨k + 1, by have := HLT.out; omega, by simp, ⟨_, _, _, _, _, HWC.out, ?_, ?_⟩⟩, by simp only [intOf]; have := HLT.out; omega⟩)
            all_goals (first | (show _ ++ wL false _ = OUT; rw [← HOUT.out, wW_2 HKK.out]; simp only [List.append_assoc, List.cons_append, List.nil_append]) | (show _ ++ tL _ = LOUT; rw [← HLOUT.out, tW_0 (.inr HKK.out)]; simp only [List.append_assoc, List.cons_append, List.nil_append]))
          · skip
            have f1 : (x.f0 == 1) = false := beq_eq_false_iff_ne.2 (by omega)
            have f2 : (x.f0 == 2) = false := beq_eq_false_iff_ne.2 (by omega)
            have f3 : (x.f0 == 3) = true := beq_iff_eq.2 (by omega)
            have HX3 : Hid _ := hx3
            have HKK : Hid _ := hk3
            clear hx3
            have hba9 : ∀ n, WrI w0 (wc.drewN n) p o1 ls _ _ _ := fun n => HB.out.1.move (pw_below_drewN (Below.refl _ _) n)
            have hwp9 : ∀ n, Ext.WP (wc.drewN n) := fun n => HWP.out.below (hba9 n).bel
            have HBA : Hid _ := hba9
            have HQNE : Hid (q ≠ p ∧ some q ≠ vb.ownBlock) := ⟨by rintro rfl; have := HB.out.1.top; rw [HB.out.2] at this; simp at this, fun e => by obtain ⟨cs, hcs⟩ := own_typed HB.out.1.buf q e.symm; rw [HB.out.2] at hcs; simp at hcs⟩
            have HWP9 : Hid _ := hwp9
            have hz0 : (-9223372036854775808 : Int) ≤ (x.f1.size : Int) := by omega
            have hz1 : (x.f1.size : Int) ≤ 9223372036854775807 := by have := HX3.out; omega
            have hit := fun W hw => Ext.itoa_any (x.f1.size : Int) W hz0 hz1 hw
            have hsz := itoaBA_le x.f1.size HX3.out
            obtain ⟨sn, hsn⟩ : ∃ sn, Ext.itoaBA (x.f1.size : Int) = sn := ⟨_, rfl⟩
            rw [hsn] at hit hsz
            have HSN : Hid _ := hsn
            have HIT : Hid _ := hit
            have hA1 : (9223372036854775807 < 1 + sn.size) = False := eq_false (by omega)
            have hB1 : (9223372036854775807 < 1 + sn.size + 1) = False := eq_false (by omega)
            have hs9 : o1.length + (((⟨#[123]⟩ : ByteArray) ++ sn) ++ (⟨#[125]⟩ : ByteArray)).size ≤ 1000000000 := by rw [← hsn, ann_size]; have := itoa_le x.f1.size HX3.out; have := HT.out.1; omega
            have HS9 : Hid _ := hs9
            clear hit hsz hsn hs9
            clear hk3 hba9 hwp9 hz0 hz1
            go_wp2_with (go_at_call 44; refine (len_ok HB.out.1).mono ?_; rintro e w' ⟨rfl, h'⟩; replace h' := h'.symm; subst h')
            go_region_with (first
              | (go_at_call 35; refine (HIT.out _ (HWP9.out _)).mono ?_; rintro e Wi ⟨rfl, hbi⟩; have HBI : Hid _ := And.intro ((HBA.out _).move hbi) hbi; clear hbi)
              | (go_at_call 45; refine (wstr_ok HBI.out.1 (((⟨#[123]⟩ : ByteArray) ++ sn) ++ (⟨#[125]⟩ : ByteArray)) HS9.out).mono ?_; rintro e Wc ⟨rfl, vc, hwc, hfc⟩; have HWC : Hid _ := And.intro hwc hfc; clear hwc hfc))
            all_goals (have hw9 := HWC.out.1)
            all_goals rw [sv_len] at hw9
            all_goals (obtain ⟨g0, g1, g2, gz⟩ := hw9.cells)
            all_goals (have hqne := HQNE.out)
            all_goals (have gq := (HWC.out.2.2 q (by have := HBI.out.2.size; have := blk_lt HB.out.2; exact Nat.lt_of_lt_of_le this HBI.out.2.size) hqne.1 hqne.2).trans ((HBI.out.2.block q (blk_lt HB.out.2)).trans HB.out.2))
            all_goals (have gq1 := blk_cell gq 1)
            all_goals simp only [List.getElem?_toArray, List.getElem?_cons_zero, List.getElem?_cons_succ] at gq1
            all_goals (have hlit := hw9.lit)
            all_goals rw [sv_len] at hlit
            all_goals (have HPQ : Hid _ := And.intro (blk_lt hw9.top) (blk_lt gq))
            all_goals (have hal1 : ∀ (o : Obj) (j : Nat), (Wc.alloc o).cell? ⟨p, j, none⟩ = Wc.cell? ⟨p, j, none⟩ := fun o j => World.cell?_alloc_past _ _ _ HPQ.out.1)
            all_goals (have hal2 : ∀ (o : Obj) (j : Nat), (Wc.alloc o).cell? ⟨q, j, none⟩ = Wc.cell? ⟨q, j, none⟩ := fun o j => World.cell?_alloc_past _ _ _ HPQ.out.2)
            all_goals (obtain ⟨i0, hj0, hz0, hz1, hz2⟩ := info_parts info9)
            all_goals (have HBASE : Hid _ := hw9.base)
            all_goals (have HNU : Hid _ := hw9.nu)
            all_goals (have gz2 := gz 2)
            all_goals (have HW9 : Hid _ := hw9)
            all_goals clear gq y0 y1 y2 yz b0 b1 hA1 hB1 hqne gz hw9
            all_goals go_wp2
            all_goals go_region_law (first
              | (refine step_append_lies _ rfl (.tmp 78) (.tmp 81) 22 rfl w0.heap.size 9 i0 _ 1 16 Tryd.underlying22 hj0 hz0 hz1 hz2 rfl (by decide) (.slice Au ls.length ku) _ _ rfl (hlit.alloc (Obj.cells #[.string x.f1] 9)) ⟨Wc.heap.size, 0, none⟩ 1 1 [.string x.f1] rfl rfl (newsS Wc x.f1) (by intro u hu; simp at hu; rw [hu]; rfl) (by decide) (by have := HT.out.2; unfold maxLen; omega) (by have := HT.out.2; omega) (by have := HBASE.out; show w0.heap.size ≤ (World.alloc _ _).heap.size; simp; omega) _ rfl ?_
                 intro gn cn w6 hown6 hg6 hat6 hlt6
                 have k2 := cell_row6 (w := (Wc.alloc (Obj.cells #[.string x.f1] 9)).drew) hg6 HNU.out (by show p < (Wc.alloc _).heap.size; have := HPQ.out.1; simp; omega) ((hal1 _ 2).trans g2)
                 have kz := froz_row6 (w := (Wc.alloc (Obj.cells #[.string x.f1] 9)).drew) (g := p) (i := 2) hg6 HNU.out (by show p < (Wc.alloc _).heap.size; have := HPQ.out.1; simp; omega) (froz_alloc HPQ.out.1 gz2)
                 have HPL : Hid _ := lit_end HW9.out hown6 hg6))
            all_goals go_wp2
            all_goals (refine ⟨⟨k + 1, by have := HLT.out; omega, by simp, ⟨_, _, _, _, _, HPL.out, ?_, ?_⟩⟩, by simp only [intOf]; have := HLT.out; omega⟩)
            all_goals (first | (show _ ++ wL false _ = OUT; rw [← HOUT.out, wW_3 HKK.out, show annL x.f1 = bytesL (((⟨#[123]⟩ : ByteArray) ++ sn) ++ (⟨#[125]⟩ : ByteArray)) by rw [← HSN.out, ann_bytes]; rfl]; simp only [List.append_assoc, List.cons_append, List.nil_append]) | (show _ ++ tL _ = LOUT; rw [← HLOUT.out, tW_3 HKK.out]; simp only [List.append_assoc, List.cons_append, List.nil_append]))
          · have HMM : Hid _ := And.intro (show mm < m by omega) (And.intro (show mm + (d + 1) = 12 by have := HD.out; omega) hvd)
            clear hmm hvd
            rcases hk45 with hk4 | hk5
            · skip
              have f1 : (x.f0 == 1) = false := beq_eq_false_iff_ne.2 (by omega)
              have f2 : (x.f0 == 2) = false := beq_eq_false_iff_ne.2 (by omega)
              have f3 : (x.f0 == 3) = false := beq_eq_false_iff_ne.2 (by omega)
              have f4 : (x.f0 == 4) = true := beq_iff_eq.2 (by omega)
              have hin : (wL true x.f2).length + o1.length + 2 ≤ 4096 := by have := HOUT.out; rw [wW_4 hk4] at this; have h2 := HMAX.out.1; rw [← this] at h2; simp only [List.length_append, List.length_cons, List.length_nil] at h2; omega
              have hin2 : ls.length + (tL x.f2).length ≤ 512 := by have := HLOUT.out; rw [tW_4 (by omega)] at this; have h2 := HMAX.out.2; rw [← this] at h2; simp only [List.length_append] at h2; omega
              have HKK : Hid _ := hk4
              have HQNE : Hid (q ≠ p ∧ some q ≠ vb.ownBlock) := ⟨by rintro rfl; have := HB.out.1.top; rw [HB.out.2] at this; simp at this, fun e => by obtain ⟨cs, hcs⟩ := own_typed HB.out.1.buf q e.symm; rw [HB.out.2] at hcs; simp at hcs⟩
              have hih2 : ∀ (A' : Option Addr) (cA' : Nat) (w' : World) (o0' : List UInt8) (ls0' : List ByteArray) (pv' v' u' : Value), WrI w0 w' p o0' ls0' pv' v' u' → Kd.C k43 w0 A' x.f2.length x.f2 → x.f2.length ≤ cA' → o0'.length + (wL true x.f2).length ≤ 4096 → ls0'.length + (tL x.f2).length ≤ 512 →
                  Calls Tryd.prog 26 #[.pointer (some ⟨p, 0, none⟩), .slice A' x.f2.length cA', .int .i64 ((d : Int) + 1)] w' (WPo w0 p (some (o0' ++ wL true x.f2, ls0' ++ tL x.f2))) := by
                intro A' cA' w' o0' ls0' pv' v' u' h1 h2 h3 h4 h5
                have h := HIH.out mm HMM.out.1 (d + 1) HMM.out.2.1 x.f2 h1 h2 h3 HMM.out.2.2 h4 h5 HWP.out
                rwa [show ((d + 1 : Nat) : Int) = (d : Int) + 1 by omega] at h
              obtain ⟨OO, hoo⟩ : ∃ OO, wL true x.f2 = OO := ⟨_, rfl⟩
              obtain ⟨TT, htt⟩ : ∃ TT, tL x.f2 = TT := ⟨_, rfl⟩
              rw [hoo, htt] at hih2
              rw [hoo] at hin
              rw [htt] at hin2
              have HIN : Hid _ := And.intro hin hin2
              have HIH2 : Hid _ := And.intro hih2 (And.intro hoo htt)
              clear hk4 hin hin2 hih2 hoo htt
              have htok : True := trivial
              go_wp2_with (first
                | (go_at_call 44; refine (len_ok HB.out.1).mono ?_; rintro e w' ⟨rfl, h'⟩; replace h' := h'.symm; subst h')
                | (go_at_call 43; clear htok; refine (wbyte_z HB.out.1 40 40 rfl (by have := HT.out.1; omega)).mono ?_; rintro e Wc ⟨rfl, vc, hwc, hfc⟩
                   have gq := (hfc.2 q (blk_lt HB.out.2) HQNE.out.1 HQNE.out.2).trans HB.out.2
                   have gq2 := blk_cell gq 2
                   simp only [List.getElem?_toArray, List.getElem?_cons_zero, List.getElem?_cons_succ] at gq2
                   have HWC : Hid _ := hwc
                   clear hwc hfc gq)
                | (go_at_call 26; refine (HIH2.out.1 _ _ _ _ _ _ _ _ HWC.out HKID.out.1 HKID.out.2 (by rw [List.length_append]; have := HIN.out.1; simp only [List.length_cons, List.length_nil]; omega) HIN.out.2).mono ?_; rintro e Wd ⟨rfl, pvd, vd, ud, hwd⟩
                   have HWD : Hid _ := hwd
                   clear hwd)
                | (go_at_call 43; refine (wbyte_z HWD.out 41 41 rfl (by have := HIN.out.1; simp only [List.length_append, List.length_cons, List.length_nil]; omega)).mono ?_; rintro e We ⟨rfl, ve, hwe, hfe⟩
                   have HWE : Hid _ := hwe
                   clear hwe hfe)
                | fail)
              all_goals (refine ⟨⟨k + 1, by have := HLT.out; omega, by simp, ⟨_, _, _, _, _, HWE.out, ?_, ?_⟩⟩, by simp only [intOf]; have := HLT.out; omega⟩)
              all_goals (first | (show _ ++ wL false _ = OUT; rw [← HOUT.out, wW_4 HKK.out, HIH2.out.2.1]; simp only [List.append_assoc, List.cons_append, List.nil_append]) | (show _ ++ tL _ = LOUT; rw [← HLOUT.out, tW_4 (by have := HKK.out; omega), HIH2.out.2.2]; simp only [List.append_assoc, List.cons_append, List.nil_append]))
            · skip
              have f1 : (x.f0 == 1) = false := beq_eq_false_iff_ne.2 (by omega)
              have f2 : (x.f0 == 2) = false := beq_eq_false_iff_ne.2 (by omega)
              have f3 : (x.f0 == 3) = false := beq_eq_false_iff_ne.2 (by omega)
              have f4 : (x.f0 == 4) = false := beq_eq_false_iff_ne.2 (by omega)
              have f5 : (x.f0 == 5) = true := beq_iff_eq.2 (by omega)
              have hin : (wL true x.f2).length + o1.length + 2 ≤ 4096 := by have := HOUT.out; rw [wW_5 hk5] at this; have h2 := HMAX.out.1; rw [← this] at h2; simp only [List.length_append, List.length_cons, List.length_nil] at h2; omega
              have hin2 : ls.length + (tL x.f2).length ≤ 512 := by have := HLOUT.out; rw [tW_4 (by omega)] at this; have h2 := HMAX.out.2; rw [← this] at h2; simp only [List.length_append] at h2; omega
              have HKK : Hid _ := hk5
              have HQNE : Hid (q ≠ p ∧ some q ≠ vb.ownBlock) := ⟨by rintro rfl; have := HB.out.1.top; rw [HB.out.2] at this; simp at this, fun e => by obtain ⟨cs, hcs⟩ := own_typed HB.out.1.buf q e.symm; rw [HB.out.2] at hcs; simp at hcs⟩
              have hih2 : ∀ (A' : Option Addr) (cA' : Nat) (w' : World) (o0' : List UInt8) (ls0' : List ByteArray) (pv' v' u' : Value), WrI w0 w' p o0' ls0' pv' v' u' → Kd.C k43 w0 A' x.f2.length x.f2 → x.f2.length ≤ cA' → o0'.length + (wL true x.f2).length ≤ 4096 → ls0'.length + (tL x.f2).length ≤ 512 →
                  Calls Tryd.prog 26 #[.pointer (some ⟨p, 0, none⟩), .slice A' x.f2.length cA', .int .i64 ((d : Int) + 1)] w' (WPo w0 p (some (o0' ++ wL true x.f2, ls0' ++ tL x.f2))) := by
                intro A' cA' w' o0' ls0' pv' v' u' h1 h2 h3 h4 h5
                have h := HIH.out mm HMM.out.1 (d + 1) HMM.out.2.1 x.f2 h1 h2 h3 HMM.out.2.2 h4 h5 HWP.out
                rwa [show ((d + 1 : Nat) : Int) = (d : Int) + 1 by omega] at h
              obtain ⟨OO, hoo⟩ : ∃ OO, wL true x.f2 = OO := ⟨_, rfl⟩
              obtain ⟨TT, htt⟩ : ∃ TT, tL x.f2 = TT := ⟨_, rfl⟩
              rw [hoo, htt] at hih2
              rw [hoo] at hin
              rw [htt] at hin2
              have HIN : Hid _ := And.intro hin hin2
              have HIH2 : Hid _ := And.intro hih2 (And.intro hoo htt)
              clear hk5 hin hin2 hih2 hoo htt
              have htok : True := trivial
              go_wp2_with (first
                | (go_at_call 44; refine (len_ok HB.out.1).mono ?_; rintro e w' ⟨rfl, h'⟩; replace h' := h'.symm; subst h')
                | (go_at_call 43; clear htok; refine (wbyte_z HB.out.1 91 91 rfl (by have := HT.out.1; omega)).mono ?_; rintro e Wc ⟨rfl, vc, hwc, hfc⟩
                   have gq := (hfc.2 q (blk_lt HB.out.2) HQNE.out.1 HQNE.out.2).trans HB.out.2
                   have gq2 := blk_cell gq 2
                   simp only [List.getElem?_toArray, List.getElem?_cons_zero, List.getElem?_cons_succ] at gq2
                   have HWC : Hid _ := hwc
                   clear hwc hfc gq)
                | (go_at_call 26; refine (HIH2.out.1 _ _ _ _ _ _ _ _ HWC.out HKID.out.1 HKID.out.2 (by rw [List.length_append]; have := HIN.out.1; simp only [List.length_cons, List.length_nil]; omega) HIN.out.2).mono ?_; rintro e Wd ⟨rfl, pvd, vd, ud, hwd⟩
                   have HWD : Hid _ := hwd
                   clear hwd)
                | (go_at_call 43; refine (wbyte_z HWD.out 93 93 rfl (by have := HIN.out.1; simp only [List.length_append, List.length_cons, List.length_nil]; omega)).mono ?_; rintro e We ⟨rfl, ve, hwe, hfe⟩
                   have HWE : Hid _ := hwe
                   clear hwe hfe)
                | fail)
              all_goals (refine ⟨⟨k + 1, by have := HLT.out; omega, by simp, ⟨_, _, _, _, _, HWE.out, ?_, ?_⟩⟩, by simp only [intOf]; have := HLT.out; omega⟩)
              all_goals (first | (show _ ++ wL false _ = OUT; rw [← HOUT.out, wW_5 HKK.out, HIH2.out.2.1]; simp only [List.append_assoc, List.cons_append, List.nil_append]) | (show _ ++ tL _ = LOUT; rw [← HLOUT.out, tW_4 (by have := HKK.out; omega), HIH2.out.2.2]; simp only [List.append_assoc, List.cons_append, List.nil_append]))
    · obtain ⟨o, ls, pv7, v7, u7, hw, hout, hlout⟩ := HH.out
      have hkk : k = l.length := by omega
      rw [hkk, List.drop_length] at hout hlout
      rw [wL_nil, List.append_nil] at hout
      rw [tL_nil, List.append_nil] at hlout
      have HFIN : Hid _ := And.intro hw (And.intro hout hlout)
      have hltf : decide ((k : Int) < (l.length : Int)) = false := decide_eq_false (by omega)
      have hge : (l.length : Int) ≤ (k : Int) := by omega
      clear hw hout hlout hkk
      go_wp2
      go_ret
      rw [← HFIN.out.2.1, ← HFIN.out.2.2]
      exact WPo.yes HFIN.out.1
end Go.Proofs.YtbgcapgjnflmoaaDoor.Sc
