/- Contracts of the functions that the statement reaches, and plain lemmas: ScRwB, ScRwE. -/
import Derived.Test.YtbgcapgjnflmoaaDoorMg24
set_option linter.unusedVariables false
set_option linter.unusedSimpArgs false
set_option linter.unnecessarySimpa false
/- The document's word: in quotes. -/
namespace Go.Proofs.YtbgcapgjnflmoaaDoor.Sc
open Go.RowKit Go.Proofs.YtbgcapgjnflmoaaDoorW.PrintWords Go.Proofs.YtbgcapgjnflmoaaDoorW.PrintMore Go.Proofs.YtbgcapgjnflmoaaDoor.PLx
variable {w0 w w1 : World} {line : ByteArray}
set_option maxRecDepth 100000 in
set_option maxHeartbeats 4000000 in
theorem wordR_quote {m : Nat} {A : Option Addr} {cA : Nat} {lits : List ByteArray} (IH : WordsIH line A cA lits m) (hC : Kd.string.C w A lits.length lits) (hcA : lits.length ≤ cA) (hll : lits.length ≤ 512) (hline : line.size ≤ 4096) (k lit ct depth : Nat)
    (hk : k < line.size) (hlit : lit ≤ lits.length) (hct : ct ≤ 512) (hdep : depth ≤ 12) (hm : line.size - (k + 1) < m) {c : UInt8} {r : List UInt8} (hcr : (bytesL line).drop k = c :: r) (hx9 : c = 34) :
    Calls Tryd.prog 37 #[.agg (cu line (.slice A lits.length cA) k lit ct), .int .i64 (depth : Int)] w
      (RWd w line (.slice A lits.length cA) lits k (word (fun d e t ms q => words m d e false [] t ms q) depth ct (lits.drop lit) c r)) := by
  obtain ⟨R, hR⟩ : ∃ R, word (fun d e t ms q => words m d e false [] t ms q) depth ct (lits.drop lit) c r = R := ⟨_, rfl⟩
  rw [hR]
  have hd := drop_at line k hk
  rw [hcr] at hd
  have hb : line[k] = c := by injection hd with h1 h2; exact h1.symm
  have hr : r = (bytesL line).drop (k + 1) := by injection hd with h1 h2
  obtain ⟨n, p, z, is, hto⟩ : ∃ n p z is, toldR line.size (ann (c :: r)) = (n, p, z, is) := ⟨_, _, _, _, rfl⟩
  have HANN : Hid _ := fun W => ann_ok hline k hk hcr hto W
  obtain ⟨ci, hci⟩ : ∃ ci : Int, (c.toNat : Int) = ci := ⟨_, rfl⟩
  have hix : ∀ h : k < line.size, ((line[k]'h).toNat : Int) = ci := fun h => by rw [hb]; exact hci
  have hcr0 : (0 : Int) ≤ ci := by omega
  have hcr1 : ci < 256 := by have := c.toNat_lt; omega
  have hk0 : (0 : Int) ≤ (k : Int) := by omega
  have hk1 : (k : Int) < (line.size : Int) := by omega
  have hk2 : (k : Int) ≤ 4096 := by omega
  have hc9 : (ct : Int) ≤ 512 := by omega
  have hc8 : (0 : Int) ≤ (ct : Int) := by omega
  have hll9 : (lits.length : Int) ≤ 512 := by omega
  have hdep9 : (depth : Int) ≤ 12 := by omega
  have HAT : Hid _ := fun W => atomByte_ok c W
  rw [hci] at HAT
  subst hx9
  obtain rfl : ci = 34 := by rw [← hci]; rfl
  have hgw : gword 34 = false := by decide
  have hann : ann (34 :: r) = none := qd34 rfl
  have hst : starts 34 r = true := by unfold starts; simp
  obtain ⟨rfl, rfl, rfl, rfl⟩ : n = 0 ∧ p = false ∧ z = 0 ∧ is = false := by rw [hann] at hto; simpa [toldR, eq_comm] using hto
  rw [hgw] at HAT
  have hrl : r.length = line.size - (k + 1) := by rw [hr, List.length_drop, bytesL_len]
  have HST : Hid _ := hst
  have HRL : Hid _ := hrl
  clear hgw hann hst hrl
  have HC : Hid _ := And.intro hC hcA
  have HR : Hid _ := And.intro hR hr
  have HK : Hid _ := And.intro hk (And.intro hlit (And.intro hct (And.intro hdep (And.intro hll hm))))
  have HL : Hid _ := hline
  obtain ⟨W0, hW0⟩ : ∃ W0, ((w.alloc (Obj.cells (cu line (.slice A lits.length cA) k lit ct) 50)).alloc (Obj.cells #[.int .i64 0, .string ⟨#[]⟩, .slice none 0 0, .bool false] 43)).alloc (Obj.cells #[.string ⟨#[]⟩, .slice none 0 0, .int .i64 0, .int .i64 0, .int .i64 0] 50) = W0 := ⟨_, rfl⟩
  have hi : Cu w W0 w.heap.size line (.slice A lits.length cA) k lit ct := by rw [← hW0]; exact Cu.start w line (.slice A lits.length cA) k lit ct
  have HI : Hid _ := hi
  clear hi
  obtain ⟨d0, d1, d2, d3, d4, dz⟩ := HI.out.cells
  have HIH : Hid _ := IH
  have HCI : Hid _ := hci
  have HTO : Hid _ := And.intro hto hcr

  clear hC hcA hR hr hk hlit hct hdep hll hm hline IH hci hto hb hd hcr
  go_enter Tryd.func37, Tryd.ntmps37
  go_wp2_with fail
  refine (HANN.out _).mono ?_
  rintro e w2 ⟨rfl, hb2⟩
  have H2 : Hid _ := HI.out.below hb2
  clear hb2 d0 d1 d2 d3 d4 dz hW0
  obtain ⟨d0, d1, d2, d3, d4, dz⟩ := H2.out.cells
  go_wp2_with fail
  refine (HAT.out _).mono ?_
  rintro e w3 ⟨rfl, hb3⟩
  have H3 : Hid _ := H2.out.below hb3
  clear hb3 d0 d1 d2 d3 d4 dz
  obtain ⟨d0, d1, d2, d3, d4, dz⟩ := H3.out.cells
  obtain ⟨e0, e1, e2, e3, ez⟩ := H3.out.res1
  obtain ⟨f0, f1, f2, f3, f4, fz⟩ := H3.out.res2
  obtain ⟨W4, hW4⟩ : ∃ W4, w3.setCell ⟨w.heap.size, 4, none⟩ (.int .i64 ((ct : Int) + 1)) = W4 := ⟨_, rfl⟩
  have h4 := H3.out.setCt ((ct : Int) + 1)
  rw [hW4] at h4
  have H4 : Hid _ := h4
  clear h4
  obtain ⟨m0, m1, m2, m3, m4, mz⟩ := H4.out.cells
  obtain ⟨n0, n1, n2, n3, nz⟩ := H4.out.res1
  obtain ⟨o0, o1, o2, o3, o4, oz⟩ := H4.out.res2
  by_cases hov : 512 < ct + 1
  · have hovb : decide ((512 : Int) < (ct : Int) + 1) = true := decide_eq_true (by omega)
    have hres : R = .error 34 := by
      rw [← HR.out.1]; unfold word
      rw [if_neg (by rw [HST.out]; decide), if_neg (by omega)]
    have HRES : Hid _ := hres
    clear hres hov
    go_wp2
    go_region_with (fail)
    all_goals go_wp2
    all_goals (have hL := (H4.out).leave (.int .i64 0) (.string ⟨#[]⟩) (.slice none 0 0) (.bool false) (.string line) (.slice A lits.length cA) (.int .i64 k) (.int .i64 lit) (.int .i64 ((ct : Int) + 1)))
    all_goals (obtain ⟨W9, hW9⟩ : ∃ W9, put9 (W4) w.heap.size (.int .i64 0) (.string ⟨#[]⟩) (.slice none 0 0) (.bool false) (.string line) (.slice A lits.length cA) (.int .i64 k) (.int .i64 lit) (.int .i64 ((ct : Int) + 1)) = W9 := ⟨_, rfl⟩)
    all_goals (rw [hW9] at hL; unfold put9 at hW9; rw [hW9]; clear hW9)
    all_goals (refine bodyPost_ret (ret_cct rfl _ _ (w.heap.size + 1) (w.heap.size + 1 + 1) _ _ rfl hL.2.1 rfl rfl hL.2.2 rfl) rfl ?_)
    all_goals (rw [HRES.out]; exact RWd.err (by decide) (by first | exact below_drew hL.1 | exact hL.1) _ _ _ _ _ _ _ _)
  have hovb : decide ((512 : Int) < (ct : Int) + 1) = false := decide_eq_false (by omega)
  have hle : (ct : Int) + 1 ≤ 512 := by omega
  have HOV : Hid (ct + 1 ≤ 512) := (by omega : ct + 1 ≤ 512)
  clear hov
  obtain ⟨W5, hW5⟩ : ∃ W5, W4.setCell ⟨w.heap.size, 2, none⟩ (.int .i64 ((k : Int) + 1)) = W5 := ⟨_, rfl⟩
  have h5 : Cu w W5 w.heap.size line (.slice A lits.length cA) ((k : Int) + 1) lit ((ct : Int) + 1) := by rw [← hW5]; exact H4.out.setPos _
  have H5 : Hid _ := h5
  clear h5
  obtain ⟨s0, s1, s2, s3, s4, sz⟩ := H5.out.cells
  have hq := quotedR_ok (w := W5) HL.out A lits.length cA (k + 1) (by have := HK.out.1; omega) lit ((ct : Int) + 1) depth (by have := HK.out.2.2.2.1; omega)
  unfold cu at hq
  rw [show ((k + 1 : Nat) : Int) = (k : Int) + 1 by omega] at hq
  cases hRq : qd (if depth = 0 then 31 else 33) ((bytesL line).drop (k + 1)) [] with
  | error x =>
    rw [hRq] at hq
    have HQ : Hid _ := hq
    have hres : R = .error x := by
      rw [← HR.out.1]; unfold word
      rw [if_neg (by rw [HST.out]; decide), if_pos HOV.out, if_pos rfl, HR.out.2, hRq]
    have HRES : Hid _ := hres
    have hx9 : x ≠ 0 := by
      rcases qd_err hRq with e | e
      · rw [e]; split <;> decide
      · rw [e]; decide
    have HX9 : Hid _ := hx9
    clear hres hRq hq hx9
    go_wp2_with (first
      | (go_at_call 52; refine Calls.mono HQ.out ?_; rintro e w6 ⟨hb6, k6, rfl⟩
         have H6 : Hid _ := H5.out.below hb6
         obtain ⟨n0, n1, n2, n3, nz⟩ := H6.out.res1
         obtain ⟨o0, o1, o2, o3, o4, oz⟩ := H6.out.res2
         unfold wz cu
         clear hb6)
      | fail)
    all_goals go_wp2
    all_goals (have hL := (H6.out).leave (.int .i64 0) (.string ⟨#[]⟩) (.slice none 0 0) (.bool false) (.string line) (.slice A lits.length cA) (.int .i64 k6) (.int .i64 lit) (.int .i64 ((ct : Int) + 1)))
    all_goals (obtain ⟨W9, hW9⟩ : ∃ W9, put9 (w6) w.heap.size (.int .i64 0) (.string ⟨#[]⟩) (.slice none 0 0) (.bool false) (.string line) (.slice A lits.length cA) (.int .i64 k6) (.int .i64 lit) (.int .i64 ((ct : Int) + 1)) = W9 := ⟨_, rfl⟩)
    all_goals (rw [hW9] at hL; unfold put9 at hW9; rw [hW9]; clear hW9)
    all_goals (refine bodyPost_ret (ret_cct rfl _ _ (w.heap.size + 1) (w.heap.size + 1 + 1) _ _ rfl hL.2.1 rfl rfl hL.2.2 rfl) rfl ?_)
    all_goals (rw [HRES.out]; exact RWd.err HX9.out (by first | exact below_drew hL.1 | exact hL.1) _ _ _ _ _ _ _ _)
  | ok v =>
    obtain ⟨t, q⟩ := v
    rw [hRq] at hq
    have HQ : Hid _ := hq
    have hres : R = .ok (⟨2, ofB t, [], false⟩, ct + 1, lits.drop lit, q) := by
      rw [← HR.out.1]; unfold word
      rw [if_neg (by rw [HST.out]; decide), if_pos HOV.out, if_pos rfl, HR.out.2, hRq]
    have HRES : Hid _ := hres
    have hsuf := suf_drop (k0 := k + 1) (qd_suf hRq)
    have hql : q.length ≤ r.length := by rw [HR.out.2]; exact (qd_suf hRq).length_le
    have HSF : Hid _ := And.intro hsuf hql
    clear hres hRq hq hsuf hql
    go_wp2_with (first
      | (go_at_call 52; refine Calls.mono HQ.out ?_; rintro e w6 ⟨hb6, rfl⟩
         have H6 : Hid _ := H5.out.below hb6
         obtain ⟨n0, n1, n2, n3, nz⟩ := H6.out.res1
         obtain ⟨o0, o1, o2, o3, o4, oz⟩ := H6.out.res2
         unfold cu
         clear hb6)
      | fail)
    all_goals go_wp2
    all_goals (have hL := (H6.out).leave (.int .i64 2) (.string (ofB t)) (.slice none 0 0) (.bool false) (.string line) (.slice A lits.length cA) (.int .i64 ((line.size - q.length : Nat) : Int)) (.int .i64 lit) (.int .i64 ((ct : Int) + 1)))
    all_goals (obtain ⟨W9, hW9⟩ : ∃ W9, put9 (w6) w.heap.size (.int .i64 2) (.string (ofB t)) (.slice none 0 0) (.bool false) (.string line) (.slice A lits.length cA) (.int .i64 ((line.size - q.length : Nat) : Int)) (.int .i64 lit) (.int .i64 ((ct : Int) + 1)) = W9 := ⟨_, rfl⟩)
    all_goals (rw [hW9] at hL; unfold put9 at hW9; rw [hW9]; clear hW9)
    all_goals (refine bodyPost_ret (ret_cct rfl _ _ (w.heap.size + 1) (w.heap.size + 1 + 1) _ _ rfl hL.2.1 rfl rfl hL.2.2 rfl) rfl ?_)
    all_goals rw [HRES.out]
    all_goals (have hd2 := HSF.out)
    all_goals (have hk9 := HK.out.1)
    all_goals (have hk8 := HRL.out)
    all_goals exact RWd.fine (by first | exact below_drew hL.1 | exact hL.1) (Kd.R_nil _ _ _ _ _) rfl HK.out.2.1 (by omega) (by omega) hd2.1 HOV.out rfl rfl rfl rfl (by omega)
end Go.Proofs.YtbgcapgjnflmoaaDoor.Sc

/- The document's word: a literal. -/
namespace Go.Proofs.YtbgcapgjnflmoaaDoor.Sc
open Go.RowKit Go.Proofs.YtbgcapgjnflmoaaDoorW.PrintWords Go.Proofs.YtbgcapgjnflmoaaDoorW.PrintMore Go.Proofs.YtbgcapgjnflmoaaDoor.PLx
variable {w0 w w1 : World} {line : ByteArray}
set_option maxRecDepth 100000 in
set_option maxHeartbeats 4000000 in
theorem wordR_lit {m : Nat} {A : Option Addr} {cA : Nat} {lits : List ByteArray} (IH : WordsIH line A cA lits m) (hC : Kd.string.C w A lits.length lits) (hcA : lits.length ≤ cA) (hll : lits.length ≤ 512) (hline : line.size ≤ 4096) (k lit ct depth : Nat)
    (hk : k < line.size) (hlit : lit ≤ lits.length) (hct : ct ≤ 512) (hdep : depth ≤ 12) (hm : line.size - (k + 1) < m) {c : UInt8} {r : List UInt8} (hcr : (bytesL line).drop k = c :: r) (hx9 : (ann (c :: r)).isSome = true) :
    Calls Tryd.prog 37 #[.agg (cu line (.slice A lits.length cA) k lit ct), .int .i64 (depth : Int)] w
      (RWd w line (.slice A lits.length cA) lits k (word (fun d e t ms q => words m d e false [] t ms q) depth ct (lits.drop lit) c r)) := by
  obtain ⟨R, hR⟩ : ∃ R, word (fun d e t ms q => words m d e false [] t ms q) depth ct (lits.drop lit) c r = R := ⟨_, rfl⟩
  rw [hR]
  have hd := drop_at line k hk
  rw [hcr] at hd
  have hb : line[k] = c := by injection hd with h1 h2; exact h1.symm
  have hr : r = (bytesL line).drop (k + 1) := by injection hd with h1 h2
  obtain ⟨n, p, z, is, hto⟩ : ∃ n p z is, toldR line.size (ann (c :: r)) = (n, p, z, is) := ⟨_, _, _, _, rfl⟩
  have HANN : Hid _ := fun W => ann_ok hline k hk hcr hto W
  obtain ⟨ci, hci⟩ : ∃ ci : Int, (c.toNat : Int) = ci := ⟨_, rfl⟩
  have hix : ∀ h : k < line.size, ((line[k]'h).toNat : Int) = ci := fun h => by rw [hb]; exact hci
  have hcr0 : (0 : Int) ≤ ci := by omega
  have hcr1 : ci < 256 := by have := c.toNat_lt; omega
  have hk0 : (0 : Int) ≤ (k : Int) := by omega
  have hk1 : (k : Int) < (line.size : Int) := by omega
  have hk2 : (k : Int) ≤ 4096 := by omega
  have hc9 : (ct : Int) ≤ 512 := by omega
  have hc8 : (0 : Int) ≤ (ct : Int) := by omega
  have hll9 : (lits.length : Int) ≤ 512 := by omega
  have hdep9 : (depth : Int) ≤ 12 := by omega
  have HAT : Hid _ := fun W => atomByte_ok c W
  rw [hci] at HAT
  obtain ⟨⟨nn, pp, q⟩, hann⟩ := Option.isSome_iff_exists.1 hx9
  have hc123 : c = 123 := by
    rcases Decidable.em (c = 123) with h | h
    · exact h
    · rw [show ann (c :: r) = none by simp [ann, h]] at hann; cases hann
  have hst : starts c r = true := by unfold starts; rw [hann]; simp
  subst hc123
  obtain rfl : ci = 123 := by rw [← hci]; rfl
  have hgw : gword 123 = false := by decide
  obtain ⟨rfl, rfl, rfl, rfl⟩ : n = (nn : Int) ∧ p = pp ∧ z = ((line.size - q.length : Nat) : Int) ∧ is = true := by rw [hann] at hto; simpa [toldR, eq_comm] using hto
  rw [hgw] at HAT
  have hsuf : q = (bytesL line).drop (line.size - q.length) := suf_drop (k0 := k) (by rw [hcr]; exact ann_suf hann)
  have hql : q.length ≤ r.length := by have := ann_lt hann; simp only [List.length_cons] at this; omega
  have hrl : r.length = line.size - (k + 1) := by rw [hr, List.length_drop, bytesL_len]
  have HST : Hid _ := hst
  have HAN : Hid _ := And.intro hann (And.intro hsuf (And.intro hql hrl))
  clear hgw hann hst hx9 hsuf hql hrl
  have HC : Hid _ := And.intro hC hcA
  have HR : Hid _ := And.intro hR hr
  have HK : Hid _ := And.intro hk (And.intro hlit (And.intro hct (And.intro hdep (And.intro hll hm))))
  have HL : Hid _ := hline
  obtain ⟨W0, hW0⟩ : ∃ W0, ((w.alloc (Obj.cells (cu line (.slice A lits.length cA) k lit ct) 50)).alloc (Obj.cells #[.int .i64 0, .string ⟨#[]⟩, .slice none 0 0, .bool false] 43)).alloc (Obj.cells #[.string ⟨#[]⟩, .slice none 0 0, .int .i64 0, .int .i64 0, .int .i64 0] 50) = W0 := ⟨_, rfl⟩
  have hi : Cu w W0 w.heap.size line (.slice A lits.length cA) k lit ct := by rw [← hW0]; exact Cu.start w line (.slice A lits.length cA) k lit ct
  have HI : Hid _ := hi
  clear hi
  obtain ⟨d0, d1, d2, d3, d4, dz⟩ := HI.out.cells
  have HIH : Hid _ := IH
  have HCI : Hid _ := hci
  have HTO : Hid _ := And.intro hto hcr

  clear hC hcA hR hr hk hlit hct hdep hll hm hline IH hci hto hb hd hcr
  go_enter Tryd.func37, Tryd.ntmps37
  go_wp2_with fail
  refine (HANN.out _).mono ?_
  rintro e w2 ⟨rfl, hb2⟩
  have H2 : Hid _ := HI.out.below hb2
  clear hb2 d0 d1 d2 d3 d4 dz hW0
  obtain ⟨d0, d1, d2, d3, d4, dz⟩ := H2.out.cells
  go_wp2_with fail
  refine (HAT.out _).mono ?_
  rintro e w3 ⟨rfl, hb3⟩
  have H3 : Hid _ := H2.out.below hb3
  clear hb3 d0 d1 d2 d3 d4 dz
  obtain ⟨d0, d1, d2, d3, d4, dz⟩ := H3.out.cells
  obtain ⟨e0, e1, e2, e3, ez⟩ := H3.out.res1
  obtain ⟨f0, f1, f2, f3, f4, fz⟩ := H3.out.res2
  obtain ⟨W4, hW4⟩ : ∃ W4, w3.setCell ⟨w.heap.size, 4, none⟩ (.int .i64 ((ct : Int) + 1)) = W4 := ⟨_, rfl⟩
  have h4 := H3.out.setCt ((ct : Int) + 1)
  rw [hW4] at h4
  have H4 : Hid _ := h4
  clear h4
  obtain ⟨m0, m1, m2, m3, m4, mz⟩ := H4.out.cells
  obtain ⟨n0, n1, n2, n3, nz⟩ := H4.out.res1
  obtain ⟨o0, o1, o2, o3, o4, oz⟩ := H4.out.res2
  by_cases hov : 512 < ct + 1
  · have hovb : decide ((512 : Int) < (ct : Int) + 1) = true := decide_eq_true (by omega)
    have hres : R = .error 34 := by
      rw [← HR.out.1]; unfold word
      rw [if_neg (by rw [HST.out]; decide), if_neg (by omega)]
    have HRES : Hid _ := hres
    clear hres hov
    go_wp2
    go_region_with (fail)
    all_goals go_wp2
    all_goals (have hL := (H4.out).leave (.int .i64 0) (.string ⟨#[]⟩) (.slice none 0 0) (.bool false) (.string line) (.slice A lits.length cA) (.int .i64 k) (.int .i64 lit) (.int .i64 ((ct : Int) + 1)))
    all_goals (obtain ⟨W9, hW9⟩ : ∃ W9, put9 (W4) w.heap.size (.int .i64 0) (.string ⟨#[]⟩) (.slice none 0 0) (.bool false) (.string line) (.slice A lits.length cA) (.int .i64 k) (.int .i64 lit) (.int .i64 ((ct : Int) + 1)) = W9 := ⟨_, rfl⟩)
    all_goals (rw [hW9] at hL; unfold put9 at hW9; rw [hW9]; clear hW9)
    all_goals (refine bodyPost_ret (ret_cct rfl _ _ (w.heap.size + 1) (w.heap.size + 1 + 1) _ _ rfl hL.2.1 rfl rfl hL.2.2 rfl) rfl ?_)
    all_goals (rw [HRES.out]; exact RWd.err (by decide) (by first | exact below_drew hL.1 | exact hL.1) _ _ _ _ _ _ _ _)
  have hovb : decide ((512 : Int) < (ct : Int) + 1) = false := decide_eq_false (by omega)
  have hle : (ct : Int) + 1 ≤ 512 := by omega
  have HOV : Hid (ct + 1 ≤ 512) := (by omega : ct + 1 ≤ 512)
  clear hov
  go_wp2_with fail
  refine (HANN.out _).mono ?_
  rintro e w5 ⟨rfl, hb5⟩
  have H5 : Hid _ := H4.out.below hb5
  have HC5 : Hid _ := Kd.C_below HC.out.1 H5.out.bel
  clear hb5 hix m0 m1 m2 m3 m4 mz n0 n1 n2 n3 nz o0 o1 o2 o3 o4 oz d0 d1 d2 d3 d4 dz e0 e1 e2 e3 ez f0 f1 f2 f3 f4 fz hW4
  obtain ⟨m0, m1, m2, m3, m4, mz⟩ := H5.out.cells
  obtain ⟨n0, n1, n2, n3, nz⟩ := H5.out.res1
  obtain ⟨o0, o1, o2, o3, o4, oz⟩ := H5.out.res2
  have hl0 : (0 : Int) ≤ (lit : Int) := by omega
  by_cases hle2 : lits.length ≤ lit
  · have hleb : decide ((lits.length : Int) ≤ (lit : Int)) = true := decide_eq_true (by omega)
    have hres : R = .error 32 := by
      rw [← HR.out.1]; unfold word
      rw [if_neg (by rw [HST.out]; decide), if_pos HOV.out, if_neg (by decide), if_neg (by decide), HAN.out.1, List.drop_of_length_le hle2]
    have HRES : Hid _ := hres
    have hge9 : (lits.length : Int) ≤ (lit : Int) := by omega
    clear hres hle2
    go_wp2
    go_region_with (fail)
    all_goals go_wp2
    all_goals (have hL := (H5.out).leave (.int .i64 0) (.string ⟨#[]⟩) (.slice none 0 0) (.bool false) (.string line) (.slice A lits.length cA) (.int .i64 k) (.int .i64 lit) (.int .i64 ((ct : Int) + 1)))
    all_goals (obtain ⟨W9, hW9⟩ : ∃ W9, put9 (w5) w.heap.size (.int .i64 0) (.string ⟨#[]⟩) (.slice none 0 0) (.bool false) (.string line) (.slice A lits.length cA) (.int .i64 k) (.int .i64 lit) (.int .i64 ((ct : Int) + 1)) = W9 := ⟨_, rfl⟩)
    all_goals (rw [hW9] at hL; unfold put9 at hW9; rw [hW9]; clear hW9)
    all_goals (refine bodyPost_ret (ret_cct rfl _ _ (w.heap.size + 1) (w.heap.size + 1 + 1) _ _ rfl hL.2.1 rfl rfl hL.2.2 rfl) rfl ?_)
    all_goals (rw [HRES.out]; exact RWd.err (by decide) (by first | exact below_drew hL.1 | exact hL.1) _ _ _ _ _ _ _ _)
  · have hleb : decide ((lits.length : Int) ≤ (lit : Int)) = false := decide_eq_false (by omega)
    have hlt2 : lit < lits.length := by omega
    have hlt3 : (lit : Int) < (lits.length : Int) := by omega
    obtain ⟨ad, rfl, hcell⟩ := (Kd.reads_of_C (d := ByteArray.empty) HC5.out).2.2 (by omega)
    have hck := hcell lit hlt2
    obtain ⟨x, hx⟩ : ∃ x, lits.getD lit ByteArray.empty = x := ⟨_, rfl⟩
    rw [hx] at hck
    have hdl : lits.drop lit = x :: lits.drop (lit + 1) := by
      rw [List.drop_eq_getElem_cons hlt2, ← hx, List.getD_eq_getElem?_getD, List.getElem?_eq_getElem hlt2]; rfl
    have HDL : Hid _ := And.intro hdl hlt2
    clear hcell hx hdl hle2
    by_cases hxn : x.size = nn
    · have hxb : ((x.size : Int) != (nn : Int)) = false := by simp [hxn]
      have hres : R = .ok (⟨3, x, [], false⟩, ct + 1, lits.drop (lit + 1), q) := by
        rw [← HR.out.1]; unfold word
        rw [if_neg (by rw [HST.out]; decide), if_pos HOV.out, if_neg (by decide), if_neg (by decide), HAN.out.1, HDL.out.1]
        simp only
        rw [if_pos hxn]
      have HRES : Hid _ := hres
      clear hres hxn
      obtain ⟨WZ, hWZ⟩ : ∃ WZ, w5.alloc (Obj.cells #[.int .i64 0, .string ⟨#[]⟩, .slice none 0 0, .bool false] 43) = WZ := ⟨_, rfl⟩
      have hZ : Cu w WZ w.heap.size line (.slice (some ad) lits.length cA) k lit ((ct : Int) + 1) := by rw [← hWZ]; exact H5.out.below (below_alloc (Below.refl _ _) _)
      have hpZ : WZ.heap[w5.heap.size]? = some (.cells #[.int .i64 0, .string ⟨#[]⟩, .slice none 0 0, .bool false] 43 (0, 0)) := by rw [← hWZ]; exact blk_new w5 _
      have xz0 := blk_cell hpZ 0
      have xz1 := blk_cell hpZ 1
      have xz2 := blk_cell hpZ 2
      have xz3 := blk_cell hpZ 3
      simp only [List.getElem?_toArray, List.getElem?_cons_zero, List.getElem?_cons_succ] at xz0 xz1 xz2 xz3
      have xzz : ∀ j, WZ.frozen? ⟨w5.heap.size, j, none⟩ = false := fun j => blk_frozen hpZ j
      obtain ⟨WA, hWA⟩ : ∃ WA, (((WZ.setCell ⟨w5.heap.size, 0, none⟩ (.int .i64 3)).setCell ⟨w5.heap.size, 1, none⟩ (.string x)).setCell ⟨w5.heap.size, 2, none⟩ (.slice none 0 0)).setCell ⟨w5.heap.size, 3, none⟩ (.bool false) = WA := ⟨_, rfl⟩
      have hA : Cu w WA w.heap.size line (.slice (some ad) lits.length cA) k lit ((ct : Int) + 1) := by
        have hg := H5.out.lt
        rw [← hWA]; exact (((hZ.setFar hg 0 _).setFar hg 1 _).setFar hg 2 _).setFar hg 3 _
      have hpA : WA.heap[w5.heap.size]? = some (.cells #[.int .i64 3, .string x, .slice none 0 0, .bool false] 43 (0, 0)) := by
        rw [← hWA]; exact blk_set (blk_set (blk_set (blk_set hpZ 0 _) 1 _) 2 _) 3 _
      obtain ⟨WB, hWB⟩ : ∃ WB, WA.setCell ⟨w.heap.size, 3, none⟩ (.int .i64 ((lit : Int) + 1)) = WB := ⟨_, rfl⟩
      have hB : Cu w WB w.heap.size line (.slice (some ad) lits.length cA) k ((lit : Int) + 1) ((ct : Int) + 1) := by rw [← hWB]; exact hA.setLit _
      have hne : w5.heap.size ≠ w.heap.size := by have := blk_lt H5.out.top; omega
      have hpB : WB.heap[w5.heap.size]? = some (.cells #[.int .i64 3, .string x, .slice none 0 0, .bool false] 43 (0, 0)) := by rw [← hWB]; exact blk_far hpA (p := ⟨w.heap.size, 3, none⟩) hne _
      obtain ⟨WC, hWC⟩ : ∃ WC, WB.setCell ⟨w.heap.size, 2, none⟩ (.int .i64 ((line.size - q.length : Nat) : Int)) = WC := ⟨_, rfl⟩
      have hCC : Cu w WC w.heap.size line (.slice (some ad) lits.length cA) ((line.size - q.length : Nat) : Int) ((lit : Int) + 1) ((ct : Int) + 1) := by rw [← hWC]; exact hB.setPos _
      have hpC : WC.heap[w5.heap.size]? = some (.cells #[.int .i64 3, .string x, .slice none 0 0, .bool false] 43 (0, 0)) := by rw [← hWC]; exact blk_far hpB (p := ⟨w.heap.size, 2, none⟩) hne _
      have HCC : Hid _ := hCC
      have x0 := blk_cell hpC 0
      have x1 := blk_cell hpC 1
      have x2 := blk_cell hpC 2
      have x3 := blk_cell hpC 3
      simp only [List.getElem?_toArray, List.getElem?_cons_zero, List.getElem?_cons_succ] at x0 x1 x2 x3
      obtain ⟨s0, s1, s2, s3, s4, sz⟩ := hA.cells
      obtain ⟨t0, t1, t2, t3, t4, tz⟩ := hB.cells
      obtain ⟨u0, u1, u2, u3, u4, uz⟩ := hCC.cells
      obtain ⟨y0, y1, y2, y3, yz⟩ := hCC.res1
      obtain ⟨z0, z1, z2, z3, z4, zz⟩ := hCC.res2
      clear hZ hpZ hA hB hCC hpA hpB hpC hne n0 n1 n2 n3 nz o0 o1 o2 o3 o4 oz
      go_wp2
      go_region_with (fail)
      all_goals go_wp2
      all_goals (have hL := (HCC.out).leave (.int .i64 3) (.string x) (.slice none 0 0) (.bool false) (.string line) (.slice (some ad) lits.length cA) (.int .i64 ((line.size - q.length : Nat) : Int)) (.int .i64 ((lit : Int) + 1)) (.int .i64 ((ct : Int) + 1)))
      all_goals (obtain ⟨W9, hW9⟩ : ∃ W9, put9 (WC) w.heap.size (.int .i64 3) (.string x) (.slice none 0 0) (.bool false) (.string line) (.slice (some ad) lits.length cA) (.int .i64 ((line.size - q.length : Nat) : Int)) (.int .i64 ((lit : Int) + 1)) (.int .i64 ((ct : Int) + 1)) = W9 := ⟨_, rfl⟩)
      all_goals (rw [hW9] at hL; unfold put9 at hW9; rw [hW9]; clear hW9)
      all_goals (refine bodyPost_ret (ret_cct rfl _ _ (w.heap.size + 1) (w.heap.size + 1 + 1) _ _ rfl hL.2.1 rfl rfl hL.2.2 rfl) rfl ?_)
      all_goals rw [HRES.out]
      all_goals (have hd2 := HAN.out.2)
      all_goals (have hk9 := HK.out.1)
      all_goals exact RWd.fine (by first | exact below_drew hL.1 | exact hL.1) (Kd.R_nil _ _ _ _ _) rfl (by have := HDL.out.2; omega) (by omega) (by omega) hd2.1 HOV.out rfl rfl rfl (by omega) (by omega)
    · have hxb : ((x.size : Int) != (nn : Int)) = true := bne_iff_ne.2 (by omega)
      have hres : R = .error 32 := by
        rw [← HR.out.1]; unfold word
        rw [if_neg (by rw [HST.out]; decide), if_pos HOV.out, if_neg (by decide), if_neg (by decide), HAN.out.1, HDL.out.1]
        simp only
        rw [if_neg hxn]
      have HRES : Hid _ := hres
      have hxi : ¬ (x.size : Int) = (nn : Int) := by omega
      clear hres
      go_wp2
      go_region_with (fail)
      all_goals go_wp2
      all_goals (have hL := (H5.out).leave (.int .i64 0) (.string ⟨#[]⟩) (.slice none 0 0) (.bool false) (.string line) (.slice (some ad) lits.length cA) (.int .i64 k) (.int .i64 lit) (.int .i64 ((ct : Int) + 1)))
      all_goals (obtain ⟨W9, hW9⟩ : ∃ W9, put9 (w5) w.heap.size (.int .i64 0) (.string ⟨#[]⟩) (.slice none 0 0) (.bool false) (.string line) (.slice (some ad) lits.length cA) (.int .i64 k) (.int .i64 lit) (.int .i64 ((ct : Int) + 1)) = W9 := ⟨_, rfl⟩)
      all_goals (rw [hW9] at hL; unfold put9 at hW9; rw [hW9]; clear hW9)
      all_goals (refine bodyPost_ret (ret_cct rfl _ _ (w.heap.size + 1) (w.heap.size + 1 + 1) _ _ rfl hL.2.1 rfl rfl hL.2.2 rfl) rfl ?_)
      all_goals (rw [HRES.out]; exact RWd.err (by decide) (by first | exact below_drew hL.1 | exact hL.1) _ _ _ _ _ _ _ _)
end Go.Proofs.YtbgcapgjnflmoaaDoor.Sc
