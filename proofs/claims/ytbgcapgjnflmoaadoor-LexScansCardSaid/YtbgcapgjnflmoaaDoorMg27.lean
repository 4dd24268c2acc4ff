/- Contracts of the functions that the statement reaches, and plain lemmas: ScRwQ. -/
import Derived.Test.YtbgcapgjnflmoaaDoorMg24
set_option linter.unusedVariables false
set_option linter.unusedSimpArgs false
set_option linter.unnecessarySimpa false
/- The document's word: a list. -/
namespace Go.Proofs.YtbgcapgjnflmoaaDoor.Sc
open Go.RowKit Go.Proofs.YtbgcapgjnflmoaaDoorW.PrintWords Go.Proofs.YtbgcapgjnflmoaaDoorW.PrintMore Go.Proofs.YtbgcapgjnflmoaaDoor.PLx
variable {w0 w w1 : World} {line : ByteArray}
set_option maxRecDepth 100000 in
set_option maxHeartbeats 4000000 in
theorem wordR_bracket {m : Nat} {A : Option Addr} {cA : Nat} {lits : List ByteArray} (IH : WordsIH line A cA lits m) (hC : Kd.string.C w A lits.length lits) (hcA : lits.length ≤ cA) (hll : lits.length ≤ 512) (hline : line.size ≤ 4096) (k lit ct depth : Nat)
    (hk : k < line.size) (hlit : lit ≤ lits.length) (hct : ct ≤ 512) (hdep : depth ≤ 12) (hm : line.size - (k + 1) < m) {c : UInt8} {r : List UInt8} (hcr : (bytesL line).drop k = c :: r) (hx9 : c = 91) :
    Calls Tryd.prog 37 #[.agg (cu line (.slice A lits.length cA) k lit ct), .int .i64 (depth : Int)] w
      (RWd w line (.slice A lits.length cA) lits k (word (fun d e t ms q => words m d e false [] t ms q) depth ct (lits.drop lit) c r)) := by
  obtain ⟨R, hR⟩ : ∃ R, word (fun d e t ms q => words m d e false [] t ms q) depth ct (lits.drop lit) c r = R := ⟨_, rfl⟩
  rw [hR]
  have hd := drop_at line k hk
  rw [hcr] at hd
  have hb : line[k] = c := by injection hd with h1 h2; exact h1.symm
  have hr : r = (bytesL line).drop (k + 1) := by injection hd with h1 h2
  obtain ⟨n, p, z, is, hto⟩ : ∃ n p z is, toldR line.size (ann (c :: r)) = (n, p, z, is) := ⟨_, _, _, _, rfl⟩
  have HANN : Hid _ := fun W => ann_ok hline k hk hcr hto W
  obtain ⟨ci, hci⟩ : ∃ ci : Int, (c.toNat : Int) = ci := ⟨_, rfl⟩
  have hix : ∀ h : k < line.size, ((line[k]'h).toNat : Int) = ci := fun h => by rw [hb]; exact hci
  have hcr0 : (0 : Int) ≤ ci := by omega
  have hcr1 : ci < 256 := by have := c.toNat_lt; omega
  have hk0 : (0 : Int) ≤ (k : Int) := by omega
  have hk1 : (k : Int) < (line.size : Int) := by omega
  have hk2 : (k : Int) ≤ 4096 := by omega
  have hc9 : (ct : Int) ≤ 512 := by omega
  have hc8 : (0 : Int) ≤ (ct : Int) := by omega
  have hll9 : (lits.length : Int) ≤ 512 := by omega
  have hdep9 : (depth : Int) ≤ 12 := by omega
  have HAT : Hid _ := fun W => atomByte_ok c W
  rw [hci] at HAT
  subst hx9
  obtain rfl : ci = 91 := by rw [← hci]; rfl
  have hgw : gword 91 = false := by decide
  have hann : ann (91 :: r) = none := ann_head (by decide)
  have hst : starts 91 r = true := by unfold starts; simp
  obtain ⟨rfl, rfl, rfl, rfl⟩ : n = 0 ∧ p = false ∧ z = 0 ∧ is = false := by rw [hann] at hto; simpa [toldR, eq_comm] using hto
  rw [hgw] at HAT
  have HST : Hid _ := hst
  clear hgw hann hst
  have HC : Hid _ := And.intro hC hcA
  have HR : Hid _ := And.intro hR hr
  have HK : Hid _ := And.intro hk (And.intro hlit (And.intro hct (And.intro hdep (And.intro hll hm))))
  have HL : Hid _ := hline
  obtain ⟨W0, hW0⟩ : ∃ W0, ((w.alloc (Obj.cells (cu line (.slice A lits.length cA) k lit ct) 50)).alloc (Obj.cells #[.int .i64 0, .string ⟨#[]⟩, .slice none 0 0, .bool false] 43)).alloc (Obj.cells #[.string ⟨#[]⟩, .slice none 0 0, .int .i64 0, .int .i64 0, .int .i64 0] 50) = W0 := ⟨_, rfl⟩
  have hi : Cu w W0 w.heap.size line (.slice A lits.length cA) k lit ct := by rw [← hW0]; exact Cu.start w line (.slice A lits.length cA) k lit ct
  have HI : Hid _ := hi
  clear hi
  obtain ⟨d0, d1, d2, d3, d4, dz⟩ := HI.out.cells
  have HIH : Hid _ := IH
  have HCI : Hid _ := hci
  have HTO : Hid _ := And.intro hto hcr

  clear hC hcA hR hr hk hlit hct hdep hll hm hline IH hci hto hb hd hcr
  go_enter Tryd.func37, Tryd.ntmps37
  go_wp2_with fail
  refine (HANN.out _).mono ?_
  rintro e w2 ⟨rfl, hb2⟩
  have H2 : Hid _ := HI.out.below hb2
  clear hb2 d0 d1 d2 d3 d4 dz hW0
  obtain ⟨d0, d1, d2, d3, d4, dz⟩ := H2.out.cells
  go_wp2_with fail
  refine (HAT.out _).mono ?_
  rintro e w3 ⟨rfl, hb3⟩
  have H3 : Hid _ := H2.out.below hb3
  clear hb3 d0 d1 d2 d3 d4 dz
  obtain ⟨d0, d1, d2, d3, d4, dz⟩ := H3.out.cells
  obtain ⟨e0, e1, e2, e3, ez⟩ := H3.out.res1
  obtain ⟨f0, f1, f2, f3, f4, fz⟩ := H3.out.res2
  obtain ⟨W4, hW4⟩ : ∃ W4, w3.setCell ⟨w.heap.size, 4, none⟩ (.int .i64 ((ct : Int) + 1)) = W4 := ⟨_, rfl⟩
  have h4 := H3.out.setCt ((ct : Int) + 1)
  rw [hW4] at h4
  have H4 : Hid _ := h4
  clear h4
  obtain ⟨m0, m1, m2, m3, m4, mz⟩ := H4.out.cells
  obtain ⟨n0, n1, n2, n3, nz⟩ := H4.out.res1
  obtain ⟨o0, o1, o2, o3, o4, oz⟩ := H4.out.res2
  by_cases hov : 512 < ct + 1
  · have hovb : decide ((512 : Int) < (ct : Int) + 1) = true := decide_eq_true (by omega)
    have hres : R = .error 34 := by
      rw [← HR.out.1]; unfold word
      rw [if_neg (by rw [HST.out]; decide), if_neg (by omega)]
    have HRES : Hid _ := hres
    clear hres hov
    go_wp2
    go_region_with (fail)
    all_goals go_wp2
    all_goals (have hL := (H4.out).leave (.int .i64 0) (.string ⟨#[]⟩) (.slice none 0 0) (.bool false) (.string line) (.slice A lits.length cA) (.int .i64 k) (.int .i64 lit) (.int .i64 ((ct : Int) + 1)))
    all_goals (obtain ⟨W9, hW9⟩ : ∃ W9, put9 (W4) w.heap.size (.int .i64 0) (.string ⟨#[]⟩) (.slice none 0 0) (.bool false) (.string line) (.slice A lits.length cA) (.int .i64 k) (.int .i64 lit) (.int .i64 ((ct : Int) + 1)) = W9 := ⟨_, rfl⟩)
    all_goals (rw [hW9] at hL; unfold put9 at hW9; rw [hW9]; clear hW9)
    all_goals (refine bodyPost_ret (ret_cct rfl _ _ (w.heap.size + 1) (w.heap.size + 1 + 1) _ _ rfl hL.2.1 rfl rfl hL.2.2 rfl) rfl ?_)
    all_goals (rw [HRES.out]; exact RWd.err (by decide) (by first | exact below_drew hL.1 | exact hL.1) _ _ _ _ _ _ _ _)
  have hovb : decide ((512 : Int) < (ct : Int) + 1) = false := decide_eq_false (by omega)
  have hle : (ct : Int) + 1 ≤ 512 := by omega
  have HOV : Hid (ct + 1 ≤ 512) := (by omega : ct + 1 ≤ 512)
  clear hov
  by_cases hdeep : 12 ≤ depth
  · have hdb : decide ((12 : Int) ≤ (depth : Int)) = true := decide_eq_true (by omega)
    have hdi : (12 : Int) ≤ (depth : Int) := by omega
    have hres : R = .error 33 := by
      rw [← HR.out.1]; unfold word
      rw [if_neg (by rw [HST.out]; decide), if_pos HOV.out, if_neg (by decide), if_pos (by decide), if_neg (by omega)]
    have HRES : Hid _ := hres
    clear hres
    go_wp2
    go_region_with (fail)
    all_goals go_wp2
    all_goals (have hL := (H4.out).leave (.int .i64 0) (.string ⟨#[]⟩) (.slice none 0 0) (.bool false) (.string line) (.slice A lits.length cA) (.int .i64 k) (.int .i64 lit) (.int .i64 ((ct : Int) + 1)))
    all_goals (obtain ⟨W9, hW9⟩ : ∃ W9, put9 (W4) w.heap.size (.int .i64 0) (.string ⟨#[]⟩) (.slice none 0 0) (.bool false) (.string line) (.slice A lits.length cA) (.int .i64 k) (.int .i64 lit) (.int .i64 ((ct : Int) + 1)) = W9 := ⟨_, rfl⟩)
    all_goals (rw [hW9] at hL; unfold put9 at hW9; rw [hW9]; clear hW9)
    all_goals (refine bodyPost_ret (ret_cct rfl _ _ (w.heap.size + 1) (w.heap.size + 1 + 1) _ _ rfl hL.2.1 rfl rfl hL.2.2 rfl) rfl ?_)
    all_goals (rw [HRES.out]; exact RWd.err (by decide) (by first | exact below_drew hL.1 | exact hL.1) _ _ _ _ _ _ _ _)
  · have hdb : decide ((12 : Int) ≤ (depth : Int)) = false := decide_eq_false (by omega)
    have hdi : (depth : Int) < 12 := by omega
    have hdn : depth < 12 := by omega
    obtain ⟨W5, hW5⟩ : ∃ W5, W4.setCell ⟨w.heap.size, 2, none⟩ (.int .i64 ((k : Int) + 1)) = W5 := ⟨_, rfl⟩
    have h5 : Cu w W5 w.heap.size line (.slice A lits.length cA) ((k : Int) + 1) lit ((ct : Int) + 1) := by rw [← hW5]; exact H4.out.setPos _
    have H5 : Hid _ := h5
    clear h5
    obtain ⟨s0, s1, s2, s3, s4, sz⟩ := H5.out.cells
    have hq := HIH.out W5 (k + 1) lit (ct + 1) (depth + 1) 93 (Kd.C_below HC.out.1 H5.out.bel) (by have := HK.out.1; omega) HK.out.2.2.2.2.2 HK.out.2.1 HOV.out (by omega)
    unfold cu at hq
    rw [show ((k + 1 : Nat) : Int) = (k : Int) + 1 by omega, show ((ct + 1 : Nat) : Int) = (ct : Int) + 1 by omega, show ((depth + 1 : Nat) : Int) = (depth : Int) + 1 by omega, show (((93 : UInt8).toNat : Nat) : Int) = 93 from rfl] at hq
    cases hRq : words m (depth + 1) 93 false [] (ct + 1) (lits.drop lit) ((bytesL line).drop (k + 1)) with
    | error x =>
      rw [hRq] at hq
      have HQ : Hid _ := hq
      have hres : R = .error x := by
        rw [← HR.out.1]; unfold word
        rw [if_neg (by rw [HST.out]; decide), if_pos HOV.out, if_neg (by decide), if_pos (by decide), if_pos hdn, show (if (91 : UInt8) = 91 then (93 : UInt8) else 41) = 93 from rfl, HR.out.2]
        simp only [hRq]
      have HRES : Hid _ := hres
      clear hres hRq hq hdn
      go_wp2_with (first
        | (go_at_call 23; refine Calls.mono HQ.out ?_; rintro e w6 ⟨hb6, hx6, A6, n6, c6, k6, l6, t6, rfl⟩
           have HX9 : Hid _ := hx6
           clear hx6
           have H6 : Hid _ := H5.out.below hb6
           obtain ⟨WZ, hWZ⟩ : ∃ WZ, w6.alloc (Obj.cells #[.string ⟨#[]⟩, .slice none 0 0, .int .i64 0, .int .i64 0, .int .i64 0] 50) = WZ := ⟨_, rfl⟩
           have hZ : Cu w WZ w.heap.size line (.slice A lits.length cA) ((k : Int) + 1) lit ((ct : Int) + 1) := by rw [← hWZ]; exact H6.out.below (below_alloc (Below.refl _ _) _)
           have hpZ : WZ.heap[w6.heap.size]? = some (.cells #[.string ⟨#[]⟩, .slice none 0 0, .int .i64 0, .int .i64 0, .int .i64 0] 50 (0, 0)) := by rw [← hWZ]; exact blk_new w6 _
           have xz0 := blk_cell hpZ 0
           have xz1 := blk_cell hpZ 1
           have xz2 := blk_cell hpZ 2
           have xz3 := blk_cell hpZ 3
           have xz4 := blk_cell hpZ 4
           simp only [List.getElem?_toArray, List.getElem?_cons_zero, List.getElem?_cons_succ] at xz0 xz1 xz2 xz3 xz4
           have xzz : ∀ j, WZ.frozen? ⟨w6.heap.size, j, none⟩ = false := fun j => blk_frozen hpZ j
           obtain ⟨WA, hWA⟩ : ∃ WA, ((((WZ.setCell ⟨w6.heap.size, 0, none⟩ (.string line)).setCell ⟨w6.heap.size, 1, none⟩ (.slice A lits.length cA)).setCell ⟨w6.heap.size, 2, none⟩ (.int .i64 k6)).setCell ⟨w6.heap.size, 3, none⟩ (.int .i64 l6)).setCell ⟨w6.heap.size, 4, none⟩ (.int .i64 t6) = WA := ⟨_, rfl⟩
           have hA : Cu w WA w.heap.size line (.slice A lits.length cA) ((k : Int) + 1) lit ((ct : Int) + 1) := by
             have hg := H6.out.lt
             rw [← hWA]; exact ((((hZ.setFar hg 0 _).setFar hg 1 _).setFar hg 2 _).setFar hg 3 _).setFar hg 4 _
           have hpA : WA.heap[w6.heap.size]? = some (.cells #[.string line, .slice A lits.length cA, .int .i64 k6, .int .i64 l6, .int .i64 t6] 50 (0, 0)) := by
             rw [← hWA]; exact blk_set (blk_set (blk_set (blk_set (blk_set hpZ 0 _) 1 _) 2 _) 3 _) 4 _
           have HAF : Hid (∀ j, j < w6.heap.size → WA.heap[j]? = w6.heap[j]?) := by
             show ∀ j, j < w6.heap.size → WA.heap[j]? = w6.heap[j]?
             intro j hj
             have hjn : j ≠ w6.heap.size := by omega
             rw [← hWA, Below.heap_setCell _ ⟨w6.heap.size, 4, none⟩ _ _ hjn, Below.heap_setCell _ ⟨w6.heap.size, 3, none⟩ _ _ hjn, Below.heap_setCell _ ⟨w6.heap.size, 2, none⟩ _ _ hjn, Below.heap_setCell _ ⟨w6.heap.size, 1, none⟩ _ _ hjn, Below.heap_setCell _ ⟨w6.heap.size, 0, none⟩ _ _ hjn, ← hWZ]
             exact Below.heap_alloc w6 _ j hj
           have HA : Hid _ := hA
           have x0 := blk_cell hpA 0
           have x1 := blk_cell hpA 1
           have x2 := blk_cell hpA 2
           have x3 := blk_cell hpA 3
           have x4 := blk_cell hpA 4
           simp only [List.getElem?_toArray, List.getElem?_cons_zero, List.getElem?_cons_succ] at x0 x1 x2 x3 x4
           obtain ⟨t0, t1, t2, t3, t4, tz⟩ := hA.cells
           obtain ⟨y0, y1, y2, y3, yz⟩ := hA.res1
           obtain ⟨z0, z1, z2, z3, z4, zz⟩ := hA.res2
           have hlt6 := H6.out.lt
           have hn1 : ¬ w6.heap.size = w.heap.size + 1 := by omega
           have hn2 : ¬ w6.heap.size = w.heap.size + 1 + 1 := by omega
           have hn3 : ¬ w.heap.size + 1 = w6.heap.size := by omega
           have hn4 : ¬ w.heap.size + 1 + 1 = w6.heap.size := by omega
           clear hZ hpZ hA hpA hlt6
           unfold cu
           clear hb6)
        | fail)
      go_region_with (fail)
      all_goals go_wp2
      all_goals (have hL := (HA.out).leave (.int .i64 5) (.string ⟨#[]⟩) (.slice A6 n6 c6) (.bool false) (.string line) (.slice A lits.length cA) (.int .i64 k6) (.int .i64 l6) (.int .i64 t6))
      all_goals (obtain ⟨W9, hW9⟩ : ∃ W9, put9 (WA) w.heap.size (.int .i64 5) (.string ⟨#[]⟩) (.slice A6 n6 c6) (.bool false) (.string line) (.slice A lits.length cA) (.int .i64 k6) (.int .i64 l6) (.int .i64 t6) = W9 := ⟨_, rfl⟩)
      all_goals (rw [hW9] at hL; unfold put9 at hW9; rw [hW9]; clear hW9)
      all_goals (refine bodyPost_ret (ret_cct rfl _ _ (w.heap.size + 1) (w.heap.size + 1 + 1) _ _ rfl hL.2.1 rfl rfl hL.2.2 rfl) rfl ?_)
      all_goals (rw [HRES.out]; exact RWd.err HX9.out (by first | exact below_drew hL.1 | exact hL.1) _ _ _ _ _ _ _ _)
    | ok v =>
      obtain ⟨l, ct2, ls2, q⟩ := v
      rw [hRq] at hq
      have HQ : Hid _ := hq
      have hres : R = .ok (⟨5, ⟨#[]⟩, l, false⟩, ct2, ls2, q) := by
        rw [← HR.out.1]; unfold word
        rw [if_neg (by rw [HST.out]; decide), if_pos HOV.out, if_neg (by decide), if_pos (by decide), if_pos hdn, show (if (91 : UInt8) = 91 then (93 : UInt8) else 41) = 93 from rfl, HR.out.2]
        simp only [hRq]
        rfl
      have HRES : Hid _ := hres
      clear hres hRq hq hdn
      go_wp2_with (first
        | (go_at_call 23; refine Calls.mono HQ.out ?_; rintro e w6 ⟨hb6, v6, l6n, k6n, rfl, hR6, hls6, hll6, hkk6, hks6, hq6, hct6⟩
           have H6 : Hid _ := H5.out.below hb6
           obtain ⟨k6, hk6⟩ : ∃ k6 : Int, (k6n : Int) = k6 := ⟨_, rfl⟩
           obtain ⟨l6, hl6⟩ : ∃ l6 : Int, (l6n : Int) = l6 := ⟨_, rfl⟩
           obtain ⟨t6, ht6⟩ : ∃ t6 : Int, (ct2 : Int) = t6 := ⟨_, rfl⟩
           rw [hk6, hl6, ht6]
           have H7 : Hid _ := And.intro hR6 (And.intro hls6 (And.intro hll6 (And.intro hkk6 (And.intro hks6 (And.intro hq6 (And.intro hct6 (And.intro hk6 (And.intro hl6 ht6))))))))
           obtain ⟨A6, c6, hv6⟩ := Kd.R_slice hR6
           subst hv6
           obtain ⟨WZ, hWZ⟩ : ∃ WZ, w6.alloc (Obj.cells #[.string ⟨#[]⟩, .slice none 0 0, .int .i64 0, .int .i64 0, .int .i64 0] 50) = WZ := ⟨_, rfl⟩
           have hZ : Cu w WZ w.heap.size line (.slice A lits.length cA) ((k : Int) + 1) lit ((ct : Int) + 1) := by rw [← hWZ]; exact H6.out.below (below_alloc (Below.refl _ _) _)
           have hpZ : WZ.heap[w6.heap.size]? = some (.cells #[.string ⟨#[]⟩, .slice none 0 0, .int .i64 0, .int .i64 0, .int .i64 0] 50 (0, 0)) := by rw [← hWZ]; exact blk_new w6 _
           have xz0 := blk_cell hpZ 0
           have xz1 := blk_cell hpZ 1
           have xz2 := blk_cell hpZ 2
           have xz3 := blk_cell hpZ 3
           have xz4 := blk_cell hpZ 4
           simp only [List.getElem?_toArray, List.getElem?_cons_zero, List.getElem?_cons_succ] at xz0 xz1 xz2 xz3 xz4
           have xzz : ∀ j, WZ.frozen? ⟨w6.heap.size, j, none⟩ = false := fun j => blk_frozen hpZ j
           obtain ⟨WA, hWA⟩ : ∃ WA, ((((WZ.setCell ⟨w6.heap.size, 0, none⟩ (.string line)).setCell ⟨w6.heap.size, 1, none⟩ (.slice A lits.length cA)).setCell ⟨w6.heap.size, 2, none⟩ (.int .i64 k6)).setCell ⟨w6.heap.size, 3, none⟩ (.int .i64 l6)).setCell ⟨w6.heap.size, 4, none⟩ (.int .i64 t6) = WA := ⟨_, rfl⟩
           have hA : Cu w WA w.heap.size line (.slice A lits.length cA) ((k : Int) + 1) lit ((ct : Int) + 1) := by
             have hg := H6.out.lt
             rw [← hWA]; exact ((((hZ.setFar hg 0 _).setFar hg 1 _).setFar hg 2 _).setFar hg 3 _).setFar hg 4 _
           have hpA : WA.heap[w6.heap.size]? = some (.cells #[.string line, .slice A lits.length cA, .int .i64 k6, .int .i64 l6, .int .i64 t6] 50 (0, 0)) := by
             rw [← hWA]; exact blk_set (blk_set (blk_set (blk_set (blk_set hpZ 0 _) 1 _) 2 _) 3 _) 4 _
           have HAF : Hid (∀ j, j < w6.heap.size → WA.heap[j]? = w6.heap[j]?) := by
             show ∀ j, j < w6.heap.size → WA.heap[j]? = w6.heap[j]?
             intro j hj
             have hjn : j ≠ w6.heap.size := by omega
             rw [← hWA, Below.heap_setCell _ ⟨w6.heap.size, 4, none⟩ _ _ hjn, Below.heap_setCell _ ⟨w6.heap.size, 3, none⟩ _ _ hjn, Below.heap_setCell _ ⟨w6.heap.size, 2, none⟩ _ _ hjn, Below.heap_setCell _ ⟨w6.heap.size, 1, none⟩ _ _ hjn, Below.heap_setCell _ ⟨w6.heap.size, 0, none⟩ _ _ hjn, ← hWZ]
             exact Below.heap_alloc w6 _ j hj
           have HA : Hid _ := hA
           have x0 := blk_cell hpA 0
           have x1 := blk_cell hpA 1
           have x2 := blk_cell hpA 2
           have x3 := blk_cell hpA 3
           have x4 := blk_cell hpA 4
           simp only [List.getElem?_toArray, List.getElem?_cons_zero, List.getElem?_cons_succ] at x0 x1 x2 x3 x4
           obtain ⟨t0, t1, t2, t3, t4, tz⟩ := hA.cells
           obtain ⟨y0, y1, y2, y3, yz⟩ := hA.res1
           obtain ⟨z0, z1, z2, z3, z4, zz⟩ := hA.res2
           have hlt6 := H6.out.lt
           have hn1 : ¬ w6.heap.size = w.heap.size + 1 := by omega
           have hn2 : ¬ w6.heap.size = w.heap.size + 1 + 1 := by omega
           have hn3 : ¬ w.heap.size + 1 = w6.heap.size := by omega
           have hn4 : ¬ w.heap.size + 1 + 1 = w6.heap.size := by omega
           clear hZ hpZ hA hpA hlt6
           unfold cu
           clear hb6 hR6 hls6 hll6 hkk6 hks6 hq6 hct6 hk6 hl6 ht6)
        | fail)
      go_region_with (fail)
      all_goals go_wp2
      all_goals (have hL := (HA.out).leave (.int .i64 5) (.string ⟨#[]⟩) (.slice A6 l.length c6) (.bool false) (.string line) (.slice A lits.length cA) (.int .i64 k6) (.int .i64 l6) (.int .i64 t6))
      all_goals (obtain ⟨W9, hW9⟩ : ∃ W9, put9 (WA) w.heap.size (.int .i64 5) (.string ⟨#[]⟩) (.slice A6 l.length c6) (.bool false) (.string line) (.slice A lits.length cA) (.int .i64 k6) (.int .i64 l6) (.int .i64 t6) = W9 := ⟨_, rfl⟩)
      all_goals (have hF := fun j h1 h2 => put9_far (WA) w.heap.size (.int .i64 5) (.string ⟨#[]⟩) (.slice A6 l.length c6) (.bool false) (.string line) (.slice A lits.length cA) (.int .i64 k6) (.int .i64 l6) (.int .i64 t6) (j := j) h1 h2)
      all_goals rw [hW9] at hF
      all_goals (rw [hW9] at hL; unfold put9 at hW9; rw [hW9]; clear hW9)
      all_goals (refine bodyPost_ret (ret_cct rfl _ _ (w.heap.size + 1) (w.heap.size + 1 + 1) _ _ rfl hL.2.1 rfl rfl hL.2.2 rfl) rfl ?_)
      all_goals rw [HRES.out]
      all_goals (obtain ⟨hR6, hls6, hll6, hkk6, hks6, hq6, hct6, hk6, hl6, ht6⟩ := H7.out)
      all_goals (have hlow := H5.out.lt)
      all_goals (have hRR := Kd.R_mono (Kd.R_step (w1 := W9) (Kd.R_lower (Kd.R_bound hR6) (show w.heap.size ≤ W5.heap.size by omega)) (fun j hj hjl => (hF j (by have := hj.2.1; omega) (by have := hj.2.1; omega)).trans (HAF.out j hjl))) (fun _ _ => trivial : ∀ k, _ → True))
      all_goals exact RWd.fine (by first | exact below_drew hL.1 | exact hL.1) (by first | exact Kd.R_below hRR (below_drew (Below.refl _ _)) | exact hRR) hls6 hll6 (by omega) hks6 hq6 hct6 rfl rfl hk6.symm hl6.symm ht6.symm
end Go.Proofs.YtbgcapgjnflmoaaDoor.Sc
