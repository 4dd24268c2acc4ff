/- Contracts of the functions that the statement reaches, and plain lemmas: ScBgL, ScBgQ. -/
import Derived.Test.YtbgcapgjnflmoaaDoorMg6
set_option linter.unusedVariables false
set_option linter.unusedSimpArgs false
set_option linter.unnecessarySimpa false
/- begin: a literal. -/
namespace Go.Proofs.YtbgcapgjnflmoaaDoor.Sc
open Go.RowKit Go.Proofs.YtbgcapgjnflmoaaDoorW.PrintWords Go.Proofs.YtbgcapgjnflmoaaDoorW.PrintMore Go.Proofs.YtbgcapgjnflmoaaDoor.PLx
variable {w0 w w1 : World} {p : Nat} {line : ByteArray} {pos count : Nat} {lits : List ByteArray} {vo : Value} {l : List FV}

/-- The first of a row of texts that came in, read later. -/
theorem lit_head {w0 w : World} {A : Option Addr} {x : ByteArray} {xs : List ByteArray} (h : Kd.string.C w0 A (x :: xs).length (x :: xs)) (hb : Below w0.heap.size w0 w) : ∃ ad, A = some ad ∧ w.cell? ad = some (.string x) ∧ w.cell? (ad.add 0) = some (.string x) := by
  obtain ⟨ad, e, hc⟩ := (Kd.reads_of_C (d := ByteArray.empty) h).2.2 (by simp)
  have := hc 0 (by simp)
  have e0 : ad.add 0 = ad := by unfold Addr.add; simp
  rw [e0] at this
  simp only [List.getD_cons_zero] at this
  exact ⟨ad, e, pw_cell_below hb this, by rw [e0]; exact pw_cell_below hb this⟩
theorem Op.cutLits {x : ByteArray} {xs : List ByteArray} {ad : Addr} {cA : Nat} (h : Op w0 w p line pos count (x :: xs) vo l) (hlit : Kd.string.C w0 (some ad) (x :: xs).length (x :: xs)) (hc : (x :: xs).length ≤ cA) :
    Op w0 (w.setCell ⟨p, 1, none⟩ (.slice (if cA = 1 then some ad else some (ad.add 1)) xs.length (cA - 1))) p line pos count xs vo l := by
  refine h.own 1 _ (fun cs A cA' g hl hcc => ⟨_, _, g.lits_ _ _ _, by simp only [List.length_cons] at hc; omega, ?_⟩)
  have h1 := (Kd.reads_of_C (d := ByteArray.empty) hlit).drop_ 1 (by simp) hc
  simp only [List.length_cons, Nat.add_sub_cancel, List.drop_succ_cons, List.drop_zero, Option.map_some] at h1
  exact Kd.C_of_reads h1
set_option maxRecDepth 100000 in
set_option maxHeartbeats 4000000 in
theorem begin_lit {s : Ma} (h : Is w0 w p line pos s) (hpos : pos < line.size) (hline : line.size ≤ 4096) {c : UInt8} {r : List UInt8} (hcr : (bytesL line).drop pos = c :: r) (glued : Bool)
    (hct : s.count ≤ 100000) (hbl : s.below.length ≤ 12) (htk : s.top.kids.length ≤ 100000) {n : Nat} {pl : Bool} {q : List UInt8} (ha : ann (c :: r) = some (n, pl, q)) :
    Calls Tryd.prog 42 #[.pointer (some ⟨p, 0, none⟩), .bool glued] w (BPost w0 p line (begin_ s glued c r)) := by
  obtain ⟨R, hR⟩ : ∃ R, begin_ s glued c r = R := ⟨_, rfl⟩
  rw [hR]
  obtain ⟨vo, l, v, hop, hmap⟩ := h
  obtain ⟨A, cA, hcA, hlit, c0, c1, c2, c3, c5, c4, cz⟩ := hop.cells
  have hd := drop_at line pos hpos
  rw [hcr] at hd
  have hb : line[pos] = c := by injection hd with h1 h2; exact h1.symm
  obtain ⟨ci, hci⟩ : ∃ ci : Int, (c.toNat : Int) = ci := ⟨_, rfl⟩
  have hix : ∀ h : pos < line.size, ((line[pos]'h).toNat : Int) = ci := fun h => by rw [hb]; exact hci
  have hi0 : (0 : Int) ≤ ci := by omega
  have hi1 : ci < 256 := by have := c.toNat_lt; omega
  have hp0 : (pos : Int) < (line.size : Int) := by omega
  have hp1 : (pos : Int) ≤ (line.size : Int) := by omega
  have hp2 : (pos : Int) ≤ 4096 := by omega
  have hc9 : (s.count : Int) ≤ 100000 := by omega
  obtain ⟨gq, hgq⟩ : ∃ gq, Go.bits .and .u8 (gradeI ci) 1 = gq := ⟨_, rfl⟩
  have hword := word_of c
  rw [hci, hgq] at hword
  have HWORD : Hid _ := hword
  have HCI : Hid _ := hci
  have HOP : Hid _ := hop
  have HMAP : Hid _ := hmap
  have HR : Hid _ := hR
  have HL : Hid _ := hline
  have HP : Hid _ := hpos
  have HCT : Hid _ := hct
  have HBL : Hid _ := hbl
  have HTK : Hid _ := htk
  have HCR : Hid _ := hcr
  obtain ⟨a1, a2, a3, hT⟩ : ∃ a1 a2 a3, told (line.size - pos) (ann (c :: r)) = (a1, a2, a3) := ⟨_, _, _, rfl⟩
  have hann := fun W => ann_at line (by omega) pos (by omega) hcr W
  rw [hT] at hann
  have HANN : Hid _ := hann
  have HT : Hid _ := hT
  have h123 : c = 123 := by
    rcases Decidable.em (c = 123) with e | e
    · exact e
    · rw [ann_head' e] at ha; cases ha
  rw [ha] at hT
  simp only [told, Prod.mk.injEq] at hT
  obtain ⟨rfl, rfl, rfl⟩ := hT
  have hqlt := ann_lt ha
  have f1 : (gq == 0) = true := by rw [gword_no (.inr (.inr (.inr h123)))] at hword; exact beq_yes (of_decide_eq_true hword)
  have f2 : (ci != 34) = true := bne_yes (ci_ne (d := 34) hci 34 rfl (by rw [h123]; decide))
  have f3 : (ci != 40) = true := bne_yes (ci_ne (d := 40) hci 40 rfl (by rw [h123]; decide))
  have f4 : (ci != 91) = true := bne_yes (ci_ne (d := 91) hci 91 rfl (by rw [h123]; decide))
  have hrl : r.length + 1 = line.size - pos := by
    have := congrArg List.length hcr
    rw [List.length_drop, bytesL_len] at this
    simpa using this.symm
  simp only [List.length_cons] at hqlt
  have hsz0 : 0 < line.size - pos - q.length := by omega
  obtain ⟨sz, hsz⟩ : ∃ sz, line.size - pos - q.length = sz := ⟨_, rfl⟩
  rw [hsz] at hsz0 HANN
  have f5 : ((sz : Int) == 0) = false := beq_no (by omega)
  have f6 : decide ((0 : Int) < (sz : Int)) = true := decide_eq_true (by omega)
  have hsz9 : (sz : Int) ≤ 4096 := by omega
  have hst : starts c r = true := by rw [starts, ha]; simp
  have HST : Hid _ := hst
  have HANNS : Hid _ := ha
  have HSZ : Hid _ := And.intro hsz (And.intro hrl hqlt)
  clear hst ha h123 hqlt hrl hsz hsz0
  clear hop hmap hR hline hpos c4 hcr hd hb hct hann hbl htk hword hci c3 c5 cz
  try clear hT
  go_enter Tryd.func42, Tryd.ntmps42
  go_wp2
  go_quiet (fail)
  obtain ⟨n1, rfl⟩ : ∃ n1, n1 = nq := ⟨_, rfl⟩
  have key : ∀ n, Op w0 (w.drewN n) p line pos s.count s.lits vo (l ++ [(s.top, v)]) := fun n => HOP.out.drewN n
  go_wp2
  go_region_held3 (fun W => W.cell? ⟨p, 0, none⟩ = some (.string line) ∧ W.cell? ⟨p, 2, none⟩ = some (.int .i64 pos))
    (first | exact ⟨c0, c2⟩ | exact ⟨g0, g2⟩)
    (first | (go_at_call 32; refine (HANN.out _).mono ?_; rintro e w2 ⟨rfl, hb2⟩; have HO2 : Hid _ := (key _).below hb2; obtain ⟨_, _, _, _, g0, g1, g2, g3, g5, g4, gz⟩ := HO2.out.cells; clear g1 g3 g5 g4 gz))
  clear c0 c1 c2 hcA hlit hix hp0 hp1
  obtain ⟨A2, cA2, hcA2, hlit2, _, d1, _, d3, d5, d4, dz⟩ := HO2.out.cells
  have hgd : w2.cell? ⟨p, 4 + ci.toNat, none⟩ = some (.int .u8 (gradeI ci)) := by
    have := d4 c.toNat c.toNat_lt
    rw [← HCI.out, Int.toNat_natCast]; exact this
  have hlit2' : Hid _ := hlit2
  have dz3 := dz 3
  clear d4 key dz hlit2
  rcases Nat.lt_or_ge 511 s.count with hover' | hover'
  · have hover : ¬ (s.count + 1 ≤ 512) := by omega
    clear hover'
    have ho : decide ((512 : Int) < (s.count : Int) + 1) = true := decide_eq_true (by omega)
    have HOVER : Hid _ := hover
    clear hover
    go_wp2
    go_ret
    rw [over_ok HST.out HOVER.out HR.out]
    exact BPost.err (HO2.out.setCount' _ (s.count + 1) (by omega)).bel
  have hover : s.count + 1 ≤ 512 := by omega
  clear hover'
  have ho : decide ((512 : Int) < (s.count : Int) + 1) = false := decide_eq_false (by omega)
  have hR2 := in_ok HST.out hover HR.out
  have HR2 : Hid _ := hR2
  have HOVER : Hid _ := hover
  obtain ⟨w3, hw3⟩ : ∃ w3, w2.setCell ⟨p, 3, none⟩ (.int .i64 ((s.count : Int) + 1)) = w3 := ⟨_, rfl⟩
  have ho3 := HO2.out.setCount' ((s.count : Int) + 1) (s.count + 1) (by omega)
  rw [hw3] at ho3
  have HO3 : Hid _ := ho3
  obtain ⟨A3, cA3, hcA3, hlit3, e0, e1, e2, _, e5, e4, ez⟩ := HO3.out.cells
  have HLIT : Hid _ := hlit3
  clear hR2 hover ho3 hlit3
  have hent : R = (match s.lits with
      | [] => .error 32
      | x :: xs => if x.size = n then .ok (⟨s.count + 1, xs, s.top.put ⟨3, x, [], glued⟩, s.below⟩, q) else .error 32) := by
    rw [HR2.out]; unfold enter; rw [HANNS.out]
    cases s.lits <;> rfl
  obtain ⟨sl, hsl⟩ : ∃ sl, s.lits = sl := ⟨_, rfl⟩
  rw [hsl] at HO3 HLIT hcA3 e1 hent
  have HE : Hid _ := hent
  clear hent hsl
  cases sl with
  | nil =>
    go_wp2
    go_ret
    rw [HE.out]
    exact BPost.err HO3.out.bel
  | cons x xs =>
    obtain ⟨ad, rfl, hx1, hx2⟩ := lit_head HLIT.out HO3.out.bel
    have hne0 : (((x :: xs).length : Int) == 0) = false := beq_no (by simp; omega)
    by_cases hxn : x.size = n
    · have hxb : ((x.size : Int) != (n : Int)) = false := bne_no (by omega)
      have HXN : Hid _ := hxn
      have HLN : Hid _ := map_len HMAP.out
      clear hxn
      go_wp2_with (first
        | (go_at_call 56; refine (put_ok HO3.out (x := ⟨3, x, [], glued⟩) (v2 := .slice none 0 0) (okx := fun _ => False) (Kd.R_nil k43 43 _ _ _) (fun _ hk => hk.elim) HTK.out (by have := HLN.out; have := HBL.out; omega)).mono ?_
           rintro e w' ⟨rfl, v', hv'⟩
           have HV' : Hid _ := hv'
           obtain ⟨A4, cA4, hcA4, hlit4, g0, g1, g2, _, _, _, gz⟩ := hv'.cells
           obtain ⟨ad4, rfl, _, _⟩ := lit_head hlit4 hv'.bel
           have HLIT4 : Hid _ := And.intro hlit4 hcA4
           have gz1 := gz 1
           have gz2 := gz 2
           simp only [List.length_cons] at g1
           have hb1 : (xs.length + 1 : Int) ≤ (cA4 : Int) := by simp only [List.length_cons] at hcA4; omega
           have hb0 : (1 : Int) ≤ (xs.length : Int) + 1 := by omega
           clear hv' hlit4 gz hcA4))
      all_goals go_ret
      all_goals rw [HE.out]
      all_goals simp only
      all_goals rw [if_pos HXN.out]
      all_goals (have hc := HV'.out.cutLits HLIT4.out.1 HLIT4.out.2)
      all_goals (have hadd : ad4.add 1 = ⟨ad4.block, ad4.off + 1, none⟩ := by unfold Addr.add; simp)
      all_goals rw [hadd] at hc
      all_goals (split at hc <;> rename_i hcc)
      all_goals (first
        | exact BPost.fine ⟨_, _, _, hc.setPos' ((pos : Int) + (sz : Int)) (pos + sz) (by omega), HMAP.out⟩ (by have := HSZ.out; omega)
        | (rw [hcc] at hc; exact BPost.fine ⟨_, _, _, hc.setPos' ((pos : Int) + (sz : Int)) (pos + sz) (by omega), HMAP.out⟩ (by have := HSZ.out; omega))
        | (exfalso; omega))
    · have hxb : ((x.size : Int) != (n : Int)) = true := bne_yes (by omega)
      have HXN : Hid _ := hxn
      clear hxn
      go_wp2
      go_ret
      rw [HE.out]
      simp only
      rw [if_neg HXN.out]
      exact BPost.err HO3.out.bel
end Go.Proofs.YtbgcapgjnflmoaaDoor.Sc

/- begin: a quoted word. -/
namespace Go.Proofs.YtbgcapgjnflmoaaDoor.Sc
open Go.RowKit Go.Proofs.YtbgcapgjnflmoaaDoorW.PrintWords Go.Proofs.YtbgcapgjnflmoaaDoorW.PrintMore Go.Proofs.YtbgcapgjnflmoaaDoor.PLx
variable {w0 w w1 : World} {p : Nat} {line : ByteArray} {pos count : Nat} {lits : List ByteArray} {vo : Value} {l : List FV}

set_option maxRecDepth 100000 in
set_option maxHeartbeats 4000000 in
theorem begin_quote {s : Ma} (h : Is w0 w p line pos s) (hpos : pos < line.size) (hline : line.size ≤ 4096) {c : UInt8} {r : List UInt8} (hcr : (bytesL line).drop pos = c :: r) (glued : Bool)
    (hct : s.count ≤ 100000) (hbl : s.below.length ≤ 12) (htk : s.top.kids.length ≤ 100000) (hc : c = 34) :
    Calls Tryd.prog 42 #[.pointer (some ⟨p, 0, none⟩), .bool glued] w (BPost w0 p line (begin_ s glued c r)) := by
  obtain ⟨R, hR⟩ : ∃ R, begin_ s glued c r = R := ⟨_, rfl⟩
  rw [hR]
  obtain ⟨vo, l, v, hop, hmap⟩ := h
  obtain ⟨A, cA, hcA, hlit, c0, c1, c2, c3, c5, c4, cz⟩ := hop.cells
  have hd := drop_at line pos hpos
  rw [hcr] at hd
  have hb : line[pos] = c := by injection hd with h1 h2; exact h1.symm
  obtain ⟨ci, hci⟩ : ∃ ci : Int, (c.toNat : Int) = ci := ⟨_, rfl⟩
  have hix : ∀ h : pos < line.size, ((line[pos]'h).toNat : Int) = ci := fun h => by rw [hb]; exact hci
  have hi0 : (0 : Int) ≤ ci := by omega
  have hi1 : ci < 256 := by have := c.toNat_lt; omega
  have hp0 : (pos : Int) < (line.size : Int) := by omega
  have hp1 : (pos : Int) ≤ (line.size : Int) := by omega
  have hp2 : (pos : Int) ≤ 4096 := by omega
  have hc9 : (s.count : Int) ≤ 100000 := by omega
  obtain ⟨gq, hgq⟩ : ∃ gq, Go.bits .and .u8 (gradeI ci) 1 = gq := ⟨_, rfl⟩
  have hword := word_of c
  rw [hci, hgq] at hword
  have HWORD : Hid _ := hword
  have HCI : Hid _ := hci
  have HOP : Hid _ := hop
  have HMAP : Hid _ := hmap
  have HR : Hid _ := hR
  have HL : Hid _ := hline
  have HP : Hid _ := hpos
  have HCT : Hid _ := hct
  have HBL : Hid _ := hbl
  have HTK : Hid _ := htk
  have HCR : Hid _ := hcr
  obtain ⟨a1, a2, a3, hT⟩ : ∃ a1 a2 a3, told (line.size - pos) (ann (c :: r)) = (a1, a2, a3) := ⟨_, _, _, rfl⟩
  have hann := fun W => ann_at line (by omega) pos (by omega) hcr W
  rw [hT] at hann
  have HANN : Hid _ := hann
  have HT : Hid _ := hT
  have h123 : c ≠ 123 := by rw [hc]; decide
  have hann0 := ann_head' (r := r) h123
  rw [hann0] at hT
  simp only [told, Prod.mk.injEq] at hT
  obtain ⟨rfl, rfl, rfl⟩ := hT
  have f1 : (gq == 0) = true := by rw [gword_no (.inl hc)] at hword; exact beq_yes (of_decide_eq_true hword)
  have f2 : (ci != 34) = false := bne_no (ci_eq (d := 34) hci 34 rfl hc)
  have f2' : (ci == 34) = true := beq_yes (ci_eq (d := 34) hci 34 rfl hc)
  have hst : starts c r = true := by rw [hc]; simp [starts]
  have HST : Hid _ := hst
  have HANN0 : Hid _ := hann0
  have HC : Hid _ := hc
  clear hst hc h123 hann0
  clear hop hmap hR hline hpos c4 hcr hd hb hct hann hbl htk hword hci c3 c5 cz
  try clear hT
  go_enter Tryd.func42, Tryd.ntmps42
  go_wp2
  go_quiet (fail)
  obtain ⟨n1, rfl⟩ : ∃ n1, n1 = nq := ⟨_, rfl⟩
  have key : ∀ n, Op w0 (w.drewN n) p line pos s.count s.lits vo (l ++ [(s.top, v)]) := fun n => HOP.out.drewN n
  go_wp2
  go_region_held3 (fun W => W.cell? ⟨p, 0, none⟩ = some (.string line) ∧ W.cell? ⟨p, 2, none⟩ = some (.int .i64 pos))
    (first | exact ⟨c0, c2⟩ | exact ⟨g0, g2⟩)
    (first | (go_at_call 32; refine (HANN.out _).mono ?_; rintro e w2 ⟨rfl, hb2⟩; have HO2 : Hid _ := (key _).below hb2; obtain ⟨_, _, _, _, g0, g1, g2, g3, g5, g4, gz⟩ := HO2.out.cells; clear g1 g3 g5 g4 gz))
  clear c0 c1 c2 hcA hlit hix hp0 hp1
  obtain ⟨A2, cA2, hcA2, hlit2, _, d1, _, d3, d5, d4, dz⟩ := HO2.out.cells
  have hgd : w2.cell? ⟨p, 4 + ci.toNat, none⟩ = some (.int .u8 (gradeI ci)) := by
    have := d4 c.toNat c.toNat_lt
    rw [← HCI.out, Int.toNat_natCast]; exact this
  have hlit2' : Hid _ := hlit2
  have dz3 := dz 3
  clear d4 key dz hlit2
  rcases Nat.lt_or_ge 511 s.count with hover' | hover'
  · have hover : ¬ (s.count + 1 ≤ 512) := by omega
    clear hover'
    have ho : decide ((512 : Int) < (s.count : Int) + 1) = true := decide_eq_true (by omega)
    have HOVER : Hid _ := hover
    clear hover
    go_wp2
    go_ret
    rw [over_ok HST.out HOVER.out HR.out]
    exact BPost.err (HO2.out.setCount' _ (s.count + 1) (by omega)).bel
  have hover : s.count + 1 ≤ 512 := by omega
  clear hover'
  have ho : decide ((512 : Int) < (s.count : Int) + 1) = false := decide_eq_false (by omega)
  have hR2 := in_ok HST.out hover HR.out
  have HR2 : Hid _ := hR2
  have HOVER : Hid _ := hover
  obtain ⟨w3, hw3⟩ : ∃ w3, w2.setCell ⟨p, 3, none⟩ (.int .i64 ((s.count : Int) + 1)) = w3 := ⟨_, rfl⟩
  have ho3 := HO2.out.setCount' ((s.count : Int) + 1) (s.count + 1) (by omega)
  rw [hw3] at ho3
  have HO3 : Hid _ := ho3
  obtain ⟨A3, cA3, hcA3, hlit3, e0, e1, e2, _, e5, e4, ez⟩ := HO3.out.cells
  have HLIT : Hid _ := hlit3
  clear hR2 hover ho3 hlit3
  have hl1 : (l ++ [(s.top, v)]).length = s.below.length + 1 := by rw [len_snoc, map_len HMAP.out]
  have hqd : qd (if 1 < (l ++ [(s.top, v)]).length then 33 else 31) ((bytesL line).drop (pos + 1)) [] = qd (Ma.early ⟨s.count + 1, s.lits, s.top, s.below⟩) r [] := by
    have hd := drop_at line pos HP.out
    rw [HCR.out] at hd
    have h2 : (bytesL line).drop (pos + 1) = r := by injection hd with h1 h2; exact h2.symm
    rw [h2, hl1]
    unfold Ma.early
    cases s.below with
    | nil => rfl
    | cons a b => rfl
  have hquo := quoted_ok HO3.out HP.out HL.out
  rw [hqd] at hquo
  have hent : R = (match qd (Ma.early ⟨s.count + 1, s.lits, s.top, s.below⟩) r [] with
      | .error e => .error e
      | .ok (t, q) => .ok ((⟨s.count + 1, s.lits, s.top, s.below⟩ : Ma).put ⟨2, ofB t, [], glued⟩, q)) := by
    rw [HR2.out]; unfold enter; rw [HANN0.out]; simp only; rw [if_pos HC.out]
    cases qd (Ma.early ⟨s.count + 1, s.lits, s.top, s.below⟩) r [] <;> rfl
  cases hres : qd (Ma.early ⟨s.count + 1, s.lits, s.top, s.below⟩) r [] with
  | error x =>
    have hx0 : (x != 0) = true := bne_yes (by
      rcases qd_err hres with e | e
      · rw [e]; unfold Ma.early; split <;> decide
      · rw [e]; decide)
    rw [hres] at hquo hent
    have HQ : Hid _ := hquo
    have HE : Hid _ := hent
    clear hquo hent hqd hl1 hres
    go_wp2_with (go_at_call 57; refine Calls.mono HQ.out ?_; rintro e w' ⟨rfl, hb'⟩; have HB' : Hid _ := hb'; clear hb')
    go_ret
    rw [HE.out]
    exact BPost.err HB'.out
  | ok tq =>
    obtain ⟨t, q⟩ := tq
    rw [hres] at hquo hent
    have HQ : Hid _ := hquo
    have HE : Hid _ := hent
    have HLN : Hid _ := map_len HMAP.out
    clear hquo hent hqd hl1 hres
    go_wp2_with (first
      | (go_at_call 57; refine Calls.mono HQ.out ?_; rintro e w' ⟨rfl, hb'⟩; have HB' : Hid _ := hb'; clear hb')
      | (go_at_call 56; refine (put_ok HB'.out (x := ⟨2, ofB t, [], glued⟩) (v2 := .slice none 0 0) (okx := fun _ => False) (Kd.R_nil k43 43 _ _ _) (fun _ hk => hk.elim) HTK.out (by have := HLN.out; have := HBL.out; omega)).mono ?_; rintro e w' ⟨rfl, v', hv'⟩; have HV' : Hid _ := hv'; clear hv'))
    go_ret
    rw [HE.out]
    exact BPost.fine ⟨_, _, _, HV'.out, HMAP.out⟩ rfl
end Go.Proofs.YtbgcapgjnflmoaaDoor.Sc
