/- Contracts of the functions that the statement reaches, and plain lemmas: ScBgN. -/
import Derived.Test.YtbgcapgjnflmoaaDoorMg6
set_option linter.unusedVariables false
set_option linter.unusedSimpArgs false
set_option linter.unnecessarySimpa false
/- begin: no word begins here. -/
namespace Go.Proofs.YtbgcapgjnflmoaaDoor.Sc
open Go.RowKit Go.Proofs.YtbgcapgjnflmoaaDoorW.PrintWords Go.Proofs.YtbgcapgjnflmoaaDoorW.PrintMore Go.Proofs.YtbgcapgjnflmoaaDoor.PLx
variable {w0 w w1 : World} {p : Nat} {line : ByteArray} {pos count : Nat} {lits : List ByteArray} {vo : Value} {l : List FV}

set_option maxRecDepth 100000 in
set_option maxHeartbeats 4000000 in
theorem begin_no {s : Ma} (h : Is w0 w p line pos s) (hpos : pos < line.size) (hline : line.size ≤ 4096) {c : UInt8} {r : List UInt8} (hcr : (bytesL line).drop pos = c :: r) (glued : Bool)
    (hct : s.count ≤ 100000) (hbl : s.below.length ≤ 12) (htk : s.top.kids.length ≤ 100000) (hst : starts c r = false) :
    Calls Tryd.prog 42 #[.pointer (some ⟨p, 0, none⟩), .bool glued] w (BPost w0 p line (begin_ s glued c r)) := by
  obtain ⟨R, hR⟩ : ∃ R, begin_ s glued c r = R := ⟨_, rfl⟩
  rw [hR]
  obtain ⟨vo, l, v, hop, hmap⟩ := h
  obtain ⟨A, cA, hcA, hlit, c0, c1, c2, c3, c5, c4, cz⟩ := hop.cells
  have hd := drop_at line pos hpos
  rw [hcr] at hd
  have hb : line[pos] = c := by injection hd with h1 h2; exact h1.symm
  obtain ⟨ci, hci⟩ : ∃ ci : Int, (c.toNat : Int) = ci := ⟨_, rfl⟩
  have hix : ∀ h : pos < line.size, ((line[pos]'h).toNat : Int) = ci := fun h => by rw [hb]; exact hci
  have hi0 : (0 : Int) ≤ ci := by omega
  have hi1 : ci < 256 := by have := c.toNat_lt; omega
  have hp0 : (pos : Int) < (line.size : Int) := by omega
  have hp1 : (pos : Int) ≤ (line.size : Int) := by omega
  have hp2 : (pos : Int) ≤ 4096 := by omega
  have hc9 : (s.count : Int) ≤ 100000 := by omega
  obtain ⟨gq, hgq⟩ : ∃ gq, Go.bits .and .u8 (gradeI ci) 1 = gq := ⟨_, rfl⟩
  have hword := word_of c
  rw [hci, hgq] at hword
  have HWORD : Hid _ := hword
  have HCI : Hid _ := hci
  have HOP : Hid _ := hop
  have HMAP : Hid _ := hmap
  have HR : Hid _ := hR
  have HL : Hid _ := hline
  have HP : Hid _ := hpos
  have HCT : Hid _ := hct
  have HBL : Hid _ := hbl
  have HTK : Hid _ := htk
  have HCR : Hid _ := hcr
  obtain ⟨a1, a2, a3, hT⟩ : ∃ a1 a2 a3, told (line.size - pos) (ann (c :: r)) = (a1, a2, a3) := ⟨_, _, _, rfl⟩
  have hann := fun W => ann_at line (by omega) pos (by omega) hcr W
  rw [hT] at hann
  have HANN : Hid _ := hann
  have HT : Hid _ := hT
  have hsp := hst
  unfold starts at hsp
  simp only [Bool.or_eq_false_iff] at hsp
  obtain ⟨⟨⟨⟨s1, s2⟩, s3⟩, s4⟩, s5⟩ := hsp
  have f1 : (gq == 0) = true := by rw [s1] at hword; exact beq_yes (of_decide_eq_true hword)
  have f2 : (ci != 34) = true := bne_yes (ci_ne (d := 34) hci 34 rfl (by simpa using s2))
  have f3 : (ci != 40) = true := bne_yes (ci_ne (d := 40) hci 40 rfl (by simpa using s3))
  have f4 : (ci != 91) = true := bne_yes (ci_ne (d := 91) hci 91 rfl (by simpa using s4))
  have f5 : (a3 == 0) = true := by
    cases ha : ann (c :: r) with
    | some x => rw [ha] at s5; cases s5
    | none => rw [ha] at hT; simp only [told, Prod.mk.injEq] at hT; exact beq_yes hT.2.2.symm
  have HST : Hid _ := hst
  clear hst s1 s2 s3 s4 s5
  clear hop hmap hR hline hpos c4 hcr hd hb hct hann hbl htk hword hci c3 c5 cz
  try clear hT
  go_enter Tryd.func42, Tryd.ntmps42
  go_wp2
  go_quiet (fail)
  obtain ⟨n1, rfl⟩ : ∃ n1, n1 = nq := ⟨_, rfl⟩
  have key : ∀ n, Op w0 (w.drewN n) p line pos s.count s.lits vo (l ++ [(s.top, v)]) := fun n => HOP.out.drewN n
  go_wp2
  go_region_held3 (fun W => W.cell? ⟨p, 0, none⟩ = some (.string line) ∧ W.cell? ⟨p, 2, none⟩ = some (.int .i64 pos))
    (first | exact ⟨c0, c2⟩ | exact ⟨g0, g2⟩)
    (first | (go_at_call 32; refine (HANN.out _).mono ?_; rintro e w2 ⟨rfl, hb2⟩; have HO2 : Hid _ := (key _).below hb2; obtain ⟨_, _, _, _, g0, g1, g2, g3, g5, g4, gz⟩ := HO2.out.cells; clear g1 g3 g5 g4 gz))
  clear c0 c1 c2 hcA hlit hix hp0 hp1
  obtain ⟨A2, cA2, hcA2, hlit2, _, d1, _, d3, d5, d4, dz⟩ := HO2.out.cells
  have hgd : w2.cell? ⟨p, 4 + ci.toNat, none⟩ = some (.int .u8 (gradeI ci)) := by
    have := d4 c.toNat c.toNat_lt
    rw [← HCI.out, Int.toNat_natCast]; exact this
  have hlit2' : Hid _ := hlit2
  have dz3 := dz 3
  clear d4 key dz hlit2
  go_wp2
  go_ret
  rw [← HR.out, begin_, if_pos HST.out]
  exact BPost.err HO2.out.bel
end Go.Proofs.YtbgcapgjnflmoaaDoor.Sc
