/- Contracts of the functions that the statement reaches, and plain lemmas: ScBgP. -/
import Derived.Test.YtbgcapgjnflmoaaDoorMg10
set_option linter.unusedVariables false
set_option linter.unusedSimpArgs false
set_option linter.unnecessarySimpa false
/- begin: a bracket is opened. -/
namespace Go.Proofs.YtbgcapgjnflmoaaDoor.Sc
open Go.RowKit Go.Proofs.YtbgcapgjnflmoaaDoorW.PrintWords Go.Proofs.YtbgcapgjnflmoaaDoorW.PrintMore Go.Proofs.YtbgcapgjnflmoaaDoor.PLx
variable {w0 w w1 : World} {p : Nat} {line : ByteArray} {pos count : Nat} {lits : List ByteArray} {vo : Value} {l : List FV}

set_option maxRecDepth 100000 in
set_option maxHeartbeats 4000000 in
theorem begin_bracket {s : Ma} (h : Is w0 w p line pos s) (hpos : pos < line.size) (hline : line.size ≤ 4096) {c : UInt8} {r : List UInt8} (hcr : (bytesL line).drop pos = c :: r) (glued : Bool)
    (hct : s.count ≤ 100000) (hbl : s.below.length ≤ 12) (htk : s.top.kids.length ≤ 100000) (hc : c = 91) :
    Calls Tryd.prog 42 #[.pointer (some ⟨p, 0, none⟩), .bool glued] w (BPost w0 p line (begin_ s glued c r)) := by
  obtain ⟨R, hR⟩ : ∃ R, begin_ s glued c r = R := ⟨_, rfl⟩
  rw [hR]
  obtain ⟨vo, l, v, hop, hmap⟩ := h
  obtain ⟨A, cA, hcA, hlit, c0, c1, c2, c3, c5, c4, cz⟩ := hop.cells
  have hd := drop_at line pos hpos
  rw [hcr] at hd
  have hb : line[pos] = c := by injection hd with h1 h2; exact h1.symm
  obtain ⟨ci, hci⟩ : ∃ ci : Int, (c.toNat : Int) = ci := ⟨_, rfl⟩
  have hix : ∀ h : pos < line.size, ((line[pos]'h).toNat : Int) = ci := fun h => by rw [hb]; exact hci
  have hi0 : (0 : Int) ≤ ci := by omega
  have hi1 : ci < 256 := by have := c.toNat_lt; omega
  have hp0 : (pos : Int) < (line.size : Int) := by omega
  have hp1 : (pos : Int) ≤ (line.size : Int) := by omega
  have hp2 : (pos : Int) ≤ 4096 := by omega
  have hc9 : (s.count : Int) ≤ 100000 := by omega
  obtain ⟨gq, hgq⟩ : ∃ gq, Go.bits .and .u8 (gradeI ci) 1 = gq := ⟨_, rfl⟩
  have hword := word_of c
  rw [hci, hgq] at hword
  have HWORD : Hid _ := hword
  have HCI : Hid _ := hci
  have HOP : Hid _ := hop
  have HMAP : Hid _ := hmap
  have HR : Hid _ := hR
  have HL : Hid _ := hline
  have HP : Hid _ := hpos
  have HCT : Hid _ := hct
  have HBL : Hid _ := hbl
  have HTK : Hid _ := htk
  have HCR : Hid _ := hcr
  obtain ⟨a1, a2, a3, hT⟩ : ∃ a1 a2 a3, told (line.size - pos) (ann (c :: r)) = (a1, a2, a3) := ⟨_, _, _, rfl⟩
  have hann := fun W => ann_at line (by omega) pos (by omega) hcr W
  rw [hT] at hann
  have HANN : Hid _ := hann
  have HT : Hid _ := hT
  have h123 : c ≠ 123 := by rw [hc]; decide
  have hann0 := ann_head' (r := r) h123
  rw [hann0] at hT
  simp only [told, Prod.mk.injEq] at hT
  obtain ⟨rfl, rfl, rfl⟩ := hT
  have f1 : (gq == 0) = true := by rw [gword_no (.inr (.inr (.inl hc)))] at hword; exact beq_yes (of_decide_eq_true hword)
  have f2 : (ci != 34) = true := bne_yes (ci_ne (d := 34) hci 34 rfl (by rw [hc]; decide))
  have f2' : (ci == 34) = false := beq_no (ci_ne (d := 34) hci 34 rfl (by rw [hc]; decide))
  have f3 : (ci != 91) = false := bne_no (ci_eq (d := 91) hci 91 rfl hc)
  have f3' : (ci == 91) = true := beq_yes (ci_eq (d := 91) hci 91 rfl hc)
  have f4 : (ci != 40) = true := bne_yes (ci_ne (d := 40) hci 40 rfl (by rw [hc]; decide))
  have f4' : (ci == 40) = false := beq_no (ci_ne (d := 40) hci 40 rfl (by rw [hc]; decide))
  have hst : starts c r = true := by rw [hc]; simp [starts]
  have HST : Hid _ := hst
  have HANN0 : Hid _ := hann0
  have HC : Hid _ := hc
  clear hst hc h123 hann0
  clear hop hmap hR hline hpos c4 hcr hd hb hct hann hbl htk hword hci c3 c5 cz
  try clear hT
  go_enter Tryd.func42, Tryd.ntmps42
  go_wp2
  go_quiet (fail)
  obtain ⟨n1, rfl⟩ : ∃ n1, n1 = nq := ⟨_, rfl⟩
  have key : ∀ n, Op w0 (w.drewN n) p line pos s.count s.lits vo (l ++ [(s.top, v)]) := fun n => HOP.out.drewN n
  go_wp2
  go_region_held3 (fun W => W.cell? ⟨p, 0, none⟩ = some (.string line) ∧ W.cell? ⟨p, 2, none⟩ = some (.int .i64 pos))
    (first | exact ⟨c0, c2⟩ | exact ⟨g0, g2⟩)
    (first | (go_at_call 32; refine (HANN.out _).mono ?_; rintro e w2 ⟨rfl, hb2⟩; have HO2 : Hid _ := (key _).below hb2; obtain ⟨_, _, _, _, g0, g1, g2, g3, g5, g4, gz⟩ := HO2.out.cells; clear g1 g3 g5 g4 gz))
  clear c0 c1 c2 hcA hlit hix hp0 hp1
  obtain ⟨A2, cA2, hcA2, hlit2, _, d1, _, d3, d5, d4, dz⟩ := HO2.out.cells
  have hgd : w2.cell? ⟨p, 4 + ci.toNat, none⟩ = some (.int .u8 (gradeI ci)) := by
    have := d4 c.toNat c.toNat_lt
    rw [← HCI.out, Int.toNat_natCast]; exact this
  have hlit2' : Hid _ := hlit2
  have dz3 := dz 3
  clear d4 key dz hlit2
  rcases Nat.lt_or_ge 511 s.count with hover' | hover'
  · have hover : ¬ (s.count + 1 ≤ 512) := by omega
    clear hover'
    have ho : decide ((512 : Int) < (s.count : Int) + 1) = true := decide_eq_true (by omega)
    have HOVER : Hid _ := hover
    clear hover
    go_wp2
    go_ret
    rw [over_ok HST.out HOVER.out HR.out]
    exact BPost.err (HO2.out.setCount' _ (s.count + 1) (by omega)).bel
  have hover : s.count + 1 ≤ 512 := by omega
  clear hover'
  have ho : decide ((512 : Int) < (s.count : Int) + 1) = false := decide_eq_false (by omega)
  have hR2 := in_ok HST.out hover HR.out
  have HR2 : Hid _ := hR2
  have HOVER : Hid _ := hover
  obtain ⟨w3, hw3⟩ : ∃ w3, w2.setCell ⟨p, 3, none⟩ (.int .i64 ((s.count : Int) + 1)) = w3 := ⟨_, rfl⟩
  have ho3 := HO2.out.setCount' ((s.count : Int) + 1) (s.count + 1) (by omega)
  rw [hw3] at ho3
  have HO3 : Hid _ := ho3
  obtain ⟨A3, cA3, hcA3, hlit3, e0, e1, e2, _, e5, e4, ez⟩ := HO3.out.cells
  have HLIT : Hid _ := hlit3
  clear hR2 hover ho3 hlit3
  obtain ⟨go, co, rfl, hco, hgb, hgl, hgp, _, _, _, _, _⟩ := HO3.out.last
  obtain ⟨n, hn⟩ : ∃ n, l.length + 1 = n := ⟨_, rfl⟩
  rw [hn] at e5 d5
  have hlf : (l ++ [(s.top, v)]).length = n := by rw [len_snoc]; exact hn
  have hbn : s.below.length + 1 = n := by rw [← map_len HMAP.out]; exact hn
  rw [hn] at HO3
  have hrow := HO3.out.row
  obtain ⟨hro0, inner, hown, hreps⟩ := hrow
  rw [hlf] at hown
  have HROW : Hid _ := And.intro hro0 hreps
  have HLF : Hid _ := hlf
  have HBN : Hid _ := hbn
  have hn9 : (n : Int) ≤ 13 := by have := HBL.out; omega
  have hvp : (Value.slice (some ⟨go, 0, none⟩) n co).ownBlock ≠ some p := fun e => hgp (by simpa [Value.ownBlock] using e)
  obtain ⟨i0, hj0, hz0, hz1, hz2⟩ := info_parts info43
  have HVP : Hid _ := hvp
  have HPL : Hid _ := HO3.out.plt
  have HBASE : Hid _ := HO3.out.base
  rw [hn] at hco
  clear hlf hbn hro0 hreps hvp hgb hgl hgp hn hco
  rcases Nat.lt_or_ge 12 n with hdeep | hdeep
  · have hdd : decide ((12 : Int) < (n : Int)) = true := decide_eq_true (by omega)
    have HD : Hid _ := hdeep
    clear hdeep
    go_wp2
    go_ret
    have hR3 : R = .error 33 := by
      rw [HR2.out]; unfold enter; rw [HANN0.out]; simp only
      rw [if_neg (by rw [HC.out]; decide), if_pos (by rw [HC.out]; decide), if_neg (by have := HD.out; have := HBN.out; show ¬ (s.below.length < 12); omega)]
    rw [hR3]
    exact BPost.err HO3.out.bel
  · have hdd : decide ((12 : Int) < (n : Int)) = false := decide_eq_false (by omega)
    have hk1 : (n : Int) < (n : Int) + 1 := by omega
    have hk2 : (0 : Int) ≤ (n : Int) := by omega
    have HD : Hid _ := hdeep
    have hR3 : R = .ok (⟨s.count + 1, s.lits, ⟨5, glued, []⟩, s.top :: s.below⟩, r) := by
      rw [HR2.out]; unfold enter; rw [HANN0.out]; simp only
      rw [if_neg (by rw [HC.out]; decide), if_pos (by rw [HC.out]; decide), if_pos (by have := HBN.out; show s.below.length < 12; omega)]
      rw [HC.out]; rfl
    have HR3 : Hid _ := hR3
    clear hdeep hR3
    have hal5 : ∀ (o : Obj) (j : Nat), (w3.alloc o).cell? ⟨p, j, none⟩ = w3.cell? ⟨p, j, none⟩ := fun o j => World.cell?_alloc_past _ _ _ HPL.out
    have ez2 := ez 2
    have ez260 := ez 260
    go_wp2
    clear d1 d3 d5 hgd dz3 g0 g2 ez e0 e1 e4 hw3
    go_region_law (first
      | (refine step_append_lies _ rfl (.tmp 205) (.tmp 210) 24 rfl w0.heap.size 43 i0 _ 4 56 Tryd.underlying24 hj0 hz0 hz1 hz2 rfl (by decide) (.slice (some ⟨go, 0, none⟩) n co) _ _ rfl (hown.alloc (Obj.cells #[.int .i64 0, .string ⟨#[]⟩, .slice none 0 0, .bool false] 43)) ⟨w3.heap.size, 0, none⟩ 1 1 [.int .i64 0, .string ⟨#[]⟩, .slice none 0 0, .bool false] rfl rfl (newsZ w3) (by intro u hu; simp at hu; rcases hu with rfl | rfl | rfl | rfl <;> rfl) (by decide) (by have := HD.out; unfold maxLen; omega) (by have := HD.out; omega) (by have := HBASE.out; show w0.heap.size ≤ (World.alloc _ _).heap.size; simp; omega) _ rfl ?_
         intro gn cn w6 hown6 hg6 hat6 hlt6
         obtain ⟨n0, n1, n2, n3, z0, z1, z2, z3⟩ := cells_new hown6
         have hne1 : gn ≠ p := ne_go HVP.out HPL.out rfl hat6
         have y5 := cell_far6 hg6 HVP.out HPL.out e5
         have y2 := cell_far6 hg6 HVP.out HPL.out e2
         have yz := froz_far6 hg6 HVP.out HPL.out ez260
         have yz2 := froz_far6 hg6 HVP.out HPL.out ez2
         have hne2 : p ≠ gn := Ne.symm hne1)
      | fail)
    all_goals go_wp2
    all_goals go_ret
    all_goals rw [HR3.out]
    all_goals (first | rw [setCells4p hne1] | rw [← setCells4])
    all_goals (have hE := open_end (f := ⟨5, glued, []⟩) rfl HO3.out HLF.out HROW.out.2 hown6 hg6 hat6)
    all_goals exact BPost.fine ⟨_, _, _, hE.setPos' ((pos : Int) + 1) (pos + 1) (by omega), by rw [List.map_append, HMAP.out]; simp⟩ (by
      have hrl := congrArg List.length HCR.out
      rw [List.length_drop, bytesL_len] at hrl
      simp only [List.length_cons] at hrl
      have := HP.out
      omega)
end Go.Proofs.YtbgcapgjnflmoaaDoor.Sc
