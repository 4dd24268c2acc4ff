/- Contracts of the functions that the statement reaches, and plain lemmas: ScBgP, ScBgA. -/
import Derived.Test.YtbgcapgjnflmoaaDoorMg8
import Derived.Test.YtbgcapgjnflmoaaDoorMg6
set_option linter.unusedVariables false
set_option linter.unusedSimpArgs false
set_option linter.unnecessarySimpa false
/- begin: a bracket is opened. -/
namespace Go.Proofs.YtbgcapgjnflmoaaDoor.Sc
open Go.RowKit Go.Proofs.YtbgcapgjnflmoaaDoorW.PrintWords Go.Proofs.YtbgcapgjnflmoaaDoorW.PrintMore Go.Proofs.YtbgcapgjnflmoaaDoor.PLx
variable {w0 w w1 : World} {p : Nat} {line : ByteArray} {pos count : Nat} {lits : List ByteArray} {vo : Value} {l : List FV}

set_option maxRecDepth 100000 in
set_option maxHeartbeats 4000000 in
theorem begin_bracket {s : Ma} (h : Is w0 w p line pos s) (hpos : pos < line.size) (hline : line.size ≤ 4096) {c : UInt8} {r : List UInt8} (hcr : (bytesL line).drop pos = c :: r) (glued : Bool)
    (hct : s.count ≤ 100000) (hbl : s.below.length ≤ 12) (htk : s.top.kids.length ≤ 100000) (hc : c = 91) :
    Calls Tryd.prog 42 #[.pointer (some ⟨p, 0, none⟩), .bool glued] w (BPost w0 p line (begin_ s glued c r)) := by
  obtain ⟨R, hR⟩ : ∃ R, begin_ s glued c r = R := ⟨_, rfl⟩
  rw [hR]
  obtain ⟨vo, l, v, hop, hmap⟩ := h
  obtain ⟨A, cA, hcA, hlit, c0, c1, c2, c3, c5, c4, cz⟩ := hop.cells
  have hd := drop_at line pos hpos
  rw [hcr] at hd
  have hb : line[pos] = c := by injection hd with h1 h2; exact h1.symm
  obtain ⟨ci, hci⟩ : ∃ ci : Int, (c.toNat : Int) = ci := ⟨_, rfl⟩
  have hix : ∀ h : pos < line.size, ((line[pos]'h).toNat : Int) = ci := fun h => by rw [hb]; exact hci
  have hi0 : (0 : Int) ≤ ci := by omega
  have hi1 : ci < 256 := by have := c.toNat_lt; omega
  have hp0 : (pos : Int) < (line.size : Int) := by omega
  have hp1 : (pos : Int) ≤ (line.size : Int) := by omega
  have hp2 : (pos : Int) ≤ 4096 := by omega
  have hc9 : (s.count : Int) ≤ 100000 := by omega
  obtain ⟨gq, hgq⟩ : ∃ gq, Go.bits .and .u8 (gradeI ci) 1 = gq := ⟨_, rfl⟩
  have hword := word_of c
  rw [hci, hgq] at hword
  have HWORD : Hid _ := hword
  have HCI : Hid _ := hci
  have HOP : Hid _ := hop
  have HMAP : Hid _ := hmap
  have HR : Hid _ := hR
  have HL : Hid _ := hline
  have HP : Hid _ := hpos
  have HCT : Hid _ := hct
  have HBL : Hid _ := hbl
  have HTK : Hid _ := htk
  have HCR : Hid _ := hcr
  obtain ⟨a1, a2, a3, hT⟩ : ∃ a1 a2 a3, told (line.size - pos) (ann (c :: r)) = (a1, a2, a3) := ⟨_, _, _, rfl⟩
  have hann := fun W => ann_at line (by omega) pos (by omega) hcr W
  rw [hT] at hann
  have HANN : Hid _ := hann
  have HT : Hid _ := hT
  have h123 : c ≠ 123 := by rw [hc]; decide
  have hann0 := ann_head' (r := r) h123
  rw [hann0] at hT
  simp only [told, Prod.mk.injEq] at hT
  obtain ⟨rfl, rfl, rfl⟩ := hT
  have f1 : (gq == 0) = true := by rw [gword_no (.inr (.inr (.inl hc)))] at hword; exact beq_yes (of_decide_eq_true hword)
  have f2 : (ci != 34) = true := bne_yes (ci_ne (d := 34) hci 34 rfl (by rw [hc]; decide))
  have f2' : (ci == 34) = false := beq_no (ci_ne (d := 34) hci 34 rfl (by rw [hc]; decide))
  have f3 : (ci != 91) = false := bne_no (ci_eq (d := 91) hci 91 rfl hc)
  have f3' : (ci == 91) = true := beq_yes (ci_eq (d := 91) hci 91 rfl hc)
  have f4 : (ci != 40) = true := bne_yes (ci_ne (d := 40) hci 40 rfl (by rw [hc]; decide))
  have f4' : (ci == 40) = false := beq_no (ci_ne (d := 40) hci 40 rfl (by rw [hc]; decide))
  have hst : starts c r = true := by rw [hc]; simp [starts]
  have HST : Hid _ := hst
  have HANN0 : Hid _ := hann0
  have HC : Hid _ := hc
  clear hst hc h123 hann0
  clear hop hmap hR hline hpos c4 hcr hd hb hct hann hbl htk hword hci c3 c5 cz
  try clear hT
  go_enter Tryd.func42, Tryd.ntmps42
  go_wp2
  go_quiet (fail)
  obtain ⟨n1, rfl⟩ : ∃ n1, n1 = nq := ⟨_, rfl⟩
  have key : ∀ n, Op w0 (w.drewN n) p line pos s.count s.lits vo (l ++ [(s.top, v)]) := fun n => HOP.out.drewN n
  go_wp2
  go_region_held3 (fun W => W.cell? ⟨p, 0, none⟩ = some (.string line) ∧ W.cell? ⟨p, 2, none⟩ = some (.int .i64 pos))
    (first | exact ⟨c0, c2⟩ | exact ⟨g0, g2⟩)
    (first | (go_at_call 32; refine (HANN.out _).mono ?_; rintro e w2 ⟨rfl, hb2⟩; have HO2 : Hid _ := (key _).below hb2; obtain ⟨_, _, _, _, g0, g1, g2, g3, g5, g4, gz⟩ := HO2.out.cells; clear g1 g3 g5 g4 gz))
  clear c0 c1 c2 hcA hlit hix hp0 hp1
  obtain ⟨A2, cA2, hcA2, hlit2, _, d1, _, d3, d5, d4, dz⟩ := HO2.out.cells
  have hgd : w2.cell? ⟨p, 4 + ci.toNat, none⟩ = some (.int .u8 (gradeI ci)) := by
    have := d4 c.toNat c.toNat_lt
    rw [← HCI.out, Int.toNat_natCast]; exact this
  have hlit2' : Hid _ := hlit2
  have dz3 := dz 3
  clear d4 key dz hlit2
  rcases Nat.lt_or_ge 511 s.count with hover' | hover'
  · have hover : ¬ (s.count + 1 ≤ 512) := by omega
    clear hover'
    have ho : decide ((512 : Int) < (s.count : Int) + 1) = true := decide_eq_true (by omega)
    have HOVER : Hid _ := hover
    clear hover
    go_wp2
    go_ret
    rw [over_ok HST.out HOVER.out HR.out]
    exact BPost.err (HO2.out.setCount' _ (s.count + 1) (by omega)).bel
  have hover : s.count + 1 ≤ 512 := by omega
  clear hover'
  have ho : decide ((512 : Int) < (s.count : Int) + 1) = false := decide_eq_false (by omega)
  have hR2 := in_ok HST.out hover HR.out
  have HR2 : Hid _ := hR2
  have HOVER : Hid _ := hover
  obtain ⟨w3, hw3⟩ : ∃ w3, w2.setCell ⟨p, 3, none⟩ (.int .i64 ((s.count : Int) + 1)) = w3 := ⟨_, rfl⟩
  have ho3 := HO2.out.setCount' ((s.count : Int) + 1) (s.count + 1) (by omega)
  rw [hw3] at ho3
  have HO3 : Hid _ := ho3
  obtain ⟨A3, cA3, hcA3, hlit3, e0, e1, e2, _, e5, e4, ez⟩ := HO3.out.cells
  have HLIT : Hid _ := hlit3
  clear hR2 hover ho3 hlit3
  obtain ⟨go, co, rfl, hco, hgb, hgl, hgp, _, _, _, _, _⟩ := HO3.out.last
  obtain ⟨n, hn⟩ : ∃ n, l.length + 1 = n := ⟨_, rfl⟩
  rw [hn] at e5 d5
  have hlf : (l ++ [(s.top, v)]).length = n := by rw [len_snoc]; exact hn
  have hbn : s.below.length + 1 = n := by rw [← map_len HMAP.out]; exact hn
  rw [hn] at HO3
  have hrow := HO3.out.row
  obtain ⟨hro0, inner, hown, hreps⟩ := hrow
  rw [hlf] at hown
  have HROW : Hid _ := And.intro hro0 hreps
  have HLF : Hid _ := hlf
  have HBN : Hid _ := hbn
  have hn9 : (n : Int) ≤ 13 := by have := HBL.out; omega
  have hvp : (Value.slice (some ⟨go, 0, none⟩) n co).ownBlock ≠ some p := fun e => hgp (by simpa [Value.ownBlock] using e)
  obtain ⟨i0, hj0, hz0, hz1, hz2⟩ := info_parts info43
  have HVP : Hid _ := hvp
  have HPL : Hid _ := HO3.out.plt
  have HBASE : Hid _ := HO3.out.base
  rw [hn] at hco
  clear hlf hbn hro0 hreps hvp hgb hgl hgp hn hco
  rcases Nat.lt_or_ge 12 n with hdeep | hdeep
  · have hdd : decide ((12 : Int) < (n : Int)) = true := decide_eq_true (by omega)
    have HD : Hid _ := hdeep
    clear hdeep
    go_wp2
    go_ret
    have hR3 : R = .error 33 := by
      rw [HR2.out]; unfold enter; rw [HANN0.out]; simp only
      rw [if_neg (by rw [HC.out]; decide), if_pos (by rw [HC.out]; decide), if_neg (by have := HD.out; have := HBN.out; show ¬ (s.below.length < 12); omega)]
    rw [hR3]
    exact BPost.err HO3.out.bel
  · have hdd : decide ((12 : Int) < (n : Int)) = false := decide_eq_false (by omega)
    have hk1 : (n : Int) < (n : Int) + 1 := by omega
    have hk2 : (0 : Int) ≤ (n : Int) := by omega
    have HD : Hid _ := hdeep
    have hR3 : R = .ok (⟨s.count + 1, s.lits, ⟨5, glued, []⟩, s.top :: s.below⟩, r) := by
      rw [HR2.out]; unfold enter; rw [HANN0.out]; simp only
      rw [if_neg (by rw [HC.out]; decide), if_pos (by rw [HC.out]; decide), if_pos (by have := HBN.out; show s.below.length < 12; omega)]
      rw [HC.out]; rfl
    have HR3 : Hid _ := hR3
    clear hdeep hR3
    have hal5 : ∀ (o : Obj) (j : Nat), (w3.alloc o).cell? ⟨p, j, none⟩ = w3.cell? ⟨p, j, none⟩ := fun o j => World.cell?_alloc_past _ _ _ HPL.out
    have ez2 := ez 2
    have ez260 := ez 260
    go_wp2
    clear d1 d3 d5 hgd dz3 g0 g2 ez e0 e1 e4 hw3
    go_region_law (first
      | (refine step_append_lies _ rfl (.tmp 205) (.tmp 210) 24 rfl w0.heap.size 43 i0 _ 4 56 Tryd.underlying24 hj0 hz0 hz1 hz2 rfl (by decide) (.slice (some ⟨go, 0, none⟩) n co) _ _ rfl (hown.alloc (Obj.cells #[.int .i64 0, .string ⟨#[]⟩, .slice none 0 0, .bool false] 43)) ⟨w3.heap.size, 0, none⟩ 1 1 [.int .i64 0, .string ⟨#[]⟩, .slice none 0 0, .bool false] rfl rfl (newsZ w3) (by intro u hu; simp at hu; rcases hu with rfl | rfl | rfl | rfl <;> rfl) (by decide) (by have := HD.out; unfold maxLen; omega) (by have := HD.out; omega) (by have := HBASE.out; show w0.heap.size ≤ (World.alloc _ _).heap.size; simp; omega) _ rfl ?_
         intro gn cn w6 hown6 hg6 hat6 hlt6
         obtain ⟨n0, n1, n2, n3, z0, z1, z2, z3⟩ := cells_new hown6
         have hne1 : gn ≠ p := ne_go HVP.out HPL.out rfl hat6
         have y5 := cell_far6 hg6 HVP.out HPL.out e5
         have y2 := cell_far6 hg6 HVP.out HPL.out e2
         have yz := froz_far6 hg6 HVP.out HPL.out ez260
         have yz2 := froz_far6 hg6 HVP.out HPL.out ez2
         have hne2 : p ≠ gn := Ne.symm hne1)
      | fail)
    all_goals go_wp2
    all_goals go_ret
    all_goals rw [HR3.out]
    all_goals (first | rw [setCells4p hne1] | rw [← setCells4])
    all_goals (have hE := open_end (f := ⟨5, glued, []⟩) rfl HO3.out HLF.out HROW.out.2 hown6 hg6 hat6)
    all_goals exact BPost.fine ⟨_, _, _, hE.setPos' ((pos : Int) + 1) (pos + 1) (by omega), by rw [List.map_append, HMAP.out]; simp⟩ (by
      have hrl := congrArg List.length HCR.out
      rw [List.length_drop, bytesL_len] at hrl
      simp only [List.length_cons] at hrl
      have := HP.out
      omega)
end Go.Proofs.YtbgcapgjnflmoaaDoor.Sc

/- begin: an atom. -/
namespace Go.Proofs.YtbgcapgjnflmoaaDoor.Sc
open Go.RowKit Go.Proofs.YtbgcapgjnflmoaaDoorW.PrintWords Go.Proofs.YtbgcapgjnflmoaaDoorW.PrintMore Go.Proofs.YtbgcapgjnflmoaaDoor.PLx
variable {w0 w w1 : World} {p : Nat} {line : ByteArray} {pos count : Nat} {lits : List ByteArray} {vo : Value} {l : List FV}

theorem extract_ofB (line : ByteArray) (i j : Nat) (hij : i ≤ j) (hj : j ≤ line.size) : ofB (((bytesL line).drop i).take (j - i)) = line.extract i j := by
  unfold ofB bytesL
  apply ByteArray.ext
  rw [ByteArray.data_extract]
  apply Array.ext'
  rw [Array.toList_extract, List.extract_eq_take_drop]
/-- Within an atom, at k. -/
def AInv (w0 : World) (p : Nat) (line : ByteArray) (pos count : Nat) (lits : List ByteArray) (vo : Value) (l : List FV) (cr : List UInt8) (wr : World) : Prop :=
  ∃ k, Op w0 wr p line k count lits vo l ∧ pos ≤ k ∧ k ≤ line.size ∧ cr.takeWhile gword = ((bytesL line).drop pos).take (k - pos) ++ ((bytesL line).drop k).takeWhile gword ∧ cr.dropWhile gword = ((bytesL line).drop k).dropWhile gword
set_option maxRecDepth 100000 in
set_option maxHeartbeats 4000000 in
theorem begin_atom {s : Ma} (h : Is w0 w p line pos s) (hpos : pos < line.size) (hline : line.size ≤ 4096) {c : UInt8} {r : List UInt8} (hcr : (bytesL line).drop pos = c :: r) (glued : Bool)
    (hct : s.count ≤ 100000) (hbl : s.below.length ≤ 12) (htk : s.top.kids.length ≤ 100000) (hg : gword c = true) :
    Calls Tryd.prog 42 #[.pointer (some ⟨p, 0, none⟩), .bool glued] w (BPost w0 p line (begin_ s glued c r)) := by
  obtain ⟨R, hR⟩ : ∃ R, begin_ s glued c r = R := ⟨_, rfl⟩
  rw [hR]
  obtain ⟨vo, l, v, hop, hmap⟩ := h
  obtain ⟨A, cA, hcA, hlit, c0, c1, c2, c3, c5, c4, cz⟩ := hop.cells
  have hd := drop_at line pos hpos
  rw [hcr] at hd
  have hb : line[pos] = c := by injection hd with h1 h2; exact h1.symm
  obtain ⟨ci, hci⟩ : ∃ ci : Int, (c.toNat : Int) = ci := ⟨_, rfl⟩
  have hix : ∀ h : pos < line.size, ((line[pos]'h).toNat : Int) = ci := fun h => by rw [hb]; exact hci
  have hi0 : (0 : Int) ≤ ci := by omega
  have hi1 : ci < 256 := by have := c.toNat_lt; omega
  have hp0 : (pos : Int) < (line.size : Int) := by omega
  have hp1 : (pos : Int) ≤ (line.size : Int) := by omega
  have hp2 : (pos : Int) ≤ 4096 := by omega
  have hc9 : (s.count : Int) ≤ 100000 := by omega
  obtain ⟨gq, hgq⟩ : ∃ gq, Go.bits .and .u8 (gradeI ci) 1 = gq := ⟨_, rfl⟩
  have hword := word_of c
  rw [hci, hgq] at hword
  have HWORD : Hid _ := hword
  have HCI : Hid _ := hci
  have HOP : Hid _ := hop
  have HMAP : Hid _ := hmap
  have HR : Hid _ := hR
  have HL : Hid _ := hline
  have HP : Hid _ := hpos
  have HCT : Hid _ := hct
  have HBL : Hid _ := hbl
  have HTK : Hid _ := htk
  have HCR : Hid _ := hcr
  obtain ⟨a1, a2, a3, hT⟩ : ∃ a1 a2 a3, told (line.size - pos) (ann (c :: r)) = (a1, a2, a3) := ⟨_, _, _, rfl⟩
  have hann := fun W => ann_at line (by omega) pos (by omega) hcr W
  rw [hT] at hann
  have HANN : Hid _ := hann
  have HT : Hid _ := hT
  have h123 : c ≠ 123 := by rintro rfl; exact absurd hg (by decide)
  have hann0 := ann_head' (r := r) h123
  rw [hann0] at hT
  simp only [told, Prod.mk.injEq] at hT
  obtain ⟨rfl, rfl, rfl⟩ := hT
  have f1 : (gq == 0) = false := by rw [hg] at hword; exact beq_no (of_decide_eq_false hword)
  have f2 : (ci == 34) = false := beq_no (ci_ne (d := 34) hci 34 rfl (by rintro rfl; exact absurd hg (by decide)))
  have f3 : (ci == 40) = false := beq_no (ci_ne (d := 40) hci 40 rfl (by rintro rfl; exact absurd hg (by decide)))
  have f4 : (ci == 91) = false := beq_no (ci_ne (d := 91) hci 91 rfl (by rintro rfl; exact absurd hg (by decide)))
  have hst : starts c r = true := by rw [starts, hg]; rfl
  have HST : Hid _ := hst
  have HANN0 : Hid _ := hann0
  have HG : Hid _ := hg
  clear hst hg h123 hann0
  clear hop hmap hR hline hpos c4 hcr hd hb hct hann hbl htk hword hci c3 c5 cz
  try clear hT
  go_enter Tryd.func42, Tryd.ntmps42
  go_wp2
  go_quiet (fail)
  obtain ⟨n1, rfl⟩ : ∃ n1, n1 = nq := ⟨_, rfl⟩
  have key : ∀ n, Op w0 (w.drewN n) p line pos s.count s.lits vo (l ++ [(s.top, v)]) := fun n => HOP.out.drewN n
  go_wp2
  go_region_held3 (fun W => W.cell? ⟨p, 0, none⟩ = some (.string line) ∧ W.cell? ⟨p, 2, none⟩ = some (.int .i64 pos))
    (first | exact ⟨c0, c2⟩ | exact ⟨g0, g2⟩)
    (first | (go_at_call 32; refine (HANN.out _).mono ?_; rintro e w2 ⟨rfl, hb2⟩; have HO2 : Hid _ := (key _).below hb2; obtain ⟨_, _, _, _, g0, g1, g2, g3, g5, g4, gz⟩ := HO2.out.cells; clear g1 g3 g5 g4 gz))
  clear c0 c1 c2 hcA hlit hix hp0 hp1
  obtain ⟨A2, cA2, hcA2, hlit2, _, d1, _, d3, d5, d4, dz⟩ := HO2.out.cells
  have hgd : w2.cell? ⟨p, 4 + ci.toNat, none⟩ = some (.int .u8 (gradeI ci)) := by
    have := d4 c.toNat c.toNat_lt
    rw [← HCI.out, Int.toNat_natCast]; exact this
  have hlit2' : Hid _ := hlit2
  have dz3 := dz 3
  clear d4 key dz hlit2
  rcases Nat.lt_or_ge 511 s.count with hover' | hover'
  · have hover : ¬ (s.count + 1 ≤ 512) := by omega
    clear hover'
    have ho : decide ((512 : Int) < (s.count : Int) + 1) = true := decide_eq_true (by omega)
    have HOVER : Hid _ := hover
    clear hover
    go_wp2
    go_ret
    rw [over_ok HST.out HOVER.out HR.out]
    exact BPost.err (HO2.out.setCount' _ (s.count + 1) (by omega)).bel
  have hover : s.count + 1 ≤ 512 := by omega
  clear hover'
  have ho : decide ((512 : Int) < (s.count : Int) + 1) = false := decide_eq_false (by omega)
  have hR2 := in_ok HST.out hover HR.out
  have HR2 : Hid _ := hR2
  have HOVER : Hid _ := hover
  obtain ⟨w3, hw3⟩ : ∃ w3, w2.setCell ⟨p, 3, none⟩ (.int .i64 ((s.count : Int) + 1)) = w3 := ⟨_, rfl⟩
  have ho3 := HO2.out.setCount' ((s.count : Int) + 1) (s.count + 1) (by omega)
  rw [hw3] at ho3
  have HO3 : Hid _ := ho3
  obtain ⟨A3, cA3, hcA3, hlit3, e0, e1, e2, _, e5, e4, ez⟩ := HO3.out.cells
  have HLIT : Hid _ := hlit3
  clear hR2 hover ho3 hlit3
  have hstart : Hid (AInv w0 p line pos (s.count + 1) s.lits vo (l ++ [(s.top, v)]) (c :: r) w3) := ⟨pos, HO3.out, Nat.le_refl _, Nat.le_of_lt HP.out, by rw [HCR.out]; simp, by rw [HCR.out]⟩
  go_wp2
  clear e0 e1 e2 e5 e4 ez hcA3 g0 g2 d1 d3 d5 hgd dz3 hcA2 hw3
  go_loopw [] (fun wr => Hid (AInv w0 p line pos (s.count + 1) s.lits vo (l ++ [(s.top, v)]) (c :: r) wr)) (fun wr => line.size - posAt wr p)
  case atStart => exact hstart
  case round =>
    obtain ⟨k, hop, hpk, hks, htw, hdw⟩ := hrel.out
    obtain ⟨A4, cA4, _, _, b0, _, b2, _, _, b4, bz⟩ := hop.cells
    have HK : Hid _ := And.intro hop (And.intro hpk (And.intro hks (And.intro htw hdw)))
    have hk9 : (k : Int) ≤ 4096 := by have := HL.out; omega
    have hk0 : (0 : Int) ≤ (k : Int) := by omega
    have HB4 : Hid _ := b4
    have bz2 := bz 2
    clear hop hpk htw hdw b4 bz hp2 hc9 ho
    by_cases hlt : k < line.size
    · have hltb : decide ((k : Int) < (line.size : Int)) = true := decide_eq_true (by omega)
      have hlti : (k : Int) < (line.size : Int) := by omega
      obtain ⟨b, hb⟩ : ∃ b, line[k] = b := ⟨_, rfl⟩
      obtain ⟨bi, hbi⟩ : ∃ bi : Int, (b.toNat : Int) = bi := ⟨_, rfl⟩
      have hix2 : ∀ h : k < line.size, ((line[k]'h).toNat : Int) = bi := fun h => by rw [hb]; exact hbi
      have hbr0 : (0 : Int) ≤ bi := by omega
      have hbr1 : bi < 256 := by have := b.toNat_lt; omega
      have hgd4 : wr.cell? ⟨p, 4 + bi.toNat, none⟩ = some (.int .u8 (gradeI bi)) := by
        have := HB4.out b.toNat b.toNat_lt
        rw [← hbi, Int.toNat_natCast]; exact this
      obtain ⟨gb, hgb⟩ : ∃ gb, Go.bits .and .u8 (gradeI bi) 1 = gb := ⟨_, rfl⟩
      have hwd := word_of b
      rw [hbi, hgb] at hwd
      have hdr := drop_at line k hlt
      rw [hb] at hdr
      have HDR : Hid _ := hdr
      clear hb hbi hdr
      by_cases hgw : gb = 0
      · have hne : (gb != 0) = false := bne_no hgw
        have hgf : gword b = false := by rw [decide_eq_true hgw] at hwd; simpa using hwd
        have HGF : Hid _ := hgf
        have HLT : Hid _ := hlt
        clear hgw hwd hgf hlt
        go_wp2
        go_quiet (fail)
        go_wp2
        obtain ⟨q1, q2, q3, q4, q5⟩ := HK.out
        have ht4 : (b :: (bytesL line).drop (k + 1)).takeWhile gword = [] := by rw [List.takeWhile_cons, if_neg (by rw [HGF.out]; decide)]
        have ht5 : (b :: (bytesL line).drop (k + 1)).dropWhile gword = b :: (bytesL line).drop (k + 1) := by rw [List.dropWhile_cons, if_neg (by rw [HGF.out]; decide)]
        rw [HDR.out, ht4, List.append_nil] at q4
        rw [HDR.out, ht5, ← HDR.out] at q5
        have hlt9 := HLT.out
        have hs1 : (pos : Int) ≤ (k : Int) := by omega
        have hs2 : (k : Int) ≤ (line.size : Int) := by omega
        have hs0 : (0 : Int) ≤ (pos : Int) := by omega
        have hR3 : R = .ok ((⟨s.count + 1, s.lits, s.top, s.below⟩ : Ma).put ⟨1, line.extract pos k, [], glued⟩, (bytesL line).drop k) := by
          rw [HR2.out]; unfold enter; rw [HANN0.out]; simp only
          rw [if_neg (by rintro rfl; exact absurd HG.out (by decide)), if_neg (by rintro (rfl | rfl) <;> exact absurd HG.out (by decide)), q4, q5, extract_ofB line pos k q2 (by omega)]
        have HR3 : Hid _ := hR3
        have key : ∀ n, Op w0 (wr.drewN n) p line k (s.count + 1) s.lits vo (l ++ [(s.top, v)]) := fun n => q1.drewN n
        have HLN : Hid _ := map_len HMAP.out
        clear q1 q2 q3 q4 q5 hR3
        go_region_held3 (fun W => W.cell? ⟨p, 0, none⟩ = some (.string line) ∧ W.cell? ⟨p, 2, none⟩ = some (.int .i64 (k : Nat)))
          (first | exact ⟨b0, b2⟩ | exact ⟨g0, g2⟩)
          (first | (go_at_call 56; refine (put_ok (key _) (x := ⟨1, line.extract pos k, [], glued⟩) (v2 := .slice none 0 0) (okx := fun _ => False) (Kd.R_nil k43 43 _ _ _) (fun _ hk => hk.elim) HTK.out (by have := HLN.out; have := HBL.out; omega)).mono ?_; rintro e w' ⟨rfl, v', hv'⟩; obtain ⟨_, _, _, _, g0, g1, g2, g3, g5, g4, gz⟩ := hv'.cells; have HV' : Hid _ := hv'; clear hv' g1 g3 g5 g4 gz))
        go_wp2
        go_ret
        rw [HR3.out]
        exact BPost.fine ⟨_, _, _, HV'.out, HMAP.out⟩ (by rw [List.length_drop, bytesL_len]; omega)
      · have hne : (gb != 0) = true := bne_yes hgw
        have hgf : gword b = true := by rw [decide_eq_false hgw] at hwd; simpa using hwd
        have HGF : Hid _ := hgf
        have HLT : Hid _ := hlt
        clear hgw hwd hgf hlt
        go_wp2
        go_quiet (fail)
        go_wp2
        obtain ⟨q1, q2, q3, q4, q5⟩ := HK.out
        have ht4 : (b :: (bytesL line).drop (k + 1)).takeWhile gword = b :: ((bytesL line).drop (k + 1)).takeWhile gword := by rw [List.takeWhile_cons, if_pos HGF.out]
        have ht5 : (b :: (bytesL line).drop (k + 1)).dropWhile gword = ((bytesL line).drop (k + 1)).dropWhile gword := by rw [List.dropWhile_cons, if_pos HGF.out]
        rw [HDR.out, ht4] at q4
        rw [HDR.out, ht5] at q5
        have hn := (q1.drewN nq).setPos' ((k : Int) + 1) (k + 1) (by omega)
        have e1 := hn.posAt
        have e2 := q1.posAt
        refine ⟨⟨k + 1, hn, by omega, by have := HLT.out; omega, ?_, q5⟩, by rw [e1, e2]; have := HLT.out; omega⟩
        rw [q4, show k + 1 - pos = (k - pos) + 1 by omega, List.take_add_one, List.getElem?_drop, show pos + (k - pos) = k by omega]
        have hbk : (bytesL line)[k]? = some b := by
          have := congrArg List.head? HDR.out
          rw [List.head?_drop] at this
          exact this
        rw [hbk]
        simp
    · have hltb : decide ((k : Int) < (line.size : Int)) = false := decide_eq_false (by omega)
      have HLT : Hid _ := hlt
      have hkk : (k : Int) = (line.size : Int) := by omega
      have hkn : k = line.size := by omega
      subst hkn
      clear hkk hlt hltb
      have hltb : decide ((line.size : Int) < (line.size : Int)) = false := by simp
      go_wp2
      go_quiet (fail)
      go_wp2
      obtain ⟨q1, q2, q3, q4, q5⟩ := HK.out
      rw [drop_end line line.size (Nat.le_refl _), List.takeWhile_nil, List.append_nil] at q4
      have q5' : (c :: r).dropWhile gword = (bytesL line).drop line.size := by rw [q5, drop_end line line.size (Nat.le_refl _)]; rfl
      clear q5
      have q5 := q5'
      have hs1 : (pos : Int) ≤ (line.size : Int) := by omega
      have hs2 : (line.size : Int) ≤ (line.size : Int) := by omega
      have hs0 : (0 : Int) ≤ (pos : Int) := by omega
      have hR3 : R = .ok ((⟨s.count + 1, s.lits, s.top, s.below⟩ : Ma).put ⟨1, line.extract pos line.size, [], glued⟩, (bytesL line).drop line.size) := by
        rw [HR2.out]; unfold enter; rw [HANN0.out]; simp only
        rw [if_neg (by rintro rfl; exact absurd HG.out (by decide)), if_neg (by rintro (rfl | rfl) <;> exact absurd HG.out (by decide)), q4, q5, extract_ofB line pos line.size q2 (by omega)]
      have HR3 : Hid _ := hR3
      have key : ∀ n, Op w0 (wr.drewN n) p line line.size (s.count + 1) s.lits vo (l ++ [(s.top, v)]) := fun n => q1.drewN n
      have HLN : Hid _ := map_len HMAP.out
      clear q1 q2 q3 q4 q5 hR3
      go_region_held3 (fun W => W.cell? ⟨p, 0, none⟩ = some (.string line) ∧ W.cell? ⟨p, 2, none⟩ = some (.int .i64 (line.size : Nat)))
        (first | exact ⟨b0, b2⟩ | exact ⟨g0, g2⟩)
        (first | (go_at_call 56; refine (put_ok (key _) (x := ⟨1, line.extract pos line.size, [], glued⟩) (v2 := .slice none 0 0) (okx := fun _ => False) (Kd.R_nil k43 43 _ _ _) (fun _ hk => hk.elim) HTK.out (by have := HLN.out; have := HBL.out; omega)).mono ?_; rintro e w' ⟨rfl, v', hv'⟩; obtain ⟨_, _, _, _, g0, g1, g2, g3, g5, g4, gz⟩ := hv'.cells; have HV' : Hid _ := hv'; clear hv' g1 g3 g5 g4 gz))
      go_wp2
      go_ret
      rw [HR3.out]
      exact BPost.fine ⟨_, _, _, HV'.out, HMAP.out⟩ (by rw [List.length_drop, bytesL_len]; omega)
end Go.Proofs.YtbgcapgjnflmoaaDoor.Sc
