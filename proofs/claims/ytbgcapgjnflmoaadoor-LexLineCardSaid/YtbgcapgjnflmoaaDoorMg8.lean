/- Contracts of the functions that the statement reaches, and plain lemmas: ScBgO0, ScBgO. -/
import Derived.Test.YtbgcapgjnflmoaaDoorMg6
set_option linter.unusedVariables false
set_option linter.unusedSimpArgs false
set_option linter.unnecessarySimpa false
/- begin: what opening a list leaves. -/
namespace Go.Proofs.YtbgcapgjnflmoaaDoor.Sc
open Go.RowKit Go.Proofs.YtbgcapgjnflmoaaDoorW.PrintWords Go.Proofs.YtbgcapgjnflmoaaDoorW.PrintMore Go.Proofs.YtbgcapgjnflmoaaDoor.PLx
variable {w0 w w1 : World} {p : Nat} {line : ByteArray} {pos count : Nat} {lits : List ByteArray} {vo : Value} {l : List FV}

theorem open_end {w3 w6 : World} {gn cn n : Nat} {f : Fr} (hfk : f.kids = []) {inner : List Value} (h : Op w0 w3 p line pos count lits vo l) (hln : l.length = n)
    (hrep : Reps (kF.M w3 w0.heap.size (fun k => k ≠ p ∧ some k ≠ vo.ownBlock)) kF.sz l inner)
    (hown : w6.ownsRow w0.heap.size 43 4 (.slice (some ⟨gn, 0, none⟩) (n + 1) cn) (n + 1) (inner ++ [.int .i64 0, .string ⟨#[]⟩, .slice none 0 0, .bool false]))
    (hg : ((w3.alloc (Obj.cells #[.int .i64 0, .string ⟨#[]⟩, .slice none 0 0, .bool false] 43)).drew).grownBy w6 vo.ownBlock)
    (hat : vo.ownBlock = some gn ∨ gn = ((w3.alloc (Obj.cells #[.int .i64 0, .string ⟨#[]⟩, .slice none 0 0, .bool false] 43)).drew).heap.size) :
    Op w0 ((w6.setCells gn (n * 4) [.int .i64 f.kind, .string ⟨#[]⟩, .slice none 0 0, .bool f.glued]).setCell ⟨p, 260, none⟩ (.slice (some ⟨gn, 0, none⟩) (n + 1) cn)) p line pos count lits (.slice (some ⟨gn, 0, none⟩) (n + 1) cn) (l ++ [(f, .slice none 0 0)]) := by
  subst hln
  obtain ⟨Wz, hWz⟩ : ∃ Wz, (w3.alloc (Obj.cells #[.int .i64 0, .string ⟨#[]⟩, .slice none 0 0, .bool false] 43)).drew = Wz := ⟨_, rfl⟩
  have hz : Op w0 Wz p line pos count lits vo l := by rw [← hWz]; exact (h.alloc _).drew
  rw [hWz] at hg hat
  have hbase := hz.base
  have hvb : ∀ k, vo.ownBlock = some k → w0.heap.size ≤ k := by
    obtain ⟨i2, ho2⟩ := Kd.R_own hz.row
    exact fun k hk => own_base ho2 k hk
  have hat' : vo.ownBlock = some gn ∨ Wz.heap.size ≤ gn := by
    rcases hat with e | e
    · exact .inl e
    · exact .inr (by omega)
  have hgb : w0.heap.size ≤ gn := by
    rcases hat' with e | e
    · exact hvb gn e
    · omega
  have hpush := R_pushed (d := kF) (e := 43) (base := w0.heap.size) (ok := fun k => k ≠ p) (okp := fun _ => False) (W := Wz) (w1 := w6) (v := vo) (xs := l) (x := (f, .slice none 0 0)) (z := (Fr.line, .slice none 0 0)) (inner := inner) (g := gn) (cap := cn)
    (zc := [.int .i64 0, .string ⟨#[]⟩, .slice none 0 0, .bool false]) (cs := [.int .i64 f.kind, .string ⟨#[]⟩, .slice none 0 0, .bool f.glued])
    hz.row.1 (hrep.imp_ (fun _ _ hM => hM)) (fun _ => ⟨rfl, rfl⟩) rfl ⟨rfl, rfl⟩ (fun _ hk => hk.elim) (fun k hk => by have := hz.plt; omega) hown hg hat'
  obtain ⟨w7, hw7⟩ : ∃ w7, w6.setCells gn (l.length * kF.sz) [.int .i64 f.kind, .string ⟨#[]⟩, .slice none 0 0, .bool f.glued] = w7 := ⟨_, rfl⟩
  have e4 : kF.sz = 4 := rfl
  rw [hw7] at hpush
  rw [e4] at hw7
  rw [hw7]
  obtain ⟨hrow, hg7⟩ := hpush
  have hkeep : ∀ k, k < Wz.heap.size → some k ≠ vo.ownBlock → w7.heap[k]? = Wz.heap[k]? := fun k hlt ho => by
    have k6 := hg.block k hlt ho
    have k7 := hg7.block k (by have := hg.size; omega) (fun e => by
      injection e with e
      rcases hat' with e2 | e2
      · exact ho (by rw [e2, e])
      · omega)
    exact k7.trans k6
  refine Op.setOpen hz ?_ hkeep hrow (fun j x hx => ?_)
  · have b6 := pw_below_grown hz.bel vo.ownBlock hbase hg hvb
    exact pw_below_grown b6 (some gn) b6.size hg7 (fun k hk => by injection hk with hk; omega)
  · by_cases hj : j = l.length
    · subst hj
      have e : x = (f, .slice none 0 0) := by simpa using hx.symm
      subst e
      show k43.R 43 w7 w0.heap.size _ (.slice none 0 0) f.kids
      rw [hfk]
      exact Kd.R_nil _ _ _ _ _
    · have hjl : j < l.length := by
        have := (List.getElem?_eq_some_iff.1 hx).1
        simp at this; omega
      have hx0 : l[j]? = some x := by rw [List.getElem?_append_left hjl] at hx; exact hx
      refine Kd.R_mono (Kd.R_step (Kd.R_bound (hz.kids j x hx0)) (w1 := w7) (fun k hk2 hlt => hkeep k hlt hk2.1.2.1)) (fun k hk2 => ⟨hk2.1.1, fun e => ?_, fun i y hy hi => ?_⟩)
      · have e : k = gn := by simpa [Value.ownBlock] using e
        rcases hat' with e2 | e2
        · exact hk2.1.2.1 (by rw [e2, e])
        · have := hk2.2.2.1; omega
      · by_cases hil : i = l.length
        · subst hil
          have e : y = (f, .slice none 0 0) := by simpa using hy.symm
          subst e
          simp [Value.ownBlock]
        · have hil' : i < l.length := by
            have := (List.getElem?_eq_some_iff.1 hy).1
            simp at this; omega
          exact hk2.1.2.2 i y (by rw [List.getElem?_append_left hil'] at hy; exact hy) hi
theorem setCells4p {w : World} {g o h j i2 : Nat} (hne : g ≠ h) (a b c d u z : Value) : (((((w.setCell ⟨h, j, none⟩ u).setCell ⟨g, o, none⟩ a).setCell ⟨g, o + 1, none⟩ b).setCell ⟨g, o + 2, none⟩ c).setCell ⟨g, o + 3, none⟩ d).setCell ⟨h, i2, none⟩ z = ((w.setCells g o [a, b, c, d]).setCell ⟨h, j, none⟩ u).setCell ⟨h, i2, none⟩ z := by rw [setCells4' hne]
end Go.Proofs.YtbgcapgjnflmoaaDoor.Sc

/- begin: a list is opened. -/
namespace Go.Proofs.YtbgcapgjnflmoaaDoor.Sc
open Go.RowKit Go.Proofs.YtbgcapgjnflmoaaDoorW.PrintWords Go.Proofs.YtbgcapgjnflmoaaDoorW.PrintMore Go.Proofs.YtbgcapgjnflmoaaDoor.PLx
variable {w0 w w1 : World} {p : Nat} {line : ByteArray} {pos count : Nat} {lits : List ByteArray} {vo : Value} {l : List FV}

set_option maxRecDepth 100000 in
set_option maxHeartbeats 4000000 in
theorem begin_open {s : Ma} (h : Is w0 w p line pos s) (hpos : pos < line.size) (hline : line.size ≤ 4096) {c : UInt8} {r : List UInt8} (hcr : (bytesL line).drop pos = c :: r) (glued : Bool)
    (hct : s.count ≤ 100000) (hbl : s.below.length ≤ 12) (htk : s.top.kids.length ≤ 100000) (hc : c = 40) :
    Calls Tryd.prog 42 #[.pointer (some ⟨p, 0, none⟩), .bool glued] w (BPost w0 p line (begin_ s glued c r)) := by
  obtain ⟨R, hR⟩ : ∃ R, begin_ s glued c r = R := ⟨_, rfl⟩
  rw [hR]
  obtain ⟨vo, l, v, hop, hmap⟩ := h
  obtain ⟨A, cA, hcA, hlit, c0, c1, c2, c3, c5, c4, cz⟩ := hop.cells
  have hd := drop_at line pos hpos
  rw [hcr] at hd
  have hb : line[pos] = c := by injection hd with h1 h2; exact h1.symm
  obtain ⟨ci, hci⟩ : ∃ ci : Int, (c.toNat : Int) = ci := ⟨_, rfl⟩
  have hix : ∀ h : pos < line.size, ((line[pos]'h).toNat : Int) = ci := fun h => by rw [hb]; exact hci
  have hi0 : (0 : Int) ≤ ci := by omega
  have hi1 : ci < 256 := by have := c.toNat_lt; omega
  have hp0 : (pos : Int) < (line.size : Int) := by omega
  have hp1 : (pos : Int) ≤ (line.size : Int) := by omega
  have hp2 : (pos : Int) ≤ 4096 := by omega
  have hc9 : (s.count : Int) ≤ 100000 := by omega
  obtain ⟨gq, hgq⟩ : ∃ gq, Go.bits .and .u8 (gradeI ci) 1 = gq := ⟨_, rfl⟩
  have hword := word_of c
  rw [hci, hgq] at hword
  have HWORD : Hid _ := hword
  have HCI : Hid _ := hci
  have HOP : Hid _ := hop
  have HMAP : Hid _ := hmap
  have HR : Hid _ := hR
  have HL : Hid _ := hline
  have HP : Hid _ := hpos
  have HCT : Hid _ := hct
  have HBL : Hid _ := hbl
  have HTK : Hid _ := htk
  have HCR : Hid _ := hcr
  obtain ⟨a1, a2, a3, hT⟩ : ∃ a1 a2 a3, told (line.size - pos) (ann (c :: r)) = (a1, a2, a3) := ⟨_, _, _, rfl⟩
  have hann := fun W => ann_at line (by omega) pos (by omega) hcr W
  rw [hT] at hann
  have HANN : Hid _ := hann
  have HT : Hid _ := hT
  have h123 : c ≠ 123 := by rw [hc]; decide
  have hann0 := ann_head' (r := r) h123
  rw [hann0] at hT
  simp only [told, Prod.mk.injEq] at hT
  obtain ⟨rfl, rfl, rfl⟩ := hT
  have f1 : (gq == 0) = true := by rw [gword_no (.inr (.inl hc))] at hword; exact beq_yes (of_decide_eq_true hword)
  have f2 : (ci != 34) = true := bne_yes (ci_ne (d := 34) hci 34 rfl (by rw [hc]; decide))
  have f2' : (ci == 34) = false := beq_no (ci_ne (d := 34) hci 34 rfl (by rw [hc]; decide))
  have f3 : (ci != 40) = false := bne_no (ci_eq (d := 40) hci 40 rfl hc)
  have f3' : (ci == 40) = true := beq_yes (ci_eq (d := 40) hci 40 rfl hc)
  have f4 : (ci != 91) = true := bne_yes (ci_ne (d := 91) hci 91 rfl (by rw [hc]; decide))
  have f4' : (ci == 91) = false := beq_no (ci_ne (d := 91) hci 91 rfl (by rw [hc]; decide))
  have hst : starts c r = true := by rw [hc]; simp [starts]
  have HST : Hid _ := hst
  have HANN0 : Hid _ := hann0
  have HC : Hid _ := hc
  clear hst hc h123 hann0
  clear hop hmap hR hline hpos c4 hcr hd hb hct hann hbl htk hword hci c3 c5 cz
  try clear hT
  go_enter Tryd.func42, Tryd.ntmps42
  go_wp2
  go_quiet (fail)
  obtain ⟨n1, rfl⟩ : ∃ n1, n1 = nq := ⟨_, rfl⟩
  have key : ∀ n, Op w0 (w.drewN n) p line pos s.count s.lits vo (l ++ [(s.top, v)]) := fun n => HOP.out.drewN n
  go_wp2
  go_region_held3 (fun W => W.cell? ⟨p, 0, none⟩ = some (.string line) ∧ W.cell? ⟨p, 2, none⟩ = some (.int .i64 pos))
    (first | exact ⟨c0, c2⟩ | exact ⟨g0, g2⟩)
    (first | (go_at_call 32; refine (HANN.out _).mono ?_; rintro e w2 ⟨rfl, hb2⟩; have HO2 : Hid _ := (key _).below hb2; obtain ⟨_, _, _, _, g0, g1, g2, g3, g5, g4, gz⟩ := HO2.out.cells; clear g1 g3 g5 g4 gz))
  clear c0 c1 c2 hcA hlit hix hp0 hp1
  obtain ⟨A2, cA2, hcA2, hlit2, _, d1, _, d3, d5, d4, dz⟩ := HO2.out.cells
  have hgd : w2.cell? ⟨p, 4 + ci.toNat, none⟩ = some (.int .u8 (gradeI ci)) := by
    have := d4 c.toNat c.toNat_lt
    rw [← HCI.out, Int.toNat_natCast]; exact this
  have hlit2' : Hid _ := hlit2
  have dz3 := dz 3
  clear d4 key dz hlit2
  rcases Nat.lt_or_ge 511 s.count with hover' | hover'
  · have hover : ¬ (s.count + 1 ≤ 512) := by omega
    clear hover'
    have ho : decide ((512 : Int) < (s.count : Int) + 1) = true := decide_eq_true (by omega)
    have HOVER : Hid _ := hover
    clear hover
    go_wp2
    go_ret
    rw [over_ok HST.out HOVER.out HR.out]
    exact BPost.err (HO2.out.setCount' _ (s.count + 1) (by omega)).bel
  have hover : s.count + 1 ≤ 512 := by omega
  clear hover'
  have ho : decide ((512 : Int) < (s.count : Int) + 1) = false := decide_eq_false (by omega)
  have hR2 := in_ok HST.out hover HR.out
  have HR2 : Hid _ := hR2
  have HOVER : Hid _ := hover
  obtain ⟨w3, hw3⟩ : ∃ w3, w2.setCell ⟨p, 3, none⟩ (.int .i64 ((s.count : Int) + 1)) = w3 := ⟨_, rfl⟩
  have ho3 := HO2.out.setCount' ((s.count : Int) + 1) (s.count + 1) (by omega)
  rw [hw3] at ho3
  have HO3 : Hid _ := ho3
  obtain ⟨A3, cA3, hcA3, hlit3, e0, e1, e2, _, e5, e4, ez⟩ := HO3.out.cells
  have HLIT : Hid _ := hlit3
  clear hR2 hover ho3 hlit3
  obtain ⟨go, co, rfl, hco, hgb, hgl, hgp, _, _, _, _, _⟩ := HO3.out.last
  obtain ⟨n, hn⟩ : ∃ n, l.length + 1 = n := ⟨_, rfl⟩
  rw [hn] at e5 d5
  have hlf : (l ++ [(s.top, v)]).length = n := by rw [len_snoc]; exact hn
  have hbn : s.below.length + 1 = n := by rw [← map_len HMAP.out]; exact hn
  rw [hn] at HO3
  have hrow := HO3.out.row
  obtain ⟨hro0, inner, hown, hreps⟩ := hrow
  rw [hlf] at hown
  have HROW : Hid _ := And.intro hro0 hreps
  have HLF : Hid _ := hlf
  have HBN : Hid _ := hbn
  have hn9 : (n : Int) ≤ 13 := by have := HBL.out; omega
  have hvp : (Value.slice (some ⟨go, 0, none⟩) n co).ownBlock ≠ some p := fun e => hgp (by simpa [Value.ownBlock] using e)
  obtain ⟨i0, hj0, hz0, hz1, hz2⟩ := info_parts info43
  have HVP : Hid _ := hvp
  have HPL : Hid _ := HO3.out.plt
  have HBASE : Hid _ := HO3.out.base
  rw [hn] at hco
  clear hlf hbn hro0 hreps hvp hgb hgl hgp hn hco
  rcases Nat.lt_or_ge 12 n with hdeep | hdeep
  · have hdd : decide ((12 : Int) < (n : Int)) = true := decide_eq_true (by omega)
    have HD : Hid _ := hdeep
    clear hdeep
    go_wp2
    go_ret
    have hR3 : R = .error 33 := by
      rw [HR2.out]; unfold enter; rw [HANN0.out]; simp only
      rw [if_neg (by rw [HC.out]; decide), if_pos (by rw [HC.out]; decide), if_neg (by have := HD.out; have := HBN.out; show ¬ (s.below.length < 12); omega)]
    rw [hR3]
    exact BPost.err HO3.out.bel
  · have hdd : decide ((12 : Int) < (n : Int)) = false := decide_eq_false (by omega)
    have hk1 : (n : Int) < (n : Int) + 1 := by omega
    have hk2 : (0 : Int) ≤ (n : Int) := by omega
    have HD : Hid _ := hdeep
    have hR3 : R = .ok (⟨s.count + 1, s.lits, ⟨4, glued, []⟩, s.top :: s.below⟩, r) := by
      rw [HR2.out]; unfold enter; rw [HANN0.out]; simp only
      rw [if_neg (by rw [HC.out]; decide), if_pos (by rw [HC.out]; decide), if_pos (by have := HBN.out; show s.below.length < 12; omega)]
      rw [HC.out]; rfl
    have HR3 : Hid _ := hR3
    clear hdeep hR3
    have hal5 : ∀ (o : Obj) (j : Nat), (w3.alloc o).cell? ⟨p, j, none⟩ = w3.cell? ⟨p, j, none⟩ := fun o j => World.cell?_alloc_past _ _ _ HPL.out
    have ez2 := ez 2
    have ez260 := ez 260
    go_wp2
    clear d1 d3 d5 hgd dz3 g0 g2 ez e0 e1 e4 hw3
    go_region_law (first
      | (refine step_append_lies _ rfl (.tmp 205) (.tmp 210) 24 rfl w0.heap.size 43 i0 _ 4 56 Tryd.underlying24 hj0 hz0 hz1 hz2 rfl (by decide) (.slice (some ⟨go, 0, none⟩) n co) _ _ rfl (hown.alloc (Obj.cells #[.int .i64 0, .string ⟨#[]⟩, .slice none 0 0, .bool false] 43)) ⟨w3.heap.size, 0, none⟩ 1 1 [.int .i64 0, .string ⟨#[]⟩, .slice none 0 0, .bool false] rfl rfl (newsZ w3) (by intro u hu; simp at hu; rcases hu with rfl | rfl | rfl | rfl <;> rfl) (by decide) (by have := HD.out; unfold maxLen; omega) (by have := HD.out; omega) (by have := HBASE.out; show w0.heap.size ≤ (World.alloc _ _).heap.size; simp; omega) _ rfl ?_
         intro gn cn w6 hown6 hg6 hat6 hlt6
         obtain ⟨n0, n1, n2, n3, z0, z1, z2, z3⟩ := cells_new hown6
         have hne1 : gn ≠ p := ne_go HVP.out HPL.out rfl hat6
         have y5 := cell_far6 hg6 HVP.out HPL.out e5
         have y2 := cell_far6 hg6 HVP.out HPL.out e2
         have yz := froz_far6 hg6 HVP.out HPL.out ez260
         have yz2 := froz_far6 hg6 HVP.out HPL.out ez2
         have hne2 : p ≠ gn := Ne.symm hne1)
      | fail)
    all_goals go_wp2
    all_goals go_ret
    all_goals rw [HR3.out]
    all_goals (first | rw [setCells4p hne1] | rw [← setCells4])
    all_goals (have hE := open_end (f := ⟨4, glued, []⟩) rfl HO3.out HLF.out HROW.out.2 hown6 hg6 hat6)
    all_goals exact BPost.fine ⟨_, _, _, hE.setPos' ((pos : Int) + 1) (pos + 1) (by omega), by rw [List.map_append, HMAP.out]; simp⟩ (by
      have hrl := congrArg List.length HCR.out
      rw [List.length_drop, bytesL_len] at hrl
      simp only [List.length_cons] at hrl
      have := HP.out
      omega)
end Go.Proofs.YtbgcapgjnflmoaaDoor.Sc
