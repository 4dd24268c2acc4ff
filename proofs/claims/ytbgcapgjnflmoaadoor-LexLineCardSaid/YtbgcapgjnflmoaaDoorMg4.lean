/- Contracts of the functions that the statement reaches, and plain lemmas: ScShut, ScQuoted. -/
import Derived.Test.YtbgcapgjnflmoaaDoorMg3
set_option linter.unusedVariables false
set_option linter.unusedSimpArgs false
set_option linter.unnecessarySimpa false
/- early, shut. -/
namespace Go.Proofs.YtbgcapgjnflmoaaDoor.Sc
open Go.RowKit Go.Proofs.YtbgcapgjnflmoaaDoorW.PrintWords Go.Proofs.YtbgcapgjnflmoaaDoorW.PrintMore Go.Proofs.YtbgcapgjnflmoaaDoor.PLx
variable {w0 w w1 : World} {p : Nat} {line : ByteArray} {pos count : Nat} {lits : List ByteArray} {vo : Value} {l : List FV}

set_option maxRecDepth 100000 in
theorem early_ok (h : Op w0 w p line pos count lits vo l) (e : Int) : Calls Tryd.prog 64 #[.pointer (some ⟨p, 0, none⟩), .int .i64 e] w fun r w' => r = .returned (.int .i64 (if 1 < l.length then 33 else e)) ∧ w' = w := by
  obtain ⟨A, cA, hcA, hlit, c0, c1, c2, c3, c5, c4, cz⟩ := h.cells
  obtain ⟨Ao, ko, rfl⟩ := Kd.R_slice h.row
  by_cases hl : 1 < l.length
  · have hb : decide ((1 : Int) < (l.length : Int)) = true := decide_eq_true (by omega)
    rw [if_pos hl]
    clear h
    go_enter Tryd.func64, Tryd.ntmps64
    go_wp2
    go_ret
    exact ⟨rfl, rfl⟩
  · have hb : decide ((1 : Int) < (l.length : Int)) = false := decide_eq_false (by omega)
    rw [if_neg hl]
    clear h
    go_enter Tryd.func64, Tryd.ntmps64
    go_wp2
    go_ret
    exact ⟨rfl, rfl⟩
set_option maxRecDepth 100000 in
set_option maxHeartbeats 2000000 in
theorem shut_no {f : Fr} {v : Value} (h : Op w0 w p line pos count lits vo (l ++ [(f, v)])) (hl : l.length ≤ 100) (c : UInt8) (hno : ¬ (f.kind = 4 ∧ c = 41 ∨ f.kind = 5 ∧ c = 93)) :
    Calls Tryd.prog 41 #[.pointer (some ⟨p, 0, none⟩), .int .u8 c.toNat] w fun e w' => e = .returned (.int .i64 33) ∧ Below w0.heap.size w0 w' := by
  obtain ⟨go, co, rfl, hco, hgb, hgl, hgp, o0, o1, o2, o3, oz⟩ := h.last
  obtain ⟨A, cA, hcA, hlit, c0, c1, c2, c3, c5, c4, cz⟩ := h.cells
  obtain ⟨A3, k3, hv3⟩ := Kd.R_slice (h.kids l.length (f, v) (by simp))
  simp only at hv3
  subst hv3
  obtain ⟨n, hn⟩ : ∃ n, l.length + 1 = n := ⟨_, rfl⟩
  rw [hn] at c5
  have hwm : (n : Int) - 1 = (l.length : Int) := by omega
  have hw2 : IntKind.i64.wrap (l.length : Int) = (l.length : Int) := by rw [Go.IntWalk.i64_left]; unfold wrap64; omega
  have hi0 : (0 : Int) ≤ (l.length : Int) := by omega
  have hi2 : (l.length : Int) ≤ 100 := by omega
  have hi1 : (l.length : Int) < (n : Int) := by omega
  have HNN : Hid _ := hn
  have n5 := World.new_ne w _ c5
  have n0 := World.new_ne w _ o0
  have n1 := World.new_ne w _ o1
  have n2 := World.new_ne w _ o2
  have n3 := World.new_ne w _ o3
  have HB : Hid _ := h.bel
  have HN : Hid _ := hno
  obtain ⟨ci, hci⟩ : ∃ ci : Int, (c.toNat : Int) = ci := ⟨_, rfl⟩
  have hc41 : ci = 41 → c = 41 := fun e => by rw [← UInt8.toNat_inj]; show c.toNat = 41; omega
  have hc93 : ci = 93 → c = 93 := fun e => by rw [← UInt8.toNat_inj]; show c.toNat = 93; omega
  have hway : ((f.kind == 4) = true ∧ (ci == 41) = false ∧ (f.kind == 5) = false) ∨ ((f.kind == 4) = false ∧ (f.kind == 5) = true ∧ (ci == 93) = false) ∨ ((f.kind == 4) = false ∧ (f.kind == 5) = false) := by
    by_cases k4 : f.kind = 4
    · exact .inl ⟨beq_iff_eq.2 k4, beq_eq_false_iff_ne.2 (fun e => hno (.inl ⟨k4, hc41 e⟩)), beq_eq_false_iff_ne.2 (by omega)⟩
    · by_cases k5 : f.kind = 5
      · exact .inr (.inl ⟨beq_eq_false_iff_ne.2 k4, beq_iff_eq.2 k5, beq_eq_false_iff_ne.2 (fun e => hno (.inr ⟨k5, hc93 e⟩))⟩)
      · exact .inr (.inr ⟨beq_eq_false_iff_ne.2 k4, beq_eq_false_iff_ne.2 k5⟩)
  rw [hci]
  clear h c0 c1 c2 c3 c4 cz hno hn hco hc41 hc93 hci
  have HWAY : Hid _ := hway
  clear hway
  go_enter Tryd.func41, Tryd.ntmps41
  go_wp2
  go_region_held3 (fun w' => w'.cell? ⟨p, 260, none⟩ = some (.slice (some ⟨go, 0, none⟩) n co) ∧ w'.cell? ⟨go, l.length * 4, none⟩ = some (.int .i64 f.kind) ∧ w'.cell? ⟨go, l.length * 4 + 1, none⟩ = some (.string ⟨#[]⟩) ∧ w'.cell? ⟨go, l.length * 4 + 2, none⟩ = some (.slice A3 f.kids.length k3) ∧ w'.cell? ⟨go, l.length * 4 + 3, none⟩ = some (.bool f.glued)) (go_keep) (fail)
  rcases HWAY.out with ⟨k1, k2, k3⟩ | ⟨k1, k2, k3⟩ | ⟨k1, k2⟩
  all_goals go_wp2
  all_goals go_ret
  all_goals refine ⟨rfl, ?_⟩
  all_goals exact below_drew (HB.out.alloc HB.out.size _)
theorem Op.pop {f : Fr} {v : Value} {go co n : Nat} (h : Op w0 w p line pos count lits (.slice (some ⟨go, 0, none⟩) n co) (l ++ [(f, v)])) :
    Op w0 (w.setCell ⟨p, 260, none⟩ (.slice (some ⟨go, 0, none⟩) l.length co)) p line pos count lits (.slice (some ⟨go, 0, none⟩) l.length co) l ∧
    k43.R 43 (w.setCell ⟨p, 260, none⟩ (.slice (some ⟨go, 0, none⟩) l.length co)) w0.heap.size (okj p (.slice (some ⟨go, 0, none⟩) l.length co) (l ++ [(f, v)]) l.length) v f.kids := by
  refine ⟨Op.setOpen h h.bel (fun k _ _ => rfl) ?_ ?_, ?_⟩
  · have := Kd.R_take h.row (m := l.length) (by simp)
    rw [List.take_left' rfl] at this
    exact kF_ok this (fun k hk => h.row.1 k hk)
  · intro j x hx
    have hjl := (List.getElem?_eq_some_iff.1 hx).1
    refine Kd.R_mono (h.kids j x (by rw [List.getElem?_append_left hjl]; exact hx)) (fun k hk => ⟨hk.1, hk.2.1, fun i y hy hi => hk.2.2 i y (by rw [List.getElem?_append_left (List.getElem?_eq_some_iff.1 hy).1]; exact hy) hi⟩)
  · exact Kd.R_far (p := ⟨p, 260, none⟩) (h.kids l.length (f, v) (by simp)) (fun k hk => hk.1) _
set_option maxRecDepth 100000 in
set_option maxHeartbeats 2000000 in
theorem shut_ok {f g : Fr} {v u : Value} (h : Op w0 w p line pos count lits vo ((l ++ [(g, u)]) ++ [(f, v)])) (hl : l.length ≤ 90) (hk : g.kids.length ≤ 100000) (c : UInt8) (hyes : f.kind = 4 ∧ c = 41 ∨ f.kind = 5 ∧ c = 93) :
    Calls Tryd.prog 41 #[.pointer (some ⟨p, 0, none⟩), .int .u8 c.toNat] w fun e w' => e = .returned (.int .i64 0) ∧ ∃ vo' u', Op w0 w' p line pos count lits vo' (l ++ [(g.put f.word, u')]) := by
  obtain ⟨go, co, rfl, hco, hgb, hgl, hgp, o0, o1, o2, o3, oz⟩ := h.last
  obtain ⟨A, cA, hcA, hlit, c0, c1, c2, c3, c5, c4, cz⟩ := h.cells
  obtain ⟨A3, k3, hv3⟩ := Kd.R_slice (h.kids (l ++ [(g, u)]).length (f, v) (by simp))
  simp only at hv3
  subst hv3
  obtain ⟨m, hm⟩ : ∃ m, (l ++ [(g, u)]).length = m := ⟨_, rfl⟩
  have hml : m = l.length + 1 := by rw [← hm]; simp
  rw [hm] at hco o0 o1 o2 o3 oz c5 h
  obtain ⟨n, hn⟩ : ∃ n, m + 1 = n := ⟨_, rfl⟩
  rw [hn] at c5 h
  have hwm : (n : Int) - 1 = (m : Int) := by omega
  have hw2 : IntKind.i64.wrap (m : Int) = (m : Int) := by rw [Go.IntWalk.i64_left]; unfold wrap64; omega
  have hi0 : (0 : Int) ≤ (m : Int) := by omega
  have hi2 : (m : Int) ≤ 100 := by omega
  have hi1 : (m : Int) < (n : Int) := by omega
  have hi3 : (m : Int) ≤ (co : Int) := by omega
  have n5 := World.new_ne w _ c5
  have n0 := World.new_ne w _ o0
  have n1 := World.new_ne w _ o1
  have n2 := World.new_ne w _ o2
  have n3 := World.new_ne w _ o3
  obtain ⟨ci, hci⟩ : ∃ ci : Int, (c.toNat : Int) = ci := ⟨_, rfl⟩
  have hway : ((f.kind == 4) = true ∧ (ci == 41) = true) ∨ ((f.kind == 4) = false ∧ (f.kind == 5) = true ∧ (ci == 93) = true) := by
    rcases hyes with ⟨k, rfl⟩ | ⟨k, rfl⟩
    · exact .inl ⟨beq_iff_eq.2 k, beq_iff_eq.2 hci.symm⟩
    · exact .inr ⟨beq_eq_false_iff_ne.2 (by omega), beq_iff_eq.2 k, beq_iff_eq.2 hci.symm⟩
  rw [hci]
  obtain ⟨W, hW⟩ : ∃ W, (w.alloc (Obj.cells #[.int .i64 f.kind, .string ⟨#[]⟩, .slice A3 f.kids.length k3, .bool f.glued] 43)).drew = W := ⟨_, rfl⟩
  have hbw : Below w.heap.size w W := by rw [← hW]; exact below_drew (below_alloc (Below.refl _ _) _)
  have HO : Hid _ := h.below hbw
  have d5 : W.cell? ⟨p, 260, none⟩ = some (.slice (some ⟨go, 0, none⟩) n co) := pw_cell_below hbw c5
  have dz : W.frozen? ⟨p, 260, none⟩ = false := by obtain ⟨cs, _, _, hb, _⟩ := HO.out.top; exact blk_frozen hb 260
  have hb : W.heap[w.heap.size]? = some (.cells #[.int .i64 f.kind, .string ⟨#[]⟩, .slice A3 f.kids.length k3, .bool f.glued] 43 (0, 0)) := by rw [← hW]; exact blk_new w _
  have hpw : p ≠ w.heap.size := by have := h.plt; omega
  have hb2 := blk_far hb (p := ⟨p, 260, none⟩) (Ne.symm hpw) (.slice (some ⟨go, 0, none⟩) m co)
  have hp := HO.out.pop
  rw [hm] at hp
  have HP : Hid _ := hp
  have b0 := blk_cell hb2 0
  have b1 := blk_cell hb2 1
  have b2 := blk_cell hb2 2
  have b3 := blk_cell hb2 3
  simp only [List.getElem?_toArray, List.getElem?_cons_zero, List.getElem?_cons_succ] at b0 b1 b2 b3
  have HWAY : Hid _ := hway
  have HL : Hid _ := hl
  have HK : Hid _ := hk
  have HM : Hid _ := hm
  have HW : Hid _ := hW
  have D5 : Hid _ := d5
  have DZ : Hid _ := dz
  have B0 : Hid _ := And.intro b0 (And.intro b1 (And.intro b2 b3))
  clear h c0 c1 c2 c3 c4 cz hyes hn hco hci hway hml hb hb2 hp hpw hbw hl hk hm hW d5 dz b0 b1 b2 b3
  go_enter Tryd.func41, Tryd.ntmps41
  go_wp2
  go_region_held3 (fun w' => w'.cell? ⟨p, 260, none⟩ = some (.slice (some ⟨go, 0, none⟩) n co) ∧ w'.cell? ⟨go, m * 4, none⟩ = some (.int .i64 f.kind) ∧ w'.cell? ⟨go, m * 4 + 1, none⟩ = some (.string ⟨#[]⟩) ∧ w'.cell? ⟨go, m * 4 + 2, none⟩ = some (.slice A3 f.kids.length k3) ∧ w'.cell? ⟨go, m * 4 + 3, none⟩ = some (.bool f.glued)) (go_keep) (fail)
  clear n5 n0 n1 n2 n3 o0 o1 o2 o3
  rcases HWAY.out with ⟨k1, k2⟩ | ⟨k1, k2, k4⟩
  all_goals go_wp2
  all_goals rw [HW.out]
  all_goals (have d5 := D5.out)
  all_goals (have dz := DZ.out)
  all_goals clear c5
  all_goals go_still_tail 14, (by kernel_rfl)
  all_goals obtain ⟨b0, b1, b2, b3⟩ := B0.out
  all_goals go_wp2_with (go_at_call 56; refine (put_ok HP.out.1.drew (x := f.word) (v2 := .slice A3 f.kids.length k3) (okx := okj p (.slice (some ⟨go, 0, none⟩) m co) ((l ++ [(g, u)]) ++ [(f, .slice A3 f.kids.length k3)]) m) (Kd.R_below HP.out.2 (below_drew (Below.refl _ _))) (fun k hk => ⟨hk.1, hk.2.1, fun i y hy => hk.2.2 i y (by rw [List.getElem?_append_left (List.getElem?_eq_some_iff.1 hy).1]; exact hy) (by have := (List.getElem?_eq_some_iff.1 hy).1; have := HM.out; omega)⟩) HK.out (by have := HL.out; omega)).mono ?_; rintro e w' ⟨rfl, u', hu'⟩)
  all_goals go_ret
  all_goals exact ⟨rfl, _, u', hu'⟩
end Go.Proofs.YtbgcapgjnflmoaaDoor.Sc

/- quoted: a quoted word. -/
namespace Go.Proofs.YtbgcapgjnflmoaaDoor.Sc
open Go.RowKit Go.Proofs.YtbgcapgjnflmoaaDoorW.PrintWords Go.Proofs.YtbgcapgjnflmoaaDoorW.PrintMore Go.Proofs.YtbgcapgjnflmoaaDoor.PLx
variable {w0 w w1 : World} {p : Nat} {line : ByteArray} {pos count : Nat} {lits : List ByteArray} {vo : Value} {l : List FV}

/-- A row of another type than the words' was written. -/
theorem Op.grown5 {row : Option Nat} (h : Op w0 w p line pos count lits vo l) (hg : w.grownBy w1 row) (hb : Below w0.heap.size w0 w1) (ht : ∀ g, row = some g → ∃ cells, w.heap[g]? = some (.cells cells 5 (0, 0))) : Op w0 w1 p line pos count lits vo l := by
  obtain ⟨cs, A, cA, htop, g⟩ := h.top
  have hp : some p ≠ row := fun e => by
    obtain ⟨c2, h2⟩ := ht p e.symm
    rw [htop] at h2; simp at h2
  have hk : ∀ k, (∃ q, q ∈ [43] ∧ ∃ cells, w.heap[k]? = some (.cells cells q (0, 0))) → some k ≠ row := fun k hq e => by
    obtain ⟨q, hq1, c1, h1⟩ := hq
    obtain ⟨c2, h2⟩ := ht k e.symm
    rw [h1] at h2
    injection h2 with h2
    injection h2 with _ h2
    rw [List.mem_singleton] at hq1
    subst hq1
    exact absurd h2 (by decide)
  refine ⟨hb, h.low, ⟨cs, A, cA, (hg.block p h.plt hp).trans htop, g⟩, ?_, fun j x hx => ?_⟩
  · exact Kd.R_mono (Kd.R_step (Kd.R_bound h.row) (fun k hk2 hlt => hg.block k hlt (hk k (by obtain ⟨_, _, _, q, hq, c⟩ := hk2; exact ⟨q, by simpa [kF] using hq, c⟩)))) (fun k hk2 => hk2.1)
  · exact Kd.R_mono (Kd.R_step (Kd.R_bound (h.kids j x hx)) (fun k hk2 hlt => hg.block k hlt (hk k (by
      obtain ⟨_, _, _, q, hq, c⟩ := hk2
      have : q ∈ 43 :: k43.E := hq
      have e : k43.E = [43] := rfl
      rw [e] at this
      exact ⟨q, by simpa using this, c⟩)))) (fun k hk2 => hk2.1)
/-- Bytes as numbers. -/
def ints (l : List UInt8) : List Int := l.map (fun c => (c.toNat : Int))
theorem ints_snoc (l : List UInt8) (c : UInt8) : ints (l ++ [c]) = ints l ++ [(c.toNat : Int)] := by simp [ints]
theorem str_ints (l : List UInt8) : strOfNums (ints l) = ofB l := by
  unfold strOfNums ints ofB
  congr 1
  rw [List.map_map]
  congr 1
  conv => rhs; rw [← List.map_id l]
  apply List.map_congr_left
  intro c _
  simp
def posAt (w : World) (p : Nat) : Nat := (intOf ((w.cell? ⟨p, 2, none⟩).getD undef)).toNat
theorem Op.posAt (h : Op w0 w p line pos count lits vo l) : posAt w p = pos := by
  obtain ⟨A, cA, _, _, _, _, c2, _⟩ := h.cells
  unfold Sc.posAt
  rw [c2]; rfl
/-- The byte at k, and what is left behind it. -/
theorem drop_at (line : ByteArray) (k : Nat) (h : k < line.size) : (bytesL line).drop k = line[k] :: (bytesL line).drop (k + 1) := by
  unfold bytesL
  have : k < line.data.toList.length := by simpa using h
  rw [List.drop_eq_getElem_cons this]
  simp; rfl
theorem drop_end (line : ByteArray) (k : Nat) (h : line.size ≤ k) : (bytesL line).drop k = [] := by
  unfold bytesL
  apply List.drop_of_length_le
  simpa using h
theorem bytesL_len (line : ByteArray) : (bytesL line).length = line.size := by simp [bytesL]
theorem info5 : (Tryd.prog.info? 5).map (fun i => (i.zero, i.size, i.bytes)) = some (some (.int .u8 0), 1, 1) := by kernel_rfl
structure QI (w0 wr : World) (p : Nat) (line : ByteArray) (k count : Nat) (lits : List ByteArray) (vo : Value) (l : List FV) (v : Value) (out : List UInt8) : Prop where
  op : Op w0 wr p line k count lits vo l
  own : wr.ownsRow w0.heap.size 5 1 v (ints out).length (nums .u8 (ints out))
theorem QI.pos_ {wr : World} {k : Nat} {v : Value} {out : List UInt8} (q : QI w0 wr p line k count lits vo l v out) (n k' : Nat) (z : Int) (hz : z = (k' : Int)) :
    QI w0 ((wr.drewN n).setCell ⟨p, 2, none⟩ (.int .i64 z)) p line k' count lits vo l v out := by
  subst hz
  refine ⟨(q.op.drewN n).setPos k', own_setCell (pw_own_below q.own (pw_below_drewN (Below.refl _ _) n)) (fun e => ?_) _⟩
  obtain ⟨cs, _, _, hb, _⟩ := q.op.top
  obtain ⟨c2, h2⟩ := own_typed q.own p e.symm
  rw [hb] at h2; simp at h2
theorem QI.grow {wr w1 : World} {k : Nat} {v v1 : Value} {out : List UInt8} (q : QI w0 wr p line k count lits vo l v out) (n : Nat) {b : UInt8} (hown : w1.ownsRow w0.heap.size 5 1 v1 (ints out ++ [(b.toNat : Int)]).length (nums .u8 (ints out ++ [(b.toNat : Int)])))
    (hb : Below w0.heap.size w0 w1) (hg : (wr.drewN n).grownBy w1 v.ownBlock) : QI w0 w1 p line k count lits vo l v1 (out ++ [b]) := by
  refine ⟨Op.grown5 (q.op.drewN n) hg hb (fun g e => own_typed (pw_own_below q.own (pw_below_drewN (Below.refl _ _) n)) g e), ?_⟩
  rw [ints_snoc]; exact hown
theorem QI.conv {wr : World} {k : Nat} {v : Value} {out : List UInt8} (q : QI w0 wr p line k count lits vo l v out) : (convert 41 9 v).run Tryd.prog wr = .ok (.string (ofB out)) wr := by
  rw [← str_ints]
  exact own_string (P := Tryd.prog) Tryd.underlying41 Tryd.underlying5 Tryd.underlying9 q.own
theorem u8_of {b : UInt8} {ci : Int} (h : (b.toNat : Int) = ci) (n : Nat) (hn : n < 256) (e : ci = n) : b = UInt8.ofNat n := by
  rw [← UInt8.toNat_inj, UInt8.toNat_ofNat']
  omega
theorem u8_ne {b : UInt8} {ci : Int} (h : (b.toNat : Int) = ci) (n : Nat) (hn : n < 256) (e : ¬ ci = n) : b ≠ UInt8.ofNat n := by
  rintro rfl
  rw [UInt8.toNat_ofNat'] at h
  omega
/-- What quoted leaves. -/
def QPost (w0 : World) (p : Nat) (line : ByteArray) (count : Nat) (lits : List ByteArray) (vo : Value) (l : List FV) (R : Except Int (List UInt8 × List UInt8)) (e : Ending) (w' : World) : Prop :=
  match R with
  | .error c => e = .returned (.tuple #[.string ⟨#[]⟩, .int .i64 c]) ∧ Below w0.heap.size w0 w'
  | .ok (t, q) => e = .returned (.tuple #[.string (ofB t), .int .i64 0]) ∧ Op w0 w' p line (line.size - q.length) count lits vo l
theorem QPost.err {c : Int} {w' : World} (h : Below w0.heap.size w0 w') : QPost w0 p line count lits vo l (.error c) (.returned (.tuple #[.string ⟨#[]⟩, .int .i64 c])) w' := ⟨rfl, h⟩
theorem QPost.fine {t q : List UInt8} {w' : World} {k : Nat} (h : Op w0 w' p line k count lits vo l) (hk : line.size - q.length = k) : QPost w0 p line count lits vo l (.ok (t, q)) (.returned (.tuple #[.string (ofB t), .int .i64 0])) w' := ⟨rfl, by rw [hk]; exact h⟩
theorem qd34' (e : Int) (r out : List UInt8) : qd e (34 :: r) out = .ok (out, r) := by unfold qd; rw [if_pos rfl]
theorem qdbad {e : Int} {c : UInt8} {r out : List UInt8} (h : c ≠ 34) (h2 : gquote c = false) : qd e (c :: r) out = .error 31 := by unfold qd; rw [if_neg h, if_pos h2]
theorem qd92e (e : Int) (out : List UInt8) : qd e [92] out = .error e := by unfold qd; rw [if_neg (by decide), if_neg (by decide), if_pos rfl]
theorem qdnil (e : Int) (out : List UInt8) : qd e [] out = .error e := by unfold qd; rfl
theorem qd92 {e : Int} {d : UInt8} {r out : List UInt8} (h : d = 34 ∨ d = 92) : qd e (92 :: d :: r) out = qd e r (out ++ [d]) := by
  rw [show qd e (92 :: d :: r) out = _ from by unfold qd; rfl, if_neg (by decide), if_neg (by decide), if_pos rfl]
  simp only [if_pos h]
theorem qd92n {e : Int} {d : UInt8} {r out : List UInt8} (h : ¬ (d = 34 ∨ d = 92)) : qd e (92 :: d :: r) out = .error 31 := by
  rw [show qd e (92 :: d :: r) out = _ from by unfold qd; rfl, if_neg (by decide), if_neg (by decide), if_pos rfl]
  simp only [if_neg h]
theorem qdc {e : Int} {c : UInt8} {r out : List UInt8} (h : c ≠ 34) (h2 : gquote c = true) (h3 : c ≠ 92) : qd e (c :: r) out = qd e r (out ++ [c]) := by
  rw [show qd e (c :: r) out = _ from by unfold qd; rfl, if_neg h, if_neg (by rw [h2]; decide), if_neg h3]
set_option maxRecDepth 100000 in
set_option maxHeartbeats 4000000 in
theorem quoted_ok (h : Op w0 w p line pos count lits vo l) (hpos : pos < line.size) (hline : line.size ≤ 4096) :
    Calls Tryd.prog 57 #[.pointer (some ⟨p, 0, none⟩)] w (QPost w0 p line count lits vo l (qd (if 1 < l.length then 33 else 31) ((bytesL line).drop (pos + 1)) [])) := by
  obtain ⟨ee, hee⟩ : ∃ ee : Int, (if 1 < l.length then 33 else 31) = ee := ⟨_, rfl⟩
  rw [hee]
  have HEE : Hid _ := hee
  clear hee
  obtain ⟨R, hR⟩ : ∃ R, qd ee ((bytesL line).drop (pos + 1)) [] = R := ⟨_, rfl⟩
  rw [hR]
  obtain ⟨A, cA, hcA, hlit, c0, c1, c2, c3, c5, c4, cz⟩ := h.cells
  have hw1 : wrap64 ((pos : Int) + 1) = ((pos + 1 : Nat) : Int) := by unfold wrap64; omega
  have hp1 : (pos : Int) < 4096 := by omega
  have cz2 := cz 2
  have HI : Hid _ := QI.mk (v := .slice none 0 0) (out := []) (h.setPos (pos + 1)) (own_nil _ _ _ _)
  have HR : Hid _ := hR
  have HP : Hid _ := hpos
  have HL : Hid _ := hline
  clear h hR hpos hline c0 c1 c3 c5 c4 cz
  go_enter Tryd.func57, Tryd.ntmps57
  go_wp2
  clear hw1 hp1 c2 cz2 hcA hlit
  go_loopw [4] (fun vout wr => ∃ (k : Nat) (out : List UInt8), Hid (QI w0 wr p line k count lits vo l vout out ∧ out.length ≤ k ∧ k ≤ line.size ∧ qd ee ((bytesL line).drop k) out = R)) (fun _ wr => line.size - posAt wr p)
  case atStart => exact ⟨pos + 1, [], ⟨HI.out, Nat.zero_le _, HP.out, HR.out⟩⟩
  case round =>
    obtain ⟨k, out, HH⟩ := hrel
    obtain ⟨A', cA', _, _, d0, _, d2, _, _, d4, dz⟩ := HH.out.1.op.cells
    have HC4 : Hid _ := d4
    have hkl : (k : Int) ≤ 4096 := by have := HH.out.2.2.1; have := HL.out; omega
    have hk0 : (0 : Int) ≤ (k : Int) := by omega
    clear d4
    by_cases hlt : k < line.size
    · have hltb : decide ((k : Int) < (line.size : Int)) = true := decide_eq_true (by omega)
      have hlti : (k : Int) < (line.size : Int) := by omega
      obtain ⟨b, hb⟩ : ∃ b, line[k] = b := ⟨_, rfl⟩
      obtain ⟨ci, hci⟩ : ∃ ci : Int, (b.toNat : Int) = ci := ⟨_, rfl⟩
      have hix : ∀ h : k < line.size, ((line[k]'h).toNat : Int) = ci := fun h => by rw [hb]; exact hci
      have hcr : (0 : Int) ≤ ci ∧ ci < 256 := by have := b.toNat_lt; omega
      have hcr0 := hcr.1
      have hcr1 := hcr.2
      have hgd : wr.cell? ⟨p, 4 + ci.toNat, none⟩ = some (.int .u8 (gradeI ci)) := by
        have := HC4.out b.toNat b.toNat_lt
        rw [← hci, Int.toNat_natCast]; exact this
      have HCI : Hid _ := hci
      have HB : Hid _ := hb
      clear hci hb hcr
      go_wp2
      go_quiet (fail)
      obtain ⟨n1, rfl⟩ : ∃ n1, n1 = nq := ⟨_, rfl⟩
      go_wp2
      go_quiet (fail)
      obtain ⟨n2, rfl⟩ : ∃ n2, n2 = nq := ⟨_, rfl⟩
      have hb2 := HB.out
      have hci2 := HCI.out
      have hstep := HH.out.2.2.2
      rw [drop_at line k hlt, hb2] at hstep
      have HS : Hid _ := hstep
      clear hb2 hci2 hstep
      have hcv := fun n => (HH.out.1.pos_ n (k + 1) ((k : Int) + 1) (by omega)).conv
      by_cases e34 : ci = 34
      · have b34 : (ci == 34) = true := beq_iff_eq.2 e34
        have E34 : Hid _ := e34
        clear e34
        go_wp2
        go_ret2
        have hb34 := u8_of HCI.out 34 (by decide) E34.out
        have hS := HS.out
        have hb34' : b = 34 := hb34
        rw [hb34', qd34'] at hS
        rw [← hS]
        exact QPost.fine (HH.out.1.pos_ _ (k + 1) ((k : Int) + 1) (by omega)).op (by rw [List.length_drop, bytesL_len]; omega)
      · have b34 : (ci == 34) = false := beq_eq_false_iff_ne.2 e34
        have E34 : Hid _ := e34
        clear e34
        obtain ⟨gq, hgq⟩ : ∃ gq, Go.bits .and .u8 (gradeI ci) 8 = gq := ⟨_, rfl⟩
        have hgq2 := quote_of b
        rw [HCI.out, hgq] at hgq2
        by_cases eq : gq = 0
        · have bq : (gq == 0) = true := beq_iff_eq.2 eq
          have EQ : Hid _ := And.intro eq hgq2
          clear eq hgq2
          go_wp2
          go_ret2
          have hS := HS.out
          have hg : gquote b = false := by have := EQ.out.2; rw [decide_eq_true EQ.out.1] at this; simpa using this
          rw [qdbad (u8_ne HCI.out 34 (by decide) E34.out) hg] at hS
          rw [← hS]
          exact QPost.err (HH.out.1.op.drewN _).bel
        · have bq : (gq == 0) = false := beq_eq_false_iff_ne.2 eq
          have EQ : Hid _ := And.intro eq hgq2
          clear eq hgq2
          have hg : gquote b = true := by have := EQ.out.2; rw [decide_eq_false EQ.out.1] at this; simpa using this
          have HG : Hid _ := hg
          clear hg
          by_cases e92 : ci = 92
          · have b92 : (ci == 92) = true := beq_iff_eq.2 e92
            have E92 : Hid _ := e92
            clear e92
            have QQ : Hid _ := HH.out.1.pos_ (n1 + n2) (k + 1) ((k : Int) + 1) (by omega)
            obtain ⟨W1, hW1⟩ : ∃ W1, (wr.drewN (n1 + n2)).setCell ⟨p, 2, none⟩ (.int .i64 ((k : Int) + 1)) = W1 := ⟨_, rfl⟩
            rw [hW1] at QQ
            obtain ⟨_, _, _, _, f0, _, f2, _, _, _, fz⟩ := QQ.out.op.cells
            have hk1 : ((k + 1 : Nat) : Int) = (k : Int) + 1 := by omega
            have hk2 : (0 : Int) ≤ (k : Int) + 1 := by omega
            rw [hk1] at f2
            clear hk1
            by_cases hend : k + 1 = line.size
            · have bend : ((k : Int) + 1 == (line.size : Int)) = true := beq_iff_eq.2 (by omega)
              have HE : Hid _ := hend
              clear hend hcv
              go_wp2
              go_quiet (fail)
              go_wp2_with (go_at_call 64; refine (early_ok (QQ.out.op.drewN nq) 31).mono ?_; rw [HEE.out]; rintro e w' ⟨rfl, h'⟩; replace h' := h'.symm; subst h')
              go_ret2
              have hS := HS.out
              rw [show b = 92 from u8_of HCI.out 92 (by decide) E92.out, drop_end line (k + 1) (by have := HE.out; omega), qd92e] at hS
              rw [← hS]
              exact QPost.err (c := ee) (QQ.out.op.drewN _).bel
            · have bend : ((k : Int) + 1 == (line.size : Int)) = false := beq_eq_false_iff_ne.2 (by omega)
              have hk3 : k + 1 < line.size := by omega
              have hk4 : (k : Int) + 1 < (line.size : Int) := by omega
              obtain ⟨d, hd⟩ : ∃ d, line[k + 1] = d := ⟨_, rfl⟩
              obtain ⟨di, hdi⟩ : ∃ di : Int, (d.toNat : Int) = di := ⟨_, rfl⟩
              have hix2 : ∀ h : k + 1 < line.size, ((line[k + 1]'h).toNat : Int) = di := fun h => by rw [hd]; exact hdi
              have HD : Hid _ := And.intro hd hdi
              have hdr0 : (0 : Int) ≤ di := by omega
              have hdr1 : di < 256 := by have := d.toNat_lt; omega
              have HK : Hid _ := hk3
              clear hend hcv hd hdi
              go_wp2
              go_quiet (fail)
              obtain ⟨n3, rfl⟩ : ∃ n3, n3 = nq := ⟨_, rfl⟩
              go_wp2
              go_quiet (fail)
              obtain ⟨n4, rfl⟩ : ∃ n4, n4 = nq := ⟨_, rfl⟩
              have hdo : d = 34 ∨ d = 92 ↔ di = 34 ∨ di = 92 := by
                constructor
                · rintro (e | e)
                  · left; rw [← HD.out.2, e]; rfl
                  · right; rw [← HD.out.2, e]; rfl
                · rintro (e | e)
                  · exact .inl (u8_of HD.out.2 34 (by decide) e)
                  · exact .inr (u8_of HD.out.2 92 (by decide) e)
              by_cases hdd : d = 34 ∨ d = 92
              · have DD : Hid _ := hdd
                have hw := hdo.1 hdd
                clear hdd hdo
                have e97 : (di != 34) = false ∨ ((di != 34) = true ∧ (di != 92) = false) := by
                  by_cases e : di = 34
                  · exact .inl (by rw [e]; rfl)
                  · refine .inr ⟨by simpa using e, ?_⟩
                    rcases hw with h | h
                    · exact absurd h e
                    · rw [h]; rfl
                have HE97 : Hid _ := e97
                clear e97 hw
                rcases HE97.out with e1 | ⟨e1, e2'⟩
                · skip
                  have hbase : w0.heap.size ≤ (W1.drewN (n3 + n4)).heap.size := QQ.out.op.base
                  have HBASE : Hid _ := hbase
                  clear hbase hix2 hix hgd
                  go_wp2_with (first
                    | ((with_reducible refine gate_builtin (b := .append) (xs := #[.tmp 97, .tmp 99]) rfl ?_); at_builtin
                       refine print_append_num (w0 := w0) w0.heap.size rfl (.tmp 97) (.tmp 99) 41 5 .u8 1 rfl Tryd.underlying41 info5 (by decide) u4 (ints out) di rfl rfl (pw_own_below QQ.out.own (pw_below_drewN (Below.refl _ _) _)) (QQ.out.op.drewN _).bel HBASE.out (by have := HH.out.2.1; have := HH.out.2.2.1; have := HL.out; simp only [ints, List.length_map]; omega) ?_
                       intro v1 w1 hown1 hB1 hg1 hat1
                       have Q1 : Hid _ := (QQ.out.grow (n3 + n4) (b := d) (by rw [HD.out.2]; exact hown1) hB1 hg1)
                       obtain ⟨_, _, _, _, e0, _, e2, _, _, _, ez⟩ := Q1.out.op.cells
                       clear hown1 hB1 hg1 hat1)
                    | fail)
                  have hS := HS.out
                  rw [show b = 92 from u8_of HCI.out 92 (by decide) E92.out, drop_at line (k + 1) HK.out, HD.out.1, qd92 DD.out] at hS
                  have q2 := (Q1.out.pos_ 0 (k + 2) ((k : Int) + 1 + 1) (by omega))
                  have ep := q2.op.posAt
                  have eo := HH.out.1.op.posAt
                  have ee0 : w1.drewN 0 = w1 := rfl
                  rw [ee0] at q2 ep
                  exact ⟨⟨k + 2, out ++ [d], ⟨q2, by have := HH.out.2.1; simp; omega, by have := HK.out; omega, hS⟩⟩, by rw [ep, eo]; have := HK.out; omega⟩
                · skip
                  have hbase : w0.heap.size ≤ (W1.drewN (n3 + n4)).heap.size := QQ.out.op.base
                  have HBASE : Hid _ := hbase
                  clear hbase hix2 hix hgd
                  go_wp2_with (first
                    | ((with_reducible refine gate_builtin (b := .append) (xs := #[.tmp 97, .tmp 99]) rfl ?_); at_builtin
                       refine print_append_num (w0 := w0) w0.heap.size rfl (.tmp 97) (.tmp 99) 41 5 .u8 1 rfl Tryd.underlying41 info5 (by decide) u4 (ints out) di rfl rfl (pw_own_below QQ.out.own (pw_below_drewN (Below.refl _ _) _)) (QQ.out.op.drewN _).bel HBASE.out (by have := HH.out.2.1; have := HH.out.2.2.1; have := HL.out; simp only [ints, List.length_map]; omega) ?_
                       intro v1 w1 hown1 hB1 hg1 hat1
                       have Q1 : Hid _ := (QQ.out.grow (n3 + n4) (b := d) (by rw [HD.out.2]; exact hown1) hB1 hg1)
                       obtain ⟨_, _, _, _, e0, _, e2, _, _, _, ez⟩ := Q1.out.op.cells
                       clear hown1 hB1 hg1 hat1)
                    | fail)
                  have hS := HS.out
                  rw [show b = 92 from u8_of HCI.out 92 (by decide) E92.out, drop_at line (k + 1) HK.out, HD.out.1, qd92 DD.out] at hS
                  have q2 := (Q1.out.pos_ 0 (k + 2) ((k : Int) + 1 + 1) (by omega))
                  have ep := q2.op.posAt
                  have eo := HH.out.1.op.posAt
                  have ee0 : w1.drewN 0 = w1 := rfl
                  rw [ee0] at q2 ep
                  exact ⟨⟨k + 2, out ++ [d], ⟨q2, by have := HH.out.2.1; simp; omega, by have := HK.out; omega, hS⟩⟩, by rw [ep, eo]; have := HK.out; omega⟩
              · have hw := fun h => hdd (hdo.2 h)
                have DD : Hid _ := hdd
                have e1 : (di != 34) = true := by simpa using fun h => hw (.inl h)
                have e2' : (di != 92) = true := by simpa using fun h => hw (.inr h)
                clear hdd hdo hw
                go_wp2
                go_ret2
                have hS := HS.out
                rw [show b = 92 from u8_of HCI.out 92 (by decide) E92.out, drop_at line (k + 1) HK.out, HD.out.1, qd92n DD.out] at hS
                rw [← hS]
                exact QPost.err ((QQ.out.op.drewN _).bel)
          · have b92 : (ci == 92) = false := beq_eq_false_iff_ne.2 e92
            have E92 : Hid _ := e92
            clear e92
            have hbase : w0.heap.size ≤ (wr.drewN (n1 + n2)).heap.size := HH.out.1.op.base
            have HBASE : Hid _ := hbase
            clear hbase hcv hix
            go_wp2_with (first
              | ((with_reducible refine gate_builtin (b := .append) (xs := #[.tmp 97, .tmp 99]) rfl ?_); at_builtin
                 refine print_append_num (w0 := w0) w0.heap.size rfl (.tmp 97) (.tmp 99) 41 5 .u8 1 rfl Tryd.underlying41 info5 (by decide) u4 (ints out) ci rfl rfl (pw_own_below HH.out.1.own (pw_below_drewN (Below.refl _ _) _)) (HH.out.1.op.drewN _).bel HBASE.out (by have := HH.out.2.1; have := HH.out.2.2.1; have := HL.out; simp only [ints, List.length_map]; omega) ?_
                 intro v1 w1 hown1 hB1 hg1 hat1
                 have Q1 : Hid _ := (HH.out.1.grow (n1 + n2) (b := b) (by rw [HCI.out]; exact hown1) hB1 hg1)
                 obtain ⟨_, _, _, _, f0, _, f2, _, _, _, fz⟩ := Q1.out.op.cells
                 clear hown1 hB1 hg1 hat1)
              | fail)
            have hS := HS.out
            rw [qdc (u8_ne HCI.out 34 (by decide) E34.out) HG.out (u8_ne HCI.out 92 (by decide) E92.out)] at hS
            have q2 := (Q1.out.pos_ 0 (k + 1) ((k : Int) + 1) (by omega))
            have ep := q2.op.posAt
            have eo := HH.out.1.op.posAt
            have e0 : w1.drewN 0 = w1 := rfl
            rw [e0] at q2 ep
            exact ⟨⟨k + 1, out ++ [b], ⟨q2, by have := HH.out.2.1; simp; omega, by have := HH.out.2.2.1; omega, hS⟩⟩, by rw [ep, eo]; omega⟩
    · have hltb : decide ((k : Int) < (line.size : Int)) = false := decide_eq_false (by omega)
      have HNL : Hid _ := hlt
      clear hlt
      go_wp2
      go_quiet (fail)
      go_wp2_with (go_at_call 64; refine (early_ok (HH.out.1.op.drewN nq) 31).mono ?_; rw [HEE.out]; rintro e w' ⟨rfl, h'⟩; replace h' := h'.symm; subst h')
      go_ret2
      have hS := HH.out.2.2.2
      rw [drop_end line k (by have := HNL.out; omega), qdnil] at hS
      rw [← hS]
      exact QPost.err (c := ee) (HH.out.1.op.drewN _).bel
end Go.Proofs.YtbgcapgjnflmoaaDoor.Sc
