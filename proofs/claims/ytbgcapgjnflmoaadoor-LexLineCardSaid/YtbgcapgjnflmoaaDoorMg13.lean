/- Contracts of the functions that the statement reaches, and plain lemmas: ScWr, ScStr. -/
import Derived.Test.YtbgcapgjnflmoaaDoorMg4
import Derived.Lib.UnsafeStr
import Derived.Lib.Builder
set_option linter.unusedVariables false
set_option linter.unusedSimpArgs false
set_option linter.unnecessarySimpa false
/- A writer in memory: a Builder with a list of literals behind it; its methods by contract. -/
namespace Go.Proofs.YtbgcapgjnflmoaaDoor.Sc
open Go.RowKit Go.Proofs.YtbgcapgjnflmoaaDoorW.PrintWords Go.Proofs.YtbgcapgjnflmoaaDoorW.PrintMore Go.Proofs.YtbgcapgjnflmoaaDoor.PLx
variable {w0 w w1 : World} {p : Nat} {out : List UInt8} {lits : List ByteArray} {pv v u : Value}
abbrev sv (l : List ByteArray) : List Value := encs Value.string l
theorem sv_len (l : List ByteArray) : (sv l).length = l.length := encs_length _

/-- The writer at block p holds the bytes out and the literals lits; w0: the world in which Join was called. -/
structure WrI (w0 w : World) (p : Nat) (out : List UInt8) (lits : List ByteArray) (pv v u : Value) : Prop where
  bel : Below w0.heap.size w0 w
  low : w0.heap.size ≤ p
  top : w.heap[p]? = some (.cells #[pv, v, u] 64 (0, 0))
  pvo : pv = .pointer none ∨ pv = .pointer (some ⟨p, 0, none⟩)
  buf : w.ownsRow w0.heap.size 5 1 v (ints out).length (nums .u8 (ints out))
  lit : w.ownsRow w0.heap.size 9 1 u (sv lits).length (sv lits)
theorem WrI.nv (h : WrI w0 w p out lits pv v u) : v.ownBlock ≠ some p := fun e => by
  obtain ⟨cs, hcs⟩ := own_typed h.buf p e
  have := h.top
  rw [hcs] at this; simp at this
theorem WrI.nu (h : WrI w0 w p out lits pv v u) : u.ownBlock ≠ some p := fun e => by
  obtain ⟨cs, hcs⟩ := own_typed h.lit p e
  have := h.top
  rw [hcs] at this; simp at this
theorem WrI.nvu (h : WrI w0 w p out lits pv v u) : ∀ k, v.ownBlock = some k → u.ownBlock ≠ some k := fun k e e2 => by
  obtain ⟨cs, hcs⟩ := own_typed h.buf k e
  obtain ⟨c2, h2⟩ := own_typed h.lit k e2
  rw [hcs] at h2; simp at h2
theorem WrI.base (h : WrI w0 w p out lits pv v u) : w0.heap.size ≤ w.heap.size := h.bel.size
theorem WrI.cells (h : WrI w0 w p out lits pv v u) : w.cell? ⟨p, 0, none⟩ = some pv ∧ w.cell? ⟨p, 1, none⟩ = some v ∧ w.cell? ⟨p, 2, none⟩ = some u ∧ ∀ i, w.frozen? ⟨p, i, none⟩ = false := ⟨blk_cell h.top 0, blk_cell h.top 1, blk_cell h.top 2, blk_frozen h.top⟩
theorem WrI.move (h : WrI w0 w p out lits pv v u) (hb : Below w.heap.size w w1) : WrI w0 w1 p out lits pv v u :=
  ⟨below_then h.bel h.base hb, h.low, blk_below h.top hb, h.pvo, pw_own_below h.buf hb, pw_own_below h.lit hb⟩
theorem WrI.used (h : WrI w0 w p out lits pv v u) : WrI w0 (w.setCell ⟨p, 0, none⟩ (.pointer (some ⟨p, 0, none⟩))) p out lits (.pointer (some ⟨p, 0, none⟩)) v u :=
  ⟨h.bel.setCell (p := ⟨p, 0, none⟩) h.low _, h.low, blk_set h.top 0 _, .inr rfl, own_setCell h.buf (fun e => h.nv e.symm) _, own_setCell h.lit (fun e => h.nu e.symm) _⟩
/-- The buffer has grown. -/
theorem WrI.put {out' : List UInt8} {v' : Value} (h : WrI w0 w p out lits pv v u) (hb : Below w0.heap.size w0 w1) (hg : w.grownBy w1 v.ownBlock) (hown : w1.ownsRow w0.heap.size 5 1 v' (ints out').length (nums .u8 (ints out'))) :
    WrI w0 (w1.setCell ⟨p, 1, none⟩ v') p out' lits pv v' u := by
  have ht := (hg.block p (blk_lt h.top) (fun e => h.nv e.symm)).trans h.top
  have hl : w1.ownsRow w0.heap.size 9 1 u (sv lits).length (sv lits) := own_move h.lit (fun k e => hg.block k (own_lt h.lit k e) (fun e2 => h.nvu k e2.symm e))
  have hnv' : v'.ownBlock ≠ some p := fun e => by
    obtain ⟨cs, hcs⟩ := own_typed hown p e
    rw [hcs] at ht; simp at ht
  exact ⟨hb.setCell (p := ⟨p, 1, none⟩) h.low _, h.low, blk_set ht 1 _, h.pvo, own_setCell hown (fun e => hnv' e.symm) _, own_setCell hl (fun e => h.nu e.symm) _⟩
/-- A literal more. -/
theorem WrI.putLit {lits' : List ByteArray} {u' : Value} (h : WrI w0 w p out lits pv v u) (hb : Below w0.heap.size w0 w1) (hg : w.grownBy w1 u.ownBlock) (hown : w1.ownsRow w0.heap.size 9 1 u' (sv lits').length (sv lits')) :
    WrI w0 (w1.setCell ⟨p, 2, none⟩ u') p out lits' pv v u' := by
  have ht := (hg.block p (blk_lt h.top) (fun e => h.nu e.symm)).trans h.top
  have hl : w1.ownsRow w0.heap.size 5 1 v (ints out).length (nums .u8 (ints out)) := own_move h.buf (fun k e => hg.block k (own_lt h.buf k e) (fun e2 => h.nvu k e e2.symm))
  have hnu' : u'.ownBlock ≠ some p := fun e => by
    obtain ⟨cs, hcs⟩ := own_typed hown p e
    rw [hcs] at ht; simp at ht
  exact ⟨hb.setCell (p := ⟨p, 2, none⟩) h.low _, h.low, blk_set ht 2 _, h.pvo, own_setCell hl (fun e => h.nv e.symm) _, own_setCell hown (fun e => hnu' e.symm) _⟩
theorem cell_row6 {row : Option Nat} {g i : Nat} {x : Value} (hg : w.grownBy w1 row) (hn : row ≠ some g) (hl : g < w.heap.size) (hc : w.cell? ⟨g, i, none⟩ = some x) : w1.cell? ⟨g, i, none⟩ = some x := by
  have e := hg.block g hl (fun e => hn e.symm)
  rw [← hc]; unfold World.cell?; rw [e]
theorem froz_row6 {row : Option Nat} {g i : Nat} (hg : w.grownBy w1 row) (hn : row ≠ some g) (hl : g < w.heap.size) (hc : w.frozen? ⟨g, i, none⟩ = false) : w1.frozen? ⟨g, i, none⟩ = false := by
  have e := hg.block g hl (fun e => hn e.symm)
  rw [← hc]; unfold World.frozen?; rw [e]
/-- All but the writer's own two blocks is as it was. -/
def Fr6 (w w' : World) (p : Nat) (v : Value) : Prop := w.heap.size ≤ w'.heap.size ∧ ∀ k, k < w.heap.size → k ≠ p → some k ≠ v.ownBlock → w'.heap[k]? = w.heap[k]?
theorem Fr6.put {w w1 w2 : World} {p : Nat} {v : Value} (h : Fr6 w w1 p v) (hg : w1.grownBy w2 v.ownBlock) (x : Value) : Fr6 w (w2.setCell ⟨p, 1, none⟩ x) p v :=
  ⟨by simpa [World.setCell] using Nat.le_trans h.1 hg.size, fun k hk hkp hv => (Below.heap_setCell w2 ⟨p, 1, none⟩ x k hkp).trans ((hg.block k (Nat.lt_of_lt_of_le hk h.1) hv).trans (h.2 k hk hkp hv))⟩
set_option maxRecDepth 100000 in
set_option maxHeartbeats 1000000 in
theorem copy_ok (h : WrI w0 w p out lits pv v u) : Calls Tryd.prog 58 #[.pointer (some ⟨p, 0, none⟩)] w fun e w' => e = .returned (.tuple #[]) ∧ WrI w0 w' p out lits (.pointer (some ⟨p, 0, none⟩)) v u ∧ Fr6 w w' p v := by
  obtain ⟨c0, c1, c2, cz⟩ := h.cells
  have hsz : (Tryd.prog.info? 62).map (·.size) = some 2 := by kernel_rfl
  obtain ⟨j, hj, hjs⟩ := Option.map_eq_some_iff.1 hsz
  have hsh : w.shape? p = some (64, 3) := by simp [World.shape?, h.top]
  have hfz := cz 0
  rcases h.pvo with rfl | rfl
  · have H0 : Hid _ := And.intro h.used (show Fr6 w (w.setCell ⟨p, 0, none⟩ (.pointer (some ⟨p, 0, none⟩))) p v from ⟨by simp [World.setCell], fun k _ hk _ => Below.heap_setCell w ⟨p, 0, none⟩ (.pointer (some ⟨p, 0, none⟩)) k hk⟩)
    clear h
    go_enter Tryd.func58, Tryd.ntmps58
    go_wp2
    rw [Lib.run_to_unsafe w ⟨p, 0, none⟩ Tryd.underlying60 Tryd.underlying99 hj (by rw [hjs]; decide) hsh (Nat.zero_lt_succ 2)]
    simp only [Result.andThen]
    rw [Oper.upon_value]
    go_wp2
    rw [run_callFunc_extern Tryd.func65 (by kernel_rfl) (by kernel_rfl) (by kernel_rfl) (e := Extern.AbiNoEscape.same) (by kernel_rfl)]
    rw [Lib.run_noEscape]
    simp only [Result.andThen]
    rw [Oper.upon_value]
    go_wp2
    rw [Lib.run_from_unsafe w ⟨p, 0, none⟩ Tryd.underlying99 Tryd.underlying60 hj hsh (by kernel_rfl)]
    simp only [Result.andThen]
    rw [Oper.upon_value]
    go_wp2
    go_end0
    exact ⟨rfl, H0.out⟩
  · have H0 : Hid _ := And.intro h (show Fr6 w w p v from ⟨Nat.le_refl _, fun k _ _ _ => rfl⟩)
    clear h
    go_enter Tryd.func58, Tryd.ntmps58
    go_wp2
    rw [Lib.run_neq_ptr_same w _ Tryd.underlying60 hj]
    go_wp2
    go_end0
    exact ⟨rfl, H0.out⟩
set_option maxRecDepth 100000 in
theorem len_ok (h : WrI w0 w p out lits pv v u) : Calls Tryd.prog 44 #[.pointer (some ⟨p, 0, none⟩)] w fun e w' => e = .returned (.int .i64 out.length) ∧ w' = w := by
  obtain ⟨c0, c1, c2, cz⟩ := h.cells
  obtain ⟨ao, cap, rfl⟩ := own_slice h.buf
  have e : ((ints out).length : Int) = (out.length : Int) := by simp [ints]
  clear h
  go_enter Tryd.func44, Tryd.ntmps44
  go_wp2
  go_ret
  exact ⟨by rw [← e]; rfl, rfl⟩
set_option maxRecDepth 100000 in
set_option maxHeartbeats 1000000 in
theorem wbyte_ok (h : WrI w0 w p out lits pv v u) (c : UInt8) (hl : out.length ≤ 1000000000) : Calls Tryd.prog 43 #[.pointer (some ⟨p, 0, none⟩), .int .u8 c.toNat] w fun e w' => e = .returned .nilIface ∧ ∃ v', WrI w0 w' p (out ++ [c]) lits (.pointer (some ⟨p, 0, none⟩)) v' u ∧ Fr6 w w' p v := by
  have HC : Hid _ := copy_ok h
  obtain ⟨ao, cap, rfl⟩ := own_slice h.buf
  obtain ⟨ci, hci⟩ : ∃ ci : Int, (c.toNat : Int) = ci := ⟨_, rfl⟩
  rw [hci]
  have HCI : Hid _ := hci
  have HL : Hid _ := hl
  clear h hci hl
  go_enter Tryd.func43, Tryd.ntmps43
  go_wp2_with (first
    | (go_at_call 58; refine Calls.mono HC.out ?_; rintro e w1 ⟨rfl, h1, hf1⟩; obtain ⟨d0, d1, d2, dz⟩ := h1.cells; have H1 : Hid _ := h1; have HF1 : Hid _ := hf1; have hbase : Hid _ := h1.base; clear h1 hf1)
    | ((with_reducible refine gate_builtin (b := .append) (xs := #[.tmp 11, .tmp 13]) rfl ?_); at_builtin
       refine print_append_num (w0 := w0) w0.heap.size rfl (.tmp 11) (.tmp 13) 41 5 .u8 1 rfl Tryd.underlying41 info5 (by decide) _ (ints out) ci rfl rfl H1.out.buf H1.out.bel hbase.out (by have := HL.out; simp only [ints, List.length_map]; omega) ?_
       intro v1 w2 hown1 hB1 hg1 hat1
       obtain ⟨A1, k1, rfl⟩ := own_slice hown1
       have hx1 := cell_row6 hg1 H1.out.nv (blk_lt H1.out.top) d1
       have hz1 := froz_row6 hg1 H1.out.nv (blk_lt H1.out.top) (dz 1)
       have hp := (H1.out.put (out' := out ++ [c]) hB1 hg1 (by rw [ints_snoc, HCI.out]; exact hown1))
       rw [show (ints out ++ [ci]).length = (ints out).length + 1 by simp] at hp
       have hfr := Fr6.put HF1.out hg1 (.slice A1 ((ints out).length + 1) k1)
       have HP : Hid _ := And.intro hp hfr
       clear hp hfr
       clear hown1 hB1 hg1 hat1))
  go_ret
  exact ⟨rfl, _, HP.out.1, HP.out.2⟩
set_option maxRecDepth 100000 in
set_option maxHeartbeats 1000000 in
theorem wstr_ok (h : WrI w0 w p out lits pv v u) (s : ByteArray) (hl : out.length + s.size ≤ 1000000000) : Calls Tryd.prog 45 #[.pointer (some ⟨p, 0, none⟩), .string s] w fun e w' => e = .returned (.tuple #[.int .i64 s.size, .nilIface]) ∧ ∃ v', WrI w0 w' p (out ++ bytesL s) lits (.pointer (some ⟨p, 0, none⟩)) v' u ∧ Fr6 w w' p v := by
  have HC : Hid _ := copy_ok h
  obtain ⟨ao, cap, rfl⟩ := own_slice h.buf
  have HL : Hid _ := hl
  clear h hl
  go_enter Tryd.func45, Tryd.ntmps45
  go_wp2_with (first
    | (go_at_call 58; refine Calls.mono HC.out ?_; rintro e w1 ⟨rfl, h1, hf1⟩; obtain ⟨d0, d1, d2, dz⟩ := h1.cells; have H1 : Hid _ := h1; have HF1 : Hid _ := hf1; have hbase : Hid _ := h1.base; clear h1 hf1)
    | ((with_reducible refine gate_builtin (b := .append) (xs := #[.tmp 12, .tmp 13]) rfl ?_); at_builtin
       refine print_append_str (w0 := w0) w0.heap.size rfl (.tmp 12) (.tmp 13) 41 9 5 rfl Tryd.underlying41 Tryd.underlying9 info5 _ (ints out) s rfl rfl H1.out.buf H1.out.bel hbase.out (by have := HL.out; simp only [ints, List.length_map]; omega) ?_
       intro v1 w2 hown1 hB1 hg1
       obtain ⟨A1, k1, rfl⟩ := own_slice hown1
       have hx1 := cell_row6 hg1 H1.out.nv (blk_lt H1.out.top) d1
       have hz1 := froz_row6 hg1 H1.out.nv (blk_lt H1.out.top) (dz 1)
       have hp := (H1.out.put (out' := out ++ bytesL s) hB1 hg1 (by rw [show ints (out ++ bytesL s) = ints out ++ bytesOf s by unfold ints bytesOf bytesL; rw [List.map_append]]; exact hown1))
       rw [List.length_append] at hp
       have hfr := Fr6.put HF1.out hg1 (.slice A1 ((ints out).length + (bytesOf s).length) k1)
       have HP : Hid _ := And.intro hp hfr
       clear hp hfr
       clear hown1 hB1 hg1))
  go_ret2
  exact ⟨rfl, _, HP.out.1, HP.out.2⟩
/-- The writer, read: its buffer may be frozen. -/
structure WrS (w0 w : World) (p : Nat) (out : List UInt8) (lits : List ByteArray) (pv : Value) (g cap : Nat) (u : Value) : Prop where
  bel : Below w0.heap.size w0 w
  low : w0.heap.size ≤ g
  top : w.heap[p]? = some (.cells #[pv, .slice (some ⟨g, 0, none⟩) out.length cap, u] 64 (0, 0))
  buf : ∃ (cur : Array Value) (fr : Nat × Nat), w.heap[g]? = some (.cells cur 5 fr) ∧ out.length ≤ cur.size ∧ ∀ (j : Nat) (x : UInt8), out[j]? = some x → cur[j]? = some (Value.int .u8 (x.toNat : Int))
  capn : cap ≠ 0
  lit : w.ownsRow w0.heap.size 9 1 u (sv lits).length (sv lits)
theorem WrI.read (h : WrI w0 w p out lits pv v u) (h0 : out ≠ []) : ∃ g cap, v = .slice (some ⟨g, 0, none⟩) out.length cap ∧ WrS w0 w p out lits pv g cap u := by
  have e : (ints out).length = out.length := by simp [ints]
  have hl0 : out.length ≠ 0 := by simpa using h0
  have hb := h.buf
  rw [e] at hb
  rcases hb.2 with ⟨_, hz⟩ | ⟨g, cap, cur, hv, hbg, hg, hnc, hcm, hcs, ht⟩
  · exact absurd hz hl0
  · subst hv
    refine ⟨g, cap, rfl, h.bel, hbg, h.top, ⟨cur, (0, 0), hg, by omega, fun j x hx => ?_⟩, by omega, h.lit⟩
    have hj := (List.getElem?_eq_some_iff.1 hx).1
    have hc := hb.cells (g := g) rfl j (.int .u8 (x.toNat : Int)) (by simp [nums, ints, hx])
    rw [add_plain, blk_cell hg] at hc
    exact hc
end Go.Proofs.YtbgcapgjnflmoaaDoor.Sc

/- The writer's String. -/
namespace Go.Proofs.YtbgcapgjnflmoaaDoor.Sc
open Go.RowKit Go.Proofs.YtbgcapgjnflmoaaDoorW.PrintWords Go.Proofs.YtbgcapgjnflmoaaDoorW.PrintMore Go.Proofs.YtbgcapgjnflmoaaDoor.PLx
variable {w0 w w1 : World} {p : Nat} {out : List UInt8} {lits : List ByteArray} {pv v u : Value}
set_option maxRecDepth 100000 in
set_option maxHeartbeats 1000000 in
theorem string_ok {g cap : Nat} (h : WrS w0 w p out lits pv g cap u) (h0 : out ≠ []) (hl : out.length ≤ 1000000000) : Calls Tryd.prog 27 #[.pointer (some ⟨p, 0, none⟩)] w fun e w' => e = .returned (.string (ofB out)) ∧ WrS w0 w' p out lits pv g cap u := by
  obtain ⟨cur, fr, hg, hcl, hcc⟩ := h.buf
  have hl0 : out.length ≠ 0 := by simpa using h0
  have c1 : w.drew.cell? ⟨p, 1, none⟩ = some (.slice (some ⟨g, 0, none⟩) out.length cap) := by
    have : w.drew.heap[p]? = some (.cells #[pv, .slice (some ⟨g, 0, none⟩) out.length cap, u] 64 (0, 0)) := h.top
    rw [Lib.cell_of_heap this]; rfl
  have hSD : (Builtin.unsafeSliceData_ #[41] 87 #[.slice (some ⟨g, 0, none⟩) out.length cap]).run Tryd.prog w.drew = .ok (.pointer (some ⟨g, 0, none⟩)) w.drew :=
    Lib.run_unsafeSliceData_row _ _ _ _ _ _ h.capn
  have hg' : w.drew.heap[g]? = some (.cells cur 5 fr) := hg
  have hUS : (Builtin.unsafeString_ #[87, 3] 9 #[.pointer (some ⟨g, 0, none⟩), .int .i64 out.length]).run Tryd.prog w.drew = .ok (.string ⟨out.toArray⟩) (w.drew.freeze ⟨g, 0, none⟩ out.length) := by
    refine Lib.run_unsafeString_row w.drew 87 3 9 5 Tryd.underlying87 (by kernel_rfl) g cur.size (by simp [World.shape?, hg']) out h0 (by omega) (by omega) ?_
    intro j x hx
    rw [add_plain, Lib.cell_of_heap hg']
    exact hcc j x hx
  have hst : WrS w0 (w.drew.freeze ⟨g, 0, none⟩ out.length) p out lits pv g cap u := by
    have hne : g ≠ p := by
      rintro rfl
      have := h.top
      rw [hg] at this; simp at this
    have hfar : ∀ k, k ≠ g → (w.drew.freeze ⟨g, 0, none⟩ out.length).heap[k]? = w.heap[k]? := fun k hk => by
      unfold World.freeze
      rw [if_neg hl0]
      show (w.heap.modify g _)[k]? = _
      rw [Array.getElem?_modify, if_neg (Ne.symm hk)]
    refine ⟨Lib.below_freeze (Below.drew h.bel) (p := ⟨g, 0, none⟩) h.low _, h.low, (hfar p (Ne.symm hne)).trans h.top, ?_, h.capn, own_move h.lit (fun k hk => hfar k (fun e => by
      obtain ⟨cs, hcs⟩ := own_typed h.lit k hk
      rw [e, hg] at hcs; simp at hcs))⟩
    have : ∃ fr', (w.drew.freeze ⟨g, 0, none⟩ out.length).heap[g]? = some (.cells cur 5 fr') := by
      unfold World.freeze
      rw [if_neg hl0]
      show ∃ fr', (w.heap.modify g _)[g]? = _
      rw [Array.getElem?_modify, if_pos rfl, hg]
      exact ⟨_, rfl⟩
    obtain ⟨fr', hfr⟩ := this
    exact ⟨cur, fr', hfr, hcl, hcc⟩
  have HST : Hid _ := hst
  clear h hst hg hg' hcc hcl
  have mixed : Tryd.prog.follows Departure.mixedOrders = true := by kernel_rfl
  go_enter Tryd.func27, Tryd.ntmps27
  go_wp2
  go_region_o
  all_goals (go_wp2; go_ret; exact ⟨rfl, HST.out⟩)
end Go.Proofs.YtbgcapgjnflmoaaDoor.Sc
