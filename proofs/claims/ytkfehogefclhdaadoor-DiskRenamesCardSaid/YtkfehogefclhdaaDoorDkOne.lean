/- The disk's small methods, each by its contract. -/
import Derived.Test.YtkfehogefclhdaaDoorDkRel
namespace Go.Proofs.YtkfehogefclhdaaDoor.Dk
open Go.RowKit Go.Maps Go.Proofs.YtkfehogefclhdaaDoorW.PrintWords
open Go.Maps (Keyed)
variable {N : Nat} {w : World} {p : Nat} {F : Nat → Prop} {s : St} {m : Nat} {pv : Value}

theorem not_run (x : Bool) (w : World) : (Op.unary .not (.bool x)).run Tryd.prog w = .ok (.bool (!x)) w := rfl
theorem zero79 (w : World) : (zeroValue 79).run Tryd.prog w = .ok (.pointer none) w := by kernel_rfl
theorem key_of {x : ByteArray} (hx : x.size ≤ maxLen) : keyOf Tryd.prog 9 (.string x) = some (kl x) := WideMaps.keyOf_string_mk Tryd.underlying9 hx
def at' (fs : List Fil) (x : ByteArray) : Option Nat := (look fs x).map Fil.blk
theorem look_run {fs : List Fil} {n : Nat} (h : MapIs w m n fs) {x : ByteArray} (hx : x.size ≤ maxLen) : (Instr.lookup 75 (.map (some m)) (.string x) false).run Tryd.prog w = .ok (ptr (at' fs x)) w := by
  obtain ⟨D, ho, h2, _⟩ := h
  obtain ⟨v, ps, hrun, hv⟩ := ho.lookup (zd := dat none) (zp := []) law9 Tryd.underlying75 (zero79 w) rfl (key_of hx)
  obtain ⟨o, rfl, ho2⟩ := rp_inv hv
  simp only [Prod.mk.injEq] at ho2
  rw [h2] at ho2
  rw [hrun, ← dat_inj ho2.1]; rfl

set_option maxRecDepth 100000 in
theorem none_ok (h : Is N w p F s m pv) : Calls Tryd.prog 50 #[.pointer (some ⟨p, 0, none⟩)] w fun e w' => e = .returned (.bool false) ∧ w' = w := by
  obtain ⟨c0, c1, c2, c3, c4, c5⟩ := h.cells
  have hmn := fun w => run_eql_map_nil (P := Tryd.prog) w 75 9 79 (some m) Tryd.underlying75
  clear h
  go_enter Tryd.func50, Tryd.ntmps50
  go_wp2
  go_ret
  exact ⟨rfl, rfl⟩
set_option maxRecDepth 100000 in
theorem down_ok (h : Is N w p F s m pv) : Calls Tryd.prog 18 #[.pointer (some ⟨p, 0, none⟩)] w fun e w' => e = .returned (.bool (!s.run)) ∧ w' = w := by
  obtain ⟨c0, c1, c2, c3, c4, c5⟩ := h.cells
  have hnot := not_run
  go_enter Tryd.func18, Tryd.ntmps18
  go_wp2_with (go_at_call 50; refine (none_ok h).mono ?_; rintro e w' ⟨rfl, rfl⟩)
  go_ret
  exact ⟨rfl, rfl⟩
set_option maxRecDepth 100000 in
theorem quota_ok (h : Is N w p F s m pv) : Calls Tryd.prog 22 #[.pointer (some ⟨p, 0, none⟩)] w fun e w' => e = .returned (.int .i64 s.quota) ∧ w' = w := by
  obtain ⟨c0, c1, c2, c3, c4, c5⟩ := h.cells
  go_enter Tryd.func22, Tryd.ntmps22
  go_wp2_with (go_at_call 50; refine (none_ok h).mono ?_; rintro e w' ⟨rfl, rfl⟩)
  go_ret
  exact ⟨rfl, rfl⟩
set_option maxRecDepth 100000 in
theorem steps_ok (h : Is N w p F s m pv) : Calls Tryd.prog 24 #[.pointer (some ⟨p, 0, none⟩)] w fun e w' => e = .returned (.int .i64 s.steps) ∧ w' = w := by
  obtain ⟨c0, c1, c2, c3, c4, c5⟩ := h.cells
  go_enter Tryd.func24, Tryd.ntmps24
  go_wp2_with (go_at_call 50; refine (none_ok h).mono ?_; rintro e w' ⟨rfl, rfl⟩)
  go_ret
  exact ⟨rfl, rfl⟩
theorem look_mem {fs : List Fil} {x : ByteArray} {f : Fil} (h : look fs x = some f) : f ∈ fs ∧ f.name = x := by
  have h2 := List.find?_some h
  exact ⟨List.mem_of_find?_eq_some h, by simpa using h2⟩
set_option maxRecDepth 100000 in
theorem size_none (h : Is N w p F s m pv) (x : ByteArray) (hx : x.size ≤ maxLen) (hl : look s.fs x = none) : Calls Tryd.prog 21 #[.pointer (some ⟨p, 0, none⟩), .string x] w fun e w' => e = .returned (.int .i64 (-1)) ∧ w' = w := by
  obtain ⟨c0, c1, c2, c3, c4, c5⟩ := h.cells
  have hk := look_run h.files hx
  unfold at' at hk; rw [hl] at hk; simp only [Option.map_none, ptr] at hk
  go_enter Tryd.func21, Tryd.ntmps21
  go_wp2_with (go_at_call 50; refine (none_ok h).mono ?_; rintro e w' ⟨rfl, rfl⟩)
  go_ret
  exact ⟨rfl, rfl⟩
set_option maxRecDepth 100000 in
theorem size_some (h : Is N w p F s m pv) (x : ByteArray) (hx : x.size ≤ maxLen) {f : Fil} (hl : look s.fs x = some f) : Calls Tryd.prog 21 #[.pointer (some ⟨p, 0, none⟩), .string x] w fun e w' => e = .returned (.int .i64 f.bytes.size) ∧ w' = w := by
  obtain ⟨c0, c1, c2, c3, c4, c5⟩ := h.cells
  have hk := look_run h.files hx
  unfold at' at hk; rw [hl] at hk; simp only [Option.map_some, ptr] at hk
  have b0 := blk_cell (h.each f (look_mem hl).1) 0
  simp only [List.getElem?_toArray, List.getElem?_cons_zero] at b0
  go_enter Tryd.func21, Tryd.ntmps21
  go_wp2_with (go_at_call 50; refine (none_ok h).mono ?_; rintro e w' ⟨rfl, rfl⟩)
  go_ret
  exact ⟨rfl, rfl⟩
/-- Start's disk. -/
def St.start (s : St) : St := { s with run := true, since := if s.run then s.since else 0 }
theorem Is.set (h : Is N w p F s m pv) (s' : St) (w' : World) (e1 : s'.quota = s.quota) (e2 : s'.plan = s.plan) (e3 : s'.fs = s.fs) (ht : w'.heap[p]? = some (.cells (cellsOf s' m pv) 77 (0, 0))) (hk : ∀ i, F i → i ≠ p → w'.heap[i]? = w.heap[i]?) (hs : w.heap.size ≤ w'.heap.size) : Is N w' p F s' m pv where
  top := ht
  files := by rw [e3]; exact h.files.kept (hk m h.inM (Ne.symm h.ne))
  plan := by
    rw [e2]
    obtain ⟨A, c, e, h1, h2, h3⟩ := h.plan
    refine ⟨A, c, e, h1, h2, fun i x hx => ?_⟩
    obtain ⟨g, o, ha, hg, ⟨cs, k0⟩, k1, k2, k3⟩ := h3 i x hx
    have hgp : g ≠ p := fun e => by rw [e] at k0; have := h.top.symm.trans k0; simp at this
    exact ⟨g, o, ha, hg, ⟨cs, (hk g hg hgp).trans k0⟩, cell_of k1 (hk g hg hgp), cell_of k2 (hk g hg hgp), cell_of k3 (hk g hg hgp)⟩
  each := fun f hf => by
    rw [e3] at hf
    have t := h.each f hf
    have hne : f.blk ≠ p := fun e => by rw [e] at t; have := h.top.symm.trans t; simp at this
    exact (hk _ (h.inF f hf) hne).trans t
  names := by rw [e3]; exact h.names
  blks := by rw [e3]; exact h.blks
  durs := by rw [e3]; exact h.durs
  room := by rw [e3, e1]; exact h.room
  quo := by rw [e1]; exact h.quo
  inP := h.inP
  inM := h.inM
  inF := by rw [e3]; exact h.inF
  low := fun i hi => Nat.lt_of_lt_of_le (h.low i hi) hs
end Go.Proofs.YtkfehogefclhdaaDoor.Dk
