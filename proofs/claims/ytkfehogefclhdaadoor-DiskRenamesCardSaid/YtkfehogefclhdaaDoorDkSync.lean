/- Sync and Remove, by their contracts. -/
import Derived.Test.YtkfehogefclhdaaDoorDkSimple
namespace Go.Proofs.YtkfehogefclhdaaDoor.Dk
open Go.RowKit Go.Maps Go.Proofs.YtkfehogefclhdaaDoorW.PrintWords Go.Proofs.YtkfehogefclhdaaDoorW.PrintMore
variable {N : Nat} {w : World} {p : Nat} {F : Nat → Prop} {s : St} {m : Nat} {pv : Value} {B : Nat} {a0 a1 a2 a3 a4 : Addr}

def setF (x : ByteArray) (f' : Fil) (fs : List Fil) : List Fil := fs.map fun g => if g.name = x then f' else g
/-- One file written over, in place. -/
theorem Is.setFile (h : Is N w p F s m pv) {x : ByteArray} {f f' : Fil} (hl : look s.fs x = some f) (en : f'.name = f.name) (eb : f'.blk = f.blk) (hsz : f'.bytes.size ≤ f.bytes.size) (hdu : f'.dur ≤ f'.bytes.size) {w' : World} (hset : w'.heap[f.blk]? = some (.cells #[.string f'.bytes, .int .i64 f'.dur] 81 (0, 0))) (far : ∀ i, i ≠ f.blk → w'.heap[i]? = w.heap[i]?) (hs : w.heap.size ≤ w'.heap.size) :
    Is N w' p F { s with fs := setF x f' s.fs } m pv := by
  obtain ⟨hm, hn⟩ := look_mem hl
  have hty := h.types hm
  have key : ∀ g ∈ s.fs, (if g.name = x then f' else g).name = g.name ∧ (if g.name = x then f' else g).blk = g.blk := fun g hg => by
    by_cases e : g.name = x
    · have e2 : g = f := name_inj h.names hg hm (e.trans hn.symm)
      rw [if_pos e, e2]; exact ⟨en, eb⟩
    · rw [if_neg e]; exact ⟨rfl, rfl⟩
  have hused : used (setF x f' s.fs) ≤ used s.fs := used_map s.fs (fun g hg => by
    by_cases e : g.name = x
    · have e2 : g = f := name_inj h.names hg hm (e.trans hn.symm)
      rw [if_pos e, e2]; exact hsz
    · rw [if_neg e]; exact Nat.le_refl _)
  refine ⟨(far p (Ne.symm hty.1)).trans h.top, ?_, ?_, ?_, ?_, ?_, ?_, ?_, h.quo, h.inP, h.inM, ?_, ?_⟩
  · have t := h.files.kept (far m (Ne.symm hty.2))
    obtain ⟨D, h1, h2, h3⟩ := t
    have look2 : ∀ (fs : List Fil) (y : ByteArray), (∀ g ∈ fs, (if g.name = x then f' else g).name = g.name ∧ (if g.name = x then f' else g).blk = g.blk) → (look (setF x f' fs) y).map Fil.blk = (look fs y).map Fil.blk ∧ (look (setF x f' fs) y).isSome = (look fs y).isSome := by
      intro fs y
      induction fs with
      | nil => intro _; exact ⟨rfl, rfl⟩
      | cons a r ih =>
        intro hk
        have hka := hk a List.mem_cons_self
        have ih' := ih (fun g hg => hk g (List.mem_cons_of_mem _ hg))
        unfold look setF at *
        rw [List.map_cons, List.find?_cons, List.find?_cons, hka.1]
        cases decide (a.name = y) with
        | true => exact ⟨congrArg some hka.2, rfl⟩
        | false => exact ih'
    exact ⟨D, h1, fun y => by rw [h2, (look2 s.fs y key).1], fun y => by rw [h3, (look2 s.fs y key).2]⟩
  · obtain ⟨A, c, e, h1, h2, h3⟩ := h.plan
    refine ⟨A, c, e, h1, h2, fun i y hy => ?_⟩
    obtain ⟨g, o, ha, hg, ⟨cs, k0⟩, k1, k2, k3⟩ := h3 i y hy
    have hne : g ≠ f.blk := fun e => by rw [e] at k0; have := (h.each f hm).symm.trans k0; simp at this
    exact ⟨g, o, ha, hg, ⟨cs, (far g hne).trans k0⟩, cell_of k1 (far g hne), cell_of k2 (far g hne), cell_of k3 (far g hne)⟩
  · intro g hg
    obtain ⟨g0, hg0, rfl⟩ := List.mem_map.1 hg
    by_cases e : g0.name = x
    · rw [if_pos e, eb]; exact hset
    · rw [if_neg e]
      have hne : g0.blk ≠ f.blk := fun e2 => e (by rw [blk_inj h.blks hg0 hm e2]; exact hn)
      exact (far g0.blk hne).trans (h.each g0 hg0)
  · show (s.fs.map _).Pairwise _
    rw [List.pairwise_map]
    exact List.Pairwise.imp_of_mem (fun ha hb hac => by rw [(key _ ha).1, (key _ hb).1]; exact hac) h.names
  · show (s.fs.map _).Pairwise _
    rw [List.pairwise_map]
    exact List.Pairwise.imp_of_mem (fun ha hb hac => by rw [(key _ ha).2, (key _ hb).2]; exact hac) h.blks
  · intro g hg
    obtain ⟨g0, hg0, rfl⟩ := List.mem_map.1 hg
    by_cases e : g0.name = x
    · rw [if_pos e]; exact hdu
    · rw [if_neg e]; exact h.durs g0 hg0
  · have := h.room
    show (used (setF x f' s.fs) : Int) ≤ s.quota
    omega
  · intro g hg
    obtain ⟨g0, hg0, rfl⟩ := List.mem_map.1 hg
    rw [(key g0 hg0).2]; exact h.inF g0 hg0
  · intro i hi
    exact Nat.lt_of_lt_of_le (h.low i hi) hs
def syncFil (f : Fil) : Fil := { f with dur := f.bytes.size }
def SyncF (fs : List Fil) (x : ByteArray) (fs' : List Fil) : Prop := ∃ f, look fs x = some f ∧ fs' = setF x (syncFil f) fs
theorem ent49 : Enters Tryd.prog 49 := enters_of Tryd.func49 (by kernel_rfl) rfl
theorem ent55 : Enters Tryd.prog 55 := enters_of Tryd.func55 (by kernel_rfl) rfl
set_option maxRecDepth 100000 in
theorem sync_does (h : Is N w p F s m pv) (x : ByteArray) : Does N w p F (fun _ => False) s m x 49 #[] (SyncF s.fs x) := by
  intro w1 s1 pv1 f on hl
  have hl1 : look s1.fs x = some f := by rw [on.fs]; exact hl
  have hm := (look_mem hl1).1
  have he := on.is.each f hm
  have b0 := blk_cell he 0
  have b1 := blk_cell he 1
  have bf := blk_frozen he
  simp only [List.getElem?_toArray, List.getElem?_cons_zero, List.getElem?_cons_succ] at b0 b1
  have hset := blk_set he 1 (.int .i64 (f.bytes.size : Nat))
  have hfin := on.is.setFile (f' := syncFil f) hl1 rfl rfl (Nat.le_refl _) (Nat.le_refl _) (w' := w1.setCell ⟨f.blk, 1, none⟩ (.int .i64 (f.bytes.size : Nat))) hset (fun i hi => Below.heap_setCell w1 ⟨f.blk, 1, none⟩ _ i hi) (by simp [World.setCell])
  have hfr := (Fr.refl F w1).set (a := ⟨f.blk, 1, none⟩) (on.is.inF f hm) (.int .i64 (f.bytes.size : Nat))
  have HFIN : Hid _ := hfin
  have HFR : Hid _ := hfr
  clear hset he hfin hfr
  show Calls Tryd.prog 49 #[.pointer (some ⟨f.blk, 0, none⟩)] w1 _
  go_enter Tryd.func49, Tryd.ntmps49
  go_wp2
  go_end0
  exact ⟨rfl, F, _, ⟨f, by rw [← on.fs]; exact hl1, by rw [on.fs]⟩, HFIN.out.more, HFR.out, Sub.refl _ _⟩
set_option maxRecDepth 100000 in
theorem sync_ok (h : Is N w p F s m pv) (hS : Sens w B a0 a1 a2 a3 a4) (hB : ∀ i, F i → B ≤ i) (hs0 : 0 ≤ s.steps) (hs1 : s.steps < 1000000000000) (hs2 : 0 ≤ s.since) (hs3 : s.since < 1000000000000) (x : ByteArray) (hx : x.size ≤ 140737488351232) :
    Calls Tryd.prog 13 #[.pointer (some ⟨p, 0, none⟩), .string x] w fun e w' => ∃ v, e = .returned v ∧ OpRes N w p F s m a0 a1 a2 a3 a4 (thereC s.fs x) (orF s.fs (SyncF s.fs x)) (SyncF s.fs x) v w' := by
  have hop := simple_ok h hS hB hs0 hs1 hs2 hs3 ⟨#[115, 121, 110, 99]⟩ x hx ent49 (Cx := fun _ => False) (fun i hi => hi.elim) (sync_does h x)
  have HOP : Hid _ := hop
  clear hop
  go_enter Tryd.func13, Tryd.ntmps13
  go_wp2_with (go_at_call 48; refine Calls.mono HOP.out ?_; rintro e w' ⟨v, rfl, hres⟩)
  go_ret
  exact ⟨v, rfl, hres⟩
end Go.Proofs.YtkfehogefclhdaaDoor.Dk
