/- Remove, by its contract. -/
import Derived.Test.YtkfehogefclhdaaDoorDkSync
namespace Go.Proofs.YtkfehogefclhdaaDoor.Dk
open Go.RowKit Go.Maps Go.Proofs.YtkfehogefclhdaaDoorW.PrintWords Go.Proofs.YtkfehogefclhdaaDoorW.PrintMore
variable {N : Nat} {w : World} {p : Nat} {F : Nat → Prop} {s : St} {m : Nat} {pv : Value} {B : Nat} {a0 a1 a2 a3 a4 : Addr}

theorem used_out (x : ByteArray) : ∀ fs : List Fil, used (outF x fs) ≤ used fs
  | [] => Nat.le_refl _
  | f :: r => by
    have ih := used_out x r
    unfold used outF at *
    rw [List.filter_cons, List.map_cons, List.sum_cons]
    split
    · rw [List.map_cons, List.sum_cons]; omega
    · omega
/-- The map has turned: other files are in it, of those that were there. -/
theorem Is.turned (h : Is N w p F s m pv) {w' : World} {N' : Nat} (hg : w.grownBy w' (some m)) {fs' : List Fil} (hmap : MapIs w' m N' fs') (hsub : ∀ f ∈ fs', ∃ g ∈ s.fs, f.blk = g.blk ∧ f.bytes = g.bytes ∧ f.dur = g.dur) (hn : fs'.Pairwise (fun f g => f.name ≠ g.name)) (hb : fs'.Pairwise (fun f g => f.blk ≠ g.blk)) (hu : used fs' ≤ used s.fs) :
    Is N' w' p F { s with fs := fs' } m pv := by
  have far : ∀ i, i < w.heap.size → i ≠ m → w'.heap[i]? = w.heap[i]? := fun i hi hm => hg.block i hi (fun e => hm (Option.some.inj e))
  refine ⟨(far p (h.low p h.inP) h.ne).trans h.top, hmap, ?_, ?_, hn, hb, ?_, ?_, h.quo, h.inP, h.inM, ?_, ?_⟩
  · obtain ⟨A, c, e, h1, h2, h3⟩ := h.plan
    refine ⟨A, c, e, h1, h2, fun i y hy => ?_⟩
    obtain ⟨g, o, ha, hg', ⟨cs, k0⟩, k1, k2, k3⟩ := h3 i y hy
    have hne : g ≠ m := fun e => by
      obtain ⟨D, ⟨es, clock, hb, _⟩, _⟩ := h.files
      rw [e, hb] at k0; cases k0
    have hf := far g (h.low g hg') hne
    exact ⟨g, o, ha, hg', ⟨cs, hf.trans k0⟩, cell_of k1 hf, cell_of k2 hf, cell_of k3 hf⟩
  · intro f hf
    obtain ⟨g, hg', e1, e2, e3⟩ := hsub f hf
    rw [e1, e2, e3]
    exact (far g.blk (h.low _ (h.inF g hg')) (h.types hg').2).trans (h.each g hg')
  · intro f hf
    obtain ⟨g, hg', e1, e2, e3⟩ := hsub f hf
    rw [e2, e3]; exact h.durs g hg'
  · have := h.room
    show (used fs' : Int) ≤ s.quota
    omega
  · intro f hf
    obtain ⟨g, hg', e1, e2, e3⟩ := hsub f hf
    rw [e1]; exact h.inF g hg'
  · intro i hi
    exact Nat.lt_of_lt_of_le (h.low i hi) hg.size
theorem OpRes.since {w1 w' : World} {code : Int} {Pf : Int → List Fil → Prop} {Wf : List Fil → Prop} {v : Value} (hr : OpRes N w1 p F s m a0 a1 a2 a3 a4 code Pf Wf v w') (hb : Below w.heap.size w w1) : OpRes N w p F s m a0 a1 a2 a3 a4 code Pf Wf v w' := by
  obtain ⟨F', s', pv', h1, h2, h3, h4⟩ := hr
  exact ⟨F', s', pv', h1, (Fr.of_below hb F).trans (Sub.refl _ _) h2, h3.trans' hb.size, h4⟩
theorem grown_fr {w' : World} (hm : F m) (hg : w.grownBy w' (some m)) : Fr F w w' := (Fr.refl F w).grown hg (fun k hk => by cases hk; exact .inr hm)
set_option maxRecDepth 100000 in
theorem remove_does (h : Is N w p F s m pv) (x : ByteArray) (hx : x.size ≤ 140737488351232) {bd bn : Nat} (kd : w.cell? ⟨bd, 0, none⟩ = some (.pointer (some ⟨p, 0, none⟩))) (kn : w.cell? ⟨bn, 0, none⟩ = some (.string x)) :
    Does N w p F (fun i => i = bd ∨ i = bn) s m x 55 #[.pointer (some ⟨bd, 0, none⟩), .pointer (some ⟨bn, 0, none⟩)] (fun fs' => fs' = outF x s.fs) := by
  intro w1 s1 pv1 f on hl
  obtain ⟨c0, c1, c2, c3, c4, c5⟩ := on.is.cells
  have kd1 := cell_of kd (on.cap bd (.inl rfl))
  have kn1 := cell_of kn (on.cap bn (.inr rfl))
  have isd : Is N w1.drew p F s1 m pv1 := on.is.below (Below.refl _ _).drew
  obtain ⟨w2, hrun, hg, hsz, hmap⟩ := isd.files.del (x := x) (by unfold maxLen; omega) 0
  have hfin := isd.turned hg hmap (fun f hf => ⟨f, (List.mem_filter.1 hf).1, rfl, rfl, rfl⟩) (on.is.names.filter _) (on.is.blks.filter _) (used_out x _)
  have hfr := grown_fr (F := F) on.is.inM hg
  have HFIN : Hid _ := hfin
  have HFR : Hid _ := hfr
  clear hfin hfr hmap hg hsz isd
  show Calls Tryd.prog 55 #[.pointer (some ⟨f.blk, 0, none⟩), .pointer (some ⟨bd, 0, none⟩), .pointer (some ⟨bn, 0, none⟩)] w1 _
  go_enter Tryd.func55, Tryd.ntmps55
  go_wp2
  go_still_tail 5, (by kernel_rfl)
  all_goals go_wp2
  go_end0
  exact ⟨rfl, F, _, by rw [on.fs], HFIN.out.more, ⟨HFR.out.os, HFR.out.tape, HFR.out.output, HFR.out.size, HFR.out.block⟩, Sub.refl _ _⟩
set_option maxRecDepth 100000 in
theorem remove_ok (h : Is N w p F s m pv) (hS : Sens w B a0 a1 a2 a3 a4) (hB : ∀ i, F i → B ≤ i) (hs0 : 0 ≤ s.steps) (hs1 : s.steps < 1000000000000) (hs2 : 0 ≤ s.since) (hs3 : s.since < 1000000000000) (x : ByteArray) (hx : x.size ≤ 140737488351232) :
    Calls Tryd.prog 16 #[.pointer (some ⟨p, 0, none⟩), .string x] w fun e w' => ∃ v, e = .returned v ∧ OpRes N w p F s m a0 a1 a2 a3 a4 (thereC s.fs x) (orF s.fs (fun fs' => fs' = outF x s.fs)) (fun fs' => fs' = outF x s.fs) v w' := by
  have hmf : ∀ (fn : Fn) (first cap : Array Value) (w : World), (Instr.makeFunc fn first cap).run Tryd.prog w = .ok (.func fn first cap) w := fun _ _ _ _ => rfl
  obtain ⟨o1, ho1⟩ : ∃ o, o = Obj.cells #[.pointer (some ⟨p, 0, none⟩)] 23 := ⟨_, rfl⟩
  obtain ⟨o2, ho2⟩ : ∃ o, o = Obj.cells #[.string x] 9 := ⟨_, rfl⟩
  have z1 : (w.alloc o1).heap.size = w.heap.size + 1 := by simp
  have z2 : ((w.alloc o1).alloc o2).heap.size = w.heap.size + 1 + 1 := by simp
  have b1 := blk_new w o1
  have b2 := blk_new (w.alloc o1) o2
  rw [z1] at b2
  have b1' := blk_alloc b1 o2
  have hW : Below w.heap.size w ((w.alloc o1).alloc o2) := ((Below.refl _ w).alloc (Nat.le_refl _) o1).alloc (by rw [z1]; omega) o2
  subst ho1 ho2
  have g1 := blk_cell b1' 0
  have g2 := blk_cell b2 0
  simp only [List.getElem?_toArray, List.getElem?_cons_zero] at g1 g2
  have hS' := hS.below (hW.mono (Nat.le_trans (hB p h.inP) (Nat.le_of_lt (h.low p h.inP))))
  have hop := simple_ok (h.below hW) hS' hB hs0 hs1 hs2 hs3 ⟨#[114, 101, 109, 111, 118, 101]⟩ x hx ent55 (Cx := fun i => i = w.heap.size ∨ i = w.heap.size + 1) (fun i hi => ⟨by rw [z2]; omega, fun e => by have := h.low i e; omega⟩) (remove_does (h.below hW) x hx g1 g2)
  have HOP : Hid _ := hop
  have HW : Hid _ := hW
  clear hop hW hS' b1 b2 b1' z1 z2
  go_enter Tryd.func16, Tryd.ntmps16
  go_wp2_with (go_at_call 48; refine Calls.mono HOP.out ?_; rintro e w' ⟨v, rfl, hres⟩)
  go_ret
  exact ⟨v, rfl, hres.since HW.out⟩
end Go.Proofs.YtkfehogefclhdaaDoor.Dk
