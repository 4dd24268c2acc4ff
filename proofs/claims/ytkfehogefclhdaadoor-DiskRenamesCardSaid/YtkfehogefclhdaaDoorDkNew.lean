/- Append to a file that is not there yet. -/
import Derived.Test.YtkfehogefclhdaaDoorDkPut
import Derived.StillTailTactics
namespace Go.Proofs.YtkfehogefclhdaaDoor.Dk
open Go.RowKit Go.Maps Go.Proofs.YtkfehogefclhdaaDoorW.PrintWords Go.Proofs.YtkfehogefclhdaaDoorW.PrintMore
variable {N : Nat} {w : World} {p : Nat} {F : Nat → Prop} {s : St} {m : Nat} {pv : Value} {B : Nat} {a0 a1 a2 a3 a4 : Addr}
attribute [local go_sem] max2_int min2_int max_two min_two
theorem empty_app (b : ByteArray) : (⟨#[]⟩ : ByteArray) ++ b = b := by
  apply ByteArray.ext
  simp [ByteArray.data_append]
def newObj : Obj := .cells #[.string ⟨#[]⟩, .int .i64 0] 81
set_option maxRecDepth 100000 in
set_option maxHeartbeats 1000000 in
theorem app_part_none (h : Is N w p F s m pv) (hN : N < maxLen) (x data : ByteArray) (hx : x.size ≤ 140737488351232) (hd : data.size ≤ 1048576) {bd bn bt : Nat} (kd : w.cell? ⟨bd, 0, none⟩ = some (.pointer (some ⟨p, 0, none⟩))) (kn : w.cell? ⟨bn, 0, none⟩ = some (.string x)) (kt : w.cell? ⟨bt, 0, none⟩ = some (.string data)) (n : Int) (hl : look s.fs x = none)
    (nd : bd ≠ m) (nn : bn ≠ m) (nt : bt ≠ m) :
    Calls Tryd.prog 45 #[.int .i64 n, .pointer (some ⟨bd, 0, none⟩), .pointer (some ⟨bn, 0, none⟩), .pointer (some ⟨bt, 0, none⟩)] w fun e w' => e = .returned (.tuple #[]) ∧
      ∃ W2 k, (w.alloc newObj).grownBy W2 (some m) ∧ (∀ f : Fil, f.name = x → f.blk = w.heap.size → MapIs W2 m (N + 1) (f :: outF x s.fs)) ∧ w' = (W2.setCell ⟨w.heap.size, 0, none⟩ (.string (cutD data n))).drewN k := by
  obtain ⟨c0, c1, c2, c3, c4, c5⟩ := h.cells
  have hxm : x.size ≤ maxLen := by unfold maxLen; omega
  have hk := look_run h.files (x := x) hxm
  unfold at' at hk; rw [hl] at hk; simp only [Option.map_none, ptr] at hk
  have hk1 : (Instr.lookup 75 (.map (some m)) (.string x) false).run Tryd.prog w.drew = .ok (.pointer none) w.drew := by
    have t := look_run (w := w.drew) (h.below (Below.refl _ _).drew).files (x := x) hxm
    unfold at' at t; rw [hl] at t; exact t
  obtain ⟨q, hq, hq2⟩ := cut_idx data n
  have e1 : cutD data n = data.extract 0 q := by unfold cutD; rw [hq2]
  rw [e1]
  have hqs : q ≤ data.size := by omega
  have k1 : (9223372036854775807 < (data.extract 0 q).size) = False := eq_false (by rw [ByteArray.size_extract]; omega)
  have k2 : (9223372036854775807 < min q data.size) = False := eq_false (by omega)
  have k3 : (9223372036854775807 < q) = False := eq_false (by omega)
  clear hq2 e1
  have ld := World.block_lt_of_cell? w _ kd
  have ln := World.block_lt_of_cell? w _ kn
  have lt := World.block_lt_of_cell? w _ kt
  have lp := h.low p h.inP
  have lm := h.low m h.inM
  have is1 : Is N ((w.alloc newObj).drew.drew) p F s m pv := h.below (((Below.refl _ _).alloc (Nat.le_refl _) _).drew.drew)
  obtain ⟨W2, hup, hg, hmap⟩ := is1.files.put hxm w.heap.size hN
  unfold newObj at hup
  have al : ∀ (o : Obj) (b j : Nat), b < w.heap.size → (w.alloc o).cell? ⟨b, j, none⟩ = w.cell? ⟨b, j, none⟩ := fun o b j hb => World.cell?_alloc_past _ _ _ hb
  have ad : ∀ o, (w.alloc o).cell? ⟨bd, 0, none⟩ = some (.pointer (some ⟨p, 0, none⟩)) := fun o => (al o bd 0 ld).trans kd
  have an : ∀ o, (w.alloc o).cell? ⟨bn, 0, none⟩ = some (.string x) := fun o => (al o bn 0 ln).trans kn
  have ap : ∀ o, (w.alloc o).cell? ⟨p, 1, none⟩ = some (.map (some m)) := fun o => (al o p 1 lp).trans c1
  have tr : ∀ (b j : Nat) (v : Value), b < w.heap.size → b ≠ m → w.cell? ⟨b, j, none⟩ = some v → W2.cell? ⟨b, j, none⟩ = some v := fun b j v hb hbm hv =>
    cell_of hv ((hg.block b (by show b < (w.alloc newObj).heap.size; simp; omega) (fun e => hbm (Option.some.inj e))).trans (Below.heap_alloc w newObj b hb))
  have d2 := tr bd 0 _ ld nd kd
  have n2 := tr bn 0 _ ln nn kn
  have t2 := tr bt 0 _ lt nt kt
  have p2 := tr p 1 _ lp h.ne c1
  have hnew : W2.heap[w.heap.size]? = some (.cells #[.string ⟨#[]⟩, .int .i64 0] 81 (0, 0)) :=
    (hg.block w.heap.size (by show w.heap.size < (w.alloc newObj).heap.size; simp) (fun e => by have := Option.some.inj e; omega)).trans (blk_new w newObj)
  have f0 := blk_cell hnew 0
  have ff := blk_frozen hnew 0
  simp only [List.getElem?_toArray, List.getElem?_cons_zero] at f0
  have hm2 := hmap ⟨x, w.heap.size, ⟨#[]⟩, 0⟩ rfl rfl
  have hk2 : (Instr.lookup 75 (.map (some m)) (.string x) false).run Tryd.prog W2 = .ok (.pointer (some ⟨w.heap.size, 0, none⟩)) W2 := by
    have t := look_run hm2 (x := x) hxm
    unfold at' look at t
    rw [List.find?_cons, decide_eq_true rfl] at t
    exact t
  have hk3 : (Instr.lookup 75 (.map (some m)) (.string x) false).run Tryd.prog W2.drew = .ok (.pointer (some ⟨w.heap.size, 0, none⟩)) W2.drew := by
    have t := look_run (w := W2.drew) (hm2.kept rfl) (x := x) hxm
    unfold at' look at t
    rw [List.find?_cons, decide_eq_true rfl] at t
    exact t
  have HM : Hid _ := hmap
  have HG : Hid _ := hg
  clear hmap hg tr al hm2 hnew is1
  go_enter Tryd.func45, Tryd.ntmps45
  go_wp2
  go_region
  all_goals (try go_wp2)
  go_region_held3 (fun W => W.cell? ⟨bd, 0, none⟩ = some (.pointer (some ⟨p, 0, none⟩)) ∧ W.cell? ⟨bn, 0, none⟩ = some (.string x) ∧ W.cell? ⟨p, 1, none⟩ = some (.map (some m)))
    (first | exact ⟨kd, kn, c1⟩ | exact ⟨ad _, an _, ap _⟩ | exact ⟨d2, n2, p2⟩)
    (fail)
  all_goals (try go_wp2)
  go_still_tail 19, (by kernel_rfl)
  all_goals (try go_wp2)
  all_goals (go_end0; exact ⟨rfl, W2, ⟨HG.out.os, HG.out.tape, HG.out.output, HG.out.size, HG.out.block⟩, HM.out, 1, by rw [empty_app]; rfl⟩)
theorem used_put {x : ByteArray} {b : ByteArray} {f : Fil} : ∀ {fs : List Fil}, fs.Pairwise (fun f g => f.name ≠ g.name) → f ∈ fs → f.name = x → used (putB x b fs) + f.bytes.size = used fs + b.size
  | [], _, h, _ => by cases h
  | g :: r, hp, hm, hn => by
    rw [List.pairwise_cons] at hp
    unfold putB used
    rw [List.map_cons, List.map_cons, List.sum_cons, List.map_cons, List.sum_cons]
    rcases List.mem_cons.1 hm with e | hm
    · subst e
      rw [if_pos hn]
      have e2 : r.map (fun g => if g.name = x then { g with bytes := b } else g) = r := by
        conv => rhs; rw [← List.map_id r]
        exact List.map_congr_left (fun k hk => by rw [if_neg (fun e => hp.1 k hk (hn.trans e.symm))]; rfl)
      rw [e2]
      show b.size + _ + f.bytes.size = f.bytes.size + _ + b.size
      omega
    · have ih := used_put (x := x) (b := b) hp.2 hm hn
      unfold putB used at ih
      rw [if_neg (fun e => hp.1 f hm (e.trans hn.symm))]
      omega
theorem cut_size (data : ByteArray) (n : Int) : (cutD data n).size ≤ data.size := by unfold cutD; rw [ByteArray.size_extract]; omega
/-- Behind the part of Append: a file that was there. -/
theorem Is.app_some (h : Is N w p F s m pv) {x : ByteArray} {f : Fil} (hl : look s.fs x = some f) (b : ByteArray) (hle : f.bytes.size ≤ b.size) (hr : (used s.fs : Int) + b.size ≤ s.quota + f.bytes.size) (k : Nat) :
    Is (N + 1) ((w.setCell ⟨f.blk, 0, none⟩ (.string b)).drewN k) p F { s with fs := putB x b s.fs } m pv ∧ Fr F w ((w.setCell ⟨f.blk, 0, none⟩ (.string b)).drewN k) := by
  obtain ⟨hm, hn⟩ := look_mem hl
  have hty := h.types hm
  have hset := blk_set (h.each f hm) 0 (.string b)
  have hfr : Fr F w ((w.setCell ⟨f.blk, 0, none⟩ (.string b)).drewN k) := by
    have t := (Fr.refl F w).set (a := ⟨f.blk, 0, none⟩) (h.inF f hm) (.string b)
    exact ⟨t.os, t.tape, t.output, t.size, t.block⟩
  have far : ∀ i, i ≠ f.blk → ((w.setCell ⟨f.blk, 0, none⟩ (.string b)).drewN k).heap[i]? = w.heap[i]? := fun i hi => Below.heap_setCell w ⟨f.blk, 0, none⟩ _ i hi
  refine ⟨⟨(far p (Ne.symm hty.1)).trans h.top, ?_, ?_, ?_, ?_, ?_, ?_, ?_, h.quo, h.inP, h.inM, ?_, ?_⟩, hfr⟩
  · have t := (h.files.kept (far m (Ne.symm hty.2))).map (g := fun g => if g.name = x then { g with bytes := b } else g) (fun g => by split <;> rfl) (fun g => by split <;> rfl)
    obtain ⟨D, h1, h2⟩ := t
    exact ⟨D, h1.mono (Nat.le_succ _), h2⟩
  · obtain ⟨A, c, e, h1, h2, h3⟩ := h.plan
    refine ⟨A, c, e, h1, h2, fun i y hy => ?_⟩
    obtain ⟨g, o, ha, hg, ⟨cs, k0⟩, k1, k2, k3⟩ := h3 i y hy
    have hne : g ≠ f.blk := fun e => by rw [e] at k0; have := (h.each f hm).symm.trans k0; simp at this
    exact ⟨g, o, ha, hg, ⟨cs, (far g hne).trans k0⟩, cell_of k1 (far g hne), cell_of k2 (far g hne), cell_of k3 (far g hne)⟩
  · intro g hg
    obtain ⟨g0, hg0, rfl⟩ := List.mem_map.1 hg
    by_cases e : g0.name = x
    · have e2 : g0 = f := name_inj h.names hg0 hm (e.trans hn.symm)
      subst e2
      rw [if_pos e]
      exact hset
    · rw [if_neg e]
      have hne : g0.blk ≠ f.blk := fun e2 => e (by rw [blk_inj h.blks hg0 hm e2]; exact hn)
      exact (far g0.blk hne).trans (h.each g0 hg0)
  · show (s.fs.map _).Pairwise _
    rw [List.pairwise_map]
    refine h.names.imp ?_
    intro a c hac
    split <;> split <;> exact hac
  · show (s.fs.map _).Pairwise _
    rw [List.pairwise_map]
    refine h.blks.imp ?_
    intro a c hac
    split <;> split <;> exact hac
  · intro g hg
    obtain ⟨g0, hg0, rfl⟩ := List.mem_map.1 hg
    by_cases e : g0.name = x
    · have e2 : g0 = f := name_inj h.names hg0 hm (e.trans hn.symm)
      subst e2
      rw [if_pos e]
      exact Nat.le_trans (h.durs g0 hg0) hle
    · rw [if_neg e]; exact h.durs g0 hg0
  · have := used_put (b := b) h.names hm hn
    show (used (putB x b s.fs) : Int) ≤ s.quota
    omega
  · intro g hg
    obtain ⟨g0, hg0, rfl⟩ := List.mem_map.1 hg
    have := h.inF g0 hg0
    split <;> exact this
  · intro i hi
    exact Nat.lt_of_lt_of_le (h.low i hi) hfr.size
/-- Behind the part of Append: a new file. -/
theorem Is.app_new (h : Is N w p F s m pv) {x : ByteArray} (hl : look s.fs x = none) (b : ByteArray) (hr : (used s.fs : Int) + b.size ≤ s.quota) {W2 : World} (hg : (w.alloc newObj).grownBy W2 (some m)) (hmap : ∀ f : Fil, f.name = x → f.blk = w.heap.size → MapIs W2 m (N + 1) (f :: outF x s.fs)) (k : Nat) :
    Is (N + 1) ((W2.setCell ⟨w.heap.size, 0, none⟩ (.string b)).drewN k) p (fun i => F i ∨ i = w.heap.size) { s with fs := ⟨x, w.heap.size, b, 0⟩ :: s.fs } m pv ∧ Fr F w ((W2.setCell ⟨w.heap.size, 0, none⟩ (.string b)).drewN k) := by
  have lm := h.low m h.inM
  have hsz : W2.heap.size ≥ w.heap.size + 1 := by have := hg.size; simpa using this
  have far : ∀ i, i < w.heap.size → i ≠ m → ((W2.setCell ⟨w.heap.size, 0, none⟩ (.string b)).drewN k).heap[i]? = w.heap[i]? := fun i hi hm =>
    (Below.heap_setCell W2 ⟨w.heap.size, 0, none⟩ (.string b) i (by show i ≠ w.heap.size; omega)).trans ((hg.block i (by show i < (w.alloc newObj).heap.size; simp; omega) (fun e => hm (Option.some.inj e))).trans (Below.heap_alloc w newObj i hi))
  have hnew : W2.heap[w.heap.size]? = some (.cells #[.string ⟨#[]⟩, .int .i64 0] 81 (0, 0)) :=
    (hg.block w.heap.size (by show w.heap.size < (w.alloc newObj).heap.size; simp) (fun e => by have := Option.some.inj e; omega)).trans (blk_new w newObj)
  have hset := blk_set hnew 0 (.string b)
  have hfr : Fr F w ((W2.setCell ⟨w.heap.size, 0, none⟩ (.string b)).drewN k) :=
    ⟨hg.os, hg.tape, hg.output, by show w.heap.size ≤ (W2.setCell _ _).heap.size; simp [World.setCell]; omega, fun i hi hn => far i hi (fun e => hn (by rw [e]; exact h.inM))⟩
  have lowf : ∀ g ∈ s.fs, g.blk < w.heap.size := fun g hg => h.low _ (h.inF g hg)
  refine ⟨⟨(far p (h.low p h.inP) h.ne).trans h.top, ?_, ?_, ?_, ?_, ?_, ?_, ?_, h.quo, .inl h.inP, .inl h.inM, ?_, ?_⟩, hfr⟩
  · have t := hmap ⟨x, w.heap.size, b, 0⟩ rfl rfl
    rw [out_none hl] at t
    exact t.kept (Below.heap_setCell W2 ⟨w.heap.size, 0, none⟩ _ m (by show m ≠ w.heap.size; omega))
  · obtain ⟨A, c, e, h1, h2, h3⟩ := h.plan
    refine ⟨A, c, e, h1, h2, fun i y hy => ?_⟩
    obtain ⟨g, o, ha, hg, ⟨cs, k0⟩, k1, k2, k3⟩ := h3 i y hy
    have hne : g ≠ m := fun e => by
      obtain ⟨D, ⟨es, clock, hb, _⟩, _⟩ := h.files
      rw [e, hb] at k0; cases k0
    have hf := far g (h.low g hg) hne
    exact ⟨g, o, ha, .inl hg, ⟨cs, hf.trans k0⟩, cell_of k1 hf, cell_of k2 hf, cell_of k3 hf⟩
  · intro g hg
    rcases List.mem_cons.1 hg with rfl | hg
    · exact hset
    · exact (far g.blk (lowf g hg) (h.types hg).2).trans (h.each g hg)
  · rw [List.pairwise_cons]
    refine ⟨fun g hg e => ?_, h.names⟩
    have := look_has hg
    rw [← e, hl] at this
    cases this
  · rw [List.pairwise_cons]
    exact ⟨fun g hg e => by have := lowf g hg; have e2 : w.heap.size = g.blk := e; omega, h.blks⟩
  · intro g hg
    rcases List.mem_cons.1 hg with rfl | hg
    · exact Nat.zero_le _
    · exact h.durs g hg
  · show ((used (⟨x, w.heap.size, b, 0⟩ :: s.fs) : Nat) : Int) ≤ s.quota
    unfold used at *
    rw [List.map_cons, List.sum_cons]
    show ((b.size + _ : Nat) : Int) ≤ _
    omega
  · intro g hg
    rcases List.mem_cons.1 hg with rfl | hg
    · exact .inr rfl
    · exact .inl (h.inF g hg)
  · intro i hi
    have : w.heap.size + 1 ≤ ((W2.setCell ⟨w.heap.size, 0, none⟩ (.string b)).drewN k).heap.size := by show _ ≤ (W2.setCell _ _).heap.size; simp [World.setCell]; omega
    rcases hi with hi | rfl
    · have := h.low i hi; omega
    · omega
end Go.Proofs.YtkfehogefclhdaaDoor.Dk
