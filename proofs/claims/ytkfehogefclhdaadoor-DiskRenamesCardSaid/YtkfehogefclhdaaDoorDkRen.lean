/- Rename, whole. -/
import Derived.Test.YtkfehogefclhdaaDoorDkRename
namespace Go.Proofs.YtkfehogefclhdaaDoor.Dk
open Go.RowKit Go.Maps Go.Proofs.YtkfehogefclhdaaDoorW.PrintWords Go.Proofs.YtkfehogefclhdaaDoorW.PrintMore
variable {N : Nat} {w : World} {p : Nat} {F : Nat → Prop} {s : St} {m : Nat} {pv : Value} {B : Nat} {a0 a1 a2 a3 a4 : Addr}

theorem ren_zero {fs : List Fil} {x y : ByteArray} (h : renC fs x y = 0) : ∃ f, look fs x = some f := by
  unfold renC at h
  split at h
  · exact there_zero h
  · cases h
theorem ren_clo {w5 : World} (h : Is N w5 p F s m pv) (hN : N < maxLen) (x y : ByteArray) (hx : x.size ≤ 140737488351232) (hy : y.size ≤ 140737488351232)
    {bd bx b2 bo : Nat} (kd : w5.cell? ⟨bd, 0, none⟩ = some (.pointer (some ⟨p, 0, none⟩))) (kx : w5.cell? ⟨bx, 0, none⟩ = some (.string x)) (ky : w5.cell? ⟨b2, 0, none⟩ = some (.string y))
    (ko : w5.cell? ⟨bo, 0, none⟩ = some (.func (.func 53) #[] #[.pointer (some ⟨bd, 0, none⟩), .pointer (some ⟨bx, 0, none⟩), .pointer (some ⟨b2, 0, none⟩)])) (nF : ∀ i, i = bd ∨ i = bx ∨ i = b2 ∨ i = bo → ¬ F i) :
    Clo N w5 p F (fun i => i = bd ∨ i = bx ∨ i = b2 ∨ i = bo) s m (renC s.fs x y) 51 53 81 #[.pointer (some ⟨bx, 0, none⟩), .pointer (some ⟨b2, 0, none⟩), .pointer (some ⟨bd, 0, none⟩)] #[.pointer (some ⟨bd, 0, none⟩), .pointer (some ⟨bx, 0, none⟩), .pointer (some ⟨b2, 0, none⟩)] #[.pointer (some ⟨bo, 0, none⟩)]
      (orF s.fs (RenF s.fs x y)) (RenF s.fs x y) (fun _ => True) (fun _ => False) := by
  have hsep : ∀ i, (i = bd ∨ i = bx ∨ i = b2 ∨ i = bo) → i < w5.heap.size ∧ ¬ F i := fun i hi => ⟨by
    rcases hi with rfl | rfl | rfl | rfl
    · exact World.block_lt_of_cell? w5 _ kd
    · exact World.block_lt_of_cell? w5 _ kx
    · exact World.block_lt_of_cell? w5 _ ky
    · exact World.block_lt_of_cell? w5 _ ko, nF i hi⟩
  have hdo : renC s.fs x y = 0 → ∀ w1 s1 pv1, On N w5 p F (fun i => i = bd ∨ i = bx ∨ i = b2 ∨ i = bo) s m w1 s1 pv1 → Calls Tryd.prog 53 #[.pointer (some ⟨bd, 0, none⟩), .pointer (some ⟨bx, 0, none⟩), .pointer (some ⟨b2, 0, none⟩)] w1 fun e w' => e = .returned (.tuple #[]) ∧ ∃ F' fs', RenF s.fs x y fs' ∧ Is (N + 1) w' p F' { s1 with fs := fs' } m pv1 ∧ Fr F w1 w' ∧ Sub w1 F F' := by
    intro h0 w1 s1 pv1 on
    obtain ⟨f, hf⟩ := ren_zero h0
    refine (ren_do on.is hN x y hx hy (cell_of kd (on.cap bd (.inl rfl))) (cell_of kx (on.cap bx (.inr (.inl rfl)))) (cell_of ky (on.cap b2 (.inr (.inr (.inl rfl))))) (fun i hi e => nF i (by rcases hi with hi | hi | hi <;> simp [hi]) (e ▸ h.inM)) (by rw [on.fs]; exact hf)).mono ?_
    rintro e w' ⟨rfl, F', fs', h1, h2, h3, h4⟩
    rw [on.fs] at h1
    exact ⟨rfl, F', fs', h1, h2, h3, h4⟩
  exact {
    may := fun w1 s1 pv1 on => by
      rw [← on.fs]
      exact ren_may on.is x y hx hy (cell_of kd (on.cap bd (.inl rfl))) (cell_of kx (on.cap bx (.inr (.inl rfl)))) (cell_of ky (on.cap b2 (.inr (.inr (.inl rfl)))))
    part := fun h0 w1 s1 pv1 n on => by
      have ko' := cell_of ko (on.cap bo (.inr (.inr (.inr rfl))))
      by_cases hn : n ≥ 1
      · refine (or_yes ent53 ko' hn (hdo h0 w1 s1 pv1 on)).mono ?_
        rintro e w' ⟨rfl, F', fs', h1, h2, h3, h4⟩
        exact ⟨rfl, F', fs', by unfold orF; rw [if_pos hn]; exact h1, h2, h3, h4⟩
      · refine (or_no hn).mono ?_
        rintro e w' ⟨rfl, rfl⟩
        refine ⟨rfl, F, s.fs, by unfold orF; rw [if_neg hn], ?_, Fr.refl _ _, Sub.refl _ _⟩
        have t := on.is.more
        have e1 : ({ s1 with fs := s.fs } : St) = s1 := by rw [← on.fs]
        rw [e1]; exact t
    whole := fun h0 w1 s1 pv1 on => by
      refine (hdo h0 w1 s1 pv1 on).mono ?_
      rintro e w' ⟨rfl, F', fs', h1, h2, h3, h4⟩
      exact ⟨rfl, F', fs', h1, h2, h3.or _, h4, trivial⟩
    em := ent51
    ew := ent53
    ep := ent81
    sep := hsep }
set_option maxRecDepth 100000 in
set_option maxHeartbeats 1000000 in
theorem rename_ok (h : Is N w p F s m pv) (hN : N < maxLen) (hS : Sens w B a0 a1 a2 a3 a4) (hB : ∀ i, F i → B ≤ i) (hs0 : 0 ≤ s.steps) (hs1 : s.steps < 1000000000000) (hs2 : 0 ≤ s.since) (hs3 : s.since < 1000000000000) (x y : ByteArray) (hx : x.size ≤ 140737488351232) (hy : y.size ≤ 140737488351232) :
    Calls Tryd.prog 15 #[.pointer (some ⟨p, 0, none⟩), .string x, .string y] w fun e w' => ∃ v, e = .returned v ∧ OpRes N w p F s m a0 a1 a2 a3 a4 (renC s.fs x y) (orF s.fs (RenF s.fs x y)) (RenF s.fs x y) v w' := by
  have hmf : ∀ (fn : Fn) (first cap : Array Value) (w : World), (Instr.makeFunc fn first cap).run Tryd.prog w = .ok (.func fn first cap) w := fun _ _ _ _ => rfl
  obtain ⟨o1, ho1⟩ : ∃ o, o = Obj.cells #[.pointer (some ⟨p, 0, none⟩)] 23 := ⟨_, rfl⟩
  obtain ⟨o2, ho2⟩ : ∃ o, o = Obj.cells #[.string x] 9 := ⟨_, rfl⟩
  obtain ⟨o3, ho3⟩ : ∃ o, o = Obj.cells #[.string y] 9 := ⟨_, rfl⟩
  obtain ⟨o4, ho4⟩ : ∃ o, o = Obj.cells #[.func (.func 53) #[] #[.pointer (some ⟨w.heap.size, 0, none⟩), .pointer (some ⟨w.heap.size + 1, 0, none⟩), .pointer (some ⟨w.heap.size + 1 + 1, 0, none⟩)]] 1 := ⟨_, rfl⟩
  have z1 : (w.alloc o1).heap.size = w.heap.size + 1 := by simp
  have z2 : ((w.alloc o1).alloc o2).heap.size = w.heap.size + 1 + 1 := by simp
  have z3 : (((w.alloc o1).alloc o2).alloc o3).heap.size = w.heap.size + 1 + 1 + 1 := by simp
  have b1 := blk_new w o1
  have b2 := blk_new (w.alloc o1) o2
  have b3 := blk_new ((w.alloc o1).alloc o2) o3
  have b4 := blk_new (((w.alloc o1).alloc o2).alloc o3) o4
  rw [z1] at b2
  rw [z2] at b3
  rw [z3] at b4
  have hW : Below w.heap.size w ((((w.alloc o1).alloc o2).alloc o3).alloc o4).drew := (((((Below.refl _ w).alloc (Nat.le_refl _) o1).alloc (by rw [z1]; omega) o2).alloc (by rw [z2]; omega) o3).alloc (by rw [z3]; omega) o4).drew
  have c1 := blk_alloc (blk_alloc b1 o2) o3
  have c2 := blk_alloc b2 o3
  have b1' := blk_alloc (blk_alloc (blk_alloc b1 o2) o3) o4
  have b2' := blk_alloc (blk_alloc b2 o3) o4
  have b3' := blk_alloc b3 o4
  subst ho1 ho2 ho3 ho4
  have g1 := blk_cell c1 0
  have g2 := blk_cell c2 0
  simp only [List.getElem?_toArray, List.getElem?_cons_zero] at g1 g2
  have hcl := ren_clo (w5 := (((((w.alloc (Obj.cells #[.pointer (some ⟨p, 0, none⟩)] 23)).alloc (Obj.cells #[.string x] 9)).alloc (Obj.cells #[.string y] 9)).alloc (Obj.cells #[.func (.func 53) #[] #[.pointer (some ⟨w.heap.size, 0, none⟩), .pointer (some ⟨w.heap.size + 1, 0, none⟩), .pointer (some ⟨w.heap.size + 1 + 1, 0, none⟩)]] 1)).drew)) (h.below hW) hN x y hx hy (bd := w.heap.size) (bx := w.heap.size + 1) (b2 := w.heap.size + 1 + 1) (bo := w.heap.size + 1 + 1 + 1) (blk_cell b1' 0) (blk_cell b2' 0) (blk_cell b3' 0) (blk_cell b4 0) (fun i hi hF => by have := h.low i hF; omega)
  obtain ⟨w3, hw3⟩ : ∃ w3, (((w.alloc (Obj.cells #[.pointer (some ⟨p, 0, none⟩)] 23)).alloc (Obj.cells #[.string x] 9)).alloc (Obj.cells #[.string y] 9)) = w3 := ⟨_, rfl⟩
  rw [hw3] at g1 g2 z3
  clear b1 b2 b3 b4 b1' b2' b3' c1 c2
  have hS' := hS.below (hW.mono (Nat.le_trans (hB p h.inP) (Nat.le_of_lt (h.low p h.inP))))
  have hop := op_any (h.below hW) hS' hB hs0 hs1 hs2 hs3 ⟨#[114, 101, 110, 97, 109, 101]⟩ x hcl
  have hW2 := hW
  rw [hw3] at hop hW2
  have HOP : Hid _ := hop
  have HW : Hid _ := hW2
  have HW3 : Hid _ := hw3
  clear hop hcl hW hW2 hS' hw3 z1 z2
  have al : ∀ (o : Obj) {b : Nat} {v : Value}, w3.cell? ⟨b, 0, none⟩ = some v → (w3.alloc o).drew.cell? ⟨b, 0, none⟩ = some v := fun o b v hv => (World.cell?_alloc_past _ _ _ (World.block_lt_of_cell? w3 _ hv)).trans hv
  have nF1 : ¬ F w.heap.size := fun e => by have := h.low _ e; omega
  have nF2 : ¬ F (w.heap.size + 1) := fun e => by have := h.low _ e; omega
  go_enter Tryd.func15, Tryd.ntmps15
  go_wp2
  rw [HW3.out]
  go_region_held3 (fun W => W.cell? ⟨w.heap.size, 0, none⟩ = some (.pointer (some ⟨p, 0, none⟩)) ∧ W.cell? ⟨w.heap.size + 1, 0, none⟩ = some (.string x))
    (first | exact ⟨g1, g2⟩ | exact ⟨al _ g1, al _ g2⟩ | exact ⟨r1, r2⟩)
    (first
    | (go_at_call 54; refine (or_ok _ _ _).mono ?_; rintro e w' ⟨rfl, rfl⟩; rw [show w3.drew.heap.size = w.heap.size + 1 + 1 + 1 from z3])
    | (go_at_call 46; refine Calls.mono HOP.out ?_; rintro e w' ⟨v, rfl, hres⟩; have r1 := hres.kept (al _ g1) nF1; have r2 := hres.kept (al _ g2) nF2))
  all_goals (try go_wp2)
  all_goals go_ret
  all_goals exact ⟨v, rfl, hres.opRes HW.out (fun i hi => hi.elim)⟩
end Go.Proofs.YtkfehogefclhdaaDoor.Dk
