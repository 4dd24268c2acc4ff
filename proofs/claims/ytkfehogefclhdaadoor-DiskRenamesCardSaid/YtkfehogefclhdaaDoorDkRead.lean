/- Read, by its contract. -/
import Derived.Test.YtkfehogefclhdaaDoorDkRemove
namespace Go.Proofs.YtkfehogefclhdaaDoor.Dk
open Go.RowKit Go.Maps Go.Proofs.YtkfehogefclhdaaDoorW.PrintWords Go.Proofs.YtkfehogefclhdaaDoorW.PrintMore
variable {N : Nat} {w : World} {p : Nat} {F : Nat → Prop} {s : St} {m : Nat} {pv : Value} {B : Nat} {a0 a1 a2 a3 a4 : Addr}

theorem ent58 : Enters Tryd.prog 58 := enters_of Tryd.func58 (by kernel_rfl) rfl
theorem ent59 : Enters Tryd.prog 59 := enters_of Tryd.func59 (by kernel_rfl) rfl
theorem ent60 : Enters Tryd.prog 60 := enters_of Tryd.func60 (by kernel_rfl) rfl
set_option maxRecDepth 100000 in
theorem may_there58 (h : Is N w p F s m pv) (x : ByteArray) (hx : x.size ≤ 140737488351232) {bd bn : Nat} (kd : w.cell? ⟨bd, 0, none⟩ = some (.pointer (some ⟨p, 0, none⟩))) (kn : w.cell? ⟨bn, 0, none⟩ = some (.string x)) :
    Calls Tryd.prog 58 #[.pointer (some ⟨bd, 0, none⟩), .pointer (some ⟨bn, 0, none⟩)] w fun e w' => e = .returned (.int .i64 (thereC s.fs x)) ∧ Below w.heap.size w w' := by
  go_enter Tryd.func58, Tryd.ntmps58
  go_wp2_with (go_at_call 52; refine (there_ok h x hx).mono ?_; rintro e w' ⟨rfl, hb⟩)
  go_ret
  exact ⟨rfl, hb⟩
set_option maxRecDepth 100000 in
theorem part60 (n : Int) (w : World) : Calls Tryd.prog 60 #[.int .i64 n] w fun e w' => e = .returned (.tuple #[]) ∧ w' = w := by
  go_enter Tryd.func60, Tryd.ntmps60
  try go_wp2
  go_end0
  exact ⟨rfl, rfl⟩
set_option maxRecDepth 100000 in
theorem whole59 (h : Is N w p F s m pv) (x : ByteArray) (hx : x.size ≤ 140737488351232) {bd bn bo : Nat} (kd : w.cell? ⟨bd, 0, none⟩ = some (.pointer (some ⟨p, 0, none⟩))) (kn : w.cell? ⟨bn, 0, none⟩ = some (.string x)) {u : Value} (ko : w.cell? ⟨bo, 0, none⟩ = some u) (fo : w.frozen? ⟨bo, 0, none⟩ = false) {f : Fil} (hl : look s.fs x = some f) :
    Calls Tryd.prog 59 #[.pointer (some ⟨bd, 0, none⟩), .pointer (some ⟨bn, 0, none⟩), .pointer (some ⟨bo, 0, none⟩)] w fun e w' => e = .returned (.tuple #[]) ∧ w' = (w.setCell ⟨bo, 0, none⟩ (.string f.bytes)).drew := by
  obtain ⟨c0, c1, c2, c3, c4, c5⟩ := h.cells
  have hm := (look_mem hl).1
  have b0 := blk_cell (h.each f hm) 0
  simp only [List.getElem?_toArray, List.getElem?_cons_zero] at b0
  have hk1 : (Instr.lookup 75 (.map (some m)) (.string x) false).run Tryd.prog w.drew = .ok (.pointer (some ⟨f.blk, 0, none⟩)) w.drew := by
    have t := look_run (w := w.drew) (h.below (Below.refl _ _).drew).files (x := x) (by unfold maxLen; omega)
    unfold at' at t; rw [hl] at t; exact t
  go_enter Tryd.func59, Tryd.ntmps59
  go_wp2
  go_still_tail 9, (by kernel_rfl)
  all_goals go_wp2
  go_end0
  exact ⟨rfl, rfl⟩
/-- What Read tells. -/
def Told (s : St) (x : ByteArray) (r : ByteArray) (v : Value) : Prop := (v = .nilIface → ∃ f, look s.fs x = some f ∧ r = f.bytes) ∧ (v ≠ .nilIface → r = ⟨#[]⟩)
theorem err_ne {w' : World} {v : Value} {a : Addr} (h : IsErr w' v a) : v ≠ .nilIface := by
  obtain ⟨q, _, _, _, _, rfl, _⟩ := h
  intro e; cases e
theorem read_clo {w5 : World} (h : Is N w5 p F s m pv) (x : ByteArray) (hx : x.size ≤ 140737488351232) {bd bn bo : Nat} (kd : w5.cell? ⟨bd, 0, none⟩ = some (.pointer (some ⟨p, 0, none⟩))) (kn : w5.cell? ⟨bn, 0, none⟩ = some (.string x)) {cs : Array Value} {ty : TypeId} (hbo : w5.heap[bo]? = some (.cells cs ty (0, 0))) {u : Value} (ko : cs[0]? = some u) (nF : ∀ i, i = bd ∨ i = bn ∨ i = bo → ¬ F i) :
    Clo N w5 p F (fun i => i = bd ∨ i = bn ∨ i = bo) s m (thereC s.fs x) 58 59 60 #[.pointer (some ⟨bd, 0, none⟩), .pointer (some ⟨bn, 0, none⟩)] #[.pointer (some ⟨bd, 0, none⟩), .pointer (some ⟨bn, 0, none⟩), .pointer (some ⟨bo, 0, none⟩)] #[]
      (fun _ fs' => fs' = s.fs) (fun fs' => fs' = s.fs) (fun w' => ∃ f, look s.fs x = some f ∧ w'.cell? ⟨bo, 0, none⟩ = some (.string f.bytes)) (fun i => i = bo) where
  may := fun w1 s1 pv1 on => by
    rw [← on.fs]
    exact may_there58 on.is x hx (cell_of kd (on.cap bd (.inl rfl))) (cell_of kn (on.cap bn (.inr (.inl rfl))))
  part := fun h0 w1 s1 pv1 n on => by
    refine (part60 n w1).mono ?_
    rintro e w' ⟨rfl, rfl⟩
    refine ⟨rfl, F, s.fs, rfl, ?_, Fr.refl _ _, Sub.refl _ _⟩
    have e1 : ({ s1 with fs := s.fs } : St) = s1 := by rw [← on.fs]
    rw [e1]; exact on.is.more
  whole := fun h0 w1 s1 pv1 on => by
    obtain ⟨f, hf⟩ := there_zero h0
    have hb1 : w1.heap[bo]? = some (.cells cs ty (0, 0)) := (on.cap bo (.inr (.inr rfl))).trans hbo
    refine (whole59 on.is x hx (cell_of kd (on.cap bd (.inl rfl))) (cell_of kn (on.cap bn (.inr (.inl rfl)))) ((blk_cell hb1 0).trans ko) (blk_frozen hb1 0) (by rw [on.fs]; exact hf)).mono ?_
    rintro e w' ⟨rfl, rfl⟩
    have e1 : ({ s1 with fs := s.fs } : St) = s1 := by rw [← on.fs]
    have hne : ∀ i, F i → i ≠ bo := fun i hi e => nF bo (.inr (.inr rfl)) (e ▸ hi)
    refine ⟨rfl, F, s.fs, rfl, ?_, ?_, Sub.refl _ _, f, hf, ?_⟩
    · rw [e1]
      exact (on.is.kept (w' := (w1.setCell ⟨bo, 0, none⟩ (.string f.bytes)).drew) (fun i hi => Below.heap_setCell w1 ⟨bo, 0, none⟩ _ i (hne i hi)) (by show _ ≤ (w1.setCell _ _).heap.size; simp [World.setCell])).more
    · have t := (Fr.refl (fun i => F i ∨ i = bo) w1).set (a := ⟨bo, 0, none⟩) (.inr rfl) (.string f.bytes)
      exact ⟨t.os, t.tape, t.output, t.size, t.block⟩
    · have t := blk_cell (blk_set hb1 0 (.string f.bytes)) 0
      have hlt : 0 < cs.size := by
        rcases Nat.lt_or_ge 0 cs.size with h | h
        · exact h
        · rw [Array.getElem?_eq_none h] at ko; cases ko
      have t2 : (cs.setIfInBounds 0 (Value.string f.bytes))[0]? = some (Value.string f.bytes) := by simp [hlt]
      exact t.trans t2
  em := ent58
  ew := ent59
  ep := ent60
  sep := fun i hi => ⟨by
    rcases hi with rfl | rfl | rfl
    · exact World.block_lt_of_cell? w5 _ kd
    · exact World.block_lt_of_cell? w5 _ kn
    · exact blk_lt hbo, nF i hi⟩
theorem Res.told {w' : World} {bo : Nat} {x : ByteArray} {Pf : Int → List Fil → Prop} {Wf : List Fil → Prop} {v : Value} (hr : Res N w p F (fun i => i = bo) s m a0 a1 a2 a3 a4 (thereC s.fs x) Pf Wf (fun w' => ∃ f, look s.fs x = some f ∧ w'.cell? ⟨bo, 0, none⟩ = some (.string f.bytes)) v w') (ko : w.cell? ⟨bo, 0, none⟩ = some (.string ⟨#[]⟩)) (hF : ¬ F bo) :
    ∃ r, w'.cell? ⟨bo, 0, none⟩ = some (.string r) ∧ Told s x r v := by
  obtain ⟨F', s', pv', h1, h2, h3, h4⟩ := hr
  have kb := World.block_lt_of_cell? w _ ko
  have old : Fr F w w' → IsErr w' v a0 ∨ IsErr w' v (why a0 a1 a2 a3 a4 (thereC s.fs x)) → ∃ r, w'.cell? ⟨bo, 0, none⟩ = some (.string r) ∧ Told s x r v := fun hf he =>
    ⟨⟨#[]⟩, cell_of ko (hf.block bo kb hF), fun e => by rcases he with he | he <;> exact absurd e (err_ne he), fun _ => rfl⟩
  cases h4 with
  | down a b c => exact old c (.inl b)
  | due a b c d e f g => exact old e (.inl d)
  | err a b c d e => exact old e (.inr d)
  | ok a b c d e f =>
    obtain ⟨g, hg, hc⟩ := f
    exact ⟨g.bytes, hc, fun _ => ⟨g, hg, rfl⟩, fun hn => absurd d hn⟩
set_option maxRecDepth 100000 in
set_option maxHeartbeats 1000000 in
theorem read_ok (h : Is N w p F s m pv) (hS : Sens w B a0 a1 a2 a3 a4) (hB : ∀ i, F i → B ≤ i) (hs0 : 0 ≤ s.steps) (hs1 : s.steps < 1000000000000) (hs2 : 0 ≤ s.since) (hs3 : s.since < 1000000000000) (x : ByteArray) (hx : x.size ≤ 140737488351232) :
    Calls Tryd.prog 20 #[.pointer (some ⟨p, 0, none⟩), .string x] w fun e w' => ∃ v r, e = .returned (.tuple #[.string r, v]) ∧ OpRes N w p F s m a0 a1 a2 a3 a4 (thereC s.fs x) (fun _ fs' => fs' = s.fs) (fun fs' => fs' = s.fs) v w' ∧ Told s x r v := by
  have hmf : ∀ (fn : Fn) (first cap : Array Value) (w : World), (Instr.makeFunc fn first cap).run Tryd.prog w = .ok (.func fn first cap) w := fun _ _ _ _ => rfl
  obtain ⟨o1, ho1⟩ : ∃ o, o = Obj.cells #[.pointer (some ⟨p, 0, none⟩)] 23 := ⟨_, rfl⟩
  obtain ⟨o2, ho2⟩ : ∃ o, o = Obj.cells #[.string x] 9 := ⟨_, rfl⟩
  obtain ⟨o3, ho3⟩ : ∃ o, o = Obj.cells #[.string ⟨#[]⟩] 9 := ⟨_, rfl⟩
  have z1 : (w.alloc o1).heap.size = w.heap.size + 1 := by simp
  have z2 : ((w.alloc o1).alloc o2).heap.size = w.heap.size + 1 + 1 := by simp
  have b1 := blk_new w o1
  have b2 := blk_new (w.alloc o1) o2
  have b3 := blk_new ((w.alloc o1).alloc o2) o3
  rw [z1] at b2
  rw [z2] at b3
  have b1' := blk_alloc (blk_alloc b1 o2) o3
  have b2' := blk_alloc b2 o3
  have hW : Below w.heap.size w (((w.alloc o1).alloc o2).alloc o3) := (((Below.refl _ w).alloc (Nat.le_refl _) o1).alloc (by rw [z1]; omega) o2).alloc (by rw [z2]; omega) o3
  subst ho1 ho2 ho3
  have g1 := blk_cell b1' 0
  have g2 := blk_cell b2' 0
  have g3 := blk_cell b3 0
  have f3 := blk_frozen b3 0
  simp only [List.getElem?_toArray, List.getElem?_cons_zero] at g1 g2 g3
  have hS' := hS.below (hW.mono (Nat.le_trans (hB p h.inP) (Nat.le_of_lt (h.low p h.inP))))
  have nF : ∀ i, w.heap.size ≤ i → ¬ F i := fun i hi e => by have := h.low i e; omega
  have hcl := read_clo (h.below hW) x hx g1 g2 b3 (u := .string ⟨#[]⟩) rfl (fun i hi => nF i (by omega))
  have hop := op_any (h.below hW) hS' hB hs0 hs1 hs2 hs3 ⟨#[114, 101, 97, 100]⟩ x hcl
  have HOP : Hid _ := hop
  have HW : Hid _ := hW
  have HG : Hid _ := g3
  clear hop hcl hW hS' b1 b2 b3 b1' b2' z1 z2
  go_enter Tryd.func20, Tryd.ntmps20
  go_wp2_with (go_at_call 46; refine Calls.mono HOP.out ?_; rintro e w' ⟨v, rfl, hres⟩; obtain ⟨r, hr, htold⟩ := hres.told HG.out (nF _ (by omega)))
  go_ret2
  exact ⟨v, r, rfl, hres.opRes HW.out (fun i hi => by omega), htold⟩
end Go.Proofs.YtkfehogefclhdaaDoor.Dk
