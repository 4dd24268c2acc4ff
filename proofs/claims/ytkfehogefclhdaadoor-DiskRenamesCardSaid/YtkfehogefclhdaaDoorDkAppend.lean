/- Append, whole. -/
import Derived.Test.YtkfehogefclhdaaDoorDkNew
import Derived.Shelf.Abstract
import Derived.Laws.EntriesVeiled
namespace Go.Proofs.YtkfehogefclhdaaDoor.Dk
open Go.RowKit Go.Maps Go.Proofs.YtkfehogefclhdaaDoorW.PrintWords Go.Proofs.YtkfehogefclhdaaDoorW.PrintMore
variable {N : Nat} {w : World} {p : Nat} {F : Nat → Prop} {s : St} {m : Nat} {pv : Value} {B : Nat} {a0 a1 a2 a3 a4 : Addr}

theorem app_part (h : Is N w p F s m pv) (hN : N < maxLen) (x data : ByteArray) (hx : x.size ≤ 140737488351232) (hd : (data.size : Int) ≤ s.quota - used s.fs) {bd bn bt : Nat} (kd : w.cell? ⟨bd, 0, none⟩ = some (.pointer (some ⟨p, 0, none⟩))) (kn : w.cell? ⟨bn, 0, none⟩ = some (.string x)) (kt : w.cell? ⟨bt, 0, none⟩ = some (.string data)) (n : Int)
    (nd : bd ≠ m) (nn : bn ≠ m) (nt : bt ≠ m) :
    Calls Tryd.prog 45 #[.int .i64 n, .pointer (some ⟨bd, 0, none⟩), .pointer (some ⟨bn, 0, none⟩), .pointer (some ⟨bt, 0, none⟩)] w fun e w' => e = .returned (.tuple #[]) ∧
      ∃ F' fs', AppF s.fs x data n fs' ∧ Is (N + 1) w' p F' { s with fs := fs' } m pv ∧ Fr F w w' ∧ Sub w F F' := by
  have hq := h.quo
  have hcs := cut_size data n
  cases hl : look s.fs x with
  | none =>
    refine (app_part_none h hN x data hx (by omega) kd kn kt n hl nd nn nt).mono ?_
    rintro e w' ⟨rfl, W2, k, hg, hmap, rfl⟩
    obtain ⟨h1, h2⟩ := h.app_new hl (cutD data n) (by omega) hg hmap k
    refine ⟨rfl, _, _, ?_, h1, h2, ?_⟩
    · unfold AppF; rw [hl]; exact ⟨_, rfl⟩
    · intro i hi
      rcases hi with hi | rfl
      · exact .inl hi
      · exact .inr (Nat.le_refl _)
  | some f =>
    have hu := used_mem (look_mem hl).1
    refine (app_part_some h x data hx (by omega) kd kn kt n hl (by omega)).mono ?_
    rintro e w' ⟨rfl, k, rfl⟩
    obtain ⟨h1, h2⟩ := h.app_some hl (f.bytes ++ cutD data n) (by rw [ByteArray.size_append]; omega) (by rw [ByteArray.size_append]; omega) k
    refine ⟨rfl, _, _, ?_, h1, h2, Sub.refl _ _⟩
    unfold AppF; rw [hl]
set_option maxRecDepth 100000 in
theorem app_whole (h : Is N w p F s m pv) (hN : N < maxLen) (x data : ByteArray) (hx : x.size ≤ 140737488351232) (hd : (data.size : Int) ≤ s.quota - used s.fs) {bd bn bt bp : Nat} (kd : w.cell? ⟨bd, 0, none⟩ = some (.pointer (some ⟨p, 0, none⟩))) (kn : w.cell? ⟨bn, 0, none⟩ = some (.string x)) (kt : w.cell? ⟨bt, 0, none⟩ = some (.string data))
    (kp : w.cell? ⟨bp, 0, none⟩ = some (.func (.func 45) #[] #[.pointer (some ⟨bd, 0, none⟩), .pointer (some ⟨bn, 0, none⟩), .pointer (some ⟨bt, 0, none⟩)])) (nd : bd ≠ m) (nn : bn ≠ m) (nt : bt ≠ m) :
    Calls Tryd.prog 47 #[.pointer (some ⟨bp, 0, none⟩), .pointer (some ⟨bt, 0, none⟩)] w fun e w' => e = .returned (.tuple #[]) ∧
      ∃ F' fs', AppF s.fs x data data.size fs' ∧ Is (N + 1) w' p F' { s with fs := fs' } m pv ∧ Fr F w w' ∧ Sub w F F' := by
  go_enter Tryd.func47, Tryd.ntmps47
  go_wp2_with (go_at_call 45; refine (app_part h hN x data hx hd kd kn kt data.size nd nn nt).mono ?_; rintro e w' ⟨rfl, hh⟩)
  go_end0
  exact ⟨rfl, hh⟩
/-- What comes of an operation, for its caller. -/
inductive Done (s : St) (a0 a1 a2 a3 a4 : Addr) (code : Int) (Pf : Int → List Fil → Prop) (Wf : List Fil → Prop) (w' : World) (v : Value) : St → Prop
  | down : s.run = false → IsErr w' v a0 → Done s a0 a1 a2 a3 a4 code Pf Wf w' v s
  | due {x rest fs'} : s.run = true → s.plan = x :: rest → x.1 = s.since + 1 → IsErr w' v a0 → (code = 0 → Pf x.2.1 fs') → (code ≠ 0 → fs' = s.fs) → Done s a0 a1 a2 a3 a4 code Pf Wf w' v (s.halt rest fs' x.2.2)
  | err : s.run = true → ¬ Due s → code ≠ 0 → IsErr w' v (why a0 a1 a2 a3 a4 code) → Done s a0 a1 a2 a3 a4 code Pf Wf w' v s.tick
  | ok {fs'} : s.run = true → ¬ Due s → code = 0 → v = .nilIface → Wf fs' → Done s a0 a1 a2 a3 a4 code Pf Wf w' v { s.tick with fs := fs' }
def OpRes (N : Nat) (w : World) (p : Nat) (F : Nat → Prop) (s : St) (m : Nat) (a0 a1 a2 a3 a4 : Addr) (code : Int) (Pf : Int → List Fil → Prop) (Wf : List Fil → Prop) (v : Value) (w' : World) : Prop :=
  ∃ F' s' pv', Is (N + 1) w' p F' s' m pv' ∧ Fr F w w' ∧ Sub w F F' ∧ Done s a0 a1 a2 a3 a4 code Pf Wf w' v s'
theorem Res.opRes {w1 w' : World} {C : Nat → Prop} {code : Int} {Pf : Int → List Fil → Prop} {Wf : List Fil → Prop} {Out : World → Prop} {v : Value} (hr : Res N w1 p F C s m a0 a1 a2 a3 a4 code Pf Wf Out v w') (hb : Below w.heap.size w w1) (hC : ∀ i, C i → w.heap.size ≤ i) :
    OpRes N w p F s m a0 a1 a2 a3 a4 code Pf Wf v w' := by
  obtain ⟨F', s', pv', h1, h2, h3, h4⟩ := hr
  refine ⟨F', s', pv', h1, ⟨h2.os.trans hb.os, h2.tape.trans hb.tape, h2.output.trans hb.output, Nat.le_trans hb.size h2.size, fun i hi hn => (h2.block i (Nat.lt_of_lt_of_le hi hb.size) (fun e => by
    rcases e with e | e
    · exact hn e
    · have := hC i e; omega)).trans (hb.block i hi)⟩, h3.trans' hb.size, ?_⟩
  cases h4 with
  | down a b c => exact .down a b
  | due a b c d e f g => exact .due a b c d f g
  | err a b c d e => exact .err a b c d
  | ok a b c d e f => exact .ok a b c d e
theorem ent43 : Enters Tryd.prog 43 := enters_of Tryd.func43 (by kernel_rfl) rfl
theorem ent45 : Enters Tryd.prog 45 := enters_of Tryd.func45 (by kernel_rfl) rfl
theorem ent47 : Enters Tryd.prog 47 := enters_of Tryd.func47 (by kernel_rfl) rfl
theorem appC_zero {x data : ByteArray} (h : appC s x data = 0) : (data.size : Int) ≤ s.quota - used s.fs := by
  unfold appC at h
  split at h
  · split at h
    · cases h
    · omega
  · cases h
theorem appC_same {s1 : St} (e1 : s1.fs = s.fs) (e2 : s1.quota = s.quota) (x data : ByteArray) : appC s1 x data = appC s x data := by unfold appC; rw [e1, e2]
theorem app_clo (h : Is N w p F s m pv) (hN : N < maxLen) (x data : ByteArray) (hx : x.size ≤ 140737488351232) (hd : data.size ≤ 140737488351232) {bd bn bt bp : Nat} (kd : w.cell? ⟨bd, 0, none⟩ = some (.pointer (some ⟨p, 0, none⟩))) (kn : w.cell? ⟨bn, 0, none⟩ = some (.string x)) (kt : w.cell? ⟨bt, 0, none⟩ = some (.string data))
    (kp : w.cell? ⟨bp, 0, none⟩ = some (.func (.func 45) #[] #[.pointer (some ⟨bd, 0, none⟩), .pointer (some ⟨bn, 0, none⟩), .pointer (some ⟨bt, 0, none⟩)])) (nF : ∀ i, i = bd ∨ i = bn ∨ i = bt ∨ i = bp → ¬ F i) :
    Clo N w p F (fun i => i = bd ∨ i = bn ∨ i = bt ∨ i = bp) s m (appC s x data) 43 47 45 #[.pointer (some ⟨bn, 0, none⟩), .pointer (some ⟨bt, 0, none⟩), .pointer (some ⟨bd, 0, none⟩)] #[.pointer (some ⟨bp, 0, none⟩), .pointer (some ⟨bt, 0, none⟩)] #[.pointer (some ⟨bd, 0, none⟩), .pointer (some ⟨bn, 0, none⟩), .pointer (some ⟨bt, 0, none⟩)]
      (AppF s.fs x data) (AppF s.fs x data data.size) (fun _ => True) (fun _ => False) where
  may := fun w1 s1 pv1 on => by
    rw [← appC_same on.fs on.quo]
    exact app_may on.is x data hx hd (cell_of kd (on.cap bd (.inl rfl))) (cell_of kn (on.cap bn (.inr (.inl rfl)))) (cell_of kt (on.cap bt (.inr (.inr (.inl rfl)))))
  part := fun h0 w1 s1 pv1 n on => by
    have hm := nF
    refine (app_part on.is hN x data hx (by rw [on.fs, on.quo]; exact appC_zero h0) (cell_of kd (on.cap bd (.inl rfl))) (cell_of kn (on.cap bn (.inr (.inl rfl)))) (cell_of kt (on.cap bt (.inr (.inr (.inl rfl))))) n
      (fun e => nF bd (.inl rfl) (e ▸ h.inM)) (fun e => nF bn (.inr (.inl rfl)) (e ▸ h.inM)) (fun e => nF bt (.inr (.inr (.inl rfl))) (e ▸ h.inM))).mono ?_
    rintro e w' ⟨rfl, F', fs', h1, h2, h3, h4⟩
    rw [on.fs] at h1
    exact ⟨rfl, F', fs', h1, h2, h3, h4⟩
  whole := fun h0 w1 s1 pv1 on => by
    refine (app_whole on.is hN x data hx (by rw [on.fs, on.quo]; exact appC_zero h0) (cell_of kd (on.cap bd (.inl rfl))) (cell_of kn (on.cap bn (.inr (.inl rfl)))) (cell_of kt (on.cap bt (.inr (.inr (.inl rfl))))) (cell_of kp (on.cap bp (.inr (.inr (.inr rfl)))))
      (fun e => nF bd (.inl rfl) (e ▸ h.inM)) (fun e => nF bn (.inr (.inl rfl)) (e ▸ h.inM)) (fun e => nF bt (.inr (.inr (.inl rfl))) (e ▸ h.inM))).mono ?_
    rintro e w' ⟨rfl, F', fs', h1, h2, h3, h4⟩
    rw [on.fs] at h1
    exact ⟨rfl, F', fs', h1, h2, h3.or _, h4, trivial⟩
  em := ent43
  ew := ent47
  ep := ent45
  sep := fun i hi => ⟨by
    rcases hi with rfl | rfl | rfl | rfl
    · exact World.block_lt_of_cell? w _ kd
    · exact World.block_lt_of_cell? w _ kn
    · exact World.block_lt_of_cell? w _ kt
    · exact World.block_lt_of_cell? w _ kp, nF i hi⟩
set_option maxRecDepth 100000 in
set_option maxHeartbeats 1000000 in
theorem append_ok (h : Is N w p F s m pv) (hN : N < maxLen) (hS : Sens w B a0 a1 a2 a3 a4) (hB : ∀ i, F i → B ≤ i) (hs0 : 0 ≤ s.steps) (hs1 : s.steps < 1000000000000) (hs2 : 0 ≤ s.since) (hs3 : s.since < 1000000000000) (x data : ByteArray) (hx : x.size ≤ 140737488351232) (hd : data.size ≤ 140737488351232) :
    Calls Tryd.prog 12 #[.pointer (some ⟨p, 0, none⟩), .string x, .string data] w fun e w' => ∃ v, e = .returned v ∧ OpRes N w p F s m a0 a1 a2 a3 a4 (appC s x data) (AppF s.fs x data) (AppF s.fs x data data.size) v w' := by
  have hmf : ∀ (fn : Fn) (first cap : Array Value) (w : World), (Instr.makeFunc fn first cap).run Tryd.prog w = .ok (.func fn first cap) w := fun _ _ _ _ => rfl
  obtain ⟨o1, ho1⟩ : ∃ o, o = Obj.cells #[.pointer (some ⟨p, 0, none⟩)] 23 := ⟨_, rfl⟩
  obtain ⟨o2, ho2⟩ : ∃ o, o = Obj.cells #[.string x] 9 := ⟨_, rfl⟩
  obtain ⟨o3, ho3⟩ : ∃ o, o = Obj.cells #[.string data] 9 := ⟨_, rfl⟩
  obtain ⟨o4, ho4⟩ : ∃ o, o = Obj.cells #[.nilFunc] 82 := ⟨_, rfl⟩
  obtain ⟨o5, ho5⟩ : ∃ o, o = Obj.cells #[.func (.func 45) #[] #[.pointer (some ⟨w.heap.size, 0, none⟩), .pointer (some ⟨w.heap.size + 1, 0, none⟩), .pointer (some ⟨w.heap.size + 1 + 1, 0, none⟩)]] 82 := ⟨_, rfl⟩
  have z1 : (w.alloc o1).heap.size = w.heap.size + 1 := by simp
  have z2 : ((w.alloc o1).alloc o2).heap.size = w.heap.size + 1 + 1 := by simp
  have z3 : (((w.alloc o1).alloc o2).alloc o3).heap.size = w.heap.size + 1 + 1 + 1 := by simp
  have b1 := blk_new w o1
  have b2 := blk_new (w.alloc o1) o2
  have b3 := blk_new ((w.alloc o1).alloc o2) o3
  have b4 := blk_new (((w.alloc o1).alloc o2).alloc o3) o4
  have b5 := blk_new (((w.alloc o1).alloc o2).alloc o3) o5
  rw [z1] at b2
  rw [z2] at b3
  rw [z3] at b4 b5
  have b1' := blk_alloc (blk_alloc (blk_alloc b1 o2) o3) o5
  have b2' := blk_alloc (blk_alloc b2 o3) o5
  have b3' := blk_alloc b3 o5
  have hW : Below w.heap.size w ((((w.alloc o1).alloc o2).alloc o3).alloc o5) := ((((Below.refl _ w).alloc (Nat.le_refl _) o1).alloc (by rw [z1]; omega) o2).alloc (by rw [z2]; omega) o3).alloc (by rw [z3]; omega) o5
  subst ho1 ho2 ho3 ho4 ho5
  have e4 := blk_cell b4 0
  have f4 := blk_frozen b4 0
  simp only [List.getElem?_toArray, List.getElem?_cons_zero] at e4
  have k1 := blk_cell b1' 0
  have k2 := blk_cell b2' 0
  have k3 := blk_cell b3' 0
  have k4 := blk_cell b5 0
  clear b1 b2 b3 b4 b5 b1' b2' b3' z1 z2 z3
  have hcl := app_clo (h.below hW) hN x data hx hd (bd := w.heap.size) (bn := w.heap.size + 1) (bt := w.heap.size + 1 + 1) (bp := w.heap.size + 1 + 1 + 1) k1 k2 k3 k4 (fun i hi hF => by have := h.low i hF; omega)
  have hS' := hS.below (hW.mono (Nat.le_trans (hB p h.inP) (Nat.le_of_lt (h.low p h.inP))))
  have hop := op_any (h.below hW) hS' hB hs0 hs1 hs2 hs3 ⟨#[97, 112, 112, 101, 110, 100]⟩ x hcl
  have HOP : Hid _ := hop
  clear hop hcl
  have HW : Hid _ := hW
  go_enter Tryd.func12, Tryd.ntmps12
  go_wp2_with (go_at_call 46; refine Calls.mono HOP.out ?_; rintro e w' ⟨v, rfl, hres⟩)
  go_ret
  exact ⟨v, rfl, hres.opRes HW.out (fun i hi => hi.elim)⟩
end Go.Proofs.YtkfehogefclhdaaDoor.Dk
