/- operate where a stop is due, by its contract. -/
import Derived.Test.YtkfehogefclhdaaDoorDkOp
namespace Go.Proofs.YtkfehogefclhdaaDoor.Dk
open Go.RowKit Go.Maps Go.Proofs.YtkfehogefclhdaaDoorW.PrintWords Go.Proofs.YtkfehogefclhdaaDoorW.PrintMore
variable {N : Nat} {w : World} {p : Nat} {F : Nat → Prop} {s : St} {m : Nat} {pv : Value} {B : Nat} {a0 a1 a2 a3 a4 : Addr}

/-- Another plan is laid. -/
theorem Is.setPlan (h : Is N w p F s m pv) (pl : List (Int × Int × Int)) (pv' : Value) (hpl : PlanIs w F pv' pl) : Is N (w.setCell ⟨p, 4, none⟩ pv') p F { s with plan := pl } m pv' where
  top := blk_set h.top 4 pv'
  files := h.files.kept (Below.heap_setCell w ⟨p, 4, none⟩ pv' m (Ne.symm h.ne))
  plan := by
    obtain ⟨A, c, e, h1, h2, h3⟩ := hpl
    refine ⟨A, c, e, h1, h2, fun i x hx => ?_⟩
    obtain ⟨g, o, ha, hg, ⟨cs, k0⟩, k1, k2, k3⟩ := h3 i x hx
    have hgp : g ≠ p := fun e => by rw [e] at k0; have := h.top.symm.trans k0; simp at this
    have hh := Below.heap_setCell w ⟨p, 4, none⟩ pv' g hgp
    exact ⟨g, o, ha, hg, ⟨cs, hh.trans k0⟩, cell_of k1 hh, cell_of k2 hh, cell_of k3 hh⟩
  each := fun f hf => (Below.heap_setCell w ⟨p, 4, none⟩ pv' f.blk (h.types hf).1).trans (h.each f hf)
  names := h.names
  blks := h.blks
  durs := h.durs
  room := h.room
  quo := h.quo
  inP := h.inP
  inM := h.inM
  inF := h.inF
  low := fun i hi => by have := h.low i hi; simpa [World.setCell] using this
theorem PlanIs.tail {g o n c : Nat} {x : Int × Int × Int} {rest : List (Int × Int × Int)} (h : PlanIs w F (.slice (some ⟨g, o, none⟩) n c) (x :: rest)) :
    PlanIs w F (.slice (some ⟨g, o + 3, none⟩) rest.length (c - 1)) rest := by
  obtain ⟨A', c', e, h1, h2, h3⟩ := h
  injection e with e1 e2 e3
  rw [List.length_cons] at h1
  refine ⟨_, _, rfl, by omega, by omega, fun i y hy => ?_⟩
  obtain ⟨g', o', ha, hg, k0, k1, k2, k3⟩ := h3 (i + 1) y (by rw [List.getElem?_cons_succ]; exact hy)
  rw [← e1] at ha
  cases ha
  refine ⟨g, o + 3, rfl, hg, k0, ?_, ?_, ?_⟩
  · rw [show o + 3 + i * 3 = o + (i + 1) * 3 by omega]; exact k1
  · rw [show o + 3 + i * 3 + 1 = o + (i + 1) * 3 + 1 by omega]; exact k2
  · rw [show o + 3 + i * 3 + 2 = o + (i + 1) * 3 + 2 by omega]; exact k3
theorem PlanIs.done (w : World) (F : Nat → Prop) (A : Option Addr) : PlanIs w F (.slice A 0 0) [] := ⟨A, 0, rfl, Nat.le_refl _, by omega, fun i x h => by simp at h⟩
/-- The state behind a stop. -/
def St.halt (s : St) (rest : List (Int × Int × Int)) (fs : List Fil) (r : Int) : St := { s.tick with run := false, plan := rest, fs := fs.map (stopF r) }
theorem why93 : why a0 a1 a2 a3 a4 93 = a0 := rfl
theorem On.cut {C : Nat → Prop} {w1 : World} {s1 : St} {pv1 : Value} (h : On N w p F C s m w1 s1 pv1) (hC : ∀ i, C i → i < w.heap.size ∧ ¬ F i) (pl : List (Int × Int × Int)) (pv' : Value) (hpl : PlanIs w1 F pv' pl) (o : Obj) :
    On N w p F C s m (((w1.setCell ⟨p, 4, none⟩ pv').alloc o).drew) { s1 with plan := pl } pv' := by
  have h1 : On N w p F C s m (w1.setCell ⟨p, 4, none⟩ pv') { s1 with plan := pl } pv' :=
    ⟨h.is.setPlan pl pv' hpl, h.fs, h.quo, fun i hi => (Below.heap_setCell w1 ⟨p, 4, none⟩ pv' i (fun e => (hC i hi).2 (by rw [e]; exact h.is.inP))).trans (h.cap i hi), by simpa [World.setCell] using h.size⟩
  exact h1.below hC ((Below.refl _ _).alloc (Nat.le_refl _) o).drew
theorem cut_fr {w1 : World} (h : Fr F w w1) (hp : F p) (pv' : Value) (o : Obj) : Fr F w (((w1.setCell ⟨p, 4, none⟩ pv').alloc o).drew) :=
  (h.set (a := ⟨p, 4, none⟩) hp pv').trans (Sub.refl _ _) (Fr.of_below ((Below.refl _ _).alloc (Nat.le_refl _) o).drew F)
theorem Sub.trans' {w w1 : World} {F F' : Nat → Prop} (h : Sub w1 F F') (hs : w.heap.size ≤ w1.heap.size) : Sub w F F' := fun i hi => by
  rcases h i hi with h1 | h1
  · exact .inl h1
  · exact .inr (Nat.le_trans hs h1)
set_option maxRecDepth 100000 in
set_option maxHeartbeats 1000000 in
theorem due_err_more (h : Is N w p F s m pv) (hS : Sens w B a0 a1 a2 a3 a4) (hB : ∀ i, F i → B ≤ i) (hr : s.run = true) (hs0 : 0 ≤ s.steps) (hs1 : s.steps < 1000000000000) (hs2 : 0 ≤ s.since) (hs3 : s.since < 1000000000000) (op name : ByteArray) {C : Nat → Prop} {code : Int} {km kw kp : Nat} {cm cw cp : Array Value} {Pf : Int → List Fil → Prop} {Wf : List Fil → Prop} {Out : World → Prop} {Wr : Nat → Prop}
    (hc : Clo N w p F C s m code km kw kp cm cw cp Pf Wf Out Wr) {x : Int × Int × Int} {rest : List (Int × Int × Int)} (hp : s.plan = x :: rest) (hx : x.1 = s.since + 1) (h0 : code ≠ 0) {g o cap : Nat} (hpv : pv = .slice (some ⟨g, o, none⟩) s.plan.length cap) (hcap : cap ≠ 1) :
    Calls Tryd.prog 46 #[.pointer (some ⟨p, 0, none⟩), .string op, .string name, .func (.func km) #[] cm, .func (.func kw) #[] cw, .func (.func kp) #[] cp] w fun e w' =>
      ∃ v, e = .returned v ∧ IsErr w' v a0 ∧ ∃ pv', Is N w' p F (s.halt rest s.fs x.2.2) m pv' ∧ Fr F w w'  := by
  subst hpv
  obtain ⟨c0, c1, c2, c3, c4, c5⟩ := h.cells
  have th := h.thaw
  have hxb : (x.1 == s.since + 1) = true := beq_iff_eq.2 hx
  have hBw : B ≤ w.heap.size := Nat.le_trans (hB p h.inP) (Nat.le_of_lt (h.low p h.inP))
  have hcl : s.plan.length ≤ cap ∧ cap ≤ 9223372036854775807 := by obtain ⟨A, c, e, h1, h2, _⟩ := h.plan; injection e with e1 e2 e3; subst e3; exact ⟨h1, h2⟩
  have hlen : s.plan.length = rest.length + 1 := by rw [hp]; rfl
  rw [hlen] at c4 h hcl
  clear hlen
  have hon := On.start h hc.sep
  have hfr := tick_fr F h.inP (w := w) (.int .i64 (s.steps + 1)) (.int .i64 (s.since + 1))
  have HP : Hid _ := hp
  clear hp
  have hem := hc.em
  have hep := hc.ep
  go_enter Tryd.func46, Tryd.ntmps46
  go_wp2_with (first
    | (go_at_call 18; refine (down_ok h).mono ?_; rintro e w' ⟨rfl, h'⟩; replace h' := h'.symm; subst h')
    | (refine (hc.may _ _ _ hon).mono ?_; rintro e w2 ⟨rfl, hb2⟩; have hfr2 := hfr.trans (Sub.refl _ _) (Fr.of_below hb2 F); have hon2 := hon.below hc.sep hb2; obtain ⟨d0, d1, d2, d3, d4, d5⟩ := hon2.is.cells; simp only [St.tick] at d0 d1 d2 d3 d4 d5; have hpl : p < w2.heap.size := hon2.is.low p hon2.is.inP; have hal : ∀ (o : Obj) (j : Nat), (w2.alloc o).cell? ⟨p, j, none⟩ = w2.cell? ⟨p, j, none⟩ := fun o j => World.cell?_alloc_past _ _ _ hpl; have hth : ∀ (i : Nat), w2.frozen? ⟨p, i, none⟩ = false := hon2.is.thaw; have hfz : ∀ (o : Obj) (i : Nat), (w2.alloc o).frozen? ⟨p, i, none⟩ = false := fun o i => blk_frozen (blk_alloc hon2.is.top o) i; have hne2 : p ≠ w2.heap.size := Nat.ne_of_lt hpl; have hq := hon2.is.plan; rw [show s.tick.plan = x :: _ from HP.out] at hq; obtain ⟨k1, k2, k3⟩ := hq.first; have HQ : Hid _ := hq; clear hq))
  go_region
  have hon3 := On.cut hon2 hc.sep _ (.slice (some ⟨g, o + 3, none⟩) rest.length (cap - 1)) (PlanIs.tail HQ.out) (Obj.cells #[.int .i64 (s.since + 1), .int .i64 x.2.1, .int .i64 x.2.2] 32)
  have hfr3 := cut_fr hfr2 h.inP (.slice (some ⟨g, o + 3, none⟩) rest.length (cap - 1)) (Obj.cells #[.int .i64 (s.since + 1), .int .i64 x.2.1, .int .i64 x.2.2] 32)
  have hnF : ¬ F w2.heap.size := fun e => by have := h.low _ e; have := hfr2.size; omega
  have kst : ∀ j : Nat, ((((w2.setCell ⟨p, 4, none⟩ (.slice (some ⟨g, o + 3, none⟩) rest.length (cap - 1))).alloc (Obj.cells #[.int .i64 (s.since + 1), .int .i64 x.2.1, .int .i64 x.2.2] 32)).drew)).cell? ⟨w2.heap.size, j, none⟩ = (#[.int .i64 (s.since + 1), .int .i64 x.2.1, .int .i64 x.2.2] : Array Value)[j]? := fun j => by
    have e : (w2.setCell ⟨p, 4, none⟩ (.slice (some ⟨g, o + 3, none⟩) rest.length (cap - 1))).heap.size = w2.heap.size := by simp [World.setCell]
    have hb := blk_new (w2.setCell ⟨p, 4, none⟩ (.slice (some ⟨g, o + 3, none⟩) rest.length (cap - 1))) (Obj.cells #[.int .i64 (s.since + 1), .int .i64 x.2.1, .int .i64 x.2.2] 32)
    rw [e] at hb
    exact blk_cell hb j
  all_goals go_wp2_with (first
    | (go_at_call 78; refine (stop_ok hon3.is x.2.2).mono ?_; rintro e w5 ⟨rfl, his5, hfr5⟩; have hfr6 := hfr3.trans (Sub.refl _ _) hfr5; have hS5 := hS.below (hfr6.below hB hBw); have hq3 := his5.cells.2.2.2.1; simp only [St.tick] at hq3)
    | (go_at_call 77; refine (fail_ok hS5 op name (s.steps + 1) 93).mono ?_; rintro e w6 ⟨v, rfl, hv, hb⟩))
  go_ret
  exact ⟨_, rfl, hv, _, his5.below hb, hfr6.trans (Sub.refl _ _) (Fr.of_below hb F)⟩
set_option maxRecDepth 100000 in
set_option maxHeartbeats 1000000 in
theorem due_err_last (h : Is N w p F s m pv) (hS : Sens w B a0 a1 a2 a3 a4) (hB : ∀ i, F i → B ≤ i) (hr : s.run = true) (hs0 : 0 ≤ s.steps) (hs1 : s.steps < 1000000000000) (hs2 : 0 ≤ s.since) (hs3 : s.since < 1000000000000) (op name : ByteArray) {C : Nat → Prop} {code : Int} {km kw kp : Nat} {cm cw cp : Array Value} {Pf : Int → List Fil → Prop} {Wf : List Fil → Prop} {Out : World → Prop} {Wr : Nat → Prop}
    (hc : Clo N w p F C s m code km kw kp cm cw cp Pf Wf Out Wr) {x : Int × Int × Int} {rest : List (Int × Int × Int)} (hp : s.plan = x :: rest) (hx : x.1 = s.since + 1) (h0 : code ≠ 0) {g o cap : Nat} (hpv : pv = .slice (some ⟨g, o, none⟩) s.plan.length cap) (hcap : cap = 1) :
    Calls Tryd.prog 46 #[.pointer (some ⟨p, 0, none⟩), .string op, .string name, .func (.func km) #[] cm, .func (.func kw) #[] cw, .func (.func kp) #[] cp] w fun e w' =>
      ∃ v, e = .returned v ∧ IsErr w' v a0 ∧ ∃ pv', Is N w' p F (s.halt rest s.fs x.2.2) m pv' ∧ Fr F w w'  := by
  subst hpv
  obtain ⟨c0, c1, c2, c3, c4, c5⟩ := h.cells
  have th := h.thaw
  have hxb : (x.1 == s.since + 1) = true := beq_iff_eq.2 hx
  have hBw : B ≤ w.heap.size := Nat.le_trans (hB p h.inP) (Nat.le_of_lt (h.low p h.inP))
  have hcl : s.plan.length ≤ cap ∧ cap ≤ 9223372036854775807 := by obtain ⟨A, c, e, h1, h2, _⟩ := h.plan; injection e with e1 e2 e3; subst e3; exact ⟨h1, h2⟩
  have hlen : s.plan.length = rest.length + 1 := by rw [hp]; rfl
  rw [hlen] at c4 h hcl
  clear hlen
  subst hcap
  have hz : rest = [] := List.eq_nil_of_length_eq_zero (by omega)
  subst hz
  simp only [List.length_nil, Nat.zero_add] at c4 h hcl ⊢
  have hon := On.start h hc.sep
  have hfr := tick_fr F h.inP (w := w) (.int .i64 (s.steps + 1)) (.int .i64 (s.since + 1))
  have HP : Hid _ := hp
  clear hp
  have hem := hc.em
  have hep := hc.ep
  go_enter Tryd.func46, Tryd.ntmps46
  go_wp2_with (first
    | (go_at_call 18; refine (down_ok h).mono ?_; rintro e w' ⟨rfl, h'⟩; replace h' := h'.symm; subst h')
    | (refine (hc.may _ _ _ hon).mono ?_; rintro e w2 ⟨rfl, hb2⟩; have hfr2 := hfr.trans (Sub.refl _ _) (Fr.of_below hb2 F); have hon2 := hon.below hc.sep hb2; obtain ⟨d0, d1, d2, d3, d4, d5⟩ := hon2.is.cells; simp only [St.tick] at d0 d1 d2 d3 d4 d5; have hpl : p < w2.heap.size := hon2.is.low p hon2.is.inP; have hal : ∀ (o : Obj) (j : Nat), (w2.alloc o).cell? ⟨p, j, none⟩ = w2.cell? ⟨p, j, none⟩ := fun o j => World.cell?_alloc_past _ _ _ hpl; have hth : ∀ (i : Nat), w2.frozen? ⟨p, i, none⟩ = false := hon2.is.thaw; have hfz : ∀ (o : Obj) (i : Nat), (w2.alloc o).frozen? ⟨p, i, none⟩ = false := fun o i => blk_frozen (blk_alloc hon2.is.top o) i; have hne2 : p ≠ w2.heap.size := Nat.ne_of_lt hpl; have hq := hon2.is.plan; rw [show s.tick.plan = x :: _ from HP.out] at hq; obtain ⟨k1, k2, k3⟩ := hq.first; have HQ : Hid _ := hq; clear hq))
  go_region
  have hon3 := On.cut hon2 hc.sep _ (.slice (some ⟨g, o, none⟩) 0 0) (PlanIs.done _ _ _) (Obj.cells #[.int .i64 (s.since + 1), .int .i64 x.2.1, .int .i64 x.2.2] 32)
  have hfr3 := cut_fr hfr2 h.inP (.slice (some ⟨g, o, none⟩) 0 0) (Obj.cells #[.int .i64 (s.since + 1), .int .i64 x.2.1, .int .i64 x.2.2] 32)
  have hnF : ¬ F w2.heap.size := fun e => by have := h.low _ e; have := hfr2.size; omega
  have kst : ∀ j : Nat, ((((w2.setCell ⟨p, 4, none⟩ (.slice (some ⟨g, o, none⟩) 0 0)).alloc (Obj.cells #[.int .i64 (s.since + 1), .int .i64 x.2.1, .int .i64 x.2.2] 32)).drew)).cell? ⟨w2.heap.size, j, none⟩ = (#[.int .i64 (s.since + 1), .int .i64 x.2.1, .int .i64 x.2.2] : Array Value)[j]? := fun j => by
    have e : (w2.setCell ⟨p, 4, none⟩ (.slice (some ⟨g, o, none⟩) 0 0)).heap.size = w2.heap.size := by simp [World.setCell]
    have hb := blk_new (w2.setCell ⟨p, 4, none⟩ (.slice (some ⟨g, o, none⟩) 0 0)) (Obj.cells #[.int .i64 (s.since + 1), .int .i64 x.2.1, .int .i64 x.2.2] 32)
    rw [e] at hb
    exact blk_cell hb j
  all_goals go_wp2_with (first
    | (go_at_call 78; refine (stop_ok hon3.is x.2.2).mono ?_; rintro e w5 ⟨rfl, his5, hfr5⟩; have hfr6 := hfr3.trans (Sub.refl _ _) hfr5; have hS5 := hS.below (hfr6.below hB hBw); have hq3 := his5.cells.2.2.2.1; simp only [St.tick] at hq3)
    | (go_at_call 77; refine (fail_ok hS5 op name (s.steps + 1) 93).mono ?_; rintro e w6 ⟨v, rfl, hv, hb⟩))
  go_ret
  exact ⟨_, rfl, hv, _, his5.below hb, hfr6.trans (Sub.refl _ _) (Fr.of_below hb F)⟩
set_option maxRecDepth 100000 in
set_option maxHeartbeats 1000000 in
theorem due_ok_more (h : Is N w p F s m pv) (hS : Sens w B a0 a1 a2 a3 a4) (hB : ∀ i, F i → B ≤ i) (hr : s.run = true) (hs0 : 0 ≤ s.steps) (hs1 : s.steps < 1000000000000) (hs2 : 0 ≤ s.since) (hs3 : s.since < 1000000000000) (op name : ByteArray) {C : Nat → Prop} {code : Int} {km kw kp : Nat} {cm cw cp : Array Value} {Pf : Int → List Fil → Prop} {Wf : List Fil → Prop} {Out : World → Prop} {Wr : Nat → Prop}
    (hc : Clo N w p F C s m code km kw kp cm cw cp Pf Wf Out Wr) {x : Int × Int × Int} {rest : List (Int × Int × Int)} (hp : s.plan = x :: rest) (hx : x.1 = s.since + 1) (h0 : code = 0) {g o cap : Nat} (hpv : pv = .slice (some ⟨g, o, none⟩) s.plan.length cap) (hcap : cap ≠ 1) :
    Calls Tryd.prog 46 #[.pointer (some ⟨p, 0, none⟩), .string op, .string name, .func (.func km) #[] cm, .func (.func kw) #[] cw, .func (.func kp) #[] cp] w fun e w' =>
      ∃ v, e = .returned v ∧ IsErr w' v a0 ∧ ∃ pv', ∃ F' fs', Pf x.2.1 fs' ∧ Is (N + 1) w' p F' (s.halt rest fs' x.2.2) m pv' ∧ Fr F w w' ∧ Sub w F F'  := by
  subst hpv
  obtain ⟨c0, c1, c2, c3, c4, c5⟩ := h.cells
  have th := h.thaw
  have hxb : (x.1 == s.since + 1) = true := beq_iff_eq.2 hx
  have hBw : B ≤ w.heap.size := Nat.le_trans (hB p h.inP) (Nat.le_of_lt (h.low p h.inP))
  have hcl : s.plan.length ≤ cap ∧ cap ≤ 9223372036854775807 := by obtain ⟨A, c, e, h1, h2, _⟩ := h.plan; injection e with e1 e2 e3; subst e3; exact ⟨h1, h2⟩
  have hlen : s.plan.length = rest.length + 1 := by rw [hp]; rfl
  rw [hlen] at c4 h hcl
  clear hlen
  have hon := On.start h hc.sep
  have hfr := tick_fr F h.inP (w := w) (.int .i64 (s.steps + 1)) (.int .i64 (s.since + 1))
  subst h0
  have HP : Hid _ := hp
  clear hp
  have hem := hc.em
  have hep := hc.ep
  go_enter Tryd.func46, Tryd.ntmps46
  go_wp2_with (first
    | (go_at_call 18; refine (down_ok h).mono ?_; rintro e w' ⟨rfl, h'⟩; replace h' := h'.symm; subst h')
    | (refine (hc.may _ _ _ hon).mono ?_; rintro e w2 ⟨rfl, hb2⟩; have hfr2 := hfr.trans (Sub.refl _ _) (Fr.of_below hb2 F); have hon2 := hon.below hc.sep hb2; obtain ⟨d0, d1, d2, d3, d4, d5⟩ := hon2.is.cells; simp only [St.tick] at d0 d1 d2 d3 d4 d5; have hpl : p < w2.heap.size := hon2.is.low p hon2.is.inP; have hal : ∀ (o : Obj) (j : Nat), (w2.alloc o).cell? ⟨p, j, none⟩ = w2.cell? ⟨p, j, none⟩ := fun o j => World.cell?_alloc_past _ _ _ hpl; have hth : ∀ (i : Nat), w2.frozen? ⟨p, i, none⟩ = false := hon2.is.thaw; have hfz : ∀ (o : Obj) (i : Nat), (w2.alloc o).frozen? ⟨p, i, none⟩ = false := fun o i => blk_frozen (blk_alloc hon2.is.top o) i; have hne2 : p ≠ w2.heap.size := Nat.ne_of_lt hpl; have hq := hon2.is.plan; rw [show s.tick.plan = x :: _ from HP.out] at hq; obtain ⟨k1, k2, k3⟩ := hq.first; have HQ : Hid _ := hq; clear hq))
  go_region
  have hon3 := On.cut hon2 hc.sep _ (.slice (some ⟨g, o + 3, none⟩) rest.length (cap - 1)) (PlanIs.tail HQ.out) (Obj.cells #[.int .i64 (s.since + 1), .int .i64 x.2.1, .int .i64 x.2.2] 32)
  have hfr3 := cut_fr hfr2 h.inP (.slice (some ⟨g, o + 3, none⟩) rest.length (cap - 1)) (Obj.cells #[.int .i64 (s.since + 1), .int .i64 x.2.1, .int .i64 x.2.2] 32)
  have hnF : ¬ F w2.heap.size := fun e => by have := h.low _ e; have := hfr2.size; omega
  have kst : ∀ j : Nat, ((((w2.setCell ⟨p, 4, none⟩ (.slice (some ⟨g, o + 3, none⟩) rest.length (cap - 1))).alloc (Obj.cells #[.int .i64 (s.since + 1), .int .i64 x.2.1, .int .i64 x.2.2] 32)).drew)).cell? ⟨w2.heap.size, j, none⟩ = (#[.int .i64 (s.since + 1), .int .i64 x.2.1, .int .i64 x.2.2] : Array Value)[j]? := fun j => by
    have e : (w2.setCell ⟨p, 4, none⟩ (.slice (some ⟨g, o + 3, none⟩) rest.length (cap - 1))).heap.size = w2.heap.size := by simp [World.setCell]
    have hb := blk_new (w2.setCell ⟨p, 4, none⟩ (.slice (some ⟨g, o + 3, none⟩) rest.length (cap - 1))) (Obj.cells #[.int .i64 (s.since + 1), .int .i64 x.2.1, .int .i64 x.2.2] 32)
    rw [e] at hb
    exact blk_cell hb j
  all_goals go_wp2_with (first
    | (refine (hc.part rfl _ _ _ x.2.1 hon3).mono ?_; rintro e w4 ⟨rfl, F', fs', hpf, his4, hfr4, hsub4⟩; have kk := hfr4.block w2.heap.size (by simp [World.setCell]) hnF; have kc : w4.cell? ⟨w2.heap.size, 2, none⟩ = some (.int .i64 x.2.2) := cell_of (kst 2) kk)
    | (go_at_call 78; refine (stop_ok his4 x.2.2).mono ?_; rintro e w5 ⟨rfl, his5, hfr5⟩; have hfr6 := (hfr3.trans (Sub.refl _ _) hfr4).trans (hsub4.trans' hfr3.size) hfr5; have hS5 := hS.below (hfr6.below hB hBw); have hq3 := his5.cells.2.2.2.1; simp only [St.tick] at hq3)
    | (go_at_call 77; refine (fail_ok hS5 op name (s.steps + 1) 93).mono ?_; rintro e w6 ⟨v, rfl, hv, hb⟩))
  go_ret
  exact ⟨_, rfl, hv, _, F', fs', hpf, his5.below hb, hfr6.trans (hsub4.trans' hfr3.size) (Fr.of_below hb F'), hsub4.trans' hfr3.size⟩
set_option maxRecDepth 100000 in
set_option maxHeartbeats 1000000 in
theorem due_ok_last (h : Is N w p F s m pv) (hS : Sens w B a0 a1 a2 a3 a4) (hB : ∀ i, F i → B ≤ i) (hr : s.run = true) (hs0 : 0 ≤ s.steps) (hs1 : s.steps < 1000000000000) (hs2 : 0 ≤ s.since) (hs3 : s.since < 1000000000000) (op name : ByteArray) {C : Nat → Prop} {code : Int} {km kw kp : Nat} {cm cw cp : Array Value} {Pf : Int → List Fil → Prop} {Wf : List Fil → Prop} {Out : World → Prop} {Wr : Nat → Prop}
    (hc : Clo N w p F C s m code km kw kp cm cw cp Pf Wf Out Wr) {x : Int × Int × Int} {rest : List (Int × Int × Int)} (hp : s.plan = x :: rest) (hx : x.1 = s.since + 1) (h0 : code = 0) {g o cap : Nat} (hpv : pv = .slice (some ⟨g, o, none⟩) s.plan.length cap) (hcap : cap = 1) :
    Calls Tryd.prog 46 #[.pointer (some ⟨p, 0, none⟩), .string op, .string name, .func (.func km) #[] cm, .func (.func kw) #[] cw, .func (.func kp) #[] cp] w fun e w' =>
      ∃ v, e = .returned v ∧ IsErr w' v a0 ∧ ∃ pv', ∃ F' fs', Pf x.2.1 fs' ∧ Is (N + 1) w' p F' (s.halt rest fs' x.2.2) m pv' ∧ Fr F w w' ∧ Sub w F F'  := by
  subst hpv
  obtain ⟨c0, c1, c2, c3, c4, c5⟩ := h.cells
  have th := h.thaw
  have hxb : (x.1 == s.since + 1) = true := beq_iff_eq.2 hx
  have hBw : B ≤ w.heap.size := Nat.le_trans (hB p h.inP) (Nat.le_of_lt (h.low p h.inP))
  have hcl : s.plan.length ≤ cap ∧ cap ≤ 9223372036854775807 := by obtain ⟨A, c, e, h1, h2, _⟩ := h.plan; injection e with e1 e2 e3; subst e3; exact ⟨h1, h2⟩
  have hlen : s.plan.length = rest.length + 1 := by rw [hp]; rfl
  rw [hlen] at c4 h hcl
  clear hlen
  subst hcap
  have hz : rest = [] := List.eq_nil_of_length_eq_zero (by omega)
  subst hz
  simp only [List.length_nil, Nat.zero_add] at c4 h hcl ⊢
  have hon := On.start h hc.sep
  have hfr := tick_fr F h.inP (w := w) (.int .i64 (s.steps + 1)) (.int .i64 (s.since + 1))
  subst h0
  have HP : Hid _ := hp
  clear hp
  have hem := hc.em
  have hep := hc.ep
  go_enter Tryd.func46, Tryd.ntmps46
  go_wp2_with (first
    | (go_at_call 18; refine (down_ok h).mono ?_; rintro e w' ⟨rfl, h'⟩; replace h' := h'.symm; subst h')
    | (refine (hc.may _ _ _ hon).mono ?_; rintro e w2 ⟨rfl, hb2⟩; have hfr2 := hfr.trans (Sub.refl _ _) (Fr.of_below hb2 F); have hon2 := hon.below hc.sep hb2; obtain ⟨d0, d1, d2, d3, d4, d5⟩ := hon2.is.cells; simp only [St.tick] at d0 d1 d2 d3 d4 d5; have hpl : p < w2.heap.size := hon2.is.low p hon2.is.inP; have hal : ∀ (o : Obj) (j : Nat), (w2.alloc o).cell? ⟨p, j, none⟩ = w2.cell? ⟨p, j, none⟩ := fun o j => World.cell?_alloc_past _ _ _ hpl; have hth : ∀ (i : Nat), w2.frozen? ⟨p, i, none⟩ = false := hon2.is.thaw; have hfz : ∀ (o : Obj) (i : Nat), (w2.alloc o).frozen? ⟨p, i, none⟩ = false := fun o i => blk_frozen (blk_alloc hon2.is.top o) i; have hne2 : p ≠ w2.heap.size := Nat.ne_of_lt hpl; have hq := hon2.is.plan; rw [show s.tick.plan = x :: _ from HP.out] at hq; obtain ⟨k1, k2, k3⟩ := hq.first; have HQ : Hid _ := hq; clear hq))
  go_region
  have hon3 := On.cut hon2 hc.sep _ (.slice (some ⟨g, o, none⟩) 0 0) (PlanIs.done _ _ _) (Obj.cells #[.int .i64 (s.since + 1), .int .i64 x.2.1, .int .i64 x.2.2] 32)
  have hfr3 := cut_fr hfr2 h.inP (.slice (some ⟨g, o, none⟩) 0 0) (Obj.cells #[.int .i64 (s.since + 1), .int .i64 x.2.1, .int .i64 x.2.2] 32)
  have hnF : ¬ F w2.heap.size := fun e => by have := h.low _ e; have := hfr2.size; omega
  have kst : ∀ j : Nat, ((((w2.setCell ⟨p, 4, none⟩ (.slice (some ⟨g, o, none⟩) 0 0)).alloc (Obj.cells #[.int .i64 (s.since + 1), .int .i64 x.2.1, .int .i64 x.2.2] 32)).drew)).cell? ⟨w2.heap.size, j, none⟩ = (#[.int .i64 (s.since + 1), .int .i64 x.2.1, .int .i64 x.2.2] : Array Value)[j]? := fun j => by
    have e : (w2.setCell ⟨p, 4, none⟩ (.slice (some ⟨g, o, none⟩) 0 0)).heap.size = w2.heap.size := by simp [World.setCell]
    have hb := blk_new (w2.setCell ⟨p, 4, none⟩ (.slice (some ⟨g, o, none⟩) 0 0)) (Obj.cells #[.int .i64 (s.since + 1), .int .i64 x.2.1, .int .i64 x.2.2] 32)
    rw [e] at hb
    exact blk_cell hb j
  all_goals go_wp2_with (first
    | (refine (hc.part rfl _ _ _ x.2.1 hon3).mono ?_; rintro e w4 ⟨rfl, F', fs', hpf, his4, hfr4, hsub4⟩; have kk := hfr4.block w2.heap.size (by simp [World.setCell]) hnF; have kc : w4.cell? ⟨w2.heap.size, 2, none⟩ = some (.int .i64 x.2.2) := cell_of (kst 2) kk)
    | (go_at_call 78; refine (stop_ok his4 x.2.2).mono ?_; rintro e w5 ⟨rfl, his5, hfr5⟩; have hfr6 := (hfr3.trans (Sub.refl _ _) hfr4).trans (hsub4.trans' hfr3.size) hfr5; have hS5 := hS.below (hfr6.below hB hBw); have hq3 := his5.cells.2.2.2.1; simp only [St.tick] at hq3)
    | (go_at_call 77; refine (fail_ok hS5 op name (s.steps + 1) 93).mono ?_; rintro e w6 ⟨v, rfl, hv, hb⟩))
  go_ret
  exact ⟨_, rfl, hv, _, F', fs', hpf, his5.below hb, hfr6.trans (hsub4.trans' hfr3.size) (Fr.of_below hb F'), hsub4.trans' hfr3.size⟩
end Go.Proofs.YtkfehogefclhdaaDoor.Dk
