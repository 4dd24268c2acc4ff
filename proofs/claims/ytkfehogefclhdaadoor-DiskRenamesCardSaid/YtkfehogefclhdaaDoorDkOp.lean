/- operate, by its contract: what it does with whatever closures it is given. -/
import Derived.Test.YtkfehogefclhdaaDoorDkStop
import Derived.Test.YtkfehogefclhdaaDoorDkErr
namespace Go.Proofs.YtkfehogefclhdaaDoor.Dk
open Go.RowKit Go.Maps Go.Proofs.YtkfehogefclhdaaDoorW.PrintWords Go.Proofs.YtkfehogefclhdaaDoorW.PrintMore
variable {N : Nat} {w : World} {p : Nat} {F : Nat → Prop} {s : St} {m : Nat} {pv : Value} {B : Nat} {a0 a1 a2 a3 a4 : Addr}

/-- In the middle of operate: the disk has counted; what the closures captured is as it was. -/
structure On (N : Nat) (w : World) (p : Nat) (F C : Nat → Prop) (s : St) (m : Nat) (w1 : World) (s1 : St) (pv1 : Value) : Prop where
  is : Is N w1 p F s1 m pv1
  fs : s1.fs = s.fs
  quo : s1.quota = s.quota
  cap : ∀ i, C i → w1.heap[i]? = w.heap[i]?
  size : w.heap.size ≤ w1.heap.size
/-- What operate asks of its closures. -/
structure Clo (N : Nat) (w : World) (p : Nat) (F C : Nat → Prop) (s : St) (m : Nat) (code : Int) (km kw kp : Nat) (cm cw cp : Array Value) (Pf : Int → List Fil → Prop) (Wf : List Fil → Prop) (Out : World → Prop) (Wr : Nat → Prop) : Prop where
  may : ∀ w1 s1 pv1, On N w p F C s m w1 s1 pv1 → Calls Tryd.prog km cm w1 fun e w' => e = .returned (.int .i64 code) ∧ Below w1.heap.size w1 w'
  part : code = 0 → ∀ w1 s1 pv1 n, On N w p F C s m w1 s1 pv1 → Calls Tryd.prog kp (#[.int .i64 n] ++ cp) w1 fun e w' => e = .returned (.tuple #[]) ∧ ∃ F' fs', Pf n fs' ∧ Is (N + 1) w' p F' { s1 with fs := fs' } m pv1 ∧ Fr F w1 w' ∧ Sub w1 F F'
  whole : code = 0 → ∀ w1 s1 pv1, On N w p F C s m w1 s1 pv1 → Calls Tryd.prog kw cw w1 fun e w' => e = .returned (.tuple #[]) ∧ ∃ F' fs', Wf fs' ∧ Is (N + 1) w' p F' { s1 with fs := fs' } m pv1 ∧ Fr (fun i => F i ∨ Wr i) w1 w' ∧ Sub w1 F F' ∧ Out w'
  em : ∀ (xs : Array Value) (w : World), (callFunc km xs).run Tryd.prog w = .ok (.enter km xs) w
  ew : ∀ (xs : Array Value) (w : World), (callFunc kw xs).run Tryd.prog w = .ok (.enter kw xs) w
  ep : ∀ (xs : Array Value) (w : World), (callFunc kp xs).run Tryd.prog w = .ok (.enter kp xs) w
  sep : ∀ i, C i → i < w.heap.size ∧ ¬ F i
def St.tick (s : St) : St := { s with steps := s.steps + 1, since := s.since + 1 }
def args (p : Nat) (op name : ByteArray) (km kw kp : Nat) (cm cw cp : Array Value) : Array Value :=
  #[.pointer (some ⟨p, 0, none⟩), .string op, .string name, .func (.func km) #[] cm, .func (.func kw) #[] cw, .func (.func kp) #[] cp]
set_option maxRecDepth 100000 in
set_option maxHeartbeats 1000000 in
theorem op_down (h : Is N w p F s m pv) (hS : Sens w B a0 a1 a2 a3 a4) (hr : s.run = false) (op name : ByteArray) {km kw kp : Nat} {cm cw cp : Array Value} :
    Calls Tryd.prog 46 #[.pointer (some ⟨p, 0, none⟩), .string op, .string name, .func (.func km) #[] cm, .func (.func kw) #[] cw, .func (.func kp) #[] cp] w fun e w' => ∃ v, e = .returned v ∧ IsErr w' v a0 ∧ Below w.heap.size w w' := by
  go_enter Tryd.func46, Tryd.ntmps46
  go_wp2_with (first
    | (go_at_call 18; refine (down_ok h).mono ?_; rintro e w' ⟨rfl, h'⟩; replace h' := h'.symm; subst h')
    | (go_at_call 77; refine (fail_ok hS op name 0 93).mono ?_; rintro e w' ⟨v, rfl, hv, hb⟩))
  go_ret
  exact ⟨_, rfl, hv, hb⟩
/-- The disk behind the count. -/
theorem Is.tick (h : Is N w p F s m pv) : Is N ((w.setCell ⟨p, 3, none⟩ (.int .i64 (s.steps + 1))).setCell ⟨p, 5, none⟩ (.int .i64 (s.since + 1))) p F s.tick m pv :=
  h.set s.tick _ rfl rfl rfl (blk_set (blk_set h.top 3 _) 5 _) (fun i _ hi => (Below.heap_setCell _ _ _ i hi).trans (Below.heap_setCell _ _ _ i hi)) (by simp [World.setCell])
theorem On.start (h : Is N w p F s m pv) {C : Nat → Prop} (hC : ∀ i, C i → i < w.heap.size ∧ ¬ F i) : On N w p F C s m ((w.setCell ⟨p, 3, none⟩ (.int .i64 (s.steps + 1))).setCell ⟨p, 5, none⟩ (.int .i64 (s.since + 1))) s.tick pv :=
  ⟨h.tick, rfl, rfl, fun i hi => by
    have hne : i ≠ p := fun e => (hC i hi).2 (by rw [e]; exact h.inP)
    exact (Below.heap_setCell _ _ _ i hne).trans (Below.heap_setCell _ _ _ i hne), by simp [World.setCell]⟩
theorem On.below {C : Nat → Prop} {w1 w2 : World} {s1 : St} {pv1 : Value} (h : On N w p F C s m w1 s1 pv1) (hC : ∀ i, C i → i < w.heap.size ∧ ¬ F i) (hb : Below w1.heap.size w1 w2) : On N w p F C s m w2 s1 pv1 :=
  ⟨h.is.below hb, h.fs, h.quo, fun i hi => (hb.block i (Nat.lt_of_lt_of_le (hC i hi).1 h.size)).trans (h.cap i hi), Nat.le_trans h.size hb.size⟩
theorem tick_fr (F : Nat → Prop) (hp : F p) (u v : Value) : Fr F w ((w.setCell ⟨p, 3, none⟩ u).setCell ⟨p, 5, none⟩ v) := ((Fr.refl F w).set (a := ⟨p, 3, none⟩) hp u).set (a := ⟨p, 5, none⟩) hp v
/-- Is a stop due? -/
def Due (s : St) : Prop := ∃ x rest, s.plan = x :: rest ∧ x.1 = s.since + 1
theorem PlanIs.head {A : Option Addr} {n c : Nat} {x : Int × Int × Int} {rest : List (Int × Int × Int)} (h : PlanIs w F (.slice A n c) (x :: rest)) :
    ∃ g o, A = some ⟨g, o, none⟩ ∧ n = rest.length + 1 ∧ n ≤ c ∧ F g := by
  obtain ⟨A', c', e, h1, h2, h3⟩ := h
  injection e with e1 e2 e3
  subst e1 e2 e3
  obtain ⟨g, o, ha, hg, _⟩ := h3 0 x rfl
  exact ⟨g, o, ha, rfl, h1, hg⟩
theorem PlanIs.first {g o n c : Nat} {x : Int × Int × Int} {rest : List (Int × Int × Int)} (h : PlanIs w F (.slice (some ⟨g, o, none⟩) n c) (x :: rest)) :
    w.cell? ⟨g, o, none⟩ = some (.int .i64 x.1) ∧ w.cell? ⟨g, o + 1, none⟩ = some (.int .i64 x.2.1) ∧ w.cell? ⟨g, o + 2, none⟩ = some (.int .i64 x.2.2) := by
  obtain ⟨A', c', e, h1, h2, h3⟩ := h
  injection e with e1 e2 e3
  obtain ⟨g', o', ha, hg, _, k1, k2, k3⟩ := h3 0 x rfl
  rw [← e1] at ha
  cases ha
  rw [Nat.zero_mul, Nat.add_zero] at k1 k2 k3
  exact ⟨k1, k2, k3⟩
theorem On.sens {C : Nat → Prop} {w1 : World} (hS : Sens w B a0 a1 a2 a3 a4) (hF : ∀ i, F i → B ≤ i) (hBw : B ≤ w.heap.size) (h : Fr F w w1) : Sens w1 B a0 a1 a2 a3 a4 := hS.below (h.below hF hBw)
set_option maxRecDepth 100000 in
set_option maxHeartbeats 1000000 in
theorem op_ok_nil (h : Is N w p F s m pv) (hS : Sens w B a0 a1 a2 a3 a4) (hB : ∀ i, F i → B ≤ i) (hr : s.run = true) (hs0 : 0 ≤ s.steps) (hs1 : s.steps < 1000000000000) (hs2 : 0 ≤ s.since) (hs3 : s.since < 1000000000000) (op name : ByteArray) {C : Nat → Prop} {code : Int} {km kw kp : Nat} {cm cw cp : Array Value} {Pf : Int → List Fil → Prop} {Wf : List Fil → Prop} {Out : World → Prop} {Wr : Nat → Prop}
    (hc : Clo N w p F C s m code km kw kp cm cw cp Pf Wf Out Wr) (hp : s.plan = []) (h0 : code = 0) :
    Calls Tryd.prog 46 #[.pointer (some ⟨p, 0, none⟩), .string op, .string name, .func (.func km) #[] cm, .func (.func kw) #[] cw, .func (.func kp) #[] cp] w fun e w' =>
      e = .returned .nilIface ∧ ∃ F' fs', Wf fs' ∧ Is (N + 1) w' p F' { s.tick with fs := fs' } m pv ∧ Fr (fun i => F i ∨ Wr i) w w' ∧ Sub w F F' ∧ Out w'  := by
  obtain ⟨c0, c1, c2, c3, c4, c5⟩ := h.cells
  have th := h.thaw
  have hBw : B ≤ w.heap.size := Nat.le_trans (hB p h.inP) (Nat.le_of_lt (h.low p h.inP))
  obtain ⟨A, cap, hpv, hl1, hl2, hpl⟩ := h.plan
  rw [hp] at hpv hl1 hpl
  subst hpv
  clear hpl
  have hon := On.start h hc.sep
  have hfr := tick_fr F h.inP (w := w) (.int .i64 (s.steps + 1)) (.int .i64 (s.since + 1))
  subst h0
  have HP : Hid _ := hp
  clear hp
  have hem := hc.em
  have hew := hc.ew
  have hep := hc.ep
  go_enter Tryd.func46, Tryd.ntmps46
  go_wp2_with (first
    | (go_at_call 18; refine (down_ok h).mono ?_; rintro e w' ⟨rfl, h'⟩; replace h' := h'.symm; subst h')
    | (refine (hc.may _ _ _ hon).mono ?_; rintro e w2 ⟨rfl, hb2⟩; have hfr2 := hfr.trans (Sub.refl _ _) (Fr.of_below hb2 F); have hS2 := On.sens (C := C) hS hB hBw hfr2; have hon2 := hon.below hc.sep hb2; obtain ⟨d0, d1, d2, d3, d4, d5⟩ := hon2.is.cells; simp only [St.tick] at d0 d1 d2 d3 d4 d5))
  go_region
  all_goals go_wp2_with (refine (hc.whole rfl _ _ _ (hon2.below hc.sep (Below.refl _ _).drew)).mono ?_; rintro e w3 ⟨rfl, F', fs', hwf, his, hfr3, hsub, hout⟩)
  go_ret
  exact ⟨rfl, F', fs', hwf, his, (hfr2.wide (fun _ _ h => .inl h)).trans (Sub.refl _ _) ⟨hfr3.os, hfr3.tape, hfr3.output, hfr3.size, hfr3.block⟩, (Sub.refl w F).trans hfr2.size hsub, hout⟩
set_option maxRecDepth 100000 in
set_option maxHeartbeats 1000000 in
theorem op_ok_cons (h : Is N w p F s m pv) (hS : Sens w B a0 a1 a2 a3 a4) (hB : ∀ i, F i → B ≤ i) (hr : s.run = true) (hs0 : 0 ≤ s.steps) (hs1 : s.steps < 1000000000000) (hs2 : 0 ≤ s.since) (hs3 : s.since < 1000000000000) (op name : ByteArray) {C : Nat → Prop} {code : Int} {km kw kp : Nat} {cm cw cp : Array Value} {Pf : Int → List Fil → Prop} {Wf : List Fil → Prop} {Out : World → Prop} {Wr : Nat → Prop}
    (hc : Clo N w p F C s m code km kw kp cm cw cp Pf Wf Out Wr) {x : Int × Int × Int} {rest : List (Int × Int × Int)} (hp : s.plan = x :: rest) (hx : x.1 ≠ s.since + 1) (h0 : code = 0) :
    Calls Tryd.prog 46 #[.pointer (some ⟨p, 0, none⟩), .string op, .string name, .func (.func km) #[] cm, .func (.func kw) #[] cw, .func (.func kp) #[] cp] w fun e w' =>
      e = .returned .nilIface ∧ ∃ F' fs', Wf fs' ∧ Is (N + 1) w' p F' { s.tick with fs := fs' } m pv ∧ Fr (fun i => F i ∨ Wr i) w w' ∧ Sub w F F' ∧ Out w'  := by
  obtain ⟨c0, c1, c2, c3, c4, c5⟩ := h.cells
  have th := h.thaw
  have hxb : (x.1 == s.since + 1) = false := beq_eq_false_iff_ne.2 hx
  have hBw : B ≤ w.heap.size := Nat.le_trans (hB p h.inP) (Nat.le_of_lt (h.low p h.inP))
  obtain ⟨A, cap, hpv, hl1, hl2, _⟩ := h.plan
  subst hpv
  have hh := h.plan
  rw [hp] at hh
  obtain ⟨g, o, rfl, hn, hn2, hFg⟩ := hh.head
  have hlen : s.plan.length = rest.length + 1 := by rw [hp]; rfl
  rw [hn] at hn2
  rw [hlen] at c4 h ⊢
  clear hn hh hlen
  have hon := On.start h hc.sep
  have hfr := tick_fr F h.inP (w := w) (.int .i64 (s.steps + 1)) (.int .i64 (s.since + 1))
  subst h0
  have HP : Hid _ := hp
  clear hp
  have hem := hc.em
  have hew := hc.ew
  have hep := hc.ep
  go_enter Tryd.func46, Tryd.ntmps46
  go_wp2_with (first
    | (go_at_call 18; refine (down_ok h).mono ?_; rintro e w' ⟨rfl, h'⟩; replace h' := h'.symm; subst h')
    | (refine (hc.may _ _ _ hon).mono ?_; rintro e w2 ⟨rfl, hb2⟩; have hfr2 := hfr.trans (Sub.refl _ _) (Fr.of_below hb2 F); have hS2 := On.sens (C := C) hS hB hBw hfr2; have hon2 := hon.below hc.sep hb2; obtain ⟨d0, d1, d2, d3, d4, d5⟩ := hon2.is.cells; simp only [St.tick] at d0 d1 d2 d3 d4 d5; have hq := hon2.is.plan; rw [show s.tick.plan = x :: rest from HP.out] at hq; obtain ⟨k1, k2, k3⟩ := hq.first; clear hq))
  go_region
  all_goals go_wp2_with (refine (hc.whole rfl _ _ _ (hon2.below hc.sep (Below.refl _ _).drew)).mono ?_; rintro e w3 ⟨rfl, F', fs', hwf, his, hfr3, hsub, hout⟩)
  go_ret
  exact ⟨rfl, F', fs', hwf, his, (hfr2.wide (fun _ _ h => .inl h)).trans (Sub.refl _ _) ⟨hfr3.os, hfr3.tape, hfr3.output, hfr3.size, hfr3.block⟩, (Sub.refl w F).trans hfr2.size hsub, hout⟩
set_option maxRecDepth 100000 in
set_option maxHeartbeats 1000000 in
theorem op_err_nil (h : Is N w p F s m pv) (hS : Sens w B a0 a1 a2 a3 a4) (hB : ∀ i, F i → B ≤ i) (hr : s.run = true) (hs0 : 0 ≤ s.steps) (hs1 : s.steps < 1000000000000) (hs2 : 0 ≤ s.since) (hs3 : s.since < 1000000000000) (op name : ByteArray) {C : Nat → Prop} {code : Int} {km kw kp : Nat} {cm cw cp : Array Value} {Pf : Int → List Fil → Prop} {Wf : List Fil → Prop} {Out : World → Prop} {Wr : Nat → Prop}
    (hc : Clo N w p F C s m code km kw kp cm cw cp Pf Wf Out Wr) (hp : s.plan = []) (h0 : code ≠ 0) :
    Calls Tryd.prog 46 #[.pointer (some ⟨p, 0, none⟩), .string op, .string name, .func (.func km) #[] cm, .func (.func kw) #[] cw, .func (.func kp) #[] cp] w fun e w' =>
      ∃ v, e = .returned v ∧ IsErr w' v (why a0 a1 a2 a3 a4 code) ∧ Is N w' p F s.tick m pv ∧ Fr F w w'  := by
  obtain ⟨c0, c1, c2, c3, c4, c5⟩ := h.cells
  have th := h.thaw
  have hBw : B ≤ w.heap.size := Nat.le_trans (hB p h.inP) (Nat.le_of_lt (h.low p h.inP))
  obtain ⟨A, cap, hpv, hl1, hl2, hpl⟩ := h.plan
  rw [hp] at hpv hl1 hpl
  subst hpv
  clear hpl
  have hon := On.start h hc.sep
  have hfr := tick_fr F h.inP (w := w) (.int .i64 (s.steps + 1)) (.int .i64 (s.since + 1))
  have HP : Hid _ := hp
  clear hp
  have hem := hc.em
  have hew := hc.ew
  have hep := hc.ep
  go_enter Tryd.func46, Tryd.ntmps46
  go_wp2_with (first
    | (go_at_call 18; refine (down_ok h).mono ?_; rintro e w' ⟨rfl, h'⟩; replace h' := h'.symm; subst h')
    | (refine (hc.may _ _ _ hon).mono ?_; rintro e w2 ⟨rfl, hb2⟩; have hfr2 := hfr.trans (Sub.refl _ _) (Fr.of_below hb2 F); have hS2 := On.sens (C := C) hS hB hBw hfr2; have hon2 := hon.below hc.sep hb2; obtain ⟨d0, d1, d2, d3, d4, d5⟩ := hon2.is.cells; simp only [St.tick] at d0 d1 d2 d3 d4 d5))
  go_region
  all_goals go_wp2_with (go_at_call 77; refine (fail_ok (w := w2.drew) (hS2.below (Below.refl _ _).drew) op name (s.steps + 1) code).mono ?_; rintro e w3 ⟨v, rfl, hv, hb⟩)
  go_ret
  have hb' : Below w2.heap.size w2 w3 := ⟨hb.os, hb.tape, hb.output, hb.size, hb.block⟩
  exact ⟨_, rfl, hv, hon2.is.below hb', hfr2.trans (Sub.refl _ _) (Fr.of_below hb' F)⟩
set_option maxRecDepth 100000 in
set_option maxHeartbeats 1000000 in
theorem op_err_cons (h : Is N w p F s m pv) (hS : Sens w B a0 a1 a2 a3 a4) (hB : ∀ i, F i → B ≤ i) (hr : s.run = true) (hs0 : 0 ≤ s.steps) (hs1 : s.steps < 1000000000000) (hs2 : 0 ≤ s.since) (hs3 : s.since < 1000000000000) (op name : ByteArray) {C : Nat → Prop} {code : Int} {km kw kp : Nat} {cm cw cp : Array Value} {Pf : Int → List Fil → Prop} {Wf : List Fil → Prop} {Out : World → Prop} {Wr : Nat → Prop}
    (hc : Clo N w p F C s m code km kw kp cm cw cp Pf Wf Out Wr) {x : Int × Int × Int} {rest : List (Int × Int × Int)} (hp : s.plan = x :: rest) (hx : x.1 ≠ s.since + 1) (h0 : code ≠ 0) :
    Calls Tryd.prog 46 #[.pointer (some ⟨p, 0, none⟩), .string op, .string name, .func (.func km) #[] cm, .func (.func kw) #[] cw, .func (.func kp) #[] cp] w fun e w' =>
      ∃ v, e = .returned v ∧ IsErr w' v (why a0 a1 a2 a3 a4 code) ∧ Is N w' p F s.tick m pv ∧ Fr F w w'  := by
  obtain ⟨c0, c1, c2, c3, c4, c5⟩ := h.cells
  have th := h.thaw
  have hxb : (x.1 == s.since + 1) = false := beq_eq_false_iff_ne.2 hx
  have hBw : B ≤ w.heap.size := Nat.le_trans (hB p h.inP) (Nat.le_of_lt (h.low p h.inP))
  obtain ⟨A, cap, hpv, hl1, hl2, _⟩ := h.plan
  subst hpv
  have hh := h.plan
  rw [hp] at hh
  obtain ⟨g, o, rfl, hn, hn2, hFg⟩ := hh.head
  have hlen : s.plan.length = rest.length + 1 := by rw [hp]; rfl
  rw [hn] at hn2
  rw [hlen] at c4 h ⊢
  clear hn hh hlen
  have hon := On.start h hc.sep
  have hfr := tick_fr F h.inP (w := w) (.int .i64 (s.steps + 1)) (.int .i64 (s.since + 1))
  have HP : Hid _ := hp
  clear hp
  have hem := hc.em
  have hew := hc.ew
  have hep := hc.ep
  go_enter Tryd.func46, Tryd.ntmps46
  go_wp2_with (first
    | (go_at_call 18; refine (down_ok h).mono ?_; rintro e w' ⟨rfl, h'⟩; replace h' := h'.symm; subst h')
    | (refine (hc.may _ _ _ hon).mono ?_; rintro e w2 ⟨rfl, hb2⟩; have hfr2 := hfr.trans (Sub.refl _ _) (Fr.of_below hb2 F); have hS2 := On.sens (C := C) hS hB hBw hfr2; have hon2 := hon.below hc.sep hb2; obtain ⟨d0, d1, d2, d3, d4, d5⟩ := hon2.is.cells; simp only [St.tick] at d0 d1 d2 d3 d4 d5; have hq := hon2.is.plan; rw [show s.tick.plan = x :: rest from HP.out] at hq; obtain ⟨k1, k2, k3⟩ := hq.first; clear hq))
  go_region
  all_goals go_wp2_with (go_at_call 77; refine (fail_ok (w := w2.drew) (hS2.below (Below.refl _ _).drew) op name (s.steps + 1) code).mono ?_; rintro e w3 ⟨v, rfl, hv, hb⟩)
  go_ret
  have hb' : Below w2.heap.size w2 w3 := ⟨hb.os, hb.tape, hb.output, hb.size, hb.block⟩
  exact ⟨_, rfl, hv, hon2.is.below hb', hfr2.trans (Sub.refl _ _) (Fr.of_below hb' F)⟩
end Go.Proofs.YtkfehogefclhdaaDoor.Dk
