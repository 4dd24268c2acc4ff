/- simple and orNothing, by contract: an operation on a file that is there. -/
import Derived.Test.YtkfehogefclhdaaDoorDkAppend
import Derived.StillTailTactics
import Derived.Deep.RegionHeld3
namespace Go.Proofs.YtkfehogefclhdaaDoor.Dk
open Go.RowKit Go.Maps Go.Proofs.YtkfehogefclhdaaDoorW.PrintWords Go.Proofs.YtkfehogefclhdaaDoorW.PrintMore
variable {N : Nat} {w : World} {p : Nat} {F : Nat → Prop} {s : St} {m : Nat} {pv : Value} {B : Nat} {a0 a1 a2 a3 a4 : Addr}

theorem ent79 : Enters Tryd.prog 79 := enters_of Tryd.func79 (by kernel_rfl) rfl
theorem ent80 : Enters Tryd.prog 80 := enters_of Tryd.func80 (by kernel_rfl) rfl
theorem ent81 : Enters Tryd.prog 81 := enters_of Tryd.func81 (by kernel_rfl) rfl
set_option maxRecDepth 100000 in
theorem or_ok (kd : Nat) (cd : Array Value) (w : World) : Calls Tryd.prog 54 #[.func (.func kd) #[] cd] w fun e w' => e = .returned (.func (.func 81) #[] #[.pointer (some ⟨w.heap.size, 0, none⟩)]) ∧ w' = w.alloc (.cells #[.func (.func kd) #[] cd] 1) := by
  have hmf : ∀ (fn : Fn) (first cap : Array Value) (w : World), (Instr.makeFunc fn first cap).run Tryd.prog w = .ok (.func fn first cap) w := fun _ _ _ _ => rfl
  go_enter Tryd.func54, Tryd.ntmps54
  go_wp2
  go_ret
  exact ⟨rfl, rfl⟩
set_option maxRecDepth 100000 in
theorem or_yes {kd : Nat} {cd : Array Value} {bo : Nat} (hE : Enters Tryd.prog kd) (ko : w.cell? ⟨bo, 0, none⟩ = some (.func (.func kd) #[] cd)) {n : Int} (hn : n ≥ 1) {Q : World → Prop} (hd : Calls Tryd.prog kd cd w fun e w' => e = .returned (.tuple #[]) ∧ Q w') :
    Calls Tryd.prog 81 #[.int .i64 n, .pointer (some ⟨bo, 0, none⟩)] w fun e w' => e = .returned (.tuple #[]) ∧ Q w' := by
  have hE' : ∀ (xs : Array Value) (w : World), (callFunc kd xs).run Tryd.prog w = .ok (.enter kd xs) w := hE
  have HD : Hid _ := hd
  clear hd
  go_enter Tryd.func81, Tryd.ntmps81
  go_wp2_with (refine Calls.mono HD.out ?_; rintro e w' ⟨rfl, hq⟩)
  go_end0
  exact ⟨rfl, hq⟩
set_option maxRecDepth 100000 in
theorem or_no {bo : Nat} {n : Int} (hn : ¬ n ≥ 1) :
    Calls Tryd.prog 81 #[.int .i64 n, .pointer (some ⟨bo, 0, none⟩)] w fun e w' => e = .returned (.tuple #[]) ∧ w' = w := by
  go_enter Tryd.func81, Tryd.ntmps81
  go_wp2
  go_end0
  exact ⟨rfl, rfl⟩
set_option maxRecDepth 100000 in
theorem may_there (h : Is N w p F s m pv) (x : ByteArray) (hx : x.size ≤ 140737488351232) {bd bn : Nat} (kd : w.cell? ⟨bd, 0, none⟩ = some (.pointer (some ⟨p, 0, none⟩))) (kn : w.cell? ⟨bn, 0, none⟩ = some (.string x)) :
    Calls Tryd.prog 80 #[.pointer (some ⟨bd, 0, none⟩), .pointer (some ⟨bn, 0, none⟩)] w fun e w' => e = .returned (.int .i64 (thereC s.fs x)) ∧ Below w.heap.size w w' := by
  go_enter Tryd.func80, Tryd.ntmps80
  go_wp2_with (go_at_call 52; refine (there_ok h x hx).mono ?_; rintro e w' ⟨rfl, hb⟩)
  go_ret
  exact ⟨rfl, hb⟩
set_option maxRecDepth 100000 in
theorem do_ok (h : Is N w p F s m pv) (x : ByteArray) (hx : x.size ≤ 140737488351232) {bd bn bw : Nat} (kd : w.cell? ⟨bd, 0, none⟩ = some (.pointer (some ⟨p, 0, none⟩))) (kn : w.cell? ⟨bn, 0, none⟩ = some (.string x)) {kf : Nat} {cf : Array Value} (hE : Enters Tryd.prog kf)
    (kw : w.cell? ⟨bw, 0, none⟩ = some (.func (.func kf) #[] cf)) {f : Fil} (hl : look s.fs x = some f) {Q : World → Prop} (hf : Calls Tryd.prog kf (#[.pointer (some ⟨f.blk, 0, none⟩)] ++ cf) w.drew fun e w' => e = .returned (.tuple #[]) ∧ Q w') :
    Calls Tryd.prog 79 #[.pointer (some ⟨bw, 0, none⟩), .pointer (some ⟨bd, 0, none⟩), .pointer (some ⟨bn, 0, none⟩)] w fun e w' => e = .returned (.tuple #[]) ∧ Q w' := by
  obtain ⟨c0, c1, c2, c3, c4, c5⟩ := h.cells
  have hk1 : (Instr.lookup 75 (.map (some m)) (.string x) false).run Tryd.prog w.drew = .ok (.pointer (some ⟨f.blk, 0, none⟩)) w.drew := by
    have t := look_run (w := w.drew) (h.below (Below.refl _ _).drew).files (x := x) (by unfold maxLen; omega)
    unfold at' at t; rw [hl] at t; exact t
  have hE' : ∀ (xs : Array Value) (w : World), (callFunc kf xs).run Tryd.prog w = .ok (.enter kf xs) w := hE
  have HF : Hid _ := hf
  clear hf
  go_enter Tryd.func79, Tryd.ntmps79
  go_wp2
  go_still_tail 7, (by kernel_rfl)
  all_goals go_wp2_with (refine Calls.mono HF.out ?_; rintro e w' ⟨rfl, hq⟩)
  go_end0
  exact ⟨rfl, hq⟩
theorem On.outer {w5 w1 : World} {C Cx : Nat → Prop} {s1 : St} {pv1 : Value} (on : On N w5 p F C s m w1 s1 pv1) (hb : Below w.heap.size w w5) (hC : ∀ i, Cx i → C i) (hCx : ∀ i, Cx i → i < w.heap.size) : On N w p F Cx s m w1 s1 pv1 :=
  ⟨on.is, on.fs, on.quo, fun i hi => (on.cap i (hC i hi)).trans (hb.block i (hCx i hi)), Nat.le_trans hb.size on.size⟩
theorem there_zero {fs : List Fil} {x : ByteArray} (h : thereC fs x = 0) : ∃ f, look fs x = some f := by
  unfold thereC at h
  split at h
  · split at h
    · rename_i h1 h2; exact Option.isSome_iff_exists.1 h2
    · cases h
  · cases h
def orF (fs : List Fil) (Wf : List Fil → Prop) (n : Int) (fs' : List Fil) : Prop := if n ≥ 1 then Wf fs' else fs' = fs
/-- What is asked of what is done to the file. -/
def Does (N : Nat) (w : World) (p : Nat) (F Cx : Nat → Prop) (s : St) (m : Nat) (x : ByteArray) (kf : Nat) (cf : Array Value) (Wf : List Fil → Prop) : Prop :=
  ∀ w1 s1 pv1 f, On N w p F Cx s m w1 s1 pv1 → look s.fs x = some f → Calls Tryd.prog kf (#[.pointer (some ⟨f.blk, 0, none⟩)] ++ cf) w1 fun e w' => e = .returned (.tuple #[]) ∧ ∃ F' fs', Wf fs' ∧ Is (N + 1) w' p F' { s1 with fs := fs' } m pv1 ∧ Fr F w1 w' ∧ Sub w1 F F'
theorem simple_clo {w5 : World} (h : Is N w5 p F s m pv) (hb : Below w.heap.size w w5) (x : ByteArray) (hx : x.size ≤ 140737488351232) {kf : Nat} {cf : Array Value} (hE : Enters Tryd.prog kf) {Cx : Nat → Prop} (hCx : ∀ i, Cx i → i < w.heap.size ∧ ¬ F i) {Wf : List Fil → Prop} (hkf : Does N w p F Cx s m x kf cf Wf)
    {bd bn bw bo : Nat} (kd : w5.cell? ⟨bd, 0, none⟩ = some (.pointer (some ⟨p, 0, none⟩))) (kn : w5.cell? ⟨bn, 0, none⟩ = some (.string x)) (kw : w5.cell? ⟨bw, 0, none⟩ = some (.func (.func kf) #[] cf))
    (ko : w5.cell? ⟨bo, 0, none⟩ = some (.func (.func 79) #[] #[.pointer (some ⟨bw, 0, none⟩), .pointer (some ⟨bd, 0, none⟩), .pointer (some ⟨bn, 0, none⟩)])) (nF : ∀ i, i = bd ∨ i = bn ∨ i = bw ∨ i = bo → ¬ F i) :
    Clo N w5 p F (fun i => Cx i ∨ i = bd ∨ i = bn ∨ i = bw ∨ i = bo) s m (thereC s.fs x) 80 79 81 #[.pointer (some ⟨bd, 0, none⟩), .pointer (some ⟨bn, 0, none⟩)] #[.pointer (some ⟨bw, 0, none⟩), .pointer (some ⟨bd, 0, none⟩), .pointer (some ⟨bn, 0, none⟩)] #[.pointer (some ⟨bo, 0, none⟩)]
      (orF s.fs Wf) Wf (fun _ => True) (fun _ => False) := by
  have hsep : ∀ i, (Cx i ∨ i = bd ∨ i = bn ∨ i = bw ∨ i = bo) → i < w5.heap.size ∧ ¬ F i := fun i hi => by
    rcases hi with hi | rfl | rfl | rfl | rfl
    · exact ⟨Nat.lt_of_lt_of_le (hCx i hi).1 hb.size, (hCx i hi).2⟩
    · exact ⟨World.block_lt_of_cell? w5 _ kd, nF _ (.inl rfl)⟩
    · exact ⟨World.block_lt_of_cell? w5 _ kn, nF _ (.inr (.inl rfl))⟩
    · exact ⟨World.block_lt_of_cell? w5 _ kw, nF _ (.inr (.inr (.inl rfl)))⟩
    · exact ⟨World.block_lt_of_cell? w5 _ ko, nF _ (.inr (.inr (.inr rfl)))⟩
  have hdo : thereC s.fs x = 0 → ∀ w1 s1 pv1, On N w5 p F (fun i => Cx i ∨ i = bd ∨ i = bn ∨ i = bw ∨ i = bo) s m w1 s1 pv1 → Calls Tryd.prog 79 #[.pointer (some ⟨bw, 0, none⟩), .pointer (some ⟨bd, 0, none⟩), .pointer (some ⟨bn, 0, none⟩)] w1 fun e w' => e = .returned (.tuple #[]) ∧ ∃ F' fs', Wf fs' ∧ Is (N + 1) w' p F' { s1 with fs := fs' } m pv1 ∧ Fr F w1 w' ∧ Sub w1 F F' := by
    intro h0 w1 s1 pv1 on
    obtain ⟨f, hf⟩ := there_zero h0
    have on' := (on.below hsep (Below.refl _ w1).drew).outer hb (Cx := Cx) (fun i hi => .inl hi) (fun i hi => (hCx i hi).1)
    refine do_ok on.is x hx (cell_of kd (on.cap bd (.inr (.inl rfl)))) (cell_of kn (on.cap bn (.inr (.inr (.inl rfl))))) hE (cell_of kw (on.cap bw (.inr (.inr (.inr (.inl rfl)))))) (by rw [on.fs]; exact hf) ?_
    refine (hkf w1.drew s1 pv1 f on' hf).mono ?_
    rintro e w' ⟨rfl, F', fs', h1, h2, h3, h4⟩
    exact ⟨rfl, F', fs', h1, h2, ⟨h3.os, h3.tape, h3.output, h3.size, h3.block⟩, h4⟩
  exact {
    may := fun w1 s1 pv1 on => by
      rw [← on.fs]
      exact may_there on.is x hx (cell_of kd (on.cap bd (.inr (.inl rfl)))) (cell_of kn (on.cap bn (.inr (.inr (.inl rfl)))))
    part := fun h0 w1 s1 pv1 n on => by
      have ko' := cell_of ko (on.cap bo (.inr (.inr (.inr (.inr rfl)))))
      by_cases hn : n ≥ 1
      · refine (or_yes ent79 ko' hn (hdo h0 w1 s1 pv1 on)).mono ?_
        rintro e w' ⟨rfl, F', fs', h1, h2, h3, h4⟩
        exact ⟨rfl, F', fs', by unfold orF; rw [if_pos hn]; exact h1, h2, h3, h4⟩
      · refine (or_no hn).mono ?_
        rintro e w' ⟨rfl, rfl⟩
        refine ⟨rfl, F, s.fs, by unfold orF; rw [if_neg hn], ?_, Fr.refl _ _, Sub.refl _ _⟩
        have t := on.is.more
        have e1 : ({ s1 with fs := s.fs } : St) = s1 := by rw [← on.fs]
        rw [e1]; exact t
    whole := fun h0 w1 s1 pv1 on => by
      refine (hdo h0 w1 s1 pv1 on).mono ?_
      rintro e w' ⟨rfl, F', fs', h1, h2, h3, h4⟩
      exact ⟨rfl, F', fs', h1, h2, h3.or _, h4, trivial⟩
    em := ent80
    ew := ent79
    ep := ent81
    sep := hsep }
theorem Res.kept {w' : World} {code : Int} {Pf : Int → List Fil → Prop} {Wf : List Fil → Prop} {Out : World → Prop} {v : Value} (hr : Res N w p F (fun _ => False) s m a0 a1 a2 a3 a4 code Pf Wf Out v w') {b : Nat} {u : Value} (hc : w.cell? ⟨b, 0, none⟩ = some u) (hn : ¬ F b) : w'.cell? ⟨b, 0, none⟩ = some u := by
  obtain ⟨F', s', pv', h1, h2, h3, h4⟩ := hr
  exact cell_of hc (h2.block b (World.block_lt_of_cell? w _ hc) (fun e => e.elim hn id))
set_option maxRecDepth 100000 in
set_option maxHeartbeats 1000000 in
theorem simple_ok (h : Is N w p F s m pv) (hS : Sens w B a0 a1 a2 a3 a4) (hB : ∀ i, F i → B ≤ i) (hs0 : 0 ≤ s.steps) (hs1 : s.steps < 1000000000000) (hs2 : 0 ≤ s.since) (hs3 : s.since < 1000000000000) (op x : ByteArray) (hx : x.size ≤ 140737488351232) {kf : Nat} {cf : Array Value} (hE : Enters Tryd.prog kf) {Cx : Nat → Prop} (hCx : ∀ i, Cx i → i < w.heap.size ∧ ¬ F i) {Wf : List Fil → Prop} (hkf : Does N w p F Cx s m x kf cf Wf) :
    Calls Tryd.prog 48 #[.pointer (some ⟨p, 0, none⟩), .string op, .string x, .func (.func kf) #[] cf] w fun e w' => ∃ v, e = .returned v ∧ OpRes N w p F s m a0 a1 a2 a3 a4 (thereC s.fs x) (orF s.fs Wf) Wf v w' := by
  have hmf : ∀ (fn : Fn) (first cap : Array Value) (w : World), (Instr.makeFunc fn first cap).run Tryd.prog w = .ok (.func fn first cap) w := fun _ _ _ _ => rfl
  obtain ⟨o1, ho1⟩ : ∃ o, o = Obj.cells #[.pointer (some ⟨p, 0, none⟩)] 23 := ⟨_, rfl⟩
  obtain ⟨o2, ho2⟩ : ∃ o, o = Obj.cells #[.string x] 9 := ⟨_, rfl⟩
  obtain ⟨o3, ho3⟩ : ∃ o, o = Obj.cells #[.func (.func kf) #[] cf] 85 := ⟨_, rfl⟩
  obtain ⟨o4, ho4⟩ : ∃ o, o = Obj.cells #[.func (.func 79) #[] #[.pointer (some ⟨w.heap.size + 1 + 1, 0, none⟩), .pointer (some ⟨w.heap.size, 0, none⟩), .pointer (some ⟨w.heap.size + 1, 0, none⟩)]] 1 := ⟨_, rfl⟩
  have z1 : (w.alloc o1).heap.size = w.heap.size + 1 := by simp
  have z2 : ((w.alloc o1).alloc o2).heap.size = w.heap.size + 1 + 1 := by simp
  have z3 : (((w.alloc o1).alloc o2).alloc o3).heap.size = w.heap.size + 1 + 1 + 1 := by simp
  have b1 := blk_new w o1
  have b2 := blk_new (w.alloc o1) o2
  have b3 := blk_new ((w.alloc o1).alloc o2) o3
  have b4 := blk_new (((w.alloc o1).alloc o2).alloc o3) o4
  rw [z1] at b2
  rw [z2] at b3
  rw [z3] at b4
  have hW : Below w.heap.size w ((((w.alloc o1).alloc o2).alloc o3).alloc o4).drew := (((((Below.refl _ w).alloc (Nat.le_refl _) o1).alloc (by rw [z1]; omega) o2).alloc (by rw [z2]; omega) o3).alloc (by rw [z3]; omega) o4).drew
  have c1 := blk_alloc (blk_alloc b1 o2) o3
  have c2 := blk_alloc b2 o3
  have b1' := blk_alloc (blk_alloc (blk_alloc b1 o2) o3) o4
  have b2' := blk_alloc (blk_alloc b2 o3) o4
  have b3' := blk_alloc b3 o4
  subst ho1 ho2 ho3 ho4
  have g1 := blk_cell c1 0
  have g2 := blk_cell c2 0
  simp only [List.getElem?_toArray, List.getElem?_cons_zero] at g1 g2
  have hcl := simple_clo (w5 := (((((w.alloc (Obj.cells #[.pointer (some ⟨p, 0, none⟩)] 23)).alloc (Obj.cells #[.string x] 9)).alloc (Obj.cells #[.func (.func kf) #[] cf] 85)).alloc (Obj.cells #[.func (.func 79) #[] #[.pointer (some ⟨w.heap.size + 1 + 1, 0, none⟩), .pointer (some ⟨w.heap.size, 0, none⟩), .pointer (some ⟨w.heap.size + 1, 0, none⟩)]] 1)).drew)) (h.below hW) hW x hx hE hCx hkf (bd := w.heap.size) (bn := w.heap.size + 1) (bw := w.heap.size + 1 + 1) (bo := w.heap.size + 1 + 1 + 1) (blk_cell b1' 0) (blk_cell b2' 0) (blk_cell b3' 0) (blk_cell b4 0) (fun i hi hF => by have := h.low i hF; omega)
  obtain ⟨w3, hw3⟩ : ∃ w3, (((w.alloc (Obj.cells #[.pointer (some ⟨p, 0, none⟩)] 23)).alloc (Obj.cells #[.string x] 9)).alloc (Obj.cells #[.func (.func kf) #[] cf] 85)) = w3 := ⟨_, rfl⟩
  rw [hw3] at g1 g2 z3
  clear b1 b2 b3 b4 b1' b2' b3' c1 c2
  have hS' := hS.below (hW.mono (Nat.le_trans (hB p h.inP) (Nat.le_of_lt (h.low p h.inP))))
  have hop := op_any (h.below hW) hS' hB hs0 hs1 hs2 hs3 op x hcl
  have hW2 := hW
  rw [hw3] at hop hW2
  have HOP : Hid _ := hop
  have HW : Hid _ := hW2
  have HW3 : Hid _ := hw3
  clear hop hcl hW hW2 hS' hkf hw3 z1 z2
  have al : ∀ (o : Obj) {b : Nat} {v : Value}, w3.cell? ⟨b, 0, none⟩ = some v → (w3.alloc o).drew.cell? ⟨b, 0, none⟩ = some v := fun o b v hv => (World.cell?_alloc_past _ _ _ (World.block_lt_of_cell? w3 _ hv)).trans hv
  have nF1 : ¬ F w.heap.size := fun e => by have := h.low _ e; omega
  have nF2 : ¬ F (w.heap.size + 1) := fun e => by have := h.low _ e; omega
  go_enter Tryd.func48, Tryd.ntmps48
  go_wp2
  rw [HW3.out]
  go_region_held3 (fun W => W.cell? ⟨w.heap.size, 0, none⟩ = some (.pointer (some ⟨p, 0, none⟩)) ∧ W.cell? ⟨w.heap.size + 1, 0, none⟩ = some (.string x))
    (first | exact ⟨g1, g2⟩ | exact ⟨al _ g1, al _ g2⟩ | exact ⟨r1, r2⟩)
    (first
    | (go_at_call 54; refine (or_ok _ _ _).mono ?_; rintro e w' ⟨rfl, rfl⟩; rw [show w3.drew.heap.size = w.heap.size + 1 + 1 + 1 from z3])
    | (go_at_call 46; refine Calls.mono HOP.out ?_; rintro e w' ⟨v, rfl, hres⟩; have r1 := hres.kept (al _ g1) nF1; have r2 := hres.kept (al _ g2) nF2))
  all_goals (try go_wp2)
  all_goals go_ret
  all_goals exact ⟨v, rfl, hres.opRes HW.out (fun i hi => hi.elim)⟩
end Go.Proofs.YtkfehogefclhdaaDoor.Dk
