/- Rename, by its contract. -/
import Derived.Test.YtkfehogefclhdaaDoorDkRead
namespace Go.Proofs.YtkfehogefclhdaaDoor.Dk
open Go.RowKit Go.Maps Go.Proofs.YtkfehogefclhdaaDoorW.PrintWords Go.Proofs.YtkfehogefclhdaaDoorW.PrintMore
variable {N : Nat} {w : World} {p : Nat} {F : Nat → Prop} {s : St} {m : Nat} {pv : Value} {B : Nat} {a0 a1 a2 a3 a4 : Addr}

theorem ent51 : Enters Tryd.prog 51 := enters_of Tryd.func51 (by kernel_rfl) rfl
theorem ent53 : Enters Tryd.prog 53 := enters_of Tryd.func53 (by kernel_rfl) rfl
noncomputable def renC (fs : List Fil) (x y : ByteArray) : Int := if nameB x = true ∧ nameB y = true then thereC fs x else 90
set_option maxRecDepth 100000 in
set_option maxHeartbeats 1000000 in
theorem ren_may (h : Is N w p F s m pv) (x y : ByteArray) (hx : x.size ≤ 140737488351232) (hy : y.size ≤ 140737488351232) {bd bx b2 : Nat} (kd : w.cell? ⟨bd, 0, none⟩ = some (.pointer (some ⟨p, 0, none⟩))) (kx : w.cell? ⟨bx, 0, none⟩ = some (.string x)) (ky : w.cell? ⟨b2, 0, none⟩ = some (.string y)) :
    Calls Tryd.prog 51 #[.pointer (some ⟨bx, 0, none⟩), .pointer (some ⟨b2, 0, none⟩), .pointer (some ⟨bd, 0, none⟩)] w fun e w' => e = .returned (.int .i64 (renC s.fs x y)) ∧ Below w.heap.size w w' := by
  have hnot := not_run
  have key : ∀ n, Is N (w.drewN n) p F s m pv := fun n => h.below (drewN_below w n)
  cases hbx : nameB x with
  | false =>
    rw [show renC s.fs x y = 90 by unfold renC; rw [if_neg (fun e => by rw [hbx] at e; cases e.1)]]
    go_enter Tryd.func51, Tryd.ntmps51
    go_wp2_with (go_at_call 44; refine (name_ok x hx _).mono ?_; rw [hbx]; rintro e w1 ⟨rfl, n, rfl⟩)
    go_ret
    exact ⟨rfl, drewN_below _ _⟩
  | true =>
    cases hby : nameB y with
    | false =>
      rw [show renC s.fs x y = 90 by unfold renC; rw [if_neg (fun e => by rw [hby] at e; cases e.2)]]
      go_enter Tryd.func51, Tryd.ntmps51
      go_wp2_with fail
      refine (name_ok x hx _).mono ?_
      rw [hbx]
      rintro e w1 ⟨rfl, n, rfl⟩
      go_wp2_with fail
      refine (name_ok y hy _).mono ?_
      rw [hby]
      rintro e w1 ⟨rfl, n2, rfl⟩
      go_wp2
      go_ret
      exact ⟨rfl, drewN_below w _⟩
    | true =>
      rw [show renC s.fs x y = thereC s.fs x by unfold renC; rw [if_pos ⟨hbx, hby⟩]]
      go_enter Tryd.func51, Tryd.ntmps51
      go_wp2_with fail
      refine (name_ok x hx _).mono ?_
      rw [hbx]
      rintro e w1 ⟨rfl, n, rfl⟩
      go_wp2_with fail
      refine (name_ok y hy _).mono ?_
      rw [hby]
      rintro e w1 ⟨rfl, n2, rfl⟩
      have key2 : Is N ((w.drewN n).drewN n2) p F s m pv := (key n).below (drewN_below _ _)
      go_wp2_with (go_at_call 52; refine (there_ok (h.below (by first | exact (drewN_below w _).trans (drewN_below (w.drewN _) _) | exact drewN_below w _)) x hx).mono ?_; rintro e w' ⟨rfl, hb⟩)
      go_ret
      exact ⟨rfl, (drewN_below w _).trans hb⟩
def RenF (fs : List Fil) (x y : ByteArray) (fs' : List Fil) : Prop := ∃ f, look fs x = some f ∧ fs' = { f with name := y } :: outF y (outF x fs)
theorem used_out_mem {x : ByteArray} {f : Fil} : ∀ {fs : List Fil}, f ∈ fs → f.name = x → used (outF x fs) + f.bytes.size ≤ used fs
  | [], h, _ => by cases h
  | g :: r, h, hn => by
    rcases List.mem_cons.1 h with rfl | h
    · have := used_out x r
      unfold used outF at *
      rw [List.filter_cons, decide_eq_true hn, Bool.not_true, if_neg (by decide), List.map_cons, List.sum_cons]
      omega
    · have ih := used_out_mem h hn
      unfold used outF at *
      rw [List.filter_cons, List.map_cons, List.sum_cons]
      split
      · rw [List.map_cons, List.sum_cons]; omega
      · omega
set_option maxRecDepth 100000 in
set_option maxHeartbeats 1000000 in
theorem ren_do (h : Is N w p F s m pv) (hN : N < maxLen) (x y : ByteArray) (hx : x.size ≤ 140737488351232) (hy : y.size ≤ 140737488351232) {bd bx b2 : Nat} (kd : w.cell? ⟨bd, 0, none⟩ = some (.pointer (some ⟨p, 0, none⟩))) (kx : w.cell? ⟨bx, 0, none⟩ = some (.string x)) (ky : w.cell? ⟨b2, 0, none⟩ = some (.string y)) (nF : ∀ i, i = bd ∨ i = bx ∨ i = b2 → i ≠ m) {f : Fil} (hl : look s.fs x = some f) :
    Calls Tryd.prog 53 #[.pointer (some ⟨bd, 0, none⟩), .pointer (some ⟨bx, 0, none⟩), .pointer (some ⟨b2, 0, none⟩)] w fun e w' => e = .returned (.tuple #[]) ∧
      ∃ F' fs', RenF s.fs x y fs' ∧ Is (N + 1) w' p F' { s with fs := fs' } m pv ∧ Fr F w w' ∧ Sub w F F' := by
  obtain ⟨c0, c1, c2, c3, c4, c5⟩ := h.cells
  obtain ⟨hm, hn⟩ := look_mem hl
  have hxm : x.size ≤ maxLen := by unfold maxLen; omega
  have hym : y.size ≤ maxLen := by unfold maxLen; omega
  have hk1 : (Instr.lookup 75 (.map (some m)) (.string x) false).run Tryd.prog w.drew = .ok (.pointer (some ⟨f.blk, 0, none⟩)) w.drew := by
    have t := look_run (w := w.drew) (h.below (Below.refl _ _).drew).files (x := x) hxm
    unfold at' at t; rw [hl] at t; exact t
  have isd : Is N w.drew.drew p F s m pv := h.below (Below.refl _ _).drew.drew
  obtain ⟨w2, hrun, hg, hsz, hmap⟩ := isd.files.del hxm 0
  have hmd : MapIs w2.drew m N (outF x s.fs) := hmap.kept rfl
  obtain ⟨w3, hup, hg3, hmap3⟩ := hmd.put hym f.blk hN
  have tr : ∀ (b j : Nat) (v : Value), b ≠ m → w.cell? ⟨b, j, none⟩ = some v → w2.cell? ⟨b, j, none⟩ = some v := fun b j v hbm hv =>
    cell_of hv (hg.block b (World.block_lt_of_cell? w _ hv) (fun e => hbm (Option.some.inj e)))
  have d2 := tr bd 0 _ (nF bd (.inl rfl)) kd
  have x2 := tr bx 0 _ (nF bx (.inr (.inl rfl))) kx
  have y2 := tr b2 0 _ (nF b2 (.inr (.inr rfl))) ky
  have p2 := tr p 1 _ h.ne c1
  have hgg : w.drew.drew.grownBy w3 (some m) := hg.andThen (b' := w2) (row' := some m) ⟨hg3.os, hg3.tape, hg3.output, hg3.size, hg3.block⟩ (fun j hj => .inr hj)
  have hnf : ∀ g ∈ outF x s.fs, g.blk ≠ f.blk := fun g hg e => by
    rw [outF, List.mem_filter] at hg
    have e2 := blk_inj h.blks hg.1 hm e
    have := hg.2
    rw [e2, decide_eq_true hn] at this
    cases this
  have hfin := isd.turned hgg (hmap3 { f with name := y } rfl rfl) (fun g hg => by
      rcases List.mem_cons.1 hg with rfl | hg
      · exact ⟨f, hm, rfl, rfl, rfl⟩
      · exact ⟨g, (List.mem_filter.1 (List.mem_filter.1 hg).1).1, rfl, rfl, rfl⟩)
    (by
      rw [List.pairwise_cons]
      refine ⟨fun g hg e => ?_, (h.names.filter _).filter _⟩
      have := (List.mem_filter.1 hg).2
      rw [decide_eq_true (show g.name = y from e.symm)] at this
      cases this)
    (by
      rw [List.pairwise_cons]
      exact ⟨fun g hg e => hnf g (List.mem_filter.1 hg).1 e.symm, (h.blks.filter _).filter _⟩)
    (by
      have q1 := used_out y (outF x s.fs)
      have q2 := used_out_mem hm hn
      show used ({ f with name := y } :: _) ≤ _
      have e : used ({ f with name := y } :: outF y (outF x s.fs)) = f.bytes.size + used (outF y (outF x s.fs)) := by unfold used; rw [List.map_cons, List.sum_cons]
      omega)
  have hfr := grown_fr (F := F) h.inM hgg
  have HFIN : Hid _ := hfin
  have HFR : Hid _ := hfr
  clear hfin hfr hmap hg hsz isd hmd hg3 hmap3 tr hgg hnf
  obtain ⟨wd, hwd⟩ : ∃ wd, w.drew = wd := ⟨_, rfl⟩
  have kdd : wd.cell? ⟨bd, 0, none⟩ = some (.pointer (some ⟨p, 0, none⟩)) := by rw [← hwd]; exact kd
  have kxd : wd.cell? ⟨bx, 0, none⟩ = some (.string x) := by rw [← hwd]; exact kx
  have c1d : wd.cell? ⟨p, 1, none⟩ = some (.map (some m)) := by rw [← hwd]; exact c1
  have hrund := hrun
  rw [hwd] at hrund
  have HWD : Hid _ := hwd
  clear hwd hrun
  go_enter Tryd.func53, Tryd.ntmps53
  go_wp2
  go_still_tail 6, (by kernel_rfl)
  all_goals go_wp2
  rw [show ({ heap := w.heap, tape := w.tape, drawn := w.drawn + 1, os := w.os, output := w.output } : World) = wd from HWD.out]
  go_still_tail 5, (by kernel_rfl)
  all_goals go_wp2
  go_still_tail 6, (by kernel_rfl)
  all_goals go_wp2
  go_end0
  exact ⟨rfl, F, _, ⟨f, hl, rfl⟩, HFIN.out, ⟨HFR.out.os, HFR.out.tape, HFR.out.output, HFR.out.size, HFR.out.block⟩, Sub.refl _ _⟩
end Go.Proofs.YtkfehogefclhdaaDoor.Dk
