/- New and Start, by their contracts. -/
import Derived.Test.YtkfehogefclhdaaDoorDkRen
namespace Go.Proofs.YtkfehogefclhdaaDoor.Dk
open Go.RowKit Go.Maps Go.Proofs.YtkfehogefclhdaaDoorW.PrintWords Go.Proofs.YtkfehogefclhdaaDoorW.PrintMore
variable {N : Nat} {w : World} {p : Nat} {F : Nat → Prop} {s : St} {m : Nat} {pv : Value} {B : Nat} {a0 a1 a2 a3 a4 : Addr}

def St.fresh (q : Int) : St := { quota := q, run := true, steps := 0, plan := [], since := 0, fs := [] }
set_option maxRecDepth 100000 in
theorem new_ok (q : Int) (h1 : 1 ≤ q) (h2 : q ≤ 1048576) (w : World) : Calls Tryd.prog 11 #[.int .i64 q] w fun e w' => e = .returned (.tuple #[.pointer (some ⟨w.heap.size + 1, 0, none⟩), .nilIface]) ∧
    Is 0 w' (w.heap.size + 1) (fun i => i = w.heap.size ∨ i = w.heap.size + 1) (St.fresh q) w.heap.size (.slice none 0 0) ∧ Below w.heap.size w w' := by
  have hmm := @run_makeMap Tryd.prog
  obtain ⟨o1, ho1⟩ : ∃ o, o = Obj.map #[] 0 := ⟨_, rfl⟩
  obtain ⟨o2, ho2⟩ : ∃ o, o = Obj.cells #[.int .i64 q, .map (some w.heap.size), .bool true, .int .i64 0, .slice none 0 0, .int .i64 0] 77 := ⟨_, rfl⟩
  have z1 : (w.alloc o1).heap.size = w.heap.size + 1 := by simp
  have b2 := blk_new (w.alloc o1) o2
  rw [z1] at b2
  have hmade := World.ownsMap_made w Tryd.prog 9 rp
  have hown : ((w.alloc o1).alloc o2).ownsMap Tryd.prog 9 rp w.heap.size 0 (.map []) := by
    rw [ho1]; exact hmade.alloc o2
  have hW : Below w.heap.size w ((w.alloc o1).alloc o2) := ((Below.refl _ w).alloc (Nat.le_refl _) o1).alloc (by rw [z1]; omega) o2
  have z2 : ((w.alloc o1).alloc o2).heap.size = w.heap.size + 1 + 1 := by simp
  have his : Is 0 ((w.alloc o1).alloc o2) (w.heap.size + 1) (fun i => i = w.heap.size ∨ i = w.heap.size + 1) (St.fresh q) w.heap.size (.slice none 0 0) := by
    refine ⟨?_, ⟨_, hown, fun s => rfl, fun s => rfl⟩, ⟨none, 0, rfl, Nat.le_refl _, by omega, fun i x h => by simp [St.fresh] at h⟩, fun f hf => by simp [St.fresh] at hf, List.Pairwise.nil, List.Pairwise.nil, fun f hf => by simp [St.fresh] at hf, ?_, h2, .inr rfl, .inl rfl, fun f hf => by simp [St.fresh] at hf, fun i hi => by rw [z2]; omega⟩
    · rw [ho2] at b2; rw [ho2]; exact b2
    · show ((used [] : Nat) : Int) ≤ q
      show (0 : Int) ≤ q
      omega
  subst ho1 ho2
  have HIS : Hid _ := his
  have HW : Hid _ := hW
  clear his hW hown hmade b2 z1 z2
  go_enter Tryd.func11, Tryd.ntmps11
  go_wp2
  go_ret2
  exact ⟨rfl, HIS.out, HW.out⟩
set_option maxRecDepth 100000 in
theorem start_ok (h : Is N w p F s m pv) : Calls Tryd.prog 19 #[.pointer (some ⟨p, 0, none⟩)] w fun e w' => e = .returned (.tuple #[]) ∧ Is N w' p F s.start m pv ∧ Fr F w w' := by
  obtain ⟨c0, c1, c2, c3, c4, c5⟩ := h.cells
  have hnot := not_run
  have th := h.thaw
  cases hr : s.run with
  | true =>
    have e : s.start = s := by unfold St.start; rw [hr]; cases s; simp_all
    rw [hr] at c2
    rw [e]
    have HR : Hid _ := hr
    clear hr e
    go_enter Tryd.func19, Tryd.ntmps19
    go_wp2_with (go_at_call 50; refine (none_ok h).mono ?_; rintro e w' ⟨rfl, h'⟩; replace h' := h'.symm; subst h')
    go_end0
    exact ⟨rfl, h, Fr.refl _ _⟩
  | false =>
    have hst : Is N ((w.setCell ⟨p, 2, none⟩ (.bool true)).setCell ⟨p, 5, none⟩ (.int .i64 0)) p F s.start m pv := by
      refine h.set s.start _ rfl rfl rfl ?_ (fun i _ hi => (Below.heap_setCell _ _ _ i hi).trans (Below.heap_setCell _ _ _ i hi)) (by simp [World.setCell])
      have t := blk_set (blk_set h.top 2 (.bool true)) 5 (.int .i64 0)
      have e : cellsOf s.start m pv = #[.int .i64 s.quota, .map (some m), .bool true, .int .i64 s.steps, pv, .int .i64 0] := by unfold cellsOf St.start; rw [hr]; rfl
      rw [e]; exact t
    have hfr := ((Fr.refl F w).set (a := ⟨p, 2, none⟩) h.inP (.bool true)).set (a := ⟨p, 5, none⟩) h.inP (.int .i64 0)
    rw [hr] at c2
    have HR : Hid _ := hr
    have HST : Hid _ := hst
    have HFR : Hid _ := hfr
    clear hr hst hfr
    go_enter Tryd.func19, Tryd.ntmps19
    go_wp2_with (go_at_call 50; refine (none_ok h).mono ?_; rintro e w' ⟨rfl, h'⟩; replace h' := h'.symm; subst h')
    go_end0
    exact ⟨rfl, HST.out, HFR.out⟩
end Go.Proofs.YtkfehogefclhdaaDoor.Dk
