/- Names, and whether a file is there. -/
import Derived.Test.YtkfehogefclhdaaDoorDkAny
import Derived.Test.YtkfehogefclhdaaDoorPNmx1
namespace Go.Proofs.YtkfehogefclhdaaDoor.Dk
open Go.RowKit Go.Maps Go.Proofs.YtkfehogefclhdaaDoorW.PrintWords Go.Proofs.YtkfehogefclhdaaDoorW.PrintMore Go.Proofs.YtkfehogefclhdaaDoor.PNm
variable {N : Nat} {w : World} {p : Nat} {F : Nat → Prop} {s : St} {m : Nat} {pv : Value} {B : Nat} {a0 a1 a2 a3 a4 : Addr}

theorem w64 {z : Int} (h0 : -9223372036854775808 ≤ z) (h1 : z ≤ 9223372036854775807) : wrap64 z = z := by unfold wrap64; omega
theorem name_tells (x : ByteArray) (hx : x.size ≤ 140737488351232) : ∀ (d : Nat) (i : Nat), x.size - i = d → ∃ k b, disk_isName.l0 k x (x.size : Int) i = some b := by
  intro d
  induction d with
  | zero =>
    intro i hd
    refine ⟨1, ?_⟩
    simp only [disk_isName.l0]
    rw [if_neg (by omega)]
    split <;> exact ⟨_, rfl⟩
  | succ d ih =>
    intro i hd
    obtain ⟨k, b, hb⟩ := ih (i + 1) (by omega)
    refine ⟨k + 1, ?_⟩
    simp only [disk_isName.l0]
    rw [if_pos (by omega), if_pos (by omega), if_pos (by omega), w64 (by omega) (by omega), show ((i : Int) + 1) = ((i + 1 : Nat) : Int) by omega, hb]
    repeat' split
    all_goals exact ⟨_, rfl⟩
open Classical in
/-- May a file have that name? -/
noncomputable def nameB (x : ByteArray) : Bool := if ∃ k, disk_isName.f k x = some true then true else false
theorem name_is (x : ByteArray) (hx : x.size ≤ 140737488351232) : ∃ k, disk_isName.f k x = some (nameB x) := by
  obtain ⟨k, b, hb⟩ := name_tells x hx x.size 0 (by omega)
  have hf : disk_isName.f k x = some b := hb
  unfold nameB
  cases b with
  | true => rw [if_pos ⟨k, hf⟩]; exact ⟨k, hf⟩
  | false =>
    by_cases h : ∃ k, disk_isName.f k x = some true
    · rw [if_pos h]; exact h
    · rw [if_neg h]; exact ⟨k, hf⟩
theorem name_eq {x : ByteArray} {b : Bool} {k : Nat} (h : disk_isName.f k x = some b) : nameB x = b := by
  unfold nameB
  by_cases h2 : ∃ k, disk_isName.f k x = some true
  · rw [if_pos h2]
    obtain ⟨j, hj⟩ := h2
    have e1 := at_rounds (g := fun k => disk_isName.f k x) (fun k => disk_isName.mono_l k _ _ _) (Nat.le_max_left j k) hj
    have e2 := at_rounds (g := fun k => disk_isName.f k x) (fun k => disk_isName.mono_l k _ _ _) (Nat.le_max_right j k) h
    have := e1.symm.trans e2
    exact Option.some.inj this
  · rw [if_neg h2]
    cases b with
    | true => exact absurd ⟨k, h⟩ h2
    | false => rfl
theorem name_ok (x : ByteArray) (hx : x.size ≤ 140737488351232) (w : World) : Calls Tryd.prog 44 #[.string x] w fun e w' => e = .returned (.bool (nameB x)) ∧ ∃ n, w' = w.drewN n := by
  obtain ⟨k, hk⟩ := name_is x hx
  exact (disk_isName.calls k x _ w hk).mono fun e w' h => ⟨h.1, h.2.out⟩
theorem drewN_below (w : World) (n : Nat) : Below w.heap.size w (w.drewN n) := (Drawn0.mk ⟨n, rfl⟩).below
/-- there's code. -/
noncomputable def thereC (fs : List Fil) (x : ByteArray) : Int := if nameB x = true then (if (look fs x).isSome then 0 else 91) else 90
set_option maxRecDepth 100000 in
theorem there_ok (h : Is N w p F s m pv) (x : ByteArray) (hx : x.size ≤ 140737488351232) : Calls Tryd.prog 52 #[.pointer (some ⟨p, 0, none⟩), .string x] w fun e w' => e = .returned (.int .i64 (thereC s.fs x)) ∧ Below w.heap.size w w' := by
  obtain ⟨c0, c1, c2, c3, c4, c5⟩ := h.cells
  have hnot := not_run
  have hk := look_run h.files (x := x) (by unfold maxLen; omega)
  unfold thereC
  cases hb : nameB x with
  | false =>
    clear hk
    go_enter Tryd.func52, Tryd.ntmps52
    go_wp2_with (go_at_call 44; refine (name_ok x hx _).mono ?_; rw [hb]; rintro e w1 ⟨rfl, n, rfl⟩)
    go_ret
    exact ⟨rfl, drewN_below _ _⟩
  | true =>
    cases hl : look s.fs x with
    | none =>
      unfold at' at hk; rw [hl] at hk; simp only [Option.map_none, ptr] at hk
      have hk2 : ∀ n, (Instr.lookup 75 (.map (some m)) (.string x) false).run Tryd.prog (w.drewN n) = .ok (.pointer none) (w.drewN n) := fun n => by
        have t := look_run (h.below (drewN_below w n)).files (x := x) (by unfold maxLen; omega)
        unfold at' at t; rw [hl] at t; exact t
      go_enter Tryd.func52, Tryd.ntmps52
      go_wp2_with (go_at_call 44; refine (name_ok x hx _).mono ?_; rw [hb]; rintro e w1 ⟨rfl, n, rfl⟩)
      go_ret
      exact ⟨rfl, drewN_below _ _⟩
    | some f =>
      unfold at' at hk; rw [hl] at hk; simp only [Option.map_some, ptr] at hk
      have hk2 : ∀ n, (Instr.lookup 75 (.map (some m)) (.string x) false).run Tryd.prog (w.drewN n) = .ok (.pointer (some ⟨f.blk, 0, none⟩)) (w.drewN n) := fun n => by
        have t := look_run (h.below (drewN_below w n)).files (x := x) (by unfold maxLen; omega)
        unfold at' at t; rw [hl] at t; exact t
      go_enter Tryd.func52, Tryd.ntmps52
      go_wp2_with (go_at_call 44; refine (name_ok x hx _).mono ?_; rw [hb]; rintro e w1 ⟨rfl, n, rfl⟩)
      go_ret
      exact ⟨rfl, drewN_below _ _⟩
end Go.Proofs.YtkfehogefclhdaaDoor.Dk
