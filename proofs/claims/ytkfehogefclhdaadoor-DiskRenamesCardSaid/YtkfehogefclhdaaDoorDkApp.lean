/- Append, by its contract. -/
import Derived.Test.YtkfehogefclhdaaDoorDkName
import Derived.Deep.RegionHeld3
namespace Go.Proofs.YtkfehogefclhdaaDoor.Dk
open Go.RowKit Go.Maps Go.Proofs.YtkfehogefclhdaaDoorW.PrintWords Go.Proofs.YtkfehogefclhdaaDoorW.PrintMore
variable {N : Nat} {w : World} {p : Nat} {F : Nat → Prop} {s : St} {m : Nat} {pv : Value} {B : Nat} {a0 a1 a2 a3 a4 : Addr}
attribute [local go_sem] max2_int min2_int max_two min_two

noncomputable def appC (s : St) (x data : ByteArray) : Int := if nameB x = true then (if (data.size : Int) > s.quota - used s.fs then 92 else 0) else 90
set_option maxRecDepth 100000 in
set_option maxHeartbeats 1000000 in
theorem app_may (h : Is N w p F s m pv) (x data : ByteArray) (hx : x.size ≤ 140737488351232) (hd : data.size ≤ 140737488351232) {bd bn bt : Nat} (kd : w.cell? ⟨bd, 0, none⟩ = some (.pointer (some ⟨p, 0, none⟩))) (kn : w.cell? ⟨bn, 0, none⟩ = some (.string x)) (kt : w.cell? ⟨bt, 0, none⟩ = some (.string data)) :
    Calls Tryd.prog 43 #[.pointer (some ⟨bn, 0, none⟩), .pointer (some ⟨bt, 0, none⟩), .pointer (some ⟨bd, 0, none⟩)] w fun e w' => e = .returned (.int .i64 (appC s x data)) ∧ Below w.heap.size w w' := by
  obtain ⟨c0, c1, c2, c3, c4, c5⟩ := h.cells
  have hnot := not_run
  have hq := h.quo
  have hr := h.room
  unfold appC
  cases hb : nameB x with
  | false =>
    go_enter Tryd.func43, Tryd.ntmps43
    go_wp2_with (go_at_call 44; refine (name_ok x hx _).mono ?_; rw [hb]; rintro e w1 ⟨rfl, n, rfl⟩)
    go_ret
    exact ⟨rfl, drewN_below _ _⟩
  | true =>
    rw [if_pos rfl]
    obtain ⟨z, hz⟩ : ∃ z : Int, (if (data.size : Int) > s.quota - used s.fs then (92 : Int) else 0) = z := ⟨_, rfl⟩
    rw [hz]
    have HZ : Hid _ := hz
    clear hz
    have hw : IntKind.i64.wrap (s.quota - used s.fs) = s.quota - used s.fs := by rw [IntKind.wrap_i64]; omega
    have key : ∀ n, Is N (w.drewN n) p F s m pv := fun n => h.below (drewN_below w n)
    go_enter Tryd.func43, Tryd.ntmps43
    go_wp2_with (go_at_call 44; refine (name_ok x hx _).mono ?_; rw [hb]; rintro e w1 ⟨rfl, n, rfl⟩)
    go_region_held3 (fun W => W.cell? ⟨bd, 0, none⟩ = some (.pointer (some ⟨p, 0, none⟩)) ∧ W.cell? ⟨bt, 0, none⟩ = some (.string data) ∧ W.cell? ⟨p, 0, none⟩ = some (.int .i64 s.quota))
      (first | exact ⟨kd, kt, c0⟩ | exact ⟨g1, g3, g2⟩)
      (first | (go_at_call 38; refine (used_ok (key _)).mono ?_; rintro e w2 ⟨rfl, hb2⟩; have g1 : w2.cell? ⟨bd, 0, none⟩ = some (.pointer (some ⟨p, 0, none⟩)) := pw_cell_below hb2 kd; have g2 : w2.cell? ⟨p, 0, none⟩ = some (.int .i64 s.quota) := pw_cell_below hb2 c0; have g3 : w2.cell? ⟨bt, 0, none⟩ = some (.string data) := pw_cell_below hb2 kt))
    all_goals (try go_wp2)
    all_goals go_ret
    · exact ⟨by rw [← HZ.out, if_pos (by omega)]; rfl, (drewN_below w _).trans hb2⟩
    · exact ⟨by rw [← HZ.out, if_neg (by omega)]; rfl, (drewN_below w _).trans hb2⟩
/-- What is written of data within n. -/
def cutD (data : ByteArray) (n : Int) : ByteArray := data.extract 0 (min n.toNat data.size)
def putB (x : ByteArray) (b : ByteArray) (fs : List Fil) : List Fil := fs.map fun g => if g.name = x then { g with bytes := b } else g
def AppF (fs : List Fil) (x data : ByteArray) (n : Int) (fs' : List Fil) : Prop :=
  match look fs x with
  | none => ∃ b, fs' = ⟨x, b, cutD data n, 0⟩ :: fs
  | some f => fs' = putB x (f.bytes ++ cutD data n) fs
theorem cut_idx (data : ByteArray) (n : Int) : ∃ q : Nat, (if (data.size : Int) < (if n < 0 then 0 else n) then (data.size : Int) else if n < 0 then 0 else n) = (q : Int) ∧ q = min n.toNat data.size := by
  refine ⟨min n.toNat data.size, ?_, rfl⟩
  split <;> split <;> omega
set_option maxRecDepth 100000 in
set_option maxHeartbeats 1000000 in
theorem app_part_some (h : Is N w p F s m pv) (x data : ByteArray) (hx : x.size ≤ 140737488351232) (hd : data.size ≤ 140737488351232) {bd bn bt : Nat} (kd : w.cell? ⟨bd, 0, none⟩ = some (.pointer (some ⟨p, 0, none⟩))) (kn : w.cell? ⟨bn, 0, none⟩ = some (.string x)) (kt : w.cell? ⟨bt, 0, none⟩ = some (.string data)) (n : Int) {f : Fil} (hl : look s.fs x = some f) (hrm : f.bytes.size + data.size ≤ 1048576) :
    Calls Tryd.prog 45 #[.int .i64 n, .pointer (some ⟨bd, 0, none⟩), .pointer (some ⟨bn, 0, none⟩), .pointer (some ⟨bt, 0, none⟩)] w fun e w' => e = .returned (.tuple #[]) ∧ ∃ k, w' = (w.setCell ⟨f.blk, 0, none⟩ (.string (f.bytes ++ cutD data n))).drewN k := by
  obtain ⟨c0, c1, c2, c3, c4, c5⟩ := h.cells
  have hm := (look_mem hl).1
  have b0 := blk_cell (h.each f hm) 0
  have bf := blk_frozen (h.each f hm) 0
  simp only [List.getElem?_toArray, List.getElem?_cons_zero] at b0
  have hk := look_run h.files (x := x) (by unfold maxLen; omega)
  unfold at' at hk; rw [hl] at hk; simp only [Option.map_some, ptr] at hk
  have hk1 : (Instr.lookup 75 (.map (some m)) (.string x) false).run Tryd.prog w.drew = .ok (.pointer (some ⟨f.blk, 0, none⟩)) w.drew := by
    have t := look_run (w := w.drew) (h.below (Below.refl _ _).drew).files (x := x) (by unfold maxLen; omega)
    unfold at' at t; rw [hl] at t; exact t
  have hk2 : (Instr.lookup 75 (.map (some m)) (.string x) false).run Tryd.prog w.drew.drew = .ok (.pointer (some ⟨f.blk, 0, none⟩)) w.drew.drew := by
    have t := look_run (w := w.drew.drew) (h.below (Below.refl _ _).drew.drew).files (x := x) (by unfold maxLen; omega)
    unfold at' at t; rw [hl] at t; exact t
  obtain ⟨q, hq, hq2⟩ := cut_idx data n
  have e1 : cutD data n = data.extract 0 q := by unfold cutD; rw [hq2]
  rw [e1]
  have hqs : q ≤ data.size := by omega
  have k1 : (9223372036854775807 < f.bytes.size + (data.extract 0 q).size) = False := eq_false (by rw [ByteArray.size_extract]; omega)
  have k2 : (9223372036854775807 < f.bytes.size + min q data.size) = False := eq_false (by omega)
  have k3 : (9223372036854775807 < f.bytes.size + q) = False := eq_false (by omega)
  clear hq2 e1
  go_enter Tryd.func45, Tryd.ntmps45
  go_wp2
  go_region
  all_goals (try go_wp2)
  go_region
  all_goals (try go_wp2)
  all_goals (go_end0; exact ⟨rfl, 2, rfl⟩)
end Go.Proofs.YtkfehogefclhdaaDoor.Dk
