/- Contracts of the functions that the statement reaches, and plain lemmas: DkLog, DkBook, DkNotes, DkNote1, DkNote2, DkNote3, DkSide, DkReads, DkStood, DkKeeps, PDkx. -/
import Derived.Test.YtkfehogefclhdaaDoorMg1
import Derived.StillTailTactics
set_option linter.unusedVariables false
/- The statement's log: at, set, free, by their contracts. -/
namespace Go.Proofs.YtkfehogefclhdaaDoor.Dk
open Go.RowKit Go.Maps Go.Proofs.YtkfehogefclhdaaDoorW.PrintWords Go.Proofs.YtkfehogefclhdaaDoorW.PrintMore
variable {w : World} {q base : Nat} {v0 v1 v2 : Value} {l0 l1 l2 : List ByteArray}

def ixOf (l : List ByteArray) (x : ByteArray) : Nat := l.findIdx (fun y => decide (y = x))
def atI (l : List ByteArray) (x : ByteArray) : Int := if ixOf l x < l.length then (ixOf l x : Int) else -1
theorem ixOf_eq {l : List ByteArray} {x : ByteArray} {k : Nat} (hk : k < l.length) (hx : l[k] = x) (hb : ∀ j (h : j < k), l[j]'(by omega) ≠ x) : ixOf l x = k := by
  unfold ixOf
  rw [List.findIdx_eq hk]
  exact ⟨decide_eq_true hx, fun j hj => decide_eq_false (hb j hj)⟩
theorem atI_none {l : List ByteArray} {x : ByteArray} (h : ∀ j (h : j < l.length), l[j] ≠ x) : atI l x = -1 := by
  unfold atI
  rw [if_neg]
  intro hlt
  have hp : decide (l[l.findIdx (fun y => decide (y = x))]'hlt = x) = true := List.findIdx_getElem (p := fun y => decide (y = x)) (w := hlt)
  exact h _ hlt (of_decide_eq_true hp)
theorem toList_eq {x y : ByteArray} (h : x.toList = y.toList) : x = y := by
  rw [ByteArray.toList_eq, ByteArray.toList_eq] at h
  obtain ⟨⟨x⟩⟩ := x
  obtain ⟨⟨y⟩⟩ := y
  simp only at h
  rw [h]
theorem str_beq (x y : ByteArray) : (x.toList == y.toList) = decide (x = y) := by
  by_cases h : x = y
  · subst h; simp
  · rw [decide_eq_false h]
    exact beq_eq_false_iff_ne.2 (fun e => h (toList_eq e))
theorem rows_shape (h : w.ownsRow base 9 1 v0 l0.length (sv l0)) : ∃ A c, v0 = .slice A l0.length c ∧ l0.length ≤ 9223372036854775807 := by
  rcases h.2 with ⟨rfl, h0⟩ | ⟨g, cap, cur, rfl, _, _, hc, hm, _⟩
  · exact ⟨none, 0, by rw [h0], by omega⟩
  · exact ⟨_, cap, rfl, by unfold maxLen at hm; omega⟩
set_option maxRecDepth 100000 in
set_option maxHeartbeats 1000000 in
theorem at_ok (h : Rows w q base v0 v1 v2 l0 l1 l2) (x : ByteArray) : Calls Tryd.prog 34 #[.pointer (some ⟨q, 0, none⟩), .string x] w fun e w' => e = .returned (.int .i64 (atI l0 x)) ∧ w' = w := by
  obtain ⟨c0, _, _⟩ := h.cells
  obtain ⟨A, c, rfl, hl⟩ := rows_shape h.o0
  have HH : Hid _ := h
  have HL : Hid _ := hl
  clear h hl
  go_enter Tryd.func34, Tryd.ntmps34
  go_wp2
  go_loop [5] (fun i => ∃ k : Nat, k ≤ l0.length ∧ i = .int .i64 k ∧ ∀ j (h : j < k) (h2 : j < l0.length), l0[j] ≠ x) (fun i => l0.length - (intOf i).toNat)
  case atStart => exact ⟨0, Nat.zero_le _, rfl, fun j h => absurd h (Nat.not_lt_zero _)⟩
  case round =>
    obtain ⟨k, hk, rfl, hb⟩ := hrel
    have HB : Hid _ := hb
    clear hb
    by_cases hlt : k < l0.length
    · obtain ⟨g, c', e, hc', _, hcell, _⟩ := own_get HH.out.o0 k hlt
      cases e
      have hl1 : decide ((k : Int) < (l0.length : Int)) = true := decide_eq_true (by omega)
      have hk2 : (k : Int) < 9223372036854775807 := by have := HL.out; omega
      by_cases hx : l0[k] = x
      · have hxb : (l0[k].toList == x.toList) = true := by rw [str_beq]; exact decide_eq_true hx
        have HX : Hid _ := hx
        clear hx
        go_wp2
        go_ret
        refine ⟨?_, rfl⟩
        have e := ixOf_eq hlt HX.out (fun j hj => HB.out j hj (by omega))
        unfold atI
        rw [if_pos (by rw [e]; exact hlt), e]
        rfl
      · have hxb : (l0[k].toList == x.toList) = false := by rw [str_beq]; exact decide_eq_false hx
        have HX : Hid _ := hx
        clear hx
        go_wp2
        refine ⟨⟨k + 1, by omega, by simp, fun j hj h2 => ?_⟩, by simp only [intOf]; omega⟩
        rcases (show j < k ∨ j = k by omega) with hj | rfl
        · exact HB.out j hj h2
        · exact HX.out
    · have hl1 : decide ((k : Int) < (l0.length : Int)) = false := decide_eq_false (by omega)
      go_wp2
      go_ret
      exact ⟨by rw [atI_none (fun j hj => HB.out j (by omega) hj)]; rfl, rfl⟩
theorem info9 : (Tryd.prog.info? 9).map (fun i => (i.zero, i.size, i.bytes)) = some (some (.string ⟨#[]⟩), 1, 16) := by kernel_rfl
theorem Rows.baseLe (h : Rows w q base v0 v1 v2 l0 l1 l2) : base ≤ w.heap.size := Nat.le_trans h.low (Nat.le_of_lt (blk_lt h.top))
theorem Rows.top0 {w1 : World} (h : Rows w q base v0 v1 v2 l0 l1 l2) {row : Option Nat} (hg : w.grownBy w1 row) (hr : row ≠ some q) : w1.heap[q]? = some (.cells #[v0, v1, v2] 55 (0, 0)) := (hg.block q (blk_lt h.top) (fun e => hr e.symm)).trans h.top
theorem Fr.sub {F F' : Nat → Prop} {w w1 : World} (h : Fr F w w1) (hs : ∀ i, F i → F' i) : Fr F' w w1 := ⟨h.os, h.tape, h.output, h.size, fun k hk hn => h.block k hk (fun e => hn (hs k e))⟩
/-- What a call does to the three rows and to nothing else. -/
theorem own_sv {v : Value} {l : List ByteArray} (h : w.ownsRow base 9 1 v l.length (sv l)) : w.ownsRow base 9 1 v (sv l).length (sv l) := by rw [sv_len]; exact h
def Turned (w : World) (q base : Nat) (v0 v1 v2 : Value) (l0 l1 l2 : List ByteArray) (w' : World) : Prop :=
  ∃ u0 u1 u2, Rows w' q base u0 u1 u2 l0 l1 l2 ∧ Fr (Fp q v0 v1 v2) w w' ∧ ∀ b, Fp q u0 u1 u2 b → Fp q v0 v1 v2 b ∨ w.heap.size ≤ b
set_option maxRecDepth 100000 in
set_option maxHeartbeats 2000000 in
theorem set_new (h : Rows w q base v0 v1 v2 l0 l1 l2) (hlen : l0.length ≤ 100000) (e1 : l1.length = l0.length) (e2 : l2.length = l0.length) (x a s : ByteArray) (hx : atI l0 x = -1) :
    Calls Tryd.prog 70 #[.pointer (some ⟨q, 0, none⟩), .string x, .string a, .string s] w fun e w' => e = .returned (.tuple #[]) ∧ Turned w q base v0 v1 v2 (l0 ++ [x]) (l1 ++ [a]) (l2 ++ [s]) w' := by
  obtain ⟨c0, c1, c2⟩ := h.cells
  have th := blk_frozen h.top
  have hq := h.nq
  have o0 : w.ownsRow base 9 1 v0 (sv l0).length (sv l0) := by rw [sv_len]; exact h.o0
  have H0 : Hid _ := h
  have HLEN : Hid _ := hlen
  clear h hlen
  go_enter Tryd.func70, Tryd.ntmps70
  go_wp2_with (first
    | (go_at_call 34; refine (at_ok H0.out x).mono ?_; rw [hx]; rintro e w' ⟨rfl, h'⟩; replace h' := h'.symm; subst h')
    | ((with_reducible refine gate_builtin (b := .append) (xs := #[.tmp 18, .tmp 20]) rfl ?_); at_builtin
       refine print_append (w0 := w) base rfl (.tmp 18) (.tmp 20) 53 9 (.string ⟨#[]⟩) 16 rfl Tryd.underlying53 info9 rfl (by decide) v0 (sv l0) (.string x) rfl rfl rfl (own_sv H0.out.o0) (Below.refl _ _) H0.out.baseLe (by rw [sv_len]; have := HLEN.out; omega) ?_
       intro u1 y1 hown1 hB1 hg1 hat1
       obtain ⟨A1, k1, rfl⟩ := own_slice hown1
       have P1 := H0.out.push0 x hown1 hg1 hat1
       simp only [List.length_append, List.length_singleton] at P1
       have R1 : Hid _ := P1.1
       have F1 : Hid _ := P1.2
       have t1 := H0.out.top0 hg1 H0.out.nq.1
       have z1 := blk_frozen t1
       have s10 := blk_cell t1 0
       have s11 := blk_cell t1 1
       have s12 := blk_cell t1 2
       simp only [List.getElem?_toArray, List.getElem?_cons_zero, List.getElem?_cons_succ] at s10 s11 s12
       have hz1 : (y1.setCell ⟨q, 0, none⟩ (.slice A1 ((sv l0).length + 1) k1)).heap.size = y1.heap.size := by simp [World.setCell]
       clear P1
       clear hown1 hB1 hg1 hat1 t1)
    | ((with_reducible refine gate_builtin (b := .append) (xs := #[.tmp 28, .tmp 30]) rfl ?_); at_builtin
       refine print_append (w0 := y1.setCell ⟨q, 0, none⟩ (.slice A1 ((sv l0).length + 1) k1)) base rfl (.tmp 28) (.tmp 30) 53 9 (.string ⟨#[]⟩) 16 rfl Tryd.underlying53 info9 rfl (by decide) v1 (sv l1) (.string a) rfl (by rw [hz1]; rfl) rfl (own_sv R1.out.o1) (Below.refl _ _) R1.out.baseLe (by rw [sv_len]; have := HLEN.out; omega) ?_
       intro u2 y2 hown2 hB2 hg2 hat2
       obtain ⟨A2, k2, rfl⟩ := own_slice hown2
       have P2 := R1.out.push1 a hown2 hg2 hat2
       simp only [List.length_append, List.length_singleton] at P2
       have R2 : Hid _ := P2.1
       have F2 : Hid _ := P2.2
       have t2 := R1.out.top0 hg2 R1.out.nq.2.1
       have z2 := blk_frozen t2
       have s20 := blk_cell t2 0
       have s21 := blk_cell t2 1
       have s22 := blk_cell t2 2
       simp only [List.getElem?_toArray, List.getElem?_cons_zero, List.getElem?_cons_succ] at s20 s21 s22
       have hz2 : (y2.setCell ⟨q, 1, none⟩ (.slice A2 ((sv l1).length + 1) k2)).heap.size = y2.heap.size := by simp [World.setCell]
       clear P2
       clear hown2 hB2 hg2 hat2 t2)
    | ((with_reducible refine gate_builtin (b := .append) (xs := #[.tmp 38, .tmp 40]) rfl ?_); at_builtin
       refine print_append (w0 := y2.setCell ⟨q, 1, none⟩ (.slice A2 ((sv l1).length + 1) k2)) base rfl (.tmp 38) (.tmp 40) 53 9 (.string ⟨#[]⟩) 16 rfl Tryd.underlying53 info9 rfl (by decide) v2 (sv l2) (.string s) rfl (by rw [hz2]; rfl) rfl (own_sv R2.out.o2) (Below.refl _ _) R2.out.baseLe (by rw [sv_len]; have := HLEN.out; omega) ?_
       intro u3 y3 hown3 hB3 hg3 hat3
       obtain ⟨A3, k3, rfl⟩ := own_slice hown3
       have P3 := R2.out.push2 s hown3 hg3 hat3
       simp only [List.length_append, List.length_singleton] at P3
       have R3 : Hid _ := P3.1
       have F3 : Hid _ := P3.2
       have t3 := R2.out.top0 hg3 R2.out.nq.2.2
       have z3 := blk_frozen t3
       have s30 := blk_cell t3 0
       have s31 := blk_cell t3 1
       have s32 := blk_cell t3 2
       simp only [List.getElem?_toArray, List.getElem?_cons_zero, List.getElem?_cons_succ] at s30 s31 s32
       have hz3 : (y3.setCell ⟨q, 2, none⟩ (.slice A3 ((sv l2).length + 1) k3)).heap.size = y3.heap.size := by simp [World.setCell]
       clear P3
       clear hown3 hB3 hg3 hat3 t3))
  refine bodyPost_ret (results_none rfl _ _ _) rfl ?_
  have f12 := Fr.trans F1.out.1 F1.out.2 F2.out.1
  have s12 := Sub.trans F1.out.2 F1.out.1.size F2.out.2
  exact ⟨rfl, _, _, _, R3.out, Fr.trans f12 s12 F3.out.1, Sub.trans s12 f12.size F3.out.2⟩
set_option maxRecDepth 100000 in
set_option maxHeartbeats 2000000 in
theorem set_old (h : Rows w q base v0 v1 v2 l0 l1 l2) (e1 : l1.length = l0.length) (e2 : l2.length = l0.length) (x a s : ByteArray) (i : Nat) (hi : i < l0.length) (hx : atI l0 x = i) :
    Calls Tryd.prog 70 #[.pointer (some ⟨q, 0, none⟩), .string x, .string a, .string s] w fun e w' => e = .returned (.tuple #[]) ∧ Turned w q base v0 v1 v2 l0 (l1.set i a) (l2.set i s) w' := by
  have hl := h.o0
  obtain ⟨g1, k1, rfl, hk1, _, hc1, hz1⟩ := own_get h.o1 i (by omega)
  obtain ⟨g2, k2, rfl, hk2, _, hc2, hz2⟩ := own_get h.o2 i (by omega)
  obtain ⟨_, _, _, hl0⟩ := rows_shape h.o0
  have hp1 := h.put1 i a
  have hp2 := hp1.1.put2 i s
  obtain ⟨c0, c1, c2⟩ := h.cells
  obtain ⟨d0, d1, d2⟩ := hp1.1.cells
  have hne : (⟨g2, i, none⟩ : Addr).block ≠ (⟨g1, i, none⟩ : Addr).block := fun e => h.a12 g1 rfl (by rw [show g1 = g2 from e.symm]; rfl)
  have hc2' : (w.setCell ⟨g1, i, none⟩ (.string a)).cell? ⟨g2, i, none⟩ = some (.string l2[i]) := cell_of hc2 (Below.heap_setCell w ⟨g1, i, none⟩ _ g2 hne)
  have hz2' : (w.setCell ⟨g1, i, none⟩ (.string a)).frozen? ⟨g2, i, none⟩ = false := by rw [← hz2]; unfold World.frozen?; rw [Below.heap_setCell w ⟨g1, i, none⟩ _ g2 hne]
  have H0 : Hid _ := h
  have HP1 : Hid _ := hp1
  have HP2 : Hid _ := hp2
  have hi1 : decide ((i : Int) < 0) = false := decide_eq_false (by omega)
  have hi2 : (i : Int) < (l1.length : Int) := by omega
  have hi3 : (i : Int) < (l2.length : Int) := by omega
  have hi4 : i < l1.length := by omega
  have hi5 : i < l2.length := by omega
  clear h hp1 hp2 hl hne hc2 hz2
  go_enter Tryd.func70, Tryd.ntmps70
  go_wp2_with (go_at_call 34; refine (at_ok H0.out x).mono ?_; rw [hx]; rintro e w' ⟨rfl, h'⟩; replace h' := h'.symm; subst h')
  go_end0
  exact ⟨rfl, _, _, _, HP2.out.1, Fr.trans HP1.out.2 (fun b hb => .inl (by simpa using hb)) HP2.out.2, fun b hb => .inl (by simpa using hb)⟩
theorem Fr.drew1 {F : Nat → Prop} {w w1 : World} (h : Fr F w w1) : Fr F w w1.drew := ⟨h.os, h.tape, h.output, h.size, h.block⟩
theorem Rows.drew (h : Rows w q base v0 v1 v2 l0 l1 l2) : Rows w.drew q base v0 v1 v2 l0 l1 l2 := h.kept (fun _ _ => rfl)
set_option maxRecDepth 100000 in
theorem free_none (h : Rows w q base v0 v1 v2 l0 l1 l2) (x : ByteArray) (hx : atI l0 x = -1) :
    Calls Tryd.prog 72 #[.pointer (some ⟨q, 0, none⟩), .string x] w fun e w' => e = .returned (.tuple #[]) ∧ w' = w := by
  have H0 : Hid _ := h
  clear h
  go_enter Tryd.func72, Tryd.ntmps72
  go_wp2_with (go_at_call 34; refine (at_ok H0.out x).mono ?_; rw [hx]; rintro e w' ⟨rfl, h'⟩; replace h' := h'.symm; subst h')
  refine bodyPost_ret (results_none rfl _ _ _) rfl ?_
  exact ⟨rfl, rfl⟩
set_option maxRecDepth 100000 in
set_option maxHeartbeats 2000000 in
theorem free_ok (h : Rows w q base v0 v1 v2 l0 l1 l2) (m : Nat) (M0 : m < l0.length) (M1 : m < l1.length) (M2 : m < l2.length) (e0 : l0.length = m + 1) (e1 : l1.length = m + 1) (e2 : l2.length = m + 1) (x : ByteArray) (i : Nat) (hi : i < m + 1) (hx : atI l0 x = i) :
    Calls Tryd.prog 72 #[.pointer (some ⟨q, 0, none⟩), .string x] w fun e w' => e = .returned (.tuple #[]) ∧ Turned w q base v0 v1 v2 ((l0.set i l0[m]).take m) ((l1.set i l1[m]).take m) ((l2.set i l2[m]).take m) w' := by
  obtain ⟨g0, k0, rfl, hk0, _, hc0, _⟩ := own_get h.o0 m M0
  obtain ⟨g1, k1, rfl, hk1, _, hc1, _⟩ := own_get h.o1 m M1
  obtain ⟨g2, k2, rfl, hk2, _, hc2, _⟩ := own_get h.o2 m M2
  obtain ⟨_, _, _, hl0⟩ := rows_shape h.o0
  obtain ⟨c0, c1, c2⟩ := h.cells
  have H0 : Hid _ := h
  have hi1 : decide ((i : Int) < 0) = false := decide_eq_false (by omega)
  have hw : wrap64 ((l0.length : Int) - 1) = (m : Int) := by unfold wrap64; omega
  have hw2 : IntKind.i64.wrap ((l0.length : Int) - 1) = (m : Int) := by rw [Go.IntWalk.i64_left]; exact hw
  have hi0 : (i : Int) < (l0.length : Int) := by omega
  have hi2 : (i : Int) < (l1.length : Int) := by omega
  have hi3 : (i : Int) < (l2.length : Int) := by omega
  have hm0 : (m : Int) < (l0.length : Int) := by omega
  have hm1 : (m : Int) < (l1.length : Int) := by omega
  have hm2 : (m : Int) < (l2.length : Int) := by omega
  have E0 : Hid _ := e0
  have E1 : Hid _ := e1
  have E2 : Hid _ := e2
  have hwm : (l0.length : Int) - 1 = (m : Int) := by omega
  have hm00 : (0 : Int) ≤ (m : Int) := by omega
  have hi00 : (0 : Int) ≤ (i : Int) := by omega
  have hk0' : (m : Int) ≤ (k0 : Int) := by omega
  have hk1' : (m : Int) ≤ (k1 : Int) := by omega
  have hk2' : (m : Int) ≤ (k2 : Int) := by omega
  clear h e0 e1 e2 hw2
  go_enter Tryd.func72, Tryd.ntmps72
  go_wp2_with (go_at_call 34; refine (at_ok H0.out x).mono ?_; rw [hx]; rintro e w' ⟨rfl, h'⟩; replace h' := h'.symm; subst h')
  go_still_tail 13, (by kernel_rfl)
  rw [show ({ heap := w.heap, tape := w.tape, drawn := w.drawn + 1, os := w.os, output := w.output } : World) = w.drew from rfl]
  obtain ⟨_, _, ea1, _, _, ci1, fi1⟩ := own_get H0.out.drew.o0 i (by have := E0.out; omega)
  cases ea1
  go_wp2
  have P1 := H0.out.put0 i l0[m]
  have P1R := P1.1.drew
  have P1F := Fr.drew1 P1.2
  obtain ⟨W1, hW1⟩ : ∃ W, (w.setCell ⟨g0, i, none⟩ (.string l0[m])).drew = W := ⟨_, rfl⟩
  rw [hW1] at P1R P1F ⊢
  have R1 : Hid _ := P1R
  have F1 : Hid _ := P1F
  obtain ⟨a10, a11, a12⟩ := R1.out.cells
  have b1 := blk_frozen R1.out.top
  clear hW1 P1 P1R P1F
  obtain ⟨_, _, eb1, _, _, cm1, _⟩ := own_get R1.out.o1 m M1
  cases eb1
  go_still_tail 13, (by kernel_rfl)
  rw [show ({ heap := W1.heap, tape := W1.tape, drawn := W1.drawn + 1, os := W1.os, output := W1.output } : World) = W1.drew from rfl]
  obtain ⟨_, _, ea2, _, _, ci2, fi2⟩ := own_get R1.out.drew.o1 i (by have := E1.out; omega)
  cases ea2
  go_wp2
  have P2 := R1.out.put1 i l1[m]
  have P2R := P2.1.drew
  have P2F := Fr.drew1 P2.2
  obtain ⟨W2, hW2⟩ : ∃ W, (W1.setCell ⟨g1, i, none⟩ (.string l1[m])).drew = W := ⟨_, rfl⟩
  rw [hW2] at P2R P2F ⊢
  have R2 : Hid _ := P2R
  have F2 : Hid _ := P2F
  obtain ⟨a20, a21, a22⟩ := R2.out.cells
  have b2 := blk_frozen R2.out.top
  clear hW2 P2 P2R P2F
  obtain ⟨_, _, eb2, _, _, cm2, _⟩ := own_get R2.out.o2 m M2
  cases eb2
  go_still_tail 13, (by kernel_rfl)
  rw [show ({ heap := W2.heap, tape := W2.tape, drawn := W2.drawn + 1, os := W2.os, output := W2.output } : World) = W2.drew from rfl]
  obtain ⟨_, _, ea3, _, _, ci3, fi3⟩ := own_get R2.out.drew.o2 i (by have := E2.out; omega)
  cases ea3
  have hgq : g2 ≠ q := fun e => R2.out.nq.2.2 (by rw [e]; rfl)
  have hqg : q ≠ g2 := Ne.symm hgq
  go_wp2
  go_end0
  have P3 := R2.out.put2 i l2[m]
  have P4 := P3.1.take0 m (by rw [List.length_set]; omega)
  have P5 := P4.1.take1 m (by rw [List.length_set]; omega)
  have P6 := P5.1.take2 m (by rw [List.length_set]; omega)
  have same : ∀ (n0 n1 n2 n0' n1' n2' : Nat) (b : Nat), Fp q (.slice (some ⟨g0, 0, none⟩) n0 k0) (.slice (some ⟨g1, 0, none⟩) n1 k1) (.slice (some ⟨g2, 0, none⟩) n2 k2) b → Fp q (.slice (some ⟨g0, 0, none⟩) n0' k0) (.slice (some ⟨g1, 0, none⟩) n1' k1) (.slice (some ⟨g2, 0, none⟩) n2' k2) b := fun _ _ _ _ _ _ b hb => by unfold Fp Value.ownBlock at *; exact hb
  refine ⟨rfl, _, _, _, P6.1.drew, ?_, fun b hb => .inl (same _ _ _ _ _ _ b hb)⟩
  have f12 := Fr.trans F1.out (Sub.refl _ _) F2.out
  have f3 := Fr.trans f12 (Sub.refl _ _) P3.2
  have f4 := Fr.trans f3 (Sub.refl _ _) (P4.2.sub (same _ _ _ _ _ _))
  have f5 := Fr.trans f4 (Sub.refl _ _) (P5.2.sub (same _ _ _ _ _ _))
  exact (Fr.trans f5 (Sub.refl _ _) (P6.2.sub (same _ _ _ _ _ _))).drew1
end Go.Proofs.YtkfehogefclhdaaDoor.Dk

/- The statement's log beside the disk's files: plain laws of lists. -/
namespace Go.Proofs.YtkfehogefclhdaaDoor.Dk
open Go.RowKit Go.Maps Go.Proofs.YtkfehogefclhdaaDoorW.PrintWords Go.Proofs.YtkfehogefclhdaaDoorW.PrintMore
open List (Perm)
abbrev Ent := ByteArray × ByteArray × ByteArray
def n0 (L : List Ent) : List ByteArray := L.map fun t => t.1
def n1 (L : List Ent) : List ByteArray := L.map fun t => t.2.1
def n2 (L : List Ent) : List ByteArray := L.map fun t => t.2.2
/-- All but those of a name. -/
def bar (x : ByteArray) (L : List Ent) : List Ent := L.filter fun t => !decide (t.1 = x)
variable {α : Type}
theorem set_perm {l : List α} {i : Nat} (hi : i < l.length) (a : α) : (l.set i a).Perm (a :: l.eraseIdx i) := by
  rw [List.set_eq_take_append_cons_drop, if_pos hi, List.eraseIdx_eq_take_drop_succ]
  exact List.perm_middle
theorem self_perm {l : List α} {i : Nat} (hi : i < l.length) : l.Perm (l[i] :: l.eraseIdx i) := by
  have h := set_perm hi l[i]
  rwa [List.set_getElem_self] at h
theorem free_perm {l : List α} {m i : Nat} (hl : l.length = m + 1) (hi : i < m + 1) (hm : m < l.length) : ((l.set i l[m]).take m).Perm (l.eraseIdx i) := by
  have h1 : (l.set i l[m]).Perm (l[m] :: l.eraseIdx i) := set_perm (by omega) _
  have hlen : (l.set i l[m]).length = m + 1 := by rw [List.length_set]; exact hl
  have hmm : m < (l.set i l[m]).length := by omega
  have hlast : (l.set i l[m])[m] = l[m] := by
    rw [List.getElem_set]
    split <;> rfl
  have h2 : (l.set i l[m]).Perm ((l.set i l[m])[m] :: (l.set i l[m]).eraseIdx m) := self_perm hmm
  have h3 : (l.set i l[m]).eraseIdx m = (l.set i l[m]).take m := by
    rw [List.eraseIdx_eq_take_drop_succ, List.drop_of_length_le (by omega), List.append_nil]
  rw [hlast, h3] at h2
  exact List.Perm.cons_inv (h2.symm.trans h1)
theorem bar_erase {L : List Ent} {i : Nat} {x : ByteArray} (hn : (n0 L).Nodup) (hi : i < L.length) (hx : L[i].1 = x) : L.eraseIdx i = bar x L := by
  unfold bar
  induction L generalizing i with
  | nil => simp at hi
  | cons t r ih =>
    have hn' : (n0 r).Nodup := (List.nodup_cons.1 hn).2
    have ht : t.1 ∉ n0 r := (List.nodup_cons.1 hn).1
    cases i with
    | zero =>
      simp at hx
      rw [List.eraseIdx_cons_zero, List.filter_cons, if_neg (by simp [hx])]
      symm
      rw [List.filter_eq_self]
      intro u hu
      simp only [Bool.not_eq_true', decide_eq_false_iff_not]
      rintro rfl
      exact ht (by rw [hx]; exact List.mem_map.2 ⟨u, hu, rfl⟩)
    | succ i =>
      simp at hx hi
      rw [List.eraseIdx_cons_succ, List.filter_cons, if_pos, ih hn' hi hx]
      simp only [Bool.not_eq_true', decide_eq_false_iff_not]
      rintro rfl
      exact ht (by rw [← hx]; exact List.mem_map.2 ⟨r[i], List.getElem_mem _, rfl⟩)
theorem bar_self {L : List Ent} {x : ByteArray} (h : x ∉ n0 L) : bar x L = L := by
  unfold bar
  rw [List.filter_eq_self]
  intro u hu
  simp only [Bool.not_eq_true', decide_eq_false_iff_not]
  rintro rfl
  exact h (List.mem_map.2 ⟨u, hu, rfl⟩)
theorem bar_len (x : ByteArray) (L : List Ent) : (bar x L).length ≤ L.length := List.length_filter_le _ _
theorem bar_not {L : List Ent} {x : ByteArray} : x ∉ n0 (bar x L) := by
  intro h
  obtain ⟨u, hu, e⟩ := List.mem_map.1 h
  have := (List.mem_filter.1 hu).2
  simp [e] at this
theorem bar_nodup {L : List Ent} {x : ByteArray} (h : (n0 L).Nodup) : (n0 (bar x L)).Nodup := by
  unfold n0 bar
  exact List.Nodup.sublist ((List.filter_sublist).map _) h
theorem n0_perm {L L' : List Ent} (h : L.Perm L') : (n0 L).Perm (n0 L') := h.map _
/-- Where a name stands. -/
theorem at_in {l : List ByteArray} {x : ByteArray} (h : x ∈ l) : ∃ i, ∃ hi : i < l.length, l[i] = x ∧ atI l x = i := by
  have hlt : ixOf l x < l.length := by
    unfold ixOf
    exact List.findIdx_lt_length_of_exists ⟨x, h, decide_eq_true rfl⟩
  refine ⟨ixOf l x, hlt, ?_, by unfold atI; rw [if_pos hlt]⟩
  have hp : decide (l[l.findIdx (fun y => decide (y = x))]'hlt = x) = true := List.findIdx_getElem (p := fun y => decide (y = x)) (w := hlt)
  exact of_decide_eq_true hp
theorem at_out {l : List ByteArray} {x : ByteArray} (h : x ∉ l) : atI l x = -1 := atI_none (fun j hj e => h (by rw [← e]; exact List.getElem_mem _))
/-- What the log says of a file. -/
def tr (f : Fil) : Ent := (f.name, f.bytes, f.bytes.extract 0 f.dur)
def Books (L : List Ent) (fs : List Fil) : Prop := L.Perm (fs.map tr)
theorem Books.nodup {L : List Ent} {fs : List Fil} (h : Books L fs) (hn : fs.Pairwise (fun f g => f.name ≠ g.name)) : (n0 L).Nodup := by
  have h2 : (n0 L).Perm (fs.map Fil.name) := by
    have := n0_perm h
    unfold n0 at this
    rw [List.map_map] at this
    exact this
  refine h2.nodup_iff.2 ?_
  unfold List.Nodup
  rw [List.pairwise_map]
  exact hn
theorem bar_tr (x : ByteArray) (fs : List Fil) : bar x (fs.map tr) = (outF x fs).map tr := by
  unfold bar outF
  rw [List.filter_map]
  rfl
theorem Books.free {L L' : List Ent} {fs : List Fil} (h : Books L fs) {x : ByteArray} (hL : L'.Perm (bar x L)) : Books L' (outF x fs) := by
  unfold Books
  rw [← bar_tr]
  exact hL.trans (List.Perm.filter _ h)
theorem Books.put {L L' : List Ent} {fs : List Fil} (h : Books L fs) {x : ByteArray} {f' : Fil} (hL : L'.Perm (tr f' :: bar x L)) : Books L' (f' :: outF x fs) := by
  unfold Books
  rw [List.map_cons, ← bar_tr]
  exact hL.trans ((List.Perm.filter _ h).cons _)
theorem Books.same {L : List Ent} {fs fs' : List Fil} (h : Books L fs) (hp : fs.Perm fs') : Books L fs' := h.trans (hp.map tr)
/-- One file turned, in place: it stands at the head instead. -/
theorem turn_perm {fs : List Fil} (hn : fs.Pairwise (fun f g => f.name ≠ g.name)) {x : ByteArray} {f f' : Fil} (hl : look fs x = some f) : (fs.map fun g => if g.name = x then f' else g).Perm (f' :: outF x fs) := by
  induction fs with
  | nil => simp [look] at hl
  | cons g r ih =>
    obtain ⟨h1, h2⟩ := List.pairwise_cons.1 hn
    unfold look at hl
    rw [List.find?_cons] at hl
    by_cases hg : g.name = x
    · have e1 : (r.map fun g => if g.name = x then f' else g) = r := by
        have h3 : r.map (fun g => if g.name = x then f' else g) = r.map id := List.map_congr_left (fun u hu => by rw [if_neg (fun e => h1 u hu (hg.trans e.symm))]; rfl)
        rw [h3, List.map_id]
      have e2 : outF x (g :: r) = r := by
        unfold outF
        rw [List.filter_cons, if_neg (by simp [hg]), List.filter_eq_self]
        intro u hu
        simp only [Bool.not_eq_true', decide_eq_false_iff_not]
        exact fun e => h1 u hu (hg.trans e.symm)
      rw [List.map_cons, if_pos hg, e1, e2]
    · rw [decide_eq_false hg] at hl
      have e2 : outF x (g :: r) = g :: outF x r := by
        unfold outF
        rw [List.filter_cons, if_pos (by simp [hg])]
      rw [List.map_cons, if_neg hg, e2]
      exact ((ih h2 hl).cons g).trans (List.Perm.swap f' g _)
theorem Books.entry {L : List Ent} {fs : List Fil} (h : Books L fs) {i : Nat} (hi : i < L.length) : ∃ f ∈ fs, L[i] = tr f := by
  have hm : L[i] ∈ fs.map tr := h.mem_iff.1 (List.getElem_mem _)
  obtain ⟨f, hf, e⟩ := List.mem_map.1 hm
  exact ⟨f, hf, e.symm⟩
theorem Books.mem {L : List Ent} {fs : List Fil} (h : Books L fs) {x : ByteArray} : x ∈ n0 L ↔ x ∈ fs.map Fil.name := by
  have h2 : (n0 L).Perm (fs.map Fil.name) := by
    have := n0_perm h
    unfold n0 at this
    rw [List.map_map] at this
    exact this
  exact h2.mem_iff
theorem look_mem_name {fs : List Fil} {x : ByteArray} : x ∈ fs.map Fil.name ↔ (look fs x).isSome = true := by
  unfold look
  rw [List.find?_isSome, List.mem_map]
  constructor
  · rintro ⟨f, hf, e⟩; exact ⟨f, hf, decide_eq_true e⟩
  · rintro ⟨f, hf, e⟩; exact ⟨f, hf, of_decide_eq_true e⟩
/-- The entry of a file. -/
theorem Books.file {L : List Ent} {fs : List Fil} (h : Books L fs) (hn : fs.Pairwise (fun f g => f.name ≠ g.name)) {x : ByteArray} {f : Fil} (hf : look fs x = some f) : ∃ i, ∃ hi : i < L.length, L[i] = tr f ∧ L[i].1 = x ∧ atI (n0 L) x = i := by
  obtain ⟨hfm, hfx⟩ := look_mem hf
  obtain ⟨i, hi, hx, ha⟩ := at_in (h.mem.2 (List.mem_map.2 ⟨f, hfm, hfx⟩))
  have hi' : i < L.length := by unfold n0 at hi; rwa [List.length_map] at hi
  have hx' : L[i].1 = x := by rw [← hx]; simp [n0]
  obtain ⟨g, hg, e⟩ := h.entry hi'
  have hgx : g.name = x := by rw [e] at hx'; exact hx'
  have e2 : look fs g.name = some g := look_of hn hg
  rw [hgx, hf] at e2
  obtain rfl := Option.some.inj e2
  exact ⟨i, hi', e, hx', ha⟩
end Go.Proofs.YtkfehogefclhdaaDoor.Dk

/- The statement's log: set, free, notes, by lists of entries. -/
namespace Go.Proofs.YtkfehogefclhdaaDoor.Dk
open Go.RowKit Go.Maps Go.Proofs.YtkfehogefclhdaaDoorW.PrintWords Go.Proofs.YtkfehogefclhdaaDoorW.PrintMore
variable {w : World} {q base : Nat} {v0 v1 v2 : Value} {L : List Ent}

/-- The log is these entries. -/
abbrev LogIs (w : World) (q base : Nat) (v0 v1 v2 : Value) (L : List Ent) : Prop := Rows w q base v0 v1 v2 (n0 L) (n1 L) (n2 L)
/-- A call has made it these entries, but for their order. -/
def TurnedL (w : World) (q base : Nat) (v0 v1 v2 : Value) (T : List Ent) (w' : World) : Prop := ∃ L', L'.Perm T ∧ Turned w q base v0 v1 v2 (n0 L') (n1 L') (n2 L') w'
theorem n0_len (L : List Ent) : (n0 L).length = L.length := by simp [n0]
theorem n1_len (L : List Ent) : (n1 L).length = L.length := by simp [n1]
theorem n2_len (L : List Ent) : (n2 L).length = L.length := by simp [n2]
theorem n0_get {i : Nat} (hi : i < L.length) (h : i < (n0 L).length) : (n0 L)[i] = L[i].1 := by simp [n0]
theorem n1_get {i : Nat} (hi : i < L.length) (h : i < (n1 L).length) : (n1 L)[i] = L[i].2.1 := by simp [n1]
theorem n2_get {i : Nat} (hi : i < L.length) (h : i < (n2 L).length) : (n2 L)[i] = L[i].2.2 := by simp [n2]
theorem n0_set {i : Nat} (hi : i < L.length) (a s : ByteArray) : n0 (L.set i (L[i].1, a, s)) = n0 L := by
  unfold n0
  rw [List.map_set]
  have h : (L.map fun t => t.1)[i]'(by simp; omega) = L[i].1 := by simp
  rw [← h, List.set_getElem_self]
theorem n1_set (i : Nat) (x a s : ByteArray) : n1 (L.set i (x, a, s)) = (n1 L).set i a := by unfold n1; rw [List.map_set]
theorem n2_set (i : Nat) (x a s : ByteArray) : n2 (L.set i (x, a, s)) = (n2 L).set i s := by unfold n2; rw [List.map_set]
theorem Rows.alloc {l0 l1 l2 : List ByteArray} (h : Rows w q base v0 v1 v2 l0 l1 l2) (o : Obj) : Rows (w.alloc o) q base v0 v1 v2 l0 l1 l2 := h.kept (fun i hi => Below.heap_alloc w o i (h.lt i hi).1)
theorem Turned.before {l0 l1 l2 : List ByteArray} {w1 w' : World} (hb : Below w.heap.size w w1) (h : Turned w1 q base v0 v1 v2 l0 l1 l2 w') : Turned w q base v0 v1 v2 l0 l1 l2 w' := by
  obtain ⟨u0, u1, u2, h1, h2, h3⟩ := h
  refine ⟨u0, u1, u2, h1, Fr.trans (Fr.of_below hb _) (Sub.refl _ _) h2, fun b hb' => ?_⟩
  rcases h3 b hb' with h | h
  · exact .inl h
  · exact .inr (Nat.le_trans hb.size h)
theorem Turned.trans {l0 l1 l2 : List ByteArray} {u0 u1 u2 : Value} {w1 w' : World} (hf : Fr (Fp q v0 v1 v2) w w1) (hs : ∀ b, Fp q u0 u1 u2 b → Fp q v0 v1 v2 b ∨ w.heap.size ≤ b) (h : Turned w1 q base u0 u1 u2 l0 l1 l2 w') : Turned w q base v0 v1 v2 l0 l1 l2 w' := by
  obtain ⟨t0, t1, t2, h1, h2, h3⟩ := h
  exact ⟨t0, t1, t2, h1, Fr.trans hf hs h2, Sub.trans hs hf.size h3⟩
theorem Turned.refl {l0 l1 l2 : List ByteArray} (h : Rows w q base v0 v1 v2 l0 l1 l2) : Turned w q base v0 v1 v2 l0 l1 l2 w := ⟨_, _, _, h, Fr.refl _ _, fun _ h => .inl h⟩
theorem log_at (h : LogIs w q base v0 v1 v2 L) (x : ByteArray) : Calls Tryd.prog 34 #[.pointer (some ⟨q, 0, none⟩), .string x] w fun e w' => e = .returned (.int .i64 (atI (n0 L) x)) ∧ w' = w := at_ok h x
theorem log_set (h : LogIs w q base v0 v1 v2 L) (hn : (n0 L).Nodup) (hlen : L.length ≤ 100000) (x a s : ByteArray) :
    Calls Tryd.prog 70 #[.pointer (some ⟨q, 0, none⟩), .string x, .string a, .string s] w fun e w' => e = .returned (.tuple #[]) ∧ TurnedL w q base v0 v1 v2 ((x, a, s) :: bar x L) w' := by
  by_cases hx : x ∈ n0 L
  · obtain ⟨i, hi, hix, hat⟩ := at_in hx
    have hi' : i < L.length := by rw [← n0_len]; exact hi
    rw [n0_get hi'] at hix
    refine (set_old h (by rw [n1_len, n0_len]) (by rw [n2_len, n0_len]) x a s i hi hat).mono ?_
    rintro e w' ⟨rfl, ht⟩
    refine ⟨rfl, L.set i (x, a, s), ?_, ?_⟩
    · rw [← bar_erase hn hi' hix]
      exact set_perm hi' _
    · have e0 : n0 (L.set i (x, a, s)) = n0 L := by rw [← hix]; exact n0_set hi' a s
      rw [e0, n1_set, n2_set]
      exact ht
  · refine (set_new h (by rw [n0_len]; exact hlen) (by rw [n1_len, n0_len]) (by rw [n2_len, n0_len]) x a s (at_out hx)).mono ?_
    rintro e w' ⟨rfl, ht⟩
    refine ⟨rfl, L ++ [(x, a, s)], ?_, ?_⟩
    · rw [bar_self hx]
      exact List.perm_append_comm
    · have e0 : n0 (L ++ [(x, a, s)]) = n0 L ++ [x] := by simp [n0]
      have e1 : n1 (L ++ [(x, a, s)]) = n1 L ++ [a] := by simp [n1]
      have e2 : n2 (L ++ [(x, a, s)]) = n2 L ++ [s] := by simp [n2]
      rw [e0, e1, e2]
      exact ht
theorem log_free (h : LogIs w q base v0 v1 v2 L) (hn : (n0 L).Nodup) (x : ByteArray) :
    Calls Tryd.prog 72 #[.pointer (some ⟨q, 0, none⟩), .string x] w fun e w' => e = .returned (.tuple #[]) ∧ TurnedL w q base v0 v1 v2 (bar x L) w' := by
  by_cases hx : x ∈ n0 L
  · obtain ⟨i, hi, hix, hat⟩ := at_in hx
    have hi' : i < L.length := by rw [← n0_len]; exact hi
    rw [n0_get hi'] at hix
    obtain ⟨m, hm⟩ : ∃ m, L.length = m + 1 := ⟨L.length - 1, by omega⟩
    have M : m < L.length := by omega
    refine (free_ok h m (by rw [n0_len]; exact M) (by rw [n1_len]; exact M) (by rw [n2_len]; exact M) (by rw [n0_len]; exact hm) (by rw [n1_len]; exact hm) (by rw [n2_len]; exact hm) x i (by omega) hat).mono ?_
    rintro e w' ⟨rfl, ht⟩
    refine ⟨rfl, (L.set i L[m]).take m, ?_, ?_⟩
    · rw [← bar_erase hn hi' hix]
      exact free_perm hm (by omega) M
    · have e0 : n0 ((L.set i L[m]).take m) = ((n0 L).set i ((n0 L)[m]'(by rw [n0_len]; exact M))).take m := by simp [n0, List.map_set]
      have e1 : n1 ((L.set i L[m]).take m) = ((n1 L).set i ((n1 L)[m]'(by rw [n1_len]; exact M))).take m := by simp [n1, List.map_set]
      have e2 : n2 ((L.set i L[m]).take m) = ((n2 L).set i ((n2 L)[m]'(by rw [n2_len]; exact M))).take m := by simp [n2, List.map_set]
      rw [e0, e1, e2]
      exact ht
  · refine (free_none h x (at_out hx)).mono ?_
    rintro e w' ⟨rfl, rfl⟩
    exact ⟨rfl, L, by rw [bar_self hx], Turned.refl h⟩
end Go.Proofs.YtkfehogefclhdaaDoor.Dk

/- notes, by its contract: what an operation that went well makes of the log. -/
namespace Go.Proofs.YtkfehogefclhdaaDoor.Dk
open Go.RowKit Go.Maps Go.Proofs.YtkfehogefclhdaaDoorW.PrintWords Go.Proofs.YtkfehogefclhdaaDoorW.PrintMore
variable {w : World} {q base : Nat} {v0 v1 v2 : Value} {L : List Ent}
abbrev actV (a : Act7) : Value := .agg #[.int .i64 a.kind, .int .i64 a.on, .string a.name, .string a.dest, .string a.data, .int .i64 a.n, a.stops]
abbrev actO (a : Act7) : Obj := Obj.cells #[.int .i64 a.kind, .int .i64 a.on, .string a.name, .string a.dest, .string a.data, .int .i64 a.n, a.stops] 42
theorem TurnedL.before {w1 w' : World} {T : List Ent} (hb : Below w.heap.size w w1) (h : TurnedL w1 q base v0 v1 v2 T w') : TurnedL w q base v0 v1 v2 T w' := by
  obtain ⟨L', h1, h2⟩ := h
  exact ⟨L', h1, h2.before hb⟩
theorem alloc_below (w : World) (o : Obj) : Below w.heap.size w (w.alloc o) := (Below.refl _ _).alloc (Nat.le_refl _) o
set_option maxRecDepth 100000 in
set_option maxHeartbeats 2000000 in
theorem notes_3 (h : LogIs w q base v0 v1 v2 L) (a : Act7) (hk : a.kind = 3) :
    Calls Tryd.prog 35 #[.pointer (some ⟨q, 0, none⟩), actV a] w fun e w' => e = .returned (.tuple #[]) ∧ TurnedL w q base v0 v1 v2 L w' := by
  have h1 := h.alloc (actO a)
  unfold actV
  unfold actO at h1
  rw [hk] at h1 ⊢
  have H1 : Hid _ := h1
  clear h h1 hk
  go_enter Tryd.func35, Tryd.ntmps35
  go_wp2_with (go_at_call 34; refine (log_at H1.out a.name).mono ?_; rintro e w' ⟨rfl, h'⟩; replace h' := h'.symm; subst h')
  go_end0
  exact ⟨rfl, TurnedL.before (alloc_below _ _) ⟨L, .refl _, Turned.refl H1.out⟩⟩
set_option maxRecDepth 100000 in
set_option maxHeartbeats 2000000 in
theorem notes_5 (h : LogIs w q base v0 v1 v2 L) (hn : (n0 L).Nodup) (a : Act7) (hk : a.kind = 5) :
    Calls Tryd.prog 35 #[.pointer (some ⟨q, 0, none⟩), actV a] w fun e w' => e = .returned (.tuple #[]) ∧ TurnedL w q base v0 v1 v2 (bar a.name L) w' := by
  have h1 := h.alloc (actO a)
  unfold actV
  unfold actO at h1
  rw [hk] at h1 ⊢
  have H1 : Hid _ := h1
  have HN : Hid _ := hn
  clear h h1 hk hn
  go_enter Tryd.func35, Tryd.ntmps35
  go_wp2_with (first
    | (go_at_call 34; refine (log_at H1.out a.name).mono ?_; rintro e w' ⟨rfl, h'⟩; replace h' := h'.symm; subst h')
    | (go_at_call 72; refine (log_free H1.out HN.out a.name).mono ?_; rintro e w' ⟨rfl, ht⟩))
  go_end0
  exact ⟨rfl, ht.before (alloc_below _ _)⟩
set_option maxRecDepth 100000 in
set_option maxHeartbeats 2000000 in
theorem notes_1n (h : LogIs w q base v0 v1 v2 L) (hn : (n0 L).Nodup) (hlen : L.length ≤ 100000) (a : Act7) (hk : a.kind = 1) (hx : a.name ∉ n0 L) :
    Calls Tryd.prog 35 #[.pointer (some ⟨q, 0, none⟩), actV a] w fun e w' => e = .returned (.tuple #[]) ∧ TurnedL w q base v0 v1 v2 ((a.name, a.data, ⟨#[]⟩) :: bar a.name L) w' := by
  have h1 := h.alloc (actO a)
  unfold actV
  unfold actO at h1
  rw [hk] at h1 ⊢
  have H1 : Hid _ := h1
  have HN : Hid _ := hn
  have HL : Hid _ := hlen
  have hat := at_out hx
  clear h h1 hk hn hlen hx
  go_enter Tryd.func35, Tryd.ntmps35
  go_wp2_with (first
    | (go_at_call 34; refine (log_at H1.out a.name).mono ?_; rw [hat]; rintro e w' ⟨rfl, h'⟩; replace h' := h'.symm; subst h')
    | (go_at_call 70; refine (log_set H1.out HN.out HL.out a.name a.data ⟨#[]⟩).mono ?_; rintro e w' ⟨rfl, ht⟩))
  refine bodyPost_ret (results_none rfl _ _ _) rfl ?_
  exact ⟨rfl, ht.before (alloc_below _ _)⟩
set_option maxRecDepth 100000 in
set_option maxHeartbeats 2000000 in
theorem notes_4 (h : LogIs w q base v0 v1 v2 L) (hn : (n0 L).Nodup) (hlen : L.length ≤ 100000) (a : Act7) (hk : a.kind = 4) (hne : a.dest ≠ a.name) {i : Nat} (hi : i < L.length) (hix : L[i].1 = a.name) (hat : atI (n0 L) a.name = i) :
    Calls Tryd.prog 35 #[.pointer (some ⟨q, 0, none⟩), actV a] w fun e w' => e = .returned (.tuple #[]) ∧ TurnedL w q base v0 v1 v2 ((a.dest, L[i].2.1, L[i].2.2) :: bar a.dest (bar a.name L)) w' := by
  have h1 := h.alloc (actO a)
  have hbox := blk_new w (actO a)
  unfold actV
  unfold actO at h1 hbox
  rw [hk] at h1 hbox ⊢
  obtain ⟨c0, c1, c2⟩ := h1.cells
  obtain ⟨g1, k1, e1, hk1, _, hc1, _⟩ := own_get h1.o1 i (by rw [n1_len]; exact hi)
  obtain ⟨g2, k2, e2, hk2, _, hc2, _⟩ := own_get h1.o2 i (by rw [n2_len]; exact hi)
  rw [n1_get hi] at hc1
  rw [n2_get hi] at hc2
  have e1' : v1 = .slice (some ⟨g1, 0, none⟩) (n1 L).length k1 := e1
  have e2' : v2 = .slice (some ⟨g2, 0, none⟩) (n2 L).length k2 := e2
  subst e1' e2'
  have hb2 := blk_cell hbox 2
  have hb3 := blk_cell hbox 3
  simp only [List.getElem?_toArray, List.getElem?_cons_zero, List.getElem?_cons_succ] at hb2 hb3
  have hnb : ¬ Fp q v0 (.slice (some ⟨g1, 0, none⟩) (n1 L).length k1) (.slice (some ⟨g2, 0, none⟩) (n2 L).length k2) w.heap.size := fun e => by have := (h.lt _ e).1; omega
  have hneb : (a.dest.toList == a.name.toList) = false := by rw [str_beq]; exact decide_eq_false hne
  have hi1 : (i : Int) < ((n1 L).length : Int) := by rw [n1_len]; omega
  have hi2 : (i : Int) < ((n2 L).length : Int) := by rw [n2_len]; omega
  have hi0 : (0 : Int) ≤ (i : Int) := by omega
  have H1 : Hid _ := h1
  have HN : Hid _ := hn
  have HL : Hid _ := hlen
  have HLT : Hid (i < L.length) := hi
  have HX : Hid _ := hix
  have HNB : Hid _ := hnb
  clear h h1 hk hn hlen e1 e2 hne hix hnb
  go_enter Tryd.func35, Tryd.ntmps35
  go_wp2_with (first
    | (go_at_call 34; refine (log_at H1.out a.name).mono ?_; rw [hat]; rintro e w' ⟨rfl, h'⟩; replace h' := h'.symm; subst h')
    | (go_at_call 72; refine (log_free H1.out HN.out a.name).mono ?_; rintro e w' ⟨rfl, L1, hp1, u0, u1, u2, r1, f1, s1⟩
       have kbox := f1.block w.heap.size (by simp) HNB.out
       have j2 := cell_of hb2 kbox
       have j3 := cell_of hb3 kbox)
    | (go_at_call 70; refine (log_set r1 ((n0_perm hp1).nodup_iff.2 (bar_nodup HN.out)) (by have := hp1.length_eq; have := bar_len a.name L; have := HL.out; omega) a.dest L[i].2.1 L[i].2.2).mono ?_; rintro e w2 ⟨rfl, ht⟩))
  go_end0
  obtain ⟨L2, hp2, ht⟩ := ht
  exact ⟨rfl, TurnedL.before (alloc_below _ _) ⟨L2, hp2.trans ((List.Perm.filter _ hp1).cons _), Turned.trans f1 s1 ht⟩⟩
end Go.Proofs.YtkfehogefclhdaaDoor.Dk

/- notes, by its contract: an entry written over where it stands. -/
namespace Go.Proofs.YtkfehogefclhdaaDoor.Dk
open Go.RowKit Go.Maps Go.Proofs.YtkfehogefclhdaaDoorW.PrintWords Go.Proofs.YtkfehogefclhdaaDoorW.PrintMore
variable {w : World} {q base : Nat} {v0 v1 v2 : Value} {L : List Ent}
theorem n1_set0 {i : Nat} (hi : i < L.length) (s : ByteArray) : n1 (L.set i (L[i].1, L[i].2.1, s)) = n1 L := by
  rw [n1_set]
  have h : (n1 L)[i]'(by rw [n1_len]; exact hi) = L[i].2.1 := n1_get hi _
  rw [← h, List.set_getElem_self]
theorem n2_set0 {i : Nat} (hi : i < L.length) (a : ByteArray) : n2 (L.set i (L[i].1, a, L[i].2.2)) = n2 L := by
  rw [n2_set]
  have h : (n2 L)[i]'(by rw [n2_len]; exact hi) = L[i].2.2 := n2_get hi _
  rw [← h, List.set_getElem_self]
theorem put_entry (hn : (n0 L).Nodup) {i : Nat} (hi : i < L.length) {x : ByteArray} (hx : L[i].1 = x) (t : Ent) : (L.set i t).Perm (t :: bar x L) := by
  rw [← bar_erase hn hi hx]
  exact set_perm hi t
set_option maxRecDepth 100000 in
set_option maxHeartbeats 2000000 in
theorem notes_4s (h : LogIs w q base v0 v1 v2 L) (a : Act7) (hk : a.kind = 4) (he : a.dest = a.name) :
    Calls Tryd.prog 35 #[.pointer (some ⟨q, 0, none⟩), actV a] w fun e w' => e = .returned (.tuple #[]) ∧ TurnedL w q base v0 v1 v2 L w' := by
  have h1 := h.alloc (actO a)
  unfold actV
  unfold actO at h1
  rw [hk] at h1 ⊢
  have hneb : (a.dest.toList == a.name.toList) = true := by rw [str_beq]; exact decide_eq_true he
  have H1 : Hid _ := h1
  clear h h1 hk he
  go_enter Tryd.func35, Tryd.ntmps35
  go_wp2_with (go_at_call 34; refine (log_at H1.out a.name).mono ?_; rintro e w' ⟨rfl, h'⟩; replace h' := h'.symm; subst h')
  go_end0
  exact ⟨rfl, TurnedL.before (alloc_below _ _) ⟨L, .refl _, Turned.refl H1.out⟩⟩
set_option maxRecDepth 100000 in
set_option maxHeartbeats 2000000 in
theorem notes_2 (h : LogIs w q base v0 v1 v2 L) (hn : (n0 L).Nodup) (a : Act7) (hk : a.kind = 2) {i : Nat} (hi : i < L.length) (hix : L[i].1 = a.name) (hat : atI (n0 L) a.name = i) :
    Calls Tryd.prog 35 #[.pointer (some ⟨q, 0, none⟩), actV a] w fun e w' => e = .returned (.tuple #[]) ∧ TurnedL w q base v0 v1 v2 ((a.name, L[i].2.1, L[i].2.1) :: bar a.name L) w' := by
  have h1 := h.alloc (actO a)
  have hbox := blk_new w (actO a)
  unfold actV
  unfold actO at h1 hbox
  rw [hk] at h1 hbox ⊢
  obtain ⟨W1, hW1⟩ : ∃ W, w.alloc (Obj.cells #[.int .i64 2, .int .i64 a.on, .string a.name, .string a.dest, .string a.data, .int .i64 a.n, a.stops] 42) = W := ⟨_, rfl⟩
  rw [hW1] at h1 hbox
  have HW : Hid _ := hW1
  clear hW1
  obtain ⟨c0, c1, c2⟩ := h1.cells
  obtain ⟨g1, k1, e1, hk1, _, hc1, _⟩ := own_get h1.o1 i (by rw [n1_len]; exact hi)
  obtain ⟨g2, k2, e2, hk2, _, hc2, hz2⟩ := own_get h1.o2 i (by rw [n2_len]; exact hi)
  rw [n1_get hi] at hc1
  rw [n2_get hi] at hc2
  have e1' : v1 = .slice (some ⟨g1, 0, none⟩) (n1 L).length k1 := e1
  have e2' : v2 = .slice (some ⟨g2, 0, none⟩) (n2 L).length k2 := e2
  subst e1' e2'
  have hi1 : (i : Int) < ((n1 L).length : Int) := by rw [n1_len]; omega
  have hi2 : (i : Int) < ((n2 L).length : Int) := by rw [n2_len]; omega
  have hi0 : (0 : Int) ≤ (i : Int) := by omega
  have hb0 := blk_cell hbox 0
  have hb2 := blk_cell hbox 2
  have hb4 := blk_cell hbox 4
  have hb5 := blk_cell hbox 5
  simp only [List.getElem?_toArray, List.getElem?_cons_zero, List.getElem?_cons_succ] at hb0 hb2 hb4 hb5
  clear hbox
  have H1 : Hid _ := h1
  have HN : Hid _ := hn
  have HX : Hid _ := hix
  clear h h1 hk hn e1 e2 hix
  go_enter Tryd.func35, Tryd.ntmps35
  go_wp2_with (go_at_call 34; rw [HW.out]; refine (log_at H1.out a.name).mono ?_; rw [hat]; rintro e w' ⟨rfl, h'⟩; replace h' := h'.symm; subst h')
  go_still_tail 13, (by kernel_rfl)
  go_wp2
  go_end0
  have P := H1.out.put2 i L[i].2.1
  refine ⟨rfl, TurnedL.before (w1 := W1) (by rw [← HW.out]; exact alloc_below _ _) ⟨L.set i (L[i].1, L[i].2.1, L[i].2.1), ?_, ?_⟩⟩
  · rw [← HX.out]
    exact put_entry HN.out hi rfl _
  · rw [n0_set hi, n1_set0 hi, n2_set]
    exact ⟨_, _, _, P.1.drew, P.2.drew1, fun b hb => .inl hb⟩
set_option maxRecDepth 100000 in
set_option maxHeartbeats 2000000 in
theorem notes_1o (h : LogIs w q base v0 v1 v2 L) (hn : (n0 L).Nodup) (a : Act7) (hk : a.kind = 1) {i : Nat} (hi : i < L.length) (hix : L[i].1 = a.name) (hat : atI (n0 L) a.name = i) (hsz : L[i].2.1.size + a.data.size ≤ 140737488351232) :
    Calls Tryd.prog 35 #[.pointer (some ⟨q, 0, none⟩), actV a] w fun e w' => e = .returned (.tuple #[]) ∧ TurnedL w q base v0 v1 v2 ((a.name, L[i].2.1 ++ a.data, L[i].2.2) :: bar a.name L) w' := by
  have h1 := h.alloc (actO a)
  have hbox := blk_new w (actO a)
  unfold actV
  unfold actO at h1 hbox
  rw [hk] at h1 hbox ⊢
  obtain ⟨W1, hW1⟩ : ∃ W, w.alloc (Obj.cells #[.int .i64 1, .int .i64 a.on, .string a.name, .string a.dest, .string a.data, .int .i64 a.n, a.stops] 42) = W := ⟨_, rfl⟩
  rw [hW1] at h1 hbox
  have HW : Hid _ := hW1
  clear hW1
  obtain ⟨c0, c1, c2⟩ := h1.cells
  obtain ⟨g1, k1, e1, hk1, _, hc1, hz1⟩ := own_get h1.o1 i (by rw [n1_len]; exact hi)
  rw [n1_get hi] at hc1
  have e1' : v1 = .slice (some ⟨g1, 0, none⟩) (n1 L).length k1 := e1
  subst e1'
  have hi1 : (i : Int) < ((n1 L).length : Int) := by rw [n1_len]; omega
  have hi0 : (0 : Int) ≤ (i : Int) := by omega
  have hib : decide ((i : Int) < 0) = false := decide_eq_false (by omega)
  have hb0 := blk_cell hbox 0
  have hb2 := blk_cell hbox 2
  have hb4 := blk_cell hbox 4
  have hb5 := blk_cell hbox 5
  simp only [List.getElem?_toArray, List.getElem?_cons_zero, List.getElem?_cons_succ] at hb0 hb2 hb4 hb5
  clear hbox
  have hbig : (9223372036854775807 < L[i].2.1.size + a.data.size) = False := eq_false (by omega)
  have hbig2 : ((9223372036854775807 : Int) < (L[i].2.1.size : Int) + (a.data.size : Int)) = False := eq_false (by omega)
  have H1 : Hid _ := h1
  have HN : Hid _ := hn
  have HX : Hid _ := hix
  clear h h1 hk hn e1 hix hsz
  go_enter Tryd.func35, Tryd.ntmps35
  go_wp2_with (go_at_call 34; rw [HW.out]; refine (log_at H1.out a.name).mono ?_; rw [hat]; rintro e w' ⟨rfl, h'⟩; replace h' := h'.symm; subst h')
  go_still_tail 16, (by kernel_rfl)
  go_wp2
  go_end0
  have P := H1.out.put1 i (L[i].2.1 ++ a.data)
  refine ⟨rfl, TurnedL.before (w1 := W1) (by rw [← HW.out]; exact alloc_below _ _) ⟨L.set i (L[i].1, L[i].2.1 ++ a.data, L[i].2.2), ?_, ?_⟩⟩
  · rw [← HX.out]
    exact put_entry HN.out hi rfl _
  · rw [n0_set hi, n2_set0 hi, n1_set]
    exact ⟨_, _, _, P.1.drew, P.2.drew1, fun b hb => .inl hb⟩
set_option maxRecDepth 100000 in
set_option maxHeartbeats 2000000 in
theorem notes_6 (h : LogIs w q base v0 v1 v2 L) (hn : (n0 L).Nodup) (a : Act7) (hk : a.kind = 6) {i : Nat} (hi : i < L.length) (hix : L[i].1 = a.name) (hat : atI (n0 L) a.name = i) (n : Nat) (hnn : a.n = n) (hle : n ≤ L[i].2.1.size) (hsz : L[i].2.1.size ≤ 140737488351232) (hsz2 : L[i].2.2.size ≤ 140737488351232) :
    Calls Tryd.prog 35 #[.pointer (some ⟨q, 0, none⟩), actV a] w fun e w' => e = .returned (.tuple #[]) ∧ TurnedL w q base v0 v1 v2 ((a.name, L[i].2.1.extract 0 n, L[i].2.2.extract 0 (min n L[i].2.2.size)) :: bar a.name L) w' := by
  have h1 := h.alloc (actO a)
  have hbox := blk_new w (actO a)
  unfold actV
  unfold actO at h1 hbox
  rw [hk, hnn] at h1 hbox ⊢
  obtain ⟨W1, hW1⟩ : ∃ W, w.alloc (Obj.cells #[.int .i64 6, .int .i64 a.on, .string a.name, .string a.dest, .string a.data, .int .i64 (n : Int), a.stops] 42) = W := ⟨_, rfl⟩
  rw [hW1] at h1 hbox
  have HW : Hid _ := hW1
  clear hW1
  obtain ⟨c0, c1, c2⟩ := h1.cells
  obtain ⟨g1, k1, e1, hk1, _, hc1, hz1⟩ := own_get h1.o1 i (by rw [n1_len]; exact hi)
  obtain ⟨g2, k2, e2, hk2, _, hc2, hz2⟩ := own_get h1.o2 i (by rw [n2_len]; exact hi)
  rw [n1_get hi] at hc1
  rw [n2_get hi] at hc2
  have e1' : v1 = .slice (some ⟨g1, 0, none⟩) (n1 L).length k1 := e1
  have e2' : v2 = .slice (some ⟨g2, 0, none⟩) (n2 L).length k2 := e2
  subst e1' e2'
  have hi1 : (i : Int) < ((n1 L).length : Int) := by rw [n1_len]; omega
  have hi2 : (i : Int) < ((n2 L).length : Int) := by rw [n2_len]; omega
  have hi0 : (0 : Int) ≤ (i : Int) := by omega
  have hb0 := blk_cell hbox 0
  have hb2 := blk_cell hbox 2
  have hb5 := blk_cell hbox 5
  simp only [List.getElem?_toArray, List.getElem?_cons_zero, List.getElem?_cons_succ] at hb0 hb2 hb5
  clear hbox
  have hnle : (n : Int) ≤ (L[i].2.1.size : Int) := by omega
  have hn0' : (0 : Int) ≤ (n : Int) := by omega
  have H1 : Hid _ := h1
  have HN : Hid _ := hn
  have HX : Hid _ := hix
  have HGB : Hid (w.heap.size ≠ g1) := fun e => by have := (h.lt g1 (.inr (.inr (.inl rfl)))).1; omega
  clear h h1 hk hn e1 e2 hix hnn
  go_enter Tryd.func35, Tryd.ntmps35
  go_wp2_with (go_at_call 34; rw [HW.out]; refine (log_at H1.out a.name).mono ?_; rw [hat]; rintro e w' ⟨rfl, h'⟩; replace h' := h'.symm; subst h')
  go_still_tail 16, (by kernel_rfl)
  go_wp2
  have P2 := H1.out.put1 i (L[i].2.1.extract 0 n)
  have P2R := P2.1.drew
  have P2F := P2.2.drew1
  have i0 := cell_of hb0 (Below.heap_setCell W1 ⟨g1, i, none⟩ (Value.string (L[i].2.1.extract 0 n)) w.heap.size HGB.out)
  have i2 := cell_of hb2 (Below.heap_setCell W1 ⟨g1, i, none⟩ (Value.string (L[i].2.1.extract 0 n)) w.heap.size HGB.out)
  have i5 := cell_of hb5 (Below.heap_setCell W1 ⟨g1, i, none⟩ (Value.string (L[i].2.1.extract 0 n)) w.heap.size HGB.out)
  obtain ⟨W2, hW2⟩ : ∃ W, (W1.setCell ⟨g1, i, none⟩ (.string (L[i].2.1.extract 0 n))).drew = W := ⟨_, rfl⟩
  replace i0 : W2.cell? ⟨w.heap.size, 0, none⟩ = some (.int .i64 6) := by rw [← hW2]; exact i0
  replace i2 : W2.cell? ⟨w.heap.size, 2, none⟩ = some (.string a.name) := by rw [← hW2]; exact i2
  replace i5 : W2.cell? ⟨w.heap.size, 5, none⟩ = some (.int .i64 (n : Int)) := by rw [← hW2]; exact i5
  rw [hW2] at P2R P2F ⊢
  have R2 : Hid _ := P2R
  have F2 : Hid _ := P2F
  obtain ⟨d0, d1, d2⟩ := R2.out.cells
  obtain ⟨g2', k2', ee, _, _, hcc, hzz⟩ := own_get R2.out.o2 i (by rw [n2_len]; exact hi)
  rw [n2_get hi] at hcc
  cases ee
  obtain ⟨mm, hmm⟩ : ∃ mm, min n L[i].2.2.size = mm := ⟨_, rfl⟩
  have hmin : (if (L[i].2.2.size : Int) < (n : Int) then (L[i].2.2.size : Int) else (n : Int)) = (mm : Int) := by rw [← hmm]; split <;> omega
  have hmin2 : min (n : Int) (L[i].2.2.size : Int) = (mm : Int) := by omega
  have hmle : (mm : Int) ≤ (L[i].2.2.size : Int) := by omega
  have hmm0 : (0 : Int) ≤ (mm : Int) := by omega
  have HMM : Hid _ := hmm
  clear P2 P2R P2F hW2 hmm hc1 hc2 hz1 hz2 hb0 hb2 hb5
  go_still_tail 25, (by kernel_rfl)
  go_wp2
  go_end0
  rw [HMM.out]
  have P3 := R2.out.put2 i (L[i].2.2.extract 0 mm)
  refine ⟨rfl, TurnedL.before (w1 := W1) (by rw [← HW.out]; exact alloc_below _ _) ⟨L.set i (L[i].1, L[i].2.1.extract 0 n, L[i].2.2.extract 0 mm), ?_, ?_⟩⟩
  · rw [← HX.out]
    exact put_entry HN.out hi rfl _
  · rw [n0_set hi, n1_set, n2_set]
    exact ⟨_, _, _, P3.1.drew, (Fr.trans F2.out (Sub.refl _ _) P3.2).drew1, fun b hb => .inl hb⟩
end Go.Proofs.YtkfehogefclhdaaDoor.Dk

/- notes keeps the books: an act that went well, and the log of it. -/
namespace Go.Proofs.YtkfehogefclhdaaDoor.Dk
open Go.RowKit Go.Maps Go.Proofs.YtkfehogefclhdaaDoorW.PrintWords Go.Proofs.YtkfehogefclhdaaDoorW.PrintMore
variable {w : World} {q base : Nat} {v0 v1 v2 : Value} {L : List Ent} {s : St}
theorem ext_nil (b : ByteArray) (i : Nat) : b.extract i i = ⟨#[]⟩ := by
  apply ByteArray.ext
  simp
theorem outF_self {fs : List Fil} {x : ByteArray} (h : look fs x = none) : outF x fs = fs := by
  unfold outF
  rw [List.filter_eq_self]
  intro u hu
  unfold look at h
  rw [List.find?_eq_none] at h
  simpa using h u hu
theorem same_file {fs : List Fil} (hn : fs.Pairwise (fun f g => f.name ≠ g.name)) {x : ByteArray} {f g : Fil} (hl : look fs x = some f) (hg : g ∈ fs) (hx : g.name = x) : g = f := by
  have h := look_of hn hg
  rw [hx, hl] at h
  exact (Option.some.inj h).symm
theorem put_map {fs : List Fil} (hn : fs.Pairwise (fun f g => f.name ≠ g.name)) {x : ByteArray} {f : Fil} (hl : look fs x = some f) (b : ByteArray) : putB x b fs = fs.map fun g => if g.name = x then { f with bytes := b } else g := by
  unfold putB
  refine List.map_congr_left (fun g hg => ?_)
  by_cases hx : g.name = x
  · rw [if_pos hx, if_pos hx, same_file hn hl hg hx]
  · rw [if_neg hx, if_neg hx]
theorem head_perm {fs : List Fil} (hn : fs.Pairwise (fun f g => f.name ≠ g.name)) {x : ByteArray} {f : Fil} (hl : look fs x = some f) : fs.Perm (f :: outF x fs) := by
  have h := turn_perm hn (f' := f) hl
  have e : (fs.map fun g => if g.name = x then f else g) = fs := by
    have h3 : fs.map (fun g => if g.name = x then f else g) = fs.map id := List.map_congr_left (fun g hg => by
      by_cases hx : g.name = x
      · rw [if_pos hx, same_file hn hl hg hx]; rfl
      · rw [if_neg hx]; rfl)
    rw [h3, List.map_id]
  rw [e] at h
  exact h
/-- The log's bytes are no longer than the disk's. -/
theorem entry_size {f : Fil} : (tr f).2.1 = f.bytes ∧ (tr f).2.2 = f.bytes.extract 0 f.dur := ⟨rfl, rfl⟩
theorem bytes_used {fs : List Fil} {f : Fil} (hf : f ∈ fs) : f.bytes.size ≤ used fs := by
  unfold used
  induction fs with
  | nil => cases hf
  | cons g r ih =>
    rw [List.map_cons, List.sum_cons]
    rcases List.mem_cons.1 hf with rfl | h
    · omega
    · have := ih h; omega
theorem there_some {fs : List Fil} {x : ByteArray} (h : thereC fs x = 0) : nameB x = true ∧ ∃ f, look fs x = some f := by
  unfold thereC at h
  split at h
  · rename_i hx
    refine ⟨hx, ?_⟩
    cases hl : look fs x with
    | none => rw [hl] at h; simp at h
    | some f => exact ⟨f, rfl⟩
  · cases h
theorem notes_ok (h : LogIs w q base v0 v1 v2 L) (hb : Books L s.fs) (hn : s.fs.Pairwise (fun f g => f.name ≠ g.name)) (hlen : L.length ≤ 100000) (hdur : ∀ f ∈ s.fs, f.dur ≤ f.bytes.size) (hroom : (used s.fs : Int) ≤ 1048576)
    (a : Act7) (hk1 : 1 ≤ a.kind) (hk6 : a.kind ≤ 6) (hc : actC s a = 0) {fs' : List Fil} (hW : actW s a fs') (hd : a.kind = 1 → a.data.size ≤ 140737487302656) :
    Calls Tryd.prog 35 #[.pointer (some ⟨q, 0, none⟩), actV a] w fun e w' => e = .returned (.tuple #[]) ∧ ∃ L', Books L' fs' ∧ L'.length ≤ L.length + 1 ∧ Turned w q base v0 v1 v2 (n0 L') (n1 L') (n2 L') w' := by
  have hnd := hb.nodup hn
  have hk : a.kind = 1 ∨ a.kind = 2 ∨ a.kind = 3 ∨ a.kind = 4 ∨ a.kind = 5 ∨ a.kind = 6 := by omega
  rcases hk with hk | hk | hk | hk | hk | hk
  · rw [actW_1 hk] at hW
    unfold AppF at hW
    cases hl : look s.fs a.name with
    | none =>
      rw [hl] at hW
      obtain ⟨b, rfl⟩ := hW
      have hx : a.name ∉ n0 L := fun hm => by
        have := look_mem_name.1 (hb.mem.1 hm)
        rw [hl] at this; cases this
      refine (notes_1n h hnd hlen a hk hx).mono ?_
      rintro e w' ⟨rfl, L', hp, ht⟩
      refine ⟨rfl, L', ?_, by have := hp.length_eq; have := bar_len a.name L; simp at *; omega, ht⟩
      have e1 : tr ⟨a.name, b, cutD a.data a.data.size, 0⟩ = (a.name, a.data, ⟨#[]⟩) := by unfold tr; rw [cut_all, ext_nil]
      rw [← e1] at hp
      have := hb.put hp
      rwa [outF_self hl] at this
    | some f =>
      rw [hl] at hW
      have hW' : fs' = putB a.name (f.bytes ++ cutD a.data a.data.size) s.fs := hW
      subst hW'
      rw [cut_all, put_map hn hl]
      obtain ⟨i, hi, e1, e2, hat⟩ := hb.file hn hl
      obtain ⟨hfm, hfx⟩ := look_mem hl
      have hsz : L[i].2.1.size + a.data.size ≤ 140737488351232 := by
        rw [e1]; have := bytes_used hfm; have := hd hk; show f.bytes.size + _ ≤ _; omega
      refine (notes_1o h hnd a hk hi e2 hat hsz).mono ?_
      rintro e w' ⟨rfl, L', hp, ht⟩
      refine ⟨rfl, L', ?_, by have := hp.length_eq; have := bar_len a.name L; simp at *; omega, ht⟩
      have e3 : tr { f with bytes := f.bytes ++ a.data } = (a.name, L[i].2.1 ++ a.data, L[i].2.2) := by
        rw [e1]
        unfold tr
        have hd := hdur f hfm
        show (f.name, f.bytes ++ a.data, (f.bytes ++ a.data).extract 0 f.dur) = (a.name, f.bytes ++ a.data, f.bytes.extract 0 f.dur)
        rw [hfx, ByteArray.extract_append, show f.dur - f.bytes.size = 0 by omega, show 0 - f.bytes.size = 0 by omega, ext_nil]
        have e0 : (⟨#[]⟩ : ByteArray) = ByteArray.empty := rfl
        rw [e0, ByteArray.append_empty]
      rw [← e3] at hp
      exact (hb.put hp).same (turn_perm hn hl).symm
  · rw [actW_2 hk] at hW
    obtain ⟨f, hl, rfl⟩ := hW
    obtain ⟨i, hi, e1, e2, hat⟩ := hb.file hn hl
    obtain ⟨hfm, hfx⟩ := look_mem hl
    refine (notes_2 h hnd a hk hi e2 hat).mono ?_
    rintro e w' ⟨rfl, L', hp, ht⟩
    refine ⟨rfl, L', ?_, by have := hp.length_eq; have := bar_len a.name L; simp at *; omega, ht⟩
    have e3 : tr (syncFil f) = (a.name, L[i].2.1, L[i].2.1) := by
      rw [e1]
      show (f.name, f.bytes, f.bytes.extract 0 f.bytes.size) = (a.name, f.bytes, f.bytes)
      rw [hfx, ByteArray.extract_zero_size]
    rw [← e3] at hp
    exact (hb.put hp).same (turn_perm hn hl).symm
  · rw [actW_3 hk] at hW
    have hW' : fs' = s.fs := hW
    subst hW'
    refine (notes_3 h a hk).mono ?_
    rintro e w' ⟨rfl, L', hp, ht⟩
    exact ⟨rfl, L', hp.trans hb, by have := hp.length_eq; omega, ht⟩
  · rw [actW_4 hk] at hW
    obtain ⟨f, hl, rfl⟩ := hW
    obtain ⟨i, hi, e1, e2, hat⟩ := hb.file hn hl
    obtain ⟨hfm, hfx⟩ := look_mem hl
    by_cases hne : a.dest = a.name
    · refine (notes_4s h a hk hne).mono ?_
      rintro e w' ⟨rfl, L', hp, ht⟩
      refine ⟨rfl, L', ?_, by have := hp.length_eq; omega, ht⟩
      have hb2 : Books L' s.fs := hp.trans hb
      refine hb2.same ?_
      have e3 : ({ f with name := a.dest } : Fil) = f := by rw [hne, ← hfx]
      have e4 : outF a.dest (outF a.name s.fs) = outF a.name s.fs := by rw [hne]; exact outF_self (look_out_same a.name s.fs)
      rw [e3, e4]
      exact head_perm hn hl
    · refine (notes_4 h hnd hlen a hk hne hi e2 hat).mono ?_
      rintro e w' ⟨rfl, L', hp, ht⟩
      refine ⟨rfl, L', ?_, by have := hp.length_eq; have := bar_len a.name L; have := bar_len a.dest (bar a.name L); simp at *; omega, ht⟩
      have hb2 : Books (bar a.name L) (outF a.name s.fs) := hb.free (.refl _)
      have e3 : tr { f with name := a.dest } = (a.dest, L[i].2.1, L[i].2.2) := by rw [e1]; rfl
      rw [← e3] at hp
      exact hb2.put hp
  · rw [actW_5 hk] at hW
    have hW' : fs' = outF a.name s.fs := hW
    subst hW'
    refine (notes_5 h hnd a hk).mono ?_
    rintro e w' ⟨rfl, L', hp, ht⟩
    exact ⟨rfl, L', hb.free hp, by have := hp.length_eq; have := bar_len a.name L; omega, ht⟩
  · rw [actW_6 hk] at hW
    obtain ⟨f, hl, rfl⟩ := hW
    obtain ⟨i, hi, e1, e2, hat⟩ := hb.file hn hl
    obtain ⟨hfm, hfx⟩ := look_mem hl
    have hc6 : truC s.fs a.name a.n = 0 := by unfold actC at hc; rwa [if_neg (by omega), if_neg (by omega), if_pos hk] at hc
    have hnn : 0 ≤ a.n ∧ a.n ≤ f.bytes.size := by
      unfold truC at hc6
      split at hc6
      · rename_i hne; exact absurd hc6 hne
      · split at hc6
        · cases hc6
        · rename_i hz
          unfold sizeF at hz
          rw [hl] at hz
          simp at hz
          omega
    obtain ⟨n, hn2⟩ : ∃ n : Nat, a.n = n := ⟨a.n.toNat, by omega⟩
    have hle : n ≤ L[i].2.1.size := by rw [e1]; show n ≤ f.bytes.size; omega
    have hu := bytes_used hfm
    have hd := hdur f hfm
    have es : L[i].2.2.size = f.dur := by rw [e1]; show (f.bytes.extract 0 f.dur).size = _; rw [ByteArray.size_extract]; omega
    refine (notes_6 h hnd a hk hi e2 hat n hn2 hle (by rw [e1]; show f.bytes.size ≤ _; omega) (by rw [es]; omega)).mono ?_
    rintro e w' ⟨rfl, L', hp, ht⟩
    refine ⟨rfl, L', ?_, by have := hp.length_eq; have := bar_len a.name L; simp at *; omega, ht⟩
    have e3 : tr (cutFil f a.n.toNat) = (a.name, L[i].2.1.extract 0 n, L[i].2.2.extract 0 (min n L[i].2.2.size)) := by
      rw [es, e1, hn2, Int.toNat_natCast]
      show (f.name, f.bytes.extract 0 n, (f.bytes.extract 0 n).extract 0 (min f.dur n)) = (a.name, f.bytes.extract 0 n, (f.bytes.extract 0 f.dur).extract 0 (min n f.dur))
      rw [hfx, ByteArray.extract_extract, ByteArray.extract_extract]
      simp only [Nat.zero_add]
      rw [show min (min f.dur n) n = min (min n f.dur) f.dur by omega]
    rw [← e3] at hp
    exact (hb.put hp).same (turn_perm hn hl).symm
end Go.Proofs.YtkfehogefclhdaaDoor.Dk

/- A disk that lives beside what others write; Plan of nothing; Peek. -/
namespace Go.Proofs.YtkfehogefclhdaaDoor.Dk
open Go.RowKit Go.Maps Go.Proofs.YtkfehogefclhdaaDoorW.PrintWords Go.Proofs.YtkfehogefclhdaaDoorW.PrintMore
variable {N : Nat} {w w' : World} {p : Nat} {F : Nat → Prop} {s : St} {m : Nat} {pv : Value} {B : Nat} {a0 a1 a2 a3 a4 : Addr} {K G G' : Nat → Prop}

/-- Others write what is theirs. -/
theorem Live.turn (h : Live B N w p K s a0 a1 a2 a3 a4) (hf : Fr G w w') (hG : ∀ i, G i → K i) (hGB : ∀ i, G i → B ≤ i) (hn : ∀ i, G' i → G i ∨ w.heap.size ≤ i) (hlt : ∀ i, G' i → i < w'.heap.size) : Live B N w' p (fun i => K i ∨ G' i) s a0 a1 a2 a3 a4 ∧ Below B w w' := by
  obtain ⟨F, m, pv, h1, h2, h3, h4, h5⟩ := h
  have hb : Below B w w' := hf.below hGB h5
  refine ⟨⟨F, m, pv, h1.fr hf (fun i hi e => (h2 i hi).2 (hG i e)), fun i hi => ⟨(h2 i hi).1, fun e => ?_⟩, fun i hi => ?_, h4.below hb, Nat.le_trans h5 hf.size⟩, hb⟩
  · rcases e with e | e
    · exact (h2 i hi).2 e
    · rcases hn i e with e | e
      · exact (h2 i hi).2 (hG i e)
      · have := h1.low i hi; omega
  · rcases hi with hi | hi
    · exact Nat.lt_of_lt_of_le (h3 i hi) hf.size
    · exact hlt i hi
theorem plan_none (h : Live B N w p K s a0 a1 a2 a3 a4) : Calls Tryd.prog 14 #[.pointer (some ⟨p, 0, none⟩), .slice none 0 0] w fun e w' => e = .returned (.tuple #[]) ∧ Live B N w' p K { s with plan := [], since := 0 } a0 a1 a2 a3 a4 ∧ Step B K w w' := by
  have hp := plan_live h [] (G := fun _ => False) (A := none) (c := 0) ⟨none, 0, rfl, Nat.le_refl _, by omega, fun i x hx => by simp at hx⟩ (fun i hi => hi.elim) (by simp)
  exact hp
set_option maxRecDepth 100000 in
theorem peek_some (h : Is N w p F s m pv) (x : ByteArray) (hx : x.size ≤ maxLen) {f : Fil} (hl : look s.fs x = some f) : Calls Tryd.prog 36 #[.pointer (some ⟨p, 0, none⟩), .string x] w fun e w' => e = .returned (.tuple #[.string f.bytes, .bool true]) ∧ w' = w := by
  obtain ⟨c0, c1, c2, c3, c4, c5⟩ := h.cells
  have hk := look_run h.files hx
  unfold at' at hk; rw [hl] at hk; simp only [Option.map_some, ptr] at hk
  have b0 := blk_cell (h.each f (look_mem hl).1) 0
  simp only [List.getElem?_toArray, List.getElem?_cons_zero] at b0
  go_enter Tryd.func36, Tryd.ntmps36
  go_wp2_with (go_at_call 50; refine (none_ok h).mono ?_; rintro e w' ⟨rfl, rfl⟩)
  go_ret2
  exact ⟨rfl, rfl⟩
theorem peek_live (h : Live B N w p K s a0 a1 a2 a3 a4) (x : ByteArray) (hx : x.size ≤ maxLen) {f : Fil} (hl : look s.fs x = some f) : Calls Tryd.prog 36 #[.pointer (some ⟨p, 0, none⟩), .string x] w fun e w' => e = .returned (.tuple #[.string f.bytes, .bool true]) ∧ w' = w := by
  obtain ⟨F, m, pv, h1, _⟩ := h
  exact peek_some h1 x hx hl
/-- A file's name and bytes, as one that reads it back logs it. -/
def entOf (fs : List Fil) (x : ByteArray) : Ent := match look fs x with | none => (x, ⟨#[]⟩, ⟨#[]⟩) | some f => (x, f.bytes, f.bytes)
theorem entOf_name (fs : List Fil) (x : ByteArray) : (entOf fs x).1 = x := by unfold entOf; cases look fs x <;> rfl
/-- Which names the operation under way has to do with. -/
def Named (a : Act7) (x : ByteArray) : Prop := x = a.name ∨ (a.kind = 4 ∧ x = a.dest)
/-- What is there behind a stop, beside what was logged ahead of it. -/
structure Stood (L : List Ent) (fs : List Fil) (a : Act7) : Prop where
  files : ∀ f ∈ fs, ¬ Named a f.name → ∃ t ∈ L, t.1 = f.name ∧ (∃ r, f.bytes = t.2.2 ++ r) ∧ (∃ r, t.2.1 = f.bytes ++ r)
  logged : ∀ t ∈ L, ¬ Named a t.1 → ∃ f ∈ fs, f.name = t.1
/-- begins, of a beginning. -/
theorem begins_yes {x y r : ByteArray} (h : y = x ++ r) : PDl.postbaglaw9_begins.f x y = some true := by
  subst h
  unfold PDl.postbaglaw9_begins.f
  rw [if_pos (by rw [ByteArray.size_append]; omega), if_pos (by omega)]
  rw [Int.toNat_natCast, ByteArray.extract_append_eq_left rfl]
  simp
theorem begins_run {x y r : ByteArray} (h : y = x ++ r) (w : World) : Calls Tryd.prog 71 #[.string x, .string y] w fun e w' => e = .returned (.bool true) ∧ Drawn0 w w' := PDl.postbaglaw9_begins.calls x y true w (begins_yes h)
end Go.Proofs.YtkfehogefclhdaaDoor.Dk

/- reads, by its contract: behind a stop all that was synced is there, then a beginning of the rest. -/
namespace Go.Proofs.YtkfehogefclhdaaDoor.Dk
open Go.RowKit Go.Maps Go.Proofs.YtkfehogefclhdaaDoorW.PrintWords Go.Proofs.YtkfehogefclhdaaDoorW.PrintMore
variable {N n : Nat} {w : World} {p q base : Nat} {s : St} {v0 v1 v2 : Value} {L : List Ent} {B : Nat} {a0 a1 a2 a3 a4 : Addr} {K : Nat → Prop}

/-- The middle of the first loop: so many names have been read into the fresh log. -/
structure RMid (B : Nat) (W0 : World) (p qf : Nat) (a0 a1 a2 a3 a4 : Addr) (Kb : Nat → Prop) (s0 : St) (ns : List ByteArray) (n j N : Nat) (s : St) (u0 u1 u2 : Value) (Lf : List Ent) (wr : World) : Prop where
  live : Live B N wr p (fun i => Kb i ∨ Fp qf u0 u1 u2 i) s a0 a1 a2 a3 a4
  log : LogIs wr qf qf u0 u1 u2 Lf
  ents : Lf.Perm ((ns.take j).map (entOf s0.fs))
  fs : s.fs = s0.fs
  run : s.run = true
  plan : s.plan = []
  quo : s.quota = s0.quota
  few : Few (n + j) s
  kept : ∀ i, Kb i → wr.heap[i]? = W0.heap[i]?
  below : Below B W0 wr
  sub : ∀ i, Fp qf u0 u1 u2 i → qf ≤ i
theorem name_len (x : ByteArray) : ∀ (k : Nat) (i : Int), PNm.disk_isName.l0 k x (x.size : Int) i = some true → x.size ≤ 32 := by
  intro k
  induction k with
  | zero => intro i h; simp [PNm.disk_isName.l0] at h
  | succ k ih =>
    intro i h
    simp only [PNm.disk_isName.l0] at h
    repeat' split at h
    all_goals first
      | exact ih _ h
      | (cases h; done)
      | (simp at h; omega)
      | omega
theorem name_small {x : ByteArray} (h : nameB x = true) : x.size ≤ 140737488351232 := by
  unfold nameB at h
  split at h
  · rename_i hk
    obtain ⟨k, hk⟩ := hk
    have := name_len x k 0 hk
    omega
  · cases h
theorem ents_names {Lf : List Ent} {l : List ByteArray} {fs : List Fil} (h : Lf.Perm (l.map (entOf fs))) : (n0 Lf).Perm l := by
  have h2 := n0_perm h
  have e : n0 (l.map (entOf fs)) = l := by
    unfold n0
    rw [List.map_map]
    have : l.map ((fun t : Ent => t.1) ∘ entOf fs) = l.map id := List.map_congr_left (fun x _ => entOf_name fs x)
    rw [this, List.map_id]
  rwa [e] at h2
theorem rise_nodup {ns : List ByteArray} (h : ns.Pairwise (fun x y => x.data.toList < y.data.toList)) : ns.Nodup := h.imp (fun {a b} h e => by rw [e] at h; exact List.lt_irrefl _ h)
theorem take_not {ns : List ByteArray} (h : ns.Nodup) {j : Nat} (hj : j < ns.length) : ns[j] ∉ ns.take j := by
  intro hm
  obtain ⟨i, hi, e⟩ := List.mem_iff_getElem.1 hm
  rw [List.getElem_take] at e
  rw [List.length_take] at hi
  have := (List.getElem_inj h).1 e
  omega
theorem take_perm {ns : List ByteArray} {j : Nat} (hj : j < ns.length) (g : ByteArray → Ent) {Lf L9 : List Ent} (h : Lf.Perm ((ns.take j).map g)) (h9 : L9.Perm (g ns[j] :: Lf)) : L9.Perm ((ns.take (j + 1)).map g) := by
  rw [List.take_add_one, List.getElem?_eq_getElem hj, List.map_append]
  exact (h9.trans (h.cons _)).trans (by simpa using (List.perm_append_comm (l₁ := [g ns[j]]) (l₂ := (ns.take j).map g)))
theorem RMid.move {W0 wr w1 : World} {qf : Nat} {Kb : Nat → Prop} {s0 : St} {ns : List ByteArray} {j : Nat} {u0 u1 u2 : Value} {Lf : List Ent} (h : RMid B W0 p qf a0 a1 a2 a3 a4 Kb s0 ns n j N s u0 u1 u2 Lf wr) (hb : Below wr.heap.size wr w1) : RMid B W0 p qf a0 a1 a2 a3 a4 Kb s0 ns n j N s u0 u1 u2 Lf w1 := by
  obtain ⟨l, st⟩ := h.live.drift hb
  exact ⟨l, h.log.kept (fun i hi => hb.block i (h.log.lt i hi).1), h.ents, h.fs, h.run, h.plan, h.quo, h.few, fun i hi => (hb.block i (h.live.kept i (.inl hi))).trans (h.kept i hi), h.below.trans st.below, h.sub⟩
theorem ent_uniq {L : List Ent} (hn : (n0 L).Nodup) {i : Nat} (hi : i < L.length) {t : Ent} (ht : t ∈ L) (he : L[i].1 = t.1) : L[i] = t := by
  obtain ⟨k, hk, rfl⟩ := List.mem_iff_getElem.1 ht
  have h1 : (n0 L)[i]'(by rw [n0_len]; exact hi) = (n0 L)[k]'(by rw [n0_len]; exact hk) := by rw [n0_get hi, n0_get hk]; exact he
  have := (List.getElem_inj hn).1 h1
  subst this
  rfl
theorem nil_own (k : Nat) : (Value.slice none 0 0).ownBlock ≠ some k := fun e => by cases e
theorem fp_nil {qf i : Nat} (h : Fp qf (.slice none 0 0) (.slice none 0 0) (.slice none 0 0) i) : i = qf := by
  rcases h with h | h | h | h
  · exact h
  · exact (nil_own _ h).elim
  · exact (nil_own _ h).elim
  · exact (nil_own _ h).elim
set_option maxRecDepth 100000 in
set_option maxHeartbeats 2000000 in
theorem reads_ok (h : Live B N w p K s a0 a1 a2 a3 a4) (hN : N + s.fs.length ≤ 900000) (hr : s.run = true) (hp : s.plan = []) (hfew : Few n s) (hn : n + s.fs.length ≤ 900000) (hfl : s.fs.length ≤ 90000) (hnm : ∀ f ∈ s.fs, nameB f.name = true)
    (hlog : LogIs w q base v0 v1 v2 L) (hnd : (n0 L).Nodup) (hbB : B ≤ base) (hKl : ∀ i, Fp q v0 v1 v2 i → K i) (a : Act7) (hst : Stood L s.fs a) :
    Calls Tryd.prog 33 #[.pointer (some ⟨q, 0, none⟩), .pointer (some ⟨p, 0, none⟩), actV a] w fun e w' => e = .returned (.bool true) ∧ ∃ N' s' u0 u1 u2 Lf, Live B N' w' p (fun i => K i ∨ Fp q u0 u1 u2 i) s' a0 a1 a2 a3 a4 ∧ N' ≤ N + s.fs.length ∧ s'.fs = s.fs ∧ s'.run = true ∧ s'.plan = [] ∧ s'.quota = s.quota ∧ Few (n + s.fs.length) s' ∧
      LogIs w' q base u0 u1 u2 Lf ∧ Lf.Perm (s.fs.map fun f => (f.name, f.bytes, f.bytes)) ∧ Below B w w' ∧ (∀ i, K i → ¬ Fp q v0 v1 v2 i → w'.heap[i]? = w.heap[i]?) := by
  have hnot := not_run
  have hif := isIface25
  obtain ⟨l1, st1⟩ := h.drift (alloc_below w (actO a))
  have hbox := blk_new w (actO a)
  unfold actV
  unfold actO at l1 st1 hbox
  replace l1 := l1.add hbox (by decide)
  obtain ⟨W1, hW1⟩ : ∃ W, w.alloc (Obj.cells #[.int .i64 a.kind, .int .i64 a.on, .string a.name, .string a.dest, .string a.data, .int .i64 a.n, a.stops] 42) = W := ⟨_, rfl⟩
  rw [hW1] at l1 st1 hbox
  have HW : Hid _ := hW1
  have HLOG : Hid (LogIs w q base v0 v1 v2 L) := hlog
  have HST : Hid _ := hst
  have HH : Hid _ := h
  have HFEW : Hid _ := hfew
  have HKL : Hid _ := hKl
  have HRP : Hid _ := (⟨hr, hp⟩ : s.run = true ∧ s.plan = [])
  have HND : Hid _ := hnd
  clear hW1 hlog hst h hfew hKl hr hp hnd
  go_enter Tryd.func33, Tryd.ntmps33
  go_wp2_with (go_at_call 37; rw [HW.out]; refine (names_live l1 (by omega)).mono ?_; rintro e w7 ⟨v7, rfl, hR7, l7, st7⟩)
  -- where the first loop begins
  obtain ⟨A7, c7, e7, hc7, hC7⟩ := Kd.R_reads hR7
  have hfrs := blk_new w7 (Obj.cells #[.slice none 0 0, .slice none 0 0, .slice none 0 0] 55)
  obtain ⟨l0, st0⟩ := l7.drift (alloc_below w7 (Obj.cells #[.slice none 0 0, .slice none 0 0, .slice none 0 0] 55))
  replace l0 := l0.add hfrs (by decide)
  have hbox0 := (st0.kept _ (.inl (.inr rfl))).trans ((st7.kept _ (.inr rfl)).trans hbox)
  have hlog0 : LogIs _ q base v0 v1 v2 L := HLOG.out.kept (fun i hi => (st0.kept i (.inl (.inl (HKL.out i hi)))).trans ((st7.kept i (.inl (HKL.out i hi))).trans (st1.kept i (HKL.out i hi))))
  have hR0 := Kd.R_step hR7 (w1 := w7.alloc (Obj.cells #[.slice none 0 0, .slice none 0 0, .slice none 0 0] 55)) (fun i hi _ => st0.kept i (.inr hi))
  have hb0 : Below B w (w7.alloc (Obj.cells #[.slice none 0 0, .slice none 0 0, .slice none 0 0] 55)) := (st1.below.trans st7.below).trans st0.below
  have hk0 : ∀ i, K i → (w7.alloc (Obj.cells #[.slice none 0 0, .slice none 0 0, .slice none 0 0] 55)).heap[i]? = w.heap[i]? := fun i hi => (st0.kept i (.inl (.inl hi))).trans ((st7.kept i (.inl hi)).trans (st1.kept i hi))
  have hKb := l7.kept
  obtain ⟨qf, hqf⟩ : ∃ qf, w7.heap.size = qf := ⟨_, rfl⟩
  obtain ⟨W0, hW0⟩ : ∃ W, w7.alloc (Obj.cells #[.slice none 0 0, .slice none 0 0, .slice none 0 0] 55) = W := ⟨_, rfl⟩
  rw [hqf] at hfrs hKb l0
  rw [hW0] at hfrs l0 hbox0 hlog0 hR0 hb0 hk0
  rw [hqf, hW0]
  have hrow0 : Rows W0 qf qf (.slice none 0 0) (.slice none 0 0) (.slice none 0 0) [] [] [] := ⟨hfrs, own_nil _ _ _ _, own_nil _ _ _ _, own_nil _ _ _ _, fun k e => (nil_own k e).elim, fun k e => (nil_own k e).elim, fun k e => (nil_own k e).elim, Nat.le_refl _⟩
  obtain ⟨ns, hns⟩ : ∃ ns, nmB s.fs = ns := ⟨_, rfl⟩
  have hrise := nmB_rise l0.names
  have hnml := l0.nameLen
  have hperm := nmB_perm s.fs
  have hnlen := nmB_len s.fs
  rw [hns] at hrise hnml hperm hnlen hR0 hC7 hc7 e7
  have hmid0 : RMid B W0 p qf a0 a1 a2 a3 a4 (fun i => (K i ∨ i = w.heap.size) ∨ v7.ownBlock = some i) s ns n 0 N s (.slice none 0 0) (.slice none 0 0) (.slice none 0 0) [] W0 :=
    ⟨l0.less (fun i hi => hi.imp id fp_nil), hrow0, .refl _, rfl, HRP.out.1, HRP.out.2, rfl, HFEW.out, fun _ _ => rfl, Below.refl _ _, fun i hi => Nat.le_of_eq (fp_nil hi).symm⟩
  subst e7
  have HM0 : Hid _ := hmid0
  have HBOX : Hid _ := hbox0
  have HLOG0 : Hid (LogIs W0 q base v0 v1 v2 L) := hlog0
  have HR0 : Hid _ := hR0
  have HB0 : Hid _ := hb0
  have HK0 : Hid _ := hk0
  have HKB : Hid _ := hKb
  have HBQ : Hid (B ≤ qf) := by rw [← hqf]; exact l7.base
  have HRISE : Hid _ := hrise
  have HNML : Hid _ := hnml
  have HPERM : Hid _ := hperm
  have HNLEN : Hid _ := hnlen
  have HNM : Hid _ := hnm
  clear hmid0 hbox0 hlog0 hR0 hb0 hk0 hKb hrise hnml hperm hnlen hnm hrow0 hfrs l0 st0 l7 st7 hR7 hC7 st1 l1 hbox hqf hW0 hns HLOG HW
  go_loopw [9] (fun vi wr => ∃ (j N' : Nat) (s' : St) (u0 u1 u2 : Value) (Lf : List Ent), j ≤ ns.length ∧ N' ≤ N + j ∧ vi = .int .i64 j ∧ RMid B W0 p qf a0 a1 a2 a3 a4 (fun i => (K i ∨ i = w.heap.size) ∨ (Value.slice A7 ns.length c7).ownBlock = some i) s ns n j N' s' u0 u1 u2 Lf wr) (fun vi _ => ns.length - (intOf vi).toNat)
  case atStart => exact ⟨0, N, s, _, _, _, [], Nat.zero_le _, Nat.le_refl _, rfl, HM0.out⟩
  case round =>
    obtain ⟨j, N', s', u0, u1, u2, Lf, hj, hN', rfl, hmid⟩ := hrel
    have HMID : Hid _ := hmid
    clear hmid HM0
    by_cases hlt : j < ns.length
    · obtain ⟨g7, hA7, hcj⟩ := row_str (Kd.R_step HR0.out (w1 := wr) (fun i hi _ => HMID.out.kept i (.inr hi))) j hlt
      subst hA7
      have hl1 : decide ((j : Int) < (ns.length : Int)) = true := decide_eq_true (by omega)
      have hjn : (j : Int) < (ns.length : Int) := by omega
      have hj0 : (0 : Int) ≤ (j : Int) := by omega
      have hjm : (j : Int) < 9223372036854775807 := by have := HNLEN.out; omega
      obtain ⟨f, hfm, hfx⟩ := List.mem_map.1 (HPERM.out.mem_iff.1 (List.getElem_mem hlt))
      have hlook : look s.fs ns[j] = some f := by rw [← hfx]; exact look_of (Live.names HH.out) hfm
      have hnl : ns[j].size ≤ 140737488351232 := by rw [← hfx]; exact name_small (HNM.out f hfm)
      have HF : Hid _ := (⟨hfm, hfx, hlook⟩ : f ∈ s.fs ∧ f.name = ns[j] ∧ look s.fs ns[j] = some f)
      clear hfm hfx hlook
      go_wp2_with fail
      refine (read_live HMID.out.live (Few.small (n := n + j) HMID.out.few (by have := HNLEN.out; omega)) ns[j] hnl).mono ?_
      rintro e w8 ⟨v, r, rfl, hdid, told⟩
      obtain ⟨rfl, fs8, hfs8, l8, st8⟩ := hdid.calm HMID.out.run HMID.out.plan (there_code0 (by rw [← HF.out.2.1]; exact HNM.out f HF.out.1) (by rw [HMID.out.fs]; exact HF.out.2.2))
      obtain ⟨f8, hf8, rfl⟩ := told.1 rfl
      rw [HMID.out.fs, HF.out.2.2] at hf8
      obtain rfl := Option.some.inj hf8
      have hlog8 : LogIs w8 qf qf u0 u1 u2 Lf := HMID.out.log.kept (fun i hi => st8.kept i (.inr hi))
      have hcj8 := cell_of hcj (st8.kept g7 (.inl (.inr rfl)))
      clear hdid told hf8 hcj
      go_wp2_with fail
      have hpn := ents_names HMID.out.ents
      have hnn := rise_nodup HRISE.out
      have hnot9 : ns[j] ∉ n0 Lf := fun hm => take_not hnn hlt (hpn.mem_iff.1 hm)
      have hlen9 : Lf.length ≤ 100000 := by
        have e1 := HMID.out.ents.length_eq
        rw [List.length_map, List.length_take] at e1
        have := HNLEN.out
        omega
      have hset := log_set hlog8 (hpn.nodup_iff.2 (List.Nodup.sublist (List.take_sublist _ _) hnn)) hlen9 ns[j] f.bytes f.bytes
      rw [bar_self hnot9] at hset
      refine hset.mono ?_
      rintro e w9 ⟨rfl, L9, hp9, y0, y1, y2, r9, f9, s9⟩
      have hB8 : B ≤ qf := HBQ.out
      have hent : entOf s.fs ns[j] = (ns[j], f.bytes, f.bytes) := by unfold entOf; rw [HF.out.2.2]
      rw [← hent] at hp9
      have hlt9 : ∀ i, Fp qf y0 y1 y2 i → i < w9.heap.size ∧ qf ≤ i := r9.lt
      have hk9 : ∀ i, ((K i ∨ i = w.heap.size) ∨ (Value.slice (some ⟨g7, 0, none⟩) ns.length c7).ownBlock = some i) → w9.heap[i]? = W0.heap[i]? := fun i hi => by
        have h8 : i < w8.heap.size := l8.kept i (.inl hi)
        have hq8 := HKB.out i hi
        exact (f9.block i h8 (fun e => by have := HMID.out.sub i e; omega)).trans ((st8.kept i (.inl hi)).trans (HMID.out.kept i hi))
      obtain ⟨l9, hb9⟩ := l8.turn f9 (fun i hi => .inr hi) (fun i hi => Nat.le_trans hB8 (HMID.out.sub i hi)) s9 (fun i hi => (hlt9 i hi).1)
      have hmid9 : RMid B W0 p qf a0 a1 a2 a3 a4 (fun i => (K i ∨ i = w.heap.size) ∨ (Value.slice (some ⟨g7, 0, none⟩) ns.length c7).ownBlock = some i) s ns n (j + 1) (N' + 1) { s'.tick with fs := fs8 } y0 y1 y2 L9 w9 :=
        ⟨l9.less (fun i hi => hi.imp .inl id), r9, take_perm hlt _ HMID.out.ents hp9, hfs8.trans HMID.out.fs, HMID.out.run, HMID.out.plan, HMID.out.quo, HMID.out.few.tick.fs _, hk9, HMID.out.below.trans (st8.below.trans hb9), fun i hi => (hlt9 i hi).2⟩
      have hlog9 : LogIs w9 q base v0 v1 v2 L := HLOG0.out.kept (fun i hi => hk9 i (.inl (.inl (HKL.out i hi))))
      have hcj9 := cell_of hcj8 ((hk9 g7 (.inr rfl)).trans ((st8.kept g7 (.inl (.inr rfl))).trans (HMID.out.kept g7 (.inr rfl))).symm)
      have hbox9 := (hk9 w.heap.size (.inl (.inr rfl))).trans HBOX.out
      have b0 := blk_cell hbox9 0
      have b2 := blk_cell hbox9 2
      have b3 := blk_cell hbox9 3
      simp only [List.getElem?_toArray, List.getElem?_cons_zero, List.getElem?_cons_succ] at b0 b2 b3
      have HM9 : Hid _ := hmid9
      have HL9 : Hid (LogIs w9 q base v0 v1 v2 L) := hlog9
      clear hset hpn hnn hnot9 hlen9 hB8 hent hp9 hlt9 hk9 l9 hb9 hmid9 hlog9 hbox9 hcj8 l8 st8 f9 s9 r9 hlog8
      go_wp2_with fail
      refine (log_at HL9.out ns[j]).mono ?_
      rintro e w10 ⟨rfl, h10⟩
      replace h10 := h10.symm
      subst h10
      by_cases e1 : ns[j] = a.name
      · have e1b : (ns[j].toList == a.name.toList) = true := by rw [str_beq]; exact decide_eq_true e1
        clear e1
        go_wp2_with fail
        go_quiet (fail)
        go_wp2_with fail
        exact ⟨⟨j + 1, N' + 1, _, y0, y1, y2, L9, by omega, by omega, by simp, RMid.move HM9.out (pw_below_drewN (Below.refl _ _) nq)⟩, by simp only [intOf]; omega⟩
      · have e1b : (ns[j].toList == a.name.toList) = false := by rw [str_beq]; exact decide_eq_false e1
        by_cases e4 : a.kind = 4 ∧ ns[j] = a.dest
        · have e4b : (a.kind == 4) = true := beq_iff_eq.2 e4.1
          have e5b : (ns[j].toList == a.dest.toList) = true := by rw [str_beq]; exact decide_eq_true e4.2
          clear e1 e4
          go_wp2_with fail
          go_quiet (fail)
          go_wp2_with fail
          exact ⟨⟨j + 1, N' + 1, _, y0, y1, y2, L9, by omega, by omega, by simp, RMid.move HM9.out (pw_below_drewN (Below.refl _ _) nq)⟩, by simp only [intOf]; omega⟩
        · have hnamed : ¬ Named a f.name := fun hh => by
            rw [HF.out.2.1] at hh
            rcases hh with hh | hh
            · exact e1 hh
            · exact e4 hh
          obtain ⟨t, htL, htn, ⟨r1, hr1⟩, ⟨r2, hr2⟩⟩ := HST.out.files f HF.out.1 hnamed
          obtain ⟨i, hi, hix, hat⟩ := at_in (List.mem_map.2 ⟨t, htL, htn.trans HF.out.2.1⟩ : ns[j] ∈ n0 L)
          have hi' : i < L.length := by rw [← n0_len]; exact hi
          replace hix : L[i].1 = ns[j] := by rw [← hix]; simp [n0]
          have hti : L[i] = t := ent_uniq HND.out hi' htL (hix.trans (htn.trans HF.out.2.1).symm)
          obtain ⟨g1, k1, e11, hk1, _, hc1, _⟩ := own_get HL9.out.o1 i (by rw [n1_len]; exact hi')
          obtain ⟨g2, k2, e12, hk2, _, hc2, _⟩ := own_get HL9.out.o2 i (by rw [n2_len]; exact hi')
          rw [n1_get hi', hti] at hc1
          rw [n2_get hi', hti] at hc2
          have c1 := HL9.out.cells.2.1
          have c2 := HL9.out.cells.2.2
          rw [e11] at c1
          rw [e12] at c2
          have hib : decide ((i : Int) < 0) = false := decide_eq_false (by omega)
          have hi1 : (i : Int) < ((n1 L).length : Int) := by rw [n1_len]; omega
          have hi2 : (i : Int) < ((n2 L).length : Int) := by rw [n2_len]; omega
          have hi0 : (0 : Int) ≤ (i : Int) := by omega
          have HR1 : Hid _ := hr1
          have HR2 : Hid _ := hr2
          have hcase : (a.kind == 4) = false ∨ ((a.kind == 4) = true ∧ (ns[j].toList == a.dest.toList) = false) := by
            by_cases e6 : a.kind = 4
            · exact .inr ⟨beq_iff_eq.2 e6, by rw [str_beq]; exact decide_eq_false (fun e7 => e4 ⟨e6, e7⟩)⟩
            · exact .inl (beq_eq_false_iff_ne.2 e6)
          have hat2 : atI (n0 L) ns[j] = (i : Int) := hat
          rw [hat2]
          clear hat hat2 e1 e4 hnamed hr1 hr2 e11 e12 hti hix htL htn hi
          rcases hcase with e6 | ⟨e6, e7⟩
          all_goals go_wp2_with fail
          all_goals go_quiet (fail)
          all_goals go_wp2_with fail
          all_goals refine (begins_run HR1.out _).mono ?_
          all_goals rintro e w11 ⟨rfl, ⟨⟨m11, rfl⟩⟩⟩
          all_goals go_wp2_with fail
          all_goals refine (begins_run HR2.out _).mono ?_
          all_goals rintro e w12 ⟨rfl, ⟨⟨m12, rfl⟩⟩⟩
          all_goals go_wp2_with fail
          all_goals exact ⟨⟨j + 1, N' + 1, _, y0, y1, y2, L9, by omega, by omega, by simp, RMid.move HM9.out (pw_below_drewN (Below.refl _ _) _)⟩, by simp only [intOf]; omega⟩
    · have hje : j = ns.length := by omega
      subst hje
      have hl1 : decide ((ns.length : Int) < (ns.length : Int)) = false := decide_eq_false (by omega)
      have hlogr : LogIs wr q base v0 v1 v2 L := HLOG0.out.kept (fun i hi => HMID.out.kept i (.inl (.inl (HKL.out i hi))))
      have hboxr := (HMID.out.kept w.heap.size (.inl (.inr rfl))).trans HBOX.out
      obtain ⟨A0, k0, e10, hl0⟩ := rows_shape hlogr.o0
      have c0 := hlogr.cells.1
      rw [e10] at c0
      have HLR : Hid (LogIs wr q base v0 v1 v2 L) := hlogr
      have HBR : Hid _ := hboxr
      have HE10 : Hid _ := e10
      have HL0 : Hid _ := hl0
      have hpn := ents_names HMID.out.ents
      rw [List.take_length] at hpn
      have HPN : Hid _ := hpn
      clear hlogr hboxr e10 hl0 hpn
      go_wp2_with fail
      go_loopw [13] (fun vi wx => ∃ k : Nat, k ≤ L.length ∧ vi = .int .i64 k ∧ Below wr.heap.size wr wx) (fun vi _ => L.length - (intOf vi).toNat)
      case atStart => exact ⟨0, Nat.zero_le _, rfl, Below.refl _ _⟩
      case round =>
        obtain ⟨k, hk, rfl, hbx⟩ := hrel
        have hrow := Rows.kept HLR.out (w1 := wr) (fun i hi => hbx.block i (Rows.lt HLR.out i hi).1)
        have hfro := HMID.out.log.kept (w1 := wr) (fun i hi => hbx.block i (HMID.out.log.lt i hi).1)
        have hboxx := (hbx.block w.heap.size (blk_lt HBR.out)).trans HBR.out
        have d0 := hrow.cells.1
        rw [HE10.out] at d0
        by_cases hlt2 : k < L.length
        · obtain ⟨g0, kk, e, _, _, hck, _⟩ := own_get hrow.o0 k (by rw [n0_len]; exact hlt2)
          rw [n0_get hlt2] at hck
          obtain rfl : A0 = some ⟨g0, 0, none⟩ := by have h_ := HE10.out.symm.trans e; injection h_
          have b0 := blk_cell hboxx 0
          have b2 := blk_cell hboxx 2
          have b3 := blk_cell hboxx 3
          simp only [List.getElem?_toArray, List.getElem?_cons_zero, List.getElem?_cons_succ] at b0 b2 b3
          have hk1 : decide ((k : Int) < ((n0 L).length : Int)) = true := decide_eq_true (by rw [n0_len]; omega)
          have hk2 : (k : Int) < ((n0 L).length : Int) := by rw [n0_len]; omega
          have hk0 : (0 : Int) ≤ (k : Int) := by omega
          have hkm : (k : Int) < 9223372036854775807 := by have := HL0.out; rw [n0_len] at this; omega
          have HFRO : Hid _ := hfro
          clear hboxx hrow hfro e
          by_cases e1 : L[k].1 = a.name
          · have e1b : (L[k].1.toList == a.name.toList) = true := by rw [str_beq]; exact decide_eq_true e1
            clear e1
            go_wp2_with fail
            go_quiet (fail)
            go_wp2_with fail
            exact ⟨⟨k + 1, by omega, by simp, pw_below_drewN hbx nq⟩, by simp only [intOf]; omega⟩
          · have e1b : (L[k].1.toList == a.name.toList) = false := by rw [str_beq]; exact decide_eq_false e1
            by_cases e4 : a.kind = 4 ∧ L[k].1 = a.dest
            · have e4b : (a.kind == 4) = true := beq_iff_eq.2 e4.1
              have e5b : (L[k].1.toList == a.dest.toList) = true := by rw [str_beq]; exact decide_eq_true e4.2
              clear e1 e4
              go_wp2_with fail
              go_quiet (fail)
              go_wp2_with fail
              exact ⟨⟨k + 1, by omega, by simp, pw_below_drewN hbx nq⟩, by simp only [intOf]; omega⟩
            · have hnamed : ¬ Named a L[k].1 := fun hh => by
                rcases hh with hh | hh
                · exact e1 hh
                · exact e4 hh
              obtain ⟨f, hfm, hfx⟩ := HST.out.logged L[k] (List.getElem_mem hlt2) hnamed
              have hin : L[k].1 ∈ n0 Lf := HPN.out.mem_iff.2 (HPERM.out.mem_iff.2 (List.mem_map.2 ⟨f, hfm, hfx⟩))
              obtain ⟨i2, hi2, hix2, hat⟩ := at_in hin
              have hib : decide ((i2 : Int) < 0) = false := decide_eq_false (by omega)
              have HAT : Hid (atI (n0 Lf) L[k].1 = (i2 : Int)) := hat
              have hcase : (a.kind == 4) = false ∨ ((a.kind == 4) = true ∧ (L[k].1.toList == a.dest.toList) = false) := by
                by_cases e6 : a.kind = 4
                · exact .inr ⟨beq_iff_eq.2 e6, by rw [str_beq]; exact decide_eq_false (fun e7 => e4 ⟨e6, e7⟩)⟩
                · exact .inl (beq_eq_false_iff_ne.2 e6)
              clear hix2 hat e1 e4 hnamed hfm hfx hin hi2
              rcases hcase with e6 | ⟨e6, e7⟩
              all_goals go_wp2_with fail
              all_goals go_quiet (fail)
              all_goals go_wp2_with fail
              all_goals refine (log_at (HFRO.out.kept (w1 := wr.drewN nq) (fun _ _ => rfl)) L[k].1).mono ?_
              all_goals rw [HAT.out]
              all_goals rintro e w10 ⟨rfl, h10⟩
              all_goals replace h10 := h10.symm
              all_goals subst h10
              all_goals go_wp2_with fail
              all_goals exact ⟨⟨k + 1, by omega, by simp, pw_below_drewN hbx nq⟩, by simp only [intOf]; omega⟩
        · have hk1 : decide ((k : Int) < ((n0 L).length : Int)) = false := decide_eq_false (by rw [n0_len]; omega)
          have hk3 : ¬ (k : Int) < ((n0 L).length : Int) := by rw [n0_len]; omega
          obtain ⟨B0, t0, x0, _⟩ := rows_shape hfro.o0
          obtain ⟨B1, t1, x1, _⟩ := rows_shape hfro.o1
          obtain ⟨B2, t2, x2, _⟩ := rows_shape hfro.o2
          subst x0 x1 x2
          obtain ⟨f0, f1, f2⟩ := hfro.cells
          have HROW : Hid _ := hrow
          have HFRO : Hid _ := hfro
          have HBX : Hid _ := hbx
          have fz := blk_frozen hrow.top
          have d1 := hrow.cells.2.1
          have d2 := hrow.cells.2.2
          clear hrow hfro hbx hboxx hlt2
          go_wp2_with fail
          go_ret
          have R := RMid.move HMID.out HBX.out
          have hqK : K q := HKL.out q (.inl rfl)
          have hqlt : q < qf := HKB.out q (.inl (.inl hqK))
          have hlow := (Rows.low HLR.out)
          have hbq : base ≤ qf := by omega
          have hf1 : Fr (fun i => i = q) wr (((wr.setCell ⟨q, 0, none⟩ (.slice B0 (n0 Lf).length t0)).setCell ⟨q, 1, none⟩ (.slice B1 (n1 Lf).length t1)).setCell ⟨q, 2, none⟩ (.slice B2 (n2 Lf).length t2)) :=
            (((Fr.refl (fun i => i = q) wr).set (a := ⟨q, 0, none⟩) rfl _).set (a := ⟨q, 1, none⟩) rfl _).set (a := ⟨q, 2, none⟩) rfl _
          have hne : ∀ {v : Value} {l : List ByteArray}, wr.ownsRow qf 9 1 v l.length (sv l) → some q ≠ v.ownBlock := fun ho e => by have := own_base ho q e.symm; omega
          have hown : ∀ {v : Value} {l : List ByteArray}, wr.ownsRow qf 9 1 v l.length (sv l) → (((wr.setCell ⟨q, 0, none⟩ (.slice B0 (n0 Lf).length t0)).setCell ⟨q, 1, none⟩ (.slice B1 (n1 Lf).length t1)).setCell ⟨q, 2, none⟩ (.slice B2 (n2 Lf).length t2)).ownsRow base 9 1 v l.length (sv l) := fun ho =>
            own_weaken (own_setCell (p := ⟨q, 2, none⟩) (own_setCell (p := ⟨q, 1, none⟩) (own_setCell (p := ⟨q, 0, none⟩) ho (hne ho) _) (hne ho) _) (hne ho) _) hbq
          obtain ⟨lT, hbT⟩ := R.live.turn hf1 (G' := fun _ => False) (fun i hi => by rw [hi]; exact .inl (.inl (.inl hqK))) (fun i hi => by rw [hi]; omega) (fun i hi => hi.elim) (fun i hi => hi.elim)
          have hents : Lf.Perm (s.fs.map fun f => (f.name, f.bytes, f.bytes)) := by
            have e1 := R.ents
            rw [List.take_length] at e1
            refine e1.trans ((HPERM.out.map _).trans ?_)
            rw [List.map_map]
            have e2 : s.fs.map (entOf s.fs ∘ Fil.name) = s.fs.map (fun f => (f.name, f.bytes, f.bytes)) := List.map_congr_left (fun f hf => by
              show entOf s.fs f.name = _
              unfold entOf
              rw [look_of (Live.names HH.out) hf])
            rw [e2]
          refine ⟨rfl, N', s', _, _, _, ?_, by have := HNLEN.out; omega, R.fs, R.run, R.plan, R.quo, by rw [← HNLEN.out]; exact R.few, Lf, ⟨blk_set (blk_set (blk_set HROW.out.top 0 _) 1 _) 2 _, hown HFRO.out.o0, hown HFRO.out.o1, hown HFRO.out.o2, HFRO.out.a01, HFRO.out.a02, HFRO.out.a12, hlow⟩, hents, (HB0.out.trans R.below).trans hbT, fun i hi hnf => ?_⟩
          · refine lT.less (fun i hi => .inl ?_)
            rcases hi with hi | rfl | hi | hi | hi
            · exact .inl (.inl (.inl hi))
            · exact .inl (.inl (.inl hqK))
            · exact .inr (.inr (.inl hi))
            · exact .inr (.inr (.inr (.inl hi)))
            · exact .inr (.inr (.inr (.inr hi)))
          · have hiq : i ≠ q := fun e => hnf (.inl e)
            exact (hf1.block i (R.live.kept i (.inl (.inl (.inl hi)))) hiq).trans ((R.kept i (.inl (.inl hi))).trans (HK0.out i hi))
end Go.Proofs.YtkfehogefclhdaaDoor.Dk

/- What an act leaves of the files, and of the books, behind a stop: plain laws. -/
namespace Go.Proofs.YtkfehogefclhdaaDoor.Dk
open Go.RowKit Go.Maps Go.Proofs.YtkfehogefclhdaaDoorW.PrintWords Go.Proofs.YtkfehogefclhdaaDoorW.PrintMore
variable {N : Nat} {w : World} {p : Nat} {s : St} {B : Nat} {a0 a1 a2 a3 a4 : Addr} {K : Nat → Prop}
theorem Live.durs (h : Live B N w p K s a0 a1 a2 a3 a4) : ∀ f ∈ s.fs, f.dur ≤ f.bytes.size := by obtain ⟨F, m, pv, h1, _⟩ := h; exact h1.durs
/-- All files have names that may be. -/
def Nmd (fs : List Fil) : Prop := ∀ f ∈ fs, nameB f.name = true
/-- What the act did not name is as it was. -/
structure Others (a : Act7) (fs fs' : List Fil) : Prop where
  back : ∀ f ∈ fs', ¬ Named a f.name → f ∈ fs
  on : ∀ f ∈ fs, ¬ Named a f.name → f ∈ fs'
  nmd : Nmd fs → Nmd fs'
  len : fs'.length ≤ fs.length + 1
theorem Others.refl (a : Act7) (fs : List Fil) : Others a fs fs := ⟨fun _ h _ => h, fun _ h _ => h, fun h => h, by omega⟩
theorem out_mem {x : ByteArray} {fs : List Fil} {f : Fil} : f ∈ outF x fs ↔ f ∈ fs ∧ f.name ≠ x := by
  unfold outF
  rw [List.mem_filter]
  simp
theorem set_mem {x : ByteArray} {f' : Fil} {fs : List Fil} {g : Fil} (h : g ∈ setF x f' fs) : g = f' ∨ (g ∈ fs ∧ g.name ≠ x) := by
  unfold setF at h
  obtain ⟨u, hu, e⟩ := List.mem_map.1 h
  by_cases hx : u.name = x
  · rw [if_pos hx] at e; exact .inl e.symm
  · rw [if_neg hx] at e; exact .inr ⟨e ▸ hu, by rw [← e]; exact hx⟩
theorem set_on {x : ByteArray} {f' : Fil} {fs : List Fil} {g : Fil} (hg : g ∈ fs) (hx : g.name ≠ x) : g ∈ setF x f' fs := by
  unfold setF
  exact List.mem_map.2 ⟨g, hg, if_neg hx⟩
theorem others_set {a : Act7} {fs : List Fil} {f f' : Fil} (hl : look fs a.name = some f) (hn : f'.name = f.name) : Others a fs (setF a.name f' fs) where
  back := fun g hg hng => by
    rcases set_mem hg with rfl | h
    · exact absurd (.inl (hn.trans (look_mem hl).2)) hng
    · exact h.1
  on := fun g hg hng => set_on hg (fun e => hng (.inl e))
  nmd := fun h g hg => by
    rcases set_mem hg with rfl | h2
    · rw [hn]; exact h f (look_mem hl).1
    · exact h g h2.1
  len := by unfold setF; rw [List.length_map]; omega
theorem others_app {s : St} {a : Act7} {n : Int} {fs' : List Fil} (hc : appC s a.name a.data = 0) (h : AppF s.fs a.name a.data n fs') : Others a s.fs fs' := by
  have hnb : nameB a.name = true := by
    unfold appC at hc
    split at hc
    · assumption
    · cases hc
  unfold AppF at h
  cases hl : look s.fs a.name with
  | none =>
    rw [hl] at h
    obtain ⟨b, rfl⟩ := h
    exact ⟨fun f hf hng => by
      rcases List.mem_cons.1 hf with rfl | hf
      · exact absurd (.inl rfl) hng
      · exact hf, fun f hf _ => List.mem_cons_of_mem _ hf, fun h f hf => by
      rcases List.mem_cons.1 hf with rfl | hf
      · exact hnb
      · exact h f hf, by simp⟩
  | some f =>
    rw [hl] at h
    have h' : fs' = putB a.name (f.bytes ++ cutD a.data n) s.fs := h
    subst h'
    refine ⟨fun g hg hng => ?_, fun g hg hng => ?_, fun h g hg => ?_, ?_⟩
    · unfold putB at hg
      obtain ⟨u, hu, e⟩ := List.mem_map.1 hg
      by_cases hx : u.name = a.name
      · rw [if_pos hx] at e
        exact absurd (.inl (by rw [← e]; exact hx)) hng
      · rw [if_neg hx] at e; exact e ▸ hu
    · unfold putB
      exact List.mem_map.2 ⟨g, hg, if_neg (fun e => hng (.inl e))⟩
    · unfold putB at hg
      obtain ⟨u, hu, e⟩ := List.mem_map.1 hg
      have hu' := h u hu
      by_cases hx : u.name = a.name
      · rw [if_pos hx] at e; rw [← e]; exact hu'
      · rw [if_neg hx] at e; rw [← e]; exact hu'
    · unfold putB; rw [List.length_map]; omega
theorem others_act {a : Act7} {fs' : List Fil} (h1 : 1 ≤ a.kind) (h6 : a.kind ≤ 6) (hc : actC s a = 0) (h : actW s a fs') : Others a s.fs fs' := by
  have hk : a.kind = 1 ∨ a.kind = 2 ∨ a.kind = 3 ∨ a.kind = 4 ∨ a.kind = 5 ∨ a.kind = 6 := by omega
  rcases hk with hk | hk | hk | hk | hk | hk
  · rw [actW_1 hk] at h
    have hc1 : appC s a.name a.data = 0 := by unfold actC at hc; rwa [if_pos hk] at hc
    exact others_app hc1 h
  · rw [actW_2 hk] at h
    obtain ⟨f, hl, rfl⟩ := h
    exact others_set hl rfl
  · rw [actW_3 hk] at h
    have h' : fs' = s.fs := h
    subst h'
    exact Others.refl _ _
  · rw [actW_4 hk] at h
    obtain ⟨f, hl, rfl⟩ := h
    have hc4 : renC s.fs a.name a.dest = 0 := by unfold actC at hc; rwa [if_neg (by omega), if_pos hk] at hc
    have hnb : nameB a.dest = true := by
      unfold renC at hc4
      split at hc4
      · rename_i hh; exact hh.2
      · cases hc4
    refine ⟨fun g hg hng => ?_, fun g hg hng => ?_, fun hh g hg => ?_, ?_⟩
    · rcases List.mem_cons.1 hg with rfl | hg
      · exact absurd (.inr ⟨hk, rfl⟩) hng
      · exact (out_mem.1 (out_mem.1 hg).1).1
    · exact List.mem_cons_of_mem _ (out_mem.2 ⟨out_mem.2 ⟨hg, fun e => hng (.inl e)⟩, fun e => hng (.inr ⟨hk, e⟩)⟩)
    · rcases List.mem_cons.1 hg with rfl | hg
      · exact hnb
      · exact hh g (out_mem.1 (out_mem.1 hg).1).1
    · have e1 : (outF a.dest (outF a.name s.fs)).length ≤ s.fs.length := Nat.le_trans (List.length_filter_le _ _) (List.length_filter_le _ _)
      simp; omega
  · rw [actW_5 hk] at h
    have h' : fs' = outF a.name s.fs := h
    subst h'
    exact ⟨fun g hg _ => (out_mem.1 hg).1, fun g hg hng => out_mem.2 ⟨hg, fun e => hng (.inl e)⟩, fun hh g hg => hh g (out_mem.1 hg).1, by have : (outF a.name s.fs).length ≤ s.fs.length := List.length_filter_le _ _; omega⟩
  · rw [actW_6 hk] at h
    obtain ⟨f, hl, rfl⟩ := h
    exact others_set hl rfl
theorem others_part {a : Act7} {n : Int} {fs' : List Fil} (h1 : 1 ≤ a.kind) (h6 : a.kind ≤ 6) (hc : actC s a = 0) (h : actP s a n fs') : Others a s.fs fs' := by
  by_cases hk1 : a.kind = 1
  · rw [actP_1 hk1] at h
    have hc1 : appC s a.name a.data = 0 := by unfold actC at hc; rwa [if_pos hk1] at hc
    exact others_app hc1 h
  · by_cases hk3 : a.kind = 3
    · rw [actP_3 hk3] at h
      have h' : fs' = s.fs := h
      subst h'
      exact Others.refl _ _
    · rw [actP_o hk1 hk3] at h
      unfold orF at h
      split at h
      · exact others_act h1 h6 hc h
      · subst h; exact Others.refl _ _
theorem ext_split (b : ByteArray) {i j : Nat} (hij : i ≤ j) (hj : j ≤ b.size) : b.extract 0 j = b.extract 0 i ++ b.extract i j := by
  have h := @ByteArray.extract_eq_extract_append_extract b 0 j i (Nat.zero_le _) hij
  exact h
theorem stop_dur {r : Int} {f : Fil} (h : f.dur ≤ f.bytes.size) : (stopF r f).dur = (stopF r f).bytes.size := by
  have hk := keepN_le (r := r) h
  show keepN r f = (f.bytes.extract 0 (keepN r f)).size
  rw [ByteArray.size_extract]; omega
/-- Behind a stop at an act. -/
theorem stood_stop {L : List Ent} {a : Act7} {fs fs' : List Fil} (hb : Books L fs) (ho : Others a fs fs') (hd : ∀ f ∈ fs, f.dur ≤ f.bytes.size) (r : Int) : Stood L (fs'.map (stopF r)) a where
  files := fun g hg hng => by
    obtain ⟨f, hf, rfl⟩ := List.mem_map.1 hg
    have hfm := ho.back f hf hng
    have hdf := hd f hfm
    have hk := keepN_le (r := r) hdf
    have hkd : f.dur ≤ keepN r f := by unfold keepN; omega
    refine ⟨tr f, hb.mem_iff.2 (List.mem_map.2 ⟨f, hfm, rfl⟩), rfl, ⟨f.bytes.extract f.dur (keepN r f), ext_split f.bytes hkd hk⟩, ⟨f.bytes.extract (keepN r f) f.bytes.size, ?_⟩⟩
    have e := ext_split f.bytes hk (Nat.le_refl _)
    rw [ByteArray.extract_zero_size] at e
    exact e
  logged := fun t ht hng => by
    obtain ⟨f, hf, rfl⟩ := List.mem_map.1 (hb.mem_iff.1 ht)
    exact ⟨stopF r f, List.mem_map.2 ⟨f, ho.on f hf hng, rfl⟩, rfl⟩
/-- Without a stop. -/
theorem stood_now {L : List Ent} {fs : List Fil} (hb : Books L fs) (hd : ∀ f ∈ fs, f.dur ≤ f.bytes.size) (a : Act7) : Stood L fs a where
  files := fun f hf _ => by
    refine ⟨tr f, hb.mem_iff.2 (List.mem_map.2 ⟨f, hf, rfl⟩), rfl, ⟨f.bytes.extract f.dur f.bytes.size, ?_⟩, ⟨ByteArray.empty, ?_⟩⟩
    · have e := ext_split f.bytes (hd f hf) (Nat.le_refl _)
      rw [ByteArray.extract_zero_size] at e
      exact e
    · show f.bytes = f.bytes ++ ByteArray.empty
      rw [ByteArray.append_empty]
  logged := fun t ht _ => by
    obtain ⟨f, hf, rfl⟩ := List.mem_map.1 (hb.mem_iff.1 ht)
    exact ⟨f, hf, rfl⟩
theorem books_read {Lf : List Ent} {fs : List Fil} (h : Lf.Perm (fs.map fun f => (f.name, f.bytes, f.bytes))) (hd : ∀ f ∈ fs, f.dur = f.bytes.size) : Books Lf fs := by
  unfold Books
  have e : fs.map tr = fs.map fun f => (f.name, f.bytes, f.bytes) := List.map_congr_left (fun f hf => by
    unfold tr
    rw [hd f hf, ByteArray.extract_zero_size])
  rw [e]; exact h
end Go.Proofs.YtkfehogefclhdaaDoor.Dk

/- DiskKeeps' walk. -/
namespace Go.Proofs.YtkfehogefclhdaaDoor.Dk
open Go.RowKit Go.Maps Go.Proofs.YtkfehogefclhdaaDoorW.PrintWords Go.Proofs.YtkfehogefclhdaaDoorW.PrintMore
variable {N : Nat} {w : World} {p q : Nat} {s : St} {B : Nat} {a0 a1 a2 a3 a4 : Addr} {K : Nat → Prop}
theorem stop_full {fs : List Fil} {r : Int} (h : ∀ g ∈ fs.map (stopF r), g.dur ≤ g.bytes.size) : ∀ g ∈ fs.map (stopF r), g.dur = g.bytes.size := by
  intro g hg
  have h1 := h g hg
  obtain ⟨f, _, rfl⟩ := List.mem_map.1 hg
  have h2 : (stopF r f).bytes.size ≤ (stopF r f).dur := by
    show (f.bytes.extract 0 (keepN r f)).size ≤ keepN r f
    rw [ByteArray.size_extract]; omega
  omega
/-- The middle of the law's loop. -/
structure EMid (w : World) (p q : Nat) (a0 a1 a2 a3 a4 : Addr) (k N : Nat) (s : St) (u0 u1 u2 : Value) (L : List Ent) (wr : World) : Prop where
  live : Live w.heap.size N wr p (Fp q u0 u1 u2) s a0 a1 a2 a3 a4
  log : LogIs wr q w.heap.size u0 u1 u2 L
  books : Books L s.fs
  nmd : Nmd s.fs
  run : s.run = true
  few : Few (200 * k) s
  len : s.fs.length ≤ k
  quo : s.quota = 4000
  below : Below w.heap.size w wr
  num : N ≤ 200 * k
theorem EMid.move {k : Nat} {u0 u1 u2 : Value} {L : List Ent} {wr w1 : World} (h : EMid w p q a0 a1 a2 a3 a4 k N s u0 u1 u2 L wr) (hb : Below wr.heap.size wr w1) : EMid w p q a0 a1 a2 a3 a4 (k + 1) N s u0 u1 u2 L w1 := by
  obtain ⟨l, st⟩ := h.live.drift hb
  obtain ⟨f1, f2, f3, f4⟩ := h.few
  exact ⟨l, h.log.kept (fun i hi => hb.block i (h.log.lt i hi).1), h.books, h.nmd, h.run, ⟨f1, by omega, f3, by omega⟩, by have := h.len; omega, h.quo, h.below.trans st.below, by have := h.num; omega⟩
theorem few_up {k : Nat} (h : Few (200 * k) s) : Few (200 * (k + 1)) s.tick := by
  obtain ⟨h1, h2, h3, h4⟩ := h
  refine ⟨?_, ?_, ?_, ?_⟩ <;> simp only [St.tick] <;> omega
theorem act_found {a : Act7} (h1 : a.kind ≠ 1) (hc : actC s a = 0) : ∃ f, look s.fs a.name = some f := by
  have key : thereC s.fs a.name = 0 := by
    unfold actC at hc
    rw [if_neg h1] at hc
    by_cases h4 : a.kind = 4
    · rw [if_pos h4] at hc
      unfold renC at hc
      split at hc
      · exact hc
      · cases hc
    · rw [if_neg h4] at hc
      by_cases h6 : a.kind = 6
      · rw [if_pos h6] at hc
        unfold truC at hc
        split at hc
        · rename_i h; exact absurd hc h
        · rename_i h; exact Decidable.byContradiction h
      · rw [if_neg h6] at hc; exact hc
  exact (there_some key).2
theorem act_cut {a : Act7} (h6 : a.kind = 6) (hc : actC s a = 0) {f : Fil} (hf : look s.fs a.name = some f) : 0 ≤ a.n ∧ a.n ≤ (f.bytes.size : Int) := by
  unfold actC at hc
  rw [if_neg (by rw [h6]; decide), if_neg (by rw [h6]; decide), if_pos h6] at hc
  unfold truC at hc
  split at hc
  · rename_i h; exact absurd hc h
  · split at hc
    · cases hc
    · rename_i h
      have e : sizeF s.fs a.name = (f.bytes.size : Int) := by unfold sizeF; rw [hf]
      rw [e] at h
      omega
theorem act_app {a : Act7} (hc : actC s a = 0) (hq : s.quota = 4000) (h1 : a.kind = 1) : a.data.size ≤ 140737487302656 := by
  unfold actC at hc
  rw [if_pos h1] at hc
  unfold appC at hc
  split at hc
  · split at hc
    · cases hc
    · omega
  · cases hc
set_option maxRecDepth 100000 in
set_option maxHeartbeats 2000000 in
theorem keeps_walk (hS : Sens w w.heap.size a0 a1 a2 a3 a4) (script : List S42) (A : Option Addr) (c : Nat) (hC : Kd.C k42 w A script.length script) (hsl : slotsB script) :
    Calls Tryd.prog 7 #[.slice A script.length c] w fun e w' => e = .returned (.bool true) ∧ Below w.heap.size w w' := by
  have hnot := not_run
  have hif := isIface25
  have HS : Hid _ := hS
  have HC : Hid _ := hC
  have HSL : Hid _ := hsl
  clear hS hC hsl
  go_enter Tryd.func7, Tryd.ntmps7
  go_wp2_with fail
  refine (known_ok (K := fun _ => False) HS.out (Nat.le_refl _) (fun i hi => hi.elim)).mono ?_
  rintro e w1 ⟨rfl, st1⟩
  go_wp2_with fail
  refine (new_live (K := fun _ => False) 4000 (by decide) (by decide) (HS.out.below st1.below) st1.below.size (fun i hi => hi.elim)).mono ?_
  rintro e w2 ⟨rfl, l2, st2⟩
  obtain ⟨p, hp⟩ : ∃ p, w1.heap.size + 1 = p := ⟨_, rfl⟩
  rw [hp] at l2 ⊢
  have hb2 := (st1.trans st2).below
  obtain ⟨l3, st3⟩ := l2.drift (alloc_below w2 (Obj.cells #[.slice none 0 0, .slice none 0 0, .slice none 0 0] 55))
  have hfrs := blk_new w2 (Obj.cells #[.slice none 0 0, .slice none 0 0, .slice none 0 0] 55)
  replace l3 := l3.add hfrs (by decide)
  have hq0 : w.heap.size ≤ w2.heap.size := hb2.size
  obtain ⟨q, hq⟩ : ∃ q, w2.heap.size = q := ⟨_, rfl⟩
  obtain ⟨W0, hW0⟩ : ∃ W, w2.alloc (Obj.cells #[.slice none 0 0, .slice none 0 0, .slice none 0 0] 55) = W := ⟨_, rfl⟩
  rw [hq] at hfrs l3 hq0
  rw [hW0] at hfrs l3 st3
  have hmid : EMid w p q a0 a1 a2 a3 a4 0 0 (St.fresh 4000) (.slice none 0 0) (.slice none 0 0) (.slice none 0 0) [] W0 :=
    ⟨l3.less (fun i hi => .inr (fp_nil hi)), ⟨hfrs, own_nil _ _ _ _, own_nil _ _ _ _, own_nil _ _ _ _, fun k e => (nil_own k e).elim, fun k e => (nil_own k e).elim, fun k e => (nil_own k e).elim, hq0⟩, .refl _, fun f hf => by simp [St.fresh] at hf, rfl, Few.fresh 4000, Nat.le_refl _, rfl, hb2.trans st3.below, Nat.le_refl _⟩
  have HM0 : Hid _ := hmid
  have HW0 : Hid _ := hW0
  have HQ : Hid _ := hq
  clear hp st1 st2 l2 l3 st3 hfrs hq0 hb2 hmid hq hW0
  go_wp2_with fail
  rw [HQ.out, HW0.out]
  go_loopw [7] (fun vi wr => ∃ (k N : Nat) (s : St) (u0 u1 u2 : Value) (L : List Ent), k ≤ script.length ∧ k ≤ 150 ∧ vi = .int .i64 k ∧ EMid w p q a0 a1 a2 a3 a4 k N s u0 u1 u2 L wr) (fun vi _ => script.length - (intOf vi).toNat)
  case atStart => exact ⟨0, 0, _, _, _, _, [], Nat.zero_le _, by decide, rfl, HM0.out⟩
  case round =>
    obtain ⟨k, N, s, u0, u1, u2, L, hk, hk150, rfl, hmid⟩ := hrel
    have HMID : Hid _ := hmid
    clear hmid HM0 HW0 HQ
    by_cases hlt : k < script.length ∧ k < 150
    · obtain ⟨hl1, hl2⟩ := hlt
      obtain ⟨ad, A6, c6, hA, g0, g1, g2, g3, g4, g5, g6, hl6, hC6⟩ := at_T42 HC.out k (by omega) (by omega)
      have hsl := HSL.out (rd_T42 script k) (by unfold rd_T42; rw [Int.toNat_natCast, List.getD_eq_getElem?_getD, List.getElem?_eq_getElem hl1]; exact List.getElem_mem _)
      obtain ⟨x, hx⟩ : ∃ x, rd_T42 script k = x := ⟨_, rfl⟩
      rw [hx] at g0 g1 g2 g3 g4 g5 g6 hl6 hC6 hsl
      rw [Int.toNat_natCast] at g0 g1 g2 g3 g4 g5 g6
      have hbw := HMID.out.below
      replace g0 := pw_cell_below hbw g0
      replace g1 := pw_cell_below hbw g1
      replace g2 := pw_cell_below hbw g2
      replace g3 := pw_cell_below hbw g3
      replace g4 := pw_cell_below hbw g4
      replace g5 := pw_cell_below hbw g5
      replace g6 := pw_cell_below hbw g6
      have HC6 : Hid _ := hC6
      have HL6 : Hid _ := hl6
      have HSX : Hid _ := hsl
      clear hx hC6 hbw hl6 hsl
      subst hA
      have hl1b : decide ((k : Int) < (script.length : Int)) = true := decide_eq_true (by omega)
      have hl2b : decide ((k : Int) < 150) = true := decide_eq_true (by omega)
      have hkm : (k : Int) < 9223372036854775807 := by omega
      obtain ⟨w3, hw3⟩ : ∃ w3, wr.alloc (Obj.cells #[.int .i64 x.f0, .int .i64 x.f1, .string x.f2, .string x.f3, .string x.f4, .int .i64 x.f5, .slice A6 x.f6.length c6] 42) = w3 := ⟨_, rfl⟩
      have hbox := blk_new wr (Obj.cells #[.int .i64 x.f0, .int .i64 x.f1, .string x.f2, .string x.f3, .string x.f4, .int .i64 x.f5, .slice A6 x.f6.length c6] 42)
      have hmid3 := HMID.out.move (alloc_below wr (Obj.cells #[.int .i64 x.f0, .int .i64 x.f1, .string x.f2, .string x.f3, .string x.f4, .int .i64 x.f5, .slice A6 x.f6.length c6] 42))
      rw [hw3] at hbox hmid3
      have HM3 : Hid (EMid w p q a0 a1 a2 a3 a4 (k + 1) N s u0 u1 u2 L w3) := hmid3
      have HBOX : Hid _ := hbox
      have HW3 : Hid _ := hw3
      clear hw3 hbox hmid3
      by_cases h7 : x.f0 = 7
      · have e7 : (x.f0 == 7) = true := beq_iff_eq.2 h7
        clear h7
        go_wp2_with fail
        rw [HW3.out]
        have h6 := blk_cell HBOX.out 6
        simp only [List.getElem?_toArray, List.getElem?_cons_zero, List.getElem?_cons_succ] at h6
        have l3 := (HM3.out.live.add HBOX.out (by decide))
        have hC6w : ∀ W, Below w3.heap.size w3 W → Kd.C k32 W A6 x.f6.length x.f6 := fun W hW => Kd.C_below HC6.out (HM3.out.below.trans (hW.mono HM3.out.live.base))
        have HCW : Hid _ := hC6w
        clear hC6w
        go_region_held3 (fun W => W.cell? ⟨wr.heap.size, 6, none⟩ = some (.slice A6 x.f6.length c6))
          (first | exact h6 | exact i6 | exact j6)
          (first
          | (go_at_call 32; refine (twin_ok x.f6 HSX.out.2.2.2 A6 c6 (HCW.out _ (below_drew (Below.refl _ _))) HL6.out).mono ?_; rintro e w6 ⟨g, cap, rfl, hcap, hg1, hg2, hpl, hb6⟩
             have hb6' : Below w3.heap.size w3 w6 := (below_drew (Below.refl _ _)).trans hb6
             have i6 := pw_cell_below hb6' h6
             have hn0 : x.f6.length ≤ cap := by omega)
          | (go_at_call 14; obtain ⟨l6, st6⟩ := l3.drift hb6'
             have hp6 := plan_live l6 (stopsOf x.f6) hpl (fun i hi => by rw [hi]; exact ⟨hg2, fun e => by have := l3.lt; have e1 : w3.drew.heap.size = w3.heap.size := rfl; omega⟩) (by rw [stops_len]; exact HSX.out.2.2.2)
             rw [stops_len] at hp6
             refine hp6.mono ?_; rintro e w7 ⟨rfl, l7, st7⟩
             have j6 := cell_of i6 (st7.kept _ (.inr rfl))))
        all_goals (try go_wp2)
        have HFIN : Hid (EMid w p q a0 a1 a2 a3 a4 (k + 1) N (s.planned (stopsOf x.f6)) u0 u1 u2 L w7) := by
          have hm := HM3.out
          have st67 := st6.trans st7
          obtain ⟨f1, f2, f3, f4⟩ := hm.few
          exact ⟨l7.less (fun i hi => .inl hi), hm.log.kept (fun i hi => st67.kept i (.inl hi)), hm.books, hm.nmd, hm.run, ⟨f1, f2, Int.le_refl _, (by show (0 : Int) ≤ _; omega)⟩, hm.len, hm.quo, hm.below.trans st67.below, hm.num⟩
        exact ⟨⟨k + 1, N, _, u0, u1, u2, L, by omega, by omega, by simp, HFIN.out⟩, by simp only [intOf]; omega⟩
      · by_cases hkind : 1 ≤ x.f0 ∧ x.f0 ≤ 6
        · have e7 : (x.f0 == 7) = false := beq_eq_false_iff_ne.2 h7
          have hk1 : decide (x.f0 < 1) = false := decide_eq_false (by omega)
          have hk6 : decide (6 < x.f0) = false := decide_eq_false (by omega)
          have HK : Hid _ := hkind
          clear hkind h7
          go_wp2_with fail
          rw [HW3.out]
          have l3 := (HM3.out.live.add HBOX.out (by decide))
          have hfew := HM3.out.few
          refine (does_ok l3 (lt_max (by have := HM3.out.num; omega)) (hfew.small (by omega)) ⟨x.f0, x.f1, x.f2, x.f3, x.f4, x.f5, .slice A6 x.f6.length c6⟩ HK.out.1 HK.out.2 HSX.out.1 HSX.out.2.1 HSX.out.2.2.1).mono ?_
          rintro e w6 ⟨v, r, rfl, hact⟩
          obtain ⟨av, hav⟩ : ∃ av : Act7, av = ⟨x.f0, x.f1, x.f2, x.f3, x.f4, x.f5, .slice A6 x.f6.length c6⟩ := ⟨_, rfl⟩
          rw [← hav] at hact
          have hr3 := hact.1
          have hr0 := hact.2.1
          obtain ⟨st6, hcase⟩ := hact.told l3 HM3.out.run
          have hbox6 := (st6.kept _ (.inr rfl)).trans HBOX.out
          have hlog6 : LogIs w6 q w.heap.size u0 u1 u2 L := HM3.out.log.kept (fun i hi => st6.kept i (.inl hi))
          have b0 := blk_cell hbox6 0
          have b1 := blk_cell hbox6 1
          have b2 := blk_cell hbox6 2
          have b3 := blk_cell hbox6 3
          have b4 := blk_cell hbox6 4
          have b5 := blk_cell hbox6 5
          have b6 := blk_cell hbox6 6
          simp only [List.getElem?_toArray, List.getElem?_cons_zero, List.getElem?_cons_succ] at b0 b1 b2 b3 b4 b5 b6
          have HLOG6 : Hid (LogIs w6 q w.heap.size u0 u1 u2 L) := hlog6
          have HAV : Hid _ := hav
          have HR3 : Hid _ := hr3
          have HR0 : Hid _ := hr0
          have HST6 : Hid _ := st6
          clear hact hav hr3 hr0 hbox6 hlog6 st6
          rcases hcase with ⟨y, rest, qe, fs', hpl, hyx, rfl, he, hP, hE, l6⟩ | ⟨hnd, hc, qe, rfl, he, hwne, l6⟩ | ⟨hnd, hc, rfl, fs', hW, l6⟩
          · have c0 := l6.sens.c0
            have hm := HM3.out
            have hm0 := HMID.out
            have hoth : Others av s.fs fs' := by
              by_cases hc0 : actC s av = 0
              · exact others_part (by rw [HAV.out]; exact HK.out.1) (by rw [HAV.out]; exact HK.out.2) hc0 (hP hc0)
              · rw [hE hc0]; exact Others.refl _ _
            have hst : Stood L (fs'.map (stopF y.2.2)) av := stood_stop hm.books hoth hm.live.durs y.2.2
            have hflen : (fs'.map (stopF y.2.2)).length ≤ k + 1 := by rw [List.length_map]; have := hoth.len; have := hm0.len; omega
            have hnmd : Nmd (fs'.map (stopF y.2.2)) := fun g hg => by obtain ⟨f, hf, rfl⟩ := List.mem_map.1 hg; exact hoth.nmd hm.nmd f hf
            have hndl := hm.books.nodup hm.live.names
            have hfw : Few (200 * k + 1) (s.halt rest fs' y.2.2) := hm0.few.tick
            have hq4 : (s.halt rest fs' y.2.2).quota = 4000 := hm0.quo
            rw [HAV.out] at hst
            obtain ⟨sh, hsh⟩ : ∃ sh, s.halt rest fs' y.2.2 = sh := ⟨_, rfl⟩
            have hfs : sh.fs = fs'.map (stopF y.2.2) := by rw [← hsh]; rfl
            have hrun : sh.run = false := by rw [← hsh]; rfl
            rw [hsh] at l6 hfw hq4
            rw [← hfs] at hst hflen hnmd
            have hfull' : ∀ g ∈ sh.fs, g.dur = g.bytes.size := by rw [hfs]; exact stop_full (by rw [← hfs]; exact l6.durs)
            have HRUN : Hid _ := hrun
            have HST : Hid _ := hst
            have HFULL : Hid _ := hfull'
            have HFLEN : Hid _ := hflen
            have HNMD : Hid _ := hnmd
            have HNDL : Hid _ := hndl
            have HFW : Hid _ := hfw
            have HQ4 : Hid _ := hq4
            clear hm hm0 hoth hst hflen hnmd hndl hfw hq4 hsh hfs hrun hfull' hP hE hyx hpl
            go_wp2_with fail
            refine (down_live l6).mono ?_
            rw [HRUN.out]
            rintro e w7 ⟨rfl, h7'⟩
            replace h7' := h7'.symm
            subst h7'
            go_wp2_with fail
            refine (is_live l6 he (.inl rfl) (.inl rfl)).mono ?_
            rw [decide_eq_true rfl]
            rintro e w7 ⟨rfl, h7'⟩
            replace h7' := h7'.symm
            subst h7'
            go_wp2_with fail
            refine (plan_none l6).mono ?_
            rintro e w7 ⟨rfl, l7, st7⟩
            go_wp2_with fail
            refine (start_live l7).mono ?_
            rintro e w8 ⟨rfl, l8, st8⟩
            have st68 := st7.trans st8
            have hbk := st68.kept wr.heap.size (.inl (.inr rfl))
            have d0 := cell_of b0 hbk
            have d1 := cell_of b1 hbk
            have d2 := cell_of b2 hbk
            have d3 := cell_of b3 hbk
            have d4 := cell_of b4 hbk
            have d5 := cell_of b5 hbk
            have d6 := cell_of b6 hbk
            have hlog8 : LogIs w8 q w.heap.size u0 u1 u2 L := HLOG6.out.kept (fun i hi => st68.kept i (.inl (.inl hi)))
            have hsrun : ({ sh with plan := [], since := 0 } : St).run = false := HRUN.out
            have hrd := reads_ok (n := 200 * k + 1) l8 (by have := HFLEN.out; have := HMID.out.num; show N + 1 + sh.fs.length ≤ _; omega) rfl rfl ⟨HFW.out.1, HFW.out.2.1, by unfold St.start; simp only; split <;> exact Int.le_refl _, by unfold St.start; simp only; split <;> (show (0 : Int) ≤ _; omega)⟩ (by have := HFLEN.out; show 200 * k + 1 + sh.fs.length ≤ _; omega) (by have := HFLEN.out; show sh.fs.length ≤ _; omega) HNMD.out hlog8 HNDL.out (Nat.le_refl _) (fun i hi => .inl (.inl hi)) ⟨x.f0, x.f1, x.f2, x.f3, x.f4, x.f5, .slice A6 x.f6.length c6⟩ HST.out
            have HRD : Hid _ := hrd
            have HST68 : Hid _ := st68
            clear hrd st7 st8 st68 hbk hlog8 hsrun l7 b0 b1 b2 b3 b4 b5 b6
            go_wp2_with fail
            refine Calls.mono HRD.out ?_
            rintro e w9 ⟨rfl, N9, s9, y0, y1, y2, L9, l9, hN9, hfs9, hr9, hp9, hq9, hf9, hlog9, hper9, hb9, hk9⟩
            have HFIN : Hid (EMid w p q a0 a1 a2 a3 a4 (k + 1) N9 s9 y0 y1 y2 L9 w9) := by
              have hm := HM3.out
              have hm0 := HMID.out
              have hl := HFLEN.out
              have hfs9' : s9.fs = sh.fs := hfs9
              have hN9' : N9 ≤ N + 1 + sh.fs.length := hN9
              obtain ⟨f1, f2, f3, f4⟩ := hf9
              have f2' : s9.steps ≤ ((200 * k + 1 + sh.fs.length : Nat) : Int) := f2
              have f4' : s9.since ≤ ((200 * k + 1 + sh.fs.length : Nat) : Int) := f4
              refine ⟨l9.less (fun i hi => .inr hi), hlog9, ?_, ?_, hr9, ⟨f1, by omega, f3, by omega⟩, by rw [hfs9']; omega, hq9.trans HQ4.out, hm.below.trans ((Step.below HST6.out).trans ((Step.below HST68.out).trans hb9)), by have := hm0.num; omega⟩
              · rw [hfs9']; exact books_read hper9 HFULL.out
              · rw [hfs9']; exact HNMD.out
            have HR9 : Hid _ := hr9
            clear hN9 hfs9 hr9 hp9 hq9 hf9 hlog9 hper9 hb9 hk9
            go_wp2_with fail
            refine (down_live l9).mono ?_
            rw [HR9.out]
            rintro e w10 ⟨rfl, h10⟩
            replace h10 := h10.symm
            subst h10
            go_wp2_with fail
            exact ⟨⟨k + 1, N9, s9, y0, y1, y2, L9, by omega, by omega, by simp, HFIN.out⟩, by simp only [intOf]; omega⟩
          · have hrr : r = ⟨#[]⟩ := by
              by_cases h3 : av.kind = 3
              · exact (HR3.out h3).2 (by intro e; cases e)
              · exact HR0.out h3
            subst hrr
            have c0 := l6.sens.c0
            have HFIN : Hid (EMid w p q a0 a1 a2 a3 a4 (k + 1) (N + 1) s.tick u0 u1 u2 L w6) := by
              have hm := HM3.out
              have hm0 := HMID.out
              exact ⟨l6.less (fun i hi => .inl (.inl hi)), HLOG6.out, hm.books, hm.nmd, hm.run, few_up hm0.few, hm.len, hm.quo, hm.below.trans (Step.below HST6.out), by have := hm0.num; omega⟩
            have hrun : s.tick.run = true := HM3.out.run
            have HRUN : Hid _ := hrun
            clear hrun
            go_wp2_with fail
            refine (down_live l6).mono ?_
            rw [HRUN.out]
            rintro e w7 ⟨rfl, h7'⟩
            replace h7' := h7'.symm
            subst h7'
            go_wp2_with fail
            refine (is_live l6 he (why_in a0 a1 a2 a3 a4 _) (.inl rfl)).mono ?_
            rw [decide_eq_false hwne]
            rintro e w7 ⟨rfl, h7'⟩
            replace h7' := h7'.symm
            subst h7'
            go_wp2_with fail
            exact ⟨⟨k + 1, N + 1, _, u0, u1, u2, L, by omega, by omega, by simp, HFIN.out⟩, by simp only [intOf]; omega⟩
          · have hm := HM3.out
            have hm0 := HMID.out
            have hoth : Others av s.fs fs' := others_act (by rw [HAV.out]; exact HK.out.1) (by rw [HAV.out]; exact HK.out.2) hc hW
            have hflen : fs'.length ≤ k + 1 := by have := hoth.len; have := hm0.len; omega
            have hnmd : Nmd fs' := hoth.nmd hm.nmd
            have hLlen : L.length = s.fs.length := by have := hm.books.length_eq; rwa [List.length_map] at this
            have hc' : actC s ⟨x.f0, x.f1, x.f2, x.f3, x.f4, x.f5, .slice A6 x.f6.length c6⟩ = 0 := by rw [← HAV.out]; exact hc
            have hW' : actW s ⟨x.f0, x.f1, x.f2, x.f3, x.f4, x.f5, .slice A6 x.f6.length c6⟩ fs' := by rw [← HAV.out]; exact hW
            have htold : x.f0 = 3 → Told s x.f2 r .nilIface := by
              have := HR3.out
              rw [HAV.out] at this
              exact this
            have hnotes : ∀ m, Calls Tryd.prog 35 #[.pointer (some ⟨q, 0, none⟩), actV ⟨x.f0, x.f1, x.f2, x.f3, x.f4, x.f5, .slice A6 x.f6.length c6⟩] (w6.drewN m) fun e w' => e = .returned (.tuple #[]) ∧ ∃ (y0 y1 y2 : Value) (L' : List Ent), EMid w p q a0 a1 a2 a3 a4 (k + 1) (N + 1) { s.tick with fs := fs' } y0 y1 y2 L' w' := by
              intro m
              have hb : Below w6.heap.size w6 (w6.drewN m) := pw_below_drewN (Below.refl _ _) m
              obtain ⟨l7, _⟩ := l6.drift hb
              have hlog7 : LogIs (w6.drewN m) q w.heap.size u0 u1 u2 L := HLOG6.out.kept (fun i hi => hb.block i (HLOG6.out.lt i hi).1)
              refine (notes_ok hlog7 hm.books hm.live.names (by have := hm0.len; omega) hm.live.durs (by have := hm.live.room; have := hm.quo; omega) ⟨x.f0, x.f1, x.f2, x.f3, x.f4, x.f5, .slice A6 x.f6.length c6⟩ HK.out.1 HK.out.2 hc' hW' (act_app hc' hm.quo)).mono ?_
              rintro e w' ⟨rfl, L', hbk, _, y0, y1, y2, hr, hf, hsb⟩
              obtain ⟨l8, hb8⟩ := l7.turn hf (fun i hi => .inl hi) (fun i hi => (hlog7.lt i hi).2) hsb (fun i hi => (hr.lt i hi).1)
              exact ⟨rfl, y0, y1, y2, L', l8.less (fun i hi => .inr hi), hr, hbk, hnmd, hm.run, (few_up hm0.few).fs _, hflen, hm.quo, hm.below.trans ((Step.below HST6.out).trans ((hb.mono l6.base).trans hb8)), by have := hm0.num; omega⟩
            have hrun : s.tick.run = true := hm.run
            have HRUN : Hid _ := hrun
            have HNO : Hid _ := hnotes
            have HL6' : Hid _ := l6
            have c0 := l6.sens.c0
            have hsides : (∃ f i, ∃ hi : i < L.length, look s.fs x.f2 = some f ∧ L[i] = tr f ∧ atI (n0 L) x.f2 = (i : Int)) ∨ (x.f0 = 1 ∧ atI (n0 L) x.f2 = -1) := by
              cases hl : look s.fs x.f2 with
              | some f =>
                obtain ⟨i, hi, e1, _, e2⟩ := hm.books.file hm.live.names hl
                exact .inl ⟨f, i, hi, rfl, e1, e2⟩
              | none =>
                refine .inr ⟨?_, at_out (fun hmem => ?_)⟩
                · refine Decidable.byContradiction (fun h1 => ?_)
                  obtain ⟨f, hf⟩ := act_found h1 hc'
                  have hf' : look s.fs x.f2 = some f := hf
                  rw [hl] at hf'; cases hf'
                · have := look_mem_name.1 (hm.books.mem.1 hmem)
                  rw [hl] at this; cases this
            have htop := HLOG6.out.cells
            obtain ⟨t0, t1, t2⟩ := htop
            have hcut := fun (h6 : x.f0 = 6) (f : Fil) (hf : look s.fs x.f2 = some f) => act_cut h6 hc' hf
            have HCUT : Hid _ := hcut
            have HTOLD : Hid _ := htold
            clear hm hm0 hoth hflen hnmd hLlen hc' hW' hnotes hrun l6 hcut htold hc hnd hW
            rcases hsides with ⟨f, i, hi, hl, hix, hat⟩ | ⟨h1, hat⟩
            · obtain ⟨g1, k1, e11, hk1, _, hc1, _⟩ := own_get HLOG6.out.o1 i (by rw [n1_len]; exact hi)
              rw [n1_get hi, hix] at hc1
              rw [e11] at t1
              have hib : decide ((i : Int) < 0) = false := decide_eq_false (by omega)
              have hi1 : (i : Int) < ((n1 L).length : Int) := by rw [n1_len]; omega
              have hi0 : (0 : Int) ≤ (i : Int) := by omega
              simp only [tr] at hc1
              have hkinds : (∃ (_ : (x.f0 == 3) = false), (x.f0 == 6) = false) ∨ (∃ (_ : (x.f0 == 3) = true) (_ : (x.f0 == 6) = false), (r.toList == f.bytes.toList) = true) ∨ (∃ (_ : (x.f0 == 3) = false) (_ : (x.f0 == 6) = true) (_ : decide (x.f5 < 0) = false), decide ((f.bytes.size : Int) < x.f5) = false) := by
                by_cases h3 : x.f0 = 3
                · refine .inr (.inl ⟨beq_iff_eq.2 h3, beq_eq_false_iff_ne.2 (by omega), ?_⟩)
                  obtain ⟨f', hf', hr'⟩ := (HTOLD.out h3).1 rfl
                  rw [hl] at hf'
                  injection hf' with hf'
                  rw [hr', hf']
                  exact beq_self_eq_true _
                · by_cases h6 : x.f0 = 6
                  · obtain ⟨q1, q2⟩ := HCUT.out h6 f hl
                    exact .inr (.inr ⟨beq_eq_false_iff_ne.2 h3, beq_iff_eq.2 h6, decide_eq_false (by exact Int.not_lt.2 q1), decide_eq_false (by exact Int.not_lt.2 q2)⟩)
                  · exact .inl ⟨beq_eq_false_iff_ne.2 h3, beq_eq_false_iff_ne.2 h6⟩
              have HAT : Hid _ := hat
              clear hat hix e11 hl hi
              rcases hkinds with ⟨n3, n6⟩ | ⟨n3, n6, n7⟩ | ⟨n3, n6, n7, n8⟩
              all_goals go_wp2_with fail
              all_goals refine (down_live HL6'.out).mono ?_
              all_goals rw [HRUN.out]
              all_goals rintro e w7 ⟨rfl, h7'⟩
              all_goals replace h7' := h7'.symm
              all_goals subst h7'
              all_goals go_wp2_with fail
              all_goals refine (log_at HLOG6.out x.f2).mono ?_
              all_goals rintro e w7 ⟨rfl, h7'⟩
              all_goals replace h7' := h7'.symm
              all_goals subst h7'
              all_goals rw [HAT.out]
              all_goals go_wp2_with fail
              all_goals go_quiet (fail)
              all_goals go_wp2_with fail
              all_goals refine Calls.mono (HNO.out nq) ?_
              all_goals rintro e w8 ⟨rfl, y0, y1, y2, L', hm8⟩
              all_goals go_wp2_with fail
              all_goals exact ⟨⟨k + 1, N + 1, _, y0, y1, y2, L', by omega, by omega, by simp, hm8⟩, by simp only [intOf]; omega⟩
            · have h1a : (x.f0 == 1) = true := beq_iff_eq.2 h1
              have h1b : (x.f0 == 3) = false := beq_eq_false_iff_ne.2 (by omega)
              have h1c : (x.f0 == 6) = false := beq_eq_false_iff_ne.2 (by omega)
              have h1d : (x.f0 != 1) = false := by rw [h1]; rfl
              have HAT : Hid _ := hat
              clear hat h1
              go_wp2_with fail
              refine (down_live HL6'.out).mono ?_
              rw [HRUN.out]
              rintro e w7 ⟨rfl, h7'⟩
              replace h7' := h7'.symm
              subst h7'
              go_wp2_with fail
              refine (log_at HLOG6.out x.f2).mono ?_
              rintro e w7 ⟨rfl, h7'⟩
              replace h7' := h7'.symm
              subst h7'
              rw [HAT.out]
              go_wp2_with fail
              go_quiet (fail)
              go_wp2_with fail
              refine Calls.mono (HNO.out nq) ?_
              rintro e w8 ⟨rfl, y0, y1, y2, L', hm8⟩
              go_wp2_with fail
              exact ⟨⟨k + 1, N + 1, _, y0, y1, y2, L', by omega, by omega, by simp, hm8⟩, by simp only [intOf]; omega⟩
        · have e7 : (x.f0 == 7) = false := beq_eq_false_iff_ne.2 h7
          rcases (show x.f0 < 1 ∨ (1 ≤ x.f0 ∧ 6 < x.f0) by omega) with e1 | ⟨e1, e6⟩
          · have e1b : decide (x.f0 < 1) = true := decide_eq_true e1
            clear hkind h7 e1
            go_wp2_with fail
            rw [HW3.out]
            exact ⟨⟨k + 1, N, s, u0, u1, u2, L, by omega, by omega, by simp, HM3.out⟩, by simp only [intOf]; omega⟩
          · have e1b : decide (x.f0 < 1) = false := decide_eq_false (by omega)
            have e6b : decide (6 < x.f0) = true := decide_eq_true e6
            clear hkind h7 e1 e6
            go_wp2_with fail
            rw [HW3.out]
            exact ⟨⟨k + 1, N, s, u0, u1, u2, L, by omega, by omega, by simp, HM3.out⟩, by simp only [intOf]; omega⟩
    · have HS2 : Hid (Sens wr w.heap.size a0 a1 a2 a3 a4) := HMID.out.live.sens
      have hfin : ∀ wx, Below wr.heap.size wr wx → EMid w p q a0 a1 a2 a3 a4 (k + 1) N s u0 u1 u2 L wx := fun wx hb => EMid.move HMID.out hb
      have HF : Hid _ := hfin
      clear hfin
      have HPL : Hid (Calls Tryd.prog 14 #[.pointer (some ⟨p, 0, none⟩), .slice none 0 0] wr fun e w' => e = .returned (.tuple #[]) ∧ EMid w p q a0 a1 a2 a3 a4 (k + 1) N { s with plan := [], since := 0 } u0 u1 u2 L w') := by
        have hm := HMID.out
        obtain ⟨f1, f2, f3, f4⟩ := hm.few
        refine (plan_none hm.live).mono ?_
        rintro e w' ⟨rfl, l, st⟩
        exact ⟨rfl, l, hm.log.kept (fun i hi => st.kept i hi), hm.books, hm.nmd, hm.run, ⟨f1, by show s.steps ≤ _; omega, Int.le_refl _, by show (0 : Int) ≤ _; omega⟩, by have := hm.len; show s.fs.length ≤ _; omega, hm.quo, hm.below.trans st.below, by have := hm.num; omega⟩
      rcases Nat.lt_or_ge k script.length with h | h
      · have hl1b : decide ((k : Int) < (script.length : Int)) = true := decide_eq_true (by omega)
        have hl2b : decide ((k : Int) < 150) = false := decide_eq_false (by omega)
        go_wp2_with fail
        refine Calls.mono HPL.out ?_
        rintro e w1 ⟨rfl, hm1⟩
        have HM1 : Hid _ := hm1
        clear hm1
        clear hl1b h hlt hl2b
        go_wp2_with fail
        go_loopw [13] (fun vi wx => ∃ j : Nat, j ≤ L.length ∧ vi = .int .i64 j ∧ Below w1.heap.size w1 wx) (fun vi _ => L.length - (intOf vi).toNat)
        case atStart => exact ⟨0, Nat.zero_le _, rfl, Below.refl _ _⟩
        case round =>
          obtain ⟨j, hj, rfl, hbx⟩ := hrel
          have hm2 := EMid.move HM1.out hbx
          have d0 := hm2.log.cells.1
          have d1 := hm2.log.cells.2.1
          have HM2 : Hid _ := hm2
          have hLlen : L.length = s.fs.length := by have := hm2.books.length_eq; rwa [List.length_map] at this
          have hlen := hm2.len
          have hjm : (j : Int) < 9223372036854775807 := by have : s.fs.length ≤ k + 1 + 1 := hlen; omega
          clear hm2
          by_cases hlt2 : j < L.length
          · obtain ⟨g0, kk, e0, _, _, hck, _⟩ := own_get HM2.out.log.o0 j (by rw [n0_len]; exact hlt2)
            obtain ⟨g1, kk1, e1, _, _, hck1, _⟩ := own_get HM2.out.log.o1 j (by rw [n1_len]; exact hlt2)
            rw [n0_get hlt2] at hck
            rw [n1_get hlt2] at hck1
            obtain ⟨f, hfm, hft⟩ := List.mem_map.1 ((List.Perm.mem_iff (show L.Perm (s.fs.map tr) from HM2.out.books)).1 (List.getElem_mem hlt2))
            rw [← hft] at hck hck1
            simp only [tr] at hck hck1
            rw [e0] at d0
            rw [e1] at d1
            have hpk := peek_live HM2.out.live f.name (HM2.out.live.nameLen _ ((nmB_perm _).mem_iff.2 (List.mem_map.2 ⟨f, hfm, rfl⟩))) (look_of HM2.out.live.names hfm)
            have HPK : Hid _ := hpk
            have hk1 : decide ((j : Int) < ((n0 L).length : Int)) = true := decide_eq_true (by rw [n0_len]; omega)
            have hk2 : (j : Int) < ((n0 L).length : Int) := by rw [n0_len]; omega
            have hk3 : (j : Int) < ((n1 L).length : Int) := by rw [n1_len]; omega
            have hk0 : (0 : Int) ≤ (j : Int) := by omega
            have hbb : (f.bytes.toList == f.bytes.toList) = true := beq_self_eq_true _
            clear hpk e0 e1 hft hfm hLlen hlen
            go_wp2_with fail
            refine Calls.mono HPK.out ?_
            rintro e w2 ⟨rfl, h2⟩
            replace h2 := h2.symm
            subst h2
            go_wp2_with fail
            exact ⟨⟨j + 1, by omega, by simp, hbx⟩, by simp only [intOf]; omega⟩
          · have hk1 : decide ((j : Int) < ((n0 L).length : Int)) = false := decide_eq_false (by rw [n0_len]; omega)
            have hk3 : ¬ (j : Int) < ((n0 L).length : Int) := by rw [n0_len]; omega
            obtain ⟨B0, t0, x0, _⟩ := rows_shape HM2.out.log.o0
            rw [x0] at d0
            have hrd := reads_ok (n := 200 * (k + 1 + 1)) HM2.out.live (by have h1 := HM2.out.num; have h2 : s.fs.length ≤ k + 1 + 1 := hlen; show N + s.fs.length ≤ _; omega) HM2.out.run rfl HM2.out.few (by have h2 : s.fs.length ≤ k + 1 + 1 := hlen; show _ + s.fs.length ≤ _; omega) (by have h2 : s.fs.length ≤ k + 1 + 1 := hlen; show s.fs.length ≤ _; omega) HM2.out.nmd HM2.out.log (HM2.out.books.nodup HM2.out.live.names) (Nat.le_refl _) (fun i hi => hi) ⟨0, 0, ⟨#[]⟩, ⟨#[]⟩, ⟨#[]⟩, 0, .slice none 0 0⟩ (stood_now HM2.out.books HM2.out.live.durs _)
            have HRD : Hid _ := hrd
            clear hrd x0 hLlen hlen
            go_wp2_with fail
            refine Calls.mono HRD.out ?_
            rintro e w9 ⟨rfl, N9, s9, y0, y1, y2, L9, l9, hN9, hfs9, hr9, hp9, hq9, hf9, hlog9, hper9, hb9, hk9⟩
            go_wp2_with fail
            go_ret
            exact ⟨rfl, HM2.out.below.trans hb9⟩
      · have hl1b : decide ((k : Int) < (script.length : Int)) = false := decide_eq_false (by omega)
        go_wp2_with fail
        refine Calls.mono HPL.out ?_
        rintro e w1 ⟨rfl, hm1⟩
        have HM1 : Hid _ := hm1
        clear hm1
        clear hl1b h hlt
        go_wp2_with fail
        go_loopw [13] (fun vi wx => ∃ j : Nat, j ≤ L.length ∧ vi = .int .i64 j ∧ Below w1.heap.size w1 wx) (fun vi _ => L.length - (intOf vi).toNat)
        case atStart => exact ⟨0, Nat.zero_le _, rfl, Below.refl _ _⟩
        case round =>
          obtain ⟨j, hj, rfl, hbx⟩ := hrel
          have hm2 := EMid.move HM1.out hbx
          have d0 := hm2.log.cells.1
          have d1 := hm2.log.cells.2.1
          have HM2 : Hid _ := hm2
          have hLlen : L.length = s.fs.length := by have := hm2.books.length_eq; rwa [List.length_map] at this
          have hlen := hm2.len
          have hjm : (j : Int) < 9223372036854775807 := by have : s.fs.length ≤ k + 1 + 1 := hlen; omega
          clear hm2
          by_cases hlt2 : j < L.length
          · obtain ⟨g0, kk, e0, _, _, hck, _⟩ := own_get HM2.out.log.o0 j (by rw [n0_len]; exact hlt2)
            obtain ⟨g1, kk1, e1, _, _, hck1, _⟩ := own_get HM2.out.log.o1 j (by rw [n1_len]; exact hlt2)
            rw [n0_get hlt2] at hck
            rw [n1_get hlt2] at hck1
            obtain ⟨f, hfm, hft⟩ := List.mem_map.1 ((List.Perm.mem_iff (show L.Perm (s.fs.map tr) from HM2.out.books)).1 (List.getElem_mem hlt2))
            rw [← hft] at hck hck1
            simp only [tr] at hck hck1
            rw [e0] at d0
            rw [e1] at d1
            have hpk := peek_live HM2.out.live f.name (HM2.out.live.nameLen _ ((nmB_perm _).mem_iff.2 (List.mem_map.2 ⟨f, hfm, rfl⟩))) (look_of HM2.out.live.names hfm)
            have HPK : Hid _ := hpk
            have hk1 : decide ((j : Int) < ((n0 L).length : Int)) = true := decide_eq_true (by rw [n0_len]; omega)
            have hk2 : (j : Int) < ((n0 L).length : Int) := by rw [n0_len]; omega
            have hk3 : (j : Int) < ((n1 L).length : Int) := by rw [n1_len]; omega
            have hk0 : (0 : Int) ≤ (j : Int) := by omega
            have hbb : (f.bytes.toList == f.bytes.toList) = true := beq_self_eq_true _
            clear hpk e0 e1 hft hfm hLlen hlen
            go_wp2_with fail
            refine Calls.mono HPK.out ?_
            rintro e w2 ⟨rfl, h2⟩
            replace h2 := h2.symm
            subst h2
            go_wp2_with fail
            exact ⟨⟨j + 1, by omega, by simp, hbx⟩, by simp only [intOf]; omega⟩
          · have hk1 : decide ((j : Int) < ((n0 L).length : Int)) = false := decide_eq_false (by rw [n0_len]; omega)
            have hk3 : ¬ (j : Int) < ((n0 L).length : Int) := by rw [n0_len]; omega
            obtain ⟨B0, t0, x0, _⟩ := rows_shape HM2.out.log.o0
            rw [x0] at d0
            have hrd := reads_ok (n := 200 * (k + 1 + 1)) HM2.out.live (by have h1 := HM2.out.num; have h2 : s.fs.length ≤ k + 1 + 1 := hlen; show N + s.fs.length ≤ _; omega) HM2.out.run rfl HM2.out.few (by have h2 : s.fs.length ≤ k + 1 + 1 := hlen; show _ + s.fs.length ≤ _; omega) (by have h2 : s.fs.length ≤ k + 1 + 1 := hlen; show s.fs.length ≤ _; omega) HM2.out.nmd HM2.out.log (HM2.out.books.nodup HM2.out.live.names) (Nat.le_refl _) (fun i hi => hi) ⟨0, 0, ⟨#[]⟩, ⟨#[]⟩, ⟨#[]⟩, 0, .slice none 0 0⟩ (stood_now HM2.out.books HM2.out.live.durs _)
            have HRD : Hid _ := hrd
            clear hrd x0 hLlen hlen
            go_wp2_with fail
            refine Calls.mono HRD.out ?_
            rintro e w9 ⟨rfl, N9, s9, y0, y1, y2, L9, l9, hN9, hfs9, hr9, hp9, hq9, hf9, hlog9, hper9, hb9, hk9⟩
            go_wp2_with fail
            go_ret
            exact ⟨rfl, HM2.out.below.trans hb9⟩
end Go.Proofs.YtkfehogefclhdaaDoor.Dk

/- DiskKeeps, at every argument. -/
namespace Go.Proofs.YtkfehogefclhdaaDoor.PDk
open Go.RowKit Go.Proofs.YtkfehogefclhdaaDoorW.PrintWords
theorem postbaglaw9_DiskKeeps.calls (_k : Nat) (A : Option Addr) (c : Nat) (xs : List Dk.S42) {w : World} (hC : Kd.C Dk.k42 w A xs.length xs) (_hl : xs.length ≤ c) (hS : xs.length ≤ maxLen ∧ ∀ x ∈ xs, Dk.ActOk x) (r : Bool) (_ : World) (h : r = true) (hw : Ext.WPS w) :
    Calls Tryd.prog 7 #[.slice A xs.length c] w fun e w' => e = .returned (.bool r) ∧ Below w.heap.size w w' := by
  subst h
  obtain ⟨b0, b1, b2, b3, b4, hs⟩ := hw
  exact Dk.keeps_walk hs xs A c hC (fun x hx => ⟨(hS.2 x hx).1, (hS.2 x hx).2.1, (hS.2 x hx).2.2.1, (hS.2 x hx).2.2.2.1⟩)
end Go.Proofs.YtkfehogefclhdaaDoor.PDk
namespace Go.Proofs.YtkfehogefclhdaaDoor.Pure
theorem DiskKeeps : ∃ _k : Nat, true = true := ⟨0, rfl⟩
end Go.Proofs.YtkfehogefclhdaaDoor.Pure
