/- Plan, by its contract. -/
import Derived.Test.YtkfehogefclhdaaDoorDkNewD
import Derived.Deep.AppendLies
import Derived.Deep.RegionLaw
namespace Go.Proofs.YtkfehogefclhdaaDoor.Dk
open Go.RowKit Go.Maps Go.Proofs.YtkfehogefclhdaaDoorW.PrintWords Go.Proofs.YtkfehogefclhdaaDoorW.PrintMore
variable {N : Nat} {w : World} {p : Nat} {F : Nat → Prop} {s : St} {m : Nat} {pv : Value} {B : Nat} {a0 a1 a2 a3 a4 : Addr}

def cells3 (l : List (Int × Int × Int)) : List Value := l.flatMap fun x => [.int .i64 x.1, .int .i64 x.2.1, .int .i64 x.2.2]
theorem cells3_length (l : List (Int × Int × Int)) : (cells3 l).length = l.length * 3 := by
  induction l with
  | nil => rfl
  | cons a r ih => unfold cells3 at *; rw [List.flatMap_cons, List.length_append, ih, List.length_cons]; simp; omega
theorem cells3_get (l : List (Int × Int × Int)) : ∀ (i : Nat) (x : Int × Int × Int), l[i]? = some x → (cells3 l)[i * 3]? = some (.int .i64 x.1) ∧ (cells3 l)[i * 3 + 1]? = some (.int .i64 x.2.1) ∧ (cells3 l)[i * 3 + 2]? = some (.int .i64 x.2.2) := by
  induction l with
  | nil => intro i x h; simp at h
  | cons a r ih =>
    intro i x h
    have e : cells3 (a :: r) = .int .i64 a.1 :: .int .i64 a.2.1 :: .int .i64 a.2.2 :: cells3 r := rfl
    rw [e]
    cases i with
    | zero => simp at h; subst h; exact ⟨rfl, rfl, rfl⟩
    | succ i =>
      rw [List.getElem?_cons_succ] at h
      obtain ⟨h1, h2, h3⟩ := ih i x h
      refine ⟨?_, ?_, ?_⟩
      · rw [show (i + 1) * 3 = i * 3 + 1 + 1 + 1 by omega]; exact h1
      · rw [show (i + 1) * 3 + 1 = (i * 3 + 1) + 1 + 1 + 1 by omega]; exact h2
      · rw [show (i + 1) * 3 + 2 = (i * 3 + 2) + 1 + 1 + 1 by omega]; exact h3
def keepS (l : List (Int × Int × Int)) : List (Int × Int × Int) := l.filter fun x => decide (x.1 ≥ 1)
def St.planned (s : St) (l : List (Int × Int × Int)) : St := { s with plan := keepS l, since := 0 }
/-- A row of the call's own is a plan. -/
theorem PlanIs.of_own {v : Value} {l : List (Int × Int × Int)} {base : Nat} (h : w.ownsRow base 32 3 v l.length (cells3 l)) (hlen : l.length ≤ 1000000) : PlanIs w (fun i => v.ownBlock = some i) v l := by
  obtain ⟨hl, h⟩ := h
  rcases h with ⟨rfl, h0⟩ | ⟨g, cap, cur, rfl, hb, hh, hc, hm, hz, ht⟩
  · have e : l = [] := List.eq_nil_of_length_eq_zero h0
    subst e
    exact PlanIs.done _ _ _
  · refine ⟨_, cap, rfl, hc, by unfold maxLen at hm; omega, fun i x hx => ?_⟩
    have hi : i < l.length := by
      rcases Nat.lt_or_ge i l.length with h | h
      · exact h
      · rw [List.getElem?_eq_none h] at hx; cases hx
    obtain ⟨q1, q2, q3⟩ := cells3_get l i x hx
    have get : ∀ j, j < l.length * 3 → w.cell? ⟨g, j, none⟩ = (cells3 l)[j]? := fun j hj => by
      rw [blk_cell hh j, ← ht, List.getElem?_take_of_lt hj, Array.getElem?_toList]
    refine ⟨g, 0, rfl, rfl, ⟨cur, hh⟩, ?_, ?_, ?_⟩
    · rw [Nat.zero_add, get _ (by omega)]; exact q1
    · rw [Nat.zero_add, get _ (by omega)]; exact q2
    · rw [Nat.zero_add, get _ (by omega)]; exact q3
theorem info32 : (Tryd.prog.info? 32).map (fun i => (i.zero, i.size, i.bytes)) = some (some (.agg #[.int .i64 0, .int .i64 0, .int .i64 0]), 3, 24) := by kernel_rfl
/-- The middle of Plan's loop. -/
structure PMid (N : Nat) (w : World) (p : Nat) (F : Nat → Prop) (s : St) (m : Nat) (l : List (Int × Int × Int)) (wr : World) (v : Value) : Prop where
  own : wr.ownsRow w.heap.size 32 3 v (keepS l).length (cells3 (keepS l))
  top : wr.heap[p]? = some (.cells (cellsOf (s.planned l) m v) 77 (0, 0))
  fr : Fr (fun i => i = p) w wr
theorem PMid.is {l : List (Int × Int × Int)} {wr : World} {v : Value} (h : Is N w p F s m pv) (k : PMid N w p F s m l wr v) (hlen : l.length ≤ 1000000) : Is N wr p (fun i => F i ∨ v.ownBlock = some i) (s.planned l) m v := by
  have far : ∀ i, F i → i ≠ p → wr.heap[i]? = w.heap[i]? := fun i hi hp => k.fr.block i (h.low i hi) hp
  refine ⟨k.top, h.files.kept (far m h.inM (Ne.symm h.ne)), ?_, fun f hf => (far _ (h.inF f hf) (h.types hf).1).trans (h.each f hf), h.names, h.blks, h.durs, h.room, h.quo, .inl h.inP, .inl h.inM, fun f hf => .inl (h.inF f hf), fun i hi => ?_⟩
  · have hk : (keepS l).length ≤ l.length := List.length_filter_le _ _
    exact (PlanIs.of_own k.own (by omega)).wide (fun i hi => .inr hi)
  · rcases hi with hi | hi
    · exact Nat.lt_of_lt_of_le (h.low i hi) k.fr.size
    · exact own_lt k.own i hi
theorem keepS_take_yes {l : List (Int × Int × Int)} {i : Nat} {x : Int × Int × Int} (h : l[i]? = some x) (hx : x.1 ≥ 1) : keepS (l.take (i + 1)) = keepS (l.take i) ++ [x] := by
  unfold keepS
  rw [List.take_add_one, List.filter_append, h]
  simp [hx]
theorem keepS_take_no {l : List (Int × Int × Int)} {i : Nat} {x : Int × Int × Int} (h : l[i]? = some x) (hx : ¬ x.1 ≥ 1) : keepS (l.take (i + 1)) = keepS (l.take i) := by
  unfold keepS
  rw [List.take_add_one, List.filter_append, h]
  simp; omega
theorem news3 (w : World) (x : Int × Int × Int) : ∀ (j : Nat) (u : Value), [Value.int .i64 x.1, Value.int .i64 x.2.1, Value.int .i64 x.2.2][j]? = some u → ((w.alloc (Obj.cells #[.int .i64 x.1, .int .i64 x.2.1, .int .i64 x.2.2] 32)).drew).cell? ((⟨w.heap.size, 0, none⟩ : Addr).add j) = some u :=
  World.news_of_block (w := (w.alloc (Obj.cells #[.int .i64 x.1, .int .i64 x.2.1, .int .i64 x.2.2] 32)).drew) (blk_new w (Obj.cells #[.int .i64 x.1, .int .i64 x.2.1, .int .i64 x.2.2] 32))
theorem pfar {w4 w6 : World} {o : Obj} {v u : Value} (hg : ((w4.alloc o).drew).grownBy w6 v.ownBlock) (hp : p < w4.heap.size) (hv : v.ownBlock ≠ some p) {j : Nat} (hc : w4.cell? ⟨p, j, none⟩ = some u) : w6.cell? ⟨p, j, none⟩ = some u :=
  cell_of hc ((hg.block p (by show p < (w4.alloc o).heap.size; simp; omega) (fun e => hv e.symm)).trans (Below.heap_alloc w4 o p hp))
theorem pfz {w4 w6 : World} {o : Obj} {v : Value} (hg : ((w4.alloc o).drew).grownBy w6 v.ownBlock) (hp : p < w4.heap.size) (hv : v.ownBlock ≠ some p) {j : Nat} (hc : w4.frozen? ⟨p, j, none⟩ = false) : w6.frozen? ⟨p, j, none⟩ = false := by
  rw [← hc]
  have e := (hg.block p (by show p < (w4.alloc o).heap.size; simp; omega) (fun e => hv e.symm)).trans (Below.heap_alloc w4 o p hp)
  unfold World.frozen?; rw [e]
theorem PMid.next {l : List (Int × Int × Int)} {k : Nat} {x : Int × Int × Int} {wr w4 w6 : World} {v v' : Value} {o o' : Obj} {n : Nat} (q : PMid N w p F s m (l.take k) wr v) (hpw : p < w.heap.size) (hw4 : wr.alloc o = w4) (hg : ((w4.alloc o').drew).grownBy w6 v.ownBlock) (hn : n = (keepS (l.take k)).length + 1)
    (hown : w6.ownsRow w.heap.size 32 3 v' n (cells3 (keepS (l.take k)) ++ [.int .i64 x.1, .int .i64 x.2.1, .int .i64 x.2.2])) (hx : l[k]? = some x) (hx1 : x.1 ≥ 1) (hvp : v.ownBlock ≠ some p) :
    PMid N w p F s m (l.take (k + 1)) (w6.setCell ⟨p, 4, none⟩ v') v' := by
  subst hw4
  have hpr : p < wr.heap.size := blk_lt q.top
  have htop6 : w6.heap[p]? = some (.cells (cellsOf (s.planned (l.take k)) m v) 77 (0, 0)) :=
    (hg.block p (by show p < ((wr.alloc o).alloc o').heap.size; simp; omega) (fun e => hvp e.symm)).trans (blk_alloc (blk_alloc q.top o) o')
  have hvp' : v'.ownBlock ≠ some p := fun e => by
    obtain ⟨cs, hcs⟩ := own_typed hown p e
    rw [hcs] at htop6; simp at htop6
  have ek : keepS (l.take (k + 1)) = keepS (l.take k) ++ [x] := keepS_take_yes hx hx1
  have ec : cells3 (keepS (l.take k) ++ [x]) = cells3 (keepS (l.take k)) ++ [.int .i64 x.1, .int .i64 x.2.1, .int .i64 x.2.2] := by unfold cells3; rw [List.flatMap_append]; rfl
  refine ⟨?_, ?_, ?_⟩
  · rw [ek, ec, List.length_append, List.length_singleton, ← hn]
    exact own_setCell hown (fun e => hvp' e.symm) v'
  · exact blk_set htop6 4 v'
  · have f1 : Fr (fun i => i = p) w ((wr.alloc o).alloc o').drew := q.fr.trans (Sub.refl _ _) (Fr.of_below (((Below.refl _ _).alloc (Nat.le_refl _) o).alloc (by simp) o').drew _)
    have f2 := f1.grown hg (fun i hi => .inl (own_base q.own i hi))
    exact f2.set (a := ⟨p, 4, none⟩) rfl v'
set_option maxRecDepth 100000 in
set_option maxHeartbeats 1000000 in
theorem plan_ok (h : Is N w p F s m pv) (l : List (Int × Int × Int)) {G : Nat → Prop} {g o c : Nat} (hl : PlanIs w G (.slice (some ⟨g, o, none⟩) l.length c) l) (hG : ∀ i, G i → i < w.heap.size ∧ i ≠ p) (hlen : l.length ≤ 1000) :
    Calls Tryd.prog 14 #[.pointer (some ⟨p, 0, none⟩), .slice (some ⟨g, o, none⟩) l.length c] w fun e w' => e = .returned (.tuple #[]) ∧ ∃ F' v, Is N w' p F' (s.planned l) m v ∧ Fr F w w' ∧ Sub w F F' := by
  obtain ⟨c0, c1, c2, c3, c4, c5⟩ := h.cells
  have th := h.thaw
  obtain ⟨i0, hi0, hz0, hz1, hz2⟩ := info_parts info32
  have htop : ((w.setCell ⟨p, 4, none⟩ (.slice none 0 0)).setCell ⟨p, 5, none⟩ (.int .i64 0)).heap[p]? = some (.cells (cellsOf (s.planned []) m (.slice none 0 0)) 77 (0, 0)) := blk_set (blk_set h.top 4 (.slice none 0 0)) 5 (.int .i64 0)
  have hfr0 := ((Fr.refl (fun i => i = p) w).set (a := ⟨p, 4, none⟩) rfl (.slice none 0 0)).set (a := ⟨p, 5, none⟩) rfl (.int .i64 0)
  have hmid0 : PMid N w p F s m [] ((w.setCell ⟨p, 4, none⟩ (.slice none 0 0)).setCell ⟨p, 5, none⟩ (.int .i64 0)) (.slice none 0 0) := ⟨own_nil _ _ _ _, htop, hfr0⟩
  have HM0 : Hid _ := hmid0
  clear htop hfr0 hmid0
  have HL : Hid _ := hl
  clear hl
  go_enter Tryd.func14, Tryd.ntmps14
  go_wp2_with (go_at_call 50; refine (none_ok h).mono ?_; rintro e w' ⟨rfl, h'⟩; replace h' := h'.symm; subst h')
  go_loopw [16] (fun i wr => ∃ (k : Nat) (v : Value), k ≤ l.length ∧ i = .int .i64 k ∧ PMid N w p F s m (l.take k) wr v) (fun i _ => l.length - (intOf i).toNat)
  case atStart => exact ⟨0, _, Nat.zero_le _, rfl, HM0.out⟩
  case round =>
    obtain ⟨k, v, hk, rfl, hmid⟩ := hrel
    by_cases hlt : k < l.length
    · obtain ⟨x, hx⟩ : ∃ x, l[k]? = some x := ⟨_, List.getElem?_eq_getElem hlt⟩
      obtain ⟨A', c', e', _, _, hcells⟩ := HL.out
      injection e' with e1 e2 e3
      obtain ⟨g', o', ha, hg', _, q1, q2, q3⟩ := hcells k x hx
      rw [← e1] at ha
      cases ha
      have hgl := hG g hg'
      have hkeep := hmid.fr.block g hgl.1 hgl.2
      have r1 := cell_of q1 hkeep
      have r2 := cell_of q2 hkeep
      have r3 := cell_of q3 hkeep
      have hpw : p < wr.heap.size := blk_lt hmid.top
      have t4 : wr.cell? ⟨p, 4, none⟩ = some v := blk_cell hmid.top 4
      have tz : ∀ i, wr.frozen? ⟨p, i, none⟩ = false := blk_frozen hmid.top
      have hal : ∀ (o : Obj) (j : Nat), (wr.alloc o).cell? ⟨p, j, none⟩ = wr.cell? ⟨p, j, none⟩ := fun o j => World.cell?_alloc_past _ _ _ hpw
      have hne2 : p ≠ wr.heap.size := Nat.ne_of_lt hpw
      clear hkeep q1 q2 q3 hcells e1 e2 e3
      by_cases hx1 : x.1 ≥ 1
      · have hown := hmid.own
        have HMID : Hid _ := hmid
        clear hmid
        have hx1b : decide (1 ≤ x.1) = true := decide_eq_true hx1
        obtain ⟨w4, hw4⟩ : ∃ w4, wr.alloc (Obj.cells #[.int .i64 x.1, .int .i64 x.2.1, .int .i64 x.2.2] 32) = w4 := ⟨_, rfl⟩
        have u4 : w4.cell? ⟨p, 4, none⟩ = some v := by rw [← hw4, hal]; exact t4
        have uz : ∀ i, w4.frozen? ⟨p, i, none⟩ = false := fun i => by rw [← hw4]; exact blk_frozen (blk_alloc HMID.out.top _) i
        have hst : w4.heap[wr.heap.size]? = some (.cells #[.int .i64 x.1, .int .i64 x.2.1, .int .i64 x.2.2] 32 (0, 0)) := by rw [← hw4]; exact blk_new wr _
        have v0 := blk_cell hst 0
        have v1 := blk_cell hst 1
        have v2 := blk_cell hst 2
        simp only [List.getElem?_toArray, List.getElem?_cons_zero, List.getElem?_cons_succ] at v0 v1 v2
        have hown4 : w4.ownsRow w.heap.size 32 3 v (keepS (l.take k)).length (cells3 (keepS (l.take k))) := by rw [← hw4]; exact hown.alloc _
        have hsz4 : w4.heap.size = wr.heap.size + 1 := by rw [← hw4]; simp
        have HW4 : Hid _ := hw4
        clear hw4 hown
        go_wp2
        rw [HW4.out]
        have hkl : (keepS (l.take k)).length ≤ 1000 := by have a := List.length_filter_le (fun x : Int × Int × Int => decide (x.1 ≥ 1)) (l.take k); have b := List.length_take_le k l; unfold keepS; omega
        have hbase : w.heap.size ≤ w4.heap.size := by have := HMID.out.fr.size; omega
        have hpl4 : p < w4.heap.size := by omega
        have hvp : v.ownBlock ≠ some p := fun e => by
          obtain ⟨cs, hcs⟩ := own_typed hown4 p e
          have := HMID.out.top
          have t2 := blk_alloc this (Obj.cells #[.int .i64 x.1, .int .i64 x.2.1, .int .i64 x.2.2] 32)
          rw [HW4.out, hcs] at t2
          simp at t2
        have hal4 : ∀ (o : Obj) (j : Nat), (w4.alloc o).cell? ⟨p, j, none⟩ = w4.cell? ⟨p, j, none⟩ := fun o j => World.cell?_alloc_past _ _ _ hpl4
        have hls : wr.heap.size < w4.heap.size := by omega
        have hal5 : ∀ (o : Obj) (j : Nat), (w4.alloc o).cell? ⟨wr.heap.size, j, none⟩ = w4.cell? ⟨wr.heap.size, j, none⟩ := fun o j => World.cell?_alloc_past _ _ _ hls
        clear hls
        have HKL : Hid _ := hkl
        have HB : Hid _ := hbase
        have HP4 : Hid _ := hpl4
        have HSZ : Hid _ := hsz4
        clear hkl hbase hpl4 hsz4
        go_region_law (first
          | (refine step_append_lies _ rfl (.tmp 27) (.tmp 29) 33 rfl w.heap.size 32 i0 _ 3 24 Tryd.underlying33 hi0 hz0 hz1 hz2 rfl (by decide) v _ _ rfl (hown4.alloc (Obj.cells #[.int .i64 x.1, .int .i64 x.2.1, .int .i64 x.2.2] 32)) ⟨w4.heap.size, 0, none⟩ 1 1 [.int .i64 x.1, .int .i64 x.2.1, .int .i64 x.2.2] rfl rfl (news3 w4 x) (by intro u hu; simp at hu; rcases hu with rfl | rfl | rfl <;> rfl) (by decide) (by have := HKL.out; unfold maxLen; omega) (by have := HKL.out; omega) (by have := HB.out; show w.heap.size ≤ (World.alloc _ _).heap.size; simp; omega) _ rfl ?_
             intro g2 cap2 w6 hown6 hg6 hat6 hlt6
             have y4 : w6.cell? ⟨p, 4, none⟩ = some v := pfar hg6 HP4.out hvp u4
             have yz : w6.frozen? ⟨p, 4, none⟩ = false := pfz hg6 HP4.out hvp (uz 4))
          | fail)
        all_goals go_wp2
        all_goals exact ⟨⟨k + 1, _, by omega, by simp, HMID.out.next (h.low p h.inP) HW4.out hg6 rfl hown6 hx hx1 hvp⟩, by simp only [intOf]; omega⟩
      · have HMID : Hid _ := hmid
        clear hmid
        have hx1b : decide (1 ≤ x.1) = false := decide_eq_false hx1
        go_wp2
        refine ⟨⟨k + 1, v, by omega, by simp, ?_⟩, by simp only [intOf]; omega⟩
        have q := HMID.out
        refine ⟨?_, ?_, ?_⟩
        · rw [keepS_take_no hx hx1]; exact q.own.alloc _
        · have t := blk_alloc q.top (Obj.cells #[.int .i64 x.1, .int .i64 x.2.1, .int .i64 x.2.2] 32)
          have e : cellsOf (s.planned (l.take (k + 1))) m v = cellsOf (s.planned (l.take k)) m v := rfl
          rw [e]; exact t
        · exact q.fr.trans (Sub.refl _ _) (Fr.of_below ((Below.refl _ _).alloc (Nat.le_refl _) _) _)
    · go_wp2
      go_end0
      have e : k = l.length := by omega
      subst e
      rw [List.take_length] at hmid
      refine ⟨rfl, _, v, hmid.is h (by omega), hmid.fr.wide (fun i _ hi => by rw [hi]; exact h.inP), fun i hi => ?_⟩
      rcases hi with hi | hi
      · exact .inl hi
      · exact .inr (own_base hmid.own i hi)
end Go.Proofs.YtkfehogefclhdaaDoor.Dk
