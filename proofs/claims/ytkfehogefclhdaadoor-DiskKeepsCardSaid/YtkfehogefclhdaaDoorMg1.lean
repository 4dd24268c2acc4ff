/- Contracts of the functions that the statement reaches, and plain lemmas: DkPlan, DkKnown, DkLive, DkKnow, DkSeq, DkLaw, PDrx, Opn, DkKinds, DkOpn, DkTrunc, DkTrunM, DkTru, DkDoes, DkActs, ShelfD, DkNames, PDlx0, PDlx1, DkBnd, DkTwin, DkBounds, PDbx, DkRows. -/
import Derived.Test.YtkfehogefclhdaaDoorMg0
import Derived.Deep.AppendLies
import Derived.Deep.RegionLaw
import Derived.Stop.IfaceNil
import Derived.Stop.LaidTwo
import Derived.Test.YtkfehogefclhdaaDoorProg
import Derived.Test.YtkfehogefclhdaaDoorWWords
import Derived.Deep.Slices
import Derived.ChangeArms
import Derived.SizedLaws
import Derived.Deep.QuietTactic
import Derived.BigQuiet
import Derived.Shelf.SlIter.Nil
import Derived.Shelf.SortM.Plain
import Derived.Shelf.SortM.SortNone
import Derived.Ground.GgzProg
import Derived.Ground.SlgmProg
import Derived.Below
import Derived.Deep.Draws
import Derived.Maps.AppendAt
import Derived.OwnWalk
import Derived.Laws.BytesArg
import Derived.Laws.MakeOwn
import Derived.Laws.OwnMore
import Derived.Deep.OwnRows
import Derived.Tactics
import Derived.Lib.ConvBytes
import Derived.Laws.Slices
import Derived.WalkKit
import Derived.KernelRfl
import Derived.RowKit3
import Derived.Deep.LoopGhost
import Derived.WideLaws
import Derived.Deep.DeepCutAuto
import Derived.Deep.CutBlock
import Derived.Deep.RegionHeld3
import Derived.Laws.Rows
import Derived.Lib.AppendStr
import Derived.ArgAppend
import Derived.Laws.IdiomCopy
import Derived.OrdersHeld
import Derived.Laws.BitsLemmas
import Derived.RowKit
import Derived.Test.YtkfehogefclhdaaDoorWLast
import Derived.Test.YtkfehogefclhdaaDoorWTab
import Derived.Test.YtkfehogefclhdaaDoorWFour
import Derived.Test.YtkfehogefclhdaaDoorWQPut
import Derived.Test.YtkfehogefclhdaaDoorWApart
import Derived.Test.YtkfehogefclhdaaDoorWArr
import Derived.Test.YtkfehogefclhdaaDoorWZeros
import Derived.Test.YtkfehogefclhdaaDoorWFoot
import Derived.Test.YtkfehogefclhdaaDoorWKept
import Derived.Test.YtkfehogefclhdaaDoorWShare
import Derived.Test.YtkfehogefclhdaaDoorWN
import Derived.Test.YtkfehogefclhdaaDoorWFootNe
import Derived.Test.YtkfehogefclhdaaDoorWAt
import Derived.Test.YtkfehogefclhdaaDoorWEqStruct
import Derived.Test.YtkfehogefclhdaaDoorWRepsOne
import Derived.Test.YtkfehogefclhdaaDoorWInv
import Derived.Test.YtkfehogefclhdaaDoorWInvWords
import Derived.Test.YtkfehogefclhdaaDoorWGuard
import Derived.Test.YtkfehogefclhdaaDoorWNEv
import Derived.Test.YtkfehogefclhdaaDoorWMore
import Derived.Deep.CutRange
set_option linter.unusedVariables false
/- Plan, by its contract. -/
namespace Go.Proofs.YtkfehogefclhdaaDoor.Dk
open Go.RowKit Go.Maps Go.Proofs.YtkfehogefclhdaaDoorW.PrintWords Go.Proofs.YtkfehogefclhdaaDoorW.PrintMore
variable {N : Nat} {w : World} {p : Nat} {F : Nat → Prop} {s : St} {m : Nat} {pv : Value} {B : Nat} {a0 a1 a2 a3 a4 : Addr}

def cells3 (l : List (Int × Int × Int)) : List Value := l.flatMap fun x => [.int .i64 x.1, .int .i64 x.2.1, .int .i64 x.2.2]
theorem cells3_length (l : List (Int × Int × Int)) : (cells3 l).length = l.length * 3 := by
  induction l with
  | nil => rfl
  | cons a r ih => unfold cells3 at *; rw [List.flatMap_cons, List.length_append, ih, List.length_cons]; simp; omega
theorem cells3_get (l : List (Int × Int × Int)) : ∀ (i : Nat) (x : Int × Int × Int), l[i]? = some x → (cells3 l)[i * 3]? = some (.int .i64 x.1) ∧ (cells3 l)[i * 3 + 1]? = some (.int .i64 x.2.1) ∧ (cells3 l)[i * 3 + 2]? = some (.int .i64 x.2.2) := by
  induction l with
  | nil => intro i x h; simp at h
  | cons a r ih =>
    intro i x h
    have e : cells3 (a :: r) = .int .i64 a.1 :: .int .i64 a.2.1 :: .int .i64 a.2.2 :: cells3 r := rfl
    rw [e]
    cases i with
    | zero => simp at h; subst h; exact ⟨rfl, rfl, rfl⟩
    | succ i =>
      rw [List.getElem?_cons_succ] at h
      obtain ⟨h1, h2, h3⟩ := ih i x h
      refine ⟨?_, ?_, ?_⟩
      · rw [show (i + 1) * 3 = i * 3 + 1 + 1 + 1 by omega]; exact h1
      · rw [show (i + 1) * 3 + 1 = (i * 3 + 1) + 1 + 1 + 1 by omega]; exact h2
      · rw [show (i + 1) * 3 + 2 = (i * 3 + 2) + 1 + 1 + 1 by omega]; exact h3
def keepS (l : List (Int × Int × Int)) : List (Int × Int × Int) := l.filter fun x => decide (x.1 ≥ 1)
def St.planned (s : St) (l : List (Int × Int × Int)) : St := { s with plan := keepS l, since := 0 }
/-- A row of the call's own is a plan. -/
theorem PlanIs.of_own {v : Value} {l : List (Int × Int × Int)} {base : Nat} (h : w.ownsRow base 32 3 v l.length (cells3 l)) (hlen : l.length ≤ 9223372036854775807) : PlanIs w (fun i => v.ownBlock = some i) v l := by
  obtain ⟨hl, h⟩ := h
  rcases h with ⟨rfl, h0⟩ | ⟨g, cap, cur, rfl, hb, hh, hc, hm, hz, ht⟩
  · have e : l = [] := List.eq_nil_of_length_eq_zero h0
    subst e
    exact PlanIs.done _ _ _
  · refine ⟨_, cap, rfl, hc, by unfold maxLen at hm; omega, fun i x hx => ?_⟩
    have hi : i < l.length := by
      rcases Nat.lt_or_ge i l.length with h | h
      · exact h
      · rw [List.getElem?_eq_none h] at hx; cases hx
    obtain ⟨q1, q2, q3⟩ := cells3_get l i x hx
    have get : ∀ j, j < l.length * 3 → w.cell? ⟨g, j, none⟩ = (cells3 l)[j]? := fun j hj => by
      rw [blk_cell hh j, ← ht, List.getElem?_take_of_lt hj, Array.getElem?_toList]
    refine ⟨g, 0, rfl, rfl, ⟨cur, hh⟩, ?_, ?_, ?_⟩
    · rw [Nat.zero_add, get _ (by omega)]; exact q1
    · rw [Nat.zero_add, get _ (by omega)]; exact q2
    · rw [Nat.zero_add, get _ (by omega)]; exact q3
theorem info32 : (Tryd.prog.info? 32).map (fun i => (i.zero, i.size, i.bytes)) = some (some (.agg #[.int .i64 0, .int .i64 0, .int .i64 0]), 3, 24) := by kernel_rfl
/-- The middle of Plan's loop. -/
structure PMid (N : Nat) (w : World) (p : Nat) (F : Nat → Prop) (s : St) (m : Nat) (l : List (Int × Int × Int)) (wr : World) (v : Value) : Prop where
  own : wr.ownsRow w.heap.size 32 3 v (keepS l).length (cells3 (keepS l))
  top : wr.heap[p]? = some (.cells (cellsOf (s.planned l) m v) 77 (0, 0))
  fr : Fr (fun i => i = p) w wr
theorem PMid.is {l : List (Int × Int × Int)} {wr : World} {v : Value} (h : Is N w p F s m pv) (k : PMid N w p F s m l wr v) (hlen : l.length ≤ 9223372036854775807) : Is N wr p (fun i => F i ∨ v.ownBlock = some i) (s.planned l) m v := by
  have far : ∀ i, F i → i ≠ p → wr.heap[i]? = w.heap[i]? := fun i hi hp => k.fr.block i (h.low i hi) hp
  refine ⟨k.top, h.files.kept (far m h.inM (Ne.symm h.ne)), ?_, fun f hf => (far _ (h.inF f hf) (h.types hf).1).trans (h.each f hf), h.names, h.blks, h.durs, h.room, h.quo, .inl h.inP, .inl h.inM, fun f hf => .inl (h.inF f hf), fun i hi => ?_⟩
  · have hk : (keepS l).length ≤ l.length := List.length_filter_le _ _
    exact (PlanIs.of_own k.own (by omega)).wide (fun i hi => .inr hi)
  · rcases hi with hi | hi
    · exact Nat.lt_of_lt_of_le (h.low i hi) k.fr.size
    · exact own_lt k.own i hi
theorem keepS_take_yes {l : List (Int × Int × Int)} {i : Nat} {x : Int × Int × Int} (h : l[i]? = some x) (hx : x.1 ≥ 1) : keepS (l.take (i + 1)) = keepS (l.take i) ++ [x] := by
  unfold keepS
  rw [List.take_add_one, List.filter_append, h]
  simp [hx]
theorem keepS_take_no {l : List (Int × Int × Int)} {i : Nat} {x : Int × Int × Int} (h : l[i]? = some x) (hx : ¬ x.1 ≥ 1) : keepS (l.take (i + 1)) = keepS (l.take i) := by
  unfold keepS
  rw [List.take_add_one, List.filter_append, h]
  simp; omega
theorem news3 (w : World) (x : Int × Int × Int) : ∀ (j : Nat) (u : Value), [Value.int .i64 x.1, Value.int .i64 x.2.1, Value.int .i64 x.2.2][j]? = some u → ((w.alloc (Obj.cells #[.int .i64 x.1, .int .i64 x.2.1, .int .i64 x.2.2] 32)).drew).cell? ((⟨w.heap.size, 0, none⟩ : Addr).add j) = some u :=
  World.news_of_block (w := (w.alloc (Obj.cells #[.int .i64 x.1, .int .i64 x.2.1, .int .i64 x.2.2] 32)).drew) (blk_new w (Obj.cells #[.int .i64 x.1, .int .i64 x.2.1, .int .i64 x.2.2] 32))
theorem pfar {w4 w6 : World} {o : Obj} {v u : Value} (hg : ((w4.alloc o).drew).grownBy w6 v.ownBlock) (hp : p < w4.heap.size) (hv : v.ownBlock ≠ some p) {j : Nat} (hc : w4.cell? ⟨p, j, none⟩ = some u) : w6.cell? ⟨p, j, none⟩ = some u :=
  cell_of hc ((hg.block p (by show p < (w4.alloc o).heap.size; simp; omega) (fun e => hv e.symm)).trans (Below.heap_alloc w4 o p hp))
theorem pfz {w4 w6 : World} {o : Obj} {v : Value} (hg : ((w4.alloc o).drew).grownBy w6 v.ownBlock) (hp : p < w4.heap.size) (hv : v.ownBlock ≠ some p) {j : Nat} (hc : w4.frozen? ⟨p, j, none⟩ = false) : w6.frozen? ⟨p, j, none⟩ = false := by
  rw [← hc]
  have e := (hg.block p (by show p < (w4.alloc o).heap.size; simp; omega) (fun e => hv e.symm)).trans (Below.heap_alloc w4 o p hp)
  unfold World.frozen?; rw [e]
theorem PMid.next {l : List (Int × Int × Int)} {k : Nat} {x : Int × Int × Int} {wr w4 w6 : World} {v v' : Value} {o o' : Obj} {n : Nat} (q : PMid N w p F s m (l.take k) wr v) (hpw : p < w.heap.size) (hw4 : wr.alloc o = w4) (hg : ((w4.alloc o').drew).grownBy w6 v.ownBlock) (hn : n = (keepS (l.take k)).length + 1)
    (hown : w6.ownsRow w.heap.size 32 3 v' n (cells3 (keepS (l.take k)) ++ [.int .i64 x.1, .int .i64 x.2.1, .int .i64 x.2.2])) (hx : l[k]? = some x) (hx1 : x.1 ≥ 1) (hvp : v.ownBlock ≠ some p) :
    PMid N w p F s m (l.take (k + 1)) (w6.setCell ⟨p, 4, none⟩ v') v' := by
  subst hw4
  have hpr : p < wr.heap.size := blk_lt q.top
  have htop6 : w6.heap[p]? = some (.cells (cellsOf (s.planned (l.take k)) m v) 77 (0, 0)) :=
    (hg.block p (by show p < ((wr.alloc o).alloc o').heap.size; simp; omega) (fun e => hvp e.symm)).trans (blk_alloc (blk_alloc q.top o) o')
  have hvp' : v'.ownBlock ≠ some p := fun e => by
    obtain ⟨cs, hcs⟩ := own_typed hown p e
    rw [hcs] at htop6; simp at htop6
  have ek : keepS (l.take (k + 1)) = keepS (l.take k) ++ [x] := keepS_take_yes hx hx1
  have ec : cells3 (keepS (l.take k) ++ [x]) = cells3 (keepS (l.take k)) ++ [.int .i64 x.1, .int .i64 x.2.1, .int .i64 x.2.2] := by unfold cells3; rw [List.flatMap_append]; rfl
  refine ⟨?_, ?_, ?_⟩
  · rw [ek, ec, List.length_append, List.length_singleton, ← hn]
    exact own_setCell hown (fun e => hvp' e.symm) v'
  · exact blk_set htop6 4 v'
  · have f1 : Fr (fun i => i = p) w ((wr.alloc o).alloc o').drew := q.fr.trans (Sub.refl _ _) (Fr.of_below (((Below.refl _ _).alloc (Nat.le_refl _) o).alloc (by simp) o').drew _)
    have f2 := f1.grown hg (fun i hi => .inl (own_base q.own i hi))
    exact f2.set (a := ⟨p, 4, none⟩) rfl v'
set_option maxRecDepth 100000 in
set_option maxHeartbeats 1000000 in
theorem plan_ok (h : Is N w p F s m pv) (l : List (Int × Int × Int)) {G : Nat → Prop} {A : Option Addr} {c : Nat} (hl : PlanIs w G (.slice A l.length c) l) (hG : ∀ i, G i → i < w.heap.size ∧ i ≠ p) (hlen : l.length * 24 ≤ 140737488351232) :
    Calls Tryd.prog 14 #[.pointer (some ⟨p, 0, none⟩), .slice A l.length c] w fun e w' => e = .returned (.tuple #[]) ∧ ∃ F' v, Is N w' p F' (s.planned l) m v ∧ Fr F w w' ∧ Sub w F F' := by
  obtain ⟨c0, c1, c2, c3, c4, c5⟩ := h.cells
  have th := h.thaw
  obtain ⟨i0, hi0, hz0, hz1, hz2⟩ := info_parts info32
  have htop : ((w.setCell ⟨p, 4, none⟩ (.slice none 0 0)).setCell ⟨p, 5, none⟩ (.int .i64 0)).heap[p]? = some (.cells (cellsOf (s.planned []) m (.slice none 0 0)) 77 (0, 0)) := blk_set (blk_set h.top 4 (.slice none 0 0)) 5 (.int .i64 0)
  have hfr0 := ((Fr.refl (fun i => i = p) w).set (a := ⟨p, 4, none⟩) rfl (.slice none 0 0)).set (a := ⟨p, 5, none⟩) rfl (.int .i64 0)
  have hmid0 : PMid N w p F s m [] ((w.setCell ⟨p, 4, none⟩ (.slice none 0 0)).setCell ⟨p, 5, none⟩ (.int .i64 0)) (.slice none 0 0) := ⟨own_nil _ _ _ _, htop, hfr0⟩
  have HM0 : Hid _ := hmid0
  clear htop hfr0 hmid0
  have HL : Hid _ := hl
  clear hl
  go_enter Tryd.func14, Tryd.ntmps14
  go_wp2_with (go_at_call 50; refine (none_ok h).mono ?_; rintro e w' ⟨rfl, h'⟩; replace h' := h'.symm; subst h')
  go_loopw [16] (fun i wr => ∃ (k : Nat) (v : Value), k ≤ l.length ∧ i = .int .i64 k ∧ PMid N w p F s m (l.take k) wr v) (fun i _ => l.length - (intOf i).toNat)
  case atStart => exact ⟨0, _, Nat.zero_le _, rfl, HM0.out⟩
  case round =>
    obtain ⟨k, v, hk, rfl, hmid⟩ := hrel
    by_cases hlt : k < l.length
    · obtain ⟨x, hx⟩ : ∃ x, l[k]? = some x := ⟨_, List.getElem?_eq_getElem hlt⟩
      obtain ⟨A', c', e', _, _, hcells⟩ := HL.out
      injection e' with e1 e2 e3
      obtain ⟨g', o', ha, hg', _, q1, q2, q3⟩ := hcells k x hx
      rw [← e1] at ha
      cases ha
      have hgl := hG g' hg'
      have hkeep := hmid.fr.block g' hgl.1 hgl.2
      have r1 := cell_of q1 hkeep
      have r2 := cell_of q2 hkeep
      have r3 := cell_of q3 hkeep
      have hpw : p < wr.heap.size := blk_lt hmid.top
      have t4 : wr.cell? ⟨p, 4, none⟩ = some v := blk_cell hmid.top 4
      have tz : ∀ i, wr.frozen? ⟨p, i, none⟩ = false := blk_frozen hmid.top
      have hal : ∀ (o : Obj) (j : Nat), (wr.alloc o).cell? ⟨p, j, none⟩ = wr.cell? ⟨p, j, none⟩ := fun o j => World.cell?_alloc_past _ _ _ hpw
      have hne2 : p ≠ wr.heap.size := Nat.ne_of_lt hpw
      clear hkeep q1 q2 q3 hcells e1 e2 e3
      by_cases hx1 : x.1 ≥ 1
      · have hown := hmid.own
        have HMID : Hid _ := hmid
        clear hmid
        have hx1b : decide (1 ≤ x.1) = true := decide_eq_true hx1
        obtain ⟨w4, hw4⟩ : ∃ w4, wr.alloc (Obj.cells #[.int .i64 x.1, .int .i64 x.2.1, .int .i64 x.2.2] 32) = w4 := ⟨_, rfl⟩
        have u4 : w4.cell? ⟨p, 4, none⟩ = some v := by rw [← hw4, hal]; exact t4
        have uz : ∀ i, w4.frozen? ⟨p, i, none⟩ = false := fun i => by rw [← hw4]; exact blk_frozen (blk_alloc HMID.out.top _) i
        have hst : w4.heap[wr.heap.size]? = some (.cells #[.int .i64 x.1, .int .i64 x.2.1, .int .i64 x.2.2] 32 (0, 0)) := by rw [← hw4]; exact blk_new wr _
        have v0 := blk_cell hst 0
        have v1 := blk_cell hst 1
        have v2 := blk_cell hst 2
        simp only [List.getElem?_toArray, List.getElem?_cons_zero, List.getElem?_cons_succ] at v0 v1 v2
        have hown4 : w4.ownsRow w.heap.size 32 3 v (keepS (l.take k)).length (cells3 (keepS (l.take k))) := by rw [← hw4]; exact hown.alloc _
        have hsz4 : w4.heap.size = wr.heap.size + 1 := by rw [← hw4]; simp
        have HW4 : Hid _ := hw4
        clear hw4 hown
        go_wp2
        rw [HW4.out]
        have hkl : (keepS (l.take k)).length * 24 + 24 ≤ 140737488351232 := by have a := List.length_filter_le (fun x : Int × Int × Int => decide (x.1 ≥ 1)) (l.take k); have b := List.length_take_le k l; unfold keepS; omega
        have hbase : w.heap.size ≤ w4.heap.size := by have := HMID.out.fr.size; omega
        have hpl4 : p < w4.heap.size := by omega
        have hvp : v.ownBlock ≠ some p := fun e => by
          obtain ⟨cs, hcs⟩ := own_typed hown4 p e
          have := HMID.out.top
          have t2 := blk_alloc this (Obj.cells #[.int .i64 x.1, .int .i64 x.2.1, .int .i64 x.2.2] 32)
          rw [HW4.out, hcs] at t2
          simp at t2
        have hal4 : ∀ (o : Obj) (j : Nat), (w4.alloc o).cell? ⟨p, j, none⟩ = w4.cell? ⟨p, j, none⟩ := fun o j => World.cell?_alloc_past _ _ _ hpl4
        have hls : wr.heap.size < w4.heap.size := by omega
        have hal5 : ∀ (o : Obj) (j : Nat), (w4.alloc o).cell? ⟨wr.heap.size, j, none⟩ = w4.cell? ⟨wr.heap.size, j, none⟩ := fun o j => World.cell?_alloc_past _ _ _ hls
        clear hls
        have HKL : Hid _ := hkl
        have HB : Hid _ := hbase
        have HP4 : Hid _ := hpl4
        have HSZ : Hid _ := hsz4
        clear hkl hbase hpl4 hsz4
        go_region_law (first
          | (refine step_append_lies _ rfl (.tmp 27) (.tmp 29) 33 rfl w.heap.size 32 i0 _ 3 24 Tryd.underlying33 hi0 hz0 hz1 hz2 rfl (by decide) v _ _ rfl (hown4.alloc (Obj.cells #[.int .i64 x.1, .int .i64 x.2.1, .int .i64 x.2.2] 32)) ⟨w4.heap.size, 0, none⟩ 1 1 [.int .i64 x.1, .int .i64 x.2.1, .int .i64 x.2.2] rfl rfl (news3 w4 x) (by intro u hu; simp at hu; rcases hu with rfl | rfl | rfl <;> rfl) (by decide) (by have := HKL.out; unfold maxLen; omega) (by have := HKL.out; omega) (by have := HB.out; show w.heap.size ≤ (World.alloc _ _).heap.size; simp; omega) _ rfl ?_
             intro g2 cap2 w6 hown6 hg6 hat6 hlt6
             have y4 : w6.cell? ⟨p, 4, none⟩ = some v := pfar hg6 HP4.out hvp u4
             have yz : w6.frozen? ⟨p, 4, none⟩ = false := pfz hg6 HP4.out hvp (uz 4))
          | fail)
        all_goals go_wp2
        all_goals exact ⟨⟨k + 1, _, by omega, by simp, HMID.out.next (h.low p h.inP) HW4.out hg6 rfl hown6 hx hx1 hvp⟩, by simp only [intOf]; omega⟩
      · have HMID : Hid _ := hmid
        clear hmid
        have hx1b : decide (1 ≤ x.1) = false := decide_eq_false hx1
        go_wp2
        refine ⟨⟨k + 1, v, by omega, by simp, ?_⟩, by simp only [intOf]; omega⟩
        have q := HMID.out
        refine ⟨?_, ?_, ?_⟩
        · rw [keepS_take_no hx hx1]; exact q.own.alloc _
        · have t := blk_alloc q.top (Obj.cells #[.int .i64 x.1, .int .i64 x.2.1, .int .i64 x.2.2] 32)
          have e : cellsOf (s.planned (l.take (k + 1))) m v = cellsOf (s.planned (l.take k)) m v := rfl
          rw [e]; exact t
        · exact q.fr.trans (Sub.refl _ _) (Fr.of_below ((Below.refl _ _).alloc (Nat.le_refl _) _) _)
    · go_wp2
      go_end0
      have e : k = l.length := by omega
      subst e
      rw [List.take_length] at hmid
      refine ⟨rfl, _, v, hmid.is h (by omega), hmid.fr.wide (fun i _ hi => by rw [hi]; exact h.inP), fun i hi => ?_⟩
      rcases hi with hi | hi
      · exact .inl hi
      · exact .inr (own_base hmid.own i hi)
end Go.Proofs.YtkfehogefclhdaaDoor.Dk

/- known, by its contract: it is true. -/
namespace Go.Proofs.YtkfehogefclhdaaDoor.Dk
open Go.RowKit Go.Maps Go.Proofs.YtkfehogefclhdaaDoorW.PrintWords Go.Proofs.YtkfehogefclhdaaDoorW.PrintMore Go.Proofs.YtkfehogefclhdaaDoor.PNm
variable {N : Nat} {w : World} {p : Nat} {F : Nat → Prop} {s : St} {m : Nat} {pv : Value} {B : Nat} {a0 a1 a2 a3 a4 : Addr}

theorem OpRes.calm_ok {code : Int} {Pf : Int → List Fil → Prop} {Wf : List Fil → Prop} {v : Value} {w' : World} (h : OpRes N w p F s m a0 a1 a2 a3 a4 code Pf Wf v w') (hr : s.run = true) (hp : s.plan = []) (h0 : code = 0) :
    v = .nilIface ∧ ∃ F' fs' pv', Wf fs' ∧ Is (N + 1) w' p F' { s.tick with fs := fs' } m pv' ∧ Fr F w w' ∧ Sub w F F' := by
  obtain ⟨F', s', pv', h1, h2, h3, h4⟩ := h
  cases h4 with
  | down a b => rw [hr] at a; cases a
  | due a b c d e f => rw [hp] at b; cases b
  | err a b c d => exact absurd h0 c
  | ok a b c d e => exact ⟨d, F', _, pv', e, h1, h2, h3⟩
theorem OpRes.calm_err {code : Int} {Pf : Int → List Fil → Prop} {Wf : List Fil → Prop} {v : Value} {w' : World} (h : OpRes N w p F s m a0 a1 a2 a3 a4 code Pf Wf v w') (hr : s.run = true) (hp : s.plan = []) (h0 : code ≠ 0) :
    IsErr w' v (why a0 a1 a2 a3 a4 code) ∧ ∃ F' pv', Is (N + 1) w' p F' s.tick m pv' ∧ Fr F w w' ∧ Sub w F F' := by
  obtain ⟨F', s', pv', h1, h2, h3, h4⟩ := h
  cases h4 with
  | down a b => rw [hr] at a; cases a
  | due a b c d e f => rw [hp] at b; cases b
  | err a b c d => exact ⟨d, F', pv', h1, h2, h3⟩
  | ok a b c d e => exact absurd c h0
def bA : ByteArray := ⟨#[97]⟩
def bUp : ByteArray := ⟨#[65]⟩
def bHello : ByteArray := ⟨#[104, 101, 108, 108, 111]⟩
theorem name_a : nameB ⟨#[97]⟩ = true := name_eq (k := 20) (by decide +kernel)
theorem name_up : nameB ⟨#[65]⟩ = false := name_eq (k := 20) (by decide +kernel)
theorem name_box : nameB ⟨#[98, 111, 120]⟩ = true := name_eq (k := 20) (by decide +kernel)
theorem name_tmp : nameB ⟨#[98, 111, 120, 46, 116, 109, 112]⟩ = true := name_eq (k := 20) (by decide +kernel)
theorem name_nobody : nameB ⟨#[110, 111, 98, 111, 100, 121]⟩ = true := name_eq (k := 20) (by decide +kernel)
theorem cut_all (data : ByteArray) : cutD data data.size = data := by
  unfold cutD
  rw [Int.toNat_natCast, Nat.min_self, ByteArray.extract_zero_size]
/-- What was old is old still. -/
theorem low_step {w w' : World} {F F' : Nat → Prop} {B : Nat} (hF : ∀ i, F i → B ≤ i) (hB : B ≤ w.heap.size) (hs : Sub w F F') : ∀ i, F' i → B ≤ i := fun i hi => by
  rcases hs i hi with h | h
  · exact hF i h
  · omega
end Go.Proofs.YtkfehogefclhdaaDoor.Dk

/- A disk that lives: its methods as a law's walk uses them. -/
namespace Go.Proofs.YtkfehogefclhdaaDoor.Dk
open Go.RowKit Go.Maps Go.Proofs.YtkfehogefclhdaaDoorW.PrintWords Go.Proofs.YtkfehogefclhdaaDoorW.PrintMore
variable {N : Nat} {w : World} {p : Nat} {F : Nat → Prop} {s : St} {m : Nat} {pv : Value} {B : Nat} {a0 a1 a2 a3 a4 : Addr} {K : Nat → Prop}

/-- The disk at block p is in the state s; K: blocks of others that it never writes. -/
def Live (B N : Nat) (w : World) (p : Nat) (K : Nat → Prop) (s : St) (a0 a1 a2 a3 a4 : Addr) : Prop :=
  ∃ F m pv, Is N w p F s m pv ∧ (∀ i, F i → B ≤ i ∧ ¬ K i) ∧ (∀ i, K i → i < w.heap.size) ∧ Sens w B a0 a1 a2 a3 a4 ∧ B ≤ w.heap.size
/-- What a step leaves of others' memory. -/
structure Step (B : Nat) (K : Nat → Prop) (w w' : World) : Prop where
  below : Below B w w'
  kept : ∀ i, K i → w'.heap[i]? = w.heap[i]?
theorem Step.refl (B : Nat) (K : Nat → Prop) (w : World) : Step B K w w := ⟨Below.refl _ _, fun _ _ => rfl⟩
theorem Step.trans {w1 w2 : World} (h : Step B K w w1) (k : Step B K w1 w2) : Step B K w w2 := ⟨h.below.trans k.below, fun i hi => (k.kept i hi).trans (h.kept i hi)⟩
theorem Live.move {w' : World} {F' : Nat → Prop} {s' : St} {N' : Nat} {m' : Nat} {pv' : Value} (hF : ∀ i, F i → B ≤ i ∧ ¬ K i) (hK : ∀ i, K i → i < w.heap.size) (hS : Sens w B a0 a1 a2 a3 a4) (hB : B ≤ w.heap.size) (h1 : Is N' w' p F' s' m' pv') (h2 : Fr F w w') (h3 : Sub w F F') :
    Live B N' w' p K s' a0 a1 a2 a3 a4 ∧ Step B K w w' := by
  have hb : Below B w w' := h2.below (fun i hi => (hF i hi).1) hB
  refine ⟨⟨F', m', pv', h1, fun i hi => ?_, fun i hi => Nat.lt_of_lt_of_le (hK i hi) h2.size, hS.below hb, Nat.le_trans hB h2.size⟩, hb, fun i hi => h2.block i (hK i hi) (fun e => (hF i e).2 hi)⟩
  rcases h3 i hi with h | h
  · exact hF i h
  · exact ⟨Nat.le_trans hB h, fun hk => by have := hK i hk; omega⟩
theorem Live.drift {w' : World} (h : Live B N w p K s a0 a1 a2 a3 a4) (hb : Below w.heap.size w w') : Live B N w' p K s a0 a1 a2 a3 a4 ∧ Step B K w w' := by
  obtain ⟨F, m, pv, h1, h2, h3, h4, h5⟩ := h
  exact Live.move h2 h3 h4 h5 (h1.below hb) (Fr.of_below hb F) (Sub.refl _ _)
/-- A block of another's is kept from now on. -/
theorem Live.add (h : Live B N w p K s a0 a1 a2 a3 a4) {q : Nat} {cs : Array Value} {t : TypeId} (hq : w.heap[q]? = some (.cells cs t (0, 0))) (ht : t ≠ 77 ∧ t ≠ 81 ∧ t ≠ 32) : Live B N w p (fun i => K i ∨ i = q) s a0 a1 a2 a3 a4 := by
  obtain ⟨F, m, pv, h1, h2, h3, h4, h5⟩ := h
  have e1 : p ≠ q := fun e => by have := h1.top; rw [e, hq] at this; simp at this; exact ht.1 this.2
  have e2 : m ≠ q := fun e => by obtain ⟨D, ⟨es, clock, hb, _⟩, _⟩ := h1.files; rw [e, hq] at hb; cases hb
  have e3 : ∀ f ∈ s.fs, f.blk ≠ q := fun f hf e => by have := h1.each f hf; rw [e, hq] at this; simp at this; exact ht.2.1 this.2
  refine ⟨fun i => F i ∧ i ≠ q, m, pv, ⟨h1.top, h1.files, ?_, h1.each, h1.names, h1.blks, h1.durs, h1.room, h1.quo, ⟨h1.inP, e1⟩, ⟨h1.inM, e2⟩, fun f hf => ⟨h1.inF f hf, e3 f hf⟩, fun i hi => h1.low i hi.1⟩, fun i hi => ⟨(h2 i hi.1).1, fun e => ?_⟩, fun i hi => ?_, h4, h5⟩
  · obtain ⟨A, c, e, k1, k2, k3⟩ := h1.plan
    refine ⟨A, c, e, k1, k2, fun i x hx => ?_⟩
    obtain ⟨g, o, ha, hg, ⟨cs', k0⟩, r⟩ := k3 i x hx
    exact ⟨g, o, ha, ⟨hg, fun e => by rw [e, hq] at k0; simp at k0; exact ht.2.2 k0.2⟩, ⟨cs', k0⟩, r⟩
  · rcases e with e | e
    · exact (h2 i hi.1).2 e
    · exact hi.2 e
  · rcases hi with hi | rfl
    · exact h3 i hi
    · exact blk_lt hq
/-- What an operation tells. -/
def Did (B N : Nat) (w : World) (p : Nat) (K : Nat → Prop) (s : St) (a0 a1 a2 a3 a4 : Addr) (code : Int) (Pf : Int → List Fil → Prop) (Wf : List Fil → Prop) (v : Value) (w' : World) : Prop :=
  ∃ s', Live B (N + 1) w' p K s' a0 a1 a2 a3 a4 ∧ Step B K w w' ∧ Done s a0 a1 a2 a3 a4 code Pf Wf w' v s'
structure Small (s : St) : Prop where
  s0 : 0 ≤ s.steps
  s1 : s.steps < 1000000000000
  s2 : 0 ≤ s.since
  s3 : s.since < 1000000000000
theorem OpRes.did {F : Nat → Prop} {m : Nat} {code : Int} {Pf : Int → List Fil → Prop} {Wf : List Fil → Prop} {v : Value} {w' : World} (hF : ∀ i, F i → B ≤ i ∧ ¬ K i) (hK : ∀ i, K i → i < w.heap.size) (hS : Sens w B a0 a1 a2 a3 a4) (hB : B ≤ w.heap.size) (hr : OpRes N w p F s m a0 a1 a2 a3 a4 code Pf Wf v w') :
    Did B N w p K s a0 a1 a2 a3 a4 code Pf Wf v w' := by
  obtain ⟨F', s', pv', h1, h2, h3, h4⟩ := hr
  obtain ⟨q1, q2⟩ := Live.move hF hK hS hB h1 h2 h3
  exact ⟨s', q1, q2, h4⟩
theorem append_live (h : Live B N w p K s a0 a1 a2 a3 a4) (hN : N < maxLen) (hs : Small s) (x data : ByteArray) (hx : x.size ≤ 140737488351232) (hd : data.size ≤ 140737488351232) :
    Calls Tryd.prog 12 #[.pointer (some ⟨p, 0, none⟩), .string x, .string data] w fun e w' => ∃ v, e = .returned v ∧ Did B N w p K s a0 a1 a2 a3 a4 (appC s x data) (AppF s.fs x data) (AppF s.fs x data data.size) v w' := by
  obtain ⟨F, m, pv, h1, h2, h3, h4, h5⟩ := h
  refine (append_ok h1 hN h4 (fun i hi => (h2 i hi).1) hs.s0 hs.s1 hs.s2 hs.s3 x data hx hd).mono ?_
  rintro e w' ⟨v, rfl, hr⟩
  exact ⟨v, rfl, hr.did h2 h3 h4 h5⟩
theorem sync_live (h : Live B N w p K s a0 a1 a2 a3 a4) (hs : Small s) (x : ByteArray) (hx : x.size ≤ 140737488351232) :
    Calls Tryd.prog 13 #[.pointer (some ⟨p, 0, none⟩), .string x] w fun e w' => ∃ v, e = .returned v ∧ Did B N w p K s a0 a1 a2 a3 a4 (thereC s.fs x) (orF s.fs (SyncF s.fs x)) (SyncF s.fs x) v w' := by
  obtain ⟨F, m, pv, h1, h2, h3, h4, h5⟩ := h
  refine (sync_ok h1 h4 (fun i hi => (h2 i hi).1) hs.s0 hs.s1 hs.s2 hs.s3 x hx).mono ?_
  rintro e w' ⟨v, rfl, hr⟩
  exact ⟨v, rfl, hr.did h2 h3 h4 h5⟩
theorem remove_live (h : Live B N w p K s a0 a1 a2 a3 a4) (hs : Small s) (x : ByteArray) (hx : x.size ≤ 140737488351232) :
    Calls Tryd.prog 16 #[.pointer (some ⟨p, 0, none⟩), .string x] w fun e w' => ∃ v, e = .returned v ∧ Did B N w p K s a0 a1 a2 a3 a4 (thereC s.fs x) (orF s.fs (fun fs' => fs' = outF x s.fs)) (fun fs' => fs' = outF x s.fs) v w' := by
  obtain ⟨F, m, pv, h1, h2, h3, h4, h5⟩ := h
  refine (remove_ok h1 h4 (fun i hi => (h2 i hi).1) hs.s0 hs.s1 hs.s2 hs.s3 x hx).mono ?_
  rintro e w' ⟨v, rfl, hr⟩
  exact ⟨v, rfl, hr.did h2 h3 h4 h5⟩
theorem rename_live (h : Live B N w p K s a0 a1 a2 a3 a4) (hN : N < maxLen) (hs : Small s) (x y : ByteArray) (hx : x.size ≤ 140737488351232) (hy : y.size ≤ 140737488351232) :
    Calls Tryd.prog 15 #[.pointer (some ⟨p, 0, none⟩), .string x, .string y] w fun e w' => ∃ v, e = .returned v ∧ Did B N w p K s a0 a1 a2 a3 a4 (renC s.fs x y) (orF s.fs (RenF s.fs x y)) (RenF s.fs x y) v w' := by
  obtain ⟨F, m, pv, h1, h2, h3, h4, h5⟩ := h
  refine (rename_ok h1 hN h4 (fun i hi => (h2 i hi).1) hs.s0 hs.s1 hs.s2 hs.s3 x y hx hy).mono ?_
  rintro e w' ⟨v, rfl, hr⟩
  exact ⟨v, rfl, hr.did h2 h3 h4 h5⟩
theorem read_live (h : Live B N w p K s a0 a1 a2 a3 a4) (hs : Small s) (x : ByteArray) (hx : x.size ≤ 140737488351232) :
    Calls Tryd.prog 20 #[.pointer (some ⟨p, 0, none⟩), .string x] w fun e w' => ∃ v r, e = .returned (.tuple #[.string r, v]) ∧ Did B N w p K s a0 a1 a2 a3 a4 (thereC s.fs x) (fun _ fs' => fs' = s.fs) (fun fs' => fs' = s.fs) v w' ∧ Told s x r v := by
  obtain ⟨F, m, pv, h1, h2, h3, h4, h5⟩ := h
  refine (read_ok h1 h4 (fun i hi => (h2 i hi).1) hs.s0 hs.s1 hs.s2 hs.s3 x hx).mono ?_
  rintro e w' ⟨v, r, rfl, hr, ht⟩
  exact ⟨v, r, rfl, hr.did h2 h3 h4 h5, ht⟩
theorem start_live (h : Live B N w p K s a0 a1 a2 a3 a4) : Calls Tryd.prog 19 #[.pointer (some ⟨p, 0, none⟩)] w fun e w' => e = .returned (.tuple #[]) ∧ Live B N w' p K s.start a0 a1 a2 a3 a4 ∧ Step B K w w' := by
  obtain ⟨F, m, pv, h1, h2, h3, h4, h5⟩ := h
  refine (start_ok h1).mono ?_
  rintro e w' ⟨rfl, q1, q2⟩
  exact ⟨rfl, Live.move h2 h3 h4 h5 q1 q2 (Sub.refl _ _)⟩
theorem plan_live (h : Live B N w p K s a0 a1 a2 a3 a4) (l : List (Int × Int × Int)) {G : Nat → Prop} {A : Option Addr} {c : Nat} (hl : PlanIs w G (.slice A l.length c) l) (hG : ∀ i, G i → i < w.heap.size ∧ i ≠ p) (hlen : l.length * 24 ≤ 140737488351232) :
    Calls Tryd.prog 14 #[.pointer (some ⟨p, 0, none⟩), .slice A l.length c] w fun e w' => e = .returned (.tuple #[]) ∧ Live B N w' p K (s.planned l) a0 a1 a2 a3 a4 ∧ Step B K w w' := by
  obtain ⟨F, m, pv, h1, h2, h3, h4, h5⟩ := h
  refine (plan_ok h1 l hl hG hlen).mono ?_
  rintro e w' ⟨rfl, F', v, q1, q2, q3⟩
  exact ⟨rfl, Live.move h2 h3 h4 h5 q1 q2 q3⟩
theorem down_live (h : Live B N w p K s a0 a1 a2 a3 a4) : Calls Tryd.prog 18 #[.pointer (some ⟨p, 0, none⟩)] w fun e w' => e = .returned (.bool (!s.run)) ∧ w' = w := by
  obtain ⟨F, m, pv, h1, _⟩ := h; exact down_ok h1
theorem quota_live (h : Live B N w p K s a0 a1 a2 a3 a4) : Calls Tryd.prog 22 #[.pointer (some ⟨p, 0, none⟩)] w fun e w' => e = .returned (.int .i64 s.quota) ∧ w' = w := by
  obtain ⟨F, m, pv, h1, _⟩ := h; exact quota_ok h1
theorem steps_live (h : Live B N w p K s a0 a1 a2 a3 a4) : Calls Tryd.prog 24 #[.pointer (some ⟨p, 0, none⟩)] w fun e w' => e = .returned (.int .i64 s.steps) ∧ w' = w := by
  obtain ⟨F, m, pv, h1, _⟩ := h; exact steps_ok h1
def sizeF (fs : List Fil) (x : ByteArray) : Int := match look fs x with | none => -1 | some f => f.bytes.size
theorem size_live (h : Live B N w p K s a0 a1 a2 a3 a4) (x : ByteArray) (hx : x.size ≤ maxLen) : Calls Tryd.prog 21 #[.pointer (some ⟨p, 0, none⟩), .string x] w fun e w' => e = .returned (.int .i64 (sizeF s.fs x)) ∧ w' = w := by
  obtain ⟨F, m, pv, h1, _⟩ := h
  unfold sizeF
  cases hl : look s.fs x with
  | none => exact size_none h1 x hx hl
  | some f => exact size_some h1 x hx hl
theorem used_live (h : Live B N w p K s a0 a1 a2 a3 a4) : Calls Tryd.prog 38 #[.pointer (some ⟨p, 0, none⟩)] w fun e w' => e = .returned (.int .i64 (used s.fs)) ∧ Live B N w' p K s a0 a1 a2 a3 a4 ∧ Step B K w w' := by
  have h' := h
  obtain ⟨F, m, pv, h1, _⟩ := h
  refine (used_ok h1).mono ?_
  rintro e w' ⟨rfl, hb⟩
  exact ⟨rfl, h'.drift hb⟩
theorem new_live (q : Int) (h1 : 1 ≤ q) (h2 : q ≤ 1048576) (hS : Sens w B a0 a1 a2 a3 a4) (hB : B ≤ w.heap.size) (hK : ∀ i, K i → i < w.heap.size) : Calls Tryd.prog 11 #[.int .i64 q] w fun e w' => e = .returned (.tuple #[.pointer (some ⟨w.heap.size + 1, 0, none⟩), .nilIface]) ∧
    Live B 0 w' (w.heap.size + 1) K (St.fresh q) a0 a1 a2 a3 a4 ∧ Step B K w w' := by
  refine (new_ok q h1 h2 w).mono ?_
  rintro e w' ⟨rfl, his, hb⟩
  exact ⟨rfl, ⟨_, _, _, his, fun i hi => ⟨by omega, fun hk => by have := hK i hk; omega⟩, fun i hi => Nat.lt_of_lt_of_le (hK i hi) hb.size, hS.below (hb.mono hB), Nat.le_trans hB hb.size⟩, hb.mono hB, fun i hi => hb.block i (hK i hi)⟩
/-- An error at its block. -/
def ErrAt (w : World) (q : Nat) (a : Addr) : Prop := ∃ c0 c1 c2 c3, w.heap[q]? = some (.cells #[c0, c1, c2, c3, .iface 179 (.pointer (some a))] 74 (0, 0))
theorem IsErr.at {v : Value} {a : Addr} (h : IsErr w v a) : ∃ q, v = .iface 72 (.pointer (some ⟨q, 0, none⟩)) ∧ ErrAt w q a := by
  obtain ⟨q, c0, c1, c2, c3, e, hq⟩ := h
  exact ⟨q, e, c0, c1, c2, c3, hq⟩
theorem Live.keepErr (h : Live B N w p K s a0 a1 a2 a3 a4) {q : Nat} {a : Addr} (he : ErrAt w q a) : Live B N w p (fun i => K i ∨ i = q) s a0 a1 a2 a3 a4 := by
  obtain ⟨c0, c1, c2, c3, hq⟩ := he
  exact h.add hq ⟨by decide, by decide, by decide⟩
theorem ErrAt.step {w' : World} {q : Nat} {a : Addr} (he : ErrAt w q a) (hs : Step B K w w') (hq : K q) : ErrAt w' q a := by
  obtain ⟨c0, c1, c2, c3, h⟩ := he
  exact ⟨c0, c1, c2, c3, (hs.kept q hq).trans h⟩
/-- errors.Is of a disk's error. -/
theorem is_live (h : Live B N w p K s a0 a1 a2 a3 a4) {q : Nat} {a b : Addr} (he : ErrAt w q a) (ha : a = a0 ∨ a = a1 ∨ a = a2 ∨ a = a3 ∨ a = a4) (hb : b = a0 ∨ b = a1 ∨ b = a2 ∨ b = a3 ∨ b = a4) :
    Calls Tryd.prog 17 #[.iface 72 (.pointer (some ⟨q, 0, none⟩)), .iface 179 (.pointer (some b))] w fun e w' => e = .returned (.bool (decide (a = b))) ∧ w' = w := by
  obtain ⟨F, m, pv, h1, h2, h3, h4, h5⟩ := h
  have hie : IsErr w (.iface 72 (.pointer (some ⟨q, 0, none⟩))) a := by obtain ⟨c0, c1, c2, c3, hq⟩ := he; exact ⟨q, c0, c1, c2, c3, rfl, hq⟩
  by_cases e : a = b
  · subst e
    rw [decide_eq_true rfl]
    exact is_same hie
  · rw [decide_eq_false e]
    obtain ⟨_, ca, ta, ka⟩ := h4.r a ha
    obtain ⟨_, cb, tb, kb⟩ := h4.r b hb
    exact is_other hie e ka kb
end Go.Proofs.YtkfehogefclhdaaDoor.Dk

/- known is true. -/
namespace Go.Proofs.YtkfehogefclhdaaDoor.Dk
open Go.RowKit Go.Maps Go.Proofs.YtkfehogefclhdaaDoorW.PrintWords Go.Proofs.YtkfehogefclhdaaDoorW.PrintMore
variable {N : Nat} {w : World} {p : Nat} {F : Nat → Prop} {s : St} {m : Nat} {pv : Value} {B : Nat} {a0 a1 a2 a3 a4 : Addr} {K : Nat → Prop}

theorem Did.calm {code : Int} {Pf : Int → List Fil → Prop} {Wf : List Fil → Prop} {v : Value} {w' : World} (h : Did B N w p K s a0 a1 a2 a3 a4 code Pf Wf v w') (hr : s.run = true) (hp : s.plan = []) (h0 : code = 0) :
    v = .nilIface ∧ ∃ fs', Wf fs' ∧ Live B (N + 1) w' p K { s.tick with fs := fs' } a0 a1 a2 a3 a4 ∧ Step B K w w' := by
  obtain ⟨s', h1, h2, h4⟩ := h
  cases h4 with
  | down a b => rw [hr] at a; cases a
  | due a b c d e f => rw [hp] at b; cases b
  | err a b c d => exact absurd h0 c
  | ok a b c d e => exact ⟨d, _, e, h1, h2⟩
theorem Did.calmErr {code : Int} {Pf : Int → List Fil → Prop} {Wf : List Fil → Prop} {v : Value} {w' : World} (h : Did B N w p K s a0 a1 a2 a3 a4 code Pf Wf v w') (hr : s.run = true) (hp : s.plan = []) (h0 : code ≠ 0) :
    ∃ q, v = .iface 72 (.pointer (some ⟨q, 0, none⟩)) ∧ ErrAt w' q (why a0 a1 a2 a3 a4 code) ∧ Live B (N + 1) w' p (fun i => K i ∨ i = q) s.tick a0 a1 a2 a3 a4 ∧ Step B K w w' := by
  obtain ⟨s', h1, h2, h4⟩ := h
  cases h4 with
  | down a b => rw [hr] at a; cases a
  | due a b c d e f => rw [hp] at b; cases b
  | err a b c d =>
    obtain ⟨q, e1, e2⟩ := d.at
    exact ⟨q, e1, e2, h1.keepErr e2, h2⟩
  | ok a b c d e => exact absurd c h0
theorem Live.sens (h : Live B N w p K s a0 a1 a2 a3 a4) : Sens w B a0 a1 a2 a3 a4 := by obtain ⟨F, m, pv, h1, h2, h3, h4, h5⟩ := h; exact h4
theorem Step.less {K' : Nat → Prop} {w' : World} (h : Step B K w w') (hk : ∀ i, K' i → K i) : Step B K' w w' := ⟨h.below, fun i hi => h.kept i (hk i hi)⟩
theorem appF_nil {x data : ByteArray} {n : Int} {fs' : List Fil} (h : AppF [] x data n fs') : ∃ b, fs' = [⟨x, b, cutD data n, 0⟩] := h
theorem app_code0 {s : St} {x data : ByteArray} (h1 : nameB x = true) (h2 : (data.size : Int) ≤ s.quota - used s.fs) : appC s x data = 0 := by
  unfold appC; rw [if_pos h1, if_neg (by omega)]
theorem app_code90 {s : St} {x data : ByteArray} (h1 : nameB x = false) : appC s x data = 90 := by
  unfold appC; rw [if_neg (by rw [h1]; decide)]
theorem there_code0 {fs : List Fil} {x : ByteArray} {f : Fil} (h1 : nameB x = true) (h2 : look fs x = some f) : thereC fs x = 0 := by
  unfold thereC; rw [if_pos h1, h2]; rfl
/-- The counters are small. -/
def Few (n : Nat) (s : St) : Prop := 0 ≤ s.steps ∧ s.steps ≤ n ∧ 0 ≤ s.since ∧ s.since ≤ n
theorem Few.small {n : Nat} (h : Few n s) (hn : n ≤ 1000000) : Small s := ⟨h.1, by have := h.2.1; omega, h.2.2.1, by have := h.2.2.2; omega⟩
theorem Few.fresh (q : Int) : Few 0 (St.fresh q) := ⟨Int.le_refl _, Int.le_refl _, Int.le_refl _, Int.le_refl _⟩
theorem Few.tick {n : Nat} (h : Few n s) : Few (n + 1) s.tick := by
  obtain ⟨h1, h2, h3, h4⟩ := h
  refine ⟨?_, ?_, ?_, ?_⟩ <;> simp only [St.tick] <;> omega
theorem Few.fs {n : Nat} (h : Few n s) (fs : List Fil) : Few n { s with fs := fs } := h
theorem lt_max {n : Nat} (h : n ≤ 1000000) : n < maxLen := by unfold maxLen; omega
theorem isIface25 : Tryd.prog.isIface 25 = true := by kernel_rfl
theorem look_one (f : Fil) : look [f] f.name = some f := by unfold look; rw [List.find?_cons, decide_eq_true rfl]
theorem used_one (f : Fil) : used [f] = f.bytes.size := by unfold used; simp
def helloF (b : Nat) : Fil := ⟨⟨#[97]⟩, b, ⟨#[104, 101, 108, 108, 111]⟩, 0⟩
theorem app0 : appC (St.fresh 10) ⟨#[97]⟩ ⟨#[104, 101, 108, 108, 111]⟩ = 0 := app_code0 name_a (by show (5 : Int) ≤ 10 - ((0 : Nat) : Int); decide)
set_option maxRecDepth 100000 in
set_option maxHeartbeats 1000000 in
theorem known_ok (hS : Sens w B a0 a1 a2 a3 a4) (hB : B ≤ w.heap.size) (hK : ∀ i, K i → i < w.heap.size) : Calls Tryd.prog 10 #[] w fun e w' => e = .returned (.bool true) ∧ Step B K w w' := by
  have hnot := not_run
  have hif := isIface25
  have HS : Hid _ := hS
  have HK : Hid _ := hK
  clear hS hK
  go_enter Tryd.func10, Tryd.ntmps10
  go_wp2_with fail
  refine (new_live 10 (by decide) (by decide) HS.out hB HK.out).mono ?_
  rintro e w1 ⟨rfl, l1, st1⟩
  go_wp2_with fail
  refine (append_live l1 (lt_max (by decide)) ((Few.fresh 10).small (by decide)) ⟨#[97]⟩ ⟨#[104, 101, 108, 108, 111]⟩ (by decide) (by decide)).mono ?_
  rintro e w2 ⟨v, rfl, hd⟩
  obtain ⟨rfl, fs2, hf2, l2, st2⟩ := hd.calm rfl rfl app0
  obtain ⟨b2, rfl⟩ := appF_nil hf2
  rw [cut_all] at l2
  clear hf2 hd
  go_wp2_with fail
  refine (append_live l2 (lt_max (by decide)) (((Few.fresh 10).tick.fs _).small (by decide)) ⟨#[65]⟩ ⟨#[120]⟩ (by decide) (by decide)).mono ?_
  rintro e w3 ⟨v, rfl, hd⟩
  obtain ⟨q, rfl, he, l3, st3⟩ := hd.calmErr rfl rfl (by rw [app_code90 name_up]; decide)
  rw [app_code90 name_up] at he
  clear hd
  go_wp2_with fail
  refine (read_live l3 ((((Few.fresh 10).tick.fs _).tick).small (by decide)) ⟨#[97]⟩ (by decide)).mono ?_
  rintro e w4 ⟨v, r, rfl, hd, ht⟩
  obtain ⟨rfl, fs4, hfs4, l4, st4⟩ := hd.calm rfl rfl (there_code0 (f := helloF b2) name_a (look_one (helloF b2)))
  obtain ⟨f4, hf4, rfl⟩ := ht.1 rfl
  have e4 : f4 = helloF b2 := Option.some.inj (hf4.symm.trans (look_one (helloF b2)))
  subst e4
  subst hfs4
  have hg1 := l4.sens.c1
  have he4 : ErrAt w4 q a1 := he.step st4 (.inr rfl)
  have hbl : (helloF b2).bytes.toList = [104, 101, 108, 108, 111] := by rw [ByteArray.toList_eq]; rfl
  obtain ⟨s4, l4, e4a, e4b⟩ : ∃ s4, Live B (0 + 1 + 1 + 1) w4 (w.heap.size + 1) (fun i => K i ∨ i = q) s4 a0 a1 a2 a3 a4 ∧ (used s4.fs : Int) = 5 ∧ s4.steps = 3 := ⟨_, l4, by show ((used [helloF b2] : Nat) : Int) = 5; rw [used_one]; rfl, rfl⟩
  have HST : Step B K w w4 := ((st1.trans st2).trans st3).trans (st4.less (fun i hi => .inl hi))
  clear st1 st2 st3 st4 hd ht hf4 he l1 l2 l3
  go_wp2_with fail
  refine (is_live l4 he4 (.inr (.inl rfl)) (.inr (.inl rfl))).mono ?_
  rw [decide_eq_true rfl]
  rintro e w5 ⟨rfl, h5⟩
  replace h5 := h5.symm
  subst h5
  go_wp2_with fail
  refine (used_live l4).mono ?_
  rintro e w6 ⟨rfl, l6, st6⟩
  go_wp2_with fail
  refine (steps_live l6).mono ?_
  rintro e w7 ⟨rfl, h7⟩
  replace h7 := h7.symm
  subst h7
  go_wp2_with fail
  go_ret
  exact ⟨rfl, HST.trans (st6.less (fun i hi => .inl hi))⟩
end Go.Proofs.YtkfehogefclhdaaDoor.Dk

/- DiskRenames' steps, without its text: what each call comes to. -/
namespace Go.Proofs.YtkfehogefclhdaaDoor.Dk
open Go.RowKit Go.Maps Go.Proofs.YtkfehogefclhdaaDoorW.PrintWords Go.Proofs.YtkfehogefclhdaaDoorW.PrintMore
variable {N : Nat} {w : World} {p : Nat} {F : Nat → Prop} {s : St} {m : Nat} {pv : Value} {B : Nat} {a0 a1 a2 a3 a4 : Addr} {K : Nat → Prop}

/-- The error at block q, and what it tells. -/
def Told1 (w' : World) (K : Nat → Prop) (q : Nat) (v : Value) (a : Addr) : Prop := v = .iface 72 (.pointer (some ⟨q, 0, none⟩)) ∧ ErrAt w' q a
theorem Did.dueNow {code : Int} {Pf : Int → List Fil → Prop} {Wf : List Fil → Prop} {v : Value} {w' : World} (h : Did B N w p K s a0 a1 a2 a3 a4 code Pf Wf v w') (hr : s.run = true) {x : Int × Int × Int} {rest : List (Int × Int × Int)} (hp : s.plan = x :: rest) (hx : x.1 = s.since + 1) :
    ∃ q fs', v = .iface 72 (.pointer (some ⟨q, 0, none⟩)) ∧ ErrAt w' q a0 ∧ (code = 0 → Pf x.2.1 fs') ∧ (code ≠ 0 → fs' = s.fs) ∧ Live B (N + 1) w' p (fun i => K i ∨ i = q) (s.halt rest fs' x.2.2) a0 a1 a2 a3 a4 ∧ Step B K w w' := by
  obtain ⟨s', h1, h2, h4⟩ := h
  have hd : Due s := ⟨x, rest, hp, hx⟩
  cases h4 with
  | down a b => rw [hr] at a; cases a
  | due a b c d e f =>
    rw [hp] at b
    injection b with b1 b2
    subst b1 b2
    obtain ⟨q, e1, e2⟩ := d.at
    exact ⟨q, _, e1, e2, e, f, h1.keepErr e2, h2⟩
  | err a b c d => exact absurd hd b
  | ok a b c d e => exact absurd hd b
theorem Did.notYet {code : Int} {Pf : Int → List Fil → Prop} {Wf : List Fil → Prop} {v : Value} {w' : World} (h : Did B N w p K s a0 a1 a2 a3 a4 code Pf Wf v w') (hr : s.run = true) {x : Int × Int × Int} {rest : List (Int × Int × Int)} (hp : s.plan = x :: rest) (hx : x.1 ≠ s.since + 1) (h0 : code = 0) :
    v = .nilIface ∧ ∃ fs', Wf fs' ∧ Live B (N + 1) w' p K { s.tick with fs := fs' } a0 a1 a2 a3 a4 ∧ Step B K w w' := by
  obtain ⟨s', h1, h2, h4⟩ := h
  cases h4 with
  | down a b => rw [hr] at a; cases a
  | due a b c d e f =>
    rw [hp] at b
    injection b with b1 b2
    subst b1
    exact absurd c hx
  | err a b c d => exact absurd h0 c
  | ok a b c d e => exact ⟨d, _, e, h1, h2⟩
theorem Did.downNow {code : Int} {Pf : Int → List Fil → Prop} {Wf : List Fil → Prop} {v : Value} {w' : World} (h : Did B N w p K s a0 a1 a2 a3 a4 code Pf Wf v w') (hr : s.run = false) :
    ∃ q, v = .iface 72 (.pointer (some ⟨q, 0, none⟩)) ∧ ErrAt w' q a0 ∧ Live B (N + 1) w' p (fun i => K i ∨ i = q) s a0 a1 a2 a3 a4 ∧ Step B K w w' := by
  obtain ⟨s', h1, h2, h4⟩ := h
  cases h4 with
  | down a b =>
    obtain ⟨q, e1, e2⟩ := b.at
    exact ⟨q, e1, e2, h1.keepErr e2, h2⟩
  | due a b c d e f => rw [hr] at a; cases a
  | err a b c d => rw [hr] at a; cases a
  | ok a b c d e => rw [hr] at a; cases a
theorem stopF_full {r : Int} {f : Fil} (h : f.dur = f.bytes.size) : stopF r f = f := by
  have e : keepN r f = f.bytes.size := by unfold keepN; omega
  cases f with
  | mk n b by' d =>
    unfold stopF
    rw [e]
    simp only [ByteArray.extract_zero_size]
    simp only at h
    rw [h]
abbrev box : ByteArray := ⟨#[98, 111, 120]⟩
abbrev tmp : ByteArray := ⟨#[98, 111, 120, 46, 116, 109, 112]⟩
abbrev nob : ByteArray := ⟨#[110, 111, 98, 111, 100, 121]⟩
theorem box_tmp : (box = tmp) = False := by simp [box, tmp]
theorem tmp_box : (tmp = box) = False := by simp [box, tmp]
/-- The two files, all durable. -/
def boxF (b : Nat) (d : ByteArray) : Fil := ⟨box, b, d, d.size⟩
def tmpF (b : Nat) (d : ByteArray) : Fil := ⟨tmp, b, d, d.size⟩
theorem look_box_one (b : Nat) (d : ByteArray) : look [boxF b d] box = some (boxF b d) := look_one (boxF b d)
theorem look_tmp_two (b b' : Nat) (d d' : ByteArray) : look [tmpF b' d', boxF b d] tmp = some (tmpF b' d') := by unfold look; rw [List.find?_cons, decide_eq_true (show (tmpF b' d').name = tmp from rfl)]
theorem look_box_two (b b' : Nat) (d d' : ByteArray) : look [tmpF b' d', boxF b d] box = some (boxF b d) := by
  unfold look
  rw [List.find?_cons, decide_eq_false (show ¬ (tmpF b' d').name = box from fun e => by have : tmp = box := e; rw [tmp_box] at this; exact this), List.find?_cons, decide_eq_true (show (boxF b d).name = box from rfl)]
theorem look_tmp_one (b : Nat) (d : ByteArray) : look [boxF b d] tmp = none := by
  unfold look
  rw [List.find?_cons, decide_eq_false (show ¬ (boxF b d).name = tmp from fun e => by have : box = tmp := e; rw [box_tmp] at this; exact this)]
  rfl
theorem ren_two {b b' : Nat} {d d' : ByteArray} {fs' : List Fil} (h : RenF [tmpF b' d', boxF b d] tmp box fs') : fs' = [boxF b' d'] := by
  obtain ⟨f, hf, rfl⟩ := h
  have e := Option.some.inj (hf.symm.trans (look_tmp_two b b' d d'))
  subst e
  have e1 : outF tmp [tmpF b' d', boxF b d] = [boxF b d] := by
    unfold outF
    rw [List.filter_cons, decide_eq_true (show (tmpF b' d').name = tmp from rfl), Bool.not_true, if_neg (by decide), List.filter_cons, decide_eq_false (show ¬ (boxF b d).name = tmp from fun e => by have : box = tmp := e; rw [box_tmp] at this; exact this)]
    rfl
  have e2 : outF box [boxF b d] = [] := by
    unfold outF
    rw [List.filter_cons, decide_eq_true (show (boxF b d).name = box from rfl)]
    rfl
  rw [e1, e2]; rfl
end Go.Proofs.YtkfehogefclhdaaDoor.Dk

/- DiskRenames' walk. -/
namespace Go.Proofs.YtkfehogefclhdaaDoor.Dk
open Go.RowKit Go.Maps Go.Proofs.YtkfehogefclhdaaDoorW.PrintWords Go.Proofs.YtkfehogefclhdaaDoorW.PrintMore
variable {N : Nat} {w : World} {p : Nat} {F : Nat → Prop} {s : St} {m : Nat} {pv : Value} {B : Nat} {a0 a1 a2 a3 a4 : Addr} {K : Nat → Prop}

theorem setF_one {x : ByteArray} {f f' : Fil} (h : f.name = x) : setF x f' [f] = [f'] := by unfold setF; rw [List.map_cons, if_pos h]; rfl
theorem app_two {x data : ByteArray} {f : Fil} {n : Int} {fs' : List Fil} (hl : look [f] x = none) (h : AppF [f] x data n fs') : ∃ b, fs' = [⟨x, b, cutD data n, 0⟩, f] := by
  unfold AppF at h; rw [hl] at h; exact h
theorem and1 (x : Int) : bits BinOp.and IntKind.i64 x 1 = 0 ∨ bits BinOp.and IntKind.i64 x 1 = 1 := by
  have h : ((BitVec.ofInt 64 x) &&& (BitVec.ofInt 64 1)).toNat = 0 ∨ ((BitVec.ofInt 64 x) &&& (BitVec.ofInt 64 1)).toNat = 1 := by
    rw [BitVec.toNat_and, show (BitVec.ofInt 64 1).toNat = 1 from rfl, Nat.and_one_is_mod]
    omega
  unfold bits
  rcases h with h | h
  · left; show IntKind.i64.wrap ((((BitVec.ofInt 64 x) &&& (BitVec.ofInt 64 1)).toNat : Nat) : Int) = 0; rw [h]; rfl
  · right; show IntKind.i64.wrap ((((BitVec.ofInt 64 x) &&& (BitVec.ofInt 64 1)).toNat : Nat) : Int) = 1; rw [h]; rfl
theorem k12 (x : Int) : ∃ k : Int, wrap64 (1 + bits BinOp.and IntKind.i64 x 1) = k ∧ (k = 1 ∨ k = 2) := by
  rcases and1 x with h | h <;> rw [h]
  · exact ⟨1, by unfold wrap64; decide, .inl rfl⟩
  · exact ⟨2, by unfold wrap64; decide, .inr rfl⟩
theorem Live.lt (h : Live B N w p K s a0 a1 a2 a3 a4) : p < w.heap.size := by obtain ⟨F, m, pv, h1, _⟩ := h; exact h1.low p h1.inP
theorem plan_one (w : World) (x : Int × Int × Int) : PlanIs (w.alloc (Obj.cells #[.int .i64 x.1, .int .i64 x.2.1, .int .i64 x.2.2] 32)) (fun i => i = w.heap.size) (.slice (some ⟨w.heap.size, 0, none⟩) [x].length 1) [x] := by
  have hb := blk_new w (Obj.cells #[.int .i64 x.1, .int .i64 x.2.1, .int .i64 x.2.2] 32)
  refine ⟨_, 1, rfl, Nat.le_refl _, by omega, fun i y hy => ?_⟩
  cases i with
  | zero => simp at hy; subst hy; exact ⟨_, 0, rfl, rfl, ⟨_, hb⟩, blk_cell hb 0, blk_cell hb 1, blk_cell hb 2⟩
  | succ i => simp at hy
/-- What the Rename and the Remove behind it come to. -/
theorem keep_one {k part rest : Int} (h : k = 1 ∨ k = 2) : keepS [(k, part, rest)] = [(k, part, rest)] := by
  unfold keepS
  rw [List.filter_cons, if_pos (decide_eq_true (by show k ≥ 1; omega))]; rfl
theorem look_nob_one (b : Nat) (d : ByteArray) : look [boxF b d] nob = none := by
  unfold look
  rw [List.find?_cons, decide_eq_false (show ¬ (boxF b d).name = nob from fun e => by have : box = nob := e; simp [box, nob] at this)]
  rfl
theorem few_start {n : Nat} (h : Few n s) (hr : s.run = false) (hn : n ≤ 6) : Few 6 s.start := by
  obtain ⟨h1, h2, h3, h4⟩ := h
  have e : s.start.since = 0 := by unfold St.start; rw [hr]; rfl
  exact ⟨h1, (by show s.steps ≤ 6; omega), by rw [e]; exact Int.le_refl _, by rw [e]; decide⟩
set_option maxRecDepth 100000 in
set_option maxHeartbeats 2000000 in
theorem renames_walk (hS : Sens w w.heap.size a0 a1 a2 a3 a4) (old data : ByteArray) (part rest at' : Int) (ho : ¬ old.size > 20000) (hd : ¬ data.size > 20000) :
    Calls Tryd.prog 3 #[.string old, .string data, .int .i64 part, .int .i64 rest, .int .i64 at'] w fun e w' => e = .returned (.bool true) ∧ Below w.heap.size w w' := by
  have hnot := not_run
  have hif := isIface25
  have HS : Hid _ := hS
  have ho2 : (20000 < old.size) = False := eq_false ho
  have hd2 : (20000 < data.size) = False := eq_false hd
  clear hS
  obtain ⟨k, hk, hk12⟩ := k12 at'
  have HK12 : Hid _ := hk12
  clear hk12
  go_enter Tryd.func3, Tryd.ntmps3
  go_wp2_with fail
  refine (known_ok (K := fun _ => False) HS.out (Nat.le_refl _) (fun i hi => hi.elim)).mono ?_
  rintro e w1 ⟨rfl, st1⟩
  go_wp2_with fail
  refine (new_live (K := fun _ => False) 100000 (by decide) (by decide) (HS.out.below st1.below) st1.below.size (fun i hi => hi.elim)).mono ?_
  rintro e w2 ⟨rfl, l2, st2⟩
  obtain ⟨p, hp⟩ : ∃ p, w1.heap.size + 1 = p := ⟨_, rfl⟩
  rw [hp] at l2 ⊢
  have st12 := st1.trans st2
  clear hp st1 st2
  go_wp2_with fail
  refine (append_live l2 (lt_max (by decide)) ((Few.fresh 100000).small (by decide)) box old (by decide) (by omega)).mono ?_
  rintro e w3 ⟨v, rfl, hdid⟩
  obtain ⟨rfl, fs3, hf3, l3, st3⟩ := hdid.calm rfl rfl (app_code0 name_box (by show (old.size : Int) ≤ 100000 - ((0 : Nat) : Int); omega))
  obtain ⟨b3, rfl⟩ := appF_nil hf3
  rw [cut_all] at l3
  clear hf3 hdid l2
  go_wp2_with fail
  refine (sync_live l3 (((Few.fresh 100000).tick.fs _).small (by decide)) box (by decide)).mono ?_
  rintro e w4 ⟨v, rfl, hdid⟩
  obtain ⟨rfl, fs4, hf4, l4, st4⟩ := hdid.calm rfl rfl (there_code0 (f := ⟨box, b3, old, 0⟩) name_box (look_one ⟨box, b3, old, 0⟩))
  obtain ⟨f4, hl4, rfl⟩ := hf4
  have e4 := Option.some.inj (hl4.symm.trans (look_one ⟨box, b3, old, 0⟩))
  subst e4
  rw [show setF box (syncFil ⟨box, b3, old, 0⟩) [⟨box, b3, old, 0⟩] = [boxF b3 old] from setF_one rfl] at l4
  clear hl4 hdid l3
  obtain ⟨s4, hs4, q4, r4, p4, f4, fw4⟩ : ∃ s4, Live w.heap.size (0 + 1 + 1) w4 p (fun _ => False) s4 a0 a1 a2 a3 a4 ∧ s4.quota = 100000 ∧ s4.run = true ∧ s4.plan = [] ∧ s4.fs = [boxF b3 old] ∧ Few 2 s4 := ⟨_, l4, rfl, rfl, rfl, rfl, ((Few.fresh 100000).tick.fs _).tick.fs _⟩
  have st124 := (st12.trans st3).trans st4
  clear l4 st12 st3 st4
  go_wp2_with fail
  refine (append_live hs4 (lt_max (by decide)) (fw4.small (by decide)) tmp data (by decide) (by omega)).mono ?_
  rintro e w5 ⟨v, rfl, hdid⟩
  obtain ⟨rfl, fs5, hf5, l5, st5⟩ := hdid.calm r4 p4 (app_code0 name_tmp (by rw [q4, f4, used_one]; show (data.size : Int) ≤ 100000 - (old.size : Int); omega))
  rw [f4] at hf5
  obtain ⟨b5, rfl⟩ := app_two (look_tmp_one b3 old) hf5
  rw [cut_all] at l5
  clear hf5 hdid hs4
  obtain ⟨s5, hs5, q5, r5, p5, f5, fw5⟩ : ∃ s5, Live w.heap.size (0 + 1 + 1 + 1) w5 p (fun _ => False) s5 a0 a1 a2 a3 a4 ∧ s5.quota = 100000 ∧ s5.run = true ∧ s5.plan = [] ∧ s5.fs = [⟨tmp, b5, data, 0⟩, boxF b3 old] ∧ Few 3 s5 := ⟨_, l5, q4, r4, p4, rfl, fw4.tick.fs _⟩
  have st15 := st124.trans st5
  clear l5 st124 st5 q4 r4 p4 f4 fw4
  have hl5 : look [⟨tmp, b5, data, 0⟩, boxF b3 old] tmp = some ⟨tmp, b5, data, 0⟩ := by unfold look; rw [List.find?_cons, decide_eq_true rfl]
  go_wp2_with fail
  refine (sync_live hs5 (fw5.small (by decide)) tmp (by decide)).mono ?_
  rintro e w6 ⟨v, rfl, hdid⟩
  obtain ⟨rfl, fs6, hf6, l6, st6⟩ := hdid.calm r5 p5 (there_code0 (f := ⟨tmp, b5, data, 0⟩) name_tmp (by rw [f5]; exact hl5))
  obtain ⟨f6, hl6, rfl⟩ := hf6
  rw [f5] at hl6 l6
  have e6 := Option.some.inj (hl6.symm.trans hl5)
  subst e6
  have e7 : setF tmp (syncFil ⟨tmp, b5, data, 0⟩) [⟨tmp, b5, data, 0⟩, boxF b3 old] = [tmpF b5 data, boxF b3 old] := by
    unfold setF
    rw [List.map_cons, if_pos rfl, List.map_cons, if_neg (show ¬ (boxF b3 old).name = tmp from fun e => by have : box = tmp := e; rw [box_tmp] at this; exact this)]
    rfl
  rw [e7] at l6
  clear hl6 hdid hs5 hl5 e7
  obtain ⟨s6, hs6, q6, r6, p6, f6, fw6⟩ : ∃ s6, Live w.heap.size (0 + 1 + 1 + 1 + 1) w6 p (fun _ => False) s6 a0 a1 a2 a3 a4 ∧ s6.quota = 100000 ∧ s6.run = true ∧ s6.plan = [] ∧ s6.fs = [tmpF b5 data, boxF b3 old] ∧ Few 4 s6 := ⟨_, l6, q5, r5, p5, rfl, fw5.tick.fs _⟩
  have st16 := st15.trans st6
  clear l6 st15 st6 q5 r5 p5 f5 fw5
  go_wp2_with fail
  obtain ⟨w7, hw7⟩ : ∃ w7, w6.alloc (Obj.cells #[.int .i64 k, .int .i64 part, .int .i64 rest] 32) = w7 := ⟨_, rfl⟩
  obtain ⟨l7, st7⟩ := hs6.drift (w' := w6.alloc (Obj.cells #[.int .i64 k, .int .i64 part, .int .i64 rest] 32)) ((Below.refl _ _).alloc (Nat.le_refl _) _)
  have hpl := plan_one w6 (k, part, rest)
  have hG7 : ∀ i, i = w6.heap.size → i < (w6.alloc (Obj.cells #[.int .i64 k, .int .i64 part, .int .i64 rest] 32)).heap.size ∧ i ≠ p := fun i hi => by have := hs6.lt; rw [hi]; exact ⟨by simp, by omega⟩
  rw [hw7] at l7 st7 hG7 ⊢
  have hpl7 : PlanIs w7 (fun i => i = w6.heap.size) (.slice (some ⟨w6.heap.size, 0, none⟩) [(k, part, rest)].length 1) [(k, part, rest)] := by rw [← hw7]; exact hpl
  refine (plan_live l7 [(k, part, rest)] hpl7 hG7 (show 1 * 24 ≤ 140737488351232 by decide)).mono ?_
  rintro e w8 ⟨rfl, l8, st8⟩
  obtain ⟨s8, hs8, q8, r8, p8, f8, e8, fw8⟩ : ∃ s8, Live w.heap.size (0 + 1 + 1 + 1 + 1) w8 p (fun _ => False) s8 a0 a1 a2 a3 a4 ∧ s8.quota = 100000 ∧ s8.run = true ∧ s8.plan = [(k, part, rest)] ∧ s8.fs = [tmpF b5 data, boxF b3 old] ∧ s8.since = 0 ∧ Few 4 s8 := ⟨_, l8, q6, r6, keep_one HK12.out, f6, rfl, ⟨fw6.1, fw6.2.1, Int.le_refl _, by show (0 : Int) ≤ 4; decide⟩⟩
  have st18 := (st16.trans st7).trans st8
  clear hpl hpl7 hG7 l7 st7 hw7 l8 st8 st16 hs6 q6 r6 p6 f6 fw6
  go_wp2_with fail
  refine (rename_live hs8 (lt_max (by decide)) (fw8.small (by decide)) tmp box (by decide) (by decide)).mono ?_
  rintro e w9 ⟨v9, rfl, hdid⟩
  have hcode : renC s8.fs tmp box = 0 := by unfold renC; rw [if_pos ⟨name_tmp, name_box⟩, f8]; exact there_code0 name_tmp (look_tmp_two b3 b5 old data)
  rcases HK12.out with rfl | rfl
  · -- the stop comes at the Rename
    obtain ⟨q1, fs9, rfl, he9, hpf, _, l9, st9⟩ := hdid.dueNow r8 p8 (by rw [e8]; rfl)
    have hpf := hpf hcode
    clear hdid
    obtain ⟨s9, hs9, q9, r9, p9, f9, fw9⟩ : ∃ s9, Live w.heap.size (0 + 1 + 1 + 1 + 1 + 1) w9 p (fun i => False ∨ i = q1) s9 a0 a1 a2 a3 a4 ∧ s9.quota = 100000 ∧ s9.run = false ∧ s9.plan = [] ∧ s9.fs = fs9.map (stopF rest) ∧ Few 5 s9 := ⟨_, l9, q8, rfl, rfl, rfl, fw8.tick⟩
    clear l9
    go_wp2_with fail
    refine (remove_live hs9 (fw9.small (by decide)) nob (by decide)).mono ?_
    rintro e w10 ⟨v10, rfl, hdid⟩
    obtain ⟨q2, rfl, he10, l10, st10⟩ := hdid.downNow r9
    have he9' := he9.step st10 (.inr rfl)
    have g0 := l10.sens.c0
    clear hdid hs9
    go_wp2_with fail
    refine (is_live l10 he9' (.inl rfl) (.inl rfl)).mono ?_
    rw [decide_eq_true rfl]
    rintro e w11 ⟨rfl, h'⟩
    replace h' := h'.symm
    subst h'
    go_wp2_with fail
    refine (is_live l10 he10 (.inl rfl) (.inl rfl)).mono ?_
    rw [decide_eq_true rfl]
    rintro e w11 ⟨rfl, h'⟩
    replace h' := h'.symm
    subst h'
    go_wp2_with fail
    refine (down_live l10).mono ?_
    rw [r9]
    rintro e w11 ⟨rfl, h'⟩
    replace h' := h'.symm
    subst h'
    have stp10 := (st18.less (K' := fun _ => False) (fun i hi => hi)).trans (st9.trans (st10.less (K' := fun _ => False) (fun i hi => hi.elim)))
    by_cases hp1 : part ≥ 1
    · have hpb : decide (1 ≤ part) = true := decide_eq_true hp1
      have hfs : s9.fs = [boxF b5 data] := by
        unfold orF at hpf
        rw [if_pos hp1, f8] at hpf
        rw [f9, ren_two hpf, List.map_cons, stopF_full (show (boxF b5 data).dur = (boxF b5 data).bytes.size from rfl)]; rfl
      go_wp2_with fail
      refine (start_live l10).mono ?_
      rintro e w12 ⟨rfl, l12, st12⟩
      obtain ⟨s12, hs12, q12, r12, p12, f12, fw12⟩ : ∃ s12, Live w.heap.size _ w12 p _ s12 a0 a1 a2 a3 a4 ∧ s12.quota = 100000 ∧ s12.run = true ∧ s12.plan = [] ∧ s12.fs = [boxF b5 data] ∧ Few 6 s12 := ⟨_, l12, q9, rfl, p9, hfs, few_start fw9 r9 (by decide)⟩
      clear l12 l10
      go_wp2_with fail
      refine (read_live hs12 (fw12.small (by decide)) box (by decide)).mono ?_
      rintro e w13 ⟨v13, r, rfl, hdid, ht⟩
      obtain ⟨rfl, fs13, hf13, l13, st13⟩ := hdid.calm r12 p12 (there_code0 name_box (by rw [f12]; exact look_box_one b5 data))
      obtain ⟨f13, hf13', rfl⟩ := ht.1 rfl
      rw [f12] at hf13'
      have e13 := Option.some.inj (hf13'.symm.trans (look_box_one b5 data))
      subst e13
      rw [hf13] at l13
      obtain ⟨s13, hs13, q13, f13⟩ : ∃ s13, Live w.heap.size _ w13 p _ s13 a0 a1 a2 a3 a4 ∧ s13.quota = 100000 ∧ s13.fs = [boxF b5 data] := ⟨_, l13, q12, f12⟩
      have hby : (boxF b5 data).bytes = data := rfl
      have hsz : sizeF s13.fs tmp = -1 := by rw [f13]; unfold sizeF; rw [look_tmp_one]
      clear hdid ht hf13 hf13' l13 hs12
      have stAll := ((stp10.trans (st12.less (fun i hi => hi.elim))).trans (st13.less (fun i hi => hi.elim))).below
      go_wp2_with fail
      refine (size_live hs13 tmp (by decide)).mono ?_
      rw [hsz]
      rintro e w14 ⟨rfl, h'⟩
      replace h' := h'.symm
      subst h'
      go_wp2_with fail
      refine (quota_live hs13).mono ?_
      rw [q13]
      rintro e w15 ⟨rfl, h'⟩
      replace h' := h'.symm
      subst h'
      go_wp2_with fail
      go_ret
      exact ⟨rfl, stAll⟩
    · have hpb : decide (1 ≤ part) = false := decide_eq_false hp1
      have hfs : s9.fs = [tmpF b5 data, boxF b3 old] := by
        unfold orF at hpf
        rw [if_neg hp1, f8] at hpf
        rw [f9, hpf, List.map_cons, List.map_cons, stopF_full (show (tmpF b5 data).dur = (tmpF b5 data).bytes.size from rfl), stopF_full (show (boxF b3 old).dur = (boxF b3 old).bytes.size from rfl)]; rfl
      go_wp2_with fail
      refine (start_live l10).mono ?_
      rintro e w12 ⟨rfl, l12, st12⟩
      obtain ⟨s12, hs12, q12, r12, p12, f12, fw12⟩ : ∃ s12, Live w.heap.size _ w12 p _ s12 a0 a1 a2 a3 a4 ∧ s12.quota = 100000 ∧ s12.run = true ∧ s12.plan = [] ∧ s12.fs = [tmpF b5 data, boxF b3 old] ∧ Few 6 s12 := ⟨_, l12, q9, rfl, p9, hfs, few_start fw9 r9 (by decide)⟩
      clear l12 l10
      go_wp2_with fail
      refine (read_live hs12 (fw12.small (by decide)) box (by decide)).mono ?_
      rintro e w13 ⟨v13, r, rfl, hdid, ht⟩
      obtain ⟨rfl, fs13, hf13, l13, st13⟩ := hdid.calm r12 p12 (there_code0 name_box (by rw [f12]; exact look_box_two b3 b5 old data))
      obtain ⟨f13, hf13', rfl⟩ := ht.1 rfl
      rw [f12] at hf13'
      have e13 := Option.some.inj (hf13'.symm.trans (look_box_two b3 b5 old data))
      subst e13
      rw [hf13] at l13
      obtain ⟨s13, hs13, q13, f13⟩ : ∃ s13, Live w.heap.size _ w13 p _ s13 a0 a1 a2 a3 a4 ∧ s13.quota = 100000 ∧ s13.fs = [tmpF b5 data, boxF b3 old] := ⟨_, l13, q12, f12⟩
      have hby : (boxF b3 old).bytes = old := rfl
      have hsz : sizeF s13.fs tmp = (data.size : Int) := by rw [f13]; unfold sizeF; rw [look_tmp_two]; rfl
      clear hdid ht hf13 hf13' l13 hs12
      have stAll := ((stp10.trans (st12.less (fun i hi => hi.elim))).trans (st13.less (fun i hi => hi.elim))).below
      go_wp2_with fail
      refine (size_live hs13 tmp (by decide)).mono ?_
      rw [hsz]
      rintro e w14 ⟨rfl, h'⟩
      replace h' := h'.symm
      subst h'
      go_wp2_with fail
      refine (quota_live hs13).mono ?_
      rw [q13]
      rintro e w15 ⟨rfl, h'⟩
      replace h' := h'.symm
      subst h'
      go_wp2_with fail
      go_ret
      exact ⟨rfl, stAll⟩
  · -- .. or at what comes behind it
    obtain ⟨rfl, fs9, hpf, l9, st9⟩ := hdid.notYet r8 p8 (by rw [e8]; show (2 : Int) ≠ 0 + 1; decide) hcode
    rw [f8] at hpf
    have hpf := ren_two hpf
    subst hpf
    clear hdid
    obtain ⟨s9, hs9, q9, r9, p9, f9, e9, fw9⟩ : ∃ s9, Live w.heap.size (0 + 1 + 1 + 1 + 1 + 1) w9 p (fun _ => False) s9 a0 a1 a2 a3 a4 ∧ s9.quota = 100000 ∧ s9.run = true ∧ s9.plan = [(2, part, rest)] ∧ s9.fs = [boxF b5 data] ∧ s9.since = 1 ∧ Few 5 s9 := ⟨_, l9, q8, r8, p8, rfl, (by show s8.since + 1 = 1; rw [e8]; rfl), fw8.tick.fs _⟩
    clear l9
    go_wp2_with fail
    refine (remove_live hs9 (fw9.small (by decide)) nob (by decide)).mono ?_
    rintro e w10 ⟨v10, rfl, hdid⟩
    obtain ⟨q2, fs10, rfl, he10, _, hne10, l10, st10⟩ := hdid.dueNow r9 p9 (by rw [e9]; rfl)
    have hfs10 := hne10 (by unfold thereC; rw [if_pos name_nobody, f9, look_nob_one]; decide)
    rw [hfs10, f9] at l10
    obtain ⟨sA, hsA, qA, rA, pA, fA, fwA⟩ : ∃ sA, Live w.heap.size (0 + 1 + 1 + 1 + 1 + 1 + 1) w10 p (fun i => False ∨ i = q2) sA a0 a1 a2 a3 a4 ∧ sA.quota = 100000 ∧ sA.run = false ∧ sA.plan = [] ∧ sA.fs = [boxF b5 data] ∧ Few 6 sA := ⟨_, l10, q9, rfl, rfl, (by show [boxF b5 data].map (stopF rest) = _; rw [List.map_cons, stopF_full (show (boxF b5 data).dur = (boxF b5 data).bytes.size from rfl)]; rfl), fw9.tick⟩
    have g0 := hsA.sens.c0
    clear hdid hs9 l10 hne10 hfs10
    go_wp2_with fail
    refine (is_nil a0 _).mono ?_
    rintro e w11 ⟨rfl, h'⟩
    replace h' := h'.symm
    subst h'
    go_wp2_with fail
    refine (is_live hsA he10 (.inl rfl) (.inl rfl)).mono ?_
    rw [decide_eq_true rfl]
    rintro e w11 ⟨rfl, h'⟩
    replace h' := h'.symm
    subst h'
    go_wp2_with fail
    refine (down_live hsA).mono ?_
    rw [rA]
    rintro e w11 ⟨rfl, h'⟩
    replace h' := h'.symm
    subst h'
    have stp10 := (st18.less (K' := fun _ => False) (fun i hi => hi)).trans (st9.trans st10)
    go_wp2_with fail
    refine (start_live hsA).mono ?_
    rintro e w12 ⟨rfl, l12, st12⟩
    obtain ⟨s12, hs12, q12, r12, p12, f12, fw12⟩ : ∃ s12, Live w.heap.size _ w12 p _ s12 a0 a1 a2 a3 a4 ∧ s12.quota = 100000 ∧ s12.run = true ∧ s12.plan = [] ∧ s12.fs = [boxF b5 data] ∧ Few 6 s12 := ⟨_, l12, qA, rfl, pA, fA, few_start fwA rA (by decide)⟩
    clear l12 hsA
    go_wp2_with fail
    refine (read_live hs12 (fw12.small (by decide)) box (by decide)).mono ?_
    rintro e w13 ⟨v13, r, rfl, hdid, ht⟩
    obtain ⟨rfl, fs13, hf13, l13, st13⟩ := hdid.calm r12 p12 (there_code0 name_box (by rw [f12]; exact look_box_one b5 data))
    obtain ⟨f13, hf13', rfl⟩ := ht.1 rfl
    rw [f12] at hf13'
    have e13 := Option.some.inj (hf13'.symm.trans (look_box_one b5 data))
    subst e13
    rw [hf13] at l13
    obtain ⟨s13, hs13, q13, f13⟩ : ∃ s13, Live w.heap.size _ w13 p _ s13 a0 a1 a2 a3 a4 ∧ s13.quota = 100000 ∧ s13.fs = [boxF b5 data] := ⟨_, l13, q12, f12⟩
    have hby : (boxF b5 data).bytes = data := rfl
    have hsz : sizeF s13.fs tmp = -1 := by rw [f13]; unfold sizeF; rw [look_tmp_one]
    clear hdid ht hf13 hf13' l13 hs12
    have stAll := ((stp10.trans (st12.less (fun i hi => hi.elim))).trans (st13.less (fun i hi => hi.elim))).below
    go_wp2_with fail
    refine (size_live hs13 tmp (by decide)).mono ?_
    rw [hsz]
    rintro e w14 ⟨rfl, h'⟩
    replace h' := h'.symm
    subst h'
    go_wp2_with fail
    refine (quota_live hs13).mono ?_
    rw [q13]
    rintro e w15 ⟨rfl, h'⟩
    replace h' := h'.symm
    subst h'
    go_wp2_with fail
    go_ret
    exact ⟨rfl, stAll⟩
end Go.Proofs.YtkfehogefclhdaaDoor.Dk

/- DiskRenames, walked at every argument; the sentinels out of what is laid. -/
namespace Go.Proofs.YtkfehogefclhdaaDoor.Dk
open Go.RowKit Go.Maps Go.Proofs.YtkfehogefclhdaaDoorW.PrintWords Go.Proofs.YtkfehogefclhdaaDoorW.PrintMore
variable {w : World} {a0 a1 a2 a3 a4 : Addr}
set_option maxRecDepth 100000 in
set_option maxHeartbeats 2000000 in
theorem renames_long (hS : Sens w w.heap.size a0 a1 a2 a3 a4) (old data : ByteArray) (part rest at' : Int) (hlong : old.size > 20000 ∨ data.size > 20000) :
    Calls Tryd.prog 3 #[.string old, .string data, .int .i64 part, .int .i64 rest, .int .i64 at'] w fun e w' => e = .returned (.bool true) ∧ Below w.heap.size w w' := by
  have hnot := not_run
  have hif := isIface25
  have HS : Hid _ := hS
  clear hS
  go_enter Tryd.func3, Tryd.ntmps3
  go_wp2_with fail
  refine (known_ok (K := fun _ => False) HS.out (Nat.le_refl _) (fun i hi => hi.elim)).mono ?_
  rintro e w1 ⟨rfl, st1⟩
  go_wp2_with fail
  refine (new_live (K := fun _ => False) 100000 (by decide) (by decide) (HS.out.below st1.below) st1.below.size (fun i hi => hi.elim)).mono ?_
  rintro e w2 ⟨rfl, l2, st2⟩
  clear l2
  by_cases ho : old.size > 20000
  · have ho2 : 20000 < old.size := ho
    have ho3 : decide (20000 < old.size) = true := decide_eq_true ho
    have ho4 : decide (20000 < (old.size : Int)) = true := decide_eq_true (by omega)
    clear hlong
    go_wp2_with fail
    go_ret
    exact ⟨rfl, (st1.trans st2).below⟩
  · have hd : data.size > 20000 := by omega
    have ho3 : decide (20000 < old.size) = false := decide_eq_false ho
    have ho4 : decide (20000 < (old.size : Int)) = false := decide_eq_false (by omega)
    have hd3 : decide (20000 < data.size) = true := decide_eq_true hd
    have hd4 : decide (20000 < (data.size : Int)) = true := decide_eq_true (by omega)
    clear hlong
    go_wp2_with fail
    all_goals go_ret
    all_goals exact ⟨rfl, (st1.trans st2).below⟩
theorem star : "*" ++ "errors.errorString" = "*errors.errorString" := by decide
theorem rowErr (u : TypeId) (h : Tryd.prog.typeName? 3 u = some "*errors.errorString") : u = 179 :=
  typeName_ptr_named (nm := "errors.errorString") (by rw [star]; kernel_rfl) (by kernel_rfl) (by decide) u (by rw [star]; exact h)
theorem cells181 : Tryd.prog.cellsOf 181 = 1 := by kernel_rfl
theorem cells9 : Tryd.prog.cellsOf 9 = 1 := by kernel_rfl
theorem gn0 : Tryd.prog.globalNamed "postbag/api.WhyDown" = some 0 := by kernel_rfl
theorem gn1 : Tryd.prog.globalNamed "postbag/api.WhyName" = some 1 := by kernel_rfl
theorem gn2 : Tryd.prog.globalNamed "postbag/api.WhyRefused" = some 2 := by kernel_rfl
theorem gn3 : Tryd.prog.globalNamed "postbag/api.WhyMissing" = some 3 := by kernel_rfl
theorem gn4 : Tryd.prog.globalNamed "postbag/api.WhyQuota" = some 4 := by kernel_rfl
theorem gt0 : (Tryd.prog.globals[0]?).map (·.type) = some 25 := by kernel_rfl
theorem gt1 : (Tryd.prog.globals[1]?).map (·.type) = some 25 := by kernel_rfl
theorem gt2 : (Tryd.prog.globals[2]?).map (·.type) = some 25 := by kernel_rfl
theorem gt3 : (Tryd.prog.globals[3]?).map (·.type) = some 25 := by kernel_rfl
theorem gt4 : (Tryd.prog.globals[4]?).map (·.type) = some 25 := by kernel_rfl
set_option maxRecDepth 100000 in
theorem sens_of_laid {t1 t3 t4 t0 t2 : List UInt8} {W : World} (h : laidMet Tryd.prog [("postbag/api.WhyName", .iface "*errors.errorString" (.ptr (.agg [.lit (.string t1)]))), ("postbag/api.WhyMissing", .iface "*errors.errorString" (.ptr (.agg [.lit (.string t3)]))), ("postbag/api.WhyQuota", .iface "*errors.errorString" (.ptr (.agg [.lit (.string t4)]))), ("postbag/api.WhyDown", .iface "*errors.errorString" (.ptr (.agg [.lit (.string t0)]))), ("postbag/api.WhyRefused", .iface "*errors.errorString" (.ptr (.agg [.lit (.string t2)])))] W) :
    ∃ a0 a1 a2 a3 a4, Sens W W.heap.size a0 a1 a2 a3 a4 := by
  obtain ⟨ps, ⟨g1, y1, cs1, f1, p1, q1, hg1, ht1, hv1, hd1, ⟨g3, y3, cs3, f3, p3, q3, hg3, ht3, hv3, hd3, ⟨g4, y4, cs4, f4, p4, q4, hg4, ht4, hv4, hd4, ⟨g0, y0, cs0, f0, p0, q0, hg0, ht0, hv0, hd0, ⟨g2, y2, cs2, f2, p2, q2, hg2, ht2, hv2, hd2, _, e2⟩, e0⟩, e4⟩, e3⟩, e1⟩, hnd, hrows⟩ := h
  obtain rfl := Option.some.inj (gn0.symm.trans hg0)
  obtain rfl := Option.some.inj (gn1.symm.trans hg1)
  obtain rfl := Option.some.inj (gn2.symm.trans hg2)
  obtain rfl := Option.some.inj (gn3.symm.trans hg3)
  obtain rfl := Option.some.inj (gn4.symm.trans hg4)
  obtain rfl := Option.some.inj (gt0.symm.trans ht0)
  obtain rfl := Option.some.inj (gt1.symm.trans ht1)
  obtain rfl := Option.some.inj (gt2.symm.trans ht2)
  obtain rfl := Option.some.inj (gt3.symm.trans ht3)
  obtain rfl := Option.some.inj (gt4.symm.trans ht4)
  subst e2
  subst e0
  subst e4
  subst e3
  subst e1
  obtain ⟨l0⟩ := cs0
  obtain ⟨l1⟩ := cs1
  obtain ⟨l2⟩ := cs2
  obtain ⟨l3⟩ := cs3
  obtain ⟨l4⟩ := cs4
  have ok0 : ∀ u v, l0 = [.iface u v] → Value.okWide Tryd.prog W .any 0 u v := fun u v e => by
    subst e
    exact (hrows 0 0 (by simp [MemPlace.row])).2 u v (by simpa using World.var?_cell hg0 hv0 0)
  have ok1 : ∀ u v, l1 = [.iface u v] → Value.okWide Tryd.prog W .any 0 u v := fun u v e => by
    subst e
    exact (hrows 1 0 (by simp [MemPlace.row])).2 u v (by simpa using World.var?_cell hg1 hv1 0)
  have ok2 : ∀ u v, l2 = [.iface u v] → Value.okWide Tryd.prog W .any 0 u v := fun u v e => by
    subst e
    exact (hrows 2 0 (by simp [MemPlace.row])).2 u v (by simpa using World.var?_cell hg2 hv2 0)
  have ok3 : ∀ u v, l3 = [.iface u v] → Value.okWide Tryd.prog W .any 0 u v := fun u v e => by
    subst e
    exact (hrows 3 0 (by simp [MemPlace.row])).2 u v (by simpa using World.var?_cell hg3 hv3 0)
  have ok4 : ∀ u v, l4 = [.iface u v] → Value.okWide Tryd.prog W .any 0 u v := fun u v e => by
    subst e
    exact (hrows 4 0 (by simp [MemPlace.row])).2 u v (by simpa using World.var?_cell hg4 hv4 0)
  obtain ⟨a0, s0, rfl, hc0, hs0, hz0, rfl⟩ := errorString_of_trod Tryd.underlying25 rowErr Tryd.underlying179 Tryd.underlying181 rfl rfl Tryd.underlying9 cells181 cells9 hd0 ok0
  obtain ⟨a1, s1, rfl, hc1, hs1, hz1, rfl⟩ := errorString_of_trod Tryd.underlying25 rowErr Tryd.underlying179 Tryd.underlying181 rfl rfl Tryd.underlying9 cells181 cells9 hd1 ok1
  obtain ⟨a2, s2, rfl, hc2, hs2, hz2, rfl⟩ := errorString_of_trod Tryd.underlying25 rowErr Tryd.underlying179 Tryd.underlying181 rfl rfl Tryd.underlying9 cells181 cells9 hd2 ok2
  obtain ⟨a3, s3, rfl, hc3, hs3, hz3, rfl⟩ := errorString_of_trod Tryd.underlying25 rowErr Tryd.underlying179 Tryd.underlying181 rfl rfl Tryd.underlying9 cells181 cells9 hd3 ok3
  obtain ⟨a4, s4, rfl, hc4, hs4, hz4, rfl⟩ := errorString_of_trod Tryd.underlying25 rowErr Tryd.underlying179 Tryd.underlying181 rfl rfl Tryd.underlying9 cells181 cells9 hd4 ok4
  have k0 : ∃ c t, W.heap[a0.block]? = some (.cells c t (0, 0)) := (hrows a0.block a0.off (by simp [MemPlace.row])).1
  have k1 : ∃ c t, W.heap[a1.block]? = some (.cells c t (0, 0)) := (hrows a1.block a1.off (by simp [MemPlace.row])).1
  have k2 : ∃ c t, W.heap[a2.block]? = some (.cells c t (0, 0)) := (hrows a2.block a2.off (by simp [MemPlace.row])).1
  have k3 : ∃ c t, W.heap[a3.block]? = some (.cells c t (0, 0)) := (hrows a3.block a3.off (by simp [MemPlace.row])).1
  have k4 : ∃ c t, W.heap[a4.block]? = some (.cells c t (0, 0)) := (hrows a4.block a4.off (by simp [MemPlace.row])).1
  have v4 : W.cell? ⟨4, 0, none⟩ = some (.iface 179 (.pointer (some a4))) := by simpa using World.var?_cell hg4 hv4 0
  refine ⟨a0, a1, a2, a3, a4, by simpa using World.var?_cell hg0 hv0 0, by simpa using World.var?_cell hg1 hv1 0, by simpa using World.var?_cell hg2 hv2 0, by simpa using World.var?_cell hg3 hv3 0, v4, ?_, ?_, ?_, ?_, ?_, World.block_lt_of_cell? W _ v4⟩
  · rintro rfl; simp [MemPlace.row] at hnd
  · rintro rfl; simp [MemPlace.row] at hnd
  · rintro rfl; simp [MemPlace.row] at hnd
  · rintro rfl; simp [MemPlace.row] at hnd
  · have fin : ∀ {a : Addr}, (∃ c t, W.heap[a.block]? = some (.cells c t (0, 0))) → a.block < W.heap.size ∧ ∃ c t, W.heap[a.block]? = some (.cells c t (0, 0)) := fun {a} h => ⟨by obtain ⟨c, t, e⟩ := h; exact blk_lt e, h⟩
    intro a ha
    rcases ha with rfl | rfl | rfl | rfl | rfl
    · exact fin k0
    · exact fin k1
    · exact fin k2
    · exact fin k3
    · exact fin k4
end Go.Proofs.YtkfehogefclhdaaDoor.Dk
namespace Go.Proofs.YtkfehogefclhdaaDoor.Ext
/-- What the disk's laws lean on: the five sentinels. -/
def WPS (w : World) : Prop := ∃ a0 a1 a2 a3 a4, Dk.Sens w w.heap.size a0 a1 a2 a3 a4
end Go.Proofs.YtkfehogefclhdaaDoor.Ext
namespace Go.Proofs.YtkfehogefclhdaaDoor.PDr
open Go.RowKit
theorem postbaglaw9_DiskRenames.calls (_k : Nat) (a0 a1 : ByteArray) (a2 a3 a4 : Int) (r : Bool) (w : World) (h : r = true) (hw : Ext.WPS w) :
    Calls Tryd.prog 3 #[.string a0, .string a1, .int .i64 a2, .int .i64 a3, .int .i64 a4] w fun e w' => e = .returned (.bool r) ∧ Below w.heap.size w w' := by
  subst h
  obtain ⟨b0, b1, b2, b3, b4, hS⟩ := hw
  by_cases h1 : a0.size > 20000
  · exact Dk.renames_long hS a0 a1 a2 a3 a4 (.inl h1)
  · by_cases h2 : a1.size > 20000
    · exact Dk.renames_long hS a0 a1 a2 a3 a4 (.inr h2)
    · exact Dk.renames_walk hS a0 a1 a2 a3 a4 h1 h2
end Go.Proofs.YtkfehogefclhdaaDoor.PDr
namespace Go.Proofs.YtkfehogefclhdaaDoor.Pure
theorem DiskRenames (_a0 _a1 : ByteArray) (_a2 _a3 _a4 : Int) (_h0 : _a0.size ≤ 140737488351232) (_h1 : _a1.size ≤ 140737488351232) : ∃ _k : Nat, true = true := ⟨0, rfl⟩
end Go.Proofs.YtkfehogefclhdaaDoor.Pure

/- What an argument's value opens as: kinds of numbers, texts, structs, slices of them, and how large they are. -/
namespace Go.Proofs.YtkfehogefclhdaaDoor.Opn
open Go.RowKit Go.Deep Go.ChangeShapes Go.WideShapes Go.Proofs.YtkfehogefclhdaaDoorW.PrintWords
variable {P : Program} {t : TypeId} {α β : Type}

/-- A value of type t opens as kind d, and of what it is S holds. -/
def Opn (P : Program) (t : TypeId) (d : Kd α) (S : α → Prop) : Prop :=
  P.cellsOf t = d.sz ∧ ∀ {H : Type} (enc : TypeId × Value → H) (w : World) (fuel : Nat) (cs : List Value) (x : DataW H × List MemPlace),
    DataW.trod enc P w 0 (fun _ => true) true fuel t cs = some x → (∀ k ∈ x.1.weights P t, k ≤ reachBytes) → ∃ y, d.K w y cs ∧ S y
theorem Opn.imp {d : Kd α} {S S' : α → Prop} (h : Opn P t d S) (hS : ∀ y, S y → S' y) : Opn P t d S' := by
  refine ⟨h.1, fun enc w fuel cs x hx hk => ?_⟩
  obtain ⟨y, h1, h2⟩ := h.2 enc w fuel cs x hx hk
  exact ⟨y, h1, hS y h2⟩
theorem opn_int {k : IntKind} (ht : P.underlying t = some (.int k)) (hc : P.cellsOf t = 1) : Opn P t (Kd.int k) (fun n => (Lit.int k n).wf = true) := by
  refine ⟨hc, fun enc w fuel cs x hx hk => ?_⟩
  obtain ⟨n, rfl, _, hw⟩ := DataW.trod_int ht hx
  exact ⟨n, rfl, hw⟩
theorem opn_bool (ht : P.underlying t = some .bool) (hc : P.cellsOf t = 1) : Opn P t Kd.bool (fun _ => True) := by
  refine ⟨hc, fun enc w fuel cs x hx hk => ?_⟩
  obtain ⟨n, rfl, _⟩ := DataW.trod_bool ht hx
  exact ⟨n, rfl, trivial⟩
theorem opn_string (ht : P.underlying t = some .string) (hc : P.cellsOf t = 1) : Opn P t Kd.string (fun s => s.size ≤ 140737488351232) := by
  refine ⟨hc, fun enc w fuel cs x hx hk => ?_⟩
  obtain ⟨s, rfl, rfl, _⟩ := DataW.trod_string ht hx
  refine ⟨s, rfl, ?_⟩
  have h := hk s.data.toList.length (by simp [DataW.weights])
  rw [data_length] at h
  exact h
theorem weightsAll_mem {H : Type} {e : TypeId} : ∀ {l : List (DataW H)} {d : DataW H}, d ∈ l → ∀ n ∈ d.weights P e, n ∈ DataW.weightsAll P e l
  | d' :: r, d, hd, n, hn => by
    simp only [DataW.weightsAll, List.mem_append]
    rcases List.mem_cons.1 hd with rfl | h
    · exact Or.inl hn
    · exact Or.inr (weightsAll_mem h n hn)
theorem opn_slice {e : TypeId} {d : Kd α} {S : α → Prop} (ht : P.underlying t = some (.slice e)) (hc : P.cellsOf t = 1) (he : Opn P e d S) :
    Opn P t (Kd.slice e d) (fun xs => xs.length * P.bytesOf e ≤ 140737488351232 ∧ xs.length ≤ maxLen ∧ ∀ x ∈ xs, S x) := by
  refine ⟨hc, fun enc w fuel cs x hx hk => ?_⟩
  rcases open_slice ht hx with ⟨rfl, rfl⟩ | ⟨a, len, cap, m, n, D, Pl, rfl, hb, hl, hm, hmm, rfl, hel⟩
  · exact ⟨[], ⟨none, 0, rfl, Nat.le_refl _, rfl, Nat.zero_le _, fun h => absurd h (Nat.lt_irrefl _)⟩, by simp, by simp, fun x hx => by cases hx⟩
  · rw [if_pos rfl] at hmm
    subst hmm
    have each : ∀ i, i < len → ∃ y, (∃ cs', w.cells? 0 (a.add (i * P.cellsOf e)) (P.cellsOf e) = some cs' ∧ d.K w y cs') ∧ S y := by
      intro i hi
      obtain ⟨cs', h1, h2⟩ := hel i (by omega)
      obtain ⟨y, h3, h4⟩ := he.2 enc w n cs' (D i, Pl i) h2 (fun k hk' => hk k (by
        simp only [DataW.weights, ht, List.mem_cons, List.mem_append]
        exact .inr (.inl (weightsAll_mem (List.mem_map.2 ⟨i, List.mem_range.2 hi, rfl⟩) k hk'))))
      exact ⟨y, ⟨cs', h1, h3⟩, h4⟩
    have hall : ∃ xs : List α, xs.length = len ∧ ∀ i y, xs[i]? = some y → (∃ cs', w.cells? 0 (a.add (i * P.cellsOf e)) (P.cellsOf e) = some cs' ∧ d.K w y cs') ∧ S y := by
      clear hel hk hx hl hm hb
      induction len with
      | zero => exact ⟨[], rfl, fun i y h => by simp at h⟩
      | succ k ih =>
        obtain ⟨xs, hx1, hx2⟩ := ih (fun i hi => each i (by omega))
        obtain ⟨y, hy⟩ := each k (by omega)
        refine ⟨xs ++ [y], by simp [hx1], fun i z hz => ?_⟩
        by_cases hi : i < xs.length
        · rw [List.getElem?_append_left hi] at hz
          exact hx2 i z hz
        · rw [List.getElem?_append_right (by omega)] at hz
          have hi0 : i - xs.length = 0 := by
            have := List.getElem?_eq_some_iff.1 hz
            obtain ⟨h1, _⟩ := this
            simp at h1; omega
          rw [hi0] at hz
          simp at hz
          subst hz
          rw [show i = k by omega]
          exact hy
    obtain ⟨xs, hx1, hx2⟩ := hall
    have hby : (len + (m - len)) * P.bytesOf e ≤ reachBytes := hk _ (by simp [DataW.weights, ht])
    refine ⟨xs, ⟨some a, m, by rw [hx1], by omega, rfl, by unfold maxLen at hm; omega, fun h0 => ⟨a, rfl, fun j p hj => ?_⟩⟩, ?_, by omega, fun x hx => ?_⟩
    · obtain ⟨⟨cs', h1, h2⟩, _⟩ := hx2 j p hj
      obtain ⟨_, hlen, hcell⟩ := World.cells?_some h1
      refine ⟨cs', d.K_len h2, h2, fun i u hu => ?_⟩
      have hi := hcell i (by have := (List.getElem?_eq_some_iff.1 hu).1; omega)
      rw [hu, Deep.add_add, he.1] at hi
      exact hi
    · have hr : reachBytes = 140737488351232 := rfl
      rw [hx1, ← hr]
      exact Nat.le_trans (Nat.mul_le_mul_right _ (by omega)) hby
    · obtain ⟨i, hi⟩ := List.mem_iff_getElem?.1 hx
      exact (hx2 i x hi).2
/-- Fields from a place on. -/
def OpnF (P : Program) (fs : List Field) (off : Nat) (d : Kd α) (S : α → Prop) : Prop :=
  ∀ {H : Type} (enc : TypeId × Value → H) (w : World) (n : Nat) (cs : List Value) (xs : List (DataW H × List MemPlace)), xs.length = fs.length → cs.length = off + d.sz →
    (∀ (i : Nat) (f : Field), fs[i]? = some f → DataW.trod enc P w 0 (fun _ => true) true n f.type ((cs.drop f.offset).take (P.cellsOf f.type)) = xs[i]?) →
    (∀ k ∈ DataW.weightsEach P (fs.map (·.type)) (xs.map (·.1)), k ≤ reachBytes) → ∃ y, d.K w y (cs.drop off) ∧ S y
theorem opnF_one {f : Field} {off : Nat} {d : Kd α} {S : α → Prop} (ho : f.offset = off) (h : Opn P f.type d S) : OpnF P [f] off d S := by
  intro H enc w n cs xs hl hc hf hk
  match xs, hl with
  | [x], _ =>
    have h0 := hf 0 f rfl
    rw [ho, h.1, List.take_of_length_le (by rw [List.length_drop]; omega)] at h0
    exact h.2 enc w n _ x h0 (fun k hk' => hk k (by simpa [DataW.weightsEach] using hk'))
theorem opnF_cons {f : Field} {fs : List Field} {off : Nat} {d : Kd α} {d' : Kd β} {S : α → Prop} {S' : β → Prop} (ho : f.offset = off) (h : Opn P f.type d S) (h' : OpnF P fs (off + d.sz) d' S') :
    OpnF P (f :: fs) off (Kd.pair d d') (fun z => S z.1 ∧ S' z.2) := by
  intro H enc w n cs xs hl hc hf hk
  match xs, hl with
  | x :: xs, hl =>
    have hsz : cs.length = off + (d.sz + d'.sz) := hc
    have h0 := hf 0 f rfl
    rw [ho, h.1] at h0
    obtain ⟨y, h1, h2⟩ := h.2 enc w n _ x h0 (fun k hk' => hk k (by simp only [List.map_cons, DataW.weightsEach, List.mem_append]; exact .inl hk'))
    obtain ⟨z, h3, h4⟩ := h' enc w n cs xs (by simpa using hl) (by omega) (fun i g hg => by have := hf (i + 1) g (by simpa using hg); simpa using this) (fun k hk' => hk k (by simp only [List.map_cons, DataW.weightsEach, List.mem_append]; exact .inr hk'))
    refine ⟨(y, z), ⟨(cs.drop off).take d.sz, cs.drop (off + d.sz), ?_, h1, h3⟩, h2, h4⟩
    rw [← List.drop_drop, List.take_append_drop]
theorem opn_struct {fs : Array Field} {d : Kd α} {S : α → Prop} (ht : P.underlying t = some (.struct fs)) (hc : P.cellsOf t = d.sz) (h : OpnF P fs.toList 0 d S) : Opn P t d S := by
  refine ⟨hc, fun enc w fuel cs x hx hk => ?_⟩
  obtain ⟨xs, n, _, rfl, hl, hxl, hf⟩ := DataW.trod_struct ht hx
  obtain ⟨y, h1, h2⟩ := h enc w n cs xs (by simpa using hxl) (by omega) (fun i f hi => hf i f (by simpa using hi)) (fun k hk' => hk k (by simpa [DataW.weights, ht] using hk'))
  rw [List.drop_zero] at h1
  exact ⟨y, h1, h2⟩
theorem opn_iso {d : Kd α} {S : α → Prop} (f : β → α) (g : α → β) (hfg : ∀ z, f (g z) = z) (h : Opn P t d S) : Opn P t (Kd.iso d f) (fun y => S (f y)) := by
  refine ⟨h.1, fun enc w fuel cs x hx hk => ?_⟩
  obtain ⟨y, h1, h2⟩ := h.2 enc w fuel cs x hx hk
  exact ⟨g y, by show d.K w (f (g y)) cs; rw [hfg]; exact h1, by show S (f (g y)); rw [hfg]; exact h2⟩
/-- An argument of one cell. -/
theorem opn_arg {H : Type} {enc : TypeId × Value → H} {w : World} {v : Value} {d : DataW H} {ps : List MemPlace} {k : Kd α} {S : α → Prop} {ts : List TypeId} {ds : List (DataW H)} {j : Nat}
    (ho : Opn P t k S) (h : DataW.Trod enc P w 0 (fun _ => true) true t v d ps) (hz : (DataW.weightsEach P ts ds).all (· ≤ reachBytes) = true) (hj : ts[j]? = some t) (hd : ds[j]? = some d) :
    ∃ y, k.K w y v.cells.toList ∧ S y := by
  obtain ⟨fuel, hf⟩ := h
  exact ho.2 enc w fuel _ (d, ps) hf (fun n hn => of_decide_eq_true (List.all_eq_true.1 hz _ (DataW.weights_mem_each hj hd n hn)))
end Go.Proofs.YtkfehogefclhdaaDoor.Opn

/- The kinds of an argument's structs, printed by the kit's kinds.py. -/
namespace Go.Proofs.YtkfehogefclhdaaDoor.Dk
open Go.RowKit Go.Proofs.YtkfehogefclhdaaDoorW.PrintWords
set_option linter.unusedVariables false

/-! #### struct type 32 -/
structure S32 where
  f0 : Int
  f1 : Int
  f2 : Int
def z32 : S32 := ⟨(0 : Int), (0 : Int), (0 : Int)⟩
def k32 : Kd S32 := Kd.iso (Kd.pair (Kd.int .i64) (Kd.pair (Kd.int .i64) (Kd.int .i64))) (fun x : S32 => (x.f0, x.f1, x.f2))
theorem k32_open {w : World} {x : S32} {cs : List Value} (h : k32.K w x cs) : cs = [.int .i64 x.f0, .int .i64 x.f1, .int .i64 x.f2] := by
  obtain ⟨_, _, rfl, rfl, ⟨_, _, rfl, rfl, rfl⟩⟩ := h
  exact rfl
theorem k32_openM {w : World} {base : Nat} {ok : Nat → Prop} {x : S32} {cs : List Value} (h : k32.M w base ok x cs) : cs = [.int .i64 x.f0, .int .i64 x.f1, .int .i64 x.f2] := by
  obtain ⟨_, _, rfl, rfl, ⟨_, _, rfl, rfl, rfl⟩⟩ := h
  exact rfl
theorem k32_mk (w : World) (x : S32)  : k32.K w x [.int .i64 x.f0, .int .i64 x.f1, .int .i64 x.f2] := ⟨[.int .i64 x.f0], [.int .i64 x.f1, .int .i64 x.f2], rfl, rfl, ⟨[.int .i64 x.f1], [.int .i64 x.f2], rfl, rfl, rfl⟩⟩
theorem k32_mkM (w : World) (base : Nat) (ok : Nat → Prop) (x : S32)  : k32.M w base ok x [.int .i64 x.f0, .int .i64 x.f1, .int .i64 x.f2] := ⟨[.int .i64 x.f0], [.int .i64 x.f1, .int .i64 x.f2], rfl, rfl, ⟨[.int .i64 x.f1], [.int .i64 x.f2], rfl, rfl, rfl⟩⟩
def rd_T32 (xs : List S32) (i : Int) : S32 := xs.getD i.toNat z32
theorem at_T32 {w : World} {A : Option Addr} {n : Nat} {xs : List S32} (h : Kd.C k32 w A n xs) (i : Int) (h0 : 0 ≤ i) (h1 : i < n) : ∃ ad , A = some ad ∧ w.cell? (ad.add (i.toNat * 3)) = some (.int .i64 (rd_T32 xs i).f0) ∧ w.cell? ⟨(ad.add (i.toNat * 3)).block, (ad.add (i.toNat * 3)).off + 1, none⟩ = some (.int .i64 (rd_T32 xs i).f1) ∧ w.cell? ⟨(ad.add (i.toNat * 3)).block, (ad.add (i.toNat * 3)).off + 2, none⟩ = some (.int .i64 (rd_T32 xs i).f2) := by
  obtain ⟨ad, c, e, _, hK, hc0⟩ := Kd.C_get h z32 i h0 h1
  have hc : ∀ j u, c[j]? = some u → w.cell? (ad.add (i.toNat * 3 + j)) = some u := hc0
  obtain rfl := k32_open hK
  exact ⟨ad, e, hc 0 _ rfl, by rw [← add_field _ _ 1 (by omega)]; exact hc 1 _ rfl, by rw [← add_field _ _ 2 (by omega)]; exact hc 2 _ rfl⟩

def rd_L3 (xs : List (List S32)) (i : Int) : (List S32) := xs.getD i.toNat ([] : List S32)
theorem at_L3 {w : World} {A : Option Addr} {n : Nat} {xs : List (List S32)} (h : Kd.C (Kd.slice 32 k32) w A n xs) (i : Int) (h0 : 0 ≤ i) (h1 : i < n) : ∃ ad A0 c0, A = some ad ∧ w.cell? (ad.add i.toNat) = some (.slice A0 (rd_L3 xs i).length c0) ∧ (rd_L3 xs i).length ≤ c0 ∧ k32.C w A0 (rd_L3 xs i).length (rd_L3 xs i) := by
  obtain ⟨ad, c, e, _, hK, hc0⟩ := Kd.C_get h ([] : List S32) i h0 h1
  have hc : ∀ j u, c[j]? = some u → w.cell? (ad.add (i.toNat * 1 + j)) = some u := hc0
  obtain ⟨A0, c0, rfl, l0, g0⟩ := hK
  exact ⟨ad, A0, c0, e, by have hq := hc 0 _ rfl; rwa [Nat.mul_one, Nat.add_zero] at hq, l0, g0⟩

/-! #### struct type 42 -/
structure S42 where
  f0 : Int
  f1 : Int
  f2 : ByteArray
  f3 : ByteArray
  f4 : ByteArray
  f5 : Int
  f6 : (List S32)
def z42 : S42 := ⟨(0 : Int), (0 : Int), (⟨#[]⟩ : ByteArray), (⟨#[]⟩ : ByteArray), (⟨#[]⟩ : ByteArray), (0 : Int), ([] : List S32)⟩
def k42 : Kd S42 := Kd.iso (Kd.pair (Kd.int .i64) (Kd.pair (Kd.int .i64) (Kd.pair Kd.string (Kd.pair Kd.string (Kd.pair Kd.string (Kd.pair (Kd.int .i64) (Kd.slice 32 k32))))))) (fun x : S42 => (x.f0, x.f1, x.f2, x.f3, x.f4, x.f5, x.f6))
theorem k42_open {w : World} {x : S42} {cs : List Value} (h : k42.K w x cs) : ∃ A6 c6, cs = [.int .i64 x.f0, .int .i64 x.f1, .string x.f2, .string x.f3, .string x.f4, .int .i64 x.f5, .slice A6 x.f6.length c6] ∧ x.f6.length ≤ c6 ∧ k32.C w A6 x.f6.length x.f6 := by
  obtain ⟨_, _, rfl, rfl, ⟨_, _, rfl, rfl, ⟨_, _, rfl, rfl, ⟨_, _, rfl, rfl, ⟨_, _, rfl, rfl, ⟨_, _, rfl, rfl, ⟨A6, c6, rfl, l6, g6⟩⟩⟩⟩⟩⟩⟩ := h
  exact ⟨A6, c6, rfl, l6, g6⟩
theorem k42_openM {w : World} {base : Nat} {ok : Nat → Prop} {x : S42} {cs : List Value} (h : k42.M w base ok x cs) : ∃ v6, cs = [.int .i64 x.f0, .int .i64 x.f1, .string x.f2, .string x.f3, .string x.f4, .int .i64 x.f5, v6] ∧ k32.R 32 w base ok v6 x.f6 := by
  obtain ⟨_, _, rfl, rfl, ⟨_, _, rfl, rfl, ⟨_, _, rfl, rfl, ⟨_, _, rfl, rfl, ⟨_, _, rfl, rfl, ⟨_, _, rfl, rfl, ⟨v6, rfl, g6⟩⟩⟩⟩⟩⟩⟩ := h
  exact ⟨v6, rfl, g6⟩
theorem k42_mk (w : World) (x : S42) {A6 : Option Addr} {c6 : Nat} (l6 : x.f6.length ≤ c6) (g6 : k32.C w A6 x.f6.length x.f6) : k42.K w x [.int .i64 x.f0, .int .i64 x.f1, .string x.f2, .string x.f3, .string x.f4, .int .i64 x.f5, .slice A6 x.f6.length c6] := ⟨[.int .i64 x.f0], [.int .i64 x.f1, .string x.f2, .string x.f3, .string x.f4, .int .i64 x.f5, .slice A6 x.f6.length c6], rfl, rfl, ⟨[.int .i64 x.f1], [.string x.f2, .string x.f3, .string x.f4, .int .i64 x.f5, .slice A6 x.f6.length c6], rfl, rfl, ⟨[.string x.f2], [.string x.f3, .string x.f4, .int .i64 x.f5, .slice A6 x.f6.length c6], rfl, rfl, ⟨[.string x.f3], [.string x.f4, .int .i64 x.f5, .slice A6 x.f6.length c6], rfl, rfl, ⟨[.string x.f4], [.int .i64 x.f5, .slice A6 x.f6.length c6], rfl, rfl, ⟨[.int .i64 x.f5], [.slice A6 x.f6.length c6], rfl, rfl, ⟨A6, c6, rfl, l6, g6⟩⟩⟩⟩⟩⟩⟩
theorem k42_mkM (w : World) (base : Nat) (ok : Nat → Prop) (x : S42) {v6 : Value} (g6 : k32.R 32 w base ok v6 x.f6) : k42.M w base ok x [.int .i64 x.f0, .int .i64 x.f1, .string x.f2, .string x.f3, .string x.f4, .int .i64 x.f5, v6] := ⟨[.int .i64 x.f0], [.int .i64 x.f1, .string x.f2, .string x.f3, .string x.f4, .int .i64 x.f5, v6], rfl, rfl, ⟨[.int .i64 x.f1], [.string x.f2, .string x.f3, .string x.f4, .int .i64 x.f5, v6], rfl, rfl, ⟨[.string x.f2], [.string x.f3, .string x.f4, .int .i64 x.f5, v6], rfl, rfl, ⟨[.string x.f3], [.string x.f4, .int .i64 x.f5, v6], rfl, rfl, ⟨[.string x.f4], [.int .i64 x.f5, v6], rfl, rfl, ⟨[.int .i64 x.f5], [v6], rfl, rfl, ⟨v6, rfl, g6⟩⟩⟩⟩⟩⟩⟩
def rd_T42 (xs : List S42) (i : Int) : S42 := xs.getD i.toNat z42
theorem at_T42 {w : World} {A : Option Addr} {n : Nat} {xs : List S42} (h : Kd.C k42 w A n xs) (i : Int) (h0 : 0 ≤ i) (h1 : i < n) : ∃ ad A6 c6, A = some ad ∧ w.cell? (ad.add (i.toNat * 7)) = some (.int .i64 (rd_T42 xs i).f0) ∧ w.cell? ⟨(ad.add (i.toNat * 7)).block, (ad.add (i.toNat * 7)).off + 1, none⟩ = some (.int .i64 (rd_T42 xs i).f1) ∧ w.cell? ⟨(ad.add (i.toNat * 7)).block, (ad.add (i.toNat * 7)).off + 2, none⟩ = some (.string (rd_T42 xs i).f2) ∧ w.cell? ⟨(ad.add (i.toNat * 7)).block, (ad.add (i.toNat * 7)).off + 3, none⟩ = some (.string (rd_T42 xs i).f3) ∧ w.cell? ⟨(ad.add (i.toNat * 7)).block, (ad.add (i.toNat * 7)).off + 4, none⟩ = some (.string (rd_T42 xs i).f4) ∧ w.cell? ⟨(ad.add (i.toNat * 7)).block, (ad.add (i.toNat * 7)).off + 5, none⟩ = some (.int .i64 (rd_T42 xs i).f5) ∧ w.cell? ⟨(ad.add (i.toNat * 7)).block, (ad.add (i.toNat * 7)).off + 6, none⟩ = some (.slice A6 (rd_T42 xs i).f6.length c6) ∧ (rd_T42 xs i).f6.length ≤ c6 ∧ k32.C w A6 (rd_T42 xs i).f6.length (rd_T42 xs i).f6 := by
  obtain ⟨ad, c, e, _, hK, hc0⟩ := Kd.C_get h z42 i h0 h1
  have hc : ∀ j u, c[j]? = some u → w.cell? (ad.add (i.toNat * 7 + j)) = some u := hc0
  obtain ⟨A6, c6, rfl, l6, g6⟩ := k42_open hK
  exact ⟨ad, A6, c6, e, hc 0 _ rfl, by rw [← add_field _ _ 1 (by omega)]; exact hc 1 _ rfl, by rw [← add_field _ _ 2 (by omega)]; exact hc 2 _ rfl, by rw [← add_field _ _ 3 (by omega)]; exact hc 3 _ rfl, by rw [← add_field _ _ 4 (by omega)]; exact hc 4 _ rfl, by rw [← add_field _ _ 5 (by omega)]; exact hc 5 _ rfl, by rw [← add_field _ _ 6 (by omega)]; exact hc 6 _ rfl, l6, g6⟩

end Go.Proofs.YtkfehogefclhdaaDoor.Dk

/- How a script opens: acts, their stops. -/
namespace Go.Proofs.YtkfehogefclhdaaDoor.Dk
open Go.RowKit Go.Maps Go.Proofs.YtkfehogefclhdaaDoorW.PrintWords
set_option maxRecDepth 100000 in
theorem opn32 : Opn.Opn Tryd.prog 32 k32 (fun _ => True) :=
  (Opn.opn_iso (fun x : S32 => (x.f0, x.f1, x.f2)) (fun z => ⟨z.1, z.2.1, z.2.2⟩) (fun _ => rfl)
    (Opn.opn_struct Tryd.underlying32 (by kernel_rfl) (Opn.opnF_cons rfl (Opn.opn_int Tryd.underlying3 (by kernel_rfl)) (Opn.opnF_cons rfl (Opn.opn_int Tryd.underlying3 (by kernel_rfl)) (Opn.opnF_one rfl (Opn.opn_int Tryd.underlying3 (by kernel_rfl))))))).imp (fun _ _ => trivial)
set_option maxRecDepth 100000 in
theorem opn33 : Opn.Opn Tryd.prog 33 (Kd.slice 32 k32) (fun xs => xs.length * 24 ≤ 140737488351232) :=
  (Opn.opn_slice Tryd.underlying33 (by kernel_rfl) opn32).imp (fun _ h => by have e : Tryd.prog.bytesOf 32 = 24 := by kernel_rfl
                                                                             rw [e] at h; exact h.1)
/-- How large an act may be. -/
def ActOk (x : S42) : Prop := x.f2.size ≤ 140737488351232 ∧ x.f3.size ≤ 140737488351232 ∧ x.f4.size ≤ 140737488351232 ∧ x.f6.length * 24 ≤ 140737488351232 ∧ (Lit.int .i64 x.f0).wf = true ∧ (Lit.int .i64 x.f5).wf = true
set_option maxRecDepth 100000 in
theorem opn42 : Opn.Opn Tryd.prog 42 k42 ActOk :=
  (Opn.opn_iso (fun x : S42 => (x.f0, x.f1, x.f2, x.f3, x.f4, x.f5, x.f6)) (fun z => ⟨z.1, z.2.1, z.2.2.1, z.2.2.2.1, z.2.2.2.2.1, z.2.2.2.2.2.1, z.2.2.2.2.2.2⟩) (fun _ => rfl)
    (Opn.opn_struct Tryd.underlying42 (by kernel_rfl) (Opn.opnF_cons rfl (Opn.opn_int Tryd.underlying3 (by kernel_rfl)) (Opn.opnF_cons rfl (Opn.opn_int Tryd.underlying3 (by kernel_rfl))
      (Opn.opnF_cons rfl (Opn.opn_string Tryd.underlying9 (by kernel_rfl)) (Opn.opnF_cons rfl (Opn.opn_string Tryd.underlying9 (by kernel_rfl)) (Opn.opnF_cons rfl (Opn.opn_string Tryd.underlying9 (by kernel_rfl))
      (Opn.opnF_cons rfl (Opn.opn_int Tryd.underlying3 (by kernel_rfl)) (Opn.opnF_one rfl opn33))))))))).imp (fun _ h => ⟨h.2.2.1, h.2.2.2.1, h.2.2.2.2.1, h.2.2.2.2.2.2, h.1, h.2.2.2.2.2.1⟩)
set_option maxRecDepth 100000 in
theorem opn40 : Opn.Opn Tryd.prog 40 (Kd.slice 42 k42) (fun xs => xs.length ≤ maxLen ∧ ∀ x ∈ xs, ActOk x) :=
  (Opn.opn_slice Tryd.underlying40 (by kernel_rfl) opn42).imp (fun _ h => ⟨h.2.1, h.2.2⟩)
end Go.Proofs.YtkfehogefclhdaaDoor.Dk

/- Truncate's closures. -/
namespace Go.Proofs.YtkfehogefclhdaaDoor.Dk
open Go.RowKit Go.Maps Go.Proofs.YtkfehogefclhdaaDoorW.PrintWords Go.Proofs.YtkfehogefclhdaaDoorW.PrintMore
variable {N : Nat} {w : World} {p : Nat} {F : Nat → Prop} {s : St} {m : Nat} {pv : Value} {B : Nat} {a0 a1 a2 a3 a4 : Addr}
attribute [local go_sem] max2_int min2_int max_two min_two

theorem ent82 : Enters Tryd.prog 82 := enters_of Tryd.func82 (by kernel_rfl) rfl
theorem ent83 : Enters Tryd.prog 83 := enters_of Tryd.func83 (by kernel_rfl) rfl
noncomputable def truC (fs : List Fil) (x : ByteArray) (n : Int) : Int := if thereC fs x ≠ 0 then thereC fs x else if n < 0 ∨ n > sizeF fs x then 3 else 0
def cutFil (f : Fil) (n : Nat) : Fil := { f with bytes := f.bytes.extract 0 n, dur := min f.dur n }
def TruF (fs : List Fil) (x : ByteArray) (n : Int) (fs' : List Fil) : Prop := ∃ f, look fs x = some f ∧ fs' = setF x (cutFil f n.toNat) fs
theorem cutFil_ok {f : Fil} {n : Nat} (hn : n ≤ f.bytes.size) : (cutFil f n).bytes.size = n := by
  show (f.bytes.extract 0 n).size = n
  rw [ByteArray.size_extract]; omega
/-- The state behind the two stores. -/
theorem Is.cut (h : Is N w p F s m pv) {x : ByteArray} {f : Fil} (hl : look s.fs x = some f) {n : Nat} (hn : n ≤ f.bytes.size) :
    Is N ((w.setCell ⟨f.blk, 0, none⟩ (.string (f.bytes.extract 0 n))).setCell ⟨f.blk, 1, none⟩ (.int .i64 ((min f.dur n : Nat) : Int))) p F { s with fs := setF x (cutFil f n) s.fs } m pv ∧
      Fr F w ((w.setCell ⟨f.blk, 0, none⟩ (.string (f.bytes.extract 0 n))).setCell ⟨f.blk, 1, none⟩ (.int .i64 ((min f.dur n : Nat) : Int))) := by
  have hm := (look_mem hl).1
  have he := h.each f hm
  have hset := blk_set (blk_set he 0 (.string (f.bytes.extract 0 n))) 1 (.int .i64 ((min f.dur n : Nat) : Int))
  have hsz := cutFil_ok hn
  refine ⟨h.setFile (f' := cutFil f n) hl rfl rfl (by omega) (by rw [hsz]; exact Nat.min_le_right _ _) hset (fun i hi => (Below.heap_setCell _ _ _ i hi).trans (Below.heap_setCell _ _ _ i hi)) (by simp [World.setCell]), ?_⟩
  exact ((Fr.refl F w).set (a := ⟨f.blk, 0, none⟩) (h.inF f hm) _).set (a := ⟨f.blk, 1, none⟩) (h.inF f hm) _
set_option maxRecDepth 100000 in
set_option maxHeartbeats 1000000 in
theorem tru_do (h : Is N w p F s m pv) (x : ByteArray) (hx : x.size ≤ 140737488351232) {n : Nat} {bd bx b2 : Nat} (kd : w.cell? ⟨bd, 0, none⟩ = some (.pointer (some ⟨p, 0, none⟩))) (kx : w.cell? ⟨bx, 0, none⟩ = some (.string x)) (ky : w.cell? ⟨b2, 0, none⟩ = some (.int .i64 n)) {f : Fil} (hl : look s.fs x = some f) (hn : n ≤ f.bytes.size) (nF : bd ≠ f.blk ∧ bx ≠ f.blk ∧ b2 ≠ f.blk) :
    Calls Tryd.prog 83 #[.pointer (some ⟨bd, 0, none⟩), .pointer (some ⟨bx, 0, none⟩), .pointer (some ⟨b2, 0, none⟩)] w fun e w' => e = .returned (.tuple #[]) ∧
      ∃ k, w' = ((w.setCell ⟨f.blk, 0, none⟩ (.string (f.bytes.extract 0 n))).setCell ⟨f.blk, 1, none⟩ (.int .i64 ((min f.dur n : Nat) : Int))).drewN k := by
  obtain ⟨c0, c1, c2, c3, c4, c5⟩ := h.cells
  have hm := (look_mem hl).1
  have he := h.each f hm
  have b0 := blk_cell he 0
  have bf := blk_frozen he
  simp only [List.getElem?_toArray, List.getElem?_cons_zero] at b0
  have hk1 : (Instr.lookup 75 (.map (some m)) (.string x) false).run Tryd.prog w.drew = .ok (.pointer (some ⟨f.blk, 0, none⟩)) w.drew := by
    have t := look_run (w := w.drew) (h.below (Below.refl _ _).drew).files (x := x) (by unfold maxLen; omega)
    unfold at' at t; rw [hl] at t; exact t
  have hz := used_mem hm
  have hr := h.room
  have hq := h.quo
  have hd := h.durs f hm
  obtain ⟨wd, hwd⟩ : ∃ wd, w.drew = wd := ⟨_, rfl⟩
  have kyd : wd.cell? ⟨b2, 0, none⟩ = some (.int .i64 n) := by rw [← hwd]; exact ky
  have b0d : wd.cell? ⟨f.blk, 0, none⟩ = some (.string f.bytes) := by rw [← hwd]; exact b0
  have bfd : ∀ i, wd.frozen? ⟨f.blk, i, none⟩ = false := fun i => by rw [← hwd]; exact bf i
  have hb5 := blk_set he 0 (.string (f.bytes.extract 0 n))
  obtain ⟨w5, hw5⟩ : ∃ w5, (wd.setCell ⟨f.blk, 0, none⟩ (.string (f.bytes.extract 0 n))).drew = w5 := ⟨_, rfl⟩
  have hb5' : w5.heap[f.blk]? = some (.cells #[.string (f.bytes.extract 0 n), .int .i64 f.dur] 81 (0, 0)) := by rw [← hw5, ← hwd]; exact hb5
  have y5 : w5.cell? ⟨b2, 0, none⟩ = some (.int .i64 n) := by rw [← hw5, ← hwd]; exact cell_of ky (Below.heap_setCell w ⟨f.blk, 0, none⟩ _ b2 nF.2.2)
  have d5 : w5.cell? ⟨f.blk, 1, none⟩ = some (.int .i64 f.dur) := blk_cell hb5' 1
  have z5 : ∀ i, w5.frozen? ⟨f.blk, i, none⟩ = false := blk_frozen hb5'
  have HW5 : Hid _ := hw5
  have HWD : Hid _ := hwd
  clear hwd hw5 hb5 hb5'
  go_enter Tryd.func83, Tryd.ntmps83
  go_wp2
  go_still_tail 6, (by kernel_rfl)
  all_goals go_wp2
  rw [show ({ heap := w.heap, tape := w.tape, drawn := w.drawn + 1, os := w.os, output := w.output } : World) = wd from HWD.out]
  go_still_tail 9, (by kernel_rfl)
  all_goals go_wp2
  rw [HW5.out]
  go_still_tail 9, (by kernel_rfl)
  all_goals go_wp2
  all_goals go_end0
  · refine ⟨rfl, 3, ?_⟩
    rw [show min f.dur n = n by omega, ← HW5.out, ← HWD.out]; rfl
  · refine ⟨rfl, 3, ?_⟩
    rw [show min f.dur n = f.dur by omega, ← HW5.out, ← HWD.out]; rfl
end Go.Proofs.YtkfehogefclhdaaDoor.Dk

/- Truncate's test. -/
namespace Go.Proofs.YtkfehogefclhdaaDoor.Dk
open Go.RowKit Go.Maps Go.Proofs.YtkfehogefclhdaaDoorW.PrintWords Go.Proofs.YtkfehogefclhdaaDoorW.PrintMore
variable {N : Nat} {w : World} {p : Nat} {F : Nat → Prop} {s : St} {m : Nat} {pv : Value} {B : Nat} {a0 a1 a2 a3 a4 : Addr}
set_option maxRecDepth 100000 in
set_option maxHeartbeats 1000000 in
theorem tru_may_err (h : Is N w p F s m pv) (x : ByteArray) (hx : x.size ≤ 140737488351232) {n : Int} {bd bx b2 : Nat} (kd : w.cell? ⟨bd, 0, none⟩ = some (.pointer (some ⟨p, 0, none⟩))) (kx : w.cell? ⟨bx, 0, none⟩ = some (.string x)) (hc : thereC s.fs x ≠ 0) :
    Calls Tryd.prog 82 #[.pointer (some ⟨bd, 0, none⟩), .pointer (some ⟨bx, 0, none⟩), .pointer (some ⟨b2, 0, none⟩)] w fun e w' => e = .returned (.int .i64 (truC s.fs x n)) ∧ Below w.heap.size w w' := by
  have e : truC s.fs x n = thereC s.fs x := by unfold truC; rw [if_pos hc]
  rw [e]
  have hcb : (thereC s.fs x == 0) = false := beq_eq_false_iff_ne.2 hc
  have hcb2 : (thereC s.fs x != 0) = true := bne_iff_ne.2 hc
  clear e
  go_enter Tryd.func82, Tryd.ntmps82
  go_wp2_with fail
  refine (there_ok h x hx).mono ?_
  rintro e w' ⟨rfl, hb⟩
  go_wp2
  go_ret
  exact ⟨rfl, hb⟩
set_option maxRecDepth 100000 in
set_option maxHeartbeats 1000000 in
theorem tru_may_neg (h : Is N w p F s m pv) (x : ByteArray) (hx : x.size ≤ 140737488351232) {n : Int} {bd bx b2 : Nat} (kd : w.cell? ⟨bd, 0, none⟩ = some (.pointer (some ⟨p, 0, none⟩))) (kx : w.cell? ⟨bx, 0, none⟩ = some (.string x)) (ky : w.cell? ⟨b2, 0, none⟩ = some (.int .i64 n)) (hc : thereC s.fs x = 0) (hn : n < 0) :
    Calls Tryd.prog 82 #[.pointer (some ⟨bd, 0, none⟩), .pointer (some ⟨bx, 0, none⟩), .pointer (some ⟨b2, 0, none⟩)] w fun e w' => e = .returned (.int .i64 (truC s.fs x n)) ∧ Below w.heap.size w w' := by
  have e : truC s.fs x n = 3 := by unfold truC; rw [if_neg (by rw [hc]; decide), if_pos (.inl hn)]
  rw [e]
  have hnb : decide (n < 0) = true := decide_eq_true hn
  clear e
  go_enter Tryd.func82, Tryd.ntmps82
  go_wp2_with fail
  refine (there_ok h x hx).mono ?_
  rw [hc]
  rintro e w' ⟨rfl, hb⟩
  have ky' := pw_cell_below hb ky
  go_wp2_with fail
  go_quiet (fail)
  go_wp2
  go_ret
  exact ⟨rfl, hb.trans (drewN_below _ _ |>.mono hb.size)⟩
set_option maxRecDepth 100000 in
set_option maxHeartbeats 1000000 in
theorem tru_may_pos (h : Is N w p F s m pv) (x : ByteArray) (hx : x.size ≤ 140737488351232) {n : Int} {bd bx b2 : Nat} (kd : w.cell? ⟨bd, 0, none⟩ = some (.pointer (some ⟨p, 0, none⟩))) (kx : w.cell? ⟨bx, 0, none⟩ = some (.string x)) (ky : w.cell? ⟨b2, 0, none⟩ = some (.int .i64 n)) (hc : thereC s.fs x = 0) (hn : ¬ n < 0) :
    Calls Tryd.prog 82 #[.pointer (some ⟨bd, 0, none⟩), .pointer (some ⟨bx, 0, none⟩), .pointer (some ⟨b2, 0, none⟩)] w fun e w' => e = .returned (.int .i64 (truC s.fs x n)) ∧ Below w.heap.size w w' := by
  obtain ⟨f, hl⟩ := there_zero hc
  have e : truC s.fs x n = if n > (f.bytes.size : Int) then 3 else 0 := by
    unfold truC sizeF; rw [if_neg (by rw [hc]; decide), hl]
    by_cases h2 : n > (f.bytes.size : Int)
    · rw [if_pos (.inr h2), if_pos h2]
    · rw [if_neg (fun e => by rcases e with e | e; exact hn e; exact h2 e), if_neg h2]
  obtain ⟨z, hz⟩ : ∃ z : Int, (if n > (f.bytes.size : Int) then (3 : Int) else 0) = z := ⟨_, rfl⟩
  rw [e, hz]
  have HZ : Hid _ := hz
  have hnb : decide (n < 0) = false := decide_eq_false hn
  clear e hz
  go_enter Tryd.func82, Tryd.ntmps82
  go_wp2_with fail
  refine (there_ok h x hx).mono ?_
  rw [hc]
  rintro e w' ⟨rfl, hb⟩
  have ky' := pw_cell_below hb ky
  have kd' := pw_cell_below hb kd
  have kx' := pw_cell_below hb kx
  have h' := h.below hb
  obtain ⟨c0, c1, c2, c3, c4, c5⟩ := h'.cells
  have b0 := blk_cell (h'.each f (look_mem hl).1) 0
  simp only [List.getElem?_toArray, List.getElem?_cons_zero] at b0
  have hk : ∀ k, (Instr.lookup 75 (.map (some m)) (.string x) false).run Tryd.prog (w'.drewN k) = .ok (.pointer (some ⟨f.blk, 0, none⟩)) (w'.drewN k) := fun k => by
    have t := look_run (h'.below (drewN_below w' k)).files (x := x) (by unfold maxLen; omega)
    unfold at' at t; rw [hl] at t; exact t
  go_wp2_with fail
  go_quiet (fail)
  go_wp2
  all_goals go_ret
  · exact ⟨by rw [← HZ.out, if_pos (by omega)]; rfl, hb.trans ((drewN_below _ _).mono hb.size)⟩
  · exact ⟨by rw [← HZ.out, if_neg (by omega)]; rfl, hb.trans ((drewN_below _ _).mono hb.size)⟩
end Go.Proofs.YtkfehogefclhdaaDoor.Dk

/- Truncate, whole. -/
namespace Go.Proofs.YtkfehogefclhdaaDoor.Dk
open Go.RowKit Go.Maps Go.Proofs.YtkfehogefclhdaaDoorW.PrintWords Go.Proofs.YtkfehogefclhdaaDoorW.PrintMore
variable {N : Nat} {w : World} {p : Nat} {F : Nat → Prop} {s : St} {m : Nat} {pv : Value} {B : Nat} {a0 a1 a2 a3 a4 : Addr}

theorem tru_may (h : Is N w p F s m pv) (x : ByteArray) (hx : x.size ≤ 140737488351232) {n : Int} {bd bx b2 : Nat} (kd : w.cell? ⟨bd, 0, none⟩ = some (.pointer (some ⟨p, 0, none⟩))) (kx : w.cell? ⟨bx, 0, none⟩ = some (.string x)) (ky : w.cell? ⟨b2, 0, none⟩ = some (.int .i64 n)) :
    Calls Tryd.prog 82 #[.pointer (some ⟨bd, 0, none⟩), .pointer (some ⟨bx, 0, none⟩), .pointer (some ⟨b2, 0, none⟩)] w fun e w' => e = .returned (.int .i64 (truC s.fs x n)) ∧ Below w.heap.size w w' := by
  by_cases hc : thereC s.fs x = 0
  · by_cases hn : n < 0
    · exact tru_may_neg h x hx kd kx ky hc hn
    · exact tru_may_pos h x hx kd kx ky hc hn
  · exact tru_may_err h x hx kd kx hc
theorem tru_zero {fs : List Fil} {x : ByteArray} {n : Int} (h : truC fs x n = 0) : ∃ f, look fs x = some f ∧ 0 ≤ n ∧ n ≤ f.bytes.size := by
  unfold truC at h
  by_cases hc : thereC fs x = 0
  · obtain ⟨f, hf⟩ := there_zero hc
    rw [if_neg (by rw [hc]; decide)] at h
    unfold sizeF at h
    rw [hf] at h
    by_cases h2 : n < 0 ∨ n > (f.bytes.size : Int)
    · rw [if_pos h2] at h; cases h
    · exact ⟨f, hf, by omega, by omega⟩
  · rw [if_pos hc] at h; exact absurd h hc
theorem tru_clo {w5 : World} (h : Is N w5 p F s m pv) (x : ByteArray) (n : Int) (hx : x.size ≤ 140737488351232)
    {bd bx b2 bo : Nat} (kd : w5.cell? ⟨bd, 0, none⟩ = some (.pointer (some ⟨p, 0, none⟩))) (kx : w5.cell? ⟨bx, 0, none⟩ = some (.string x)) (ky : w5.cell? ⟨b2, 0, none⟩ = some (.int .i64 n))
    (ko : w5.cell? ⟨bo, 0, none⟩ = some (.func (.func 83) #[] #[.pointer (some ⟨bd, 0, none⟩), .pointer (some ⟨bx, 0, none⟩), .pointer (some ⟨b2, 0, none⟩)])) (nF : ∀ i, i = bd ∨ i = bx ∨ i = b2 ∨ i = bo → ¬ F i) :
    Clo N w5 p F (fun i => i = bd ∨ i = bx ∨ i = b2 ∨ i = bo) s m (truC s.fs x n) 82 83 81 #[.pointer (some ⟨bd, 0, none⟩), .pointer (some ⟨bx, 0, none⟩), .pointer (some ⟨b2, 0, none⟩)] #[.pointer (some ⟨bd, 0, none⟩), .pointer (some ⟨bx, 0, none⟩), .pointer (some ⟨b2, 0, none⟩)] #[.pointer (some ⟨bo, 0, none⟩)]
      (orF s.fs (TruF s.fs x n)) (TruF s.fs x n) (fun _ => True) (fun _ => False) := by
  have hsep : ∀ i, (i = bd ∨ i = bx ∨ i = b2 ∨ i = bo) → i < w5.heap.size ∧ ¬ F i := fun i hi => ⟨by
    rcases hi with rfl | rfl | rfl | rfl
    · exact World.block_lt_of_cell? w5 _ kd
    · exact World.block_lt_of_cell? w5 _ kx
    · exact World.block_lt_of_cell? w5 _ ky
    · exact World.block_lt_of_cell? w5 _ ko, nF i hi⟩
  have hdo : truC s.fs x n = 0 → ∀ w1 s1 pv1, On N w5 p F (fun i => i = bd ∨ i = bx ∨ i = b2 ∨ i = bo) s m w1 s1 pv1 → Calls Tryd.prog 83 #[.pointer (some ⟨bd, 0, none⟩), .pointer (some ⟨bx, 0, none⟩), .pointer (some ⟨b2, 0, none⟩)] w1 fun e w' => e = .returned (.tuple #[]) ∧ ∃ F' fs', TruF s.fs x n fs' ∧ Is (N + 1) w' p F' { s1 with fs := fs' } m pv1 ∧ Fr F w1 w' ∧ Sub w1 F F' := by
    intro h0 w1 s1 pv1 on
    obtain ⟨f, hf, hn0, hn1⟩ := tru_zero h0
    have hl1 : look s1.fs x = some f := by rw [on.fs]; exact hf
    have hFb := on.is.inF f (look_mem hl1).1
    obtain ⟨n2, rfl⟩ : ∃ n2 : Nat, n = n2 := ⟨n.toNat, by omega⟩
    refine (tru_do on.is x hx (n := n2) (cell_of kd (on.cap bd (.inl rfl))) (cell_of kx (on.cap bx (.inr (.inl rfl)))) (cell_of ky (on.cap b2 (.inr (.inr (.inl rfl))))) hl1 (by omega) ⟨fun e => nF bd (.inl rfl) (e ▸ hFb), fun e => nF bx (.inr (.inl rfl)) (e ▸ hFb), fun e => nF b2 (.inr (.inr (.inl rfl))) (e ▸ hFb)⟩).mono ?_
    rintro e w' ⟨rfl, k, rfl⟩
    obtain ⟨q1, q2⟩ := on.is.cut hl1 (n := n2) (by omega)
    have q3 : Fr F w1 (((w1.setCell ⟨f.blk, 0, none⟩ (.string (f.bytes.extract 0 n2))).setCell ⟨f.blk, 1, none⟩ (.int .i64 ((min f.dur n2 : Nat) : Int))).drewN k) := ⟨q2.os, q2.tape, q2.output, q2.size, q2.block⟩
    exact ⟨rfl, F, _, ⟨f, hf, rfl⟩, by rw [← on.fs]; exact (q1.below (drewN_below _ k)).more, q3, Sub.refl _ _⟩
  exact {
    may := fun w1 s1 pv1 on => by
      rw [← on.fs]
      exact tru_may on.is x hx (cell_of kd (on.cap bd (.inl rfl))) (cell_of kx (on.cap bx (.inr (.inl rfl)))) (cell_of ky (on.cap b2 (.inr (.inr (.inl rfl)))))
    part := fun h0 w1 s1 pv1 n1 on => by
      have ko' := cell_of ko (on.cap bo (.inr (.inr (.inr rfl))))
      by_cases hn : n1 ≥ 1
      · refine (or_yes ent83 ko' hn (hdo h0 w1 s1 pv1 on)).mono ?_
        rintro e w' ⟨rfl, F', fs', h1, h2, h3, h4⟩
        exact ⟨rfl, F', fs', by unfold orF; rw [if_pos hn]; exact h1, h2, h3, h4⟩
      · refine (or_no hn).mono ?_
        rintro e w' ⟨rfl, rfl⟩
        refine ⟨rfl, F, s.fs, by unfold orF; rw [if_neg hn], ?_, Fr.refl _ _, Sub.refl _ _⟩
        have t := on.is.more
        have e1 : ({ s1 with fs := s.fs } : St) = s1 := by rw [← on.fs]
        rw [e1]; exact t
    whole := fun h0 w1 s1 pv1 on => by
      refine (hdo h0 w1 s1 pv1 on).mono ?_
      rintro e w' ⟨rfl, F', fs', h1, h2, h3, h4⟩
      exact ⟨rfl, F', fs', h1, h2, h3.or _, h4, trivial⟩
    em := ent82
    ew := ent83
    ep := ent81
    sep := hsep }
set_option maxRecDepth 100000 in
set_option maxHeartbeats 1000000 in
theorem truncate_ok (h : Is N w p F s m pv) (hS : Sens w B a0 a1 a2 a3 a4) (hB : ∀ i, F i → B ≤ i) (hs0 : 0 ≤ s.steps) (hs1 : s.steps < 1000000000000) (hs2 : 0 ≤ s.since) (hs3 : s.since < 1000000000000) (x : ByteArray) (n : Int) (hx : x.size ≤ 140737488351232) :
    Calls Tryd.prog 61 #[.pointer (some ⟨p, 0, none⟩), .string x, .int .i64 n] w fun e w' => ∃ v, e = .returned v ∧ OpRes N w p F s m a0 a1 a2 a3 a4 (truC s.fs x n) (orF s.fs (TruF s.fs x n)) (TruF s.fs x n) v w' := by
  have hmf : ∀ (fn : Fn) (first cap : Array Value) (w : World), (Instr.makeFunc fn first cap).run Tryd.prog w = .ok (.func fn first cap) w := fun _ _ _ _ => rfl
  obtain ⟨o1, ho1⟩ : ∃ o, o = Obj.cells #[.pointer (some ⟨p, 0, none⟩)] 23 := ⟨_, rfl⟩
  obtain ⟨o2, ho2⟩ : ∃ o, o = Obj.cells #[.string x] 9 := ⟨_, rfl⟩
  obtain ⟨o3, ho3⟩ : ∃ o, o = Obj.cells #[.int .i64 n] 3 := ⟨_, rfl⟩
  obtain ⟨o4, ho4⟩ : ∃ o, o = Obj.cells #[.func (.func 83) #[] #[.pointer (some ⟨w.heap.size, 0, none⟩), .pointer (some ⟨w.heap.size + 1, 0, none⟩), .pointer (some ⟨w.heap.size + 1 + 1, 0, none⟩)]] 1 := ⟨_, rfl⟩
  have z1 : (w.alloc o1).heap.size = w.heap.size + 1 := by simp
  have z2 : ((w.alloc o1).alloc o2).heap.size = w.heap.size + 1 + 1 := by simp
  have z3 : (((w.alloc o1).alloc o2).alloc o3).heap.size = w.heap.size + 1 + 1 + 1 := by simp
  have b1 := blk_new w o1
  have b2 := blk_new (w.alloc o1) o2
  have b3 := blk_new ((w.alloc o1).alloc o2) o3
  have b4 := blk_new (((w.alloc o1).alloc o2).alloc o3) o4
  rw [z1] at b2
  rw [z2] at b3
  rw [z3] at b4
  have hW : Below w.heap.size w ((((w.alloc o1).alloc o2).alloc o3).alloc o4).drew := (((((Below.refl _ w).alloc (Nat.le_refl _) o1).alloc (by rw [z1]; omega) o2).alloc (by rw [z2]; omega) o3).alloc (by rw [z3]; omega) o4).drew
  have c1 := blk_alloc (blk_alloc b1 o2) o3
  have c2 := blk_alloc b2 o3
  have b1' := blk_alloc (blk_alloc (blk_alloc b1 o2) o3) o4
  have b2' := blk_alloc (blk_alloc b2 o3) o4
  have b3' := blk_alloc b3 o4
  subst ho1 ho2 ho3 ho4
  have g1 := blk_cell c1 0
  have g2 := blk_cell c2 0
  simp only [List.getElem?_toArray, List.getElem?_cons_zero] at g1 g2
  have hcl := tru_clo (w5 := (((((w.alloc (Obj.cells #[.pointer (some ⟨p, 0, none⟩)] 23)).alloc (Obj.cells #[.string x] 9)).alloc (Obj.cells #[.int .i64 n] 3)).alloc (Obj.cells #[.func (.func 83) #[] #[.pointer (some ⟨w.heap.size, 0, none⟩), .pointer (some ⟨w.heap.size + 1, 0, none⟩), .pointer (some ⟨w.heap.size + 1 + 1, 0, none⟩)]] 1)).drew)) (h.below hW) x n hx (bd := w.heap.size) (bx := w.heap.size + 1) (b2 := w.heap.size + 1 + 1) (bo := w.heap.size + 1 + 1 + 1) (blk_cell b1' 0) (blk_cell b2' 0) (blk_cell b3' 0) (blk_cell b4 0) (fun i hi hF => by have := h.low i hF; omega)
  obtain ⟨w3, hw3⟩ : ∃ w3, (((w.alloc (Obj.cells #[.pointer (some ⟨p, 0, none⟩)] 23)).alloc (Obj.cells #[.string x] 9)).alloc (Obj.cells #[.int .i64 n] 3)) = w3 := ⟨_, rfl⟩
  rw [hw3] at g1 g2 z3
  clear b1 b2 b3 b4 b1' b2' b3' c1 c2
  have hS' := hS.below (hW.mono (Nat.le_trans (hB p h.inP) (Nat.le_of_lt (h.low p h.inP))))
  have hop := op_any (h.below hW) hS' hB hs0 hs1 hs2 hs3 ⟨#[116, 114, 117, 110, 99, 97, 116, 101]⟩ x hcl
  have hW2 := hW
  rw [hw3] at hop hW2
  have HOP : Hid _ := hop
  have HW : Hid _ := hW2
  have HW3 : Hid _ := hw3
  clear hop hcl hW hW2 hS' hw3 z1 z2
  have al : ∀ (o : Obj) {b : Nat} {v : Value}, w3.cell? ⟨b, 0, none⟩ = some v → (w3.alloc o).drew.cell? ⟨b, 0, none⟩ = some v := fun o b v hv => (World.cell?_alloc_past _ _ _ (World.block_lt_of_cell? w3 _ hv)).trans hv
  have nF1 : ¬ F w.heap.size := fun e => by have := h.low _ e; omega
  have nF2 : ¬ F (w.heap.size + 1) := fun e => by have := h.low _ e; omega
  go_enter Tryd.func61, Tryd.ntmps61
  go_wp2
  rw [HW3.out]
  go_region_held3 (fun W => W.cell? ⟨w.heap.size, 0, none⟩ = some (.pointer (some ⟨p, 0, none⟩)) ∧ W.cell? ⟨w.heap.size + 1, 0, none⟩ = some (.string x))
    (first | exact ⟨g1, g2⟩ | exact ⟨al _ g1, al _ g2⟩ | exact ⟨r1, r2⟩)
    (first
    | (go_at_call 54; refine (or_ok _ _ _).mono ?_; rintro e w' ⟨rfl, rfl⟩; rw [show w3.drew.heap.size = w.heap.size + 1 + 1 + 1 from z3])
    | (go_at_call 46; refine Calls.mono HOP.out ?_; rintro e w' ⟨v, rfl, hres⟩; have r1 := hres.kept (al _ g1) nF1; have r2 := hres.kept (al _ g2) nF2))
  all_goals (try go_wp2)
  all_goals go_ret
  all_goals exact ⟨v, rfl, hres.opRes HW.out (fun i hi => hi.elim)⟩
end Go.Proofs.YtkfehogefclhdaaDoor.Dk

/- An operation of a script, for the laws that play one. -/
namespace Go.Proofs.YtkfehogefclhdaaDoor.Dk
open Go.RowKit Go.Maps Go.Proofs.YtkfehogefclhdaaDoorW.PrintWords Go.Proofs.YtkfehogefclhdaaDoorW.PrintMore
variable {N : Nat} {w : World} {p : Nat} {F : Nat → Prop} {s : St} {m : Nat} {pv : Value} {B : Nat} {a0 a1 a2 a3 a4 : Addr} {K : Nat → Prop}
theorem truncate_live (h : Live B N w p K s a0 a1 a2 a3 a4) (hs : Small s) (x : ByteArray) (n : Int) (hx : x.size ≤ 140737488351232) :
    Calls Tryd.prog 61 #[.pointer (some ⟨p, 0, none⟩), .string x, .int .i64 n] w fun e w' => ∃ v, e = .returned v ∧ Did B N w p K s a0 a1 a2 a3 a4 (truC s.fs x n) (orF s.fs (TruF s.fs x n)) (TruF s.fs x n) v w' := by
  obtain ⟨F, m, pv, h1, h2, h3, h4, h5⟩ := h
  refine (truncate_ok h1 h4 (fun i hi => (h2 i hi).1) hs.s0 hs.s1 hs.s2 hs.s3 x n hx).mono ?_
  rintro e w' ⟨v, rfl, hr⟩
  exact ⟨v, rfl, hr.did h2 h3 h4 h5⟩
/-- An act. -/
structure Act7 where
  kind : Int
  on : Int
  name : ByteArray
  dest : ByteArray
  data : ByteArray
  n : Int
  stops : Value
def Act7.cells (a : Act7) : Array Value := #[.int .i64 a.kind, .int .i64 a.on, .string a.name, .string a.dest, .string a.data, .int .i64 a.n, a.stops]
set_option maxRecDepth 100000 in
theorem does_1 (h : Live B N w p K s a0 a1 a2 a3 a4) (hN : N < maxLen) (hs : Small s) (a : Act7) (hk : a.kind = 1) (hx : a.name.size ≤ 140737488351232) (hd : a.data.size ≤ 140737488351232) :
    Calls Tryd.prog 23 #[.pointer (some ⟨p, 0, none⟩), .agg #[.int .i64 a.kind, .int .i64 a.on, .string a.name, .string a.dest, .string a.data, .int .i64 a.n, a.stops]] w fun e w' => ∃ v, e = .returned (.tuple #[.string ⟨#[]⟩, v]) ∧ ∃ w1, Below w.heap.size w w1 ∧ Did B N w1 p K s a0 a1 a2 a3 a4 (appC s a.name a.data) (AppF s.fs a.name a.data) (AppF s.fs a.name a.data a.data.size) v w' := by
  obtain ⟨l1, st1⟩ := h.drift (w' := w.alloc (Obj.cells #[.int .i64 a.kind, .int .i64 a.on, .string a.name, .string a.dest, .string a.data, .int .i64 a.n, a.stops] 42)) ((Below.refl _ _).alloc (Nat.le_refl _) _)
  have hkb : (a.kind == 1) = true := beq_iff_eq.2 hk
  rw [hk] at l1 ⊢
  clear st1 h
  go_enter Tryd.func23, Tryd.ntmps23
  go_wp2_with fail
  refine (append_live l1 hN hs a.name a.data hx hd).mono ?_
  rintro e w' ⟨v, rfl, hdid⟩
  go_wp2_with fail
  go_ret2
  exact ⟨v, rfl, _, (Below.refl _ _).alloc (Nat.le_refl _) _, hdid⟩
set_option maxRecDepth 100000 in
theorem does_2 (h : Live B N w p K s a0 a1 a2 a3 a4) (hN : N < maxLen) (hs : Small s) (a : Act7) (hk : a.kind = 2) (hx : a.name.size ≤ 140737488351232) :
    Calls Tryd.prog 23 #[.pointer (some ⟨p, 0, none⟩), .agg #[.int .i64 a.kind, .int .i64 a.on, .string a.name, .string a.dest, .string a.data, .int .i64 a.n, a.stops]] w fun e w' => ∃ v, e = .returned (.tuple #[.string ⟨#[]⟩, v]) ∧ ∃ w1, Below w.heap.size w w1 ∧ Did B N w1 p K s a0 a1 a2 a3 a4 (thereC s.fs a.name) (orF s.fs (SyncF s.fs a.name)) (SyncF s.fs a.name) v w' := by
  obtain ⟨l1, st1⟩ := h.drift (w' := w.alloc (Obj.cells #[.int .i64 a.kind, .int .i64 a.on, .string a.name, .string a.dest, .string a.data, .int .i64 a.n, a.stops] 42)) ((Below.refl _ _).alloc (Nat.le_refl _) _)
  rw [hk] at l1 ⊢
  clear st1 h
  go_enter Tryd.func23, Tryd.ntmps23
  go_wp2_with fail
  refine (sync_live l1 hs a.name hx).mono ?_
  rintro e w' ⟨v, rfl, hdid⟩
  go_wp2_with fail
  go_ret2
  exact ⟨v, rfl, _, (Below.refl _ _).alloc (Nat.le_refl _) _, hdid⟩
set_option maxRecDepth 100000 in
theorem does_4 (h : Live B N w p K s a0 a1 a2 a3 a4) (hN : N < maxLen) (hs : Small s) (a : Act7) (hk : a.kind = 4) (hx : a.name.size ≤ 140737488351232) (hy : a.dest.size ≤ 140737488351232) :
    Calls Tryd.prog 23 #[.pointer (some ⟨p, 0, none⟩), .agg #[.int .i64 a.kind, .int .i64 a.on, .string a.name, .string a.dest, .string a.data, .int .i64 a.n, a.stops]] w fun e w' => ∃ v, e = .returned (.tuple #[.string ⟨#[]⟩, v]) ∧ ∃ w1, Below w.heap.size w w1 ∧ Did B N w1 p K s a0 a1 a2 a3 a4 (renC s.fs a.name a.dest) (orF s.fs (RenF s.fs a.name a.dest)) (RenF s.fs a.name a.dest) v w' := by
  obtain ⟨l1, st1⟩ := h.drift (w' := w.alloc (Obj.cells #[.int .i64 a.kind, .int .i64 a.on, .string a.name, .string a.dest, .string a.data, .int .i64 a.n, a.stops] 42)) ((Below.refl _ _).alloc (Nat.le_refl _) _)
  rw [hk] at l1 ⊢
  clear st1 h
  go_enter Tryd.func23, Tryd.ntmps23
  go_wp2_with fail
  refine (rename_live l1 hN hs a.name a.dest hx hy).mono ?_
  rintro e w' ⟨v, rfl, hdid⟩
  go_wp2_with fail
  go_ret2
  exact ⟨v, rfl, _, (Below.refl _ _).alloc (Nat.le_refl _) _, hdid⟩
set_option maxRecDepth 100000 in
theorem does_5 (h : Live B N w p K s a0 a1 a2 a3 a4) (hN : N < maxLen) (hs : Small s) (a : Act7) (hk : a.kind = 5) (hx : a.name.size ≤ 140737488351232) :
    Calls Tryd.prog 23 #[.pointer (some ⟨p, 0, none⟩), .agg #[.int .i64 a.kind, .int .i64 a.on, .string a.name, .string a.dest, .string a.data, .int .i64 a.n, a.stops]] w fun e w' => ∃ v, e = .returned (.tuple #[.string ⟨#[]⟩, v]) ∧ ∃ w1, Below w.heap.size w w1 ∧ Did B N w1 p K s a0 a1 a2 a3 a4 (thereC s.fs a.name) (orF s.fs (fun fs' => fs' = outF a.name s.fs)) (fun fs' => fs' = outF a.name s.fs) v w' := by
  obtain ⟨l1, st1⟩ := h.drift (w' := w.alloc (Obj.cells #[.int .i64 a.kind, .int .i64 a.on, .string a.name, .string a.dest, .string a.data, .int .i64 a.n, a.stops] 42)) ((Below.refl _ _).alloc (Nat.le_refl _) _)
  rw [hk] at l1 ⊢
  clear st1 h
  go_enter Tryd.func23, Tryd.ntmps23
  go_wp2_with fail
  refine (remove_live l1 hs a.name hx).mono ?_
  rintro e w' ⟨v, rfl, hdid⟩
  go_wp2_with fail
  go_ret2
  exact ⟨v, rfl, _, (Below.refl _ _).alloc (Nat.le_refl _) _, hdid⟩
set_option maxRecDepth 100000 in
theorem does_6 (h : Live B N w p K s a0 a1 a2 a3 a4) (hN : N < maxLen) (hs : Small s) (a : Act7) (hk : a.kind = 6) (hx : a.name.size ≤ 140737488351232) :
    Calls Tryd.prog 23 #[.pointer (some ⟨p, 0, none⟩), .agg #[.int .i64 a.kind, .int .i64 a.on, .string a.name, .string a.dest, .string a.data, .int .i64 a.n, a.stops]] w fun e w' => ∃ v, e = .returned (.tuple #[.string ⟨#[]⟩, v]) ∧ ∃ w1, Below w.heap.size w w1 ∧ Did B N w1 p K s a0 a1 a2 a3 a4 (truC s.fs a.name a.n) (orF s.fs (TruF s.fs a.name a.n)) (TruF s.fs a.name a.n) v w' := by
  obtain ⟨l1, st1⟩ := h.drift (w' := w.alloc (Obj.cells #[.int .i64 a.kind, .int .i64 a.on, .string a.name, .string a.dest, .string a.data, .int .i64 a.n, a.stops] 42)) ((Below.refl _ _).alloc (Nat.le_refl _) _)
  rw [hk] at l1 ⊢
  clear st1 h
  go_enter Tryd.func23, Tryd.ntmps23
  go_wp2_with fail
  refine (truncate_live l1 hs a.name a.n hx).mono ?_
  rintro e w' ⟨v, rfl, hdid⟩
  go_wp2_with fail
  go_ret2
  exact ⟨v, rfl, _, (Below.refl _ _).alloc (Nat.le_refl _) _, hdid⟩
set_option maxRecDepth 100000 in
theorem does_3 (h : Live B N w p K s a0 a1 a2 a3 a4) (hs : Small s) (a : Act7) (hk : a.kind = 3) (hx : a.name.size ≤ 140737488351232) :
    Calls Tryd.prog 23 #[.pointer (some ⟨p, 0, none⟩), .agg #[.int .i64 a.kind, .int .i64 a.on, .string a.name, .string a.dest, .string a.data, .int .i64 a.n, a.stops]] w fun e w' => ∃ v r, e = .returned (.tuple #[.string r, v]) ∧ Told s a.name r v ∧ ∃ w1, Below w.heap.size w w1 ∧ Did B N w1 p K s a0 a1 a2 a3 a4 (thereC s.fs a.name) (fun _ fs' => fs' = s.fs) (fun fs' => fs' = s.fs) v w' := by
  obtain ⟨l1, st1⟩ := h.drift (w' := w.alloc (Obj.cells #[.int .i64 a.kind, .int .i64 a.on, .string a.name, .string a.dest, .string a.data, .int .i64 a.n, a.stops] 42)) ((Below.refl _ _).alloc (Nat.le_refl _) _)
  rw [hk] at l1 ⊢
  clear st1 h
  go_enter Tryd.func23, Tryd.ntmps23
  go_wp2_with fail
  refine (read_live l1 hs a.name hx).mono ?_
  rintro e w' ⟨v, r, rfl, hdid, ht⟩
  go_wp2_with fail
  go_ret2
  exact ⟨v, r, rfl, ht, _, (Below.refl _ _).alloc (Nat.le_refl _) _, hdid⟩
end Go.Proofs.YtkfehogefclhdaaDoor.Dk

/- An operation of a script, whichever it is; what comes of it. -/
namespace Go.Proofs.YtkfehogefclhdaaDoor.Dk
open Go.RowKit Go.Maps Go.Proofs.YtkfehogefclhdaaDoorW.PrintWords Go.Proofs.YtkfehogefclhdaaDoorW.PrintMore
variable {N : Nat} {w : World} {p : Nat} {s : St} {B : Nat} {a0 a1 a2 a3 a4 : Addr} {K : Nat → Prop}

noncomputable def actC (s : St) (a : Act7) : Int := if a.kind = 1 then appC s a.name a.data else if a.kind = 4 then renC s.fs a.name a.dest else if a.kind = 6 then truC s.fs a.name a.n else thereC s.fs a.name
def actW (s : St) (a : Act7) (fs' : List Fil) : Prop := if a.kind = 1 then AppF s.fs a.name a.data a.data.size fs' else if a.kind = 2 then SyncF s.fs a.name fs' else if a.kind = 3 then fs' = s.fs else if a.kind = 4 then RenF s.fs a.name a.dest fs' else if a.kind = 5 then fs' = outF a.name s.fs else TruF s.fs a.name a.n fs'
def actP (s : St) (a : Act7) (n : Int) (fs' : List Fil) : Prop := if a.kind = 1 then AppF s.fs a.name a.data n fs' else if a.kind = 3 then fs' = s.fs else orF s.fs (actW s a) n fs'
theorem actW_2 {a : Act7} (h : a.kind = 2) : actW s a = SyncF s.fs a.name := by funext fs'; unfold actW; rw [h]; rfl
theorem actW_4 {a : Act7} (h : a.kind = 4) : actW s a = RenF s.fs a.name a.dest := by funext fs'; unfold actW; rw [h]; rfl
theorem actW_5 {a : Act7} (h : a.kind = 5) : actW s a = fun fs' => fs' = outF a.name s.fs := by funext fs'; unfold actW; rw [h]; rfl
theorem actW_6 {a : Act7} (h : a.kind = 6) : actW s a = TruF s.fs a.name a.n := by funext fs'; unfold actW; rw [h]; rfl
theorem actW_1 {a : Act7} (h : a.kind = 1) : actW s a = AppF s.fs a.name a.data a.data.size := by funext fs'; unfold actW; rw [if_pos h]
theorem actW_3 {a : Act7} (h : a.kind = 3) : actW s a = fun fs' => fs' = s.fs := by funext fs'; unfold actW; rw [h]; rfl
theorem actP_1 {a : Act7} (h : a.kind = 1) : actP s a = AppF s.fs a.name a.data := by funext n fs'; unfold actP; rw [if_pos h]
theorem actP_3 {a : Act7} (h : a.kind = 3) : actP s a = fun _ fs' => fs' = s.fs := by funext n fs'; unfold actP; rw [h]; rfl
theorem actP_o {a : Act7} (h1 : a.kind ≠ 1) (h3 : a.kind ≠ 3) : actP s a = orF s.fs (actW s a) := by funext n fs'; unfold actP; rw [if_neg h1, if_neg h3]
theorem actC_t {a : Act7} (h1 : a.kind ≠ 1) (h4 : a.kind ≠ 4) (h6 : a.kind ≠ 6) : actC s a = thereC s.fs a.name := by unfold actC; rw [if_neg h1, if_neg h4, if_neg h6]
/-- Behind an operation of a script. -/
def Acted (B N : Nat) (w : World) (p : Nat) (K : Nat → Prop) (s : St) (a0 a1 a2 a3 a4 : Addr) (a : Act7) (r : ByteArray) (v : Value) (w' : World) : Prop :=
  (a.kind = 3 → Told s a.name r v) ∧ (a.kind ≠ 3 → r = ⟨#[]⟩) ∧ ∃ w1, Below w.heap.size w w1 ∧ Did B N w1 p K s a0 a1 a2 a3 a4 (actC s a) (actP s a) (actW s a) v w'
theorem does_ok (h : Live B N w p K s a0 a1 a2 a3 a4) (hN : N < maxLen) (hs : Small s) (a : Act7) (h1 : 1 ≤ a.kind) (h6 : a.kind ≤ 6) (hx : a.name.size ≤ 140737488351232) (hy : a.dest.size ≤ 140737488351232) (hd : a.data.size ≤ 140737488351232) :
    Calls Tryd.prog 23 #[.pointer (some ⟨p, 0, none⟩), .agg #[.int .i64 a.kind, .int .i64 a.on, .string a.name, .string a.dest, .string a.data, .int .i64 a.n, a.stops]] w fun e w' => ∃ v r, e = .returned (.tuple #[.string r, v]) ∧ Acted B N w p K s a0 a1 a2 a3 a4 a r v w' := by
  have hk : a.kind = 1 ∨ a.kind = 2 ∨ a.kind = 3 ∨ a.kind = 4 ∨ a.kind = 5 ∨ a.kind = 6 := by omega
  rcases hk with hk | hk | hk | hk | hk | hk
  · refine (does_1 h hN hs a hk hx hd).mono ?_
    rintro e w' ⟨v, rfl, w1, hb, hdid⟩
    have ec : actC s a = appC s a.name a.data := by unfold actC; rw [if_pos hk]
    exact ⟨v, _, rfl, ⟨fun e => absurd (hk.symm.trans e) (by decide), fun _ => rfl, w1, hb, by rw [ec, actP_1 hk, actW_1 hk]; exact hdid⟩⟩
  · refine (does_2 h hN hs a hk hx).mono ?_
    rintro e w' ⟨v, rfl, w1, hb, hdid⟩
    exact ⟨v, _, rfl, ⟨fun e => absurd (hk.symm.trans e) (by decide), fun _ => rfl, w1, hb, by rw [actC_t (by omega) (by omega) (by omega), actP_o (by omega) (by omega), actW_2 hk]; exact hdid⟩⟩
  · refine (does_3 h hs a hk hx).mono ?_
    rintro e w' ⟨v, r, rfl, ht, w1, hb, hdid⟩
    exact ⟨v, r, rfl, ⟨fun _ => ht, fun e => absurd hk e, w1, hb, by rw [actC_t (by omega) (by omega) (by omega), actP_3 hk, actW_3 hk]; exact hdid⟩⟩
  · refine (does_4 h hN hs a hk hx hy).mono ?_
    rintro e w' ⟨v, rfl, w1, hb, hdid⟩
    have ec : actC s a = renC s.fs a.name a.dest := by unfold actC; rw [if_neg (by omega), if_pos hk]
    exact ⟨v, _, rfl, ⟨fun e => absurd (hk.symm.trans e) (by decide), fun _ => rfl, w1, hb, by rw [ec, actP_o (by omega) (by omega), actW_4 hk]; exact hdid⟩⟩
  · refine (does_5 h hN hs a hk hx).mono ?_
    rintro e w' ⟨v, rfl, w1, hb, hdid⟩
    exact ⟨v, _, rfl, ⟨fun e => absurd (hk.symm.trans e) (by decide), fun _ => rfl, w1, hb, by rw [actC_t (by omega) (by omega) (by omega), actP_o (by omega) (by omega), actW_5 hk]; exact hdid⟩⟩
  · refine (does_6 h hN hs a hk hx).mono ?_
    rintro e w' ⟨v, rfl, w1, hb, hdid⟩
    have ec : actC s a = truC s.fs a.name a.n := by unfold actC; rw [if_neg (by omega), if_neg (by omega), if_pos hk]
    exact ⟨v, _, rfl, ⟨fun e => absurd (hk.symm.trans e) (by decide), fun _ => rfl, w1, hb, by rw [ec, actP_o (by omega) (by omega), actW_6 hk]; exact hdid⟩⟩
/-- No code of an act is that of a stop. -/
theorem there_93 (fs : List Fil) (x : ByteArray) : thereC fs x ≠ 93 := by
  unfold thereC; split
  · split <;> decide
  · decide
theorem act_93 (s : St) (a : Act7) : actC s a ≠ 93 := by
  unfold actC
  split
  · unfold appC; split
    · split <;> decide
    · decide
  · split
    · unfold renC; split
      · exact there_93 _ _
      · decide
    · split
      · unfold truC; split
        · exact there_93 _ _
        · split <;> decide
      · exact there_93 _ _
theorem why_ne (h : Sens w B a0 a1 a2 a3 a4) {c : Int} (hc : c ≠ 93) : why a0 a1 a2 a3 a4 c ≠ a0 := by
  unfold why
  split
  · exact h.n1
  · split
    · exact h.n3
    · split
      · exact h.n4
      · exact h.n2
theorem why_in (a0 a1 a2 a3 a4 : Addr) (c : Int) : why a0 a1 a2 a3 a4 c = a0 ∨ why a0 a1 a2 a3 a4 c = a1 ∨ why a0 a1 a2 a3 a4 c = a2 ∨ why a0 a1 a2 a3 a4 c = a3 ∨ why a0 a1 a2 a3 a4 c = a4 := by
  unfold why
  split
  · exact .inr (.inl rfl)
  · split
    · exact .inr (.inr (.inr (.inl rfl)))
    · split
      · exact .inr (.inr (.inr (.inr rfl)))
      · split
        · exact .inl rfl
        · exact .inr (.inr (.inl rfl))
theorem Live.less {K' : Nat → Prop} (h : Live B N w p K s a0 a1 a2 a3 a4) (hk : ∀ i, K' i → K i) : Live B N w p K' s a0 a1 a2 a3 a4 := by
  obtain ⟨F, m, pv, h1, h2, h3, h4, h5⟩ := h
  exact ⟨F, m, pv, h1, fun i hi => ⟨(h2 i hi).1, fun e => (h2 i hi).2 (hk i e)⟩, fun i hi => h3 i (hk i hi), h4, h5⟩
theorem Step.of_below {w1 : World} (hb : Below w.heap.size w w1) (hB : B ≤ w.heap.size) (hK : ∀ i, K i → i < w.heap.size) : Step B K w w1 := ⟨hb.mono hB, fun i hi => hb.block i (hK i hi)⟩
theorem Live.base (h : Live B N w p K s a0 a1 a2 a3 a4) : B ≤ w.heap.size := by obtain ⟨F, m, pv, h1, h2, h3, h4, h5⟩ := h; exact h5
theorem Live.kept (h : Live B N w p K s a0 a1 a2 a3 a4) : ∀ i, K i → i < w.heap.size := by obtain ⟨F, m, pv, h1, h2, h3, h4, h5⟩ := h; exact h3
/-- What came of an act of a disk that runs. -/
theorem Acted.told {a : Act7} {r : ByteArray} {v : Value} {w' : World} (h : Live B N w p K s a0 a1 a2 a3 a4) (hr : s.run = true) (hA : Acted B N w p K s a0 a1 a2 a3 a4 a r v w') :
    Step B K w w' ∧
    ((∃ x rest q fs', s.plan = x :: rest ∧ x.1 = s.since + 1 ∧ v = .iface 72 (.pointer (some ⟨q, 0, none⟩)) ∧ ErrAt w' q a0 ∧ (actC s a = 0 → actP s a x.2.1 fs') ∧ (actC s a ≠ 0 → fs' = s.fs) ∧ Live B (N + 1) w' p (fun i => K i ∨ i = q) (s.halt rest fs' x.2.2) a0 a1 a2 a3 a4) ∨
     (¬ Due s ∧ actC s a ≠ 0 ∧ ∃ q, v = .iface 72 (.pointer (some ⟨q, 0, none⟩)) ∧ ErrAt w' q (why a0 a1 a2 a3 a4 (actC s a)) ∧ why a0 a1 a2 a3 a4 (actC s a) ≠ a0 ∧ Live B (N + 1) w' p (fun i => K i ∨ i = q) s.tick a0 a1 a2 a3 a4) ∨
     (¬ Due s ∧ actC s a = 0 ∧ v = .nilIface ∧ ∃ fs', actW s a fs' ∧ Live B (N + 1) w' p K { s.tick with fs := fs' } a0 a1 a2 a3 a4)) := by
  obtain ⟨_, _, w1, hb, s', h1, h2, h4⟩ := hA
  have hst : Step B K w w1 := Step.of_below hb h.base h.kept
  refine ⟨hst.trans h2, ?_⟩
  cases h4 with
  | down a b => rw [hr] at a; cases a
  | due a b c d e f =>
    obtain ⟨q, e1, e2⟩ := d.at
    exact .inl ⟨_, _, q, _, b, c, e1, e2, e, f, h1.keepErr e2⟩
  | err a b c d =>
    obtain ⟨q, e1, e2⟩ := d.at
    exact .inr (.inl ⟨b, c, q, e1, e2, why_ne h1.sens (act_93 _ _), h1.keepErr e2⟩)
  | ok a b c d e => exact .inr (.inr ⟨b, c, d, _, e, h1⟩)
/-- An act that no stop comes to. -/
theorem Acted.calm {a : Act7} {r : ByteArray} {v : Value} {w' : World} (h : Live B N w p K s a0 a1 a2 a3 a4) (hr : s.run = true) (hnd : ¬ Due s) (hA : Acted B N w p K s a0 a1 a2 a3 a4 a r v w') :
    Step B K w w' ∧ ∃ s', Live B (N + 1) w' p K s' a0 a1 a2 a3 a4 ∧ s'.run = true ∧ s'.quota = s.quota ∧ s'.plan = s.plan ∧ s'.steps = s.steps + 1 ∧ s'.since = s.since + 1 ∧
      Calls Tryd.prog 17 #[v, .iface 179 (.pointer (some a0))] w' fun e w'' => e = .returned (.bool false) ∧ w'' = w' := by
  obtain ⟨hst, hc⟩ := hA.told h hr
  refine ⟨hst, ?_⟩
  rcases hc with ⟨x, rest, q, fs', hp, hx, _⟩ | ⟨_, hc, q, rfl, he, hne, hl⟩ | ⟨_, hc, rfl, fs', hw, hl⟩
  · exact absurd ⟨x, rest, hp, hx⟩ hnd
  · refine ⟨_, hl.less (fun i hi => .inl hi), hr, rfl, rfl, rfl, rfl, ?_⟩
    have hi := is_live hl he (why_in a0 a1 a2 a3 a4 _) (.inl rfl)
    rw [decide_eq_false hne] at hi
    exact hi
  · exact ⟨_, hl, hr, rfl, rfl, rfl, rfl, is_nil a0 _⟩
/-- An act that the stop comes to. -/
theorem Acted.stopped {a : Act7} {r : ByteArray} {v : Value} {w' : World} {x : Int × Int × Int} {rest : List (Int × Int × Int)} (h : Live B N w p K s a0 a1 a2 a3 a4) (hr : s.run = true) (hp : s.plan = x :: rest) (hx : x.1 = s.since + 1) (hA : Acted B N w p K s a0 a1 a2 a3 a4 a r v w') :
    Step B K w w' ∧ ∃ s' q, Live B (N + 1) w' p (fun i => K i ∨ i = q) s' a0 a1 a2 a3 a4 ∧ s'.run = false ∧ s'.quota = s.quota ∧ s'.plan = rest ∧ s'.steps = s.steps + 1 ∧ s'.since = s.since + 1 ∧
      v = .iface 72 (.pointer (some ⟨q, 0, none⟩)) ∧ ErrAt w' q a0 := by
  obtain ⟨hst, hc⟩ := hA.told h hr
  refine ⟨hst, ?_⟩
  rcases hc with ⟨y, rest', q, fs', hp', hy, hv, he, _, _, hl⟩ | ⟨hnd, _⟩ | ⟨hnd, _⟩
  · rw [hp] at hp'
    injection hp' with e1 e2
    subst e1 e2
    exact ⟨_, q, hl, rfl, rfl, rfl, rfl, rfl, hv, he⟩
  · exact absurd ⟨x, rest, hp, hx⟩ hnd
  · exact absurd ⟨x, rest, hp, hx⟩ hnd
end Go.Proofs.YtkfehogefclhdaaDoor.Dk

/-
  DERIVED: THE SHELF's CONTRACTS AT THIS DUMP, IN PLAIN WORDS (tools/lay-plain.mjs out of 'YtkfehogefclhdaaDoorShelfY.lean', which tools/lay-shelf.mjs wrote): THE SAME DECLARATIONS UNDER THE SAME NAMES: 'import', 'namespace', 'open', 'def', 'theorem' AND NOTHING ELSE: no command of the shelf's: FOR A HAND-IN. Each laying: the table of numbers ('.._ren') and one theorem, a field a fact of the dump's own or the kernel's comparison; each contract: ONE APPLICATION.
-/
namespace Go.Proofs
open Go.Shelf
def Tryd.keysA_ren : Go.Shelf.Ren := ⟨fun | 7 => 74 | 10 => 95 | n => n, fun | 23 => 75 | 26 => 9 | 3 => 79 | 28 => 100 | 0 => 0 | 27 => 99 | 33 => 47 | 4 => 4 | n => n, fun | n => n⟩
theorem Tryd.keysA : Go.Proofs.SlLaysZ.n7 Tryd.prog Tryd.keysA_ren := {
  mixed := by kernel_rfl
  f7 := ⟨Tryd.f74.name, by decide, Tryd.func74.trans (congrArg some (by kernel_rfl))⟩
  f10 := ⟨Tryd.f95.name, by decide, Tryd.func95.trans (congrArg some (by kernel_rfl))⟩
  t0 := Tryd.underlying0
  a0 := Tryd.isAgg0
  z0 := Tryd.sizeOf0
  v0 := Tryd.zeroValue0
  t4 := Tryd.underlying4
  a4 := Tryd.isAgg4
  z4 := Tryd.sizeOf4
  v4 := Tryd.zeroValue4
  t23 := Tryd.underlying75
  a23 := Tryd.isAgg75
  z23 := Tryd.sizeOf75
  v23 := Tryd.zeroValue75
  t26 := Tryd.underlying9
  a26 := Tryd.isAgg9
  z26 := Tryd.sizeOf9
  v26 := Tryd.zeroValue9
  t27 := Tryd.underlying99
  a27 := Tryd.isAgg99
  z27 := Tryd.sizeOf99
  v27 := Tryd.zeroValue99
  t28 := Tryd.underlying100
  a28 := Tryd.isAgg100
  z28 := Tryd.sizeOf100
  v28 := Tryd.zeroValue100
  t33 := Tryd.underlying47
  a33 := Tryd.isAgg47
  z33 := Tryd.sizeOf47
  v33 := Tryd.zeroValue47 }
def Tryd.sortedA_ren : Go.Shelf.Ren := ⟨fun | 6 => 73 | 8 => 93 | 9 => 94 | 11 => 104 | 13 => 106 | 12 => 105 | 23 => 131 | 24 => 132 | 14 => 122 | 15 => 123 | 16 => 124 | 17 => 125 | 18 => 126 | 19 => 127 | 20 => 128 | 21 => 129 | 22 => 130 | 25 => 144 | 26 => 145 | 27 => 146 | 28 => 147 | 29 => 148 | 30 => 149 | 31 => 154 | n => n, fun | 26 => 9 | 28 => 100 | 24 => 53 | 0 => 0 | 3 => 3 | 37 => 134 | 48 => 161 | 50 => 147 | 4 => 4 | 40 => 154 | 39 => 153 | 45 => 158 | 5 => 5 | 9 => 9 | 51 => 173 | 55 => 177 | 57 => 182 | 58 => 65 | 33 => 47 | n => n, fun | n => n⟩
theorem Tryd.sortedA : Go.Proofs.SlLaysZ.n6 Tryd.prog Tryd.sortedA_ren := {
  mixed := by kernel_rfl
  f6 := ⟨Tryd.f73.name, by decide, Tryd.func73.trans (congrArg some (by kernel_rfl))⟩
  f8 := ⟨Tryd.f93.name, by decide, Tryd.func93.trans (congrArg some (by kernel_rfl))⟩
  f11 := ⟨Tryd.f104.name, by decide, Tryd.func104.trans (congrArg some (by kernel_rfl))⟩
  t0 := Tryd.underlying0
  a0 := Tryd.isAgg0
  z0 := Tryd.sizeOf0
  v0 := Tryd.zeroValue0
  t24 := Tryd.underlying53
  a24 := Tryd.isAgg53
  z24 := Tryd.sizeOf53
  v24 := Tryd.zeroValue53
  t26 := Tryd.underlying9
  a26 := Tryd.isAgg9
  z26 := Tryd.sizeOf9
  v26 := Tryd.zeroValue9
  t28 := Tryd.underlying100
  a28 := Tryd.isAgg100
  z28 := Tryd.sizeOf100
  v28 := Tryd.zeroValue100
  i26 := by kernel_rfl }
def Tryd.sortA_ren : Go.Shelf.Ren := ⟨fun | 6 => 94 | 8 => 106 | 9 => 105 | 19 => 131 | 20 => 132 | 21 => 122 | 22 => 123 | 23 => 124 | 24 => 125 | 25 => 126 | 26 => 127 | 27 => 128 | 28 => 129 | 29 => 130 | 36 => 144 | 31 => 145 | 32 => 146 | 37 => 147 | 38 => 148 | 39 => 149 | 41 => 154 | n => n, fun | 27 => 53 | 29 => 9 | 3 => 3 | 32 => 134 | 26 => 53 | 0 => 0 | 44 => 161 | 46 => 147 | 4 => 4 | 36 => 154 | 35 => 153 | 41 => 158 | 5 => 5 | 9 => 9 | 53 => 173 | 57 => 177 | 63 => 182 | 64 => 65 | n => n, fun | n => n⟩
theorem Tryd.sortA : Go.Proofs.SlLaysM.n6 Tryd.prog Tryd.sortA_ren := {
  mixed := by kernel_rfl
  f6 := ⟨Tryd.f94.name, by decide, Tryd.func94.trans (congrArg some (by kernel_rfl))⟩
  f8 := Tryd.func106.trans (congrArg some (by kernel_rfl))
  f9 := ⟨Tryd.f105.name, by decide, Tryd.func105.trans (congrArg some (by kernel_rfl))⟩
  f19 := Tryd.func131.trans (congrArg some (by kernel_rfl))
  f20 := Tryd.func132.trans (congrArg some (by kernel_rfl))
  f21 := ⟨Tryd.f122.name, by decide, Tryd.func122.trans (congrArg some (by kernel_rfl))⟩
  f22 := ⟨Tryd.f123.name, by decide, Tryd.func123.trans (congrArg some (by kernel_rfl))⟩
  f23 := ⟨Tryd.f124.name, by decide, Tryd.func124.trans (congrArg some (by kernel_rfl))⟩
  f24 := ⟨Tryd.f125.name, by decide, Tryd.func125.trans (congrArg some (by kernel_rfl))⟩
  f25 := ⟨Tryd.f126.name, by decide, Tryd.func126.trans (congrArg some (by kernel_rfl))⟩
  f26 := ⟨Tryd.f127.name, by decide, Tryd.func127.trans (congrArg some (by kernel_rfl))⟩
  f27 := ⟨Tryd.f128.name, by decide, Tryd.func128.trans (congrArg some (by kernel_rfl))⟩
  f28 := ⟨Tryd.f129.name, by decide, Tryd.func129.trans (congrArg some (by kernel_rfl))⟩
  f29 := ⟨Tryd.f130.name, by decide, Tryd.func130.trans (congrArg some (by kernel_rfl))⟩
  f31 := Tryd.func145.trans (congrArg some (by kernel_rfl))
  f32 := Tryd.func146.trans (congrArg some (by kernel_rfl))
  f36 := ⟨Tryd.f144.name, by decide, Tryd.func144.trans (congrArg some (by kernel_rfl))⟩
  f37 := ⟨Tryd.f147.name, by decide, Tryd.func147.trans (congrArg some (by kernel_rfl))⟩
  f38 := ⟨Tryd.f148.name, by decide, Tryd.func148.trans (congrArg some (by kernel_rfl))⟩
  f39 := ⟨Tryd.f149.name, by decide, Tryd.func149.trans (congrArg some (by kernel_rfl))⟩
  f41 := ⟨Tryd.f154.name, by decide, Tryd.func154.trans (congrArg some (by kernel_rfl))⟩
  t0 := Tryd.underlying0
  a0 := Tryd.isAgg0
  z0 := Tryd.sizeOf0
  v0 := Tryd.zeroValue0
  t3 := Tryd.underlying3
  a3 := Tryd.isAgg3
  z3 := Tryd.sizeOf3
  v3 := Tryd.zeroValue3
  t4 := Tryd.underlying4
  a4 := Tryd.isAgg4
  z4 := Tryd.sizeOf4
  v4 := Tryd.zeroValue4
  t5 := Tryd.underlying5
  a5 := Tryd.isAgg5
  z5 := Tryd.sizeOf5
  v5 := Tryd.zeroValue5
  t9 := Tryd.underlying9
  a9 := Tryd.isAgg9
  z9 := Tryd.sizeOf9
  v9 := Tryd.zeroValue9
  t26 := Tryd.underlying53
  a26 := Tryd.isAgg53
  z26 := Tryd.sizeOf53
  v26 := Tryd.zeroValue53
  t27 := Tryd.underlying53
  a27 := Tryd.isAgg53
  z27 := Tryd.sizeOf53
  v27 := Tryd.zeroValue53
  t29 := Tryd.underlying9
  a29 := Tryd.isAgg9
  z29 := Tryd.sizeOf9
  v29 := Tryd.zeroValue9
  t32 := Tryd.underlying134
  a32 := Tryd.isAgg134
  z32 := Tryd.sizeOf134
  v32 := Tryd.zeroValue134
  t35 := Tryd.underlying153
  a35 := Tryd.isAgg153
  z35 := Tryd.sizeOf153
  v35 := Tryd.zeroValue153
  t36 := Tryd.underlying154
  a36 := Tryd.isAgg154
  z36 := Tryd.sizeOf154
  v36 := Tryd.zeroValue154
  t41 := Tryd.underlying158
  a41 := Tryd.isAgg158
  z41 := Tryd.sizeOf158
  v41 := Tryd.zeroValue158
  t44 := Tryd.underlying161
  a44 := Tryd.isAgg161
  z44 := Tryd.sizeOf161
  v44 := Tryd.zeroValue161
  t46 := Tryd.underlying147
  a46 := Tryd.isAgg147
  z46 := Tryd.sizeOf147
  v46 := Tryd.zeroValue147
  t53 := Tryd.underlying173
  a53 := Tryd.isAgg173
  z53 := Tryd.sizeOf173
  v53 := Tryd.zeroValue173
  t57 := Tryd.underlying177
  a57 := Tryd.isAgg177
  z57 := Tryd.sizeOf177
  v57 := Tryd.zeroValue177
  t63 := Tryd.underlying182
  a63 := Tryd.isAgg182
  z63 := Tryd.sizeOf182
  v63 := Tryd.zeroValue182
  t64 := Tryd.underlying65
  a64 := Tryd.isAgg65
  z64 := Tryd.sizeOf65
  v64 := Tryd.zeroValue65 }
end Go.Proofs

/- Names, by its contract: the files' names, rising; Peek. -/
namespace Go.Proofs.YtkfehogefclhdaaDoor.Dk
open Go.RowKit Go.Maps Go.Sort Go.Shelf Go.Proofs.YtkfehogefclhdaaDoorW.PrintWords Go.Proofs.YtkfehogefclhdaaDoorW.PrintMore
variable {N : Nat} {w : World} {p : Nat} {F : Nat → Prop} {s : St} {m : Nat} {pv : Value} {B : Nat} {a0 a1 a2 a3 a4 : Addr} {K : Nat → Prop}

theorem sortsA (m : Nat) : AnyZ.SortsIn Tryd.prog Tryd.sortedA_ren Fence.wide m :=
  ⟨fun blk off cap ss W hH hblk hsz => callsIn_wide.2 (AnyM.slices_Sort_string Tryd.sortA blk off cap ss W hH hblk hsz),
   fun p cap W => callsIn_wide.2 (AnyM.slices_Sort_string_none Tryd.sortA p cap W)⟩
theorem keys_run (mb : Option Nat) (W : World) : Calls Tryd.prog 74 #[.map mb] W fun e w' => e = .returned (.func (.func 95) #[] #[.pointer (some ⟨W.heap.size, 0, none⟩)]) ∧ w' = W.alloc (.cells #[.map mb] 75) :=
  (callsIn_wide (n := 5)).1 (AnyZ.keys_in Tryd.keysA Fence.wide 5 trivial rfl mb W)
/-- The names of the files, rising. -/
def namesOf (fs : List Fil) : List (List UInt8) := (fs.map fun f => f.name.data.toList).mergeSort leB
theorem names_perm {n : Nat} {fs : List Fil} {D : DataW Unit} (ho : w.ownsMap Tryd.prog 9 rp m n D) (hh : ∀ x, has D (kl x) = (look fs x).isSome) (hn : fs.Pairwise (fun f g => f.name ≠ g.name)) : (fs.map fun f => f.name.data.toList).Perm (strKeys D) := by
  have hc : Collected D (fun _ => false) (fs.map fun f => f.name.data.toList) := by
    refine ⟨?_, fun x => ?_⟩
    · unfold List.Nodup
      rw [List.pairwise_map]
      exact hn.imp (fun h e => h (by
        rename_i a b
        obtain ⟨⟨⟨x⟩⟩, _, _, _⟩ := a
        obtain ⟨⟨⟨y⟩⟩, _, _, _⟩ := b
        simp only at e
        rw [e]))
    · have hx := hh ⟨⟨x⟩⟩
      have hk : kl ⟨⟨x⟩⟩ = .string x := rfl
      rw [hk] at hx
      rw [hx, List.mem_map]
      unfold look
      rw [List.find?_isSome]
      constructor
      · rintro ⟨f, hf, rfl⟩
        exact ⟨⟨f, hf, by simp⟩, rfl⟩
      · rintro ⟨⟨f, hf, e⟩, _⟩
        exact ⟨f, hf, by rw [of_decide_eq_true e]⟩
  exact hc.perm ho law9 Tryd.underlying9 (fun _ => rfl)
set_option maxRecDepth 100000 in
theorem sorted_run {n : Nat} {fs : List Fil} (h : MapIs w m n fs) (hn : fs.Pairwise (fun f g => f.name ≠ g.name)) (hN : n * 16 ≤ 140737488355328) :
    Calls Tryd.prog 73 #[.func (.func 95) #[] #[.pointer (some ⟨w.heap.size, 0, none⟩)]] (w.alloc (.cells #[.map (some m)] 75)) fun e w' => ∃ v, e = .returned v ∧
      w'.ownsRow (w.heap.size + 1) 9 1 v (namesOf fs).length ((namesOf fs).map encStr) ∧ Below (w.heap.size + 1) (w.alloc (.cells #[.map (some m)] 75)) w' := by
  obtain ⟨D, ho, _, hh⟩ := h
  have hmax : Maps.size D ≤ n := ho.size_le
  have hseq : SeqGives Fence.wide 2 Tryd.prog 95 #[.pointer (some ⟨w.heap.size, 0, none⟩)] encStr (fun ss => ss.Perm (strKeys D)) (Maps.size D) (w.alloc (.cells #[.map (some m)] 75)) :=
    AnyZ.keys_gives (ρ := Tryd.keysA_ren) { Tryd.keysA with } Fence.wide _ trivial rfl (by omega) w.heap.size m n D _ (by simp) (by simp) (by
      have hbl := ho.lt
      obtain ⟨es, clock, hb, Ft, hs, hD⟩ := ho
      exact ⟨es, clock, (Below.heap_alloc _ _ m hbl).trans hb, Ft, hs, hD⟩)
  have cS := AnyZ.sorted_in Tryd.sortedA Fence.wide 5 trivial trivial trivial trivial rfl (by omega) (sortsA _) (enters_of Tryd.func94 (by kernel_rfl) rfl) 95 #[.pointer (some ⟨w.heap.size, 0, none⟩)] trivial (enters_of Tryd.func95 (by kernel_rfl) rfl) _ _ (by unfold maxLen; omega) (by omega) _ hseq
  change CallsIn _ _ Tryd.prog 73 _ _ _ at cS
  refine ((callsIn_wide (n := 5)).1 cS).mono ?_
  rintro e w' ⟨v, ss, rfl, hS, hrow, hnil, hb⟩
  have hp : ss.mergeSort leB = namesOf fs := mergeSort_of_perm (hS.trans (names_perm ho hh hn).symm)
  have hl : ss.length = (namesOf fs).length := by rw [← hp, List.length_mergeSort]
  refine ⟨v, rfl, ?_, ?_⟩
  · rw [← hp]
    rw [hl, ← hp] at hrow
    have e1 : (w.alloc (.cells #[.map (some m)] 75)).heap.size = w.heap.size + 1 := by simp
    rw [e1] at hrow
    exact hrow
  · have e1 : (w.alloc (.cells #[.map (some m)] 75)).heap.size = w.heap.size + 1 := by simp
    rw [e1] at hb
    exact hb
set_option maxRecDepth 100000 in
theorem names_ok (h : Is N w p F s m pv) (hN : N * 16 ≤ 140737488355328) : Calls Tryd.prog 37 #[.pointer (some ⟨p, 0, none⟩)] w fun e w' => ∃ v, e = .returned v ∧
    w'.ownsRow w.heap.size 9 1 v (namesOf s.fs).length ((namesOf s.fs).map encStr) ∧ Below w.heap.size w w' := by
  obtain ⟨c0, c1, c2, c3, c4, c5⟩ := h.cells
  have hs := sorted_run h.files h.names hN
  go_enter Tryd.func37, Tryd.ntmps37
  go_wp2_with (first
    | (go_at_call 50; refine (none_ok h).mono ?_; rintro e w' ⟨rfl, h'⟩; replace h' := h'.symm; subst h')
    | (go_at_call 74; refine (keys_run _ _).mono ?_; rintro e w' ⟨rfl, rfl⟩)
    | (go_at_call 73; refine hs.mono ?_; rintro e w' ⟨v, rfl, hrow, hb⟩))
  go_ret
  exact ⟨v, rfl, ownsRow_base_a hrow (by omega), ((Below.refl _ w).alloc (Nat.le_refl _) _).trans (hb.mono (by omega))⟩
end Go.Proofs.YtkfehogefclhdaaDoor.Dk

-- Written by xprint.py, a program of this session over the kit's print: not the print's own text.
namespace Go.Proofs.YtkfehogefclhdaaDoor.PDl
open Go.RowKit Go.Proofs.YtkfehogefclhdaaDoorW.PrintWords Go.Proofs.YtkfehogefclhdaaDoorW.PrintLast Go.Proofs.YtkfehogefclhdaaDoorW.PrintMore
attribute [local go_sem] max2_int min2_int max_two min_two max_three min_three max_four min_four   -- for this text's walks alone
set_option linter.unusedVariables false
set_option linter.unusedSimpArgs false



def errW : Option Int → Value
  | none => .nilIface
  | some c => .iface 0 (.int .i64 c)
theorem errW_none : errW none = .nilIface := rfl
theorem errW_some (c : Int) : errW (some c) = .iface 0 (.int .i64 c) := rfl

theorem info32 : (Tryd.prog.info? 32).map (fun i => (i.zero, i.size, i.bytes)) = some (some (.agg #[(.int .i64 0), (.int .i64 0), (.int .i64 0)]), 3, 24) := by kernel_rfl
-- the values' own types
/-! #### struct type 32 -/
structure S32 where
  f0 : Int
  f1 : Int
  f2 : Int
def z32 : S32 := ⟨(0 : Int), (0 : Int), (0 : Int)⟩
def k32 : Kd S32 := Kd.iso (Kd.pair (Kd.int .i64) (Kd.pair (Kd.int .i64) (Kd.int .i64))) (fun x : S32 => (x.f0, x.f1, x.f2))
theorem k32_open {w : World} {x : S32} {cs : List Value} (h : k32.K w x cs) : cs = [.int .i64 x.f0, .int .i64 x.f1, .int .i64 x.f2] := by
  obtain ⟨_, _, rfl, rfl, ⟨_, _, rfl, rfl, rfl⟩⟩ := h
  exact rfl
theorem k32_openM {w : World} {base : Nat} {ok : Nat → Prop} {x : S32} {cs : List Value} (h : k32.M w base ok x cs) : cs = [.int .i64 x.f0, .int .i64 x.f1, .int .i64 x.f2] := by
  obtain ⟨_, _, rfl, rfl, ⟨_, _, rfl, rfl, rfl⟩⟩ := h
  exact rfl
theorem k32_mk (w : World) (x : S32)  : k32.K w x [.int .i64 x.f0, .int .i64 x.f1, .int .i64 x.f2] := ⟨[.int .i64 x.f0], [.int .i64 x.f1, .int .i64 x.f2], rfl, rfl, ⟨[.int .i64 x.f1], [.int .i64 x.f2], rfl, rfl, rfl⟩⟩
theorem k32_mkM (w : World) (base : Nat) (ok : Nat → Prop) (x : S32)  : k32.M w base ok x [.int .i64 x.f0, .int .i64 x.f1, .int .i64 x.f2] := ⟨[.int .i64 x.f0], [.int .i64 x.f1, .int .i64 x.f2], rfl, rfl, ⟨[.int .i64 x.f1], [.int .i64 x.f2], rfl, rfl, rfl⟩⟩
def rd_T32 (xs : List S32) (i : Int) : S32 := xs.getD i.toNat z32
theorem at_T32 {w : World} {A : Option Addr} {n : Nat} {xs : List S32} (h : Kd.C k32 w A n xs) (i : Int) (h0 : 0 ≤ i) (h1 : i < n) : ∃ ad , A = some ad ∧ w.cell? (ad.add (i.toNat * 3)) = some (.int .i64 (rd_T32 xs i).f0) ∧ w.cell? ⟨(ad.add (i.toNat * 3)).block, (ad.add (i.toNat * 3)).off + 1, none⟩ = some (.int .i64 (rd_T32 xs i).f1) ∧ w.cell? ⟨(ad.add (i.toNat * 3)).block, (ad.add (i.toNat * 3)).off + 2, none⟩ = some (.int .i64 (rd_T32 xs i).f2) := by
  obtain ⟨ad, c, e, _, hK, hc0⟩ := Kd.C_get h z32 i h0 h1
  have hc : ∀ j u, c[j]? = some u → w.cell? (ad.add (i.toNat * 3 + j)) = some u := hc0
  obtain rfl := k32_open hK
  exact ⟨ad, e, hc 0 _ rfl, by rw [← add_field _ _ 1 (by omega)]; exact hc 1 _ rfl, by rw [← add_field _ _ 2 (by omega)]; exact hc 2 _ rfl⟩

end Go.Proofs.YtkfehogefclhdaaDoor.PDl

-- Written by xprint.py, a program of this session over the kit's print: not the print's own text.
namespace Go.Proofs.YtkfehogefclhdaaDoor.PDl
open Go.RowKit Go.Proofs.YtkfehogefclhdaaDoorW.PrintWords Go.Proofs.YtkfehogefclhdaaDoorW.PrintLast Go.Proofs.YtkfehogefclhdaaDoorW.PrintMore
attribute [local go_sem] max2_int min2_int max_two min_two max_three min_three max_four min_four   -- for this text's walks alone
set_option linter.unusedVariables false
set_option linter.unusedSimpArgs false

/-! ### postbaglaw9_twin: function 32 -/
def postbaglaw9_twin.f (l0 : List (S32)) : Option ((List (S32))) := if ([] : List (S32)).length + l0.length < 5864062014805 then ((some (([] : List (S32)) ++ l0 : List (S32))).bind fun y101 => (if y101.length < 5864062014805 then (some (y101 ++ [(⟨1, 77, 77⟩ : S32)])) else (none))) else (none)
set_option maxHeartbeats 8000000 in
set_option maxRecDepth 100000 in
theorem postbaglaw9_twin.calls (A0 : Option Addr) (c0 : Nat) (l0 : List (S32)) (r : List (S32)) (w : World) (hr0 : Kd.C k32 w A0 l0.length l0) (hc0 : l0.length ≤ c0) (h : postbaglaw9_twin.f l0 = some r) :
    Calls Tryd.prog 32 #[.slice A0 l0.length c0] w fun e w' => ∃ v0_ : Value, e = .returned (v0_) ∧ Kd.R k32 32 w' w.heap.size (fun _ => True) v0_ r ∧ Below w.heap.size w w' := by
  have hu32 := Tryd.underlying32
  have HR0 := Aside0.mk hr0
  have HC0 := Aside0.mk hc0
  clear hr0 hc0
  have HB := Aside0.mk (Below.refl w.heap.size w)
  have H : (if ([] : List (S32)).length + l0.length < 5864062014805 then ((some (([] : List (S32)) ++ l0 : List (S32))).bind fun y101 => (if y101.length < 5864062014805 then (some (y101 ++ [(⟨1, 77, 77⟩ : S32)])) else (none))) else (none)) = some r := h
  clear h
  by_cases c2 : ([] : List (S32)).length + l0.length < 5864062014805
  · rw [if_pos c2] at H
    have LMc2 := Aside0.mk c2
    clear c2
    obtain ⟨y101, hy101⟩ : ∃ y_ : List (S32), y_ = (([] : List (S32)) ++ l0) := ⟨_, rfl⟩
    replace H : (if y101.length < 5864062014805 then (some (y101 ++ [(⟨1, 77, 77⟩ : S32)])) else (none)) = some r := by first | (rw [hy101]; with_reducible exact H) | (have H2_ := (Option.bind_some _ _).symm.trans H; rw [hy101]; with_reducible exact H2_) | (have H2_ := (Option.bind_some _ _).symm.trans H; with_reducible exact H2_) | with_reducible exact H | (rw [hy101]; exact H) | exact H
    have Ny101 := Aside0.mk hy101
    clear hy101
    by_cases c3 : y101.length < 5864062014805
    · rw [if_pos c3] at H
      have LMc3 := Aside0.mk c3
      clear c3
      obtain ⟨y104, hy104⟩ : ∃ y_ : List (S32), y_ = (y101 ++ [(⟨1, 77, 77⟩ : S32)]) := ⟨_, rfl⟩
      replace H : (some y104) = some r := by first | (rw [hy104]; with_reducible exact H) | (have H2_ := (Option.bind_some _ _).symm.trans H; rw [hy104]; with_reducible exact H2_) | (have H2_ := (Option.bind_some _ _).symm.trans H; with_reducible exact H2_) | with_reducible exact H | (rw [hy104]; exact H) | exact H
      have Ny104 := Aside0.mk hy104
      clear hy104
      obtain rfl := Option.some.inj H
      go_enter Tryd.func32, Tryd.ntmps32
      go_wp2_with (first | ((with_reducible refine gate_builtin (b := .append) (xs := #[.tmp 4, .tmp 5]) rfl ?_); at_builtin; refine Kd.R_append_rows k32 (w0 := w) w.heap.size rfl (.tmp 4) (.tmp 5) 33 32 (.agg #[(.int .i64 0), (.int .i64 0), (.int .i64 0)]) 24 rfl Tryd.underlying33 info32 rfl (by decide) (by omega) (.slice none 0 0) ([] : List (S32)) l0 _ _ _ (fun _ => True) (fun _ => False) rfl rfl ?aO ?aR (fun _ _ h => h) (fun _ h => h.elim) ?aF ?aB ?aS ?aL ?_; (case aR => repeat (first | exact HR0.out | (with_reducible refine Kd.C_alloc ?_ _) | (with_reducible refine Kd.C_drewN ?_ _) | (with_reducible refine Kd.C_drew ?_))); (case aB => exact (by repeat (first | (with_reducible first | exact HB.out | apply below_alloc | apply pw_below_drewN | apply below_drew1) | exact HB.out))); (case aF => exact (fun _ _ => trivial)); (case aO => exact ((Kd.R_nil _ _ _ _ (fun _ => True)))); (case aS => exact (below_size (by repeat (first | (with_reducible first | exact HB.out | apply below_alloc | apply pw_below_drewN | apply below_drew1) | exact HB.out)))); (case aL => have := LMc2.out; omega); intro v102 w4 ho hb hg hat; rw [← Ny101.out] at ho; have n0_ := Aside0.mk (hb); have n1_ := Aside0.mk (ho); clear HB; have HB := n0_; have HO103 := n1_; clear n0_ n1_; clear ho hb hg hat) | ((with_reducible refine gate_builtin (b := .append) (xs := #[.tmp 7, .tmp 9]) rfl ?_); at_builtin; refine Kd.R_append k32 (w0 := w) w.heap.size rfl (.tmp 7) (.tmp 9) 33 32 (.agg #[(.int .i64 0), (.int .i64 0), (.int .i64 0)]) 24 rfl Tryd.underlying33 info32 rfl (by decide) (by omega) v102 y101 (⟨1, 77, 77⟩ : S32) [.int .i64 1, .int .i64 77, .int .i64 77] (fun _ => True) (fun _ => False) rfl rfl ?aP (fun _ hk => hk.elim) ?aF ?aO ?aB ?aS ?aL ?_; (case aP => exact k32_mkM _ _ _ (⟨1, 77, 77⟩ : S32)); (case aB => exact (by repeat (first | (with_reducible first | exact HB.out | apply below_alloc | apply pw_below_drewN | apply below_drew1) | exact HB.out))); (case aF => exact (fun _ _ => trivial)); (case aO => exact (by (with_reducible repeat (first | apply Kd.R_alloc | apply Kd.R_drewN | apply Kd.R_drew)); exact HO103.out)); (case aS => exact (below_size (by repeat (first | (with_reducible first | exact HB.out | apply below_alloc | apply pw_below_drewN | apply below_drew1) | exact HB.out)))); (case aL => have := LMc3.out; omega); intro v105 w5 ho hb hg hat; rw [← Ny104.out] at ho; have n0_ := Aside0.mk (hb); have n1_ := Aside0.mk (ho); clear HB; clear HO103; have HB := n0_; have HO106 := n1_; clear n0_ n1_; clear ho hb hg hat))
      go_ret
      exact ⟨_, by first | rfl | (simp [errW_none, errW_some] <;> rfl) | (simp [*, errW_none, errW_some] <;> rfl), by (with_reducible repeat (first | apply Kd.R_alloc | apply Kd.R_drewN | apply Kd.R_drew)); exact HO106.out, by repeat (first | (with_reducible first | exact HB.out | apply below_alloc | apply pw_below_drewN | apply below_drew1) | exact HB.out)⟩
    · rw [if_neg c3] at H
      exact absurd H (by simp)
  · rw [if_neg c2] at H
    exact absurd H (by simp)

/-! ### postbaglaw9_texts: function 39 -/
def postbaglaw9_texts.l0 : Nat → List ByteArray → List ByteArray → Int → Option (Bool)
  | 0, _, _, _ => none
  | k + 1, x0, x1, x5 => if x5 < (x0.length : Int) then (if 0 ≤ x5 then (if x5 < (x1.length : Int) then (if (rdOf ByteArray.empty x0 x5).toList = (rdOf ByteArray.empty x1 x5).toList then (postbaglaw9_texts.l0 k x0 x1 (wrap64 (x5 + 1))) else (some false)) else (none)) else (none)) else (some true)
def postbaglaw9_texts.f (k : Nat) (l0 : List ByteArray) (l1 : List ByteArray) : Option (Bool) := if (l0.length : Int) = (l1.length : Int) then (postbaglaw9_texts.l0 k l0 l1 0) else (some false)
theorem postbaglaw9_texts.mono_l : ∀ k, (∀ y0 y1 y2, LeO (postbaglaw9_texts.l0 k y0 y1 y2) (postbaglaw9_texts.l0 (k + 1) y0 y1 y2))
  | 0 => fun _ _ _ r h => by simp [postbaglaw9_texts.l0] at h
  | k + 1 => by
    have ih0 := postbaglaw9_texts.mono_l k
    · intro y0 y1 y2
      unfold postbaglaw9_texts.l0
      repeat' first
      | (with_reducible exact ih0 _ _ _)
      | (with_reducible exact LeO.refl _)
      | (with_reducible exact LeO.none _)
      | (with_reducible refine LeO.ite ?_ ?_)
      | (with_reducible refine LeO.bind ?_ (fun _ => ?_))
      | exact ih0 _ _ _
      | exact LeO.none _
      | refine LeO.ite ?_ ?_
      | refine LeO.bind ?_ (fun _ => ?_)
theorem postbaglaw9_texts.mono : ∀ a0 a1 k, LeO (postbaglaw9_texts.f k a0 a1) (postbaglaw9_texts.f (k + 1) a0 a1) := by
  intro a0 a1 k
  have ih0 := postbaglaw9_texts.mono_l k
  unfold postbaglaw9_texts.f
  repeat' first
      | (with_reducible exact ih0 _ _ _)
      | (with_reducible exact LeO.refl _)
      | (with_reducible exact LeO.none _)
      | (with_reducible refine LeO.ite ?_ ?_)
      | (with_reducible refine LeO.bind ?_ (fun _ => ?_))
      | exact ih0 _ _ _
      | exact LeO.none _
      | refine LeO.ite ?_ ?_
      | refine LeO.bind ?_ (fun _ => ?_)
set_option maxHeartbeats 8000000 in
set_option maxRecDepth 100000 in
theorem postbaglaw9_texts.calls (k : Nat) (A0 : Option Addr) (c0 : Nat) (l0 : List ByteArray) (A1 : Option Addr) (c1 : Nat) (l1 : List ByteArray) (r : Bool) (w : World) (hr0 : Kd.C Kd.string w A0 l0.length l0) (hc0 : l0.length ≤ c0) (hr1 : Kd.C Kd.string w A1 l1.length l1) (hc1 : l1.length ≤ c1) (h : postbaglaw9_texts.f k l0 l1 = some r) :
    Calls Tryd.prog 39 #[.slice A0 l0.length c0, .slice A1 l1.length c1] w fun e w' => e = .returned (.bool r) ∧ Drawn0 w w' := by
  have HR0 := Aside0.mk hr0
  have HC0 := Aside0.mk hc0
  clear hr0 hc0
  have HR1 := Aside0.mk hr1
  have HC1 := Aside0.mk hc1
  clear hr1 hc1
  have H : (if (l0.length : Int) = (l1.length : Int) then (postbaglaw9_texts.l0 k l0 l1 0) else (some false)) = some r := h
  clear h
  by_cases c3 : (l0.length : Int) = (l1.length : Int)
  · rw [if_pos c3] at H
    have c3b0 : ((l0.length : Int) == (l1.length : Int)) = true := beq_iff_eq.mpr c3
    have c3b1 : ((l0.length : Int) != (l1.length : Int)) = false := bne_eq_false_iff_eq.mpr c3
    have c3b2 : (l0.length == l1.length) = true := by first | simpa using c3 | (simp at c3 ⊢; omega)
    clear c3
    have H' := Aside0.mk H
    clear H
    go_enter Tryd.func39, Tryd.ntmps39
    go_wp2
    repeat (go_quiet (fail); try go_wp2)
    go_loopg [5] k (fun kq v5 w' => ∃ (x5_1 : Int), v5 = .int .i64 x5_1 ∧ Aside0 (postbaglaw9_texts.l0 kq l0 l1 x5_1 = some r) ∧ Aside0 (kq ≤ k) ∧ Drawn0 w w')
    case atStart => exact ⟨(0), (by first | rfl | (simp; done) | (simp [*]; done) | (simp [bne, *]; done)), H', ⟨Nat.le_refl _⟩, by repeat (first | exact Drawn0.refl _ | apply Drawn0.step)⟩
    case round =>
      clear H'
      try clear c1
      try clear p2
      try clear c3
      try clear c3b0
      try clear c3b1
      try clear c3b2
      obtain ⟨x5_1, rfl, HA, HK1, ⟨m1, rfl⟩⟩ := hrel
      cases gk with
      | zero => exact absurd HA.out (by simp [postbaglaw9_texts.l0])
      | succ k1 =>
        have H := HA.out
        clear HA
        simp only [postbaglaw9_texts.l0] at H
        by_cases c4 : x5_1 < (l0.length : Int)
        · rw [if_pos c4] at H
          have c4b0 : decide (x5_1 < (l0.length : Int)) = true := decide_eq_true c4
          clear c4
          by_cases c5 : 0 ≤ x5_1
          · rw [if_pos c5] at H
            have c5b0 : decide (0 ≤ x5_1) = true := decide_eq_true c5
            clear c5
            by_cases c6 : x5_1 < (l1.length : Int)
            · rw [if_pos c6] at H
              have c6b0 : decide (x5_1 < (l1.length : Int)) = true := decide_eq_true c6
              clear c6
              by_cases c7 : (rdOf ByteArray.empty l0 x5_1).toList = (rdOf ByteArray.empty l1 x5_1).toList
              · rw [if_pos c7] at H
                have c7b0 : ((rdOf ByteArray.empty l0 x5_1).toList == (rdOf ByteArray.empty l1 x5_1).toList) = true := beq_iff_eq.mpr c7
                have c7b1 : ((rdOf ByteArray.empty l0 x5_1).toList != (rdOf ByteArray.empty l1 x5_1).toList) = false := bne_eq_false_iff_eq.mpr c7
                clear c7
                have H' := Aside0.mk H
                clear H
                have p107 : 0 ≤ (x5_1 : Int) := of_decide_eq_true (by first | (with_reducible assumption) | assumption)
                have q107 : x5_1 < (l0.length : Int) := of_decide_eq_true (by first | (with_reducible assumption) | assumption)
                obtain ⟨ad107, e107, hx107_0⟩ := Kd.at_string HR0.out x5_1 p107 q107
                cases e107
                replace p107 := eq_true p107
                replace q107 := eq_true q107
                have p108 : 0 ≤ (x5_1 : Int) := of_decide_eq_true (by first | (with_reducible assumption) | assumption)
                have q108 : x5_1 < (l1.length : Int) := of_decide_eq_true (by first | (with_reducible assumption) | assumption)
                obtain ⟨ad108, e108, hx108_0⟩ := Kd.at_string HR1.out x5_1 p108 q108
                cases e108
                replace p108 := eq_true p108
                replace q108 := eq_true q108
                go_wp2
                repeat (go_quiet (fail); try go_wp2)
                go_roundg k1
                case measure => have := HK1.out; omega
                case rel => exact ⟨(wrap64 (x5_1 + 1)), (by first | rfl | (simp; done) | (simp [*]; done) | (simp [bne, *]; done)), H', ⟨by have := HK1.out; omega⟩, by repeat (first | exact Drawn0.refl _ | apply Drawn0.step)⟩
              · rw [if_neg c7] at H
                have c7b0 : ((rdOf ByteArray.empty l0 x5_1).toList == (rdOf ByteArray.empty l1 x5_1).toList) = false := beq_eq_false_iff_ne.mpr c7
                have c7b1 : ((rdOf ByteArray.empty l0 x5_1).toList != (rdOf ByteArray.empty l1 x5_1).toList) = true := bne_iff_ne.mpr c7
                obtain rfl := Option.some.inj H
                have p107 : 0 ≤ (x5_1 : Int) := of_decide_eq_true (by first | (with_reducible assumption) | assumption)
                have q107 : x5_1 < (l0.length : Int) := of_decide_eq_true (by first | (with_reducible assumption) | assumption)
                obtain ⟨ad107, e107, hx107_0⟩ := Kd.at_string HR0.out x5_1 p107 q107
                cases e107
                replace p107 := eq_true p107
                replace q107 := eq_true q107
                have p108 : 0 ≤ (x5_1 : Int) := of_decide_eq_true (by first | (with_reducible assumption) | assumption)
                have q108 : x5_1 < (l1.length : Int) := of_decide_eq_true (by first | (with_reducible assumption) | assumption)
                obtain ⟨ad108, e108, hx108_0⟩ := Kd.at_string HR1.out x5_1 p108 q108
                cases e108
                replace p108 := eq_true p108
                replace q108 := eq_true q108
                go_wp2
                repeat (go_quiet (fail); try go_wp2)
                go_ret
                exact ⟨by first | rfl | (simp; done) | (simp [*]; done), by repeat (first | exact Drawn0.refl _ | apply Drawn0.step)⟩
            · rw [if_neg c6] at H
              exact absurd H (by simp)
          · rw [if_neg c5] at H
            exact absurd H (by simp)
        · rw [if_neg c4] at H
          have c4b0 : decide (x5_1 < (l0.length : Int)) = false := decide_eq_false c4
          clear c4
          obtain rfl := Option.some.inj H
          go_wp2
          repeat (go_quiet (fail); try go_wp2)
          go_ret
          exact ⟨by first | rfl | (simp; done) | (simp [*]; done), by repeat (first | exact Drawn0.refl _ | apply Drawn0.step)⟩
  · rw [if_neg c3] at H
    have c3b0 : ((l0.length : Int) == (l1.length : Int)) = false := beq_eq_false_iff_ne.mpr c3
    have c3b1 : ((l0.length : Int) != (l1.length : Int)) = true := bne_iff_ne.mpr c3
    have c3b2 : (l0.length == l1.length) = false := by first | simpa using c3 | (simp at c3 ⊢; omega)
    obtain rfl := Option.some.inj H
    go_enter Tryd.func39, Tryd.ntmps39
    go_wp2
    repeat (go_quiet (fail); try go_wp2)
    go_ret
    exact ⟨by first | rfl | (simp; done) | (simp [*]; done), by repeat (first | exact Drawn0.refl _ | apply Drawn0.step)⟩

/-! ### postbaglaw9_begins: function 71 -/
def postbaglaw9_begins.f (a0 : ByteArray) (a1 : ByteArray) : Option (Bool) := if (a0.size : Int) ≤ (a1.size : Int) then (if 0 ≤ (a0.size : Int) then (some ((a1.extract 0 ((a0.size : Int) : Int).toNat).toList == a0.toList)) else (none)) else (some false)
set_option maxHeartbeats 8000000 in
set_option maxRecDepth 100000 in
theorem postbaglaw9_begins.calls (a0 : ByteArray) (a1 : ByteArray) (r : Bool) (w : World) (h : postbaglaw9_begins.f a0 a1 = some r) :
    Calls Tryd.prog 71 #[.string a0, .string a1] w fun e w' => e = .returned (.bool r) ∧ Drawn0 w w' := by
  have H : (if (a0.size : Int) ≤ (a1.size : Int) then (if 0 ≤ (a0.size : Int) then (some ((a1.extract 0 ((a0.size : Int) : Int).toNat).toList == a0.toList)) else (none)) else (some false)) = some r := h
  clear h
  by_cases c3 : (a0.size : Int) ≤ (a1.size : Int)
  · rw [if_pos c3] at H
    have c3b0 : decide ((a0.size : Int) ≤ (a1.size : Int)) = true := decide_eq_true c3
    have c3b1 : decide (a0.size ≤ a1.size) = true := decide_eq_true (Int.ofNat_le.mp c3)
    clear c3
    by_cases c4 : 0 ≤ (a0.size : Int)
    · rw [if_pos c4] at H
      have c4b0 := eq_true c4
      have c4b1 : decide (0 ≤ (a0.size : Int)) = true := decide_eq_true c4
      clear c4
      have c5b0 := eq_true (of_decide_eq_true (by first | (with_reducible assumption) | assumption) : (a0.size : Int) ≤ (a1.size : Int))
      obtain rfl := Option.some.inj H
      go_enter Tryd.func71, Tryd.ntmps71
      go_wp2
      go_ret
      exact ⟨by first | rfl | (simp; done) | (simp [*]; done), by repeat (first | exact Drawn0.refl _ | apply Drawn0.step)⟩
    · rw [if_neg c4] at H
      exact absurd H (by simp)
  · rw [if_neg c3] at H
    have c3b0 : decide ((a0.size : Int) ≤ (a1.size : Int)) = false := decide_eq_false c3
    have c3b1 : decide (a0.size ≤ a1.size) = false := decide_eq_false (fun h => c3 (Int.ofNat_le.mpr h))
    clear c3
    obtain rfl := Option.some.inj H
    go_enter Tryd.func71, Tryd.ntmps71
    go_wp2
    go_ret
    exact ⟨by first | rfl | (simp; done) | (simp [*]; done), by repeat (first | exact Drawn0.refl _ | apply Drawn0.step)⟩

/-- THE ONE PURE STATEMENT of postbaglaw9_begins: yours. -/
def postbaglaw9_begins.Pure : Prop := ∀ (a0 : ByteArray) (a1 : ByteArray), a0.size ≤ 140737488351232 → a1.size ≤ 140737488351232 → postbaglaw9_begins.f a0 a1 = some true
theorem postbaglaw9_begins.walk (P : postbaglaw9_begins.Pure) (a0 : ByteArray) (a1 : ByteArray) (w : World) (w0 : a0.size ≤ 140737488351232) (w1 : a1.size ≤ 140737488351232) :
    Calls Tryd.prog 71 #[.string a0, .string a1] w fun e w' => e = .returned (.bool true) ∧ Below w.heap.size w w' := by
  have h := P a0 a1 w0 w1
  refine (postbaglaw9_begins.calls a0 a1 true w h).mono ?_
  rintro e w' ⟨rfl, hd⟩
  exact ⟨rfl, hd.below⟩

-- NOT PRINTED: function 34 (postbaglaw9_log_at)

-- NOT PRINTED: function 11 (disk_New)

-- NOT PRINTED: function 50 (disk_Disk_none)

-- NOT PRINTED: function 18 (disk_Disk_Down)

-- NOT PRINTED: function 98 (disk_reason)

-- NOT PRINTED: function 77 (disk_fail)

-- NOT PRINTED: function 78 (disk_Disk_stop)

-- NOT PRINTED: function 46 (disk_Disk_operate)

-- NOT PRINTED: function 12 (disk_Disk_Append)

-- NOT PRINTED: function 56 (reflectlite_TypeOf)

-- NOT PRINTED: function 57 (errors_is)

-- NOT PRINTED: function 17 (errors_Is)

-- NOT PRINTED: function 20 (disk_Disk_Read)

-- NOT PRINTED: function 24 (disk_Disk_Steps)

-- NOT PRINTED: function 38 (disk_Disk_Used)

-- NOT PRINTED: function 10 (postbaglaw9_known)

end Go.Proofs.YtkfehogefclhdaaDoor.PDl

/- DiskBounds' parts: New of a bad quota, Names beside a disk that lives, sums over the names, what an act leaves. -/
namespace Go.Proofs.YtkfehogefclhdaaDoor.Dk
open Go.RowKit Go.Maps Go.Sort Go.Shelf Go.Proofs.YtkfehogefclhdaaDoorW.PrintWords Go.Proofs.YtkfehogefclhdaaDoorW.PrintMore
variable {N : Nat} {w : World} {p : Nat} {F : Nat → Prop} {s : St} {m : Nat} {pv : Value} {B : Nat} {a0 a1 a2 a3 a4 : Addr} {K : Nat → Prop}

set_option maxRecDepth 100000 in
/-- New of a quota that may not be. -/
theorem new_bad (hS : Sens w B a0 a1 a2 a3 a4) (q : Int) (hq : q < 1 ∨ 1048576 < q) : Calls Tryd.prog 11 #[.int .i64 q] w fun e w' => ∃ b, e = .returned (.tuple #[.pointer none, .iface 72 (.pointer (some ⟨b, 0, none⟩))]) ∧ Below w.heap.size w w' := by
  have hg := hS.c2
  rcases (show q < 1 ∨ (¬ q < 1 ∧ 1048576 < q) by omega) with h1 | ⟨h1, h2⟩
  · have h1b : decide (q < 1) = true := decide_eq_true h1
    go_enter Tryd.func11, Tryd.ntmps11
    go_wp2
    go_region
    all_goals go_wp2
    all_goals go_ret2
    all_goals exact ⟨_, rfl, by first | exact (Below.refl _ _).alloc (Nat.le_refl _) _ | exact pw_below_drewN ((Below.refl _ _).alloc (Nat.le_refl _) _) _ | exact below_drew ((Below.refl _ _).alloc (Nat.le_refl _) _) | (repeat (apply below_drew)); exact (Below.refl _ _).alloc (Nat.le_refl _) _⟩
  · have h1b : decide (q < 1) = false := decide_eq_false h1
    have h2b : decide (1048576 < q) = true := decide_eq_true h2
    go_enter Tryd.func11, Tryd.ntmps11
    go_wp2
    go_region
    all_goals go_wp2
    all_goals go_ret2
    all_goals exact ⟨_, rfl, by first | exact (Below.refl _ _).alloc (Nat.le_refl _) _ | exact pw_below_drewN ((Below.refl _ _).alloc (Nat.le_refl _) _) _ | exact below_drew ((Below.refl _ _).alloc (Nat.le_refl _) _) | (repeat (apply below_drew)); exact (Below.refl _ _).alloc (Nat.le_refl _) _⟩
/-- The names of the files, rising, as texts. -/
def nmB (fs : List Fil) : List ByteArray := (namesOf fs).map fun x => ⟨⟨x⟩⟩
theorem nmB_perm (fs : List Fil) : (nmB fs).Perm (fs.map Fil.name) := by
  have h : ((fs.map fun f => f.name.data.toList).mergeSort leB).Perm (fs.map fun f => f.name.data.toList) := List.mergeSort_perm _ _
  have h2 := h.map (fun x : List UInt8 => (⟨⟨x⟩⟩ : ByteArray))
  rw [List.map_map] at h2
  have e : (fun f : Fil => f.name) = ((fun x : List UInt8 => (⟨⟨x⟩⟩ : ByteArray)) ∘ fun f => f.name.data.toList) := by funext f; rfl
  show ((namesOf fs).map _).Perm (fs.map fun f => f.name)
  rw [e]
  exact h2
theorem nmB_len (fs : List Fil) : (nmB fs).length = fs.length := by rw [(nmB_perm fs).length_eq, List.length_map]
theorem nmB_enc (fs : List Fil) : (namesOf fs).map encStr = encs Value.string (nmB fs) := by unfold encs nmB; rw [List.map_map]; rfl
theorem Live.addRow (h : Live B N w p K s a0 a1 a2 a3 a4) {v : Value} {base e size n : Nat} {xs : List Value} (ho : w.ownsRow base e size v n xs) (ht : e ≠ 77 ∧ e ≠ 81 ∧ e ≠ 32) : Live B N w p (fun i => K i ∨ v.ownBlock = some i) s a0 a1 a2 a3 a4 := by
  cases hv : v.ownBlock with
  | none => exact h.less (fun i hi => by rcases hi with hi | hi; exact hi; cases hi)
  | some q =>
    obtain ⟨cs, hcs⟩ := own_typed ho q hv
    exact (h.add hcs ht).less (fun i hi => by rcases hi with hi | hi; exact .inl hi; exact .inr (Option.some.inj hi).symm)
theorem names_live (h : Live B N w p K s a0 a1 a2 a3 a4) (hN : N * 16 ≤ 140737488355328) : Calls Tryd.prog 37 #[.pointer (some ⟨p, 0, none⟩)] w fun e w' => ∃ v, e = .returned v ∧
    Kd.R Kd.string 9 w' w.heap.size (fun k => v.ownBlock = some k) v (nmB s.fs) ∧ Live B N w' p (fun i => K i ∨ v.ownBlock = some i) s a0 a1 a2 a3 a4 ∧ Step B K w w' := by
  have h' := h
  obtain ⟨F, m, pv, h1, _⟩ := h
  refine (names_ok h1 hN).mono ?_
  rintro e w' ⟨v, rfl, hrow, hb⟩
  obtain ⟨l1, st1⟩ := h'.drift hb
  have hl : (namesOf s.fs).length = (nmB s.fs).length := by unfold nmB; rw [List.length_map]
  rw [hl, nmB_enc] at hrow
  exact ⟨v, rfl, Kd.R_of_own hrow (fun k hk => hk), l1.addRow hrow (by decide), st1⟩
theorem Live.room (h : Live B N w p K s a0 a1 a2 a3 a4) : (used s.fs : Int) ≤ s.quota := by obtain ⟨F, m, pv, h1, _⟩ := h; exact h1.room
theorem Live.names (h : Live B N w p K s a0 a1 a2 a3 a4) : s.fs.Pairwise (fun f g => f.name ≠ g.name) := by obtain ⟨F, m, pv, h1, _⟩ := h; exact h1.names
theorem look_of {fs : List Fil} (hn : fs.Pairwise (fun f g => f.name ≠ g.name)) {f : Fil} (hf : f ∈ fs) : look fs f.name = some f := by
  induction fs with
  | nil => cases hf
  | cons g r ih =>
    obtain ⟨h1, h2⟩ := List.pairwise_cons.1 hn
    unfold look
    rw [List.find?_cons]
    rcases List.mem_cons.1 hf with rfl | hf
    · rw [decide_eq_true rfl]
    · rw [decide_eq_false (h1 f hf)]
      exact ih h2 hf
theorem sum_perm {l l' : List Int} (h : l.Perm l') : l.sum = l'.sum := by
  induction h with
  | nil => rfl
  | cons x _ ih => simp [ih]
  | swap x y l => simp; omega
  | trans _ _ h1 h2 => exact h1.trans h2
/-- The sizes over all names are the bytes of all files. -/
theorem sizes_sum {fs : List Fil} (hn : fs.Pairwise (fun f g => f.name ≠ g.name)) : ((nmB fs).map (sizeF fs)).sum = (used fs : Int) := by
  rw [sum_perm ((nmB_perm fs).map (sizeF fs)), List.map_map]
  have key : ∀ (l : List Fil), (∀ f ∈ l, f ∈ fs) → (l.map (sizeF fs ∘ Fil.name)).sum = ((used l : Nat) : Int) := by
    intro l
    induction l with
    | nil => intro _; rfl
    | cons f r ih =>
      intro hl
      have e : sizeF fs f.name = (f.bytes.size : Int) := by unfold sizeF; rw [look_of hn (hl f (List.mem_cons_self))]
      unfold used
      rw [List.map_cons, List.sum_cons, List.map_cons, List.sum_cons, ih (fun g hg => hl g (List.mem_cons_of_mem _ hg))]
      show sizeF fs f.name + _ = _
      rw [e]
      unfold used
      push_cast
      rfl
  exact key fs (fun f hf => hf)
theorem size_nat {fs : List Fil} {x : ByteArray} (hx : x ∈ nmB fs) : 0 ≤ sizeF fs x := by
  have h : x ∈ fs.map Fil.name := (nmB_perm fs).mem_iff.1 hx
  obtain ⟨f, hf, rfl⟩ := List.mem_map.1 h
  unfold sizeF look
  cases hq : fs.find? (fun g => decide (g.name = f.name)) with
  | none =>
    rw [List.find?_eq_none] at hq
    exact absurd (decide_eq_true rfl) (hq f hf)
  | some g => exact Int.natCast_nonneg _
/-- The names rise strictly. -/
theorem nmB_rise {fs : List Fil} (hn : fs.Pairwise (fun f g => f.name ≠ g.name)) : (nmB fs).Pairwise (fun x y => x.data.toList < y.data.toList) := by
  unfold nmB
  rw [List.pairwise_map]
  have hs : (namesOf fs).Pairwise (fun a b => leB a b = true) := List.pairwise_mergeSort (fun a b c h1 h2 => by simp only [leB, decide_eq_true_eq] at *; exact List.le_trans h1 h2) (fun a b => by simp only [leB, Bool.or_eq_true, decide_eq_true_eq]; exact List.le_total a b) _
  have hd : (namesOf fs).Nodup := by
    have h1 : (fs.map fun f => f.name.data.toList).Nodup := by
      unfold List.Nodup
      rw [List.pairwise_map]
      exact hn.imp (fun h e => h (by
        rename_i a b
        obtain ⟨⟨⟨x⟩⟩, _, _, _⟩ := a
        obtain ⟨⟨⟨y⟩⟩, _, _, _⟩ := b
        simp only at e
        rw [e]))
    exact ((List.mergeSort_perm _ leB).nodup_iff).2 h1
  refine (hs.and hd).imp ?_
  rintro a b ⟨h1, h2⟩
  have h1' : a ≤ b := by simpa [leB] using h1
  show a < b
  rcases List.le_iff_lt_or_eq.1 h1' with h | h
  · exact h
  · exact absurd h h2
/-- What an act leaves, whatever became of it. -/
theorem Acted.left {a : Act7} {r : ByteArray} {v : Value} {w' : World} (h : Live B N w p K s a0 a1 a2 a3 a4) (hA : Acted B N w p K s a0 a1 a2 a3 a4 a r v w') :
    Step B K w w' ∧ ∃ s', Live B (N + 1) w' p K s' a0 a1 a2 a3 a4 ∧ s'.quota = s.quota ∧ (∀ n, Few n s → Few (n + 1) s') ∧ (v = .nilIface ∨ ∃ q, v = .iface 72 (.pointer (some ⟨q, 0, none⟩)) ∧ (s'.run = true → s'.fs = s.fs)) := by
  obtain ⟨_, _, w1, hb, s', h1, h2, h4⟩ := hA
  have hst : Step B K w w1 := Step.of_below hb h.base h.kept
  refine ⟨hst.trans h2, s', h1, ?_⟩
  cases h4 with
  | down a b =>
    obtain ⟨q, e1, _⟩ := b.at
    exact ⟨rfl, fun n hn => ⟨hn.1, by have := hn.2.1; omega, hn.2.2.1, by have := hn.2.2.2; omega⟩, .inr ⟨q, e1, fun hr => absurd (a.symm.trans hr) (by decide)⟩⟩
  | due a b c d e f =>
    obtain ⟨q, e1, _⟩ := d.at
    exact ⟨rfl, fun n hn => hn.tick, .inr ⟨q, e1, fun hr => by cases hr⟩⟩
  | err a b c d =>
    obtain ⟨q, e1, _⟩ := d.at
    exact ⟨rfl, fun n hn => hn.tick, .inr ⟨q, e1, fun _ => rfl⟩⟩
  | ok a b c d e => exact ⟨rfl, fun n hn => hn.tick, .inl d⟩
end Go.Proofs.YtkfehogefclhdaaDoor.Dk

/- twin, for a plan: the stops in a list of their own. -/
namespace Go.Proofs.YtkfehogefclhdaaDoor.Dk
open Go.RowKit Go.Maps Go.Proofs.YtkfehogefclhdaaDoorW.PrintWords Go.Proofs.YtkfehogefclhdaaDoorW.PrintMore
open Go.Proofs.YtkfehogefclhdaaDoor.PDl (postbaglaw9_twin.f postbaglaw9_twin.calls)
variable {N : Nat} {w : World} {p : Nat} {s : St} {B : Nat} {a0 a1 a2 a3 a4 : Addr} {K : Nat → Prop}
def tri (x : PDl.S32) : Int × Int × Int := (x.f0, x.f1, x.f2)
def up32 (x : S32) : PDl.S32 := ⟨x.f0, x.f1, x.f2⟩
def stopsOf (l : List S32) : List (Int × Int × Int) := l.map fun x => (x.f0, x.f1, x.f2)
theorem twin_f (l : List PDl.S32) (h : l.length * 24 ≤ 140737488351232) : postbaglaw9_twin.f l = some (l ++ [⟨1, 77, 77⟩]) := by
  unfold postbaglaw9_twin.f
  rw [if_pos (by simp; omega), Option.bind_some, if_pos (by simp; omega), List.nil_append]
/-- The kinds that the print wrote are mine. -/
theorem C_up {A : Option Addr} {l : List S32} (h : Kd.C k32 w A l.length l) : Kd.C PDl.k32 w A (l.map up32).length (l.map up32) := by
  obtain ⟨h1, h2, h3⟩ := h
  refine ⟨rfl, by rw [List.length_map]; exact h2, fun h0 => ?_⟩
  obtain ⟨ad, ha, hc⟩ := h3 (by rw [List.length_map] at h0; exact h0)
  refine ⟨ad, ha, fun j x hx => ?_⟩
  rw [List.getElem?_map] at hx
  obtain ⟨y, hy, rfl⟩ := Option.map_eq_some_iff.1 hx
  obtain ⟨c, c1, c2, c3⟩ := hc j y hy
  exact ⟨c, c1, c2, c3⟩
theorem twin_ok (l : List S32) (hl : l.length * 24 ≤ 140737488351232) (A : Option Addr) (c : Nat) (hC : Kd.C k32 w A l.length l) (hc : l.length ≤ c) :
    Calls Tryd.prog 32 #[.slice A l.length c] w fun e w' => ∃ g cap, e = .returned (.slice (some ⟨g, 0, none⟩) (l.length + 1) cap) ∧ l.length + 1 ≤ cap ∧ w.heap.size ≤ g ∧ g < w'.heap.size ∧
      PlanIs w' (fun i => i = g) (.slice (some ⟨g, 0, none⟩) (stopsOf l).length cap) (stopsOf l) ∧ Below w.heap.size w w' := by
  have h := postbaglaw9_twin.calls A c (l.map up32) _ w (C_up hC) (by rw [List.length_map]; exact hc) (twin_f _ (by rw [List.length_map]; exact hl))
  rw [List.length_map] at h
  refine h.mono ?_
  rintro e w' ⟨v, rfl, hR, hb⟩
  have hR' := hR
  obtain ⟨_, inner, ho, hrep⟩ := hR
  have hlen : (l.map up32 ++ [(⟨1, 77, 77⟩ : PDl.S32)]).length = l.length + 1 := by simp
  rw [hlen] at ho
  have ho' := ho
  rcases ho.2 with ⟨_, h0⟩ | ⟨g, cap, cur, rfl, hg, hh, hcap, hcm, hcs, htk⟩
  · omega
  · refine ⟨g, cap, rfl, hcap, hg, blk_lt hh, ?_, hb⟩
    have hll : (stopsOf l).length = l.length := by unfold stopsOf; rw [List.length_map]
    rw [hll]
    obtain ⟨A', c', e', _, hCC⟩ := Kd.R_reads hR'
    injection e' with e1 e2 e3
    refine ⟨some ⟨g, 0, none⟩, cap, by rw [hll], by rw [hll]; omega, by unfold maxLen at hcm; omega, fun i x hx => ?_⟩
    have hi : i < l.length := by
      rcases Nat.lt_or_ge i l.length with h | h
      · exact h
      · rw [List.getElem?_eq_none (by rw [hll]; exact h)] at hx; cases hx
    rw [← e1] at hCC
    obtain ⟨ad, ha, q0, q1, q2⟩ := PDl.at_T32 hCC (i : Int) (by omega) (by rw [hlen]; omega)
    cases ha
    rw [Int.toNat_natCast, add_plain] at q0 q1 q2
    have hx' : PDl.rd_T32 (l.map up32 ++ [⟨1, 77, 77⟩]) (i : Int) = up32 l[i] := by
      unfold PDl.rd_T32
      rw [Int.toNat_natCast, List.getD_eq_getElem?_getD, List.getElem?_append_left (by rw [List.length_map]; exact hi), List.getElem?_map, List.getElem?_eq_getElem hi]
      rfl
    rw [hx'] at q0 q1 q2
    have hxx : x = (l[i].f0, l[i].f1, l[i].f2) := by
      unfold stopsOf at hx
      rw [List.getElem?_map, List.getElem?_eq_getElem hi] at hx
      exact (Option.some.inj hx).symm
    subst hxx
    refine ⟨g, 0, rfl, rfl, ⟨cur, hh⟩, ?_, ?_, ?_⟩
    · rw [Nat.zero_add]; exact q0
    · rw [Nat.zero_add]; exact q1
    · rw [Nat.zero_add]; exact q2
end Go.Proofs.YtkfehogefclhdaaDoor.Dk

/- DiskBounds' walk. -/
namespace Go.Proofs.YtkfehogefclhdaaDoor.Dk
open Go.RowKit Go.Maps Go.Proofs.YtkfehogefclhdaaDoorW.PrintWords Go.Proofs.YtkfehogefclhdaaDoorW.PrintMore
variable {N : Nat} {w : World} {p : Nat} {s : St} {B : Nat} {a0 a1 a2 a3 a4 : Addr} {K : Nat → Prop}

/-- The middle of the law's loop. -/
structure BMid (w : World) (p : Nat) (a0 a1 a2 a3 a4 : Addr) (q : Int) (k N : Nat) (s : St) (wr : World) : Prop where
  live : Live w.heap.size N wr p (fun _ => False) s a0 a1 a2 a3 a4
  step : Step w.heap.size (fun _ => False) w wr
  few : Few k s
  quo : s.quota = q
theorem BMid.next {K : Nat → Prop} {q : Int} {k N : Nat} {wr w1 : World} (h : BMid w p a0 a1 a2 a3 a4 q k N s wr) (st : Step w.heap.size K wr w1) (l : Live w.heap.size N w1 p K s a0 a1 a2 a3 a4) : BMid w p a0 a1 a2 a3 a4 q k N s w1 :=
  ⟨l.less (fun i hi => hi.elim), h.step.trans (st.less (fun i hi => hi.elim)), h.few, h.quo⟩
theorem texts_step (k : Nat) (x0 x1 : List ByteArray) (x5 : Int) : PDl.postbaglaw9_texts.l0 (k + 1) x0 x1 x5 = if x5 < (x0.length : Int) then (if 0 ≤ x5 then (if x5 < (x1.length : Int) then (if (rdOf ByteArray.empty x0 x5).toList = (rdOf ByteArray.empty x1 x5).toList then (PDl.postbaglaw9_texts.l0 k x0 x1 (wrap64 (x5 + 1))) else (some false)) else (none)) else (none)) else (some true) := rfl
theorem texts_refl (l : List ByteArray) (hl : l.length ≤ 9223372036854775807) : ∃ k, PDl.postbaglaw9_texts.f k l l = some true := by
  have key : ∀ d (j : Nat), j + d = l.length → PDl.postbaglaw9_texts.l0 (d + 1) l l j = some true := by
    intro d
    induction d with
    | zero =>
      intro j hj
      rw [texts_step, if_neg (by omega)]
    | succ d ih =>
      intro j hj
      have e : wrap64 ((j : Int) + 1) = ((j + 1 : Nat) : Int) := by unfold wrap64; omega
      rw [texts_step, if_pos (by omega), if_pos (by omega), if_pos (by omega), if_pos rfl, e]
      exact ih (j + 1) (by omega)
  refine ⟨l.length + 1, ?_⟩
  unfold PDl.postbaglaw9_texts.f
  rw [if_pos rfl]
  exact key l.length 0 (by omega)
def slotsB (l : List S42) : Prop := ∀ x ∈ l, x.f2.size ≤ 140737488351232 ∧ x.f3.size ≤ 140737488351232 ∧ x.f4.size ≤ 140737488351232 ∧ x.f6.length * 24 ≤ 140737488351232
theorem few_more {n : Nat} (h : Few n s) : Few (n + 1) s := ⟨h.1, by have := h.2.1; omega, h.2.2.1, by have := h.2.2.2; omega⟩
theorem few_start' {n : Nat} (h : Few n s) : Few (n + 1) s.start := by
  obtain ⟨h1, h2, h3, h4⟩ := h
  refine ⟨h1, (by show s.steps ≤ _; omega), ?_, ?_⟩ <;> (unfold St.start; simp only; split <;> omega)
theorem few_planned {n : Nat} (h : Few n s) (l : List (Int × Int × Int)) : Few (n + 1) (s.planned l) := by
  obtain ⟨h1, h2, h3, h4⟩ := h
  exact ⟨h1, (by show s.steps ≤ _; omega), Int.le_refl _, (by show (0 : Int) ≤ _; omega)⟩
theorem stops_len (l : List S32) : (stopsOf l).length = l.length := by unfold stopsOf; rw [List.length_map]
theorem str_at {A : Option Addr} {n : Nat} {xs : List ByteArray} (h : Kd.C Kd.string w A n xs) (i : Nat) (hi : i < xs.length) : ∃ ad, A = some ad ∧ w.cell? (ad.add i) = some (.string xs[i]) := by
  have hn := h.1
  obtain ⟨ad, c, ha, hl, hK, hc⟩ := ReadsRow.get_ h ⟨#[]⟩ (i : Int) (by omega) (by omega)
  rw [Int.toNat_natCast] at hK hc
  have hK' : c = [.string (xs.getD i ⟨#[]⟩)] := hK
  subst hK'
  refine ⟨ad, ha, ?_⟩
  have h0 := hc 0 _ rfl
  rw [Nat.add_zero, show Kd.string.sz = 1 from rfl, Nat.mul_one] at h0
  rw [h0, List.getD_eq_getElem?_getD, List.getElem?_eq_getElem hi]; rfl
theorem row_str {base : Nat} {ok : Nat → Prop} {A : Option Addr} {n c : Nat} {xs : List ByteArray} (h : Kd.R Kd.string 9 w base ok (.slice A n c) xs) (i : Nat) (hi : i < xs.length) : ∃ g, A = some ⟨g, 0, none⟩ ∧ w.cell? ⟨g, i, none⟩ = some (.string xs[i]) := by
  obtain ⟨A', c', e, _, hC⟩ := Kd.R_reads h
  obtain ⟨_, inner, ho, _⟩ := h
  rcases ho.2 with ⟨_, h0⟩ | ⟨g, cap, cur, e2, _⟩
  · omega
  · injection e with e1
    injection e2 with e3
    subst e3
    obtain ⟨ad, ha, hc⟩ := str_at hC i hi
    rw [← e1] at ha
    cases ha
    rw [add_plain] at hc
    exact ⟨g, rfl, hc⟩
theorem sum_le {l : List Int} (h : ∀ z ∈ l, 0 ≤ z) (j : Nat) : 0 ≤ (l.take j).sum ∧ (l.take j).sum ≤ l.sum := by
  induction l generalizing j with
  | nil => simp
  | cons a r ih =>
    have ha := h a List.mem_cons_self
    cases j with
    | zero =>
      have := (ih (fun z hz => h z (List.mem_cons_of_mem _ hz)) r.length).1
      rw [List.take_length] at this
      simp; omega
    | succ j =>
      have := ih (fun z hz => h z (List.mem_cons_of_mem _ hz)) j
      simp; omega
theorem sum_step (f : ByteArray → Int) {ns : List ByteArray} {j : Nat} (hj : j < ns.length) : ((ns.take (j + 1)).map f).sum = ((ns.take j).map f).sum + f ns[j] := by
  rw [List.take_add_one, List.getElem?_eq_getElem hj, List.map_append, List.sum_append]; simp
theorem Live.nameLen (h : Live B N w p K s a0 a1 a2 a3 a4) : ∀ z ∈ nmB s.fs, z.size ≤ maxLen := by
  obtain ⟨F, m, pv, h1, _⟩ := h
  obtain ⟨D, ho, _, hh⟩ := h1.files
  intro z hz
  have h2 : z ∈ s.fs.map Fil.name := (nmB_perm s.fs).mem_iff.1 hz
  obtain ⟨f, hf, rfl⟩ := List.mem_map.1 h2
  have h3 := strKeys_le ho Tryd.underlying9 f.name.data.toList ((names_perm ho hh h1.names).mem_iff.1 (List.mem_map.2 ⟨f, hf, rfl⟩))
  rw [data_length] at h3
  exact h3
theorem less_of {ns : List ByteArray} (h : ns.Pairwise (fun x y => x.data.toList < y.data.toList)) {i j : Nat} (hi : i < ns.length) (hj : j < ns.length) (hij : i < j) : Go.Op.bytesLess ns[i].toList ns[j].toList = true := by
  rw [ByteArray.toList_eq, ByteArray.toList_eq]
  rw [Go.Proofs.bytesLess_eq]
  exact decide_eq_true (List.pairwise_iff_getElem.1 h i j hi hj hij)
/-- The sizes of the first names, together. -/
def sumTo (fs : List Fil) (ns : List ByteArray) (j : Nat) : Int := ((ns.take j).map (sizeF fs)).sum
theorem sumTo_zero (fs : List Fil) (ns : List ByteArray) : sumTo fs ns 0 = 0 := rfl
theorem sumTo_step {fs : List Fil} {ns : List ByteArray} {j : Nat} (hj : j < ns.length) : sumTo fs ns (j + 1) = sumTo fs ns j + sizeF fs ns[j] := sum_step (sizeF fs) hj
theorem sumTo_le {fs : List Fil} {ns : List ByteArray} (h : ∀ z ∈ ns, 0 ≤ sizeF fs z) (j : Nat) : 0 ≤ sumTo fs ns j ∧ sumTo fs ns j ≤ (ns.map (sizeF fs)).sum := by
  have hall : ∀ z ∈ ns.map (sizeF fs), 0 ≤ z := fun z hz => by obtain ⟨y, hy, rfl⟩ := List.mem_map.1 hz; exact h y hy
  have hb := sum_le hall j
  rw [← List.map_take] at hb
  exact hb
theorem sumTo_all (fs : List Fil) (ns : List ByteArray) : sumTo fs ns ns.length = (ns.map (sizeF fs)).sum := by unfold sumTo; rw [List.take_length]
/-- Behind the switch. -/
def Mid2 (w : World) (p : Nat) (a0 a1 a2 a3 a4 : Addr) (q : Int) (k N : Nat) (K : Nat → Prop) (s : St) (e : Value) (wx : World) : Prop :=
  ∃ N' s', N' ≤ N + 1 ∧ Live w.heap.size N' wx p K s' a0 a1 a2 a3 a4 ∧ Step w.heap.size (fun _ => False) w wx ∧ Few (k + 1) s' ∧ s'.quota = q ∧ (e = .nilIface ∨ ∃ b, e = .iface 72 (.pointer (some ⟨b, 0, none⟩)) ∧ (s'.run = true → s'.fs = s.fs))
set_option maxRecDepth 100000 in
set_option maxHeartbeats 2000000 in
theorem bounds_walk (hS : Sens w w.heap.size a0 a1 a2 a3 a4) (q : Int) (hq : 1 ≤ q ∧ q ≤ 1048576) (script : List S42) (A : Option Addr) (c : Nat) (hC : Kd.C k42 w A script.length script) (hsl : slotsB script) :
    Calls Tryd.prog 8 #[.int .i64 q, .slice A script.length c] w fun e w' => e = .returned (.bool true) ∧ Below w.heap.size w w' := by
  have hnot := not_run
  have hif := isIface25
  have HS : Hid _ := hS
  have HC : Hid _ := hC
  have HSL : Hid _ := hsl
  have HQ : Hid _ := hq
  clear hS hC hsl hq
  go_enter Tryd.func8, Tryd.ntmps8
  go_wp2_with fail
  refine (known_ok (K := fun _ => False) HS.out (Nat.le_refl _) (fun i hi => hi.elim)).mono ?_
  rintro e w1 ⟨rfl, st1⟩
  go_wp2_with fail
  refine (new_live (K := fun _ => False) q HQ.out.1 HQ.out.2 (HS.out.below st1.below) st1.below.size (fun i hi => hi.elim)).mono ?_
  rintro e w2 ⟨rfl, l2, st2⟩
  obtain ⟨p, hp⟩ : ∃ p, w1.heap.size + 1 = p := ⟨_, rfl⟩
  rw [hp] at l2 ⊢
  have hmid : BMid w p a0 a1 a2 a3 a4 q 0 0 (St.fresh q) w2 := ⟨l2, st1.trans st2, Few.fresh q, rfl⟩
  have HM0 : Hid _ := hmid
  clear hp st1 st2 l2 hmid
  go_wp2_with fail
  go_loopw [8] (fun vi wr => ∃ (k N : Nat) (s : St), k ≤ script.length ∧ k ≤ 150 ∧ N ≤ k ∧ vi = .int .i64 k ∧ BMid w p a0 a1 a2 a3 a4 q k N s wr) (fun vi _ => script.length - (intOf vi).toNat)
  case atStart => exact ⟨0, 0, _, Nat.zero_le _, by decide, Nat.le_refl _, rfl, HM0.out⟩
  case round =>
    obtain ⟨k, N, s, hk, hk150, hNk, rfl, hmid⟩ := hrel
    have HMID : Hid _ := hmid
    clear hmid HM0
    by_cases hlt : k < script.length ∧ k < 150
    · obtain ⟨hl1, hl2⟩ := hlt
      obtain ⟨ad, A6, c6, hA, g0, g1, g2, g3, g4, g5, g6, hl6, hC6⟩ := at_T42 HC.out k (by omega) (by omega)
      have hsl := HSL.out (rd_T42 script k) (by unfold rd_T42; rw [Int.toNat_natCast, List.getD_eq_getElem?_getD, List.getElem?_eq_getElem hl1]; exact List.getElem_mem _)
      obtain ⟨x, hx⟩ : ∃ x, rd_T42 script k = x := ⟨_, rfl⟩
      rw [hx] at g0 g1 g2 g3 g4 g5 g6 hl6 hC6 hsl
      rw [Int.toNat_natCast] at g0 g1 g2 g3 g4 g5 g6
      have hbw := HMID.out.step.below
      replace g0 := pw_cell_below hbw g0
      replace g1 := pw_cell_below hbw g1
      replace g2 := pw_cell_below hbw g2
      replace g3 := pw_cell_below hbw g3
      replace g4 := pw_cell_below hbw g4
      replace g5 := pw_cell_below hbw g5
      replace g6 := pw_cell_below hbw g6
      have HC6 : Hid _ := hC6
      clear hx hC6 hbw
      subst hA
      have hl1b : decide ((k : Int) < (script.length : Int)) = true := decide_eq_true (by omega)
      have hl2b : decide ((k : Int) < 150) = true := decide_eq_true (by omega)
      go_wp2_with fail
      obtain ⟨w3, hw3⟩ : ∃ w3, wr.alloc (Obj.cells #[.int .i64 x.f0, .int .i64 x.f1, .string x.f2, .string x.f3, .string x.f4, .int .i64 x.f5, .slice A6 x.f6.length c6] 42) = w3 := ⟨_, rfl⟩
      obtain ⟨l3, st3⟩ := HMID.out.live.drift (w' := wr.alloc (Obj.cells #[.int .i64 x.f0, .int .i64 x.f1, .string x.f2, .string x.f3, .string x.f4, .int .i64 x.f5, .slice A6 x.f6.length c6] 42)) ((Below.refl _ _).alloc (Nat.le_refl _) _)
      have hbox := blk_new wr (Obj.cells #[.int .i64 x.f0, .int .i64 x.f1, .string x.f2, .string x.f3, .string x.f4, .int .i64 x.f5, .slice A6 x.f6.length c6] 42)
      rw [hw3] at l3 st3 hbox ⊢
      replace l3 := l3.add hbox (by decide)
      have st03 := HMID.out.step.trans st3
      clear hw3 g0 g1 g2 g3 g4 g5 g6 st3
      refine (names_live l3 (by omega)).mono ?_
      rintro e w4 ⟨v4, rfl, hR4, l4, st4⟩
      have hbox4 := (st4.kept _ (.inr rfl)).trans hbox
      have st04 := st03.trans (st4.less (K' := fun _ => False) (fun i hi => hi.elim))
      clear hbox st03 st4 l3
      go_wp2_with fail
      refine (used_live l4).mono ?_
      rintro e w5 ⟨rfl, l5, st5⟩
      have hbox5 := (st5.kept _ (.inl (.inr rfl))).trans hbox4
      have hR5 := Kd.R_step hR4 (w1 := w5) (fun i hi _ => st5.kept i (.inr hi))
      have st05 := st04.trans (st5.less (K' := fun _ => False) (fun i hi => hi.elim))
      clear hbox4 st04 st5 l4 hR4
      have HR5 : Hid _ := hR5
      have HST5 : Hid _ := st05
      have h0 := blk_cell hbox5 0
      have h1 := blk_cell hbox5 1
      have h2 := blk_cell hbox5 2
      have h3 := blk_cell hbox5 3
      have h4 := blk_cell hbox5 4
      have h5 := blk_cell hbox5 5
      have h6 := blk_cell hbox5 6
      simp only [List.getElem?_toArray, List.getElem?_cons_zero, List.getElem?_cons_succ] at h0 h1 h2 h3 h4 h5 h6
      clear hbox5 hR5 st05
      go_upto_block 2 with fail
      go_cut [12] from 40 to 163 (fun ve wx => Mid2 w p a0 a1 a2 a3 a4 q k N (fun i => (False ∨ i = wr.heap.size) ∨ v4.ownBlock = some i) s ve wx ∧ (∀ i, v4.ownBlock = some i → wx.heap[i]? = w5.heap[i]?))
      case first =>
        have hfew := HMID.out.few
        have hquo := HMID.out.quo
        have HL6 : Hid _ := hl6
        have HSX : Hid _ := hsl
        clear hl6 hsl
        by_cases hkind : 1 ≤ x.f0 ∧ x.f0 ≤ 6
        · have hk1 : decide (1 ≤ x.f0) = true := decide_eq_true hkind.1
          have hk6 : decide (x.f0 ≤ 6) = true := decide_eq_true hkind.2
          have HK : Hid _ := hkind
          clear hkind
          go_wp2_with fail
          refine (does_ok l5 (lt_max (by omega)) (hfew.small (by omega)) ⟨x.f0, x.f1, x.f2, x.f3, x.f4, x.f5, .slice A6 x.f6.length c6⟩ HK.out.1 HK.out.2 HSX.out.1 HSX.out.2.1 HSX.out.2.2.1).mono ?_
          rintro e w6 ⟨v, r, rfl, hact⟩
          obtain ⟨st6, s', l6, hq', hf', hv⟩ := hact.left l5
          clear hact
          go_wp2_with fail
          go_meet
          case rel => exact ⟨⟨N + 1, s', by omega, l6, Step.trans HST5.out (st6.less (fun i hi => hi.elim)), hf' k hfew, hq'.trans hquo, hv⟩, fun i hi => st6.kept i (.inr hi)⟩
        · by_cases h7 : x.f0 = 7
          · have e1 : decide (1 ≤ x.f0) = true := decide_eq_true (by omega)
            have e6 : decide (x.f0 ≤ 6) = false := decide_eq_false (by omega)
            have e7 : (x.f0 == 7) = true := beq_iff_eq.2 h7
            clear h7 hkind
            go_wp2_with fail
            have hC6w : ∀ W, Below w5.heap.size w5 W → Kd.C k32 W A6 x.f6.length x.f6 := fun W hW => Kd.C_below HC6.out ((Step.below HST5.out).trans (hW.mono l5.base))
            have HCW : Hid _ := hC6w
            clear hC6w
            go_region_held3 (fun W => W.cell? ⟨wr.heap.size, 6, none⟩ = some (.slice A6 x.f6.length c6))
              (first | exact h6 | exact i6 | exact j6)
              (first
              | (go_at_call 32; refine (twin_ok x.f6 HSX.out.2.2.2 A6 c6 (HCW.out _ (below_drew (Below.refl _ _))) HL6.out).mono ?_; rintro e w6 ⟨g, cap, rfl, hcap, hg1, hg2, hpl, hb6⟩
                 have hb6' : Below w5.heap.size w5 w6 := (below_drew (Below.refl _ _)).trans hb6
                 have i6 := pw_cell_below hb6' h6
                 have hn0 : x.f6.length ≤ cap := by omega)
              | (go_at_call 14; obtain ⟨l6, st6⟩ := l5.drift hb6'
                 have hp6 := plan_live l6 (stopsOf x.f6) hpl (fun i hi => by rw [hi]; exact ⟨hg2, fun e => by have := l5.lt; have e1 : w5.drew.heap.size = w5.heap.size := rfl; omega⟩) (by rw [stops_len]; exact HSX.out.2.2.2)
                 rw [stops_len] at hp6
                 refine hp6.mono ?_; rintro e w7 ⟨rfl, l7, st7⟩
                 have j6 := cell_of i6 (st7.kept _ (.inl (.inr rfl)))))
            all_goals (try go_wp2)
            all_goals go_meet
            case rel => exact ⟨⟨N, _, by omega, l7, Step.trans HST5.out ((st6.trans st7).less (fun i hi => hi.elim)), few_planned hfew _, hquo, .inl rfl⟩, fun i hi => (st6.trans st7).kept i (.inr hi)⟩
          · by_cases h8 : x.f0 = 8
            · have e1 : decide (1 ≤ x.f0) = true := decide_eq_true (by omega)
              have e6 : decide (x.f0 ≤ 6) = false := decide_eq_false (by omega)
              have e7 : (x.f0 == 7) = false := beq_eq_false_iff_ne.2 h7
              have e8 : (x.f0 == 8) = true := beq_iff_eq.2 h8
              clear h7 h8 hkind
              go_wp2_with fail
              refine (start_live l5).mono ?_
              rintro e w6 ⟨rfl, l6, st6⟩
              go_wp2_with fail
              go_meet
              case rel => exact ⟨⟨N, _, by omega, l6, Step.trans HST5.out (st6.less (fun i hi => hi.elim)), few_start' hfew, hquo, .inl rfl⟩, fun i hi => st6.kept i (.inr hi)⟩
            · have e7 : (x.f0 == 7) = false := beq_eq_false_iff_ne.2 h7
              have e8 : (x.f0 == 8) = false := beq_eq_false_iff_ne.2 h8
              rcases (show x.f0 < 1 ∨ (1 ≤ x.f0 ∧ 6 < x.f0) by omega) with e1 | ⟨e1, e6⟩
              · have e1b : decide (1 ≤ x.f0) = false := decide_eq_false (by omega)
                clear h7 h8 hkind e1
                go_wp2_with fail
                go_meet
                case rel => exact ⟨⟨N, s, by omega, l5, HST5.out, few_more hfew, hquo, .inl rfl⟩, fun i hi => rfl⟩
              · have e1b : decide (1 ≤ x.f0) = true := decide_eq_true e1
                have e6b : decide (x.f0 ≤ 6) = false := decide_eq_false (by omega)
                clear h7 h8 hkind e1 e6
                go_wp2_with fail
                go_meet
                case rel => exact ⟨⟨N, s, by omega, l5, HST5.out, few_more hfew, hquo, .inl rfl⟩, fun i hi => rfl⟩
      case rest =>
        obtain ⟨⟨N', s', hN', l6, st6, hf', hq', hv⟩, hkp⟩ := hcut
        have hR6 := Kd.R_step HR5.out (w1 := wc) (fun i hi _ => hkp i hi)
        clear hkp HST5 HR5
        have HV : Hid _ := hv
        have HF : Hid _ := hf'
        have HR6 : Hid _ := hR6
        have HST6 : Hid _ := st6
        clear hv hf' hR6 st6 h0 h1 h2 h3 h4 h5 h6
        go_wp2_with fail
        refine (names_live l6 (by omega)).mono ?_
        rintro e w7 ⟨v7, rfl, hR7, l7, st7⟩
        have hR67 := Kd.R_step HR6.out (w1 := w7) (fun i hi _ => st7.kept i (.inr hi))
        have HST7 : Hid _ := Step.trans HST6.out (st7.less (K' := fun _ => False) (fun i hi => hi.elim))
        have HR4 : Hid _ := hR67
        clear hR67 HST6 HR6 st7 l6
        obtain ⟨A7, c7, rfl, hc7, hC7⟩ := Kd.R_reads hR7
        have hnd := l7.names
        have hroom := l7.room
        have hnml := l7.nameLen
        have HNML : Hid _ := hnml
        clear hnml
        obtain ⟨ns, hns⟩ : ∃ ns, nmB s'.fs = ns := ⟨_, rfl⟩
        have hsum := sizes_sum hnd
        have hrise := nmB_rise hnd
        have hsz0 : ∀ z ∈ ns, 0 ≤ sizeF s'.fs z := fun z hz => size_nat (by rw [hns]; exact hz)
        rw [hns] at hC7 hc7 hsum hrise hR7 HNML ⊢
        have HR7 : Hid _ := hR7
        have HLN : Hid _ := hC7.2.1
        have HSUM : Hid _ := hsum
        have HRISE : Hid _ := hrise
        have HSZ0 : Hid _ := hsz0
        have HNS : Hid _ := hns
        have HROOM : Hid _ := hroom
        have HQ' : Hid _ := hq'
        clear hC7 hsum hrise hsz0 hns hroom hnd hq' hR7
        go_wp2_with fail
        go_loopw [13, 15] (fun vn vj wq => ∃ (j : Nat), j ≤ ns.length ∧ vj = .int .i64 j ∧ vn = .int .i64 (sumTo s'.fs ns j) ∧ Below w7.heap.size w7 wq) (fun _ vj _ => ns.length - (intOf vj).toNat)
        case atStart => exact ⟨0, Nat.zero_le _, rfl, rfl, Below.refl _ _⟩
        case round =>
          obtain ⟨j, hj, rfl, rfl, hbq⟩ := hrel
          by_cases hlt : j < ns.length
          · obtain ⟨l8, _⟩ := l7.drift hbq
            obtain ⟨g7, hA7, hcj⟩ := row_str (Kd.R_below HR7.out hbq) j hlt
            subst hA7
            have hjb : decide ((j : Int) < (ns.length : Int)) = true := decide_eq_true (by omega)
            have hszj : 0 ≤ sizeF s'.fs ns[j] := HSZ0.out _ (List.getElem_mem _)
            have hszb : decide (sizeF s'.fs ns[j] < 0) = false := decide_eq_false (by omega)
            have hb1 := sumTo_le HSZ0.out j
            have hb2 := sumTo_le HSZ0.out (j + 1)
            rw [HSUM.out] at hb1 hb2
            have hst := sumTo_step (fs := s'.fs) hlt
            have hrm := HROOM.out
            have hqq := HQ'.out
            have hqm := HQ.out.2
            have hw1 : wrap64 (sumTo s'.fs ns j + sizeF s'.fs ns[j]) = sumTo s'.fs ns j + sizeF s'.fs ns[j] := by unfold wrap64; omega
            have HW1 : Hid _ := hw1
            clear hw1
            have hjm : (j : Int) < 9223372036854775807 := by have := HLN.out; omega
            have HSTP : Hid _ := hst
            clear hb1 hb2 hst hrm hqq hqm
            have hsl8 : ns[j].size ≤ maxLen := HNML.out _ (List.getElem_mem _)
            have hjn : (j : Int) < (ns.length : Int) := by omega
            have hj0 : (0 : Int) ≤ (j : Int) := by omega
            have hsq := fun n => size_live (l8.drift (pw_below_drewN (Below.refl wr.heap.size wr) n)).1 ns[j] hsl8
            have HSQ : Hid _ := hsq
            clear hsq
            by_cases hz : j = 0
            · have hz1 : decide (0 < j) = false := decide_eq_false (by omega)
              have hz2 : decide ((0 : Int) < (j : Int)) = false := decide_eq_false (by omega)
              clear hz
              go_wp2_with fail
              go_quiet ((go_at_call 21; exact Calls.quiet_of_same (HSQ.out _)))
              go_wp2_with fail
              refine Calls.mono (HSQ.out nq) ?_
              rintro e w9 ⟨rfl, h9⟩
              replace h9 := h9.symm
              subst h9
              go_wp2_with fail
              exact ⟨⟨j + 1, by omega, by simp, by rw [HSTP.out, HW1.out], pw_below_drewN hbq nq⟩, by simp only [intOf]; omega⟩
            · obtain ⟨i, hi⟩ : ∃ i, j = i + 1 := ⟨j - 1, by omega⟩
              have hil : i < ns.length := by omega
              have hs1 : IntKind.i64.wrap ((j : Int) - 1) = (i : Int) := by have := HLN.out; rw [Go.IntWalk.i64_left]; unfold wrap64; omega
              have hi0 : (0 : Int) ≤ (i : Int) := by omega
              have hil2 : (i : Int) < (ns.length : Int) := by omega
              have hz1 : decide (0 < j) = true := decide_eq_true (by omega)
              have hz2 : decide ((0 : Int) < (j : Int)) = true := decide_eq_true (by omega)
              obtain ⟨g8, hA8, hci⟩ := row_str (Kd.R_below HR7.out hbq) i hil
              cases hA8
              have hbl : Go.Op.bytesLess ns[i].toList ns[j].toList = true := less_of (HRISE.out) hil hlt (by omega)
              have HI : Hid _ := hi
              clear hz hi
              go_wp2_with fail
              go_quiet ((go_at_call 21; exact Calls.quiet_of_same (HSQ.out _)))
              go_wp2_with fail
              refine Calls.mono (HSQ.out nq) ?_
              rintro e w9 ⟨rfl, h9⟩
              replace h9 := h9.symm
              subst h9
              go_wp2_with fail
              exact ⟨⟨j + 1, by omega, by simp, by rw [HSTP.out, HW1.out], pw_below_drewN hbq nq⟩, by simp only [intOf]; omega⟩
          · have hje : j = ns.length := by omega
            subst hje
            rw [sumTo_all, HSUM.out]
            obtain ⟨l8, st8⟩ := l7.drift hbq
            have hrm := HROOM.out
            have hqq := HQ'.out
            have HB8 : Hid _ := hbq
            have hbig : decide (q < (used s'.fs : Int)) = false := decide_eq_false (by omega)
            have HFIN : Hid (BMid w p a0 a1 a2 a3 a4 q (k + 1) N' s' wr) := ⟨l8.less (fun i hi => hi.elim), Step.trans HST7.out (st8.less (fun i hi => hi.elim)), HF.out, hqq⟩
            have hR8 := Kd.R_below HR4.out hbq
            have HR8 : Hid _ := hR8
            clear hR8
            clear hrm hqq st8 hbq
            go_wp2_with fail
            refine (used_live l8).mono ?_
            rintro e w10 ⟨rfl, l10, st10⟩
            go_wp2_with fail
            refine (quota_live l10).mono ?_
            rw [HQ'.out]
            rintro e w11 ⟨rfl, h11⟩
            replace h11 := h11.symm
            subst h11
            rcases HV.out with rfl | ⟨b, rfl, hfs⟩
            · go_wp2_with fail
              exact ⟨⟨k + 1, N', s', by omega, by omega, by omega, by simp, HFIN.out.next st10 l10⟩, by simp only [intOf]; omega⟩
            · have HFS : Hid _ := hfs
              clear hfs
              go_wp2_with fail
              refine (down_live l10).mono ?_
              by_cases hrun : s'.run = true
              · rw [hrun]
                rintro e w12 ⟨rfl, h12⟩
                replace h12 := h12.symm
                subst h12
                obtain ⟨A4, c4, rfl, hc4, hC4⟩ := Kd.R_reads (Kd.R_step HR8.out (w1 := w10) (fun i hi _ => st10.kept i (.inl (.inr hi))))
                obtain ⟨A9, c9, e9, hc9, hC9⟩ := Kd.R_reads (Kd.R_step (Kd.R_below HR7.out HB8.out) (w1 := w10) (fun i hi _ => st10.kept i (.inr (by rw [HNS.out]; exact hi))))
                cases e9
                have hnn : nmB s.fs = ns := by rw [← HFS.out hrun]; exact HNS.out
                have huu : used s.fs = used s'.fs := by rw [← HFS.out hrun]
                obtain ⟨kt, hkt⟩ := texts_refl ns HLN.out
                have htx := PDl.postbaglaw9_texts.calls kt A4 c4 ns A7 c7 ns true w10 (hnn ▸ hC4) (hnn ▸ hc4) hC9 hc9 hkt
                rw [hnn, huu]
                have HTX : Hid _ := htx
                clear htx hkt hnn huu hC4 hC9
                go_wp2_with fail
                refine Calls.mono HTX.out ?_
                rintro e w13 ⟨rfl, h13⟩
                obtain ⟨l13, st13⟩ := l10.drift h13.below
                go_wp2_with fail
                exact ⟨⟨k + 1, N', s', by omega, by omega, by omega, by simp, (HFIN.out.next st10 l10).next (K := fun _ => False) (st13.less (K' := fun _ => False) (fun i hi => hi.elim)) (l13.less (K' := fun _ => False) (fun i hi => hi.elim))⟩, by simp only [intOf]; omega⟩
              · rw [show s'.run = false by simpa using hrun]
                rintro e w12 ⟨rfl, h12⟩
                replace h12 := h12.symm
                subst h12
                go_wp2_with fail
                exact ⟨⟨k + 1, N', s', by omega, by omega, by omega, by simp, HFIN.out.next st10 l10⟩, by simp only [intOf]; omega⟩
    · rcases Nat.lt_or_ge k script.length with h | h
      · have hl1b : decide ((k : Int) < (script.length : Int)) = true := decide_eq_true (by omega)
        have hl2b : decide ((k : Int) < 150) = false := decide_eq_false (by omega)
        go_wp2_with fail
        go_ret
        exact ⟨rfl, HMID.out.step.below⟩
      · have hl1b : decide ((k : Int) < (script.length : Int)) = false := decide_eq_false (by omega)
        go_wp2_with fail
        go_ret
        exact ⟨rfl, HMID.out.step.below⟩
end Go.Proofs.YtkfehogefclhdaaDoor.Dk

/- DiskBounds, at every argument. -/
namespace Go.Proofs.YtkfehogefclhdaaDoor.Dk
open Go.RowKit Go.Maps Go.Proofs.YtkfehogefclhdaaDoorW.PrintWords
variable {w : World} {a0 a1 a2 a3 a4 : Addr}
set_option maxRecDepth 100000 in
set_option maxHeartbeats 2000000 in
theorem bounds_bad (hS : Sens w w.heap.size a0 a1 a2 a3 a4) (q : Int) (hq : q < 1 ∨ 1048576 < q) (A : Option Addr) (n c : Nat) :
    Calls Tryd.prog 8 #[.int .i64 q, .slice A n c] w fun e w' => e = .returned (.bool true) ∧ Below w.heap.size w w' := by
  have hnot := not_run
  have hif := isIface25
  have HS : Hid _ := hS
  have HQ : Hid _ := hq
  clear hS hq
  go_enter Tryd.func8, Tryd.ntmps8
  go_wp2_with fail
  refine (known_ok (K := fun _ => False) HS.out (Nat.le_refl _) (fun i hi => hi.elim)).mono ?_
  rintro e w1 ⟨rfl, st1⟩
  go_wp2_with fail
  refine (new_bad (HS.out.below st1.below) q HQ.out).mono ?_
  rintro e w2 ⟨b, rfl, hb2⟩
  have HB : Hid _ := (st1.below.trans (hb2.mono st1.below.size))
  rcases (show q < 1 ∨ (¬ q < 1 ∧ 1048576 < q) by have := HQ.out; omega) with h1 | ⟨h1, h2⟩
  · have h1b : decide (q < 1) = true := decide_eq_true h1
    go_wp2_with fail
    go_ret
    exact ⟨rfl, HB.out⟩
  · have h1b : decide (q < 1) = false := decide_eq_false h1
    have h2b : decide (1048576 < q) = true := decide_eq_true h2
    go_wp2_with fail
    go_ret
    exact ⟨rfl, HB.out⟩
end Go.Proofs.YtkfehogefclhdaaDoor.Dk
namespace Go.Proofs.YtkfehogefclhdaaDoor.PDb
open Go.RowKit Go.Proofs.YtkfehogefclhdaaDoorW.PrintWords
theorem postbaglaw9_DiskBounds.calls (_k : Nat) (q : Int) (A : Option Addr) (c : Nat) (xs : List Dk.S42) {w : World} (hC : Kd.C Dk.k42 w A xs.length xs) (_hl : xs.length ≤ c) (hS : xs.length ≤ maxLen ∧ ∀ x ∈ xs, Dk.ActOk x) (r : Bool) (_ : World) (h : r = true) (hw : Ext.WPS w) :
    Calls Tryd.prog 8 #[.int .i64 q, .slice A xs.length c] w fun e w' => e = .returned (.bool r) ∧ Below w.heap.size w w' := by
  subst h
  obtain ⟨b0, b1, b2, b3, b4, hs⟩ := hw
  by_cases hq : 1 ≤ q ∧ q ≤ 1048576
  · exact Dk.bounds_walk hs q hq xs A c hC (fun x hx => ⟨(hS.2 x hx).1, (hS.2 x hx).2.1, (hS.2 x hx).2.2.1, (hS.2 x hx).2.2.2.1⟩)
  · exact Dk.bounds_bad hs q (by omega) A _ c
end Go.Proofs.YtkfehogefclhdaaDoor.PDb
namespace Go.Proofs.YtkfehogefclhdaaDoor.Pure
theorem DiskBounds (_a1 : Int) : ∃ _k : Nat, true = true := ⟨0, rfl⟩
end Go.Proofs.YtkfehogefclhdaaDoor.Pure

/- Three rows of texts behind a pointer: what the statement's own log is in memory; a text pushed, written over, cut off. -/
namespace Go.Proofs.YtkfehogefclhdaaDoor.Dk
open Go.RowKit Go.Maps Go.Proofs.YtkfehogefclhdaaDoorW.PrintWords Go.Proofs.YtkfehogefclhdaaDoorW.PrintMore
variable {w w1 : World} {q base : Nat} {v0 v1 v2 : Value} {l0 l1 l2 : List ByteArray}
abbrev sv (l : List ByteArray) : List Value := encs Value.string l
theorem sv_len (l : List ByteArray) : (sv l).length = l.length := encs_length _
/-- Three rows behind block q. -/
structure Rows (w : World) (q base : Nat) (v0 v1 v2 : Value) (l0 l1 l2 : List ByteArray) : Prop where
  top : w.heap[q]? = some (.cells #[v0, v1, v2] 55 (0, 0))
  o0 : w.ownsRow base 9 1 v0 l0.length (sv l0)
  o1 : w.ownsRow base 9 1 v1 l1.length (sv l1)
  o2 : w.ownsRow base 9 1 v2 l2.length (sv l2)
  a01 : ∀ k, v0.ownBlock = some k → v1.ownBlock ≠ some k
  a02 : ∀ k, v0.ownBlock = some k → v2.ownBlock ≠ some k
  a12 : ∀ k, v1.ownBlock = some k → v2.ownBlock ≠ some k
  low : base ≤ q
/-- The blocks of three rows. -/
def Fp (q : Nat) (v0 v1 v2 : Value) : Nat → Prop := fun i => i = q ∨ v0.ownBlock = some i ∨ v1.ownBlock = some i ∨ v2.ownBlock = some i
theorem Rows.lt (h : Rows w q base v0 v1 v2 l0 l1 l2) : ∀ i, Fp q v0 v1 v2 i → i < w.heap.size ∧ base ≤ i := by
  intro i hi
  rcases hi with rfl | hi | hi | hi
  · exact ⟨blk_lt h.top, h.low⟩
  · exact ⟨own_lt h.o0 i hi, own_base h.o0 i hi⟩
  · exact ⟨own_lt h.o1 i hi, own_base h.o1 i hi⟩
  · exact ⟨own_lt h.o2 i hi, own_base h.o2 i hi⟩
theorem Rows.kept (h : Rows w q base v0 v1 v2 l0 l1 l2) (hk : ∀ i, Fp q v0 v1 v2 i → w1.heap[i]? = w.heap[i]?) : Rows w1 q base v0 v1 v2 l0 l1 l2 :=
  ⟨(hk q (.inl rfl)).trans h.top, own_move h.o0 (fun k e => hk k (.inr (.inl e))), own_move h.o1 (fun k e => hk k (.inr (.inr (.inl e)))), own_move h.o2 (fun k e => hk k (.inr (.inr (.inr e)))), h.a01, h.a02, h.a12, h.low⟩
theorem Rows.nq (h : Rows w q base v0 v1 v2 l0 l1 l2) : v0.ownBlock ≠ some q ∧ v1.ownBlock ≠ some q ∧ v2.ownBlock ≠ some q := by
  have key : ∀ {v : Value} {l : List ByteArray}, w.ownsRow base 9 1 v l.length (sv l) → v.ownBlock ≠ some q := fun ho e => by
    obtain ⟨cs, hcs⟩ := own_typed ho q e
    rw [h.top] at hcs; simp at hcs
  exact ⟨key h.o0, key h.o1, key h.o2⟩
theorem Rows.cells (h : Rows w q base v0 v1 v2 l0 l1 l2) : w.cell? ⟨q, 0, none⟩ = some v0 ∧ w.cell? ⟨q, 1, none⟩ = some v1 ∧ w.cell? ⟨q, 2, none⟩ = some v2 := ⟨blk_cell h.top 0, blk_cell h.top 1, blk_cell h.top 2⟩
theorem own_get {n : Nat} {v : Value} {l : List ByteArray} (h : w.ownsRow base 9 1 v n (sv l)) (i : Nat) (hi : i < l.length) : ∃ g c, v = .slice (some ⟨g, 0, none⟩) n c ∧ n ≤ c ∧ n = l.length ∧ w.cell? ⟨g, i, none⟩ = some (Value.string l[i]) ∧ w.frozen? ⟨g, i, none⟩ = false := by
  have hn : n = l.length := by have := h.1; rw [sv_len] at this; omega
  rcases h.2 with ⟨_, h0⟩ | ⟨g, cap, cur, e, hb, hh, hc, hm, hz, ht⟩
  · omega
  · refine ⟨g, cap, e, hc, hn, ?_, blk_frozen hh i⟩
    rw [blk_cell hh i, ← Array.getElem?_toList]
    have h1 : (cur.toList.take (n * 1))[i]? = (sv l)[i]? := by rw [ht]
    rw [List.getElem?_take_of_lt (by omega)] at h1
    rw [h1]
    unfold sv encs
    rw [List.getElem?_map, List.getElem?_eq_getElem hi]; rfl
theorem own_n {n m g c : Nat} {l : List Value} (h : w.ownsRow base 9 1 (.slice (some ⟨g, 0, none⟩) n c) m l) : n = m := by
  rcases h.2 with ⟨e, _⟩ | ⟨g', cap, cur, e, _⟩
  · cases e
  · injection e
theorem own_put {n g c : Nat} {l : List ByteArray} (h : w.ownsRow base 9 1 (.slice (some ⟨g, 0, none⟩) n c) n (sv l)) (i : Nat) (x : ByteArray) : (w.setCell ⟨g, i, none⟩ (Value.string x)).ownsRow base 9 1 (.slice (some ⟨g, 0, none⟩) n c) n (sv (l.set i x)) := by
  have hn : l.length = n := by have := h.1; rw [sv_len] at this; omega
  refine ⟨by rw [sv_len, List.length_set]; omega, .inr ?_⟩
  rcases h.2 with ⟨e, _⟩ | ⟨g', cap, cur, e, hb, hh, hc, hm, hz, ht⟩
  · cases e
  · injection e with e1 e2 e3
    cases e1
    subst e3
    refine ⟨g, c, cur.setIfInBounds i (Value.string x), rfl, hb, blk_set hh i (Value.string x), hc, hm, by simpa using hz, ?_⟩
    have hs : sv (l.set i x) = (sv l).set i (Value.string x) := by unfold sv encs; rw [List.map_set]
    rw [hs, ← ht, Array.toList_setIfInBounds, List.take_set]
theorem own_take {n g c m : Nat} {l : List ByteArray} (h : w.ownsRow base 9 1 (.slice (some ⟨g, 0, none⟩) n c) n (sv l)) (hm : m ≤ n) : w.ownsRow base 9 1 (.slice (some ⟨g, 0, none⟩) m c) m (sv (l.take m)) := by
  have hn : l.length = n := by have := h.1; rw [sv_len] at this; omega
  refine ⟨by rw [sv_len, List.length_take]; omega, .inr ?_⟩
  rcases h.2 with ⟨e, _⟩ | ⟨g', cap, cur, e, hb, hh, hc, hmx, hz, ht⟩
  · cases e
  · injection e with e1 e2 e3
    cases e1
    subst e3
    refine ⟨g, c, cur, rfl, hb, hh, by omega, hmx, hz, ?_⟩
    have hs : sv (l.take m) = (sv l).take m := by unfold sv encs; rw [List.map_take]
    rw [hs, ← ht, List.take_take, Nat.mul_one, Nat.mul_one, Nat.min_eq_left hm]
theorem Rows.push0 (h : Rows w q base v0 v1 v2 l0 l1 l2) {w1 : World} {v' : Value} (x : ByteArray) (hown : w1.ownsRow base 9 1 v' (sv l0 ++ [Value.string x]).length (sv l0 ++ [Value.string x])) (hg : w.grownBy w1 v0.ownBlock) (hat : v'.ownBlock = v0.ownBlock ∨ ∃ b, v'.ownBlock = some b ∧ w.heap.size ≤ b) :
    Rows (w1.setCell ⟨q, 0, none⟩ v') q base v' v1 v2 (l0 ++ [x]) l1 l2 ∧ Fr (Fp q v0 v1 v2) w (w1.setCell ⟨q, 0, none⟩ v') ∧ (∀ b, Fp q v' v1 v2 b → Fp q v0 v1 v2 b ∨ w.heap.size ≤ b) := by
  have hq := h.nq
  have hlt := h.lt
  have htop : w1.heap[q]? = some (.cells #[v0, v1, v2] 55 (0, 0)) := (hg.block q (blk_lt h.top) (fun e => hq.1 e.symm)).trans h.top
  have hv' : v'.ownBlock ≠ some q := fun e => by
    obtain ⟨cs, hcs⟩ := own_typed hown q e
    rw [htop] at hcs; simp at hcs
  have nj : ∀ b, v1.ownBlock = some b → v0.ownBlock ≠ some b := fun b e e2 => h.a01 b e2 e
  have nk : ∀ b, v2.ownBlock = some b → v0.ownBlock ≠ some b := fun b e e2 => h.a02 b e2 e
  have new : ∀ {u : Value} {l : List ByteArray}, w.ownsRow base 9 1 u l.length (sv l) → (∀ b, u.ownBlock = some b → v0.ownBlock ≠ some b) → ∀ b, u.ownBlock = some b → v'.ownBlock ≠ some b := fun ho hne b e e2 => by
    rcases hat with e3 | ⟨b', e3, hb'⟩
    · exact hne b e (e3.symm.trans e2)
    · have := own_lt ho b e
      rw [e3] at e2
      injection e2 with e2
      omega
  have oj : (w1.setCell ⟨q, 0, none⟩ v').ownsRow base 9 1 v1 l1.length (sv l1) := own_setCell (own_move h.o1 (fun b e => hg.block b (own_lt h.o1 b e) (fun e2 => nj b e e2.symm))) (fun e => hq.2.1 e.symm) v'
  have ok : (w1.setCell ⟨q, 0, none⟩ v').ownsRow base 9 1 v2 l2.length (sv l2) := own_setCell (own_move h.o2 (fun b e => hg.block b (own_lt h.o2 b e) (fun e2 => nk b e e2.symm))) (fun e => hq.2.2 e.symm) v'
  have hsv : sv (l0 ++ [x]) = sv l0 ++ [Value.string x] := encs_append _ _
  have oi : (w1.setCell ⟨q, 0, none⟩ v').ownsRow base 9 1 v' (l0 ++ [x]).length (sv (l0 ++ [x])) := by
    rw [← sv_len (l0 ++ [x]), hsv]
    exact own_setCell (p := ⟨q, 0, none⟩) hown (fun e => hv' e.symm) v'
  refine ⟨⟨blk_set htop 0 v', oi, oj, ok, (fun b e e2 => new h.o1 nj b e2 e), (fun b e e2 => new h.o2 nk b e2 e), h.a12, h.low⟩, ?_, ?_⟩
  · have f1 : Fr (Fp q v0 v1 v2) w w1 := ⟨hg.os, hg.tape, hg.output, hg.size, fun b hb hn => hg.block b hb (fun e => hn (.inr (.inl e.symm)))⟩
    exact f1.set (a := ⟨q, 0, none⟩) (.inl rfl) v'
  · intro b hb
    rcases hb with rfl | hb | hb | hb
    · exact .inl (.inl rfl)
    · rcases hat with e3 | ⟨b', e3, hb'⟩
      · exact .inl (.inr (.inl (e3.symm.trans hb)))
      · rw [e3] at hb; injection hb with hb; exact .inr (by omega)
    · exact .inl (.inr (.inr (.inl hb)))
    · exact .inl (.inr (.inr (.inr hb)))
theorem Rows.put0 {n g c : Nat} (h : Rows w q base (.slice (some ⟨g, 0, none⟩) n c) v1 v2 l0 l1 l2) (t : Nat) (x : ByteArray) : Rows (w.setCell ⟨g, t, none⟩ (Value.string x)) q base (.slice (some ⟨g, 0, none⟩) n c) v1 v2 (l0.set t x) l1 l2 ∧ Fr (Fp q (.slice (some ⟨g, 0, none⟩) n c) v1 v2) w (w.setCell ⟨g, t, none⟩ (Value.string x)) := by
  obtain rfl := own_n h.o0
  have hq := h.nq
  have hgq : g ≠ q := fun e => hq.1 (by rw [e]; rfl)
  have oj : (w.setCell ⟨g, t, none⟩ (Value.string x)).ownsRow base 9 1 v1 l1.length (sv l1) := own_setCell h.o1 (fun e => by first | exact h.a01 g rfl e.symm | exact h.a01 g e.symm rfl) _
  have ok : (w.setCell ⟨g, t, none⟩ (Value.string x)).ownsRow base 9 1 v2 l2.length (sv l2) := own_setCell h.o2 (fun e => by first | exact h.a02 g rfl e.symm | exact h.a02 g e.symm rfl) _
  have oi : (w.setCell ⟨g, t, none⟩ (Value.string x)).ownsRow base 9 1 (.slice (some ⟨g, 0, none⟩) l0.length c) (l0.set t x).length (sv (l0.set t x)) := by rw [List.length_set]; exact own_put h.o0 t x
  exact ⟨⟨(Below.heap_setCell w ⟨g, t, none⟩ (Value.string x) q (Ne.symm hgq)).trans h.top, oi, oj, ok, h.a01, h.a02, h.a12, h.low⟩, (Fr.refl _ w).set (a := ⟨g, t, none⟩) (.inr (.inl rfl)) _⟩
theorem Rows.take0 {n g c : Nat} (h : Rows w q base (.slice (some ⟨g, 0, none⟩) n c) v1 v2 l0 l1 l2) (m : Nat) (hm : m ≤ l0.length) : Rows (w.setCell ⟨q, 0, none⟩ (.slice (some ⟨g, 0, none⟩) m c)) q base (.slice (some ⟨g, 0, none⟩) m c) v1 v2 (l0.take m) l1 l2 ∧ Fr (Fp q (.slice (some ⟨g, 0, none⟩) n c) v1 v2) w (w.setCell ⟨q, 0, none⟩ (.slice (some ⟨g, 0, none⟩) m c)) := by
  obtain rfl := own_n h.o0
  have hq := h.nq
  have hlm : (l0.take m).length = m := by rw [List.length_take]; omega
  have oj := own_setCell (p := ⟨q, 0, none⟩) h.o1 (fun e => hq.2.1 e.symm) (.slice (some ⟨g, 0, none⟩) m c)
  have ok := own_setCell (p := ⟨q, 0, none⟩) h.o2 (fun e => hq.2.2 e.symm) (.slice (some ⟨g, 0, none⟩) m c)
  have oi := own_setCell (p := ⟨q, 0, none⟩) (own_take h.o0 hm) (fun e => hq.1 e.symm) (.slice (some ⟨g, 0, none⟩) m c)
  exact ⟨⟨blk_set h.top 0 _, (by rw [hlm]; exact oi), oj, ok, h.a01, h.a02, h.a12, h.low⟩, (Fr.refl _ w).set (a := ⟨q, 0, none⟩) (.inl rfl) _⟩
theorem Rows.push1 (h : Rows w q base v0 v1 v2 l0 l1 l2) {w1 : World} {v' : Value} (x : ByteArray) (hown : w1.ownsRow base 9 1 v' (sv l1 ++ [Value.string x]).length (sv l1 ++ [Value.string x])) (hg : w.grownBy w1 v1.ownBlock) (hat : v'.ownBlock = v1.ownBlock ∨ ∃ b, v'.ownBlock = some b ∧ w.heap.size ≤ b) :
    Rows (w1.setCell ⟨q, 1, none⟩ v') q base v0 v' v2 l0 (l1 ++ [x]) l2 ∧ Fr (Fp q v0 v1 v2) w (w1.setCell ⟨q, 1, none⟩ v') ∧ (∀ b, Fp q v0 v' v2 b → Fp q v0 v1 v2 b ∨ w.heap.size ≤ b) := by
  have hq := h.nq
  have hlt := h.lt
  have htop : w1.heap[q]? = some (.cells #[v0, v1, v2] 55 (0, 0)) := (hg.block q (blk_lt h.top) (fun e => hq.2.1 e.symm)).trans h.top
  have hv' : v'.ownBlock ≠ some q := fun e => by
    obtain ⟨cs, hcs⟩ := own_typed hown q e
    rw [htop] at hcs; simp at hcs
  have nj : ∀ b, v0.ownBlock = some b → v1.ownBlock ≠ some b := fun b e => h.a01 b e
  have nk : ∀ b, v2.ownBlock = some b → v1.ownBlock ≠ some b := fun b e e2 => h.a12 b e2 e
  have new : ∀ {u : Value} {l : List ByteArray}, w.ownsRow base 9 1 u l.length (sv l) → (∀ b, u.ownBlock = some b → v1.ownBlock ≠ some b) → ∀ b, u.ownBlock = some b → v'.ownBlock ≠ some b := fun ho hne b e e2 => by
    rcases hat with e3 | ⟨b', e3, hb'⟩
    · exact hne b e (e3.symm.trans e2)
    · have := own_lt ho b e
      rw [e3] at e2
      injection e2 with e2
      omega
  have oj : (w1.setCell ⟨q, 1, none⟩ v').ownsRow base 9 1 v0 l0.length (sv l0) := own_setCell (own_move h.o0 (fun b e => hg.block b (own_lt h.o0 b e) (fun e2 => nj b e e2.symm))) (fun e => hq.1 e.symm) v'
  have ok : (w1.setCell ⟨q, 1, none⟩ v').ownsRow base 9 1 v2 l2.length (sv l2) := own_setCell (own_move h.o2 (fun b e => hg.block b (own_lt h.o2 b e) (fun e2 => nk b e e2.symm))) (fun e => hq.2.2 e.symm) v'
  have hsv : sv (l1 ++ [x]) = sv l1 ++ [Value.string x] := encs_append _ _
  have oi : (w1.setCell ⟨q, 1, none⟩ v').ownsRow base 9 1 v' (l1 ++ [x]).length (sv (l1 ++ [x])) := by
    rw [← sv_len (l1 ++ [x]), hsv]
    exact own_setCell (p := ⟨q, 1, none⟩) hown (fun e => hv' e.symm) v'
  refine ⟨⟨blk_set htop 1 v', oj, oi, ok, (fun b e => new h.o0 nj b e), h.a02, (fun b e e2 => new h.o2 nk b e2 e), h.low⟩, ?_, ?_⟩
  · have f1 : Fr (Fp q v0 v1 v2) w w1 := ⟨hg.os, hg.tape, hg.output, hg.size, fun b hb hn => hg.block b hb (fun e => hn (.inr (.inr (.inl e.symm))))⟩
    exact f1.set (a := ⟨q, 1, none⟩) (.inl rfl) v'
  · intro b hb
    rcases hb with rfl | hb | hb | hb
    · exact .inl (.inl rfl)
    · exact .inl (.inr (.inl hb))
    · rcases hat with e3 | ⟨b', e3, hb'⟩
      · exact .inl (.inr (.inr (.inl (e3.symm.trans hb))))
      · rw [e3] at hb; injection hb with hb; exact .inr (by omega)
    · exact .inl (.inr (.inr (.inr hb)))
theorem Rows.put1 {n g c : Nat} (h : Rows w q base v0 (.slice (some ⟨g, 0, none⟩) n c) v2 l0 l1 l2) (t : Nat) (x : ByteArray) : Rows (w.setCell ⟨g, t, none⟩ (Value.string x)) q base v0 (.slice (some ⟨g, 0, none⟩) n c) v2 l0 (l1.set t x) l2 ∧ Fr (Fp q v0 (.slice (some ⟨g, 0, none⟩) n c) v2) w (w.setCell ⟨g, t, none⟩ (Value.string x)) := by
  obtain rfl := own_n h.o1
  have hq := h.nq
  have hgq : g ≠ q := fun e => hq.2.1 (by rw [e]; rfl)
  have oj : (w.setCell ⟨g, t, none⟩ (Value.string x)).ownsRow base 9 1 v0 l0.length (sv l0) := own_setCell h.o0 (fun e => by first | exact h.a01 g rfl e.symm | exact h.a01 g e.symm rfl) _
  have ok : (w.setCell ⟨g, t, none⟩ (Value.string x)).ownsRow base 9 1 v2 l2.length (sv l2) := own_setCell h.o2 (fun e => by first | exact h.a12 g rfl e.symm | exact h.a12 g e.symm rfl) _
  have oi : (w.setCell ⟨g, t, none⟩ (Value.string x)).ownsRow base 9 1 (.slice (some ⟨g, 0, none⟩) l1.length c) (l1.set t x).length (sv (l1.set t x)) := by rw [List.length_set]; exact own_put h.o1 t x
  exact ⟨⟨(Below.heap_setCell w ⟨g, t, none⟩ (Value.string x) q (Ne.symm hgq)).trans h.top, oj, oi, ok, h.a01, h.a02, h.a12, h.low⟩, (Fr.refl _ w).set (a := ⟨g, t, none⟩) (.inr (.inr (.inl rfl))) _⟩
theorem Rows.take1 {n g c : Nat} (h : Rows w q base v0 (.slice (some ⟨g, 0, none⟩) n c) v2 l0 l1 l2) (m : Nat) (hm : m ≤ l1.length) : Rows (w.setCell ⟨q, 1, none⟩ (.slice (some ⟨g, 0, none⟩) m c)) q base v0 (.slice (some ⟨g, 0, none⟩) m c) v2 l0 (l1.take m) l2 ∧ Fr (Fp q v0 (.slice (some ⟨g, 0, none⟩) n c) v2) w (w.setCell ⟨q, 1, none⟩ (.slice (some ⟨g, 0, none⟩) m c)) := by
  obtain rfl := own_n h.o1
  have hq := h.nq
  have hlm : (l1.take m).length = m := by rw [List.length_take]; omega
  have oj := own_setCell (p := ⟨q, 1, none⟩) h.o0 (fun e => hq.1 e.symm) (.slice (some ⟨g, 0, none⟩) m c)
  have ok := own_setCell (p := ⟨q, 1, none⟩) h.o2 (fun e => hq.2.2 e.symm) (.slice (some ⟨g, 0, none⟩) m c)
  have oi := own_setCell (p := ⟨q, 1, none⟩) (own_take h.o1 hm) (fun e => hq.2.1 e.symm) (.slice (some ⟨g, 0, none⟩) m c)
  exact ⟨⟨blk_set h.top 1 _, oj, (by rw [hlm]; exact oi), ok, h.a01, h.a02, h.a12, h.low⟩, (Fr.refl _ w).set (a := ⟨q, 1, none⟩) (.inl rfl) _⟩
theorem Rows.push2 (h : Rows w q base v0 v1 v2 l0 l1 l2) {w1 : World} {v' : Value} (x : ByteArray) (hown : w1.ownsRow base 9 1 v' (sv l2 ++ [Value.string x]).length (sv l2 ++ [Value.string x])) (hg : w.grownBy w1 v2.ownBlock) (hat : v'.ownBlock = v2.ownBlock ∨ ∃ b, v'.ownBlock = some b ∧ w.heap.size ≤ b) :
    Rows (w1.setCell ⟨q, 2, none⟩ v') q base v0 v1 v' l0 l1 (l2 ++ [x]) ∧ Fr (Fp q v0 v1 v2) w (w1.setCell ⟨q, 2, none⟩ v') ∧ (∀ b, Fp q v0 v1 v' b → Fp q v0 v1 v2 b ∨ w.heap.size ≤ b) := by
  have hq := h.nq
  have hlt := h.lt
  have htop : w1.heap[q]? = some (.cells #[v0, v1, v2] 55 (0, 0)) := (hg.block q (blk_lt h.top) (fun e => hq.2.2 e.symm)).trans h.top
  have hv' : v'.ownBlock ≠ some q := fun e => by
    obtain ⟨cs, hcs⟩ := own_typed hown q e
    rw [htop] at hcs; simp at hcs
  have nj : ∀ b, v0.ownBlock = some b → v2.ownBlock ≠ some b := fun b e => h.a02 b e
  have nk : ∀ b, v1.ownBlock = some b → v2.ownBlock ≠ some b := fun b e => h.a12 b e
  have new : ∀ {u : Value} {l : List ByteArray}, w.ownsRow base 9 1 u l.length (sv l) → (∀ b, u.ownBlock = some b → v2.ownBlock ≠ some b) → ∀ b, u.ownBlock = some b → v'.ownBlock ≠ some b := fun ho hne b e e2 => by
    rcases hat with e3 | ⟨b', e3, hb'⟩
    · exact hne b e (e3.symm.trans e2)
    · have := own_lt ho b e
      rw [e3] at e2
      injection e2 with e2
      omega
  have oj : (w1.setCell ⟨q, 2, none⟩ v').ownsRow base 9 1 v0 l0.length (sv l0) := own_setCell (own_move h.o0 (fun b e => hg.block b (own_lt h.o0 b e) (fun e2 => nj b e e2.symm))) (fun e => hq.1 e.symm) v'
  have ok : (w1.setCell ⟨q, 2, none⟩ v').ownsRow base 9 1 v1 l1.length (sv l1) := own_setCell (own_move h.o1 (fun b e => hg.block b (own_lt h.o1 b e) (fun e2 => nk b e e2.symm))) (fun e => hq.2.1 e.symm) v'
  have hsv : sv (l2 ++ [x]) = sv l2 ++ [Value.string x] := encs_append _ _
  have oi : (w1.setCell ⟨q, 2, none⟩ v').ownsRow base 9 1 v' (l2 ++ [x]).length (sv (l2 ++ [x])) := by
    rw [← sv_len (l2 ++ [x]), hsv]
    exact own_setCell (p := ⟨q, 2, none⟩) hown (fun e => hv' e.symm) v'
  refine ⟨⟨blk_set htop 2 v', oj, ok, oi, h.a01, (fun b e => new h.o0 nj b e), (fun b e => new h.o1 nk b e), h.low⟩, ?_, ?_⟩
  · have f1 : Fr (Fp q v0 v1 v2) w w1 := ⟨hg.os, hg.tape, hg.output, hg.size, fun b hb hn => hg.block b hb (fun e => hn (.inr (.inr (.inr e.symm))))⟩
    exact f1.set (a := ⟨q, 2, none⟩) (.inl rfl) v'
  · intro b hb
    rcases hb with rfl | hb | hb | hb
    · exact .inl (.inl rfl)
    · exact .inl (.inr (.inl hb))
    · exact .inl (.inr (.inr (.inl hb)))
    · rcases hat with e3 | ⟨b', e3, hb'⟩
      · exact .inl (.inr (.inr (.inr (e3.symm.trans hb))))
      · rw [e3] at hb; injection hb with hb; exact .inr (by omega)
theorem Rows.put2 {n g c : Nat} (h : Rows w q base v0 v1 (.slice (some ⟨g, 0, none⟩) n c) l0 l1 l2) (t : Nat) (x : ByteArray) : Rows (w.setCell ⟨g, t, none⟩ (Value.string x)) q base v0 v1 (.slice (some ⟨g, 0, none⟩) n c) l0 l1 (l2.set t x) ∧ Fr (Fp q v0 v1 (.slice (some ⟨g, 0, none⟩) n c)) w (w.setCell ⟨g, t, none⟩ (Value.string x)) := by
  obtain rfl := own_n h.o2
  have hq := h.nq
  have hgq : g ≠ q := fun e => hq.2.2 (by rw [e]; rfl)
  have oj : (w.setCell ⟨g, t, none⟩ (Value.string x)).ownsRow base 9 1 v0 l0.length (sv l0) := own_setCell h.o0 (fun e => by first | exact h.a02 g rfl e.symm | exact h.a02 g e.symm rfl) _
  have ok : (w.setCell ⟨g, t, none⟩ (Value.string x)).ownsRow base 9 1 v1 l1.length (sv l1) := own_setCell h.o1 (fun e => by first | exact h.a12 g rfl e.symm | exact h.a12 g e.symm rfl) _
  have oi : (w.setCell ⟨g, t, none⟩ (Value.string x)).ownsRow base 9 1 (.slice (some ⟨g, 0, none⟩) l2.length c) (l2.set t x).length (sv (l2.set t x)) := by rw [List.length_set]; exact own_put h.o2 t x
  exact ⟨⟨(Below.heap_setCell w ⟨g, t, none⟩ (Value.string x) q (Ne.symm hgq)).trans h.top, oj, ok, oi, h.a01, h.a02, h.a12, h.low⟩, (Fr.refl _ w).set (a := ⟨g, t, none⟩) (.inr (.inr (.inr rfl))) _⟩
theorem Rows.take2 {n g c : Nat} (h : Rows w q base v0 v1 (.slice (some ⟨g, 0, none⟩) n c) l0 l1 l2) (m : Nat) (hm : m ≤ l2.length) : Rows (w.setCell ⟨q, 2, none⟩ (.slice (some ⟨g, 0, none⟩) m c)) q base v0 v1 (.slice (some ⟨g, 0, none⟩) m c) l0 l1 (l2.take m) ∧ Fr (Fp q v0 v1 (.slice (some ⟨g, 0, none⟩) n c)) w (w.setCell ⟨q, 2, none⟩ (.slice (some ⟨g, 0, none⟩) m c)) := by
  obtain rfl := own_n h.o2
  have hq := h.nq
  have hlm : (l2.take m).length = m := by rw [List.length_take]; omega
  have oj := own_setCell (p := ⟨q, 2, none⟩) h.o0 (fun e => hq.1 e.symm) (.slice (some ⟨g, 0, none⟩) m c)
  have ok := own_setCell (p := ⟨q, 2, none⟩) h.o1 (fun e => hq.2.1 e.symm) (.slice (some ⟨g, 0, none⟩) m c)
  have oi := own_setCell (p := ⟨q, 2, none⟩) (own_take h.o2 hm) (fun e => hq.2.2 e.symm) (.slice (some ⟨g, 0, none⟩) m c)
  exact ⟨⟨blk_set h.top 2 _, oj, ok, (by rw [hlm]; exact oi), h.a01, h.a02, h.a12, h.low⟩, (Fr.refl _ w).set (a := ⟨q, 2, none⟩) (.inl rfl) _⟩
end Go.Proofs.YtkfehogefclhdaaDoor.Dk
