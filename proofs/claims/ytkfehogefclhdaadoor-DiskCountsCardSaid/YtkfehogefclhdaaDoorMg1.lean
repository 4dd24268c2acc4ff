/- Contracts of the functions that the statement reaches, and plain lemmas: DkNewD, DkPlan, DkKnown, DkLive, DkKnow, DkSeq, DkLaw, PDrx, DkTrunc, DkTrunM, DkTru, DkDoes, DkKinds, DkActs, DkCounts, PDcx. -/
import Derived.Test.YtkfehogefclhdaaDoorMg0
import Derived.Deep.AppendLies
import Derived.Deep.RegionLaw
import Derived.Stop.IfaceNil
import Derived.Stop.LaidTwo
import Derived.Deep.QuietTactic
import Derived.BigQuiet
import Derived.Test.YtkfehogefclhdaaDoorWWords
/- New and Start, by their contracts. -/
namespace Go.Proofs.YtkfehogefclhdaaDoor.Dk
open Go.RowKit Go.Maps Go.Proofs.YtkfehogefclhdaaDoorW.PrintWords Go.Proofs.YtkfehogefclhdaaDoorW.PrintMore
variable {N : Nat} {w : World} {p : Nat} {F : Nat → Prop} {s : St} {m : Nat} {pv : Value} {B : Nat} {a0 a1 a2 a3 a4 : Addr}

def St.fresh (q : Int) : St := { quota := q, run := true, steps := 0, plan := [], since := 0, fs := [] }
set_option maxRecDepth 100000 in
theorem new_ok (q : Int) (h1 : 1 ≤ q) (h2 : q ≤ 1048576) (w : World) : Calls Tryd.prog 11 #[.int .i64 q] w fun e w' => e = .returned (.tuple #[.pointer (some ⟨w.heap.size + 1, 0, none⟩), .nilIface]) ∧
    Is 0 w' (w.heap.size + 1) (fun i => i = w.heap.size ∨ i = w.heap.size + 1) (St.fresh q) w.heap.size (.slice none 0 0) ∧ Below w.heap.size w w' := by
  have hmm := @run_makeMap Tryd.prog
  obtain ⟨o1, ho1⟩ : ∃ o, o = Obj.map #[] 0 := ⟨_, rfl⟩
  obtain ⟨o2, ho2⟩ : ∃ o, o = Obj.cells #[.int .i64 q, .map (some w.heap.size), .bool true, .int .i64 0, .slice none 0 0, .int .i64 0] 77 := ⟨_, rfl⟩
  have z1 : (w.alloc o1).heap.size = w.heap.size + 1 := by simp
  have b2 := blk_new (w.alloc o1) o2
  rw [z1] at b2
  have hmade := World.ownsMap_made w Tryd.prog 9 rp
  have hown : ((w.alloc o1).alloc o2).ownsMap Tryd.prog 9 rp w.heap.size 0 (.map []) := by
    rw [ho1]; exact hmade.alloc o2
  have hW : Below w.heap.size w ((w.alloc o1).alloc o2) := ((Below.refl _ w).alloc (Nat.le_refl _) o1).alloc (by rw [z1]; omega) o2
  have z2 : ((w.alloc o1).alloc o2).heap.size = w.heap.size + 1 + 1 := by simp
  have his : Is 0 ((w.alloc o1).alloc o2) (w.heap.size + 1) (fun i => i = w.heap.size ∨ i = w.heap.size + 1) (St.fresh q) w.heap.size (.slice none 0 0) := by
    refine ⟨?_, ⟨_, hown, fun s => rfl, fun s => rfl⟩, ⟨none, 0, rfl, Nat.le_refl _, by omega, fun i x h => by simp [St.fresh] at h⟩, fun f hf => by simp [St.fresh] at hf, List.Pairwise.nil, List.Pairwise.nil, fun f hf => by simp [St.fresh] at hf, ?_, h2, .inr rfl, .inl rfl, fun f hf => by simp [St.fresh] at hf, fun i hi => by rw [z2]; omega⟩
    · rw [ho2] at b2; rw [ho2]; exact b2
    · show ((used [] : Nat) : Int) ≤ q
      show (0 : Int) ≤ q
      omega
  subst ho1 ho2
  have HIS : Hid _ := his
  have HW : Hid _ := hW
  clear his hW hown hmade b2 z1 z2
  go_enter Tryd.func11, Tryd.ntmps11
  go_wp2
  go_ret2
  exact ⟨rfl, HIS.out, HW.out⟩
set_option maxRecDepth 100000 in
theorem start_ok (h : Is N w p F s m pv) : Calls Tryd.prog 19 #[.pointer (some ⟨p, 0, none⟩)] w fun e w' => e = .returned (.tuple #[]) ∧ Is N w' p F s.start m pv ∧ Fr F w w' := by
  obtain ⟨c0, c1, c2, c3, c4, c5⟩ := h.cells
  have hnot := not_run
  have th := h.thaw
  cases hr : s.run with
  | true =>
    have e : s.start = s := by unfold St.start; rw [hr]; cases s; simp_all
    rw [hr] at c2
    rw [e]
    have HR : Hid _ := hr
    clear hr e
    go_enter Tryd.func19, Tryd.ntmps19
    go_wp2_with (go_at_call 50; refine (none_ok h).mono ?_; rintro e w' ⟨rfl, h'⟩; replace h' := h'.symm; subst h')
    go_end0
    exact ⟨rfl, h, Fr.refl _ _⟩
  | false =>
    have hst : Is N ((w.setCell ⟨p, 2, none⟩ (.bool true)).setCell ⟨p, 5, none⟩ (.int .i64 0)) p F s.start m pv := by
      refine h.set s.start _ rfl rfl rfl ?_ (fun i _ hi => (Below.heap_setCell _ _ _ i hi).trans (Below.heap_setCell _ _ _ i hi)) (by simp [World.setCell])
      have t := blk_set (blk_set h.top 2 (.bool true)) 5 (.int .i64 0)
      have e : cellsOf s.start m pv = #[.int .i64 s.quota, .map (some m), .bool true, .int .i64 s.steps, pv, .int .i64 0] := by unfold cellsOf St.start; rw [hr]; rfl
      rw [e]; exact t
    have hfr := ((Fr.refl F w).set (a := ⟨p, 2, none⟩) h.inP (.bool true)).set (a := ⟨p, 5, none⟩) h.inP (.int .i64 0)
    rw [hr] at c2
    have HR : Hid _ := hr
    have HST : Hid _ := hst
    have HFR : Hid _ := hfr
    clear hr hst hfr
    go_enter Tryd.func19, Tryd.ntmps19
    go_wp2_with (go_at_call 50; refine (none_ok h).mono ?_; rintro e w' ⟨rfl, h'⟩; replace h' := h'.symm; subst h')
    go_end0
    exact ⟨rfl, HST.out, HFR.out⟩
end Go.Proofs.YtkfehogefclhdaaDoor.Dk

/- Plan, by its contract. -/
namespace Go.Proofs.YtkfehogefclhdaaDoor.Dk
open Go.RowKit Go.Maps Go.Proofs.YtkfehogefclhdaaDoorW.PrintWords Go.Proofs.YtkfehogefclhdaaDoorW.PrintMore
variable {N : Nat} {w : World} {p : Nat} {F : Nat → Prop} {s : St} {m : Nat} {pv : Value} {B : Nat} {a0 a1 a2 a3 a4 : Addr}

def cells3 (l : List (Int × Int × Int)) : List Value := l.flatMap fun x => [.int .i64 x.1, .int .i64 x.2.1, .int .i64 x.2.2]
theorem cells3_length (l : List (Int × Int × Int)) : (cells3 l).length = l.length * 3 := by
  induction l with
  | nil => rfl
  | cons a r ih => unfold cells3 at *; rw [List.flatMap_cons, List.length_append, ih, List.length_cons]; simp; omega
theorem cells3_get (l : List (Int × Int × Int)) : ∀ (i : Nat) (x : Int × Int × Int), l[i]? = some x → (cells3 l)[i * 3]? = some (.int .i64 x.1) ∧ (cells3 l)[i * 3 + 1]? = some (.int .i64 x.2.1) ∧ (cells3 l)[i * 3 + 2]? = some (.int .i64 x.2.2) := by
  induction l with
  | nil => intro i x h; simp at h
  | cons a r ih =>
    intro i x h
    have e : cells3 (a :: r) = .int .i64 a.1 :: .int .i64 a.2.1 :: .int .i64 a.2.2 :: cells3 r := rfl
    rw [e]
    cases i with
    | zero => simp at h; subst h; exact ⟨rfl, rfl, rfl⟩
    | succ i =>
      rw [List.getElem?_cons_succ] at h
      obtain ⟨h1, h2, h3⟩ := ih i x h
      refine ⟨?_, ?_, ?_⟩
      · rw [show (i + 1) * 3 = i * 3 + 1 + 1 + 1 by omega]; exact h1
      · rw [show (i + 1) * 3 + 1 = (i * 3 + 1) + 1 + 1 + 1 by omega]; exact h2
      · rw [show (i + 1) * 3 + 2 = (i * 3 + 2) + 1 + 1 + 1 by omega]; exact h3
def keepS (l : List (Int × Int × Int)) : List (Int × Int × Int) := l.filter fun x => decide (x.1 ≥ 1)
def St.planned (s : St) (l : List (Int × Int × Int)) : St := { s with plan := keepS l, since := 0 }
/-- A row of the call's own is a plan. -/
theorem PlanIs.of_own {v : Value} {l : List (Int × Int × Int)} {base : Nat} (h : w.ownsRow base 32 3 v l.length (cells3 l)) (hlen : l.length ≤ 1000000) : PlanIs w (fun i => v.ownBlock = some i) v l := by
  obtain ⟨hl, h⟩ := h
  rcases h with ⟨rfl, h0⟩ | ⟨g, cap, cur, rfl, hb, hh, hc, hm, hz, ht⟩
  · have e : l = [] := List.eq_nil_of_length_eq_zero h0
    subst e
    exact PlanIs.done _ _ _
  · refine ⟨_, cap, rfl, hc, by unfold maxLen at hm; omega, fun i x hx => ?_⟩
    have hi : i < l.length := by
      rcases Nat.lt_or_ge i l.length with h | h
      · exact h
      · rw [List.getElem?_eq_none h] at hx; cases hx
    obtain ⟨q1, q2, q3⟩ := cells3_get l i x hx
    have get : ∀ j, j < l.length * 3 → w.cell? ⟨g, j, none⟩ = (cells3 l)[j]? := fun j hj => by
      rw [blk_cell hh j, ← ht, List.getElem?_take_of_lt hj, Array.getElem?_toList]
    refine ⟨g, 0, rfl, rfl, ⟨cur, hh⟩, ?_, ?_, ?_⟩
    · rw [Nat.zero_add, get _ (by omega)]; exact q1
    · rw [Nat.zero_add, get _ (by omega)]; exact q2
    · rw [Nat.zero_add, get _ (by omega)]; exact q3
theorem info32 : (Tryd.prog.info? 32).map (fun i => (i.zero, i.size, i.bytes)) = some (some (.agg #[.int .i64 0, .int .i64 0, .int .i64 0]), 3, 24) := by kernel_rfl
/-- The middle of Plan's loop. -/
structure PMid (N : Nat) (w : World) (p : Nat) (F : Nat → Prop) (s : St) (m : Nat) (l : List (Int × Int × Int)) (wr : World) (v : Value) : Prop where
  own : wr.ownsRow w.heap.size 32 3 v (keepS l).length (cells3 (keepS l))
  top : wr.heap[p]? = some (.cells (cellsOf (s.planned l) m v) 77 (0, 0))
  fr : Fr (fun i => i = p) w wr
theorem PMid.is {l : List (Int × Int × Int)} {wr : World} {v : Value} (h : Is N w p F s m pv) (k : PMid N w p F s m l wr v) (hlen : l.length ≤ 1000000) : Is N wr p (fun i => F i ∨ v.ownBlock = some i) (s.planned l) m v := by
  have far : ∀ i, F i → i ≠ p → wr.heap[i]? = w.heap[i]? := fun i hi hp => k.fr.block i (h.low i hi) hp
  refine ⟨k.top, h.files.kept (far m h.inM (Ne.symm h.ne)), ?_, fun f hf => (far _ (h.inF f hf) (h.types hf).1).trans (h.each f hf), h.names, h.blks, h.durs, h.room, h.quo, .inl h.inP, .inl h.inM, fun f hf => .inl (h.inF f hf), fun i hi => ?_⟩
  · have hk : (keepS l).length ≤ l.length := List.length_filter_le _ _
    exact (PlanIs.of_own k.own (by omega)).wide (fun i hi => .inr hi)
  · rcases hi with hi | hi
    · exact Nat.lt_of_lt_of_le (h.low i hi) k.fr.size
    · exact own_lt k.own i hi
theorem keepS_take_yes {l : List (Int × Int × Int)} {i : Nat} {x : Int × Int × Int} (h : l[i]? = some x) (hx : x.1 ≥ 1) : keepS (l.take (i + 1)) = keepS (l.take i) ++ [x] := by
  unfold keepS
  rw [List.take_add_one, List.filter_append, h]
  simp [hx]
theorem keepS_take_no {l : List (Int × Int × Int)} {i : Nat} {x : Int × Int × Int} (h : l[i]? = some x) (hx : ¬ x.1 ≥ 1) : keepS (l.take (i + 1)) = keepS (l.take i) := by
  unfold keepS
  rw [List.take_add_one, List.filter_append, h]
  simp; omega
theorem news3 (w : World) (x : Int × Int × Int) : ∀ (j : Nat) (u : Value), [Value.int .i64 x.1, Value.int .i64 x.2.1, Value.int .i64 x.2.2][j]? = some u → ((w.alloc (Obj.cells #[.int .i64 x.1, .int .i64 x.2.1, .int .i64 x.2.2] 32)).drew).cell? ((⟨w.heap.size, 0, none⟩ : Addr).add j) = some u :=
  World.news_of_block (w := (w.alloc (Obj.cells #[.int .i64 x.1, .int .i64 x.2.1, .int .i64 x.2.2] 32)).drew) (blk_new w (Obj.cells #[.int .i64 x.1, .int .i64 x.2.1, .int .i64 x.2.2] 32))
theorem pfar {w4 w6 : World} {o : Obj} {v u : Value} (hg : ((w4.alloc o).drew).grownBy w6 v.ownBlock) (hp : p < w4.heap.size) (hv : v.ownBlock ≠ some p) {j : Nat} (hc : w4.cell? ⟨p, j, none⟩ = some u) : w6.cell? ⟨p, j, none⟩ = some u :=
  cell_of hc ((hg.block p (by show p < (w4.alloc o).heap.size; simp; omega) (fun e => hv e.symm)).trans (Below.heap_alloc w4 o p hp))
theorem pfz {w4 w6 : World} {o : Obj} {v : Value} (hg : ((w4.alloc o).drew).grownBy w6 v.ownBlock) (hp : p < w4.heap.size) (hv : v.ownBlock ≠ some p) {j : Nat} (hc : w4.frozen? ⟨p, j, none⟩ = false) : w6.frozen? ⟨p, j, none⟩ = false := by
  rw [← hc]
  have e := (hg.block p (by show p < (w4.alloc o).heap.size; simp; omega) (fun e => hv e.symm)).trans (Below.heap_alloc w4 o p hp)
  unfold World.frozen?; rw [e]
theorem PMid.next {l : List (Int × Int × Int)} {k : Nat} {x : Int × Int × Int} {wr w4 w6 : World} {v v' : Value} {o o' : Obj} {n : Nat} (q : PMid N w p F s m (l.take k) wr v) (hpw : p < w.heap.size) (hw4 : wr.alloc o = w4) (hg : ((w4.alloc o').drew).grownBy w6 v.ownBlock) (hn : n = (keepS (l.take k)).length + 1)
    (hown : w6.ownsRow w.heap.size 32 3 v' n (cells3 (keepS (l.take k)) ++ [.int .i64 x.1, .int .i64 x.2.1, .int .i64 x.2.2])) (hx : l[k]? = some x) (hx1 : x.1 ≥ 1) (hvp : v.ownBlock ≠ some p) :
    PMid N w p F s m (l.take (k + 1)) (w6.setCell ⟨p, 4, none⟩ v') v' := by
  subst hw4
  have hpr : p < wr.heap.size := blk_lt q.top
  have htop6 : w6.heap[p]? = some (.cells (cellsOf (s.planned (l.take k)) m v) 77 (0, 0)) :=
    (hg.block p (by show p < ((wr.alloc o).alloc o').heap.size; simp; omega) (fun e => hvp e.symm)).trans (blk_alloc (blk_alloc q.top o) o')
  have hvp' : v'.ownBlock ≠ some p := fun e => by
    obtain ⟨cs, hcs⟩ := own_typed hown p e
    rw [hcs] at htop6; simp at htop6
  have ek : keepS (l.take (k + 1)) = keepS (l.take k) ++ [x] := keepS_take_yes hx hx1
  have ec : cells3 (keepS (l.take k) ++ [x]) = cells3 (keepS (l.take k)) ++ [.int .i64 x.1, .int .i64 x.2.1, .int .i64 x.2.2] := by unfold cells3; rw [List.flatMap_append]; rfl
  refine ⟨?_, ?_, ?_⟩
  · rw [ek, ec, List.length_append, List.length_singleton, ← hn]
    exact own_setCell hown (fun e => hvp' e.symm) v'
  · exact blk_set htop6 4 v'
  · have f1 : Fr (fun i => i = p) w ((wr.alloc o).alloc o').drew := q.fr.trans (Sub.refl _ _) (Fr.of_below (((Below.refl _ _).alloc (Nat.le_refl _) o).alloc (by simp) o').drew _)
    have f2 := f1.grown hg (fun i hi => .inl (own_base q.own i hi))
    exact f2.set (a := ⟨p, 4, none⟩) rfl v'
set_option maxRecDepth 100000 in
set_option maxHeartbeats 1000000 in
theorem plan_ok (h : Is N w p F s m pv) (l : List (Int × Int × Int)) {G : Nat → Prop} {g o c : Nat} (hl : PlanIs w G (.slice (some ⟨g, o, none⟩) l.length c) l) (hG : ∀ i, G i → i < w.heap.size ∧ i ≠ p) (hlen : l.length ≤ 1000) :
    Calls Tryd.prog 14 #[.pointer (some ⟨p, 0, none⟩), .slice (some ⟨g, o, none⟩) l.length c] w fun e w' => e = .returned (.tuple #[]) ∧ ∃ F' v, Is N w' p F' (s.planned l) m v ∧ Fr F w w' ∧ Sub w F F' := by
  obtain ⟨c0, c1, c2, c3, c4, c5⟩ := h.cells
  have th := h.thaw
  obtain ⟨i0, hi0, hz0, hz1, hz2⟩ := info_parts info32
  have htop : ((w.setCell ⟨p, 4, none⟩ (.slice none 0 0)).setCell ⟨p, 5, none⟩ (.int .i64 0)).heap[p]? = some (.cells (cellsOf (s.planned []) m (.slice none 0 0)) 77 (0, 0)) := blk_set (blk_set h.top 4 (.slice none 0 0)) 5 (.int .i64 0)
  have hfr0 := ((Fr.refl (fun i => i = p) w).set (a := ⟨p, 4, none⟩) rfl (.slice none 0 0)).set (a := ⟨p, 5, none⟩) rfl (.int .i64 0)
  have hmid0 : PMid N w p F s m [] ((w.setCell ⟨p, 4, none⟩ (.slice none 0 0)).setCell ⟨p, 5, none⟩ (.int .i64 0)) (.slice none 0 0) := ⟨own_nil _ _ _ _, htop, hfr0⟩
  have HM0 : Hid _ := hmid0
  clear htop hfr0 hmid0
  have HL : Hid _ := hl
  clear hl
  go_enter Tryd.func14, Tryd.ntmps14
  go_wp2_with (go_at_call 50; refine (none_ok h).mono ?_; rintro e w' ⟨rfl, h'⟩; replace h' := h'.symm; subst h')
  go_loopw [16] (fun i wr => ∃ (k : Nat) (v : Value), k ≤ l.length ∧ i = .int .i64 k ∧ PMid N w p F s m (l.take k) wr v) (fun i _ => l.length - (intOf i).toNat)
  case atStart => exact ⟨0, _, Nat.zero_le _, rfl, HM0.out⟩
  case round =>
    obtain ⟨k, v, hk, rfl, hmid⟩ := hrel
    by_cases hlt : k < l.length
    · obtain ⟨x, hx⟩ : ∃ x, l[k]? = some x := ⟨_, List.getElem?_eq_getElem hlt⟩
      obtain ⟨A', c', e', _, _, hcells⟩ := HL.out
      injection e' with e1 e2 e3
      obtain ⟨g', o', ha, hg', _, q1, q2, q3⟩ := hcells k x hx
      rw [← e1] at ha
      cases ha
      have hgl := hG g hg'
      have hkeep := hmid.fr.block g hgl.1 hgl.2
      have r1 := cell_of q1 hkeep
      have r2 := cell_of q2 hkeep
      have r3 := cell_of q3 hkeep
      have hpw : p < wr.heap.size := blk_lt hmid.top
      have t4 : wr.cell? ⟨p, 4, none⟩ = some v := blk_cell hmid.top 4
      have tz : ∀ i, wr.frozen? ⟨p, i, none⟩ = false := blk_frozen hmid.top
      have hal : ∀ (o : Obj) (j : Nat), (wr.alloc o).cell? ⟨p, j, none⟩ = wr.cell? ⟨p, j, none⟩ := fun o j => World.cell?_alloc_past _ _ _ hpw
      have hne2 : p ≠ wr.heap.size := Nat.ne_of_lt hpw
      clear hkeep q1 q2 q3 hcells e1 e2 e3
      by_cases hx1 : x.1 ≥ 1
      · have hown := hmid.own
        have HMID : Hid _ := hmid
        clear hmid
        have hx1b : decide (1 ≤ x.1) = true := decide_eq_true hx1
        obtain ⟨w4, hw4⟩ : ∃ w4, wr.alloc (Obj.cells #[.int .i64 x.1, .int .i64 x.2.1, .int .i64 x.2.2] 32) = w4 := ⟨_, rfl⟩
        have u4 : w4.cell? ⟨p, 4, none⟩ = some v := by rw [← hw4, hal]; exact t4
        have uz : ∀ i, w4.frozen? ⟨p, i, none⟩ = false := fun i => by rw [← hw4]; exact blk_frozen (blk_alloc HMID.out.top _) i
        have hst : w4.heap[wr.heap.size]? = some (.cells #[.int .i64 x.1, .int .i64 x.2.1, .int .i64 x.2.2] 32 (0, 0)) := by rw [← hw4]; exact blk_new wr _
        have v0 := blk_cell hst 0
        have v1 := blk_cell hst 1
        have v2 := blk_cell hst 2
        simp only [List.getElem?_toArray, List.getElem?_cons_zero, List.getElem?_cons_succ] at v0 v1 v2
        have hown4 : w4.ownsRow w.heap.size 32 3 v (keepS (l.take k)).length (cells3 (keepS (l.take k))) := by rw [← hw4]; exact hown.alloc _
        have hsz4 : w4.heap.size = wr.heap.size + 1 := by rw [← hw4]; simp
        have HW4 : Hid _ := hw4
        clear hw4 hown
        go_wp2
        rw [HW4.out]
        have hkl : (keepS (l.take k)).length ≤ 1000 := by have a := List.length_filter_le (fun x : Int × Int × Int => decide (x.1 ≥ 1)) (l.take k); have b := List.length_take_le k l; unfold keepS; omega
        have hbase : w.heap.size ≤ w4.heap.size := by have := HMID.out.fr.size; omega
        have hpl4 : p < w4.heap.size := by omega
        have hvp : v.ownBlock ≠ some p := fun e => by
          obtain ⟨cs, hcs⟩ := own_typed hown4 p e
          have := HMID.out.top
          have t2 := blk_alloc this (Obj.cells #[.int .i64 x.1, .int .i64 x.2.1, .int .i64 x.2.2] 32)
          rw [HW4.out, hcs] at t2
          simp at t2
        have hal4 : ∀ (o : Obj) (j : Nat), (w4.alloc o).cell? ⟨p, j, none⟩ = w4.cell? ⟨p, j, none⟩ := fun o j => World.cell?_alloc_past _ _ _ hpl4
        have hls : wr.heap.size < w4.heap.size := by omega
        have hal5 : ∀ (o : Obj) (j : Nat), (w4.alloc o).cell? ⟨wr.heap.size, j, none⟩ = w4.cell? ⟨wr.heap.size, j, none⟩ := fun o j => World.cell?_alloc_past _ _ _ hls
        clear hls
        have HKL : Hid _ := hkl
        have HB : Hid _ := hbase
        have HP4 : Hid _ := hpl4
        have HSZ : Hid _ := hsz4
        clear hkl hbase hpl4 hsz4
        go_region_law (first
          | (refine step_append_lies _ rfl (.tmp 27) (.tmp 29) 33 rfl w.heap.size 32 i0 _ 3 24 Tryd.underlying33 hi0 hz0 hz1 hz2 rfl (by decide) v _ _ rfl (hown4.alloc (Obj.cells #[.int .i64 x.1, .int .i64 x.2.1, .int .i64 x.2.2] 32)) ⟨w4.heap.size, 0, none⟩ 1 1 [.int .i64 x.1, .int .i64 x.2.1, .int .i64 x.2.2] rfl rfl (news3 w4 x) (by intro u hu; simp at hu; rcases hu with rfl | rfl | rfl <;> rfl) (by decide) (by have := HKL.out; unfold maxLen; omega) (by have := HKL.out; omega) (by have := HB.out; show w.heap.size ≤ (World.alloc _ _).heap.size; simp; omega) _ rfl ?_
             intro g2 cap2 w6 hown6 hg6 hat6 hlt6
             have y4 : w6.cell? ⟨p, 4, none⟩ = some v := pfar hg6 HP4.out hvp u4
             have yz : w6.frozen? ⟨p, 4, none⟩ = false := pfz hg6 HP4.out hvp (uz 4))
          | fail)
        all_goals go_wp2
        all_goals exact ⟨⟨k + 1, _, by omega, by simp, HMID.out.next (h.low p h.inP) HW4.out hg6 rfl hown6 hx hx1 hvp⟩, by simp only [intOf]; omega⟩
      · have HMID : Hid _ := hmid
        clear hmid
        have hx1b : decide (1 ≤ x.1) = false := decide_eq_false hx1
        go_wp2
        refine ⟨⟨k + 1, v, by omega, by simp, ?_⟩, by simp only [intOf]; omega⟩
        have q := HMID.out
        refine ⟨?_, ?_, ?_⟩
        · rw [keepS_take_no hx hx1]; exact q.own.alloc _
        · have t := blk_alloc q.top (Obj.cells #[.int .i64 x.1, .int .i64 x.2.1, .int .i64 x.2.2] 32)
          have e : cellsOf (s.planned (l.take (k + 1))) m v = cellsOf (s.planned (l.take k)) m v := rfl
          rw [e]; exact t
        · exact q.fr.trans (Sub.refl _ _) (Fr.of_below ((Below.refl _ _).alloc (Nat.le_refl _) _) _)
    · go_wp2
      go_end0
      have e : k = l.length := by omega
      subst e
      rw [List.take_length] at hmid
      refine ⟨rfl, _, v, hmid.is h (by omega), hmid.fr.wide (fun i _ hi => by rw [hi]; exact h.inP), fun i hi => ?_⟩
      rcases hi with hi | hi
      · exact .inl hi
      · exact .inr (own_base hmid.own i hi)
end Go.Proofs.YtkfehogefclhdaaDoor.Dk

/- known, by its contract: it is true. -/
namespace Go.Proofs.YtkfehogefclhdaaDoor.Dk
open Go.RowKit Go.Maps Go.Proofs.YtkfehogefclhdaaDoorW.PrintWords Go.Proofs.YtkfehogefclhdaaDoorW.PrintMore Go.Proofs.YtkfehogefclhdaaDoor.PNm
variable {N : Nat} {w : World} {p : Nat} {F : Nat → Prop} {s : St} {m : Nat} {pv : Value} {B : Nat} {a0 a1 a2 a3 a4 : Addr}

theorem OpRes.calm_ok {code : Int} {Pf : Int → List Fil → Prop} {Wf : List Fil → Prop} {v : Value} {w' : World} (h : OpRes N w p F s m a0 a1 a2 a3 a4 code Pf Wf v w') (hr : s.run = true) (hp : s.plan = []) (h0 : code = 0) :
    v = .nilIface ∧ ∃ F' fs' pv', Wf fs' ∧ Is (N + 1) w' p F' { s.tick with fs := fs' } m pv' ∧ Fr F w w' ∧ Sub w F F' := by
  obtain ⟨F', s', pv', h1, h2, h3, h4⟩ := h
  cases h4 with
  | down a b => rw [hr] at a; cases a
  | due a b c d e f => rw [hp] at b; cases b
  | err a b c d => exact absurd h0 c
  | ok a b c d e => exact ⟨d, F', _, pv', e, h1, h2, h3⟩
theorem OpRes.calm_err {code : Int} {Pf : Int → List Fil → Prop} {Wf : List Fil → Prop} {v : Value} {w' : World} (h : OpRes N w p F s m a0 a1 a2 a3 a4 code Pf Wf v w') (hr : s.run = true) (hp : s.plan = []) (h0 : code ≠ 0) :
    IsErr w' v (why a0 a1 a2 a3 a4 code) ∧ ∃ F' pv', Is (N + 1) w' p F' s.tick m pv' ∧ Fr F w w' ∧ Sub w F F' := by
  obtain ⟨F', s', pv', h1, h2, h3, h4⟩ := h
  cases h4 with
  | down a b => rw [hr] at a; cases a
  | due a b c d e f => rw [hp] at b; cases b
  | err a b c d => exact ⟨d, F', pv', h1, h2, h3⟩
  | ok a b c d e => exact absurd c h0
def bA : ByteArray := ⟨#[97]⟩
def bUp : ByteArray := ⟨#[65]⟩
def bHello : ByteArray := ⟨#[104, 101, 108, 108, 111]⟩
theorem name_a : nameB ⟨#[97]⟩ = true := name_eq (k := 20) (by decide +kernel)
theorem name_up : nameB ⟨#[65]⟩ = false := name_eq (k := 20) (by decide +kernel)
theorem name_box : nameB ⟨#[98, 111, 120]⟩ = true := name_eq (k := 20) (by decide +kernel)
theorem name_tmp : nameB ⟨#[98, 111, 120, 46, 116, 109, 112]⟩ = true := name_eq (k := 20) (by decide +kernel)
theorem name_nobody : nameB ⟨#[110, 111, 98, 111, 100, 121]⟩ = true := name_eq (k := 20) (by decide +kernel)
theorem cut_all (data : ByteArray) : cutD data data.size = data := by
  unfold cutD
  rw [Int.toNat_natCast, Nat.min_self, ByteArray.extract_zero_size]
/-- What was old is old still. -/
theorem low_step {w w' : World} {F F' : Nat → Prop} {B : Nat} (hF : ∀ i, F i → B ≤ i) (hB : B ≤ w.heap.size) (hs : Sub w F F') : ∀ i, F' i → B ≤ i := fun i hi => by
  rcases hs i hi with h | h
  · exact hF i h
  · omega
end Go.Proofs.YtkfehogefclhdaaDoor.Dk

/- A disk that lives: its methods as a law's walk uses them. -/
namespace Go.Proofs.YtkfehogefclhdaaDoor.Dk
open Go.RowKit Go.Maps Go.Proofs.YtkfehogefclhdaaDoorW.PrintWords Go.Proofs.YtkfehogefclhdaaDoorW.PrintMore
variable {N : Nat} {w : World} {p : Nat} {F : Nat → Prop} {s : St} {m : Nat} {pv : Value} {B : Nat} {a0 a1 a2 a3 a4 : Addr} {K : Nat → Prop}

/-- The disk at block p is in the state s; K: blocks of others that it never writes. -/
def Live (B N : Nat) (w : World) (p : Nat) (K : Nat → Prop) (s : St) (a0 a1 a2 a3 a4 : Addr) : Prop :=
  ∃ F m pv, Is N w p F s m pv ∧ (∀ i, F i → B ≤ i ∧ ¬ K i) ∧ (∀ i, K i → i < w.heap.size) ∧ Sens w B a0 a1 a2 a3 a4 ∧ B ≤ w.heap.size
/-- What a step leaves of others' memory. -/
structure Step (B : Nat) (K : Nat → Prop) (w w' : World) : Prop where
  below : Below B w w'
  kept : ∀ i, K i → w'.heap[i]? = w.heap[i]?
theorem Step.refl (B : Nat) (K : Nat → Prop) (w : World) : Step B K w w := ⟨Below.refl _ _, fun _ _ => rfl⟩
theorem Step.trans {w1 w2 : World} (h : Step B K w w1) (k : Step B K w1 w2) : Step B K w w2 := ⟨h.below.trans k.below, fun i hi => (k.kept i hi).trans (h.kept i hi)⟩
theorem Live.move {w' : World} {F' : Nat → Prop} {s' : St} {N' : Nat} {m' : Nat} {pv' : Value} (hF : ∀ i, F i → B ≤ i ∧ ¬ K i) (hK : ∀ i, K i → i < w.heap.size) (hS : Sens w B a0 a1 a2 a3 a4) (hB : B ≤ w.heap.size) (h1 : Is N' w' p F' s' m' pv') (h2 : Fr F w w') (h3 : Sub w F F') :
    Live B N' w' p K s' a0 a1 a2 a3 a4 ∧ Step B K w w' := by
  have hb : Below B w w' := h2.below (fun i hi => (hF i hi).1) hB
  refine ⟨⟨F', m', pv', h1, fun i hi => ?_, fun i hi => Nat.lt_of_lt_of_le (hK i hi) h2.size, hS.below hb, Nat.le_trans hB h2.size⟩, hb, fun i hi => h2.block i (hK i hi) (fun e => (hF i e).2 hi)⟩
  rcases h3 i hi with h | h
  · exact hF i h
  · exact ⟨Nat.le_trans hB h, fun hk => by have := hK i hk; omega⟩
theorem Live.drift {w' : World} (h : Live B N w p K s a0 a1 a2 a3 a4) (hb : Below w.heap.size w w') : Live B N w' p K s a0 a1 a2 a3 a4 ∧ Step B K w w' := by
  obtain ⟨F, m, pv, h1, h2, h3, h4, h5⟩ := h
  exact Live.move h2 h3 h4 h5 (h1.below hb) (Fr.of_below hb F) (Sub.refl _ _)
/-- A block of another's is kept from now on. -/
theorem Live.add (h : Live B N w p K s a0 a1 a2 a3 a4) {q : Nat} {cs : Array Value} {t : TypeId} (hq : w.heap[q]? = some (.cells cs t (0, 0))) (ht : t ≠ 77 ∧ t ≠ 81 ∧ t ≠ 32) : Live B N w p (fun i => K i ∨ i = q) s a0 a1 a2 a3 a4 := by
  obtain ⟨F, m, pv, h1, h2, h3, h4, h5⟩ := h
  have e1 : p ≠ q := fun e => by have := h1.top; rw [e, hq] at this; simp at this; exact ht.1 this.2
  have e2 : m ≠ q := fun e => by obtain ⟨D, ⟨es, clock, hb, _⟩, _⟩ := h1.files; rw [e, hq] at hb; cases hb
  have e3 : ∀ f ∈ s.fs, f.blk ≠ q := fun f hf e => by have := h1.each f hf; rw [e, hq] at this; simp at this; exact ht.2.1 this.2
  refine ⟨fun i => F i ∧ i ≠ q, m, pv, ⟨h1.top, h1.files, ?_, h1.each, h1.names, h1.blks, h1.durs, h1.room, h1.quo, ⟨h1.inP, e1⟩, ⟨h1.inM, e2⟩, fun f hf => ⟨h1.inF f hf, e3 f hf⟩, fun i hi => h1.low i hi.1⟩, fun i hi => ⟨(h2 i hi.1).1, fun e => ?_⟩, fun i hi => ?_, h4, h5⟩
  · obtain ⟨A, c, e, k1, k2, k3⟩ := h1.plan
    refine ⟨A, c, e, k1, k2, fun i x hx => ?_⟩
    obtain ⟨g, o, ha, hg, ⟨cs', k0⟩, r⟩ := k3 i x hx
    exact ⟨g, o, ha, ⟨hg, fun e => by rw [e, hq] at k0; simp at k0; exact ht.2.2 k0.2⟩, ⟨cs', k0⟩, r⟩
  · rcases e with e | e
    · exact (h2 i hi.1).2 e
    · exact hi.2 e
  · rcases hi with hi | rfl
    · exact h3 i hi
    · exact blk_lt hq
/-- What an operation tells. -/
def Did (B N : Nat) (w : World) (p : Nat) (K : Nat → Prop) (s : St) (a0 a1 a2 a3 a4 : Addr) (code : Int) (Pf : Int → List Fil → Prop) (Wf : List Fil → Prop) (v : Value) (w' : World) : Prop :=
  ∃ s', Live B (N + 1) w' p K s' a0 a1 a2 a3 a4 ∧ Step B K w w' ∧ Done s a0 a1 a2 a3 a4 code Pf Wf w' v s'
structure Small (s : St) : Prop where
  s0 : 0 ≤ s.steps
  s1 : s.steps < 1000000000000
  s2 : 0 ≤ s.since
  s3 : s.since < 1000000000000
theorem OpRes.did {F : Nat → Prop} {m : Nat} {code : Int} {Pf : Int → List Fil → Prop} {Wf : List Fil → Prop} {v : Value} {w' : World} (hF : ∀ i, F i → B ≤ i ∧ ¬ K i) (hK : ∀ i, K i → i < w.heap.size) (hS : Sens w B a0 a1 a2 a3 a4) (hB : B ≤ w.heap.size) (hr : OpRes N w p F s m a0 a1 a2 a3 a4 code Pf Wf v w') :
    Did B N w p K s a0 a1 a2 a3 a4 code Pf Wf v w' := by
  obtain ⟨F', s', pv', h1, h2, h3, h4⟩ := hr
  obtain ⟨q1, q2⟩ := Live.move hF hK hS hB h1 h2 h3
  exact ⟨s', q1, q2, h4⟩
theorem append_live (h : Live B N w p K s a0 a1 a2 a3 a4) (hN : N < maxLen) (hs : Small s) (x data : ByteArray) (hx : x.size ≤ 140737488351232) (hd : data.size ≤ 140737488351232) :
    Calls Tryd.prog 12 #[.pointer (some ⟨p, 0, none⟩), .string x, .string data] w fun e w' => ∃ v, e = .returned v ∧ Did B N w p K s a0 a1 a2 a3 a4 (appC s x data) (AppF s.fs x data) (AppF s.fs x data data.size) v w' := by
  obtain ⟨F, m, pv, h1, h2, h3, h4, h5⟩ := h
  refine (append_ok h1 hN h4 (fun i hi => (h2 i hi).1) hs.s0 hs.s1 hs.s2 hs.s3 x data hx hd).mono ?_
  rintro e w' ⟨v, rfl, hr⟩
  exact ⟨v, rfl, hr.did h2 h3 h4 h5⟩
theorem sync_live (h : Live B N w p K s a0 a1 a2 a3 a4) (hs : Small s) (x : ByteArray) (hx : x.size ≤ 140737488351232) :
    Calls Tryd.prog 13 #[.pointer (some ⟨p, 0, none⟩), .string x] w fun e w' => ∃ v, e = .returned v ∧ Did B N w p K s a0 a1 a2 a3 a4 (thereC s.fs x) (orF s.fs (SyncF s.fs x)) (SyncF s.fs x) v w' := by
  obtain ⟨F, m, pv, h1, h2, h3, h4, h5⟩ := h
  refine (sync_ok h1 h4 (fun i hi => (h2 i hi).1) hs.s0 hs.s1 hs.s2 hs.s3 x hx).mono ?_
  rintro e w' ⟨v, rfl, hr⟩
  exact ⟨v, rfl, hr.did h2 h3 h4 h5⟩
theorem remove_live (h : Live B N w p K s a0 a1 a2 a3 a4) (hs : Small s) (x : ByteArray) (hx : x.size ≤ 140737488351232) :
    Calls Tryd.prog 16 #[.pointer (some ⟨p, 0, none⟩), .string x] w fun e w' => ∃ v, e = .returned v ∧ Did B N w p K s a0 a1 a2 a3 a4 (thereC s.fs x) (orF s.fs (fun fs' => fs' = outF x s.fs)) (fun fs' => fs' = outF x s.fs) v w' := by
  obtain ⟨F, m, pv, h1, h2, h3, h4, h5⟩ := h
  refine (remove_ok h1 h4 (fun i hi => (h2 i hi).1) hs.s0 hs.s1 hs.s2 hs.s3 x hx).mono ?_
  rintro e w' ⟨v, rfl, hr⟩
  exact ⟨v, rfl, hr.did h2 h3 h4 h5⟩
theorem rename_live (h : Live B N w p K s a0 a1 a2 a3 a4) (hN : N < maxLen) (hs : Small s) (x y : ByteArray) (hx : x.size ≤ 140737488351232) (hy : y.size ≤ 140737488351232) :
    Calls Tryd.prog 15 #[.pointer (some ⟨p, 0, none⟩), .string x, .string y] w fun e w' => ∃ v, e = .returned v ∧ Did B N w p K s a0 a1 a2 a3 a4 (renC s.fs x y) (orF s.fs (RenF s.fs x y)) (RenF s.fs x y) v w' := by
  obtain ⟨F, m, pv, h1, h2, h3, h4, h5⟩ := h
  refine (rename_ok h1 hN h4 (fun i hi => (h2 i hi).1) hs.s0 hs.s1 hs.s2 hs.s3 x y hx hy).mono ?_
  rintro e w' ⟨v, rfl, hr⟩
  exact ⟨v, rfl, hr.did h2 h3 h4 h5⟩
theorem read_live (h : Live B N w p K s a0 a1 a2 a3 a4) (hs : Small s) (x : ByteArray) (hx : x.size ≤ 140737488351232) :
    Calls Tryd.prog 20 #[.pointer (some ⟨p, 0, none⟩), .string x] w fun e w' => ∃ v r, e = .returned (.tuple #[.string r, v]) ∧ Did B N w p K s a0 a1 a2 a3 a4 (thereC s.fs x) (fun _ fs' => fs' = s.fs) (fun fs' => fs' = s.fs) v w' ∧ Told s x r v := by
  obtain ⟨F, m, pv, h1, h2, h3, h4, h5⟩ := h
  refine (read_ok h1 h4 (fun i hi => (h2 i hi).1) hs.s0 hs.s1 hs.s2 hs.s3 x hx).mono ?_
  rintro e w' ⟨v, r, rfl, hr, ht⟩
  exact ⟨v, r, rfl, hr.did h2 h3 h4 h5, ht⟩
theorem start_live (h : Live B N w p K s a0 a1 a2 a3 a4) : Calls Tryd.prog 19 #[.pointer (some ⟨p, 0, none⟩)] w fun e w' => e = .returned (.tuple #[]) ∧ Live B N w' p K s.start a0 a1 a2 a3 a4 ∧ Step B K w w' := by
  obtain ⟨F, m, pv, h1, h2, h3, h4, h5⟩ := h
  refine (start_ok h1).mono ?_
  rintro e w' ⟨rfl, q1, q2⟩
  exact ⟨rfl, Live.move h2 h3 h4 h5 q1 q2 (Sub.refl _ _)⟩
theorem plan_live (h : Live B N w p K s a0 a1 a2 a3 a4) (l : List (Int × Int × Int)) {G : Nat → Prop} {g o c : Nat} (hl : PlanIs w G (.slice (some ⟨g, o, none⟩) l.length c) l) (hG : ∀ i, G i → i < w.heap.size ∧ i ≠ p) (hlen : l.length ≤ 1000) :
    Calls Tryd.prog 14 #[.pointer (some ⟨p, 0, none⟩), .slice (some ⟨g, o, none⟩) l.length c] w fun e w' => e = .returned (.tuple #[]) ∧ Live B N w' p K (s.planned l) a0 a1 a2 a3 a4 ∧ Step B K w w' := by
  obtain ⟨F, m, pv, h1, h2, h3, h4, h5⟩ := h
  refine (plan_ok h1 l hl hG hlen).mono ?_
  rintro e w' ⟨rfl, F', v, q1, q2, q3⟩
  exact ⟨rfl, Live.move h2 h3 h4 h5 q1 q2 q3⟩
theorem down_live (h : Live B N w p K s a0 a1 a2 a3 a4) : Calls Tryd.prog 18 #[.pointer (some ⟨p, 0, none⟩)] w fun e w' => e = .returned (.bool (!s.run)) ∧ w' = w := by
  obtain ⟨F, m, pv, h1, _⟩ := h; exact down_ok h1
theorem quota_live (h : Live B N w p K s a0 a1 a2 a3 a4) : Calls Tryd.prog 22 #[.pointer (some ⟨p, 0, none⟩)] w fun e w' => e = .returned (.int .i64 s.quota) ∧ w' = w := by
  obtain ⟨F, m, pv, h1, _⟩ := h; exact quota_ok h1
theorem steps_live (h : Live B N w p K s a0 a1 a2 a3 a4) : Calls Tryd.prog 24 #[.pointer (some ⟨p, 0, none⟩)] w fun e w' => e = .returned (.int .i64 s.steps) ∧ w' = w := by
  obtain ⟨F, m, pv, h1, _⟩ := h; exact steps_ok h1
def sizeF (fs : List Fil) (x : ByteArray) : Int := match look fs x with | none => -1 | some f => f.bytes.size
theorem size_live (h : Live B N w p K s a0 a1 a2 a3 a4) (x : ByteArray) (hx : x.size ≤ maxLen) : Calls Tryd.prog 21 #[.pointer (some ⟨p, 0, none⟩), .string x] w fun e w' => e = .returned (.int .i64 (sizeF s.fs x)) ∧ w' = w := by
  obtain ⟨F, m, pv, h1, _⟩ := h
  unfold sizeF
  cases hl : look s.fs x with
  | none => exact size_none h1 x hx hl
  | some f => exact size_some h1 x hx hl
theorem used_live (h : Live B N w p K s a0 a1 a2 a3 a4) : Calls Tryd.prog 38 #[.pointer (some ⟨p, 0, none⟩)] w fun e w' => e = .returned (.int .i64 (used s.fs)) ∧ Live B N w' p K s a0 a1 a2 a3 a4 ∧ Step B K w w' := by
  have h' := h
  obtain ⟨F, m, pv, h1, _⟩ := h
  refine (used_ok h1).mono ?_
  rintro e w' ⟨rfl, hb⟩
  exact ⟨rfl, h'.drift hb⟩
theorem new_live (q : Int) (h1 : 1 ≤ q) (h2 : q ≤ 1048576) (hS : Sens w B a0 a1 a2 a3 a4) (hB : B ≤ w.heap.size) (hK : ∀ i, K i → i < w.heap.size) : Calls Tryd.prog 11 #[.int .i64 q] w fun e w' => e = .returned (.tuple #[.pointer (some ⟨w.heap.size + 1, 0, none⟩), .nilIface]) ∧
    Live B 0 w' (w.heap.size + 1) K (St.fresh q) a0 a1 a2 a3 a4 ∧ Step B K w w' := by
  refine (new_ok q h1 h2 w).mono ?_
  rintro e w' ⟨rfl, his, hb⟩
  exact ⟨rfl, ⟨_, _, _, his, fun i hi => ⟨by omega, fun hk => by have := hK i hk; omega⟩, fun i hi => Nat.lt_of_lt_of_le (hK i hi) hb.size, hS.below (hb.mono hB), Nat.le_trans hB hb.size⟩, hb.mono hB, fun i hi => hb.block i (hK i hi)⟩
/-- An error at its block. -/
def ErrAt (w : World) (q : Nat) (a : Addr) : Prop := ∃ c0 c1 c2 c3, w.heap[q]? = some (.cells #[c0, c1, c2, c3, .iface 179 (.pointer (some a))] 74 (0, 0))
theorem IsErr.at {v : Value} {a : Addr} (h : IsErr w v a) : ∃ q, v = .iface 72 (.pointer (some ⟨q, 0, none⟩)) ∧ ErrAt w q a := by
  obtain ⟨q, c0, c1, c2, c3, e, hq⟩ := h
  exact ⟨q, e, c0, c1, c2, c3, hq⟩
theorem Live.keepErr (h : Live B N w p K s a0 a1 a2 a3 a4) {q : Nat} {a : Addr} (he : ErrAt w q a) : Live B N w p (fun i => K i ∨ i = q) s a0 a1 a2 a3 a4 := by
  obtain ⟨c0, c1, c2, c3, hq⟩ := he
  exact h.add hq ⟨by decide, by decide, by decide⟩
theorem ErrAt.step {w' : World} {q : Nat} {a : Addr} (he : ErrAt w q a) (hs : Step B K w w') (hq : K q) : ErrAt w' q a := by
  obtain ⟨c0, c1, c2, c3, h⟩ := he
  exact ⟨c0, c1, c2, c3, (hs.kept q hq).trans h⟩
/-- errors.Is of a disk's error. -/
theorem is_live (h : Live B N w p K s a0 a1 a2 a3 a4) {q : Nat} {a b : Addr} (he : ErrAt w q a) (ha : a = a0 ∨ a = a1 ∨ a = a2 ∨ a = a3 ∨ a = a4) (hb : b = a0 ∨ b = a1 ∨ b = a2 ∨ b = a3 ∨ b = a4) :
    Calls Tryd.prog 17 #[.iface 72 (.pointer (some ⟨q, 0, none⟩)), .iface 179 (.pointer (some b))] w fun e w' => e = .returned (.bool (decide (a = b))) ∧ w' = w := by
  obtain ⟨F, m, pv, h1, h2, h3, h4, h5⟩ := h
  have hie : IsErr w (.iface 72 (.pointer (some ⟨q, 0, none⟩))) a := by obtain ⟨c0, c1, c2, c3, hq⟩ := he; exact ⟨q, c0, c1, c2, c3, rfl, hq⟩
  by_cases e : a = b
  · subst e
    rw [decide_eq_true rfl]
    exact is_same hie
  · rw [decide_eq_false e]
    obtain ⟨_, ca, ta, ka⟩ := h4.r a ha
    obtain ⟨_, cb, tb, kb⟩ := h4.r b hb
    exact is_other hie e ka kb
end Go.Proofs.YtkfehogefclhdaaDoor.Dk

/- known is true. -/
namespace Go.Proofs.YtkfehogefclhdaaDoor.Dk
open Go.RowKit Go.Maps Go.Proofs.YtkfehogefclhdaaDoorW.PrintWords Go.Proofs.YtkfehogefclhdaaDoorW.PrintMore
variable {N : Nat} {w : World} {p : Nat} {F : Nat → Prop} {s : St} {m : Nat} {pv : Value} {B : Nat} {a0 a1 a2 a3 a4 : Addr} {K : Nat → Prop}

theorem Did.calm {code : Int} {Pf : Int → List Fil → Prop} {Wf : List Fil → Prop} {v : Value} {w' : World} (h : Did B N w p K s a0 a1 a2 a3 a4 code Pf Wf v w') (hr : s.run = true) (hp : s.plan = []) (h0 : code = 0) :
    v = .nilIface ∧ ∃ fs', Wf fs' ∧ Live B (N + 1) w' p K { s.tick with fs := fs' } a0 a1 a2 a3 a4 ∧ Step B K w w' := by
  obtain ⟨s', h1, h2, h4⟩ := h
  cases h4 with
  | down a b => rw [hr] at a; cases a
  | due a b c d e f => rw [hp] at b; cases b
  | err a b c d => exact absurd h0 c
  | ok a b c d e => exact ⟨d, _, e, h1, h2⟩
theorem Did.calmErr {code : Int} {Pf : Int → List Fil → Prop} {Wf : List Fil → Prop} {v : Value} {w' : World} (h : Did B N w p K s a0 a1 a2 a3 a4 code Pf Wf v w') (hr : s.run = true) (hp : s.plan = []) (h0 : code ≠ 0) :
    ∃ q, v = .iface 72 (.pointer (some ⟨q, 0, none⟩)) ∧ ErrAt w' q (why a0 a1 a2 a3 a4 code) ∧ Live B (N + 1) w' p (fun i => K i ∨ i = q) s.tick a0 a1 a2 a3 a4 ∧ Step B K w w' := by
  obtain ⟨s', h1, h2, h4⟩ := h
  cases h4 with
  | down a b => rw [hr] at a; cases a
  | due a b c d e f => rw [hp] at b; cases b
  | err a b c d =>
    obtain ⟨q, e1, e2⟩ := d.at
    exact ⟨q, e1, e2, h1.keepErr e2, h2⟩
  | ok a b c d e => exact absurd c h0
theorem Live.sens (h : Live B N w p K s a0 a1 a2 a3 a4) : Sens w B a0 a1 a2 a3 a4 := by obtain ⟨F, m, pv, h1, h2, h3, h4, h5⟩ := h; exact h4
theorem Step.less {K' : Nat → Prop} {w' : World} (h : Step B K w w') (hk : ∀ i, K' i → K i) : Step B K' w w' := ⟨h.below, fun i hi => h.kept i (hk i hi)⟩
theorem appF_nil {x data : ByteArray} {n : Int} {fs' : List Fil} (h : AppF [] x data n fs') : ∃ b, fs' = [⟨x, b, cutD data n, 0⟩] := h
theorem app_code0 {s : St} {x data : ByteArray} (h1 : nameB x = true) (h2 : (data.size : Int) ≤ s.quota - used s.fs) : appC s x data = 0 := by
  unfold appC; rw [if_pos h1, if_neg (by omega)]
theorem app_code90 {s : St} {x data : ByteArray} (h1 : nameB x = false) : appC s x data = 90 := by
  unfold appC; rw [if_neg (by rw [h1]; decide)]
theorem there_code0 {fs : List Fil} {x : ByteArray} {f : Fil} (h1 : nameB x = true) (h2 : look fs x = some f) : thereC fs x = 0 := by
  unfold thereC; rw [if_pos h1, h2]; rfl
/-- The counters are small. -/
def Few (n : Nat) (s : St) : Prop := 0 ≤ s.steps ∧ s.steps ≤ n ∧ 0 ≤ s.since ∧ s.since ≤ n
theorem Few.small {n : Nat} (h : Few n s) (hn : n ≤ 1000000) : Small s := ⟨h.1, by have := h.2.1; omega, h.2.2.1, by have := h.2.2.2; omega⟩
theorem Few.fresh (q : Int) : Few 0 (St.fresh q) := ⟨Int.le_refl _, Int.le_refl _, Int.le_refl _, Int.le_refl _⟩
theorem Few.tick {n : Nat} (h : Few n s) : Few (n + 1) s.tick := by
  obtain ⟨h1, h2, h3, h4⟩ := h
  refine ⟨?_, ?_, ?_, ?_⟩ <;> simp only [St.tick] <;> omega
theorem Few.fs {n : Nat} (h : Few n s) (fs : List Fil) : Few n { s with fs := fs } := h
theorem lt_max {n : Nat} (h : n ≤ 1000000) : n < maxLen := by unfold maxLen; omega
theorem isIface25 : Tryd.prog.isIface 25 = true := by kernel_rfl
theorem look_one (f : Fil) : look [f] f.name = some f := by unfold look; rw [List.find?_cons, decide_eq_true rfl]
theorem used_one (f : Fil) : used [f] = f.bytes.size := by unfold used; simp
def helloF (b : Nat) : Fil := ⟨⟨#[97]⟩, b, ⟨#[104, 101, 108, 108, 111]⟩, 0⟩
theorem app0 : appC (St.fresh 10) ⟨#[97]⟩ ⟨#[104, 101, 108, 108, 111]⟩ = 0 := app_code0 name_a (by show (5 : Int) ≤ 10 - ((0 : Nat) : Int); decide)
set_option maxRecDepth 100000 in
set_option maxHeartbeats 1000000 in
theorem known_ok (hS : Sens w B a0 a1 a2 a3 a4) (hB : B ≤ w.heap.size) (hK : ∀ i, K i → i < w.heap.size) : Calls Tryd.prog 10 #[] w fun e w' => e = .returned (.bool true) ∧ Step B K w w' := by
  have hnot := not_run
  have hif := isIface25
  have HS : Hid _ := hS
  have HK : Hid _ := hK
  clear hS hK
  go_enter Tryd.func10, Tryd.ntmps10
  go_wp2_with fail
  refine (new_live 10 (by decide) (by decide) HS.out hB HK.out).mono ?_
  rintro e w1 ⟨rfl, l1, st1⟩
  go_wp2_with fail
  refine (append_live l1 (lt_max (by decide)) ((Few.fresh 10).small (by decide)) ⟨#[97]⟩ ⟨#[104, 101, 108, 108, 111]⟩ (by decide) (by decide)).mono ?_
  rintro e w2 ⟨v, rfl, hd⟩
  obtain ⟨rfl, fs2, hf2, l2, st2⟩ := hd.calm rfl rfl app0
  obtain ⟨b2, rfl⟩ := appF_nil hf2
  rw [cut_all] at l2
  clear hf2 hd
  go_wp2_with fail
  refine (append_live l2 (lt_max (by decide)) (((Few.fresh 10).tick.fs _).small (by decide)) ⟨#[65]⟩ ⟨#[120]⟩ (by decide) (by decide)).mono ?_
  rintro e w3 ⟨v, rfl, hd⟩
  obtain ⟨q, rfl, he, l3, st3⟩ := hd.calmErr rfl rfl (by rw [app_code90 name_up]; decide)
  rw [app_code90 name_up] at he
  clear hd
  go_wp2_with fail
  refine (read_live l3 ((((Few.fresh 10).tick.fs _).tick).small (by decide)) ⟨#[97]⟩ (by decide)).mono ?_
  rintro e w4 ⟨v, r, rfl, hd, ht⟩
  obtain ⟨rfl, fs4, hfs4, l4, st4⟩ := hd.calm rfl rfl (there_code0 (f := helloF b2) name_a (look_one (helloF b2)))
  obtain ⟨f4, hf4, rfl⟩ := ht.1 rfl
  have e4 : f4 = helloF b2 := Option.some.inj (hf4.symm.trans (look_one (helloF b2)))
  subst e4
  subst hfs4
  have hg1 := l4.sens.c1
  have he4 : ErrAt w4 q a1 := he.step st4 (.inr rfl)
  have hbl : (helloF b2).bytes.toList = [104, 101, 108, 108, 111] := by rw [ByteArray.toList_eq]; rfl
  obtain ⟨s4, l4, e4a, e4b⟩ : ∃ s4, Live B (0 + 1 + 1 + 1) w4 (w.heap.size + 1) (fun i => K i ∨ i = q) s4 a0 a1 a2 a3 a4 ∧ (used s4.fs : Int) = 5 ∧ s4.steps = 3 := ⟨_, l4, by show ((used [helloF b2] : Nat) : Int) = 5; rw [used_one]; rfl, rfl⟩
  have HST : Step B K w w4 := ((st1.trans st2).trans st3).trans (st4.less (fun i hi => .inl hi))
  clear st1 st2 st3 st4 hd ht hf4 he l1 l2 l3
  go_wp2_with fail
  refine (is_live l4 he4 (.inr (.inl rfl)) (.inr (.inl rfl))).mono ?_
  rw [decide_eq_true rfl]
  rintro e w5 ⟨rfl, h5⟩
  replace h5 := h5.symm
  subst h5
  go_wp2_with fail
  refine (used_live l4).mono ?_
  rintro e w6 ⟨rfl, l6, st6⟩
  go_wp2_with fail
  refine (steps_live l6).mono ?_
  rintro e w7 ⟨rfl, h7⟩
  replace h7 := h7.symm
  subst h7
  go_wp2_with fail
  go_ret
  exact ⟨rfl, HST.trans (st6.less (fun i hi => .inl hi))⟩
end Go.Proofs.YtkfehogefclhdaaDoor.Dk

/- DiskRenames' steps, without its text: what each call comes to. -/
namespace Go.Proofs.YtkfehogefclhdaaDoor.Dk
open Go.RowKit Go.Maps Go.Proofs.YtkfehogefclhdaaDoorW.PrintWords Go.Proofs.YtkfehogefclhdaaDoorW.PrintMore
variable {N : Nat} {w : World} {p : Nat} {F : Nat → Prop} {s : St} {m : Nat} {pv : Value} {B : Nat} {a0 a1 a2 a3 a4 : Addr} {K : Nat → Prop}

/-- The error at block q, and what it tells. -/
def Told1 (w' : World) (K : Nat → Prop) (q : Nat) (v : Value) (a : Addr) : Prop := v = .iface 72 (.pointer (some ⟨q, 0, none⟩)) ∧ ErrAt w' q a
theorem Did.dueNow {code : Int} {Pf : Int → List Fil → Prop} {Wf : List Fil → Prop} {v : Value} {w' : World} (h : Did B N w p K s a0 a1 a2 a3 a4 code Pf Wf v w') (hr : s.run = true) {x : Int × Int × Int} {rest : List (Int × Int × Int)} (hp : s.plan = x :: rest) (hx : x.1 = s.since + 1) :
    ∃ q fs', v = .iface 72 (.pointer (some ⟨q, 0, none⟩)) ∧ ErrAt w' q a0 ∧ (code = 0 → Pf x.2.1 fs') ∧ (code ≠ 0 → fs' = s.fs) ∧ Live B (N + 1) w' p (fun i => K i ∨ i = q) (s.halt rest fs' x.2.2) a0 a1 a2 a3 a4 ∧ Step B K w w' := by
  obtain ⟨s', h1, h2, h4⟩ := h
  have hd : Due s := ⟨x, rest, hp, hx⟩
  cases h4 with
  | down a b => rw [hr] at a; cases a
  | due a b c d e f =>
    rw [hp] at b
    injection b with b1 b2
    subst b1 b2
    obtain ⟨q, e1, e2⟩ := d.at
    exact ⟨q, _, e1, e2, e, f, h1.keepErr e2, h2⟩
  | err a b c d => exact absurd hd b
  | ok a b c d e => exact absurd hd b
theorem Did.notYet {code : Int} {Pf : Int → List Fil → Prop} {Wf : List Fil → Prop} {v : Value} {w' : World} (h : Did B N w p K s a0 a1 a2 a3 a4 code Pf Wf v w') (hr : s.run = true) {x : Int × Int × Int} {rest : List (Int × Int × Int)} (hp : s.plan = x :: rest) (hx : x.1 ≠ s.since + 1) (h0 : code = 0) :
    v = .nilIface ∧ ∃ fs', Wf fs' ∧ Live B (N + 1) w' p K { s.tick with fs := fs' } a0 a1 a2 a3 a4 ∧ Step B K w w' := by
  obtain ⟨s', h1, h2, h4⟩ := h
  cases h4 with
  | down a b => rw [hr] at a; cases a
  | due a b c d e f =>
    rw [hp] at b
    injection b with b1 b2
    subst b1
    exact absurd c hx
  | err a b c d => exact absurd h0 c
  | ok a b c d e => exact ⟨d, _, e, h1, h2⟩
theorem Did.downNow {code : Int} {Pf : Int → List Fil → Prop} {Wf : List Fil → Prop} {v : Value} {w' : World} (h : Did B N w p K s a0 a1 a2 a3 a4 code Pf Wf v w') (hr : s.run = false) :
    ∃ q, v = .iface 72 (.pointer (some ⟨q, 0, none⟩)) ∧ ErrAt w' q a0 ∧ Live B (N + 1) w' p (fun i => K i ∨ i = q) s a0 a1 a2 a3 a4 ∧ Step B K w w' := by
  obtain ⟨s', h1, h2, h4⟩ := h
  cases h4 with
  | down a b =>
    obtain ⟨q, e1, e2⟩ := b.at
    exact ⟨q, e1, e2, h1.keepErr e2, h2⟩
  | due a b c d e f => rw [hr] at a; cases a
  | err a b c d => rw [hr] at a; cases a
  | ok a b c d e => rw [hr] at a; cases a
theorem stopF_full {r : Int} {f : Fil} (h : f.dur = f.bytes.size) : stopF r f = f := by
  have e : keepN r f = f.bytes.size := by unfold keepN; omega
  cases f with
  | mk n b by' d =>
    unfold stopF
    rw [e]
    simp only [ByteArray.extract_zero_size]
    simp only at h
    rw [h]
abbrev box : ByteArray := ⟨#[98, 111, 120]⟩
abbrev tmp : ByteArray := ⟨#[98, 111, 120, 46, 116, 109, 112]⟩
abbrev nob : ByteArray := ⟨#[110, 111, 98, 111, 100, 121]⟩
theorem box_tmp : (box = tmp) = False := by simp [box, tmp]
theorem tmp_box : (tmp = box) = False := by simp [box, tmp]
/-- The two files, all durable. -/
def boxF (b : Nat) (d : ByteArray) : Fil := ⟨box, b, d, d.size⟩
def tmpF (b : Nat) (d : ByteArray) : Fil := ⟨tmp, b, d, d.size⟩
theorem look_box_one (b : Nat) (d : ByteArray) : look [boxF b d] box = some (boxF b d) := look_one (boxF b d)
theorem look_tmp_two (b b' : Nat) (d d' : ByteArray) : look [tmpF b' d', boxF b d] tmp = some (tmpF b' d') := by unfold look; rw [List.find?_cons, decide_eq_true (show (tmpF b' d').name = tmp from rfl)]
theorem look_box_two (b b' : Nat) (d d' : ByteArray) : look [tmpF b' d', boxF b d] box = some (boxF b d) := by
  unfold look
  rw [List.find?_cons, decide_eq_false (show ¬ (tmpF b' d').name = box from fun e => by have : tmp = box := e; rw [tmp_box] at this; exact this), List.find?_cons, decide_eq_true (show (boxF b d).name = box from rfl)]
theorem look_tmp_one (b : Nat) (d : ByteArray) : look [boxF b d] tmp = none := by
  unfold look
  rw [List.find?_cons, decide_eq_false (show ¬ (boxF b d).name = tmp from fun e => by have : box = tmp := e; rw [box_tmp] at this; exact this)]
  rfl
theorem ren_two {b b' : Nat} {d d' : ByteArray} {fs' : List Fil} (h : RenF [tmpF b' d', boxF b d] tmp box fs') : fs' = [boxF b' d'] := by
  obtain ⟨f, hf, rfl⟩ := h
  have e := Option.some.inj (hf.symm.trans (look_tmp_two b b' d d'))
  subst e
  have e1 : outF tmp [tmpF b' d', boxF b d] = [boxF b d] := by
    unfold outF
    rw [List.filter_cons, decide_eq_true (show (tmpF b' d').name = tmp from rfl), Bool.not_true, if_neg (by decide), List.filter_cons, decide_eq_false (show ¬ (boxF b d).name = tmp from fun e => by have : box = tmp := e; rw [box_tmp] at this; exact this)]
    rfl
  have e2 : outF box [boxF b d] = [] := by
    unfold outF
    rw [List.filter_cons, decide_eq_true (show (boxF b d).name = box from rfl)]
    rfl
  rw [e1, e2]; rfl
end Go.Proofs.YtkfehogefclhdaaDoor.Dk

/- DiskRenames' walk. -/
namespace Go.Proofs.YtkfehogefclhdaaDoor.Dk
open Go.RowKit Go.Maps Go.Proofs.YtkfehogefclhdaaDoorW.PrintWords Go.Proofs.YtkfehogefclhdaaDoorW.PrintMore
variable {N : Nat} {w : World} {p : Nat} {F : Nat → Prop} {s : St} {m : Nat} {pv : Value} {B : Nat} {a0 a1 a2 a3 a4 : Addr} {K : Nat → Prop}

theorem setF_one {x : ByteArray} {f f' : Fil} (h : f.name = x) : setF x f' [f] = [f'] := by unfold setF; rw [List.map_cons, if_pos h]; rfl
theorem app_two {x data : ByteArray} {f : Fil} {n : Int} {fs' : List Fil} (hl : look [f] x = none) (h : AppF [f] x data n fs') : ∃ b, fs' = [⟨x, b, cutD data n, 0⟩, f] := by
  unfold AppF at h; rw [hl] at h; exact h
theorem and1 (x : Int) : bits BinOp.and IntKind.i64 x 1 = 0 ∨ bits BinOp.and IntKind.i64 x 1 = 1 := by
  have h : ((BitVec.ofInt 64 x) &&& (BitVec.ofInt 64 1)).toNat = 0 ∨ ((BitVec.ofInt 64 x) &&& (BitVec.ofInt 64 1)).toNat = 1 := by
    rw [BitVec.toNat_and, show (BitVec.ofInt 64 1).toNat = 1 from rfl, Nat.and_one_is_mod]
    omega
  unfold bits
  rcases h with h | h
  · left; show IntKind.i64.wrap ((((BitVec.ofInt 64 x) &&& (BitVec.ofInt 64 1)).toNat : Nat) : Int) = 0; rw [h]; rfl
  · right; show IntKind.i64.wrap ((((BitVec.ofInt 64 x) &&& (BitVec.ofInt 64 1)).toNat : Nat) : Int) = 1; rw [h]; rfl
theorem k12 (x : Int) : ∃ k : Int, wrap64 (1 + bits BinOp.and IntKind.i64 x 1) = k ∧ (k = 1 ∨ k = 2) := by
  rcases and1 x with h | h <;> rw [h]
  · exact ⟨1, by unfold wrap64; decide, .inl rfl⟩
  · exact ⟨2, by unfold wrap64; decide, .inr rfl⟩
theorem Live.lt (h : Live B N w p K s a0 a1 a2 a3 a4) : p < w.heap.size := by obtain ⟨F, m, pv, h1, _⟩ := h; exact h1.low p h1.inP
theorem plan_one (w : World) (x : Int × Int × Int) : PlanIs (w.alloc (Obj.cells #[.int .i64 x.1, .int .i64 x.2.1, .int .i64 x.2.2] 32)) (fun i => i = w.heap.size) (.slice (some ⟨w.heap.size, 0, none⟩) [x].length 1) [x] := by
  have hb := blk_new w (Obj.cells #[.int .i64 x.1, .int .i64 x.2.1, .int .i64 x.2.2] 32)
  refine ⟨_, 1, rfl, Nat.le_refl _, by omega, fun i y hy => ?_⟩
  cases i with
  | zero => simp at hy; subst hy; exact ⟨_, 0, rfl, rfl, ⟨_, hb⟩, blk_cell hb 0, blk_cell hb 1, blk_cell hb 2⟩
  | succ i => simp at hy
/-- What the Rename and the Remove behind it come to. -/
theorem keep_one {k part rest : Int} (h : k = 1 ∨ k = 2) : keepS [(k, part, rest)] = [(k, part, rest)] := by
  unfold keepS
  rw [List.filter_cons, if_pos (decide_eq_true (by show k ≥ 1; omega))]; rfl
theorem look_nob_one (b : Nat) (d : ByteArray) : look [boxF b d] nob = none := by
  unfold look
  rw [List.find?_cons, decide_eq_false (show ¬ (boxF b d).name = nob from fun e => by have : box = nob := e; simp [box, nob] at this)]
  rfl
theorem few_start {n : Nat} (h : Few n s) (hr : s.run = false) (hn : n ≤ 6) : Few 6 s.start := by
  obtain ⟨h1, h2, h3, h4⟩ := h
  have e : s.start.since = 0 := by unfold St.start; rw [hr]; rfl
  exact ⟨h1, (by show s.steps ≤ 6; omega), by rw [e]; exact Int.le_refl _, by rw [e]; decide⟩
set_option maxRecDepth 100000 in
set_option maxHeartbeats 2000000 in
theorem renames_walk (hS : Sens w w.heap.size a0 a1 a2 a3 a4) (old data : ByteArray) (part rest at' : Int) (ho : ¬ old.size > 20000) (hd : ¬ data.size > 20000) :
    Calls Tryd.prog 3 #[.string old, .string data, .int .i64 part, .int .i64 rest, .int .i64 at'] w fun e w' => e = .returned (.bool true) ∧ Below w.heap.size w w' := by
  have hnot := not_run
  have hif := isIface25
  have HS : Hid _ := hS
  have ho2 : (20000 < old.size) = False := eq_false ho
  have hd2 : (20000 < data.size) = False := eq_false hd
  clear hS
  obtain ⟨k, hk, hk12⟩ := k12 at'
  have HK12 : Hid _ := hk12
  clear hk12
  go_enter Tryd.func3, Tryd.ntmps3
  go_wp2_with fail
  refine (known_ok (K := fun _ => False) HS.out (Nat.le_refl _) (fun i hi => hi.elim)).mono ?_
  rintro e w1 ⟨rfl, st1⟩
  go_wp2_with fail
  refine (new_live (K := fun _ => False) 100000 (by decide) (by decide) (HS.out.below st1.below) st1.below.size (fun i hi => hi.elim)).mono ?_
  rintro e w2 ⟨rfl, l2, st2⟩
  obtain ⟨p, hp⟩ : ∃ p, w1.heap.size + 1 = p := ⟨_, rfl⟩
  rw [hp] at l2 ⊢
  have st12 := st1.trans st2
  clear hp st1 st2
  go_wp2_with fail
  refine (append_live l2 (lt_max (by decide)) ((Few.fresh 100000).small (by decide)) box old (by decide) (by omega)).mono ?_
  rintro e w3 ⟨v, rfl, hdid⟩
  obtain ⟨rfl, fs3, hf3, l3, st3⟩ := hdid.calm rfl rfl (app_code0 name_box (by show (old.size : Int) ≤ 100000 - ((0 : Nat) : Int); omega))
  obtain ⟨b3, rfl⟩ := appF_nil hf3
  rw [cut_all] at l3
  clear hf3 hdid l2
  go_wp2_with fail
  refine (sync_live l3 (((Few.fresh 100000).tick.fs _).small (by decide)) box (by decide)).mono ?_
  rintro e w4 ⟨v, rfl, hdid⟩
  obtain ⟨rfl, fs4, hf4, l4, st4⟩ := hdid.calm rfl rfl (there_code0 (f := ⟨box, b3, old, 0⟩) name_box (look_one ⟨box, b3, old, 0⟩))
  obtain ⟨f4, hl4, rfl⟩ := hf4
  have e4 := Option.some.inj (hl4.symm.trans (look_one ⟨box, b3, old, 0⟩))
  subst e4
  rw [show setF box (syncFil ⟨box, b3, old, 0⟩) [⟨box, b3, old, 0⟩] = [boxF b3 old] from setF_one rfl] at l4
  clear hl4 hdid l3
  obtain ⟨s4, hs4, q4, r4, p4, f4, fw4⟩ : ∃ s4, Live w.heap.size (0 + 1 + 1) w4 p (fun _ => False) s4 a0 a1 a2 a3 a4 ∧ s4.quota = 100000 ∧ s4.run = true ∧ s4.plan = [] ∧ s4.fs = [boxF b3 old] ∧ Few 2 s4 := ⟨_, l4, rfl, rfl, rfl, rfl, ((Few.fresh 100000).tick.fs _).tick.fs _⟩
  have st124 := (st12.trans st3).trans st4
  clear l4 st12 st3 st4
  go_wp2_with fail
  refine (append_live hs4 (lt_max (by decide)) (fw4.small (by decide)) tmp data (by decide) (by omega)).mono ?_
  rintro e w5 ⟨v, rfl, hdid⟩
  obtain ⟨rfl, fs5, hf5, l5, st5⟩ := hdid.calm r4 p4 (app_code0 name_tmp (by rw [q4, f4, used_one]; show (data.size : Int) ≤ 100000 - (old.size : Int); omega))
  rw [f4] at hf5
  obtain ⟨b5, rfl⟩ := app_two (look_tmp_one b3 old) hf5
  rw [cut_all] at l5
  clear hf5 hdid hs4
  obtain ⟨s5, hs5, q5, r5, p5, f5, fw5⟩ : ∃ s5, Live w.heap.size (0 + 1 + 1 + 1) w5 p (fun _ => False) s5 a0 a1 a2 a3 a4 ∧ s5.quota = 100000 ∧ s5.run = true ∧ s5.plan = [] ∧ s5.fs = [⟨tmp, b5, data, 0⟩, boxF b3 old] ∧ Few 3 s5 := ⟨_, l5, q4, r4, p4, rfl, fw4.tick.fs _⟩
  have st15 := st124.trans st5
  clear l5 st124 st5 q4 r4 p4 f4 fw4
  have hl5 : look [⟨tmp, b5, data, 0⟩, boxF b3 old] tmp = some ⟨tmp, b5, data, 0⟩ := by unfold look; rw [List.find?_cons, decide_eq_true rfl]
  go_wp2_with fail
  refine (sync_live hs5 (fw5.small (by decide)) tmp (by decide)).mono ?_
  rintro e w6 ⟨v, rfl, hdid⟩
  obtain ⟨rfl, fs6, hf6, l6, st6⟩ := hdid.calm r5 p5 (there_code0 (f := ⟨tmp, b5, data, 0⟩) name_tmp (by rw [f5]; exact hl5))
  obtain ⟨f6, hl6, rfl⟩ := hf6
  rw [f5] at hl6 l6
  have e6 := Option.some.inj (hl6.symm.trans hl5)
  subst e6
  have e7 : setF tmp (syncFil ⟨tmp, b5, data, 0⟩) [⟨tmp, b5, data, 0⟩, boxF b3 old] = [tmpF b5 data, boxF b3 old] := by
    unfold setF
    rw [List.map_cons, if_pos rfl, List.map_cons, if_neg (show ¬ (boxF b3 old).name = tmp from fun e => by have : box = tmp := e; rw [box_tmp] at this; exact this)]
    rfl
  rw [e7] at l6
  clear hl6 hdid hs5 hl5 e7
  obtain ⟨s6, hs6, q6, r6, p6, f6, fw6⟩ : ∃ s6, Live w.heap.size (0 + 1 + 1 + 1 + 1) w6 p (fun _ => False) s6 a0 a1 a2 a3 a4 ∧ s6.quota = 100000 ∧ s6.run = true ∧ s6.plan = [] ∧ s6.fs = [tmpF b5 data, boxF b3 old] ∧ Few 4 s6 := ⟨_, l6, q5, r5, p5, rfl, fw5.tick.fs _⟩
  have st16 := st15.trans st6
  clear l6 st15 st6 q5 r5 p5 f5 fw5
  go_wp2_with fail
  obtain ⟨w7, hw7⟩ : ∃ w7, w6.alloc (Obj.cells #[.int .i64 k, .int .i64 part, .int .i64 rest] 32) = w7 := ⟨_, rfl⟩
  obtain ⟨l7, st7⟩ := hs6.drift (w' := w6.alloc (Obj.cells #[.int .i64 k, .int .i64 part, .int .i64 rest] 32)) ((Below.refl _ _).alloc (Nat.le_refl _) _)
  have hpl := plan_one w6 (k, part, rest)
  have hG7 : ∀ i, i = w6.heap.size → i < (w6.alloc (Obj.cells #[.int .i64 k, .int .i64 part, .int .i64 rest] 32)).heap.size ∧ i ≠ p := fun i hi => by have := hs6.lt; rw [hi]; exact ⟨by simp, by omega⟩
  rw [hw7] at l7 st7 hG7 ⊢
  have hpl7 : PlanIs w7 (fun i => i = w6.heap.size) (.slice (some ⟨w6.heap.size, 0, none⟩) [(k, part, rest)].length 1) [(k, part, rest)] := by rw [← hw7]; exact hpl
  refine (plan_live l7 [(k, part, rest)] hpl7 hG7 (show 1 ≤ 1000 by decide)).mono ?_
  rintro e w8 ⟨rfl, l8, st8⟩
  obtain ⟨s8, hs8, q8, r8, p8, f8, e8, fw8⟩ : ∃ s8, Live w.heap.size (0 + 1 + 1 + 1 + 1) w8 p (fun _ => False) s8 a0 a1 a2 a3 a4 ∧ s8.quota = 100000 ∧ s8.run = true ∧ s8.plan = [(k, part, rest)] ∧ s8.fs = [tmpF b5 data, boxF b3 old] ∧ s8.since = 0 ∧ Few 4 s8 := ⟨_, l8, q6, r6, keep_one HK12.out, f6, rfl, ⟨fw6.1, fw6.2.1, Int.le_refl _, by show (0 : Int) ≤ 4; decide⟩⟩
  have st18 := (st16.trans st7).trans st8
  clear hpl hpl7 hG7 l7 st7 hw7 l8 st8 st16 hs6 q6 r6 p6 f6 fw6
  go_wp2_with fail
  refine (rename_live hs8 (lt_max (by decide)) (fw8.small (by decide)) tmp box (by decide) (by decide)).mono ?_
  rintro e w9 ⟨v9, rfl, hdid⟩
  have hcode : renC s8.fs tmp box = 0 := by unfold renC; rw [if_pos ⟨name_tmp, name_box⟩, f8]; exact there_code0 name_tmp (look_tmp_two b3 b5 old data)
  rcases HK12.out with rfl | rfl
  · -- the stop comes at the Rename
    obtain ⟨q1, fs9, rfl, he9, hpf, _, l9, st9⟩ := hdid.dueNow r8 p8 (by rw [e8]; rfl)
    have hpf := hpf hcode
    clear hdid
    obtain ⟨s9, hs9, q9, r9, p9, f9, fw9⟩ : ∃ s9, Live w.heap.size (0 + 1 + 1 + 1 + 1 + 1) w9 p (fun i => False ∨ i = q1) s9 a0 a1 a2 a3 a4 ∧ s9.quota = 100000 ∧ s9.run = false ∧ s9.plan = [] ∧ s9.fs = fs9.map (stopF rest) ∧ Few 5 s9 := ⟨_, l9, q8, rfl, rfl, rfl, fw8.tick⟩
    clear l9
    go_wp2_with fail
    refine (remove_live hs9 (fw9.small (by decide)) nob (by decide)).mono ?_
    rintro e w10 ⟨v10, rfl, hdid⟩
    obtain ⟨q2, rfl, he10, l10, st10⟩ := hdid.downNow r9
    have he9' := he9.step st10 (.inr rfl)
    have g0 := l10.sens.c0
    clear hdid hs9
    go_wp2_with fail
    refine (is_live l10 he9' (.inl rfl) (.inl rfl)).mono ?_
    rw [decide_eq_true rfl]
    rintro e w11 ⟨rfl, h'⟩
    replace h' := h'.symm
    subst h'
    go_wp2_with fail
    refine (is_live l10 he10 (.inl rfl) (.inl rfl)).mono ?_
    rw [decide_eq_true rfl]
    rintro e w11 ⟨rfl, h'⟩
    replace h' := h'.symm
    subst h'
    go_wp2_with fail
    refine (down_live l10).mono ?_
    rw [r9]
    rintro e w11 ⟨rfl, h'⟩
    replace h' := h'.symm
    subst h'
    have stp10 := (st18.less (K' := fun _ => False) (fun i hi => hi)).trans (st9.trans (st10.less (K' := fun _ => False) (fun i hi => hi.elim)))
    by_cases hp1 : part ≥ 1
    · have hpb : decide (1 ≤ part) = true := decide_eq_true hp1
      have hfs : s9.fs = [boxF b5 data] := by
        unfold orF at hpf
        rw [if_pos hp1, f8] at hpf
        rw [f9, ren_two hpf, List.map_cons, stopF_full (show (boxF b5 data).dur = (boxF b5 data).bytes.size from rfl)]; rfl
      go_wp2_with fail
      refine (start_live l10).mono ?_
      rintro e w12 ⟨rfl, l12, st12⟩
      obtain ⟨s12, hs12, q12, r12, p12, f12, fw12⟩ : ∃ s12, Live w.heap.size _ w12 p _ s12 a0 a1 a2 a3 a4 ∧ s12.quota = 100000 ∧ s12.run = true ∧ s12.plan = [] ∧ s12.fs = [boxF b5 data] ∧ Few 6 s12 := ⟨_, l12, q9, rfl, p9, hfs, few_start fw9 r9 (by decide)⟩
      clear l12 l10
      go_wp2_with fail
      refine (read_live hs12 (fw12.small (by decide)) box (by decide)).mono ?_
      rintro e w13 ⟨v13, r, rfl, hdid, ht⟩
      obtain ⟨rfl, fs13, hf13, l13, st13⟩ := hdid.calm r12 p12 (there_code0 name_box (by rw [f12]; exact look_box_one b5 data))
      obtain ⟨f13, hf13', rfl⟩ := ht.1 rfl
      rw [f12] at hf13'
      have e13 := Option.some.inj (hf13'.symm.trans (look_box_one b5 data))
      subst e13
      rw [hf13] at l13
      obtain ⟨s13, hs13, q13, f13⟩ : ∃ s13, Live w.heap.size _ w13 p _ s13 a0 a1 a2 a3 a4 ∧ s13.quota = 100000 ∧ s13.fs = [boxF b5 data] := ⟨_, l13, q12, f12⟩
      have hby : (boxF b5 data).bytes = data := rfl
      have hsz : sizeF s13.fs tmp = -1 := by rw [f13]; unfold sizeF; rw [look_tmp_one]
      clear hdid ht hf13 hf13' l13 hs12
      have stAll := ((stp10.trans (st12.less (fun i hi => hi.elim))).trans (st13.less (fun i hi => hi.elim))).below
      go_wp2_with fail
      refine (size_live hs13 tmp (by decide)).mono ?_
      rw [hsz]
      rintro e w14 ⟨rfl, h'⟩
      replace h' := h'.symm
      subst h'
      go_wp2_with fail
      refine (quota_live hs13).mono ?_
      rw [q13]
      rintro e w15 ⟨rfl, h'⟩
      replace h' := h'.symm
      subst h'
      go_wp2_with fail
      go_ret
      exact ⟨rfl, stAll⟩
    · have hpb : decide (1 ≤ part) = false := decide_eq_false hp1
      have hfs : s9.fs = [tmpF b5 data, boxF b3 old] := by
        unfold orF at hpf
        rw [if_neg hp1, f8] at hpf
        rw [f9, hpf, List.map_cons, List.map_cons, stopF_full (show (tmpF b5 data).dur = (tmpF b5 data).bytes.size from rfl), stopF_full (show (boxF b3 old).dur = (boxF b3 old).bytes.size from rfl)]; rfl
      go_wp2_with fail
      refine (start_live l10).mono ?_
      rintro e w12 ⟨rfl, l12, st12⟩
      obtain ⟨s12, hs12, q12, r12, p12, f12, fw12⟩ : ∃ s12, Live w.heap.size _ w12 p _ s12 a0 a1 a2 a3 a4 ∧ s12.quota = 100000 ∧ s12.run = true ∧ s12.plan = [] ∧ s12.fs = [tmpF b5 data, boxF b3 old] ∧ Few 6 s12 := ⟨_, l12, q9, rfl, p9, hfs, few_start fw9 r9 (by decide)⟩
      clear l12 l10
      go_wp2_with fail
      refine (read_live hs12 (fw12.small (by decide)) box (by decide)).mono ?_
      rintro e w13 ⟨v13, r, rfl, hdid, ht⟩
      obtain ⟨rfl, fs13, hf13, l13, st13⟩ := hdid.calm r12 p12 (there_code0 name_box (by rw [f12]; exact look_box_two b3 b5 old data))
      obtain ⟨f13, hf13', rfl⟩ := ht.1 rfl
      rw [f12] at hf13'
      have e13 := Option.some.inj (hf13'.symm.trans (look_box_two b3 b5 old data))
      subst e13
      rw [hf13] at l13
      obtain ⟨s13, hs13, q13, f13⟩ : ∃ s13, Live w.heap.size _ w13 p _ s13 a0 a1 a2 a3 a4 ∧ s13.quota = 100000 ∧ s13.fs = [tmpF b5 data, boxF b3 old] := ⟨_, l13, q12, f12⟩
      have hby : (boxF b3 old).bytes = old := rfl
      have hsz : sizeF s13.fs tmp = (data.size : Int) := by rw [f13]; unfold sizeF; rw [look_tmp_two]; rfl
      clear hdid ht hf13 hf13' l13 hs12
      have stAll := ((stp10.trans (st12.less (fun i hi => hi.elim))).trans (st13.less (fun i hi => hi.elim))).below
      go_wp2_with fail
      refine (size_live hs13 tmp (by decide)).mono ?_
      rw [hsz]
      rintro e w14 ⟨rfl, h'⟩
      replace h' := h'.symm
      subst h'
      go_wp2_with fail
      refine (quota_live hs13).mono ?_
      rw [q13]
      rintro e w15 ⟨rfl, h'⟩
      replace h' := h'.symm
      subst h'
      go_wp2_with fail
      go_ret
      exact ⟨rfl, stAll⟩
  · -- .. or at what comes behind it
    obtain ⟨rfl, fs9, hpf, l9, st9⟩ := hdid.notYet r8 p8 (by rw [e8]; show (2 : Int) ≠ 0 + 1; decide) hcode
    rw [f8] at hpf
    have hpf := ren_two hpf
    subst hpf
    clear hdid
    obtain ⟨s9, hs9, q9, r9, p9, f9, e9, fw9⟩ : ∃ s9, Live w.heap.size (0 + 1 + 1 + 1 + 1 + 1) w9 p (fun _ => False) s9 a0 a1 a2 a3 a4 ∧ s9.quota = 100000 ∧ s9.run = true ∧ s9.plan = [(2, part, rest)] ∧ s9.fs = [boxF b5 data] ∧ s9.since = 1 ∧ Few 5 s9 := ⟨_, l9, q8, r8, p8, rfl, (by show s8.since + 1 = 1; rw [e8]; rfl), fw8.tick.fs _⟩
    clear l9
    go_wp2_with fail
    refine (remove_live hs9 (fw9.small (by decide)) nob (by decide)).mono ?_
    rintro e w10 ⟨v10, rfl, hdid⟩
    obtain ⟨q2, fs10, rfl, he10, _, hne10, l10, st10⟩ := hdid.dueNow r9 p9 (by rw [e9]; rfl)
    have hfs10 := hne10 (by unfold thereC; rw [if_pos name_nobody, f9, look_nob_one]; decide)
    rw [hfs10, f9] at l10
    obtain ⟨sA, hsA, qA, rA, pA, fA, fwA⟩ : ∃ sA, Live w.heap.size (0 + 1 + 1 + 1 + 1 + 1 + 1) w10 p (fun i => False ∨ i = q2) sA a0 a1 a2 a3 a4 ∧ sA.quota = 100000 ∧ sA.run = false ∧ sA.plan = [] ∧ sA.fs = [boxF b5 data] ∧ Few 6 sA := ⟨_, l10, q9, rfl, rfl, (by show [boxF b5 data].map (stopF rest) = _; rw [List.map_cons, stopF_full (show (boxF b5 data).dur = (boxF b5 data).bytes.size from rfl)]; rfl), fw9.tick⟩
    have g0 := hsA.sens.c0
    clear hdid hs9 l10 hne10 hfs10
    go_wp2_with fail
    refine (is_nil a0 _).mono ?_
    rintro e w11 ⟨rfl, h'⟩
    replace h' := h'.symm
    subst h'
    go_wp2_with fail
    refine (is_live hsA he10 (.inl rfl) (.inl rfl)).mono ?_
    rw [decide_eq_true rfl]
    rintro e w11 ⟨rfl, h'⟩
    replace h' := h'.symm
    subst h'
    go_wp2_with fail
    refine (down_live hsA).mono ?_
    rw [rA]
    rintro e w11 ⟨rfl, h'⟩
    replace h' := h'.symm
    subst h'
    have stp10 := (st18.less (K' := fun _ => False) (fun i hi => hi)).trans (st9.trans st10)
    go_wp2_with fail
    refine (start_live hsA).mono ?_
    rintro e w12 ⟨rfl, l12, st12⟩
    obtain ⟨s12, hs12, q12, r12, p12, f12, fw12⟩ : ∃ s12, Live w.heap.size _ w12 p _ s12 a0 a1 a2 a3 a4 ∧ s12.quota = 100000 ∧ s12.run = true ∧ s12.plan = [] ∧ s12.fs = [boxF b5 data] ∧ Few 6 s12 := ⟨_, l12, qA, rfl, pA, fA, few_start fwA rA (by decide)⟩
    clear l12 hsA
    go_wp2_with fail
    refine (read_live hs12 (fw12.small (by decide)) box (by decide)).mono ?_
    rintro e w13 ⟨v13, r, rfl, hdid, ht⟩
    obtain ⟨rfl, fs13, hf13, l13, st13⟩ := hdid.calm r12 p12 (there_code0 name_box (by rw [f12]; exact look_box_one b5 data))
    obtain ⟨f13, hf13', rfl⟩ := ht.1 rfl
    rw [f12] at hf13'
    have e13 := Option.some.inj (hf13'.symm.trans (look_box_one b5 data))
    subst e13
    rw [hf13] at l13
    obtain ⟨s13, hs13, q13, f13⟩ : ∃ s13, Live w.heap.size _ w13 p _ s13 a0 a1 a2 a3 a4 ∧ s13.quota = 100000 ∧ s13.fs = [boxF b5 data] := ⟨_, l13, q12, f12⟩
    have hby : (boxF b5 data).bytes = data := rfl
    have hsz : sizeF s13.fs tmp = -1 := by rw [f13]; unfold sizeF; rw [look_tmp_one]
    clear hdid ht hf13 hf13' l13 hs12
    have stAll := ((stp10.trans (st12.less (fun i hi => hi.elim))).trans (st13.less (fun i hi => hi.elim))).below
    go_wp2_with fail
    refine (size_live hs13 tmp (by decide)).mono ?_
    rw [hsz]
    rintro e w14 ⟨rfl, h'⟩
    replace h' := h'.symm
    subst h'
    go_wp2_with fail
    refine (quota_live hs13).mono ?_
    rw [q13]
    rintro e w15 ⟨rfl, h'⟩
    replace h' := h'.symm
    subst h'
    go_wp2_with fail
    go_ret
    exact ⟨rfl, stAll⟩
end Go.Proofs.YtkfehogefclhdaaDoor.Dk

/- DiskRenames, walked at every argument; the sentinels out of what is laid. -/
namespace Go.Proofs.YtkfehogefclhdaaDoor.Dk
open Go.RowKit Go.Maps Go.Proofs.YtkfehogefclhdaaDoorW.PrintWords Go.Proofs.YtkfehogefclhdaaDoorW.PrintMore
variable {w : World} {a0 a1 a2 a3 a4 : Addr}
set_option maxRecDepth 100000 in
set_option maxHeartbeats 2000000 in
theorem renames_long (hS : Sens w w.heap.size a0 a1 a2 a3 a4) (old data : ByteArray) (part rest at' : Int) (hlong : old.size > 20000 ∨ data.size > 20000) :
    Calls Tryd.prog 3 #[.string old, .string data, .int .i64 part, .int .i64 rest, .int .i64 at'] w fun e w' => e = .returned (.bool true) ∧ Below w.heap.size w w' := by
  have hnot := not_run
  have hif := isIface25
  have HS : Hid _ := hS
  clear hS
  go_enter Tryd.func3, Tryd.ntmps3
  go_wp2_with fail
  refine (known_ok (K := fun _ => False) HS.out (Nat.le_refl _) (fun i hi => hi.elim)).mono ?_
  rintro e w1 ⟨rfl, st1⟩
  go_wp2_with fail
  refine (new_live (K := fun _ => False) 100000 (by decide) (by decide) (HS.out.below st1.below) st1.below.size (fun i hi => hi.elim)).mono ?_
  rintro e w2 ⟨rfl, l2, st2⟩
  clear l2
  by_cases ho : old.size > 20000
  · have ho2 : 20000 < old.size := ho
    have ho3 : decide (20000 < old.size) = true := decide_eq_true ho
    have ho4 : decide (20000 < (old.size : Int)) = true := decide_eq_true (by omega)
    clear hlong
    go_wp2_with fail
    go_ret
    exact ⟨rfl, (st1.trans st2).below⟩
  · have hd : data.size > 20000 := by omega
    have ho3 : decide (20000 < old.size) = false := decide_eq_false ho
    have ho4 : decide (20000 < (old.size : Int)) = false := decide_eq_false (by omega)
    have hd3 : decide (20000 < data.size) = true := decide_eq_true hd
    have hd4 : decide (20000 < (data.size : Int)) = true := decide_eq_true (by omega)
    clear hlong
    go_wp2_with fail
    all_goals go_ret
    all_goals exact ⟨rfl, (st1.trans st2).below⟩
theorem star : "*" ++ "errors.errorString" = "*errors.errorString" := by decide
theorem rowErr (u : TypeId) (h : Tryd.prog.typeName? 3 u = some "*errors.errorString") : u = 179 :=
  typeName_ptr_named (nm := "errors.errorString") (by rw [star]; kernel_rfl) (by kernel_rfl) (by decide) u (by rw [star]; exact h)
theorem cells181 : Tryd.prog.cellsOf 181 = 1 := by kernel_rfl
theorem cells9 : Tryd.prog.cellsOf 9 = 1 := by kernel_rfl
theorem gn0 : Tryd.prog.globalNamed "postbag/api.WhyDown" = some 0 := by kernel_rfl
theorem gn1 : Tryd.prog.globalNamed "postbag/api.WhyName" = some 1 := by kernel_rfl
theorem gn2 : Tryd.prog.globalNamed "postbag/api.WhyRefused" = some 2 := by kernel_rfl
theorem gn3 : Tryd.prog.globalNamed "postbag/api.WhyMissing" = some 3 := by kernel_rfl
theorem gn4 : Tryd.prog.globalNamed "postbag/api.WhyQuota" = some 4 := by kernel_rfl
theorem gt0 : (Tryd.prog.globals[0]?).map (·.type) = some 25 := by kernel_rfl
theorem gt1 : (Tryd.prog.globals[1]?).map (·.type) = some 25 := by kernel_rfl
theorem gt2 : (Tryd.prog.globals[2]?).map (·.type) = some 25 := by kernel_rfl
theorem gt3 : (Tryd.prog.globals[3]?).map (·.type) = some 25 := by kernel_rfl
theorem gt4 : (Tryd.prog.globals[4]?).map (·.type) = some 25 := by kernel_rfl
set_option maxRecDepth 100000 in
theorem sens_of_laid {t1 t3 t4 t0 t2 : List UInt8} {W : World} (h : laidMet Tryd.prog [("postbag/api.WhyName", .iface "*errors.errorString" (.ptr (.agg [.lit (.string t1)]))), ("postbag/api.WhyMissing", .iface "*errors.errorString" (.ptr (.agg [.lit (.string t3)]))), ("postbag/api.WhyQuota", .iface "*errors.errorString" (.ptr (.agg [.lit (.string t4)]))), ("postbag/api.WhyDown", .iface "*errors.errorString" (.ptr (.agg [.lit (.string t0)]))), ("postbag/api.WhyRefused", .iface "*errors.errorString" (.ptr (.agg [.lit (.string t2)])))] W) :
    ∃ a0 a1 a2 a3 a4, Sens W W.heap.size a0 a1 a2 a3 a4 := by
  obtain ⟨ps, ⟨g1, y1, cs1, f1, p1, q1, hg1, ht1, hv1, hd1, ⟨g3, y3, cs3, f3, p3, q3, hg3, ht3, hv3, hd3, ⟨g4, y4, cs4, f4, p4, q4, hg4, ht4, hv4, hd4, ⟨g0, y0, cs0, f0, p0, q0, hg0, ht0, hv0, hd0, ⟨g2, y2, cs2, f2, p2, q2, hg2, ht2, hv2, hd2, _, e2⟩, e0⟩, e4⟩, e3⟩, e1⟩, hnd, hrows⟩ := h
  obtain rfl := Option.some.inj (gn0.symm.trans hg0)
  obtain rfl := Option.some.inj (gn1.symm.trans hg1)
  obtain rfl := Option.some.inj (gn2.symm.trans hg2)
  obtain rfl := Option.some.inj (gn3.symm.trans hg3)
  obtain rfl := Option.some.inj (gn4.symm.trans hg4)
  obtain rfl := Option.some.inj (gt0.symm.trans ht0)
  obtain rfl := Option.some.inj (gt1.symm.trans ht1)
  obtain rfl := Option.some.inj (gt2.symm.trans ht2)
  obtain rfl := Option.some.inj (gt3.symm.trans ht3)
  obtain rfl := Option.some.inj (gt4.symm.trans ht4)
  subst e2
  subst e0
  subst e4
  subst e3
  subst e1
  obtain ⟨l0⟩ := cs0
  obtain ⟨l1⟩ := cs1
  obtain ⟨l2⟩ := cs2
  obtain ⟨l3⟩ := cs3
  obtain ⟨l4⟩ := cs4
  have ok0 : ∀ u v, l0 = [.iface u v] → Value.okWide Tryd.prog W .any 0 u v := fun u v e => by
    subst e
    exact (hrows 0 0 (by simp [MemPlace.row])).2 u v (by simpa using World.var?_cell hg0 hv0 0)
  have ok1 : ∀ u v, l1 = [.iface u v] → Value.okWide Tryd.prog W .any 0 u v := fun u v e => by
    subst e
    exact (hrows 1 0 (by simp [MemPlace.row])).2 u v (by simpa using World.var?_cell hg1 hv1 0)
  have ok2 : ∀ u v, l2 = [.iface u v] → Value.okWide Tryd.prog W .any 0 u v := fun u v e => by
    subst e
    exact (hrows 2 0 (by simp [MemPlace.row])).2 u v (by simpa using World.var?_cell hg2 hv2 0)
  have ok3 : ∀ u v, l3 = [.iface u v] → Value.okWide Tryd.prog W .any 0 u v := fun u v e => by
    subst e
    exact (hrows 3 0 (by simp [MemPlace.row])).2 u v (by simpa using World.var?_cell hg3 hv3 0)
  have ok4 : ∀ u v, l4 = [.iface u v] → Value.okWide Tryd.prog W .any 0 u v := fun u v e => by
    subst e
    exact (hrows 4 0 (by simp [MemPlace.row])).2 u v (by simpa using World.var?_cell hg4 hv4 0)
  obtain ⟨a0, s0, rfl, hc0, hs0, hz0, rfl⟩ := errorString_of_trod Tryd.underlying25 rowErr Tryd.underlying179 Tryd.underlying181 rfl rfl Tryd.underlying9 cells181 cells9 hd0 ok0
  obtain ⟨a1, s1, rfl, hc1, hs1, hz1, rfl⟩ := errorString_of_trod Tryd.underlying25 rowErr Tryd.underlying179 Tryd.underlying181 rfl rfl Tryd.underlying9 cells181 cells9 hd1 ok1
  obtain ⟨a2, s2, rfl, hc2, hs2, hz2, rfl⟩ := errorString_of_trod Tryd.underlying25 rowErr Tryd.underlying179 Tryd.underlying181 rfl rfl Tryd.underlying9 cells181 cells9 hd2 ok2
  obtain ⟨a3, s3, rfl, hc3, hs3, hz3, rfl⟩ := errorString_of_trod Tryd.underlying25 rowErr Tryd.underlying179 Tryd.underlying181 rfl rfl Tryd.underlying9 cells181 cells9 hd3 ok3
  obtain ⟨a4, s4, rfl, hc4, hs4, hz4, rfl⟩ := errorString_of_trod Tryd.underlying25 rowErr Tryd.underlying179 Tryd.underlying181 rfl rfl Tryd.underlying9 cells181 cells9 hd4 ok4
  have k0 : ∃ c t, W.heap[a0.block]? = some (.cells c t (0, 0)) := (hrows a0.block a0.off (by simp [MemPlace.row])).1
  have k1 : ∃ c t, W.heap[a1.block]? = some (.cells c t (0, 0)) := (hrows a1.block a1.off (by simp [MemPlace.row])).1
  have k2 : ∃ c t, W.heap[a2.block]? = some (.cells c t (0, 0)) := (hrows a2.block a2.off (by simp [MemPlace.row])).1
  have k3 : ∃ c t, W.heap[a3.block]? = some (.cells c t (0, 0)) := (hrows a3.block a3.off (by simp [MemPlace.row])).1
  have k4 : ∃ c t, W.heap[a4.block]? = some (.cells c t (0, 0)) := (hrows a4.block a4.off (by simp [MemPlace.row])).1
  have v4 : W.cell? ⟨4, 0, none⟩ = some (.iface 179 (.pointer (some a4))) := by simpa using World.var?_cell hg4 hv4 0
  refine ⟨a0, a1, a2, a3, a4, by simpa using World.var?_cell hg0 hv0 0, by simpa using World.var?_cell hg1 hv1 0, by simpa using World.var?_cell hg2 hv2 0, by simpa using World.var?_cell hg3 hv3 0, v4, ?_, ?_, ?_, ?_, ?_, World.block_lt_of_cell? W _ v4⟩
  · rintro rfl; simp [MemPlace.row] at hnd
  · rintro rfl; simp [MemPlace.row] at hnd
  · rintro rfl; simp [MemPlace.row] at hnd
  · rintro rfl; simp [MemPlace.row] at hnd
  · have fin : ∀ {a : Addr}, (∃ c t, W.heap[a.block]? = some (.cells c t (0, 0))) → a.block < W.heap.size ∧ ∃ c t, W.heap[a.block]? = some (.cells c t (0, 0)) := fun {a} h => ⟨by obtain ⟨c, t, e⟩ := h; exact blk_lt e, h⟩
    intro a ha
    rcases ha with rfl | rfl | rfl | rfl | rfl
    · exact fin k0
    · exact fin k1
    · exact fin k2
    · exact fin k3
    · exact fin k4
end Go.Proofs.YtkfehogefclhdaaDoor.Dk
namespace Go.Proofs.YtkfehogefclhdaaDoor.Ext
/-- What the disk's laws lean on: the five sentinels. -/
def WPS (w : World) : Prop := ∃ a0 a1 a2 a3 a4, Dk.Sens w w.heap.size a0 a1 a2 a3 a4
end Go.Proofs.YtkfehogefclhdaaDoor.Ext
namespace Go.Proofs.YtkfehogefclhdaaDoor.PDr
open Go.RowKit
theorem postbaglaw9_DiskRenames.calls (_k : Nat) (a0 a1 : ByteArray) (a2 a3 a4 : Int) (r : Bool) (w : World) (h : r = true) (hw : Ext.WPS w) :
    Calls Tryd.prog 3 #[.string a0, .string a1, .int .i64 a2, .int .i64 a3, .int .i64 a4] w fun e w' => e = .returned (.bool r) ∧ Below w.heap.size w w' := by
  subst h
  obtain ⟨b0, b1, b2, b3, b4, hS⟩ := hw
  by_cases h1 : a0.size > 20000
  · exact Dk.renames_long hS a0 a1 a2 a3 a4 (.inl h1)
  · by_cases h2 : a1.size > 20000
    · exact Dk.renames_long hS a0 a1 a2 a3 a4 (.inr h2)
    · exact Dk.renames_walk hS a0 a1 a2 a3 a4 h1 h2
end Go.Proofs.YtkfehogefclhdaaDoor.PDr
namespace Go.Proofs.YtkfehogefclhdaaDoor.Pure
theorem DiskRenames (_a0 _a1 : ByteArray) (_a2 _a3 _a4 : Int) (_h0 : _a0.size ≤ 140737488351232) (_h1 : _a1.size ≤ 140737488351232) : ∃ _k : Nat, true = true := ⟨0, rfl⟩
end Go.Proofs.YtkfehogefclhdaaDoor.Pure

/- Truncate's closures. -/
namespace Go.Proofs.YtkfehogefclhdaaDoor.Dk
open Go.RowKit Go.Maps Go.Proofs.YtkfehogefclhdaaDoorW.PrintWords Go.Proofs.YtkfehogefclhdaaDoorW.PrintMore
variable {N : Nat} {w : World} {p : Nat} {F : Nat → Prop} {s : St} {m : Nat} {pv : Value} {B : Nat} {a0 a1 a2 a3 a4 : Addr}
attribute [local go_sem] max2_int min2_int max_two min_two

theorem ent82 : Enters Tryd.prog 82 := enters_of Tryd.func82 (by kernel_rfl) rfl
theorem ent83 : Enters Tryd.prog 83 := enters_of Tryd.func83 (by kernel_rfl) rfl
noncomputable def truC (fs : List Fil) (x : ByteArray) (n : Int) : Int := if thereC fs x ≠ 0 then thereC fs x else if n < 0 ∨ n > sizeF fs x then 3 else 0
def cutFil (f : Fil) (n : Nat) : Fil := { f with bytes := f.bytes.extract 0 n, dur := min f.dur n }
def TruF (fs : List Fil) (x : ByteArray) (n : Int) (fs' : List Fil) : Prop := ∃ f, look fs x = some f ∧ fs' = setF x (cutFil f n.toNat) fs
theorem cutFil_ok {f : Fil} {n : Nat} (hn : n ≤ f.bytes.size) : (cutFil f n).bytes.size = n := by
  show (f.bytes.extract 0 n).size = n
  rw [ByteArray.size_extract]; omega
/-- The state behind the two stores. -/
theorem Is.cut (h : Is N w p F s m pv) {x : ByteArray} {f : Fil} (hl : look s.fs x = some f) {n : Nat} (hn : n ≤ f.bytes.size) :
    Is N ((w.setCell ⟨f.blk, 0, none⟩ (.string (f.bytes.extract 0 n))).setCell ⟨f.blk, 1, none⟩ (.int .i64 ((min f.dur n : Nat) : Int))) p F { s with fs := setF x (cutFil f n) s.fs } m pv ∧
      Fr F w ((w.setCell ⟨f.blk, 0, none⟩ (.string (f.bytes.extract 0 n))).setCell ⟨f.blk, 1, none⟩ (.int .i64 ((min f.dur n : Nat) : Int))) := by
  have hm := (look_mem hl).1
  have he := h.each f hm
  have hset := blk_set (blk_set he 0 (.string (f.bytes.extract 0 n))) 1 (.int .i64 ((min f.dur n : Nat) : Int))
  have hsz := cutFil_ok hn
  refine ⟨h.setFile (f' := cutFil f n) hl rfl rfl (by omega) (by rw [hsz]; exact Nat.min_le_right _ _) hset (fun i hi => (Below.heap_setCell _ _ _ i hi).trans (Below.heap_setCell _ _ _ i hi)) (by simp [World.setCell]), ?_⟩
  exact ((Fr.refl F w).set (a := ⟨f.blk, 0, none⟩) (h.inF f hm) _).set (a := ⟨f.blk, 1, none⟩) (h.inF f hm) _
set_option maxRecDepth 100000 in
set_option maxHeartbeats 1000000 in
theorem tru_do (h : Is N w p F s m pv) (x : ByteArray) (hx : x.size ≤ 140737488351232) {n : Nat} {bd bx b2 : Nat} (kd : w.cell? ⟨bd, 0, none⟩ = some (.pointer (some ⟨p, 0, none⟩))) (kx : w.cell? ⟨bx, 0, none⟩ = some (.string x)) (ky : w.cell? ⟨b2, 0, none⟩ = some (.int .i64 n)) {f : Fil} (hl : look s.fs x = some f) (hn : n ≤ f.bytes.size) (nF : bd ≠ f.blk ∧ bx ≠ f.blk ∧ b2 ≠ f.blk) :
    Calls Tryd.prog 83 #[.pointer (some ⟨bd, 0, none⟩), .pointer (some ⟨bx, 0, none⟩), .pointer (some ⟨b2, 0, none⟩)] w fun e w' => e = .returned (.tuple #[]) ∧
      ∃ k, w' = ((w.setCell ⟨f.blk, 0, none⟩ (.string (f.bytes.extract 0 n))).setCell ⟨f.blk, 1, none⟩ (.int .i64 ((min f.dur n : Nat) : Int))).drewN k := by
  obtain ⟨c0, c1, c2, c3, c4, c5⟩ := h.cells
  have hm := (look_mem hl).1
  have he := h.each f hm
  have b0 := blk_cell he 0
  have bf := blk_frozen he
  simp only [List.getElem?_toArray, List.getElem?_cons_zero] at b0
  have hk1 : (Instr.lookup 75 (.map (some m)) (.string x) false).run Tryd.prog w.drew = .ok (.pointer (some ⟨f.blk, 0, none⟩)) w.drew := by
    have t := look_run (w := w.drew) (h.below (Below.refl _ _).drew).files (x := x) (by unfold maxLen; omega)
    unfold at' at t; rw [hl] at t; exact t
  have hz := used_mem hm
  have hr := h.room
  have hq := h.quo
  have hd := h.durs f hm
  obtain ⟨wd, hwd⟩ : ∃ wd, w.drew = wd := ⟨_, rfl⟩
  have kyd : wd.cell? ⟨b2, 0, none⟩ = some (.int .i64 n) := by rw [← hwd]; exact ky
  have b0d : wd.cell? ⟨f.blk, 0, none⟩ = some (.string f.bytes) := by rw [← hwd]; exact b0
  have bfd : ∀ i, wd.frozen? ⟨f.blk, i, none⟩ = false := fun i => by rw [← hwd]; exact bf i
  have hb5 := blk_set he 0 (.string (f.bytes.extract 0 n))
  obtain ⟨w5, hw5⟩ : ∃ w5, (wd.setCell ⟨f.blk, 0, none⟩ (.string (f.bytes.extract 0 n))).drew = w5 := ⟨_, rfl⟩
  have hb5' : w5.heap[f.blk]? = some (.cells #[.string (f.bytes.extract 0 n), .int .i64 f.dur] 81 (0, 0)) := by rw [← hw5, ← hwd]; exact hb5
  have y5 : w5.cell? ⟨b2, 0, none⟩ = some (.int .i64 n) := by rw [← hw5, ← hwd]; exact cell_of ky (Below.heap_setCell w ⟨f.blk, 0, none⟩ _ b2 nF.2.2)
  have d5 : w5.cell? ⟨f.blk, 1, none⟩ = some (.int .i64 f.dur) := blk_cell hb5' 1
  have z5 : ∀ i, w5.frozen? ⟨f.blk, i, none⟩ = false := blk_frozen hb5'
  have HW5 : Hid _ := hw5
  have HWD : Hid _ := hwd
  clear hwd hw5 hb5 hb5'
  go_enter Tryd.func83, Tryd.ntmps83
  go_wp2
  go_still_tail 6, (by kernel_rfl)
  all_goals go_wp2
  rw [show ({ heap := w.heap, tape := w.tape, drawn := w.drawn + 1, os := w.os, output := w.output } : World) = wd from HWD.out]
  go_still_tail 9, (by kernel_rfl)
  all_goals go_wp2
  rw [HW5.out]
  go_still_tail 9, (by kernel_rfl)
  all_goals go_wp2
  all_goals go_end0
  · refine ⟨rfl, 3, ?_⟩
    rw [show min f.dur n = n by omega, ← HW5.out, ← HWD.out]; rfl
  · refine ⟨rfl, 3, ?_⟩
    rw [show min f.dur n = f.dur by omega, ← HW5.out, ← HWD.out]; rfl
end Go.Proofs.YtkfehogefclhdaaDoor.Dk

/- Truncate's test. -/
namespace Go.Proofs.YtkfehogefclhdaaDoor.Dk
open Go.RowKit Go.Maps Go.Proofs.YtkfehogefclhdaaDoorW.PrintWords Go.Proofs.YtkfehogefclhdaaDoorW.PrintMore
variable {N : Nat} {w : World} {p : Nat} {F : Nat → Prop} {s : St} {m : Nat} {pv : Value} {B : Nat} {a0 a1 a2 a3 a4 : Addr}
set_option maxRecDepth 100000 in
set_option maxHeartbeats 1000000 in
theorem tru_may_err (h : Is N w p F s m pv) (x : ByteArray) (hx : x.size ≤ 140737488351232) {n : Int} {bd bx b2 : Nat} (kd : w.cell? ⟨bd, 0, none⟩ = some (.pointer (some ⟨p, 0, none⟩))) (kx : w.cell? ⟨bx, 0, none⟩ = some (.string x)) (hc : thereC s.fs x ≠ 0) :
    Calls Tryd.prog 82 #[.pointer (some ⟨bd, 0, none⟩), .pointer (some ⟨bx, 0, none⟩), .pointer (some ⟨b2, 0, none⟩)] w fun e w' => e = .returned (.int .i64 (truC s.fs x n)) ∧ Below w.heap.size w w' := by
  have e : truC s.fs x n = thereC s.fs x := by unfold truC; rw [if_pos hc]
  rw [e]
  have hcb : (thereC s.fs x == 0) = false := beq_eq_false_iff_ne.2 hc
  have hcb2 : (thereC s.fs x != 0) = true := bne_iff_ne.2 hc
  clear e
  go_enter Tryd.func82, Tryd.ntmps82
  go_wp2_with fail
  refine (there_ok h x hx).mono ?_
  rintro e w' ⟨rfl, hb⟩
  go_wp2
  go_ret
  exact ⟨rfl, hb⟩
set_option maxRecDepth 100000 in
set_option maxHeartbeats 1000000 in
theorem tru_may_neg (h : Is N w p F s m pv) (x : ByteArray) (hx : x.size ≤ 140737488351232) {n : Int} {bd bx b2 : Nat} (kd : w.cell? ⟨bd, 0, none⟩ = some (.pointer (some ⟨p, 0, none⟩))) (kx : w.cell? ⟨bx, 0, none⟩ = some (.string x)) (ky : w.cell? ⟨b2, 0, none⟩ = some (.int .i64 n)) (hc : thereC s.fs x = 0) (hn : n < 0) :
    Calls Tryd.prog 82 #[.pointer (some ⟨bd, 0, none⟩), .pointer (some ⟨bx, 0, none⟩), .pointer (some ⟨b2, 0, none⟩)] w fun e w' => e = .returned (.int .i64 (truC s.fs x n)) ∧ Below w.heap.size w w' := by
  have e : truC s.fs x n = 3 := by unfold truC; rw [if_neg (by rw [hc]; decide), if_pos (.inl hn)]
  rw [e]
  have hnb : decide (n < 0) = true := decide_eq_true hn
  clear e
  go_enter Tryd.func82, Tryd.ntmps82
  go_wp2_with fail
  refine (there_ok h x hx).mono ?_
  rw [hc]
  rintro e w' ⟨rfl, hb⟩
  have ky' := pw_cell_below hb ky
  go_wp2_with fail
  go_quiet (fail)
  go_wp2
  go_ret
  exact ⟨rfl, hb.trans (drewN_below _ _ |>.mono hb.size)⟩
set_option maxRecDepth 100000 in
set_option maxHeartbeats 1000000 in
theorem tru_may_pos (h : Is N w p F s m pv) (x : ByteArray) (hx : x.size ≤ 140737488351232) {n : Int} {bd bx b2 : Nat} (kd : w.cell? ⟨bd, 0, none⟩ = some (.pointer (some ⟨p, 0, none⟩))) (kx : w.cell? ⟨bx, 0, none⟩ = some (.string x)) (ky : w.cell? ⟨b2, 0, none⟩ = some (.int .i64 n)) (hc : thereC s.fs x = 0) (hn : ¬ n < 0) :
    Calls Tryd.prog 82 #[.pointer (some ⟨bd, 0, none⟩), .pointer (some ⟨bx, 0, none⟩), .pointer (some ⟨b2, 0, none⟩)] w fun e w' => e = .returned (.int .i64 (truC s.fs x n)) ∧ Below w.heap.size w w' := by
  obtain ⟨f, hl⟩ := there_zero hc
  have e : truC s.fs x n = if n > (f.bytes.size : Int) then 3 else 0 := by
    unfold truC sizeF; rw [if_neg (by rw [hc]; decide), hl]
    by_cases h2 : n > (f.bytes.size : Int)
    · rw [if_pos (.inr h2), if_pos h2]
    · rw [if_neg (fun e => by rcases e with e | e; exact hn e; exact h2 e), if_neg h2]
  obtain ⟨z, hz⟩ : ∃ z : Int, (if n > (f.bytes.size : Int) then (3 : Int) else 0) = z := ⟨_, rfl⟩
  rw [e, hz]
  have HZ : Hid _ := hz
  have hnb : decide (n < 0) = false := decide_eq_false hn
  clear e hz
  go_enter Tryd.func82, Tryd.ntmps82
  go_wp2_with fail
  refine (there_ok h x hx).mono ?_
  rw [hc]
  rintro e w' ⟨rfl, hb⟩
  have ky' := pw_cell_below hb ky
  have kd' := pw_cell_below hb kd
  have kx' := pw_cell_below hb kx
  have h' := h.below hb
  obtain ⟨c0, c1, c2, c3, c4, c5⟩ := h'.cells
  have b0 := blk_cell (h'.each f (look_mem hl).1) 0
  simp only [List.getElem?_toArray, List.getElem?_cons_zero] at b0
  have hk : ∀ k, (Instr.lookup 75 (.map (some m)) (.string x) false).run Tryd.prog (w'.drewN k) = .ok (.pointer (some ⟨f.blk, 0, none⟩)) (w'.drewN k) := fun k => by
    have t := look_run (h'.below (drewN_below w' k)).files (x := x) (by unfold maxLen; omega)
    unfold at' at t; rw [hl] at t; exact t
  go_wp2_with fail
  go_quiet (fail)
  go_wp2
  all_goals go_ret
  · exact ⟨by rw [← HZ.out, if_pos (by omega)]; rfl, hb.trans ((drewN_below _ _).mono hb.size)⟩
  · exact ⟨by rw [← HZ.out, if_neg (by omega)]; rfl, hb.trans ((drewN_below _ _).mono hb.size)⟩
end Go.Proofs.YtkfehogefclhdaaDoor.Dk

/- Truncate, whole. -/
namespace Go.Proofs.YtkfehogefclhdaaDoor.Dk
open Go.RowKit Go.Maps Go.Proofs.YtkfehogefclhdaaDoorW.PrintWords Go.Proofs.YtkfehogefclhdaaDoorW.PrintMore
variable {N : Nat} {w : World} {p : Nat} {F : Nat → Prop} {s : St} {m : Nat} {pv : Value} {B : Nat} {a0 a1 a2 a3 a4 : Addr}

theorem tru_may (h : Is N w p F s m pv) (x : ByteArray) (hx : x.size ≤ 140737488351232) {n : Int} {bd bx b2 : Nat} (kd : w.cell? ⟨bd, 0, none⟩ = some (.pointer (some ⟨p, 0, none⟩))) (kx : w.cell? ⟨bx, 0, none⟩ = some (.string x)) (ky : w.cell? ⟨b2, 0, none⟩ = some (.int .i64 n)) :
    Calls Tryd.prog 82 #[.pointer (some ⟨bd, 0, none⟩), .pointer (some ⟨bx, 0, none⟩), .pointer (some ⟨b2, 0, none⟩)] w fun e w' => e = .returned (.int .i64 (truC s.fs x n)) ∧ Below w.heap.size w w' := by
  by_cases hc : thereC s.fs x = 0
  · by_cases hn : n < 0
    · exact tru_may_neg h x hx kd kx ky hc hn
    · exact tru_may_pos h x hx kd kx ky hc hn
  · exact tru_may_err h x hx kd kx hc
theorem tru_zero {fs : List Fil} {x : ByteArray} {n : Int} (h : truC fs x n = 0) : ∃ f, look fs x = some f ∧ 0 ≤ n ∧ n ≤ f.bytes.size := by
  unfold truC at h
  by_cases hc : thereC fs x = 0
  · obtain ⟨f, hf⟩ := there_zero hc
    rw [if_neg (by rw [hc]; decide)] at h
    unfold sizeF at h
    rw [hf] at h
    by_cases h2 : n < 0 ∨ n > (f.bytes.size : Int)
    · rw [if_pos h2] at h; cases h
    · exact ⟨f, hf, by omega, by omega⟩
  · rw [if_pos hc] at h; exact absurd h hc
theorem tru_clo {w5 : World} (h : Is N w5 p F s m pv) (x : ByteArray) (n : Int) (hx : x.size ≤ 140737488351232)
    {bd bx b2 bo : Nat} (kd : w5.cell? ⟨bd, 0, none⟩ = some (.pointer (some ⟨p, 0, none⟩))) (kx : w5.cell? ⟨bx, 0, none⟩ = some (.string x)) (ky : w5.cell? ⟨b2, 0, none⟩ = some (.int .i64 n))
    (ko : w5.cell? ⟨bo, 0, none⟩ = some (.func (.func 83) #[] #[.pointer (some ⟨bd, 0, none⟩), .pointer (some ⟨bx, 0, none⟩), .pointer (some ⟨b2, 0, none⟩)])) (nF : ∀ i, i = bd ∨ i = bx ∨ i = b2 ∨ i = bo → ¬ F i) :
    Clo N w5 p F (fun i => i = bd ∨ i = bx ∨ i = b2 ∨ i = bo) s m (truC s.fs x n) 82 83 81 #[.pointer (some ⟨bd, 0, none⟩), .pointer (some ⟨bx, 0, none⟩), .pointer (some ⟨b2, 0, none⟩)] #[.pointer (some ⟨bd, 0, none⟩), .pointer (some ⟨bx, 0, none⟩), .pointer (some ⟨b2, 0, none⟩)] #[.pointer (some ⟨bo, 0, none⟩)]
      (orF s.fs (TruF s.fs x n)) (TruF s.fs x n) (fun _ => True) (fun _ => False) := by
  have hsep : ∀ i, (i = bd ∨ i = bx ∨ i = b2 ∨ i = bo) → i < w5.heap.size ∧ ¬ F i := fun i hi => ⟨by
    rcases hi with rfl | rfl | rfl | rfl
    · exact World.block_lt_of_cell? w5 _ kd
    · exact World.block_lt_of_cell? w5 _ kx
    · exact World.block_lt_of_cell? w5 _ ky
    · exact World.block_lt_of_cell? w5 _ ko, nF i hi⟩
  have hdo : truC s.fs x n = 0 → ∀ w1 s1 pv1, On N w5 p F (fun i => i = bd ∨ i = bx ∨ i = b2 ∨ i = bo) s m w1 s1 pv1 → Calls Tryd.prog 83 #[.pointer (some ⟨bd, 0, none⟩), .pointer (some ⟨bx, 0, none⟩), .pointer (some ⟨b2, 0, none⟩)] w1 fun e w' => e = .returned (.tuple #[]) ∧ ∃ F' fs', TruF s.fs x n fs' ∧ Is (N + 1) w' p F' { s1 with fs := fs' } m pv1 ∧ Fr F w1 w' ∧ Sub w1 F F' := by
    intro h0 w1 s1 pv1 on
    obtain ⟨f, hf, hn0, hn1⟩ := tru_zero h0
    have hl1 : look s1.fs x = some f := by rw [on.fs]; exact hf
    have hFb := on.is.inF f (look_mem hl1).1
    obtain ⟨n2, rfl⟩ : ∃ n2 : Nat, n = n2 := ⟨n.toNat, by omega⟩
    refine (tru_do on.is x hx (n := n2) (cell_of kd (on.cap bd (.inl rfl))) (cell_of kx (on.cap bx (.inr (.inl rfl)))) (cell_of ky (on.cap b2 (.inr (.inr (.inl rfl))))) hl1 (by omega) ⟨fun e => nF bd (.inl rfl) (e ▸ hFb), fun e => nF bx (.inr (.inl rfl)) (e ▸ hFb), fun e => nF b2 (.inr (.inr (.inl rfl))) (e ▸ hFb)⟩).mono ?_
    rintro e w' ⟨rfl, k, rfl⟩
    obtain ⟨q1, q2⟩ := on.is.cut hl1 (n := n2) (by omega)
    have q3 : Fr F w1 (((w1.setCell ⟨f.blk, 0, none⟩ (.string (f.bytes.extract 0 n2))).setCell ⟨f.blk, 1, none⟩ (.int .i64 ((min f.dur n2 : Nat) : Int))).drewN k) := ⟨q2.os, q2.tape, q2.output, q2.size, q2.block⟩
    exact ⟨rfl, F, _, ⟨f, hf, rfl⟩, by rw [← on.fs]; exact (q1.below (drewN_below _ k)).more, q3, Sub.refl _ _⟩
  exact {
    may := fun w1 s1 pv1 on => by
      rw [← on.fs]
      exact tru_may on.is x hx (cell_of kd (on.cap bd (.inl rfl))) (cell_of kx (on.cap bx (.inr (.inl rfl)))) (cell_of ky (on.cap b2 (.inr (.inr (.inl rfl)))))
    part := fun h0 w1 s1 pv1 n1 on => by
      have ko' := cell_of ko (on.cap bo (.inr (.inr (.inr rfl))))
      by_cases hn : n1 ≥ 1
      · refine (or_yes ent83 ko' hn (hdo h0 w1 s1 pv1 on)).mono ?_
        rintro e w' ⟨rfl, F', fs', h1, h2, h3, h4⟩
        exact ⟨rfl, F', fs', by unfold orF; rw [if_pos hn]; exact h1, h2, h3, h4⟩
      · refine (or_no hn).mono ?_
        rintro e w' ⟨rfl, rfl⟩
        refine ⟨rfl, F, s.fs, by unfold orF; rw [if_neg hn], ?_, Fr.refl _ _, Sub.refl _ _⟩
        have t := on.is.more
        have e1 : ({ s1 with fs := s.fs } : St) = s1 := by rw [← on.fs]
        rw [e1]; exact t
    whole := fun h0 w1 s1 pv1 on => by
      refine (hdo h0 w1 s1 pv1 on).mono ?_
      rintro e w' ⟨rfl, F', fs', h1, h2, h3, h4⟩
      exact ⟨rfl, F', fs', h1, h2, h3.or _, h4, trivial⟩
    em := ent82
    ew := ent83
    ep := ent81
    sep := hsep }
set_option maxRecDepth 100000 in
set_option maxHeartbeats 1000000 in
theorem truncate_ok (h : Is N w p F s m pv) (hS : Sens w B a0 a1 a2 a3 a4) (hB : ∀ i, F i → B ≤ i) (hs0 : 0 ≤ s.steps) (hs1 : s.steps < 1000000000000) (hs2 : 0 ≤ s.since) (hs3 : s.since < 1000000000000) (x : ByteArray) (n : Int) (hx : x.size ≤ 140737488351232) :
    Calls Tryd.prog 61 #[.pointer (some ⟨p, 0, none⟩), .string x, .int .i64 n] w fun e w' => ∃ v, e = .returned v ∧ OpRes N w p F s m a0 a1 a2 a3 a4 (truC s.fs x n) (orF s.fs (TruF s.fs x n)) (TruF s.fs x n) v w' := by
  have hmf : ∀ (fn : Fn) (first cap : Array Value) (w : World), (Instr.makeFunc fn first cap).run Tryd.prog w = .ok (.func fn first cap) w := fun _ _ _ _ => rfl
  obtain ⟨o1, ho1⟩ : ∃ o, o = Obj.cells #[.pointer (some ⟨p, 0, none⟩)] 23 := ⟨_, rfl⟩
  obtain ⟨o2, ho2⟩ : ∃ o, o = Obj.cells #[.string x] 9 := ⟨_, rfl⟩
  obtain ⟨o3, ho3⟩ : ∃ o, o = Obj.cells #[.int .i64 n] 3 := ⟨_, rfl⟩
  obtain ⟨o4, ho4⟩ : ∃ o, o = Obj.cells #[.func (.func 83) #[] #[.pointer (some ⟨w.heap.size, 0, none⟩), .pointer (some ⟨w.heap.size + 1, 0, none⟩), .pointer (some ⟨w.heap.size + 1 + 1, 0, none⟩)]] 1 := ⟨_, rfl⟩
  have z1 : (w.alloc o1).heap.size = w.heap.size + 1 := by simp
  have z2 : ((w.alloc o1).alloc o2).heap.size = w.heap.size + 1 + 1 := by simp
  have z3 : (((w.alloc o1).alloc o2).alloc o3).heap.size = w.heap.size + 1 + 1 + 1 := by simp
  have b1 := blk_new w o1
  have b2 := blk_new (w.alloc o1) o2
  have b3 := blk_new ((w.alloc o1).alloc o2) o3
  have b4 := blk_new (((w.alloc o1).alloc o2).alloc o3) o4
  rw [z1] at b2
  rw [z2] at b3
  rw [z3] at b4
  have hW : Below w.heap.size w ((((w.alloc o1).alloc o2).alloc o3).alloc o4).drew := (((((Below.refl _ w).alloc (Nat.le_refl _) o1).alloc (by rw [z1]; omega) o2).alloc (by rw [z2]; omega) o3).alloc (by rw [z3]; omega) o4).drew
  have c1 := blk_alloc (blk_alloc b1 o2) o3
  have c2 := blk_alloc b2 o3
  have b1' := blk_alloc (blk_alloc (blk_alloc b1 o2) o3) o4
  have b2' := blk_alloc (blk_alloc b2 o3) o4
  have b3' := blk_alloc b3 o4
  subst ho1 ho2 ho3 ho4
  have g1 := blk_cell c1 0
  have g2 := blk_cell c2 0
  simp only [List.getElem?_toArray, List.getElem?_cons_zero] at g1 g2
  have hcl := tru_clo (w5 := (((((w.alloc (Obj.cells #[.pointer (some ⟨p, 0, none⟩)] 23)).alloc (Obj.cells #[.string x] 9)).alloc (Obj.cells #[.int .i64 n] 3)).alloc (Obj.cells #[.func (.func 83) #[] #[.pointer (some ⟨w.heap.size, 0, none⟩), .pointer (some ⟨w.heap.size + 1, 0, none⟩), .pointer (some ⟨w.heap.size + 1 + 1, 0, none⟩)]] 1)).drew)) (h.below hW) x n hx (bd := w.heap.size) (bx := w.heap.size + 1) (b2 := w.heap.size + 1 + 1) (bo := w.heap.size + 1 + 1 + 1) (blk_cell b1' 0) (blk_cell b2' 0) (blk_cell b3' 0) (blk_cell b4 0) (fun i hi hF => by have := h.low i hF; omega)
  obtain ⟨w3, hw3⟩ : ∃ w3, (((w.alloc (Obj.cells #[.pointer (some ⟨p, 0, none⟩)] 23)).alloc (Obj.cells #[.string x] 9)).alloc (Obj.cells #[.int .i64 n] 3)) = w3 := ⟨_, rfl⟩
  rw [hw3] at g1 g2 z3
  clear b1 b2 b3 b4 b1' b2' b3' c1 c2
  have hS' := hS.below (hW.mono (Nat.le_trans (hB p h.inP) (Nat.le_of_lt (h.low p h.inP))))
  have hop := op_any (h.below hW) hS' hB hs0 hs1 hs2 hs3 ⟨#[116, 114, 117, 110, 99, 97, 116, 101]⟩ x hcl
  have hW2 := hW
  rw [hw3] at hop hW2
  have HOP : Hid _ := hop
  have HW : Hid _ := hW2
  have HW3 : Hid _ := hw3
  clear hop hcl hW hW2 hS' hw3 z1 z2
  have al : ∀ (o : Obj) {b : Nat} {v : Value}, w3.cell? ⟨b, 0, none⟩ = some v → (w3.alloc o).drew.cell? ⟨b, 0, none⟩ = some v := fun o b v hv => (World.cell?_alloc_past _ _ _ (World.block_lt_of_cell? w3 _ hv)).trans hv
  have nF1 : ¬ F w.heap.size := fun e => by have := h.low _ e; omega
  have nF2 : ¬ F (w.heap.size + 1) := fun e => by have := h.low _ e; omega
  go_enter Tryd.func61, Tryd.ntmps61
  go_wp2
  rw [HW3.out]
  go_region_held3 (fun W => W.cell? ⟨w.heap.size, 0, none⟩ = some (.pointer (some ⟨p, 0, none⟩)) ∧ W.cell? ⟨w.heap.size + 1, 0, none⟩ = some (.string x))
    (first | exact ⟨g1, g2⟩ | exact ⟨al _ g1, al _ g2⟩ | exact ⟨r1, r2⟩)
    (first
    | (go_at_call 54; refine (or_ok _ _ _).mono ?_; rintro e w' ⟨rfl, rfl⟩; rw [show w3.drew.heap.size = w.heap.size + 1 + 1 + 1 from z3])
    | (go_at_call 46; refine Calls.mono HOP.out ?_; rintro e w' ⟨v, rfl, hres⟩; have r1 := hres.kept (al _ g1) nF1; have r2 := hres.kept (al _ g2) nF2))
  all_goals (try go_wp2)
  all_goals go_ret
  all_goals exact ⟨v, rfl, hres.opRes HW.out (fun i hi => hi.elim)⟩
end Go.Proofs.YtkfehogefclhdaaDoor.Dk

/- An operation of a script, for the laws that play one. -/
namespace Go.Proofs.YtkfehogefclhdaaDoor.Dk
open Go.RowKit Go.Maps Go.Proofs.YtkfehogefclhdaaDoorW.PrintWords Go.Proofs.YtkfehogefclhdaaDoorW.PrintMore
variable {N : Nat} {w : World} {p : Nat} {F : Nat → Prop} {s : St} {m : Nat} {pv : Value} {B : Nat} {a0 a1 a2 a3 a4 : Addr} {K : Nat → Prop}
theorem truncate_live (h : Live B N w p K s a0 a1 a2 a3 a4) (hs : Small s) (x : ByteArray) (n : Int) (hx : x.size ≤ 140737488351232) :
    Calls Tryd.prog 61 #[.pointer (some ⟨p, 0, none⟩), .string x, .int .i64 n] w fun e w' => ∃ v, e = .returned v ∧ Did B N w p K s a0 a1 a2 a3 a4 (truC s.fs x n) (orF s.fs (TruF s.fs x n)) (TruF s.fs x n) v w' := by
  obtain ⟨F, m, pv, h1, h2, h3, h4, h5⟩ := h
  refine (truncate_ok h1 h4 (fun i hi => (h2 i hi).1) hs.s0 hs.s1 hs.s2 hs.s3 x n hx).mono ?_
  rintro e w' ⟨v, rfl, hr⟩
  exact ⟨v, rfl, hr.did h2 h3 h4 h5⟩
/-- An act. -/
structure Act7 where
  kind : Int
  on : Int
  name : ByteArray
  dest : ByteArray
  data : ByteArray
  n : Int
  stops : Value
def Act7.cells (a : Act7) : Array Value := #[.int .i64 a.kind, .int .i64 a.on, .string a.name, .string a.dest, .string a.data, .int .i64 a.n, a.stops]
set_option maxRecDepth 100000 in
theorem does_1 (h : Live B N w p K s a0 a1 a2 a3 a4) (hN : N < maxLen) (hs : Small s) (a : Act7) (hk : a.kind = 1) (hx : a.name.size ≤ 140737488351232) (hd : a.data.size ≤ 140737488351232) :
    Calls Tryd.prog 23 #[.pointer (some ⟨p, 0, none⟩), .agg #[.int .i64 a.kind, .int .i64 a.on, .string a.name, .string a.dest, .string a.data, .int .i64 a.n, a.stops]] w fun e w' => ∃ v, e = .returned (.tuple #[.string ⟨#[]⟩, v]) ∧ ∃ w1, Below w.heap.size w w1 ∧ Did B N w1 p K s a0 a1 a2 a3 a4 (appC s a.name a.data) (AppF s.fs a.name a.data) (AppF s.fs a.name a.data a.data.size) v w' := by
  obtain ⟨l1, st1⟩ := h.drift (w' := w.alloc (Obj.cells #[.int .i64 a.kind, .int .i64 a.on, .string a.name, .string a.dest, .string a.data, .int .i64 a.n, a.stops] 42)) ((Below.refl _ _).alloc (Nat.le_refl _) _)
  have hkb : (a.kind == 1) = true := beq_iff_eq.2 hk
  rw [hk] at l1 ⊢
  clear st1 h
  go_enter Tryd.func23, Tryd.ntmps23
  go_wp2_with fail
  refine (append_live l1 hN hs a.name a.data hx hd).mono ?_
  rintro e w' ⟨v, rfl, hdid⟩
  go_wp2_with fail
  go_ret2
  exact ⟨v, rfl, _, (Below.refl _ _).alloc (Nat.le_refl _) _, hdid⟩
set_option maxRecDepth 100000 in
theorem does_2 (h : Live B N w p K s a0 a1 a2 a3 a4) (hN : N < maxLen) (hs : Small s) (a : Act7) (hk : a.kind = 2) (hx : a.name.size ≤ 140737488351232) :
    Calls Tryd.prog 23 #[.pointer (some ⟨p, 0, none⟩), .agg #[.int .i64 a.kind, .int .i64 a.on, .string a.name, .string a.dest, .string a.data, .int .i64 a.n, a.stops]] w fun e w' => ∃ v, e = .returned (.tuple #[.string ⟨#[]⟩, v]) ∧ ∃ w1, Below w.heap.size w w1 ∧ Did B N w1 p K s a0 a1 a2 a3 a4 (thereC s.fs a.name) (orF s.fs (SyncF s.fs a.name)) (SyncF s.fs a.name) v w' := by
  obtain ⟨l1, st1⟩ := h.drift (w' := w.alloc (Obj.cells #[.int .i64 a.kind, .int .i64 a.on, .string a.name, .string a.dest, .string a.data, .int .i64 a.n, a.stops] 42)) ((Below.refl _ _).alloc (Nat.le_refl _) _)
  rw [hk] at l1 ⊢
  clear st1 h
  go_enter Tryd.func23, Tryd.ntmps23
  go_wp2_with fail
  refine (sync_live l1 hs a.name hx).mono ?_
  rintro e w' ⟨v, rfl, hdid⟩
  go_wp2_with fail
  go_ret2
  exact ⟨v, rfl, _, (Below.refl _ _).alloc (Nat.le_refl _) _, hdid⟩
set_option maxRecDepth 100000 in
theorem does_4 (h : Live B N w p K s a0 a1 a2 a3 a4) (hN : N < maxLen) (hs : Small s) (a : Act7) (hk : a.kind = 4) (hx : a.name.size ≤ 140737488351232) (hy : a.dest.size ≤ 140737488351232) :
    Calls Tryd.prog 23 #[.pointer (some ⟨p, 0, none⟩), .agg #[.int .i64 a.kind, .int .i64 a.on, .string a.name, .string a.dest, .string a.data, .int .i64 a.n, a.stops]] w fun e w' => ∃ v, e = .returned (.tuple #[.string ⟨#[]⟩, v]) ∧ ∃ w1, Below w.heap.size w w1 ∧ Did B N w1 p K s a0 a1 a2 a3 a4 (renC s.fs a.name a.dest) (orF s.fs (RenF s.fs a.name a.dest)) (RenF s.fs a.name a.dest) v w' := by
  obtain ⟨l1, st1⟩ := h.drift (w' := w.alloc (Obj.cells #[.int .i64 a.kind, .int .i64 a.on, .string a.name, .string a.dest, .string a.data, .int .i64 a.n, a.stops] 42)) ((Below.refl _ _).alloc (Nat.le_refl _) _)
  rw [hk] at l1 ⊢
  clear st1 h
  go_enter Tryd.func23, Tryd.ntmps23
  go_wp2_with fail
  refine (rename_live l1 hN hs a.name a.dest hx hy).mono ?_
  rintro e w' ⟨v, rfl, hdid⟩
  go_wp2_with fail
  go_ret2
  exact ⟨v, rfl, _, (Below.refl _ _).alloc (Nat.le_refl _) _, hdid⟩
set_option maxRecDepth 100000 in
theorem does_5 (h : Live B N w p K s a0 a1 a2 a3 a4) (hN : N < maxLen) (hs : Small s) (a : Act7) (hk : a.kind = 5) (hx : a.name.size ≤ 140737488351232) :
    Calls Tryd.prog 23 #[.pointer (some ⟨p, 0, none⟩), .agg #[.int .i64 a.kind, .int .i64 a.on, .string a.name, .string a.dest, .string a.data, .int .i64 a.n, a.stops]] w fun e w' => ∃ v, e = .returned (.tuple #[.string ⟨#[]⟩, v]) ∧ ∃ w1, Below w.heap.size w w1 ∧ Did B N w1 p K s a0 a1 a2 a3 a4 (thereC s.fs a.name) (orF s.fs (fun fs' => fs' = outF a.name s.fs)) (fun fs' => fs' = outF a.name s.fs) v w' := by
  obtain ⟨l1, st1⟩ := h.drift (w' := w.alloc (Obj.cells #[.int .i64 a.kind, .int .i64 a.on, .string a.name, .string a.dest, .string a.data, .int .i64 a.n, a.stops] 42)) ((Below.refl _ _).alloc (Nat.le_refl _) _)
  rw [hk] at l1 ⊢
  clear st1 h
  go_enter Tryd.func23, Tryd.ntmps23
  go_wp2_with fail
  refine (remove_live l1 hs a.name hx).mono ?_
  rintro e w' ⟨v, rfl, hdid⟩
  go_wp2_with fail
  go_ret2
  exact ⟨v, rfl, _, (Below.refl _ _).alloc (Nat.le_refl _) _, hdid⟩
set_option maxRecDepth 100000 in
theorem does_6 (h : Live B N w p K s a0 a1 a2 a3 a4) (hN : N < maxLen) (hs : Small s) (a : Act7) (hk : a.kind = 6) (hx : a.name.size ≤ 140737488351232) :
    Calls Tryd.prog 23 #[.pointer (some ⟨p, 0, none⟩), .agg #[.int .i64 a.kind, .int .i64 a.on, .string a.name, .string a.dest, .string a.data, .int .i64 a.n, a.stops]] w fun e w' => ∃ v, e = .returned (.tuple #[.string ⟨#[]⟩, v]) ∧ ∃ w1, Below w.heap.size w w1 ∧ Did B N w1 p K s a0 a1 a2 a3 a4 (truC s.fs a.name a.n) (orF s.fs (TruF s.fs a.name a.n)) (TruF s.fs a.name a.n) v w' := by
  obtain ⟨l1, st1⟩ := h.drift (w' := w.alloc (Obj.cells #[.int .i64 a.kind, .int .i64 a.on, .string a.name, .string a.dest, .string a.data, .int .i64 a.n, a.stops] 42)) ((Below.refl _ _).alloc (Nat.le_refl _) _)
  rw [hk] at l1 ⊢
  clear st1 h
  go_enter Tryd.func23, Tryd.ntmps23
  go_wp2_with fail
  refine (truncate_live l1 hs a.name a.n hx).mono ?_
  rintro e w' ⟨v, rfl, hdid⟩
  go_wp2_with fail
  go_ret2
  exact ⟨v, rfl, _, (Below.refl _ _).alloc (Nat.le_refl _) _, hdid⟩
set_option maxRecDepth 100000 in
theorem does_3 (h : Live B N w p K s a0 a1 a2 a3 a4) (hs : Small s) (a : Act7) (hk : a.kind = 3) (hx : a.name.size ≤ 140737488351232) :
    Calls Tryd.prog 23 #[.pointer (some ⟨p, 0, none⟩), .agg #[.int .i64 a.kind, .int .i64 a.on, .string a.name, .string a.dest, .string a.data, .int .i64 a.n, a.stops]] w fun e w' => ∃ v r, e = .returned (.tuple #[.string r, v]) ∧ Told s a.name r v ∧ ∃ w1, Below w.heap.size w w1 ∧ Did B N w1 p K s a0 a1 a2 a3 a4 (thereC s.fs a.name) (fun _ fs' => fs' = s.fs) (fun fs' => fs' = s.fs) v w' := by
  obtain ⟨l1, st1⟩ := h.drift (w' := w.alloc (Obj.cells #[.int .i64 a.kind, .int .i64 a.on, .string a.name, .string a.dest, .string a.data, .int .i64 a.n, a.stops] 42)) ((Below.refl _ _).alloc (Nat.le_refl _) _)
  rw [hk] at l1 ⊢
  clear st1 h
  go_enter Tryd.func23, Tryd.ntmps23
  go_wp2_with fail
  refine (read_live l1 hs a.name hx).mono ?_
  rintro e w' ⟨v, r, rfl, hdid, ht⟩
  go_wp2_with fail
  go_ret2
  exact ⟨v, r, rfl, ht, _, (Below.refl _ _).alloc (Nat.le_refl _) _, hdid⟩
end Go.Proofs.YtkfehogefclhdaaDoor.Dk

/- The kinds of an argument's structs, printed by the kit's kinds.py. -/
namespace Go.Proofs.YtkfehogefclhdaaDoor.Dk
open Go.RowKit Go.Proofs.YtkfehogefclhdaaDoorW.PrintWords
set_option linter.unusedVariables false

/-! #### struct type 32 -/
structure S32 where
  f0 : Int
  f1 : Int
  f2 : Int
def z32 : S32 := ⟨(0 : Int), (0 : Int), (0 : Int)⟩
def k32 : Kd S32 := Kd.iso (Kd.pair (Kd.int .i64) (Kd.pair (Kd.int .i64) (Kd.int .i64))) (fun x : S32 => (x.f0, x.f1, x.f2))
theorem k32_open {w : World} {x : S32} {cs : List Value} (h : k32.K w x cs) : cs = [.int .i64 x.f0, .int .i64 x.f1, .int .i64 x.f2] := by
  obtain ⟨_, _, rfl, rfl, ⟨_, _, rfl, rfl, rfl⟩⟩ := h
  exact rfl
theorem k32_openM {w : World} {base : Nat} {ok : Nat → Prop} {x : S32} {cs : List Value} (h : k32.M w base ok x cs) : cs = [.int .i64 x.f0, .int .i64 x.f1, .int .i64 x.f2] := by
  obtain ⟨_, _, rfl, rfl, ⟨_, _, rfl, rfl, rfl⟩⟩ := h
  exact rfl
theorem k32_mk (w : World) (x : S32)  : k32.K w x [.int .i64 x.f0, .int .i64 x.f1, .int .i64 x.f2] := ⟨[.int .i64 x.f0], [.int .i64 x.f1, .int .i64 x.f2], rfl, rfl, ⟨[.int .i64 x.f1], [.int .i64 x.f2], rfl, rfl, rfl⟩⟩
theorem k32_mkM (w : World) (base : Nat) (ok : Nat → Prop) (x : S32)  : k32.M w base ok x [.int .i64 x.f0, .int .i64 x.f1, .int .i64 x.f2] := ⟨[.int .i64 x.f0], [.int .i64 x.f1, .int .i64 x.f2], rfl, rfl, ⟨[.int .i64 x.f1], [.int .i64 x.f2], rfl, rfl, rfl⟩⟩
def rd_T32 (xs : List S32) (i : Int) : S32 := xs.getD i.toNat z32
theorem at_T32 {w : World} {A : Option Addr} {n : Nat} {xs : List S32} (h : Kd.C k32 w A n xs) (i : Int) (h0 : 0 ≤ i) (h1 : i < n) : ∃ ad , A = some ad ∧ w.cell? (ad.add (i.toNat * 3)) = some (.int .i64 (rd_T32 xs i).f0) ∧ w.cell? ⟨(ad.add (i.toNat * 3)).block, (ad.add (i.toNat * 3)).off + 1, none⟩ = some (.int .i64 (rd_T32 xs i).f1) ∧ w.cell? ⟨(ad.add (i.toNat * 3)).block, (ad.add (i.toNat * 3)).off + 2, none⟩ = some (.int .i64 (rd_T32 xs i).f2) := by
  obtain ⟨ad, c, e, _, hK, hc0⟩ := Kd.C_get h z32 i h0 h1
  have hc : ∀ j u, c[j]? = some u → w.cell? (ad.add (i.toNat * 3 + j)) = some u := hc0
  obtain rfl := k32_open hK
  exact ⟨ad, e, hc 0 _ rfl, by rw [← add_field _ _ 1 (by omega)]; exact hc 1 _ rfl, by rw [← add_field _ _ 2 (by omega)]; exact hc 2 _ rfl⟩

def rd_L3 (xs : List (List S32)) (i : Int) : (List S32) := xs.getD i.toNat ([] : List S32)
theorem at_L3 {w : World} {A : Option Addr} {n : Nat} {xs : List (List S32)} (h : Kd.C (Kd.slice 32 k32) w A n xs) (i : Int) (h0 : 0 ≤ i) (h1 : i < n) : ∃ ad A0 c0, A = some ad ∧ w.cell? (ad.add i.toNat) = some (.slice A0 (rd_L3 xs i).length c0) ∧ (rd_L3 xs i).length ≤ c0 ∧ k32.C w A0 (rd_L3 xs i).length (rd_L3 xs i) := by
  obtain ⟨ad, c, e, _, hK, hc0⟩ := Kd.C_get h ([] : List S32) i h0 h1
  have hc : ∀ j u, c[j]? = some u → w.cell? (ad.add (i.toNat * 1 + j)) = some u := hc0
  obtain ⟨A0, c0, rfl, l0, g0⟩ := hK
  exact ⟨ad, A0, c0, e, by have hq := hc 0 _ rfl; rwa [Nat.mul_one, Nat.add_zero] at hq, l0, g0⟩

/-! #### struct type 42 -/
structure S42 where
  f0 : Int
  f1 : Int
  f2 : ByteArray
  f3 : ByteArray
  f4 : ByteArray
  f5 : Int
  f6 : (List S32)
def z42 : S42 := ⟨(0 : Int), (0 : Int), (⟨#[]⟩ : ByteArray), (⟨#[]⟩ : ByteArray), (⟨#[]⟩ : ByteArray), (0 : Int), ([] : List S32)⟩
def k42 : Kd S42 := Kd.iso (Kd.pair (Kd.int .i64) (Kd.pair (Kd.int .i64) (Kd.pair Kd.string (Kd.pair Kd.string (Kd.pair Kd.string (Kd.pair (Kd.int .i64) (Kd.slice 32 k32))))))) (fun x : S42 => (x.f0, x.f1, x.f2, x.f3, x.f4, x.f5, x.f6))
theorem k42_open {w : World} {x : S42} {cs : List Value} (h : k42.K w x cs) : ∃ A6 c6, cs = [.int .i64 x.f0, .int .i64 x.f1, .string x.f2, .string x.f3, .string x.f4, .int .i64 x.f5, .slice A6 x.f6.length c6] ∧ x.f6.length ≤ c6 ∧ k32.C w A6 x.f6.length x.f6 := by
  obtain ⟨_, _, rfl, rfl, ⟨_, _, rfl, rfl, ⟨_, _, rfl, rfl, ⟨_, _, rfl, rfl, ⟨_, _, rfl, rfl, ⟨_, _, rfl, rfl, ⟨A6, c6, rfl, l6, g6⟩⟩⟩⟩⟩⟩⟩ := h
  exact ⟨A6, c6, rfl, l6, g6⟩
theorem k42_openM {w : World} {base : Nat} {ok : Nat → Prop} {x : S42} {cs : List Value} (h : k42.M w base ok x cs) : ∃ v6, cs = [.int .i64 x.f0, .int .i64 x.f1, .string x.f2, .string x.f3, .string x.f4, .int .i64 x.f5, v6] ∧ k32.R 32 w base ok v6 x.f6 := by
  obtain ⟨_, _, rfl, rfl, ⟨_, _, rfl, rfl, ⟨_, _, rfl, rfl, ⟨_, _, rfl, rfl, ⟨_, _, rfl, rfl, ⟨_, _, rfl, rfl, ⟨v6, rfl, g6⟩⟩⟩⟩⟩⟩⟩ := h
  exact ⟨v6, rfl, g6⟩
theorem k42_mk (w : World) (x : S42) {A6 : Option Addr} {c6 : Nat} (l6 : x.f6.length ≤ c6) (g6 : k32.C w A6 x.f6.length x.f6) : k42.K w x [.int .i64 x.f0, .int .i64 x.f1, .string x.f2, .string x.f3, .string x.f4, .int .i64 x.f5, .slice A6 x.f6.length c6] := ⟨[.int .i64 x.f0], [.int .i64 x.f1, .string x.f2, .string x.f3, .string x.f4, .int .i64 x.f5, .slice A6 x.f6.length c6], rfl, rfl, ⟨[.int .i64 x.f1], [.string x.f2, .string x.f3, .string x.f4, .int .i64 x.f5, .slice A6 x.f6.length c6], rfl, rfl, ⟨[.string x.f2], [.string x.f3, .string x.f4, .int .i64 x.f5, .slice A6 x.f6.length c6], rfl, rfl, ⟨[.string x.f3], [.string x.f4, .int .i64 x.f5, .slice A6 x.f6.length c6], rfl, rfl, ⟨[.string x.f4], [.int .i64 x.f5, .slice A6 x.f6.length c6], rfl, rfl, ⟨[.int .i64 x.f5], [.slice A6 x.f6.length c6], rfl, rfl, ⟨A6, c6, rfl, l6, g6⟩⟩⟩⟩⟩⟩⟩
theorem k42_mkM (w : World) (base : Nat) (ok : Nat → Prop) (x : S42) {v6 : Value} (g6 : k32.R 32 w base ok v6 x.f6) : k42.M w base ok x [.int .i64 x.f0, .int .i64 x.f1, .string x.f2, .string x.f3, .string x.f4, .int .i64 x.f5, v6] := ⟨[.int .i64 x.f0], [.int .i64 x.f1, .string x.f2, .string x.f3, .string x.f4, .int .i64 x.f5, v6], rfl, rfl, ⟨[.int .i64 x.f1], [.string x.f2, .string x.f3, .string x.f4, .int .i64 x.f5, v6], rfl, rfl, ⟨[.string x.f2], [.string x.f3, .string x.f4, .int .i64 x.f5, v6], rfl, rfl, ⟨[.string x.f3], [.string x.f4, .int .i64 x.f5, v6], rfl, rfl, ⟨[.string x.f4], [.int .i64 x.f5, v6], rfl, rfl, ⟨[.int .i64 x.f5], [v6], rfl, rfl, ⟨v6, rfl, g6⟩⟩⟩⟩⟩⟩⟩
def rd_T42 (xs : List S42) (i : Int) : S42 := xs.getD i.toNat z42
theorem at_T42 {w : World} {A : Option Addr} {n : Nat} {xs : List S42} (h : Kd.C k42 w A n xs) (i : Int) (h0 : 0 ≤ i) (h1 : i < n) : ∃ ad A6 c6, A = some ad ∧ w.cell? (ad.add (i.toNat * 7)) = some (.int .i64 (rd_T42 xs i).f0) ∧ w.cell? ⟨(ad.add (i.toNat * 7)).block, (ad.add (i.toNat * 7)).off + 1, none⟩ = some (.int .i64 (rd_T42 xs i).f1) ∧ w.cell? ⟨(ad.add (i.toNat * 7)).block, (ad.add (i.toNat * 7)).off + 2, none⟩ = some (.string (rd_T42 xs i).f2) ∧ w.cell? ⟨(ad.add (i.toNat * 7)).block, (ad.add (i.toNat * 7)).off + 3, none⟩ = some (.string (rd_T42 xs i).f3) ∧ w.cell? ⟨(ad.add (i.toNat * 7)).block, (ad.add (i.toNat * 7)).off + 4, none⟩ = some (.string (rd_T42 xs i).f4) ∧ w.cell? ⟨(ad.add (i.toNat * 7)).block, (ad.add (i.toNat * 7)).off + 5, none⟩ = some (.int .i64 (rd_T42 xs i).f5) ∧ w.cell? ⟨(ad.add (i.toNat * 7)).block, (ad.add (i.toNat * 7)).off + 6, none⟩ = some (.slice A6 (rd_T42 xs i).f6.length c6) ∧ (rd_T42 xs i).f6.length ≤ c6 ∧ k32.C w A6 (rd_T42 xs i).f6.length (rd_T42 xs i).f6 := by
  obtain ⟨ad, c, e, _, hK, hc0⟩ := Kd.C_get h z42 i h0 h1
  have hc : ∀ j u, c[j]? = some u → w.cell? (ad.add (i.toNat * 7 + j)) = some u := hc0
  obtain ⟨A6, c6, rfl, l6, g6⟩ := k42_open hK
  exact ⟨ad, A6, c6, e, hc 0 _ rfl, by rw [← add_field _ _ 1 (by omega)]; exact hc 1 _ rfl, by rw [← add_field _ _ 2 (by omega)]; exact hc 2 _ rfl, by rw [← add_field _ _ 3 (by omega)]; exact hc 3 _ rfl, by rw [← add_field _ _ 4 (by omega)]; exact hc 4 _ rfl, by rw [← add_field _ _ 5 (by omega)]; exact hc 5 _ rfl, by rw [← add_field _ _ 6 (by omega)]; exact hc 6 _ rfl, l6, g6⟩

end Go.Proofs.YtkfehogefclhdaaDoor.Dk

/- An operation of a script, whichever it is; what comes of it. -/
namespace Go.Proofs.YtkfehogefclhdaaDoor.Dk
open Go.RowKit Go.Maps Go.Proofs.YtkfehogefclhdaaDoorW.PrintWords Go.Proofs.YtkfehogefclhdaaDoorW.PrintMore
variable {N : Nat} {w : World} {p : Nat} {s : St} {B : Nat} {a0 a1 a2 a3 a4 : Addr} {K : Nat → Prop}

noncomputable def actC (s : St) (a : Act7) : Int := if a.kind = 1 then appC s a.name a.data else if a.kind = 4 then renC s.fs a.name a.dest else if a.kind = 6 then truC s.fs a.name a.n else thereC s.fs a.name
def actW (s : St) (a : Act7) (fs' : List Fil) : Prop := if a.kind = 1 then AppF s.fs a.name a.data a.data.size fs' else if a.kind = 2 then SyncF s.fs a.name fs' else if a.kind = 3 then fs' = s.fs else if a.kind = 4 then RenF s.fs a.name a.dest fs' else if a.kind = 5 then fs' = outF a.name s.fs else TruF s.fs a.name a.n fs'
def actP (s : St) (a : Act7) (n : Int) (fs' : List Fil) : Prop := if a.kind = 1 then AppF s.fs a.name a.data n fs' else if a.kind = 3 then fs' = s.fs else orF s.fs (actW s a) n fs'
theorem actW_2 {a : Act7} (h : a.kind = 2) : actW s a = SyncF s.fs a.name := by funext fs'; unfold actW; rw [h]; rfl
theorem actW_4 {a : Act7} (h : a.kind = 4) : actW s a = RenF s.fs a.name a.dest := by funext fs'; unfold actW; rw [h]; rfl
theorem actW_5 {a : Act7} (h : a.kind = 5) : actW s a = fun fs' => fs' = outF a.name s.fs := by funext fs'; unfold actW; rw [h]; rfl
theorem actW_6 {a : Act7} (h : a.kind = 6) : actW s a = TruF s.fs a.name a.n := by funext fs'; unfold actW; rw [h]; rfl
theorem actW_1 {a : Act7} (h : a.kind = 1) : actW s a = AppF s.fs a.name a.data a.data.size := by funext fs'; unfold actW; rw [if_pos h]
theorem actW_3 {a : Act7} (h : a.kind = 3) : actW s a = fun fs' => fs' = s.fs := by funext fs'; unfold actW; rw [h]; rfl
theorem actP_1 {a : Act7} (h : a.kind = 1) : actP s a = AppF s.fs a.name a.data := by funext n fs'; unfold actP; rw [if_pos h]
theorem actP_3 {a : Act7} (h : a.kind = 3) : actP s a = fun _ fs' => fs' = s.fs := by funext n fs'; unfold actP; rw [h]; rfl
theorem actP_o {a : Act7} (h1 : a.kind ≠ 1) (h3 : a.kind ≠ 3) : actP s a = orF s.fs (actW s a) := by funext n fs'; unfold actP; rw [if_neg h1, if_neg h3]
theorem actC_t {a : Act7} (h1 : a.kind ≠ 1) (h4 : a.kind ≠ 4) (h6 : a.kind ≠ 6) : actC s a = thereC s.fs a.name := by unfold actC; rw [if_neg h1, if_neg h4, if_neg h6]
/-- Behind an operation of a script. -/
def Acted (B N : Nat) (w : World) (p : Nat) (K : Nat → Prop) (s : St) (a0 a1 a2 a3 a4 : Addr) (a : Act7) (r : ByteArray) (v : Value) (w' : World) : Prop :=
  (a.kind = 3 → Told s a.name r v) ∧ (a.kind ≠ 3 → r = ⟨#[]⟩) ∧ ∃ w1, Below w.heap.size w w1 ∧ Did B N w1 p K s a0 a1 a2 a3 a4 (actC s a) (actP s a) (actW s a) v w'
theorem does_ok (h : Live B N w p K s a0 a1 a2 a3 a4) (hN : N < maxLen) (hs : Small s) (a : Act7) (h1 : 1 ≤ a.kind) (h6 : a.kind ≤ 6) (hx : a.name.size ≤ 140737488351232) (hy : a.dest.size ≤ 140737488351232) (hd : a.data.size ≤ 140737488351232) :
    Calls Tryd.prog 23 #[.pointer (some ⟨p, 0, none⟩), .agg #[.int .i64 a.kind, .int .i64 a.on, .string a.name, .string a.dest, .string a.data, .int .i64 a.n, a.stops]] w fun e w' => ∃ v r, e = .returned (.tuple #[.string r, v]) ∧ Acted B N w p K s a0 a1 a2 a3 a4 a r v w' := by
  have hk : a.kind = 1 ∨ a.kind = 2 ∨ a.kind = 3 ∨ a.kind = 4 ∨ a.kind = 5 ∨ a.kind = 6 := by omega
  rcases hk with hk | hk | hk | hk | hk | hk
  · refine (does_1 h hN hs a hk hx hd).mono ?_
    rintro e w' ⟨v, rfl, w1, hb, hdid⟩
    have ec : actC s a = appC s a.name a.data := by unfold actC; rw [if_pos hk]
    exact ⟨v, _, rfl, ⟨fun e => absurd (hk.symm.trans e) (by decide), fun _ => rfl, w1, hb, by rw [ec, actP_1 hk, actW_1 hk]; exact hdid⟩⟩
  · refine (does_2 h hN hs a hk hx).mono ?_
    rintro e w' ⟨v, rfl, w1, hb, hdid⟩
    exact ⟨v, _, rfl, ⟨fun e => absurd (hk.symm.trans e) (by decide), fun _ => rfl, w1, hb, by rw [actC_t (by omega) (by omega) (by omega), actP_o (by omega) (by omega), actW_2 hk]; exact hdid⟩⟩
  · refine (does_3 h hs a hk hx).mono ?_
    rintro e w' ⟨v, r, rfl, ht, w1, hb, hdid⟩
    exact ⟨v, r, rfl, ⟨fun _ => ht, fun e => absurd hk e, w1, hb, by rw [actC_t (by omega) (by omega) (by omega), actP_3 hk, actW_3 hk]; exact hdid⟩⟩
  · refine (does_4 h hN hs a hk hx hy).mono ?_
    rintro e w' ⟨v, rfl, w1, hb, hdid⟩
    have ec : actC s a = renC s.fs a.name a.dest := by unfold actC; rw [if_neg (by omega), if_pos hk]
    exact ⟨v, _, rfl, ⟨fun e => absurd (hk.symm.trans e) (by decide), fun _ => rfl, w1, hb, by rw [ec, actP_o (by omega) (by omega), actW_4 hk]; exact hdid⟩⟩
  · refine (does_5 h hN hs a hk hx).mono ?_
    rintro e w' ⟨v, rfl, w1, hb, hdid⟩
    exact ⟨v, _, rfl, ⟨fun e => absurd (hk.symm.trans e) (by decide), fun _ => rfl, w1, hb, by rw [actC_t (by omega) (by omega) (by omega), actP_o (by omega) (by omega), actW_5 hk]; exact hdid⟩⟩
  · refine (does_6 h hN hs a hk hx).mono ?_
    rintro e w' ⟨v, rfl, w1, hb, hdid⟩
    have ec : actC s a = truC s.fs a.name a.n := by unfold actC; rw [if_neg (by omega), if_neg (by omega), if_pos hk]
    exact ⟨v, _, rfl, ⟨fun e => absurd (hk.symm.trans e) (by decide), fun _ => rfl, w1, hb, by rw [ec, actP_o (by omega) (by omega), actW_6 hk]; exact hdid⟩⟩
/-- No code of an act is that of a stop. -/
theorem there_93 (fs : List Fil) (x : ByteArray) : thereC fs x ≠ 93 := by
  unfold thereC; split
  · split <;> decide
  · decide
theorem act_93 (s : St) (a : Act7) : actC s a ≠ 93 := by
  unfold actC
  split
  · unfold appC; split
    · split <;> decide
    · decide
  · split
    · unfold renC; split
      · exact there_93 _ _
      · decide
    · split
      · unfold truC; split
        · exact there_93 _ _
        · split <;> decide
      · exact there_93 _ _
theorem why_ne (h : Sens w B a0 a1 a2 a3 a4) {c : Int} (hc : c ≠ 93) : why a0 a1 a2 a3 a4 c ≠ a0 := by
  unfold why
  split
  · exact h.n1
  · split
    · exact h.n3
    · split
      · exact h.n4
      · exact h.n2
theorem why_in (a0 a1 a2 a3 a4 : Addr) (c : Int) : why a0 a1 a2 a3 a4 c = a0 ∨ why a0 a1 a2 a3 a4 c = a1 ∨ why a0 a1 a2 a3 a4 c = a2 ∨ why a0 a1 a2 a3 a4 c = a3 ∨ why a0 a1 a2 a3 a4 c = a4 := by
  unfold why
  split
  · exact .inr (.inl rfl)
  · split
    · exact .inr (.inr (.inr (.inl rfl)))
    · split
      · exact .inr (.inr (.inr (.inr rfl)))
      · split
        · exact .inl rfl
        · exact .inr (.inr (.inl rfl))
theorem Live.less {K' : Nat → Prop} (h : Live B N w p K s a0 a1 a2 a3 a4) (hk : ∀ i, K' i → K i) : Live B N w p K' s a0 a1 a2 a3 a4 := by
  obtain ⟨F, m, pv, h1, h2, h3, h4, h5⟩ := h
  exact ⟨F, m, pv, h1, fun i hi => ⟨(h2 i hi).1, fun e => (h2 i hi).2 (hk i e)⟩, fun i hi => h3 i (hk i hi), h4, h5⟩
theorem Step.of_below {w1 : World} (hb : Below w.heap.size w w1) (hB : B ≤ w.heap.size) (hK : ∀ i, K i → i < w.heap.size) : Step B K w w1 := ⟨hb.mono hB, fun i hi => hb.block i (hK i hi)⟩
theorem Live.base (h : Live B N w p K s a0 a1 a2 a3 a4) : B ≤ w.heap.size := by obtain ⟨F, m, pv, h1, h2, h3, h4, h5⟩ := h; exact h5
theorem Live.kept (h : Live B N w p K s a0 a1 a2 a3 a4) : ∀ i, K i → i < w.heap.size := by obtain ⟨F, m, pv, h1, h2, h3, h4, h5⟩ := h; exact h3
/-- What came of an act of a disk that runs. -/
theorem Acted.told {a : Act7} {r : ByteArray} {v : Value} {w' : World} (h : Live B N w p K s a0 a1 a2 a3 a4) (hr : s.run = true) (hA : Acted B N w p K s a0 a1 a2 a3 a4 a r v w') :
    Step B K w w' ∧
    ((∃ x rest q fs', s.plan = x :: rest ∧ x.1 = s.since + 1 ∧ v = .iface 72 (.pointer (some ⟨q, 0, none⟩)) ∧ ErrAt w' q a0 ∧ (actC s a = 0 → actP s a x.2.1 fs') ∧ (actC s a ≠ 0 → fs' = s.fs) ∧ Live B (N + 1) w' p (fun i => K i ∨ i = q) (s.halt rest fs' x.2.2) a0 a1 a2 a3 a4) ∨
     (¬ Due s ∧ actC s a ≠ 0 ∧ ∃ q, v = .iface 72 (.pointer (some ⟨q, 0, none⟩)) ∧ ErrAt w' q (why a0 a1 a2 a3 a4 (actC s a)) ∧ why a0 a1 a2 a3 a4 (actC s a) ≠ a0 ∧ Live B (N + 1) w' p (fun i => K i ∨ i = q) s.tick a0 a1 a2 a3 a4) ∨
     (¬ Due s ∧ actC s a = 0 ∧ v = .nilIface ∧ ∃ fs', actW s a fs' ∧ Live B (N + 1) w' p K { s.tick with fs := fs' } a0 a1 a2 a3 a4)) := by
  obtain ⟨_, _, w1, hb, s', h1, h2, h4⟩ := hA
  have hst : Step B K w w1 := Step.of_below hb h.base h.kept
  refine ⟨hst.trans h2, ?_⟩
  cases h4 with
  | down a b => rw [hr] at a; cases a
  | due a b c d e f =>
    obtain ⟨q, e1, e2⟩ := d.at
    exact .inl ⟨_, _, q, _, b, c, e1, e2, e, f, h1.keepErr e2⟩
  | err a b c d =>
    obtain ⟨q, e1, e2⟩ := d.at
    exact .inr (.inl ⟨b, c, q, e1, e2, why_ne h1.sens (act_93 _ _), h1.keepErr e2⟩)
  | ok a b c d e => exact .inr (.inr ⟨b, c, d, _, e, h1⟩)
/-- An act that no stop comes to. -/
theorem Acted.calm {a : Act7} {r : ByteArray} {v : Value} {w' : World} (h : Live B N w p K s a0 a1 a2 a3 a4) (hr : s.run = true) (hnd : ¬ Due s) (hA : Acted B N w p K s a0 a1 a2 a3 a4 a r v w') :
    Step B K w w' ∧ ∃ s', Live B (N + 1) w' p K s' a0 a1 a2 a3 a4 ∧ s'.run = true ∧ s'.quota = s.quota ∧ s'.plan = s.plan ∧ s'.steps = s.steps + 1 ∧ s'.since = s.since + 1 ∧
      Calls Tryd.prog 17 #[v, .iface 179 (.pointer (some a0))] w' fun e w'' => e = .returned (.bool false) ∧ w'' = w' := by
  obtain ⟨hst, hc⟩ := hA.told h hr
  refine ⟨hst, ?_⟩
  rcases hc with ⟨x, rest, q, fs', hp, hx, _⟩ | ⟨_, hc, q, rfl, he, hne, hl⟩ | ⟨_, hc, rfl, fs', hw, hl⟩
  · exact absurd ⟨x, rest, hp, hx⟩ hnd
  · refine ⟨_, hl.less (fun i hi => .inl hi), hr, rfl, rfl, rfl, rfl, ?_⟩
    have hi := is_live hl he (why_in a0 a1 a2 a3 a4 _) (.inl rfl)
    rw [decide_eq_false hne] at hi
    exact hi
  · exact ⟨_, hl, hr, rfl, rfl, rfl, rfl, is_nil a0 _⟩
/-- An act that the stop comes to. -/
theorem Acted.stopped {a : Act7} {r : ByteArray} {v : Value} {w' : World} {x : Int × Int × Int} {rest : List (Int × Int × Int)} (h : Live B N w p K s a0 a1 a2 a3 a4) (hr : s.run = true) (hp : s.plan = x :: rest) (hx : x.1 = s.since + 1) (hA : Acted B N w p K s a0 a1 a2 a3 a4 a r v w') :
    Step B K w w' ∧ ∃ s' q, Live B (N + 1) w' p (fun i => K i ∨ i = q) s' a0 a1 a2 a3 a4 ∧ s'.run = false ∧ s'.quota = s.quota ∧ s'.plan = rest ∧ s'.steps = s.steps + 1 ∧ s'.since = s.since + 1 ∧
      v = .iface 72 (.pointer (some ⟨q, 0, none⟩)) ∧ ErrAt w' q a0 := by
  obtain ⟨hst, hc⟩ := hA.told h hr
  refine ⟨hst, ?_⟩
  rcases hc with ⟨y, rest', q, fs', hp', hy, hv, he, _, _, hl⟩ | ⟨hnd, _⟩ | ⟨hnd, _⟩
  · rw [hp] at hp'
    injection hp' with e1 e2
    subst e1 e2
    exact ⟨_, q, hl, rfl, rfl, rfl, rfl, rfl, hv, he⟩
  · exact absurd ⟨x, rest, hp, hx⟩ hnd
  · exact absurd ⟨x, rest, hp, hx⟩ hnd
end Go.Proofs.YtkfehogefclhdaaDoor.Dk

/- DiskCounts' walk. -/
namespace Go.Proofs.YtkfehogefclhdaaDoor.Dk
open Go.RowKit Go.Maps Go.Proofs.YtkfehogefclhdaaDoorW.PrintWords Go.Proofs.YtkfehogefclhdaaDoorW.PrintMore
variable {N : Nat} {w : World} {p : Nat} {s : St} {B : Nat} {a0 a1 a2 a3 a4 : Addr} {K : Nat → Prop}

theorem and15 (x : Int) : ∃ n : Nat, bits BinOp.and IntKind.i64 x 15 = (n : Int) ∧ n ≤ 15 := by
  have h : ((BitVec.ofInt 64 x) &&& (BitVec.ofInt 64 15)).toNat ≤ 15 := by
    rw [BitVec.toNat_and, show (BitVec.ofInt 64 15).toNat = 15 from rfl]
    exact Nat.and_le_right
  refine ⟨_, ?_, h⟩
  obtain ⟨m, hm⟩ : ∃ m, ((BitVec.ofInt 64 x) &&& (BitVec.ofInt 64 15)).toNat = m := ⟨_, rfl⟩
  unfold bits
  rw [hm] at h
  show IntKind.i64.wrap ((((BitVec.ofInt 64 x) &&& (BitVec.ofInt 64 15)).toNat : Nat) : Int) = _
  rw [hm]
  have hw : ∀ z : Int, IntKind.i64.wrap z = wrap64 z := fun z => Go.IntWalk.i64_left z
  rw [hw]
  unfold wrap64; omega
theorem k16 (x : Int) : ∃ k : Int, wrap64 (1 + bits BinOp.and IntKind.i64 x 15) = k ∧ 1 ≤ k ∧ k ≤ 16 := by
  obtain ⟨n, h, hn⟩ := and15 x
  rw [h]
  exact ⟨1 + (n : Int), by unfold wrap64; omega, by omega, by omega⟩
theorem plan_four (w : World) (one two : Int) : PlanIs (w.alloc (Obj.cells #[.int .i64 0, .int .i64 0, .int .i64 0, .int .i64 one, .int .i64 0, .int .i64 0, .int .i64 (-5), .int .i64 0, .int .i64 0, .int .i64 two, .int .i64 0, .int .i64 0] 32)) (fun i => i = w.heap.size) (.slice (some ⟨w.heap.size, 0, none⟩) [((0 : Int), (0 : Int), (0 : Int)), (one, 0, 0), (-5, 0, 0), (two, 0, 0)].length 4) [((0 : Int), (0 : Int), (0 : Int)), (one, 0, 0), (-5, 0, 0), (two, 0, 0)] := by
  have hb := blk_new w (Obj.cells #[.int .i64 0, .int .i64 0, .int .i64 0, .int .i64 one, .int .i64 0, .int .i64 0, .int .i64 (-5), .int .i64 0, .int .i64 0, .int .i64 two, .int .i64 0, .int .i64 0] 32)
  refine ⟨_, 4, rfl, Nat.le_refl _, by omega, fun i y hy => ?_⟩
  match i, hy with
  | 0, hy => simp at hy; subst hy; exact ⟨_, 0, rfl, rfl, ⟨_, hb⟩, blk_cell hb 0, blk_cell hb 1, blk_cell hb 2⟩
  | 1, hy => simp at hy; subst hy; exact ⟨_, 0, rfl, rfl, ⟨_, hb⟩, blk_cell hb 3, blk_cell hb 4, blk_cell hb 5⟩
  | 2, hy => simp at hy; subst hy; exact ⟨_, 0, rfl, rfl, ⟨_, hb⟩, blk_cell hb 6, blk_cell hb 7, blk_cell hb 8⟩
  | 3, hy => simp at hy; subst hy; exact ⟨_, 0, rfl, rfl, ⟨_, hb⟩, blk_cell hb 9, blk_cell hb 10, blk_cell hb 11⟩
theorem keep_four {one two : Int} (h1 : 1 ≤ one) (h2 : 1 ≤ two) : keepS [((0 : Int), (0 : Int), (0 : Int)), (one, 0, 0), (-5, 0, 0), (two, 0, 0)] = [(one, 0, 0), (two, 0, 0)] := by
  unfold keepS
  rw [List.filter_cons, decide_eq_false (by show ¬ (0 : Int) ≥ 1; decide), List.filter_cons, decide_eq_true (show one ≥ 1 from h1), List.filter_cons, decide_eq_false (by show ¬ (-5 : Int) ≥ 1; decide), List.filter_cons, decide_eq_true (show two ≥ 1 from h2)]
  rfl
/-- The plan that is left behind so many stops. -/
def PlanAt (one two : Int) (st : Int) (l : List (Int × Int × Int)) : Prop := (st = 0 ∧ l = [(one, 0, 0), (two, 0, 0)]) ∨ (st = 1 ∧ l = [(two, 0, 0)]) ∨ (st = 2 ∧ l = [])
theorem start_twice (h : s.run = false) : s.start.start.since = 0 := by unfold St.start; simp [h]
theorem few_twice {n : Nat} (h : Few n s) (hr : s.run = false) : Few n s.start.start := by
  obtain ⟨h1, h2, h3, h4⟩ := h
  refine ⟨h1, h2, ?_, ?_⟩
  · rw [start_twice hr]; exact Int.le_refl _
  · rw [start_twice hr]; exact Int.natCast_nonneg n
/-- The middle of the law's loop. -/
structure CMid (w : World) (p : Nat) (a0 a1 a2 a3 a4 : Addr) (one two : Int) (k N : Nat) (st : Int) (s : St) (wr : World) : Prop where
  live : Live w.heap.size N wr p (fun _ => False) s a0 a1 a2 a3 a4
  step : Step w.heap.size (fun _ => False) w wr
  run : s.run = true
  few : Few k s
  plan : PlanAt one two st s.plan
def slots (l : List S42) : Prop := ∀ x ∈ l, x.f2.size ≤ 140737488351232 ∧ x.f3.size ≤ 140737488351232 ∧ x.f4.size ≤ 140737488351232
set_option maxRecDepth 100000 in
set_option maxHeartbeats 2000000 in
theorem counts_walk (hS : Sens w w.heap.size a0 a1 a2 a3 a4) (script : List S42) (A : Option Addr) (c : Nat) (hC : Kd.C k42 w A script.length script) (hsl : slots script) (one' two' : Int) :
    Calls Tryd.prog 4 #[.slice A script.length c, .int .i64 one', .int .i64 two'] w fun e w' => e = .returned (.bool true) ∧ Below w.heap.size w w' := by
  have hnot := not_run
  have hif := isIface25
  have HS : Hid _ := hS
  have HC : Hid _ := hC
  have HSL : Hid _ := hsl
  clear hS hC hsl
  obtain ⟨one, hone, ho1, ho2⟩ := k16 one'
  obtain ⟨two, htwo, ht1, ht2⟩ := k16 two'
  have HO : Hid _ := (⟨ho1, ho2, ht1, ht2⟩ : 1 ≤ one ∧ one ≤ 16 ∧ 1 ≤ two ∧ two ≤ 16)
  clear ho1 ho2 ht1 ht2
  go_enter Tryd.func4, Tryd.ntmps4
  go_wp2_with fail
  refine (known_ok (K := fun _ => False) HS.out (Nat.le_refl _) (fun i hi => hi.elim)).mono ?_
  rintro e w1 ⟨rfl, st1⟩
  go_wp2_with fail
  refine (new_live (K := fun _ => False) 5000 (by decide) (by decide) (HS.out.below st1.below) st1.below.size (fun i hi => hi.elim)).mono ?_
  rintro e w2 ⟨rfl, l2, st2⟩
  obtain ⟨p, hp⟩ : ∃ p, w1.heap.size + 1 = p := ⟨_, rfl⟩
  rw [hp] at l2 ⊢
  have st12 := st1.trans st2
  clear hp st1 st2
  go_wp2_with fail
  obtain ⟨w3, hw3⟩ : ∃ w3, w2.alloc (Obj.cells #[.int .i64 0, .int .i64 0, .int .i64 0, .int .i64 one, .int .i64 0, .int .i64 0, .int .i64 (-5), .int .i64 0, .int .i64 0, .int .i64 two, .int .i64 0, .int .i64 0] 32) = w3 := ⟨_, rfl⟩
  obtain ⟨l3, st3⟩ := l2.drift (w' := w2.alloc (Obj.cells #[.int .i64 0, .int .i64 0, .int .i64 0, .int .i64 one, .int .i64 0, .int .i64 0, .int .i64 (-5), .int .i64 0, .int .i64 0, .int .i64 two, .int .i64 0, .int .i64 0] 32)) ((Below.refl _ _).alloc (Nat.le_refl _) _)
  have hpl := plan_four w2 one two
  have hG3 : ∀ i, i = w2.heap.size → i < (w2.alloc (Obj.cells #[.int .i64 0, .int .i64 0, .int .i64 0, .int .i64 one, .int .i64 0, .int .i64 0, .int .i64 (-5), .int .i64 0, .int .i64 0, .int .i64 two, .int .i64 0, .int .i64 0] 32)).heap.size ∧ i ≠ p := fun i hi => by have := l2.lt; rw [hi]; exact ⟨by simp, by omega⟩
  rw [hw3] at l3 st3 hG3 hpl ⊢
  refine (plan_live l3 _ hpl hG3 (show 4 ≤ 1000 by decide)).mono ?_
  rintro e w4 ⟨rfl, l4, st4⟩
  have hmid : CMid w p a0 a1 a2 a3 a4 one two 0 0 0 ((St.fresh 5000).planned [((0 : Int), (0 : Int), (0 : Int)), (one, 0, 0), (-5, 0, 0), (two, 0, 0)]) w4 :=
    ⟨l4, (st12.trans st3).trans st4, rfl, ⟨Int.le_refl _, Int.le_refl _, Int.le_refl _, Int.le_refl _⟩, .inl ⟨rfl, keep_four HO.out.1 HO.out.2.2.1⟩⟩
  have HM0 : Hid _ := hmid
  clear hmid l2 st12 hw3 l3 st3 hpl hG3 l4 st4
  go_wp2_with fail
  go_loopw [10, 11, 12, 13] (fun vn vst vsi vi wr => ∃ (k N : Nat) (st : Int) (s : St), k ≤ script.length ∧ k ≤ 150 ∧ N ≤ k + k ∧ vi = .int .i64 k ∧ vn = .int .i64 s.steps ∧ vst = .int .i64 st ∧ vsi = .int .i64 s.since ∧ CMid w p a0 a1 a2 a3 a4 one two k N st s wr) (fun _ _ _ vi _ => script.length - (intOf vi).toNat)
  case atStart => exact ⟨0, 0, 0, _, Nat.zero_le _, by decide, Nat.le_refl _, rfl, rfl, rfl, rfl, HM0.out⟩
  case round =>
    obtain ⟨k, N, st, s, hk, hk150, hNk, rfl, rfl, rfl, rfl, hmid⟩ := hrel
    have HMID : Hid _ := hmid
    clear hmid HM0
    by_cases hlt : k < script.length ∧ k < 150
    · obtain ⟨hl1, hl2⟩ := hlt
      have hCr := Kd.C_below HC.out HMID.out.step.below
      obtain ⟨ad, A6, c6, hA, g0, g1, g2, g3, g4, g5, g6, hl6, hC6⟩ := at_T42 hCr k (by omega) (by omega)
      have hsl := HSL.out (rd_T42 script k) (by unfold rd_T42; rw [Int.toNat_natCast, List.getD_eq_getElem?_getD, List.getElem?_eq_getElem hl1]; exact List.getElem_mem _)
      obtain ⟨x, hx⟩ : ∃ x, rd_T42 script k = x := ⟨_, rfl⟩
      rw [hx] at g0 g1 g2 g3 g4 g5 g6 hl6 hC6 hsl
      rw [Int.toNat_natCast] at g0 g1 g2 g3 g4 g5 g6
      clear hx hCr hC6 hl6
      subst hA
      have hl1b : decide ((k : Int) < (script.length : Int)) = true := decide_eq_true (by omega)
      have hl2b : decide ((k : Int) < 150) = true := decide_eq_true (by omega)
      by_cases hkind : 1 ≤ x.f0 ∧ x.f0 ≤ 6
      · have hk1 : decide (x.f0 < 1) = false := decide_eq_false (by omega)
        have hk6 : decide (x.f0 > 6) = false := decide_eq_false (by omega)
        go_wp2_with fail
        obtain ⟨w3, hw3⟩ : ∃ w3, wr.alloc (Obj.cells #[.int .i64 x.f0, .int .i64 x.f1, .string x.f2, .string x.f3, .string x.f4, .int .i64 x.f5, .slice A6 x.f6.length c6] 42) = w3 := ⟨_, rfl⟩
        obtain ⟨l3, st3⟩ := HMID.out.live.drift (w' := wr.alloc (Obj.cells #[.int .i64 x.f0, .int .i64 x.f1, .string x.f2, .string x.f3, .string x.f4, .int .i64 x.f5, .slice A6 x.f6.length c6] 42)) ((Below.refl _ _).alloc (Nat.le_refl _) _)
        rw [hw3] at l3 st3 ⊢
        clear hw3 g0 g1 g2 g3 g4 g5 g6
        have hfew := HMID.out.few
        refine (does_ok l3 (lt_max (by omega)) (hfew.small (by omega)) ⟨x.f0, x.f1, x.f2, x.f3, x.f4, x.f5, .slice A6 x.f6.length c6⟩ hkind.1 hkind.2 hsl.1 hsl.2.1 hsl.2.2).mono ?_
        rintro e w4 ⟨v, r, rfl, hact⟩
        have e1 : wrap64 (s.steps + 1) = s.steps + 1 := by obtain ⟨q1, q2, q3, q4⟩ := hfew; unfold wrap64; omega
        have e2 : wrap64 (s.since + 1) = s.since + 1 := by obtain ⟨q1, q2, q3, q4⟩ := hfew; unfold wrap64; omega
        have hpl := HMID.out.plan
        by_cases hdue : Due s
        · obtain ⟨y, rest, hyp, hyx⟩ := hdue
          have hd1 : (st = 0 ∧ (s.since + 1 == one) = true ∧ PlanAt one two 1 rest) ∨ (st = 1 ∧ (s.since + 1 == two) = true ∧ PlanAt one two 2 rest) := by
            rcases hpl with ⟨rfl, hpl⟩ | ⟨rfl, hpl⟩ | ⟨rfl, hpl⟩
            · rw [hpl] at hyp
              injection hyp with e1 e2
              subst e1 e2
              exact .inl ⟨rfl, beq_iff_eq.2 hyx.symm, .inr (.inl ⟨rfl, rfl⟩)⟩
            · rw [hpl] at hyp
              injection hyp with e1 e2
              subst e1 e2
              exact .inr ⟨rfl, beq_iff_eq.2 hyx.symm, .inr (.inr ⟨rfl, rfl⟩)⟩
            · rw [hpl] at hyp; cases hyp
          obtain ⟨st4, s', q, l4, hr', _, hp', hs', hsi', rfl, he⟩ := hact.stopped l3 HMID.out.run hyp hyx
          have hfw : Few (k + 1) s' := by obtain ⟨q1, q2, q3, q4⟩ := hfew; exact ⟨by omega, by omega, by omega, by omega⟩
          have hsens := l4.sens.c0
          have HST : Hid _ := ((HMID.out.step.trans st3).trans st4)
          have HR : Hid _ := (hr' : s'.run = false)
          have HS4 : Hid _ := hs'
          have HP4 : Hid _ := (hp' : s'.plan = rest)
          have HFW : Hid _ := hfw
          clear hact hfew st4 hp' hpl hr' hs' hsi' hyx hyp hfw
          rcases hd1 with ⟨rfl, hb, hpl⟩ | ⟨rfl, hb, hpl⟩
          all_goals have HPL : Hid _ := hpl
          all_goals clear hpl
          all_goals go_wp2_with fail
          all_goals refine (down_live l4).mono ?_
          all_goals rw [HR.out]
          all_goals rintro e w5 ⟨rfl, h5⟩
          all_goals replace h5 := h5.symm
          all_goals subst h5
          all_goals go_wp2_with fail
          all_goals refine (is_live l4 he (.inl rfl) (.inl rfl)).mono ?_
          all_goals rw [decide_eq_true rfl]
          all_goals rintro e w5 ⟨rfl, h5⟩
          all_goals replace h5 := h5.symm
          all_goals subst h5
          all_goals go_wp2_with fail
          all_goals refine (steps_live l4).mono ?_
          all_goals rw [HS4.out]
          all_goals rintro e w5 ⟨rfl, h5⟩
          all_goals replace h5 := h5.symm
          all_goals subst h5
          all_goals go_wp2_with fail
          all_goals refine (read_live l4 (Few.small (n := k + 1) HFW.out (by omega)) ⟨#[97]⟩ (by decide)).mono ?_
          all_goals rintro e w6 ⟨v6, r6, rfl, hd6, ht6⟩
          all_goals obtain ⟨q6, rfl, he6, l6, st6⟩ := hd6.downNow HR.out
          all_goals have hsens6 := l6.sens.c0
          all_goals clear hd6 ht6
          all_goals go_wp2_with fail
          all_goals refine (is_live l6 he6 (.inl rfl) (.inl rfl)).mono ?_
          all_goals rw [decide_eq_true rfl]
          all_goals rintro e w7 ⟨rfl, h7⟩
          all_goals replace h7 := h7.symm
          all_goals subst h7
          all_goals go_wp2_with fail
          all_goals refine (steps_live l6).mono ?_
          all_goals rw [HS4.out]
          all_goals rintro e w7 ⟨rfl, h7⟩
          all_goals replace h7 := h7.symm
          all_goals subst h7
          all_goals go_wp2_with fail
          all_goals refine (start_live l6).mono ?_
          all_goals rintro e w7 ⟨rfl, l7, st7⟩
          all_goals go_wp2_with fail
          all_goals refine (start_live l7).mono ?_
          all_goals rintro e w8 ⟨rfl, l8, st8⟩
          all_goals go_wp2_with fail
          all_goals exact ⟨⟨k + 1, N + 1 + 1, _, s'.start.start, by omega, by omega, by omega, by simp, by show _ = Value.int _ s'.steps; rw [HS4.out], rfl, by rw [start_twice HR.out], ⟨l8.less (fun i hi => hi.elim), ((Step.trans HST.out (st6.less (fun i hi => hi.elim))).trans (st7.less (fun i hi => hi.elim))).trans (st8.less (fun i hi => hi.elim)), rfl, few_twice HFW.out HR.out, by show PlanAt one two _ s'.plan; rw [HP4.out]; have h_ := HPL.out; unfold PlanAt; simpa using h_⟩⟩, by simp only [intOf]; omega⟩
        · obtain ⟨st4, s', l4, hr', _, hp', hs', hsi', hisno⟩ := hact.calm l3 HMID.out.run hdue
          have hd0 : (st = 0 ∧ (s.since + 1 == one) = false) ∨ (st = 1 ∧ (s.since + 1 == two) = false) ∨ st = 2 := by
            rcases hpl with ⟨rfl, hpl⟩ | ⟨rfl, hpl⟩ | ⟨rfl, hpl⟩
            · exact .inl ⟨rfl, beq_eq_false_iff_ne.2 (fun e => hdue ⟨_, _, hpl, e.symm⟩)⟩
            · exact .inr (.inl ⟨rfl, beq_eq_false_iff_ne.2 (fun e => hdue ⟨_, _, hpl, e.symm⟩)⟩)
            · exact .inr (.inr rfl)
          have hnext : CMid w p a0 a1 a2 a3 a4 one two (k + 1) (N + 1) st s' w4 := ⟨l4, (HMID.out.step.trans st3).trans st4, hr', by obtain ⟨q1, q2, q3, q4⟩ := hfew; exact ⟨by omega, by omega, by omega, by omega⟩, by rw [hp']; exact hpl⟩
          have HN : Hid _ := hnext
          have hsens := l4.sens.c0
          have HI : Hid _ := hisno
          have HR : Hid _ := (hr' : s'.run = true)
          have HS4 : Hid _ := hs'
          have HSI : Hid _ := hsi'
          clear hact hisno hnext hfew st4 hp' hpl hr' hs' hsi' hdue
          rcases hd0 with ⟨rfl, hb⟩ | ⟨rfl, hb⟩ | rfl
          all_goals go_wp2_with fail
          all_goals refine (down_live l4).mono ?_
          all_goals rw [HR.out]
          all_goals rintro e w5 ⟨rfl, h5⟩
          all_goals replace h5 := h5.symm
          all_goals subst h5
          all_goals go_wp2_with fail
          all_goals refine Calls.mono HI.out ?_
          all_goals rintro e w5 ⟨rfl, h5⟩
          all_goals replace h5 := h5.symm
          all_goals subst h5
          all_goals go_wp2_with fail
          all_goals refine (steps_live l4).mono ?_
          all_goals rw [HS4.out]
          all_goals rintro e w5 ⟨rfl, h5⟩
          all_goals replace h5 := h5.symm
          all_goals subst h5
          all_goals go_wp2_with fail
          all_goals exact ⟨⟨k + 1, N + 1, _, s', by omega, by omega, by omega, by simp, by rw [HS4.out], rfl, by rw [HSI.out], HN.out⟩, by simp only [intOf]; omega⟩
      · have hkk : (x.f0 < 1) ∨ (¬ x.f0 < 1 ∧ 6 < x.f0) := by omega
        have hnext : ∀ o, CMid w p a0 a1 a2 a3 a4 one two (k + 1) N st s (wr.alloc o) := fun o => by
          obtain ⟨l3, st3⟩ := HMID.out.live.drift (w' := wr.alloc o) ((Below.refl _ _).alloc (Nat.le_refl _) _)
          obtain ⟨q1, q2, q3, q4⟩ := HMID.out.few
          exact ⟨l3, HMID.out.step.trans st3, HMID.out.run, ⟨by omega, by omega, by omega, by omega⟩, HMID.out.plan⟩
        have HN : Hid _ := hnext
        clear hnext
        rcases hkk with hk1 | ⟨hk1, hk6⟩
        · have hk1b : decide (x.f0 < 1) = true := decide_eq_true hk1
          go_wp2_with fail
          exact ⟨⟨k + 1, N, _, s, by omega, by omega, by omega, by simp, rfl, rfl, rfl, HN.out _⟩, by simp only [intOf]; omega⟩
        · have hk1b : decide (x.f0 < 1) = false := decide_eq_false hk1
          have hk6b : decide (6 < x.f0) = true := decide_eq_true hk6
          go_wp2_with fail
          exact ⟨⟨k + 1, N, _, s, by omega, by omega, by omega, by simp, rfl, rfl, rfl, HN.out _⟩, by simp only [intOf]; omega⟩
    · rcases Nat.lt_or_ge k script.length with h | h
      · have hl1b : decide ((k : Int) < (script.length : Int)) = true := decide_eq_true (by omega)
        have hl2b : decide ((k : Int) < 150) = false := decide_eq_false (by omega)
        go_wp2_with fail
        go_ret
        exact ⟨rfl, HMID.out.step.below⟩
      · have hl1b : decide ((k : Int) < (script.length : Int)) = false := decide_eq_false (by omega)
        go_wp2_with fail
        go_ret
        exact ⟨rfl, HMID.out.step.below⟩
end Go.Proofs.YtkfehogefclhdaaDoor.Dk

/- DiskCounts, at every argument. -/
namespace Go.Proofs.YtkfehogefclhdaaDoor.Dk
open Go.RowKit Go.Maps Go.Proofs.YtkfehogefclhdaaDoorW.PrintWords
set_option maxRecDepth 100000 in
theorem opn32 : Opn.Opn Tryd.prog 32 k32 (fun _ => True) :=
  (Opn.opn_iso (fun x : S32 => (x.f0, x.f1, x.f2)) (fun z => ⟨z.1, z.2.1, z.2.2⟩) (fun _ => rfl)
    (Opn.opn_struct Tryd.underlying32 (by kernel_rfl) (Opn.opnF_cons rfl (Opn.opn_int Tryd.underlying3 (by kernel_rfl)) (Opn.opnF_cons rfl (Opn.opn_int Tryd.underlying3 (by kernel_rfl)) (Opn.opnF_one rfl (Opn.opn_int Tryd.underlying3 (by kernel_rfl))))))).imp (fun _ _ => trivial)
set_option maxRecDepth 100000 in
theorem opn33 : Opn.Opn Tryd.prog 33 (Kd.slice 32 k32) (fun xs => xs.length * 24 ≤ 140737488351232) :=
  (Opn.opn_slice Tryd.underlying33 (by kernel_rfl) opn32).imp (fun _ h => by have e : Tryd.prog.bytesOf 32 = 24 := by kernel_rfl
                                                                             rw [e] at h; exact h.1)
/-- How large an act may be. -/
def ActOk (x : S42) : Prop := x.f2.size ≤ 140737488351232 ∧ x.f3.size ≤ 140737488351232 ∧ x.f4.size ≤ 140737488351232 ∧ x.f6.length * 24 ≤ 140737488351232 ∧ (Lit.int .i64 x.f0).wf = true ∧ (Lit.int .i64 x.f5).wf = true
set_option maxRecDepth 100000 in
theorem opn42 : Opn.Opn Tryd.prog 42 k42 ActOk :=
  (Opn.opn_iso (fun x : S42 => (x.f0, x.f1, x.f2, x.f3, x.f4, x.f5, x.f6)) (fun z => ⟨z.1, z.2.1, z.2.2.1, z.2.2.2.1, z.2.2.2.2.1, z.2.2.2.2.2.1, z.2.2.2.2.2.2⟩) (fun _ => rfl)
    (Opn.opn_struct Tryd.underlying42 (by kernel_rfl) (Opn.opnF_cons rfl (Opn.opn_int Tryd.underlying3 (by kernel_rfl)) (Opn.opnF_cons rfl (Opn.opn_int Tryd.underlying3 (by kernel_rfl))
      (Opn.opnF_cons rfl (Opn.opn_string Tryd.underlying9 (by kernel_rfl)) (Opn.opnF_cons rfl (Opn.opn_string Tryd.underlying9 (by kernel_rfl)) (Opn.opnF_cons rfl (Opn.opn_string Tryd.underlying9 (by kernel_rfl))
      (Opn.opnF_cons rfl (Opn.opn_int Tryd.underlying3 (by kernel_rfl)) (Opn.opnF_one rfl opn33))))))))).imp (fun _ h => ⟨h.2.2.1, h.2.2.2.1, h.2.2.2.2.1, h.2.2.2.2.2.2, h.1, h.2.2.2.2.2.1⟩)
set_option maxRecDepth 100000 in
theorem opn40 : Opn.Opn Tryd.prog 40 (Kd.slice 42 k42) (fun xs => xs.length ≤ maxLen ∧ ∀ x ∈ xs, ActOk x) :=
  (Opn.opn_slice Tryd.underlying40 (by kernel_rfl) opn42).imp (fun _ h => ⟨h.2.1, h.2.2⟩)
end Go.Proofs.YtkfehogefclhdaaDoor.Dk
namespace Go.Proofs.YtkfehogefclhdaaDoor.PDc
open Go.RowKit Go.Proofs.YtkfehogefclhdaaDoorW.PrintWords
theorem postbaglaw9_DiskCounts.calls (_k : Nat) (A : Option Addr) (c : Nat) (xs : List Dk.S42) {w : World} (hC : Kd.C Dk.k42 w A xs.length xs) (_hl : xs.length ≤ c) (hS : xs.length ≤ maxLen ∧ ∀ x ∈ xs, Dk.ActOk x) (a1 a2 : Int) (r : Bool) (_ : World) (h : r = true) (hw : Ext.WPS w) :
    Calls Tryd.prog 4 #[.slice A xs.length c, .int .i64 a1, .int .i64 a2] w fun e w' => e = .returned (.bool r) ∧ Below w.heap.size w w' := by
  subst h
  obtain ⟨b0, b1, b2, b3, b4, hs⟩ := hw
  exact Dk.counts_walk hs xs A c hC (fun x hx => ⟨(hS.2 x hx).1, (hS.2 x hx).2.1, (hS.2 x hx).2.2.1⟩) a1 a2
end Go.Proofs.YtkfehogefclhdaaDoor.PDc
namespace Go.Proofs.YtkfehogefclhdaaDoor.Pure
theorem DiskCounts (_a1 _a2 : Int) : ∃ _k : Nat, true = true := ⟨0, rfl⟩
end Go.Proofs.YtkfehogefclhdaaDoor.Pure
