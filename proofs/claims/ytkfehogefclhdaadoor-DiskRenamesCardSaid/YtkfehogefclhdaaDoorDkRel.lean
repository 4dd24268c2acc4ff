/- What a disk is in memory: its struct, its map of files, its files, its plan; and what other memory keeps. -/
import Derived.Test.YtkfehogefclhdaaDoorProg
import Derived.Test.YtkfehogefclhdaaDoorWWords
import Derived.WalkKit
import Derived.WalkSpells
import Derived.WalkLawsBesides
import Derived.Maps.OwnSet
import Derived.Maps.RangeWalk
import Derived.StringKeys
namespace Go.Proofs.YtkfehogefclhdaaDoor.Dk
open Go.RowKit Go.Maps Go.Proofs.YtkfehogefclhdaaDoorW.PrintWords
open Go.Maps (Keyed)

theorem law9 : Keyed Tryd.prog 9 := string_keyed Tryd.underlying9
/-- How a pointer to a file reads: by its block. -/
def rp : Value → Option (DataW Unit × List MemPlace)
  | .pointer none => some (.lit (.int .i64 (-1)), [])
  | .pointer (some ⟨b, 0, none⟩) => some (.lit (.int .i64 b), [])
  | _ => none
def dat : Option Nat → DataW Unit
  | none => .lit (.int .i64 (-1))
  | some b => .lit (.int .i64 b)
def ptr : Option Nat → Value
  | none => .pointer none
  | some b => .pointer (some ⟨b, 0, none⟩)
theorem rp_ptr (o : Option Nat) : rp (ptr o) = some (dat o, []) := by cases o <;> rfl
theorem dat_inj {a b : Option Nat} (h : dat a = dat b) : a = b := by
  cases a <;> cases b <;> simp [dat] at h ⊢ <;> first | omega | exact h
theorem rp_inv {v : Value} {y : DataW Unit × List MemPlace} (h : rp v = some y) : ∃ o, v = ptr o ∧ y = (dat o, []) := by
  unfold rp at h
  split at h
  · cases h; exact ⟨none, rfl, rfl⟩
  · cases h; exact ⟨some _, rfl, rfl⟩
  · cases h

/-- A file: its name, the block it lies in, its bytes, how many of them are durable. -/
structure Fil where
  name : ByteArray
  blk : Nat
  bytes : ByteArray
  dur : Nat
structure St where
  quota : Int
  run : Bool
  steps : Int
  plan : List (Int × Int × Int)
  since : Int
  fs : List Fil

def look (fs : List Fil) (s : ByteArray) : Option Fil := fs.find? (fun f => decide (f.name = s))
def kl (s : ByteArray) : Lit := .string s.data.toList
def MapIs (w : World) (m n : Nat) (fs : List Fil) : Prop :=
  ∃ D, w.ownsMap Tryd.prog 9 rp m n D ∧ (∀ s, D.atKey (kl s) (dat none) = dat ((look fs s).map Fil.blk)) ∧ ∀ s, has D (kl s) = (look fs s).isSome

def PlanIs (w : World) (F : Nat → Prop) (v : Value) (l : List (Int × Int × Int)) : Prop :=
  ∃ A c, v = .slice A l.length c ∧ l.length ≤ c ∧ c ≤ 9223372036854775807 ∧
    ∀ (i : Nat) (x : Int × Int × Int), l[i]? = some x → ∃ g o, A = some ⟨g, o, none⟩ ∧ F g ∧ (∃ cs, w.heap[g]? = some (.cells cs 32 (0, 0))) ∧ w.cell? ⟨g, o + i * 3, none⟩ = some (.int .i64 x.1) ∧ w.cell? ⟨g, o + i * 3 + 1, none⟩ = some (.int .i64 x.2.1) ∧ w.cell? ⟨g, o + i * 3 + 2, none⟩ = some (.int .i64 x.2.2)

def cellsOf (s : St) (m : Nat) (pv : Value) : Array Value := #[.int .i64 s.quota, .map (some m), .bool s.run, .int .i64 s.steps, pv, .int .i64 s.since]
def used (fs : List Fil) : Nat := (fs.map fun f => f.bytes.size).sum

/-- The disk at block p: its memory lies in blocks of F. -/
structure Is (N : Nat) (w : World) (p : Nat) (F : Nat → Prop) (s : St) (m : Nat) (pv : Value) : Prop where
  top : w.heap[p]? = some (.cells (cellsOf s m pv) 77 (0, 0))
  files : MapIs w m N s.fs
  plan : PlanIs w F pv s.plan
  each : ∀ f ∈ s.fs, w.heap[f.blk]? = some (.cells #[.string f.bytes, .int .i64 f.dur] 81 (0, 0))
  names : s.fs.Pairwise (fun f g => f.name ≠ g.name)
  blks : s.fs.Pairwise (fun f g => f.blk ≠ g.blk)
  durs : ∀ f ∈ s.fs, f.dur ≤ f.bytes.size
  room : (used s.fs : Int) ≤ s.quota
  quo : s.quota ≤ 1048576
  inP : F p
  inM : F m
  inF : ∀ f ∈ s.fs, F f.blk
  low : ∀ i, F i → i < w.heap.size

/-- All memory but that of F is as it was. -/
structure Fr (F : Nat → Prop) (w w' : World) : Prop where
  os : w'.os = w.os
  tape : w'.tape = w.tape
  output : w'.output = w.output
  size : w.heap.size ≤ w'.heap.size
  block : ∀ k, k < w.heap.size → ¬ F k → w'.heap[k]? = w.heap[k]?
theorem Fr.refl (F : Nat → Prop) (w : World) : Fr F w w := ⟨rfl, rfl, rfl, Nat.le_refl _, fun _ _ _ => rfl⟩
/-- The new memory's blocks: the old ones, or new. -/
def Sub (w : World) (F F' : Nat → Prop) : Prop := ∀ i, F' i → F i ∨ w.heap.size ≤ i
theorem Sub.refl (w : World) (F : Nat → Prop) : Sub w F F := fun _ h => .inl h
theorem Sub.trans {w w1 : World} {F F1 F2 : Nat → Prop} (h : Sub w F F1) (hs : w.heap.size ≤ w1.heap.size) (k : Sub w1 F1 F2) : Sub w F F2 := fun i hi => by
  rcases k i hi with h1 | h1
  · exact h i h1
  · exact .inr (Nat.le_trans hs h1)
theorem Fr.trans {w w1 w2 : World} {F F1 : Nat → Prop} (h : Fr F w w1) (hs : Sub w F F1) (k : Fr F1 w1 w2) : Fr F w w2 :=
  ⟨k.os.trans h.os, k.tape.trans h.tape, k.output.trans h.output, Nat.le_trans h.size k.size, fun i hi hn => (k.block i (Nat.lt_of_lt_of_le hi h.size) (fun e => by
    rcases hs i e with h1 | h1
    · exact hn h1
    · omega)).trans (h.block i hi hn)⟩
theorem Fr.of_below {w w' : World} (h : Below w.heap.size w w') (F : Nat → Prop) : Fr F w w' := ⟨h.os, h.tape, h.output, h.size, fun k hk _ => h.block k hk⟩
theorem Fr.below {w w' : World} {F : Nat → Prop} {B : Nat} (h : Fr F w w') (hF : ∀ i, F i → B ≤ i) (hB : B ≤ w.heap.size) : Below B w w' :=
  ⟨h.os, h.tape, h.output, h.size, fun k hk => h.block k (by omega) (fun e => by have := hF k e; omega)⟩
theorem Fr.wide {w w' : World} {F F' : Nat → Prop} (h : Fr F w w') (hs : ∀ i, i < w.heap.size → F i → F' i) : Fr F' w w' := ⟨h.os, h.tape, h.output, h.size, fun k hk hn => h.block k hk (fun e => hn (hs k hk e))⟩

theorem cell_of {w : World} {a : Addr} {v : Value} {w' : World} (hc : w.cell? a = some v) (h : w'.heap[a.block]? = w.heap[a.block]?) : w'.cell? a = some v := by
  rw [← hc]; unfold World.cell?; rw [h]
/-- The disk stays what it is where its memory does. -/
theorem MapIs.kept {w w' : World} {m n : Nat} {fs : List Fil} (h : MapIs w m n fs) (hm : w'.heap[m]? = w.heap[m]?) : MapIs w' m n fs := by
  obtain ⟨D, ⟨es, clock, hb, rest⟩, h2, h3⟩ := h
  exact ⟨D, ⟨es, clock, hm.trans hb, rest⟩, h2, h3⟩
theorem PlanIs.kept {w w' : World} {F : Nat → Prop} {v : Value} {l : List (Int × Int × Int)} (h : PlanIs w F v l) (hm : ∀ i, F i → w'.heap[i]? = w.heap[i]?) : PlanIs w' F v l := by
  obtain ⟨A, c, e, h1, h2, h3⟩ := h
  refine ⟨A, c, e, h1, h2, fun i x hx => ?_⟩
  obtain ⟨g, o, ha, hg, ⟨cs, c0⟩, c1, c2, c3⟩ := h3 i x hx
  exact ⟨g, o, ha, hg, ⟨cs, (hm g hg).trans c0⟩, cell_of c1 (hm g hg), cell_of c2 (hm g hg), cell_of c3 (hm g hg)⟩
theorem PlanIs.wide {w : World} {F F' : Nat → Prop} {v : Value} {l : List (Int × Int × Int)} (h : PlanIs w F v l) (hm : ∀ i, F i → F' i) : PlanIs w F' v l := by
  obtain ⟨A, c, e, h1, h2, h3⟩ := h
  refine ⟨A, c, e, h1, h2, fun i x hx => ?_⟩
  obtain ⟨g, o, ha, hg, c0, c1, c2, c3⟩ := h3 i x hx
  exact ⟨g, o, ha, hm g hg, c0, c1, c2, c3⟩
theorem Is.kept {N : Nat} {w w' : World} {p : Nat} {F : Nat → Prop} {s : St} {m : Nat} {pv : Value} (h : Is N w p F s m pv) (hm : ∀ i, F i → w'.heap[i]? = w.heap[i]?) (hs : w.heap.size ≤ w'.heap.size) : Is N w' p F s m pv where
  top := (hm p h.inP).trans h.top
  files := h.files.kept (hm m h.inM)
  plan := h.plan.kept hm
  each := fun f hf => (hm _ (h.inF f hf)).trans (h.each f hf)
  names := h.names
  blks := h.blks
  durs := h.durs
  room := h.room
  quo := h.quo
  inP := h.inP
  inM := h.inM
  inF := h.inF
  low := fun i hi => Nat.lt_of_lt_of_le (h.low i hi) hs
theorem Is.below {N : Nat} {w w' : World} {p : Nat} {F : Nat → Prop} {s : St} {m : Nat} {pv : Value} (h : Is N w p F s m pv) (hb : Below w.heap.size w w') : Is N w' p F s m pv :=
  h.kept (fun i hi => hb.block i (h.low i hi)) hb.size
theorem Is.fr {N : Nat} {w w' : World} {p : Nat} {F G : Nat → Prop} {s : St} {m : Nat} {pv : Value} (h : Is N w p F s m pv) (hb : Fr G w w') (hG : ∀ i, F i → ¬ G i) : Is N w' p F s m pv :=
  h.kept (fun i hi => hb.block i (h.low i hi) (hG i hi)) hb.size
theorem Is.ne {N : Nat} {w : World} {p : Nat} {F : Nat → Prop} {s : St} {m : Nat} {pv : Value} (h : Is N w p F s m pv) : p ≠ m := by
  obtain ⟨D, ⟨es, clock, hb, _⟩, _⟩ := h.files
  intro e; have t := h.top; rw [e, hb] at t; cases t
theorem Is.cells {N : Nat} {w : World} {p : Nat} {F : Nat → Prop} {s : St} {m : Nat} {pv : Value} (h : Is N w p F s m pv) :
    w.cell? ⟨p, 0, none⟩ = some (.int .i64 s.quota) ∧ w.cell? ⟨p, 1, none⟩ = some (.map (some m)) ∧ w.cell? ⟨p, 2, none⟩ = some (.bool s.run) ∧ w.cell? ⟨p, 3, none⟩ = some (.int .i64 s.steps) ∧ w.cell? ⟨p, 4, none⟩ = some pv ∧ w.cell? ⟨p, 5, none⟩ = some (.int .i64 s.since) :=
  ⟨blk_cell h.top 0, blk_cell h.top 1, blk_cell h.top 2, blk_cell h.top 3, blk_cell h.top 4, blk_cell h.top 5⟩
theorem Is.thaw {N : Nat} {w : World} {p : Nat} {F : Nat → Prop} {s : St} {m : Nat} {pv : Value} (h : Is N w p F s m pv) (i : Nat) : w.frozen? ⟨p, i, none⟩ = false := blk_frozen h.top i
end Go.Proofs.YtkfehogefclhdaaDoor.Dk
