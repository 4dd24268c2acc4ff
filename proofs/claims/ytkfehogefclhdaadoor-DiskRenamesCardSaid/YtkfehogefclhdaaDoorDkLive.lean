/- A disk that lives: its methods as a law's walk uses them. -/
import Derived.Test.YtkfehogefclhdaaDoorDkKnown
namespace Go.Proofs.YtkfehogefclhdaaDoor.Dk
open Go.RowKit Go.Maps Go.Proofs.YtkfehogefclhdaaDoorW.PrintWords Go.Proofs.YtkfehogefclhdaaDoorW.PrintMore
variable {N : Nat} {w : World} {p : Nat} {F : Nat → Prop} {s : St} {m : Nat} {pv : Value} {B : Nat} {a0 a1 a2 a3 a4 : Addr} {K : Nat → Prop}

/-- The disk at block p is in the state s; K: blocks of others that it never writes. -/
def Live (B N : Nat) (w : World) (p : Nat) (K : Nat → Prop) (s : St) (a0 a1 a2 a3 a4 : Addr) : Prop :=
  ∃ F m pv, Is N w p F s m pv ∧ (∀ i, F i → B ≤ i ∧ ¬ K i) ∧ (∀ i, K i → i < w.heap.size) ∧ Sens w B a0 a1 a2 a3 a4 ∧ B ≤ w.heap.size
/-- What a step leaves of others' memory. -/
structure Step (B : Nat) (K : Nat → Prop) (w w' : World) : Prop where
  below : Below B w w'
  kept : ∀ i, K i → w'.heap[i]? = w.heap[i]?
theorem Step.refl (B : Nat) (K : Nat → Prop) (w : World) : Step B K w w := ⟨Below.refl _ _, fun _ _ => rfl⟩
theorem Step.trans {w1 w2 : World} (h : Step B K w w1) (k : Step B K w1 w2) : Step B K w w2 := ⟨h.below.trans k.below, fun i hi => (k.kept i hi).trans (h.kept i hi)⟩
theorem Live.move {w' : World} {F' : Nat → Prop} {s' : St} {N' : Nat} {m' : Nat} {pv' : Value} (hF : ∀ i, F i → B ≤ i ∧ ¬ K i) (hK : ∀ i, K i → i < w.heap.size) (hS : Sens w B a0 a1 a2 a3 a4) (hB : B ≤ w.heap.size) (h1 : Is N' w' p F' s' m' pv') (h2 : Fr F w w') (h3 : Sub w F F') :
    Live B N' w' p K s' a0 a1 a2 a3 a4 ∧ Step B K w w' := by
  have hb : Below B w w' := h2.below (fun i hi => (hF i hi).1) hB
  refine ⟨⟨F', m', pv', h1, fun i hi => ?_, fun i hi => Nat.lt_of_lt_of_le (hK i hi) h2.size, hS.below hb, Nat.le_trans hB h2.size⟩, hb, fun i hi => h2.block i (hK i hi) (fun e => (hF i e).2 hi)⟩
  rcases h3 i hi with h | h
  · exact hF i h
  · exact ⟨Nat.le_trans hB h, fun hk => by have := hK i hk; omega⟩
theorem Live.drift {w' : World} (h : Live B N w p K s a0 a1 a2 a3 a4) (hb : Below w.heap.size w w') : Live B N w' p K s a0 a1 a2 a3 a4 ∧ Step B K w w' := by
  obtain ⟨F, m, pv, h1, h2, h3, h4, h5⟩ := h
  exact Live.move h2 h3 h4 h5 (h1.below hb) (Fr.of_below hb F) (Sub.refl _ _)
/-- A block of another's is kept from now on. -/
theorem Live.add (h : Live B N w p K s a0 a1 a2 a3 a4) {q : Nat} {cs : Array Value} {t : TypeId} (hq : w.heap[q]? = some (.cells cs t (0, 0))) (ht : t ≠ 77 ∧ t ≠ 81 ∧ t ≠ 32) : Live B N w p (fun i => K i ∨ i = q) s a0 a1 a2 a3 a4 := by
  obtain ⟨F, m, pv, h1, h2, h3, h4, h5⟩ := h
  have e1 : p ≠ q := fun e => by have := h1.top; rw [e, hq] at this; simp at this; exact ht.1 this.2
  have e2 : m ≠ q := fun e => by obtain ⟨D, ⟨es, clock, hb, _⟩, _⟩ := h1.files; rw [e, hq] at hb; cases hb
  have e3 : ∀ f ∈ s.fs, f.blk ≠ q := fun f hf e => by have := h1.each f hf; rw [e, hq] at this; simp at this; exact ht.2.1 this.2
  refine ⟨fun i => F i ∧ i ≠ q, m, pv, ⟨h1.top, h1.files, ?_, h1.each, h1.names, h1.blks, h1.durs, h1.room, h1.quo, ⟨h1.inP, e1⟩, ⟨h1.inM, e2⟩, fun f hf => ⟨h1.inF f hf, e3 f hf⟩, fun i hi => h1.low i hi.1⟩, fun i hi => ⟨(h2 i hi.1).1, fun e => ?_⟩, fun i hi => ?_, h4, h5⟩
  · obtain ⟨A, c, e, k1, k2, k3⟩ := h1.plan
    refine ⟨A, c, e, k1, k2, fun i x hx => ?_⟩
    obtain ⟨g, o, ha, hg, ⟨cs', k0⟩, r⟩ := k3 i x hx
    exact ⟨g, o, ha, ⟨hg, fun e => by rw [e, hq] at k0; simp at k0; exact ht.2.2 k0.2⟩, ⟨cs', k0⟩, r⟩
  · rcases e with e | e
    · exact (h2 i hi.1).2 e
    · exact hi.2 e
  · rcases hi with hi | rfl
    · exact h3 i hi
    · exact blk_lt hq
/-- What an operation tells. -/
def Did (B N : Nat) (w : World) (p : Nat) (K : Nat → Prop) (s : St) (a0 a1 a2 a3 a4 : Addr) (code : Int) (Pf : Int → List Fil → Prop) (Wf : List Fil → Prop) (v : Value) (w' : World) : Prop :=
  ∃ s', Live B (N + 1) w' p K s' a0 a1 a2 a3 a4 ∧ Step B K w w' ∧ Done s a0 a1 a2 a3 a4 code Pf Wf w' v s'
structure Small (s : St) : Prop where
  s0 : 0 ≤ s.steps
  s1 : s.steps < 1000000000000
  s2 : 0 ≤ s.since
  s3 : s.since < 1000000000000
theorem OpRes.did {F : Nat → Prop} {m : Nat} {code : Int} {Pf : Int → List Fil → Prop} {Wf : List Fil → Prop} {v : Value} {w' : World} (hF : ∀ i, F i → B ≤ i ∧ ¬ K i) (hK : ∀ i, K i → i < w.heap.size) (hS : Sens w B a0 a1 a2 a3 a4) (hB : B ≤ w.heap.size) (hr : OpRes N w p F s m a0 a1 a2 a3 a4 code Pf Wf v w') :
    Did B N w p K s a0 a1 a2 a3 a4 code Pf Wf v w' := by
  obtain ⟨F', s', pv', h1, h2, h3, h4⟩ := hr
  obtain ⟨q1, q2⟩ := Live.move hF hK hS hB h1 h2 h3
  exact ⟨s', q1, q2, h4⟩
theorem append_live (h : Live B N w p K s a0 a1 a2 a3 a4) (hN : N < maxLen) (hs : Small s) (x data : ByteArray) (hx : x.size ≤ 140737488351232) (hd : data.size ≤ 140737488351232) :
    Calls Tryd.prog 12 #[.pointer (some ⟨p, 0, none⟩), .string x, .string data] w fun e w' => ∃ v, e = .returned v ∧ Did B N w p K s a0 a1 a2 a3 a4 (appC s x data) (AppF s.fs x data) (AppF s.fs x data data.size) v w' := by
  obtain ⟨F, m, pv, h1, h2, h3, h4, h5⟩ := h
  refine (append_ok h1 hN h4 (fun i hi => (h2 i hi).1) hs.s0 hs.s1 hs.s2 hs.s3 x data hx hd).mono ?_
  rintro e w' ⟨v, rfl, hr⟩
  exact ⟨v, rfl, hr.did h2 h3 h4 h5⟩
theorem sync_live (h : Live B N w p K s a0 a1 a2 a3 a4) (hs : Small s) (x : ByteArray) (hx : x.size ≤ 140737488351232) :
    Calls Tryd.prog 13 #[.pointer (some ⟨p, 0, none⟩), .string x] w fun e w' => ∃ v, e = .returned v ∧ Did B N w p K s a0 a1 a2 a3 a4 (thereC s.fs x) (orF s.fs (SyncF s.fs x)) (SyncF s.fs x) v w' := by
  obtain ⟨F, m, pv, h1, h2, h3, h4, h5⟩ := h
  refine (sync_ok h1 h4 (fun i hi => (h2 i hi).1) hs.s0 hs.s1 hs.s2 hs.s3 x hx).mono ?_
  rintro e w' ⟨v, rfl, hr⟩
  exact ⟨v, rfl, hr.did h2 h3 h4 h5⟩
theorem remove_live (h : Live B N w p K s a0 a1 a2 a3 a4) (hs : Small s) (x : ByteArray) (hx : x.size ≤ 140737488351232) :
    Calls Tryd.prog 16 #[.pointer (some ⟨p, 0, none⟩), .string x] w fun e w' => ∃ v, e = .returned v ∧ Did B N w p K s a0 a1 a2 a3 a4 (thereC s.fs x) (orF s.fs (fun fs' => fs' = outF x s.fs)) (fun fs' => fs' = outF x s.fs) v w' := by
  obtain ⟨F, m, pv, h1, h2, h3, h4, h5⟩ := h
  refine (remove_ok h1 h4 (fun i hi => (h2 i hi).1) hs.s0 hs.s1 hs.s2 hs.s3 x hx).mono ?_
  rintro e w' ⟨v, rfl, hr⟩
  exact ⟨v, rfl, hr.did h2 h3 h4 h5⟩
theorem rename_live (h : Live B N w p K s a0 a1 a2 a3 a4) (hN : N < maxLen) (hs : Small s) (x y : ByteArray) (hx : x.size ≤ 140737488351232) (hy : y.size ≤ 140737488351232) :
    Calls Tryd.prog 15 #[.pointer (some ⟨p, 0, none⟩), .string x, .string y] w fun e w' => ∃ v, e = .returned v ∧ Did B N w p K s a0 a1 a2 a3 a4 (renC s.fs x y) (orF s.fs (RenF s.fs x y)) (RenF s.fs x y) v w' := by
  obtain ⟨F, m, pv, h1, h2, h3, h4, h5⟩ := h
  refine (rename_ok h1 hN h4 (fun i hi => (h2 i hi).1) hs.s0 hs.s1 hs.s2 hs.s3 x y hx hy).mono ?_
  rintro e w' ⟨v, rfl, hr⟩
  exact ⟨v, rfl, hr.did h2 h3 h4 h5⟩
theorem read_live (h : Live B N w p K s a0 a1 a2 a3 a4) (hs : Small s) (x : ByteArray) (hx : x.size ≤ 140737488351232) :
    Calls Tryd.prog 20 #[.pointer (some ⟨p, 0, none⟩), .string x] w fun e w' => ∃ v r, e = .returned (.tuple #[.string r, v]) ∧ Did B N w p K s a0 a1 a2 a3 a4 (thereC s.fs x) (fun _ fs' => fs' = s.fs) (fun fs' => fs' = s.fs) v w' ∧ Told s x r v := by
  obtain ⟨F, m, pv, h1, h2, h3, h4, h5⟩ := h
  refine (read_ok h1 h4 (fun i hi => (h2 i hi).1) hs.s0 hs.s1 hs.s2 hs.s3 x hx).mono ?_
  rintro e w' ⟨v, r, rfl, hr, ht⟩
  exact ⟨v, r, rfl, hr.did h2 h3 h4 h5, ht⟩
theorem start_live (h : Live B N w p K s a0 a1 a2 a3 a4) : Calls Tryd.prog 19 #[.pointer (some ⟨p, 0, none⟩)] w fun e w' => e = .returned (.tuple #[]) ∧ Live B N w' p K s.start a0 a1 a2 a3 a4 ∧ Step B K w w' := by
  obtain ⟨F, m, pv, h1, h2, h3, h4, h5⟩ := h
  refine (start_ok h1).mono ?_
  rintro e w' ⟨rfl, q1, q2⟩
  exact ⟨rfl, Live.move h2 h3 h4 h5 q1 q2 (Sub.refl _ _)⟩
theorem plan_live (h : Live B N w p K s a0 a1 a2 a3 a4) (l : List (Int × Int × Int)) {G : Nat → Prop} {g o c : Nat} (hl : PlanIs w G (.slice (some ⟨g, o, none⟩) l.length c) l) (hG : ∀ i, G i → i < w.heap.size ∧ i ≠ p) (hlen : l.length ≤ 1000) :
    Calls Tryd.prog 14 #[.pointer (some ⟨p, 0, none⟩), .slice (some ⟨g, o, none⟩) l.length c] w fun e w' => e = .returned (.tuple #[]) ∧ Live B N w' p K (s.planned l) a0 a1 a2 a3 a4 ∧ Step B K w w' := by
  obtain ⟨F, m, pv, h1, h2, h3, h4, h5⟩ := h
  refine (plan_ok h1 l hl hG hlen).mono ?_
  rintro e w' ⟨rfl, F', v, q1, q2, q3⟩
  exact ⟨rfl, Live.move h2 h3 h4 h5 q1 q2 q3⟩
theorem down_live (h : Live B N w p K s a0 a1 a2 a3 a4) : Calls Tryd.prog 18 #[.pointer (some ⟨p, 0, none⟩)] w fun e w' => e = .returned (.bool (!s.run)) ∧ w' = w := by
  obtain ⟨F, m, pv, h1, _⟩ := h; exact down_ok h1
theorem quota_live (h : Live B N w p K s a0 a1 a2 a3 a4) : Calls Tryd.prog 22 #[.pointer (some ⟨p, 0, none⟩)] w fun e w' => e = .returned (.int .i64 s.quota) ∧ w' = w := by
  obtain ⟨F, m, pv, h1, _⟩ := h; exact quota_ok h1
theorem steps_live (h : Live B N w p K s a0 a1 a2 a3 a4) : Calls Tryd.prog 24 #[.pointer (some ⟨p, 0, none⟩)] w fun e w' => e = .returned (.int .i64 s.steps) ∧ w' = w := by
  obtain ⟨F, m, pv, h1, _⟩ := h; exact steps_ok h1
def sizeF (fs : List Fil) (x : ByteArray) : Int := match look fs x with | none => -1 | some f => f.bytes.size
theorem size_live (h : Live B N w p K s a0 a1 a2 a3 a4) (x : ByteArray) (hx : x.size ≤ maxLen) : Calls Tryd.prog 21 #[.pointer (some ⟨p, 0, none⟩), .string x] w fun e w' => e = .returned (.int .i64 (sizeF s.fs x)) ∧ w' = w := by
  obtain ⟨F, m, pv, h1, _⟩ := h
  unfold sizeF
  cases hl : look s.fs x with
  | none => exact size_none h1 x hx hl
  | some f => exact size_some h1 x hx hl
theorem used_live (h : Live B N w p K s a0 a1 a2 a3 a4) : Calls Tryd.prog 38 #[.pointer (some ⟨p, 0, none⟩)] w fun e w' => e = .returned (.int .i64 (used s.fs)) ∧ Live B N w' p K s a0 a1 a2 a3 a4 ∧ Step B K w w' := by
  have h' := h
  obtain ⟨F, m, pv, h1, _⟩ := h
  refine (used_ok h1).mono ?_
  rintro e w' ⟨rfl, hb⟩
  exact ⟨rfl, h'.drift hb⟩
theorem new_live (q : Int) (h1 : 1 ≤ q) (h2 : q ≤ 1048576) (hS : Sens w B a0 a1 a2 a3 a4) (hB : B ≤ w.heap.size) (hK : ∀ i, K i → i < w.heap.size) : Calls Tryd.prog 11 #[.int .i64 q] w fun e w' => e = .returned (.tuple #[.pointer (some ⟨w.heap.size + 1, 0, none⟩), .nilIface]) ∧
    Live B 0 w' (w.heap.size + 1) K (St.fresh q) a0 a1 a2 a3 a4 ∧ Step B K w w' := by
  refine (new_ok q h1 h2 w).mono ?_
  rintro e w' ⟨rfl, his, hb⟩
  exact ⟨rfl, ⟨_, _, _, his, fun i hi => ⟨by omega, fun hk => by have := hK i hk; omega⟩, fun i hi => Nat.lt_of_lt_of_le (hK i hi) hb.size, hS.below (hb.mono hB), Nat.le_trans hB hb.size⟩, hb.mono hB, fun i hi => hb.block i (hK i hi)⟩
/-- An error at its block. -/
def ErrAt (w : World) (q : Nat) (a : Addr) : Prop := ∃ c0 c1 c2 c3, w.heap[q]? = some (.cells #[c0, c1, c2, c3, .iface 179 (.pointer (some a))] 74 (0, 0))
theorem IsErr.at {v : Value} {a : Addr} (h : IsErr w v a) : ∃ q, v = .iface 72 (.pointer (some ⟨q, 0, none⟩)) ∧ ErrAt w q a := by
  obtain ⟨q, c0, c1, c2, c3, e, hq⟩ := h
  exact ⟨q, e, c0, c1, c2, c3, hq⟩
theorem Live.keepErr (h : Live B N w p K s a0 a1 a2 a3 a4) {q : Nat} {a : Addr} (he : ErrAt w q a) : Live B N w p (fun i => K i ∨ i = q) s a0 a1 a2 a3 a4 := by
  obtain ⟨c0, c1, c2, c3, hq⟩ := he
  exact h.add hq ⟨by decide, by decide, by decide⟩
theorem ErrAt.step {w' : World} {q : Nat} {a : Addr} (he : ErrAt w q a) (hs : Step B K w w') (hq : K q) : ErrAt w' q a := by
  obtain ⟨c0, c1, c2, c3, h⟩ := he
  exact ⟨c0, c1, c2, c3, (hs.kept q hq).trans h⟩
/-- errors.Is of a disk's error. -/
theorem is_live (h : Live B N w p K s a0 a1 a2 a3 a4) {q : Nat} {a b : Addr} (he : ErrAt w q a) (ha : a = a0 ∨ a = a1 ∨ a = a2 ∨ a = a3 ∨ a = a4) (hb : b = a0 ∨ b = a1 ∨ b = a2 ∨ b = a3 ∨ b = a4) :
    Calls Tryd.prog 17 #[.iface 72 (.pointer (some ⟨q, 0, none⟩)), .iface 179 (.pointer (some b))] w fun e w' => e = .returned (.bool (decide (a = b))) ∧ w' = w := by
  obtain ⟨F, m, pv, h1, h2, h3, h4, h5⟩ := h
  have hie : IsErr w (.iface 72 (.pointer (some ⟨q, 0, none⟩))) a := by obtain ⟨c0, c1, c2, c3, hq⟩ := he; exact ⟨q, c0, c1, c2, c3, rfl, hq⟩
  by_cases e : a = b
  · subst e
    rw [decide_eq_true rfl]
    exact is_same hie
  · rw [decide_eq_false e]
    obtain ⟨_, ca, ta, ka⟩ := h4.r a ha
    obtain ⟨_, cb, tb, kb⟩ := h4.r b hb
    exact is_other hie e ka kb
end Go.Proofs.YtkfehogefclhdaaDoor.Dk
