/- stop, by its contract: of each file the durable bytes are left, and so many of the others. -/
import Derived.Test.YtkfehogefclhdaaDoorDkUsed
import Derived.Test.YtkfehogefclhdaaDoorWMore
namespace Go.Proofs.YtkfehogefclhdaaDoor.Dk
open Go.RowKit Go.Maps Go.Proofs.YtkfehogefclhdaaDoorW.PrintWords Go.Proofs.YtkfehogefclhdaaDoorW.PrintMore
variable {N : Nat} {w : World} {p : Nat} {F : Nat → Prop} {s : St} {m : Nat} {pv : Value}
attribute [local go_sem] max2_int min2_int max_two min_two

def keepN (r : Int) (f : Fil) : Nat := f.dur + min r.toNat (f.bytes.size - f.dur)
def stopF (r : Int) (f : Fil) : Fil := { f with bytes := f.bytes.extract 0 (keepN r f), dur := keepN r f }
def flL (left : Lit → Bool) (r : Int) (f : Fil) : Fil := if left (kl f.name) = true then f else stopF r f
theorem keepN_le {r : Int} {f : Fil} (h : f.dur ≤ f.bytes.size) : keepN r f ≤ f.bytes.size := by unfold keepN; omega
theorem look_map {g : Fil → Fil} (h : ∀ f, (g f).name = f.name) : ∀ (fs : List Fil) (x : ByteArray), look (fs.map g) x = (look fs x).map g
  | [], _ => rfl
  | f :: r, x => by
    unfold look
    rw [List.map_cons, List.find?_cons, List.find?_cons, h]
    cases decide (f.name = x) with
    | true => rfl
    | false => exact look_map h r x
theorem MapIs.map {n : Nat} {fs : List Fil} (h : MapIs w m n fs) {g : Fil → Fil} (hn : ∀ f, (g f).name = f.name) (hb : ∀ f, (g f).blk = f.blk) : MapIs w m n (fs.map g) := by
  obtain ⟨D, h1, h2, h3⟩ := h
  refine ⟨D, h1, fun x => ?_, fun x => ?_⟩
  · rw [h2, look_map hn, Option.map_map]; congr 1; cases look fs x with
    | none => rfl
    | some f => simp [hb]
  · rw [h3, look_map hn]; cases look fs x <;> rfl
theorem used_map {g : Fil → Fil} : ∀ fs : List Fil, (∀ f ∈ fs, (g f).bytes.size ≤ f.bytes.size) → used (fs.map g) ≤ used fs
  | [], _ => Nat.le_refl _
  | f :: r, h => by
    have := used_map r (fun k hk => h k (List.mem_cons_of_mem _ hk))
    have := h f List.mem_cons_self
    unfold used at *
    rw [List.map_cons, List.map_cons, List.map_cons, List.sum_cons, List.sum_cons]
    omega
def G (fs : List Fil) (i : Nat) : Prop := ∃ f ∈ fs, i = f.blk
theorem Is.types {f : Fil} (h : Is N w p F s m pv) (hf : f ∈ s.fs) : f.blk ≠ p ∧ f.blk ≠ m := by
  have t := h.each f hf
  constructor
  · intro e; rw [e] at t; have := h.top.symm.trans t; simp at this
  · intro e; obtain ⟨D, ⟨es, clock, hb, _⟩, _⟩ := h.files; rw [e, hb] at t; cases t
theorem blk_inj {fs : List Fil} (h : fs.Pairwise (fun f g => f.blk ≠ g.blk)) {f g : Fil} (hf : f ∈ fs) (hg : g ∈ fs) (e : f.blk = g.blk) : f = g := by
  induction fs with
  | nil => cases hf
  | cons a r ih =>
    rw [List.pairwise_cons] at h
    rcases List.mem_cons.1 hf with rfl | hf' <;> rcases List.mem_cons.1 hg with rfl | hg'
    · rfl
    · exact absurd e (h.1 g hg')
    · exact absurd e.symm (h.1 f hf')
    · exact ih h.2 hf' hg'
theorem name_inj {fs : List Fil} (h : fs.Pairwise (fun f g => f.name ≠ g.name)) {f g : Fil} (hf : f ∈ fs) (hg : g ∈ fs) (e : f.name = g.name) : f = g := by
  induction fs with
  | nil => cases hf
  | cons a r ih =>
    rw [List.pairwise_cons] at h
    rcases List.mem_cons.1 hf with rfl | hf' <;> rcases List.mem_cons.1 hg with rfl | hg'
    · rfl
    · exact absurd e (h.1 g hg')
    · exact absurd e.symm (h.1 f hf')
    · exact ih h.2 hf' hg'
theorem Fr.set {F : Nat → Prop} {w w' : World} (h : Fr F w w') {a : Addr} (ha : F a.block) (u : Value) : Fr F w (w'.setCell a u) :=
  ⟨h.os, h.tape, h.output, by simpa [World.setCell] using h.size, fun k hk hn => (Below.heap_setCell w' a u k (fun e => hn (by rw [e]; exact ha))).trans (h.block k hk hn)⟩
theorem Fr.grown {F : Nat → Prop} {w w1 w2 : World} {row : Option Nat} (h : Fr F w w1) (hg : w1.grownBy w2 row) (hr : ∀ k, row = some k → w.heap.size ≤ k ∨ F k) : Fr F w w2 :=
  ⟨hg.os.trans h.os, hg.tape.trans h.tape, hg.output.trans h.output, Nat.le_trans h.size hg.size, fun k hk hn => (hg.block k (Nat.lt_of_lt_of_le hk h.size) (fun e => by
    rcases hr k e.symm with h1 | h1
    · omega
    · exact hn h1)).trans (h.block k hk hn)⟩
theorem setCell_grown (w : World) (a : Addr) (u : Value) : w.grownBy (w.setCell a u) (some a.block) :=
  ⟨rfl, rfl, rfl, by simp [World.setCell], fun k _ hk => Below.heap_setCell w a u k (fun e => hk (by rw [e]))⟩
/-- The loop of stop, in the middle. -/
structure Mid (w1 wr : World) (m N it : Nat) (D : DataW Unit) (r : Int) (fs : List Fil) (left : Lit → Bool) (cnt : Nat) : Prop where
  rg : wr.ranges Tryd.prog 9 rp m it N D left cnt
  each : ∀ f ∈ fs, wr.heap[f.blk]? = some (.cells #[.string (flL left r f).bytes, .int .i64 (flL left r f).dur] 81 (0, 0))
  fr : Fr (G fs) w1 wr
theorem Mid.step {w1 wr : World} {it : Nat} {D : DataW Unit} {r : Int} {fs : List Fil} {left : Lit → Bool} {cnt : Nat} (h : Mid w1 wr m N it D r fs left cnt)
    {f : Fil} (hf : f ∈ fs) (hnames : fs.Pairwise (fun f g => f.name ≠ g.name)) (hblks : fs.Pairwise (fun f g => f.blk ≠ g.blk)) (hl : left (kl f.name) = true) (hm : f.blk ≠ m) (hit : it ≠ f.blk) (hitl : w1.heap.size ≤ it) (hlow : ∀ g ∈ fs, g.blk < w1.heap.size)
    {w2 : World} {cnt1 : Nat} (hrg1 : w2.ranges Tryd.prog 9 rp m it N D (fun z => left z && !z.sameKey (kl f.name)) cnt1) (hg1 : wr.grownBy w2 (some it)) :
    Mid w1 ((w2.setCell ⟨f.blk, 1, none⟩ (.int .i64 (keepN r f))).setCell ⟨f.blk, 0, none⟩ (.string (f.bytes.extract 0 (keepN r f)))) m N it D r fs (fun z => left z && !z.sameKey (kl f.name)) cnt1 := by
  have hb2 : w2.heap[f.blk]? = some (.cells #[.string f.bytes, .int .i64 f.dur] 81 (0, 0)) := by
    have t := h.each f hf
    unfold flL at t
    rw [if_pos hl] at t
    exact (hg1.block _ (blk_lt t) (fun e => hit (Option.some.inj e).symm)).trans t
  have s1 := blk_set hb2 1 (.int .i64 (keepN r f))
  have s2 := blk_set s1 0 (.string (f.bytes.extract 0 (keepN r f)))
  refine ⟨(hrg1.kept (setCell_grown _ _ _) (fun e => hm (Option.some.inj e).symm) (fun e => hit (Option.some.inj e))).kept (setCell_grown _ _ _) (fun e => hm (Option.some.inj e).symm) (fun e => hit (Option.some.inj e)), fun g hg => ?_, ?_⟩
  · by_cases e : g = f
    · subst e
      unfold flL
      rw [if_neg (by rw [strike_kl, decide_eq_true rfl]; simp)]
      exact s2
    · have hne : g.name ≠ f.name := fun e2 => e (name_inj hnames hg hf e2)
      have hnb : g.blk ≠ f.blk := fun e2 => e (blk_inj hblks hg hf e2)
      unfold flL
      rw [strike_kl, decide_eq_false hne, Bool.not_false, Bool.and_true]
      have t := h.each g hg
      refine (blk_far (blk_far ((hg1.block _ (blk_lt t) ?_).trans t) hnb _) hnb _)
      intro e2
      have e3 := Option.some.inj e2
      have := hlow g hg
      omega
  · exact ((h.fr.grown hg1 (fun k hk => .inl (by cases hk; exact hitl))).set ⟨f, hf, rfl⟩ _).set ⟨f, hf, rfl⟩ _
theorem Mid.steps {w1 wr : World} {it : Nat} {D : DataW Unit} {r : Int} {fs : List Fil} {left : Lit → Bool} {cnt : Nat} (h : Mid w1 wr m N it D r fs left cnt)
    {f : Fil} (hf : f ∈ fs) (hnames : fs.Pairwise (fun f g => f.name ≠ g.name)) (hblks : fs.Pairwise (fun f g => f.blk ≠ g.blk)) (hl : left (kl f.name) = true) (hm : f.blk ≠ m) (hit : it ≠ f.blk) (hitl : w1.heap.size ≤ it) (hlow : ∀ g ∈ fs, g.blk < w1.heap.size)
    {w2 : World} {cnt1 : Nat} (hrg1 : w2.ranges Tryd.prog 9 rp m it N D (fun z => left z && !z.sameKey (kl f.name)) cnt1) (hg1 : wr.grownBy w2 (some it)) :
    ∀ (X : Int) (n : ByteArray), X = keepN r f → n = f.bytes.extract 0 (keepN r f) → Mid w1 (((w2.setCell ⟨f.blk, 1, none⟩ (.int .i64 X)).setCell ⟨f.blk, 0, none⟩ (.string n)).drew.drew) m N it D r fs (fun z => left z && !z.sameKey (kl f.name)) cnt1 := by
  intro X n hX hn
  subst hX hn
  have k := h.step hf hnames hblks hl hm hit hitl hlow hrg1 hg1
  exact ⟨k.rg, k.each, ⟨k.fr.os, k.fr.tape, k.fr.output, k.fr.size, k.fr.block⟩⟩
theorem Mid.fin {w1 wr wr' : World} {it : Nat} {D : DataW Unit} {r : Int} {fs : List Fil} {left left' : Lit → Bool} {cnt cnt' : Nat} (h : Mid w1 wr' m N it D r fs left' cnt') (hrg : wr.ranges Tryd.prog 9 rp m it N D left cnt) (hlt : cnt' < cnt) :
    (∃ (left : Lit → Bool) (cnt : Nat), Mid w1 wr' m N it D r fs left cnt) ∧ wr'.rangeLeft m it < wr.rangeLeft m it :=
  ⟨⟨_, _, h⟩, by rw [h.rg.left_eq, hrg.left_eq]; exact hlt⟩
theorem used_mem {f : Fil} : ∀ {fs : List Fil}, f ∈ fs → f.bytes.size ≤ used fs
  | [], h => by cases h
  | g :: r, h => by
    unfold used
    rw [List.map_cons, List.sum_cons]
    rcases List.mem_cons.1 h with rfl | h
    · omega
    · have := used_mem h; unfold used at this; omega
theorem Mid.done {wr : World} {it : Nat} {D : DataW Unit} {r : Int} {left : Lit → Bool} {cnt : Nat} (h : Is N w p F s m pv) (k : Mid (w.setCell ⟨p, 2, none⟩ (.bool false)) wr m N it D r s.fs left cnt) (e : s.fs.map (flL left r) = s.fs.map (stopF r)) :
    Is N wr p F { s with run := false, fs := s.fs.map (stopF r) } m pv := by
  have hst : (w.setCell ⟨p, 2, none⟩ (.bool false)).heap.size = w.heap.size := by simp [World.setCell]
  have hnp : ¬ G s.fs p := fun ⟨f, hf, e⟩ => (h.types hf).1 e.symm
  have hnm : ¬ G s.fs m := fun ⟨f, hf, e⟩ => (h.types hf).2 e.symm
  have hk : ∀ i, F i → ¬ G s.fs i → i ≠ p → wr.heap[i]? = w.heap[i]? := fun i hi hg hp => (k.fr.block i (by rw [hst]; exact h.low i hi) hg).trans (Below.heap_setCell w ⟨p, 2, none⟩ _ i hp)
  have hnames : (s.fs.map (stopF r)).Pairwise (fun f g => f.name ≠ g.name) := by rw [List.pairwise_map]; exact h.names
  have hblks : (s.fs.map (stopF r)).Pairwise (fun f g => f.blk ≠ g.blk) := by rw [List.pairwise_map]; exact h.blks
  refine ⟨?_, ?_, ?_, ?_, hnames, hblks, ?_, ?_, h.quo, h.inP, h.inM, ?_, ?_⟩
  · exact (k.fr.block p (by rw [hst]; exact h.low p h.inP) hnp).trans (blk_set h.top 2 (.bool false))
  · exact (h.files.kept (hk m h.inM hnm (Ne.symm h.ne))).map (fun _ => rfl) (fun _ => rfl)
  · obtain ⟨A, c, e, h1, h2, h3⟩ := h.plan
    refine ⟨A, c, e, h1, h2, fun i x hx => ?_⟩
    obtain ⟨g, o, ha, hg, ⟨cs, k0⟩, k1, k2, k3⟩ := h3 i x hx
    have hgp : g ≠ p := fun e => by rw [e] at k0; have := h.top.symm.trans k0; simp at this
    have hgG : ¬ G s.fs g := fun ⟨f, hf, e⟩ => by rw [e] at k0; have := (h.each f hf).symm.trans k0; simp at this
    exact ⟨g, o, ha, hg, ⟨cs, (hk g hg hgG hgp).trans k0⟩, cell_of k1 (hk g hg hgG hgp), cell_of k2 (hk g hg hgG hgp), cell_of k3 (hk g hg hgG hgp)⟩
  · intro f hf
    rw [← e] at hf
    obtain ⟨g, hg, rfl⟩ := List.mem_map.1 hf
    have t := k.each g hg
    rw [show (flL left r g).blk = g.blk by unfold flL; split <;> rfl]
    exact t
  · intro f hf
    obtain ⟨g, hg, rfl⟩ := List.mem_map.1 hf
    have := keepN_le (r := r) (h.durs g hg)
    show keepN r g ≤ (g.bytes.extract 0 (keepN r g)).size
    rw [ByteArray.size_extract]; omega
  · have := used_map (g := stopF r) s.fs (fun f hf => by show (f.bytes.extract 0 (keepN r f)).size ≤ _; rw [ByteArray.size_extract]; omega)
    have := h.room
    show (used (s.fs.map (stopF r)) : Int) ≤ s.quota
    omega
  · intro f hf
    obtain ⟨g, hg, rfl⟩ := List.mem_map.1 hf
    exact h.inF g hg
  · intro i hi
    have := h.low i hi
    have := k.fr.size
    omega
set_option maxRecDepth 100000 in
set_option maxHeartbeats 1000000 in
theorem stop_ok (h : Is N w p F s m pv) (r : Int) : Calls Tryd.prog 78 #[.pointer (some ⟨p, 0, none⟩), .int .i64 r] w fun e w' =>
    e = .returned (.tuple #[]) ∧ Is N w' p F { s with run := false, fs := s.fs.map (stopF r) } m pv ∧ Fr F w w' := by
  obtain ⟨c0, c1, c2, c3, c4, c5⟩ := h.cells
  have th := h.thaw
  have hne := h.ne
  obtain ⟨D, hown, h2, h3⟩ := h.files
  have H2 : Hid _ := h2
  have H3 : Hid _ := h3
  clear h2 h3
  have hown1 := hown.setCell (a := ⟨p, 2, none⟩) (Ne.symm hne) (.bool false)
  have hset := blk_set h.top 2 (.bool false)
  go_enter Tryd.func78, Tryd.ntmps78
  go_wp2_with (at_range; refine wpList_range_own _ rfl _ 75 rfl 9 79 law9 Tryd.underlying75 _ m N D rfl hown1 ?_; intro w0 hrg0 hg0 hs0)
  have hsz : (w.setCell ⟨p, 2, none⟩ (.bool false)).heap.size = w.heap.size := by simp [World.setCell]
  rw [hsz] at hrg0 hs0 ⊢
  go_frame
  go_loopw [5] (fun _ wr => ∃ (left : Lit → Bool) (cnt : Nat), Mid (w.setCell ⟨p, 2, none⟩ (.bool false)) wr m N w.heap.size D r s.fs left cnt)
    (fun _ wr => wr.rangeLeft m w.heap.size)
  case atStart =>
    refine ⟨_, _, hrg0, fun f hf => ?_, (Fr.refl _ _).grown hg0 (fun k hk => by cases hk)⟩
    have hb := h.each f hf
    unfold flL
    rw [if_pos (by rw [H3.out]; exact look_has hf)]
    exact (hg0.block _ (by rw [hsz]; exact blk_lt hb) (by simp)).trans (blk_far hb (h.types hf).1 _)
  case round =>
    obtain ⟨left, cnt, hmid⟩ := hrel
    have hrg := hmid.rg
    go_wp2_with (first
      | (at_next; refine wpList_next_ranges _ rfl _ rfl 9 law9 rp Value.string ptr (fun _ _ hk => key_inv hk) (fun _ _ hv => by obtain ⟨o, rfl, _⟩ := rp_inv hv; exact ⟨o, rfl⟩) m w.heap.size N D left cnt rfl hrg ?_ ?_))
    · intro _ hl0
      go_wp2
      go_end0
      have e1 : s.fs.map (flL left r) = s.fs.map (stopF r) := List.map_congr_left (fun f _ => by unfold flL; rw [hl0]; rfl)
      exact ⟨rfl, hmid.done h e1, ((Fr.refl F w).set (a := ⟨p, 2, none⟩) h.inP _).trans (Sub.refl _ _) (hmid.fr.wide (fun i hi hg => by obtain ⟨f, hf, rfl⟩ := hg; exact h.inF f hf))⟩
    · intro x c l y ps w1 cnt1 hkey hlx hv hat hrg1 hlt hg1 hs1 hen
      obtain ⟨rfl, _⟩ := key_lit hkey
      obtain ⟨f, hf, rfl⟩ := entry_file H2.out H3.out (y := (y, ps)) hv hat
      have hmem := look_mem hf
      obtain ⟨hm, rfl⟩ := hmem
      have hty := h.types hm
      have hlow : ∀ g ∈ s.fs, g.blk < w.heap.size := fun g hg => h.low _ (h.inF g hg)
      have hlf := hlow f hm
      have hst := hmid.steps hm h.names h.blks hlx hty.2 (by omega) (by rw [hsz]; exact Nat.le_refl _) (by rw [hsz]; exact hlow) hrg1 hg1
      have hb1 : w1.heap[f.blk]? = some (.cells #[.string f.bytes, .int .i64 f.dur] 81 (0, 0)) := by
        have t := hmid.each f hm
        unfold flL at t
        rw [if_pos hlx] at t
        exact (hg1.block _ (blk_lt t) (fun e => by have := Option.some.inj e; omega)).trans t
      have hc0 := blk_cell hb1 0
      have hc1 := blk_cell hb1 1
      have ht := blk_frozen hb1
      simp only [List.getElem?_toArray, List.getElem?_cons_zero, List.getElem?_cons_succ] at hc0 hc1
      have hd := h.durs f hm
      have hq : f.bytes.size ≤ 1048576 := by have := used_mem hm; have := h.room; have := h.quo; omega
      have HST : Hid _ := hst
      clear hst hat hkey hv hlx hf hb1
      simp only [ptr] at hen
      go_wp2
      go_region
      all_goals (try go_wp2)
      all_goals (go_region)
      all_goals (try go_wp2)
      all_goals refine Mid.fin (HST.out _ _ ?_ ?_) hrg hlt
      all_goals first
        | (unfold keepN; omega)
        | (rw [show keepN r f = f.bytes.size by unfold keepN; omega, ByteArray.extract_zero_size])
        | (congr 1; unfold keepN; omega)
end Go.Proofs.YtkfehogefclhdaaDoor.Dk
