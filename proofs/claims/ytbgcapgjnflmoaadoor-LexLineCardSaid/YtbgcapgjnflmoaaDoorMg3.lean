/- Contracts of the functions that the statement reaches, and plain lemmas: ScRel, ScPut, ScSame. -/
import Derived.Test.YtbgcapgjnflmoaaDoorMg1
import Derived.Test.YtbgcapgjnflmoaaDoorMg2
import Derived.StillTailTactics
import Derived.Laws.EntriesVeiled
set_option linter.unusedVariables false
set_option linter.unusedSimpArgs false
set_option linter.unnecessarySimpa false
/- A scanner in memory: its fields, what is open, and the words in it. -/
namespace Go.Proofs.YtbgcapgjnflmoaaDoor.Sc
open Go.RowKit Go.Proofs.YtbgcapgjnflmoaaDoorW.PrintWords Go.Proofs.YtbgcapgjnflmoaaDoorW.PrintMore Go.Proofs.YtbgcapgjnflmoaaDoor.PLx

/-! ### what a byte is good for -/
def gradeI (c : Int) : Int := (lex_grade.f 6 c).getD 0
theorem grade_fin : ∀ c : Fin 256, lex_grade.f 6 (c.val : Int) = some (gradeI c.val) := by decide +kernel
theorem word_fin : ∀ c : Fin 256, (decide (Go.bits .and .u8 (gradeI c.val) 1 = 0)) = !(gword (UInt8.ofNat c.val)) := by decide +kernel
theorem quote_fin : ∀ c : Fin 256, (decide (Go.bits .and .u8 (gradeI c.val) 8 = 0)) = !(gquote (UInt8.ofNat c.val)) := by decide +kernel
theorem count_fin : ∀ c : Fin 256, (decide (Go.bits .and .u8 (gradeI c.val) 16 = 0)) = !(dig (UInt8.ofNat c.val)) := by decide +kernel
theorem word_of (b : UInt8) : (decide (Go.bits .and .u8 (gradeI (b.toNat : Int)) 1 = 0)) = !(gword b) := by
  have := word_fin ⟨b.toNat, b.toNat_lt⟩
  simpa using this
theorem quote_of (b : UInt8) : (decide (Go.bits .and .u8 (gradeI (b.toNat : Int)) 8 = 0)) = !(gquote b) := by
  have := quote_fin ⟨b.toNat, b.toNat_lt⟩
  simpa using this
theorem count_of (b : UInt8) : (decide (Go.bits .and .u8 (gradeI (b.toNat : Int)) 16 = 0)) = !(dig b) := by
  have := count_fin ⟨b.toNat, b.toNat_lt⟩
  simpa using this

/-! ### an open word: its four cells -/
abbrev FV := Fr × Value
def fcells (x : FV) : List Value := [.int .i64 x.1.kind, .string ⟨#[]⟩, x.2, .bool x.1.glued]
def kF : Kd FV where
  sz := 4
  E := []
  K := fun _ x cs => cs = fcells x ∧ x.2.oneCell' = true
  M := fun _ _ _ x cs => cs = fcells x ∧ x.2.oneCell' = true
  K_len := by rintro w x cs ⟨rfl, _⟩; rfl
  K_one := by
    rintro w x cs ⟨rfl, h⟩ u hu
    simp only [fcells, List.mem_cons, List.not_mem_nil, or_false] at hu
    rcases hu with rfl | rfl | rfl | rfl
    · rfl
    · rfl
    · exact h
    · rfl
  K_below := fun _ h => h
  K_of_M := fun h => h
  M_mono := fun _ h => h
  M_bound := fun h => h
  M_move := fun _ h => h
  M_lower := fun _ h => h

/-! ### the scanner's own cells -/
structure Good (cs : Array Value) (line : ByteArray) (pos count : Nat) (A : Option Addr) (n cA : Nat) (vo : Value) : Prop where
  size : cs.size = 261
  c0 : cs[0]? = some (.string line)
  c1 : cs[1]? = some (.slice A n cA)
  c2 : cs[2]? = some (.int .i64 pos)
  c3 : cs[3]? = some (.int .i64 count)
  c4 : ∀ c : Nat, c < 256 → cs[4 + c]? = some (.int .u8 (gradeI c))
  c5 : cs[260]? = some vo
section
variable {cs : Array Value} {line : ByteArray} {pos count : Nat} {A : Option Addr} {n cA : Nat} {vo : Value}
theorem Good.pos_ (h : Good cs line pos count A n cA vo) (k : Nat) : Good (cs.setIfInBounds 2 (.int .i64 k)) line k count A n cA vo :=
  ⟨by simpa using h.size, by simpa [Array.getElem?_setIfInBounds] using h.c0, by simpa [Array.getElem?_setIfInBounds] using h.c1, by simp [Array.getElem?_setIfInBounds, h.size], by simpa [Array.getElem?_setIfInBounds] using h.c3,
    fun c hc => by rw [Array.getElem?_setIfInBounds, if_neg (by omega)]; exact h.c4 c hc, by simpa [Array.getElem?_setIfInBounds] using h.c5⟩
theorem Good.count_ (h : Good cs line pos count A n cA vo) (k : Nat) : Good (cs.setIfInBounds 3 (.int .i64 k)) line pos k A n cA vo :=
  ⟨by simpa using h.size, by simpa [Array.getElem?_setIfInBounds] using h.c0, by simpa [Array.getElem?_setIfInBounds] using h.c1, by simpa [Array.getElem?_setIfInBounds] using h.c2, by simp [Array.getElem?_setIfInBounds, h.size],
    fun c hc => by rw [Array.getElem?_setIfInBounds, if_neg (by omega)]; exact h.c4 c hc, by simpa [Array.getElem?_setIfInBounds] using h.c5⟩
theorem Good.lits_ (h : Good cs line pos count A n cA vo) (A' : Option Addr) (n' cA' : Nat) : Good (cs.setIfInBounds 1 (.slice A' n' cA')) line pos count A' n' cA' vo :=
  ⟨by simpa using h.size, by simpa [Array.getElem?_setIfInBounds] using h.c0, by simp [Array.getElem?_setIfInBounds, h.size], by simpa [Array.getElem?_setIfInBounds] using h.c2, by simpa [Array.getElem?_setIfInBounds] using h.c3,
    fun c hc => by rw [Array.getElem?_setIfInBounds, if_neg (by omega)]; exact h.c4 c hc, by simpa [Array.getElem?_setIfInBounds] using h.c5⟩
theorem Good.open_ (h : Good cs line pos count A n cA vo) (u : Value) : Good (cs.setIfInBounds 260 u) line pos count A n cA u :=
  ⟨by simpa using h.size, by simpa [Array.getElem?_setIfInBounds] using h.c0, by simpa [Array.getElem?_setIfInBounds] using h.c1, by simpa [Array.getElem?_setIfInBounds] using h.c2, by simpa [Array.getElem?_setIfInBounds] using h.c3,
    fun c hc => by rw [Array.getElem?_setIfInBounds, if_neg (by omega)]; exact h.c4 c hc, by simp [Array.getElem?_setIfInBounds, h.size]⟩
end

/-! ### all of it -/
/-- The blocks that the rows inside open word j may be. -/
def okj (p : Nat) (vo : Value) (l : List FV) (j : Nat) : Nat → Prop := fun k => k ≠ p ∧ some k ≠ vo.ownBlock ∧ ∀ i y, l[i]? = some y → i ≠ j → some k ≠ y.2.ownBlock
/-- The scanner at block p, in w; w0: the world in which Scan was called. -/
structure Op (w0 w : World) (p : Nat) (line : ByteArray) (pos count : Nat) (lits : List ByteArray) (vo : Value) (l : List FV) : Prop where
  bel : Below w0.heap.size w0 w
  low : w0.heap.size ≤ p
  top : ∃ cs A cA, w.heap[p]? = some (.cells cs 57 (0, 0)) ∧ Good cs line pos count A lits.length cA vo ∧ lits.length ≤ cA ∧ Kd.string.C w0 A lits.length lits
  row : kF.R 43 w w0.heap.size (fun k => k ≠ p) vo l
  kids : ∀ j x, l[j]? = some x → k43.R 43 w w0.heap.size (okj p vo l j) x.2 x.1.kids
section
variable {w0 w w1 : World} {p : Nat} {line : ByteArray} {pos count : Nat} {lits : List ByteArray} {vo : Value} {l : List FV}
theorem Op.plt (h : Op w0 w p line pos count lits vo l) : p < w.heap.size := by
  obtain ⟨cs, A, cA, hb, _⟩ := h.top
  exact blk_lt hb
theorem Op.base (h : Op w0 w p line pos count lits vo l) : w0.heap.size ≤ w.heap.size := h.bel.size
/-- The fields, and the table's cells. -/
theorem Op.cells (h : Op w0 w p line pos count lits vo l) : ∃ A cA, lits.length ≤ cA ∧ Kd.string.C w0 A lits.length lits ∧ w.cell? ⟨p, 0, none⟩ = some (.string line) ∧ w.cell? ⟨p, 1, none⟩ = some (.slice A lits.length cA) ∧ w.cell? ⟨p, 2, none⟩ = some (.int .i64 pos) ∧ w.cell? ⟨p, 3, none⟩ = some (.int .i64 count) ∧ w.cell? ⟨p, 260, none⟩ = some vo ∧ (∀ c : Nat, c < 256 → w.cell? ⟨p, 4 + c, none⟩ = some (.int .u8 (gradeI c))) ∧ (∀ i, w.frozen? ⟨p, i, none⟩ = false) := by
  obtain ⟨cs, A, cA, hb, g, hl, hc⟩ := h.top
  exact ⟨A, cA, hl, hc, (blk_cell hb 0).trans g.c0, (blk_cell hb 1).trans g.c1, (blk_cell hb 2).trans g.c2, (blk_cell hb 3).trans g.c3, (blk_cell hb 260).trans g.c5, fun c hcc => (blk_cell hb (4 + c)).trans (g.c4 c hcc), fun i => blk_frozen hb i⟩
/-- What is elsewhere has turned. -/
theorem Op.move (h : Op w0 w p line pos count lits vo l) (hb : Below w0.heap.size w0 w1) (hk : ∀ k, k < w.heap.size → w1.heap[k]? = w.heap[k]?) : Op w0 w1 p line pos count lits vo l := by
  obtain ⟨cs, A, cA, htop, g⟩ := h.top
  exact ⟨hb, h.low, ⟨cs, A, cA, (hk p h.plt).trans htop, g⟩, Kd.R_step h.row (fun k _ hlt => hk k hlt), fun j x hx => Kd.R_step (h.kids j x hx) (fun k _ hlt => hk k hlt)⟩
theorem Op.below (h : Op w0 w p line pos count lits vo l) (hb : Below w.heap.size w w1) : Op w0 w1 p line pos count lits vo l :=
  h.move (below_then h.bel h.base hb) (fun k hk => hb.block k hk)
theorem Op.drew (h : Op w0 w p line pos count lits vo l) : Op w0 w.drew p line pos count lits vo l := h.move ⟨h.bel.os, h.bel.tape, h.bel.output, h.bel.size, h.bel.block⟩ (fun _ _ => rfl)
theorem Op.drewN (h : Op w0 w p line pos count lits vo l) (n : Nat) : Op w0 (w.drewN n) p line pos count lits vo l := h.move ⟨h.bel.os, h.bel.tape, h.bel.output, h.bel.size, h.bel.block⟩ (fun _ _ => rfl)
theorem Op.alloc (h : Op w0 w p line pos count lits vo l) (o : Obj) : Op w0 (w.alloc o) p line pos count lits vo l := h.below (below_alloc (Below.refl _ _) o)
/-- A store into the scanner's own block. -/
theorem Op.own (h : Op w0 w p line pos count lits vo l) (i : Nat) (u : Value) {line' : ByteArray} {pos' count' : Nat} {lits' : List ByteArray}
    (hg : ∀ cs A cA, Good cs line pos count A lits.length cA vo → lits.length ≤ cA → Kd.string.C w0 A lits.length lits → ∃ A' cA', Good (cs.setIfInBounds i u) line' pos' count' A' lits'.length cA' vo ∧ lits'.length ≤ cA' ∧ Kd.string.C w0 A' lits'.length lits') :
    Op w0 (w.setCell ⟨p, i, none⟩ u) p line' pos' count' lits' vo l := by
  obtain ⟨cs, A, cA, htop, g, hl, hc⟩ := h.top
  obtain ⟨A', cA', g', hl', hc'⟩ := hg cs A cA g hl hc
  refine ⟨h.bel.setCell (p := ⟨p, i, none⟩) h.low u, h.low, ⟨_, A', cA', blk_set htop i u, g', hl', hc'⟩, Kd.R_far (p := ⟨p, i, none⟩) h.row (fun k hk => hk) u, fun j x hx => Kd.R_far (p := ⟨p, i, none⟩) (h.kids j x hx) (fun k hk => hk.1) u⟩
theorem Op.setPos (h : Op w0 w p line pos count lits vo l) (k : Nat) : Op w0 (w.setCell ⟨p, 2, none⟩ (.int .i64 k)) p line k count lits vo l := h.own 2 _ (fun _ _ _ g hl hc => ⟨_, _, g.pos_ k, hl, hc⟩)
theorem Op.setCount (h : Op w0 w p line pos count lits vo l) (k : Nat) : Op w0 (w.setCell ⟨p, 3, none⟩ (.int .i64 k)) p line pos k lits vo l := h.own 3 _ (fun _ _ _ g hl hc => ⟨_, _, g.count_ k, hl, hc⟩)
/-- The row of what is open has another shape now (its value stands in the scanner): vo' is of vo's block, or of a new one. -/
theorem Op.setOpen {vo' : Value} {l' : List FV} (h : Op w0 w p line pos count lits vo l) (hb : Below w0.heap.size w0 w1) (hk : ∀ k, k < w.heap.size → some k ≠ vo.ownBlock → w1.heap[k]? = w.heap[k]?)
    (hrow : kF.R 43 w1 w0.heap.size (fun k => k ≠ p) vo' l') (hkids : ∀ j x, l'[j]? = some x → k43.R 43 w1 w0.heap.size (okj p vo' l' j) x.2 x.1.kids) :
    Op w0 (w1.setCell ⟨p, 260, none⟩ vo') p line pos count lits vo' l' := by
  obtain ⟨cs, A, cA, htop, g, hl, hc⟩ := h.top
  have hne : some p ≠ vo.ownBlock := fun e => h.row.1 p e.symm rfl
  have ht1 := (hk p h.plt hne).trans htop
  exact ⟨hb.setCell (p := ⟨p, 260, none⟩) h.low vo', h.low, ⟨_, A, cA, blk_set ht1 260 vo', g.open_ vo', hl, hc⟩, Kd.R_far (p := ⟨p, 260, none⟩) hrow (fun k hk => hk) vo', fun j x hx => Kd.R_far (p := ⟨p, 260, none⟩) (hkids j x hx) (fun k hk => hk.1) vo'⟩
/-- The innermost open word has turned: its kids' row was written, or is another one; its cells stand in the row of what is open. -/
theorem Op.setTop {f f' : Fr} {v v' : Value} {l' : List FV} (h : Op w0 w p line pos count lits vo (l' ++ [(f, v)])) (hb : Below w0.heap.size w0 w1)
    (hk : ∀ k, k < w.heap.size → some k ≠ v.ownBlock → some k ≠ vo.ownBlock → w1.heap[k]? = w.heap[k]?)
    (hv : v'.ownBlock = v.ownBlock ∨ ∃ b, v'.ownBlock = some b ∧ w.heap.size ≤ b)
    (hrow : kF.R 43 w1 w0.heap.size (fun k => k ≠ p) vo (l' ++ [(f', v')])) (hkid : k43.R 43 w1 w0.heap.size (okj p vo l' l'.length) v' f'.kids) :
    Op w0 w1 p line pos count lits vo (l' ++ [(f', v')]) := by
  obtain ⟨cs, A, cA, htop, g⟩ := h.top
  have hlast : (l' ++ [(f, v)])[l'.length]? = some (f, v) := by simp
  have hkl := h.kids _ _ hlast
  have hpv : some p ≠ v.ownBlock := fun e => (hkl.1 p e.symm).1 rfl
  have hpo : some p ≠ vo.ownBlock := fun e => h.row.1 p e.symm rfl
  refine ⟨hb, h.low, ⟨cs, A, cA, (hk p h.plt hpv hpo).trans htop, g⟩, hrow, fun j x hx => ?_⟩
  by_cases hj : j = l'.length
  · subst hj
    have e : x = (f', v') := by simpa using hx.symm
    subst e
    refine Kd.R_mono hkid (fun k hk => ⟨hk.1, hk.2.1, fun i y hy hi => ?_⟩)
    have hil : i < l'.length := by
      have := (List.getElem?_eq_some_iff.1 hy).1
      simp at this; omega
    rw [List.getElem?_append_left hil] at hy
    exact hk.2.2 i y hy hi
  · have hjl : j < l'.length := by
      have := (List.getElem?_eq_some_iff.1 hx).1
      simp at this; omega
    have hx0 : (l' ++ [(f, v)])[j]? = some x := by rw [List.getElem?_append_left hjl] at hx ⊢; exact hx
    have hx1 := h.kids j x hx0
    refine Kd.R_mono (Kd.R_step (Kd.R_bound hx1) (w1 := w1) (fun k hk2 hlt => hk k hlt (hk2.1.2.2 _ _ hlast (by omega)) hk2.1.2.1)) (fun k hk2 => ⟨hk2.1.1, hk2.1.2.1, fun i y hy hi => ?_⟩)
    by_cases hil : i = l'.length
    · subst hil
      have e : y = (f', v') := by simpa using hy.symm
      subst e
      rcases hv with e | ⟨b, e, hle⟩
      · show some k ≠ v'.ownBlock
        rw [e]; exact hk2.1.2.2 _ _ hlast (by omega)
      · show some k ≠ v'.ownBlock
        rw [e]
        intro e2
        injection e2 with e2
        have := hk2.2.2.1
        omega
    · have hil' : i < l'.length := by
        have := (List.getElem?_eq_some_iff.1 hy).1
        simp at this; omega
      refine hk2.1.2.2 i y ?_ hi
      rw [List.getElem?_append_left hil'] at hy ⊢
      exact hy
end
end Go.Proofs.YtbgcapgjnflmoaaDoor.Sc

/- put: a word behind those of what is open. -/
namespace Go.Proofs.YtbgcapgjnflmoaaDoor.Sc
open Go.RowKit Go.Proofs.YtbgcapgjnflmoaaDoorW.PrintWords Go.Proofs.YtbgcapgjnflmoaaDoorW.PrintMore Go.Proofs.YtbgcapgjnflmoaaDoor.PLx
variable {w0 w w1 : World} {p : Nat} {line : ByteArray} {pos count : Nat} {lits : List ByteArray} {vo : Value} {l : List FV}

/-- Behind 'append' of a zero element and a store of x in its place. -/
theorem R_pushed {α : Type} {d : Kd α} {e base g cap : Nat} {ok okp : Nat → Prop} {W w1 : World} {v : Value} {xs : List α} {x z : α} {inner zc cs : List Value}
    (h0 : ∀ k, v.ownBlock = some k → ok k) (hr : Reps (d.M W base (fun k => ok k ∧ some k ≠ v.ownBlock)) d.sz xs inner) (hz : ∀ W, d.M W base (fun _ => False) z zc) (hzl : zc.length = d.sz)
    (hx : d.M W base okp x cs) (hokp : ∀ k, okp k → ok k ∧ some k ≠ v.ownBlock) (hfresh : ∀ k, W.heap.size ≤ k → ok k)
    (hown : w1.ownsRow base e d.sz (.slice (some ⟨g, 0, none⟩) (xs.length + 1) cap) (xs.length + 1) (inner ++ zc)) (hg : W.grownBy w1 v.ownBlock) (hat : v.ownBlock = some g ∨ W.heap.size ≤ g) :
    d.R e (w1.setCells g (xs.length * d.sz) cs) base ok (.slice (some ⟨g, 0, none⟩) (xs.length + 1) cap) (xs ++ [x]) ∧ w1.grownBy (w1.setCells g (xs.length * d.sz) cs) (some g) := by
  have hcl : cs.length = d.sz := d.K_len (d.K_of_M hx)
  have hat' : (Value.slice (some ⟨g, 0, none⟩) (xs.length + 1) cap).ownBlock = v.ownBlock ∨ ∃ b, (Value.slice (some ⟨g, 0, none⟩) (xs.length + 1) cap).ownBlock = some b ∧ W.heap.size ≤ b := by
    rcases hat with e | e
    · exact .inl (by rw [e]; rfl)
    · exact .inr ⟨g, rfl, e⟩
  have h1 := Kd.R_appended (okp := fun _ => False) h0 hr (hz W) (fun _ hk => hk.elim) hfresh hown hg hat'
  have hzc := hown.cells (g := g) rfl
  have hil : inner.length = xs.length * d.sz := hr.1
  have hM : d.M w1 base (fun k => (okp k ∧ base ≤ k ∧ k < W.heap.size ∧ ∃ q, q ∈ d.E ∧ ∃ cells, W.heap[k]? = some (.cells cells q (0, 0)))) x cs := d.M_move (fun k hk => hg.block k hk.2.2.1 (hokp k hk.1).2) (d.M_bound hx)
  have h2 := Kd.R_seg (d := d) (j := 0) (seg := cs) (c := zc) (x' := x) (okp := fun k => (okp k ∧ base ≤ k ∧ k < W.heap.size ∧ ∃ q, q ∈ d.E ∧ ∃ cells, W.heap[k]? = some (.cells cells q (0, 0)))) h1 (xs.length : Int) (by omega) (by omega) hzl (fun j u hj => by
      have hjl := (List.getElem?_eq_some_iff.1 hj).1
      have := hzc (xs.length * d.sz + j) u (by rw [List.getElem?_append_right (by omega), hil, Nat.add_sub_cancel_left]; exact hj)
      rw [add_plain] at this
      simpa using this) (by omega) (by
      rw [List.take_zero, List.nil_append, Nat.zero_add, List.drop_of_length_le (by omega), List.append_nil]
      exact hM) (fun k hk => ⟨(hokp k hk.1).1, fun e => by
        rcases hat with e2 | e2
        · exact (hokp k hk.1).2 (by rw [e2, e])
        · have := hk.2.2.1; omega⟩)
  rw [Int.toNat_natCast, Nat.add_zero] at h2
  rw [show (xs ++ [z]).set xs.length x = xs ++ [x] by rw [List.set_append_right _ _ (Nat.le_refl _)]; simp] at h2
  exact h2

/-- The row of what is open, read out: where it lies, its last element's cells. -/
theorem Op.last {f : Fr} {v : Value} (h : Op w0 w p line pos count lits vo (l ++ [(f, v)])) : ∃ go co, vo = .slice (some ⟨go, 0, none⟩) (l.length + 1) co ∧ l.length + 1 ≤ co ∧ w0.heap.size ≤ go ∧ go < w.heap.size ∧ go ≠ p ∧
    w.cell? ⟨go, l.length * 4, none⟩ = some (.int .i64 f.kind) ∧ w.cell? ⟨go, l.length * 4 + 1, none⟩ = some (.string ⟨#[]⟩) ∧ w.cell? ⟨go, l.length * 4 + 2, none⟩ = some v ∧ w.cell? ⟨go, l.length * 4 + 3, none⟩ = some (.bool f.glued) ∧ (∀ j, w.frozen? ⟨go, l.length * 4 + j, none⟩ = false) := by
  obtain ⟨inner, ho⟩ := Kd.R_own h.row
  rw [show (l ++ [(f, v)]).length = l.length + 1 by simp] at ho
  rcases ho.2 with ⟨_, h0⟩ | ⟨go, co, cur, hv, hb, hh, hc, _⟩
  · omega
  · have hrow := h.row
    rw [hv] at hrow
    obtain ⟨c, hcl, hM, hcell, hfr⟩ := Kd.R_elem hrow (Fr.line, .slice none 0 0) (l.length : Int) (by omega) (by omega)
    have hx : (l ++ [(f, v)]).getD (l.length : Int).toNat (Fr.line, .slice none 0 0) = (f, v) := by simp
    rw [hx] at hM
    obtain ⟨rfl, _⟩ := hM
    simp only [Int.toNat_natCast] at hcell hfr
    refine ⟨go, co, hv, hc, hb, blk_lt hh, fun e => h.row.1 go (by rw [hv]; rfl) e, hcell 0 _ rfl, hcell 1 _ rfl, hcell 2 _ rfl, hcell 3 _ rfl, hfr⟩
theorem len_snoc {α : Type} (l : List α) (a : α) : (l ++ [a]).length = l.length + 1 := by simp
theorem info43 : (Tryd.prog.info? 43).map (fun i => (i.zero, i.size, i.bytes)) = some (some (.agg #[.int .i64 0, .string ⟨#[]⟩, .slice none 0 0, .bool false]), 4, 56) := by kernel_rfl
theorem cells_new {w : World} {base n g c : Nat} {inner : List Value} (h : w.ownsRow base 43 4 (.slice (some ⟨g, 0, none⟩) (n + 1) c) (n + 1) (inner ++ [.int .i64 0, .string ⟨#[]⟩, .slice none 0 0, .bool false])) :
    w.cell? ⟨g, n * 4, none⟩ = some (.int .i64 0) ∧ w.cell? ⟨g, n * 4 + 1, none⟩ = some (.string ⟨#[]⟩) ∧ w.cell? ⟨g, n * 4 + 2, none⟩ = some (.slice none 0 0) ∧ w.cell? ⟨g, n * 4 + 3, none⟩ = some (.bool false) ∧
    w.frozen? ⟨g, n * 4, none⟩ = false ∧ w.frozen? ⟨g, n * 4 + 1, none⟩ = false ∧ w.frozen? ⟨g, n * 4 + 2, none⟩ = false ∧ w.frozen? ⟨g, n * 4 + 3, none⟩ = false := by
  have hi : inner.length = n * 4 := by have := h.1; simp at this; omega
  have hc := h.cells (g := g) rfl
  obtain ⟨cs, hcs⟩ := own_typed h g rfl
  have key : ∀ j u, [Value.int .i64 0, Value.string ⟨#[]⟩, Value.slice none 0 0, Value.bool false][j]? = some u → w.cell? ⟨g, n * 4 + j, none⟩ = some u := fun j u hj => by
    have := hc (n * 4 + j) u (by rw [List.getElem?_append_right (by omega), hi, Nat.add_sub_cancel_left]; exact hj)
    rwa [add_plain] at this
  exact ⟨key 0 _ rfl, key 1 _ rfl, key 2 _ rfl, key 3 _ rfl, blk_frozen hcs _, blk_frozen hcs _, blk_frozen hcs _, blk_frozen hcs _⟩
theorem ne_go {W2 W : World} {v : Value} {go gn : Nat} {o : Obj} (hn : v.ownBlock ≠ some go) (h1 : go < W.heap.size) (h2 : W2.heap.size = W.heap.size) (h3 : v.ownBlock = some gn ∨ gn = ((W2.alloc o).drew).heap.size) : gn ≠ go := by
  rintro rfl
  rcases h3 with h3 | h3
  · exact hn h3
  · have e : ((W2.alloc o).drew).heap.size = W2.heap.size + 1 := by show (W2.alloc o).heap.size = _; simp
    omega
theorem cell_far6 {W2 w6 : World} {v : Value} {o : Obj} {g i : Nat} {u : Value} (hg : ((W2.alloc o).drew).grownBy w6 v.ownBlock) (hn : v.ownBlock ≠ some g) (hl : g < W2.heap.size) (hc : W2.cell? ⟨g, i, none⟩ = some u) : w6.cell? ⟨g, i, none⟩ = some u := by
  have e := (hg.block g (by show g < (W2.alloc o).heap.size; simp; omega) (fun e => hn e.symm)).trans (Below.heap_alloc W2 o g hl)
  rw [← hc]; unfold World.cell?; rw [e]
theorem froz_far6 {W2 w6 : World} {v : Value} {o : Obj} {g i : Nat} (hg : ((W2.alloc o).drew).grownBy w6 v.ownBlock) (hn : v.ownBlock ≠ some g) (hl : g < W2.heap.size) (hc : W2.frozen? ⟨g, i, none⟩ = false) : w6.frozen? ⟨g, i, none⟩ = false := by
  have e := (hg.block g (by show g < (W2.alloc o).heap.size; simp; omega) (fun e => hn e.symm)).trans (Below.heap_alloc W2 o g hl)
  rw [← hc]; unfold World.frozen?; rw [e]
theorem setCell_comm {w : World} {g h i j : Nat} (hne : g ≠ h) (u v : Value) : (w.setCell ⟨g, i, none⟩ u).setCell ⟨h, j, none⟩ v = (w.setCell ⟨h, j, none⟩ v).setCell ⟨g, i, none⟩ u := by
  unfold World.setCell
  simp only [World.mk.injEq, and_self, and_true, true_and]
  apply Array.ext_getElem?
  intro k
  simp only [Array.getElem?_modify]
  by_cases h1 : h = k <;> by_cases h2 : g = k
  · omega
  · simp [h1, h2]
  · simp [h1, h2]
  · simp [h1, h2]
theorem setCells4 (w : World) (g o : Nat) (a b c d : Value) : w.setCells g o [a, b, c, d] = (((w.setCell ⟨g, o, none⟩ a).setCell ⟨g, o + 1, none⟩ b).setCell ⟨g, o + 2, none⟩ c).setCell ⟨g, o + 3, none⟩ d := rfl
theorem setCells4' {w : World} {g o h j : Nat} (hne : g ≠ h) (a b c d u : Value) : ((((w.setCell ⟨h, j, none⟩ u).setCell ⟨g, o, none⟩ a).setCell ⟨g, o + 1, none⟩ b).setCell ⟨g, o + 2, none⟩ c).setCell ⟨g, o + 3, none⟩ d = (w.setCells g o [a, b, c, d]).setCell ⟨h, j, none⟩ u := by
  rw [setCells4, setCell_comm (Ne.symm hne), setCell_comm (Ne.symm hne), setCell_comm (Ne.symm hne), setCell_comm (Ne.symm hne)]
theorem zero_M (w : World) (base : Nat) (ok : Nat → Prop) : k43.M w base ok z43 [.int .i64 0, .string ⟨#[]⟩, .slice none 0 0, .bool false] := k43_mkM w base ok z43 (Kd.R_nil k43 43 w base ok)
theorem kF_ok {e : Nat} {w : World} {base : Nat} {ok ok' : Nat → Prop} {v : Value} {l : List FV} (h : kF.R e w base ok v l) (h' : ∀ k, v.ownBlock = some k → ok' k) : kF.R e w base ok' v l := ⟨h', h.2⟩
theorem put_end {w0 W2 w6 : World} {go co gn cn : Nat} {f : Fr} {v : Value} {x : Wd} {v2 : Value} {okx : Nat → Prop} {inner : List Value}
    (h : Op w0 W2 p line pos count lits (.slice (some ⟨go, 0, none⟩) (l.length + 1) co) (l ++ [(f, v)])) (hx : k43.R 43 W2 w0.heap.size okx v2 x.f2)
    (hok : ∀ k, okx k → k ≠ p ∧ some k ≠ (Value.slice (some ⟨go, 0, none⟩) (l.length + 1) co).ownBlock ∧ ∀ (i : Nat) (y : FV), (l ++ [(f, v)])[i]? = some y → some k ≠ y.2.ownBlock)
    (hk0 : ∀ k, v.ownBlock = some k → okj p (.slice (some ⟨go, 0, none⟩) (l.length + 1) co) (l ++ [(f, v)]) l.length k)
    (hrep : Reps (k43.M W2 w0.heap.size (fun k => okj p (.slice (some ⟨go, 0, none⟩) (l.length + 1) co) (l ++ [(f, v)]) l.length k ∧ some k ≠ v.ownBlock)) k43.sz f.kids inner)
    (hown : w6.ownsRow w0.heap.size 43 4 (.slice (some ⟨gn, 0, none⟩) (f.kids.length + 1) cn) (f.kids.length + 1) (inner ++ [.int .i64 0, .string ⟨#[]⟩, .slice none 0 0, .bool false]))
    (hg : ((W2.alloc (Obj.cells #[.int .i64 0, .string ⟨#[]⟩, .slice none 0 0, .bool false] 43)).drew).grownBy w6 v.ownBlock) (hne : gn ≠ go)
    (hat : v.ownBlock = some gn ∨ gn = ((W2.alloc (Obj.cells #[.int .i64 0, .string ⟨#[]⟩, .slice none 0 0, .bool false] 43)).drew).heap.size) :
    Op w0 ((w6.setCells gn (f.kids.length * 4) [.int .i64 x.f0, .string x.f1, v2, .bool x.f3]).setCell ⟨go, l.length * 4 + 2, none⟩ (.slice (some ⟨gn, 0, none⟩) (f.kids.length + 1) cn)) p line pos count lits (.slice (some ⟨go, 0, none⟩) (l.length + 1) co) (l ++ [(f.put x, .slice (some ⟨gn, 0, none⟩) (f.kids.length + 1) cn)]) := by
  obtain ⟨Wz, hWz⟩ : ∃ Wz, (W2.alloc (Obj.cells #[.int .i64 0, .string ⟨#[]⟩, .slice none 0 0, .bool false] 43)).drew = Wz := ⟨_, rfl⟩
  have hz : Op w0 Wz p line pos count lits (.slice (some ⟨go, 0, none⟩) (l.length + 1) co) (l ++ [(f, v)]) := by rw [← hWz]; exact (h.alloc _).drew
  have hbz : Below W2.heap.size W2 Wz := by rw [← hWz]; exact below_drew (below_alloc (Below.refl _ _) _)
  rw [hWz] at hg hat
  have hlast : (l ++ [(f, v)])[l.length]? = some (f, v) := by simp
  have hgol : go < Wz.heap.size := by
    obtain ⟨i2, ho2⟩ := Kd.R_own hz.row
    exact own_lt ho2 go rfl
  have hbase := hz.base
  have hvb : ∀ k, v.ownBlock = some k → w0.heap.size ≤ k := by
    obtain ⟨i2, ho2⟩ := Kd.R_own (hz.kids _ _ hlast)
    exact fun k hk => own_base ho2 k hk
  have hat' : v.ownBlock = some gn ∨ Wz.heap.size ≤ gn := by
    rcases hat with e | e
    · exact .inl e
    · exact .inr (by omega)
  have hgb : w0.heap.size ≤ gn := by
    rcases hat' with e | e
    · exact hvb gn e
    · omega
  -- the kids' row, with x
  have hpush := R_pushed (d := k43) (e := 43) (base := w0.heap.size) (ok := okj p (.slice (some ⟨go, 0, none⟩) (l.length + 1) co) l l.length) (okp := okx) (W := Wz) (w1 := w6) (v := v) (xs := f.kids) (x := x) (z := z43) (inner := inner) (g := gn) (cap := cn)
    (zc := [.int .i64 0, .string ⟨#[]⟩, .slice none 0 0, .bool false]) (cs := [.int .i64 x.f0, .string x.f1, v2, .bool x.f3])
    (fun k hk => by
      have := hk0 k hk
      refine ⟨this.1, this.2.1, fun i y hy hi => this.2.2 i y ?_ hi⟩
      rw [List.getElem?_append_left (List.getElem?_eq_some_iff.1 hy).1]; exact hy)
    (hrep.imp_ (fun a c hM => k43.M_mono (fun k hk => by
      refine ⟨⟨hk.1.1, hk.1.2.1, fun i y hy hi => hk.1.2.2 i y ?_ hi⟩, hk.2⟩
      rw [List.getElem?_append_left (List.getElem?_eq_some_iff.1 hy).1]; exact hy) (Kd.M_below hM hbz)))
    (fun W => zero_M W _ _) rfl
    (k43_mkM Wz w0.heap.size okx x (Kd.R_below hx hbz))
    (fun k hk => by
      have := hok k hk
      refine ⟨⟨this.1, this.2.1, fun i y hy hi => this.2.2 i y ?_⟩, this.2.2 _ _ hlast⟩
      rw [List.getElem?_append_left (List.getElem?_eq_some_iff.1 hy).1]; exact hy)
    (fun k hk => by
      refine ⟨by have := hz.plt; omega, fun e => ?_, fun i y hy hi e => ?_⟩
      · have : k = go := by simpa [Value.ownBlock] using e
        omega
      · have hy2 : (l ++ [(f, v)])[i]? = some y := by rw [List.getElem?_append_left (List.getElem?_eq_some_iff.1 hy).1]; exact hy
        obtain ⟨i2, ho2⟩ := Kd.R_own (hz.kids _ _ hy2)
        have := own_lt ho2 k e.symm
        omega)
    hown hg hat'
  obtain ⟨w7, hw7⟩ : ∃ w7, w6.setCells gn (f.kids.length * k43.sz) [.int .i64 x.f0, .string x.f1, v2, .bool x.f3] = w7 := ⟨_, rfl⟩
  have e4 : k43.sz = 4 := rfl
  rw [hw7] at hpush
  rw [e4] at hw7
  rw [hw7]
  obtain ⟨hkid, hg7⟩ := hpush
  -- the row of what is open
  have hro : kF.R 43 Wz w0.heap.size (fun k => k = go) (.slice (some ⟨go, 0, none⟩) (l.length + 1) co) (l ++ [(f, v)]) := kF_ok hz.row (fun k hk => ((show go = k by simpa [Value.ownBlock] using hk)).symm)
  have hvgo : v.ownBlock ≠ some go := fun e => (hk0 go e).2.1 rfl
  have hro6 := Kd.R_grown hro hg (fun k hk => by rw [hk]; exact fun e => hvgo e.symm)
  have hro7 := Kd.R_grown hro6 hg7 (fun k hk => by rw [hk]; intro e; injection e with e; exact hne e.symm)
  obtain ⟨c, hcl, hM, hcell, _⟩ := Kd.R_elem hro7 (Fr.line, .slice none 0 0) (l.length : Int) (by omega) (by omega)
  rw [show (l ++ [(f, v)]).getD (l.length : Int).toNat (Fr.line, .slice none 0 0) = (f, v) by simp] at hM
  obtain ⟨rfl, _⟩ := hM
  have hseg := Kd.R_seg (d := kF) (j := 2) (seg := [.slice (some ⟨gn, 0, none⟩) (f.kids.length + 1) cn]) (x' := (f.put x, .slice (some ⟨gn, 0, none⟩) (f.kids.length + 1) cn)) (okp := fun _ => False) hro7 (l.length : Int) (by omega) (by omega) rfl hcell (by show 2 + 1 ≤ 4; omega) ⟨rfl, rfl⟩ (fun _ hk => hk.elim)
  have hset : (l ++ [(f, v)]).set (l.length : Int).toNat (f.put x, .slice (some ⟨gn, 0, none⟩) (f.kids.length + 1) cn) = l ++ [(f.put x, .slice (some ⟨gn, 0, none⟩) (f.kids.length + 1) cn)] := by
    rw [Int.toNat_natCast, List.set_append_right _ _ (Nat.le_refl _)]; simp
  rw [hset] at hseg
  rw [show ((l.length : Int).toNat * kF.sz + 2) = l.length * 4 + 2 from rfl, show w7.setCells go (l.length * 4 + 2) [Value.slice (some ⟨gn, 0, none⟩) (f.kids.length + 1) cn] = w7.setCell ⟨go, l.length * 4 + 2, none⟩ (.slice (some ⟨gn, 0, none⟩) (f.kids.length + 1) cn) from rfl] at hseg
  obtain ⟨hrow8, hg8⟩ := hseg
  refine Op.setTop (w := Wz) hz ?_ ?_ ?_ (kF_ok hrow8 (fun k hk => by
      have : go = k := by simpa [Value.ownBlock] using hk
      subst this
      exact hz.row.1 go rfl)) ?_
  · have b6 := pw_below_grown hz.bel v.ownBlock hbase hg hvb
    have b7 := pw_below_grown b6 (some gn) b6.size hg7 (fun k hk => by injection hk with hk; omega)
    exact pw_below_grown b7 (some go) b7.size hg8 (fun k hk => by
      injection hk with hk
      obtain ⟨i2, ho2⟩ := Kd.R_own hz.row
      have := own_base ho2 go rfl
      omega)
  · intro k hlt hv ho
    have k6 := hg.block k hlt hv
    have k7 := hg7.block k (by have := hg.size; omega) (fun e => by
      injection e with e
      rcases hat' with e2 | e2
      · exact hv (by rw [e2, e])
      · omega)
    have k8 := hg8.block k (by have := hg.size; have := hg7.size; omega) (fun e => ho (by rw [e]; rfl))
    exact k8.trans (k7.trans k6)
  · rcases hat' with e | e
    · exact .inl (by rw [e]; rfl)
    · exact .inr ⟨gn, rfl, e⟩
  · exact Kd.R_far (p := ⟨go, l.length * 4 + 2, none⟩) hkid (fun k hk e => hk.2.1 (by rw [e]; rfl)) _
theorem newsZ (w : World) : ∀ (j : Nat) (u : Value), [Value.int .i64 0, Value.string ⟨#[]⟩, Value.slice none 0 0, Value.bool false][j]? = some u → ((w.alloc (Obj.cells #[.int .i64 0, .string ⟨#[]⟩, .slice none 0 0, .bool false] 43)).drew).cell? ((⟨w.heap.size, 0, none⟩ : Addr).add j) = some u :=
  World.news_of_block (w := (w.alloc (Obj.cells #[.int .i64 0, .string ⟨#[]⟩, .slice none 0 0, .bool false] 43)).drew) (blk_new w (Obj.cells #[.int .i64 0, .string ⟨#[]⟩, .slice none 0 0, .bool false] 43))
set_option maxRecDepth 100000 in
set_option maxHeartbeats 2000000 in
theorem put_ok {f : Fr} {v : Value} (h : Op w0 w p line pos count lits vo (l ++ [(f, v)])) {x : Wd} {v2 : Value} {okx : Nat → Prop} (hx : k43.R 43 w w0.heap.size okx v2 x.f2)
    (hok : ∀ k, okx k → k ≠ p ∧ some k ≠ vo.ownBlock ∧ ∀ (i : Nat) (y : FV), (l ++ [(f, v)])[i]? = some y → some k ≠ y.2.ownBlock) (hn : f.kids.length ≤ 100000) (hl : l.length ≤ 100) :
    Calls Tryd.prog 56 #[.pointer (some ⟨p, 0, none⟩), .agg #[.int .i64 x.f0, .string x.f1, v2, .bool x.f3]] w fun e w' => e = .returned (.tuple #[]) ∧ ∃ v', Op w0 w' p line pos count lits vo (l ++ [(f.put x, v')]) := by
  obtain ⟨go, co, rfl, hco, hgb, hgl, hgp, o0, o1, o2, o3, oz⟩ := h.last
  obtain ⟨A, cA, hcA, hlit, c0, c1, c2, c3, c5, c4, cz⟩ := h.cells
  have H0 : Hid _ := h
  have HX : Hid _ := hx
  have HOK : Hid _ := hok
  obtain ⟨W, hW⟩ : ∃ W, w.alloc (Obj.cells #[.int .i64 x.f0, .string x.f1, v2, .bool x.f3] 43) = W := ⟨_, rfl⟩
  have hWb : Below w.heap.size w W := by rw [← hW]; exact below_alloc (Below.refl _ _) _
  have HW0 : Hid _ := h.below hWb
  have d5 : W.cell? ⟨p, 260, none⟩ = some (.slice (some ⟨go, 0, none⟩) (l.length + 1) co) := pw_cell_below hWb c5
  have hb : W.heap[w.heap.size]? = some (.cells #[.int .i64 x.f0, .string x.f1, v2, .bool x.f3] 43 (0, 0)) := by rw [← hW]; exact blk_new w _
  have b0 := blk_cell hb 0
  have b1 := blk_cell hb 1
  have b2 := blk_cell hb 2
  have b3 := blk_cell hb 3
  simp only [List.getElem?_toArray, List.getElem?_cons_zero, List.getElem?_cons_succ] at b0 b1 b2 b3
  have e2 : W.cell? ⟨go, l.length * 4 + 2, none⟩ = some v := pw_cell_below hWb o2
  have HWb : Hid _ := hWb
  have hsz : W.heap.size = w.heap.size + 1 := by rw [← hW]; simp
  have HSZ : Hid _ := hsz
  have hlen1 : ((l.length + 1 : Nat) : Int) - 1 = (l.length : Int) := by omega
  have hi0 : (0 : Int) ≤ (l.length : Int) := by omega
  have hi1 : (l.length : Int) < ((l.length + 1 : Nat) : Int) := by omega
  have hi2 : (l.length : Int) ≤ 100 := by omega
  have hz2 := HW0.out.last
  obtain ⟨go', co', hv', _, _, hgl', _, _, _, _, _, oz'⟩ := hz2
  cases hv'
  have hkl := HW0.out.kids l.length (f, v) (by simp)
  obtain ⟨A2, k2, rfl⟩ := Kd.R_slice hx
  obtain ⟨A3, k3, hv3⟩ := Kd.R_slice hkl
  simp only at hv3
  have hkl' := hkl
  obtain ⟨hk0, inner, hown, hreps⟩ := hkl'
  obtain ⟨i0, hj0, hz0, hz1, hz2⟩ := info_parts info43
  have HK0 : Hid _ := hk0
  have HRP : Hid _ := hreps
  have HN : Hid _ := hn
  have HGL : Hid _ := hgl'
  have HBASE : Hid _ := HW0.out.base
  have hne : v.ownBlock ≠ some go := fun e => (hk0 go e).2.1 rfl
  have HNE : Hid _ := hne
  clear h hx hok c0 c1 c2 c3 c4 c5 cz o0 o1 o2 o3 oz hWb hsz hb hkl hk0 hreps hn hgl' hne hgl
  subst hv3
  simp only at hown
  go_enter Tryd.func56, Tryd.ntmps56
  go_wp2
  go_quiet (fail)
  obtain ⟨W2, hW2⟩ : ∃ W2, W.drewN nq = W2 := ⟨_, rfl⟩
  have g0 := (show (W.drewN nq).cell? ⟨w.heap.size, 0, none⟩ = _ from b0)
  have g1 := (show (W.drewN nq).cell? ⟨w.heap.size, 1, none⟩ = _ from b1)
  have g2 := (show (W.drewN nq).cell? ⟨w.heap.size, 2, none⟩ = _ from b2)
  have g3 := (show (W.drewN nq).cell? ⟨w.heap.size, 3, none⟩ = _ from b3)
  have q2 := (show (W.drewN nq).cell? ⟨go, l.length * 4 + 2, none⟩ = _ from e2)
  have qz := (show (W.drewN nq).frozen? ⟨go, l.length * 4 + 2, none⟩ = _ from oz' 2)
  have hown2 := (show (W.drewN nq).ownsRow w0.heap.size 43 4 (.slice A3 f.kids.length k3) f.kids.length inner from hown)
  rw [hW2] at g0 g1 g2 g3 q2 qz hown2
  have hsz2 : W2.heap.size = W.heap.size := by rw [← hW2]; rfl
  clear b0 b1 b2 b3 e2 hown d5 oz'
  rw [hW2]
  have HW2 : Hid _ := hW2
  have HSZ2 : Hid _ := hsz2
  have hk1 : (f.kids.length : Int) < (f.kids.length : Int) + 1 := by omega
  have hk2 : (0 : Int) ≤ (f.kids.length : Int) := by omega
  have hk3 : (f.kids.length : Int) ≤ 100000 := by have := HN.out; omega
  have hal5 : ∀ (o : Obj) (j : Nat), (W2.alloc o).cell? ⟨w.heap.size, j, none⟩ = W2.cell? ⟨w.heap.size, j, none⟩ := fun o j => World.cell?_alloc_past _ _ _ (by have := HSZ.out; omega)
  have hal4 : ∀ (o : Obj) (j : Nat), (W2.alloc o).cell? ⟨go, j, none⟩ = W2.cell? ⟨go, j, none⟩ := fun o j => World.cell?_alloc_past _ _ _ (by have := HGL.out; omega)
  clear hsz2 hW2
  go_wp2
  go_region_law (first
    | (refine step_append_lies _ rfl (.tmp 19) (.tmp 22) 24 rfl w0.heap.size 43 i0 _ 4 56 Tryd.underlying24 hj0 hz0 hz1 hz2 rfl (by decide) (.slice A3 f.kids.length k3) _ _ rfl (hown2.alloc (Obj.cells #[.int .i64 0, .string ⟨#[]⟩, .slice none 0 0, .bool false] 43)) ⟨W2.heap.size, 0, none⟩ 1 1 [.int .i64 0, .string ⟨#[]⟩, .slice none 0 0, .bool false] rfl rfl (newsZ W2) (by intro u hu; simp at hu; rcases hu with rfl | rfl | rfl | rfl <;> rfl) (by decide) (by have := HN.out; unfold maxLen; omega) (by have := HN.out; omega) (by have := HBASE.out; have := HSZ2.out; show w0.heap.size ≤ (World.alloc _ _).heap.size; simp; omega) _ rfl ?_
       intro gn cn w6 hown6 hg6 hat6 hlt6
       obtain ⟨n0, n1, n2, n3, z0, z1, z2, z3⟩ := cells_new hown6
       have hne1 : gn ≠ go := by exact ne_go HNE.out HGL.out HSZ2.out hat6
       have y2 : w6.cell? ⟨go, l.length * 4 + 2, none⟩ = some (.slice A3 f.kids.length k3) := by exact cell_far6 hg6 HNE.out (by have := HGL.out; have := HSZ2.out; omega) q2
       have yz : w6.frozen? ⟨go, l.length * 4 + 2, none⟩ = false := by exact froz_far6 hg6 HNE.out (by have := HGL.out; have := HSZ2.out; omega) qz
       have hne2 : go ≠ gn := Ne.symm hne1)
    | fail)
  all_goals go_wp2
  all_goals go_end0
  all_goals (refine ⟨rfl, .slice (some ⟨gn, 0, none⟩) (f.kids.length + 1) cn, ?_⟩)
  all_goals (first | rw [setCells4' hne1] | rw [← setCells4])
  all_goals (have hh2 : Op w0 W2 p line pos count lits (.slice (some ⟨go, 0, none⟩) (l.length + 1) co) (l ++ [(f, .slice A3 f.kids.length k3)]) := by rw [← HW2.out]; exact HW0.out.drewN nq)
  all_goals (refine put_end hh2 (okx := okx) (by rw [← HW2.out]; exact Kd.R_below HX.out (pw_below_drewN HWb.out nq)) HOK.out HK0.out (by rw [← HW2.out]; exact Reps.imp_ HRP.out (fun _ _ hM => Kd.M_below hM (pw_below_drewN (Below.refl _ _) nq))) hown6 hg6 hne1 hat6)
end Go.Proofs.YtbgcapgjnflmoaaDoor.Sc

/- Same and same: of two lists of words that are alike. -/
namespace Go.Proofs.YtbgcapgjnflmoaaDoor.Sc
open Go.RowKit Go.Proofs.YtbgcapgjnflmoaaDoorW.PrintWords Go.Proofs.YtbgcapgjnflmoaaDoorW.PrintMore Go.Proofs.YtbgcapgjnflmoaaDoor.PLx
theorem kids_less {l : List S43} {x : S43} (h : x ∈ l) : SizeOf.sizeOf x.f2 < SizeOf.sizeOf l := by
  have h1 := List.sizeOf_lt_of_mem h
  have h2 : SizeOf.sizeOf x.f2 < SizeOf.sizeOf x := by cases x; simp; omega
  omega
theorem rd_mem {l : List S43} {i : Nat} (h : i < l.length) : rd_T43 l (i : Int) ∈ l := by
  unfold rd_T43
  rw [Int.toNat_natCast, List.getD_eq_getElem?_getD, List.getElem?_eq_getElem h]
  exact List.getElem_mem h
set_option maxRecDepth 100000 in
set_option maxHeartbeats 4000000 in
theorem Same_eq : ∀ (n : Nat) (l : List S43), SizeOf.sizeOf l < n → ∀ (A0 : Option Addr) (c0 : Nat) (A1 : Option Addr) (c1 : Nat) (w : World), Kd.C k43 w A0 l.length l → l.length ≤ c0 → Kd.C k43 w A1 l.length l → l.length ≤ c1 →
    Calls Tryd.prog 13 #[.slice A0 l.length c0, .slice A1 l.length c1] w fun e w' => e = .returned (.bool true) ∧ ∃ m, w' = w.drewN m := by
  intro n
  induction n with
  | zero => intro l h; omega
  | succ n ih =>
    intro l hn A0 c0 A1 c1 w hC0 hc0 hC1 hc1
    have hl9 : (l.length : Int) ≤ 9223372036854775807 := by have := hC0.2.1; omega
    have hlen : ((l.length : Int) != (l.length : Int)) = false := by simp
    have HC : Hid _ := And.intro hC0 (And.intro hc0 (And.intro hC1 hc1))
    have HN : Hid _ := hn
    have HIH : Hid _ := ih
    clear hC0 hc0 hC1 hc1 hn ih
    go_enter Tryd.func13, Tryd.ntmps13
    go_wp2
    go_loopw [5] (fun vi wr => ∃ i : Nat, i ≤ l.length ∧ vi = .int .i64 i ∧ Hid (∃ m, wr = w.drewN m)) (fun vi _ => l.length - (intOf vi).toNat)
    case atStart => exact ⟨0, Nat.zero_le _, rfl, (⟨0, rfl⟩ : ∃ m, w = w.drewN m)⟩
    case round =>
      obtain ⟨i, hi, rfl, HB⟩ := hrel
      have hbm : Below w.heap.size w wr := by
        obtain ⟨mm, e⟩ := HB.out
        rw [e]; exact pw_below_drewN (Below.refl _ _) mm
      have HBM : Hid _ := hbm
      clear hbm
      have hi0 : (0 : Int) ≤ (i : Int) := by omega
      by_cases hlt : i < l.length
      · have hltb : decide ((i : Int) < (l.length : Int)) = true := decide_eq_true (by omega)
        have hlti : (i : Int) < (l.length : Int) := by omega
        obtain ⟨ad, A2, c2, e0, y0, y1, y2, y3, hl2, hk2⟩ := at_T43 (Kd.C_below HC.out.1 HBM.out) (i : Int) hi0 hlti
        obtain ⟨ad', A3, c3, e1, z0, z1, z2, z3, hl3, hk3⟩ := at_T43 (Kd.C_below HC.out.2.2.1 HBM.out) (i : Int) hi0 hlti
        subst e0
        subst e1
        obtain ⟨x, hx⟩ : ∃ x, rd_T43 l (i : Int) = x := ⟨_, rfl⟩
        rw [hx] at y0 y1 y2 y3 z0 z1 z2 z3 hl2 hk2 hl3 hk3
        have hxm : x ∈ l := by rw [← hx]; exact rd_mem hlt
        have hb0 : (x.f0 != x.f0) = false := by simp
        have hb1 : (x.f1.toList == x.f1.toList) = true := by simp
        have hb3 : (x.f3 != x.f3) = false := by simp
        have HX : Hid _ := And.intro hlt (And.intro hxm (And.intro hl2 (And.intro hk2 (And.intro hl3 hk3))))
        clear hlt hx hxm hl2 hk2 hl3 hk3
        simp only [Int.toNat_natCast] at y0 y1 y2 y3 z0 z1 z2 z3
        go_wp2
        go_quiet (first | (go_at_call 13; refine Calls.quiet_of (HIH.out x.f2 (by have := kids_less HX.out.2.1; have := HN.out; omega) _ _ _ _ _ (by first | exact Kd.C_below HX.out.2.2.2.1 (pw_below_drewN (Below.refl _ _) _) | exact Kd.C_below (Kd.C_below HX.out.2.2.2.1 HBM.out) (pw_below_drewN (Below.refl _ _) _)) HX.out.2.2.1 (by first | exact Kd.C_below HX.out.2.2.2.2.2 (pw_below_drewN (Below.refl _ _) _) | exact Kd.C_below (Kd.C_below HX.out.2.2.2.2.2 HBM.out) (pw_below_drewN (Below.refl _ _) _)) HX.out.2.2.2.2.1)) | fail)
        go_wp2
        exact ⟨⟨i + 1, HX.out.1, by simp, (by obtain ⟨mm, e⟩ := HB.out; exact ⟨mm + nq, by rw [e, World.drewN_drewN]⟩ : ∃ m, wr.drewN nq = w.drewN m)⟩, by simp only [intOf]; have := HX.out.1; omega⟩
      · have hltb : decide ((i : Int) < (l.length : Int)) = false := decide_eq_false (by omega)
        have hge : (l.length : Int) ≤ (i : Int) := by omega
        clear hlt
        go_wp2
        go_ret
        exact ⟨rfl, HB.out⟩
set_option maxRecDepth 100000 in
set_option maxHeartbeats 4000000 in
theorem same_eq : ∀ (n : Nat) (l : List S43), SizeOf.sizeOf l < n → ∀ (A0 : Option Addr) (c0 : Nat) (A1 : Option Addr) (c1 : Nat) (w : World), Kd.C k43 w A0 l.length l → l.length ≤ c0 → Kd.C k43 w A1 l.length l → l.length ≤ c1 →
    Calls Tryd.prog 28 #[.slice A0 l.length c0, .slice A1 l.length c1] w fun e w' => e = .returned (.bool true) ∧ Below w.heap.size w w' := by
  intro n
  induction n with
  | zero => intro l h; omega
  | succ n ih =>
    intro l hn A0 c0 A1 c1 w hC0 hc0 hC1 hc1
    have hl9 : (l.length : Int) ≤ 9223372036854775807 := by have := hC0.2.1; omega
    have hlen : ((l.length : Int) != (l.length : Int)) = false := by simp
    have HC : Hid _ := And.intro hC0 (And.intro hc0 (And.intro hC1 hc1))
    have HN : Hid _ := hn
    have HIH : Hid _ := ih
    clear hC0 hc0 hC1 hc1 hn ih
    go_enter Tryd.func28, Tryd.ntmps28
    go_wp2
    go_loopw [15] (fun vi wr => ∃ i : Nat, i ≤ l.length ∧ vi = .int .i64 i ∧ Hid (Below w.heap.size w wr)) (fun vi _ => l.length - (intOf vi).toNat)
    case atStart => exact ⟨0, Nat.zero_le _, rfl, Below.refl _ _⟩
    case round =>
      obtain ⟨i, hi, rfl, HB⟩ := hrel
      have hi0 : (0 : Int) ≤ (i : Int) := by omega
      by_cases hlt : i < l.length
      · have hltb : decide ((i : Int) < (l.length : Int)) = true := decide_eq_true (by omega)
        have hlti : (i : Int) < (l.length : Int) := by omega
        obtain ⟨ad, A2, c2, e0, y0, y1, y2, y3, hl2, hk2⟩ := at_T43 (Kd.C_below HC.out.1 HB.out) (i : Int) hi0 hlti
        obtain ⟨ad', A3, c3, e1, z0, z1, z2, z3, hl3, hk3⟩ := at_T43 (Kd.C_below HC.out.2.2.1 HB.out) (i : Int) hi0 hlti
        subst e0
        subst e1
        obtain ⟨x, hx⟩ : ∃ x, rd_T43 l (i : Int) = x := ⟨_, rfl⟩
        rw [hx] at y0 y1 y2 y3 z0 z1 z2 z3 hl2 hk2 hl3 hk3
        have hxm : x ∈ l := by rw [← hx]; exact rd_mem hlt
        have hb0 : (x.f0 != x.f0) = false := by simp
        have hb1 : (x.f1.toList == x.f1.toList) = true := by simp
        have hb3 : (x.f3 != x.f3) = false := by simp
        simp only [Int.toNat_natCast] at y0 y1 y2 y3 z0 z1 z2 z3
        obtain ⟨WZ, hWZ⟩ : ∃ WZ, wr.alloc (Obj.cells #[.int .i64 0, .string ⟨#[]⟩, .slice none 0 0, .bool false] 43) = WZ := ⟨_, rfl⟩
        have hbWZ : WZ.heap[wr.heap.size]? = some (.cells #[.int .i64 0, .string ⟨#[]⟩, .slice none 0 0, .bool false] 43 (0, 0)) := by rw [← hWZ]; exact blk_new wr _
        have hlWZ : Below wr.heap.size wr WZ := by rw [← hWZ]; exact below_alloc (Below.refl _ _) _
        have p0 := blk_cell hbWZ 0
        have p1 := blk_cell hbWZ 1
        have p2 := blk_cell hbWZ 2
        have p3 := blk_cell hbWZ 3
        simp only [List.getElem?_toArray, List.getElem?_cons_zero, List.getElem?_cons_succ] at p0 p1 p2 p3
        have pz : ∀ j, WZ.frozen? ⟨wr.heap.size, j, none⟩ = false := fun j => blk_frozen hbWZ j
        obtain ⟨WA, hWA⟩ : ∃ WA, (((WZ.setCell ⟨wr.heap.size, 0, none⟩ (.int .i64 x.f0)).setCell ⟨wr.heap.size, 1, none⟩ (.string x.f1)).setCell ⟨wr.heap.size, 2, none⟩ (.slice A2 x.f2.length c2)).setCell ⟨wr.heap.size, 3, none⟩ (.bool x.f3) = WA := ⟨_, rfl⟩
        have hbWA : WA.heap[wr.heap.size]? = some (.cells #[.int .i64 x.f0, .string x.f1, .slice A2 x.f2.length c2, .bool x.f3] 43 (0, 0)) := by rw [← hWA]; exact blk_set (blk_set (blk_set (blk_set hbWZ 0 _) 1 _) 2 _) 3 _
        have hlWA : Below wr.heap.size wr WA := by rw [← hWA]; exact (((hlWZ.setCell (p := ⟨wr.heap.size, 0, none⟩) (Nat.le_refl _) _).setCell (p := ⟨wr.heap.size, 1, none⟩) (Nat.le_refl _) _).setCell (p := ⟨wr.heap.size, 2, none⟩) (Nat.le_refl _) _).setCell (p := ⟨wr.heap.size, 3, none⟩) (Nat.le_refl _) _
        replace z0 : WA.cell? _ = _ := pw_cell_below hlWA z0
        replace z1 : WA.cell? _ = _ := pw_cell_below hlWA z1
        replace z2 : WA.cell? _ = _ := pw_cell_below hlWA z2
        replace z3 : WA.cell? _ = _ := pw_cell_below hlWA z3
        obtain ⟨WY, hWY⟩ : ∃ WY, WA.alloc (Obj.cells #[.int .i64 0, .string ⟨#[]⟩, .slice none 0 0, .bool false] 43) = WY := ⟨_, rfl⟩
        have hbWY : WY.heap[WA.heap.size]? = some (.cells #[.int .i64 0, .string ⟨#[]⟩, .slice none 0 0, .bool false] 43 (0, 0)) := by rw [← hWY]; exact blk_new WA _
        have hlWY : Below WA.heap.size WA WY := by rw [← hWY]; exact below_alloc (Below.refl _ _) _
        have q0 := blk_cell hbWY 0
        have q1 := blk_cell hbWY 1
        have q2 := blk_cell hbWY 2
        have q3 := blk_cell hbWY 3
        simp only [List.getElem?_toArray, List.getElem?_cons_zero, List.getElem?_cons_succ] at q0 q1 q2 q3
        have qz : ∀ j, WY.frozen? ⟨WA.heap.size, j, none⟩ = false := fun j => blk_frozen hbWY j
        obtain ⟨WB, hWB⟩ : ∃ WB, (((WY.setCell ⟨WA.heap.size, 0, none⟩ (.int .i64 x.f0)).setCell ⟨WA.heap.size, 1, none⟩ (.string x.f1)).setCell ⟨WA.heap.size, 2, none⟩ (.slice A3 x.f2.length c3)).setCell ⟨WA.heap.size, 3, none⟩ (.bool x.f3) = WB := ⟨_, rfl⟩
        have hbWB : WB.heap[WA.heap.size]? = some (.cells #[.int .i64 x.f0, .string x.f1, .slice A3 x.f2.length c3, .bool x.f3] 43 (0, 0)) := by rw [← hWB]; exact blk_set (blk_set (blk_set (blk_set hbWY 0 _) 1 _) 2 _) 3 _
        have hlWB : Below WA.heap.size WA WB := by rw [← hWB]; exact (((hlWY.setCell (p := ⟨WA.heap.size, 0, none⟩) (Nat.le_refl _) _).setCell (p := ⟨WA.heap.size, 1, none⟩) (Nat.le_refl _) _).setCell (p := ⟨WA.heap.size, 2, none⟩) (Nat.le_refl _) _).setCell (p := ⟨WA.heap.size, 3, none⟩) (Nat.le_refl _) _
        have hbC := blk_below hbWA hlWB
        have s0 := blk_cell hbC 0
        have s1 := blk_cell hbC 1
        have s2 := blk_cell hbC 2
        have s3 := blk_cell hbC 3
        have t0 := blk_cell hbWB 0
        have t1 := blk_cell hbWB 1
        have t2 := blk_cell hbWB 2
        have t3 := blk_cell hbWB 3
        simp only [List.getElem?_toArray, List.getElem?_cons_zero, List.getElem?_cons_succ] at s0 s1 s2 s3 t0 t1 t2 t3
        have hAB : Below wr.heap.size wr WB := below_then hlWA hlWA.size hlWB
        have HX : Hid _ := And.intro hlt (And.intro hxm (And.intro hl2 (And.intro (Kd.C_below hk2 hAB) (And.intro hl3 (Kd.C_below hk3 hAB)))))
        have HAB : Hid _ := below_then HB.out HB.out.size hAB
        clear hlt hx hxm hl2 hk2 hl3 hk3 hbWZ hlWZ hbWA hlWA hbWY hlWY hbWB hlWB hbC hAB
        go_wp2_with (first | (go_at_call 28; refine Calls.mono (HIH.out x.f2 (by have := kids_less HX.out.2.1; have := HN.out; omega) _ _ _ _ _ HX.out.2.2.2.1 HX.out.2.2.1 HX.out.2.2.2.2.2 HX.out.2.2.2.2.1) ?_; rintro e w5 ⟨rfl, hb5⟩; have HB5 : Hid _ := below_then HAB.out HAB.out.size hb5; clear hb5) | fail)
        exact ⟨⟨i + 1, HX.out.1, by simp, HB5.out⟩, by simp only [intOf]; have := HX.out.1; omega⟩
      · have hltb : decide ((i : Int) < (l.length : Int)) = false := decide_eq_false (by omega)
        have hge : (l.length : Int) ≤ (i : Int) := by omega
        clear hlt
        go_wp2
        go_ret
        exact ⟨rfl, HB.out⟩
end Go.Proofs.YtbgcapgjnflmoaaDoor.Sc
