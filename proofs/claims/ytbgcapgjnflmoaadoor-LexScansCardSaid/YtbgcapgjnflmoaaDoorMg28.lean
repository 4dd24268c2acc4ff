/- Contracts of the functions that the statement reaches, and plain lemmas: ScRw, ScRws, ScRf. -/
import Derived.Test.YtbgcapgjnflmoaaDoorMg24
import Derived.Test.YtbgcapgjnflmoaaDoorMg25
import Derived.Test.YtbgcapgjnflmoaaDoorMg26
import Derived.Test.YtbgcapgjnflmoaaDoorMg27
set_option linter.unusedVariables false
set_option linter.unusedSimpArgs false
set_option linter.unnecessarySimpa false
/- The document's word, all cases. -/
namespace Go.Proofs.YtbgcapgjnflmoaaDoor.Sc
open Go.RowKit Go.Proofs.YtbgcapgjnflmoaaDoorW.PrintWords Go.Proofs.YtbgcapgjnflmoaaDoorW.PrintMore Go.Proofs.YtbgcapgjnflmoaaDoor.PLx
variable {w0 w w1 : World} {line : ByteArray}
theorem wordR_ok {m : Nat} {A : Option Addr} {cA : Nat} {lits : List ByteArray} (IH : WordsIH line A cA lits m) (hC : Kd.string.C w A lits.length lits) (hcA : lits.length ≤ cA) (hll : lits.length ≤ 512) (hline : line.size ≤ 4096) (k lit ct depth : Nat)
    (hk : k < line.size) (hlit : lit ≤ lits.length) (hct : ct ≤ 512) (hdep : depth ≤ 12) (hm : line.size - (k + 1) < m) {c : UInt8} {r : List UInt8} (hcr : (bytesL line).drop k = c :: r) :
    Calls Tryd.prog 37 #[.agg (cu line (.slice A lits.length cA) k lit ct), .int .i64 (depth : Int)] w
      (RWd w line (.slice A lits.length cA) lits k (word (fun d e t ms q => words m d e false [] t ms q) depth ct (lits.drop lit) c r)) := by
  by_cases hst : starts c r = false
  · exact wordR_none IH hC hcA hll hline k lit ct depth hk hlit hct hdep hm hcr hst
  by_cases hg : gword c = true
  · exact wordR_atom IH hC hcA hll hline k lit ct depth hk hlit hct hdep hm hcr hg
  by_cases h34 : c = 34
  · exact wordR_quote IH hC hcA hll hline k lit ct depth hk hlit hct hdep hm hcr h34
  by_cases h40 : c = 40
  · exact wordR_paren IH hC hcA hll hline k lit ct depth hk hlit hct hdep hm hcr h40
  by_cases h91 : c = 91
  · exact wordR_bracket IH hC hcA hll hline k lit ct depth hk hlit hct hdep hm hcr h91
  refine wordR_lit IH hC hcA hll hline k lit ct depth hk hlit hct hdep hm hcr ?_
  unfold starts at hst
  cases ha : (ann (c :: r)).isSome with
  | true => rfl
  | false =>
    exfalso
    apply hst
    rw [ha, Bool.eq_false_iff.2 hg, beq_eq_false_iff_ne.2 h34, beq_eq_false_iff_ne.2 h40, beq_eq_false_iff_ne.2 h91]
    rfl
end Go.Proofs.YtbgcapgjnflmoaaDoor.Sc

/- The document's words, walked. -/
namespace Go.Proofs.YtbgcapgjnflmoaaDoor.Sc
open Go.RowKit Go.Proofs.YtbgcapgjnflmoaaDoorW.PrintWords Go.Proofs.YtbgcapgjnflmoaaDoorW.PrintMore Go.Proofs.YtbgcapgjnflmoaaDoor.PLx
variable {w0 w w1 : World} {line : ByteArray} {sl : Value} {b : Nat} {k lit ct : Int}
theorem ret_tct {fn : Func} {p u u' : Tmp} (h : fn.results = #[.tmp u, .cell p 50, .tmp u']) (tmps : Array Value) (w : World) (g : Nat) (cs : Array Value)
    (hp : tmps.getD p undef = .pointer (some ⟨g, 0, none⟩)) (hg : w.heap[g]? = some (.cells cs 50 (0, 0))) (hs : cs.size = 5) :
    (results fn tmps).run Tryd.prog w = .ok (.tuple #[tmps.getD u undef, .agg cs, tmps.getD u' undef]) w :=
  results_list (rs := [.tmp u, .cell p 50, .tmp u']) h (by simp) (.tmp (.cell g 50 cs (0, 0) _ hp hg Tryd.underlying50 rfl (by rw [hs]; kernel_rfl) (.tmp .nil)))
def put5 (wr : World) (g : Nat) (c0 c1 c2 c3 c4 : Value) : World :=
  ((((wr.setCell ⟨g, 0, none⟩ c0).setCell ⟨g, 1, none⟩ c1).setCell ⟨g, 2, none⟩ c2).setCell ⟨g, 3, none⟩ c3).setCell ⟨g, 4, none⟩ c4
theorem put5_far (wr : World) (g : Nat) (c0 c1 c2 c3 c4 : Value) {j : Nat} (h1 : j ≠ g) : (put5 wr g c0 c1 c2 c3 c4).heap[j]? = wr.heap[j]? := by
  unfold put5
  rw [Below.heap_setCell _ ⟨g, 4, none⟩ _ _ h1, Below.heap_setCell _ ⟨g, 3, none⟩ _ _ h1, Below.heap_setCell _ ⟨g, 2, none⟩ _ _ h1, Below.heap_setCell _ ⟨g, 1, none⟩ _ _ h1, Below.heap_setCell _ ⟨g, 0, none⟩ _ _ h1]
theorem put5_at {wr : World} {g : Nat} {l2 : ByteArray} {s2 : Value} {k2 lit2 ct2 : Int} (h : wr.heap[g]? = some (.cells (cu l2 s2 k2 lit2 ct2) 50 (0, 0))) (c0 c1 c2 c3 c4 : Value) : (put5 wr g c0 c1 c2 c3 c4).heap[g]? = some (.cells #[c0, c1, c2, c3, c4] 50 (0, 0)) :=
  blk_set (blk_set (blk_set (blk_set (blk_set h 0 c0) 1 c1) 2 c2) 3 c3) 4 c4
/-- The call's own cursor at b, behind it the result's. -/
structure Cw (w0 wr : World) (b : Nat) (line : ByteArray) (sl : Value) (k lit ct : Int) : Prop where
  bel : Below w0.heap.size w0 wr
  low : w0.heap.size ≤ b
  top : wr.heap[b]? = some (.cells (cu line sl k lit ct) 50 (0, 0))
  r1 : wr.heap[b + 1]? = some (.cells (cu ⟨#[]⟩ (.slice none 0 0) 0 0 0) 50 (0, 0))
theorem Cw.start (w : World) (line : ByteArray) (sl : Value) (k lit ct : Int) : Cw w ((w.alloc (Obj.cells (cu line sl k lit ct) 50)).alloc (Obj.cells (cu ⟨#[]⟩ (.slice none 0 0) 0 0 0) 50)) w.heap.size line sl k lit ct := by
  have e1 : (w.alloc (Obj.cells (cu line sl k lit ct) 50)).heap.size = w.heap.size + 1 := by simp
  refine ⟨below_alloc (below_alloc (Below.refl _ _) _) _, Nat.le_refl _, blk_alloc (blk_new w _) _, ?_⟩
  rw [← e1]; exact blk_new _ _
theorem Cw.below {wr w1 : World} (h : Cw w0 wr b line sl k lit ct) (hb : Below wr.heap.size wr w1) : Cw w0 w1 b line sl k lit ct :=
  ⟨below_then h.bel h.bel.size hb, h.low, blk_below h.top hb, blk_below h.r1 hb⟩
theorem Cw.setPos {wr : World} (h : Cw w0 wr b line sl k lit ct) (k' : Int) : Cw w0 (wr.setCell ⟨b, 2, none⟩ (.int .i64 k')) b line sl k' lit ct :=
  ⟨h.bel.setCell (p := ⟨b, 2, none⟩) h.low _, h.low, blk_set h.top 2 _, blk_far h.r1 (p := ⟨b, 2, none⟩) (by show b + 1 ≠ b; omega) _⟩
theorem Cw.setFar {wr : World} (h : Cw w0 wr b line sl k lit ct) {g : Nat} (hg : b + 1 < g) (i : Nat) (u : Value) : Cw w0 (wr.setCell ⟨g, i, none⟩ u) b line sl k lit ct :=
  ⟨h.bel.setCell (p := ⟨g, i, none⟩) (by have := h.low; show _ ≤ g; omega) _, h.low, blk_far h.top (p := ⟨g, i, none⟩) (by show b ≠ g; omega) _, blk_far h.r1 (p := ⟨g, i, none⟩) (by show b + 1 ≠ g; omega) _⟩
theorem Cw.far {wr w1 : World} {g : Option Nat} (h : Cw w0 wr b line sl k lit ct) (hb : Below w0.heap.size w0 w1) (hg : wr.grownBy w1 g) (h0 : g ≠ some b) (h1 : g ≠ some (b + 1)) : Cw w0 w1 b line sl k lit ct :=
  ⟨hb, h.low, (hg.block b (blk_lt h.top) (fun e => h0 e.symm)).trans h.top, (hg.block _ (blk_lt h.r1) (fun e => h1 e.symm)).trans h.r1⟩
theorem Cw.setAll {wr : World} (h : Cw w0 wr b line sl k lit ct) (k' l' c' : Int) : Cw w0 (put5 wr b (.string line) sl (.int .i64 k') (.int .i64 l') (.int .i64 c')) b line sl k' l' c' :=
  ⟨by unfold put5; exact ((((h.bel.setCell (p := ⟨b, 0, none⟩) h.low _).setCell (p := ⟨b, 1, none⟩) h.low _).setCell (p := ⟨b, 2, none⟩) h.low _).setCell (p := ⟨b, 3, none⟩) h.low _).setCell (p := ⟨b, 4, none⟩) h.low _, h.low,
    put5_at h.top _ _ _ _ _, (put5_far _ _ _ _ _ _ _ (show b + 1 ≠ b by omega)).trans h.r1⟩
theorem Cw.lt {wr : World} (h : Cw w0 wr b line sl k lit ct) : b + 1 < wr.heap.size := blk_lt h.r1
theorem Cw.cells {wr : World} (h : Cw w0 wr b line sl k lit ct) : wr.cell? ⟨b, 0, none⟩ = some (.string line) ∧ wr.cell? ⟨b, 1, none⟩ = some sl ∧ wr.cell? ⟨b, 2, none⟩ = some (.int .i64 k) ∧ wr.cell? ⟨b, 3, none⟩ = some (.int .i64 lit) ∧ wr.cell? ⟨b, 4, none⟩ = some (.int .i64 ct) ∧ ∀ i, wr.frozen? ⟨b, i, none⟩ = false :=
  ⟨blk_cell h.top 0, blk_cell h.top 1, blk_cell h.top 2, blk_cell h.top 3, blk_cell h.top 4, fun i => blk_frozen h.top i⟩
theorem Cw.res {wr : World} (h : Cw w0 wr b line sl k lit ct) : wr.cell? ⟨b + 1, 0, none⟩ = some (.string ⟨#[]⟩) ∧ wr.cell? ⟨b + 1, 1, none⟩ = some (.slice none 0 0) ∧ wr.cell? ⟨b + 1, 2, none⟩ = some (.int .i64 0) ∧ wr.cell? ⟨b + 1, 3, none⟩ = some (.int .i64 0) ∧ wr.cell? ⟨b + 1, 4, none⟩ = some (.int .i64 0) ∧ ∀ i, wr.frozen? ⟨b + 1, i, none⟩ = false :=
  ⟨blk_cell h.r1 0, blk_cell h.r1 1, blk_cell h.r1 2, blk_cell h.r1 3, blk_cell h.r1 4, fun i => blk_frozen h.r1 i⟩
theorem Cw.leave {wr : World} (h : Cw w0 wr b line sl k lit ct) (c0 c1 c2 c3 c4 : Value) : Below w0.heap.size w0 (put5 wr (b + 1) c0 c1 c2 c3 c4) ∧ (put5 wr (b + 1) c0 c1 c2 c3 c4).heap[b + 1]? = some (.cells #[c0, c1, c2, c3, c4] 50 (0, 0)) := by
  have l1 : w0.heap.size ≤ b + 1 := by have := h.low; omega
  exact ⟨by unfold put5; exact ((((h.bel.setCell (p := ⟨b + 1, 0, none⟩) l1 _).setCell (p := ⟨b + 1, 1, none⟩) l1 _).setCell (p := ⟨b + 1, 2, none⟩) l1 _).setCell (p := ⟨b + 1, 3, none⟩) l1 _).setCell (p := ⟨b + 1, 4, none⟩) l1 _, put5_at h.r1 _ _ _ _ _⟩
theorem RWs.err {w' : World} {k0 : Nat} {lits : List ByteArray} {x : Int} (hx : x ≠ 0) (h : Below w0.heap.size w0 w') (A2 : Option Addr) (n2 c2 : Nat) (k lit ct : Int) :
    RWs w0 line sl lits k0 (.error x) (.returned (.tuple #[.slice A2 n2 c2, .agg #[.string line, sl, .int .i64 k, .int .i64 lit, .int .i64 ct], .int .i64 x])) w' := ⟨h, hx, A2, n2, c2, k, lit, ct, rfl⟩
theorem RWs.fine {w' : World} {k0 : Nat} {lits : List ByteArray} {l : List Wd} {v : Value} {lit k ct : Nat} {ls : List ByteArray} {q : List UInt8} {kz lz cz : Int} (h : Below w0.heap.size w0 w')
    (hR : k43.R 43 w' w0.heap.size (fun _ => True) v l) (h1 : ls = lits.drop lit) (h2 : lit ≤ lits.length) (h3 : k0 ≤ k) (h4 : k ≤ line.size) (h5 : q = (bytesL line).drop k) (h6 : ct ≤ 512)
    (ek : kz = (k : Int)) (el : lz = (lit : Int)) (ec : cz = (ct : Int)) :
    RWs w0 line sl lits k0 (.ok (l, ct, ls, q)) (.returned (.tuple #[v, .agg #[.string line, sl, .int .i64 kz, .int .i64 lz, .int .i64 cz], .int .i64 0])) w' := by
  subst ek el ec
  exact ⟨h, v, lit, k, rfl, hR, h1, h2, h3, h4, h5, h6⟩
/-- What is kept over what is written at g alone, g of another type. -/
theorem R43_keep {wr w' : World} {base g : Nat} {v : Value} {l : List Wd} {cs : Array Value} (hR : k43.R 43 wr base (fun _ => True) v l) (hg : wr.heap[g]? = some (.cells cs 50 (0, 0))) (hF : ∀ j, j ≠ g → w'.heap[j]? = wr.heap[j]?) : k43.R 43 w' base (fun _ => True) v l :=
  Kd.R_mono (Kd.R_step (Kd.R_bound hR) (fun j hj _ => hF j (by
    rintro rfl
    obtain ⟨_, _, _, q, hq, c, hc⟩ := hj
    rw [hg] at hc
    simp only [Option.some.injEq, Obj.cells.injEq] at hc
    rw [← hc.2.1] at hq
    exact absurd hq (by decide)))) (fun _ _ => trivial)
/-- Within the words, at kk. -/
structure RI (w0 wr : World) (line : ByteArray) (sl : Value) (lits : List ByteArray) (depth : Nat) (en : UInt8) (m k : Nat) (R : Except Int (List Wd × Rs)) (v : Value) (blank : Bool) (acc : List Wd) (kk lt c2 mm : Nat) : Prop where
  cw : Cw w0 wr w0.heap.size line sl kk lt c2
  row : k43.R 43 wr w0.heap.size (fun _ => True) v acc
  fuel : line.size - kk < mm
  most : mm ≤ m
  pos : kk ≤ line.size
  from_ : k ≤ kk
  lit : lt ≤ lits.length
  cnt : c2 ≤ 512
  len : acc.length ≤ kk
  res : words mm depth en blank acc c2 (lits.drop lt) ((bytesL line).drop kk) = R
theorem shuts_of (r : List UInt8) : shuts r = true ↔ ∃ d t, r = d :: t ∧ (d = 41 ∨ d = 93) := by
  cases r with
  | nil => simp [shuts]
  | cons d t => simp [shuts]
theorem words_end {mm depth : Nat} {en : UInt8} {blank : Bool} {acc : List Wd} {ct : Nat} {ls : List ByteArray} : words (mm + 1) depth en blank acc ct ls [] = if depth = 0 then (if blank then .error 30 else .ok (acc, ct, ls, [])) else .error 33 := by unfold words; rfl
theorem words_on {mm depth : Nat} {en : UInt8} {blank : Bool} {acc : List Wd} {ct : Nat} {ls : List ByteArray} {c : UInt8} {r : List UInt8} : words (mm + 1) depth en blank acc ct ls (c :: r) =
    if c = 32 then (if blank || acc.isEmpty || shuts r then .error 30 else words mm depth en true acc ct ls r)
    else if c = 41 ∨ c = 93 then (if depth = 0 ∨ c ≠ en then .error 33 else .ok (acc, ct, ls, r))
    else match word (fun d e t m q => words mm d e false [] t m q) depth ct ls c r with
      | .error e => .error e
      | .ok (w, t, m, q) => words mm depth en false (acc ++ [glue w (!acc.isEmpty && !blank)]) t m q := by
  conv => lhs; unfold words
  rfl
set_option maxRecDepth 100000 in
set_option maxHeartbeats 8000000 in
theorem words_step {A : Option Addr} {cA : Nat} {lits : List ByteArray} (hcA : lits.length ≤ cA) (hll : lits.length ≤ 512) (hline : line.size ≤ 4096) (m : Nat) (IH : ∀ m', m' < m → WordsIH line A cA lits m') : WordsIH line A cA lits m := by
  intro w k lit ct depth en hC hk hm hlit hct hdep
  obtain ⟨R, hR⟩ : ∃ R, words m depth en false [] ct (lits.drop lit) ((bytesL line).drop k) = R := ⟨_, rfl⟩
  rw [hR]
  have hi : RI w _ line (.slice A lits.length cA) lits depth en m k R (.slice none 0 0) false [] k lit ct m := ⟨Cw.start w line (.slice A lits.length cA) k lit ct, Kd.R_nil _ _ _ _ _, hm, Nat.le_refl _, hk, Nat.le_refl _, hlit, hct, Nat.zero_le _, hR⟩
  have HI : Hid _ := hi
  have HC : Hid _ := And.intro hC (And.intro hcA (And.intro hll (And.intro hline hdep)))
  have HIH : Hid _ := IH
  have hdep9 : (depth : Int) ≤ 12 := by omega
  have hdep0 : (0 : Int) ≤ (depth : Int) := by omega
  have hll9 : (lits.length : Int) ≤ 512 := by omega
  obtain ⟨ei, hei⟩ : ∃ ei : Int, (en.toNat : Int) = ei := ⟨_, rfl⟩
  rw [hei]
  have HEI : Hid _ := hei
  have hen0 : (0 : Int) ≤ ei := by omega
  have hen1 : ei < 256 := by have := en.toNat_lt; omega
  clear hR hi hC hcA hll hline IH hk hm hlit hct hdep hei
  go_enter Tryd.func23, Tryd.ntmps23
  go_wp2
  go_loopw [9, 10] (fun v9 v10 wr => ∃ (blank : Bool) (acc : List Wd) (kk lt c2 mm : Nat), v10 = .bool blank ∧ Hid (RI w wr line (.slice A lits.length cA) lits depth en m k R v9 blank acc kk lt c2 mm)) (fun _ _ wr => line.size - posAt wr w.heap.size)
  case atStart => exact ⟨false, [], k, lit, ct, m, rfl, HI.out⟩
  case round =>
    obtain ⟨blank, acc, kk, lt, c2, mm, rfl, HH⟩ := hrel
    obtain ⟨A9, c9, hv9⟩ := Kd.R_slice HH.out.row
    subst hv9
    obtain ⟨d0, d1, d2, d3, d4, dz⟩ := HH.out.cw.cells
    obtain ⟨e0, e1, e2, e3, e4, ez⟩ := HH.out.cw.res
    have hline := HC.out.2.2.2.1
    have hkl : (kk : Int) ≤ 4096 := by have := HH.out.pos; omega
    have hk0 : (0 : Int) ≤ (kk : Int) := by omega
    have hc0 : (0 : Int) ≤ (c2 : Int) := by omega
    have hc5 : (c2 : Int) ≤ 512 := by have := HH.out.cnt; omega
    have hal : (acc.length : Int) ≤ 4096 := by have := HH.out.len; omega
    have hal0 : (0 : Int) ≤ (acc.length : Int) := by omega
    have ep0 : posAt wr w.heap.size = kk := by unfold posAt; rw [d2]; rfl
    have EP0 : Hid _ := ep0
    obtain ⟨mp, hmp⟩ : ∃ mp, mm = mp + 1 := ⟨mm - 1, by have := HH.out.fuel; omega⟩
    subst hmp
    clear hline ep0
    by_cases hlt : kk < line.size
    · have hltb : decide ((kk : Int) < (line.size : Int)) = true := decide_eq_true (by omega)
      have hlti : (kk : Int) < (line.size : Int) := by omega
      obtain ⟨c, hc⟩ : ∃ c, line[kk] = c := ⟨_, rfl⟩
      obtain ⟨ci, hci⟩ : ∃ ci : Int, (c.toNat : Int) = ci := ⟨_, rfl⟩
      have hix : ∀ h : kk < line.size, ((line[kk]'h).toNat : Int) = ci := fun h => by rw [hc]; exact hci
      have hcr0 : (0 : Int) ≤ ci := by omega
      have hcr1 : ci < 256 := by have := c.toNat_lt; omega
      have hdk := drop_at line kk hlt
      rw [hc] at hdk
      have hstep := HH.out.res
      rw [hdk, words_on] at hstep
      have HS : Hid _ := hstep
      have HDK : Hid _ := hdk
      have HCI : Hid _ := hci
      have HLT : Hid _ := hlt
      clear hc hci hdk hstep
      by_cases e32 : ci = 32
      · have b32 : (ci == 32) = true := beq_iff_eq.2 e32
        have hc32 : c = 32 := u8_of HCI.out 32 (by decide) e32
        have hS := HS.out
        rw [if_pos hc32] at hS
        have HS2 : Hid _ := hS
        clear e32 hS hc32
        obtain ⟨W1, hW1⟩ : ∃ W1, wr.setCell ⟨w.heap.size, 2, none⟩ (.int .i64 ((kk : Int) + 1)) = W1 := ⟨_, rfl⟩
        have hcw1 : Cw w W1 w.heap.size line (.slice A lits.length cA) ((kk + 1 : Nat) : Int) lt c2 := by rw [← hW1, show (kk : Int) + 1 = ((kk + 1 : Nat) : Int) by omega]; exact HH.out.cw.setPos _
        have hF1 : ∀ j, j ≠ w.heap.size → W1.heap[j]? = wr.heap[j]? := fun j hj => by rw [← hW1]; exact Below.heap_setCell _ ⟨w.heap.size, 2, none⟩ _ _ hj
        have HCW1 : Hid _ := And.intro hcw1 (R43_keep HH.out.row HH.out.cw.top hF1)
        clear hcw1 hF1
        cases blank with
        | true =>
          have hres : R = .error 30 := HS2.out.symm.trans (if_pos rfl)
          have HRES : Hid _ := hres
          clear hres
          by_cases hnx : kk + 1 < line.size
          · have hnb : decide ((kk : Int) + 1 < (line.size : Int)) = true := decide_eq_true (by omega)
            have hni : (kk : Int) + 1 < (line.size : Int) := by omega
            have hix2 : ∀ h : kk + 1 < line.size, ((line[kk + 1]'h).toNat : Int) = ((line[kk + 1]'h).toNat : Int) := fun h => rfl
            go_wp2
            go_region_with (fail)
            all_goals go_wp2
            all_goals (have hL := (HH.out.cw).leave (.string line) (.slice A lits.length cA) (.int .i64 kk) (.int .i64 lt) (.int .i64 c2))
            all_goals (obtain ⟨W9, hW9⟩ : ∃ W9, put5 (wr) (w.heap.size + 1) (.string line) (.slice A lits.length cA) (.int .i64 kk) (.int .i64 lt) (.int .i64 c2) = W9 := ⟨_, rfl⟩)
            all_goals (rw [hW9] at hL; unfold put5 at hW9; rw [hW9]; clear hW9)
            all_goals (refine bodyPost_ret (ret_tct rfl _ _ (w.heap.size + 1) _ rfl hL.2 rfl) rfl ?_)
            all_goals (rw [HRES.out]; exact RWs.err (by decide) (by first | exact below_drew hL.1 | exact hL.1) _ _ _ _ _ _)
          · have hnb : decide ((kk : Int) + 1 < (line.size : Int)) = false := decide_eq_false (by omega)
            have hni : (line.size : Int) ≤ (kk : Int) + 1 := by omega
            go_wp2
            go_region_with (fail)
            all_goals go_wp2
            all_goals (have hL := (HH.out.cw).leave (.string line) (.slice A lits.length cA) (.int .i64 kk) (.int .i64 lt) (.int .i64 c2))
            all_goals (obtain ⟨W9, hW9⟩ : ∃ W9, put5 (wr) (w.heap.size + 1) (.string line) (.slice A lits.length cA) (.int .i64 kk) (.int .i64 lt) (.int .i64 c2) = W9 := ⟨_, rfl⟩)
            all_goals (rw [hW9] at hL; unfold put5 at hW9; rw [hW9]; clear hW9)
            all_goals (refine bodyPost_ret (ret_tct rfl _ _ (w.heap.size + 1) _ rfl hL.2 rfl) rfl ?_)
            all_goals (rw [HRES.out]; exact RWs.err (by decide) (by first | exact below_drew hL.1 | exact hL.1) _ _ _ _ _ _)
        | false =>
          by_cases hemp : acc.length = 0
          · have hresE : acc.isEmpty = true := by rw [List.isEmpty_iff_length_eq_zero]; exact hemp
            have hres : R = .error 30 := HS2.out.symm.trans (if_pos (by rw [hresE]; rfl))
            have HRES : Hid _ := hres
            have hemb : ((acc.length : Int) == 0) = true := beq_iff_eq.2 (by omega)
            clear hres hresE
            by_cases hnx : kk + 1 < line.size
            · have hnb : decide ((kk : Int) + 1 < (line.size : Int)) = true := decide_eq_true (by omega)
              have hni : (kk : Int) + 1 < (line.size : Int) := by omega
              have hix2 : ∀ h : kk + 1 < line.size, ((line[kk + 1]'h).toNat : Int) = ((line[kk + 1]'h).toNat : Int) := fun h => rfl
              go_wp2
              go_region_with (fail)
              all_goals go_wp2
              all_goals (have hL := (HH.out.cw).leave (.string line) (.slice A lits.length cA) (.int .i64 kk) (.int .i64 lt) (.int .i64 c2))
              all_goals (obtain ⟨W9, hW9⟩ : ∃ W9, put5 (wr) (w.heap.size + 1) (.string line) (.slice A lits.length cA) (.int .i64 kk) (.int .i64 lt) (.int .i64 c2) = W9 := ⟨_, rfl⟩)
              all_goals (rw [hW9] at hL; unfold put5 at hW9; rw [hW9]; clear hW9)
              all_goals (refine bodyPost_ret (ret_tct rfl _ _ (w.heap.size + 1) _ rfl hL.2 rfl) rfl ?_)
              all_goals (rw [HRES.out]; exact RWs.err (by decide) (by first | exact below_drew hL.1 | exact hL.1) _ _ _ _ _ _)
            · have hnb : decide ((kk : Int) + 1 < (line.size : Int)) = false := decide_eq_false (by omega)
              have hni : (line.size : Int) ≤ (kk : Int) + 1 := by omega
              go_wp2
              go_region_with (fail)
              all_goals go_wp2
              all_goals (have hL := (HH.out.cw).leave (.string line) (.slice A lits.length cA) (.int .i64 kk) (.int .i64 lt) (.int .i64 c2))
              all_goals (obtain ⟨W9, hW9⟩ : ∃ W9, put5 (wr) (w.heap.size + 1) (.string line) (.slice A lits.length cA) (.int .i64 kk) (.int .i64 lt) (.int .i64 c2) = W9 := ⟨_, rfl⟩)
              all_goals (rw [hW9] at hL; unfold put5 at hW9; rw [hW9]; clear hW9)
              all_goals (refine bodyPost_ret (ret_tct rfl _ _ (w.heap.size + 1) _ rfl hL.2 rfl) rfl ?_)
              all_goals (rw [HRES.out]; exact RWs.err (by decide) (by first | exact below_drew hL.1 | exact hL.1) _ _ _ _ _ _)
          · have hresE : acc.isEmpty = false := by rw [Bool.eq_false_iff, Ne, List.isEmpty_iff_length_eq_zero]; exact hemp
            have hemb : ((acc.length : Int) == 0) = false := beq_eq_false_iff_ne.2 (by omega)
            have hS := HS2.out
            rw [hresE] at hS
            have HS3 : Hid _ := hS
            clear hS hresE HS2
            by_cases hnx : kk + 1 < line.size
            · have hnb : decide ((kk : Int) + 1 < (line.size : Int)) = true := decide_eq_true (by omega)
              have hni : (kk : Int) + 1 < (line.size : Int) := by omega
              obtain ⟨d, hd⟩ : ∃ d, line[kk + 1] = d := ⟨_, rfl⟩
              obtain ⟨di, hdi⟩ : ∃ di : Int, (d.toNat : Int) = di := ⟨_, rfl⟩
              have hix2 : ∀ h : kk + 1 < line.size, ((line[kk + 1]'h).toNat : Int) = di := fun h => by rw [hd]; exact hdi
              have hdr0 : (0 : Int) ≤ di := by omega
              have hdr1 : di < 256 := by have := d.toNat_lt; omega
              have hdk2 := drop_at line (kk + 1) hnx
              rw [hd] at hdk2
              have hS := HS3.out
              have HDK2 : Hid _ := hdk2
              have HDI : Hid _ := hdi
              have HNX : Hid _ := hnx
              clear hd hdi hdk2
              by_cases e41 : di = 41
              · have b41 : (di == 41) = true := beq_iff_eq.2 e41
                have hres : R = .error 30 := hS.symm.trans (if_pos (by rw [HDK2.out, u8_of HDI.out 41 (by decide) e41]; rfl))
                have HRES : Hid _ := hres
                clear hres hS e41
                go_wp2
                go_region_with (fail)
                all_goals go_wp2
                all_goals (have hL := (HH.out.cw).leave (.string line) (.slice A lits.length cA) (.int .i64 kk) (.int .i64 lt) (.int .i64 c2))
                all_goals (obtain ⟨W9, hW9⟩ : ∃ W9, put5 (wr) (w.heap.size + 1) (.string line) (.slice A lits.length cA) (.int .i64 kk) (.int .i64 lt) (.int .i64 c2) = W9 := ⟨_, rfl⟩)
                all_goals (rw [hW9] at hL; unfold put5 at hW9; rw [hW9]; clear hW9)
                all_goals (refine bodyPost_ret (ret_tct rfl _ _ (w.heap.size + 1) _ rfl hL.2 rfl) rfl ?_)
                all_goals (rw [HRES.out]; exact RWs.err (by decide) (by first | exact below_drew hL.1 | exact hL.1) _ _ _ _ _ _)
              · have b41 : (di == 41) = false := beq_eq_false_iff_ne.2 e41
                by_cases e93 : di = 93
                · have b93 : (di == 93) = true := beq_iff_eq.2 e93
                  have hres : R = .error 30 := hS.symm.trans (if_pos (by rw [HDK2.out, u8_of HDI.out 93 (by decide) e93]; rfl))
                  have HRES : Hid _ := hres
                  clear hres hS e41 e93
                  go_wp2
                  go_region_with (fail)
                  all_goals go_wp2
                  all_goals (have hL := (HH.out.cw).leave (.string line) (.slice A lits.length cA) (.int .i64 kk) (.int .i64 lt) (.int .i64 c2))
                  all_goals (obtain ⟨W9, hW9⟩ : ∃ W9, put5 (wr) (w.heap.size + 1) (.string line) (.slice A lits.length cA) (.int .i64 kk) (.int .i64 lt) (.int .i64 c2) = W9 := ⟨_, rfl⟩)
                  all_goals (rw [hW9] at hL; unfold put5 at hW9; rw [hW9]; clear hW9)
                  all_goals (refine bodyPost_ret (ret_tct rfl _ _ (w.heap.size + 1) _ rfl hL.2 rfl) rfl ?_)
                  all_goals (rw [HRES.out]; exact RWs.err (by decide) (by first | exact below_drew hL.1 | exact hL.1) _ _ _ _ _ _)
                · have b93 : (di == 93) = false := beq_eq_false_iff_ne.2 e93
                  have hsh : shuts ((bytesL line).drop (kk + 1)) = false := by
                    rw [HDK2.out]
                    show (d == 41 || d == 93) = false
                    rw [beq_eq_false_iff_ne.2 (show d ≠ 41 from u8_ne HDI.out 41 (by decide) e41), beq_eq_false_iff_ne.2 (show d ≠ 93 from u8_ne HDI.out 93 (by decide) e93)]; rfl
                  have hres : words mp depth en true acc c2 (lits.drop lt) ((bytesL line).drop (kk + 1)) = R := by
                    rw [← hS, hsh]; rfl
                  have HRES : Hid _ := hres
                  clear hres hS e41 e93 hsh
                  go_wp2
                  have hcw := HCW1.out.1
                  have ep : posAt W1 w.heap.size = kk + 1 := by unfold posAt; rw [hcw.cells.2.2.1]; rfl
                  exact ⟨⟨true, acc, kk + 1, lt, c2, mp, rfl, ⟨hcw, HCW1.out.2, by have := HH.out.fuel; have := HLT.out; omega, by have := HH.out.most; omega, HLT.out, by have := HH.out.from_; omega, HH.out.lit, HH.out.cnt, by have := HH.out.len; omega, HRES.out⟩⟩, by rw [ep, EP0.out]; have := HLT.out; omega⟩
            · have hnb : decide ((kk : Int) + 1 < (line.size : Int)) = false := decide_eq_false (by omega)
              have hni : (line.size : Int) ≤ (kk : Int) + 1 := by omega
              have hres : words mp depth en true acc c2 (lits.drop lt) ((bytesL line).drop (kk + 1)) = R := by
                rw [← HS3.out, show shuts ((bytesL line).drop (kk + 1)) = false by rw [drop_end line (kk + 1) (by omega)]; rfl]; rfl
              have HRES : Hid _ := hres
              clear hres
              go_wp2
              have hcw := HCW1.out.1
              have ep : posAt W1 w.heap.size = kk + 1 := by unfold posAt; rw [hcw.cells.2.2.1]; rfl
              exact ⟨⟨true, acc, kk + 1, lt, c2, mp, rfl, ⟨hcw, HCW1.out.2, by have := HH.out.fuel; have := HLT.out; omega, by have := HH.out.most; omega, HLT.out, by have := HH.out.from_; omega, HH.out.lit, HH.out.cnt, by have := HH.out.len; omega, HRES.out⟩⟩, by rw [ep, EP0.out]; have := HLT.out; omega⟩
      · have b32 : (ci == 32) = false := beq_eq_false_iff_ne.2 e32
        have hS := HS.out
        rw [if_neg (show c ≠ 32 from u8_ne HCI.out 32 (by decide) e32)] at hS
        have HS2 : Hid _ := hS
        clear e32 hS
        by_cases hsh : ci = 41 ∨ ci = 93
        · have hshc : c = 41 ∨ c = 93 := hsh.elim (fun e => .inl (u8_of HCI.out 41 (by decide) e)) (fun e => .inr (u8_of HCI.out 93 (by decide) e))
          have hS := HS2.out
          rw [if_pos hshc] at hS
          have HS3 : Hid _ := hS
          clear hS hshc
          by_cases hbad : depth = 0 ∨ c ≠ en
          · have hres : R = .error 33 := HS3.out.symm.trans (if_pos hbad)
            have HRES : Hid _ := hres
            clear hres
            have hdd : depth = 0 ∨ (¬ depth = 0 ∧ ci ≠ ei) := by
              by_cases h0 : depth = 0
              · exact .inl h0
              · refine .inr ⟨h0, fun e => ?_⟩
                rcases hbad with h | h
                · exact h0 h
                · exact h (UInt8.toNat_inj.1 (by have h1 := HCI.out; have h2 := HEI.out; omega))
            have HDD : Hid _ := hdd
            clear hbad hdd
            rcases hsh with h41 | h93
            · have b41 : (ci == 41) = true := beq_iff_eq.2 h41
              rcases HDD.out with h0 | ⟨h0, hne⟩
              · have hd0 : ((depth : Int) == 0) = true := beq_iff_eq.2 (by omega)
                clear h41 h0
                go_wp2
                go_region_with (fail)
                all_goals go_wp2
                all_goals (have hL := (HH.out.cw).leave (.string line) (.slice A lits.length cA) (.int .i64 kk) (.int .i64 lt) (.int .i64 c2))
                all_goals (obtain ⟨W9, hW9⟩ : ∃ W9, put5 (wr) (w.heap.size + 1) (.string line) (.slice A lits.length cA) (.int .i64 kk) (.int .i64 lt) (.int .i64 c2) = W9 := ⟨_, rfl⟩)
                all_goals (rw [hW9] at hL; unfold put5 at hW9; rw [hW9]; clear hW9)
                all_goals (refine bodyPost_ret (ret_tct rfl _ _ (w.heap.size + 1) _ rfl hL.2 rfl) rfl ?_)
                all_goals (rw [HRES.out]; exact RWs.err (by decide) (by first | exact below_drew hL.1 | exact hL.1) _ _ _ _ _ _)
              · have hd0 : ((depth : Int) == 0) = false := beq_eq_false_iff_ne.2 (by omega)
                have hne9 : (ci != ei) = true := bne_iff_ne.2 hne
                clear h41 h0 hne
                go_wp2
                go_region_with (fail)
                all_goals go_wp2
                all_goals (have hL := (HH.out.cw).leave (.string line) (.slice A lits.length cA) (.int .i64 kk) (.int .i64 lt) (.int .i64 c2))
                all_goals (obtain ⟨W9, hW9⟩ : ∃ W9, put5 (wr) (w.heap.size + 1) (.string line) (.slice A lits.length cA) (.int .i64 kk) (.int .i64 lt) (.int .i64 c2) = W9 := ⟨_, rfl⟩)
                all_goals (rw [hW9] at hL; unfold put5 at hW9; rw [hW9]; clear hW9)
                all_goals (refine bodyPost_ret (ret_tct rfl _ _ (w.heap.size + 1) _ rfl hL.2 rfl) rfl ?_)
                all_goals (rw [HRES.out]; exact RWs.err (by decide) (by first | exact below_drew hL.1 | exact hL.1) _ _ _ _ _ _)
            · have b41 : (ci == 41) = false := beq_eq_false_iff_ne.2 (by omega)
              have b93 : (ci == 93) = true := beq_iff_eq.2 h93
              rcases HDD.out with h0 | ⟨h0, hne⟩
              · have hd0 : ((depth : Int) == 0) = true := beq_iff_eq.2 (by omega)
                clear h93 h0
                go_wp2
                go_region_with (fail)
                all_goals go_wp2
                all_goals (have hL := (HH.out.cw).leave (.string line) (.slice A lits.length cA) (.int .i64 kk) (.int .i64 lt) (.int .i64 c2))
                all_goals (obtain ⟨W9, hW9⟩ : ∃ W9, put5 (wr) (w.heap.size + 1) (.string line) (.slice A lits.length cA) (.int .i64 kk) (.int .i64 lt) (.int .i64 c2) = W9 := ⟨_, rfl⟩)
                all_goals (rw [hW9] at hL; unfold put5 at hW9; rw [hW9]; clear hW9)
                all_goals (refine bodyPost_ret (ret_tct rfl _ _ (w.heap.size + 1) _ rfl hL.2 rfl) rfl ?_)
                all_goals (rw [HRES.out]; exact RWs.err (by decide) (by first | exact below_drew hL.1 | exact hL.1) _ _ _ _ _ _)
              · have hd0 : ((depth : Int) == 0) = false := beq_eq_false_iff_ne.2 (by omega)
                have hne9 : (ci != ei) = true := bne_iff_ne.2 hne
                clear h93 h0 hne
                go_wp2
                go_region_with (fail)
                all_goals go_wp2
                all_goals (have hL := (HH.out.cw).leave (.string line) (.slice A lits.length cA) (.int .i64 kk) (.int .i64 lt) (.int .i64 c2))
                all_goals (obtain ⟨W9, hW9⟩ : ∃ W9, put5 (wr) (w.heap.size + 1) (.string line) (.slice A lits.length cA) (.int .i64 kk) (.int .i64 lt) (.int .i64 c2) = W9 := ⟨_, rfl⟩)
                all_goals (rw [hW9] at hL; unfold put5 at hW9; rw [hW9]; clear hW9)
                all_goals (refine bodyPost_ret (ret_tct rfl _ _ (w.heap.size + 1) _ rfl hL.2 rfl) rfl ?_)
                all_goals (rw [HRES.out]; exact RWs.err (by decide) (by first | exact below_drew hL.1 | exact hL.1) _ _ _ _ _ _)
          · have hres : R = .ok (acc, c2, lits.drop lt, (bytesL line).drop (kk + 1)) := HS3.out.symm.trans (if_neg hbad)
            have HRES : Hid _ := hres
            have hd0 : ((depth : Int) == 0) = false := beq_eq_false_iff_ne.2 (fun e => hbad (.inl (by omega)))
            have hce : c = en := Decidable.byContradiction (fun h => hbad (.inr h))
            have hne9 : (ci != ei) = false := by
              have : ci = ei := by rw [← HCI.out, ← HEI.out, hce]
              rw [this]; simp
            obtain ⟨W1, hW1⟩ : ∃ W1, wr.setCell ⟨w.heap.size, 2, none⟩ (.int .i64 ((kk : Int) + 1)) = W1 := ⟨_, rfl⟩
            have hcw1 : Cw w W1 w.heap.size line (.slice A lits.length cA) ((kk : Int) + 1) lt c2 := by rw [← hW1]; exact HH.out.cw.setPos _
            have hF1 : ∀ j, j ≠ w.heap.size → W1.heap[j]? = wr.heap[j]? := fun j hj => by rw [← hW1]; exact Below.heap_setCell _ ⟨w.heap.size, 2, none⟩ _ _ hj
            have HCW1 : Hid _ := And.intro hcw1 (R43_keep HH.out.row HH.out.cw.top hF1)
            obtain ⟨s0, s1, s2, s3, s4, sz⟩ := hcw1.cells
            obtain ⟨t0, t1, t2, t3, t4, tz⟩ := hcw1.res
            clear hbad hres hce hcw1 hF1
            have h41b : (ci == 41) = true ∨ ((ci == 41) = false ∧ (ci == 93) = true) := by
              rcases hsh with h | h
              · exact .inl (beq_iff_eq.2 h)
              · exact .inr ⟨beq_eq_false_iff_ne.2 (by omega), beq_iff_eq.2 h⟩
            clear hsh
            rcases h41b with b41 | ⟨b41, b93⟩
            · skip
              go_wp2
              go_region_with (fail)
              all_goals go_wp2
              all_goals (have hL := (HCW1.out.1).leave (.string line) (.slice A lits.length cA) (.int .i64 ((kk : Int) + 1)) (.int .i64 lt) (.int .i64 c2))
              all_goals (obtain ⟨W9, hW9⟩ : ∃ W9, put5 (W1) (w.heap.size + 1) (.string line) (.slice A lits.length cA) (.int .i64 ((kk : Int) + 1)) (.int .i64 lt) (.int .i64 c2) = W9 := ⟨_, rfl⟩)
              all_goals (have hF := fun j h1 => put5_far (W1) (w.heap.size + 1) (.string line) (.slice A lits.length cA) (.int .i64 ((kk : Int) + 1)) (.int .i64 lt) (.int .i64 c2) (j := j) h1)
              all_goals rw [hW9] at hF
              all_goals (rw [hW9] at hL; unfold put5 at hW9; rw [hW9]; clear hW9)
              all_goals (refine bodyPost_ret (ret_tct rfl _ _ (w.heap.size + 1) _ rfl hL.2 rfl) rfl ?_)
              all_goals rw [HRES.out]
              all_goals (have hRR := R43_keep HCW1.out.2 HCW1.out.1.r1 hF)
              all_goals exact RWs.fine (by first | exact below_drew hL.1 | exact hL.1) (by first | exact Kd.R_below hRR (below_drew (Below.refl _ _)) | exact hRR) rfl HH.out.lit (by have := HH.out.from_; omega) (by have := HLT.out; omega) rfl HH.out.cnt (by omega) rfl rfl
            · skip
              go_wp2
              go_region_with (fail)
              all_goals go_wp2
              all_goals (have hL := (HCW1.out.1).leave (.string line) (.slice A lits.length cA) (.int .i64 ((kk : Int) + 1)) (.int .i64 lt) (.int .i64 c2))
              all_goals (obtain ⟨W9, hW9⟩ : ∃ W9, put5 (W1) (w.heap.size + 1) (.string line) (.slice A lits.length cA) (.int .i64 ((kk : Int) + 1)) (.int .i64 lt) (.int .i64 c2) = W9 := ⟨_, rfl⟩)
              all_goals (have hF := fun j h1 => put5_far (W1) (w.heap.size + 1) (.string line) (.slice A lits.length cA) (.int .i64 ((kk : Int) + 1)) (.int .i64 lt) (.int .i64 c2) (j := j) h1)
              all_goals rw [hW9] at hF
              all_goals (rw [hW9] at hL; unfold put5 at hW9; rw [hW9]; clear hW9)
              all_goals (refine bodyPost_ret (ret_tct rfl _ _ (w.heap.size + 1) _ rfl hL.2 rfl) rfl ?_)
              all_goals rw [HRES.out]
              all_goals (have hRR := R43_keep HCW1.out.2 HCW1.out.1.r1 hF)
              all_goals exact RWs.fine (by first | exact below_drew hL.1 | exact hL.1) (by first | exact Kd.R_below hRR (below_drew (Below.refl _ _)) | exact hRR) rfl HH.out.lit (by have := HH.out.from_; omega) (by have := HLT.out; omega) rfl HH.out.cnt (by omega) rfl rfl
        · have b41 : (ci == 41) = false := beq_eq_false_iff_ne.2 (fun e => hsh (.inl e))
          have b93 : (ci == 93) = false := beq_eq_false_iff_ne.2 (fun e => hsh (.inr e))
          have hS := HS2.out
          rw [if_neg (fun h => hsh (h.elim (fun e => .inl (by rw [← HCI.out, e]; rfl)) (fun e => .inr (by rw [← HCI.out, e]; rfl))))] at hS
          clear hsh
          have hw := wordR_ok (w := wr) (m := mp) (HIH.out mp (by have := HH.out.most; omega)) (Kd.C_below HC.out.1 HH.out.cw.bel) HC.out.2.1 HC.out.2.2.1 HC.out.2.2.2.1 kk lt c2 depth HLT.out HH.out.lit HH.out.cnt HC.out.2.2.2.2 (by have := HH.out.fuel; have := HLT.out; omega) HDK.out
          unfold cu at hw
          cases hWd : word (fun d e t ms q => words mp d e false [] t ms q) depth c2 (lits.drop lt) c ((bytesL line).drop (kk + 1)) with
          | error x =>
            rw [hWd] at hw hS
            have HW : Hid _ := hw
            have hres : R = .error x := hS.symm
            have HRES : Hid _ := hres
            clear hw hS hres hWd
            go_wp2_with (first
              | (go_at_call 37; refine Calls.mono HW.out ?_; rintro e w6 ⟨hb6, hx6, i6, s6, A6, n6, c6, k6, l6, t6, he6⟩
                 unfold cu at he6
                 subst he6
                 have HX9 : Hid _ := hx6
                 have hx0 : (x != 0) = true := bne_iff_ne.2 hx6
                 have H6 : Hid _ := HH.out.cw.below hb6
                 obtain ⟨WZ, hWZ⟩ : ∃ WZ, (w6.alloc (Obj.cells #[.int .i64 0, .string ⟨#[]⟩, .slice none 0 0, .bool false] 43)).alloc (Obj.cells #[.string ⟨#[]⟩, .slice none 0 0, .int .i64 0, .int .i64 0, .int .i64 0] 50) = WZ := ⟨_, rfl⟩
                 have e1 : (w6.alloc (Obj.cells #[.int .i64 0, .string ⟨#[]⟩, .slice none 0 0, .bool false] 43)).heap.size = w6.heap.size + 1 := by simp
                 have hZ : Cw w WZ w.heap.size line (.slice A lits.length cA) kk lt c2 := by rw [← hWZ]; exact (H6.out.below (below_alloc (Below.refl _ _) _)).below (below_alloc (Below.refl _ _) _)
                 have hpZ : WZ.heap[w6.heap.size]? = some (.cells #[.int .i64 0, .string ⟨#[]⟩, .slice none 0 0, .bool false] 43 (0, 0)) := by rw [← hWZ]; exact blk_alloc (blk_new w6 _) _
                 have hqZ : WZ.heap[w6.heap.size + 1]? = some (.cells #[.string ⟨#[]⟩, .slice none 0 0, .int .i64 0, .int .i64 0, .int .i64 0] 50 (0, 0)) := by rw [← hWZ, ← e1]; exact blk_new _ _
                 have xz0 := blk_cell hpZ 0
                 have xz1 := blk_cell hpZ 1
                 have xz2 := blk_cell hpZ 2
                 have xz3 := blk_cell hpZ 3
                 have yz0 := blk_cell hqZ 0
                 have yz1 := blk_cell hqZ 1
                 have yz2 := blk_cell hqZ 2
                 have yz3 := blk_cell hqZ 3
                 have yz4 := blk_cell hqZ 4
                 simp only [List.getElem?_toArray, List.getElem?_cons_zero, List.getElem?_cons_succ] at xz0 xz1 xz2 xz3 yz0 yz1 yz2 yz3 yz4
                 have xzz : ∀ j, WZ.frozen? ⟨w6.heap.size, j, none⟩ = false := fun j => blk_frozen hpZ j
                 have yzz : ∀ j, WZ.frozen? ⟨w6.heap.size + 1, j, none⟩ = false := fun j => blk_frozen hqZ j
                 obtain ⟨WA, hWA⟩ : ∃ WA, ((((((((WZ.setCell ⟨w6.heap.size, 0, none⟩ (.int .i64 i6)).setCell ⟨w6.heap.size, 1, none⟩ (.string s6)).setCell ⟨w6.heap.size, 2, none⟩ (.slice A6 n6 c6)).setCell ⟨w6.heap.size, 3, none⟩ (.bool false)).setCell ⟨w6.heap.size + 1, 0, none⟩ (.string line)).setCell ⟨w6.heap.size + 1, 1, none⟩ (.slice A lits.length cA)).setCell ⟨w6.heap.size + 1, 2, none⟩ (.int .i64 k6)).setCell ⟨w6.heap.size + 1, 3, none⟩ (.int .i64 l6)).setCell ⟨w6.heap.size + 1, 4, none⟩ (.int .i64 t6) = WA := ⟨_, rfl⟩
                 have hg : w.heap.size + 1 < w6.heap.size := H6.out.lt
                 have hg' : w.heap.size + 1 < w6.heap.size + 1 := by omega
                 have hne : w6.heap.size ≠ w6.heap.size + 1 := by omega
                 have hA : Cw w WA w.heap.size line (.slice A lits.length cA) kk lt c2 := by rw [← hWA]; exact (((((((((hZ.setFar hg 0 _).setFar hg 1 _).setFar hg 2 _).setFar hg 3 _).setFar hg' 0 _).setFar hg' 1 _).setFar hg' 2 _).setFar hg' 3 _).setFar hg' 4 _)
                 have hpA : WA.heap[w6.heap.size]? = some (.cells #[.int .i64 i6, .string s6, .slice A6 n6 c6, .bool false] 43 (0, 0)) := by rw [← hWA]; exact (blk_far (blk_far (blk_far (blk_far (blk_far (blk_set (blk_set (blk_set (blk_set hpZ 0 _) 1 _) 2 _) 3 _) (p := ⟨w6.heap.size + 1, 0, none⟩) hne _) (p := ⟨w6.heap.size + 1, 1, none⟩) hne _) (p := ⟨w6.heap.size + 1, 2, none⟩) hne _) (p := ⟨w6.heap.size + 1, 3, none⟩) hne _) (p := ⟨w6.heap.size + 1, 4, none⟩) hne _)
                 have hqA : WA.heap[w6.heap.size + 1]? = some (.cells #[.string line, .slice A lits.length cA, .int .i64 k6, .int .i64 l6, .int .i64 t6] 50 (0, 0)) := by rw [← hWA]; exact (blk_set (blk_set (blk_set (blk_set (blk_set (blk_far (blk_far (blk_far (blk_far hqZ (p := ⟨w6.heap.size, 0, none⟩) (Ne.symm hne) _) (p := ⟨w6.heap.size, 1, none⟩) (Ne.symm hne) _) (p := ⟨w6.heap.size, 2, none⟩) (Ne.symm hne) _) (p := ⟨w6.heap.size, 3, none⟩) (Ne.symm hne) _) 0 _) 1 _) 2 _) 3 _) 4 _)
                 have hAF : ∀ j, j < w6.heap.size → WA.heap[j]? = w6.heap[j]? := fun j hj => by
                   have hj1 : j ≠ w6.heap.size := by omega
                   have hj2 : j ≠ w6.heap.size + 1 := by omega
                   rw [← hWA, Below.heap_setCell _ ⟨w6.heap.size + 1, 4, none⟩ _ _ hj2, Below.heap_setCell _ ⟨w6.heap.size + 1, 3, none⟩ _ _ hj2, Below.heap_setCell _ ⟨w6.heap.size + 1, 2, none⟩ _ _ hj2, Below.heap_setCell _ ⟨w6.heap.size + 1, 1, none⟩ _ _ hj2, Below.heap_setCell _ ⟨w6.heap.size + 1, 0, none⟩ _ _ hj2, Below.heap_setCell _ ⟨w6.heap.size, 3, none⟩ _ _ hj1, Below.heap_setCell _ ⟨w6.heap.size, 2, none⟩ _ _ hj1, Below.heap_setCell _ ⟨w6.heap.size, 1, none⟩ _ _ hj1, Below.heap_setCell _ ⟨w6.heap.size, 0, none⟩ _ _ hj1, ← hWZ, Below.heap_alloc _ _ j (by rw [e1]; omega)]
                   exact Below.heap_alloc w6 _ j hj
                 have HA : Hid _ := hA
                 have HAF : Hid (∀ j, j < w6.heap.size → WA.heap[j]? = w6.heap[j]?) := hAF
                 have y0 := blk_cell hqA 0
                 have y1 := blk_cell hqA 1
                 have y2 := blk_cell hqA 2
                 have y3 := blk_cell hqA 3
                 have y4 := blk_cell hqA 4
                 have x0 := blk_cell hpA 0
                 have x1 := blk_cell hpA 1
                 have x2 := blk_cell hpA 2
                 have x3 := blk_cell hpA 3
                 simp only [List.getElem?_toArray, List.getElem?_cons_zero, List.getElem?_cons_succ] at x0 x1 x2 x3 y0 y1 y2 y3 y4
                 have xaz : ∀ j, WA.frozen? ⟨w6.heap.size, j, none⟩ = false := fun j => blk_frozen hpA j
                 obtain ⟨r0, r1, r2, r3, r4, rz⟩ := hA.res
                 have hn1 : ¬ w6.heap.size + 1 = w.heap.size + 1 := by omega
                 have hn3 : ¬ w.heap.size + 1 = w6.heap.size + 1 := by omega
                 have hn5 : ¬ w6.heap.size = w.heap.size := by omega
                 have hn6 : ¬ w.heap.size = w6.heap.size := by omega
                 clear hb6 hx6 hZ hpZ hqZ hA hpA hqA hAF hg hg' hne e1)
              | fail)
            go_region_with (fail)
            all_goals go_wp2
            all_goals (have hL := (HA.out).leave (.string line) (.slice A lits.length cA) (.int .i64 k6) (.int .i64 l6) (.int .i64 t6))
            all_goals (obtain ⟨W9, hW9⟩ : ∃ W9, put5 (WA) (w.heap.size + 1) (.string line) (.slice A lits.length cA) (.int .i64 k6) (.int .i64 l6) (.int .i64 t6) = W9 := ⟨_, rfl⟩)
            all_goals (rw [hW9] at hL; unfold put5 at hW9; rw [hW9]; clear hW9)
            all_goals (refine bodyPost_ret (ret_tct rfl _ _ (w.heap.size + 1) _ rfl hL.2 rfl) rfl ?_)
            all_goals (rw [HRES.out]; exact RWs.err HX9.out (by first | exact below_drew hL.1 | exact hL.1) _ _ _ _ _ _)
          | ok vv =>
            obtain ⟨wd, c3, ls3, q3⟩ := vv
            rw [hWd] at hw hS
            have HW : Hid _ := hw
            simp only at hS
            have HS3 : Hid _ := hS
            clear hw hS hWd
            by_cases hemp : acc.length = 0
            · have hgt : decide ((0 : Int) < (acc.length : Int)) = false := decide_eq_false (by omega)
              have hgi : (acc.length : Int) ≤ 0 := by omega
              have hG : (!acc.isEmpty && !blank) = false := by rw [show acc.isEmpty = true from List.isEmpty_iff_length_eq_zero.2 hemp]; rfl
              have HG : Hid _ := hG
              clear hemp hG
              go_wp2_with (first
                | (go_at_call 37; refine Calls.mono HW.out ?_; rintro e w6 ⟨hb6, v6, l6n, k6n, he6, hR6, hls6, hll6, hkk6, hks6, hq6, hct6⟩
                   unfold cu at he6
                   subst he6
                   have H6 : Hid _ := HH.out.cw.below hb6
                   have H7 : Hid _ := And.intro hls6 (And.intro hll6 (And.intro hkk6 (And.intro hks6 (And.intro hq6 hct6))))
                   obtain ⟨A6, c6, hv6⟩ := Kd.R_slice hR6
                   subst hv6
                   obtain ⟨WZ, hWZ⟩ : ∃ WZ, (w6.alloc (Obj.cells #[.int .i64 0, .string ⟨#[]⟩, .slice none 0 0, .bool false] 43)).alloc (Obj.cells #[.string ⟨#[]⟩, .slice none 0 0, .int .i64 0, .int .i64 0, .int .i64 0] 50) = WZ := ⟨_, rfl⟩
                   have e1 : (w6.alloc (Obj.cells #[.int .i64 0, .string ⟨#[]⟩, .slice none 0 0, .bool false] 43)).heap.size = w6.heap.size + 1 := by simp
                   have hZ : Cw w WZ w.heap.size line (.slice A lits.length cA) kk lt c2 := by rw [← hWZ]; exact (H6.out.below (below_alloc (Below.refl _ _) _)).below (below_alloc (Below.refl _ _) _)
                   have hpZ : WZ.heap[w6.heap.size]? = some (.cells #[.int .i64 0, .string ⟨#[]⟩, .slice none 0 0, .bool false] 43 (0, 0)) := by rw [← hWZ]; exact blk_alloc (blk_new w6 _) _
                   have hqZ : WZ.heap[w6.heap.size + 1]? = some (.cells #[.string ⟨#[]⟩, .slice none 0 0, .int .i64 0, .int .i64 0, .int .i64 0] 50 (0, 0)) := by rw [← hWZ, ← e1]; exact blk_new _ _
                   have xz0 := blk_cell hpZ 0
                   have xz1 := blk_cell hpZ 1
                   have xz2 := blk_cell hpZ 2
                   have xz3 := blk_cell hpZ 3
                   have yz0 := blk_cell hqZ 0
                   have yz1 := blk_cell hqZ 1
                   have yz2 := blk_cell hqZ 2
                   have yz3 := blk_cell hqZ 3
                   have yz4 := blk_cell hqZ 4
                   simp only [List.getElem?_toArray, List.getElem?_cons_zero, List.getElem?_cons_succ] at xz0 xz1 xz2 xz3 yz0 yz1 yz2 yz3 yz4
                   have xzz : ∀ j, WZ.frozen? ⟨w6.heap.size, j, none⟩ = false := fun j => blk_frozen hpZ j
                   have yzz : ∀ j, WZ.frozen? ⟨w6.heap.size + 1, j, none⟩ = false := fun j => blk_frozen hqZ j
                   obtain ⟨WA, hWA⟩ : ∃ WA, ((((((((WZ.setCell ⟨w6.heap.size, 0, none⟩ (.int .i64 wd.f0)).setCell ⟨w6.heap.size, 1, none⟩ (.string wd.f1)).setCell ⟨w6.heap.size, 2, none⟩ (.slice A6 wd.f2.length c6)).setCell ⟨w6.heap.size, 3, none⟩ (.bool false)).setCell ⟨w6.heap.size + 1, 0, none⟩ (.string line)).setCell ⟨w6.heap.size + 1, 1, none⟩ (.slice A lits.length cA)).setCell ⟨w6.heap.size + 1, 2, none⟩ (.int .i64 (k6n : Int))).setCell ⟨w6.heap.size + 1, 3, none⟩ (.int .i64 (l6n : Int))).setCell ⟨w6.heap.size + 1, 4, none⟩ (.int .i64 (c3 : Int)) = WA := ⟨_, rfl⟩
                   have hg : w.heap.size + 1 < w6.heap.size := H6.out.lt
                   have hg' : w.heap.size + 1 < w6.heap.size + 1 := by omega
                   have hne : w6.heap.size ≠ w6.heap.size + 1 := by omega
                   have hA : Cw w WA w.heap.size line (.slice A lits.length cA) kk lt c2 := by rw [← hWA]; exact (((((((((hZ.setFar hg 0 _).setFar hg 1 _).setFar hg 2 _).setFar hg 3 _).setFar hg' 0 _).setFar hg' 1 _).setFar hg' 2 _).setFar hg' 3 _).setFar hg' 4 _)
                   have hpA : WA.heap[w6.heap.size]? = some (.cells #[.int .i64 wd.f0, .string wd.f1, .slice A6 wd.f2.length c6, .bool false] 43 (0, 0)) := by rw [← hWA]; exact (blk_far (blk_far (blk_far (blk_far (blk_far (blk_set (blk_set (blk_set (blk_set hpZ 0 _) 1 _) 2 _) 3 _) (p := ⟨w6.heap.size + 1, 0, none⟩) hne _) (p := ⟨w6.heap.size + 1, 1, none⟩) hne _) (p := ⟨w6.heap.size + 1, 2, none⟩) hne _) (p := ⟨w6.heap.size + 1, 3, none⟩) hne _) (p := ⟨w6.heap.size + 1, 4, none⟩) hne _)
                   have hqA : WA.heap[w6.heap.size + 1]? = some (.cells #[.string line, .slice A lits.length cA, .int .i64 (k6n : Int), .int .i64 (l6n : Int), .int .i64 (c3 : Int)] 50 (0, 0)) := by rw [← hWA]; exact (blk_set (blk_set (blk_set (blk_set (blk_set (blk_far (blk_far (blk_far (blk_far hqZ (p := ⟨w6.heap.size, 0, none⟩) (Ne.symm hne) _) (p := ⟨w6.heap.size, 1, none⟩) (Ne.symm hne) _) (p := ⟨w6.heap.size, 2, none⟩) (Ne.symm hne) _) (p := ⟨w6.heap.size, 3, none⟩) (Ne.symm hne) _) 0 _) 1 _) 2 _) 3 _) 4 _)
                   have hAF : ∀ j, j < w6.heap.size → WA.heap[j]? = w6.heap[j]? := fun j hj => by
                     have hj1 : j ≠ w6.heap.size := by omega
                     have hj2 : j ≠ w6.heap.size + 1 := by omega
                     rw [← hWA, Below.heap_setCell _ ⟨w6.heap.size + 1, 4, none⟩ _ _ hj2, Below.heap_setCell _ ⟨w6.heap.size + 1, 3, none⟩ _ _ hj2, Below.heap_setCell _ ⟨w6.heap.size + 1, 2, none⟩ _ _ hj2, Below.heap_setCell _ ⟨w6.heap.size + 1, 1, none⟩ _ _ hj2, Below.heap_setCell _ ⟨w6.heap.size + 1, 0, none⟩ _ _ hj2, Below.heap_setCell _ ⟨w6.heap.size, 3, none⟩ _ _ hj1, Below.heap_setCell _ ⟨w6.heap.size, 2, none⟩ _ _ hj1, Below.heap_setCell _ ⟨w6.heap.size, 1, none⟩ _ _ hj1, Below.heap_setCell _ ⟨w6.heap.size, 0, none⟩ _ _ hj1, ← hWZ, Below.heap_alloc _ _ j (by rw [e1]; omega)]
                     exact Below.heap_alloc w6 _ j hj
                   have HA : Hid _ := hA
                   have HAF : Hid (∀ j, j < w6.heap.size → WA.heap[j]? = w6.heap[j]?) := hAF
                   have y0 := blk_cell hqA 0
                   have y1 := blk_cell hqA 1
                   have y2 := blk_cell hqA 2
                   have y3 := blk_cell hqA 3
                   have y4 := blk_cell hqA 4
                   have x0 := blk_cell hpA 0
                   have x1 := blk_cell hpA 1
                   have x2 := blk_cell hpA 2
                   have x3 := blk_cell hpA 3
                   simp only [List.getElem?_toArray, List.getElem?_cons_zero, List.getElem?_cons_succ] at x0 x1 x2 x3 y0 y1 y2 y3 y4
                   have xaz : ∀ j, WA.frozen? ⟨w6.heap.size, j, none⟩ = false := fun j => blk_frozen hpA j
                   obtain ⟨r0, r1, r2, r3, r4, rz⟩ := hA.res
                   have hn1 : ¬ w6.heap.size + 1 = w.heap.size + 1 := by omega
                   have hn3 : ¬ w.heap.size + 1 = w6.heap.size + 1 := by omega
                   have hn5 : ¬ w6.heap.size = w.heap.size := by omega
                   have hn6 : ¬ w.heap.size = w6.heap.size := by omega
                   obtain ⟨WB, hWB⟩ : ∃ WB, WA.setCell ⟨w6.heap.size, 3, none⟩ (.bool false) = WB := ⟨_, rfl⟩
                   have hB : Cw w WB w.heap.size line (.slice A lits.length cA) kk lt c2 := by rw [← hWB]; exact hA.setFar hg 3 _
                   have hpB : WB.heap[w6.heap.size]? = some (.cells #[.int .i64 wd.f0, .string wd.f1, .slice A6 wd.f2.length c6, .bool false] 43 (0, 0)) := by rw [← hWB]; exact blk_set hpA 3 _
                   have hqB : WB.heap[w6.heap.size + 1]? = some (.cells #[.string line, .slice A lits.length cA, .int .i64 (k6n : Int), .int .i64 (l6n : Int), .int .i64 (c3 : Int)] 50 (0, 0)) := by rw [← hWB]; exact blk_far hqA (p := ⟨w6.heap.size, 3, none⟩) (Ne.symm hne) _
                   have hBF : ∀ j, j < w6.heap.size → WB.heap[j]? = w6.heap[j]? := fun j hj => by rw [← hWB, Below.heap_setCell _ ⟨w6.heap.size, 3, none⟩ _ _ (show j ≠ w6.heap.size by omega)]; exact hAF j hj
                   have u0 := blk_cell hpB 0
                   have u1 := blk_cell hpB 1
                   have u2 := blk_cell hpB 2
                   have u3 := blk_cell hpB 3
                   simp only [List.getElem?_toArray, List.getElem?_cons_zero, List.getElem?_cons_succ] at u0 u1 u2 u3
                   have hrowB : k43.R 43 WB w.heap.size (fun _ => True) (.slice A9 acc.length c9) acc := Kd.R_mono (Kd.R_step (Kd.R_bound (Kd.R_below HH.out.row hb6)) (fun j hj _ => hBF j hj.2.2.1)) (fun _ _ => trivial)
                   have hpM : k43.M WB w.heap.size (fun j => wr.heap.size ≤ j ∧ j < w6.heap.size) (glue wd false) [.int .i64 wd.f0, .string wd.f1, .slice A6 wd.f2.length c6, .bool false] :=
                     k43_mkM WB w.heap.size _ (glue wd false) (Kd.R_mono (Kd.R_step (Kd.R_lower (Kd.R_bound hR6) HH.out.cw.bel.size) (fun j hj _ => hBF j hj.2.2.1)) (fun j hj => ⟨hj.2.1, hj.2.2.1⟩))
                   have hokp : ∀ j, (wr.heap.size ≤ j ∧ j < w6.heap.size) → True ∧ some j ≠ (Value.slice A9 acc.length c9).ownBlock := fun j hj => ⟨trivial, fun e => by
                     obtain ⟨inn, ho⟩ := Kd.R_own HH.out.row
                     have := own_lt ho j e.symm
                     omega⟩
                   have HROW : Hid _ := hrowB
                   have HPM : Hid _ := hpM
                   have HOKP : Hid (∀ j, (wr.heap.size ≤ j ∧ j < w6.heap.size) → True ∧ some j ≠ (Value.slice A9 acc.length c9).ownBlock) := hokp
                   have HB : Hid _ := hB
                   have HQB : Hid _ := hqB
                   clear hb6 hR6 hls6 hll6 hkk6 hks6 hq6 hct6 hZ hpZ hqZ hA hpA hqA hAF hg hg' hne e1 hB hpB hqB hBF hrowB hpM hokp)
                | ((with_reducible refine gate_builtin (b := .append) (xs := #[.tmp 100, .tmp 102]) rfl ?_); at_builtin
                   refine Kd.R_append k43 (w0 := w) w.heap.size rfl (.tmp 100) (.tmp 102) 24 43 (.agg #[.int .i64 0, .string ⟨#[]⟩, .slice none 0 0, .bool false]) 56 rfl Tryd.underlying24 info43 rfl (by decide) (by decide) (.slice A9 acc.length c9) acc (glue wd false) [.int .i64 wd.f0, .string wd.f1, .slice A6 wd.f2.length c6, .bool false] (fun _ => True) (fun j => wr.heap.size ≤ j ∧ j < w6.heap.size) rfl rfl HPM.out HOKP.out (fun _ _ => trivial) HROW.out HB.out.bel HB.out.bel.size (by have := HH.out.len; have := HH.out.pos; have := HC.out.2.2.2.1; omega) ?_
                   intro v1 w1 hR1 hB1 hg1 hat1
                   have hn9 := Kd.R_ne HROW.out HB.out.top (by decide)
                   have hn8 := Kd.R_ne HROW.out HB.out.r1 (by decide)
                   have hn7 := Kd.R_ne HROW.out HQB.out (by decide)
                   have hcw1 := HB.out.far hB1 hg1 (fun e => hn9 e.symm) (fun e => hn8 e.symm)
                   have hq1 := (hg1.block (w6.heap.size + 1) (blk_lt HQB.out) hn7).trans HQB.out
                   have v0 := blk_cell hq1 0
                   have v1' := blk_cell hq1 1
                   have v2 := blk_cell hq1 2
                   have v3 := blk_cell hq1 3
                   have v4 := blk_cell hq1 4
                   simp only [List.getElem?_toArray, List.getElem?_cons_zero, List.getElem?_cons_succ] at v0 v1' v2 v3 v4
                   obtain ⟨p0, p1, p2, p3, p4, pz⟩ := hcw1.cells
                   have HCW1 : Hid _ := hcw1
                   have HR1 : Hid _ := hR1
                   clear hR1 hB1 hg1 hat1 hn9 hn8 hn7 hcw1 hq1)
                | fail)
              have hcwD := HCW1.out.setAll (k6n : Int) (l6n : Int) (c3 : Int)
              have hrowD := R43_keep HR1.out HCW1.out.top (fun j hj => put5_far w1 w.heap.size (.string line) (.slice A lits.length cA) (.int .i64 (k6n : Int)) (.int .i64 (l6n : Int)) (.int .i64 (c3 : Int)) hj)
              obtain ⟨WD, hWD⟩ : ∃ WD, put5 w1 w.heap.size (.string line) (.slice A lits.length cA) (.int .i64 (k6n : Int)) (.int .i64 (l6n : Int)) (.int .i64 (c3 : Int)) = WD := ⟨_, rfl⟩
              rw [hWD] at hcwD hrowD
              unfold put5 at hWD
              rw [hWD]
              have ep : posAt WD w.heap.size = k6n := by unfold posAt; rw [hcwD.cells.2.2.1]; rfl
              obtain ⟨hls6, hll6, hkk6, hks6, hq6, hct6⟩ := H7.out
              exact ⟨⟨false, acc ++ [glue wd false], k6n, l6n, c3, mp, rfl, ⟨hcwD, hrowD, by have := HH.out.fuel; omega, by have := HH.out.most; omega, hks6, by have := HH.out.from_; omega, hll6, hct6, by have := HH.out.len; rw [List.length_append, List.length_singleton]; omega, by rw [← HS3.out, HG.out, ← hls6, ← hq6]⟩⟩, by rw [ep, EP0.out]; omega⟩
            · have hgt : decide ((0 : Int) < (acc.length : Int)) = true := decide_eq_true (by omega)
              have hgi : (0 : Int) < (acc.length : Int) := by omega
              have hie : acc.isEmpty = false := by rw [Bool.eq_false_iff, Ne, List.isEmpty_iff_length_eq_zero]; exact hemp
              cases blank with
              | true =>
                have hG : (!acc.isEmpty && !true) = false := by rw [hie]; rfl
                have HG : Hid _ := hG
                clear hemp hG hie
                go_wp2_with (first
                  | (go_at_call 37; refine Calls.mono HW.out ?_; rintro e w6 ⟨hb6, v6, l6n, k6n, he6, hR6, hls6, hll6, hkk6, hks6, hq6, hct6⟩
                     unfold cu at he6
                     subst he6
                     have H6 : Hid _ := HH.out.cw.below hb6
                     have H7 : Hid _ := And.intro hls6 (And.intro hll6 (And.intro hkk6 (And.intro hks6 (And.intro hq6 hct6))))
                     obtain ⟨A6, c6, hv6⟩ := Kd.R_slice hR6
                     subst hv6
                     obtain ⟨WZ, hWZ⟩ : ∃ WZ, (w6.alloc (Obj.cells #[.int .i64 0, .string ⟨#[]⟩, .slice none 0 0, .bool false] 43)).alloc (Obj.cells #[.string ⟨#[]⟩, .slice none 0 0, .int .i64 0, .int .i64 0, .int .i64 0] 50) = WZ := ⟨_, rfl⟩
                     have e1 : (w6.alloc (Obj.cells #[.int .i64 0, .string ⟨#[]⟩, .slice none 0 0, .bool false] 43)).heap.size = w6.heap.size + 1 := by simp
                     have hZ : Cw w WZ w.heap.size line (.slice A lits.length cA) kk lt c2 := by rw [← hWZ]; exact (H6.out.below (below_alloc (Below.refl _ _) _)).below (below_alloc (Below.refl _ _) _)
                     have hpZ : WZ.heap[w6.heap.size]? = some (.cells #[.int .i64 0, .string ⟨#[]⟩, .slice none 0 0, .bool false] 43 (0, 0)) := by rw [← hWZ]; exact blk_alloc (blk_new w6 _) _
                     have hqZ : WZ.heap[w6.heap.size + 1]? = some (.cells #[.string ⟨#[]⟩, .slice none 0 0, .int .i64 0, .int .i64 0, .int .i64 0] 50 (0, 0)) := by rw [← hWZ, ← e1]; exact blk_new _ _
                     have xz0 := blk_cell hpZ 0
                     have xz1 := blk_cell hpZ 1
                     have xz2 := blk_cell hpZ 2
                     have xz3 := blk_cell hpZ 3
                     have yz0 := blk_cell hqZ 0
                     have yz1 := blk_cell hqZ 1
                     have yz2 := blk_cell hqZ 2
                     have yz3 := blk_cell hqZ 3
                     have yz4 := blk_cell hqZ 4
                     simp only [List.getElem?_toArray, List.getElem?_cons_zero, List.getElem?_cons_succ] at xz0 xz1 xz2 xz3 yz0 yz1 yz2 yz3 yz4
                     have xzz : ∀ j, WZ.frozen? ⟨w6.heap.size, j, none⟩ = false := fun j => blk_frozen hpZ j
                     have yzz : ∀ j, WZ.frozen? ⟨w6.heap.size + 1, j, none⟩ = false := fun j => blk_frozen hqZ j
                     obtain ⟨WA, hWA⟩ : ∃ WA, ((((((((WZ.setCell ⟨w6.heap.size, 0, none⟩ (.int .i64 wd.f0)).setCell ⟨w6.heap.size, 1, none⟩ (.string wd.f1)).setCell ⟨w6.heap.size, 2, none⟩ (.slice A6 wd.f2.length c6)).setCell ⟨w6.heap.size, 3, none⟩ (.bool false)).setCell ⟨w6.heap.size + 1, 0, none⟩ (.string line)).setCell ⟨w6.heap.size + 1, 1, none⟩ (.slice A lits.length cA)).setCell ⟨w6.heap.size + 1, 2, none⟩ (.int .i64 (k6n : Int))).setCell ⟨w6.heap.size + 1, 3, none⟩ (.int .i64 (l6n : Int))).setCell ⟨w6.heap.size + 1, 4, none⟩ (.int .i64 (c3 : Int)) = WA := ⟨_, rfl⟩
                     have hg : w.heap.size + 1 < w6.heap.size := H6.out.lt
                     have hg' : w.heap.size + 1 < w6.heap.size + 1 := by omega
                     have hne : w6.heap.size ≠ w6.heap.size + 1 := by omega
                     have hA : Cw w WA w.heap.size line (.slice A lits.length cA) kk lt c2 := by rw [← hWA]; exact (((((((((hZ.setFar hg 0 _).setFar hg 1 _).setFar hg 2 _).setFar hg 3 _).setFar hg' 0 _).setFar hg' 1 _).setFar hg' 2 _).setFar hg' 3 _).setFar hg' 4 _)
                     have hpA : WA.heap[w6.heap.size]? = some (.cells #[.int .i64 wd.f0, .string wd.f1, .slice A6 wd.f2.length c6, .bool false] 43 (0, 0)) := by rw [← hWA]; exact (blk_far (blk_far (blk_far (blk_far (blk_far (blk_set (blk_set (blk_set (blk_set hpZ 0 _) 1 _) 2 _) 3 _) (p := ⟨w6.heap.size + 1, 0, none⟩) hne _) (p := ⟨w6.heap.size + 1, 1, none⟩) hne _) (p := ⟨w6.heap.size + 1, 2, none⟩) hne _) (p := ⟨w6.heap.size + 1, 3, none⟩) hne _) (p := ⟨w6.heap.size + 1, 4, none⟩) hne _)
                     have hqA : WA.heap[w6.heap.size + 1]? = some (.cells #[.string line, .slice A lits.length cA, .int .i64 (k6n : Int), .int .i64 (l6n : Int), .int .i64 (c3 : Int)] 50 (0, 0)) := by rw [← hWA]; exact (blk_set (blk_set (blk_set (blk_set (blk_set (blk_far (blk_far (blk_far (blk_far hqZ (p := ⟨w6.heap.size, 0, none⟩) (Ne.symm hne) _) (p := ⟨w6.heap.size, 1, none⟩) (Ne.symm hne) _) (p := ⟨w6.heap.size, 2, none⟩) (Ne.symm hne) _) (p := ⟨w6.heap.size, 3, none⟩) (Ne.symm hne) _) 0 _) 1 _) 2 _) 3 _) 4 _)
                     have hAF : ∀ j, j < w6.heap.size → WA.heap[j]? = w6.heap[j]? := fun j hj => by
                       have hj1 : j ≠ w6.heap.size := by omega
                       have hj2 : j ≠ w6.heap.size + 1 := by omega
                       rw [← hWA, Below.heap_setCell _ ⟨w6.heap.size + 1, 4, none⟩ _ _ hj2, Below.heap_setCell _ ⟨w6.heap.size + 1, 3, none⟩ _ _ hj2, Below.heap_setCell _ ⟨w6.heap.size + 1, 2, none⟩ _ _ hj2, Below.heap_setCell _ ⟨w6.heap.size + 1, 1, none⟩ _ _ hj2, Below.heap_setCell _ ⟨w6.heap.size + 1, 0, none⟩ _ _ hj2, Below.heap_setCell _ ⟨w6.heap.size, 3, none⟩ _ _ hj1, Below.heap_setCell _ ⟨w6.heap.size, 2, none⟩ _ _ hj1, Below.heap_setCell _ ⟨w6.heap.size, 1, none⟩ _ _ hj1, Below.heap_setCell _ ⟨w6.heap.size, 0, none⟩ _ _ hj1, ← hWZ, Below.heap_alloc _ _ j (by rw [e1]; omega)]
                       exact Below.heap_alloc w6 _ j hj
                     have HA : Hid _ := hA
                     have HAF : Hid (∀ j, j < w6.heap.size → WA.heap[j]? = w6.heap[j]?) := hAF
                     have y0 := blk_cell hqA 0
                     have y1 := blk_cell hqA 1
                     have y2 := blk_cell hqA 2
                     have y3 := blk_cell hqA 3
                     have y4 := blk_cell hqA 4
                     have x0 := blk_cell hpA 0
                     have x1 := blk_cell hpA 1
                     have x2 := blk_cell hpA 2
                     have x3 := blk_cell hpA 3
                     simp only [List.getElem?_toArray, List.getElem?_cons_zero, List.getElem?_cons_succ] at x0 x1 x2 x3 y0 y1 y2 y3 y4
                     have xaz : ∀ j, WA.frozen? ⟨w6.heap.size, j, none⟩ = false := fun j => blk_frozen hpA j
                     obtain ⟨r0, r1, r2, r3, r4, rz⟩ := hA.res
                     have hn1 : ¬ w6.heap.size + 1 = w.heap.size + 1 := by omega
                     have hn3 : ¬ w.heap.size + 1 = w6.heap.size + 1 := by omega
                     have hn5 : ¬ w6.heap.size = w.heap.size := by omega
                     have hn6 : ¬ w.heap.size = w6.heap.size := by omega
                     obtain ⟨WB, hWB⟩ : ∃ WB, WA.setCell ⟨w6.heap.size, 3, none⟩ (.bool false) = WB := ⟨_, rfl⟩
                     have hB : Cw w WB w.heap.size line (.slice A lits.length cA) kk lt c2 := by rw [← hWB]; exact hA.setFar hg 3 _
                     have hpB : WB.heap[w6.heap.size]? = some (.cells #[.int .i64 wd.f0, .string wd.f1, .slice A6 wd.f2.length c6, .bool false] 43 (0, 0)) := by rw [← hWB]; exact blk_set hpA 3 _
                     have hqB : WB.heap[w6.heap.size + 1]? = some (.cells #[.string line, .slice A lits.length cA, .int .i64 (k6n : Int), .int .i64 (l6n : Int), .int .i64 (c3 : Int)] 50 (0, 0)) := by rw [← hWB]; exact blk_far hqA (p := ⟨w6.heap.size, 3, none⟩) (Ne.symm hne) _
                     have hBF : ∀ j, j < w6.heap.size → WB.heap[j]? = w6.heap[j]? := fun j hj => by rw [← hWB, Below.heap_setCell _ ⟨w6.heap.size, 3, none⟩ _ _ (show j ≠ w6.heap.size by omega)]; exact hAF j hj
                     have u0 := blk_cell hpB 0
                     have u1 := blk_cell hpB 1
                     have u2 := blk_cell hpB 2
                     have u3 := blk_cell hpB 3
                     simp only [List.getElem?_toArray, List.getElem?_cons_zero, List.getElem?_cons_succ] at u0 u1 u2 u3
                     have hrowB : k43.R 43 WB w.heap.size (fun _ => True) (.slice A9 acc.length c9) acc := Kd.R_mono (Kd.R_step (Kd.R_bound (Kd.R_below HH.out.row hb6)) (fun j hj _ => hBF j hj.2.2.1)) (fun _ _ => trivial)
                     have hpM : k43.M WB w.heap.size (fun j => wr.heap.size ≤ j ∧ j < w6.heap.size) (glue wd false) [.int .i64 wd.f0, .string wd.f1, .slice A6 wd.f2.length c6, .bool false] :=
                       k43_mkM WB w.heap.size _ (glue wd false) (Kd.R_mono (Kd.R_step (Kd.R_lower (Kd.R_bound hR6) HH.out.cw.bel.size) (fun j hj _ => hBF j hj.2.2.1)) (fun j hj => ⟨hj.2.1, hj.2.2.1⟩))
                     have hokp : ∀ j, (wr.heap.size ≤ j ∧ j < w6.heap.size) → True ∧ some j ≠ (Value.slice A9 acc.length c9).ownBlock := fun j hj => ⟨trivial, fun e => by
                       obtain ⟨inn, ho⟩ := Kd.R_own HH.out.row
                       have := own_lt ho j e.symm
                       omega⟩
                     have HROW : Hid _ := hrowB
                     have HPM : Hid _ := hpM
                     have HOKP : Hid (∀ j, (wr.heap.size ≤ j ∧ j < w6.heap.size) → True ∧ some j ≠ (Value.slice A9 acc.length c9).ownBlock) := hokp
                     have HB : Hid _ := hB
                     have HQB : Hid _ := hqB
                     clear hb6 hR6 hls6 hll6 hkk6 hks6 hq6 hct6 hZ hpZ hqZ hA hpA hqA hAF hg hg' hne e1 hB hpB hqB hBF hrowB hpM hokp)
                  | ((with_reducible refine gate_builtin (b := .append) (xs := #[.tmp 100, .tmp 102]) rfl ?_); at_builtin
                     refine Kd.R_append k43 (w0 := w) w.heap.size rfl (.tmp 100) (.tmp 102) 24 43 (.agg #[.int .i64 0, .string ⟨#[]⟩, .slice none 0 0, .bool false]) 56 rfl Tryd.underlying24 info43 rfl (by decide) (by decide) (.slice A9 acc.length c9) acc (glue wd false) [.int .i64 wd.f0, .string wd.f1, .slice A6 wd.f2.length c6, .bool false] (fun _ => True) (fun j => wr.heap.size ≤ j ∧ j < w6.heap.size) rfl rfl HPM.out HOKP.out (fun _ _ => trivial) HROW.out HB.out.bel HB.out.bel.size (by have := HH.out.len; have := HH.out.pos; have := HC.out.2.2.2.1; omega) ?_
                     intro v1 w1 hR1 hB1 hg1 hat1
                     have hn9 := Kd.R_ne HROW.out HB.out.top (by decide)
                     have hn8 := Kd.R_ne HROW.out HB.out.r1 (by decide)
                     have hn7 := Kd.R_ne HROW.out HQB.out (by decide)
                     have hcw1 := HB.out.far hB1 hg1 (fun e => hn9 e.symm) (fun e => hn8 e.symm)
                     have hq1 := (hg1.block (w6.heap.size + 1) (blk_lt HQB.out) hn7).trans HQB.out
                     have v0 := blk_cell hq1 0
                     have v1' := blk_cell hq1 1
                     have v2 := blk_cell hq1 2
                     have v3 := blk_cell hq1 3
                     have v4 := blk_cell hq1 4
                     simp only [List.getElem?_toArray, List.getElem?_cons_zero, List.getElem?_cons_succ] at v0 v1' v2 v3 v4
                     obtain ⟨p0, p1, p2, p3, p4, pz⟩ := hcw1.cells
                     have HCW1 : Hid _ := hcw1
                     have HR1 : Hid _ := hR1
                     clear hR1 hB1 hg1 hat1 hn9 hn8 hn7 hcw1 hq1)
                  | fail)
                have hcwD := HCW1.out.setAll (k6n : Int) (l6n : Int) (c3 : Int)
                have hrowD := R43_keep HR1.out HCW1.out.top (fun j hj => put5_far w1 w.heap.size (.string line) (.slice A lits.length cA) (.int .i64 (k6n : Int)) (.int .i64 (l6n : Int)) (.int .i64 (c3 : Int)) hj)
                obtain ⟨WD, hWD⟩ : ∃ WD, put5 w1 w.heap.size (.string line) (.slice A lits.length cA) (.int .i64 (k6n : Int)) (.int .i64 (l6n : Int)) (.int .i64 (c3 : Int)) = WD := ⟨_, rfl⟩
                rw [hWD] at hcwD hrowD
                unfold put5 at hWD
                rw [hWD]
                have ep : posAt WD w.heap.size = k6n := by unfold posAt; rw [hcwD.cells.2.2.1]; rfl
                obtain ⟨hls6, hll6, hkk6, hks6, hq6, hct6⟩ := H7.out
                exact ⟨⟨false, acc ++ [glue wd false], k6n, l6n, c3, mp, rfl, ⟨hcwD, hrowD, by have := HH.out.fuel; omega, by have := HH.out.most; omega, hks6, by have := HH.out.from_; omega, hll6, hct6, by have := HH.out.len; rw [List.length_append, List.length_singleton]; omega, by rw [← HS3.out, HG.out, ← hls6, ← hq6]⟩⟩, by rw [ep, EP0.out]; omega⟩
              | false =>
                have hG : (!acc.isEmpty && !false) = true := by rw [hie]; rfl
                have HG : Hid _ := hG
                clear hemp hG hie
                go_wp2_with (first
                  | (go_at_call 37; refine Calls.mono HW.out ?_; rintro e w6 ⟨hb6, v6, l6n, k6n, he6, hR6, hls6, hll6, hkk6, hks6, hq6, hct6⟩
                     unfold cu at he6
                     subst he6
                     have H6 : Hid _ := HH.out.cw.below hb6
                     have H7 : Hid _ := And.intro hls6 (And.intro hll6 (And.intro hkk6 (And.intro hks6 (And.intro hq6 hct6))))
                     obtain ⟨A6, c6, hv6⟩ := Kd.R_slice hR6
                     subst hv6
                     obtain ⟨WZ, hWZ⟩ : ∃ WZ, (w6.alloc (Obj.cells #[.int .i64 0, .string ⟨#[]⟩, .slice none 0 0, .bool false] 43)).alloc (Obj.cells #[.string ⟨#[]⟩, .slice none 0 0, .int .i64 0, .int .i64 0, .int .i64 0] 50) = WZ := ⟨_, rfl⟩
                     have e1 : (w6.alloc (Obj.cells #[.int .i64 0, .string ⟨#[]⟩, .slice none 0 0, .bool false] 43)).heap.size = w6.heap.size + 1 := by simp
                     have hZ : Cw w WZ w.heap.size line (.slice A lits.length cA) kk lt c2 := by rw [← hWZ]; exact (H6.out.below (below_alloc (Below.refl _ _) _)).below (below_alloc (Below.refl _ _) _)
                     have hpZ : WZ.heap[w6.heap.size]? = some (.cells #[.int .i64 0, .string ⟨#[]⟩, .slice none 0 0, .bool false] 43 (0, 0)) := by rw [← hWZ]; exact blk_alloc (blk_new w6 _) _
                     have hqZ : WZ.heap[w6.heap.size + 1]? = some (.cells #[.string ⟨#[]⟩, .slice none 0 0, .int .i64 0, .int .i64 0, .int .i64 0] 50 (0, 0)) := by rw [← hWZ, ← e1]; exact blk_new _ _
                     have xz0 := blk_cell hpZ 0
                     have xz1 := blk_cell hpZ 1
                     have xz2 := blk_cell hpZ 2
                     have xz3 := blk_cell hpZ 3
                     have yz0 := blk_cell hqZ 0
                     have yz1 := blk_cell hqZ 1
                     have yz2 := blk_cell hqZ 2
                     have yz3 := blk_cell hqZ 3
                     have yz4 := blk_cell hqZ 4
                     simp only [List.getElem?_toArray, List.getElem?_cons_zero, List.getElem?_cons_succ] at xz0 xz1 xz2 xz3 yz0 yz1 yz2 yz3 yz4
                     have xzz : ∀ j, WZ.frozen? ⟨w6.heap.size, j, none⟩ = false := fun j => blk_frozen hpZ j
                     have yzz : ∀ j, WZ.frozen? ⟨w6.heap.size + 1, j, none⟩ = false := fun j => blk_frozen hqZ j
                     obtain ⟨WA, hWA⟩ : ∃ WA, ((((((((WZ.setCell ⟨w6.heap.size, 0, none⟩ (.int .i64 wd.f0)).setCell ⟨w6.heap.size, 1, none⟩ (.string wd.f1)).setCell ⟨w6.heap.size, 2, none⟩ (.slice A6 wd.f2.length c6)).setCell ⟨w6.heap.size, 3, none⟩ (.bool false)).setCell ⟨w6.heap.size + 1, 0, none⟩ (.string line)).setCell ⟨w6.heap.size + 1, 1, none⟩ (.slice A lits.length cA)).setCell ⟨w6.heap.size + 1, 2, none⟩ (.int .i64 (k6n : Int))).setCell ⟨w6.heap.size + 1, 3, none⟩ (.int .i64 (l6n : Int))).setCell ⟨w6.heap.size + 1, 4, none⟩ (.int .i64 (c3 : Int)) = WA := ⟨_, rfl⟩
                     have hg : w.heap.size + 1 < w6.heap.size := H6.out.lt
                     have hg' : w.heap.size + 1 < w6.heap.size + 1 := by omega
                     have hne : w6.heap.size ≠ w6.heap.size + 1 := by omega
                     have hA : Cw w WA w.heap.size line (.slice A lits.length cA) kk lt c2 := by rw [← hWA]; exact (((((((((hZ.setFar hg 0 _).setFar hg 1 _).setFar hg 2 _).setFar hg 3 _).setFar hg' 0 _).setFar hg' 1 _).setFar hg' 2 _).setFar hg' 3 _).setFar hg' 4 _)
                     have hpA : WA.heap[w6.heap.size]? = some (.cells #[.int .i64 wd.f0, .string wd.f1, .slice A6 wd.f2.length c6, .bool false] 43 (0, 0)) := by rw [← hWA]; exact (blk_far (blk_far (blk_far (blk_far (blk_far (blk_set (blk_set (blk_set (blk_set hpZ 0 _) 1 _) 2 _) 3 _) (p := ⟨w6.heap.size + 1, 0, none⟩) hne _) (p := ⟨w6.heap.size + 1, 1, none⟩) hne _) (p := ⟨w6.heap.size + 1, 2, none⟩) hne _) (p := ⟨w6.heap.size + 1, 3, none⟩) hne _) (p := ⟨w6.heap.size + 1, 4, none⟩) hne _)
                     have hqA : WA.heap[w6.heap.size + 1]? = some (.cells #[.string line, .slice A lits.length cA, .int .i64 (k6n : Int), .int .i64 (l6n : Int), .int .i64 (c3 : Int)] 50 (0, 0)) := by rw [← hWA]; exact (blk_set (blk_set (blk_set (blk_set (blk_set (blk_far (blk_far (blk_far (blk_far hqZ (p := ⟨w6.heap.size, 0, none⟩) (Ne.symm hne) _) (p := ⟨w6.heap.size, 1, none⟩) (Ne.symm hne) _) (p := ⟨w6.heap.size, 2, none⟩) (Ne.symm hne) _) (p := ⟨w6.heap.size, 3, none⟩) (Ne.symm hne) _) 0 _) 1 _) 2 _) 3 _) 4 _)
                     have hAF : ∀ j, j < w6.heap.size → WA.heap[j]? = w6.heap[j]? := fun j hj => by
                       have hj1 : j ≠ w6.heap.size := by omega
                       have hj2 : j ≠ w6.heap.size + 1 := by omega
                       rw [← hWA, Below.heap_setCell _ ⟨w6.heap.size + 1, 4, none⟩ _ _ hj2, Below.heap_setCell _ ⟨w6.heap.size + 1, 3, none⟩ _ _ hj2, Below.heap_setCell _ ⟨w6.heap.size + 1, 2, none⟩ _ _ hj2, Below.heap_setCell _ ⟨w6.heap.size + 1, 1, none⟩ _ _ hj2, Below.heap_setCell _ ⟨w6.heap.size + 1, 0, none⟩ _ _ hj2, Below.heap_setCell _ ⟨w6.heap.size, 3, none⟩ _ _ hj1, Below.heap_setCell _ ⟨w6.heap.size, 2, none⟩ _ _ hj1, Below.heap_setCell _ ⟨w6.heap.size, 1, none⟩ _ _ hj1, Below.heap_setCell _ ⟨w6.heap.size, 0, none⟩ _ _ hj1, ← hWZ, Below.heap_alloc _ _ j (by rw [e1]; omega)]
                       exact Below.heap_alloc w6 _ j hj
                     have HA : Hid _ := hA
                     have HAF : Hid (∀ j, j < w6.heap.size → WA.heap[j]? = w6.heap[j]?) := hAF
                     have y0 := blk_cell hqA 0
                     have y1 := blk_cell hqA 1
                     have y2 := blk_cell hqA 2
                     have y3 := blk_cell hqA 3
                     have y4 := blk_cell hqA 4
                     have x0 := blk_cell hpA 0
                     have x1 := blk_cell hpA 1
                     have x2 := blk_cell hpA 2
                     have x3 := blk_cell hpA 3
                     simp only [List.getElem?_toArray, List.getElem?_cons_zero, List.getElem?_cons_succ] at x0 x1 x2 x3 y0 y1 y2 y3 y4
                     have xaz : ∀ j, WA.frozen? ⟨w6.heap.size, j, none⟩ = false := fun j => blk_frozen hpA j
                     obtain ⟨r0, r1, r2, r3, r4, rz⟩ := hA.res
                     have hn1 : ¬ w6.heap.size + 1 = w.heap.size + 1 := by omega
                     have hn3 : ¬ w.heap.size + 1 = w6.heap.size + 1 := by omega
                     have hn5 : ¬ w6.heap.size = w.heap.size := by omega
                     have hn6 : ¬ w.heap.size = w6.heap.size := by omega
                     obtain ⟨WB, hWB⟩ : ∃ WB, WA.setCell ⟨w6.heap.size, 3, none⟩ (.bool true) = WB := ⟨_, rfl⟩
                     have hB : Cw w WB w.heap.size line (.slice A lits.length cA) kk lt c2 := by rw [← hWB]; exact hA.setFar hg 3 _
                     have hpB : WB.heap[w6.heap.size]? = some (.cells #[.int .i64 wd.f0, .string wd.f1, .slice A6 wd.f2.length c6, .bool true] 43 (0, 0)) := by rw [← hWB]; exact blk_set hpA 3 _
                     have hqB : WB.heap[w6.heap.size + 1]? = some (.cells #[.string line, .slice A lits.length cA, .int .i64 (k6n : Int), .int .i64 (l6n : Int), .int .i64 (c3 : Int)] 50 (0, 0)) := by rw [← hWB]; exact blk_far hqA (p := ⟨w6.heap.size, 3, none⟩) (Ne.symm hne) _
                     have hBF : ∀ j, j < w6.heap.size → WB.heap[j]? = w6.heap[j]? := fun j hj => by rw [← hWB, Below.heap_setCell _ ⟨w6.heap.size, 3, none⟩ _ _ (show j ≠ w6.heap.size by omega)]; exact hAF j hj
                     have u0 := blk_cell hpB 0
                     have u1 := blk_cell hpB 1
                     have u2 := blk_cell hpB 2
                     have u3 := blk_cell hpB 3
                     simp only [List.getElem?_toArray, List.getElem?_cons_zero, List.getElem?_cons_succ] at u0 u1 u2 u3
                     have hrowB : k43.R 43 WB w.heap.size (fun _ => True) (.slice A9 acc.length c9) acc := Kd.R_mono (Kd.R_step (Kd.R_bound (Kd.R_below HH.out.row hb6)) (fun j hj _ => hBF j hj.2.2.1)) (fun _ _ => trivial)
                     have hpM : k43.M WB w.heap.size (fun j => wr.heap.size ≤ j ∧ j < w6.heap.size) (glue wd true) [.int .i64 wd.f0, .string wd.f1, .slice A6 wd.f2.length c6, .bool true] :=
                       k43_mkM WB w.heap.size _ (glue wd true) (Kd.R_mono (Kd.R_step (Kd.R_lower (Kd.R_bound hR6) HH.out.cw.bel.size) (fun j hj _ => hBF j hj.2.2.1)) (fun j hj => ⟨hj.2.1, hj.2.2.1⟩))
                     have hokp : ∀ j, (wr.heap.size ≤ j ∧ j < w6.heap.size) → True ∧ some j ≠ (Value.slice A9 acc.length c9).ownBlock := fun j hj => ⟨trivial, fun e => by
                       obtain ⟨inn, ho⟩ := Kd.R_own HH.out.row
                       have := own_lt ho j e.symm
                       omega⟩
                     have HROW : Hid _ := hrowB
                     have HPM : Hid _ := hpM
                     have HOKP : Hid (∀ j, (wr.heap.size ≤ j ∧ j < w6.heap.size) → True ∧ some j ≠ (Value.slice A9 acc.length c9).ownBlock) := hokp
                     have HB : Hid _ := hB
                     have HQB : Hid _ := hqB
                     clear hb6 hR6 hls6 hll6 hkk6 hks6 hq6 hct6 hZ hpZ hqZ hA hpA hqA hAF hg hg' hne e1 hB hpB hqB hBF hrowB hpM hokp)
                  | ((with_reducible refine gate_builtin (b := .append) (xs := #[.tmp 100, .tmp 102]) rfl ?_); at_builtin
                     refine Kd.R_append k43 (w0 := w) w.heap.size rfl (.tmp 100) (.tmp 102) 24 43 (.agg #[.int .i64 0, .string ⟨#[]⟩, .slice none 0 0, .bool false]) 56 rfl Tryd.underlying24 info43 rfl (by decide) (by decide) (.slice A9 acc.length c9) acc (glue wd true) [.int .i64 wd.f0, .string wd.f1, .slice A6 wd.f2.length c6, .bool true] (fun _ => True) (fun j => wr.heap.size ≤ j ∧ j < w6.heap.size) rfl rfl HPM.out HOKP.out (fun _ _ => trivial) HROW.out HB.out.bel HB.out.bel.size (by have := HH.out.len; have := HH.out.pos; have := HC.out.2.2.2.1; omega) ?_
                     intro v1 w1 hR1 hB1 hg1 hat1
                     have hn9 := Kd.R_ne HROW.out HB.out.top (by decide)
                     have hn8 := Kd.R_ne HROW.out HB.out.r1 (by decide)
                     have hn7 := Kd.R_ne HROW.out HQB.out (by decide)
                     have hcw1 := HB.out.far hB1 hg1 (fun e => hn9 e.symm) (fun e => hn8 e.symm)
                     have hq1 := (hg1.block (w6.heap.size + 1) (blk_lt HQB.out) hn7).trans HQB.out
                     have v0 := blk_cell hq1 0
                     have v1' := blk_cell hq1 1
                     have v2 := blk_cell hq1 2
                     have v3 := blk_cell hq1 3
                     have v4 := blk_cell hq1 4
                     simp only [List.getElem?_toArray, List.getElem?_cons_zero, List.getElem?_cons_succ] at v0 v1' v2 v3 v4
                     obtain ⟨p0, p1, p2, p3, p4, pz⟩ := hcw1.cells
                     have HCW1 : Hid _ := hcw1
                     have HR1 : Hid _ := hR1
                     clear hR1 hB1 hg1 hat1 hn9 hn8 hn7 hcw1 hq1)
                  | fail)
                have hcwD := HCW1.out.setAll (k6n : Int) (l6n : Int) (c3 : Int)
                have hrowD := R43_keep HR1.out HCW1.out.top (fun j hj => put5_far w1 w.heap.size (.string line) (.slice A lits.length cA) (.int .i64 (k6n : Int)) (.int .i64 (l6n : Int)) (.int .i64 (c3 : Int)) hj)
                obtain ⟨WD, hWD⟩ : ∃ WD, put5 w1 w.heap.size (.string line) (.slice A lits.length cA) (.int .i64 (k6n : Int)) (.int .i64 (l6n : Int)) (.int .i64 (c3 : Int)) = WD := ⟨_, rfl⟩
                rw [hWD] at hcwD hrowD
                unfold put5 at hWD
                rw [hWD]
                have ep : posAt WD w.heap.size = k6n := by unfold posAt; rw [hcwD.cells.2.2.1]; rfl
                obtain ⟨hls6, hll6, hkk6, hks6, hq6, hct6⟩ := H7.out
                exact ⟨⟨false, acc ++ [glue wd true], k6n, l6n, c3, mp, rfl, ⟨hcwD, hrowD, by have := HH.out.fuel; omega, by have := HH.out.most; omega, hks6, by have := HH.out.from_; omega, hll6, hct6, by have := HH.out.len; rw [List.length_append, List.length_singleton]; omega, by rw [← HS3.out, HG.out, ← hls6, ← hq6]⟩⟩, by rw [ep, EP0.out]; omega⟩
    · have hltb : decide ((kk : Int) < (line.size : Int)) = false := decide_eq_false (by omega)
      have hge : (line.size : Int) ≤ (kk : Int) := by omega
      have hstep := HH.out.res
      rw [drop_end line kk (by omega), words_end] at hstep
      have HS : Hid _ := hstep
      have HGE : Hid (line.size ≤ kk) := (by omega : line.size ≤ kk)
      clear hstep hlt
      by_cases hd0 : depth = 0
      · have hdb : decide ((0 : Int) < (depth : Int)) = false := decide_eq_false (by omega)
        have hdi : (depth : Int) ≤ 0 := by omega
        have hS := HS.out
        rw [if_pos hd0] at hS
        have HS2 : Hid _ := hS
        clear hS hd0
        cases blank with
        | true =>
          have hres : R = .error 30 := HS2.out.symm
          have HRES : Hid _ := hres
          clear hres
          go_wp2
          go_region_with (fail)
          all_goals go_wp2
          all_goals (have hL := (HH.out.cw).leave (.string line) (.slice A lits.length cA) (.int .i64 kk) (.int .i64 lt) (.int .i64 c2))
          all_goals (obtain ⟨W9, hW9⟩ : ∃ W9, put5 (wr) (w.heap.size + 1) (.string line) (.slice A lits.length cA) (.int .i64 kk) (.int .i64 lt) (.int .i64 c2) = W9 := ⟨_, rfl⟩)
          all_goals (rw [hW9] at hL; unfold put5 at hW9; rw [hW9]; clear hW9)
          all_goals (refine bodyPost_ret (ret_tct rfl _ _ (w.heap.size + 1) _ rfl hL.2 rfl) rfl ?_)
          all_goals (rw [HRES.out]; exact RWs.err (by decide) (by first | exact below_drew hL.1 | exact hL.1) _ _ _ _ _ _)
        | false =>
          have hres : R = .ok (acc, c2, lits.drop lt, []) := HS2.out.symm
          have HRES : Hid _ := hres
          clear hres
          go_wp2
          go_region_with (fail)
          all_goals go_wp2
          all_goals (have hL := (HH.out.cw).leave (.string line) (.slice A lits.length cA) (.int .i64 kk) (.int .i64 lt) (.int .i64 c2))
          all_goals (obtain ⟨W9, hW9⟩ : ∃ W9, put5 (wr) (w.heap.size + 1) (.string line) (.slice A lits.length cA) (.int .i64 kk) (.int .i64 lt) (.int .i64 c2) = W9 := ⟨_, rfl⟩)
          all_goals (have hF := fun j h1 => put5_far (wr) (w.heap.size + 1) (.string line) (.slice A lits.length cA) (.int .i64 kk) (.int .i64 lt) (.int .i64 c2) (j := j) h1)
          all_goals rw [hW9] at hF
          all_goals (rw [hW9] at hL; unfold put5 at hW9; rw [hW9]; clear hW9)
          all_goals (refine bodyPost_ret (ret_tct rfl _ _ (w.heap.size + 1) _ rfl hL.2 rfl) rfl ?_)
          all_goals rw [HRES.out]
          all_goals (have hRR := R43_keep HH.out.row HH.out.cw.r1 hF)
          all_goals exact RWs.fine (by first | exact below_drew hL.1 | exact hL.1) (by first | exact Kd.R_below hRR (below_drew (Below.refl _ _)) | exact hRR) rfl HH.out.lit HH.out.from_ HH.out.pos (by rw [drop_end line kk HGE.out]) HH.out.cnt rfl rfl rfl
      · have hdb : decide ((0 : Int) < (depth : Int)) = true := decide_eq_true (by omega)
        have hdi : (0 : Int) < (depth : Int) := by omega
        have hres : R = .error 33 := by rw [← HS.out, if_neg hd0]
        have HRES : Hid _ := hres
        clear hres hd0
        go_wp2
        go_region_with (fail)
        all_goals go_wp2
        all_goals (have hL := (HH.out.cw).leave (.string line) (.slice A lits.length cA) (.int .i64 kk) (.int .i64 lt) (.int .i64 c2))
        all_goals (obtain ⟨W9, hW9⟩ : ∃ W9, put5 (wr) (w.heap.size + 1) (.string line) (.slice A lits.length cA) (.int .i64 kk) (.int .i64 lt) (.int .i64 c2) = W9 := ⟨_, rfl⟩)
        all_goals (rw [hW9] at hL; unfold put5 at hW9; rw [hW9]; clear hW9)
        all_goals (refine bodyPost_ret (ret_tct rfl _ _ (w.heap.size + 1) _ rfl hL.2 rfl) rfl ?_)
        all_goals (rw [HRES.out]; exact RWs.err (by decide) (by first | exact below_drew hL.1 | exact hL.1) _ _ _ _ _ _)
end Go.Proofs.YtbgcapgjnflmoaaDoor.Sc

/- The document's Scan. -/
namespace Go.Proofs.YtbgcapgjnflmoaaDoor.Sc
open Go.RowKit Go.Proofs.YtbgcapgjnflmoaaDoorW.PrintWords Go.Proofs.YtbgcapgjnflmoaaDoorW.PrintMore Go.Proofs.YtbgcapgjnflmoaaDoor.PLx
variable {w0 w w1 : World} {line : ByteArray}
theorem words_all {A : Option Addr} {cA : Nat} {lits : List ByteArray} (hcA : lits.length ≤ cA) (hll : lits.length ≤ 512) (hline : line.size ≤ 4096) (m : Nat) : WordsIH line A cA lits m := by
  induction m using Nat.strongRecOn with
  | _ m ih => exact words_step hcA hll hline m ih
set_option maxRecDepth 100000 in
set_option maxHeartbeats 4000000 in
theorem scanR_ok (line : ByteArray) {A : Option Addr} {cA : Nat} (lits : List ByteArray) (w : World) (hlit : Kd.string.C w A lits.length lits) (hcA : lits.length ≤ cA) (hls : lits.length ≤ 9223372036854775807) :
    Calls Tryd.prog 9 #[.string line, .slice A lits.length cA] w fun e w' => ∃ v, e = .returned (.tuple #[v, .int .i64 (scan line lits).2]) ∧ k43.R 43 w' w.heap.size (fun _ => True) v (scan line lits).1 ∧ Below w.heap.size w w' := by
  rw [← scan_same]
  obtain ⟨R, hR⟩ : ∃ R, scanR line lits = R := ⟨_, rfl⟩
  rw [hR]
  have HLIT : Hid _ := hlit
  have HC : Hid _ := hcA
  have HR : Hid _ := hR
  have hl9 : (lits.length : Int) ≤ 9223372036854775807 := by omega
  clear hlit hcA hR hls
  go_enter Tryd.func9, Tryd.ntmps9
  by_cases hshort : line.size ≤ 4096 ∧ lits.length ≤ 512
  · have hs1 : decide ((4096 : Int) < (line.size : Int)) = false := decide_eq_false (by omega)
    have hs2 : decide ((512 : Int) < (lits.length : Int)) = false := decide_eq_false (by omega)
    have HS : Hid _ := hshort
    clear hshort
    go_wp2
    go_loop [6] (fun vi => ∃ k : Nat, k ≤ lits.length ∧ vi = .int .i64 k ∧ Hid (∀ j (h : j < lits.length), j < k → lits[j].size ≤ 16384)) (fun vi => lits.length - (intOf vi).toNat)
    case atStart => exact ⟨0, Nat.zero_le _, rfl, (fun j h h2 => absurd h2 (by omega) : ∀ j (h : j < lits.length), j < 0 → lits[j].size ≤ 16384)⟩
    case round =>
      obtain ⟨k, hk, rfl, HK⟩ := hrel
      by_cases hlt : k < lits.length
      · obtain ⟨ad, rfl, hcell⟩ := (Kd.reads_of_C (d := ByteArray.empty) HLIT.out).2.2 (by omega)
        have hck := hcell k hlt
        have hltb : decide ((k : Int) < (lits.length : Int)) = true := decide_eq_true (by omega)
        have hlti : (k : Int) < (lits.length : Int) := by omega
        have hk0 : (0 : Int) ≤ (k : Int) := by omega
        obtain ⟨x, hx⟩ : ∃ x, lits.getD k ByteArray.empty = x := ⟨_, rfl⟩
        rw [hx] at hck
        have hxk : lits[k] = x := by rw [← hx, List.getD_eq_getElem?_getD, List.getElem?_eq_getElem hlt]; rfl
        have HXK : Hid _ := hxk
        have HLT : Hid _ := hlt
        clear hcell hx hxk
        by_cases hbig : 16384 < x.size
        · have hb : decide ((16384 : Int) < (x.size : Int)) = true := decide_eq_true (by omega)
          have HB : Hid _ := hbig
          clear hbig
          go_wp2
          go_ret2
          have hsc : R = ([], 2) := by
            rw [← HR.out]; unfold scanR
            rw [if_pos HS.out, if_neg]
            rw [List.all_eq_true]
            intro hall
            have := of_decide_eq_true (hall x (by rw [← HXK.out]; exact List.getElem_mem HLT.out))
            have := HB.out
            omega
          rw [hsc]
          exact ⟨_, rfl, Kd.R_nil _ _ _ _ _, Below.refl _ _⟩
        · have hb : decide ((16384 : Int) < (x.size : Int)) = false := decide_eq_false (by omega)
          have HB : Hid _ := hbig
          clear hbig
          go_wp2
          have hnext : ∀ j (h : j < lits.length), j < k + 1 → lits[j].size ≤ 16384 := fun j h hj => by
            rcases (show j < k ∨ j = k by omega) with h2 | rfl
            · exact HK.out j h h2
            · have h5 := HXK.out; have := Nat.le_of_not_lt HB.out; rw [h5]; omega
          exact ⟨⟨k + 1, by have := HLT.out; omega, by simp, hnext⟩, by simp only [intOf]; have := HLT.out; omega⟩
      · have hltb : decide ((k : Int) < (lits.length : Int)) = false := decide_eq_false (by omega)
        have hle : (lits.length : Int) ≤ (k : Int) := by omega
        have hall : lits.all (fun x => decide (x.size ≤ 16384)) = true := by
          rw [List.all_eq_true]
          intro x hx
          obtain ⟨j, hj, rfl⟩ := List.mem_iff_getElem.1 hx
          exact decide_eq_true (HK.out j hj (by omega))
        have hsc : R = match words (line.size + 1) 0 0 false [] 0 lits (bytesL line) with
            | .error e => ([], e)
            | .ok (l, _, m, _) => if m = [] then (l, 0) else ([], 32) := by
          rw [← HR.out]; unfold scanR
          rw [if_pos HS.out, if_pos hall]
          rfl
        have HSC : Hid _ := hsc
        clear hall hsc hlt
        have hq := words_all (line := line) HC.out HS.out.2 HS.out.1 (line.size + 1) w 0 0 0 0 0 HLIT.out (Nat.zero_le _) (by omega) (Nat.zero_le _) (by omega) (by omega)
        unfold cu at hq
        rw [show ((0 : Nat) : Int) = 0 from rfl, show (((0 : UInt8).toNat : Nat) : Int) = 0 from rfl, List.drop_zero, List.drop_zero] at hq
        cases hwd : words (line.size + 1) 0 0 false [] 0 lits (bytesL line) with
        | error x =>
          rw [hwd] at hq
          have HQ : Hid _ := hq
          have hres : R = ([], x) := by rw [HSC.out, hwd]
          have HRES : Hid _ := hres
          clear hq hres hwd
          go_wp2_with (first
            | (go_at_call 23; refine Calls.mono HQ.out ?_; rintro e w6 ⟨hb6, hx6, A6, n6, c6, k6, l6, t6, he6⟩
               unfold cu at he6
               subst he6
               have hx0 : (x != 0) = true := bne_iff_ne.2 hx6
               have HB6 : Hid _ := hb6
               obtain ⟨WZ, hWZ⟩ : ∃ WZ, w6.alloc (Obj.cells #[.string ⟨#[]⟩, .slice none 0 0, .int .i64 0, .int .i64 0, .int .i64 0] 50) = WZ := ⟨_, rfl⟩
               have hbZ : WZ.heap[w6.heap.size]? = some (.cells #[.string ⟨#[]⟩, .slice none 0 0, .int .i64 0, .int .i64 0, .int .i64 0] 50 (0, 0)) := by rw [← hWZ]; exact blk_new w6 _
               have hlZ : Below w6.heap.size w6 WZ := by rw [← hWZ]; exact below_alloc (Below.refl _ _) _
               have x0 := blk_cell hbZ 0
               have x1 := blk_cell hbZ 1
               have x2 := blk_cell hbZ 2
               have x3 := blk_cell hbZ 3
               have x4 := blk_cell hbZ 4
               simp only [List.getElem?_toArray, List.getElem?_cons_zero, List.getElem?_cons_succ] at x0 x1 x2 x3 x4
               have xz : ∀ j, WZ.frozen? ⟨w6.heap.size, j, none⟩ = false := fun j => blk_frozen hbZ j
               have HLZ : Hid _ := hlZ
               clear hb6 hx6 hbZ hlZ)
            | fail)
          go_ret2
          rw [HRES.out]
          refine ⟨_, rfl, Kd.R_nil _ _ _ _ _, ?_⟩
          exact below_then HB6.out HB6.out.size (((((HLZ.out.setCell (p := ⟨w6.heap.size, 0, none⟩) (Nat.le_refl _) _).setCell (p := ⟨w6.heap.size, 1, none⟩) (Nat.le_refl _) _).setCell (p := ⟨w6.heap.size, 2, none⟩) (Nat.le_refl _) _).setCell (p := ⟨w6.heap.size, 3, none⟩) (Nat.le_refl _) _).setCell (p := ⟨w6.heap.size, 4, none⟩) (Nat.le_refl _) _)
        | ok vv =>
          obtain ⟨l, ct, ls, q⟩ := vv
          rw [hwd] at hq
          have HQ : Hid _ := hq
          have hres : R = if ls = [] then (l, 0) else ([], 32) := by rw [HSC.out, hwd]
          have HRES : Hid _ := hres
          clear hq hres hwd
          go_wp2_with (first
            | (go_at_call 23; refine Calls.mono HQ.out ?_; rintro e w6 ⟨hb6, v6, l6, k6, he6, hR6, hls6, hll6, hkk6, hks6, hq6, hct6⟩
               unfold cu at he6
               subst he6
               have HB6 : Hid _ := hb6
               obtain ⟨WZ, hWZ⟩ : ∃ WZ, w6.alloc (Obj.cells #[.string ⟨#[]⟩, .slice none 0 0, .int .i64 0, .int .i64 0, .int .i64 0] 50) = WZ := ⟨_, rfl⟩
               have hbZ : WZ.heap[w6.heap.size]? = some (.cells #[.string ⟨#[]⟩, .slice none 0 0, .int .i64 0, .int .i64 0, .int .i64 0] 50 (0, 0)) := by rw [← hWZ]; exact blk_new w6 _
               have hlZ : Below w6.heap.size w6 WZ := by rw [← hWZ]; exact below_alloc (Below.refl _ _) _
               have x0 := blk_cell hbZ 0
               have x1 := blk_cell hbZ 1
               have x2 := blk_cell hbZ 2
               have x3 := blk_cell hbZ 3
               have x4 := blk_cell hbZ 4
               simp only [List.getElem?_toArray, List.getElem?_cons_zero, List.getElem?_cons_succ] at x0 x1 x2 x3 x4
               have xz : ∀ j, WZ.frozen? ⟨w6.heap.size, j, none⟩ = false := fun j => blk_frozen hbZ j
               obtain ⟨WA, hWA⟩ : ∃ WA, ((((WZ.setCell ⟨w6.heap.size, 0, none⟩ (.string line)).setCell ⟨w6.heap.size, 1, none⟩ (.slice A lits.length cA)).setCell ⟨w6.heap.size, 2, none⟩ (.int .i64 (k6 : Int))).setCell ⟨w6.heap.size, 3, none⟩ (.int .i64 (l6 : Int))).setCell ⟨w6.heap.size, 4, none⟩ (.int .i64 (ct : Int)) = WA := ⟨_, rfl⟩
               have hlA : Below w6.heap.size w6 WA := by rw [← hWA]; exact ((((hlZ.setCell (p := ⟨w6.heap.size, 0, none⟩) (Nat.le_refl _) _).setCell (p := ⟨w6.heap.size, 1, none⟩) (Nat.le_refl _) _).setCell (p := ⟨w6.heap.size, 2, none⟩) (Nat.le_refl _) _).setCell (p := ⟨w6.heap.size, 3, none⟩) (Nat.le_refl _) _).setCell (p := ⟨w6.heap.size, 4, none⟩) (Nat.le_refl _) _
               have hbA : WA.heap[w6.heap.size]? = some (.cells #[.string line, .slice A lits.length cA, .int .i64 (k6 : Int), .int .i64 (l6 : Int), .int .i64 (ct : Int)] 50 (0, 0)) := by rw [← hWA]; exact blk_set (blk_set (blk_set (blk_set (blk_set hbZ 0 _) 1 _) 2 _) 3 _) 4 _
               have y3 := blk_cell hbA 3
               simp only [List.getElem?_toArray, List.getElem?_cons_zero, List.getElem?_cons_succ] at y3
               have HLA : Hid _ := And.intro hlA (Kd.R_below hR6 hlA)
               have hcase : (ls = [] ∧ decide ((l6 : Int) < (lits.length : Int)) = false ∧ (lits.length : Int) ≤ (l6 : Int)) ∨ (ls ≠ [] ∧ decide ((l6 : Int) < (lits.length : Int)) = true ∧ (l6 : Int) < (lits.length : Int)) := by
                 by_cases h : l6 < lits.length
                 · refine .inr ⟨?_, decide_eq_true (by omega), by omega⟩
                   rw [hls6]; intro e
                   have := congrArg List.length e
                   rw [List.length_drop] at this
                   simp at this; omega
                 · exact .inl ⟨by rw [hls6, List.drop_of_length_le (by omega)], decide_eq_false (by omega), by omega⟩
               clear hb6 hbZ hlZ hlA hbA hR6 hls6 hll6 hkk6 hks6 hq6 hct6
               rcases hcase with ⟨hnil, hcb, hci⟩ | ⟨hnil, hcb, hci⟩)
            | fail)
          · go_ret2
            rw [HRES.out, if_pos hnil]
            exact ⟨_, rfl, HLA.out.2, below_then HB6.out HB6.out.size HLA.out.1⟩
          · go_ret2
            rw [HRES.out, if_neg hnil]
            exact ⟨_, rfl, Kd.R_nil _ _ _ _ _, below_then HB6.out HB6.out.size HLA.out.1⟩
  · have HS : Hid _ := hshort
    have hsc : R = ([], 2) := by rw [← HR.out]; unfold scanR; rw [if_neg hshort]
    rw [hsc]
    have hw : (4096 < line.size) ∨ (¬ 4096 < line.size ∧ 512 < lits.length) := by omega
    clear hsc hshort
    rcases hw with h1 | ⟨h1, h2⟩
    · have hs1 : decide ((4096 : Int) < (line.size : Int)) = true := decide_eq_true (by omega)
      clear h1
      go_wp2
      go_ret2
      exact ⟨_, rfl, Kd.R_nil _ _ _ _ _, Below.refl _ _⟩
    · have hs1 : decide ((4096 : Int) < (line.size : Int)) = false := decide_eq_false (by omega)
      have hs2 : decide ((512 : Int) < (lits.length : Int)) = true := decide_eq_true (by omega)
      clear h1 h2
      go_wp2
      go_ret2
      exact ⟨_, rfl, Kd.R_nil _ _ _ _ _, Below.refl _ _⟩
end Go.Proofs.YtbgcapgjnflmoaaDoor.Sc
