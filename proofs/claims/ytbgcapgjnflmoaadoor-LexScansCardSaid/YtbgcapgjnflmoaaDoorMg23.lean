/- Contracts of the functions that the statement reaches, and plain lemmas: ScRef, ScRq. -/
import Derived.Test.YtbgcapgjnflmoaaDoorMg1
import Derived.Test.YtbgcapgjnflmoaaDoorMg4
import Derived.Test.YtbgcapgjnflmoaaDoorMg16
set_option linter.unusedVariables false
set_option linter.unusedSimpArgs false
set_option linter.unnecessarySimpa false
/- The document's way through a line, list by list, answers what the machine answers. -/
namespace Go.Proofs.YtbgcapgjnflmoaaDoor.Sc

abbrev Rs := Nat × List ByteArray × List UInt8
/-- One word, at c; rec: the words of a list (depth, end, count, literals, line). -/
def word (rec : Nat → UInt8 → Nat → List ByteArray → List UInt8 → Except Int (List Wd × Rs)) (depth ct : Nat) (ls : List ByteArray) (c : UInt8) (r : List UInt8) : Except Int (Wd × Rs) :=
  if starts c r = false then .error 30
  else if ct + 1 ≤ 512 then
    (if c = 34 then (match qd (if depth = 0 then 31 else 33) r [] with
      | .error e => .error e
      | .ok (t, q) => .ok (⟨2, ofB t, [], false⟩, ct + 1, ls, q))
    else if c = 40 ∨ c = 91 then (if depth < 12 then (match rec (depth + 1) (if c = 91 then 93 else 41) (ct + 1) ls r with
      | .error e => .error e
      | .ok (l, t) => .ok (⟨if c = 91 then 5 else 4, ofB [], l, false⟩, t)) else .error 33)
    else match ann (c :: r) with
      | some (n, _, q) => (match ls with
        | [] => .error 32
        | x :: xs => if x.size = n then .ok (⟨3, x, [], false⟩, ct + 1, xs, q) else .error 32)
      | none => .ok (⟨1, ofB ((c :: r).takeWhile gword), [], false⟩, ct + 1, ls, (c :: r).dropWhile gword))
  else .error 34
def glue (w : Wd) (g : Bool) : Wd := ⟨w.f0, w.f1, w.f2, g⟩
def words : Nat → Nat → UInt8 → Bool → List Wd → Nat → List ByteArray → List UInt8 → Except Int (List Wd × Rs)
  | 0, _, _, _, _, _, _, _ => .error 0
  | _ + 1, depth, _, blank, acc, ct, ls, [] => if depth = 0 then (if blank then .error 30 else .ok (acc, ct, ls, [])) else .error 33
  | n + 1, depth, en, blank, acc, ct, ls, c :: r =>
    if c = 32 then (if blank || acc.isEmpty || shuts r then .error 30 else words n depth en true acc ct ls r)
    else if c = 41 ∨ c = 93 then (if depth = 0 ∨ c ≠ en then .error 33 else .ok (acc, ct, ls, r))
    else match word (fun d e t m q => words n d e false [] t m q) depth ct ls c r with
      | .error e => .error e
      | .ok (w, t, m, q) => words n depth en false (acc ++ [glue w (!acc.isEmpty && !blank)]) t m q

/-- What the machine does behind the words of a list. -/
def behind (kind : Int) (glued : Bool) (below : List Fr) : Except Int (List Wd × Rs) → Except Int Ma
  | .error e => .error e
  | .ok (l, ct, ls, q) => (match below with
    | [] => .ok ⟨ct, ls, ⟨kind, glued, l⟩, []⟩
    | f :: b => run (q.length + 1) false false ⟨ct, ls, f.put ⟨kind, ofB [], l, glued⟩, b⟩ q)

theorem qd34 {c : UInt8} {r : List UInt8} (h : c = 34) : ann (c :: r) = none := by
  subst h
  rw [ann, if_neg (by decide)]
theorem ann_head {c : UInt8} {r : List UInt8} (h : c ≠ 123) : ann (c :: r) = none := by
  rw [ann, if_neg h]
def Ends (kind : Int) (en : UInt8) (below : List Fr) : Prop := below ≠ [] → (kind = 4 ∧ en = 41) ∨ (kind = 5 ∧ en = 93)
theorem put_ne (l : List Wd) (x : Wd) : (l ++ [x]).isEmpty = false := by cases l <;> rfl
theorem early_of (ct : Nat) (ls : List ByteArray) (f : Fr) (below : List Fr) : Ma.early ⟨ct, ls, f, below⟩ = if below.length = 0 then 31 else 33 := by
  unfold Ma.early
  cases below with
  | nil => rfl
  | cons a b => rfl
theorem same_way : ∀ (n : Nat) (en : UInt8) (blank : Bool) (acc : List Wd) (ct : Nat) (ls : List ByteArray) (rest : List UInt8) (below : List Fr) (kind : Int) (glued : Bool),
    rest.length < n → Ends kind en below →
    run (rest.length + 1) blank acc.isEmpty ⟨ct, ls, ⟨kind, glued, acc⟩, below⟩ rest = behind kind glued below (words n below.length en blank acc ct ls rest) ∧
    (∀ l t m q, words n below.length en blank acc ct ls rest = .ok (l, t, m, q) → q.length ≤ rest.length ∧ (below = [] → q = [])) := by
  intro n
  induction n with
  | zero => intro _ _ _ _ _ rest _ _ _ h; omega
  | succ n ih =>
    intro en blank acc ct ls rest below kind glued hlen hends
    cases rest with
    | nil =>
      unfold run words
      cases below with
      | nil => cases blank <;> simp [behind]
      | cons f b => simp [behind]
    | cons c r =>
      simp only [List.length_cons] at hlen ⊢
      unfold run words
      by_cases h32 : c = 32
      · subst h32
        rw [if_pos rfl]
        unfold round
        rw [if_pos rfl]
        cases hb : (blank || acc.isEmpty || shuts r) with
        | true => simp [behind]
        | false =>
          have := ih en true acc ct ls r below kind glued (by omega) hends
          simp only [Bool.false_eq_true, if_false]
          refine ⟨this.1, fun l t m q h => ?_⟩
          have := this.2 l t m q h
          exact ⟨by omega, this.2⟩
      · rw [if_neg h32]
        unfold round
        rw [if_neg h32]
        by_cases h41 : c = 41 ∨ c = 93
        · rw [if_pos h41, if_pos h41]
          cases below with
          | nil => simp [shut, behind]
          | cons f b =>
            have he := hends (by simp)
            unfold shut
            simp only
            by_cases hc : c = en
            · have : (kind = 4 ∧ c = 41) ∨ (kind = 5 ∧ c = 93) := by rw [hc]; exact he
              rw [if_pos this, if_neg (by simp [hc])]
              refine ⟨?_, fun l t m q h => ?_⟩
              · simp only [behind, Fr.word]
              · cases h; exact ⟨by omega, fun e => by cases e⟩
            · have : ¬ ((kind = 4 ∧ c = 41) ∨ (kind = 5 ∧ c = 93)) := by
                rintro (⟨k1, k2⟩ | ⟨k1, k2⟩)
                · rcases he with ⟨_, e⟩ | ⟨e, _⟩
                  · exact hc (k2.trans e.symm)
                  · rw [k1] at e; exact absurd e (by decide)
                · rcases he with ⟨e, _⟩ | ⟨_, e⟩
                  · rw [k1] at e; exact absurd e (by decide)
                  · exact hc (k2.trans e.symm)
              rw [if_neg this, if_pos (.inr hc)]
              simp [behind]
        · rw [if_neg h41, if_neg h41]
          unfold begin_ word
          by_cases hs : starts c r = false
          · rw [if_pos hs, if_pos hs]; simp [behind]
          · rw [if_neg hs, if_neg hs]
            simp only
            by_cases hct : ct + 1 ≤ 512
            · rw [if_pos hct, if_pos hct]
              -- a word that is put, and the rest of the line
              have put_ : ∀ (x : Wd) (ls' : List ByteArray) (q : List UInt8), q.length ≤ r.length → x.f3 = false →
                  run (r.length + 1) false (decide (below.length < below.length)) ⟨ct + 1, ls', (⟨kind, glued, acc⟩ : Fr).put (glue x (!blank && !acc.isEmpty)), below⟩ q
                    = behind kind glued below (words n below.length en false (acc ++ [glue x (!acc.isEmpty && !blank)]) (ct + 1) ls' q) ∧
                  (∀ l t m q', words n below.length en false (acc ++ [glue x (!acc.isEmpty && !blank)]) (ct + 1) ls' q = .ok (l, t, m, q') → q'.length ≤ r.length + 1 ∧ (below = [] → q' = [])) := by
                intro x ls' q hq _
                have := ih en false (acc ++ [glue x (!acc.isEmpty && !blank)]) (ct + 1) ls' q below kind glued (by omega) hends
                rw [put_ne] at this
                refine ⟨?_, fun l t m q' h => ?_⟩
                · rw [← this.1, show decide (below.length < below.length) = false by simp, Bool.and_comm]
                  exact run_fuel _ _ _ _ _ _ (by omega) (by omega)
                · have := this.2 l t m q' h
                  exact ⟨by omega, this.2⟩
              unfold enter
              by_cases h34 : c = 34
              · rw [qd34 h34, if_pos h34]
                simp only
                rw [if_pos h34, early_of]
                cases hq : qd (if below.length = 0 then 31 else 33) r [] with
                | error e => simp [behind]
                | ok v =>
                  obtain ⟨t, q⟩ := v
                  have := qd_le _ _ hq
                  exact put_ ⟨2, ofB t, [], false⟩ ls q (by omega) rfl
              · rw [if_neg h34]
                by_cases h40 : c = 40 ∨ c = 91
                · have h123 : c ≠ 123 := by rintro rfl; exact absurd h40 (by decide)
                  rw [ann_head h123, if_pos h40]
                  simp only
                  rw [if_neg h34, if_pos h40]
                  by_cases hd : below.length < 12
                  · rw [if_pos hd, if_pos hd]
                    simp only
                    have hin := ih (if c = 91 then 93 else 41) false [] (ct + 1) ls r (⟨kind, glued, acc⟩ :: below) (if c = 91 then 5 else 4) (!blank && !acc.isEmpty) (by omega) (fun _ => by
                      by_cases h91 : c = 91
                      · rw [if_pos h91, if_pos h91]; exact .inr ⟨rfl, rfl⟩
                      · rw [if_neg h91, if_neg h91]; exact .inl ⟨rfl, rfl⟩)
                    simp only [List.length_cons, List.isEmpty_nil] at hin
                    rw [show decide (below.length < ((⟨kind, glued, acc⟩ : Fr) :: below).length) = true by simp, hin.1]
                    cases hw : words n (below.length + 1) (if c = 91 then 93 else 41) false [] (ct + 1) ls r with
                    | error e => simp [behind]
                    | ok v =>
                      obtain ⟨l, t, m, q⟩ := v
                      have hq := (hin.2 l t m q hw).1
                      have := ih en false (acc ++ [glue ⟨if c = 91 then 5 else 4, ofB [], l, false⟩ (!acc.isEmpty && !blank)]) t m q below kind glued (by omega) hends
                      rw [put_ne] at this
                      simp only [behind]
                      refine ⟨?_, fun l' t' m' q' h => ?_⟩
                      · rw [Bool.and_comm (!blank)]
                        exact this.1
                      · have := this.2 l' t' m' q' h
                        exact ⟨by omega, this.2⟩
                  · rw [if_neg hd, if_neg hd]; simp [behind]
                · rw [if_neg h40]
                  cases ha : ann (c :: r) with
                  | some v =>
                    obtain ⟨k, p, q⟩ := v
                    have hq := ann_lt ha
                    simp only [List.length_cons] at hq
                    simp only [if_neg h34, if_neg h40]
                    cases ls with
                    | nil => simp [behind]
                    | cons x xs =>
                      simp only
                      by_cases hx : x.size = k
                      · rw [if_pos hx, if_pos hx]
                        exact put_ ⟨3, x, [], false⟩ xs q (by omega) rfl
                      · rw [if_neg hx, if_neg hx]; simp [behind]
                  | none =>
                    simp only [if_neg h34, if_neg h40]
                    have hg : gword c = true := by
                      unfold starts at hs
                      rw [ha] at hs
                      have e1 : (c == 34) = false := by simpa using h34
                      have e2 : (c == 40) = false := by simpa using fun e => h40 (.inl e)
                      have e3 : (c == 91) = false := by simpa using fun e => h40 (.inr e)
                      rw [e1, e2, e3] at hs
                      simpa using hs
                    have hq : ((c :: r).dropWhile gword).length ≤ r.length := by
                      rw [List.dropWhile_cons, if_pos hg]
                      exact dropWhile_le _ _
                    exact put_ ⟨1, ofB ((c :: r).takeWhile gword), [], false⟩ ls _ hq rfl
            · rw [if_neg hct, if_neg hct]; simp [behind]

/-- The document's Scan. -/
def scanR (s : ByteArray) (lits : List ByteArray) : List Wd × Int :=
  if s.size ≤ 4096 ∧ lits.length ≤ 512 then (if lits.all (fun x => decide (x.size ≤ 16384)) then (match words (s.size + 1) 0 0 false [] 0 lits (bytesL s) with
    | .error e => ([], e)
    | .ok (l, _, m, _) => if m = [] then (l, 0) else ([], 32)) else ([], 2)) else ([], 2)
theorem scan_same (s : ByteArray) (lits : List ByteArray) : scanR s lits = scan s lits := by
  have hl : (bytesL s).length = s.size := by unfold bytesL; rw [Array.length_toList]; rfl
  have := (same_way (s.size + 1) 0 false [] 0 lits (bytesL s) [] 0 false (by omega) (fun h => absurd rfl h)).1
  unfold scanR scan scanL
  simp only [List.length_nil, List.isEmpty_nil] at this
  unfold Fr.line
  rw [this]
  cases hw : words (s.size + 1) 0 0 false [] 0 lits (bytesL s) with
  | error e => rfl
  | ok v =>
    obtain ⟨l, t, m, q⟩ := v
    rfl
end Go.Proofs.YtbgcapgjnflmoaaDoor.Sc

/- The document's quoted word, walked. -/
namespace Go.Proofs.YtbgcapgjnflmoaaDoor.Sc
open Go.RowKit Go.Proofs.YtbgcapgjnflmoaaDoorW.PrintWords Go.Proofs.YtbgcapgjnflmoaaDoorW.PrintMore Go.Proofs.YtbgcapgjnflmoaaDoor.PLx
variable {w0 w w1 : World} {line : ByteArray} {sl : Value} {b : Nat} {k lit ct : Int}
/-- A cursor's five cells; a word's four. -/
def cu (line : ByteArray) (sl : Value) (k lit ct : Int) : Array Value := #[.string line, sl, .int .i64 k, .int .i64 lit, .int .i64 ct]
def wz : Array Value := #[.int .i64 0, .string ⟨#[]⟩, .slice none 0 0, .bool false]
/-- A call's own cursor at b; behind it the cells of its results. -/
structure Cu (w0 wr : World) (b : Nat) (line : ByteArray) (sl : Value) (k lit ct : Int) : Prop where
  bel : Below w0.heap.size w0 wr
  low : w0.heap.size ≤ b
  top : wr.heap[b]? = some (.cells (cu line sl k lit ct) 50 (0, 0))
  r1 : wr.heap[b + 1]? = some (.cells wz 43 (0, 0))
  r2 : wr.heap[b + 2]? = some (.cells (cu ⟨#[]⟩ (.slice none 0 0) 0 0 0) 50 (0, 0))
theorem Cu.start (w : World) (line : ByteArray) (sl : Value) (k lit ct : Int) : Cu w (((w.alloc (Obj.cells (cu line sl k lit ct) 50)).alloc (Obj.cells wz 43)).alloc (Obj.cells (cu ⟨#[]⟩ (.slice none 0 0) 0 0 0) 50)) w.heap.size line sl k lit ct := by
  have e1 : (w.alloc (Obj.cells (cu line sl k lit ct) 50)).heap.size = w.heap.size + 1 := by simp
  have e2 : ((w.alloc (Obj.cells (cu line sl k lit ct) 50)).alloc (Obj.cells wz 43)).heap.size = w.heap.size + 2 := by simp
  refine ⟨below_alloc (below_alloc (below_alloc (Below.refl _ _) _) _) _, Nat.le_refl _, blk_alloc (blk_alloc (blk_new w _) _) _, ?_, ?_⟩
  · rw [← e1]; exact blk_alloc (blk_new _ _) _
  · rw [← e2]; exact blk_new _ _
theorem Cu.below {wr w1 : World} (h : Cu w0 wr b line sl k lit ct) (hb : Below wr.heap.size wr w1) : Cu w0 w1 b line sl k lit ct :=
  ⟨below_then h.bel h.bel.size hb, h.low, blk_below h.top hb, blk_below h.r1 hb, blk_below h.r2 hb⟩
theorem Cu.drew {wr : World} (h : Cu w0 wr b line sl k lit ct) (n : Nat) : Cu w0 (wr.drewN n) b line sl k lit ct := h.below (pw_below_drewN (Below.refl _ _) n)
theorem Cu.setPos {wr : World} (h : Cu w0 wr b line sl k lit ct) (k' : Int) : Cu w0 (wr.setCell ⟨b, 2, none⟩ (.int .i64 k')) b line sl k' lit ct :=
  ⟨h.bel.setCell (p := ⟨b, 2, none⟩) h.low _, h.low, blk_set h.top 2 _, blk_far h.r1 (p := ⟨b, 2, none⟩) (by show b + 1 ≠ b; omega) _, blk_far h.r2 (p := ⟨b, 2, none⟩) (by show b + 2 ≠ b; omega) _⟩
theorem Cu.setLit {wr : World} (h : Cu w0 wr b line sl k lit ct) (k' : Int) : Cu w0 (wr.setCell ⟨b, 3, none⟩ (.int .i64 k')) b line sl k k' ct :=
  ⟨h.bel.setCell (p := ⟨b, 3, none⟩) h.low _, h.low, blk_set h.top 3 _, blk_far h.r1 (p := ⟨b, 3, none⟩) (by show b + 1 ≠ b; omega) _, blk_far h.r2 (p := ⟨b, 3, none⟩) (by show b + 2 ≠ b; omega) _⟩
theorem Cu.setCt {wr : World} (h : Cu w0 wr b line sl k lit ct) (k' : Int) : Cu w0 (wr.setCell ⟨b, 4, none⟩ (.int .i64 k')) b line sl k lit k' :=
  ⟨h.bel.setCell (p := ⟨b, 4, none⟩) h.low _, h.low, blk_set h.top 4 _, blk_far h.r1 (p := ⟨b, 4, none⟩) (by show b + 1 ≠ b; omega) _, blk_far h.r2 (p := ⟨b, 4, none⟩) (by show b + 2 ≠ b; omega) _⟩
theorem Cu.cells {wr : World} (h : Cu w0 wr b line sl k lit ct) : wr.cell? ⟨b, 0, none⟩ = some (.string line) ∧ wr.cell? ⟨b, 1, none⟩ = some sl ∧ wr.cell? ⟨b, 2, none⟩ = some (.int .i64 k) ∧ wr.cell? ⟨b, 3, none⟩ = some (.int .i64 lit) ∧ wr.cell? ⟨b, 4, none⟩ = some (.int .i64 ct) ∧ ∀ i, wr.frozen? ⟨b, i, none⟩ = false :=
  ⟨blk_cell h.top 0, blk_cell h.top 1, blk_cell h.top 2, blk_cell h.top 3, blk_cell h.top 4, fun i => blk_frozen h.top i⟩
theorem Cu.res1 {wr : World} (h : Cu w0 wr b line sl k lit ct) : wr.cell? ⟨b + 1, 0, none⟩ = some (.int .i64 0) ∧ wr.cell? ⟨b + 1, 1, none⟩ = some (.string ⟨#[]⟩) ∧ wr.cell? ⟨b + 1, 2, none⟩ = some (.slice none 0 0) ∧ wr.cell? ⟨b + 1, 3, none⟩ = some (.bool false) ∧ ∀ i, wr.frozen? ⟨b + 1, i, none⟩ = false :=
  ⟨blk_cell h.r1 0, blk_cell h.r1 1, blk_cell h.r1 2, blk_cell h.r1 3, fun i => blk_frozen h.r1 i⟩
theorem Cu.res2 {wr : World} (h : Cu w0 wr b line sl k lit ct) : wr.cell? ⟨b + 1 + 1, 0, none⟩ = some (.string ⟨#[]⟩) ∧ wr.cell? ⟨b + 1 + 1, 1, none⟩ = some (.slice none 0 0) ∧ wr.cell? ⟨b + 1 + 1, 2, none⟩ = some (.int .i64 0) ∧ wr.cell? ⟨b + 1 + 1, 3, none⟩ = some (.int .i64 0) ∧ wr.cell? ⟨b + 1 + 1, 4, none⟩ = some (.int .i64 0) ∧ ∀ i, wr.frozen? ⟨b + 1 + 1, i, none⟩ = false :=
  ⟨blk_cell h.r2 0, blk_cell h.r2 1, blk_cell h.r2 2, blk_cell h.r2 3, blk_cell h.r2 4, fun i => blk_frozen h.r2 i⟩
theorem Cu.far {wr w1 : World} {g : Option Nat} (h : Cu w0 wr b line sl k lit ct) (hb : Below w0.heap.size w0 w1) (hg : wr.grownBy w1 g) (h0 : g ≠ some b) (h1 : g ≠ some (b + 1)) (h2 : g ≠ some (b + 2)) : Cu w0 w1 b line sl k lit ct :=
  ⟨hb, h.low, (hg.block b (blk_lt h.top) (fun e => h0 e.symm)).trans h.top, (hg.block _ (blk_lt h.r1) (fun e => h1 e.symm)).trans h.r1, (hg.block _ (blk_lt h.r2) (fun e => h2 e.symm)).trans h.r2⟩
theorem ret_cct {fn : Func} {p p' u : Tmp} (h : fn.results = #[.cell p 43, .cell p' 50, .tmp u]) (tmps : Array Value) (w : World) (g g' : Nat) (cs cs' : Array Value)
    (hp : tmps.getD p undef = .pointer (some ⟨g, 0, none⟩)) (hg : w.heap[g]? = some (.cells cs 43 (0, 0))) (hs : cs.size = 4)
    (hp' : tmps.getD p' undef = .pointer (some ⟨g', 0, none⟩)) (hg' : w.heap[g']? = some (.cells cs' 50 (0, 0))) (hs' : cs'.size = 5) :
    (results fn tmps).run Tryd.prog w = .ok (.tuple #[.agg cs, .agg cs', tmps.getD u undef]) w :=
  results_list (rs := [.cell p 43, .cell p' 50, .tmp u]) h (by simp) (.cell g 43 cs (0, 0) _ hp hg Tryd.underlying43 rfl (by rw [hs]; kernel_rfl) (.cell g' 50 cs' (0, 0) _ hp' hg' Tryd.underlying50 rfl (by rw [hs']; kernel_rfl) (.tmp .nil)))
def put9 (wr : World) (b : Nat) (a0 a1 a2 a3 c0 c1 c2 c3 c4 : Value) : World :=
  ((((((((wr.setCell ⟨b + 1, 0, none⟩ a0).setCell ⟨b + 1, 1, none⟩ a1).setCell ⟨b + 1, 2, none⟩ a2).setCell ⟨b + 1, 3, none⟩ a3).setCell ⟨b + 1 + 1, 0, none⟩ c0).setCell ⟨b + 1 + 1, 1, none⟩ c1).setCell ⟨b + 1 + 1, 2, none⟩ c2).setCell ⟨b + 1 + 1, 3, none⟩ c3).setCell ⟨b + 1 + 1, 4, none⟩ c4
theorem Cu.leave {wr : World} (h : Cu w0 wr b line sl k lit ct) (a0 a1 a2 a3 c0 c1 c2 c3 c4 : Value) : Below w0.heap.size w0 (put9 wr b a0 a1 a2 a3 c0 c1 c2 c3 c4) ∧
    (put9 wr b a0 a1 a2 a3 c0 c1 c2 c3 c4).heap[b + 1]? = some (.cells #[a0, a1, a2, a3] 43 (0, 0)) ∧ (put9 wr b a0 a1 a2 a3 c0 c1 c2 c3 c4).heap[b + 1 + 1]? = some (.cells #[c0, c1, c2, c3, c4] 50 (0, 0)) := by
  have l1 : w0.heap.size ≤ b + 1 := by have := h.low; omega
  have l2 : w0.heap.size ≤ b + 1 + 1 := by have := h.low; omega
  have n1 : b + 1 ≠ b + 1 + 1 := by omega
  have n2 : b + 1 + 1 ≠ b + 1 := by omega
  refine ⟨?_, ?_, ?_⟩
  · unfold put9
    exact ((((((((h.bel.setCell (p := ⟨b + 1, 0, none⟩) l1 _).setCell (p := ⟨b + 1, 1, none⟩) l1 _).setCell (p := ⟨b + 1, 2, none⟩) l1 _).setCell (p := ⟨b + 1, 3, none⟩) l1 _).setCell (p := ⟨b + 1 + 1, 0, none⟩) l2 _).setCell (p := ⟨b + 1 + 1, 1, none⟩) l2 _).setCell (p := ⟨b + 1 + 1, 2, none⟩) l2 _).setCell (p := ⟨b + 1 + 1, 3, none⟩) l2 _).setCell (p := ⟨b + 1 + 1, 4, none⟩) l2 _
  · exact blk_far (blk_far (blk_far (blk_far (blk_far (blk_set (blk_set (blk_set (blk_set h.r1 0 a0) 1 a1) 2 a2) 3 a3) (p := ⟨b + 1 + 1, 0, none⟩) n1 _) (p := ⟨b + 1 + 1, 1, none⟩) n1 _) (p := ⟨b + 1 + 1, 2, none⟩) n1 _) (p := ⟨b + 1 + 1, 3, none⟩) n1 _) (p := ⟨b + 1 + 1, 4, none⟩) n1 _
  · exact blk_set (blk_set (blk_set (blk_set (blk_set (blk_far (blk_far (blk_far (blk_far h.r2 (p := ⟨b + 1, 0, none⟩) n2 _) (p := ⟨b + 1, 1, none⟩) n2 _) (p := ⟨b + 1, 2, none⟩) n2 _) (p := ⟨b + 1, 3, none⟩) n2 _) 0 c0) 1 c1) 2 c2) 3 c3) 4 c4
theorem gq_iff (b : UInt8) {ci : Int} (h : (b.toNat : Int) = ci) : gquote b = false ↔ (ci < 1 ∨ (¬ ci < 1 ∧ 127 < ci) ∨ (¬ ci < 1 ∧ ¬ 127 < ci ∧ ci = 10) ∨ (¬ ci < 1 ∧ ¬ 127 < ci ∧ ci ≠ 10 ∧ ci = 13)) := by
  unfold gquote
  have e10 : (b == 10) = decide (ci = 10) := by rw [Bool.eq_iff_iff, beq_iff_eq, decide_eq_true_iff, ← UInt8.toNat_inj, ← h]; show _ = 10 ↔ _; omega
  have e13 : (b == 13) = decide (ci = 13) := by rw [Bool.eq_iff_iff, beq_iff_eq, decide_eq_true_iff, ← UInt8.toNat_inj, ← h]; show _ = 13 ↔ _; omega
  rw [e10, e13, Bool.and_eq_false_iff, decide_eq_false_iff_not, Bool.not_eq_false', Bool.or_eq_true, decide_eq_true_iff, decide_eq_true_iff]
  omega
/-- What the document's quoted leaves. -/
def RQ (w0 : World) (line : ByteArray) (sl : Value) (lit ct : Int) (R : Except Int (List UInt8 × List UInt8)) (e : Ending) (w' : World) : Prop :=
  Below w0.heap.size w0 w' ∧ match R with
  | .error c => ∃ k : Int, e = .returned (.tuple #[.agg wz, .agg (cu line sl k lit ct), .int .i64 c])
  | .ok (t, q) => e = .returned (.tuple #[.agg #[.int .i64 2, .string (ofB t), .slice none 0 0, .bool false], .agg (cu line sl ((line.size - q.length : Nat) : Int) lit ct), .int .i64 0])
def Qr (w0 wr : World) (line : ByteArray) (sl : Value) (k : Nat) (lit ct : Int) (v : Value) (out : List UInt8) : Prop :=
  Cu w0 wr w0.heap.size line sl k lit ct ∧ wr.ownsRow w0.heap.size 5 1 v (ints out).length (nums .u8 (ints out))
theorem Qr.ne {wr : World} {k0 : Nat} {v : Value} {out : List UInt8} (q : Qr w0 wr line sl k0 lit ct v out) : v.ownBlock ≠ some w0.heap.size ∧ v.ownBlock ≠ some (w0.heap.size + 1) ∧ v.ownBlock ≠ some (w0.heap.size + 2) := by
  have key : ∀ g c t, t ≠ 5 → wr.heap[g]? = some (.cells c t (0, 0)) → v.ownBlock ≠ some g := fun g c t ht hc e => by
    obtain ⟨cs, hcs⟩ := own_typed q.2 g e
    rw [hc] at hcs
    simp only [Option.some.injEq, Obj.cells.injEq] at hcs
    exact ht hcs.2.1
  exact ⟨key _ _ _ (by decide) q.1.top, key _ _ _ (by decide) q.1.r1, key _ _ _ (by decide) q.1.r2⟩
theorem Qr.pos_ {wr : World} {k0 : Nat} {v : Value} {out : List UInt8} (q : Qr w0 wr line sl k0 lit ct v out) (k' : Nat) (z : Int) (hz : z = (k' : Int)) : Qr w0 (wr.setCell ⟨w0.heap.size, 2, none⟩ (.int .i64 z)) line sl k' lit ct v out := by
  subst hz
  exact ⟨q.1.setPos _, own_setCell q.2 (fun e => q.ne.1 (by rw [e])) _⟩
theorem Qr.grow {wr w1 : World} {k0 : Nat} {v v1 : Value} {out : List UInt8} (q : Qr w0 wr line sl k0 lit ct v out) {c : UInt8} (hown : w1.ownsRow w0.heap.size 5 1 v1 (ints out ++ [(c.toNat : Int)]).length (nums .u8 (ints out ++ [(c.toNat : Int)])))
    (hb : Below w0.heap.size w0 w1) (hg : wr.grownBy w1 v.ownBlock) : Qr w0 w1 line sl k0 lit ct v1 (out ++ [c]) := by
  refine ⟨q.1.far hb hg q.ne.1 q.ne.2.1 q.ne.2.2, ?_⟩
  rw [ints_snoc]; exact hown
theorem Qr.conv {wr : World} {k0 : Nat} {v : Value} {out : List UInt8} (q : Qr w0 wr line sl k0 lit ct v out) : (convert 41 9 v).run Tryd.prog wr = .ok (.string (ofB out)) wr := by
  rw [← str_ints]
  exact own_string (P := Tryd.prog) Tryd.underlying41 Tryd.underlying5 Tryd.underlying9 q.2
theorem Qr.drew_ {wr : World} {k0 : Nat} {v : Value} {out : List UInt8} (q : Qr w0 wr line sl k0 lit ct v out) : Qr w0 wr.drew line sl k0 lit ct v out :=
  ⟨q.1.below (below_drew (Below.refl _ _)), pw_own_below q.2 (below_drew (Below.refl _ _))⟩
theorem Qr.posAt {wr : World} {k0 : Nat} {v : Value} {out : List UInt8} (q : Qr w0 wr line sl k0 lit ct v out) : posAt wr w0.heap.size = k0 := by
  unfold Sc.posAt
  rw [q.1.cells.2.2.1]; rfl
set_option maxRecDepth 100000 in
theorem unended_eq (d : Nat) (w : World) : Calls Tryd.prog 62 #[.int .i64 (d : Int)] w fun e w' => e = .returned (.int .i64 (if d = 0 then 31 else 33)) ∧ w' = w := by
  by_cases h : d = 0
  · subst h
    go_enter Tryd.func62, Tryd.ntmps62
    go_wp2
    go_ret
    exact ⟨rfl, rfl⟩
  · have h1 : decide ((0 : Int) < (d : Int)) = true := decide_eq_true (by omega)
    rw [if_neg h]
    go_enter Tryd.func62, Tryd.ntmps62
    go_wp2
    go_ret
    exact ⟨rfl, rfl⟩
set_option maxRecDepth 100000 in
set_option maxHeartbeats 4000000 in
theorem quotedR_ok (hline : line.size ≤ 4096) (A : Option Addr) (n cA k0 : Nat) (hk : k0 ≤ line.size) (lit ct : Int) (depth : Nat) (hd : depth ≤ 100) :
    Calls Tryd.prog 52 #[.agg (cu line (.slice A n cA) k0 lit ct), .int .i64 depth] w (RQ w line (.slice A n cA) lit ct (qd (if depth = 0 then 31 else 33) ((bytesL line).drop k0) [])) := by
  obtain ⟨ee, hee⟩ : ∃ ee : Int, (if depth = 0 then 31 else 33) = ee := ⟨_, rfl⟩
  rw [hee]
  have HEE : Hid _ := hee
  clear hee
  obtain ⟨R, hR⟩ : ∃ R, qd ee ((bytesL line).drop k0) [] = R := ⟨_, rfl⟩
  rw [hR]
  have HI : Hid (Qr w _ line (.slice A n cA) k0 lit ct (.slice none 0 0) []) := ⟨Cu.start w line (.slice A n cA) k0 lit ct, own_nil _ _ _ _⟩
  have HR : Hid _ := hR
  have HK : Hid _ := hk
  have HL : Hid _ := hline
  clear hR hk hline
  go_enter Tryd.func52, Tryd.ntmps52
  go_wp2
  go_loopw [7] (fun vout wr => ∃ (k : Nat) (out : List UInt8), Hid (Qr w wr line (.slice A n cA) k lit ct vout out ∧ out.length ≤ k ∧ k ≤ line.size ∧ qd ee ((bytesL line).drop k) out = R)) (fun _ wr => line.size - posAt wr w.heap.size)
  case atStart => exact ⟨k0, [], ⟨HI.out, Nat.zero_le _, HK.out, HR.out⟩⟩
  case round =>
    obtain ⟨k, out, HH⟩ := hrel
    obtain ⟨d0, d1, d2, d3, d4, dz⟩ := HH.out.1.1.cells
    obtain ⟨e0, e1, e2, e3, ez⟩ := HH.out.1.1.res1
    obtain ⟨f0, f1, f2, f3, f4, fz⟩ := HH.out.1.1.res2
    have hkl : (k : Int) ≤ 4096 := by have := HH.out.2.2.1; have := HL.out; omega
    have hk0 : (0 : Int) ≤ (k : Int) := by omega
    by_cases hlt : k < line.size
    · have hltb : decide ((k : Int) < (line.size : Int)) = true := decide_eq_true (by omega)
      have hlti : (k : Int) < (line.size : Int) := by omega
      obtain ⟨b, hb⟩ : ∃ b, line[k] = b := ⟨_, rfl⟩
      obtain ⟨ci, hci⟩ : ∃ ci : Int, (b.toNat : Int) = ci := ⟨_, rfl⟩
      have hix : ∀ h : k < line.size, ((line[k]'h).toNat : Int) = ci := fun h => by rw [hb]; exact hci
      have hcr0 : (0 : Int) ≤ ci := by omega
      have hcr1 : ci < 256 := by have := b.toNat_lt; omega
      have hstep := HH.out.2.2.2
      rw [drop_at line k hlt, hb] at hstep
      have HS : Hid _ := hstep
      have HCI : Hid _ := hci
      have HG := gq_iff b hci
      clear hb hci hstep
      cases hg : gquote b with
      | false =>
        rw [hg] at HG
        have hbad := HG.1 rfl
        have hres : R = .error 31 := by
          have := HS.out
          rw [qdbad (fun e => by rw [e] at hg; exact absurd hg (by decide)) hg] at this
          exact this.symm
        have HRES : Hid _ := hres
        clear HG hg hres
        rcases hbad with h1 | ⟨h1, h2⟩ | ⟨h1, h2, h3⟩ | ⟨h1, h2, h3, h4⟩
        · have g1 : decide (ci < 1) = true := decide_eq_true h1
          clear h1
          go_wp2
          go_region_with (fail)
          all_goals go_wp2
          all_goals (have hL := (HH.out.1.1).leave (.int .i64 0) (.string ⟨#[]⟩) (.slice none 0 0) (.bool false) (.string line) (.slice A n cA) (.int .i64 k) (.int .i64 lit) (.int .i64 ct))
          all_goals (obtain ⟨W9, hW9⟩ : ∃ W9, put9 (wr) w.heap.size (.int .i64 0) (.string ⟨#[]⟩) (.slice none 0 0) (.bool false) (.string line) (.slice A n cA) (.int .i64 k) (.int .i64 lit) (.int .i64 ct) = W9 := ⟨_, rfl⟩)
          all_goals (rw [hW9] at hL; unfold put9 at hW9; rw [hW9]; clear hW9)
          all_goals (refine bodyPost_ret (ret_cct rfl _ _ (w.heap.size + 1) (w.heap.size + 1 + 1) _ _ rfl hL.2.1 rfl rfl hL.2.2 rfl) rfl ?_)
          all_goals (rw [HRES.out]; first | exact ⟨below_drew hL.1, k, rfl⟩ | exact ⟨hL.1, k, rfl⟩)
        · have g1 : decide (ci < 1) = false := decide_eq_false h1
          have g2 : decide ((127 : Int) < ci) = true := decide_eq_true h2
          clear h1 h2
          go_wp2
          go_region_with (fail)
          all_goals go_wp2
          all_goals (have hL := (HH.out.1.1).leave (.int .i64 0) (.string ⟨#[]⟩) (.slice none 0 0) (.bool false) (.string line) (.slice A n cA) (.int .i64 k) (.int .i64 lit) (.int .i64 ct))
          all_goals (obtain ⟨W9, hW9⟩ : ∃ W9, put9 (wr) w.heap.size (.int .i64 0) (.string ⟨#[]⟩) (.slice none 0 0) (.bool false) (.string line) (.slice A n cA) (.int .i64 k) (.int .i64 lit) (.int .i64 ct) = W9 := ⟨_, rfl⟩)
          all_goals (rw [hW9] at hL; unfold put9 at hW9; rw [hW9]; clear hW9)
          all_goals (refine bodyPost_ret (ret_cct rfl _ _ (w.heap.size + 1) (w.heap.size + 1 + 1) _ _ rfl hL.2.1 rfl rfl hL.2.2 rfl) rfl ?_)
          all_goals (rw [HRES.out]; first | exact ⟨below_drew hL.1, k, rfl⟩ | exact ⟨hL.1, k, rfl⟩)
        · have g1 : decide (ci < 1) = false := decide_eq_false h1
          have g2 : decide ((127 : Int) < ci) = false := decide_eq_false h2
          have g3 : (ci == 10) = true := beq_iff_eq.2 h3
          clear h1 h2 h3
          go_wp2
          go_region_with (fail)
          all_goals go_wp2
          all_goals (have hL := (HH.out.1.1).leave (.int .i64 0) (.string ⟨#[]⟩) (.slice none 0 0) (.bool false) (.string line) (.slice A n cA) (.int .i64 k) (.int .i64 lit) (.int .i64 ct))
          all_goals (obtain ⟨W9, hW9⟩ : ∃ W9, put9 (wr) w.heap.size (.int .i64 0) (.string ⟨#[]⟩) (.slice none 0 0) (.bool false) (.string line) (.slice A n cA) (.int .i64 k) (.int .i64 lit) (.int .i64 ct) = W9 := ⟨_, rfl⟩)
          all_goals (rw [hW9] at hL; unfold put9 at hW9; rw [hW9]; clear hW9)
          all_goals (refine bodyPost_ret (ret_cct rfl _ _ (w.heap.size + 1) (w.heap.size + 1 + 1) _ _ rfl hL.2.1 rfl rfl hL.2.2 rfl) rfl ?_)
          all_goals (rw [HRES.out]; first | exact ⟨below_drew hL.1, k, rfl⟩ | exact ⟨hL.1, k, rfl⟩)
        · have g1 : decide (ci < 1) = false := decide_eq_false h1
          have g2 : decide ((127 : Int) < ci) = false := decide_eq_false h2
          have g3 : (ci == 10) = false := beq_eq_false_iff_ne.2 h3
          have g4 : (ci == 13) = true := beq_iff_eq.2 h4
          clear h1 h2 h3 h4
          go_wp2
          go_region_with (fail)
          all_goals go_wp2
          all_goals (have hL := (HH.out.1.1).leave (.int .i64 0) (.string ⟨#[]⟩) (.slice none 0 0) (.bool false) (.string line) (.slice A n cA) (.int .i64 k) (.int .i64 lit) (.int .i64 ct))
          all_goals (obtain ⟨W9, hW9⟩ : ∃ W9, put9 (wr) w.heap.size (.int .i64 0) (.string ⟨#[]⟩) (.slice none 0 0) (.bool false) (.string line) (.slice A n cA) (.int .i64 k) (.int .i64 lit) (.int .i64 ct) = W9 := ⟨_, rfl⟩)
          all_goals (rw [hW9] at hL; unfold put9 at hW9; rw [hW9]; clear hW9)
          all_goals (refine bodyPost_ret (ret_cct rfl _ _ (w.heap.size + 1) (w.heap.size + 1 + 1) _ _ rfl hL.2.1 rfl rfl hL.2.2 rfl) rfl ?_)
          all_goals (rw [HRES.out]; first | exact ⟨below_drew hL.1, k, rfl⟩ | exact ⟨hL.1, k, rfl⟩)
      | true =>
        rw [hg] at HG
        have hgood : ¬ ci < 1 ∧ ¬ 127 < ci ∧ ci ≠ 10 ∧ ci ≠ 13 := by
          have := fun h => (show False from absurd (HG.2 h) (by decide))
          refine ⟨fun h => this (.inl h), fun h => ?_, fun h => ?_, fun h => ?_⟩
          · exact this (.inr (.inl ⟨by omega, h⟩))
          · by_cases h2 : ci < 1
            · exact this (.inl h2)
            · by_cases h3 : 127 < ci
              · exact this (.inr (.inl ⟨h2, h3⟩))
              · exact this (.inr (.inr (.inl ⟨h2, h3, h⟩)))
          · by_cases h2 : ci < 1
            · exact this (.inl h2)
            · by_cases h3 : 127 < ci
              · exact this (.inr (.inl ⟨h2, h3⟩))
              · exact this (.inr (.inr (.inr ⟨h2, h3, by omega, h⟩)))
        have g1 : decide (ci < 1) = false := decide_eq_false hgood.1
        have g2 : decide ((127 : Int) < ci) = false := decide_eq_false hgood.2.1
        have g3 : (ci == 10) = false := beq_eq_false_iff_ne.2 hgood.2.2.1
        have g4 : (ci == 13) = false := beq_eq_false_iff_ne.2 hgood.2.2.2
        have HGQ : Hid _ := hg
        clear HG hg hgood
        by_cases e34 : ci = 34
        · have b34 : (ci == 34) = true := beq_iff_eq.2 e34
          have hb34 : b = 34 := u8_of HCI.out 34 (by decide) e34
          have hres : R = .ok (out, (bytesL line).drop (k + 1)) := by
            have := HS.out
            rw [hb34, qd34'] at this
            exact this.symm
          have HRES : Hid _ := hres
          have Q1 : Hid _ := Qr.pos_ HH.out.1 (k + 1) ((k : Int) + 1) (by omega)
          have hcv := Qr.conv Q1.out
          have hcv2 := Qr.conv (Qr.drew_ Q1.out)
          clear e34 hb34 hres
          go_wp2
          go_region_with (fail)
          all_goals go_wp2
          all_goals (have hL := (HH.out.1.1.setPos ((k : Int) + 1)).leave (.int .i64 2) (.string (ofB out)) (.slice none 0 0) (.bool false) (.string line) (.slice A n cA) (.int .i64 ((k : Int) + 1)) (.int .i64 lit) (.int .i64 ct))
          all_goals (obtain ⟨W9, hW9⟩ : ∃ W9, put9 (wr.setCell ⟨w.heap.size, 2, none⟩ (.int .i64 ((k : Int) + 1))) w.heap.size (.int .i64 2) (.string (ofB out)) (.slice none 0 0) (.bool false) (.string line) (.slice A n cA) (.int .i64 ((k : Int) + 1)) (.int .i64 lit) (.int .i64 ct) = W9 := ⟨_, rfl⟩)
          all_goals (rw [hW9] at hL; unfold put9 at hW9; rw [hW9]; clear hW9)
          all_goals (refine bodyPost_ret (ret_cct rfl _ _ (w.heap.size + 1) (w.heap.size + 1 + 1) _ _ rfl hL.2.1 rfl rfl hL.2.2 rfl) rfl ?_)
          all_goals rw [HRES.out]
          all_goals (have hq : ((line.size - ((bytesL line).drop (k + 1)).length : Nat) : Int) = (k : Int) + 1 := by rw [List.length_drop, bytesL_len]; omega)
          all_goals (refine ⟨by first | exact below_drew hL.1 | exact hL.1, ?_⟩)
          all_goals (show _ = _)
          all_goals (rw [hq]; rfl)
        · have b34 : (ci == 34) = false := beq_eq_false_iff_ne.2 e34
          have hn34 : b ≠ 34 := u8_ne HCI.out 34 (by decide) e34
          have N34 : Hid _ := hn34
          clear e34 hn34
          by_cases e92 : ci = 92
          · have b92 : (ci == 92) = true := beq_iff_eq.2 e92
            have hb92 : b = 92 := u8_of HCI.out 92 (by decide) e92
            have H92 : Hid _ := hb92
            have Q1 : Hid _ := Qr.pos_ HH.out.1 (k + 1) ((k : Int) + 1) (by omega)
            obtain ⟨W1, hW1⟩ : ∃ W1, wr.setCell ⟨w.heap.size, 2, none⟩ (.int .i64 ((k : Int) + 1)) = W1 := ⟨_, rfl⟩
            rw [hW1] at Q1
            obtain ⟨m0, m1, m2, m3, m4, mz⟩ := Q1.out.1.cells
            obtain ⟨n0, n1, n2, n3, nz⟩ := Q1.out.1.res1
            obtain ⟨o0, o1, o2, o3, o4, oz⟩ := Q1.out.1.res2
            have hk1 : ((k + 1 : Nat) : Int) = (k : Int) + 1 := by omega
            have hk2 : (0 : Int) ≤ (k : Int) + 1 := by omega
            rw [hk1] at m2
            clear e92 hb92 hk1
            by_cases hend : k + 1 = line.size
            · have bend : decide ((line.size : Int) ≤ (k : Int) + 1) = true := decide_eq_true (by omega)
              have hres : R = .error ee := by
                have := HS.out
                rw [H92.out, drop_end line (k + 1) (by omega), qd92e] at this
                exact this.symm
              have HRES : Hid _ := hres
              have HEND : Hid _ := hend
              clear hres hend
              go_wp2
              go_region_with (first | (go_at_call 62; refine Calls.mono (unended_eq depth _) ?_; rw [HEE.out]; rintro e w' ⟨rfl, h'⟩; replace h' := h'.symm; subst h') | fail)
              all_goals go_wp2
              all_goals (have hL := (Q1.out.1).leave (.int .i64 0) (.string ⟨#[]⟩) (.slice none 0 0) (.bool false) (.string line) (.slice A n cA) (.int .i64 ((k : Int) + 1)) (.int .i64 lit) (.int .i64 ct))
              all_goals (obtain ⟨W9, hW9⟩ : ∃ W9, put9 (W1) w.heap.size (.int .i64 0) (.string ⟨#[]⟩) (.slice none 0 0) (.bool false) (.string line) (.slice A n cA) (.int .i64 ((k : Int) + 1)) (.int .i64 lit) (.int .i64 ct) = W9 := ⟨_, rfl⟩)
              all_goals (rw [hW9] at hL; unfold put9 at hW9; rw [hW9]; clear hW9)
              all_goals (refine bodyPost_ret (ret_cct rfl _ _ (w.heap.size + 1) (w.heap.size + 1 + 1) _ _ rfl hL.2.1 rfl rfl hL.2.2 rfl) rfl ?_)
              all_goals (rw [HRES.out]; first | exact ⟨below_drew hL.1, (k : Int) + 1, rfl⟩ | exact ⟨hL.1, (k : Int) + 1, rfl⟩)
            · have bend : decide ((line.size : Int) ≤ (k : Int) + 1) = false := decide_eq_false (by omega)
              have hk3 : k + 1 < line.size := by omega
              have hk4 : (k : Int) + 1 < (line.size : Int) := by omega
              obtain ⟨d, hd'⟩ : ∃ d, line[k + 1] = d := ⟨_, rfl⟩
              obtain ⟨di, hdi⟩ : ∃ di : Int, (d.toNat : Int) = di := ⟨_, rfl⟩
              have hix2 : ∀ h : k + 1 < line.size, ((line[k + 1]'h).toNat : Int) = di := fun h => by rw [hd']; exact hdi
              have hdr0 : (0 : Int) ≤ di := by omega
              have hdr1 : di < 256 := by have := d.toNat_lt; omega
              have HK3 : Hid _ := hk3
              have hS2 := HS.out
              rw [H92.out, drop_at line (k + 1) hk3, hd'] at hS2
              have HS2 : Hid _ := hS2
              have HDI : Hid _ := hdi
              clear hend hd' hdi hS2 hk3
              by_cases hdd : di = 34 ∨ di = 92
              · have hDD : d = 34 ∨ d = 92 := by
                  rcases hdd with e | e
                  · exact .inl (u8_of HDI.out 34 (by decide) e)
                  · exact .inr (u8_of HDI.out 92 (by decide) e)
                have DD : Hid _ := hDD
                have e97 : (di != 34) = false ∨ ((di != 34) = true ∧ (di != 92) = false) := by
                  by_cases e : di = 34
                  · exact .inl (by rw [e]; rfl)
                  · refine .inr ⟨by simpa using e, ?_⟩
                    rcases hdd with h | h
                    · exact absurd h e
                    · rw [h]; rfl
                clear hdd hDD
                rcases e97 with e1 | ⟨e1, e2'⟩
                · skip
                  have hbase : w.heap.size ≤ (W1).heap.size := (Q1.out).1.bel.size
                  have HBASE : Hid _ := hbase
                  clear hbase
                  go_wp2_with (first
                    | ((with_reducible refine gate_builtin (b := .append) (xs := #[.tmp 83, .tmp 85]) rfl ?_); at_builtin
                       refine print_append_num (w0 := w) w.heap.size rfl (.tmp 83) (.tmp 85) 41 5 .u8 1 rfl Tryd.underlying41 info5 (by decide) u7 (ints out) di rfl rfl (Q1.out).2 (Q1.out).1.bel HBASE.out (by have := HH.out.2.1; have := HH.out.2.2.1; have := HL.out; simp only [ints, List.length_map]; omega) ?_
                       intro v1 w1 hown1 hB1 hg1 hat1
                       have Q2 : Hid _ := Qr.grow (Q1.out) (c := d) (by rw [HDI.out]; exact hown1) hB1 hg1
                       obtain ⟨p0, p1, p2, p3, p4, pz⟩ := Q2.out.1.cells
                       clear hown1 hB1 hg1 hat1)
                    | fail)
                  have hS := HS2.out
                  rw [qd92 DD.out] at hS
                  have q3 := Qr.pos_ Q2.out (k + 2) ((k : Int) + 1 + 1) (by omega)
                  have ep := Qr.posAt q3
                  have eo := Qr.posAt HH.out.1
                  exact ⟨⟨k + 2, out ++ [d], ⟨q3, by have := HH.out.2.1; simp; omega, by have := HK3.out; omega, hS⟩⟩, by rw [ep, eo]; have := HK3.out; omega⟩
                · skip
                  have hbase : w.heap.size ≤ (W1).heap.size := (Q1.out).1.bel.size
                  have HBASE : Hid _ := hbase
                  clear hbase
                  go_wp2_with (first
                    | ((with_reducible refine gate_builtin (b := .append) (xs := #[.tmp 83, .tmp 85]) rfl ?_); at_builtin
                       refine print_append_num (w0 := w) w.heap.size rfl (.tmp 83) (.tmp 85) 41 5 .u8 1 rfl Tryd.underlying41 info5 (by decide) u7 (ints out) di rfl rfl (Q1.out).2 (Q1.out).1.bel HBASE.out (by have := HH.out.2.1; have := HH.out.2.2.1; have := HL.out; simp only [ints, List.length_map]; omega) ?_
                       intro v1 w1 hown1 hB1 hg1 hat1
                       have Q2 : Hid _ := Qr.grow (Q1.out) (c := d) (by rw [HDI.out]; exact hown1) hB1 hg1
                       obtain ⟨p0, p1, p2, p3, p4, pz⟩ := Q2.out.1.cells
                       clear hown1 hB1 hg1 hat1)
                    | fail)
                  have hS := HS2.out
                  rw [qd92 DD.out] at hS
                  have q3 := Qr.pos_ Q2.out (k + 2) ((k : Int) + 1 + 1) (by omega)
                  have ep := Qr.posAt q3
                  have eo := Qr.posAt HH.out.1
                  exact ⟨⟨k + 2, out ++ [d], ⟨q3, by have := HH.out.2.1; simp; omega, by have := HK3.out; omega, hS⟩⟩, by rw [ep, eo]; have := HK3.out; omega⟩
              · have hres : R = .error 31 := by
                  have := HS2.out
                  rw [qd92n (fun h => hdd (h.elim (fun e => .inl (by rw [← HDI.out, e]; rfl)) (fun e => .inr (by rw [← HDI.out, e]; rfl))))] at this
                  exact this.symm
                have HRES : Hid _ := hres
                have e1 : (di != 34) = true := by simpa using fun h => hdd (.inl h)
                have e2' : (di != 92) = true := by simpa using fun h => hdd (.inr h)
                clear hdd hres
                go_wp2
                go_region_with (fail)
                all_goals go_wp2
                all_goals (have hL := (Q1.out.1).leave (.int .i64 0) (.string ⟨#[]⟩) (.slice none 0 0) (.bool false) (.string line) (.slice A n cA) (.int .i64 ((k : Int) + 1)) (.int .i64 lit) (.int .i64 ct))
                all_goals (obtain ⟨W9, hW9⟩ : ∃ W9, put9 (W1) w.heap.size (.int .i64 0) (.string ⟨#[]⟩) (.slice none 0 0) (.bool false) (.string line) (.slice A n cA) (.int .i64 ((k : Int) + 1)) (.int .i64 lit) (.int .i64 ct) = W9 := ⟨_, rfl⟩)
                all_goals (rw [hW9] at hL; unfold put9 at hW9; rw [hW9]; clear hW9)
                all_goals (refine bodyPost_ret (ret_cct rfl _ _ (w.heap.size + 1) (w.heap.size + 1 + 1) _ _ rfl hL.2.1 rfl rfl hL.2.2 rfl) rfl ?_)
                all_goals (rw [HRES.out]; first | exact ⟨below_drew hL.1, (k : Int) + 1, rfl⟩ | exact ⟨hL.1, (k : Int) + 1, rfl⟩)
          · have b92 : (ci == 92) = false := beq_eq_false_iff_ne.2 e92
            have hn92 : b ≠ 92 := u8_ne HCI.out 92 (by decide) e92
            have N92 : Hid _ := hn92
            clear e92 hn92
            have hbase : w.heap.size ≤ (wr).heap.size := (HH.out.1).1.bel.size
            have HBASE : Hid _ := hbase
            clear hbase
            go_wp2_with (first
              | ((with_reducible refine gate_builtin (b := .append) (xs := #[.tmp 83, .tmp 85]) rfl ?_); at_builtin
                 refine print_append_num (w0 := w) w.heap.size rfl (.tmp 83) (.tmp 85) 41 5 .u8 1 rfl Tryd.underlying41 info5 (by decide) u7 (ints out) ci rfl rfl (HH.out.1).2 (HH.out.1).1.bel HBASE.out (by have := HH.out.2.1; have := HH.out.2.2.1; have := HL.out; simp only [ints, List.length_map]; omega) ?_
                 intro v1 w1 hown1 hB1 hg1 hat1
                 have Q2 : Hid _ := Qr.grow (HH.out.1) (c := b) (by rw [HCI.out]; exact hown1) hB1 hg1
                 obtain ⟨p0, p1, p2, p3, p4, pz⟩ := Q2.out.1.cells
                 clear hown1 hB1 hg1 hat1)
              | fail)
            have hS := HS.out
            rw [qdc N34.out HGQ.out N92.out] at hS
            have q3 := Qr.pos_ Q2.out (k + 1) ((k : Int) + 1) (by omega)
            have ep := Qr.posAt q3
            have eo := Qr.posAt HH.out.1
            exact ⟨⟨k + 1, out ++ [b], ⟨q3, by have := HH.out.2.1; simp; omega, by omega, hS⟩⟩, by rw [ep, eo]; omega⟩
    · have hltb : decide ((k : Int) < (line.size : Int)) = false := decide_eq_false (by omega)
      have hres : R = .error ee := by
        have := HH.out.2.2.2
        rw [drop_end line k (by omega), qdnil] at this
        exact this.symm
      have HRES : Hid _ := hres
      have hge : (line.size : Int) ≤ (k : Int) := by omega
      clear hres hlt
      go_wp2
      go_region_with (first | (go_at_call 62; refine Calls.mono (unended_eq depth _) ?_; rw [HEE.out]; rintro e w' ⟨rfl, h'⟩; replace h' := h'.symm; subst h') | fail)
      all_goals go_wp2
      all_goals (have hL := (HH.out.1.1).leave (.int .i64 0) (.string ⟨#[]⟩) (.slice none 0 0) (.bool false) (.string line) (.slice A n cA) (.int .i64 k) (.int .i64 lit) (.int .i64 ct))
      all_goals (obtain ⟨W9, hW9⟩ : ∃ W9, put9 (wr) w.heap.size (.int .i64 0) (.string ⟨#[]⟩) (.slice none 0 0) (.bool false) (.string line) (.slice A n cA) (.int .i64 k) (.int .i64 lit) (.int .i64 ct) = W9 := ⟨_, rfl⟩)
      all_goals (rw [hW9] at hL; unfold put9 at hW9; rw [hW9]; clear hW9)
      all_goals (refine bodyPost_ret (ret_cct rfl _ _ (w.heap.size + 1) (w.heap.size + 1 + 1) _ _ rfl hL.2.1 rfl rfl hL.2.2 rfl) rfl ?_)
      all_goals (rw [HRES.out]; first | exact ⟨below_drew hL.1, k, rfl⟩ | exact ⟨hL.1, k, rfl⟩)
end Go.Proofs.YtbgcapgjnflmoaaDoor.Sc
