/- Contracts of the functions that the statement reaches, and plain lemmas: PLxx0, ScKind, ScSpec. -/
import Derived.Test.YtbgcapgjnflmoaaDoorProg
import Derived.Below
import Derived.Deep.Draws
import Derived.Deep.AppendLies
import Derived.Maps.AppendAt
import Derived.OwnWalk
import Derived.Laws.BytesArg
import Derived.Laws.MakeOwn
import Derived.Laws.OwnMore
import Derived.Deep.OwnRows
import Derived.Tactics
import Derived.Lib.ConvBytes
import Derived.Laws.Slices
import Derived.WalkKit
import Derived.KernelRfl
import Derived.RowKit3
import Derived.Deep.LoopGhost
import Derived.Deep.QuietTactic
import Derived.BigQuiet
import Derived.WideLaws
import Derived.Deep.DeepCutAuto
import Derived.Deep.CutBlock
import Derived.Deep.RegionHeld3
import Derived.Laws.Rows
import Derived.Lib.AppendStr
import Derived.ArgAppend
import Derived.Laws.IdiomCopy
import Derived.OrdersHeld
import Derived.Laws.BitsLemmas
import Derived.RowKit
import Derived.Test.YtbgcapgjnflmoaaDoorMg0
import Derived.Test.YtbgcapgjnflmoaaDoorWWords
import Derived.Test.YtbgcapgjnflmoaaDoorWLast
import Derived.Test.YtbgcapgjnflmoaaDoorWTab
import Derived.Test.YtbgcapgjnflmoaaDoorWFour
import Derived.Test.YtbgcapgjnflmoaaDoorWQPut
import Derived.Test.YtbgcapgjnflmoaaDoorWApart
import Derived.Test.YtbgcapgjnflmoaaDoorWArr
import Derived.Test.YtbgcapgjnflmoaaDoorWZeros
import Derived.Test.YtbgcapgjnflmoaaDoorWFoot
import Derived.Test.YtbgcapgjnflmoaaDoorWKept
import Derived.Test.YtbgcapgjnflmoaaDoorWShare
import Derived.Test.YtbgcapgjnflmoaaDoorWN
import Derived.Test.YtbgcapgjnflmoaaDoorWFootNe
import Derived.Test.YtbgcapgjnflmoaaDoorWAt
import Derived.Test.YtbgcapgjnflmoaaDoorWEqStruct
import Derived.Test.YtbgcapgjnflmoaaDoorWRepsOne
import Derived.Test.YtbgcapgjnflmoaaDoorWInv
import Derived.Test.YtbgcapgjnflmoaaDoorWInvWords
import Derived.Test.YtbgcapgjnflmoaaDoorWGuard
import Derived.Test.YtbgcapgjnflmoaaDoorWNEv
import Derived.Test.YtbgcapgjnflmoaaDoorWMore
set_option linter.unusedVariables false
set_option linter.unusedSimpArgs false
set_option linter.unnecessarySimpa false
-- Written by xprint.py, a program of this session over the kit's print: not the print's own text.
namespace Go.Proofs.YtbgcapgjnflmoaaDoor.PLx
open Go.RowKit Go.Proofs.YtbgcapgjnflmoaaDoorW.PrintWords Go.Proofs.YtbgcapgjnflmoaaDoorW.PrintLast Go.Proofs.YtbgcapgjnflmoaaDoorW.PrintMore
attribute [local go_sem] max2_int min2_int max_two min_two max_three min_three max_four min_four   -- for this text's walks alone
set_option linter.unusedVariables false
set_option linter.unusedSimpArgs false



def errW : Option Int → Value
  | none => .nilIface
  | some c => .iface 0 (.int .i64 c)
theorem errW_none : errW none = .nilIface := rfl
theorem errW_some (c : Int) : errW (some c) = .iface 0 (.int .i64 c) := rfl

theorem info9 : (Tryd.prog.info? 9).map (fun i => (i.zero, i.size, i.bytes)) = some (some (.string ⟨#[]⟩), 1, 16) := by kernel_rfl
-- the values' own types
/-! #### struct type 43, nested in itself -/
structure S43 where
  f0 : Int
  f1 : ByteArray
  f2 : (List S43)
  f3 : Bool
def z43 : S43 := ⟨(0 : Int), (⟨#[]⟩ : ByteArray), ([] : List S43), false⟩
def F43 (d : Kd S43) : Kd S43 := Kd.iso (Kd.pair (Kd.int .i64) (Kd.pair Kd.string (Kd.pair (Kd.slice 43 d) Kd.bool))) (fun x : S43 => (x.f0, x.f1, x.f2, x.f3))
theorem mono43 : Kd.Mono F43 := Kd.mono_iso _ (Kd.mono_pair (Kd.mono_const _) (Kd.mono_pair (Kd.mono_const _) (Kd.mono_pair (Kd.mono_slice 43 Kd.mono_id) (Kd.mono_const _))))
theorem sub43 : Kd.Sub F43 [43] := Kd.sub_iso _ (Kd.sub_pair (Kd.sub_const _ (by decide)) (Kd.sub_pair (Kd.sub_const _ (by decide)) (Kd.sub_pair (Kd.sub_slice 43 (by decide) Kd.sub_id) (Kd.sub_const _ (by decide)))))
theorem sz43 : ∀ n, (Kd.upto F43 4 [43] n).sz = 4 := Kd.upto_sz (fun _ => rfl)
def k43 : Kd S43 := Kd.fix F43 4 [43] sz43 (Kd.upto_E sub43)
theorem k43_open {w : World} {x : S43} {cs : List Value} (h : k43.K w x cs) : ∃ A2 c2, cs = [.int .i64 x.f0, .string x.f1, .slice A2 x.f2.length c2, .bool x.f3] ∧ x.f2.length ≤ c2 ∧ k43.C w A2 x.f2.length x.f2 := by
  obtain ⟨n, h⟩ := h
  cases n with
  | zero => exact h.elim
  | succ n =>
    obtain ⟨_, _, rfl, rfl, ⟨_, _, rfl, rfl, ⟨_, _, rfl, ⟨A2, c2, rfl, l2, g2⟩, rfl⟩⟩⟩ := h
    exact ⟨A2, c2, rfl, l2, Kd.fix_C g2⟩
theorem k43_openM {w : World} {base : Nat} {ok : Nat → Prop} {x : S43} {cs : List Value} (h : k43.M w base ok x cs) : ∃ v2, cs = [.int .i64 x.f0, .string x.f1, v2, .bool x.f3] ∧ k43.R 43 w base ok v2 x.f2 := by
  obtain ⟨n, h⟩ := h
  cases n with
  | zero => exact h.elim
  | succ n =>
    obtain ⟨_, _, rfl, rfl, ⟨_, _, rfl, rfl, ⟨_, _, rfl, ⟨v2, rfl, g2⟩, rfl⟩⟩⟩ := h
    exact ⟨v2, rfl, Kd.fix_R g2⟩
theorem k43_mk (w : World) (x : S43) {A2 : Option Addr} {c2 : Nat} (l2 : x.f2.length ≤ c2) (g2 : k43.C w A2 x.f2.length x.f2) : k43.K w x [.int .i64 x.f0, .string x.f1, .slice A2 x.f2.length c2, .bool x.f3] := by
  obtain ⟨n2, q2⟩ := Kd.fix_C_back mono43 g2
  have r2 := Kd.upto_C_le mono43 sz43 (show n2 ≤ n2 by omega) q2
  exact ⟨n2 + 1, ⟨[.int .i64 x.f0], [.string x.f1, .slice A2 x.f2.length c2, .bool x.f3], rfl, rfl, ⟨[.string x.f1], [.slice A2 x.f2.length c2, .bool x.f3], rfl, rfl, ⟨[.slice A2 x.f2.length c2], [.bool x.f3], rfl, ⟨A2, c2, rfl, l2, r2⟩, rfl⟩⟩⟩⟩
theorem k43_mkM (w : World) (base : Nat) (ok : Nat → Prop) (x : S43) {v2 : Value} (g2 : k43.R 43 w base ok v2 x.f2) : k43.M w base ok x [.int .i64 x.f0, .string x.f1, v2, .bool x.f3] := by
  obtain ⟨n2, q2⟩ := Kd.fix_R_back mono43 g2
  have r2 := Kd.upto_R_le mono43 sz43 (show n2 ≤ n2 by omega) q2
  exact ⟨n2 + 1, ⟨[.int .i64 x.f0], [.string x.f1, v2, .bool x.f3], rfl, rfl, ⟨[.string x.f1], [v2, .bool x.f3], rfl, rfl, ⟨[v2], [.bool x.f3], rfl, ⟨v2, rfl, r2⟩, rfl⟩⟩⟩⟩
def rd_T43 (xs : List S43) (i : Int) : S43 := xs.getD i.toNat z43
theorem at_T43 {w : World} {A : Option Addr} {n : Nat} {xs : List S43} (h : Kd.C k43 w A n xs) (i : Int) (h0 : 0 ≤ i) (h1 : i < n) : ∃ ad A2 c2, A = some ad ∧ w.cell? (ad.add (i.toNat * 4)) = some (.int .i64 (rd_T43 xs i).f0) ∧ w.cell? ⟨(ad.add (i.toNat * 4)).block, (ad.add (i.toNat * 4)).off + 1, none⟩ = some (.string (rd_T43 xs i).f1) ∧ w.cell? ⟨(ad.add (i.toNat * 4)).block, (ad.add (i.toNat * 4)).off + 2, none⟩ = some (.slice A2 (rd_T43 xs i).f2.length c2) ∧ w.cell? ⟨(ad.add (i.toNat * 4)).block, (ad.add (i.toNat * 4)).off + 3, none⟩ = some (.bool (rd_T43 xs i).f3) ∧ (rd_T43 xs i).f2.length ≤ c2 ∧ k43.C w A2 (rd_T43 xs i).f2.length (rd_T43 xs i).f2 := by
  obtain ⟨ad, c, e, _, hK, hc0⟩ := Kd.C_get h z43 i h0 h1
  have hc : ∀ j u, c[j]? = some u → w.cell? (ad.add (i.toNat * 4 + j)) = some u := hc0
  obtain ⟨A2, c2, rfl, l2, g2⟩ := k43_open hK
  exact ⟨ad, A2, c2, e, hc 0 _ rfl, by rw [← add_field _ _ 1 (by omega)]; exact hc 1 _ rfl, by rw [← add_field _ _ 2 (by omega)]; exact hc 2 _ rfl, by rw [← add_field _ _ 3 (by omega)]; exact hc 3 _ rfl, l2, g2⟩

end Go.Proofs.YtbgcapgjnflmoaaDoor.PLx

/- The words of a line: the print's own type of them. -/
namespace Go.Proofs.YtbgcapgjnflmoaaDoor.Sc
abbrev Wd := Go.Proofs.YtbgcapgjnflmoaaDoor.PLx.S43
end Go.Proofs.YtbgcapgjnflmoaaDoor.Sc

/- What Scan and Join answer, as plain functions over the bytes of the line. -/
namespace Go.Proofs.YtbgcapgjnflmoaaDoor.Sc

/-! ### bytes -/
def gword (c : UInt8) : Bool := decide (33 ≤ c.toNat ∧ c.toNat ≤ 126) && !(c == 40 || c == 41 || c == 91 || c == 93 || c == 123 || c == 125 || c == 34)
def gquote (c : UInt8) : Bool := decide (1 ≤ c.toNat ∧ c.toNat ≤ 127) && !(c == 10 || c == 13)
def dig (c : UInt8) : Bool := decide (48 ≤ c.toNat ∧ c.toNat ≤ 57)
def ofB (l : List UInt8) : ByteArray := ⟨l.toArray⟩
/-- The digits ahead: their number (at most 2^32), and what stands behind them. -/
def digs : Nat → List UInt8 → Nat × List UInt8
  | n, [] => (n, [])
  | n, c :: r => if dig c then digs (min (n * 10 + (c.toNat - 48)) 4294967296) r else (n, c :: r)
def annPlus (n : Nat) : List UInt8 → Option (Nat × Bool × List UInt8)
  | [] => none
  | d :: q => if d = 125 then some (n, true, q) else none
def annEnd (n : Nat) : List UInt8 → Option (Nat × Bool × List UInt8)
  | [] => none
  | c :: q => if c = 125 then some (n, false, q) else if c = 43 then annPlus n q else none
def annIn : List UInt8 → Option (Nat × Bool × List UInt8)
  | [] => none
  | d :: r => if dig d then annEnd (digs 0 (d :: r)).1 (digs 0 (d :: r)).2 else none
/-- An announcement ahead: its number, whether it has a plus, what stands behind it. -/
def ann : List UInt8 → Option (Nat × Bool × List UInt8)
  | [] => none
  | c :: r => if c = 123 then annIn r else none
/-- A quoted word behind its first quote: its text, and what stands behind its last quote. -/
def qd (e : Int) : List UInt8 → List UInt8 → Except Int (List UInt8 × List UInt8)
  | [], _ => .error e
  | c :: r, out =>
    if c = 34 then .ok (out, r)
    else if gquote c = false then .error 31
    else if c = 92 then (match r with
      | [] => .error e
      | d :: r' => if d = 34 ∨ d = 92 then qd e r' (out ++ [d]) else .error 31)
    else qd e r (out ++ [c])

/-! ### the machine: what is open, the innermost one on top -/
structure Fr where
  kind : Int
  glued : Bool
  kids : List Wd
structure Ma where
  count : Nat
  lits : List ByteArray
  top : Fr
  below : List Fr
def Fr.put (f : Fr) (x : Wd) : Fr := ⟨f.kind, f.glued, f.kids ++ [x]⟩
def Fr.word (f : Fr) : Wd := ⟨f.kind, ofB [], f.kids, f.glued⟩
def Ma.put (s : Ma) (x : Wd) : Ma := ⟨s.count, s.lits, s.top.put x, s.below⟩
def Ma.early (s : Ma) : Int := if s.below = [] then 31 else 33
def shut (s : Ma) (c : UInt8) : Option Ma :=
  match s.below with
  | [] => none
  | f :: b => if s.top.kind = 4 ∧ c = 41 ∨ s.top.kind = 5 ∧ c = 93 then some ⟨s.count, s.lits, f.put s.top.word, b⟩ else none
def starts (c : UInt8) (r : List UInt8) : Bool := gword c || c == 34 || c == 40 || c == 91 || (ann (c :: r)).isSome
/-- The word that begins here, behind the count. -/
def enter (s : Ma) (glued : Bool) (c : UInt8) (r : List UInt8) : Except Int (Ma × List UInt8) :=
  match ann (c :: r) with
  | some (n, _, q) => (match s.lits with
    | [] => .error 32
    | x :: xs => if x.size = n then .ok (⟨s.count, xs, s.top.put ⟨3, x, [], glued⟩, s.below⟩, q) else .error 32)
  | none =>
    if c = 34 then (match qd s.early r [] with
      | .error e => .error e
      | .ok (t, q) => .ok (s.put ⟨2, ofB t, [], glued⟩, q))
    else if c = 40 ∨ c = 91 then (if s.below.length < 12 then .ok (⟨s.count, s.lits, ⟨if c = 91 then 5 else 4, glued, []⟩, s.top :: s.below⟩, r) else .error 33)
    else .ok (s.put ⟨1, ofB ((c :: r).takeWhile gword), [], glued⟩, (c :: r).dropWhile gword)
def begin_ (s : Ma) (glued : Bool) (c : UInt8) (r : List UInt8) : Except Int (Ma × List UInt8) :=
  if starts c r = false then .error 30
  else if s.count + 1 ≤ 512 then enter ⟨s.count + 1, s.lits, s.top, s.below⟩ glued c r
  else .error 34
def shuts (r : List UInt8) : Bool := match r with
  | [] => false
  | d :: _ => d == 41 || d == 93
/-- One round over the line: none at its end. -/
def round (blank first : Bool) (s : Ma) (c : UInt8) (r : List UInt8) : Except Int (Bool × Bool × Ma × List UInt8) :=
  if c = 32 then (if blank || first || shuts r then .error 30 else .ok (true, first, s, r))
  else if c = 41 ∨ c = 93 then (match shut s c with
    | none => .error 33
    | some s' => .ok (false, false, s', r))
  else match begin_ s (!blank && !first) c r with
    | .error e => .error e
    | .ok (s', q) => .ok (false, decide (s.below.length < s'.below.length), s', q)
def run : Nat → Bool → Bool → Ma → List UInt8 → Except Int Ma
  | 0, _, _, _, _ => .error 0
  | _ + 1, blank, _, s, [] => if s.below = [] then (if blank then .error 30 else .ok s) else .error 33
  | n + 1, blank, first, s, c :: r => match round blank first s c r with
    | .error e => .error e
    | .ok (b', f', s', q) => run n b' f' s' q
def Fr.line : Fr := ⟨0, false, []⟩
def scanL (l : List UInt8) (lits : List ByteArray) : List Wd × Int :=
  match run (l.length + 1) false true ⟨0, lits, Fr.line, []⟩ l with
  | .error e => ([], e)
  | .ok s => if s.lits = [] then (s.top.kids, 0) else ([], 32)
def bytesL (s : ByteArray) : List UInt8 := s.data.toList
def scan (s : ByteArray) (lits : List ByteArray) : List Wd × Int :=
  if s.size ≤ 4096 ∧ lits.length ≤ 512 then (if lits.all (fun x => decide (x.size ≤ 16384)) then scanL (bytesL s) lits else ([], 2)) else ([], 2)

/-! ### every round goes on in the line -/
theorem digs_le : ∀ (l : List UInt8) (n : Nat), (digs n l).2.length ≤ l.length
  | [], _ => Nat.le_refl _
  | c :: r, n => by
    unfold digs
    split
    · exact Nat.le_succ_of_le (digs_le r _)
    · exact Nat.le_refl _
theorem annPlus_lt {n m : Nat} {p : Bool} {l q : List UInt8} (h : annPlus n l = some (m, p, q)) : q.length < l.length := by
  cases l with
  | nil => cases h
  | cons d r =>
    simp only [annPlus] at h
    split at h
    · cases h; simp
    · cases h
theorem annEnd_lt {n m : Nat} {p : Bool} {l q : List UInt8} (h : annEnd n l = some (m, p, q)) : q.length < l.length := by
  cases l with
  | nil => cases h
  | cons c r =>
    simp only [annEnd] at h
    split at h
    · cases h; simp
    · split at h
      · have := annPlus_lt h; simp only [List.length_cons]; omega
      · cases h
theorem ann_lt {n : Nat} {p : Bool} {l q : List UInt8} (h : ann l = some (n, p, q)) : q.length < l.length := by
  cases l with
  | nil => cases h
  | cons c r =>
    simp only [ann] at h
    split at h
    · cases r with
      | nil => cases h
      | cons d r' =>
        simp only [annIn] at h
        split at h
        · have h1 := annEnd_lt h
          have h2 := digs_le (d :: r') 0
          simp only [List.length_cons] at *
          omega
        · cases h
    · cases h
theorem qd_le {e : Int} : ∀ (l out : List UInt8) {t q : List UInt8}, qd e l out = .ok (t, q) → q.length < l.length := by
  intro l
  induction hn : l.length using Nat.strongRecOn generalizing l with
  | _ n ih =>
    intro out t q h
    subst hn
    cases l with
    | nil => cases h
    | cons c r =>
      unfold qd at h
      split at h
      · cases h; simp
      · split at h
        · cases h
        · split at h
          · cases r with
            | nil => cases h
            | cons d r' =>
              simp only at h
              split at h
              · have := ih r'.length (by simp only [List.length_cons]; omega) r' rfl _ h
                simp only [List.length_cons]; omega
              · cases h
          · have := ih r.length (by simp only [List.length_cons]; omega) r rfl _ h
            simp only [List.length_cons]; omega
theorem dropWhile_le {α : Type} (p : α → Bool) : ∀ l : List α, (l.dropWhile p).length ≤ l.length
  | [] => Nat.le_refl _
  | a :: r => by
    rw [List.dropWhile_cons]
    split
    · exact Nat.le_succ_of_le (dropWhile_le p r)
    · exact Nat.le_refl _
theorem enter_le {s s' : Ma} {g : Bool} {c : UInt8} {r q : List UInt8} (hs : starts c r = true) (h : enter s g c r = .ok (s', q)) : q.length ≤ r.length := by
  unfold enter at h
  split at h
  · rename_i n p q' ha
    have := ann_lt ha
    split at h
    · cases h
    · split at h
      · cases h; simp only [List.length_cons] at this; omega
      · cases h
  · rename_i ha
    split at h
    · split at h
      · cases h
      · rename_i t q' hq
        have := qd_le _ _ hq
        cases h; omega
    · split at h
      · split at h
        · cases h; exact Nat.le_refl _
        · cases h
      · rename_i h34 h40
        have hg : gword c = true := by
          unfold starts at hs
          rw [ha] at hs
          have e1 : (c == 34) = false := by simpa using h34
          have e2 : (c == 40) = false := by simpa using fun e => h40 (.inl e)
          have e3 : (c == 91) = false := by simpa using fun e => h40 (.inr e)
          rw [e1, e2, e3] at hs
          simpa using hs
        cases h
        rw [List.dropWhile_cons, if_pos hg]
        exact dropWhile_le _ _
theorem begin_le {s s' : Ma} {g : Bool} {c : UInt8} {r q : List UInt8} (h : begin_ s g c r = .ok (s', q)) : q.length ≤ r.length := by
  unfold begin_ at h
  split at h
  · cases h
  · rename_i hs
    split at h
    · exact enter_le (by simpa using hs) h
    · cases h
theorem round_le {b f b' f' : Bool} {s s' : Ma} {c : UInt8} {r q : List UInt8} (h : round b f s c r = .ok (b', f', s', q)) : q.length ≤ r.length := by
  unfold round at h
  split at h
  · split at h
    · cases h
    · cases h; exact Nat.le_refl _
  · split at h
    · split at h
      · cases h
      · cases h; exact Nat.le_refl _
    · split at h
      · cases h
      · rename_i hb
        cases h
        exact begin_le hb
theorem run_fuel : ∀ (n m : Nat) (b f : Bool) (s : Ma) (l : List UInt8), l.length < n → l.length < m → run n b f s l = run m b f s l := by
  intro n
  induction n with
  | zero => intro m b f s l h; omega
  | succ n ih =>
    intro m b f s l h1 h2
    obtain ⟨m, rfl⟩ : ∃ k, m = k + 1 := ⟨m - 1, by omega⟩
    cases l with
    | nil => rfl
    | cons c r =>
      unfold run
      cases hr : round b f s c r with
      | error e => rfl
      | ok v =>
        obtain ⟨b', f', s', q⟩ := v
        have := round_le hr
        simp only [List.length_cons] at h1 h2
        exact ih m b' f' s' q (by omega) (by omega)

/-! ### words as a line -/
structure Wr where
  out : List UInt8
  lits : List ByteArray
def Wr.add (s : Wr) (l : List UInt8) : Wr := ⟨s.out ++ l, s.lits⟩
def decB (n : Nat) : List UInt8 := (Nat.toDigits 10 n).map (fun c => c.toUInt8)
def quoteL : List UInt8 → List UInt8
  | [] => []
  | c :: r => if c = 34 ∨ c = 92 then 92 :: c :: quoteL r else c :: quoteL r
end Go.Proofs.YtbgcapgjnflmoaaDoor.Sc
