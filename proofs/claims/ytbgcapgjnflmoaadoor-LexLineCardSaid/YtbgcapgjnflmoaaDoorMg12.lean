/- Contracts of the functions that the statement reaches, and plain lemmas: ScTable, ScBuild, ScScan. -/
import Derived.Test.YtbgcapgjnflmoaaDoorMg6
import Derived.Deep.MidRow
import Derived.Test.YtbgcapgjnflmoaaDoorMg3
import Derived.Laws.Tables
import Derived.Test.YtbgcapgjnflmoaaDoorMg11
set_option linter.unusedVariables false
set_option linter.unusedSimpArgs false
set_option linter.unnecessarySimpa false
/- table: what each byte is good for. -/
namespace Go.Proofs.YtbgcapgjnflmoaaDoor.Sc
open Go.RowKit Go.Proofs.YtbgcapgjnflmoaaDoorW.PrintWords Go.Proofs.YtbgcapgjnflmoaaDoorW.PrintMore Go.Proofs.YtbgcapgjnflmoaaDoor.PLx
variable {w0 w w1 : World}

theorem grade_calls (i : Nat) (hi : i < 256) (w : World) : Calls Tryd.prog 38 #[.int .u8 (i : Int)] w fun e w' => e = .returned (.int .u8 (gradeI i)) ∧ Below w.heap.size w w' := by
  obtain ⟨k, hk⟩ := (grade_ev (UInt8.ofNat i)).rounds
  have e : (UInt8.ofNat i).toNat = i := by rw [UInt8.toNat_ofNat']; omega
  rw [e] at hk
  exact (lex_grade.calls k _ _ w hk).mono fun e w' h => ⟨h.1, by first | exact h.2 | exact h.2.below⟩
/-- The table, filled up to i. -/
structure TI (w wr : World) (i : Nat) : Prop where
  bel : Below w.heap.size w wr
  t0 : ∃ c0 : Array Value, wr.heap[w.heap.size]? = some (.cells c0 54 (0, 0)) ∧ c0.size = 256
  t1 : ∃ cs : Array Value, wr.heap[w.heap.size + 1]? = some (.cells cs 54 (0, 0)) ∧ cs.size = 256 ∧ (∀ c : Nat, c < i → cs[c]? = some (.int .u8 (gradeI c))) ∧ cs.all (·.oneCell') = true
theorem zero54 : Tryd.zeroCells54.size = 256 ∧ Tryd.zeroCells54.all (·.oneCell') = true := by constructor <;> kernel_rfl
theorem TI.below {wr w' : World} {i : Nat} (h : TI w wr i) (hb : Below wr.heap.size wr w') : TI w w' i := by
  obtain ⟨c0, h0, h0'⟩ := h.t0
  obtain ⟨cs, h1, h1'⟩ := h.t1
  exact ⟨below_then h.bel h.bel.size hb, ⟨c0, blk_below h0 hb, h0'⟩, ⟨cs, blk_below h1 hb, h1'⟩⟩
theorem all_set {cs : Array Value} (h : cs.all (·.oneCell') = true) (i : Nat) (u : Value) (hu : u.oneCell' = true) : (cs.setIfInBounds i u).all (·.oneCell') = true := by
  rw [Array.all_eq_true_iff_forall_mem] at h ⊢
  intro v hv
  rcases Array.mem_or_eq_of_mem_setIfInBounds hv with hv | rfl
  · exact h v hv
  · exact hu
theorem TI.set_ {wr : World} {i : Nat} (h : TI w wr i) (hi : i < 256) : TI w (wr.setCell ⟨w.heap.size + 1, i, none⟩ (.int .u8 (gradeI i))) (i + 1) := by
  obtain ⟨c0, h0, h0'⟩ := h.t0
  obtain ⟨cs, h1, hs, hc, ha⟩ := h.t1
  refine ⟨h.bel.setCell (p := ⟨w.heap.size + 1, i, none⟩) (Nat.le_succ _) _, ⟨c0, blk_far h0 (p := ⟨w.heap.size + 1, i, none⟩) (by show w.heap.size ≠ w.heap.size + 1; omega) _, h0'⟩, ⟨_, blk_set h1 i _, by simpa using hs, fun c hlt => ?_, all_set ha i _ rfl⟩⟩
  rw [Array.getElem?_setIfInBounds]
  by_cases e : i = c
  · subst e
    rw [if_pos rfl]
    rw [if_pos (by omega)]
  · rw [if_neg e]; exact hc c (by omega)
set_option maxRecDepth 100000 in
set_option maxHeartbeats 4000000 in
theorem table_ok (w : World) : Calls Tryd.prog 24 #[] w fun e w' => (∃ T : Array Value, e = .returned (.agg T) ∧ T.size = 256 ∧ (∀ c : Nat, c < 256 → T[c]? = some (.int .u8 (gradeI c))) ∧ T.all (·.oneCell') = true) ∧ Below w.heap.size w w' := by
  have hst : TI w ((w.alloc (Obj.cells Tryd.zeroCells54 54)).alloc (Obj.cells Tryd.zeroCells54 54)) 0 := by
    have e1 : (w.alloc (Obj.cells Tryd.zeroCells54 54)).heap.size = w.heap.size + 1 := by simp
    refine ⟨below_alloc (below_alloc (Below.refl _ _) _) _, ⟨_, blk_alloc (blk_new w _) _, zero54.1⟩, ⟨_, ?_, zero54.1, fun c hc => absurd hc (by omega), zero54.2⟩⟩
    rw [← e1]; exact blk_new _ _
  have HST : Hid _ := hst
  clear hst
  go_enter Tryd.func24, Tryd.ntmps24
  go_wp2
  go_loopw [3] (fun vi wr => ∃ i : Nat, i ≤ 256 ∧ vi = .int .i64 i ∧ Hid (TI w wr i)) (fun vi _ => 256 - (intOf vi).toNat)
  case atStart => exact ⟨0, by omega, rfl, HST⟩
  case round =>
    obtain ⟨i, hi, rfl, HT⟩ := hrel
    by_cases hlt : i < 256
    · have hltb : decide ((i : Int) < 256) = true := decide_eq_true (by omega)
      have hu8 : IntKind.u8.wrap (i : Int) = (i : Int) := by rw [IntKind.wrap_u8]; omega
      have hi0 : (0 : Int) ≤ (i : Int) := by omega
      have hi1 : (i : Int) < 256 := by omega
      have HG : Hid _ := fun W => grade_calls i hlt W
      have HLT : Hid _ := hlt
      clear hlt
      go_wp2_with (go_at_call 38; refine (HG.out _).mono ?_
                   rintro e w' ⟨rfl, hb'⟩
                   have HT2 : Hid _ := HT.out.below hb'
                   obtain ⟨cs, h1, hs, hc, ha⟩ := HT2.out.t1
                   obtain ⟨old, hold⟩ : ∃ old, w'.cell? ⟨w.heap.size + 1, i, none⟩ = some old := ⟨_, (blk_cell h1 i).trans (Array.getElem?_eq_getElem (by have := HLT.out; omega))⟩
                   have hfz := blk_frozen h1 i
                   clear h1 hs hc ha hb')
      exact ⟨⟨i + 1, by have := HLT.out; omega, by simp, HT2.out.set_ HLT.out⟩, by simp only [intOf]; have := HLT.out; omega⟩
    · have hi256 : i = 256 := by omega
      subst hi256
      obtain ⟨c0, h0, h0s⟩ := HT.out.t0
      obtain ⟨cs, h1, hs, hc, ha⟩ := HT.out.t1
      have hrange : wr.rangeAt (w.heap.size + 1) 0 cs.toList := by
        have := World.rangeAt_of_block h1 0 256
        rw [show cs.extract 0 (0 + 256) = cs by rw [Nat.zero_add, ← hs]; simp] at this
        exact this
      have hthere : wr.there w.heap.size 0 cs.toList.toArray.size := fun j hj => by
        have hj2 : j < c0.size := by simp at hj; omega
        refine ⟨?_, blk_frozen h0 _⟩
        rw [blk_cell h0, Nat.zero_add, Array.getElem?_eq_getElem hj2]; rfl
      have hinfo : (Tryd.prog.info? 54).map (·.size) = some cs.toList.length := by
        rw [Array.length_toList, hs]; kernel_rfl
      have hinfo2 : (Tryd.prog.info? 54).map (·.size) = some cs.toList.toArray.size := by rw [Array.toArray_toList, hs]; kernel_rfl
      have hall : cs.toList.toArray.all (·.oneCell') = true := by rw [Array.toArray_toList]; exact ha
      have HH : Hid _ := And.intro h0 (And.intro h0s (And.intro hs (And.intro hc ha)))
      have HR : Hid _ := And.intro hrange (And.intro hthere (And.intro hinfo (And.intro hinfo2 hall)))
      clear h0 h0s h1 hs hc ha hrange hthere hinfo hinfo2 hall hi
      go_wp2_with (first
        | ((with_reducible refine gate_ (.load 54 (.tmp 1)) rfl ?_); refine wpList_load_mid rfl 54 (.tmp 1) rfl (w.heap.size + 1) 0 rfl cs.toList _ HR.out.1 Tryd.underlying54 rfl HR.out.2.2.1 ?_)
        | ((with_reducible refine gate_ (.store 54 (.tmp 0) (.tmp 12)) rfl ?_); refine wpList_store_mid rfl 54 (.tmp 0) (.tmp 12) rfl w.heap.size 0 cs.toList.toArray rfl rfl HR.out.2.1 HR.out.2.2.2.1 HR.out.2.2.2.2 ?_))
      obtain ⟨h0, h0s, hs, hc, ha⟩ := HH.out
      obtain ⟨cur', g3, g4, g5⟩ := setCells_row (g := w.heap.size) (e := 54) cs.toList 0 wr c0 h0 (by simp; omega)
      have hcur : cur' = cs := by
        apply Array.ext'
        rw [g5, List.take_zero, List.nil_append, Nat.zero_add, List.drop_of_length_le (by simp; omega), List.append_nil]
      rw [hcur] at g3
      obtain ⟨s1, s2, s3, s4⟩ := setCells_same w.heap.size cs.toList 0 wr
      refine bodyPost_ret (v := .agg cs) (results_cell_row rfl _ _ w.heap.size 54 cs (0, 0) _ rfl g3 Tryd.underlying54 rfl (by have := HR.out.2.2.1; rwa [Array.length_toList] at this)) rfl ?_
      refine ⟨⟨cs, rfl, hs, hc, Array.all_eq_true.1 ha⟩, ?_⟩
      have hb := HT.out.bel
      exact ⟨s1.trans hb.os, s2.trans hb.tape, s3.trans hb.output, by rw [s4]; exact hb.size, fun k hk => (setCells_far cs.toList 0 k (by omega)).trans (hb.block k hk)⟩
end Go.Proofs.YtbgcapgjnflmoaaDoor.Sc

/- The scanner's cells, as Scan builds them. -/
namespace Go.Proofs.YtbgcapgjnflmoaaDoor.Sc
open Go.RowKit Go.Proofs.YtbgcapgjnflmoaaDoorW.PrintWords Go.Proofs.YtbgcapgjnflmoaaDoorW.PrintMore Go.Proofs.YtbgcapgjnflmoaaDoor.PLx

theorem fold_get : ∀ (l : List Value) (k : Nat) (Z : Array Value), 4 + k + l.length ≤ Z.size →
    ((l.zipIdx k).foldl (fun cs x => cs.setIfInBounds (4 + x.2) x.1) Z).size = Z.size ∧
    (∀ i, i < 4 + k → ((l.zipIdx k).foldl (fun cs x => cs.setIfInBounds (4 + x.2) x.1) Z)[i]? = Z[i]?) ∧
    (∀ j, j < l.length → ((l.zipIdx k).foldl (fun cs x => cs.setIfInBounds (4 + x.2) x.1) Z)[4 + k + j]? = l[j]?) ∧
    (∀ i, 4 + k + l.length ≤ i → ((l.zipIdx k).foldl (fun cs x => cs.setIfInBounds (4 + x.2) x.1) Z)[i]? = Z[i]?)
  | [], k, Z, h => ⟨rfl, fun _ _ => rfl, fun j hj => absurd hj (Nat.not_lt_zero j), fun _ _ => rfl⟩
  | a :: r, k, Z, h => by
    simp only [List.length_cons] at h
    have ih := fold_get r (k + 1) (Z.setIfInBounds (4 + k) a) (by rw [Array.size_setIfInBounds]; omega)
    rw [List.zipIdx_cons, List.foldl_cons]
    refine ⟨by rw [ih.1, Array.size_setIfInBounds], fun i hi => ?_, fun j hj => ?_, fun i hi => ?_⟩
    · rw [ih.2.1 i (by omega), Array.getElem?_setIfInBounds, if_neg (by omega)]
    · cases j with
      | zero =>
        rw [ih.2.1 (4 + k + 0) (by omega), Nat.add_zero, Array.getElem?_setIfInBounds, if_pos rfl, if_pos (by omega)]
        rfl
      | succ j =>
        have := ih.2.2.1 j (by simp only [List.length_cons] at hj; omega)
        rw [show 4 + k + (j + 1) = 4 + (k + 1) + j by omega, this]
        rfl
    · simp only [List.length_cons] at hi
      rw [ih.2.2.2 i (by omega), Array.getElem?_setIfInBounds, if_neg (by omega)]
noncomputable def built57 (line : ByteArray) (A : Option Addr) (n cA : Nat) (T : Array Value) (vo : Value) : Array Value :=
  ((T.zipIdx.foldl (fun cs x => cs.setIfInBounds (4 + x.2) x.1) ((Tryd.zeroCells57.setIfInBounds 0 (.string line)).setIfInBounds 1 (.slice A n cA))).setIfInBounds 260 vo)
theorem zero57 : Tryd.zeroCells57.size = 261 ∧ Tryd.zeroCells57[2]? = some (.int .i64 0) ∧ Tryd.zeroCells57[3]? = some (.int .i64 0) := by refine ⟨?_, ?_, ?_⟩ <;> kernel_rfl
theorem built_good {line : ByteArray} {A : Option Addr} {n cA : Nat} {T : Array Value} {vo : Value} (hT : T.size = 256) (hTc : ∀ c : Nat, c < 256 → T[c]? = some (.int .u8 (gradeI c))) :
    Good (built57 line A n cA T vo) line 0 0 A n cA vo := by
  obtain ⟨z1, z2, z3⟩ := zero57
  have hl : T.toList.length = 256 := by rw [Array.length_toList]; exact hT
  have hf := fold_get T.toList 0 ((Tryd.zeroCells57.setIfInBounds 0 (.string line)).setIfInBounds 1 (.slice A n cA)) (by simp [z1, hT])
  have e : T.zipIdx.foldl (fun cs x => cs.setIfInBounds (4 + x.2) x.1) ((Tryd.zeroCells57.setIfInBounds 0 (.string line)).setIfInBounds 1 (.slice A n cA)) = (T.toList.zipIdx 0).foldl (fun cs x => cs.setIfInBounds (4 + x.2) x.1) ((Tryd.zeroCells57.setIfInBounds 0 (.string line)).setIfInBounds 1 (.slice A n cA)) := by
    rw [← Array.foldl_toList, Array.toList_zipIdx]
  unfold built57
  rw [e]
  obtain ⟨f1, f2, f3, f4⟩ := hf
  generalize (T.toList.zipIdx 0).foldl (fun cs x => cs.setIfInBounds (4 + x.2) x.1) ((Tryd.zeroCells57.setIfInBounds 0 (.string line)).setIfInBounds 1 (.slice A n cA)) = F at *
  rw [Array.size_setIfInBounds, Array.size_setIfInBounds, z1] at f1
  refine ⟨by rw [Array.size_setIfInBounds, f1], ?_, ?_, ?_, ?_, fun c hc => ?_, ?_⟩
  · rw [Array.getElem?_setIfInBounds, if_neg (by omega), f2 0 (by omega), Array.getElem?_setIfInBounds, if_neg (by omega), Array.getElem?_setIfInBounds, if_pos rfl, if_pos (by omega)]
  · rw [Array.getElem?_setIfInBounds, if_neg (by omega), f2 1 (by omega), Array.getElem?_setIfInBounds, if_pos rfl, if_pos (by rw [Array.size_setIfInBounds]; omega)]
  · rw [Array.getElem?_setIfInBounds, if_neg (by omega), f2 2 (by omega), Array.getElem?_setIfInBounds, if_neg (by omega), Array.getElem?_setIfInBounds, if_neg (by omega), z2]; rfl
  · rw [Array.getElem?_setIfInBounds, if_neg (by omega), f2 3 (by omega), Array.getElem?_setIfInBounds, if_neg (by omega), Array.getElem?_setIfInBounds, if_neg (by omega), z3]; rfl
  · have := f3 c (by omega)
    rw [Array.getElem?_setIfInBounds, if_neg (by omega), show 4 + c = 4 + 0 + c by omega, this, Array.getElem?_toList]
    exact hTc c hc
  · rw [Array.getElem?_setIfInBounds, if_pos rfl, if_pos (by omega)]
theorem fold_size (Z T : Array Value) (hT : T.size = 256) : (Array.foldl (fun (cs : Array Value) (x : Value × Nat) => cs.setIfInBounds (4 + x.snd) x.fst) Z T.zipIdx 0 256).size = Z.size := by
  have h : ∀ (l : List (Value × Nat)) (Z : Array Value), (l.foldl (fun (cs : Array Value) (x : Value × Nat) => cs.setIfInBounds (4 + x.snd) x.fst) Z).size = Z.size := by
    intro l
    induction l with
    | nil => intro Z; rfl
    | cons a r ih => intro Z; rw [List.foldl_cons, ih, Array.size_setIfInBounds]
  have e : (256 : Nat) = T.zipIdx.size := by rw [Array.size_zipIdx, hT]
  rw [e, ← Array.foldl_toList]
  exact h _ _
theorem built_eq (line : ByteArray) (A : Option Addr) (n cA : Nat) (T : Array Value) (hT : T.size = 256) (vo : Value) :
    (Array.foldl (fun (cs : Array Value) (x : Value × Nat) => cs.setIfInBounds (4 + x.snd) x.fst) ((Tryd.zeroCells57.setIfInBounds 0 (.string line)).setIfInBounds 1 (.slice A n cA)) T.zipIdx 0 256).setIfInBounds 260 vo = built57 line A n cA T vo := by
  unfold built57
  have e : (256 : Nat) = T.zipIdx.size := by rw [Array.size_zipIdx, hT]
  rw [e]
theorem run_built (line : ByteArray) (A : Option Addr) (n cA : Nat) {T : Array Value} (hT : T.size = 256) (Bo : Option Addr) (a b : Nat) (W : World) :
    (Instr.build 57 #[(0, .string line), (1, .slice A n cA), (4, .agg T), (5, .slice Bo a b)]).run Tryd.prog W = .ok (.agg (built57 line A n cA T (.slice Bo a b))) W := by
  refine run_build W 57 _ _ ?_
  have h1 : Tryd.prog.info? 57 = some Tryd.t57 := by kernel_rfl
  have h2 : Tryd.t57.zero = some (.agg Tryd.zeroCells57) := by kernel_rfl
  have h3 : (#[{ name := "line", type := 9, offset := 0, embedded := false, tag := "", pkgPath := "postbag/lex", byteOffset := 0 }, { name := "literals", type := 22, offset := 1, embedded := false, tag := "", pkgPath := "postbag/lex", byteOffset := 16 }, { name := "at", type := 3, offset := 2, embedded := false, tag := "", pkgPath := "postbag/lex", byteOffset := 40 }, { name := "count", type := 3, offset := 3, embedded := false, tag := "", pkgPath := "postbag/lex", byteOffset := 48 }, { name := "good", type := 54, offset := 4, embedded := false, tag := "", pkgPath := "postbag/lex", byteOffset := 56 }, { name := "open", type := 24, offset := 260, embedded := false, tag := "", pkgPath := "postbag/lex", byteOffset := 312 }] : Array Field).toList.mapM (fun f => (Tryd.prog.info? f.type).map fun i => (f.offset, i.size)) = some [(0, 1), (1, 1), (2, 1), (3, 1), (4, 256), (260, 1)] := by kernel_rfl
  unfold Program.built
  rw [h1, Tryd.underlying57]
  simp only
  rw [h2, h3]
  obtain ⟨z1, _, _⟩ := zero57
  have hl : T.toList.length = 256 := by rw [Array.length_toList]; exact hT
  have hf := fold_get T.toList 0 ((Tryd.zeroCells57.setIfInBounds 0 (.string line)).setIfInBounds 1 (.slice A n cA)) (by simp [z1, hT])
  have e : T.zipIdx.foldl (fun cs x => cs.setIfInBounds (4 + x.2) x.1) ((Tryd.zeroCells57.setIfInBounds 0 (.string line)).setIfInBounds 1 (.slice A n cA)) = (T.toList.zipIdx 0).foldl (fun cs x => cs.setIfInBounds (4 + x.2) x.1) ((Tryd.zeroCells57.setIfInBounds 0 (.string line)).setIfInBounds 1 (.slice A n cA)) := by
    rw [← Array.foldl_toList, Array.toList_zipIdx]
  have hsz := hf.1
  rw [← e, Array.size_setIfInBounds, Array.size_setIfInBounds, z1] at hsz
  unfold built57
  simp [Instr.fill, Value.cells, z1, hT]
  have hz := hsz
  simp only [Array.size_zipIdx, hT] at hz
  exact Nat.le_of_eq hz.symm
end Go.Proofs.YtbgcapgjnflmoaaDoor.Sc

/- Scan. -/
namespace Go.Proofs.YtbgcapgjnflmoaaDoor.Sc
open Go.RowKit Go.Proofs.YtbgcapgjnflmoaaDoorW.PrintWords Go.Proofs.YtbgcapgjnflmoaaDoorW.PrintMore Go.Proofs.YtbgcapgjnflmoaaDoor.PLx
variable {w0 w w1 : World} {p : Nat} {line : ByteArray} {pos count : Nat} {lits : List ByteArray} {vo : Value} {l : List FV}

theorem round_err {b f : Bool} {s : Ma} {c : UInt8} {r : List UInt8} {e : Int} (h : round b f s c r = .error e) : e ≠ 0 := by
  unfold round at h
  split at h
  · split at h
    · cases h; decide
    · cases h
  · split at h
    · split at h
      · cases h; decide
      · cases h
    · split at h
      · rename_i hb
        cases h
        exact begin_err hb
      · cases h
theorem run_err : ∀ {n : Nat} {b f : Bool} {s : Ma} {l : List UInt8} {e : Int}, l.length < n → run n b f s l = .error e → e ≠ 0 := by
  intro n
  induction n with
  | zero => intro b f s l e h; omega
  | succ n ih =>
    intro b f s l e hl h
    cases l with
    | nil =>
      unfold run at h
      split at h
      · split at h
        · cases h; decide
        · cases h
      · cases h; decide
    | cons c r =>
      unfold run at h
      cases hr : round b f s c r with
      | error x =>
        rw [hr] at h
        cases h
        exact round_err hr
      | ok v =>
        obtain ⟨b', f', s', q⟩ := v
        rw [hr] at h
        have := round_le hr
        simp only [List.length_cons] at hl
        exact ih (by omega) h
theorem run_below : ∀ {n : Nat} {b f : Bool} {s s' : Ma} {l : List UInt8}, run n b f s l = .ok s' → s'.below = [] := by
  intro n
  induction n with
  | zero => intro b f s s' l h; cases h
  | succ n ih =>
    intro b f s s' l h
    cases l with
    | nil =>
      unfold run at h
      split at h
      · rename_i hb
        split at h
        · cases h
        · cases h; exact hb
      · cases h
    | cons c r =>
      unfold run at h
      cases hr : round b f s c r with
      | error x => rw [hr] at h; cases h
      | ok v =>
        obtain ⟨b', f', s2, q⟩ := v
        rw [hr] at h
        exact ih h
/-- A scanner that was just made. -/
theorem scan_start {W : World} {A : Option Addr} {cA go : Nat} {cs : Array Value} (hlit : Kd.string.C w A lits.length lits) (hcA : lits.length ≤ cA) (hb : Below w.heap.size w W) (hgo : w.heap.size ≤ go)
    (ho : W.heap[go]? = some (.cells #[.int .i64 0, .string ⟨#[]⟩, .slice none 0 0, .bool false] 43 (0, 0))) (hcs : Good cs line 0 0 A lits.length cA (.slice (some ⟨go, 0, none⟩) 1 1)) :
    Is w (W.alloc (Obj.cells cs 57)) W.heap.size line 0 ⟨0, lits, Fr.line, []⟩ := by
  have hgl := blk_lt ho
  have hbb := below_alloc hb (Obj.cells cs 57)
  have hown : (W.alloc (Obj.cells cs 57)).ownsRow w.heap.size 43 4 (.slice (some ⟨go, 0, none⟩) 1 1) 1 [.int .i64 0, .string ⟨#[]⟩, .slice none 0 0, .bool false] :=
    ⟨rfl, .inr ⟨go, 1, _, rfl, hgo, blk_alloc ho _, Nat.le_refl _, by decide, rfl, rfl⟩⟩
  refine ⟨.slice (some ⟨go, 0, none⟩) 1 1, [], .slice none 0 0, ⟨hbb, hb.size, ⟨cs, A, cA, blk_new _ _, hcs, hcA, hlit⟩, ⟨?_, _, hown, ?_⟩, ?_⟩, rfl⟩
  · intro k hk
    have : go = k := by simpa [Value.ownBlock] using hk
    omega
  · have := Reps.snoc (Reps.none (kF.M (W.alloc (Obj.cells cs 57)) w.heap.size (fun k => k ≠ W.heap.size ∧ some k ≠ (Value.slice (some ⟨go, 0, none⟩) 1 1).ownBlock)) kF.sz) (p := (Fr.line, .slice none 0 0)) (c := [.int .i64 0, .string ⟨#[]⟩, .slice none 0 0, .bool false]) ⟨rfl, rfl⟩ rfl
    exact this
  · intro j x hx
    have hj : j < 1 := (List.getElem?_eq_some_iff.1 hx).1
    have hj0 : j = 0 := by omega
    subst hj0
    have e : x = (Fr.line, .slice none 0 0) := by simpa using hx.symm
    subst e
    exact Kd.R_nil _ _ _ _ _
theorem Is.endings {w' : World} {s' : Ma} {k : Nat} (h : Is w w' p line k s') (hb : s'.below = []) : ∃ go co A8 c8 A9 k9, w'.cell? ⟨p, 1, none⟩ = some (.slice A8 s'.lits.length c8) ∧ w'.cell? ⟨p, 260, none⟩ = some (.slice (some ⟨go, 0, none⟩) 1 co) ∧ w'.cell? ⟨go, 2, none⟩ = some (.slice A9 s'.top.kids.length k9) ∧ k43.R 43 w' w.heap.size (fun _ => True) (.slice A9 s'.top.kids.length k9) s'.top.kids ∧ Below w.heap.size w w' := by
  obtain ⟨vo, l, v, hop, hm⟩ := h
  rw [hb] at hm
  have hl0 : l = [] := by have := congrArg List.length hm; rw [List.length_map] at this; exact List.eq_nil_of_length_eq_zero this
  subst hl0
  obtain ⟨A8, c8, _, _, _, y1, _⟩ := hop.cells
  obtain ⟨go, co, rfl, hco, _, _, _, _, _, y2, _, _⟩ := hop.last
  obtain ⟨_, _, _, _, _, _, _, _, y5, _⟩ := hop.cells
  have hk := hop.kids 0 (s'.top, v) rfl
  obtain ⟨A9, k9, hv⟩ := Kd.R_slice hk
  simp only at hv
  subst hv
  refine ⟨go, co, A8, c8, A9, k9, y1, y5, ?_, Kd.R_mono hk (fun _ _ => trivial), hop.bel⟩
  simpa using y2
theorem make_one (W : World) : (Instr.makeSlice 24 (.int .i64 1) (.int .i64 1)).run Tryd.prog W = .ok (.slice (some ⟨W.heap.size, 0, none⟩) 1 1) (W.alloc (.cells #[.int .i64 0, .string ⟨#[]⟩, .slice none 0 0, .bool false] 43)) := by
  obtain ⟨i0, hj0, hz0, hz1, hz2⟩ := info_parts info43
  have := run_makeSlice (P := Tryd.prog) W 24 43 i0 _ Tryd.underlying24 hj0 hz0 .i64 .i64 1 1 (by decide) (by decide) (by rw [hz1]; decide) (by rw [hz2]; decide) (by decide)
  rw [hz1, show madeCells (Value.agg #[Value.int IntKind.i64 0, Value.string { data := #[] }, Value.slice none 0 0, Value.bool false]).cells (Int.toNat 1 * 4) = #[Value.int IntKind.i64 0, Value.string { data := #[] }, Value.slice none 0 0, Value.bool false] by kernel_rfl] at this
  exact this
set_option maxRecDepth 100000 in
set_option maxHeartbeats 4000000 in
theorem scan_ok (line : ByteArray) {A : Option Addr} {cA : Nat} (lits : List ByteArray) (w : World) (hlit : Kd.string.C w A lits.length lits) (hcA : lits.length ≤ cA) (hls : lits.length ≤ 9223372036854775807) :
    Calls Tryd.prog 11 #[.string line, .slice A lits.length cA] w fun e w' => ∃ v, e = .returned (.tuple #[v, .int .i64 (scan line lits).2]) ∧ k43.R 43 w' w.heap.size (fun _ => True) v (scan line lits).1 ∧ Below w.heap.size w w' := by
  obtain ⟨R, hR⟩ : ∃ R, scan line lits = R := ⟨_, rfl⟩
  rw [hR]
  have HLIT : Hid _ := hlit
  have HC : Hid _ := hcA
  have HR : Hid _ := hR
  have hl9 : (lits.length : Int) ≤ 9223372036854775807 := by omega
  clear hlit hcA hR hls
  go_enter Tryd.func11, Tryd.ntmps11
  by_cases hshort : line.size ≤ 4096 ∧ lits.length ≤ 512
  · have hs1 : decide ((4096 : Int) < (line.size : Int)) = false := decide_eq_false (by omega)
    have hs2 : decide ((512 : Int) < (lits.length : Int)) = false := decide_eq_false (by omega)
    have HS : Hid _ := hshort
    clear hshort
    go_wp2
    go_loop [20] (fun vi => ∃ k : Nat, k ≤ lits.length ∧ vi = .int .i64 k ∧ Hid (∀ j (h : j < lits.length), j < k → lits[j].size ≤ 16384)) (fun vi => lits.length - (intOf vi).toNat)
    case atStart => exact ⟨0, Nat.zero_le _, rfl, (fun j h h2 => absurd h2 (by omega) : ∀ j (h : j < lits.length), j < 0 → lits[j].size ≤ 16384)⟩
    case round =>
      obtain ⟨k, hk, rfl, HK⟩ := hrel
      by_cases hlt : k < lits.length
      · obtain ⟨ad, rfl, hcell⟩ := (Kd.reads_of_C (d := ByteArray.empty) HLIT.out).2.2 (by omega)
        have hck := hcell k hlt
        have hltb : decide ((k : Int) < (lits.length : Int)) = true := decide_eq_true (by omega)
        have hlti : (k : Int) < (lits.length : Int) := by omega
        have hk0 : (0 : Int) ≤ (k : Int) := by omega
        obtain ⟨x, hx⟩ : ∃ x, lits.getD k ByteArray.empty = x := ⟨_, rfl⟩
        rw [hx] at hck
        have hxk : lits[k] = x := by rw [← hx, List.getD_eq_getElem?_getD, List.getElem?_eq_getElem hlt]; rfl
        have HXK : Hid _ := hxk
        have HLT : Hid _ := hlt
        clear hcell hx hxk
        by_cases hbig : 16384 < x.size
        · have hb : decide ((16384 : Int) < (x.size : Int)) = true := decide_eq_true (by omega)
          have HB : Hid _ := hbig
          clear hbig
          go_wp2
          go_ret2
          have hsc : R = ([], 2) := by
            rw [← HR.out]; unfold scan
            rw [if_pos HS.out, if_neg]
            rw [List.all_eq_true]
            intro hall
            have := of_decide_eq_true (hall x (by rw [← HXK.out]; exact List.getElem_mem HLT.out))
            have := HB.out
            omega
          rw [hsc]
          exact ⟨_, rfl, Kd.R_nil _ _ _ _ _, Below.refl _ _⟩
        · have hb : decide ((16384 : Int) < (x.size : Int)) = false := decide_eq_false (by omega)
          have HB : Hid _ := hbig
          clear hbig
          go_wp2
          have hnext : ∀ j (h : j < lits.length), j < k + 1 → lits[j].size ≤ 16384 := fun j h hj => by
            rcases (show j < k ∨ j = k by omega) with h2 | rfl
            · exact HK.out j h h2
            · have h5 := HXK.out; have := Nat.le_of_not_lt HB.out; rw [h5]; omega
          exact ⟨⟨k + 1, by have := HLT.out; omega, by simp, hnext⟩, by simp only [intOf]; have := HLT.out; omega⟩
      · have hltb : decide ((k : Int) < (lits.length : Int)) = false := decide_eq_false (by omega)
        have hle : (lits.length : Int) ≤ (k : Int) := by omega
        have hall : lits.all (fun x => decide (x.size ≤ 16384)) = true := by
          rw [List.all_eq_true]
          intro x hx
          obtain ⟨j, hj, rfl⟩ := List.mem_iff_getElem.1 hx
          exact decide_eq_true (HK.out j hj (by omega))
        have hsc : R = scanL (bytesL line) lits := by
          rw [← HR.out]; unfold scan
          rw [if_pos HS.out, if_pos hall]
        have HSC : Hid _ := hsc
        clear hall hsc hlt
        go_wp2
        have hmk := make_one
        go_region_held3 (fun _ => True) (trivial)
          (first | (go_at_call 24; refine (table_ok _).mono ?_; rintro e w1 ⟨⟨T, rfl, hT, hTc, hTa⟩, hb1⟩; have HTT : Hid _ := And.intro hT (And.intro hTc (And.intro hTa hb1)); have hz57 := zero57.1; have hfs := fun Z => fold_size Z T hT; clear hTc hTa hb1))
        all_goals rw [built_eq line A lits.length cA T hT]
        · obtain ⟨hT2, hTc, hTa, hb1⟩ := HTT.out
          have hb1 : Below w.heap.size w w1 := below_then (below_drew (Below.refl _ _)) (Nat.le_refl _) hb1
          have hbW := below_alloc hb1 (Obj.cells #[.int .i64 0, .string ⟨#[]⟩, .slice none 0 0, .bool false] 43)
          have hi := scan_start (W := w1.alloc (Obj.cells #[.int .i64 0, .string ⟨#[]⟩, .slice none 0 0, .bool false] 43)) (go := w1.heap.size) (line := line) HLIT.out HC.out hbW hb1.size (blk_new w1 _) (built_good hT2 hTc)
          rw [show (w1.alloc (Obj.cells #[.int .i64 0, .string ⟨#[]⟩, .slice none 0 0, .bool false] 43)).heap.size = w1.heap.size + 1 by simp] at hi
          obtain ⟨W2, hW2⟩ : ∃ W2, (w1.alloc (Obj.cells #[.int .i64 0, .string ⟨#[]⟩, .slice none 0 0, .bool false] 43)).alloc (Obj.cells (built57 line A lits.length cA T (.slice (some ⟨w1.heap.size, 0, none⟩) 1 1)) 57) = W2 := ⟨_, rfl⟩
          obtain ⟨p, hp⟩ : ∃ p, w1.heap.size + 1 = p := ⟨_, rfl⟩
          rw [hW2, hp] at hi
          rw [hW2, hp]
          have HI : Hid (Is w W2 p line 0 ⟨0, lits, Fr.line, []⟩) := hi
          clear hi hbW hW2 hp hz57 hfs hT2 hTc hTa hb1 hmk hT
          have hwd := words_ok HI.out ⟨Nat.zero_le _, Nat.zero_le _, Nat.zero_le _, (fun f hf => by cases hf), rfl⟩ HS.out.1
          have hscl := HSC.out
          unfold scanL at hscl
          rw [bytesL_len] at hscl
          cases hrun : run (line.size + 1) false true ⟨0, lits, Fr.line, []⟩ (bytesL line) with
          | error x =>
            rw [hrun] at hwd hscl
            have HW : Hid _ := hwd
            have HX : Hid _ := hscl
            have hx0 : (x != 0) = true := bne_yes (run_err (by rw [bytesL_len]; omega) hrun)
            clear hwd hscl hrun
            go_wp2_with (go_at_call 25; refine Calls.mono HW.out ?_; rintro e w' ⟨rfl, hb'⟩; have HB' : Hid _ := hb'; clear hb')
            go_ret2
            rw [HX.out]
            exact ⟨_, rfl, Kd.R_nil _ _ _ _ _, HB'.out⟩
          | ok s' =>
            rw [hrun] at hwd hscl
            have hbel := run_below hrun
            have HW : Hid _ := hwd
            have HX : Hid _ := hscl
            have HBEL : Hid _ := hbel
            clear hwd hscl hrun hbel
            cases hsl : s'.lits with
            | nil =>
              have HSL : Hid _ := hsl
              go_wp2_with (go_at_call 25; refine Calls.mono HW.out ?_; rintro e w' ⟨rfl, hb'⟩; obtain ⟨go, co, A8, c8, A9, k9, y1, y5, y2, hk9, hbl⟩ := Is.endings hb' HBEL.out; have HK : Hid _ := And.intro hk9 hbl; rw [HSL.out, List.length_nil] at y1; clear hb' hk9 hbl)
              go_ret2
              rw [HX.out]
              simp only
              rw [if_pos HSL.out]
              exact ⟨_, rfl, HK.out.1, HK.out.2⟩
            | cons x xs =>
              have HSL : Hid _ := hsl
              have hpos : decide ((0 : Int) < ((xs.length + 1 : Nat) : Int)) = true := decide_eq_true (by omega)
              go_wp2_with (go_at_call 25; refine Calls.mono HW.out ?_; rintro e w' ⟨rfl, hb'⟩; obtain ⟨go, co, A8, c8, A9, k9, y1, y5, y2, hk9, hbl⟩ := Is.endings hb' HBEL.out; have HK : Hid _ := hbl; rw [HSL.out, List.length_cons] at y1; clear hb' hk9 hbl y5 y2)
              go_ret2
              rw [HX.out]
              simp only
              rw [if_neg (by rw [HSL.out]; exact List.cons_ne_nil _ _)]
              exact ⟨_, rfl, Kd.R_nil _ _ _ _ _, HK.out⟩
        · obtain ⟨hT2, hTc, hTa, hb1⟩ := HTT.out
          have hbW : Below w.heap.size w w1 := below_then (below_drew (below_alloc (Below.refl _ _) _)) (below_alloc (Below.refl _ _) _).size hb1
          have hi := scan_start (W := w1) (go := w.heap.size) (line := line) HLIT.out HC.out hbW (Nat.le_refl _) (blk_below (blk_drew (blk_new w _)) hb1) (built_good hT2 hTc)
          obtain ⟨W2, hW2⟩ : ∃ W2, w1.alloc (Obj.cells (built57 line A lits.length cA T (.slice (some ⟨w.heap.size, 0, none⟩) 1 1)) 57) = W2 := ⟨_, rfl⟩
          obtain ⟨p, hp⟩ : ∃ p, w1.heap.size = p := ⟨_, rfl⟩
          rw [hW2, hp] at hi
          rw [hW2, hp]
          have HI : Hid (Is w W2 p line 0 ⟨0, lits, Fr.line, []⟩) := hi
          clear hi hbW hW2 hp hz57 hfs hT2 hTc hTa hb1 hmk hT
          have hwd := words_ok HI.out ⟨Nat.zero_le _, Nat.zero_le _, Nat.zero_le _, (fun f hf => by cases hf), rfl⟩ HS.out.1
          have hscl := HSC.out
          unfold scanL at hscl
          rw [bytesL_len] at hscl
          cases hrun : run (line.size + 1) false true ⟨0, lits, Fr.line, []⟩ (bytesL line) with
          | error x =>
            rw [hrun] at hwd hscl
            have HW : Hid _ := hwd
            have HX : Hid _ := hscl
            have hx0 : (x != 0) = true := bne_yes (run_err (by rw [bytesL_len]; omega) hrun)
            clear hwd hscl hrun
            go_wp2_with (go_at_call 25; refine Calls.mono HW.out ?_; rintro e w' ⟨rfl, hb'⟩; have HB' : Hid _ := hb'; clear hb')
            go_ret2
            rw [HX.out]
            exact ⟨_, rfl, Kd.R_nil _ _ _ _ _, HB'.out⟩
          | ok s' =>
            rw [hrun] at hwd hscl
            have hbel := run_below hrun
            have HW : Hid _ := hwd
            have HX : Hid _ := hscl
            have HBEL : Hid _ := hbel
            clear hwd hscl hrun hbel
            cases hsl : s'.lits with
            | nil =>
              have HSL : Hid _ := hsl
              go_wp2_with (go_at_call 25; refine Calls.mono HW.out ?_; rintro e w' ⟨rfl, hb'⟩; obtain ⟨go, co, A8, c8, A9, k9, y1, y5, y2, hk9, hbl⟩ := Is.endings hb' HBEL.out; have HK : Hid _ := And.intro hk9 hbl; rw [HSL.out, List.length_nil] at y1; clear hb' hk9 hbl)
              go_ret2
              rw [HX.out]
              simp only
              rw [if_pos HSL.out]
              exact ⟨_, rfl, HK.out.1, HK.out.2⟩
            | cons x xs =>
              have HSL : Hid _ := hsl
              have hpos : decide ((0 : Int) < ((xs.length + 1 : Nat) : Int)) = true := decide_eq_true (by omega)
              go_wp2_with (go_at_call 25; refine Calls.mono HW.out ?_; rintro e w' ⟨rfl, hb'⟩; obtain ⟨go, co, A8, c8, A9, k9, y1, y5, y2, hk9, hbl⟩ := Is.endings hb' HBEL.out; have HK : Hid _ := hbl; rw [HSL.out, List.length_cons] at y1; clear hb' hk9 hbl y5 y2)
              go_ret2
              rw [HX.out]
              simp only
              rw [if_neg (by rw [HSL.out]; exact List.cons_ne_nil _ _)]
              exact ⟨_, rfl, Kd.R_nil _ _ _ _ _, HK.out⟩
  · have HS : Hid _ := hshort
    have hsc : R = ([], 2) := by rw [← HR.out]; unfold scan; rw [if_neg hshort]
    rw [hsc]
    have hw : (4096 < line.size) ∨ (¬ 4096 < line.size ∧ 512 < lits.length) := by omega
    clear hsc hshort
    rcases hw with h1 | ⟨h1, h2⟩
    · have hs1 : decide ((4096 : Int) < (line.size : Int)) = true := decide_eq_true (by omega)
      clear h1
      go_wp2
      go_ret2
      exact ⟨_, rfl, Kd.R_nil _ _ _ _ _, Below.refl _ _⟩
    · have hs1 : decide ((4096 : Int) < (line.size : Int)) = false := decide_eq_false (by omega)
      have hs2 : decide ((512 : Int) < (lits.length : Int)) = true := decide_eq_true (by omega)
      clear h1 h2
      go_wp2
      go_ret2
      exact ⟨_, rfl, Kd.R_nil _ _ _ _ _, Below.refl _ _⟩
end Go.Proofs.YtbgcapgjnflmoaaDoor.Sc
