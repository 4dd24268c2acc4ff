/- Contracts of the functions that the statement reaches, and plain lemmas: ScScan. -/
import Derived.Test.YtbgcapgjnflmoaaDoorMg14
import Derived.Test.YtbgcapgjnflmoaaDoorMg15
set_option linter.unusedVariables false
set_option linter.unusedSimpArgs false
set_option linter.unnecessarySimpa false
/- Scan. -/
namespace Go.Proofs.YtbgcapgjnflmoaaDoor.Sc
open Go.RowKit Go.Proofs.YtbgcapgjnflmoaaDoorW.PrintWords Go.Proofs.YtbgcapgjnflmoaaDoorW.PrintMore Go.Proofs.YtbgcapgjnflmoaaDoor.PLx
variable {w0 w w1 : World} {p : Nat} {line : ByteArray} {pos count : Nat} {lits : List ByteArray} {vo : Value} {l : List FV}

theorem round_err {b f : Bool} {s : Ma} {c : UInt8} {r : List UInt8} {e : Int} (h : round b f s c r = .error e) : e ≠ 0 := by
  unfold round at h
  split at h
  · split at h
    · cases h; decide
    · cases h
  · split at h
    · split at h
      · cases h; decide
      · cases h
    · split at h
      · rename_i hb
        cases h
        exact begin_err hb
      · cases h
theorem run_err : ∀ {n : Nat} {b f : Bool} {s : Ma} {l : List UInt8} {e : Int}, l.length < n → run n b f s l = .error e → e ≠ 0 := by
  intro n
  induction n with
  | zero => intro b f s l e h; omega
  | succ n ih =>
    intro b f s l e hl h
    cases l with
    | nil =>
      unfold run at h
      split at h
      · split at h
        · cases h; decide
        · cases h
      · cases h; decide
    | cons c r =>
      unfold run at h
      cases hr : round b f s c r with
      | error x =>
        rw [hr] at h
        cases h
        exact round_err hr
      | ok v =>
        obtain ⟨b', f', s', q⟩ := v
        rw [hr] at h
        have := round_le hr
        simp only [List.length_cons] at hl
        exact ih (by omega) h
theorem run_below : ∀ {n : Nat} {b f : Bool} {s s' : Ma} {l : List UInt8}, run n b f s l = .ok s' → s'.below = [] := by
  intro n
  induction n with
  | zero => intro b f s s' l h; cases h
  | succ n ih =>
    intro b f s s' l h
    cases l with
    | nil =>
      unfold run at h
      split at h
      · rename_i hb
        split at h
        · cases h
        · cases h; exact hb
      · cases h
    | cons c r =>
      unfold run at h
      cases hr : round b f s c r with
      | error x => rw [hr] at h; cases h
      | ok v =>
        obtain ⟨b', f', s2, q⟩ := v
        rw [hr] at h
        exact ih h
/-- A scanner that was just made. -/
theorem scan_start {W : World} {A : Option Addr} {cA go : Nat} {cs : Array Value} (hlit : Kd.string.C w A lits.length lits) (hcA : lits.length ≤ cA) (hb : Below w.heap.size w W) (hgo : w.heap.size ≤ go)
    (ho : W.heap[go]? = some (.cells #[.int .i64 0, .string ⟨#[]⟩, .slice none 0 0, .bool false] 43 (0, 0))) (hcs : Good cs line 0 0 A lits.length cA (.slice (some ⟨go, 0, none⟩) 1 1)) :
    Is w (W.alloc (Obj.cells cs 57)) W.heap.size line 0 ⟨0, lits, Fr.line, []⟩ := by
  have hgl := blk_lt ho
  have hbb := below_alloc hb (Obj.cells cs 57)
  have hown : (W.alloc (Obj.cells cs 57)).ownsRow w.heap.size 43 4 (.slice (some ⟨go, 0, none⟩) 1 1) 1 [.int .i64 0, .string ⟨#[]⟩, .slice none 0 0, .bool false] :=
    ⟨rfl, .inr ⟨go, 1, _, rfl, hgo, blk_alloc ho _, Nat.le_refl _, by decide, rfl, rfl⟩⟩
  refine ⟨.slice (some ⟨go, 0, none⟩) 1 1, [], .slice none 0 0, ⟨hbb, hb.size, ⟨cs, A, cA, blk_new _ _, hcs, hcA, hlit⟩, ⟨?_, _, hown, ?_⟩, ?_⟩, rfl⟩
  · intro k hk
    have : go = k := by simpa [Value.ownBlock] using hk
    omega
  · have := Reps.snoc (Reps.none (kF.M (W.alloc (Obj.cells cs 57)) w.heap.size (fun k => k ≠ W.heap.size ∧ some k ≠ (Value.slice (some ⟨go, 0, none⟩) 1 1).ownBlock)) kF.sz) (p := (Fr.line, .slice none 0 0)) (c := [.int .i64 0, .string ⟨#[]⟩, .slice none 0 0, .bool false]) ⟨rfl, rfl⟩ rfl
    exact this
  · intro j x hx
    have hj : j < 1 := (List.getElem?_eq_some_iff.1 hx).1
    have hj0 : j = 0 := by omega
    subst hj0
    have e : x = (Fr.line, .slice none 0 0) := by simpa using hx.symm
    subst e
    exact Kd.R_nil _ _ _ _ _
theorem Is.endings {w' : World} {s' : Ma} {k : Nat} (h : Is w w' p line k s') (hb : s'.below = []) : ∃ go co A8 c8 A9 k9, w'.cell? ⟨p, 1, none⟩ = some (.slice A8 s'.lits.length c8) ∧ w'.cell? ⟨p, 260, none⟩ = some (.slice (some ⟨go, 0, none⟩) 1 co) ∧ w'.cell? ⟨go, 2, none⟩ = some (.slice A9 s'.top.kids.length k9) ∧ k43.R 43 w' w.heap.size (fun _ => True) (.slice A9 s'.top.kids.length k9) s'.top.kids ∧ Below w.heap.size w w' := by
  obtain ⟨vo, l, v, hop, hm⟩ := h
  rw [hb] at hm
  have hl0 : l = [] := by have := congrArg List.length hm; rw [List.length_map] at this; exact List.eq_nil_of_length_eq_zero this
  subst hl0
  obtain ⟨A8, c8, _, _, _, y1, _⟩ := hop.cells
  obtain ⟨go, co, rfl, hco, _, _, _, _, _, y2, _, _⟩ := hop.last
  obtain ⟨_, _, _, _, _, _, _, _, y5, _⟩ := hop.cells
  have hk := hop.kids 0 (s'.top, v) rfl
  obtain ⟨A9, k9, hv⟩ := Kd.R_slice hk
  simp only at hv
  subst hv
  refine ⟨go, co, A8, c8, A9, k9, y1, y5, ?_, Kd.R_mono hk (fun _ _ => trivial), hop.bel⟩
  simpa using y2
theorem make_one (W : World) : (Instr.makeSlice 24 (.int .i64 1) (.int .i64 1)).run Tryd.prog W = .ok (.slice (some ⟨W.heap.size, 0, none⟩) 1 1) (W.alloc (.cells #[.int .i64 0, .string ⟨#[]⟩, .slice none 0 0, .bool false] 43)) := by
  obtain ⟨i0, hj0, hz0, hz1, hz2⟩ := info_parts info43
  have := run_makeSlice (P := Tryd.prog) W 24 43 i0 _ Tryd.underlying24 hj0 hz0 .i64 .i64 1 1 (by decide) (by decide) (by rw [hz1]; decide) (by rw [hz2]; decide) (by decide)
  rw [hz1, show madeCells (Value.agg #[Value.int IntKind.i64 0, Value.string { data := #[] }, Value.slice none 0 0, Value.bool false]).cells (Int.toNat 1 * 4) = #[Value.int IntKind.i64 0, Value.string { data := #[] }, Value.slice none 0 0, Value.bool false] by kernel_rfl] at this
  exact this
set_option maxRecDepth 100000 in
set_option maxHeartbeats 4000000 in
theorem scan_ok (line : ByteArray) {A : Option Addr} {cA : Nat} (lits : List ByteArray) (w : World) (hlit : Kd.string.C w A lits.length lits) (hcA : lits.length ≤ cA) (hls : lits.length ≤ 9223372036854775807) :
    Calls Tryd.prog 11 #[.string line, .slice A lits.length cA] w fun e w' => ∃ v, e = .returned (.tuple #[v, .int .i64 (scan line lits).2]) ∧ k43.R 43 w' w.heap.size (fun _ => True) v (scan line lits).1 ∧ Below w.heap.size w w' := by
  obtain ⟨R, hR⟩ : ∃ R, scan line lits = R := ⟨_, rfl⟩
  rw [hR]
  have HLIT : Hid _ := hlit
  have HC : Hid _ := hcA
  have HR : Hid _ := hR
  have hl9 : (lits.length : Int) ≤ 9223372036854775807 := by omega
  clear hlit hcA hR hls
  go_enter Tryd.func11, Tryd.ntmps11
  by_cases hshort : line.size ≤ 4096 ∧ lits.length ≤ 512
  · have hs1 : decide ((4096 : Int) < (line.size : Int)) = false := decide_eq_false (by omega)
    have hs2 : decide ((512 : Int) < (lits.length : Int)) = false := decide_eq_false (by omega)
    have HS : Hid _ := hshort
    clear hshort
    go_wp2
    go_loop [20] (fun vi => ∃ k : Nat, k ≤ lits.length ∧ vi = .int .i64 k ∧ Hid (∀ j (h : j < lits.length), j < k → lits[j].size ≤ 16384)) (fun vi => lits.length - (intOf vi).toNat)
    case atStart => exact ⟨0, Nat.zero_le _, rfl, (fun j h h2 => absurd h2 (by omega) : ∀ j (h : j < lits.length), j < 0 → lits[j].size ≤ 16384)⟩
    case round =>
      obtain ⟨k, hk, rfl, HK⟩ := hrel
      by_cases hlt : k < lits.length
      · obtain ⟨ad, rfl, hcell⟩ := (Kd.reads_of_C (d := ByteArray.empty) HLIT.out).2.2 (by omega)
        have hck := hcell k hlt
        have hltb : decide ((k : Int) < (lits.length : Int)) = true := decide_eq_true (by omega)
        have hlti : (k : Int) < (lits.length : Int) := by omega
        have hk0 : (0 : Int) ≤ (k : Int) := by omega
        obtain ⟨x, hx⟩ : ∃ x, lits.getD k ByteArray.empty = x := ⟨_, rfl⟩
        rw [hx] at hck
        have hxk : lits[k] = x := by rw [← hx, List.getD_eq_getElem?_getD, List.getElem?_eq_getElem hlt]; rfl
        have HXK : Hid _ := hxk
        have HLT : Hid _ := hlt
        clear hcell hx hxk
        by_cases hbig : 16384 < x.size
        · have hb : decide ((16384 : Int) < (x.size : Int)) = true := decide_eq_true (by omega)
          have HB : Hid _ := hbig
          clear hbig
          go_wp2
          go_ret2
          have hsc : R = ([], 2) := by
            rw [← HR.out]; unfold scan
            rw [if_pos HS.out, if_neg]
            rw [List.all_eq_true]
            intro hall
            have := of_decide_eq_true (hall x (by rw [← HXK.out]; exact List.getElem_mem HLT.out))
            have := HB.out
            omega
          rw [hsc]
          exact ⟨_, rfl, Kd.R_nil _ _ _ _ _, Below.refl _ _⟩
        · have hb : decide ((16384 : Int) < (x.size : Int)) = false := decide_eq_false (by omega)
          have HB : Hid _ := hbig
          clear hbig
          go_wp2
          have hnext : ∀ j (h : j < lits.length), j < k + 1 → lits[j].size ≤ 16384 := fun j h hj => by
            rcases (show j < k ∨ j = k by omega) with h2 | rfl
            · exact HK.out j h h2
            · have h5 := HXK.out; have := Nat.le_of_not_lt HB.out; rw [h5]; omega
          exact ⟨⟨k + 1, by have := HLT.out; omega, by simp, hnext⟩, by simp only [intOf]; have := HLT.out; omega⟩
      · have hltb : decide ((k : Int) < (lits.length : Int)) = false := decide_eq_false (by omega)
        have hle : (lits.length : Int) ≤ (k : Int) := by omega
        have hall : lits.all (fun x => decide (x.size ≤ 16384)) = true := by
          rw [List.all_eq_true]
          intro x hx
          obtain ⟨j, hj, rfl⟩ := List.mem_iff_getElem.1 hx
          exact decide_eq_true (HK.out j hj (by omega))
        have hsc : R = scanL (bytesL line) lits := by
          rw [← HR.out]; unfold scan
          rw [if_pos HS.out, if_pos hall]
        have HSC : Hid _ := hsc
        clear hall hsc hlt
        go_wp2
        have hmk := make_one
        go_region_held3 (fun _ => True) (trivial)
          (first | (go_at_call 24; refine (table_ok _).mono ?_; rintro e w1 ⟨⟨T, rfl, hT, hTc, hTa⟩, hb1⟩; have HTT : Hid _ := And.intro hT (And.intro hTc (And.intro hTa hb1)); have hz57 := zero57.1; have hfs := fun Z => fold_size Z T hT; clear hTc hTa hb1))
        all_goals rw [built_eq line A lits.length cA T hT]
        · obtain ⟨hT2, hTc, hTa, hb1⟩ := HTT.out
          have hb1 : Below w.heap.size w w1 := below_then (below_drew (Below.refl _ _)) (Nat.le_refl _) hb1
          have hbW := below_alloc hb1 (Obj.cells #[.int .i64 0, .string ⟨#[]⟩, .slice none 0 0, .bool false] 43)
          have hi := scan_start (W := w1.alloc (Obj.cells #[.int .i64 0, .string ⟨#[]⟩, .slice none 0 0, .bool false] 43)) (go := w1.heap.size) (line := line) HLIT.out HC.out hbW hb1.size (blk_new w1 _) (built_good hT2 hTc)
          rw [show (w1.alloc (Obj.cells #[.int .i64 0, .string ⟨#[]⟩, .slice none 0 0, .bool false] 43)).heap.size = w1.heap.size + 1 by simp] at hi
          obtain ⟨W2, hW2⟩ : ∃ W2, (w1.alloc (Obj.cells #[.int .i64 0, .string ⟨#[]⟩, .slice none 0 0, .bool false] 43)).alloc (Obj.cells (built57 line A lits.length cA T (.slice (some ⟨w1.heap.size, 0, none⟩) 1 1)) 57) = W2 := ⟨_, rfl⟩
          obtain ⟨p, hp⟩ : ∃ p, w1.heap.size + 1 = p := ⟨_, rfl⟩
          rw [hW2, hp] at hi
          rw [hW2, hp]
          have HI : Hid (Is w W2 p line 0 ⟨0, lits, Fr.line, []⟩) := hi
          clear hi hbW hW2 hp hz57 hfs hT2 hTc hTa hb1 hmk hT
          have hwd := words_ok HI.out ⟨Nat.zero_le _, Nat.zero_le _, Nat.zero_le _, (fun f hf => by cases hf), rfl⟩ HS.out.1
          have hscl := HSC.out
          unfold scanL at hscl
          rw [bytesL_len] at hscl
          cases hrun : run (line.size + 1) false true ⟨0, lits, Fr.line, []⟩ (bytesL line) with
          | error x =>
            rw [hrun] at hwd hscl
            have HW : Hid _ := hwd
            have HX : Hid _ := hscl
            have hx0 : (x != 0) = true := bne_yes (run_err (by rw [bytesL_len]; omega) hrun)
            clear hwd hscl hrun
            go_wp2_with (go_at_call 25; refine Calls.mono HW.out ?_; rintro e w' ⟨rfl, hb'⟩; have HB' : Hid _ := hb'; clear hb')
            go_ret2
            rw [HX.out]
            exact ⟨_, rfl, Kd.R_nil _ _ _ _ _, HB'.out⟩
          | ok s' =>
            rw [hrun] at hwd hscl
            have hbel := run_below hrun
            have HW : Hid _ := hwd
            have HX : Hid _ := hscl
            have HBEL : Hid _ := hbel
            clear hwd hscl hrun hbel
            cases hsl : s'.lits with
            | nil =>
              have HSL : Hid _ := hsl
              go_wp2_with (go_at_call 25; refine Calls.mono HW.out ?_; rintro e w' ⟨rfl, hb'⟩; obtain ⟨go, co, A8, c8, A9, k9, y1, y5, y2, hk9, hbl⟩ := Is.endings hb' HBEL.out; have HK : Hid _ := And.intro hk9 hbl; rw [HSL.out, List.length_nil] at y1; clear hb' hk9 hbl)
              go_ret2
              rw [HX.out]
              simp only
              rw [if_pos HSL.out]
              exact ⟨_, rfl, HK.out.1, HK.out.2⟩
            | cons x xs =>
              have HSL : Hid _ := hsl
              have hpos : decide ((0 : Int) < ((xs.length + 1 : Nat) : Int)) = true := decide_eq_true (by omega)
              go_wp2_with (go_at_call 25; refine Calls.mono HW.out ?_; rintro e w' ⟨rfl, hb'⟩; obtain ⟨go, co, A8, c8, A9, k9, y1, y5, y2, hk9, hbl⟩ := Is.endings hb' HBEL.out; have HK : Hid _ := hbl; rw [HSL.out, List.length_cons] at y1; clear hb' hk9 hbl y5 y2)
              go_ret2
              rw [HX.out]
              simp only
              rw [if_neg (by rw [HSL.out]; exact List.cons_ne_nil _ _)]
              exact ⟨_, rfl, Kd.R_nil _ _ _ _ _, HK.out⟩
        · obtain ⟨hT2, hTc, hTa, hb1⟩ := HTT.out
          have hbW : Below w.heap.size w w1 := below_then (below_drew (below_alloc (Below.refl _ _) _)) (below_alloc (Below.refl _ _) _).size hb1
          have hi := scan_start (W := w1) (go := w.heap.size) (line := line) HLIT.out HC.out hbW (Nat.le_refl _) (blk_below (blk_drew (blk_new w _)) hb1) (built_good hT2 hTc)
          obtain ⟨W2, hW2⟩ : ∃ W2, w1.alloc (Obj.cells (built57 line A lits.length cA T (.slice (some ⟨w.heap.size, 0, none⟩) 1 1)) 57) = W2 := ⟨_, rfl⟩
          obtain ⟨p, hp⟩ : ∃ p, w1.heap.size = p := ⟨_, rfl⟩
          rw [hW2, hp] at hi
          rw [hW2, hp]
          have HI : Hid (Is w W2 p line 0 ⟨0, lits, Fr.line, []⟩) := hi
          clear hi hbW hW2 hp hz57 hfs hT2 hTc hTa hb1 hmk hT
          have hwd := words_ok HI.out ⟨Nat.zero_le _, Nat.zero_le _, Nat.zero_le _, (fun f hf => by cases hf), rfl⟩ HS.out.1
          have hscl := HSC.out
          unfold scanL at hscl
          rw [bytesL_len] at hscl
          cases hrun : run (line.size + 1) false true ⟨0, lits, Fr.line, []⟩ (bytesL line) with
          | error x =>
            rw [hrun] at hwd hscl
            have HW : Hid _ := hwd
            have HX : Hid _ := hscl
            have hx0 : (x != 0) = true := bne_yes (run_err (by rw [bytesL_len]; omega) hrun)
            clear hwd hscl hrun
            go_wp2_with (go_at_call 25; refine Calls.mono HW.out ?_; rintro e w' ⟨rfl, hb'⟩; have HB' : Hid _ := hb'; clear hb')
            go_ret2
            rw [HX.out]
            exact ⟨_, rfl, Kd.R_nil _ _ _ _ _, HB'.out⟩
          | ok s' =>
            rw [hrun] at hwd hscl
            have hbel := run_below hrun
            have HW : Hid _ := hwd
            have HX : Hid _ := hscl
            have HBEL : Hid _ := hbel
            clear hwd hscl hrun hbel
            cases hsl : s'.lits with
            | nil =>
              have HSL : Hid _ := hsl
              go_wp2_with (go_at_call 25; refine Calls.mono HW.out ?_; rintro e w' ⟨rfl, hb'⟩; obtain ⟨go, co, A8, c8, A9, k9, y1, y5, y2, hk9, hbl⟩ := Is.endings hb' HBEL.out; have HK : Hid _ := And.intro hk9 hbl; rw [HSL.out, List.length_nil] at y1; clear hb' hk9 hbl)
              go_ret2
              rw [HX.out]
              simp only
              rw [if_pos HSL.out]
              exact ⟨_, rfl, HK.out.1, HK.out.2⟩
            | cons x xs =>
              have HSL : Hid _ := hsl
              have hpos : decide ((0 : Int) < ((xs.length + 1 : Nat) : Int)) = true := decide_eq_true (by omega)
              go_wp2_with (go_at_call 25; refine Calls.mono HW.out ?_; rintro e w' ⟨rfl, hb'⟩; obtain ⟨go, co, A8, c8, A9, k9, y1, y5, y2, hk9, hbl⟩ := Is.endings hb' HBEL.out; have HK : Hid _ := hbl; rw [HSL.out, List.length_cons] at y1; clear hb' hk9 hbl y5 y2)
              go_ret2
              rw [HX.out]
              simp only
              rw [if_neg (by rw [HSL.out]; exact List.cons_ne_nil _ _)]
              exact ⟨_, rfl, Kd.R_nil _ _ _ _ _, HK.out⟩
  · have HS : Hid _ := hshort
    have hsc : R = ([], 2) := by rw [← HR.out]; unfold scan; rw [if_neg hshort]
    rw [hsc]
    have hw : (4096 < line.size) ∨ (¬ 4096 < line.size ∧ 512 < lits.length) := by omega
    clear hsc hshort
    rcases hw with h1 | ⟨h1, h2⟩
    · have hs1 : decide ((4096 : Int) < (line.size : Int)) = true := decide_eq_true (by omega)
      clear h1
      go_wp2
      go_ret2
      exact ⟨_, rfl, Kd.R_nil _ _ _ _ _, Below.refl _ _⟩
    · have hs1 : decide ((4096 : Int) < (line.size : Int)) = false := decide_eq_false (by omega)
      have hs2 : decide ((512 : Int) < (lits.length : Int)) = true := decide_eq_true (by omega)
      clear h1 h2
      go_wp2
      go_ret2
      exact ⟨_, rfl, Kd.R_nil _ _ _ _ _, Below.refl _ _⟩
end Go.Proofs.YtbgcapgjnflmoaaDoor.Sc
