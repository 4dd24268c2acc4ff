/- Contracts of the functions that the statement reaches, and plain lemmas: ScWords. -/
import Derived.Test.YtbgcapgjnflmoaaDoorMg10
import Derived.WalkMore
set_option linter.unusedVariables false
set_option linter.unusedSimpArgs false
set_option linter.unnecessarySimpa false
/- words: the whole line. -/
namespace Go.Proofs.YtbgcapgjnflmoaaDoor.Sc
open Go.RowKit Go.Proofs.YtbgcapgjnflmoaaDoorW.PrintWords Go.Proofs.YtbgcapgjnflmoaaDoorW.PrintMore Go.Proofs.YtbgcapgjnflmoaaDoor.PLx
variable {w0 w w1 : World} {p : Nat} {line : ByteArray} {pos count : Nat} {lits : List ByteArray} {vo : Value} {l : List FV}

/-- What words leaves. -/
def WPost (w0 : World) (p : Nat) (line : ByteArray) (R : Except Int Ma) (e : Ending) (w' : World) : Prop :=
  match R with
  | .error c => e = .returned (.int .i64 c) ∧ Below w0.heap.size w0 w'
  | .ok s' => e = .returned (.int .i64 0) ∧ Is w0 w' p line line.size s'
theorem WPost.err {c : Int} {w' : World} (h : Below w0.heap.size w0 w') : WPost w0 p line (.error c) (.returned (.int .i64 c)) w' := ⟨rfl, h⟩
theorem WPost.fine {s : Ma} {w' : World} (h : Is w0 w' p line line.size s) : WPost w0 p line (.ok s) (.returned (.int .i64 0)) w' := ⟨rfl, h⟩
/-- In the midst of the line. -/
def WInv (w0 : World) (p : Nat) (line : ByteArray) (R : Except Int Ma) (b f : Bool) (wr : World) : Prop :=
  ∃ k s, Is w0 wr p line k s ∧ Bd k s ∧ k ≤ line.size ∧ run (line.size - k + 1) b f s ((bytesL line).drop k) = R
theorem Is.move {s : Ma} (h : Is w0 w p line pos s) (n : Nat) : Is w0 (w.drewN n) p line pos s := by
  obtain ⟨vo, l, v, hop, hm⟩ := h
  exact ⟨vo, l, v, hop.drewN n, hm⟩
theorem Is.at_ {s : Ma} (h : Is w0 w p line pos s) (z : Int) (k : Nat) (hz : z = (k : Int)) : Is w0 (w.setCell ⟨p, 2, none⟩ (.int .i64 z)) p line k s := by
  obtain ⟨vo, l, v, hop, hm⟩ := h
  exact ⟨vo, l, v, hop.setPos' z k hz, hm⟩
theorem Is.posAt {s : Ma} (h : Is w0 w p line pos s) : posAt w p = pos := by
  obtain ⟨vo, l, v, hop, hm⟩ := h
  exact hop.posAt
/-- What the walk reads of a scanner. -/
theorem Is.cells {s : Ma} (h : Is w0 w p line pos s) : ∃ go co, w.cell? ⟨p, 0, none⟩ = some (.string line) ∧ w.cell? ⟨p, 2, none⟩ = some (.int .i64 pos) ∧ w.cell? ⟨p, 260, none⟩ = some (.slice (some ⟨go, 0, none⟩) (s.below.length + 1) co) ∧ w.frozen? ⟨p, 2, none⟩ = false := by
  obtain ⟨vo, l, v, hop, hm⟩ := h
  obtain ⟨go, co, rfl, _⟩ := hop.last
  obtain ⟨_, _, _, _, c0, _, c2, _, c5, _, cz⟩ := hop.cells
  rw [map_len hm] at c5
  exact ⟨go, co, c0, c2, c5, cz 2⟩
theorem Is.bel {s : Ma} (h : Is w0 w p line pos s) : Below w0.heap.size w0 w := by
  obtain ⟨vo, l, v, hop, hm⟩ := h
  exact hop.bel
theorem begin_err {s : Ma} {g : Bool} {c : UInt8} {r : List UInt8} {e : Int} (hs : begin_ s g c r = .error e) : e ≠ 0 := by
  unfold begin_ at hs
  split at hs
  · cases hs; decide
  · split at hs
    · unfold enter at hs
      split at hs
      · split at hs
        · cases hs; decide
        · split at hs
          · cases hs
          · cases hs; decide
      · split at hs
        · split at hs
          · rename_i hq
            cases hs
            rcases qd_err hq with e | e
            · rw [e]; unfold Ma.early; split <;> decide
            · rw [e]; decide
          · cases hs
        · split at hs
          · split at hs
            · cases hs
            · cases hs; decide
          · cases hs
    · cases hs; decide
theorem shuts_heads (r : List UInt8) : shuts r = (headIs 41 r || headIs 93 r) := by cases r <;> rfl
theorem round32 {b f : Bool} {s : Ma} {r : List UInt8} : round b f s 32 r = (if b || f || shuts r then .error 30 else .ok (true, f, s, r)) := by unfold round; rw [if_pos rfl]
theorem round41 {b f : Bool} {s : Ma} {c : UInt8} {r : List UInt8} (h : c = 41 ∨ c = 93) : round b f s c r = (match shut s c with | none => .error 33 | some s' => .ok (false, false, s', r)) := by
  unfold round
  rw [if_neg (by rcases h with rfl | rfl <;> decide), if_pos h]
  cases shut s c <;> rfl
theorem round_else {b f : Bool} {s : Ma} {c : UInt8} {r : List UInt8} (h : c ≠ 32) (h2 : ¬ (c = 41 ∨ c = 93)) : round b f s c r = (match begin_ s (!b && !f) c r with | .error e => .error e | .ok (s', q) => .ok (false, decide (s.below.length < s'.below.length), s', q)) := by
  unfold round
  rw [if_neg h, if_neg h2]
  cases begin_ s (!b && !f) c r <;> rfl
set_option maxRecDepth 100000 in
set_option maxHeartbeats 4000000 in
theorem words_ok {s : Ma} (h : Is w0 w p line 0 s) (hb : Bd 0 s) (hline : line.size ≤ 4096) :
    Calls Tryd.prog 25 #[.pointer (some ⟨p, 0, none⟩)] w (WPost w0 p line (run (line.size + 1) false true s (bytesL line))) := by
  obtain ⟨R, hR⟩ : ∃ R, run (line.size + 1) false true s (bytesL line) = R := ⟨_, rfl⟩
  rw [hR]
  have HS : Hid _ := (⟨0, s, h, hb, Nat.zero_le _, hR⟩ : WInv w0 p line R false true w)
  have HL : Hid _ := hline
  clear h hb hR hline
  go_enter Tryd.func25, Tryd.ntmps25
  go_wp2
  go_step3
  go_wp2
  go_step3
  go_wp2
  go_loopw [3, 4] (fun vb vf wr => ∃ b f, vb = .bool b ∧ vf = .bool f ∧ Hid (WInv w0 p line R b f wr)) (fun _ _ wr => line.size - posAt wr p)
  case atStart => exact ⟨false, true, rfl, rfl, HS⟩
  case round =>
    obtain ⟨b, f, rfl, rfl, HH⟩ := hrel
    obtain ⟨k, s', his, hbd, hks, hrun⟩ := HH.out
    obtain ⟨go, co, d0, d2, d5, dz⟩ := Is.cells his
    have HI : Hid (Is w0 wr p line k s') := his
    have HB : Hid _ := hbd
    have HRUN : Hid _ := hrun
    have hk9 : (k : Int) ≤ 4096 := by have := HL.out; omega
    have hk0 : (0 : Int) ≤ (k : Int) := by omega
    clear his hbd hrun HH
    by_cases hlt : k < line.size
    · have hltb : decide ((k : Int) < (line.size : Int)) = true := decide_eq_true (by omega)
      have hlti : (k : Int) < (line.size : Int) := by omega
      have hltj : (k : Int) ≤ (line.size : Int) := by omega
      obtain ⟨c, hc⟩ : ∃ c, line[k] = c := ⟨_, rfl⟩
      obtain ⟨ci, hci⟩ : ∃ ci : Int, (c.toNat : Int) = ci := ⟨_, rfl⟩
      have hix : ∀ h : k < line.size, ((line[k]'h).toNat : Int) = ci := fun h => by rw [hc]; exact hci
      have hcr : (bytesL line).drop k = c :: (bytesL line).drop (k + 1) := by rw [drop_at line k hlt, hc]
      have hrr := run_round hlt hcr HRUN.out
      have HRR : Hid _ := hrr
      have HCI : Hid _ := hci
      have HC : Hid _ := hc
      have HLT : Hid _ := hlt
      have HCR : Hid _ := hcr
      clear hc hci hcr hrr
      go_wp2
      go_quiet (fail)
      obtain ⟨n1, rfl⟩ : ∃ n1, n1 = nq := ⟨_, rfl⟩
      go_wp2
      go_quiet (fail)
      obtain ⟨n2, rfl⟩ : ∃ n2, n2 = nq := ⟨_, rfl⟩
      have hisb := Is.move (Is.move HI.out n1) n2
      have hposb : posAt ((wr.drewN n1).drewN n2) p = posAt wr p := by rw [Is.posAt hisb, Is.posAt HI.out]
      obtain ⟨Wb, hWb⟩ : ∃ W, (wr.drewN n1).drewN n2 = W := ⟨_, rfl⟩
      rw [hWb] at hisb hposb ⊢
      have HIB : Hid (Is w0 Wb p line k s') := hisb
      have HPB : Hid _ := hposb
      clear d0 d2 d5 dz hisb hposb hWb hix
      obtain ⟨go', co', d0, d2, d5, dz⟩ := Is.cells HIB.out
      by_cases e32 : ci = 32
      · have f1 : (ci == 32) = true := beq_yes e32
        have hc32 : c = 32 := u8_of HCI.out 32 (by decide) e32
        have HC32 : Hid _ := hc32
        have htr := fun W => trim_at line k HLT.out (by rw [HC.out, hc32]) W
        have HTR : Hid _ := htr
        have hrr := HRR.out
        rw [hc32, round32, shuts_heads] at hrr
        have HRR2 : Hid _ := hrr
        have h41 := fun W => has_at line (k + 1) 41 W
        have h93 := fun W => has_at line (k + 1) 93 W
        obtain ⟨v41, hv41⟩ : ∃ v, headIs 41 ((bytesL line).drop (k + 1)) = v := ⟨_, rfl⟩
        obtain ⟨v93, hv93⟩ : ∃ v, headIs 93 ((bytesL line).drop (k + 1)) = v := ⟨_, rfl⟩
        rw [hv41] at h41
        rw [hv93] at h93
        have H41 : Hid _ := h41
        have H93 : Hid _ := h93
        have HV : Hid _ := And.intro hv41 hv93
        clear e32 hc32 htr hrr h41 h93 hv41 hv93
        go_wp2
        go_quiet ((go_at_call 39; exact Calls.quiet_of_same (HTR.out _)))
        obtain ⟨n3, rfl⟩ : ∃ n3, n3 = nq := ⟨_, rfl⟩
        have way : (b || f || (v41 || v93)) = true ∨ (b = false ∧ f = false ∧ v41 = false ∧ v93 = false) := by
          cases b <;> cases f <;> cases v41 <;> cases v93 <;> simp
        have HWAY : Hid _ := way
        clear way
        have hbad : (b || f || (v41 || v93)) = true → R = .error 30 := by
          intro hh
          rcases HRR2.out with ⟨e, h1, h2⟩ | ⟨b', f', s2, q, h1, _⟩
          · rw [HV.out.1, HV.out.2, if_pos hh] at h1
            cases h1; exact h2
          · rw [HV.out.1, HV.out.2, if_pos hh] at h1
            cases h1
        have HBAD : Hid _ := hbad
        clear hbad
        rcases b with _ | _
        · rcases f with _ | _
          · rcases v41 with _ | _
            · rcases v93 with _ | _
              · go_wp2_with (first
                    | (go_at_call 40; refine (H41.out _).mono ?_; rintro e w' ⟨rfl, h'⟩; replace h' := h'.symm; subst h')
                    | (go_at_call 40; refine (H93.out _).mono ?_; rintro e w' ⟨rfl, h'⟩; replace h' := h'.symm; subst h'))
                have hin := Is.at_ (Is.move HIB.out n3) ((k : Int) + 1) (k + 1) (by omega)
                have hrl : ((bytesL line).drop (k + 1)).length = line.size - (k + 1) := by rw [List.length_drop, bytesL_len]
                rcases HRR2.out with ⟨e, h1, h2⟩ | ⟨b', f', s2, q, h1, h3, h4, h5, h6⟩
                · rw [HV.out.1, HV.out.2] at h1; cases h1
                · rw [HV.out.1, HV.out.2] at h1
                  cases h1
                  have hlt2 := HLT.out
                  rw [hrl, show line.size - (line.size - (k + 1)) = k + 1 by omega] at h6
                  exact ⟨⟨true, false, rfl, rfl, ⟨k + 1, s', hin, Bd.mono HB.out (by omega), by omega, h6⟩⟩, by rw [Is.posAt hin, Is.posAt HI.out]; omega⟩
              · go_wp2_with (first
                    | (go_at_call 40; refine (H41.out _).mono ?_; rintro e w' ⟨rfl, h'⟩; replace h' := h'.symm; subst h')
                    | (go_at_call 40; refine (H93.out _).mono ?_; rintro e w' ⟨rfl, h'⟩; replace h' := h'.symm; subst h'))
                try rw [Exit.noGoto_ret]
                go_ret
                rw [HBAD.out rfl]
                exact WPost.err (Is.bel (Is.move HIB.out n3))
            · go_wp2_with (first
                  | (go_at_call 40; refine (H41.out _).mono ?_; rintro e w' ⟨rfl, h'⟩; replace h' := h'.symm; subst h')
                  | (go_at_call 40; refine (H93.out _).mono ?_; rintro e w' ⟨rfl, h'⟩; replace h' := h'.symm; subst h'))
              try rw [Exit.noGoto_ret]
              go_ret
              rw [HBAD.out rfl]
              exact WPost.err (Is.bel (Is.move HIB.out n3))
          · go_wp2_with (first
                | (go_at_call 40; refine (H41.out _).mono ?_; rintro e w' ⟨rfl, h'⟩; replace h' := h'.symm; subst h')
                | (go_at_call 40; refine (H93.out _).mono ?_; rintro e w' ⟨rfl, h'⟩; replace h' := h'.symm; subst h'))
            try rw [Exit.noGoto_ret]
            go_ret
            rw [HBAD.out rfl]
            exact WPost.err (Is.bel (Is.move HIB.out n3))
        · go_wp2_with (first
              | (go_at_call 40; refine (H41.out _).mono ?_; rintro e w' ⟨rfl, h'⟩; replace h' := h'.symm; subst h')
              | (go_at_call 40; refine (H93.out _).mono ?_; rintro e w' ⟨rfl, h'⟩; replace h' := h'.symm; subst h'))
          try rw [Exit.noGoto_ret]
          go_ret
          rw [HBAD.out rfl]
          exact WPost.err (Is.bel (Is.move HIB.out n3))
      · by_cases h41 : c = 41 ∨ c = 93
        · have f1 : (ci == 32) = false := beq_no e32
          have hc32 : c ≠ 32 := fun e => e32 (by rw [← HCI.out, e]; rfl)
          have fw : (ci == 41) = true ∨ ((ci == 41) = false ∧ (ci == 93) = true) := by
            rcases h41 with e | e
            · exact .inl (beq_yes (by rw [← HCI.out, e]; rfl))
            · exact .inr ⟨beq_no (by rw [← HCI.out, e]; decide), beq_yes (by rw [← HCI.out, e]; rfl)⟩
          have hrr := HRR.out
          rw [round41 h41] at hrr
          have HRR2 : Hid _ := hrr
          have hsh := shut_is HIB.out HB.out (by have := HL.out; have := HLT.out; omega) c
          rw [HCI.out] at hsh
          have HFW : Hid _ := fw
          clear e32 hc32 fw hrr h41
          cases hso : shut s' c with
          | none =>
            rw [hso] at hsh HRR2
            have HSH : Hid _ := hsh
            have hbad : R = .error 33 := by
              rcases HRR2.out with ⟨e, h1, h2⟩ | ⟨b', f', s2, q, h1, _⟩
              · cases h1; exact h2
              · cases h1
            have HBAD : Hid _ := hbad
            clear hsh hso hbad
            rcases HFW.out with f2 | ⟨f2, f3⟩
            all_goals go_wp2_with (go_at_call 41; refine Calls.mono HSH.out ?_; rintro e w' ⟨rfl, hb'⟩; have HB' : Hid _ := hb'; clear hb')
            all_goals (try rw [Exit.noGoto_ret])
            all_goals go_ret
            all_goals rw [HBAD.out]
            all_goals exact WPost.err HB'.out
          | some s2 =>
            rw [hso] at hsh HRR2
            have HSH : Hid _ := hsh
            have HBS : Hid (Bd (k + 1) s2) := shut_bd HB.out hso
            clear hsh hso
            rcases HFW.out with f2 | ⟨f2, f3⟩
            all_goals go_wp2_with (go_at_call 41; refine Calls.mono HSH.out ?_; rintro e w' ⟨rfl, hb'⟩; have HB' : Hid (Is w0 w' p line k s2) := hb'; obtain ⟨_, _, _, x2, _, xz⟩ := Is.cells hb'; clear hb')
            all_goals (have hin := Is.at_ HB'.out ((k : Int) + 1) (k + 1) (by omega))
            all_goals (have hrl : ((bytesL line).drop (k + 1)).length = line.size - (k + 1) := by rw [List.length_drop, bytesL_len])
            all_goals (rcases HRR2.out with ⟨e, h1, h2⟩ | ⟨b', f', s3, q, h1, h3, h4, h5, h6⟩)
            all_goals cases h1
            all_goals (have hlt2 := HLT.out)
            all_goals rw [hrl, show line.size - (line.size - (k + 1)) = k + 1 by omega] at h6
            all_goals exact ⟨⟨false, false, rfl, rfl, ⟨k + 1, s2, hin, HBS.out, by omega, h6⟩⟩, by rw [Is.posAt hin, Is.posAt HI.out]; omega⟩
        · have f1 : (ci == 32) = false := beq_no e32
          have hc32 : c ≠ 32 := fun e => e32 (by rw [← HCI.out, e]; rfl)
          have f2 : (ci == 41) = false := beq_no (fun e => h41 (.inl (u8_of HCI.out 41 (by decide) e)))
          have f3 : (ci == 93) = false := beq_no (fun e => h41 (.inr (u8_of HCI.out 93 (by decide) e)))
          have hrr := HRR.out
          rw [round_else hc32 h41] at hrr
          have HRR2 : Hid _ := hrr
          have hbg := begin_ok HIB.out HLT.out HL.out HCR.out (!b && !f) (by have := HB.out.ct; omega) HB.out.bl (by have := HB.out.tk; have := HL.out; have := HLT.out; omega)
          clear e32 hc32 hrr h41
          cases hbo : begin_ s' (!b && !f) c ((bytesL line).drop (k + 1)) with
          | error x =>
            rw [hbo] at hbg HRR2
            have HBG : Hid _ := hbg
            have hx0 : (x != 0) = true := bne_yes (begin_err hbo)
            have hbad : R = .error x := by
              rcases HRR2.out with ⟨e, h1, h2⟩ | ⟨b', f', s2, q, h1, _⟩
              · cases h1; exact h2
              · cases h1
            have HBAD : Hid _ := hbad
            clear hbg hbo hbad
            rcases b with _ | _ <;> rcases f with _ | _
            all_goals go_wp2_with (go_at_call 42; refine Calls.mono HBG.out ?_; rintro e w' ⟨rfl, hb'⟩; have HB' : Hid _ := hb'; clear hb')
            all_goals (try rw [Exit.noGoto_ret])
            all_goals go_ret
            all_goals rw [HBAD.out]
            all_goals exact WPost.err HB'.out
          | ok v =>
            obtain ⟨s2, q⟩ := v
            rw [hbo] at hbg HRR2
            have HBG : Hid _ := hbg
            have HBS : Hid (Bd (k + 1) s2) := begin_bd HB.out hbo
            clear hbg hbo
            rcases b with _ | _ <;> rcases f with _ | _
            all_goals go_wp2_with (go_at_call 42; refine Calls.mono HBG.out ?_; rintro e w' ⟨rfl, hb'⟩; have HB' : Hid (Is w0 w' p line (line.size - q.length) s2) := hb'; obtain ⟨_, _, _, _, x5, _⟩ := Is.cells hb'; clear hb')
            all_goals (rcases HRR2.out with ⟨e, h1, h2⟩ | ⟨b', f', s3, q', h1, h3, h4, h5, h6⟩)
            all_goals cases h1
            all_goals exact ⟨⟨false, decide (s'.below.length < s2.below.length), rfl, rfl, ⟨line.size - q.length, s2, HB'.out, Bd.mono HBS.out (by omega), h4, h6⟩⟩, by rw [Is.posAt HB'.out, Is.posAt HI.out]; omega⟩
    · have hkn : k = line.size := by omega
      subst hkn
      have hltb : decide ((line.size : Int) < (line.size : Int)) = false := by simp
      have hrun := HRUN.out
      rw [drop_end line line.size (Nat.le_refl _), run] at hrun
      have HRUN2 : Hid _ := hrun
      clear hrun hlt
      cases hbe : s'.below with
      | cons g r =>
        rw [hbe] at d5
        have hR : R = .error 33 := by rw [← HRUN2.out, hbe]; simp
        have HRR : Hid _ := hR
        have hlb : decide ((1 : Int) < ((g :: r).length + 1 : Nat)) = true := decide_eq_true (by simp only [List.length_cons]; omega)
        have hlb2 : (1 : Int) < (r.length : Int) + 1 + 1 := by omega
        clear hR hbe
        go_wp2
        go_quiet (fail)
        go_wp2
        try rw [Exit.noGoto_ret]
        go_ret
        rw [HRR.out]
        exact WPost.err (Is.bel (Is.move HI.out nq))
      | nil =>
        rw [hbe] at d5
        have hR : R = (if b then .error 30 else .ok s') := by rw [← HRUN2.out, hbe]; simp
        have HRR : Hid _ := hR
        clear hR hbe
        rcases b with _ | _
        · go_wp2
          go_quiet (fail)
          go_wp2
          try rw [Exit.noGoto_ret]
          go_ret
          rw [HRR.out]
          exact WPost.fine (Is.move HI.out nq)
        · go_wp2
          go_quiet (fail)
          go_wp2
          try rw [Exit.noGoto_ret]
          go_ret
          rw [HRR.out]
          exact WPost.err (Is.bel (Is.move HI.out nq))
end Go.Proofs.YtbgcapgjnflmoaaDoor.Sc
