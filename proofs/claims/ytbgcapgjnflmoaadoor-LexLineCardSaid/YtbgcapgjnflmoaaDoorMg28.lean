/- Contracts of the functions that the statement reaches, and plain lemmas: ScPe. -/
import Derived.Test.YtbgcapgjnflmoaaDoorMg24
import Derived.Test.YtbgcapgjnflmoaaDoorMg22
import Derived.Test.YtbgcapgjnflmoaaDoorMg27
set_option linter.unusedVariables false
set_option linter.unusedSimpArgs false
set_option linter.unnecessarySimpa false
/- The law's plain is pl. -/
namespace Go.Proofs.YtbgcapgjnflmoaaDoor.Sc
open Go.RowKit Go.Proofs.YtbgcapgjnflmoaaDoorW.PrintWords Go.Proofs.YtbgcapgjnflmoaaDoorW.PrintMore Go.Proofs.YtbgcapgjnflmoaaDoorW.PrintLast Go.Proofs.YtbgcapgjnflmoaaDoor.PLp
theorem rd_ints (b : List UInt8) (j : Nat) (h : j < b.length) : rd (ints b) (j : Int) = ((b[j]'h).toNat : Int) := by
  unfold rd ints
  rw [Int.toNat_natCast, List.getD_eq_getElem?_getD, List.getElem?_map, List.getElem?_eq_getElem h]; rfl
theorem ints_len (b : List UInt8) : (ints b).length = b.length := by simp [ints]
def annAt (b : List UInt8) (i : Nat) : Bool := decide ((((b.take i).reverse).dropWhile dig).length < b.length) && (((b.take i).reverse).dropWhile dig).head? == some 123
theorem dig_of {c : UInt8} : dig c = true ↔ ((c.toNat : Int) ≥ 48 ∧ (c.toNat : Int) ≤ 57) := by unfold dig; simp only [decide_eq_true_iff]; omega
theorem ann_at_ev (b : List UInt8) (hb : b.length ≤ 1000000) : ∀ i, i ≤ b.length → Ev (fun k => postbaglaw3_announced.l0 k (ints b) (i : Int)) (annAt b i)
  | 0, _ => by
    refine Ev.step (f := fun _ => some false) (fun k => ?_) ?_
    · simp only [postbaglaw3_announced.l0]; rw [if_neg (by omega)]
    · rw [show annAt b 0 = false by unfold annAt; simp]; exact Ev.now _
  | i + 1, hi => by
    have e1 : wrap64 (((i + 1 : Nat) : Int) - 1) = (i : Int) := by rw [w64 (by omega) (by omega)]; omega
    have hlt : i < b.length := by omega
    have ht : (b.take (i + 1)).reverse = b[i] :: (b.take i).reverse := by rw [List.take_add_one, List.getElem?_eq_getElem hlt]; simp
    by_cases hd : dig b[i] = true
    · refine Ev.step (f := fun k => postbaglaw3_announced.l0 k (ints b) (i : Int)) (fun k => ?_) ?_
      · simp only [postbaglaw3_announced.l0]
        rw [if_pos (by omega), e1, if_pos (by omega), if_pos (by rw [ints_len]; omega), rd_ints b i hlt, if_pos (dig_of.1 hd).1, if_pos (dig_of.1 hd).2]
      · rw [show annAt b (i + 1) = annAt b i by unfold annAt; rw [ht, List.dropWhile_cons, if_pos hd]]
        exact ann_at_ev b hb i (by omega)
    · refine Ev.step (f := fun _ => some (annAt b (i + 1))) (fun k => ?_) (Ev.now _)
      have hv : annAt b (i + 1) = if i + 1 < b.length then b[i] == 123 else false := by
        unfold annAt
        rw [ht, List.dropWhile_cons, if_neg hd]
        simp only [List.length_cons, List.length_reverse, List.length_take, List.head?_cons]
        rw [show min i b.length = i by omega]
        by_cases h : i + 1 < b.length
        · rw [if_pos h, decide_eq_true h, Bool.true_and]; rfl
        · rw [if_neg h, decide_eq_false h, Bool.false_and]
      have h123 : ((b[i].toNat : Int) == 123) = (b[i] == 123) := by rw [Bool.eq_iff_iff]; simp only [beq_iff_eq, b_eq _ 123 123 rfl]
      simp only [postbaglaw3_announced.l0]
      rw [if_pos (by omega), e1, if_pos (by omega), if_pos (by rw [ints_len]; omega), rd_ints b i hlt, hv, ints_len]
      by_cases h48 : (b[i].toNat : Int) ≥ 48
      · rw [if_pos h48, if_neg (fun h => hd (dig_of.2 ⟨h48, h⟩))]
        by_cases h : i + 1 < b.length
        · rw [if_pos (by omega), if_pos h, h123]
        · rw [if_neg (by omega), if_neg h]
      · rw [if_neg h48]
        by_cases h : i + 1 < b.length
        · rw [if_pos (by omega), if_pos h, h123]
        · rw [if_neg (by omega), if_neg h]
theorem ann_b_ev (b : List UInt8) (hb : b.length ≤ 1000000) : Ev (fun k => postbaglaw3_announced.f k (ints b)) (annB b) := by
  have := ann_at_ev b hb b.length (Nat.le_refl _)
  rw [show annAt b b.length = annB b by unfold annAt annB; rw [List.take_length]] at this
  exact Ev.congr (fun k => by unfold postbaglaw3_announced.f; rw [ints_len]) this
theorem pl_end (prev : Option UInt8) (q : Bool) (b : List UInt8) : pl prev q b [] = b := by cases q <;> rw [pl.eq_def]
theorem plain_l0 {s : ByteArray} (hs : s.size ≤ 100000) : ∀ (n : Nat) (q : Bool) (i : Nat) (b : List UInt8) (prev : Option UInt8), s.size - i < n → i ≤ s.size → b.length ≤ i → (0 < i → prev = (bytesL s)[i - 1]?) → (i = 0 → prev = none) →
    Ev (fun k => postbaglaw3_plain.l0 k s (ints b) q (i : Int)) (ofB (pl prev q b ((bytesL s).drop i))) := by
  intro n
  induction n with
  | zero => intro q i b prev h; omega
  | succ n ih =>
    intro q i b prev hn hi hb hp hp0
    by_cases hlt : i < s.size
    · obtain ⟨c, hc⟩ : ∃ c, s[i] = c := ⟨_, rfl⟩
      have hdk := drop_at s i hlt
      rw [hc] at hdk
      have hbt := bt_nat s i hlt
      rw [hc] at hbt
      have e1 : wrap64 ((i : Int) + 1) = ((i + 1 : Nat) : Int) := by rw [w64 (by omega) (by omega)]; rfl
      have e2 : wrap64 (((i + 1 : Nat) : Int) + 1) = ((i + 2 : Nat) : Int) := by rw [w64 (by omega) (by omega)]; rfl
      have hat : (bytesL s)[i]? = some c := by
        have := congrArg List.head? hdk
        rw [List.head?_drop] at this
        exact this
      have app : ∀ q', Ev (fun k => postbaglaw3_plain.l0 k s (ints b ++ [(c.toNat : Int)]) q' ((i + 1 : Nat) : Int)) (ofB (pl (some c) q' (b ++ [c]) ((bytesL s).drop (i + 1)))) := fun q' => by
        have := ih q' (i + 1) (b ++ [c]) (some c) (by omega) (by omega) (by rw [List.length_append, List.length_singleton]; omega) (fun _ => hat.symm) (fun h => by omega)
        rwa [ints_snoc] at this
      have skip : Ev (fun k => postbaglaw3_plain.l0 k s (ints b) false ((i + 1 : Nat) : Int)) (ofB (pl (some c) false b ((bytesL s).drop (i + 1)))) :=
        ih false (i + 1) b (some c) (by omega) (by omega) (by omega) (fun _ => hat.symm) (fun h => by omega)
      have hlen : (ints b).length < 140737488355328 := by rw [ints_len]; omega
      rw [hdk]
      cases q with
      | true =>
        by_cases h92 : c = 92
        · subst h92
          by_cases hnx : i + 1 < s.size
          · obtain ⟨d, hd⟩ : ∃ d, s[i + 1] = d := ⟨_, rfl⟩
            have hdk2 := drop_at s (i + 1) hnx
            rw [hd] at hdk2
            have hbt2 := bt_nat s (i + 1) hnx
            rw [hd] at hbt2
            rw [hdk2, pl_esc]
            have hat2 : (bytesL s)[i + 1]? = some d := by
              have := congrArg List.head? hdk2
              rw [List.head?_drop] at this
              exact this
            have := ih true (i + 2) (b ++ [92, d]) (some d) (by omega) (by omega) (by rw [List.length_append]; simp only [List.length_cons, List.length_nil]; omega) (fun _ => hat2.symm) (fun h => by omega)
            have hlen2 : (ints b ++ [((92 : UInt8).toNat : Int)]).length < 140737488355328 := by
              have : (ints b ++ [((92 : UInt8).toNat : Int)]).length = b.length + 1 := by rw [List.length_append, ints_len]; rfl
              omega
            refine Ev.step (f := fun k => postbaglaw3_plain.j1 k s (ints b) true i ((92 : UInt8).toNat : Int) true) (fun k => ?_) (Ev.step (f := fun k => postbaglaw3_plain.l0 k s (ints (b ++ [92, d])) true ((i + 2 : Nat) : Int)) (fun k => ?_) this)
            · simp only [postbaglaw3_plain.l0]
              rw [if_pos (by omega), if_pos (by omega), if_pos trivial, hbt, if_pos (by decide), e1, decide_eq_true (by omega)]
            · simp only [postbaglaw3_plain.j1]
              rw [if_pos trivial, if_pos hlen, Option.bind_some, e1, if_pos (by omega), if_pos (by omega), if_pos hlen2, e2, hbt2]
              rw [show ints (b ++ [92, d]) = ints b ++ [((92 : UInt8).toNat : Int)] ++ [(d.toNat : Int)] by unfold ints; rw [List.map_append, List.append_assoc]; rfl]
          · have hdn : (bytesL s).drop (i + 1) = [] := drop_end s (i + 1) (by omega)
            have ha := app true
            rw [hdn, pl_end] at ha
            rw [hdn, show pl prev true b [92] = b ++ [92] by rw [pl.eq_def]; exact if_pos rfl]
            refine Ev.step (f := fun k => postbaglaw3_plain.j1 k s (ints b) true i ((92 : UInt8).toNat : Int) false) (fun k => ?_) (Ev.step (f := fun k => postbaglaw3_plain.j2 k s (ints b) true i ((92 : UInt8).toNat : Int) false) (fun k => ?_) (Ev.step (fun k => ?_) ha))
            · simp only [postbaglaw3_plain.l0]
              rw [if_pos (by omega), if_pos (by omega), if_pos trivial, hbt, if_pos (by decide), e1, decide_eq_false (by omega)]
            · simp only [postbaglaw3_plain.j1]
              rw [if_neg (by decide), if_neg (by decide), if_pos trivial]
            · simp only [postbaglaw3_plain.j2]
              rw [if_neg (by decide), if_pos trivial, if_pos hlen, e1]
        · have hc92 : ¬ (c.toNat : Int) = 92 := fun e => h92 ((b_eq _ 92 92 rfl).1 e)
          rw [pl_in h92]
          refine Ev.step (f := fun k => postbaglaw3_plain.j1 k s (ints b) true i (c.toNat : Int) false) (fun k => ?_) ?_
          · simp only [postbaglaw3_plain.l0]
            rw [if_pos (by omega), if_pos (by omega), if_pos trivial, hbt, if_neg hc92]
          · by_cases h34 : c = 34
            · rw [show (c != 34) = false by simp [h34]]
              refine Ev.step (fun k => ?_) (app false)
              simp only [postbaglaw3_plain.j1]
              rw [if_neg (by decide), if_pos ((b_eq _ 34 34 rfl).2 h34), if_pos hlen, e1, Bool.not_true]
            · rw [show (c != 34) = true by simpa using h34]
              refine Ev.step (f := fun k => postbaglaw3_plain.j2 k s (ints b) true i (c.toNat : Int) false) (fun k => ?_) (Ev.step (fun k => ?_) (app true))
              · simp only [postbaglaw3_plain.j1]
                rw [if_neg (by decide), if_neg (fun e => h34 ((b_eq _ 34 34 rfl).1 e)), if_pos trivial]
              · simp only [postbaglaw3_plain.j2]
                rw [if_neg (by decide), if_pos trivial, if_pos hlen, e1]
      | false =>
        refine Ev.step (f := fun k => postbaglaw3_plain.j1 k s (ints b) false i (c.toNat : Int) false) (fun k => ?_) ?_
        · simp only [postbaglaw3_plain.l0]
          rw [if_pos (by omega), if_pos (by omega), if_neg (by decide), hbt]
        · by_cases h34 : c = 34
          · rw [pl, if_pos h34]
            refine Ev.step (fun k => ?_) (app true)
            simp only [postbaglaw3_plain.j1]
            rw [if_neg (by decide), if_pos ((b_eq _ 34 34 rfl).2 h34), if_pos hlen, e1, Bool.not_false]
          · have hc34 : ¬ (c.toNat : Int) = 34 := fun e => h34 ((b_eq _ 34 34 rfl).1 e)
            rw [pl, if_neg h34]
            -- a byte that is no nought, and not skipped
            have plainb : c ≠ 48 → Ev (fun k => postbaglaw3_plain.j2 k s (ints b) false i (c.toNat : Int) false) (ofB (pl (some c) false (b ++ [c]) ((bytesL s).drop (i + 1)))) := fun h48 => by
              refine Ev.step (fun k => ?_) (app false)
              simp only [postbaglaw3_plain.j2]
              rw [if_neg (by decide), if_neg (by decide), if_neg (fun e => h48 ((b_eq _ 48 48 rfl).1 e)), if_pos hlen, e1]
            by_cases h43 : c = 43
            · subst h43
              rw [if_neg (fun e => absurd e.1 (by decide) : ¬ ((43 : UInt8) = 48 ∧ b.getLast? = some 123 ∧ isDig ((bytesL s).drop (i + 1)).head? = true))]
              by_cases hi0 : i = 0
              · rw [if_neg (by rw [hp0 hi0]; intro e; exact absurd e.2.1 (by decide))]
                refine Ev.step (fun k => ?_) (plainb (by decide))
                simp only [postbaglaw3_plain.j1]
                rw [if_neg (by decide), if_neg (by decide), if_neg (by decide), if_pos (by decide), if_neg (by omega)]
              · have e0 : wrap64 ((i : Int) - 1) = ((i - 1 : Nat) : Int) := by rw [w64 (by omega) (by omega)]; omega
                have hlt1 : i - 1 < s.size := by omega
                obtain ⟨g, hg⟩ : ∃ g, s[i - 1] = g := ⟨_, rfl⟩
                have hbt0 := bt_nat s (i - 1) hlt1
                rw [hg] at hbt0
                have hpg : prev = some g := by
                  rw [hp (by omega)]
                  have := congrArg List.head? (drop_at s (i - 1) hlt1)
                  rw [List.head?_drop, hg] at this
                  exact this
                subst hpg
                by_cases hdg : dig g = true
                · refine Ev.step (f := fun k => (postbaglaw3_announced.f k (ints b)).bind fun t114 => postbaglaw3_plain.j2 k s (ints b) false i ((43 : UInt8).toNat : Int) t114) (fun k => ?_) (Ev.bind (ann_b_ev b (by omega)) ?_)
                  · simp only [postbaglaw3_plain.j1]
                    rw [if_neg (by decide), if_neg (by decide), if_neg (by decide), if_pos (by decide), if_pos (by omega), e0, if_pos (by omega), if_pos (by omega), hbt0, if_pos (dig_of.1 hdg).1, if_pos (dig_of.1 hdg).2]
                  · cases ha : annB b with
                    | true =>
                      rw [if_pos ⟨rfl, hdg, rfl⟩]
                      refine Ev.step (fun k => ?_) skip
                      simp only [postbaglaw3_plain.j2]
                      rw [if_pos trivial, e1]
                    | false =>
                      rw [if_neg (fun e => absurd e.2.2 (by decide))]
                      exact plainb (by decide)
                · rw [if_neg (fun e => hdg e.2.1)]
                  refine Ev.step (fun k => ?_) (plainb (by decide))
                  simp only [postbaglaw3_plain.j1]
                  rw [if_neg (by decide), if_neg (by decide), if_neg (by decide), if_pos (by decide), if_pos (by omega), e0, if_pos (by omega), if_pos (by omega), hbt0]
                  by_cases h48 : (g.toNat : Int) ≥ 48
                  · rw [if_pos h48, if_neg (fun h => hdg (dig_of.2 ⟨h48, h⟩))]
                  · rw [if_neg h48]
            · rw [if_neg (fun e => h43 e.1)]
              refine Ev.step (f := fun k => postbaglaw3_plain.j2 k s (ints b) false i (c.toNat : Int) false) (fun k => ?_) ?_
              · simp only [postbaglaw3_plain.j1]
                rw [if_neg (by decide), if_neg hc34, if_neg (by decide), if_neg (fun e => h43 ((b_eq _ 43 43 rfl).1 e))]
              · by_cases h48 : c = 48
                · subst h48
                  have h0 : ¬ (48 : UInt8) ≠ 48 := fun h => h rfl
                  have app2 := app false
                  by_cases hb0 : b.length = 0
                  · have hbn : b = [] := List.length_eq_zero_iff.1 hb0
                    rw [if_neg (by rw [hbn]; intro e; exact absurd e.2.1 (by simp))]
                    refine Ev.step (fun k => ?_) app2
                    simp only [postbaglaw3_plain.j2]
                    rw [if_neg (by decide), if_neg (by decide), if_pos (by decide), if_neg (by rw [ints_len]; omega), if_pos hlen, e1]
                  · have el : wrap64 (((ints b).length : Int) - 1) = ((b.length - 1 : Nat) : Int) := by rw [ints_len, w64 (by omega) (by omega)]; omega
                    have hbl : b.length - 1 < b.length := by omega
                    obtain ⟨g, hg⟩ : ∃ g, b[b.length - 1]'hbl = g := ⟨_, rfl⟩
                    have hrd := rd_ints b (b.length - 1) hbl
                    rw [hg] at hrd
                    have hlast : b.getLast? = some g := by rw [List.getLast?_eq_getElem?, List.getElem?_eq_getElem hbl, hg]
                    rw [hlast]
                    by_cases h123 : g = 123
                    · subst h123
                      by_cases hnx : i + 1 < s.size
                      · obtain ⟨d, hd⟩ : ∃ d, s[i + 1] = d := ⟨_, rfl⟩
                        have hdk2 := drop_at s (i + 1) hnx
                        rw [hd] at hdk2
                        have hbt2 := bt_nat s (i + 1) hnx
                        rw [hd] at hbt2
                        have hh : ((bytesL s).drop (i + 1)).head? = some d := by rw [hdk2]; rfl
                        rw [hh]
                        by_cases hdd : dig d = true
                        · rw [if_pos ⟨rfl, rfl, hdd⟩]
                          refine Ev.step (fun k => ?_) skip
                          simp only [postbaglaw3_plain.j2]
                          rw [if_neg (by decide), if_neg (by decide), if_pos (by decide), if_pos (by rw [ints_len]; omega), el, if_pos (by omega), if_pos (by rw [ints_len]; omega), hrd, if_pos (by decide), e1, if_pos (by omega), if_pos (by omega), hbt2, if_pos (dig_of.1 hdd).1, if_pos (dig_of.1 hdd).2]
                        · rw [if_neg (fun e => hdd e.2.2)]
                          refine Ev.step (fun k => ?_) app2
                          simp only [postbaglaw3_plain.j2]
                          rw [if_neg (by decide), if_neg (by decide), if_pos (by decide), if_pos (by rw [ints_len]; omega), el, if_pos (by omega), if_pos (by rw [ints_len]; omega), hrd, if_pos (by decide), e1, if_pos (by omega), if_pos (by omega), hbt2, if_pos hlen]
                          by_cases h48 : (d.toNat : Int) ≥ 48
                          · rw [if_pos h48, if_neg (fun h => hdd (dig_of.2 ⟨h48, h⟩))]
                          · rw [if_neg h48]
                      · have hh : ((bytesL s).drop (i + 1)).head? = none := by rw [drop_end s (i + 1) (by omega)]; rfl
                        rw [hh, if_neg (fun e => absurd e.2.2 (by decide))]
                        refine Ev.step (fun k => ?_) app2
                        simp only [postbaglaw3_plain.j2]
                        rw [if_neg (by decide), if_neg (by decide), if_pos (by decide), if_pos (by rw [ints_len]; omega), el, if_pos (by omega), if_pos (by rw [ints_len]; omega), hrd, if_pos (by decide), e1, if_neg (by omega), if_pos hlen]
                    · rw [if_neg (fun e => h123 (by have := e.2.1; simpa using this))]
                      refine Ev.step (fun k => ?_) app2
                      simp only [postbaglaw3_plain.j2]
                      rw [if_neg (by decide), if_neg (by decide), if_pos (by decide), if_pos (by rw [ints_len]; omega), el, if_pos (by omega), if_pos (by rw [ints_len]; omega), hrd, if_neg (fun e => h123 ((b_eq _ 123 123 rfl).1 e)), if_pos hlen, e1]
                · rw [if_neg (fun e => h48 e.1)]
                  exact plainb h48
    · rw [drop_end s i (by omega), pl_end, ← str_ints]
      refine Ev.step (f := fun _ => some (strOfNums (ints b))) (fun k => ?_) (Ev.now _)
      simp only [postbaglaw3_plain.l0]
      rw [if_neg (by omega)]
theorem plain_ev {s : ByteArray} (hs : s.size ≤ 100000) : Ev (fun k => postbaglaw3_plain.f k s) (ofB (pl none false [] (bytesL s))) := by
  have := plain_l0 hs (s.size + 1) false 0 [] none (by omega) (by omega) (by simp) (fun h => by omega) (fun _ => rfl)
  rw [List.drop_zero] at this
  exact this
end Go.Proofs.YtbgcapgjnflmoaaDoor.Sc
