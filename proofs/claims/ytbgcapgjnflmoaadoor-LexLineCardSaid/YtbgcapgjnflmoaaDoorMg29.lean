/- Contracts of the functions that the statement reaches, and plain lemmas: ScLl. -/
import Derived.Test.YtbgcapgjnflmoaaDoorMg21
import Derived.Test.YtbgcapgjnflmoaaDoorMg25
set_option linter.unusedVariables false
set_option linter.unusedSimpArgs false
set_option linter.unnecessarySimpa false
/- LexLine, where the line is refused. -/
namespace Go.Proofs.YtbgcapgjnflmoaaDoor.Sc
open Go.RowKit Go.Proofs.YtbgcapgjnflmoaaDoorW.PrintWords Go.Proofs.YtbgcapgjnflmoaaDoorW.PrintMore Go.Proofs.YtbgcapgjnflmoaaDoor.PLx
variable {w0 w w1 : World}
theorem scan_none {s : ByteArray} {lits : List ByteArray} (h : (scan s lits).2 ≠ 0) : (scan s lits).1 = [] := by
  unfold scan at h ⊢
  split
  · rename_i h1
    rw [if_pos h1] at h
    split
    · rename_i h2
      rw [if_pos h2] at h
      unfold scanL at h ⊢
      split
      · rfl
      · rename_i s' hs
        rw [hs] at h
        simp only at h
        split
        · rename_i h3
          rw [if_pos h3] at h
          exact absurd rfl h
        · rfl
    · rfl
  · rfl
set_option maxRecDepth 100000 in
set_option maxHeartbeats 4000000 in
theorem line_refused {A : Option Addr} {cA : Nat} (s : ByteArray) (lits : List ByteArray) (hx : (scan s lits).2 ≠ 0) (hC : Kd.string.C w A lits.length lits) (hc : lits.length ≤ cA) (hls : lits.length ≤ 9223372036854775807) (hW : Ext.WP w) :
    Calls Tryd.prog 4 #[.string s, .slice A lits.length cA] w fun e w' => e = .returned (.bool true) ∧ Below w.heap.size w w' := by
  have h1 := scan_none hx
  obtain ⟨x, hxx⟩ : ∃ x, (scan s lits).2 = x := ⟨_, rfl⟩
  rw [hxx] at hx
  have hb : (x != 0) = true := bne_iff_ne.2 hx
  have H1 : Hid _ := And.intro h1 hxx
  have HW : Hid _ := hW
  have HC : Hid _ := And.intro hC (And.intro hc hls)
  clear hW hC hc hls h1 hxx hx
  go_enter Tryd.func4, Tryd.ntmps4
  go_wp2_with fail
  refine (known_ok HW.out).mono ?_
  rintro e w1 ⟨rfl, hb1⟩
  have HB1 : Hid _ := hb1
  clear hb1
  go_wp2_with fail
  refine Calls.mono (scan_ok s lits w1 (Kd.C_below HC.out.1 HB1.out) HC.out.2.1 HC.out.2.2) ?_
  rintro e w2 ⟨v2, rfl, hr2, hb2⟩
  rw [H1.out.2]
  rw [H1.out.1] at hr2
  obtain ⟨A2, c2, hv2⟩ := Kd.R_slice hr2
  subst hv2
  have HB2 : Hid _ := below_then HB1.out HB1.out.size hb2
  clear hb2 hr2
  rw [show ([] : List Wd).length = 0 from rfl]
  go_wp2_with (first | (go_at_call 12; refine Calls.mono (num_ok _ _) ?_; rintro e w' ⟨rfl, h'⟩; replace h' := h'.symm; subst h'))
  go_ret
  exact ⟨rfl, HB2.out⟩
end Go.Proofs.YtbgcapgjnflmoaaDoor.Sc
