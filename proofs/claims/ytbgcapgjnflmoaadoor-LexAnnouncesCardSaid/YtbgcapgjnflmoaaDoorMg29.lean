/- Contracts of the functions that the statement reaches, and plain lemmas: PAnx. -/
import Derived.Test.YtbgcapgjnflmoaaDoorMg27
import Derived.Test.YtbgcapgjnflmoaaDoorMg28
set_option linter.unusedVariables false
set_option linter.unusedSimpArgs false
set_option linter.unnecessarySimpa false
/- LexAnnounces, at every line. -/
namespace Go.Proofs.YtbgcapgjnflmoaaDoor.Sc
open Go.RowKit Go.Proofs.YtbgcapgjnflmoaaDoorW.PrintWords Go.Proofs.YtbgcapgjnflmoaaDoorW.PrintMore Go.Proofs.YtbgcapgjnflmoaaDoor.PLx
theorem annc_three : annc 6 false (bytesL ⟨#[97, 32, 123, 51, 125]⟩) = (3, false, true) := by kernel_rfl
set_option maxRecDepth 100000 in
set_option maxHeartbeats 2000000 in
theorem announces_walk (s : ByteArray) (hs : s.size ≤ 140737488351232) {w : World} (hW : Ext.WP w) : Calls Tryd.prog 5 #[.string s] w fun e w' => e = .returned (.bool true) ∧ Below w.heap.size w w' := by
  obtain ⟨k1, h1⟩ := (ref_ev hs).rounds
  obtain ⟨k2, h2⟩ := (lex_ev hs).rounds
  obtain ⟨k3, h3⟩ := (lex_ev (s := ⟨#[97, 32, 123, 51, 125]⟩) (by decide)).rounds
  rw [show (⟨#[97, 32, 123, 51, 125]⟩ : ByteArray).size + 1 = 6 from rfl, annc_three] at h3
  obtain ⟨⟨r1, r2, r3⟩, hr⟩ : ∃ r, annc (s.size + 1) false (bytesL s) = r := ⟨_, rfl⟩
  rw [hr] at h1 h2
  clear hr
  have H1 : Hid _ := h1
  have H2 : Hid _ := h2
  have H3 : Hid _ := h3
  have HW : Hid _ := hW
  clear h1 h2 h3 hW hs
  go_enter Tryd.func5, Tryd.ntmps5
  go_wp2_with fail
  refine (known_ok HW.out).mono ?_
  rintro e w1 ⟨rfl, hb1⟩
  have HB1 : Hid _ := hb1
  clear hb1
  go_wp2_with fail
  refine (postbagref3_Announced.calls k1 s r1 r2 r3 w1 H1.out).mono ?_
  rintro e w2 ⟨rfl, hb2⟩
  have HB2 : Hid _ := below_then HB1.out HB1.out.size hb2
  clear hb2
  go_wp2_with fail
  refine (lex_Announced.calls k2 s r1 r2 r3 w2 H2.out).mono ?_
  rintro e w3 ⟨rfl, hb3⟩
  have HB3 : Hid _ := below_then HB2.out HB2.out.size hb3
  clear hb3
  go_wp2_with fail
  refine (lex_Announced.calls k3 ⟨#[97, 32, 123, 51, 125]⟩ 3 false true w3 H3.out).mono ?_
  rintro e w4 ⟨rfl, hb4⟩
  have HB4 : Hid _ := below_then HB3.out HB3.out.size hb4
  clear hb4
  go_wp2
  go_ret
  exact ⟨by simp, HB4.out⟩
end Go.Proofs.YtbgcapgjnflmoaaDoor.Sc
namespace Go.Proofs.YtbgcapgjnflmoaaDoor.PAn
open Go.RowKit
theorem postbaglaw3_LexAnnounces.calls (_k : Nat) (a0 : ByteArray) (r : Bool) (w : World) (h : a0.size ≤ 140737488351232 ∧ r = true) (hw : Ext.WP w) :
    Calls Tryd.prog 5 #[.string a0] w fun e w' => e = .returned (.bool r) ∧ Below w.heap.size w w' := by
  obtain ⟨h1, rfl⟩ := h
  exact Sc.announces_walk a0 h1 hw
end Go.Proofs.YtbgcapgjnflmoaaDoor.PAn
namespace Go.Proofs.YtbgcapgjnflmoaaDoor.Pure
theorem LexAnnounces (a0 : ByteArray) (h : a0.size ≤ 140737488351232) : ∃ _k : Nat, a0.size ≤ 140737488351232 ∧ true = true := ⟨0, h, rfl⟩
end Go.Proofs.YtbgcapgjnflmoaaDoor.Pure
