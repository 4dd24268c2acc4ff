/- Contracts of the functions that the statement reaches, and plain lemmas: ScKnow. -/
import Derived.Test.YtbgcapgjnflmoaaDoorMg17
import Derived.Test.YtbgcapgjnflmoaaDoorMg20
import Derived.Test.YtbgcapgjnflmoaaDoorMg16
set_option linter.unusedVariables false
set_option linter.unusedSimpArgs false
set_option linter.unnecessarySimpa false
/- known is true. -/
namespace Go.Proofs.YtbgcapgjnflmoaaDoor.Sc
open Go.RowKit Go.Proofs.YtbgcapgjnflmoaaDoorW.PrintWords Go.Proofs.YtbgcapgjnflmoaaDoorW.PrintMore Go.Proofs.YtbgcapgjnflmoaaDoor.PLx
variable {w0 w w1 : World}
def kn1 : List Wd := [⟨1, ⟨#[120]⟩, [], false⟩, ⟨1, ⟨#[66, 79, 68, 89]⟩, [], false⟩, ⟨5, ⟨#[]⟩, [⟨1, ⟨#[97]⟩, [], false⟩], true⟩, ⟨1, ⟨#[60, 48, 62]⟩, [], true⟩]
def kn3 : List Wd := [⟨1, ⟨#[97]⟩, [], false⟩, ⟨3, ⟨#[120, 121]⟩, [], false⟩]
theorem scan_kn1 : scan ⟨#[120, 32, 66, 79, 68, 89, 91, 97, 93, 60, 48, 62]⟩ [] = (kn1, 0) := by kernel_rfl
theorem scan_kn2 : scan ⟨#[97, 32]⟩ [] = ([], 30) := by kernel_rfl
theorem wr_kn3 : wrS true kn3 [] [] = some ([97, 32, 123, 50, 125], [⟨#[120, 121]⟩]) := by kernel_rfl
theorem scan_kn3 : scan (ofB [97, 32, 123, 50, 125]) [⟨#[120, 121]⟩] = (kn3, 0) := by kernel_rfl
theorem put_kn : PLy.lex_Put.f 20 ⟨#[97, 32, 98]⟩ = some ⟨#[34, 97, 32, 98, 34]⟩ := by kernel_rfl
theorem texts_kn : postbaglaw3_texts.f 10 [⟨#[120, 121]⟩] [⟨#[120, 121]⟩] = some true := by kernel_rfl
theorem flat_kn3 : ∀ x, x ∈ kn3 → (x.f0 = 1 ∨ x.f0 = 3) ∧ x.f1.size ≤ 100000 := by
  intro x hx
  simp only [kn3, List.mem_cons, List.not_mem_nil, or_false] at hx
  rcases hx with rfl | rfl
  · exact ⟨.inl rfl, by decide⟩
  · exact ⟨.inr rfl, by decide⟩
theorem C_none (w : World) (A : Option Addr) : Kd.C k43 w A 0 [] := ⟨rfl, by decide, fun h => absurd h (by decide)⟩
theorem CS_none (w : World) (A : Option Addr) : Kd.string.C w A 0 [] := ⟨rfl, by decide, fun h => absurd h (by decide)⟩
theorem C_kn3 (W : World) : Kd.C k43 (W.alloc (Obj.cells #[.int .i64 1, .string ⟨#[97]⟩, .slice none 0 0, .bool false, .int .i64 3, .string ⟨#[120, 121]⟩, .slice none 0 0, .bool false] 43)) (some ⟨W.heap.size, 0, none⟩) 2 kn3 := by
  refine ⟨rfl, by decide, fun _ => ⟨_, rfl, fun j x hx => ?_⟩⟩
  have hb := blk_new W (Obj.cells #[.int .i64 1, .string ⟨#[97]⟩, .slice none 0 0, .bool false, .int .i64 3, .string ⟨#[120, 121]⟩, .slice none 0 0, .bool false] 43)
  match j, hx with
  | 0, hx =>
    cases hx
    refine ⟨_, rfl, k43_mk _ ⟨1, ⟨#[97]⟩, [], false⟩ (A2 := none) (c2 := 0) (Nat.le_refl _) (C_none _ _), fun i u hu => ?_⟩
    rw [add_plain, blk_cell hb]
    match i, hu with
    | 0, hu => exact hu
    | 1, hu => exact hu
    | 2, hu => exact hu
    | 3, hu => exact hu
  | 1, hx =>
    cases hx
    refine ⟨_, rfl, k43_mk _ ⟨3, ⟨#[120, 121]⟩, [], false⟩ (A2 := none) (c2 := 0) (Nat.le_refl _) (C_none _ _), fun i u hu => ?_⟩
    rw [add_plain, blk_cell hb]
    match i, hu with
    | 0, hu => exact hu
    | 1, hu => exact hu
    | 2, hu => exact hu
    | 3, hu => exact hu
set_option maxRecDepth 100000 in
theorem num_ok (a : Int) (w : World) : Calls Tryd.prog 12 #[.int .i64 a] w fun e w' => e = .returned (.int .i64 a) ∧ w' = w := by
  go_enter Tryd.func12, Tryd.ntmps12
  go_wp2
  go_ret
  exact ⟨rfl, rfl⟩
set_option maxRecDepth 100000 in
set_option maxHeartbeats 4000000 in
theorem known_ok (hW : Ext.WP w) : Calls Tryd.prog 8 #[] w fun e w' => e = .returned (.bool true) ∧ Below w.heap.size w w' := by
  have HW : Hid _ := hW
  clear hW
  go_enter Tryd.func8, Tryd.ntmps8
  go_wp2_with fail
  have hs1 := scan_ok ⟨#[120, 32, 66, 79, 68, 89, 91, 97, 93, 60, 48, 62]⟩ (A := none) (cA := 0) [] w (CS_none _ _) (Nat.le_refl _) (by decide)
  rw [scan_kn1] at hs1
  refine Calls.mono hs1 ?_
  rintro e w1 ⟨v1, rfl, hr1, hb1⟩
  clear hs1
  obtain ⟨g1, cp, hf1, hg1, hgl1, _⟩ := Kd.R_form hr1 (by decide)
  obtain ⟨A1, c1, hv1, hc1, hC1⟩ := Kd.R_reads hr1
  obtain rfl : A1 = some ⟨g1, 0, none⟩ := by rw [hf1] at hv1; injection hv1 with h1 h2 h3; exact h1.symm
  clear hf1
  rw [show kn1.length = 4 from rfl] at hv1 hc1 hC1
  clear hr1
  subst hv1
  go_wp2_with fail
  have hs2 := scan_ok ⟨#[97, 32]⟩ (A := none) (cA := 0) [] w1 (CS_none _ _) (Nat.le_refl _) (by decide)
  rw [scan_kn2] at hs2
  refine Calls.mono hs2 ?_
  rintro e w2 ⟨v2, rfl, hr2, hb2⟩
  clear hs2 hr2
  obtain ⟨ad, A2, c2, ead0, y0, y1, y2, y3, hy2, hyC⟩ := at_T43 hC1 2 (by decide) (by decide)
  obtain ⟨ad', A3, c3, ead, z0, z1, z2, z3, hz2, hzC⟩ := at_T43 hC1 3 (by decide) (by decide)
  cases ead0
  cases ead
  rw [show rd_T43 kn1 2 = ⟨5, ⟨#[]⟩, [⟨1, ⟨#[97]⟩, [], false⟩], true⟩ from rfl] at y0 y1 y2 y3
  rw [show rd_T43 kn1 3 = ⟨1, ⟨#[60, 48, 62]⟩, [], true⟩ from rfl] at z1
  have HB : Hid _ := And.intro hb1 hb2
  have x0 : w2.cell? ⟨g1, 8, none⟩ = _ := pw_cell_below hb2 y0
  have x2 : w2.cell? ⟨g1, 10, none⟩ = some (.slice A2 1 c2) := pw_cell_below hb2 y2
  have x3 : w2.cell? ⟨g1, 11, none⟩ = _ := pw_cell_below hb2 y3
  have x1 : w2.cell? ⟨g1, 13, none⟩ = _ := pw_cell_below hb2 z1
  clear y0 y1 y2 y3 z0 z1 z2 z3 hy2 hyC hz2 hzC hC1 hb1 hb2
  go_wp2_with (first | (go_at_call 12; refine Calls.mono (num_ok _ _) ?_; rintro e w' ⟨rfl, h'⟩; replace h' := h'.symm; subst h'))
  obtain ⟨W3, hW3⟩ : ∃ W, w2.alloc (Obj.cells #[.int .i64 1, .string ⟨#[97]⟩, .slice none 0 0, .bool false, .int .i64 3, .string ⟨#[120, 121]⟩, .slice none 0 0, .bool false] 43) = W := ⟨_, rfl⟩
  have hb3 : Below w.heap.size w W3 := by rw [← hW3]; exact below_alloc (below_then HB.out.1 HB.out.1.size HB.out.2) _
  have hC3 : Kd.C k43 W3 (some ⟨w2.heap.size, 0, none⟩) 2 kn3 := by rw [← hW3]; exact C_kn3 w2
  rw [hW3]
  have hj := join_ok (cA := 2) hC3 (Nat.le_refl _) (by decide) flat_kn3 (HW.out.below hb3) wr_kn3 (by decide) (by decide) (by decide) scan_kn3
  have HB3 : Hid _ := hb3
  clear hW3 hb3 hC3 x0 x1 x2 x3
  refine Calls.mono hj ?_
  clear hj
  rintro e w4 ⟨A4, c4, rfl, hC4, hc4, hb4⟩
  rw [show ofB [97, 32, 123, 50, 125] = ⟨#[97, 32, 123, 50, 125]⟩ from rfl, show ([⟨#[120, 121]⟩] : List ByteArray).length = 1 from rfl]
  have H4 : Hid _ := And.intro hC4 (And.intro hc4 (And.intro hb4 (below_then HB3.out HB3.out.size hb4)))
  clear hC4 hc4 hb4
  go_wp2_with (first
    | (go_at_call 12; refine Calls.mono (num_ok _ _) ?_; rintro e w' ⟨rfl, h'⟩; replace h' := h'.symm; subst h'))
  obtain ⟨W5, hW5⟩ : ∃ W, w4.alloc (Obj.cells #[.string ⟨#[120, 121]⟩] 9) = W := ⟨_, rfl⟩
  have hb5 : Below w4.heap.size w4 W5 := by rw [← hW5]; exact below_alloc (Below.refl _ _) _
  have hC5 : Kd.string.C W5 (some ⟨w4.heap.size, 0, none⟩) 1 [⟨#[120, 121]⟩] := by
    rw [← hW5]
    refine Kd.C_of_reads (d := ByteArray.empty) ⟨rfl, by decide, fun _ => ⟨_, rfl, fun j hj => ?_⟩⟩
    have hj0 : j = 0 := by simpa using hj
    subst hj0
    exact blk_cell (blk_new w4 _) 0
  rw [hW5]
  have H5 : Hid _ := And.intro (Kd.C_below H4.out.1 hb5) (And.intro hC5 (below_then H4.out.2.2.2 H4.out.2.2.2.size hb5))
  clear hW5 hb5 hC5
  refine Calls.mono (postbaglaw3_texts.calls 10 A4 c4 [⟨#[120, 121]⟩] (some ⟨w4.heap.size, 0, none⟩) 1 [⟨#[120, 121]⟩] true W5 H5.out.1 H4.out.2.1 H5.out.2.1 (Nat.le_refl _) texts_kn) ?_
  rintro e w6 ⟨rfl, hb6⟩
  have hb6' : Below W5.heap.size W5 w6 := hb6.below
  have H6 : Hid _ := below_then H5.out.2.2 H5.out.2.2.size hb6'
  clear hb6 hb6'
  go_wp2_with fail
  refine Calls.mono (PLy.lex_Put.calls 20 ⟨#[97, 32, 98]⟩ ⟨#[34, 97, 32, 98, 34]⟩ _ put_kn (HW.out.below H6.out)) ?_
  rintro e w7 ⟨rfl, hb7⟩
  have H7 : Hid _ := below_then H6.out H6.out.size hb7
  clear hb7
  go_wp2
  go_ret
  exact ⟨rfl, H7.out⟩
end Go.Proofs.YtbgcapgjnflmoaaDoor.Sc
