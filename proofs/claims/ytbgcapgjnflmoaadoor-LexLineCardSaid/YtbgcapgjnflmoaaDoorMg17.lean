/- Contracts of the functions that the statement reaches, and plain lemmas: ScJoin. -/
import Derived.Test.YtbgcapgjnflmoaaDoorMg14
import Derived.Test.YtbgcapgjnflmoaaDoorMg12
import Derived.Test.YtbgcapgjnflmoaaDoorMg3
set_option linter.unusedVariables false
set_option linter.unusedSimpArgs false
set_option linter.unnecessarySimpa false
/- Join, of words that are atoms or literals, where the line scans as the words. -/
namespace Go.Proofs.YtbgcapgjnflmoaaDoor.Sc
open Go.RowKit Go.Proofs.YtbgcapgjnflmoaaDoorW.PrintWords Go.Proofs.YtbgcapgjnflmoaaDoorW.PrintMore Go.Proofs.YtbgcapgjnflmoaaDoor.PLx
variable {w0 w w1 : World} {p : Nat} {out : List UInt8} {lits : List ByteArray} {pv v u : Value}
theorem WrS.move {g cap : Nat} (h : WrS w0 w p out lits pv g cap u) (hb : Below w.heap.size w w1) : WrS w0 w1 p out lits pv g cap u := by
  obtain ⟨cur, fr, hg, hc⟩ := h.buf
  exact ⟨below_then h.bel h.bel.size hb, h.low, blk_below h.top hb, ⟨cur, fr, (hb.block g (blk_lt hg)).trans hg, hc⟩, h.capn, pw_own_below h.lit hb⟩
theorem WrS.cell2 {g cap : Nat} (h : WrS w0 w p out lits pv g cap u) : w.cell? ⟨p, 2, none⟩ = some u := blk_cell h.top 2
theorem WrI.start (w : World) : WrI w (w.alloc (Obj.cells #[.pointer none, .slice none 0 0, .slice none 0 0] 64)) w.heap.size [] [] (.pointer none) (.slice none 0 0) (.slice none 0 0) :=
  ⟨below_alloc (Below.refl _ _) _, Nat.le_refl _, blk_new w _, .inl rfl, own_nil _ _ _ _, own_nil _ _ _ _⟩
theorem WrS.lits_C {A : Option Addr} {c g cap : Nat} (h : WrS w0 w p out lits pv g cap (.slice A lits.length c)) : Kd.string.C w A lits.length lits := by
  have hl := h.lit
  rw [sv_len] at hl
  obtain ⟨A', c', he, hc, hr⟩ := own_reads_of_le (d := ByteArray.empty) hl
  injection he with h1 h2 h3
  subst h1
  exact Kd.C_of_reads hr
theorem WrS.lits_le {A : Option Addr} {c g cap : Nat} (h : WrS w0 w p out lits pv g cap (.slice A lits.length c)) : lits.length ≤ c := by
  have hl := h.lit
  rw [sv_len] at hl
  obtain ⟨A', c', he, hc, hr⟩ := own_reads_of_le (d := ByteArray.empty) hl
  injection he with h1 h2 h3
  omega
/-- What Join leaves where all is well. -/
def JPost (w : World) (o : List UInt8) (ls : List ByteArray) (e : Ending) (w' : World) : Prop :=
  ∃ A c, e = .returned (.tuple #[.string (ofB o), .slice A ls.length c, .int .i64 0]) ∧ Kd.string.C w' A ls.length ls ∧ ls.length ≤ c ∧ Below w.heap.size w w'
theorem JPost.mk {w w' : World} {o : List UInt8} {ls : List ByteArray} {A : Option Addr} {c g cap : Nat} {pv9 : Value} (h : WrS w w' p o ls pv9 g cap (.slice A ls.length c)) :
    JPost w o ls (.returned (.tuple #[.string (ofB o), .slice A ls.length c, .int .i64 0])) w' := by
  exact ⟨_, _, rfl, h.lits_C, h.lits_le, h.bel⟩
set_option maxRecDepth 100000 in
set_option maxHeartbeats 4000000 in
theorem join_ok {A : Option Addr} {cA : Nat} {l : List Wd} {o : List UInt8} {ls : List ByteArray} (hr : Kd.C k43 w A l.length l) (hc : l.length ≤ cA) (hl : l.length ≤ 512)
    (hk : ∀ x, x ∈ l → (x.f0 = 1 ∨ x.f0 = 3) ∧ x.f1.size ≤ 100000) (hwp : Ext.WP w) (hR : wrS true l [] [] = some (o, ls)) (ho : o ≠ []) (hol : o.length ≤ 1000000000) (hll : ls.length ≤ 100000)
    (hs : scan (ofB o) ls = (l, 0)) :
    Calls Tryd.prog 15 #[.slice A l.length cA] w (JPost w o ls) := by
  have hw := write_ok (WrI.start w) hr hc hl hk hwp
  rw [hR] at hw
  have HW : Hid _ := hw
  have HO : Hid _ := And.intro ho (And.intro hol hll)
  have HS : Hid _ := hs
  have HR : Hid _ := And.intro hr hc
  have hl9 : decide ((512 : Int) < (l.length : Int)) = false := decide_eq_false (by omega)
  clear hw hr hc hl hk hwp hR ho hol hll hs
  go_enter Tryd.func15, Tryd.ntmps15
  go_wp2_with (first
    | (go_at_call 26; refine Calls.mono HW.out ?_; rintro e w2 ⟨rfl, pv2, v2, u2, hw2⟩; obtain ⟨g2, cap2, rfl, hs2⟩ := hw2.read HO.out.1; obtain ⟨A5, c5, rfl⟩ := own_slice hs2.lit; rw [sv_len] at hs2; have H2 : Hid _ := hs2; have z2 := hs2.cell2; clear hw2 hs2))
  have hmv : ∀ n, WrS w (w2.drewN n) w.heap.size o ls pv2 g2 cap2 (.slice A5 ls.length c5) := fun n => H2.out.move (pw_below_drewN (Below.refl _ _) n)
  have HMV : Hid _ := hmv
  clear hmv
  go_region_with (first
    | (go_at_call 27; refine Calls.mono (string_ok (HMV.out _) HO.out.1 HO.out.2.1) ?_; rintro e w3 ⟨rfl, hs3⟩; have H3 : Hid _ := hs3; have z3 := hs3.cell2; clear hs3)
    | (go_at_call 11; refine Calls.mono (scan_ok (ofB o) ls _ (H3.out.lits_C) H3.out.lits_le (by have := HO.out.2.2; omega)) ?_; rintro e w4 ⟨v4, rfl, hr4, hb4⟩; rw [HS.out] at hr4; obtain ⟨A6, c6, rfl, hc6, hC6⟩ := Kd.R_reads hr4; rw [HS.out]; have H4 : Hid _ := And.intro hc6 (And.intro hC6 (And.intro (H3.out.move hb4) hb4)); clear hr4 hc6 hC6 hb4))
  all_goals (have z4 := H4.out.2.2.1.cell2)
  all_goals go_wp2_with (first
    | (go_at_call 28; refine Calls.mono (same_eq (SizeOf.sizeOf l + 1) l (Nat.lt_succ_self _) _ _ _ _ _ H4.out.2.1 H4.out.1 (Kd.C_below HR.out.1 (H4.out.2.2.1.bel)) HR.out.2) ?_; rintro e w5 ⟨rfl, hb5⟩; have H5 : Hid _ := H4.out.2.2.1.move hb5; have z5 := H5.out.cell2; have hmv5 : ∀ n, WrS w (w5.drewN n) w.heap.size o ls pv2 g2 cap2 (.slice A5 ls.length c5) := fun n => H5.out.move (pw_below_drewN (Below.refl _ _) n); have HMV5 : Hid _ := hmv5; clear hb5 hmv5))
  all_goals go_region_with (first
    | (go_at_call 27; refine Calls.mono (string_ok (HMV5.out _) HO.out.1 HO.out.2.1) ?_; rintro e w6 ⟨rfl, hs6⟩; have H6 : Hid _ := hs6; have z6 := hs6.cell2; clear hs6))
  all_goals go_wp2
  all_goals go_ret3

  all_goals exact JPost.mk H6.out
end Go.Proofs.YtbgcapgjnflmoaaDoor.Sc
