/- Contracts of the functions that the statement reaches, and plain lemmas: ScJt, ScJn. -/
import Derived.Test.YtbgcapgjnflmoaaDoorMg17
import Derived.Test.YtbgcapgjnflmoaaDoorMg24
set_option linter.unusedVariables false
set_option linter.unusedSimpArgs false
set_option linter.unnecessarySimpa false
/- Join, of the words of a line that is scanned. -/
namespace Go.Proofs.YtbgcapgjnflmoaaDoor.Sc
open Go.RowKit Go.Proofs.YtbgcapgjnflmoaaDoorW.PrintWords Go.Proofs.YtbgcapgjnflmoaaDoorW.PrintMore Go.Proofs.YtbgcapgjnflmoaaDoor.PLx
variable {w0 w w1 : World} {p : Nat} {out : List UInt8} {lits : List ByteArray} {pv v u : Value}
set_option maxRecDepth 100000 in
set_option maxHeartbeats 4000000 in
theorem joinT_ok {A : Option Addr} {cA : Nat} {l : List Wd} {o : List UInt8} {ls : List ByteArray} (hr : Kd.C k43 w A l.length l) (hc : l.length ≤ cA) (hl : l.length ≤ 512)
    (hv : Vd 12 l) (hwp : Ext.WP w) (hO : wL true l = o) (hT : tL l = ls) (ho : o ≠ []) (hol : o.length ≤ 4096) (hll : ls.length ≤ 512)
    (hs : scan (ofB o) ls = (l, 0)) :
    Calls Tryd.prog 15 #[.slice A l.length cA] w (JPost w o ls) := by
  have hw := writeT_ok 12 0 rfl l (WrI.start w) hr hc hv (by rw [hO]; simpa using hol) (by rw [hT]; simpa using hll) hwp
  rw [hO, hT, List.nil_append, List.nil_append, show ((0 : Nat) : Int) = 0 from rfl] at hw
  have hol : o.length ≤ 1000000000 := by omega
  have hll : ls.length ≤ 100000 := by omega
  have HW : Hid _ := hw
  have HO : Hid _ := And.intro ho (And.intro hol hll)
  have HS : Hid _ := hs
  have HR : Hid _ := And.intro hr hc
  have hl9 : decide ((512 : Int) < (l.length : Int)) = false := decide_eq_false (by omega)
  clear hw hr hc hl hv hwp hO hT ho hol hll hs
  go_enter Tryd.func15, Tryd.ntmps15
  go_wp2_with (first
    | (go_at_call 26; refine Calls.mono HW.out ?_; rintro e w2 ⟨rfl, pv2, v2, u2, hw2⟩; obtain ⟨g2, cap2, rfl, hs2⟩ := hw2.read HO.out.1; obtain ⟨A5, c5, rfl⟩ := own_slice hs2.lit; rw [sv_len] at hs2; have H2 : Hid _ := hs2; have z2 := hs2.cell2; clear hw2 hs2))
  have hmv : ∀ n, WrS w (w2.drewN n) w.heap.size o ls pv2 g2 cap2 (.slice A5 ls.length c5) := fun n => H2.out.move (pw_below_drewN (Below.refl _ _) n)
  have HMV : Hid _ := hmv
  clear hmv
  go_region_with (first
    | (go_at_call 27; refine Calls.mono (string_ok (HMV.out _) HO.out.1 HO.out.2.1) ?_; rintro e w3 ⟨rfl, hs3⟩; have H3 : Hid _ := hs3; have z3 := hs3.cell2; clear hs3)
    | (go_at_call 11; refine Calls.mono (scan_ok (ofB o) ls _ (H3.out.lits_C) H3.out.lits_le (by have := HO.out.2.2; omega)) ?_; rintro e w4 ⟨v4, rfl, hr4, hb4⟩; rw [HS.out] at hr4; obtain ⟨A6, c6, rfl, hc6, hC6⟩ := Kd.R_reads hr4; rw [HS.out]; have H4 : Hid _ := And.intro hc6 (And.intro hC6 (And.intro (H3.out.move hb4) hb4)); clear hr4 hc6 hC6 hb4))
  all_goals (have z4 := H4.out.2.2.1.cell2)
  all_goals go_wp2_with (first
    | (go_at_call 28; refine Calls.mono (same_eq (SizeOf.sizeOf l + 1) l (Nat.lt_succ_self _) _ _ _ _ _ H4.out.2.1 H4.out.1 (Kd.C_below HR.out.1 (H4.out.2.2.1.bel)) HR.out.2) ?_; rintro e w5 ⟨rfl, hb5⟩; have H5 : Hid _ := H4.out.2.2.1.move hb5; have z5 := H5.out.cell2; have hmv5 : ∀ n, WrS w (w5.drewN n) w.heap.size o ls pv2 g2 cap2 (.slice A5 ls.length c5) := fun n => H5.out.move (pw_below_drewN (Below.refl _ _) n); have HMV5 : Hid _ := hmv5; clear hb5 hmv5))
  all_goals go_region_with (first
    | (go_at_call 27; refine Calls.mono (string_ok (HMV5.out _) HO.out.1 HO.out.2.1) ?_; rintro e w6 ⟨rfl, hs6⟩; have H6 : Hid _ := hs6; have z6 := hs6.cell2; clear hs6))
  all_goals go_wp2
  all_goals go_ret3

  all_goals exact JPost.mk H6.out
end Go.Proofs.YtbgcapgjnflmoaaDoor.Sc

/- Join, of no words. -/
namespace Go.Proofs.YtbgcapgjnflmoaaDoor.Sc
open Go.RowKit Go.Proofs.YtbgcapgjnflmoaaDoorW.PrintWords Go.Proofs.YtbgcapgjnflmoaaDoorW.PrintMore Go.Proofs.YtbgcapgjnflmoaaDoor.PLx
variable {w0 w w1 : World} {p : Nat} {pv v u : Value}
set_option maxRecDepth 100000 in
set_option maxHeartbeats 1000000 in
theorem write_none {A : Option Addr} {cA : Nat} : Calls Tryd.prog 26 #[.pointer (some ⟨p, 0, none⟩), .slice A 0 cA, .int .i64 0] w fun e w' => e = .returned (.bool true) ∧ w' = w := by
  go_enter Tryd.func26, Tryd.ntmps26
  go_wp2
  go_loopw [14] (fun vi wr => vi = .int .i64 0 ∧ wr = w) (fun _ _ => 0)
  case atStart => exact ⟨rfl, rfl⟩
  case round =>
    obtain ⟨rfl, rfl⟩ := hrel
    go_wp2
    go_ret
    exact ⟨rfl, rfl⟩
set_option maxRecDepth 100000 in
set_option maxHeartbeats 1000000 in
theorem string_none (h : w.heap[p]? = some (.cells #[pv, .slice none 0 0, u] 64 (0, 0))) : Calls Tryd.prog 27 #[.pointer (some ⟨p, 0, none⟩)] w fun e w' => e = .returned (.string (ofB [])) ∧ Below w.heap.size w w' := by
  have c1 : w.drew.cell? ⟨p, 1, none⟩ = some (.slice none 0 0) := by
    have : w.drew.heap[p]? = some (.cells #[pv, .slice none 0 0, u] 64 (0, 0)) := h
    rw [Lib.cell_of_heap this]; rfl
  have hSD : (Builtin.unsafeSliceData_ #[41] 87 #[.slice none 0 0]).run Tryd.prog w.drew = .ok (.pointer none) w.drew := Lib.run_unsafeSliceData_nil _ _ _ _ _
  have hUS : (Builtin.unsafeString_ #[87, 3] 9 #[.pointer none, .int .i64 0]).run Tryd.prog w.drew = .ok (.string .empty) w.drew := Lib.run_unsafeString_none _ _ _ _ _
  clear h
  have mixed : Tryd.prog.follows Departure.mixedOrders = true := by kernel_rfl
  go_enter Tryd.func27, Tryd.ntmps27
  go_wp2
  go_region_o
  all_goals (go_wp2; go_ret; exact ⟨rfl, Below.drew (Below.refl _ _)⟩)
abbrev Wr0 : Obj := .cells #[.pointer none, .slice none 0 0, .slice none 0 0] 64 (0, 0)
theorem Wr0.cell2 (h : w.heap[p]? = some Wr0) : w.cell? ⟨p, 2, none⟩ = some (.slice none 0 0) := by rw [Lib.cell_of_heap h]; rfl
theorem Wr0.drew (h : w.heap[p]? = some Wr0) (n : Nat) : (w.drewN n).heap[p]? = some Wr0 := blk_below h (pw_below_drewN (Below.refl _ _) n)
set_option maxRecDepth 100000 in
set_option maxHeartbeats 4000000 in
/-- Join of no words: no text, no literals. -/
theorem join_none {A : Option Addr} {cA : Nat} (hr : Kd.C k43 w A 0 []) : Calls Tryd.prog 15 #[.slice A 0 cA] w (JPost w [] []) := by
  have hk : ∀ W : World, Kd.string.C W none 0 [] := fun W => ⟨rfl, by simp, fun h => absurd h (Nat.lt_irrefl 0)⟩
  have HK : Hid _ := hk
  have HR : Hid _ := hr
  clear hr hk
  go_enter Tryd.func15, Tryd.ntmps15
  go_wp2_with (go_at_call 26; refine write_none.mono ?_; rintro e w2 ⟨rfl, h2⟩; have H2 : Hid (w2.heap[w.heap.size]? = some Wr0 ∧ Below w.heap.size w w2) := (by rw [h2]; exact ⟨blk_new w _, below_alloc (Below.refl _ _) _⟩); have z2 := Wr0.cell2 H2.out.1; clear h2)
  go_region_with (first
    | (go_at_call 27; refine Calls.mono (string_none (Wr0.drew H2.out.1 _)) ?_; rintro e w3 ⟨rfl, hb3⟩; have H3 : Hid (w3.heap[w.heap.size]? = some Wr0 ∧ Below w.heap.size w w3) := ⟨blk_below (Wr0.drew H2.out.1 _) hb3, below_then (below_then H2.out.2 H2.out.2.size (pw_below_drewN (Below.refl _ _) _)) (below_then H2.out.2 H2.out.2.size (pw_below_drewN (Below.refl _ _) _)).size hb3⟩; have z3 := Wr0.cell2 H3.out.1; clear hb3)
    | (go_at_call 11; refine Calls.mono (scan_ok (ofB []) [] _ (HK.out _) (Nat.le_refl _) (by decide)) ?_; rintro e w4 ⟨v4, rfl, hr4, hb4⟩; rw [scan_no] at hr4; obtain ⟨A6, c6, rfl, hc6, hC6⟩ := Kd.R_reads hr4; rw [scan_no]; have H4 : Hid _ := And.intro hc6 (And.intro hC6 (And.intro (blk_below H3.out.1 hb4) (below_then H3.out.2 H3.out.2.size hb4))); clear hr4 hc6 hC6 hb4))
  all_goals (have z4 := Wr0.cell2 H4.out.2.2.1)
  all_goals go_wp2_with (first
    | (go_at_call 28; refine Calls.mono (same_eq (SizeOf.sizeOf ([] : List Wd) + 1) [] (Nat.lt_succ_self _) _ _ _ _ _ H4.out.2.1 H4.out.1 (Kd.C_below HR.out H4.out.2.2.2) (Nat.zero_le _)) ?_; rintro e w5 ⟨rfl, hb5⟩; have H5 : Hid (w5.heap[w.heap.size]? = some Wr0 ∧ Below w.heap.size w w5) := ⟨blk_below H4.out.2.2.1 hb5, below_then H4.out.2.2.2 H4.out.2.2.2.size hb5⟩; have z5 := Wr0.cell2 H5.out.1; clear hb5))
  all_goals go_region_with (first
    | (go_at_call 27; refine Calls.mono (string_none (Wr0.drew H5.out.1 _)) ?_; rintro e w6 ⟨rfl, hb6⟩; have H6 : Hid (w6.heap[w.heap.size]? = some Wr0 ∧ Below w.heap.size w w6) := ⟨blk_below (Wr0.drew H5.out.1 _) hb6, below_then (below_then H5.out.2 H5.out.2.size (pw_below_drewN (Below.refl _ _) _)) (below_then H5.out.2 H5.out.2.size (pw_below_drewN (Below.refl _ _) _)).size hb6⟩; have z6 := Wr0.cell2 H6.out.1; clear hb6))
  all_goals go_wp2
  all_goals go_ret3
  all_goals exact ⟨_, _, rfl, HK.out _, Nat.zero_le _, H6.out.2⟩
end Go.Proofs.YtbgcapgjnflmoaaDoor.Sc
