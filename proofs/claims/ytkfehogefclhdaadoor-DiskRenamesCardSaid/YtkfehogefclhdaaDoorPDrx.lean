/- DiskRenames, walked at every argument; the sentinels out of what is laid. -/
import Derived.Test.YtkfehogefclhdaaDoorDkLaw
import Derived.Stop.LaidTwo
namespace Go.Proofs.YtkfehogefclhdaaDoor.Dk
open Go.RowKit Go.Maps Go.Proofs.YtkfehogefclhdaaDoorW.PrintWords Go.Proofs.YtkfehogefclhdaaDoorW.PrintMore
variable {w : World} {a0 a1 a2 a3 a4 : Addr}
set_option maxRecDepth 100000 in
set_option maxHeartbeats 2000000 in
theorem renames_long (hS : Sens w w.heap.size a0 a1 a2 a3 a4) (old data : ByteArray) (part rest at' : Int) (hlong : old.size > 20000 ∨ data.size > 20000) :
    Calls Tryd.prog 3 #[.string old, .string data, .int .i64 part, .int .i64 rest, .int .i64 at'] w fun e w' => e = .returned (.bool true) ∧ Below w.heap.size w w' := by
  have hnot := not_run
  have hif := isIface25
  have HS : Hid _ := hS
  clear hS
  go_enter Tryd.func3, Tryd.ntmps3
  go_wp2_with fail
  refine (known_ok (K := fun _ => False) HS.out (Nat.le_refl _) (fun i hi => hi.elim)).mono ?_
  rintro e w1 ⟨rfl, st1⟩
  go_wp2_with fail
  refine (new_live (K := fun _ => False) 100000 (by decide) (by decide) (HS.out.below st1.below) st1.below.size (fun i hi => hi.elim)).mono ?_
  rintro e w2 ⟨rfl, l2, st2⟩
  clear l2
  by_cases ho : old.size > 20000
  · have ho2 : 20000 < old.size := ho
    have ho3 : decide (20000 < old.size) = true := decide_eq_true ho
    have ho4 : decide (20000 < (old.size : Int)) = true := decide_eq_true (by omega)
    clear hlong
    go_wp2_with fail
    go_ret
    exact ⟨rfl, (st1.trans st2).below⟩
  · have hd : data.size > 20000 := by omega
    have ho3 : decide (20000 < old.size) = false := decide_eq_false ho
    have ho4 : decide (20000 < (old.size : Int)) = false := decide_eq_false (by omega)
    have hd3 : decide (20000 < data.size) = true := decide_eq_true hd
    have hd4 : decide (20000 < (data.size : Int)) = true := decide_eq_true (by omega)
    clear hlong
    go_wp2_with fail
    all_goals go_ret
    all_goals exact ⟨rfl, (st1.trans st2).below⟩
theorem star : "*" ++ "errors.errorString" = "*errors.errorString" := by decide
theorem rowErr (u : TypeId) (h : Tryd.prog.typeName? 3 u = some "*errors.errorString") : u = 179 :=
  typeName_ptr_named (nm := "errors.errorString") (by rw [star]; kernel_rfl) (by kernel_rfl) (by decide) u (by rw [star]; exact h)
theorem cells181 : Tryd.prog.cellsOf 181 = 1 := by kernel_rfl
theorem cells9 : Tryd.prog.cellsOf 9 = 1 := by kernel_rfl
theorem gn0 : Tryd.prog.globalNamed "postbag/api.WhyDown" = some 0 := by kernel_rfl
theorem gn1 : Tryd.prog.globalNamed "postbag/api.WhyName" = some 1 := by kernel_rfl
theorem gn2 : Tryd.prog.globalNamed "postbag/api.WhyRefused" = some 2 := by kernel_rfl
theorem gn3 : Tryd.prog.globalNamed "postbag/api.WhyMissing" = some 3 := by kernel_rfl
theorem gn4 : Tryd.prog.globalNamed "postbag/api.WhyQuota" = some 4 := by kernel_rfl
theorem gt0 : (Tryd.prog.globals[0]?).map (·.type) = some 25 := by kernel_rfl
theorem gt1 : (Tryd.prog.globals[1]?).map (·.type) = some 25 := by kernel_rfl
theorem gt2 : (Tryd.prog.globals[2]?).map (·.type) = some 25 := by kernel_rfl
theorem gt3 : (Tryd.prog.globals[3]?).map (·.type) = some 25 := by kernel_rfl
theorem gt4 : (Tryd.prog.globals[4]?).map (·.type) = some 25 := by kernel_rfl
set_option maxRecDepth 100000 in
theorem sens_of_laid {t1 t3 t4 t0 t2 : List UInt8} {W : World} (h : laidMet Tryd.prog [("postbag/api.WhyName", .iface "*errors.errorString" (.ptr (.agg [.lit (.string t1)]))), ("postbag/api.WhyMissing", .iface "*errors.errorString" (.ptr (.agg [.lit (.string t3)]))), ("postbag/api.WhyQuota", .iface "*errors.errorString" (.ptr (.agg [.lit (.string t4)]))), ("postbag/api.WhyDown", .iface "*errors.errorString" (.ptr (.agg [.lit (.string t0)]))), ("postbag/api.WhyRefused", .iface "*errors.errorString" (.ptr (.agg [.lit (.string t2)])))] W) :
    ∃ a0 a1 a2 a3 a4, Sens W W.heap.size a0 a1 a2 a3 a4 := by
  obtain ⟨ps, ⟨g1, y1, cs1, f1, p1, q1, hg1, ht1, hv1, hd1, ⟨g3, y3, cs3, f3, p3, q3, hg3, ht3, hv3, hd3, ⟨g4, y4, cs4, f4, p4, q4, hg4, ht4, hv4, hd4, ⟨g0, y0, cs0, f0, p0, q0, hg0, ht0, hv0, hd0, ⟨g2, y2, cs2, f2, p2, q2, hg2, ht2, hv2, hd2, _, e2⟩, e0⟩, e4⟩, e3⟩, e1⟩, hnd, hrows⟩ := h
  obtain rfl := Option.some.inj (gn0.symm.trans hg0)
  obtain rfl := Option.some.inj (gn1.symm.trans hg1)
  obtain rfl := Option.some.inj (gn2.symm.trans hg2)
  obtain rfl := Option.some.inj (gn3.symm.trans hg3)
  obtain rfl := Option.some.inj (gn4.symm.trans hg4)
  obtain rfl := Option.some.inj (gt0.symm.trans ht0)
  obtain rfl := Option.some.inj (gt1.symm.trans ht1)
  obtain rfl := Option.some.inj (gt2.symm.trans ht2)
  obtain rfl := Option.some.inj (gt3.symm.trans ht3)
  obtain rfl := Option.some.inj (gt4.symm.trans ht4)
  subst e2
  subst e0
  subst e4
  subst e3
  subst e1
  obtain ⟨l0⟩ := cs0
  obtain ⟨l1⟩ := cs1
  obtain ⟨l2⟩ := cs2
  obtain ⟨l3⟩ := cs3
  obtain ⟨l4⟩ := cs4
  have ok0 : ∀ u v, l0 = [.iface u v] → Value.okWide Tryd.prog W .any 0 u v := fun u v e => by
    subst e
    exact (hrows 0 0 (by simp [MemPlace.row])).2 u v (by simpa using World.var?_cell hg0 hv0 0)
  have ok1 : ∀ u v, l1 = [.iface u v] → Value.okWide Tryd.prog W .any 0 u v := fun u v e => by
    subst e
    exact (hrows 1 0 (by simp [MemPlace.row])).2 u v (by simpa using World.var?_cell hg1 hv1 0)
  have ok2 : ∀ u v, l2 = [.iface u v] → Value.okWide Tryd.prog W .any 0 u v := fun u v e => by
    subst e
    exact (hrows 2 0 (by simp [MemPlace.row])).2 u v (by simpa using World.var?_cell hg2 hv2 0)
  have ok3 : ∀ u v, l3 = [.iface u v] → Value.okWide Tryd.prog W .any 0 u v := fun u v e => by
    subst e
    exact (hrows 3 0 (by simp [MemPlace.row])).2 u v (by simpa using World.var?_cell hg3 hv3 0)
  have ok4 : ∀ u v, l4 = [.iface u v] → Value.okWide Tryd.prog W .any 0 u v := fun u v e => by
    subst e
    exact (hrows 4 0 (by simp [MemPlace.row])).2 u v (by simpa using World.var?_cell hg4 hv4 0)
  obtain ⟨a0, s0, rfl, hc0, hs0, hz0, rfl⟩ := errorString_of_trod Tryd.underlying25 rowErr Tryd.underlying179 Tryd.underlying181 rfl rfl Tryd.underlying9 cells181 cells9 hd0 ok0
  obtain ⟨a1, s1, rfl, hc1, hs1, hz1, rfl⟩ := errorString_of_trod Tryd.underlying25 rowErr Tryd.underlying179 Tryd.underlying181 rfl rfl Tryd.underlying9 cells181 cells9 hd1 ok1
  obtain ⟨a2, s2, rfl, hc2, hs2, hz2, rfl⟩ := errorString_of_trod Tryd.underlying25 rowErr Tryd.underlying179 Tryd.underlying181 rfl rfl Tryd.underlying9 cells181 cells9 hd2 ok2
  obtain ⟨a3, s3, rfl, hc3, hs3, hz3, rfl⟩ := errorString_of_trod Tryd.underlying25 rowErr Tryd.underlying179 Tryd.underlying181 rfl rfl Tryd.underlying9 cells181 cells9 hd3 ok3
  obtain ⟨a4, s4, rfl, hc4, hs4, hz4, rfl⟩ := errorString_of_trod Tryd.underlying25 rowErr Tryd.underlying179 Tryd.underlying181 rfl rfl Tryd.underlying9 cells181 cells9 hd4 ok4
  have k0 : ∃ c t, W.heap[a0.block]? = some (.cells c t (0, 0)) := (hrows a0.block a0.off (by simp [MemPlace.row])).1
  have k1 : ∃ c t, W.heap[a1.block]? = some (.cells c t (0, 0)) := (hrows a1.block a1.off (by simp [MemPlace.row])).1
  have k2 : ∃ c t, W.heap[a2.block]? = some (.cells c t (0, 0)) := (hrows a2.block a2.off (by simp [MemPlace.row])).1
  have k3 : ∃ c t, W.heap[a3.block]? = some (.cells c t (0, 0)) := (hrows a3.block a3.off (by simp [MemPlace.row])).1
  have k4 : ∃ c t, W.heap[a4.block]? = some (.cells c t (0, 0)) := (hrows a4.block a4.off (by simp [MemPlace.row])).1
  have v4 : W.cell? ⟨4, 0, none⟩ = some (.iface 179 (.pointer (some a4))) := by simpa using World.var?_cell hg4 hv4 0
  refine ⟨a0, a1, a2, a3, a4, by simpa using World.var?_cell hg0 hv0 0, by simpa using World.var?_cell hg1 hv1 0, by simpa using World.var?_cell hg2 hv2 0, by simpa using World.var?_cell hg3 hv3 0, v4, ?_, ?_, ?_, ?_, ?_, World.block_lt_of_cell? W _ v4⟩
  · rintro rfl; simp [MemPlace.row] at hnd
  · rintro rfl; simp [MemPlace.row] at hnd
  · rintro rfl; simp [MemPlace.row] at hnd
  · rintro rfl; simp [MemPlace.row] at hnd
  · have fin : ∀ {a : Addr}, (∃ c t, W.heap[a.block]? = some (.cells c t (0, 0))) → a.block < W.heap.size ∧ ∃ c t, W.heap[a.block]? = some (.cells c t (0, 0)) := fun {a} h => ⟨by obtain ⟨c, t, e⟩ := h; exact blk_lt e, h⟩
    intro a ha
    rcases ha with rfl | rfl | rfl | rfl | rfl
    · exact fin k0
    · exact fin k1
    · exact fin k2
    · exact fin k3
    · exact fin k4
end Go.Proofs.YtkfehogefclhdaaDoor.Dk
namespace Go.Proofs.YtkfehogefclhdaaDoor.Ext
/-- What the disk's laws lean on: the five sentinels. -/
def WPS (w : World) : Prop := ∃ a0 a1 a2 a3 a4, Dk.Sens w w.heap.size a0 a1 a2 a3 a4
end Go.Proofs.YtkfehogefclhdaaDoor.Ext
namespace Go.Proofs.YtkfehogefclhdaaDoor.PDr
open Go.RowKit
theorem postbaglaw9_DiskRenames.calls (_k : Nat) (a0 a1 : ByteArray) (a2 a3 a4 : Int) (r : Bool) (w : World) (h : r = true) (hw : Ext.WPS w) :
    Calls Tryd.prog 3 #[.string a0, .string a1, .int .i64 a2, .int .i64 a3, .int .i64 a4] w fun e w' => e = .returned (.bool r) ∧ Below w.heap.size w w' := by
  subst h
  obtain ⟨b0, b1, b2, b3, b4, hS⟩ := hw
  by_cases h1 : a0.size > 20000
  · exact Dk.renames_long hS a0 a1 a2 a3 a4 (.inl h1)
  · by_cases h2 : a1.size > 20000
    · exact Dk.renames_long hS a0 a1 a2 a3 a4 (.inr h2)
    · exact Dk.renames_walk hS a0 a1 a2 a3 a4 h1 h2
end Go.Proofs.YtkfehogefclhdaaDoor.PDr
namespace Go.Proofs.YtkfehogefclhdaaDoor.Pure
theorem DiskRenames (_a0 _a1 : ByteArray) (_a2 _a3 _a4 : Int) (_h0 : _a0.size ≤ 140737488351232) (_h1 : _a1.size ≤ 140737488351232) : ∃ _k : Nat, true = true := ⟨0, rfl⟩
end Go.Proofs.YtkfehogefclhdaaDoor.Pure
