/- The disk's errors: what they are in memory; what errors.Is says of them. -/
import Derived.Test.YtkfehogefclhdaaDoorDkOne
import Derived.LaidEql
import Derived.Stop.Asserts
import Derived.RowKitTokens
namespace Go.Proofs.YtkfehogefclhdaaDoor.Dk
open Go.RowKit Go.Maps Go.Proofs.YtkfehogefclhdaaDoorW.PrintWords Go.Extern.Stop Go.Stop Go.Extern
variable {N : Nat} {w : World} {p : Nat} {F : Nat → Prop} {s : St} {m : Nat} {pv : Value}

/-- The five sentinels, below block B. -/
structure Sens (w : World) (B : Nat) (a0 a1 a2 a3 a4 : Addr) : Prop where
  c0 : w.cell? ⟨0, 0, none⟩ = some (.iface 179 (.pointer (some a0)))
  c1 : w.cell? ⟨1, 0, none⟩ = some (.iface 179 (.pointer (some a1)))
  c2 : w.cell? ⟨2, 0, none⟩ = some (.iface 179 (.pointer (some a2)))
  c3 : w.cell? ⟨3, 0, none⟩ = some (.iface 179 (.pointer (some a3)))
  c4 : w.cell? ⟨4, 0, none⟩ = some (.iface 179 (.pointer (some a4)))
  n1 : a1 ≠ a0
  n2 : a2 ≠ a0
  n3 : a3 ≠ a0
  n4 : a4 ≠ a0
  r : ∀ a, a = a0 ∨ a = a1 ∨ a = a2 ∨ a = a3 ∨ a = a4 → a.block < B ∧ ∃ c t, w.heap[a.block]? = some (.cells c t (0, 0))
  hB : 5 ≤ B
variable {B : Nat} {a0 a1 a2 a3 a4 : Addr}
theorem Sens.below {w' : World} (h : Sens w B a0 a1 a2 a3 a4) (hb : Below B w w') : Sens w' B a0 a1 a2 a3 a4 where
  c0 := cell_of h.c0 (hb.block _ (by have := h.hB; show 0 < B; omega))
  c1 := cell_of h.c1 (hb.block _ (by have := h.hB; show 1 < B; omega))
  c2 := cell_of h.c2 (hb.block _ (by have := h.hB; show 2 < B; omega))
  c3 := cell_of h.c3 (hb.block _ (by have := h.hB; show 3 < B; omega))
  c4 := cell_of h.c4 (hb.block _ (by have := h.hB; show 4 < B; omega))
  n1 := h.n1
  n2 := h.n2
  n3 := h.n3
  n4 := h.n4
  r := fun a ha => by
    obtain ⟨h1, c, t, h2⟩ := h.r a ha
    exact ⟨h1, c, t, (hb.block _ h1).trans h2⟩
  hB := h.hB
/-- The reason that goes with a code. -/
def why (a0 a1 a2 a3 a4 : Addr) (c : Int) : Addr := if c = 90 then a1 else if c = 91 then a3 else if c = 92 then a4 else if c = 93 then a0 else a2
set_option maxRecDepth 100000 in
theorem reason_ok (h : Sens w B a0 a1 a2 a3 a4) (c : Int) : Calls Tryd.prog 98 #[.int .i64 c] w fun e w' => e = .returned (.iface 179 (.pointer (some (why a0 a1 a2 a3 a4 c)))) ∧ w' = w := by
  obtain ⟨c0, c1, c2, c3, c4, _, _, _, _, _, _⟩ := h
  obtain ⟨y, hy⟩ : ∃ y, why a0 a1 a2 a3 a4 c = y := ⟨_, rfl⟩
  rw [hy]
  have HY : Hid (why a0 a1 a2 a3 a4 c = y) := hy
  clear hy
  go_enter Tryd.func98, Tryd.ntmps98
  go_wp2
  all_goals (go_ret; refine ⟨?_, rfl⟩; rw [← HY.out]; clear HY; simp only [beq_iff_eq, beq_eq_false_iff_ne, ne_eq] at *; simp [why, *])
/-- An error of the disk, with its reason. -/
def IsErr (w : World) (v : Value) (a : Addr) : Prop := ∃ q c0 c1 c2 c3, v = .iface 72 (.pointer (some ⟨q, 0, none⟩)) ∧ w.heap[q]? = some (.cells #[c0, c1, c2, c3, .iface 179 (.pointer (some a))] 74 (0, 0))
set_option maxRecDepth 100000 in
theorem fail_ok (h : Sens w B a0 a1 a2 a3 a4) (op name : ByteArray) (st c : Int) : Calls Tryd.prog 77 #[.string op, .string name, .int .i64 st, .int .i64 c] w fun e w' =>
    ∃ v, e = .returned v ∧ IsErr w' v (why a0 a1 a2 a3 a4 c) ∧ Below w.heap.size w w' := by
  go_enter Tryd.func77, Tryd.ntmps77
  go_wp2_with (go_at_call 98; refine (reason_ok h c).mono ?_; rintro e w' ⟨rfl, rfl⟩)
  go_ret
  exact ⟨_, rfl, ⟨_, _, _, _, _, rfl, blk_new _ _⟩, (Below.refl _ _).alloc (Nat.le_refl _) _⟩
theorem isTypeOf (v : Value) (w : World) : (Extern.ReflectliteType.typeOf #[.iface 179 v]).run Tryd.prog w = .ok (.iface 107 (.agg #[.pointer (some ⟨11, 179, none⟩)])) w := by kernel_rfl
def cmpX : Array Value → Sem Value := Extern.ReflectliteType.method fun t => do Go.Extern.Rtype.noPackHeld "Comparable" t; pure (.bool (← typeInfo t).comparable)
theorem isComparable (w : World) : (cmpX #[.agg #[.pointer (some ⟨11, 179, none⟩)]]).run Tryd.prog w = .ok (.bool true) w := by kernel_rfl
theorem isMethodComparable (v : Value) (w : World) : (Go.method 315 107 v "Comparable").run Tryd.prog w = .ok (175, v) w := by kernel_rfl
theorem isComp : (Tryd.prog.info? 179).map (·.comparable) = some true := by kernel_rfl
theorem isSize : (Tryd.prog.info? 181).map (·.size) = some 1 := by kernel_rfl
theorem noIsE (v : Value) (xT : TypeId) (w : World) : (Instr.typeAssert (.iface 179 v) xT 109 true).run Tryd.prog w = .ok (.tuple #[.nilIface, .bool false]) w := run_typeAssert_lacksB Tryd.underlying109 (by kernel_rfl) (by kernel_rfl) v xT w
theorem noUnwrapE (v : Value) (xT : TypeId) (w : World) : (Instr.typeAssert (.iface 179 v) xT 112 true).run Tryd.prog w = .ok (.tuple #[.nilIface, .bool false]) w := run_typeAssert_lacksB Tryd.underlying112 (by kernel_rfl) (by kernel_rfl) v xT w
theorem noUnwrapsE (v : Value) (xT : TypeId) (w : World) : (Instr.typeAssert (.iface 179 v) xT 114 true).run Tryd.prog w = .ok (.tuple #[.nilIface, .bool false]) w := run_typeAssert_lacksB Tryd.underlying114 (by kernel_rfl) (by kernel_rfl) v xT w
theorem noIsW (v : Value) (xT : TypeId) (w : World) : (Instr.typeAssert (.iface 72 v) xT 109 true).run Tryd.prog w = .ok (.tuple #[.nilIface, .bool false]) w := run_typeAssert_lacksB Tryd.underlying109 (by kernel_rfl) (by kernel_rfl) v xT w
theorem hasUnwrapW (v : Value) (xT : TypeId) (w : World) : (Instr.typeAssert (.iface 72 v) xT 112 true).run Tryd.prog w = .ok (.tuple #[.iface 72 v, .bool true]) w := run_typeAssert_hasB Tryd.underlying112 (by kernel_rfl) v xT w
theorem methodUnwrap (v : Value) (w : World) : (Go.method 315 72 v "Unwrap").run Tryd.prog w = .ok (171, v) w := by kernel_rfl
set_option maxRecDepth 100000 in
/-- A nil error is no error. -/
theorem is_nil (a : Addr) (w : World) : Calls Tryd.prog 17 #[.nilIface, .iface 179 (.pointer (some a))] w fun e w' => e = .returned (.bool false) ∧ w' = w := by
  have hn := run_eql_iface_nil_left (P := Tryd.prog) w 179 (.pointer (some a)) Tryd.underlying25
  go_enter Tryd.func17, Tryd.ntmps17
  go_wp2
  go_ret
  exact ⟨rfl, rfl⟩
set_option maxRecDepth 100000 in
theorem unwrap_ok {q : Nat} {x0 x1 x2 x3 : Value} {a : Addr} (h : w.heap[q]? = some (.cells #[x0, x1, x2, x3, .iface 179 (.pointer (some a))] 74 (0, 0))) :
    Calls Tryd.prog 171 #[.pointer (some ⟨q, 0, none⟩)] w fun e w' => e = .returned (.iface 179 (.pointer (some a))) ∧ w' = w := by
  have c4 := blk_cell h 4
  simp only [List.getElem?_toArray, List.getElem?_cons_zero, List.getElem?_cons_succ] at c4
  go_enter Tryd.func171, Tryd.ntmps171
  go_wp2
  go_ret
  exact ⟨rfl, rfl⟩
set_option maxRecDepth 100000 in
/-- A disk's error is its reason. -/
theorem is_same {v : Value} {a : Addr} (h : IsErr w v a) : Calls Tryd.prog 17 #[v, .iface 179 (.pointer (some a))] w fun e w' => e = .returned (.bool true) ∧ w' = w := by
  obtain ⟨q, x0, x1, x2, x3, rfl, hq⟩ := h
  obtain ⟨i, hi, hcmp⟩ := Option.map_eq_some_iff.1 isComp
  obtain ⟨j, hj, hjs⟩ := Option.map_eq_some_iff.1 isSize
  have h8 := @run_callFunc_extern Tryd.prog 56 _ Extern.ReflectliteType.typeOf Tryd.func56 (by kernel_rfl) (by kernel_rfl) (by kernel_rfl) (by kernel_rfl)
  have h32 := @run_callFunc_extern Tryd.prog 175 _ cmpX Tryd.func175 (by kernel_rfl) (by kernel_rfl) (by kernel_rfl) (by kernel_rfl)
  have tT := isTypeOf
  have cT := isComparable
  have mR := isMethodComparable
  have nE := noIsE
  have uE := noUnwrapE
  have vE := noUnwrapsE
  have nW := noIsW
  have uW := hasUnwrapW
  have mU := methodUnwrap
  have heq := run_eql_iface_ptr_same (P := Tryd.prog) w a Tryd.underlying25 Tryd.underlying179 hi hcmp hj
  have hty := run_eql_iface_types (P := Tryd.prog) 72 179 (.pointer (some ⟨q, 0, none⟩)) (.pointer (some a)) Tryd.underlying25 (by decide) w
  go_enter Tryd.func17, Tryd.ntmps17
  go_wp2_with (first | (go_at_call 171; refine (unwrap_ok hq).mono ?_; rintro e w' ⟨rfl, rfl⟩) | go_in)
  refine wp_loop_rounds 2 ?_
  rw [rounds_succ]
  go_wp2_with (first | (go_at_call 171; refine (unwrap_ok hq).mono ?_; rintro e w' ⟨rfl, rfl⟩) | go_in)
  rw [rounds_succ]
  go_wp2
  go_ret
  exact ⟨rfl, rfl⟩
set_option maxRecDepth 100000 in
/-- .. and no other one. -/
theorem is_other {v : Value} {a b : Addr} (h : IsErr w v a) (hne : a ≠ b) {ca cb : Array Value} {ta tb : TypeId} (ha : w.heap[a.block]? = some (.cells ca ta (0, 0))) (hb : w.heap[b.block]? = some (.cells cb tb (0, 0))) :
    Calls Tryd.prog 17 #[v, .iface 179 (.pointer (some b))] w fun e w' => e = .returned (.bool false) ∧ w' = w := by
  obtain ⟨q, x0, x1, x2, x3, rfl, hq⟩ := h
  obtain ⟨i, hi, hcmp⟩ := Option.map_eq_some_iff.1 isComp
  obtain ⟨j, hj, hjs⟩ := Option.map_eq_some_iff.1 isSize
  have h8 := @run_callFunc_extern Tryd.prog 56 _ Extern.ReflectliteType.typeOf Tryd.func56 (by kernel_rfl) (by kernel_rfl) (by kernel_rfl) (by kernel_rfl)
  have h32 := @run_callFunc_extern Tryd.prog 175 _ cmpX Tryd.func175 (by kernel_rfl) (by kernel_rfl) (by kernel_rfl) (by kernel_rfl)
  have tT := isTypeOf
  have cT := isComparable
  have mR := isMethodComparable
  have nE := noIsE
  have uE := noUnwrapE
  have vE := noUnwrapsE
  have nW := noIsW
  have uW := hasUnwrapW
  have mU := methodUnwrap
  have heq := run_eql_iface_ptr_other (P := Tryd.prog) w Tryd.underlying25 Tryd.underlying179 hi hcmp hj (by rw [hjs]; decide) hne ha hb
  have hty := run_eql_iface_types (P := Tryd.prog) 72 179 (.pointer (some ⟨q, 0, none⟩)) (.pointer (some b)) Tryd.underlying25 (by decide) w
  go_enter Tryd.func17, Tryd.ntmps17
  go_wp2_with (first | (go_at_call 171; refine (unwrap_ok hq).mono ?_; rintro e w' ⟨rfl, rfl⟩) | go_in)
  refine wp_loop_rounds 2 ?_
  rw [rounds_succ]
  go_wp2_with (first | (go_at_call 171; refine (unwrap_ok hq).mono ?_; rintro e w' ⟨rfl, rfl⟩) | go_in)
  rw [rounds_succ]
  go_wp2
  go_ret
  exact ⟨rfl, rfl⟩
end Go.Proofs.YtkfehogefclhdaaDoor.Dk
