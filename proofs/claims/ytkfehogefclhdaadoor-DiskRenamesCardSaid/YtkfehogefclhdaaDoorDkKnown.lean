/- known, by its contract: it is true. -/
import Derived.Test.YtkfehogefclhdaaDoorDkPlan
namespace Go.Proofs.YtkfehogefclhdaaDoor.Dk
open Go.RowKit Go.Maps Go.Proofs.YtkfehogefclhdaaDoorW.PrintWords Go.Proofs.YtkfehogefclhdaaDoorW.PrintMore Go.Proofs.YtkfehogefclhdaaDoor.PNm
variable {N : Nat} {w : World} {p : Nat} {F : Nat → Prop} {s : St} {m : Nat} {pv : Value} {B : Nat} {a0 a1 a2 a3 a4 : Addr}

theorem OpRes.calm_ok {code : Int} {Pf : Int → List Fil → Prop} {Wf : List Fil → Prop} {v : Value} {w' : World} (h : OpRes N w p F s m a0 a1 a2 a3 a4 code Pf Wf v w') (hr : s.run = true) (hp : s.plan = []) (h0 : code = 0) :
    v = .nilIface ∧ ∃ F' fs' pv', Wf fs' ∧ Is (N + 1) w' p F' { s.tick with fs := fs' } m pv' ∧ Fr F w w' ∧ Sub w F F' := by
  obtain ⟨F', s', pv', h1, h2, h3, h4⟩ := h
  cases h4 with
  | down a b => rw [hr] at a; cases a
  | due a b c d e f => rw [hp] at b; cases b
  | err a b c d => exact absurd h0 c
  | ok a b c d e => exact ⟨d, F', _, pv', e, h1, h2, h3⟩
theorem OpRes.calm_err {code : Int} {Pf : Int → List Fil → Prop} {Wf : List Fil → Prop} {v : Value} {w' : World} (h : OpRes N w p F s m a0 a1 a2 a3 a4 code Pf Wf v w') (hr : s.run = true) (hp : s.plan = []) (h0 : code ≠ 0) :
    IsErr w' v (why a0 a1 a2 a3 a4 code) ∧ ∃ F' pv', Is (N + 1) w' p F' s.tick m pv' ∧ Fr F w w' ∧ Sub w F F' := by
  obtain ⟨F', s', pv', h1, h2, h3, h4⟩ := h
  cases h4 with
  | down a b => rw [hr] at a; cases a
  | due a b c d e f => rw [hp] at b; cases b
  | err a b c d => exact ⟨d, F', pv', h1, h2, h3⟩
  | ok a b c d e => exact absurd c h0
def bA : ByteArray := ⟨#[97]⟩
def bUp : ByteArray := ⟨#[65]⟩
def bHello : ByteArray := ⟨#[104, 101, 108, 108, 111]⟩
theorem name_a : nameB ⟨#[97]⟩ = true := name_eq (k := 20) (by decide +kernel)
theorem name_up : nameB ⟨#[65]⟩ = false := name_eq (k := 20) (by decide +kernel)
theorem name_box : nameB ⟨#[98, 111, 120]⟩ = true := name_eq (k := 20) (by decide +kernel)
theorem name_tmp : nameB ⟨#[98, 111, 120, 46, 116, 109, 112]⟩ = true := name_eq (k := 20) (by decide +kernel)
theorem name_nobody : nameB ⟨#[110, 111, 98, 111, 100, 121]⟩ = true := name_eq (k := 20) (by decide +kernel)
theorem cut_all (data : ByteArray) : cutD data data.size = data := by
  unfold cutD
  rw [Int.toNat_natCast, Nat.min_self, ByteArray.extract_zero_size]
/-- What was old is old still. -/
theorem low_step {w w' : World} {F F' : Nat → Prop} {B : Nat} (hF : ∀ i, F i → B ≤ i) (hB : B ≤ w.heap.size) (hs : Sub w F F') : ∀ i, F' i → B ≤ i := fun i hi => by
  rcases hs i hi with h | h
  · exact hF i h
  · omega
end Go.Proofs.YtkfehogefclhdaaDoor.Dk
