/- DiskRenames' steps, without its text: what each call comes to. -/
import Derived.Test.YtkfehogefclhdaaDoorDkKnow
namespace Go.Proofs.YtkfehogefclhdaaDoor.Dk
open Go.RowKit Go.Maps Go.Proofs.YtkfehogefclhdaaDoorW.PrintWords Go.Proofs.YtkfehogefclhdaaDoorW.PrintMore
variable {N : Nat} {w : World} {p : Nat} {F : Nat → Prop} {s : St} {m : Nat} {pv : Value} {B : Nat} {a0 a1 a2 a3 a4 : Addr} {K : Nat → Prop}

/-- The error at block q, and what it tells. -/
def Told1 (w' : World) (K : Nat → Prop) (q : Nat) (v : Value) (a : Addr) : Prop := v = .iface 72 (.pointer (some ⟨q, 0, none⟩)) ∧ ErrAt w' q a
theorem Did.dueNow {code : Int} {Pf : Int → List Fil → Prop} {Wf : List Fil → Prop} {v : Value} {w' : World} (h : Did B N w p K s a0 a1 a2 a3 a4 code Pf Wf v w') (hr : s.run = true) {x : Int × Int × Int} {rest : List (Int × Int × Int)} (hp : s.plan = x :: rest) (hx : x.1 = s.since + 1) :
    ∃ q fs', v = .iface 72 (.pointer (some ⟨q, 0, none⟩)) ∧ ErrAt w' q a0 ∧ (code = 0 → Pf x.2.1 fs') ∧ (code ≠ 0 → fs' = s.fs) ∧ Live B (N + 1) w' p (fun i => K i ∨ i = q) (s.halt rest fs' x.2.2) a0 a1 a2 a3 a4 ∧ Step B K w w' := by
  obtain ⟨s', h1, h2, h4⟩ := h
  have hd : Due s := ⟨x, rest, hp, hx⟩
  cases h4 with
  | down a b => rw [hr] at a; cases a
  | due a b c d e f =>
    rw [hp] at b
    injection b with b1 b2
    subst b1 b2
    obtain ⟨q, e1, e2⟩ := d.at
    exact ⟨q, _, e1, e2, e, f, h1.keepErr e2, h2⟩
  | err a b c d => exact absurd hd b
  | ok a b c d e => exact absurd hd b
theorem Did.notYet {code : Int} {Pf : Int → List Fil → Prop} {Wf : List Fil → Prop} {v : Value} {w' : World} (h : Did B N w p K s a0 a1 a2 a3 a4 code Pf Wf v w') (hr : s.run = true) {x : Int × Int × Int} {rest : List (Int × Int × Int)} (hp : s.plan = x :: rest) (hx : x.1 ≠ s.since + 1) (h0 : code = 0) :
    v = .nilIface ∧ ∃ fs', Wf fs' ∧ Live B (N + 1) w' p K { s.tick with fs := fs' } a0 a1 a2 a3 a4 ∧ Step B K w w' := by
  obtain ⟨s', h1, h2, h4⟩ := h
  cases h4 with
  | down a b => rw [hr] at a; cases a
  | due a b c d e f =>
    rw [hp] at b
    injection b with b1 b2
    subst b1
    exact absurd c hx
  | err a b c d => exact absurd h0 c
  | ok a b c d e => exact ⟨d, _, e, h1, h2⟩
theorem Did.downNow {code : Int} {Pf : Int → List Fil → Prop} {Wf : List Fil → Prop} {v : Value} {w' : World} (h : Did B N w p K s a0 a1 a2 a3 a4 code Pf Wf v w') (hr : s.run = false) :
    ∃ q, v = .iface 72 (.pointer (some ⟨q, 0, none⟩)) ∧ ErrAt w' q a0 ∧ Live B (N + 1) w' p (fun i => K i ∨ i = q) s a0 a1 a2 a3 a4 ∧ Step B K w w' := by
  obtain ⟨s', h1, h2, h4⟩ := h
  cases h4 with
  | down a b =>
    obtain ⟨q, e1, e2⟩ := b.at
    exact ⟨q, e1, e2, h1.keepErr e2, h2⟩
  | due a b c d e f => rw [hr] at a; cases a
  | err a b c d => rw [hr] at a; cases a
  | ok a b c d e => rw [hr] at a; cases a
theorem stopF_full {r : Int} {f : Fil} (h : f.dur = f.bytes.size) : stopF r f = f := by
  have e : keepN r f = f.bytes.size := by unfold keepN; omega
  cases f with
  | mk n b by' d =>
    unfold stopF
    rw [e]
    simp only [ByteArray.extract_zero_size]
    simp only at h
    rw [h]
abbrev box : ByteArray := ⟨#[98, 111, 120]⟩
abbrev tmp : ByteArray := ⟨#[98, 111, 120, 46, 116, 109, 112]⟩
abbrev nob : ByteArray := ⟨#[110, 111, 98, 111, 100, 121]⟩
theorem box_tmp : (box = tmp) = False := by simp [box, tmp]
theorem tmp_box : (tmp = box) = False := by simp [box, tmp]
/-- The two files, all durable. -/
def boxF (b : Nat) (d : ByteArray) : Fil := ⟨box, b, d, d.size⟩
def tmpF (b : Nat) (d : ByteArray) : Fil := ⟨tmp, b, d, d.size⟩
theorem look_box_one (b : Nat) (d : ByteArray) : look [boxF b d] box = some (boxF b d) := look_one (boxF b d)
theorem look_tmp_two (b b' : Nat) (d d' : ByteArray) : look [tmpF b' d', boxF b d] tmp = some (tmpF b' d') := by unfold look; rw [List.find?_cons, decide_eq_true (show (tmpF b' d').name = tmp from rfl)]
theorem look_box_two (b b' : Nat) (d d' : ByteArray) : look [tmpF b' d', boxF b d] box = some (boxF b d) := by
  unfold look
  rw [List.find?_cons, decide_eq_false (show ¬ (tmpF b' d').name = box from fun e => by have : tmp = box := e; rw [tmp_box] at this; exact this), List.find?_cons, decide_eq_true (show (boxF b d).name = box from rfl)]
theorem look_tmp_one (b : Nat) (d : ByteArray) : look [boxF b d] tmp = none := by
  unfold look
  rw [List.find?_cons, decide_eq_false (show ¬ (boxF b d).name = tmp from fun e => by have : box = tmp := e; rw [box_tmp] at this; exact this)]
  rfl
theorem ren_two {b b' : Nat} {d d' : ByteArray} {fs' : List Fil} (h : RenF [tmpF b' d', boxF b d] tmp box fs') : fs' = [boxF b' d'] := by
  obtain ⟨f, hf, rfl⟩ := h
  have e := Option.some.inj (hf.symm.trans (look_tmp_two b b' d d'))
  subst e
  have e1 : outF tmp [tmpF b' d', boxF b d] = [boxF b d] := by
    unfold outF
    rw [List.filter_cons, decide_eq_true (show (tmpF b' d').name = tmp from rfl), Bool.not_true, if_neg (by decide), List.filter_cons, decide_eq_false (show ¬ (boxF b d).name = tmp from fun e => by have : box = tmp := e; rw [box_tmp] at this; exact this)]
    rfl
  have e2 : outF box [boxF b d] = [] := by
    unfold outF
    rw [List.filter_cons, decide_eq_true (show (boxF b d).name = box from rfl)]
    rfl
  rw [e1, e2]; rfl
end Go.Proofs.YtkfehogefclhdaaDoor.Dk
