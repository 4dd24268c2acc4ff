/- operate in one sentence. -/
import Derived.Test.YtkfehogefclhdaaDoorDkDue
namespace Go.Proofs.YtkfehogefclhdaaDoor.Dk
open Go.RowKit Go.Maps Go.Proofs.YtkfehogefclhdaaDoorW.PrintWords Go.Proofs.YtkfehogefclhdaaDoorW.PrintMore
variable {N : Nat} {w : World} {p : Nat} {F : Nat → Prop} {s : St} {m : Nat} {pv : Value} {B : Nat} {a0 a1 a2 a3 a4 : Addr}

theorem Is.more (h : Is N w p F s m pv) : Is (N + 1) w p F s m pv := by
  obtain ⟨D, h1, h2⟩ := h.files
  exact ⟨h.top, ⟨D, h1.mono (Nat.le_succ _), h2⟩, h.plan, h.each, h.names, h.blks, h.durs, h.room, h.quo, h.inP, h.inM, h.inF, h.low⟩
/-- What comes of an operation. -/
inductive Came (w : World) (F : Nat → Prop) (s : St) (a0 a1 a2 a3 a4 : Addr) (code : Int) (Pf : Int → List Fil → Prop) (Wf : List Fil → Prop) (Out : World → Prop) (w' : World) (v : Value) : St → Prop
  | down : s.run = false → IsErr w' v a0 → Fr F w w' → Came w F s a0 a1 a2 a3 a4 code Pf Wf Out w' v s
  | due {x rest fs'} : s.run = true → s.plan = x :: rest → x.1 = s.since + 1 → IsErr w' v a0 → Fr F w w' → (code = 0 → Pf x.2.1 fs') → (code ≠ 0 → fs' = s.fs) → Came w F s a0 a1 a2 a3 a4 code Pf Wf Out w' v (s.halt rest fs' x.2.2)
  | err : s.run = true → ¬ Due s → code ≠ 0 → IsErr w' v (why a0 a1 a2 a3 a4 code) → Fr F w w' → Came w F s a0 a1 a2 a3 a4 code Pf Wf Out w' v s.tick
  | ok {fs'} : s.run = true → ¬ Due s → code = 0 → v = .nilIface → Wf fs' → Out w' → Came w F s a0 a1 a2 a3 a4 code Pf Wf Out w' v { s.tick with fs := fs' }
def Res (N : Nat) (w : World) (p : Nat) (F Wr : Nat → Prop) (s : St) (m : Nat) (a0 a1 a2 a3 a4 : Addr) (code : Int) (Pf : Int → List Fil → Prop) (Wf : List Fil → Prop) (Out : World → Prop) (v : Value) (w' : World) : Prop :=
  ∃ F' s' pv', Is (N + 1) w' p F' s' m pv' ∧ Fr (fun i => F i ∨ Wr i) w w' ∧ Sub w F F' ∧ Came w F s a0 a1 a2 a3 a4 code Pf Wf Out w' v s'
theorem Fr.or {w' : World} (h : Fr F w w') (C : Nat → Prop) : Fr (fun i => F i ∨ C i) w w' := h.wide (fun _ _ h => .inl h)
theorem op_any (h : Is N w p F s m pv) (hS : Sens w B a0 a1 a2 a3 a4) (hB : ∀ i, F i → B ≤ i) (hs0 : 0 ≤ s.steps) (hs1 : s.steps < 1000000000000) (hs2 : 0 ≤ s.since) (hs3 : s.since < 1000000000000) (op name : ByteArray) {C : Nat → Prop} {code : Int} {km kw kp : Nat} {cm cw cp : Array Value} {Pf : Int → List Fil → Prop} {Wf : List Fil → Prop} {Out : World → Prop} {Wr : Nat → Prop}
    (hc : Clo N w p F C s m code km kw kp cm cw cp Pf Wf Out Wr) :
    Calls Tryd.prog 46 #[.pointer (some ⟨p, 0, none⟩), .string op, .string name, .func (.func km) #[] cm, .func (.func kw) #[] cw, .func (.func kp) #[] cp] w fun e w' =>
      ∃ v, e = .returned v ∧ Res N w p F Wr s m a0 a1 a2 a3 a4 code Pf Wf Out v w' := by
  cases hr : s.run with
  | false =>
    refine (op_down h hS hr op name).mono ?_
    rintro e w' ⟨v, rfl, hv, hb⟩
    exact ⟨v, rfl, F, s, pv, (h.below hb).more, (Fr.of_below hb F).or Wr, Sub.refl _ _, .down hr hv (Fr.of_below hb F)⟩
  | true =>
    cases hp : s.plan with
    | nil =>
      have hnd : ¬ Due s := fun ⟨x, rest, e, _⟩ => by rw [hp] at e; cases e
      by_cases h0 : code = 0
      · refine (op_ok_nil h hS hB hr hs0 hs1 hs2 hs3 op name hc hp h0).mono ?_
        rintro e w' ⟨rfl, F', fs', hw, hi, hf, hsub, ho⟩
        exact ⟨_, rfl, F', _, pv, hi, hf, hsub, .ok hr hnd h0 rfl hw ho⟩
      · refine (op_err_nil h hS hB hr hs0 hs1 hs2 hs3 op name hc hp h0).mono ?_
        rintro e w' ⟨v, rfl, hv, hi, hf⟩
        exact ⟨_, rfl, F, _, pv, hi.more, hf.or Wr, Sub.refl _ _, .err hr hnd h0 hv hf⟩
    | cons x rest =>
      by_cases hx : x.1 = s.since + 1
      · obtain ⟨A, cap, hpv, _⟩ := h.plan
        have hh := h.plan
        rw [hpv, hp] at hh
        obtain ⟨g, o, rfl, _⟩ := hh.head
        by_cases hcap : cap = 1
        · by_cases h0 : code = 0
          · refine (due_ok_last h hS hB hr hs0 hs1 hs2 hs3 op name hc hp hx h0 hpv hcap).mono ?_
            rintro e w' ⟨v, rfl, hv, pv', F', fs', hpf, hi, hf, hsub⟩
            exact ⟨_, rfl, F', _, pv', hi, hf.or Wr, hsub, .due hr hp hx hv hf (fun _ => hpf) (fun h => absurd h0 h)⟩
          · refine (due_err_last h hS hB hr hs0 hs1 hs2 hs3 op name hc hp hx h0 hpv hcap).mono ?_
            rintro e w' ⟨v, rfl, hv, pv', hi, hf⟩
            exact ⟨_, rfl, F, _, pv', hi.more, hf.or Wr, Sub.refl _ _, .due hr hp hx hv hf (fun h => absurd h h0) (fun _ => rfl)⟩
        · by_cases h0 : code = 0
          · refine (due_ok_more h hS hB hr hs0 hs1 hs2 hs3 op name hc hp hx h0 hpv hcap).mono ?_
            rintro e w' ⟨v, rfl, hv, pv', F', fs', hpf, hi, hf, hsub⟩
            exact ⟨_, rfl, F', _, pv', hi, hf.or Wr, hsub, .due hr hp hx hv hf (fun _ => hpf) (fun h => absurd h0 h)⟩
          · refine (due_err_more h hS hB hr hs0 hs1 hs2 hs3 op name hc hp hx h0 hpv hcap).mono ?_
            rintro e w' ⟨v, rfl, hv, pv', hi, hf⟩
            exact ⟨_, rfl, F, _, pv', hi.more, hf.or Wr, Sub.refl _ _, .due hr hp hx hv hf (fun h => absurd h h0) (fun _ => rfl)⟩
      · have hnd : ¬ Due s := fun ⟨y, r, e, h⟩ => by rw [hp] at e; cases e; exact hx h
        by_cases h0 : code = 0
        · refine (op_ok_cons h hS hB hr hs0 hs1 hs2 hs3 op name hc hp hx h0).mono ?_
          rintro e w' ⟨rfl, F', fs', hw, hi, hf, hsub, ho⟩
          exact ⟨_, rfl, F', _, pv, hi, hf, hsub, .ok hr hnd h0 rfl hw ho⟩
        · refine (op_err_cons h hS hB hr hs0 hs1 hs2 hs3 op name hc hp hx h0).mono ?_
          rintro e w' ⟨v, rfl, hv, hi, hf⟩
          exact ⟨_, rfl, F, _, pv, hi.more, hf.or Wr, Sub.refl _ _, .err hr hnd h0 hv hf⟩
end Go.Proofs.YtkfehogefclhdaaDoor.Dk
