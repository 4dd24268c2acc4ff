/- known is true. -/
import Derived.Test.YtkfehogefclhdaaDoorDkLive
import Derived.Stop.IfaceNil
namespace Go.Proofs.YtkfehogefclhdaaDoor.Dk
open Go.RowKit Go.Maps Go.Proofs.YtkfehogefclhdaaDoorW.PrintWords Go.Proofs.YtkfehogefclhdaaDoorW.PrintMore
variable {N : Nat} {w : World} {p : Nat} {F : Nat → Prop} {s : St} {m : Nat} {pv : Value} {B : Nat} {a0 a1 a2 a3 a4 : Addr} {K : Nat → Prop}

theorem Did.calm {code : Int} {Pf : Int → List Fil → Prop} {Wf : List Fil → Prop} {v : Value} {w' : World} (h : Did B N w p K s a0 a1 a2 a3 a4 code Pf Wf v w') (hr : s.run = true) (hp : s.plan = []) (h0 : code = 0) :
    v = .nilIface ∧ ∃ fs', Wf fs' ∧ Live B (N + 1) w' p K { s.tick with fs := fs' } a0 a1 a2 a3 a4 ∧ Step B K w w' := by
  obtain ⟨s', h1, h2, h4⟩ := h
  cases h4 with
  | down a b => rw [hr] at a; cases a
  | due a b c d e f => rw [hp] at b; cases b
  | err a b c d => exact absurd h0 c
  | ok a b c d e => exact ⟨d, _, e, h1, h2⟩
theorem Did.calmErr {code : Int} {Pf : Int → List Fil → Prop} {Wf : List Fil → Prop} {v : Value} {w' : World} (h : Did B N w p K s a0 a1 a2 a3 a4 code Pf Wf v w') (hr : s.run = true) (hp : s.plan = []) (h0 : code ≠ 0) :
    ∃ q, v = .iface 72 (.pointer (some ⟨q, 0, none⟩)) ∧ ErrAt w' q (why a0 a1 a2 a3 a4 code) ∧ Live B (N + 1) w' p (fun i => K i ∨ i = q) s.tick a0 a1 a2 a3 a4 ∧ Step B K w w' := by
  obtain ⟨s', h1, h2, h4⟩ := h
  cases h4 with
  | down a b => rw [hr] at a; cases a
  | due a b c d e f => rw [hp] at b; cases b
  | err a b c d =>
    obtain ⟨q, e1, e2⟩ := d.at
    exact ⟨q, e1, e2, h1.keepErr e2, h2⟩
  | ok a b c d e => exact absurd c h0
theorem Live.sens (h : Live B N w p K s a0 a1 a2 a3 a4) : Sens w B a0 a1 a2 a3 a4 := by obtain ⟨F, m, pv, h1, h2, h3, h4, h5⟩ := h; exact h4
theorem Step.less {K' : Nat → Prop} {w' : World} (h : Step B K w w') (hk : ∀ i, K' i → K i) : Step B K' w w' := ⟨h.below, fun i hi => h.kept i (hk i hi)⟩
theorem appF_nil {x data : ByteArray} {n : Int} {fs' : List Fil} (h : AppF [] x data n fs') : ∃ b, fs' = [⟨x, b, cutD data n, 0⟩] := h
theorem app_code0 {s : St} {x data : ByteArray} (h1 : nameB x = true) (h2 : (data.size : Int) ≤ s.quota - used s.fs) : appC s x data = 0 := by
  unfold appC; rw [if_pos h1, if_neg (by omega)]
theorem app_code90 {s : St} {x data : ByteArray} (h1 : nameB x = false) : appC s x data = 90 := by
  unfold appC; rw [if_neg (by rw [h1]; decide)]
theorem there_code0 {fs : List Fil} {x : ByteArray} {f : Fil} (h1 : nameB x = true) (h2 : look fs x = some f) : thereC fs x = 0 := by
  unfold thereC; rw [if_pos h1, h2]; rfl
/-- The counters are small. -/
def Few (n : Nat) (s : St) : Prop := 0 ≤ s.steps ∧ s.steps ≤ n ∧ 0 ≤ s.since ∧ s.since ≤ n
theorem Few.small {n : Nat} (h : Few n s) (hn : n ≤ 1000000) : Small s := ⟨h.1, by have := h.2.1; omega, h.2.2.1, by have := h.2.2.2; omega⟩
theorem Few.fresh (q : Int) : Few 0 (St.fresh q) := ⟨Int.le_refl _, Int.le_refl _, Int.le_refl _, Int.le_refl _⟩
theorem Few.tick {n : Nat} (h : Few n s) : Few (n + 1) s.tick := by
  obtain ⟨h1, h2, h3, h4⟩ := h
  refine ⟨?_, ?_, ?_, ?_⟩ <;> simp only [St.tick] <;> omega
theorem Few.fs {n : Nat} (h : Few n s) (fs : List Fil) : Few n { s with fs := fs } := h
theorem lt_max {n : Nat} (h : n ≤ 1000000) : n < maxLen := by unfold maxLen; omega
theorem isIface25 : Tryd.prog.isIface 25 = true := by kernel_rfl
theorem look_one (f : Fil) : look [f] f.name = some f := by unfold look; rw [List.find?_cons, decide_eq_true rfl]
theorem used_one (f : Fil) : used [f] = f.bytes.size := by unfold used; simp
def helloF (b : Nat) : Fil := ⟨⟨#[97]⟩, b, ⟨#[104, 101, 108, 108, 111]⟩, 0⟩
theorem app0 : appC (St.fresh 10) ⟨#[97]⟩ ⟨#[104, 101, 108, 108, 111]⟩ = 0 := app_code0 name_a (by show (5 : Int) ≤ 10 - ((0 : Nat) : Int); decide)
set_option maxRecDepth 100000 in
set_option maxHeartbeats 1000000 in
theorem known_ok (hS : Sens w B a0 a1 a2 a3 a4) (hB : B ≤ w.heap.size) (hK : ∀ i, K i → i < w.heap.size) : Calls Tryd.prog 10 #[] w fun e w' => e = .returned (.bool true) ∧ Step B K w w' := by
  have hnot := not_run
  have hif := isIface25
  have HS : Hid _ := hS
  have HK : Hid _ := hK
  clear hS hK
  go_enter Tryd.func10, Tryd.ntmps10
  go_wp2_with fail
  refine (new_live 10 (by decide) (by decide) HS.out hB HK.out).mono ?_
  rintro e w1 ⟨rfl, l1, st1⟩
  go_wp2_with fail
  refine (append_live l1 (lt_max (by decide)) ((Few.fresh 10).small (by decide)) ⟨#[97]⟩ ⟨#[104, 101, 108, 108, 111]⟩ (by decide) (by decide)).mono ?_
  rintro e w2 ⟨v, rfl, hd⟩
  obtain ⟨rfl, fs2, hf2, l2, st2⟩ := hd.calm rfl rfl app0
  obtain ⟨b2, rfl⟩ := appF_nil hf2
  rw [cut_all] at l2
  clear hf2 hd
  go_wp2_with fail
  refine (append_live l2 (lt_max (by decide)) (((Few.fresh 10).tick.fs _).small (by decide)) ⟨#[65]⟩ ⟨#[120]⟩ (by decide) (by decide)).mono ?_
  rintro e w3 ⟨v, rfl, hd⟩
  obtain ⟨q, rfl, he, l3, st3⟩ := hd.calmErr rfl rfl (by rw [app_code90 name_up]; decide)
  rw [app_code90 name_up] at he
  clear hd
  go_wp2_with fail
  refine (read_live l3 ((((Few.fresh 10).tick.fs _).tick).small (by decide)) ⟨#[97]⟩ (by decide)).mono ?_
  rintro e w4 ⟨v, r, rfl, hd, ht⟩
  obtain ⟨rfl, fs4, hfs4, l4, st4⟩ := hd.calm rfl rfl (there_code0 (f := helloF b2) name_a (look_one (helloF b2)))
  obtain ⟨f4, hf4, rfl⟩ := ht.1 rfl
  have e4 : f4 = helloF b2 := Option.some.inj (hf4.symm.trans (look_one (helloF b2)))
  subst e4
  subst hfs4
  have hg1 := l4.sens.c1
  have he4 : ErrAt w4 q a1 := he.step st4 (.inr rfl)
  have hbl : (helloF b2).bytes.toList = [104, 101, 108, 108, 111] := by rw [ByteArray.toList_eq]; rfl
  obtain ⟨s4, l4, e4a, e4b⟩ : ∃ s4, Live B (0 + 1 + 1 + 1) w4 (w.heap.size + 1) (fun i => K i ∨ i = q) s4 a0 a1 a2 a3 a4 ∧ (used s4.fs : Int) = 5 ∧ s4.steps = 3 := ⟨_, l4, by show ((used [helloF b2] : Nat) : Int) = 5; rw [used_one]; rfl, rfl⟩
  have HST : Step B K w w4 := ((st1.trans st2).trans st3).trans (st4.less (fun i hi => .inl hi))
  clear st1 st2 st3 st4 hd ht hf4 he l1 l2 l3
  go_wp2_with fail
  refine (is_live l4 he4 (.inr (.inl rfl)) (.inr (.inl rfl))).mono ?_
  rw [decide_eq_true rfl]
  rintro e w5 ⟨rfl, h5⟩
  replace h5 := h5.symm
  subst h5
  go_wp2_with fail
  refine (used_live l4).mono ?_
  rintro e w6 ⟨rfl, l6, st6⟩
  go_wp2_with fail
  refine (steps_live l6).mono ?_
  rintro e w7 ⟨rfl, h7⟩
  replace h7 := h7.symm
  subst h7
  go_wp2_with fail
  go_ret
  exact ⟨rfl, HST.trans (st6.less (fun i hi => .inl hi))⟩
end Go.Proofs.YtkfehogefclhdaaDoor.Dk
