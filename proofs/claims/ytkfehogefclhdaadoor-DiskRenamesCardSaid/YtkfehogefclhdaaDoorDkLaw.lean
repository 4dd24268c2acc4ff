/- DiskRenames' walk. -/
import Derived.Test.YtkfehogefclhdaaDoorDkSeq
namespace Go.Proofs.YtkfehogefclhdaaDoor.Dk
open Go.RowKit Go.Maps Go.Proofs.YtkfehogefclhdaaDoorW.PrintWords Go.Proofs.YtkfehogefclhdaaDoorW.PrintMore
variable {N : Nat} {w : World} {p : Nat} {F : Nat → Prop} {s : St} {m : Nat} {pv : Value} {B : Nat} {a0 a1 a2 a3 a4 : Addr} {K : Nat → Prop}

theorem setF_one {x : ByteArray} {f f' : Fil} (h : f.name = x) : setF x f' [f] = [f'] := by unfold setF; rw [List.map_cons, if_pos h]; rfl
theorem app_two {x data : ByteArray} {f : Fil} {n : Int} {fs' : List Fil} (hl : look [f] x = none) (h : AppF [f] x data n fs') : ∃ b, fs' = [⟨x, b, cutD data n, 0⟩, f] := by
  unfold AppF at h; rw [hl] at h; exact h
theorem and1 (x : Int) : bits BinOp.and IntKind.i64 x 1 = 0 ∨ bits BinOp.and IntKind.i64 x 1 = 1 := by
  have h : ((BitVec.ofInt 64 x) &&& (BitVec.ofInt 64 1)).toNat = 0 ∨ ((BitVec.ofInt 64 x) &&& (BitVec.ofInt 64 1)).toNat = 1 := by
    rw [BitVec.toNat_and, show (BitVec.ofInt 64 1).toNat = 1 from rfl, Nat.and_one_is_mod]
    omega
  unfold bits
  rcases h with h | h
  · left; show IntKind.i64.wrap ((((BitVec.ofInt 64 x) &&& (BitVec.ofInt 64 1)).toNat : Nat) : Int) = 0; rw [h]; rfl
  · right; show IntKind.i64.wrap ((((BitVec.ofInt 64 x) &&& (BitVec.ofInt 64 1)).toNat : Nat) : Int) = 1; rw [h]; rfl
theorem k12 (x : Int) : ∃ k : Int, wrap64 (1 + bits BinOp.and IntKind.i64 x 1) = k ∧ (k = 1 ∨ k = 2) := by
  rcases and1 x with h | h <;> rw [h]
  · exact ⟨1, by unfold wrap64; decide, .inl rfl⟩
  · exact ⟨2, by unfold wrap64; decide, .inr rfl⟩
theorem Live.lt (h : Live B N w p K s a0 a1 a2 a3 a4) : p < w.heap.size := by obtain ⟨F, m, pv, h1, _⟩ := h; exact h1.low p h1.inP
theorem plan_one (w : World) (x : Int × Int × Int) : PlanIs (w.alloc (Obj.cells #[.int .i64 x.1, .int .i64 x.2.1, .int .i64 x.2.2] 32)) (fun i => i = w.heap.size) (.slice (some ⟨w.heap.size, 0, none⟩) [x].length 1) [x] := by
  have hb := blk_new w (Obj.cells #[.int .i64 x.1, .int .i64 x.2.1, .int .i64 x.2.2] 32)
  refine ⟨_, 1, rfl, Nat.le_refl _, by omega, fun i y hy => ?_⟩
  cases i with
  | zero => simp at hy; subst hy; exact ⟨_, 0, rfl, rfl, ⟨_, hb⟩, blk_cell hb 0, blk_cell hb 1, blk_cell hb 2⟩
  | succ i => simp at hy
/-- What the Rename and the Remove behind it come to. -/
theorem keep_one {k part rest : Int} (h : k = 1 ∨ k = 2) : keepS [(k, part, rest)] = [(k, part, rest)] := by
  unfold keepS
  rw [List.filter_cons, if_pos (decide_eq_true (by show k ≥ 1; omega))]; rfl
theorem look_nob_one (b : Nat) (d : ByteArray) : look [boxF b d] nob = none := by
  unfold look
  rw [List.find?_cons, decide_eq_false (show ¬ (boxF b d).name = nob from fun e => by have : box = nob := e; simp [box, nob] at this)]
  rfl
theorem few_start {n : Nat} (h : Few n s) (hr : s.run = false) (hn : n ≤ 6) : Few 6 s.start := by
  obtain ⟨h1, h2, h3, h4⟩ := h
  have e : s.start.since = 0 := by unfold St.start; rw [hr]; rfl
  exact ⟨h1, (by show s.steps ≤ 6; omega), by rw [e]; exact Int.le_refl _, by rw [e]; decide⟩
set_option maxRecDepth 100000 in
set_option maxHeartbeats 2000000 in
theorem renames_walk (hS : Sens w w.heap.size a0 a1 a2 a3 a4) (old data : ByteArray) (part rest at' : Int) (ho : ¬ old.size > 20000) (hd : ¬ data.size > 20000) :
    Calls Tryd.prog 3 #[.string old, .string data, .int .i64 part, .int .i64 rest, .int .i64 at'] w fun e w' => e = .returned (.bool true) ∧ Below w.heap.size w w' := by
  have hnot := not_run
  have hif := isIface25
  have HS : Hid _ := hS
  have ho2 : (20000 < old.size) = False := eq_false ho
  have hd2 : (20000 < data.size) = False := eq_false hd
  clear hS
  obtain ⟨k, hk, hk12⟩ := k12 at'
  have HK12 : Hid _ := hk12
  clear hk12
  go_enter Tryd.func3, Tryd.ntmps3
  go_wp2_with fail
  refine (known_ok (K := fun _ => False) HS.out (Nat.le_refl _) (fun i hi => hi.elim)).mono ?_
  rintro e w1 ⟨rfl, st1⟩
  go_wp2_with fail
  refine (new_live (K := fun _ => False) 100000 (by decide) (by decide) (HS.out.below st1.below) st1.below.size (fun i hi => hi.elim)).mono ?_
  rintro e w2 ⟨rfl, l2, st2⟩
  obtain ⟨p, hp⟩ : ∃ p, w1.heap.size + 1 = p := ⟨_, rfl⟩
  rw [hp] at l2 ⊢
  have st12 := st1.trans st2
  clear hp st1 st2
  go_wp2_with fail
  refine (append_live l2 (lt_max (by decide)) ((Few.fresh 100000).small (by decide)) box old (by decide) (by omega)).mono ?_
  rintro e w3 ⟨v, rfl, hdid⟩
  obtain ⟨rfl, fs3, hf3, l3, st3⟩ := hdid.calm rfl rfl (app_code0 name_box (by show (old.size : Int) ≤ 100000 - ((0 : Nat) : Int); omega))
  obtain ⟨b3, rfl⟩ := appF_nil hf3
  rw [cut_all] at l3
  clear hf3 hdid l2
  go_wp2_with fail
  refine (sync_live l3 (((Few.fresh 100000).tick.fs _).small (by decide)) box (by decide)).mono ?_
  rintro e w4 ⟨v, rfl, hdid⟩
  obtain ⟨rfl, fs4, hf4, l4, st4⟩ := hdid.calm rfl rfl (there_code0 (f := ⟨box, b3, old, 0⟩) name_box (look_one ⟨box, b3, old, 0⟩))
  obtain ⟨f4, hl4, rfl⟩ := hf4
  have e4 := Option.some.inj (hl4.symm.trans (look_one ⟨box, b3, old, 0⟩))
  subst e4
  rw [show setF box (syncFil ⟨box, b3, old, 0⟩) [⟨box, b3, old, 0⟩] = [boxF b3 old] from setF_one rfl] at l4
  clear hl4 hdid l3
  obtain ⟨s4, hs4, q4, r4, p4, f4, fw4⟩ : ∃ s4, Live w.heap.size (0 + 1 + 1) w4 p (fun _ => False) s4 a0 a1 a2 a3 a4 ∧ s4.quota = 100000 ∧ s4.run = true ∧ s4.plan = [] ∧ s4.fs = [boxF b3 old] ∧ Few 2 s4 := ⟨_, l4, rfl, rfl, rfl, rfl, ((Few.fresh 100000).tick.fs _).tick.fs _⟩
  have st124 := (st12.trans st3).trans st4
  clear l4 st12 st3 st4
  go_wp2_with fail
  refine (append_live hs4 (lt_max (by decide)) (fw4.small (by decide)) tmp data (by decide) (by omega)).mono ?_
  rintro e w5 ⟨v, rfl, hdid⟩
  obtain ⟨rfl, fs5, hf5, l5, st5⟩ := hdid.calm r4 p4 (app_code0 name_tmp (by rw [q4, f4, used_one]; show (data.size : Int) ≤ 100000 - (old.size : Int); omega))
  rw [f4] at hf5
  obtain ⟨b5, rfl⟩ := app_two (look_tmp_one b3 old) hf5
  rw [cut_all] at l5
  clear hf5 hdid hs4
  obtain ⟨s5, hs5, q5, r5, p5, f5, fw5⟩ : ∃ s5, Live w.heap.size (0 + 1 + 1 + 1) w5 p (fun _ => False) s5 a0 a1 a2 a3 a4 ∧ s5.quota = 100000 ∧ s5.run = true ∧ s5.plan = [] ∧ s5.fs = [⟨tmp, b5, data, 0⟩, boxF b3 old] ∧ Few 3 s5 := ⟨_, l5, q4, r4, p4, rfl, fw4.tick.fs _⟩
  have st15 := st124.trans st5
  clear l5 st124 st5 q4 r4 p4 f4 fw4
  have hl5 : look [⟨tmp, b5, data, 0⟩, boxF b3 old] tmp = some ⟨tmp, b5, data, 0⟩ := by unfold look; rw [List.find?_cons, decide_eq_true rfl]
  go_wp2_with fail
  refine (sync_live hs5 (fw5.small (by decide)) tmp (by decide)).mono ?_
  rintro e w6 ⟨v, rfl, hdid⟩
  obtain ⟨rfl, fs6, hf6, l6, st6⟩ := hdid.calm r5 p5 (there_code0 (f := ⟨tmp, b5, data, 0⟩) name_tmp (by rw [f5]; exact hl5))
  obtain ⟨f6, hl6, rfl⟩ := hf6
  rw [f5] at hl6 l6
  have e6 := Option.some.inj (hl6.symm.trans hl5)
  subst e6
  have e7 : setF tmp (syncFil ⟨tmp, b5, data, 0⟩) [⟨tmp, b5, data, 0⟩, boxF b3 old] = [tmpF b5 data, boxF b3 old] := by
    unfold setF
    rw [List.map_cons, if_pos rfl, List.map_cons, if_neg (show ¬ (boxF b3 old).name = tmp from fun e => by have : box = tmp := e; rw [box_tmp] at this; exact this)]
    rfl
  rw [e7] at l6
  clear hl6 hdid hs5 hl5 e7
  obtain ⟨s6, hs6, q6, r6, p6, f6, fw6⟩ : ∃ s6, Live w.heap.size (0 + 1 + 1 + 1 + 1) w6 p (fun _ => False) s6 a0 a1 a2 a3 a4 ∧ s6.quota = 100000 ∧ s6.run = true ∧ s6.plan = [] ∧ s6.fs = [tmpF b5 data, boxF b3 old] ∧ Few 4 s6 := ⟨_, l6, q5, r5, p5, rfl, fw5.tick.fs _⟩
  have st16 := st15.trans st6
  clear l6 st15 st6 q5 r5 p5 f5 fw5
  go_wp2_with fail
  obtain ⟨w7, hw7⟩ : ∃ w7, w6.alloc (Obj.cells #[.int .i64 k, .int .i64 part, .int .i64 rest] 32) = w7 := ⟨_, rfl⟩
  obtain ⟨l7, st7⟩ := hs6.drift (w' := w6.alloc (Obj.cells #[.int .i64 k, .int .i64 part, .int .i64 rest] 32)) ((Below.refl _ _).alloc (Nat.le_refl _) _)
  have hpl := plan_one w6 (k, part, rest)
  have hG7 : ∀ i, i = w6.heap.size → i < (w6.alloc (Obj.cells #[.int .i64 k, .int .i64 part, .int .i64 rest] 32)).heap.size ∧ i ≠ p := fun i hi => by have := hs6.lt; rw [hi]; exact ⟨by simp, by omega⟩
  rw [hw7] at l7 st7 hG7 ⊢
  have hpl7 : PlanIs w7 (fun i => i = w6.heap.size) (.slice (some ⟨w6.heap.size, 0, none⟩) [(k, part, rest)].length 1) [(k, part, rest)] := by rw [← hw7]; exact hpl
  refine (plan_live l7 [(k, part, rest)] hpl7 hG7 (show 1 ≤ 1000 by decide)).mono ?_
  rintro e w8 ⟨rfl, l8, st8⟩
  obtain ⟨s8, hs8, q8, r8, p8, f8, e8, fw8⟩ : ∃ s8, Live w.heap.size (0 + 1 + 1 + 1 + 1) w8 p (fun _ => False) s8 a0 a1 a2 a3 a4 ∧ s8.quota = 100000 ∧ s8.run = true ∧ s8.plan = [(k, part, rest)] ∧ s8.fs = [tmpF b5 data, boxF b3 old] ∧ s8.since = 0 ∧ Few 4 s8 := ⟨_, l8, q6, r6, keep_one HK12.out, f6, rfl, ⟨fw6.1, fw6.2.1, Int.le_refl _, by show (0 : Int) ≤ 4; decide⟩⟩
  have st18 := (st16.trans st7).trans st8
  clear hpl hpl7 hG7 l7 st7 hw7 l8 st8 st16 hs6 q6 r6 p6 f6 fw6
  go_wp2_with fail
  refine (rename_live hs8 (lt_max (by decide)) (fw8.small (by decide)) tmp box (by decide) (by decide)).mono ?_
  rintro e w9 ⟨v9, rfl, hdid⟩
  have hcode : renC s8.fs tmp box = 0 := by unfold renC; rw [if_pos ⟨name_tmp, name_box⟩, f8]; exact there_code0 name_tmp (look_tmp_two b3 b5 old data)
  rcases HK12.out with rfl | rfl
  · -- the stop comes at the Rename
    obtain ⟨q1, fs9, rfl, he9, hpf, _, l9, st9⟩ := hdid.dueNow r8 p8 (by rw [e8]; rfl)
    have hpf := hpf hcode
    clear hdid
    obtain ⟨s9, hs9, q9, r9, p9, f9, fw9⟩ : ∃ s9, Live w.heap.size (0 + 1 + 1 + 1 + 1 + 1) w9 p (fun i => False ∨ i = q1) s9 a0 a1 a2 a3 a4 ∧ s9.quota = 100000 ∧ s9.run = false ∧ s9.plan = [] ∧ s9.fs = fs9.map (stopF rest) ∧ Few 5 s9 := ⟨_, l9, q8, rfl, rfl, rfl, fw8.tick⟩
    clear l9
    go_wp2_with fail
    refine (remove_live hs9 (fw9.small (by decide)) nob (by decide)).mono ?_
    rintro e w10 ⟨v10, rfl, hdid⟩
    obtain ⟨q2, rfl, he10, l10, st10⟩ := hdid.downNow r9
    have he9' := he9.step st10 (.inr rfl)
    have g0 := l10.sens.c0
    clear hdid hs9
    go_wp2_with fail
    refine (is_live l10 he9' (.inl rfl) (.inl rfl)).mono ?_
    rw [decide_eq_true rfl]
    rintro e w11 ⟨rfl, h'⟩
    replace h' := h'.symm
    subst h'
    go_wp2_with fail
    refine (is_live l10 he10 (.inl rfl) (.inl rfl)).mono ?_
    rw [decide_eq_true rfl]
    rintro e w11 ⟨rfl, h'⟩
    replace h' := h'.symm
    subst h'
    go_wp2_with fail
    refine (down_live l10).mono ?_
    rw [r9]
    rintro e w11 ⟨rfl, h'⟩
    replace h' := h'.symm
    subst h'
    have stp10 := (st18.less (K' := fun _ => False) (fun i hi => hi)).trans (st9.trans (st10.less (K' := fun _ => False) (fun i hi => hi.elim)))
    by_cases hp1 : part ≥ 1
    · have hpb : decide (1 ≤ part) = true := decide_eq_true hp1
      have hfs : s9.fs = [boxF b5 data] := by
        unfold orF at hpf
        rw [if_pos hp1, f8] at hpf
        rw [f9, ren_two hpf, List.map_cons, stopF_full (show (boxF b5 data).dur = (boxF b5 data).bytes.size from rfl)]; rfl
      go_wp2_with fail
      refine (start_live l10).mono ?_
      rintro e w12 ⟨rfl, l12, st12⟩
      obtain ⟨s12, hs12, q12, r12, p12, f12, fw12⟩ : ∃ s12, Live w.heap.size _ w12 p _ s12 a0 a1 a2 a3 a4 ∧ s12.quota = 100000 ∧ s12.run = true ∧ s12.plan = [] ∧ s12.fs = [boxF b5 data] ∧ Few 6 s12 := ⟨_, l12, q9, rfl, p9, hfs, few_start fw9 r9 (by decide)⟩
      clear l12 l10
      go_wp2_with fail
      refine (read_live hs12 (fw12.small (by decide)) box (by decide)).mono ?_
      rintro e w13 ⟨v13, r, rfl, hdid, ht⟩
      obtain ⟨rfl, fs13, hf13, l13, st13⟩ := hdid.calm r12 p12 (there_code0 name_box (by rw [f12]; exact look_box_one b5 data))
      obtain ⟨f13, hf13', rfl⟩ := ht.1 rfl
      rw [f12] at hf13'
      have e13 := Option.some.inj (hf13'.symm.trans (look_box_one b5 data))
      subst e13
      rw [hf13] at l13
      obtain ⟨s13, hs13, q13, f13⟩ : ∃ s13, Live w.heap.size _ w13 p _ s13 a0 a1 a2 a3 a4 ∧ s13.quota = 100000 ∧ s13.fs = [boxF b5 data] := ⟨_, l13, q12, f12⟩
      have hby : (boxF b5 data).bytes = data := rfl
      have hsz : sizeF s13.fs tmp = -1 := by rw [f13]; unfold sizeF; rw [look_tmp_one]
      clear hdid ht hf13 hf13' l13 hs12
      have stAll := ((stp10.trans (st12.less (fun i hi => hi.elim))).trans (st13.less (fun i hi => hi.elim))).below
      go_wp2_with fail
      refine (size_live hs13 tmp (by decide)).mono ?_
      rw [hsz]
      rintro e w14 ⟨rfl, h'⟩
      replace h' := h'.symm
      subst h'
      go_wp2_with fail
      refine (quota_live hs13).mono ?_
      rw [q13]
      rintro e w15 ⟨rfl, h'⟩
      replace h' := h'.symm
      subst h'
      go_wp2_with fail
      go_ret
      exact ⟨rfl, stAll⟩
    · have hpb : decide (1 ≤ part) = false := decide_eq_false hp1
      have hfs : s9.fs = [tmpF b5 data, boxF b3 old] := by
        unfold orF at hpf
        rw [if_neg hp1, f8] at hpf
        rw [f9, hpf, List.map_cons, List.map_cons, stopF_full (show (tmpF b5 data).dur = (tmpF b5 data).bytes.size from rfl), stopF_full (show (boxF b3 old).dur = (boxF b3 old).bytes.size from rfl)]; rfl
      go_wp2_with fail
      refine (start_live l10).mono ?_
      rintro e w12 ⟨rfl, l12, st12⟩
      obtain ⟨s12, hs12, q12, r12, p12, f12, fw12⟩ : ∃ s12, Live w.heap.size _ w12 p _ s12 a0 a1 a2 a3 a4 ∧ s12.quota = 100000 ∧ s12.run = true ∧ s12.plan = [] ∧ s12.fs = [tmpF b5 data, boxF b3 old] ∧ Few 6 s12 := ⟨_, l12, q9, rfl, p9, hfs, few_start fw9 r9 (by decide)⟩
      clear l12 l10
      go_wp2_with fail
      refine (read_live hs12 (fw12.small (by decide)) box (by decide)).mono ?_
      rintro e w13 ⟨v13, r, rfl, hdid, ht⟩
      obtain ⟨rfl, fs13, hf13, l13, st13⟩ := hdid.calm r12 p12 (there_code0 name_box (by rw [f12]; exact look_box_two b3 b5 old data))
      obtain ⟨f13, hf13', rfl⟩ := ht.1 rfl
      rw [f12] at hf13'
      have e13 := Option.some.inj (hf13'.symm.trans (look_box_two b3 b5 old data))
      subst e13
      rw [hf13] at l13
      obtain ⟨s13, hs13, q13, f13⟩ : ∃ s13, Live w.heap.size _ w13 p _ s13 a0 a1 a2 a3 a4 ∧ s13.quota = 100000 ∧ s13.fs = [tmpF b5 data, boxF b3 old] := ⟨_, l13, q12, f12⟩
      have hby : (boxF b3 old).bytes = old := rfl
      have hsz : sizeF s13.fs tmp = (data.size : Int) := by rw [f13]; unfold sizeF; rw [look_tmp_two]; rfl
      clear hdid ht hf13 hf13' l13 hs12
      have stAll := ((stp10.trans (st12.less (fun i hi => hi.elim))).trans (st13.less (fun i hi => hi.elim))).below
      go_wp2_with fail
      refine (size_live hs13 tmp (by decide)).mono ?_
      rw [hsz]
      rintro e w14 ⟨rfl, h'⟩
      replace h' := h'.symm
      subst h'
      go_wp2_with fail
      refine (quota_live hs13).mono ?_
      rw [q13]
      rintro e w15 ⟨rfl, h'⟩
      replace h' := h'.symm
      subst h'
      go_wp2_with fail
      go_ret
      exact ⟨rfl, stAll⟩
  · -- .. or at what comes behind it
    obtain ⟨rfl, fs9, hpf, l9, st9⟩ := hdid.notYet r8 p8 (by rw [e8]; show (2 : Int) ≠ 0 + 1; decide) hcode
    rw [f8] at hpf
    have hpf := ren_two hpf
    subst hpf
    clear hdid
    obtain ⟨s9, hs9, q9, r9, p9, f9, e9, fw9⟩ : ∃ s9, Live w.heap.size (0 + 1 + 1 + 1 + 1 + 1) w9 p (fun _ => False) s9 a0 a1 a2 a3 a4 ∧ s9.quota = 100000 ∧ s9.run = true ∧ s9.plan = [(2, part, rest)] ∧ s9.fs = [boxF b5 data] ∧ s9.since = 1 ∧ Few 5 s9 := ⟨_, l9, q8, r8, p8, rfl, (by show s8.since + 1 = 1; rw [e8]; rfl), fw8.tick.fs _⟩
    clear l9
    go_wp2_with fail
    refine (remove_live hs9 (fw9.small (by decide)) nob (by decide)).mono ?_
    rintro e w10 ⟨v10, rfl, hdid⟩
    obtain ⟨q2, fs10, rfl, he10, _, hne10, l10, st10⟩ := hdid.dueNow r9 p9 (by rw [e9]; rfl)
    have hfs10 := hne10 (by unfold thereC; rw [if_pos name_nobody, f9, look_nob_one]; decide)
    rw [hfs10, f9] at l10
    obtain ⟨sA, hsA, qA, rA, pA, fA, fwA⟩ : ∃ sA, Live w.heap.size (0 + 1 + 1 + 1 + 1 + 1 + 1) w10 p (fun i => False ∨ i = q2) sA a0 a1 a2 a3 a4 ∧ sA.quota = 100000 ∧ sA.run = false ∧ sA.plan = [] ∧ sA.fs = [boxF b5 data] ∧ Few 6 sA := ⟨_, l10, q9, rfl, rfl, (by show [boxF b5 data].map (stopF rest) = _; rw [List.map_cons, stopF_full (show (boxF b5 data).dur = (boxF b5 data).bytes.size from rfl)]; rfl), fw9.tick⟩
    have g0 := hsA.sens.c0
    clear hdid hs9 l10 hne10 hfs10
    go_wp2_with fail
    refine (is_nil a0 _).mono ?_
    rintro e w11 ⟨rfl, h'⟩
    replace h' := h'.symm
    subst h'
    go_wp2_with fail
    refine (is_live hsA he10 (.inl rfl) (.inl rfl)).mono ?_
    rw [decide_eq_true rfl]
    rintro e w11 ⟨rfl, h'⟩
    replace h' := h'.symm
    subst h'
    go_wp2_with fail
    refine (down_live hsA).mono ?_
    rw [rA]
    rintro e w11 ⟨rfl, h'⟩
    replace h' := h'.symm
    subst h'
    have stp10 := (st18.less (K' := fun _ => False) (fun i hi => hi)).trans (st9.trans st10)
    go_wp2_with fail
    refine (start_live hsA).mono ?_
    rintro e w12 ⟨rfl, l12, st12⟩
    obtain ⟨s12, hs12, q12, r12, p12, f12, fw12⟩ : ∃ s12, Live w.heap.size _ w12 p _ s12 a0 a1 a2 a3 a4 ∧ s12.quota = 100000 ∧ s12.run = true ∧ s12.plan = [] ∧ s12.fs = [boxF b5 data] ∧ Few 6 s12 := ⟨_, l12, qA, rfl, pA, fA, few_start fwA rA (by decide)⟩
    clear l12 hsA
    go_wp2_with fail
    refine (read_live hs12 (fw12.small (by decide)) box (by decide)).mono ?_
    rintro e w13 ⟨v13, r, rfl, hdid, ht⟩
    obtain ⟨rfl, fs13, hf13, l13, st13⟩ := hdid.calm r12 p12 (there_code0 name_box (by rw [f12]; exact look_box_one b5 data))
    obtain ⟨f13, hf13', rfl⟩ := ht.1 rfl
    rw [f12] at hf13'
    have e13 := Option.some.inj (hf13'.symm.trans (look_box_one b5 data))
    subst e13
    rw [hf13] at l13
    obtain ⟨s13, hs13, q13, f13⟩ : ∃ s13, Live w.heap.size _ w13 p _ s13 a0 a1 a2 a3 a4 ∧ s13.quota = 100000 ∧ s13.fs = [boxF b5 data] := ⟨_, l13, q12, f12⟩
    have hby : (boxF b5 data).bytes = data := rfl
    have hsz : sizeF s13.fs tmp = -1 := by rw [f13]; unfold sizeF; rw [look_tmp_one]
    clear hdid ht hf13 hf13' l13 hs12
    have stAll := ((stp10.trans (st12.less (fun i hi => hi.elim))).trans (st13.less (fun i hi => hi.elim))).below
    go_wp2_with fail
    refine (size_live hs13 tmp (by decide)).mono ?_
    rw [hsz]
    rintro e w14 ⟨rfl, h'⟩
    replace h' := h'.symm
    subst h'
    go_wp2_with fail
    refine (quota_live hs13).mono ?_
    rw [q13]
    rintro e w15 ⟨rfl, h'⟩
    replace h' := h'.symm
    subst h'
    go_wp2_with fail
    go_ret
    exact ⟨rfl, stAll⟩
end Go.Proofs.YtkfehogefclhdaaDoor.Dk
