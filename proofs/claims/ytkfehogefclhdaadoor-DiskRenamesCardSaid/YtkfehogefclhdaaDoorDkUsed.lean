/- Used, by its contract: the bytes of all files. -/
import Derived.Test.YtkfehogefclhdaaDoorDkOne
namespace Go.Proofs.YtkfehogefclhdaaDoor.Dk
open Go.RowKit Go.Maps Go.Proofs.YtkfehogefclhdaaDoorW.PrintWords
variable {N : Nat} {w : World} {p : Nat} {F : Nat → Prop} {s : St} {m : Nat} {pv : Value}

theorem kl_inj {a b : ByteArray} (h : kl a = kl b) : a = b := by
  unfold kl at h
  injection h with h
  cases a; cases b; simp at h
  simp [h]
theorem same_kl (a b : ByteArray) : (kl a).sameKey (kl b) = decide (a = b) := by
  by_cases h : a = b
  · subst h; rw [decide_eq_true rfl]; simp [kl, Lit.sameKey]
  · rw [decide_eq_false h]; exact sameKey_ne (fun e => h (kl_inj e))
theorem strike_kl (left : Lit → Bool) (x y : ByteArray) : (fun z : Lit => left z && !z.sameKey (kl x)) (kl y) = (left (kl y) && !decide (y = x)) := by
  show (left (kl y) && !(kl y).sameKey (kl x)) = _
  rw [same_kl]
theorem key_inv {key : Value} {l : Lit} (h : keyOf Tryd.prog 9 key = some l) : ∃ x, key = .string x := by
  obtain ⟨x, rfl, _⟩ := WideMaps.string_of_keyOf Tryd.underlying9 h
  exact ⟨x, rfl⟩
theorem key_lit {x : ByteArray} {l : Lit} (h : keyOf Tryd.prog 9 (.string x) = some l) : l = kl x ∧ x.size ≤ maxLen := by
  obtain ⟨y, e, e2, h3⟩ := WideMaps.string_of_keyOf Tryd.underlying9 h
  cases e
  exact ⟨e2, h3⟩
/-- The entry that has come is a file of the list. -/
theorem entry_file {fs : List Fil} {D : DataW Unit} (h2 : ∀ s, D.atKey (kl s) (dat none) = dat ((look fs s).map Fil.blk)) (h3 : ∀ s, has D (kl s) = (look fs s).isSome) {x : ByteArray} {c : Option Nat} {y : DataW Unit × List MemPlace} (hv : rp (ptr c) = some y) (hat : ∀ zd, D.atKey (kl x) zd = y.1) :
    ∃ f, look fs x = some f ∧ c = some f.blk := by
  have e : y = (dat c, []) := (Option.some.inj ((rp_ptr c).symm.trans hv)).symm
  subst e
  have h4 := h3 x
  rw [has_true_of_atKey hat] at h4
  obtain ⟨f, hf⟩ := Option.isSome_iff_exists.1 h4.symm
  refine ⟨f, hf, ?_⟩
  have h5 := h2 x
  rw [hat, hf] at h5
  exact dat_inj h5
/-- So many bytes have the files that have come. -/
def sumL (left : Lit → Bool) (fs : List Fil) : Nat := (fs.map fun f => if left (kl f.name) = true then 0 else f.bytes.size).sum
theorem sumL_le (left : Lit → Bool) : ∀ fs : List Fil, sumL left fs ≤ used fs
  | [] => Nat.le_refl _
  | f :: r => by
    have := sumL_le left r
    unfold sumL used at *
    rw [List.map_cons, List.map_cons, List.sum_cons, List.sum_cons]
    split <;> omega
theorem sumL_none {left : Lit → Bool} (h : ∀ l, left l = false) : ∀ fs : List Fil, sumL left fs = used fs
  | [] => rfl
  | f :: r => by
    have := sumL_none h r
    unfold sumL used at *
    rw [List.map_cons, List.map_cons, List.sum_cons, List.sum_cons, this, if_neg (by rw [h]; decide)]
theorem sumL_all {left : Lit → Bool} : ∀ fs : List Fil, (∀ f ∈ fs, left (kl f.name) = true) → sumL left fs = 0
  | [], _ => rfl
  | f :: r, h => by
    have := sumL_all r (fun g hg => h g (List.mem_cons_of_mem _ hg))
    unfold sumL at *
    rw [List.map_cons, List.sum_cons, this, if_pos (h f List.mem_cons_self)]
theorem sumL_far {left : Lit → Bool} {x : ByteArray} : ∀ fs : List Fil, (∀ g ∈ fs, g.name ≠ x) → sumL (fun z => left z && !z.sameKey (kl x)) fs = sumL left fs
  | [], _ => rfl
  | g :: r, h => by
    have := sumL_far (left := left) r (fun g hg => h g (List.mem_cons_of_mem _ hg))
    unfold sumL at *
    rw [List.map_cons, List.map_cons, List.sum_cons, List.sum_cons, this, strike_kl, decide_eq_false (h g List.mem_cons_self), Bool.not_false, Bool.and_true]
theorem sumL_step {left : Lit → Bool} {f : Fil} : ∀ fs : List Fil, fs.Pairwise (fun f g => f.name ≠ g.name) → f ∈ fs → left (kl f.name) = true → sumL (fun z => left z && !z.sameKey (kl f.name)) fs = sumL left fs + f.bytes.size
  | [], _, h, _ => by cases h
  | g :: r, hp, hm, hl => by
    rw [List.pairwise_cons] at hp
    rcases List.mem_cons.1 hm with rfl | hm
    · have := sumL_far (left := left) (x := f.name) r (fun g hg => (hp.1 g hg).symm)
      unfold sumL at *
      rw [List.map_cons, List.map_cons, List.sum_cons, List.sum_cons, this, strike_kl, decide_eq_true rfl, Bool.not_true, Bool.and_false, if_neg (by decide), if_pos hl]
      omega
    · have := sumL_step r hp.2 hm hl
      unfold sumL at *
      rw [List.map_cons, List.map_cons, List.sum_cons, List.sum_cons, this, strike_kl, decide_eq_false (hp.1 f hm), Bool.not_false, Bool.and_true]
      omega
theorem look_has {fs : List Fil} {f : Fil} (h : f ∈ fs) : (look fs f.name).isSome = true := by
  unfold look
  rw [List.find?_isSome]
  exact ⟨f, h, by simp⟩
set_option maxRecDepth 100000 in
set_option maxHeartbeats 1000000 in
theorem used_ok (h : Is N w p F s m pv) : Calls Tryd.prog 38 #[.pointer (some ⟨p, 0, none⟩)] w fun e w' => e = .returned (.int .i64 (used s.fs)) ∧ Below w.heap.size w w' := by
  obtain ⟨c0, c1, c2, c3, c4, c5⟩ := h.cells
  obtain ⟨D, hown, h2, h3⟩ := h.files
  have H2 : Hid _ := h2
  have H3 : Hid _ := h3
  clear h2 h3
  have hq := h.quo
  have hr := h.room
  have hnot := not_run
  go_enter Tryd.func38, Tryd.ntmps38
  go_wp2_with (first
    | (go_at_call 50; refine (none_ok h).mono ?_; rintro e w' ⟨rfl, h'⟩; replace h' := h'.symm; subst h')
    | (at_range; refine wpList_range_own _ rfl _ 75 rfl 9 79 law9 Tryd.underlying75 _ m N D rfl hown ?_; intro w0 hrg0 hg0 hs0))
  go_frame
  go_loopw [3] (fun n wr => ∃ (left : Lit → Bool) (cnt : Nat), wr.ranges Tryd.prog 9 rp m w.heap.size N D left cnt ∧ n = .int .i64 (sumL left s.fs) ∧ Below w.heap.size w wr)
    (fun _ wr => wr.rangeLeft m w.heap.size)
  case atStart =>
    refine ⟨_, _, hrg0, ?_, (Below.refl _ _).grown hg0 (Nat.le_refl _) (fun k hk => by cases hk)⟩
    rw [sumL_all s.fs (fun f hf => by rw [H3.out]; exact look_has hf)]; rfl
  case round =>
    obtain ⟨left, cnt, hrg, rfl, hbw⟩ := hrel
    go_wp2_with (first
      | (at_next; refine wpList_next_ranges _ rfl _ rfl 9 law9 rp Value.string ptr (fun _ _ hk => key_inv hk) (fun _ _ hv => by obtain ⟨o, rfl, _⟩ := rp_inv hv; exact ⟨o, rfl⟩) m w.heap.size N D left cnt rfl hrg ?_ ?_))
    · intro _ hl0
      go_wp2
      go_ret
      exact ⟨by rw [sumL_none hl0]; rfl, hbw⟩
    · intro x c l y ps w1 cnt1 hkey hlx hv hat hrg1 hlt hg1 hs1 hen
      obtain ⟨rfl, _⟩ := key_lit hkey
      obtain ⟨f, hf, rfl⟩ := entry_file H2.out H3.out (y := (y, ps)) hv hat
      have hmem := look_mem hf
      obtain ⟨hm, rfl⟩ := hmem
      have hbw1 := hbw.grown hg1 hbw.size (fun k hk => by cases hk; exact Nat.le_refl _)
      have hst := sumL_step s.fs h.names hm hlx
      have hle := sumL_le (fun z => left z && !z.sameKey (kl f.name)) s.fs
      rw [hst] at hle
      have hc0 := blk_cell ((h.below hbw1).each f hm) 0
      simp only [List.getElem?_toArray, List.getElem?_cons_zero] at hc0
      have HST : Hid _ := hst
      have HAT : Hid _ := hat
      clear hst hat hkey hv hlx hf
      simp only [ptr] at hen
      go_wp2
      go_roundw
      case rel => exact ⟨_, cnt1, hrg1, by rw [HST.out]; simp, hbw1⟩
      case measure => rw [hrg1.left_eq, hrg.left_eq]; exact hlt
end Go.Proofs.YtkfehogefclhdaaDoor.Dk
