/- The map of files, written: a file put in, a file taken out. -/
import Derived.Test.YtkfehogefclhdaaDoorDkApp
namespace Go.Proofs.YtkfehogefclhdaaDoor.Dk
open Go.RowKit Go.Maps Go.Proofs.YtkfehogefclhdaaDoorW.PrintWords Go.Proofs.YtkfehogefclhdaaDoorW.PrintMore
variable {N : Nat} {w : World} {p : Nat} {F : Nat → Prop} {s : St} {m : Nat} {pv : Value} {B : Nat} {a0 a1 a2 a3 a4 : Addr}

def outF (x : ByteArray) (fs : List Fil) : List Fil := fs.filter (fun g => !decide (g.name = x))
theorem look_out_same (x : ByteArray) (fs : List Fil) : look (outF x fs) x = none := by
  unfold look outF
  rw [List.find?_eq_none]
  intro f hf
  rw [List.mem_filter] at hf
  simpa using hf.2
theorem look_out_other {x y : ByteArray} (h : y ≠ x) : ∀ fs : List Fil, look (outF x fs) y = look fs y
  | [] => rfl
  | f :: r => by
    have ih := look_out_other h r
    unfold look outF at *
    rw [List.filter_cons]
    by_cases e : f.name = x
    · rw [decide_eq_true e, Bool.not_true, if_neg (by decide), ih, List.find?_cons, decide_eq_false (fun e2 => h (e2.symm.trans e))]
    · rw [decide_eq_false e, Bool.not_false, if_pos rfl, List.find?_cons, List.find?_cons, ih]
theorem out_none {x : ByteArray} {fs : List Fil} (h : look fs x = none) : outF x fs = fs := by
  unfold outF
  rw [List.filter_eq_self]
  unfold look at h
  rw [List.find?_eq_none] at h
  intro f hf
  have := h f hf
  simpa using this
theorem kl_ne {x y : ByteArray} (h : x ≠ y) : kl x ≠ kl y := fun e => h (kl_inj e)
theorem key_lit_is (x : ByteArray) : WideAt.IsKeyLit (kl x) := trivial
theorem MapIs.put {n : Nat} {fs : List Fil} (h : MapIs w m n fs) {x : ByteArray} (hx : x.size ≤ maxLen) (b : Nat) (hn : n < maxLen) :
    ∃ w', (Instr.mapUpdate 75 (.map (some m)) (.string x) (.pointer (some ⟨b, 0, none⟩))).run Tryd.prog w = .ok () w' ∧ w.grownBy w' (some m) ∧ ∀ f : Fil, f.name = x → f.blk = b → MapIs w' m (n + 1) (f :: outF x fs) := by
  obtain ⟨D, ho, h2, h3⟩ := h
  obtain ⟨w', hrun, ho2, hg⟩ := ho.update law9 Tryd.underlying75 hn (key_of hx) (rp_ptr (some b))
  refine ⟨w', hrun, hg, fun f hf hb => ⟨_, ho2, fun y => ?_, fun y => ?_⟩⟩
  · by_cases e : y = x
    · subst e
      rw [atKey_put_same ho.isMap (key_lit_is _)]
      unfold look; rw [List.find?_cons, decide_eq_true hf]; simp [hb]
    · rw [atKey_put_other (kl_ne e), h2]
      unfold look; rw [List.find?_cons, decide_eq_false (fun e2 => e (e2.symm.trans hf))]
      have := look_out_other e fs; unfold look at this; rw [this]
  · by_cases e : y = x
    · subst e
      rw [has_put_same ho.isMap (key_lit_is _)]
      unfold look; rw [List.find?_cons, decide_eq_true hf]; rfl
    · rw [has_put_other (kl_ne e), h3]
      unfold look; rw [List.find?_cons, decide_eq_false (fun e2 => e (e2.symm.trans hf))]
      have := look_out_other e fs; unfold look at this; rw [this]
theorem MapIs.del {n : Nat} {fs : List Fil} (h : MapIs w m n fs) {x : ByteArray} (hx : x.size ≤ maxLen) (ty : TypeId) :
    ∃ w', (Builtin.delete_ #[75, 9] ty #[.map (some m), .string x]).run Tryd.prog w = .ok (.tuple #[]) w' ∧ w.grownBy w' (some m) ∧ w'.heap.size = w.heap.size ∧ MapIs w' m n (outF x fs) := by
  obtain ⟨D, ho, h2, h3⟩ := h
  obtain ⟨w', hrun, ho2, ht⟩ := ho.drop law9 Tryd.underlying75 (key_of hx) ty
  refine ⟨w', hrun, ht.grown, by obtain ⟨_, _, _, _, _, e⟩ := ht; rw [e]; simp [Go.ChangeMaps.setBlock], ⟨_, ho2, fun y => ?_, fun y => ?_⟩⟩
  · by_cases e : y = x
    · subst e
      rw [atKey_del_same, look_out_same]; rfl
    · rw [atKey_del_other (kl_ne e), h2, look_out_other e]
  · by_cases e : y = x
    · subst e
      rw [has_del_same, look_out_same]; rfl
    · rw [has_del_other (kl_ne e), h3, look_out_other e]
end Go.Proofs.YtkfehogefclhdaaDoor.Dk
