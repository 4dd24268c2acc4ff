/- For every class and every text, lex.Is answers what the reference's Is answers. No condition. -/
import Derived.Test.YtkfehogefclhdaaClasses2
namespace Go.Proofs.Ytkfehogefclhdaa.Pure
open Go.RowKit Go.Proofs.Ytkfehogefclhdaa.PLc Go.Proofs.YtkfehogefclhdaaW.PrintWords Go.Proofs.YtkfehogefclhdaaW.PrintLast

theorem seen_flag : isSpec 4 (⟨#[92, 83, 101, 101, 110]⟩ : ByteArray).data.toList = true := by decide +kernel
theorem LexClasses : postbaglaw3_LexClasses.Pure := by
  intro a0 a1 w0 h1
  refine Ev.rounds ?_
  have fin : Ev (fun k => postbaglaw3_LexClasses.l0 k a0 a1 8) true := by
    refine Ev.step (fun k => by simp only [postbaglaw3_LexClasses.l0]; rw [if_neg (by decide)]) (Ev.bind (lex_Is_ev a1 h1 a0) (Ev.bind (ref_Is_ev a1 h1 a0) ?_))
    refine Ev.congr (fun k => by rw [if_pos (beq_self_eq_true _)]) (Ev.bind (lex_Is_ev ⟨#[92, 83, 101, 101, 110]⟩ (by decide) 4) ?_)
    refine Ev.congr (fun k => by rw [if_pos seen_flag]) (Ev.bind (lex_Is_ev ⟨#[]⟩ (by decide) 1) ?_)
    exact Ev.congr (fun k => by rfl) (Ev.now true)
  have stp : ∀ n : Nat, n ≤ 7 → Ev (fun k => postbaglaw3_LexClasses.l0 k a0 a1 (n + 1 : Nat)) true → Ev (fun k => postbaglaw3_LexClasses.l0 k a0 a1 n) true := fun n hn h => by
    have e1 : wrap64 ((n : Int) + 1) = ((n + 1 : Nat) : Int) := by rw [w64 (by omega) (by omega)]; rfl
    refine Ev.step (fun k => by simp only [postbaglaw3_LexClasses.l0]; rw [if_pos (by omega), e1]) (Ev.bind (lex_Is_ev a1 h1 n) (Ev.bind (ref_Is_ev a1 h1 n) ?_))
    exact Ev.congr (fun k => by rw [if_neg (by simp)]) h
  have h := stp 0 (by decide) (stp 1 (by decide) (stp 2 (by decide) (stp 3 (by decide) (stp 4 (by decide) (stp 5 (by decide) (stp 6 (by decide) (stp 7 (by decide) fin)))))))
  exact h
end Go.Proofs.Ytkfehogefclhdaa.Pure
