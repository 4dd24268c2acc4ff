/- For every pattern and name, store.Match answers what the reference's Match answers (texts above 400 bytes are passed by), and the two fixed examples come out as they must. No condition. -/
import Derived.Test.YtkfehogefclhdaaPSmx5
import Derived.Test.YtkfehogefclhdaaMatch
namespace Go.Proofs.Ytkfehogefclhdaa.Pure
open Go.RowKit Go.Proofs.Ytkfehogefclhdaa.PSm Go.Proofs.YtkfehogefclhdaaW.PrintWords Go.Proofs.YtkfehogefclhdaaW.PrintLast

theorem inb_fits : matchB ⟨#[105, 110, 98, 37]⟩ ⟨#[73, 78, 66, 79, 88]⟩ = true := by decide +kernel
theorem percent_not : matchB ⟨#[37]⟩ ⟨#[97, 47, 98]⟩ = false := by decide +kernel
theorem StoreMatches : postbaglaw12_StoreMatches.Pure := by
  intro a0 a1 h0 h1
  have big : ∀ b : Bool, Ev (fun k => postbaglaw12_StoreMatches.j0 k a0 a1 b) true := fun b => by
    cases b with
    | true => exact Ev.step (f := fun _ => some true) (fun k => by simp only [postbaglaw12_StoreMatches.j0, if_true]) (Ev.now _)
    | false =>
      refine Ev.step (fun k => by simp only [postbaglaw12_StoreMatches.j0]; rw [if_neg (by decide)]) ?_
      refine Ev.bind (store_Match_ev a0 a1 h0 h1) (Ev.bind (ref_Match_ev a0 a1 h0 h1) ?_)
      refine Ev.congr (fun k => by rw [if_pos (beq_self_eq_true _)]) ?_
      refine Ev.bind (store_Match_ev ⟨#[105, 110, 98, 37]⟩ ⟨#[73, 78, 66, 79, 88]⟩ (by decide) (by decide)) ?_
      refine Ev.congr (fun k => by rw [if_pos inb_fits]) ?_
      refine Ev.bind (store_Match_ev ⟨#[37]⟩ ⟨#[97, 47, 98]⟩ (by decide) (by decide)) ?_
      exact Ev.congr (fun k => by rw [percent_not]; rfl) (Ev.now true)
  refine Ev.rounds ?_
  by_cases c : (a0.size : Int) > 400
  · exact Ev.congr (fun k => by unfold postbaglaw12_StoreMatches.f; rw [if_pos c]) (big true)
  · exact Ev.congr (fun k => by unfold postbaglaw12_StoreMatches.f; rw [if_neg c]) (big _)

end Go.Proofs.Ytkfehogefclhdaa.Pure
