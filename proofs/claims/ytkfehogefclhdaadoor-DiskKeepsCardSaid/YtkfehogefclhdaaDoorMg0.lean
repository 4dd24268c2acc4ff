/- Contracts of the functions that the statement reaches, and plain lemmas: PNmx0, PNmx1, DkRel, DkOne, DkErr, DkUsed, DkStop, DkOp, DkDue, DkAny, DkName, DkApp, DkPut, DkNew, DkAppend, DkSimple, DkSync, DkRemove, DkRead, DkRename, DkRen, DkNewD. -/
import Derived.Test.YtkfehogefclhdaaDoorProg
import Derived.Below
import Derived.Deep.Draws
import Derived.Deep.AppendLies
import Derived.Maps.AppendAt
import Derived.OwnWalk
import Derived.Laws.BytesArg
import Derived.Laws.MakeOwn
import Derived.Laws.OwnMore
import Derived.Deep.OwnRows
import Derived.Tactics
import Derived.Lib.ConvBytes
import Derived.Laws.Slices
import Derived.WalkKit
import Derived.KernelRfl
import Derived.RowKit3
import Derived.Deep.LoopGhost
import Derived.Deep.QuietTactic
import Derived.BigQuiet
import Derived.WideLaws
import Derived.Deep.DeepCutAuto
import Derived.Deep.CutBlock
import Derived.Deep.RegionHeld3
import Derived.Laws.Rows
import Derived.Lib.AppendStr
import Derived.ArgAppend
import Derived.Laws.IdiomCopy
import Derived.OrdersHeld
import Derived.Laws.BitsLemmas
import Derived.RowKit
import Derived.Test.YtkfehogefclhdaaDoorWWords
import Derived.Test.YtkfehogefclhdaaDoorWLast
import Derived.Test.YtkfehogefclhdaaDoorWTab
import Derived.Test.YtkfehogefclhdaaDoorWFour
import Derived.Test.YtkfehogefclhdaaDoorWQPut
import Derived.Test.YtkfehogefclhdaaDoorWApart
import Derived.Test.YtkfehogefclhdaaDoorWArr
import Derived.Test.YtkfehogefclhdaaDoorWZeros
import Derived.Test.YtkfehogefclhdaaDoorWFoot
import Derived.Test.YtkfehogefclhdaaDoorWKept
import Derived.Test.YtkfehogefclhdaaDoorWShare
import Derived.Test.YtkfehogefclhdaaDoorWN
import Derived.Test.YtkfehogefclhdaaDoorWFootNe
import Derived.Test.YtkfehogefclhdaaDoorWAt
import Derived.Test.YtkfehogefclhdaaDoorWEqStruct
import Derived.Test.YtkfehogefclhdaaDoorWRepsOne
import Derived.Test.YtkfehogefclhdaaDoorWInv
import Derived.Test.YtkfehogefclhdaaDoorWInvWords
import Derived.Test.YtkfehogefclhdaaDoorWGuard
import Derived.Test.YtkfehogefclhdaaDoorWNEv
import Derived.Test.YtkfehogefclhdaaDoorWMore
import Derived.WalkSpells
import Derived.WalkLawsBesides
import Derived.Maps.OwnSet
import Derived.Maps.RangeWalk
import Derived.StringKeys
import Derived.LaidEql
import Derived.Stop.Asserts
import Derived.RowKitTokens
import Derived.StillTailTactics
import Derived.Shelf.Abstract
import Derived.Laws.EntriesVeiled
set_option linter.unusedVariables false
-- Written by xprint.py, a program of this session over the kit's print: not the print's own text.
namespace Go.Proofs.YtkfehogefclhdaaDoor.PNm
open Go.RowKit Go.Proofs.YtkfehogefclhdaaDoorW.PrintWords Go.Proofs.YtkfehogefclhdaaDoorW.PrintLast Go.Proofs.YtkfehogefclhdaaDoorW.PrintMore
attribute [local go_sem] max2_int min2_int max_two min_two max_three min_three max_four min_four   -- for this text's walks alone
set_option linter.unusedVariables false
set_option linter.unusedSimpArgs false



def errW : Option Int → Value
  | none => .nilIface
  | some c => .iface 0 (.int .i64 c)
theorem errW_none : errW none = .nilIface := rfl
theorem errW_some (c : Int) : errW (some c) = .iface 0 (.int .i64 c) := rfl

-- the values' own types

end Go.Proofs.YtkfehogefclhdaaDoor.PNm

-- Written by xprint.py, a program of this session over the kit's print: not the print's own text.
namespace Go.Proofs.YtkfehogefclhdaaDoor.PNm
open Go.RowKit Go.Proofs.YtkfehogefclhdaaDoorW.PrintWords Go.Proofs.YtkfehogefclhdaaDoorW.PrintLast Go.Proofs.YtkfehogefclhdaaDoorW.PrintMore
attribute [local go_sem] max2_int min2_int max_two min_two max_three min_three max_four min_four   -- for this text's walks alone
set_option linter.unusedVariables false
set_option linter.unusedSimpArgs false

/-! ### disk_isName: function 44 -/
def disk_isName.l0 : Nat → ByteArray → Int → Int → Option (Bool)
  | 0, _, _, _ => none
  | k + 1, x0, x6, x7 => if x7 < x6 then (if 0 ≤ x7 then (if x7 < (x0.size : Int) then (if (bt x0 x7) < 97 then (if (bt x0 x7) < 48 then (if (bt x0 x7) = 46 then (disk_isName.l0 k x0 x6 (wrap64 (x7 + 1))) else (if (bt x0 x7) = 45 then (disk_isName.l0 k x0 x6 (wrap64 (x7 + 1))) else (if (bt x0 x7) = 95 then (disk_isName.l0 k x0 x6 (wrap64 (x7 + 1))) else (some false)))) else (if (bt x0 x7) > 57 then (if (bt x0 x7) = 46 then (disk_isName.l0 k x0 x6 (wrap64 (x7 + 1))) else (if (bt x0 x7) = 45 then (disk_isName.l0 k x0 x6 (wrap64 (x7 + 1))) else (if (bt x0 x7) = 95 then (disk_isName.l0 k x0 x6 (wrap64 (x7 + 1))) else (some false)))) else (disk_isName.l0 k x0 x6 (wrap64 (x7 + 1))))) else (if (bt x0 x7) > 122 then (if (bt x0 x7) < 48 then (if (bt x0 x7) = 46 then (disk_isName.l0 k x0 x6 (wrap64 (x7 + 1))) else (if (bt x0 x7) = 45 then (disk_isName.l0 k x0 x6 (wrap64 (x7 + 1))) else (if (bt x0 x7) = 95 then (disk_isName.l0 k x0 x6 (wrap64 (x7 + 1))) else (some false)))) else (if (bt x0 x7) > 57 then (if (bt x0 x7) = 46 then (disk_isName.l0 k x0 x6 (wrap64 (x7 + 1))) else (if (bt x0 x7) = 45 then (disk_isName.l0 k x0 x6 (wrap64 (x7 + 1))) else (if (bt x0 x7) = 95 then (disk_isName.l0 k x0 x6 (wrap64 (x7 + 1))) else (some false)))) else (disk_isName.l0 k x0 x6 (wrap64 (x7 + 1))))) else (disk_isName.l0 k x0 x6 (wrap64 (x7 + 1))))) else (none)) else (none)) else (if (x0.size : Int) ≥ 1 then (some (decide ((x0.size : Int) ≤ 32))) else (some false))
def disk_isName.f (k : Nat) (a0 : ByteArray) : Option (Bool) := disk_isName.l0 k a0 (a0.size : Int) 0
theorem disk_isName.mono_l : ∀ k, (∀ y0 y1 y2, LeO (disk_isName.l0 k y0 y1 y2) (disk_isName.l0 (k + 1) y0 y1 y2))
  | 0 => fun _ _ _ r h => by simp [disk_isName.l0] at h
  | k + 1 => by
    have ih0 := disk_isName.mono_l k
    · intro y0 y1 y2
      unfold disk_isName.l0
      repeat' first
      | (with_reducible exact ih0 _ _ _)
      | (with_reducible exact LeO.refl _)
      | (with_reducible exact LeO.none _)
      | (with_reducible refine LeO.ite ?_ ?_)
      | (with_reducible refine LeO.bind ?_ (fun _ => ?_))
      | exact ih0 _ _ _
      | exact LeO.none _
      | refine LeO.ite ?_ ?_
      | refine LeO.bind ?_ (fun _ => ?_)
theorem disk_isName.mono : ∀ a0 k, LeO (disk_isName.f k a0) (disk_isName.f (k + 1) a0) := by
  intro a0 k
  have ih0 := disk_isName.mono_l k
  unfold disk_isName.f
  repeat' first
      | (with_reducible exact ih0 _ _ _)
      | (with_reducible exact LeO.refl _)
      | (with_reducible exact LeO.none _)
      | (with_reducible refine LeO.ite ?_ ?_)
      | (with_reducible refine LeO.bind ?_ (fun _ => ?_))
      | exact ih0 _ _ _
      | exact LeO.none _
      | refine LeO.ite ?_ ?_
      | refine LeO.bind ?_ (fun _ => ?_)
set_option maxHeartbeats 8000000 in
set_option maxRecDepth 100000 in
theorem disk_isName.calls (k : Nat) (a0 : ByteArray) (r : Bool) (w : World) (h : disk_isName.f k a0 = some r) :
    Calls Tryd.prog 44 #[.string a0] w fun e w' => e = .returned (.bool r) ∧ Drawn0 w w' := by
  have H : (disk_isName.l0 k a0 (a0.size : Int) 0) = some r := h
  clear h
  have H' := Aside0.mk H
  clear H
  go_enter Tryd.func44, Tryd.ntmps44
  go_wp2
  go_loopg [7] k (fun kq v7 w' => ∃ (x7_1 : Int), v7 = .int .i64 x7_1 ∧ Aside0 (disk_isName.l0 kq a0 (a0.size : Int) x7_1 = some r) ∧ Aside0 (kq ≤ k) ∧ Drawn0 w w')
  case atStart => exact ⟨(0), (by first | rfl | (simp; done) | (simp [*]; done) | (simp [bne, *]; done)), H', ⟨Nat.le_refl _⟩, by repeat (first | exact Drawn0.refl _ | apply Drawn0.step)⟩
  case round =>
    clear H'
    obtain ⟨x7_1, rfl, HA, HK1, ⟨m1, rfl⟩⟩ := hrel
    cases gk with
    | zero => exact absurd HA.out (by simp [disk_isName.l0])
    | succ k1 =>
      have H := HA.out
      clear HA
      simp only [disk_isName.l0] at H
      by_cases c2 : x7_1 < (a0.size : Int)
      · rw [if_pos c2] at H
        have c2b0 : decide (x7_1 < (a0.size : Int)) = true := decide_eq_true c2
        clear c2
        by_cases c3 : 0 ≤ x7_1
        · rw [if_pos c3] at H
          have c3b0 : decide (0 ≤ x7_1) = true := decide_eq_true c3
          clear c3
          by_cases c4 : x7_1 < (a0.size : Int)
          · rw [if_pos c4] at H
            have c4b0 : decide (x7_1 < (a0.size : Int)) = true := decide_eq_true c4
            clear c4
            by_cases c6 : (bt a0 x7_1) < 97
            · rw [if_pos c6] at H
              have c6b0 : decide ((bt a0 x7_1) < 97) = true := decide_eq_true c6
              clear c6
              by_cases c7 : (bt a0 x7_1) < 48
              · rw [if_pos c7] at H
                have c7b0 : decide ((bt a0 x7_1) < 48) = true := decide_eq_true c7
                clear c7
                by_cases c8 : (bt a0 x7_1) = 46
                · rw [if_pos c8] at H
                  have c8b0 : ((bt a0 x7_1) == 46) = true := beq_iff_eq.mpr c8
                  have c8b1 : ((bt a0 x7_1) != 46) = false := bne_eq_false_iff_eq.mpr c8
                  clear c8
                  have H' := Aside0.mk H
                  clear H
                  have p5 : 0 ≤ (x7_1 : Int) := of_decide_eq_true (by first | (with_reducible assumption) | assumption)
                  have q5 : x7_1 < (a0.size : Int) := of_decide_eq_true (by first | (with_reducible assumption) | assumption)
                  have hx5 := bt_at a0 x7_1
                  replace p5 := eq_true p5
                  replace q5 := eq_true q5
                  go_wp2
                  go_roundg k1
                  case measure => have := HK1.out; omega
                  case rel => exact ⟨(wrap64 (x7_1 + 1)), (by first | rfl | (simp; done) | (simp [*]; done) | (simp [bne, *]; done)), H', ⟨by have := HK1.out; omega⟩, by repeat (first | exact Drawn0.refl _ | apply Drawn0.step)⟩
                · rw [if_neg c8] at H
                  have c8b0 : ((bt a0 x7_1) == 46) = false := beq_eq_false_iff_ne.mpr c8
                  have c8b1 : ((bt a0 x7_1) != 46) = true := bne_iff_ne.mpr c8
                  by_cases c9 : (bt a0 x7_1) = 45
                  · rw [if_pos c9] at H
                    have c9b0 : ((bt a0 x7_1) == 45) = true := beq_iff_eq.mpr c9
                    have c9b1 : ((bt a0 x7_1) != 45) = false := bne_eq_false_iff_eq.mpr c9
                    clear c9
                    have H' := Aside0.mk H
                    clear H
                    have p5 : 0 ≤ (x7_1 : Int) := of_decide_eq_true (by first | (with_reducible assumption) | assumption)
                    have q5 : x7_1 < (a0.size : Int) := of_decide_eq_true (by first | (with_reducible assumption) | assumption)
                    have hx5 := bt_at a0 x7_1
                    replace p5 := eq_true p5
                    replace q5 := eq_true q5
                    go_wp2
                    go_roundg k1
                    case measure => have := HK1.out; omega
                    case rel => exact ⟨(wrap64 (x7_1 + 1)), (by first | rfl | (simp; done) | (simp [*]; done) | (simp [bne, *]; done)), H', ⟨by have := HK1.out; omega⟩, by repeat (first | exact Drawn0.refl _ | apply Drawn0.step)⟩
                  · rw [if_neg c9] at H
                    have c9b0 : ((bt a0 x7_1) == 45) = false := beq_eq_false_iff_ne.mpr c9
                    have c9b1 : ((bt a0 x7_1) != 45) = true := bne_iff_ne.mpr c9
                    by_cases c10 : (bt a0 x7_1) = 95
                    · rw [if_pos c10] at H
                      have c10b0 : ((bt a0 x7_1) == 95) = true := beq_iff_eq.mpr c10
                      have c10b1 : ((bt a0 x7_1) != 95) = false := bne_eq_false_iff_eq.mpr c10
                      clear c10
                      have H' := Aside0.mk H
                      clear H
                      have p5 : 0 ≤ (x7_1 : Int) := of_decide_eq_true (by first | (with_reducible assumption) | assumption)
                      have q5 : x7_1 < (a0.size : Int) := of_decide_eq_true (by first | (with_reducible assumption) | assumption)
                      have hx5 := bt_at a0 x7_1
                      replace p5 := eq_true p5
                      replace q5 := eq_true q5
                      go_wp2
                      go_roundg k1
                      case measure => have := HK1.out; omega
                      case rel => exact ⟨(wrap64 (x7_1 + 1)), (by first | rfl | (simp; done) | (simp [*]; done) | (simp [bne, *]; done)), H', ⟨by have := HK1.out; omega⟩, by repeat (first | exact Drawn0.refl _ | apply Drawn0.step)⟩
                    · rw [if_neg c10] at H
                      have c10b0 : ((bt a0 x7_1) == 95) = false := beq_eq_false_iff_ne.mpr c10
                      have c10b1 : ((bt a0 x7_1) != 95) = true := bne_iff_ne.mpr c10
                      obtain rfl := Option.some.inj H
                      have p5 : 0 ≤ (x7_1 : Int) := of_decide_eq_true (by first | (with_reducible assumption) | assumption)
                      have q5 : x7_1 < (a0.size : Int) := of_decide_eq_true (by first | (with_reducible assumption) | assumption)
                      have hx5 := bt_at a0 x7_1
                      replace p5 := eq_true p5
                      replace q5 := eq_true q5
                      go_wp2
                      go_ret
                      exact ⟨by first | rfl | (simp; done) | (simp [*]; done), by repeat (first | exact Drawn0.refl _ | apply Drawn0.step)⟩
              · rw [if_neg c7] at H
                have c7b0 : decide ((bt a0 x7_1) < 48) = false := decide_eq_false c7
                clear c7
                by_cases c11 : (bt a0 x7_1) > 57
                · rw [if_pos c11] at H
                  have c11b0 : decide (57 < (bt a0 x7_1)) = true := decide_eq_true c11
                  clear c11
                  by_cases c12 : (bt a0 x7_1) = 46
                  · rw [if_pos c12] at H
                    have c12b0 : ((bt a0 x7_1) == 46) = true := beq_iff_eq.mpr c12
                    have c12b1 : ((bt a0 x7_1) != 46) = false := bne_eq_false_iff_eq.mpr c12
                    clear c12
                    have H' := Aside0.mk H
                    clear H
                    have p5 : 0 ≤ (x7_1 : Int) := of_decide_eq_true (by first | (with_reducible assumption) | assumption)
                    have q5 : x7_1 < (a0.size : Int) := of_decide_eq_true (by first | (with_reducible assumption) | assumption)
                    have hx5 := bt_at a0 x7_1
                    replace p5 := eq_true p5
                    replace q5 := eq_true q5
                    go_wp2
                    go_roundg k1
                    case measure => have := HK1.out; omega
                    case rel => exact ⟨(wrap64 (x7_1 + 1)), (by first | rfl | (simp; done) | (simp [*]; done) | (simp [bne, *]; done)), H', ⟨by have := HK1.out; omega⟩, by repeat (first | exact Drawn0.refl _ | apply Drawn0.step)⟩
                  · rw [if_neg c12] at H
                    have c12b0 : ((bt a0 x7_1) == 46) = false := beq_eq_false_iff_ne.mpr c12
                    have c12b1 : ((bt a0 x7_1) != 46) = true := bne_iff_ne.mpr c12
                    by_cases c13 : (bt a0 x7_1) = 45
                    · rw [if_pos c13] at H
                      have c13b0 : ((bt a0 x7_1) == 45) = true := beq_iff_eq.mpr c13
                      have c13b1 : ((bt a0 x7_1) != 45) = false := bne_eq_false_iff_eq.mpr c13
                      clear c13
                      have H' := Aside0.mk H
                      clear H
                      have p5 : 0 ≤ (x7_1 : Int) := of_decide_eq_true (by first | (with_reducible assumption) | assumption)
                      have q5 : x7_1 < (a0.size : Int) := of_decide_eq_true (by first | (with_reducible assumption) | assumption)
                      have hx5 := bt_at a0 x7_1
                      replace p5 := eq_true p5
                      replace q5 := eq_true q5
                      go_wp2
                      go_roundg k1
                      case measure => have := HK1.out; omega
                      case rel => exact ⟨(wrap64 (x7_1 + 1)), (by first | rfl | (simp; done) | (simp [*]; done) | (simp [bne, *]; done)), H', ⟨by have := HK1.out; omega⟩, by repeat (first | exact Drawn0.refl _ | apply Drawn0.step)⟩
                    · rw [if_neg c13] at H
                      have c13b0 : ((bt a0 x7_1) == 45) = false := beq_eq_false_iff_ne.mpr c13
                      have c13b1 : ((bt a0 x7_1) != 45) = true := bne_iff_ne.mpr c13
                      by_cases c14 : (bt a0 x7_1) = 95
                      · rw [if_pos c14] at H
                        have c14b0 : ((bt a0 x7_1) == 95) = true := beq_iff_eq.mpr c14
                        have c14b1 : ((bt a0 x7_1) != 95) = false := bne_eq_false_iff_eq.mpr c14
                        clear c14
                        have H' := Aside0.mk H
                        clear H
                        have p5 : 0 ≤ (x7_1 : Int) := of_decide_eq_true (by first | (with_reducible assumption) | assumption)
                        have q5 : x7_1 < (a0.size : Int) := of_decide_eq_true (by first | (with_reducible assumption) | assumption)
                        have hx5 := bt_at a0 x7_1
                        replace p5 := eq_true p5
                        replace q5 := eq_true q5
                        go_wp2
                        go_roundg k1
                        case measure => have := HK1.out; omega
                        case rel => exact ⟨(wrap64 (x7_1 + 1)), (by first | rfl | (simp; done) | (simp [*]; done) | (simp [bne, *]; done)), H', ⟨by have := HK1.out; omega⟩, by repeat (first | exact Drawn0.refl _ | apply Drawn0.step)⟩
                      · rw [if_neg c14] at H
                        have c14b0 : ((bt a0 x7_1) == 95) = false := beq_eq_false_iff_ne.mpr c14
                        have c14b1 : ((bt a0 x7_1) != 95) = true := bne_iff_ne.mpr c14
                        obtain rfl := Option.some.inj H
                        have p5 : 0 ≤ (x7_1 : Int) := of_decide_eq_true (by first | (with_reducible assumption) | assumption)
                        have q5 : x7_1 < (a0.size : Int) := of_decide_eq_true (by first | (with_reducible assumption) | assumption)
                        have hx5 := bt_at a0 x7_1
                        replace p5 := eq_true p5
                        replace q5 := eq_true q5
                        go_wp2
                        go_ret
                        exact ⟨by first | rfl | (simp; done) | (simp [*]; done), by repeat (first | exact Drawn0.refl _ | apply Drawn0.step)⟩
                · rw [if_neg c11] at H
                  have c11b0 : decide (57 < (bt a0 x7_1)) = false := decide_eq_false c11
                  clear c11
                  have H' := Aside0.mk H
                  clear H
                  have p5 : 0 ≤ (x7_1 : Int) := of_decide_eq_true (by first | (with_reducible assumption) | assumption)
                  have q5 : x7_1 < (a0.size : Int) := of_decide_eq_true (by first | (with_reducible assumption) | assumption)
                  have hx5 := bt_at a0 x7_1
                  replace p5 := eq_true p5
                  replace q5 := eq_true q5
                  go_wp2
                  go_roundg k1
                  case measure => have := HK1.out; omega
                  case rel => exact ⟨(wrap64 (x7_1 + 1)), (by first | rfl | (simp; done) | (simp [*]; done) | (simp [bne, *]; done)), H', ⟨by have := HK1.out; omega⟩, by repeat (first | exact Drawn0.refl _ | apply Drawn0.step)⟩
            · rw [if_neg c6] at H
              have c6b0 : decide ((bt a0 x7_1) < 97) = false := decide_eq_false c6
              clear c6
              by_cases c15 : (bt a0 x7_1) > 122
              · rw [if_pos c15] at H
                have c15b0 : decide (122 < (bt a0 x7_1)) = true := decide_eq_true c15
                clear c15
                by_cases c16 : (bt a0 x7_1) < 48
                · rw [if_pos c16] at H
                  have c16b0 : decide ((bt a0 x7_1) < 48) = true := decide_eq_true c16
                  clear c16
                  by_cases c17 : (bt a0 x7_1) = 46
                  · rw [if_pos c17] at H
                    have c17b0 : ((bt a0 x7_1) == 46) = true := beq_iff_eq.mpr c17
                    have c17b1 : ((bt a0 x7_1) != 46) = false := bne_eq_false_iff_eq.mpr c17
                    clear c17
                    have H' := Aside0.mk H
                    clear H
                    have p5 : 0 ≤ (x7_1 : Int) := of_decide_eq_true (by first | (with_reducible assumption) | assumption)
                    have q5 : x7_1 < (a0.size : Int) := of_decide_eq_true (by first | (with_reducible assumption) | assumption)
                    have hx5 := bt_at a0 x7_1
                    replace p5 := eq_true p5
                    replace q5 := eq_true q5
                    go_wp2
                    go_roundg k1
                    case measure => have := HK1.out; omega
                    case rel => exact ⟨(wrap64 (x7_1 + 1)), (by first | rfl | (simp; done) | (simp [*]; done) | (simp [bne, *]; done)), H', ⟨by have := HK1.out; omega⟩, by repeat (first | exact Drawn0.refl _ | apply Drawn0.step)⟩
                  · rw [if_neg c17] at H
                    have c17b0 : ((bt a0 x7_1) == 46) = false := beq_eq_false_iff_ne.mpr c17
                    have c17b1 : ((bt a0 x7_1) != 46) = true := bne_iff_ne.mpr c17
                    by_cases c18 : (bt a0 x7_1) = 45
                    · rw [if_pos c18] at H
                      have c18b0 : ((bt a0 x7_1) == 45) = true := beq_iff_eq.mpr c18
                      have c18b1 : ((bt a0 x7_1) != 45) = false := bne_eq_false_iff_eq.mpr c18
                      clear c18
                      have H' := Aside0.mk H
                      clear H
                      have p5 : 0 ≤ (x7_1 : Int) := of_decide_eq_true (by first | (with_reducible assumption) | assumption)
                      have q5 : x7_1 < (a0.size : Int) := of_decide_eq_true (by first | (with_reducible assumption) | assumption)
                      have hx5 := bt_at a0 x7_1
                      replace p5 := eq_true p5
                      replace q5 := eq_true q5
                      go_wp2
                      go_roundg k1
                      case measure => have := HK1.out; omega
                      case rel => exact ⟨(wrap64 (x7_1 + 1)), (by first | rfl | (simp; done) | (simp [*]; done) | (simp [bne, *]; done)), H', ⟨by have := HK1.out; omega⟩, by repeat (first | exact Drawn0.refl _ | apply Drawn0.step)⟩
                    · rw [if_neg c18] at H
                      have c18b0 : ((bt a0 x7_1) == 45) = false := beq_eq_false_iff_ne.mpr c18
                      have c18b1 : ((bt a0 x7_1) != 45) = true := bne_iff_ne.mpr c18
                      by_cases c19 : (bt a0 x7_1) = 95
                      · rw [if_pos c19] at H
                        have c19b0 : ((bt a0 x7_1) == 95) = true := beq_iff_eq.mpr c19
                        have c19b1 : ((bt a0 x7_1) != 95) = false := bne_eq_false_iff_eq.mpr c19
                        clear c19
                        have H' := Aside0.mk H
                        clear H
                        have p5 : 0 ≤ (x7_1 : Int) := of_decide_eq_true (by first | (with_reducible assumption) | assumption)
                        have q5 : x7_1 < (a0.size : Int) := of_decide_eq_true (by first | (with_reducible assumption) | assumption)
                        have hx5 := bt_at a0 x7_1
                        replace p5 := eq_true p5
                        replace q5 := eq_true q5
                        go_wp2
                        go_roundg k1
                        case measure => have := HK1.out; omega
                        case rel => exact ⟨(wrap64 (x7_1 + 1)), (by first | rfl | (simp; done) | (simp [*]; done) | (simp [bne, *]; done)), H', ⟨by have := HK1.out; omega⟩, by repeat (first | exact Drawn0.refl _ | apply Drawn0.step)⟩
                      · rw [if_neg c19] at H
                        have c19b0 : ((bt a0 x7_1) == 95) = false := beq_eq_false_iff_ne.mpr c19
                        have c19b1 : ((bt a0 x7_1) != 95) = true := bne_iff_ne.mpr c19
                        obtain rfl := Option.some.inj H
                        have p5 : 0 ≤ (x7_1 : Int) := of_decide_eq_true (by first | (with_reducible assumption) | assumption)
                        have q5 : x7_1 < (a0.size : Int) := of_decide_eq_true (by first | (with_reducible assumption) | assumption)
                        have hx5 := bt_at a0 x7_1
                        replace p5 := eq_true p5
                        replace q5 := eq_true q5
                        go_wp2
                        go_ret
                        exact ⟨by first | rfl | (simp; done) | (simp [*]; done), by repeat (first | exact Drawn0.refl _ | apply Drawn0.step)⟩
                · rw [if_neg c16] at H
                  have c16b0 : decide ((bt a0 x7_1) < 48) = false := decide_eq_false c16
                  clear c16
                  by_cases c20 : (bt a0 x7_1) > 57
                  · rw [if_pos c20] at H
                    have c20b0 : decide (57 < (bt a0 x7_1)) = true := decide_eq_true c20
                    clear c20
                    by_cases c21 : (bt a0 x7_1) = 46
                    · rw [if_pos c21] at H
                      have c21b0 : ((bt a0 x7_1) == 46) = true := beq_iff_eq.mpr c21
                      have c21b1 : ((bt a0 x7_1) != 46) = false := bne_eq_false_iff_eq.mpr c21
                      clear c21
                      have H' := Aside0.mk H
                      clear H
                      have p5 : 0 ≤ (x7_1 : Int) := of_decide_eq_true (by first | (with_reducible assumption) | assumption)
                      have q5 : x7_1 < (a0.size : Int) := of_decide_eq_true (by first | (with_reducible assumption) | assumption)
                      have hx5 := bt_at a0 x7_1
                      replace p5 := eq_true p5
                      replace q5 := eq_true q5
                      go_wp2
                      go_roundg k1
                      case measure => have := HK1.out; omega
                      case rel => exact ⟨(wrap64 (x7_1 + 1)), (by first | rfl | (simp; done) | (simp [*]; done) | (simp [bne, *]; done)), H', ⟨by have := HK1.out; omega⟩, by repeat (first | exact Drawn0.refl _ | apply Drawn0.step)⟩
                    · rw [if_neg c21] at H
                      have c21b0 : ((bt a0 x7_1) == 46) = false := beq_eq_false_iff_ne.mpr c21
                      have c21b1 : ((bt a0 x7_1) != 46) = true := bne_iff_ne.mpr c21
                      by_cases c22 : (bt a0 x7_1) = 45
                      · rw [if_pos c22] at H
                        have c22b0 : ((bt a0 x7_1) == 45) = true := beq_iff_eq.mpr c22
                        have c22b1 : ((bt a0 x7_1) != 45) = false := bne_eq_false_iff_eq.mpr c22
                        clear c22
                        have H' := Aside0.mk H
                        clear H
                        have p5 : 0 ≤ (x7_1 : Int) := of_decide_eq_true (by first | (with_reducible assumption) | assumption)
                        have q5 : x7_1 < (a0.size : Int) := of_decide_eq_true (by first | (with_reducible assumption) | assumption)
                        have hx5 := bt_at a0 x7_1
                        replace p5 := eq_true p5
                        replace q5 := eq_true q5
                        go_wp2
                        go_roundg k1
                        case measure => have := HK1.out; omega
                        case rel => exact ⟨(wrap64 (x7_1 + 1)), (by first | rfl | (simp; done) | (simp [*]; done) | (simp [bne, *]; done)), H', ⟨by have := HK1.out; omega⟩, by repeat (first | exact Drawn0.refl _ | apply Drawn0.step)⟩
                      · rw [if_neg c22] at H
                        have c22b0 : ((bt a0 x7_1) == 45) = false := beq_eq_false_iff_ne.mpr c22
                        have c22b1 : ((bt a0 x7_1) != 45) = true := bne_iff_ne.mpr c22
                        by_cases c23 : (bt a0 x7_1) = 95
                        · rw [if_pos c23] at H
                          have c23b0 : ((bt a0 x7_1) == 95) = true := beq_iff_eq.mpr c23
                          have c23b1 : ((bt a0 x7_1) != 95) = false := bne_eq_false_iff_eq.mpr c23
                          clear c23
                          have H' := Aside0.mk H
                          clear H
                          have p5 : 0 ≤ (x7_1 : Int) := of_decide_eq_true (by first | (with_reducible assumption) | assumption)
                          have q5 : x7_1 < (a0.size : Int) := of_decide_eq_true (by first | (with_reducible assumption) | assumption)
                          have hx5 := bt_at a0 x7_1
                          replace p5 := eq_true p5
                          replace q5 := eq_true q5
                          go_wp2
                          go_roundg k1
                          case measure => have := HK1.out; omega
                          case rel => exact ⟨(wrap64 (x7_1 + 1)), (by first | rfl | (simp; done) | (simp [*]; done) | (simp [bne, *]; done)), H', ⟨by have := HK1.out; omega⟩, by repeat (first | exact Drawn0.refl _ | apply Drawn0.step)⟩
                        · rw [if_neg c23] at H
                          have c23b0 : ((bt a0 x7_1) == 95) = false := beq_eq_false_iff_ne.mpr c23
                          have c23b1 : ((bt a0 x7_1) != 95) = true := bne_iff_ne.mpr c23
                          obtain rfl := Option.some.inj H
                          have p5 : 0 ≤ (x7_1 : Int) := of_decide_eq_true (by first | (with_reducible assumption) | assumption)
                          have q5 : x7_1 < (a0.size : Int) := of_decide_eq_true (by first | (with_reducible assumption) | assumption)
                          have hx5 := bt_at a0 x7_1
                          replace p5 := eq_true p5
                          replace q5 := eq_true q5
                          go_wp2
                          go_ret
                          exact ⟨by first | rfl | (simp; done) | (simp [*]; done), by repeat (first | exact Drawn0.refl _ | apply Drawn0.step)⟩
                  · rw [if_neg c20] at H
                    have c20b0 : decide (57 < (bt a0 x7_1)) = false := decide_eq_false c20
                    clear c20
                    have H' := Aside0.mk H
                    clear H
                    have p5 : 0 ≤ (x7_1 : Int) := of_decide_eq_true (by first | (with_reducible assumption) | assumption)
                    have q5 : x7_1 < (a0.size : Int) := of_decide_eq_true (by first | (with_reducible assumption) | assumption)
                    have hx5 := bt_at a0 x7_1
                    replace p5 := eq_true p5
                    replace q5 := eq_true q5
                    go_wp2
                    go_roundg k1
                    case measure => have := HK1.out; omega
                    case rel => exact ⟨(wrap64 (x7_1 + 1)), (by first | rfl | (simp; done) | (simp [*]; done) | (simp [bne, *]; done)), H', ⟨by have := HK1.out; omega⟩, by repeat (first | exact Drawn0.refl _ | apply Drawn0.step)⟩
              · rw [if_neg c15] at H
                have c15b0 : decide (122 < (bt a0 x7_1)) = false := decide_eq_false c15
                clear c15
                have H' := Aside0.mk H
                clear H
                have p5 : 0 ≤ (x7_1 : Int) := of_decide_eq_true (by first | (with_reducible assumption) | assumption)
                have q5 : x7_1 < (a0.size : Int) := of_decide_eq_true (by first | (with_reducible assumption) | assumption)
                have hx5 := bt_at a0 x7_1
                replace p5 := eq_true p5
                replace q5 := eq_true q5
                go_wp2
                go_roundg k1
                case measure => have := HK1.out; omega
                case rel => exact ⟨(wrap64 (x7_1 + 1)), (by first | rfl | (simp; done) | (simp [*]; done) | (simp [bne, *]; done)), H', ⟨by have := HK1.out; omega⟩, by repeat (first | exact Drawn0.refl _ | apply Drawn0.step)⟩
          · rw [if_neg c4] at H
            exact absurd H (by simp)
        · rw [if_neg c3] at H
          exact absurd H (by simp)
      · rw [if_neg c2] at H
        have c2b0 : decide (x7_1 < (a0.size : Int)) = false := decide_eq_false c2
        clear c2
        by_cases c24 : (a0.size : Int) ≥ 1
        · rw [if_pos c24] at H
          have c24b0 : decide (1 ≤ (a0.size : Int)) = true := decide_eq_true c24
          have c24b1 : decide (1 ≤ a0.size) = true := decide_eq_true (by omega)
          clear c24
          obtain rfl := Option.some.inj H
          go_wp2
          go_ret
          exact ⟨by first | rfl | (simp; done) | (simp [*]; done), by repeat (first | exact Drawn0.refl _ | apply Drawn0.step)⟩
        · rw [if_neg c24] at H
          have c24b0 : decide (1 ≤ (a0.size : Int)) = false := decide_eq_false c24
          have c24b1 : decide (1 ≤ a0.size) = false := decide_eq_false (by omega)
          clear c24
          obtain rfl := Option.some.inj H
          go_wp2
          go_ret
          exact ⟨by first | rfl | (simp; done) | (simp [*]; done), by repeat (first | exact Drawn0.refl _ | apply Drawn0.step)⟩

/-- THE ONE PURE STATEMENT of disk_isName: yours. -/
def disk_isName.Pure : Prop := ∀ (a0 : ByteArray), a0.size ≤ 140737488351232 → ∃ k, disk_isName.f k a0 = some true
theorem disk_isName.walk (P : disk_isName.Pure) (a0 : ByteArray) (w : World) (w0 : a0.size ≤ 140737488351232) :
    Calls Tryd.prog 44 #[.string a0] w fun e w' => e = .returned (.bool true) ∧ Below w.heap.size w w' := by
  obtain ⟨k, h⟩ := P a0 w0
  refine (disk_isName.calls k a0 true w h).mono ?_
  rintro e w' ⟨rfl, hd⟩
  exact ⟨rfl, hd.below⟩

end Go.Proofs.YtkfehogefclhdaaDoor.PNm

/- What a disk is in memory: its struct, its map of files, its files, its plan; and what other memory keeps. -/
namespace Go.Proofs.YtkfehogefclhdaaDoor.Dk
open Go.RowKit Go.Maps Go.Proofs.YtkfehogefclhdaaDoorW.PrintWords
open Go.Maps (Keyed)

theorem law9 : Keyed Tryd.prog 9 := string_keyed Tryd.underlying9
/-- How a pointer to a file reads: by its block. -/
def rp : Value → Option (DataW Unit × List MemPlace)
  | .pointer none => some (.lit (.int .i64 (-1)), [])
  | .pointer (some ⟨b, 0, none⟩) => some (.lit (.int .i64 b), [])
  | _ => none
def dat : Option Nat → DataW Unit
  | none => .lit (.int .i64 (-1))
  | some b => .lit (.int .i64 b)
def ptr : Option Nat → Value
  | none => .pointer none
  | some b => .pointer (some ⟨b, 0, none⟩)
theorem rp_ptr (o : Option Nat) : rp (ptr o) = some (dat o, []) := by cases o <;> rfl
theorem dat_inj {a b : Option Nat} (h : dat a = dat b) : a = b := by
  cases a <;> cases b <;> simp [dat] at h ⊢ <;> first | omega | exact h
theorem rp_inv {v : Value} {y : DataW Unit × List MemPlace} (h : rp v = some y) : ∃ o, v = ptr o ∧ y = (dat o, []) := by
  unfold rp at h
  split at h
  · cases h; exact ⟨none, rfl, rfl⟩
  · cases h; exact ⟨some _, rfl, rfl⟩
  · cases h

/-- A file: its name, the block it lies in, its bytes, how many of them are durable. -/
structure Fil where
  name : ByteArray
  blk : Nat
  bytes : ByteArray
  dur : Nat
structure St where
  quota : Int
  run : Bool
  steps : Int
  plan : List (Int × Int × Int)
  since : Int
  fs : List Fil

def look (fs : List Fil) (s : ByteArray) : Option Fil := fs.find? (fun f => decide (f.name = s))
def kl (s : ByteArray) : Lit := .string s.data.toList
def MapIs (w : World) (m n : Nat) (fs : List Fil) : Prop :=
  ∃ D, w.ownsMap Tryd.prog 9 rp m n D ∧ (∀ s, D.atKey (kl s) (dat none) = dat ((look fs s).map Fil.blk)) ∧ ∀ s, has D (kl s) = (look fs s).isSome

def PlanIs (w : World) (F : Nat → Prop) (v : Value) (l : List (Int × Int × Int)) : Prop :=
  ∃ A c, v = .slice A l.length c ∧ l.length ≤ c ∧ c ≤ 9223372036854775807 ∧
    ∀ (i : Nat) (x : Int × Int × Int), l[i]? = some x → ∃ g o, A = some ⟨g, o, none⟩ ∧ F g ∧ (∃ cs, w.heap[g]? = some (.cells cs 32 (0, 0))) ∧ w.cell? ⟨g, o + i * 3, none⟩ = some (.int .i64 x.1) ∧ w.cell? ⟨g, o + i * 3 + 1, none⟩ = some (.int .i64 x.2.1) ∧ w.cell? ⟨g, o + i * 3 + 2, none⟩ = some (.int .i64 x.2.2)

def cellsOf (s : St) (m : Nat) (pv : Value) : Array Value := #[.int .i64 s.quota, .map (some m), .bool s.run, .int .i64 s.steps, pv, .int .i64 s.since]
def used (fs : List Fil) : Nat := (fs.map fun f => f.bytes.size).sum

/-- The disk at block p: its memory lies in blocks of F. -/
structure Is (N : Nat) (w : World) (p : Nat) (F : Nat → Prop) (s : St) (m : Nat) (pv : Value) : Prop where
  top : w.heap[p]? = some (.cells (cellsOf s m pv) 77 (0, 0))
  files : MapIs w m N s.fs
  plan : PlanIs w F pv s.plan
  each : ∀ f ∈ s.fs, w.heap[f.blk]? = some (.cells #[.string f.bytes, .int .i64 f.dur] 81 (0, 0))
  names : s.fs.Pairwise (fun f g => f.name ≠ g.name)
  blks : s.fs.Pairwise (fun f g => f.blk ≠ g.blk)
  durs : ∀ f ∈ s.fs, f.dur ≤ f.bytes.size
  room : (used s.fs : Int) ≤ s.quota
  quo : s.quota ≤ 1048576
  inP : F p
  inM : F m
  inF : ∀ f ∈ s.fs, F f.blk
  low : ∀ i, F i → i < w.heap.size

/-- All memory but that of F is as it was. -/
structure Fr (F : Nat → Prop) (w w' : World) : Prop where
  os : w'.os = w.os
  tape : w'.tape = w.tape
  output : w'.output = w.output
  size : w.heap.size ≤ w'.heap.size
  block : ∀ k, k < w.heap.size → ¬ F k → w'.heap[k]? = w.heap[k]?
theorem Fr.refl (F : Nat → Prop) (w : World) : Fr F w w := ⟨rfl, rfl, rfl, Nat.le_refl _, fun _ _ _ => rfl⟩
/-- The new memory's blocks: the old ones, or new. -/
def Sub (w : World) (F F' : Nat → Prop) : Prop := ∀ i, F' i → F i ∨ w.heap.size ≤ i
theorem Sub.refl (w : World) (F : Nat → Prop) : Sub w F F := fun _ h => .inl h
theorem Sub.trans {w w1 : World} {F F1 F2 : Nat → Prop} (h : Sub w F F1) (hs : w.heap.size ≤ w1.heap.size) (k : Sub w1 F1 F2) : Sub w F F2 := fun i hi => by
  rcases k i hi with h1 | h1
  · exact h i h1
  · exact .inr (Nat.le_trans hs h1)
theorem Fr.trans {w w1 w2 : World} {F F1 : Nat → Prop} (h : Fr F w w1) (hs : Sub w F F1) (k : Fr F1 w1 w2) : Fr F w w2 :=
  ⟨k.os.trans h.os, k.tape.trans h.tape, k.output.trans h.output, Nat.le_trans h.size k.size, fun i hi hn => (k.block i (Nat.lt_of_lt_of_le hi h.size) (fun e => by
    rcases hs i e with h1 | h1
    · exact hn h1
    · omega)).trans (h.block i hi hn)⟩
theorem Fr.of_below {w w' : World} (h : Below w.heap.size w w') (F : Nat → Prop) : Fr F w w' := ⟨h.os, h.tape, h.output, h.size, fun k hk _ => h.block k hk⟩
theorem Fr.below {w w' : World} {F : Nat → Prop} {B : Nat} (h : Fr F w w') (hF : ∀ i, F i → B ≤ i) (hB : B ≤ w.heap.size) : Below B w w' :=
  ⟨h.os, h.tape, h.output, h.size, fun k hk => h.block k (by omega) (fun e => by have := hF k e; omega)⟩
theorem Fr.wide {w w' : World} {F F' : Nat → Prop} (h : Fr F w w') (hs : ∀ i, i < w.heap.size → F i → F' i) : Fr F' w w' := ⟨h.os, h.tape, h.output, h.size, fun k hk hn => h.block k hk (fun e => hn (hs k hk e))⟩

theorem cell_of {w : World} {a : Addr} {v : Value} {w' : World} (hc : w.cell? a = some v) (h : w'.heap[a.block]? = w.heap[a.block]?) : w'.cell? a = some v := by
  rw [← hc]; unfold World.cell?; rw [h]
/-- The disk stays what it is where its memory does. -/
theorem MapIs.kept {w w' : World} {m n : Nat} {fs : List Fil} (h : MapIs w m n fs) (hm : w'.heap[m]? = w.heap[m]?) : MapIs w' m n fs := by
  obtain ⟨D, ⟨es, clock, hb, rest⟩, h2, h3⟩ := h
  exact ⟨D, ⟨es, clock, hm.trans hb, rest⟩, h2, h3⟩
theorem PlanIs.kept {w w' : World} {F : Nat → Prop} {v : Value} {l : List (Int × Int × Int)} (h : PlanIs w F v l) (hm : ∀ i, F i → w'.heap[i]? = w.heap[i]?) : PlanIs w' F v l := by
  obtain ⟨A, c, e, h1, h2, h3⟩ := h
  refine ⟨A, c, e, h1, h2, fun i x hx => ?_⟩
  obtain ⟨g, o, ha, hg, ⟨cs, c0⟩, c1, c2, c3⟩ := h3 i x hx
  exact ⟨g, o, ha, hg, ⟨cs, (hm g hg).trans c0⟩, cell_of c1 (hm g hg), cell_of c2 (hm g hg), cell_of c3 (hm g hg)⟩
theorem PlanIs.wide {w : World} {F F' : Nat → Prop} {v : Value} {l : List (Int × Int × Int)} (h : PlanIs w F v l) (hm : ∀ i, F i → F' i) : PlanIs w F' v l := by
  obtain ⟨A, c, e, h1, h2, h3⟩ := h
  refine ⟨A, c, e, h1, h2, fun i x hx => ?_⟩
  obtain ⟨g, o, ha, hg, c0, c1, c2, c3⟩ := h3 i x hx
  exact ⟨g, o, ha, hm g hg, c0, c1, c2, c3⟩
theorem Is.kept {N : Nat} {w w' : World} {p : Nat} {F : Nat → Prop} {s : St} {m : Nat} {pv : Value} (h : Is N w p F s m pv) (hm : ∀ i, F i → w'.heap[i]? = w.heap[i]?) (hs : w.heap.size ≤ w'.heap.size) : Is N w' p F s m pv where
  top := (hm p h.inP).trans h.top
  files := h.files.kept (hm m h.inM)
  plan := h.plan.kept hm
  each := fun f hf => (hm _ (h.inF f hf)).trans (h.each f hf)
  names := h.names
  blks := h.blks
  durs := h.durs
  room := h.room
  quo := h.quo
  inP := h.inP
  inM := h.inM
  inF := h.inF
  low := fun i hi => Nat.lt_of_lt_of_le (h.low i hi) hs
theorem Is.below {N : Nat} {w w' : World} {p : Nat} {F : Nat → Prop} {s : St} {m : Nat} {pv : Value} (h : Is N w p F s m pv) (hb : Below w.heap.size w w') : Is N w' p F s m pv :=
  h.kept (fun i hi => hb.block i (h.low i hi)) hb.size
theorem Is.fr {N : Nat} {w w' : World} {p : Nat} {F G : Nat → Prop} {s : St} {m : Nat} {pv : Value} (h : Is N w p F s m pv) (hb : Fr G w w') (hG : ∀ i, F i → ¬ G i) : Is N w' p F s m pv :=
  h.kept (fun i hi => hb.block i (h.low i hi) (hG i hi)) hb.size
theorem Is.ne {N : Nat} {w : World} {p : Nat} {F : Nat → Prop} {s : St} {m : Nat} {pv : Value} (h : Is N w p F s m pv) : p ≠ m := by
  obtain ⟨D, ⟨es, clock, hb, _⟩, _⟩ := h.files
  intro e; have t := h.top; rw [e, hb] at t; cases t
theorem Is.cells {N : Nat} {w : World} {p : Nat} {F : Nat → Prop} {s : St} {m : Nat} {pv : Value} (h : Is N w p F s m pv) :
    w.cell? ⟨p, 0, none⟩ = some (.int .i64 s.quota) ∧ w.cell? ⟨p, 1, none⟩ = some (.map (some m)) ∧ w.cell? ⟨p, 2, none⟩ = some (.bool s.run) ∧ w.cell? ⟨p, 3, none⟩ = some (.int .i64 s.steps) ∧ w.cell? ⟨p, 4, none⟩ = some pv ∧ w.cell? ⟨p, 5, none⟩ = some (.int .i64 s.since) :=
  ⟨blk_cell h.top 0, blk_cell h.top 1, blk_cell h.top 2, blk_cell h.top 3, blk_cell h.top 4, blk_cell h.top 5⟩
theorem Is.thaw {N : Nat} {w : World} {p : Nat} {F : Nat → Prop} {s : St} {m : Nat} {pv : Value} (h : Is N w p F s m pv) (i : Nat) : w.frozen? ⟨p, i, none⟩ = false := blk_frozen h.top i
end Go.Proofs.YtkfehogefclhdaaDoor.Dk

/- The disk's small methods, each by its contract. -/
namespace Go.Proofs.YtkfehogefclhdaaDoor.Dk
open Go.RowKit Go.Maps Go.Proofs.YtkfehogefclhdaaDoorW.PrintWords
open Go.Maps (Keyed)
variable {N : Nat} {w : World} {p : Nat} {F : Nat → Prop} {s : St} {m : Nat} {pv : Value}

theorem not_run (x : Bool) (w : World) : (Op.unary .not (.bool x)).run Tryd.prog w = .ok (.bool (!x)) w := rfl
theorem zero79 (w : World) : (zeroValue 79).run Tryd.prog w = .ok (.pointer none) w := by kernel_rfl
theorem key_of {x : ByteArray} (hx : x.size ≤ maxLen) : keyOf Tryd.prog 9 (.string x) = some (kl x) := WideMaps.keyOf_string_mk Tryd.underlying9 hx
def at' (fs : List Fil) (x : ByteArray) : Option Nat := (look fs x).map Fil.blk
theorem look_run {fs : List Fil} {n : Nat} (h : MapIs w m n fs) {x : ByteArray} (hx : x.size ≤ maxLen) : (Instr.lookup 75 (.map (some m)) (.string x) false).run Tryd.prog w = .ok (ptr (at' fs x)) w := by
  obtain ⟨D, ho, h2, _⟩ := h
  obtain ⟨v, ps, hrun, hv⟩ := ho.lookup (zd := dat none) (zp := []) law9 Tryd.underlying75 (zero79 w) rfl (key_of hx)
  obtain ⟨o, rfl, ho2⟩ := rp_inv hv
  simp only [Prod.mk.injEq] at ho2
  rw [h2] at ho2
  rw [hrun, ← dat_inj ho2.1]; rfl

set_option maxRecDepth 100000 in
theorem none_ok (h : Is N w p F s m pv) : Calls Tryd.prog 50 #[.pointer (some ⟨p, 0, none⟩)] w fun e w' => e = .returned (.bool false) ∧ w' = w := by
  obtain ⟨c0, c1, c2, c3, c4, c5⟩ := h.cells
  have hmn := fun w => run_eql_map_nil (P := Tryd.prog) w 75 9 79 (some m) Tryd.underlying75
  clear h
  go_enter Tryd.func50, Tryd.ntmps50
  go_wp2
  go_ret
  exact ⟨rfl, rfl⟩
set_option maxRecDepth 100000 in
theorem down_ok (h : Is N w p F s m pv) : Calls Tryd.prog 18 #[.pointer (some ⟨p, 0, none⟩)] w fun e w' => e = .returned (.bool (!s.run)) ∧ w' = w := by
  obtain ⟨c0, c1, c2, c3, c4, c5⟩ := h.cells
  have hnot := not_run
  go_enter Tryd.func18, Tryd.ntmps18
  go_wp2_with (go_at_call 50; refine (none_ok h).mono ?_; rintro e w' ⟨rfl, rfl⟩)
  go_ret
  exact ⟨rfl, rfl⟩
set_option maxRecDepth 100000 in
theorem quota_ok (h : Is N w p F s m pv) : Calls Tryd.prog 22 #[.pointer (some ⟨p, 0, none⟩)] w fun e w' => e = .returned (.int .i64 s.quota) ∧ w' = w := by
  obtain ⟨c0, c1, c2, c3, c4, c5⟩ := h.cells
  go_enter Tryd.func22, Tryd.ntmps22
  go_wp2_with (go_at_call 50; refine (none_ok h).mono ?_; rintro e w' ⟨rfl, rfl⟩)
  go_ret
  exact ⟨rfl, rfl⟩
set_option maxRecDepth 100000 in
theorem steps_ok (h : Is N w p F s m pv) : Calls Tryd.prog 24 #[.pointer (some ⟨p, 0, none⟩)] w fun e w' => e = .returned (.int .i64 s.steps) ∧ w' = w := by
  obtain ⟨c0, c1, c2, c3, c4, c5⟩ := h.cells
  go_enter Tryd.func24, Tryd.ntmps24
  go_wp2_with (go_at_call 50; refine (none_ok h).mono ?_; rintro e w' ⟨rfl, rfl⟩)
  go_ret
  exact ⟨rfl, rfl⟩
theorem look_mem {fs : List Fil} {x : ByteArray} {f : Fil} (h : look fs x = some f) : f ∈ fs ∧ f.name = x := by
  have h2 := List.find?_some h
  exact ⟨List.mem_of_find?_eq_some h, by simpa using h2⟩
set_option maxRecDepth 100000 in
theorem size_none (h : Is N w p F s m pv) (x : ByteArray) (hx : x.size ≤ maxLen) (hl : look s.fs x = none) : Calls Tryd.prog 21 #[.pointer (some ⟨p, 0, none⟩), .string x] w fun e w' => e = .returned (.int .i64 (-1)) ∧ w' = w := by
  obtain ⟨c0, c1, c2, c3, c4, c5⟩ := h.cells
  have hk := look_run h.files hx
  unfold at' at hk; rw [hl] at hk; simp only [Option.map_none, ptr] at hk
  go_enter Tryd.func21, Tryd.ntmps21
  go_wp2_with (go_at_call 50; refine (none_ok h).mono ?_; rintro e w' ⟨rfl, rfl⟩)
  go_ret
  exact ⟨rfl, rfl⟩
set_option maxRecDepth 100000 in
theorem size_some (h : Is N w p F s m pv) (x : ByteArray) (hx : x.size ≤ maxLen) {f : Fil} (hl : look s.fs x = some f) : Calls Tryd.prog 21 #[.pointer (some ⟨p, 0, none⟩), .string x] w fun e w' => e = .returned (.int .i64 f.bytes.size) ∧ w' = w := by
  obtain ⟨c0, c1, c2, c3, c4, c5⟩ := h.cells
  have hk := look_run h.files hx
  unfold at' at hk; rw [hl] at hk; simp only [Option.map_some, ptr] at hk
  have b0 := blk_cell (h.each f (look_mem hl).1) 0
  simp only [List.getElem?_toArray, List.getElem?_cons_zero] at b0
  go_enter Tryd.func21, Tryd.ntmps21
  go_wp2_with (go_at_call 50; refine (none_ok h).mono ?_; rintro e w' ⟨rfl, rfl⟩)
  go_ret
  exact ⟨rfl, rfl⟩
/-- Start's disk. -/
def St.start (s : St) : St := { s with run := true, since := if s.run then s.since else 0 }
theorem Is.set (h : Is N w p F s m pv) (s' : St) (w' : World) (e1 : s'.quota = s.quota) (e2 : s'.plan = s.plan) (e3 : s'.fs = s.fs) (ht : w'.heap[p]? = some (.cells (cellsOf s' m pv) 77 (0, 0))) (hk : ∀ i, F i → i ≠ p → w'.heap[i]? = w.heap[i]?) (hs : w.heap.size ≤ w'.heap.size) : Is N w' p F s' m pv where
  top := ht
  files := by rw [e3]; exact h.files.kept (hk m h.inM (Ne.symm h.ne))
  plan := by
    rw [e2]
    obtain ⟨A, c, e, h1, h2, h3⟩ := h.plan
    refine ⟨A, c, e, h1, h2, fun i x hx => ?_⟩
    obtain ⟨g, o, ha, hg, ⟨cs, k0⟩, k1, k2, k3⟩ := h3 i x hx
    have hgp : g ≠ p := fun e => by rw [e] at k0; have := h.top.symm.trans k0; simp at this
    exact ⟨g, o, ha, hg, ⟨cs, (hk g hg hgp).trans k0⟩, cell_of k1 (hk g hg hgp), cell_of k2 (hk g hg hgp), cell_of k3 (hk g hg hgp)⟩
  each := fun f hf => by
    rw [e3] at hf
    have t := h.each f hf
    have hne : f.blk ≠ p := fun e => by rw [e] at t; have := h.top.symm.trans t; simp at this
    exact (hk _ (h.inF f hf) hne).trans t
  names := by rw [e3]; exact h.names
  blks := by rw [e3]; exact h.blks
  durs := by rw [e3]; exact h.durs
  room := by rw [e3, e1]; exact h.room
  quo := by rw [e1]; exact h.quo
  inP := h.inP
  inM := h.inM
  inF := by rw [e3]; exact h.inF
  low := fun i hi => Nat.lt_of_lt_of_le (h.low i hi) hs
end Go.Proofs.YtkfehogefclhdaaDoor.Dk

/- The disk's errors: what they are in memory; what errors.Is says of them. -/
namespace Go.Proofs.YtkfehogefclhdaaDoor.Dk
open Go.RowKit Go.Maps Go.Proofs.YtkfehogefclhdaaDoorW.PrintWords Go.Extern.Stop Go.Stop Go.Extern
variable {N : Nat} {w : World} {p : Nat} {F : Nat → Prop} {s : St} {m : Nat} {pv : Value}

/-- The five sentinels, below block B. -/
structure Sens (w : World) (B : Nat) (a0 a1 a2 a3 a4 : Addr) : Prop where
  c0 : w.cell? ⟨0, 0, none⟩ = some (.iface 179 (.pointer (some a0)))
  c1 : w.cell? ⟨1, 0, none⟩ = some (.iface 179 (.pointer (some a1)))
  c2 : w.cell? ⟨2, 0, none⟩ = some (.iface 179 (.pointer (some a2)))
  c3 : w.cell? ⟨3, 0, none⟩ = some (.iface 179 (.pointer (some a3)))
  c4 : w.cell? ⟨4, 0, none⟩ = some (.iface 179 (.pointer (some a4)))
  n1 : a1 ≠ a0
  n2 : a2 ≠ a0
  n3 : a3 ≠ a0
  n4 : a4 ≠ a0
  r : ∀ a, a = a0 ∨ a = a1 ∨ a = a2 ∨ a = a3 ∨ a = a4 → a.block < B ∧ ∃ c t, w.heap[a.block]? = some (.cells c t (0, 0))
  hB : 5 ≤ B
variable {B : Nat} {a0 a1 a2 a3 a4 : Addr}
theorem Sens.below {w' : World} (h : Sens w B a0 a1 a2 a3 a4) (hb : Below B w w') : Sens w' B a0 a1 a2 a3 a4 where
  c0 := cell_of h.c0 (hb.block _ (by have := h.hB; show 0 < B; omega))
  c1 := cell_of h.c1 (hb.block _ (by have := h.hB; show 1 < B; omega))
  c2 := cell_of h.c2 (hb.block _ (by have := h.hB; show 2 < B; omega))
  c3 := cell_of h.c3 (hb.block _ (by have := h.hB; show 3 < B; omega))
  c4 := cell_of h.c4 (hb.block _ (by have := h.hB; show 4 < B; omega))
  n1 := h.n1
  n2 := h.n2
  n3 := h.n3
  n4 := h.n4
  r := fun a ha => by
    obtain ⟨h1, c, t, h2⟩ := h.r a ha
    exact ⟨h1, c, t, (hb.block _ h1).trans h2⟩
  hB := h.hB
/-- The reason that goes with a code. -/
def why (a0 a1 a2 a3 a4 : Addr) (c : Int) : Addr := if c = 90 then a1 else if c = 91 then a3 else if c = 92 then a4 else if c = 93 then a0 else a2
set_option maxRecDepth 100000 in
theorem reason_ok (h : Sens w B a0 a1 a2 a3 a4) (c : Int) : Calls Tryd.prog 98 #[.int .i64 c] w fun e w' => e = .returned (.iface 179 (.pointer (some (why a0 a1 a2 a3 a4 c)))) ∧ w' = w := by
  obtain ⟨c0, c1, c2, c3, c4, _, _, _, _, _, _⟩ := h
  obtain ⟨y, hy⟩ : ∃ y, why a0 a1 a2 a3 a4 c = y := ⟨_, rfl⟩
  rw [hy]
  have HY : Hid (why a0 a1 a2 a3 a4 c = y) := hy
  clear hy
  go_enter Tryd.func98, Tryd.ntmps98
  go_wp2
  all_goals (go_ret; refine ⟨?_, rfl⟩; rw [← HY.out]; clear HY; simp only [beq_iff_eq, beq_eq_false_iff_ne, ne_eq] at *; simp [why, *])
/-- An error of the disk, with its reason. -/
def IsErr (w : World) (v : Value) (a : Addr) : Prop := ∃ q c0 c1 c2 c3, v = .iface 72 (.pointer (some ⟨q, 0, none⟩)) ∧ w.heap[q]? = some (.cells #[c0, c1, c2, c3, .iface 179 (.pointer (some a))] 74 (0, 0))
set_option maxRecDepth 100000 in
theorem fail_ok (h : Sens w B a0 a1 a2 a3 a4) (op name : ByteArray) (st c : Int) : Calls Tryd.prog 77 #[.string op, .string name, .int .i64 st, .int .i64 c] w fun e w' =>
    ∃ v, e = .returned v ∧ IsErr w' v (why a0 a1 a2 a3 a4 c) ∧ Below w.heap.size w w' := by
  go_enter Tryd.func77, Tryd.ntmps77
  go_wp2_with (go_at_call 98; refine (reason_ok h c).mono ?_; rintro e w' ⟨rfl, rfl⟩)
  go_ret
  exact ⟨_, rfl, ⟨_, _, _, _, _, rfl, blk_new _ _⟩, (Below.refl _ _).alloc (Nat.le_refl _) _⟩
theorem isTypeOf (v : Value) (w : World) : (Extern.ReflectliteType.typeOf #[.iface 179 v]).run Tryd.prog w = .ok (.iface 107 (.agg #[.pointer (some ⟨11, 179, none⟩)])) w := by kernel_rfl
def cmpX : Array Value → Sem Value := Extern.ReflectliteType.method fun t => do Go.Extern.Rtype.noPackHeld "Comparable" t; pure (.bool (← typeInfo t).comparable)
theorem isComparable (w : World) : (cmpX #[.agg #[.pointer (some ⟨11, 179, none⟩)]]).run Tryd.prog w = .ok (.bool true) w := by kernel_rfl
theorem isMethodComparable (v : Value) (w : World) : (Go.method 315 107 v "Comparable").run Tryd.prog w = .ok (175, v) w := by kernel_rfl
theorem isComp : (Tryd.prog.info? 179).map (·.comparable) = some true := by kernel_rfl
theorem isSize : (Tryd.prog.info? 181).map (·.size) = some 1 := by kernel_rfl
theorem noIsE (v : Value) (xT : TypeId) (w : World) : (Instr.typeAssert (.iface 179 v) xT 109 true).run Tryd.prog w = .ok (.tuple #[.nilIface, .bool false]) w := run_typeAssert_lacksB Tryd.underlying109 (by kernel_rfl) (by kernel_rfl) v xT w
theorem noUnwrapE (v : Value) (xT : TypeId) (w : World) : (Instr.typeAssert (.iface 179 v) xT 112 true).run Tryd.prog w = .ok (.tuple #[.nilIface, .bool false]) w := run_typeAssert_lacksB Tryd.underlying112 (by kernel_rfl) (by kernel_rfl) v xT w
theorem noUnwrapsE (v : Value) (xT : TypeId) (w : World) : (Instr.typeAssert (.iface 179 v) xT 114 true).run Tryd.prog w = .ok (.tuple #[.nilIface, .bool false]) w := run_typeAssert_lacksB Tryd.underlying114 (by kernel_rfl) (by kernel_rfl) v xT w
theorem noIsW (v : Value) (xT : TypeId) (w : World) : (Instr.typeAssert (.iface 72 v) xT 109 true).run Tryd.prog w = .ok (.tuple #[.nilIface, .bool false]) w := run_typeAssert_lacksB Tryd.underlying109 (by kernel_rfl) (by kernel_rfl) v xT w
theorem hasUnwrapW (v : Value) (xT : TypeId) (w : World) : (Instr.typeAssert (.iface 72 v) xT 112 true).run Tryd.prog w = .ok (.tuple #[.iface 72 v, .bool true]) w := run_typeAssert_hasB Tryd.underlying112 (by kernel_rfl) v xT w
theorem methodUnwrap (v : Value) (w : World) : (Go.method 315 72 v "Unwrap").run Tryd.prog w = .ok (171, v) w := by kernel_rfl
set_option maxRecDepth 100000 in
/-- A nil error is no error. -/
theorem is_nil (a : Addr) (w : World) : Calls Tryd.prog 17 #[.nilIface, .iface 179 (.pointer (some a))] w fun e w' => e = .returned (.bool false) ∧ w' = w := by
  have hn := run_eql_iface_nil_left (P := Tryd.prog) w 179 (.pointer (some a)) Tryd.underlying25
  go_enter Tryd.func17, Tryd.ntmps17
  go_wp2
  go_ret
  exact ⟨rfl, rfl⟩
set_option maxRecDepth 100000 in
theorem unwrap_ok {q : Nat} {x0 x1 x2 x3 : Value} {a : Addr} (h : w.heap[q]? = some (.cells #[x0, x1, x2, x3, .iface 179 (.pointer (some a))] 74 (0, 0))) :
    Calls Tryd.prog 171 #[.pointer (some ⟨q, 0, none⟩)] w fun e w' => e = .returned (.iface 179 (.pointer (some a))) ∧ w' = w := by
  have c4 := blk_cell h 4
  simp only [List.getElem?_toArray, List.getElem?_cons_zero, List.getElem?_cons_succ] at c4
  go_enter Tryd.func171, Tryd.ntmps171
  go_wp2
  go_ret
  exact ⟨rfl, rfl⟩
set_option maxRecDepth 100000 in
/-- A disk's error is its reason. -/
theorem is_same {v : Value} {a : Addr} (h : IsErr w v a) : Calls Tryd.prog 17 #[v, .iface 179 (.pointer (some a))] w fun e w' => e = .returned (.bool true) ∧ w' = w := by
  obtain ⟨q, x0, x1, x2, x3, rfl, hq⟩ := h
  obtain ⟨i, hi, hcmp⟩ := Option.map_eq_some_iff.1 isComp
  obtain ⟨j, hj, hjs⟩ := Option.map_eq_some_iff.1 isSize
  have h8 := @run_callFunc_extern Tryd.prog 56 _ Extern.ReflectliteType.typeOf Tryd.func56 (by kernel_rfl) (by kernel_rfl) (by kernel_rfl) (by kernel_rfl)
  have h32 := @run_callFunc_extern Tryd.prog 175 _ cmpX Tryd.func175 (by kernel_rfl) (by kernel_rfl) (by kernel_rfl) (by kernel_rfl)
  have tT := isTypeOf
  have cT := isComparable
  have mR := isMethodComparable
  have nE := noIsE
  have uE := noUnwrapE
  have vE := noUnwrapsE
  have nW := noIsW
  have uW := hasUnwrapW
  have mU := methodUnwrap
  have heq := run_eql_iface_ptr_same (P := Tryd.prog) w a Tryd.underlying25 Tryd.underlying179 hi hcmp hj
  have hty := run_eql_iface_types (P := Tryd.prog) 72 179 (.pointer (some ⟨q, 0, none⟩)) (.pointer (some a)) Tryd.underlying25 (by decide) w
  go_enter Tryd.func17, Tryd.ntmps17
  go_wp2_with (first | (go_at_call 171; refine (unwrap_ok hq).mono ?_; rintro e w' ⟨rfl, rfl⟩) | go_in)
  refine wp_loop_rounds 2 ?_
  rw [rounds_succ]
  go_wp2_with (first | (go_at_call 171; refine (unwrap_ok hq).mono ?_; rintro e w' ⟨rfl, rfl⟩) | go_in)
  rw [rounds_succ]
  go_wp2
  go_ret
  exact ⟨rfl, rfl⟩
set_option maxRecDepth 100000 in
/-- .. and no other one. -/
theorem is_other {v : Value} {a b : Addr} (h : IsErr w v a) (hne : a ≠ b) {ca cb : Array Value} {ta tb : TypeId} (ha : w.heap[a.block]? = some (.cells ca ta (0, 0))) (hb : w.heap[b.block]? = some (.cells cb tb (0, 0))) :
    Calls Tryd.prog 17 #[v, .iface 179 (.pointer (some b))] w fun e w' => e = .returned (.bool false) ∧ w' = w := by
  obtain ⟨q, x0, x1, x2, x3, rfl, hq⟩ := h
  obtain ⟨i, hi, hcmp⟩ := Option.map_eq_some_iff.1 isComp
  obtain ⟨j, hj, hjs⟩ := Option.map_eq_some_iff.1 isSize
  have h8 := @run_callFunc_extern Tryd.prog 56 _ Extern.ReflectliteType.typeOf Tryd.func56 (by kernel_rfl) (by kernel_rfl) (by kernel_rfl) (by kernel_rfl)
  have h32 := @run_callFunc_extern Tryd.prog 175 _ cmpX Tryd.func175 (by kernel_rfl) (by kernel_rfl) (by kernel_rfl) (by kernel_rfl)
  have tT := isTypeOf
  have cT := isComparable
  have mR := isMethodComparable
  have nE := noIsE
  have uE := noUnwrapE
  have vE := noUnwrapsE
  have nW := noIsW
  have uW := hasUnwrapW
  have mU := methodUnwrap
  have heq := run_eql_iface_ptr_other (P := Tryd.prog) w Tryd.underlying25 Tryd.underlying179 hi hcmp hj (by rw [hjs]; decide) hne ha hb
  have hty := run_eql_iface_types (P := Tryd.prog) 72 179 (.pointer (some ⟨q, 0, none⟩)) (.pointer (some b)) Tryd.underlying25 (by decide) w
  go_enter Tryd.func17, Tryd.ntmps17
  go_wp2_with (first | (go_at_call 171; refine (unwrap_ok hq).mono ?_; rintro e w' ⟨rfl, rfl⟩) | go_in)
  refine wp_loop_rounds 2 ?_
  rw [rounds_succ]
  go_wp2_with (first | (go_at_call 171; refine (unwrap_ok hq).mono ?_; rintro e w' ⟨rfl, rfl⟩) | go_in)
  rw [rounds_succ]
  go_wp2
  go_ret
  exact ⟨rfl, rfl⟩
end Go.Proofs.YtkfehogefclhdaaDoor.Dk

/- Used, by its contract: the bytes of all files. -/
namespace Go.Proofs.YtkfehogefclhdaaDoor.Dk
open Go.RowKit Go.Maps Go.Proofs.YtkfehogefclhdaaDoorW.PrintWords
variable {N : Nat} {w : World} {p : Nat} {F : Nat → Prop} {s : St} {m : Nat} {pv : Value}

theorem kl_inj {a b : ByteArray} (h : kl a = kl b) : a = b := by
  unfold kl at h
  injection h with h
  cases a; cases b; simp at h
  simp [h]
theorem same_kl (a b : ByteArray) : (kl a).sameKey (kl b) = decide (a = b) := by
  by_cases h : a = b
  · subst h; rw [decide_eq_true rfl]; simp [kl, Lit.sameKey]
  · rw [decide_eq_false h]; exact sameKey_ne (fun e => h (kl_inj e))
theorem strike_kl (left : Lit → Bool) (x y : ByteArray) : (fun z : Lit => left z && !z.sameKey (kl x)) (kl y) = (left (kl y) && !decide (y = x)) := by
  show (left (kl y) && !(kl y).sameKey (kl x)) = _
  rw [same_kl]
theorem key_inv {key : Value} {l : Lit} (h : keyOf Tryd.prog 9 key = some l) : ∃ x, key = .string x := by
  obtain ⟨x, rfl, _⟩ := WideMaps.string_of_keyOf Tryd.underlying9 h
  exact ⟨x, rfl⟩
theorem key_lit {x : ByteArray} {l : Lit} (h : keyOf Tryd.prog 9 (.string x) = some l) : l = kl x ∧ x.size ≤ maxLen := by
  obtain ⟨y, e, e2, h3⟩ := WideMaps.string_of_keyOf Tryd.underlying9 h
  cases e
  exact ⟨e2, h3⟩
/-- The entry that has come is a file of the list. -/
theorem entry_file {fs : List Fil} {D : DataW Unit} (h2 : ∀ s, D.atKey (kl s) (dat none) = dat ((look fs s).map Fil.blk)) (h3 : ∀ s, has D (kl s) = (look fs s).isSome) {x : ByteArray} {c : Option Nat} {y : DataW Unit × List MemPlace} (hv : rp (ptr c) = some y) (hat : ∀ zd, D.atKey (kl x) zd = y.1) :
    ∃ f, look fs x = some f ∧ c = some f.blk := by
  have e : y = (dat c, []) := (Option.some.inj ((rp_ptr c).symm.trans hv)).symm
  subst e
  have h4 := h3 x
  rw [has_true_of_atKey hat] at h4
  obtain ⟨f, hf⟩ := Option.isSome_iff_exists.1 h4.symm
  refine ⟨f, hf, ?_⟩
  have h5 := h2 x
  rw [hat, hf] at h5
  exact dat_inj h5
/-- So many bytes have the files that have come. -/
def sumL (left : Lit → Bool) (fs : List Fil) : Nat := (fs.map fun f => if left (kl f.name) = true then 0 else f.bytes.size).sum
theorem sumL_le (left : Lit → Bool) : ∀ fs : List Fil, sumL left fs ≤ used fs
  | [] => Nat.le_refl _
  | f :: r => by
    have := sumL_le left r
    unfold sumL used at *
    rw [List.map_cons, List.map_cons, List.sum_cons, List.sum_cons]
    split <;> omega
theorem sumL_none {left : Lit → Bool} (h : ∀ l, left l = false) : ∀ fs : List Fil, sumL left fs = used fs
  | [] => rfl
  | f :: r => by
    have := sumL_none h r
    unfold sumL used at *
    rw [List.map_cons, List.map_cons, List.sum_cons, List.sum_cons, this, if_neg (by rw [h]; decide)]
theorem sumL_all {left : Lit → Bool} : ∀ fs : List Fil, (∀ f ∈ fs, left (kl f.name) = true) → sumL left fs = 0
  | [], _ => rfl
  | f :: r, h => by
    have := sumL_all r (fun g hg => h g (List.mem_cons_of_mem _ hg))
    unfold sumL at *
    rw [List.map_cons, List.sum_cons, this, if_pos (h f List.mem_cons_self)]
theorem sumL_far {left : Lit → Bool} {x : ByteArray} : ∀ fs : List Fil, (∀ g ∈ fs, g.name ≠ x) → sumL (fun z => left z && !z.sameKey (kl x)) fs = sumL left fs
  | [], _ => rfl
  | g :: r, h => by
    have := sumL_far (left := left) r (fun g hg => h g (List.mem_cons_of_mem _ hg))
    unfold sumL at *
    rw [List.map_cons, List.map_cons, List.sum_cons, List.sum_cons, this, strike_kl, decide_eq_false (h g List.mem_cons_self), Bool.not_false, Bool.and_true]
theorem sumL_step {left : Lit → Bool} {f : Fil} : ∀ fs : List Fil, fs.Pairwise (fun f g => f.name ≠ g.name) → f ∈ fs → left (kl f.name) = true → sumL (fun z => left z && !z.sameKey (kl f.name)) fs = sumL left fs + f.bytes.size
  | [], _, h, _ => by cases h
  | g :: r, hp, hm, hl => by
    rw [List.pairwise_cons] at hp
    rcases List.mem_cons.1 hm with rfl | hm
    · have := sumL_far (left := left) (x := f.name) r (fun g hg => (hp.1 g hg).symm)
      unfold sumL at *
      rw [List.map_cons, List.map_cons, List.sum_cons, List.sum_cons, this, strike_kl, decide_eq_true rfl, Bool.not_true, Bool.and_false, if_neg (by decide), if_pos hl]
      omega
    · have := sumL_step r hp.2 hm hl
      unfold sumL at *
      rw [List.map_cons, List.map_cons, List.sum_cons, List.sum_cons, this, strike_kl, decide_eq_false (hp.1 f hm), Bool.not_false, Bool.and_true]
      omega
theorem look_has {fs : List Fil} {f : Fil} (h : f ∈ fs) : (look fs f.name).isSome = true := by
  unfold look
  rw [List.find?_isSome]
  exact ⟨f, h, by simp⟩
set_option maxRecDepth 100000 in
set_option maxHeartbeats 1000000 in
theorem used_ok (h : Is N w p F s m pv) : Calls Tryd.prog 38 #[.pointer (some ⟨p, 0, none⟩)] w fun e w' => e = .returned (.int .i64 (used s.fs)) ∧ Below w.heap.size w w' := by
  obtain ⟨c0, c1, c2, c3, c4, c5⟩ := h.cells
  obtain ⟨D, hown, h2, h3⟩ := h.files
  have H2 : Hid _ := h2
  have H3 : Hid _ := h3
  clear h2 h3
  have hq := h.quo
  have hr := h.room
  have hnot := not_run
  go_enter Tryd.func38, Tryd.ntmps38
  go_wp2_with (first
    | (go_at_call 50; refine (none_ok h).mono ?_; rintro e w' ⟨rfl, h'⟩; replace h' := h'.symm; subst h')
    | (at_range; refine wpList_range_own _ rfl _ 75 rfl 9 79 law9 Tryd.underlying75 _ m N D rfl hown ?_; intro w0 hrg0 hg0 hs0))
  go_frame
  go_loopw [3] (fun n wr => ∃ (left : Lit → Bool) (cnt : Nat), wr.ranges Tryd.prog 9 rp m w.heap.size N D left cnt ∧ n = .int .i64 (sumL left s.fs) ∧ Below w.heap.size w wr)
    (fun _ wr => wr.rangeLeft m w.heap.size)
  case atStart =>
    refine ⟨_, _, hrg0, ?_, (Below.refl _ _).grown hg0 (Nat.le_refl _) (fun k hk => by cases hk)⟩
    rw [sumL_all s.fs (fun f hf => by rw [H3.out]; exact look_has hf)]; rfl
  case round =>
    obtain ⟨left, cnt, hrg, rfl, hbw⟩ := hrel
    go_wp2_with (first
      | (at_next; refine wpList_next_ranges _ rfl _ rfl 9 law9 rp Value.string ptr (fun _ _ hk => key_inv hk) (fun _ _ hv => by obtain ⟨o, rfl, _⟩ := rp_inv hv; exact ⟨o, rfl⟩) m w.heap.size N D left cnt rfl hrg ?_ ?_))
    · intro _ hl0
      go_wp2
      go_ret
      exact ⟨by rw [sumL_none hl0]; rfl, hbw⟩
    · intro x c l y ps w1 cnt1 hkey hlx hv hat hrg1 hlt hg1 hs1 hen
      obtain ⟨rfl, _⟩ := key_lit hkey
      obtain ⟨f, hf, rfl⟩ := entry_file H2.out H3.out (y := (y, ps)) hv hat
      have hmem := look_mem hf
      obtain ⟨hm, rfl⟩ := hmem
      have hbw1 := hbw.grown hg1 hbw.size (fun k hk => by cases hk; exact Nat.le_refl _)
      have hst := sumL_step s.fs h.names hm hlx
      have hle := sumL_le (fun z => left z && !z.sameKey (kl f.name)) s.fs
      rw [hst] at hle
      have hc0 := blk_cell ((h.below hbw1).each f hm) 0
      simp only [List.getElem?_toArray, List.getElem?_cons_zero] at hc0
      have HST : Hid _ := hst
      have HAT : Hid _ := hat
      clear hst hat hkey hv hlx hf
      simp only [ptr] at hen
      go_wp2
      go_roundw
      case rel => exact ⟨_, cnt1, hrg1, by rw [HST.out]; simp, hbw1⟩
      case measure => rw [hrg1.left_eq, hrg.left_eq]; exact hlt
end Go.Proofs.YtkfehogefclhdaaDoor.Dk

/- stop, by its contract: of each file the durable bytes are left, and so many of the others. -/
namespace Go.Proofs.YtkfehogefclhdaaDoor.Dk
open Go.RowKit Go.Maps Go.Proofs.YtkfehogefclhdaaDoorW.PrintWords Go.Proofs.YtkfehogefclhdaaDoorW.PrintMore
variable {N : Nat} {w : World} {p : Nat} {F : Nat → Prop} {s : St} {m : Nat} {pv : Value}
attribute [local go_sem] max2_int min2_int max_two min_two

def keepN (r : Int) (f : Fil) : Nat := f.dur + min r.toNat (f.bytes.size - f.dur)
def stopF (r : Int) (f : Fil) : Fil := { f with bytes := f.bytes.extract 0 (keepN r f), dur := keepN r f }
def flL (left : Lit → Bool) (r : Int) (f : Fil) : Fil := if left (kl f.name) = true then f else stopF r f
theorem keepN_le {r : Int} {f : Fil} (h : f.dur ≤ f.bytes.size) : keepN r f ≤ f.bytes.size := by unfold keepN; omega
theorem look_map {g : Fil → Fil} (h : ∀ f, (g f).name = f.name) : ∀ (fs : List Fil) (x : ByteArray), look (fs.map g) x = (look fs x).map g
  | [], _ => rfl
  | f :: r, x => by
    unfold look
    rw [List.map_cons, List.find?_cons, List.find?_cons, h]
    cases decide (f.name = x) with
    | true => rfl
    | false => exact look_map h r x
theorem MapIs.map {n : Nat} {fs : List Fil} (h : MapIs w m n fs) {g : Fil → Fil} (hn : ∀ f, (g f).name = f.name) (hb : ∀ f, (g f).blk = f.blk) : MapIs w m n (fs.map g) := by
  obtain ⟨D, h1, h2, h3⟩ := h
  refine ⟨D, h1, fun x => ?_, fun x => ?_⟩
  · rw [h2, look_map hn, Option.map_map]; congr 1; cases look fs x with
    | none => rfl
    | some f => simp [hb]
  · rw [h3, look_map hn]; cases look fs x <;> rfl
theorem used_map {g : Fil → Fil} : ∀ fs : List Fil, (∀ f ∈ fs, (g f).bytes.size ≤ f.bytes.size) → used (fs.map g) ≤ used fs
  | [], _ => Nat.le_refl _
  | f :: r, h => by
    have := used_map r (fun k hk => h k (List.mem_cons_of_mem _ hk))
    have := h f List.mem_cons_self
    unfold used at *
    rw [List.map_cons, List.map_cons, List.map_cons, List.sum_cons, List.sum_cons]
    omega
def G (fs : List Fil) (i : Nat) : Prop := ∃ f ∈ fs, i = f.blk
theorem Is.types {f : Fil} (h : Is N w p F s m pv) (hf : f ∈ s.fs) : f.blk ≠ p ∧ f.blk ≠ m := by
  have t := h.each f hf
  constructor
  · intro e; rw [e] at t; have := h.top.symm.trans t; simp at this
  · intro e; obtain ⟨D, ⟨es, clock, hb, _⟩, _⟩ := h.files; rw [e, hb] at t; cases t
theorem blk_inj {fs : List Fil} (h : fs.Pairwise (fun f g => f.blk ≠ g.blk)) {f g : Fil} (hf : f ∈ fs) (hg : g ∈ fs) (e : f.blk = g.blk) : f = g := by
  induction fs with
  | nil => cases hf
  | cons a r ih =>
    rw [List.pairwise_cons] at h
    rcases List.mem_cons.1 hf with rfl | hf' <;> rcases List.mem_cons.1 hg with rfl | hg'
    · rfl
    · exact absurd e (h.1 g hg')
    · exact absurd e.symm (h.1 f hf')
    · exact ih h.2 hf' hg'
theorem name_inj {fs : List Fil} (h : fs.Pairwise (fun f g => f.name ≠ g.name)) {f g : Fil} (hf : f ∈ fs) (hg : g ∈ fs) (e : f.name = g.name) : f = g := by
  induction fs with
  | nil => cases hf
  | cons a r ih =>
    rw [List.pairwise_cons] at h
    rcases List.mem_cons.1 hf with rfl | hf' <;> rcases List.mem_cons.1 hg with rfl | hg'
    · rfl
    · exact absurd e (h.1 g hg')
    · exact absurd e.symm (h.1 f hf')
    · exact ih h.2 hf' hg'
theorem Fr.set {F : Nat → Prop} {w w' : World} (h : Fr F w w') {a : Addr} (ha : F a.block) (u : Value) : Fr F w (w'.setCell a u) :=
  ⟨h.os, h.tape, h.output, by simpa [World.setCell] using h.size, fun k hk hn => (Below.heap_setCell w' a u k (fun e => hn (by rw [e]; exact ha))).trans (h.block k hk hn)⟩
theorem Fr.grown {F : Nat → Prop} {w w1 w2 : World} {row : Option Nat} (h : Fr F w w1) (hg : w1.grownBy w2 row) (hr : ∀ k, row = some k → w.heap.size ≤ k ∨ F k) : Fr F w w2 :=
  ⟨hg.os.trans h.os, hg.tape.trans h.tape, hg.output.trans h.output, Nat.le_trans h.size hg.size, fun k hk hn => (hg.block k (Nat.lt_of_lt_of_le hk h.size) (fun e => by
    rcases hr k e.symm with h1 | h1
    · omega
    · exact hn h1)).trans (h.block k hk hn)⟩
theorem setCell_grown (w : World) (a : Addr) (u : Value) : w.grownBy (w.setCell a u) (some a.block) :=
  ⟨rfl, rfl, rfl, by simp [World.setCell], fun k _ hk => Below.heap_setCell w a u k (fun e => hk (by rw [e]))⟩
/-- The loop of stop, in the middle. -/
structure Mid (w1 wr : World) (m N it : Nat) (D : DataW Unit) (r : Int) (fs : List Fil) (left : Lit → Bool) (cnt : Nat) : Prop where
  rg : wr.ranges Tryd.prog 9 rp m it N D left cnt
  each : ∀ f ∈ fs, wr.heap[f.blk]? = some (.cells #[.string (flL left r f).bytes, .int .i64 (flL left r f).dur] 81 (0, 0))
  fr : Fr (G fs) w1 wr
theorem Mid.step {w1 wr : World} {it : Nat} {D : DataW Unit} {r : Int} {fs : List Fil} {left : Lit → Bool} {cnt : Nat} (h : Mid w1 wr m N it D r fs left cnt)
    {f : Fil} (hf : f ∈ fs) (hnames : fs.Pairwise (fun f g => f.name ≠ g.name)) (hblks : fs.Pairwise (fun f g => f.blk ≠ g.blk)) (hl : left (kl f.name) = true) (hm : f.blk ≠ m) (hit : it ≠ f.blk) (hitl : w1.heap.size ≤ it) (hlow : ∀ g ∈ fs, g.blk < w1.heap.size)
    {w2 : World} {cnt1 : Nat} (hrg1 : w2.ranges Tryd.prog 9 rp m it N D (fun z => left z && !z.sameKey (kl f.name)) cnt1) (hg1 : wr.grownBy w2 (some it)) :
    Mid w1 ((w2.setCell ⟨f.blk, 1, none⟩ (.int .i64 (keepN r f))).setCell ⟨f.blk, 0, none⟩ (.string (f.bytes.extract 0 (keepN r f)))) m N it D r fs (fun z => left z && !z.sameKey (kl f.name)) cnt1 := by
  have hb2 : w2.heap[f.blk]? = some (.cells #[.string f.bytes, .int .i64 f.dur] 81 (0, 0)) := by
    have t := h.each f hf
    unfold flL at t
    rw [if_pos hl] at t
    exact (hg1.block _ (blk_lt t) (fun e => hit (Option.some.inj e).symm)).trans t
  have s1 := blk_set hb2 1 (.int .i64 (keepN r f))
  have s2 := blk_set s1 0 (.string (f.bytes.extract 0 (keepN r f)))
  refine ⟨(hrg1.kept (setCell_grown _ _ _) (fun e => hm (Option.some.inj e).symm) (fun e => hit (Option.some.inj e))).kept (setCell_grown _ _ _) (fun e => hm (Option.some.inj e).symm) (fun e => hit (Option.some.inj e)), fun g hg => ?_, ?_⟩
  · by_cases e : g = f
    · subst e
      unfold flL
      rw [if_neg (by rw [strike_kl, decide_eq_true rfl]; simp)]
      exact s2
    · have hne : g.name ≠ f.name := fun e2 => e (name_inj hnames hg hf e2)
      have hnb : g.blk ≠ f.blk := fun e2 => e (blk_inj hblks hg hf e2)
      unfold flL
      rw [strike_kl, decide_eq_false hne, Bool.not_false, Bool.and_true]
      have t := h.each g hg
      refine (blk_far (blk_far ((hg1.block _ (blk_lt t) ?_).trans t) hnb _) hnb _)
      intro e2
      have e3 := Option.some.inj e2
      have := hlow g hg
      omega
  · exact ((h.fr.grown hg1 (fun k hk => .inl (by cases hk; exact hitl))).set ⟨f, hf, rfl⟩ _).set ⟨f, hf, rfl⟩ _
theorem Mid.steps {w1 wr : World} {it : Nat} {D : DataW Unit} {r : Int} {fs : List Fil} {left : Lit → Bool} {cnt : Nat} (h : Mid w1 wr m N it D r fs left cnt)
    {f : Fil} (hf : f ∈ fs) (hnames : fs.Pairwise (fun f g => f.name ≠ g.name)) (hblks : fs.Pairwise (fun f g => f.blk ≠ g.blk)) (hl : left (kl f.name) = true) (hm : f.blk ≠ m) (hit : it ≠ f.blk) (hitl : w1.heap.size ≤ it) (hlow : ∀ g ∈ fs, g.blk < w1.heap.size)
    {w2 : World} {cnt1 : Nat} (hrg1 : w2.ranges Tryd.prog 9 rp m it N D (fun z => left z && !z.sameKey (kl f.name)) cnt1) (hg1 : wr.grownBy w2 (some it)) :
    ∀ (X : Int) (n : ByteArray), X = keepN r f → n = f.bytes.extract 0 (keepN r f) → Mid w1 (((w2.setCell ⟨f.blk, 1, none⟩ (.int .i64 X)).setCell ⟨f.blk, 0, none⟩ (.string n)).drew.drew) m N it D r fs (fun z => left z && !z.sameKey (kl f.name)) cnt1 := by
  intro X n hX hn
  subst hX hn
  have k := h.step hf hnames hblks hl hm hit hitl hlow hrg1 hg1
  exact ⟨k.rg, k.each, ⟨k.fr.os, k.fr.tape, k.fr.output, k.fr.size, k.fr.block⟩⟩
theorem Mid.fin {w1 wr wr' : World} {it : Nat} {D : DataW Unit} {r : Int} {fs : List Fil} {left left' : Lit → Bool} {cnt cnt' : Nat} (h : Mid w1 wr' m N it D r fs left' cnt') (hrg : wr.ranges Tryd.prog 9 rp m it N D left cnt) (hlt : cnt' < cnt) :
    (∃ (left : Lit → Bool) (cnt : Nat), Mid w1 wr' m N it D r fs left cnt) ∧ wr'.rangeLeft m it < wr.rangeLeft m it :=
  ⟨⟨_, _, h⟩, by rw [h.rg.left_eq, hrg.left_eq]; exact hlt⟩
theorem used_mem {f : Fil} : ∀ {fs : List Fil}, f ∈ fs → f.bytes.size ≤ used fs
  | [], h => by cases h
  | g :: r, h => by
    unfold used
    rw [List.map_cons, List.sum_cons]
    rcases List.mem_cons.1 h with rfl | h
    · omega
    · have := used_mem h; unfold used at this; omega
theorem Mid.done {wr : World} {it : Nat} {D : DataW Unit} {r : Int} {left : Lit → Bool} {cnt : Nat} (h : Is N w p F s m pv) (k : Mid (w.setCell ⟨p, 2, none⟩ (.bool false)) wr m N it D r s.fs left cnt) (e : s.fs.map (flL left r) = s.fs.map (stopF r)) :
    Is N wr p F { s with run := false, fs := s.fs.map (stopF r) } m pv := by
  have hst : (w.setCell ⟨p, 2, none⟩ (.bool false)).heap.size = w.heap.size := by simp [World.setCell]
  have hnp : ¬ G s.fs p := fun ⟨f, hf, e⟩ => (h.types hf).1 e.symm
  have hnm : ¬ G s.fs m := fun ⟨f, hf, e⟩ => (h.types hf).2 e.symm
  have hk : ∀ i, F i → ¬ G s.fs i → i ≠ p → wr.heap[i]? = w.heap[i]? := fun i hi hg hp => (k.fr.block i (by rw [hst]; exact h.low i hi) hg).trans (Below.heap_setCell w ⟨p, 2, none⟩ _ i hp)
  have hnames : (s.fs.map (stopF r)).Pairwise (fun f g => f.name ≠ g.name) := by rw [List.pairwise_map]; exact h.names
  have hblks : (s.fs.map (stopF r)).Pairwise (fun f g => f.blk ≠ g.blk) := by rw [List.pairwise_map]; exact h.blks
  refine ⟨?_, ?_, ?_, ?_, hnames, hblks, ?_, ?_, h.quo, h.inP, h.inM, ?_, ?_⟩
  · exact (k.fr.block p (by rw [hst]; exact h.low p h.inP) hnp).trans (blk_set h.top 2 (.bool false))
  · exact (h.files.kept (hk m h.inM hnm (Ne.symm h.ne))).map (fun _ => rfl) (fun _ => rfl)
  · obtain ⟨A, c, e, h1, h2, h3⟩ := h.plan
    refine ⟨A, c, e, h1, h2, fun i x hx => ?_⟩
    obtain ⟨g, o, ha, hg, ⟨cs, k0⟩, k1, k2, k3⟩ := h3 i x hx
    have hgp : g ≠ p := fun e => by rw [e] at k0; have := h.top.symm.trans k0; simp at this
    have hgG : ¬ G s.fs g := fun ⟨f, hf, e⟩ => by rw [e] at k0; have := (h.each f hf).symm.trans k0; simp at this
    exact ⟨g, o, ha, hg, ⟨cs, (hk g hg hgG hgp).trans k0⟩, cell_of k1 (hk g hg hgG hgp), cell_of k2 (hk g hg hgG hgp), cell_of k3 (hk g hg hgG hgp)⟩
  · intro f hf
    rw [← e] at hf
    obtain ⟨g, hg, rfl⟩ := List.mem_map.1 hf
    have t := k.each g hg
    rw [show (flL left r g).blk = g.blk by unfold flL; split <;> rfl]
    exact t
  · intro f hf
    obtain ⟨g, hg, rfl⟩ := List.mem_map.1 hf
    have := keepN_le (r := r) (h.durs g hg)
    show keepN r g ≤ (g.bytes.extract 0 (keepN r g)).size
    rw [ByteArray.size_extract]; omega
  · have := used_map (g := stopF r) s.fs (fun f hf => by show (f.bytes.extract 0 (keepN r f)).size ≤ _; rw [ByteArray.size_extract]; omega)
    have := h.room
    show (used (s.fs.map (stopF r)) : Int) ≤ s.quota
    omega
  · intro f hf
    obtain ⟨g, hg, rfl⟩ := List.mem_map.1 hf
    exact h.inF g hg
  · intro i hi
    have := h.low i hi
    have := k.fr.size
    omega
set_option maxRecDepth 100000 in
set_option maxHeartbeats 1000000 in
theorem stop_ok (h : Is N w p F s m pv) (r : Int) : Calls Tryd.prog 78 #[.pointer (some ⟨p, 0, none⟩), .int .i64 r] w fun e w' =>
    e = .returned (.tuple #[]) ∧ Is N w' p F { s with run := false, fs := s.fs.map (stopF r) } m pv ∧ Fr F w w' := by
  obtain ⟨c0, c1, c2, c3, c4, c5⟩ := h.cells
  have th := h.thaw
  have hne := h.ne
  obtain ⟨D, hown, h2, h3⟩ := h.files
  have H2 : Hid _ := h2
  have H3 : Hid _ := h3
  clear h2 h3
  have hown1 := hown.setCell (a := ⟨p, 2, none⟩) (Ne.symm hne) (.bool false)
  have hset := blk_set h.top 2 (.bool false)
  go_enter Tryd.func78, Tryd.ntmps78
  go_wp2_with (at_range; refine wpList_range_own _ rfl _ 75 rfl 9 79 law9 Tryd.underlying75 _ m N D rfl hown1 ?_; intro w0 hrg0 hg0 hs0)
  have hsz : (w.setCell ⟨p, 2, none⟩ (.bool false)).heap.size = w.heap.size := by simp [World.setCell]
  rw [hsz] at hrg0 hs0 ⊢
  go_frame
  go_loopw [5] (fun _ wr => ∃ (left : Lit → Bool) (cnt : Nat), Mid (w.setCell ⟨p, 2, none⟩ (.bool false)) wr m N w.heap.size D r s.fs left cnt)
    (fun _ wr => wr.rangeLeft m w.heap.size)
  case atStart =>
    refine ⟨_, _, hrg0, fun f hf => ?_, (Fr.refl _ _).grown hg0 (fun k hk => by cases hk)⟩
    have hb := h.each f hf
    unfold flL
    rw [if_pos (by rw [H3.out]; exact look_has hf)]
    exact (hg0.block _ (by rw [hsz]; exact blk_lt hb) (by simp)).trans (blk_far hb (h.types hf).1 _)
  case round =>
    obtain ⟨left, cnt, hmid⟩ := hrel
    have hrg := hmid.rg
    go_wp2_with (first
      | (at_next; refine wpList_next_ranges _ rfl _ rfl 9 law9 rp Value.string ptr (fun _ _ hk => key_inv hk) (fun _ _ hv => by obtain ⟨o, rfl, _⟩ := rp_inv hv; exact ⟨o, rfl⟩) m w.heap.size N D left cnt rfl hrg ?_ ?_))
    · intro _ hl0
      go_wp2
      go_end0
      have e1 : s.fs.map (flL left r) = s.fs.map (stopF r) := List.map_congr_left (fun f _ => by unfold flL; rw [hl0]; rfl)
      exact ⟨rfl, hmid.done h e1, ((Fr.refl F w).set (a := ⟨p, 2, none⟩) h.inP _).trans (Sub.refl _ _) (hmid.fr.wide (fun i hi hg => by obtain ⟨f, hf, rfl⟩ := hg; exact h.inF f hf))⟩
    · intro x c l y ps w1 cnt1 hkey hlx hv hat hrg1 hlt hg1 hs1 hen
      obtain ⟨rfl, _⟩ := key_lit hkey
      obtain ⟨f, hf, rfl⟩ := entry_file H2.out H3.out (y := (y, ps)) hv hat
      have hmem := look_mem hf
      obtain ⟨hm, rfl⟩ := hmem
      have hty := h.types hm
      have hlow : ∀ g ∈ s.fs, g.blk < w.heap.size := fun g hg => h.low _ (h.inF g hg)
      have hlf := hlow f hm
      have hst := hmid.steps hm h.names h.blks hlx hty.2 (by omega) (by rw [hsz]; exact Nat.le_refl _) (by rw [hsz]; exact hlow) hrg1 hg1
      have hb1 : w1.heap[f.blk]? = some (.cells #[.string f.bytes, .int .i64 f.dur] 81 (0, 0)) := by
        have t := hmid.each f hm
        unfold flL at t
        rw [if_pos hlx] at t
        exact (hg1.block _ (blk_lt t) (fun e => by have := Option.some.inj e; omega)).trans t
      have hc0 := blk_cell hb1 0
      have hc1 := blk_cell hb1 1
      have ht := blk_frozen hb1
      simp only [List.getElem?_toArray, List.getElem?_cons_zero, List.getElem?_cons_succ] at hc0 hc1
      have hd := h.durs f hm
      have hq : f.bytes.size ≤ 1048576 := by have := used_mem hm; have := h.room; have := h.quo; omega
      have HST : Hid _ := hst
      clear hst hat hkey hv hlx hf hb1
      simp only [ptr] at hen
      go_wp2
      go_region
      all_goals (try go_wp2)
      all_goals (go_region)
      all_goals (try go_wp2)
      all_goals refine Mid.fin (HST.out _ _ ?_ ?_) hrg hlt
      all_goals first
        | (unfold keepN; omega)
        | (rw [show keepN r f = f.bytes.size by unfold keepN; omega, ByteArray.extract_zero_size])
        | (congr 1; unfold keepN; omega)
end Go.Proofs.YtkfehogefclhdaaDoor.Dk

/- operate, by its contract: what it does with whatever closures it is given. -/
namespace Go.Proofs.YtkfehogefclhdaaDoor.Dk
open Go.RowKit Go.Maps Go.Proofs.YtkfehogefclhdaaDoorW.PrintWords Go.Proofs.YtkfehogefclhdaaDoorW.PrintMore
variable {N : Nat} {w : World} {p : Nat} {F : Nat → Prop} {s : St} {m : Nat} {pv : Value} {B : Nat} {a0 a1 a2 a3 a4 : Addr}

/-- In the middle of operate: the disk has counted; what the closures captured is as it was. -/
structure On (N : Nat) (w : World) (p : Nat) (F C : Nat → Prop) (s : St) (m : Nat) (w1 : World) (s1 : St) (pv1 : Value) : Prop where
  is : Is N w1 p F s1 m pv1
  fs : s1.fs = s.fs
  quo : s1.quota = s.quota
  cap : ∀ i, C i → w1.heap[i]? = w.heap[i]?
  size : w.heap.size ≤ w1.heap.size
/-- What operate asks of its closures. -/
structure Clo (N : Nat) (w : World) (p : Nat) (F C : Nat → Prop) (s : St) (m : Nat) (code : Int) (km kw kp : Nat) (cm cw cp : Array Value) (Pf : Int → List Fil → Prop) (Wf : List Fil → Prop) (Out : World → Prop) (Wr : Nat → Prop) : Prop where
  may : ∀ w1 s1 pv1, On N w p F C s m w1 s1 pv1 → Calls Tryd.prog km cm w1 fun e w' => e = .returned (.int .i64 code) ∧ Below w1.heap.size w1 w'
  part : code = 0 → ∀ w1 s1 pv1 n, On N w p F C s m w1 s1 pv1 → Calls Tryd.prog kp (#[.int .i64 n] ++ cp) w1 fun e w' => e = .returned (.tuple #[]) ∧ ∃ F' fs', Pf n fs' ∧ Is (N + 1) w' p F' { s1 with fs := fs' } m pv1 ∧ Fr F w1 w' ∧ Sub w1 F F'
  whole : code = 0 → ∀ w1 s1 pv1, On N w p F C s m w1 s1 pv1 → Calls Tryd.prog kw cw w1 fun e w' => e = .returned (.tuple #[]) ∧ ∃ F' fs', Wf fs' ∧ Is (N + 1) w' p F' { s1 with fs := fs' } m pv1 ∧ Fr (fun i => F i ∨ Wr i) w1 w' ∧ Sub w1 F F' ∧ Out w'
  em : ∀ (xs : Array Value) (w : World), (callFunc km xs).run Tryd.prog w = .ok (.enter km xs) w
  ew : ∀ (xs : Array Value) (w : World), (callFunc kw xs).run Tryd.prog w = .ok (.enter kw xs) w
  ep : ∀ (xs : Array Value) (w : World), (callFunc kp xs).run Tryd.prog w = .ok (.enter kp xs) w
  sep : ∀ i, C i → i < w.heap.size ∧ ¬ F i
def St.tick (s : St) : St := { s with steps := s.steps + 1, since := s.since + 1 }
def args (p : Nat) (op name : ByteArray) (km kw kp : Nat) (cm cw cp : Array Value) : Array Value :=
  #[.pointer (some ⟨p, 0, none⟩), .string op, .string name, .func (.func km) #[] cm, .func (.func kw) #[] cw, .func (.func kp) #[] cp]
set_option maxRecDepth 100000 in
set_option maxHeartbeats 1000000 in
theorem op_down (h : Is N w p F s m pv) (hS : Sens w B a0 a1 a2 a3 a4) (hr : s.run = false) (op name : ByteArray) {km kw kp : Nat} {cm cw cp : Array Value} :
    Calls Tryd.prog 46 #[.pointer (some ⟨p, 0, none⟩), .string op, .string name, .func (.func km) #[] cm, .func (.func kw) #[] cw, .func (.func kp) #[] cp] w fun e w' => ∃ v, e = .returned v ∧ IsErr w' v a0 ∧ Below w.heap.size w w' := by
  go_enter Tryd.func46, Tryd.ntmps46
  go_wp2_with (first
    | (go_at_call 18; refine (down_ok h).mono ?_; rintro e w' ⟨rfl, h'⟩; replace h' := h'.symm; subst h')
    | (go_at_call 77; refine (fail_ok hS op name 0 93).mono ?_; rintro e w' ⟨v, rfl, hv, hb⟩))
  go_ret
  exact ⟨_, rfl, hv, hb⟩
/-- The disk behind the count. -/
theorem Is.tick (h : Is N w p F s m pv) : Is N ((w.setCell ⟨p, 3, none⟩ (.int .i64 (s.steps + 1))).setCell ⟨p, 5, none⟩ (.int .i64 (s.since + 1))) p F s.tick m pv :=
  h.set s.tick _ rfl rfl rfl (blk_set (blk_set h.top 3 _) 5 _) (fun i _ hi => (Below.heap_setCell _ _ _ i hi).trans (Below.heap_setCell _ _ _ i hi)) (by simp [World.setCell])
theorem On.start (h : Is N w p F s m pv) {C : Nat → Prop} (hC : ∀ i, C i → i < w.heap.size ∧ ¬ F i) : On N w p F C s m ((w.setCell ⟨p, 3, none⟩ (.int .i64 (s.steps + 1))).setCell ⟨p, 5, none⟩ (.int .i64 (s.since + 1))) s.tick pv :=
  ⟨h.tick, rfl, rfl, fun i hi => by
    have hne : i ≠ p := fun e => (hC i hi).2 (by rw [e]; exact h.inP)
    exact (Below.heap_setCell _ _ _ i hne).trans (Below.heap_setCell _ _ _ i hne), by simp [World.setCell]⟩
theorem On.below {C : Nat → Prop} {w1 w2 : World} {s1 : St} {pv1 : Value} (h : On N w p F C s m w1 s1 pv1) (hC : ∀ i, C i → i < w.heap.size ∧ ¬ F i) (hb : Below w1.heap.size w1 w2) : On N w p F C s m w2 s1 pv1 :=
  ⟨h.is.below hb, h.fs, h.quo, fun i hi => (hb.block i (Nat.lt_of_lt_of_le (hC i hi).1 h.size)).trans (h.cap i hi), Nat.le_trans h.size hb.size⟩
theorem tick_fr (F : Nat → Prop) (hp : F p) (u v : Value) : Fr F w ((w.setCell ⟨p, 3, none⟩ u).setCell ⟨p, 5, none⟩ v) := ((Fr.refl F w).set (a := ⟨p, 3, none⟩) hp u).set (a := ⟨p, 5, none⟩) hp v
/-- Is a stop due? -/
def Due (s : St) : Prop := ∃ x rest, s.plan = x :: rest ∧ x.1 = s.since + 1
theorem PlanIs.head {A : Option Addr} {n c : Nat} {x : Int × Int × Int} {rest : List (Int × Int × Int)} (h : PlanIs w F (.slice A n c) (x :: rest)) :
    ∃ g o, A = some ⟨g, o, none⟩ ∧ n = rest.length + 1 ∧ n ≤ c ∧ F g := by
  obtain ⟨A', c', e, h1, h2, h3⟩ := h
  injection e with e1 e2 e3
  subst e1 e2 e3
  obtain ⟨g, o, ha, hg, _⟩ := h3 0 x rfl
  exact ⟨g, o, ha, rfl, h1, hg⟩
theorem PlanIs.first {g o n c : Nat} {x : Int × Int × Int} {rest : List (Int × Int × Int)} (h : PlanIs w F (.slice (some ⟨g, o, none⟩) n c) (x :: rest)) :
    w.cell? ⟨g, o, none⟩ = some (.int .i64 x.1) ∧ w.cell? ⟨g, o + 1, none⟩ = some (.int .i64 x.2.1) ∧ w.cell? ⟨g, o + 2, none⟩ = some (.int .i64 x.2.2) := by
  obtain ⟨A', c', e, h1, h2, h3⟩ := h
  injection e with e1 e2 e3
  obtain ⟨g', o', ha, hg, _, k1, k2, k3⟩ := h3 0 x rfl
  rw [← e1] at ha
  cases ha
  rw [Nat.zero_mul, Nat.add_zero] at k1 k2 k3
  exact ⟨k1, k2, k3⟩
theorem On.sens {C : Nat → Prop} {w1 : World} (hS : Sens w B a0 a1 a2 a3 a4) (hF : ∀ i, F i → B ≤ i) (hBw : B ≤ w.heap.size) (h : Fr F w w1) : Sens w1 B a0 a1 a2 a3 a4 := hS.below (h.below hF hBw)
set_option maxRecDepth 100000 in
set_option maxHeartbeats 1000000 in
theorem op_ok_nil (h : Is N w p F s m pv) (hS : Sens w B a0 a1 a2 a3 a4) (hB : ∀ i, F i → B ≤ i) (hr : s.run = true) (hs0 : 0 ≤ s.steps) (hs1 : s.steps < 1000000000000) (hs2 : 0 ≤ s.since) (hs3 : s.since < 1000000000000) (op name : ByteArray) {C : Nat → Prop} {code : Int} {km kw kp : Nat} {cm cw cp : Array Value} {Pf : Int → List Fil → Prop} {Wf : List Fil → Prop} {Out : World → Prop} {Wr : Nat → Prop}
    (hc : Clo N w p F C s m code km kw kp cm cw cp Pf Wf Out Wr) (hp : s.plan = []) (h0 : code = 0) :
    Calls Tryd.prog 46 #[.pointer (some ⟨p, 0, none⟩), .string op, .string name, .func (.func km) #[] cm, .func (.func kw) #[] cw, .func (.func kp) #[] cp] w fun e w' =>
      e = .returned .nilIface ∧ ∃ F' fs', Wf fs' ∧ Is (N + 1) w' p F' { s.tick with fs := fs' } m pv ∧ Fr (fun i => F i ∨ Wr i) w w' ∧ Sub w F F' ∧ Out w'  := by
  obtain ⟨c0, c1, c2, c3, c4, c5⟩ := h.cells
  have th := h.thaw
  have hBw : B ≤ w.heap.size := Nat.le_trans (hB p h.inP) (Nat.le_of_lt (h.low p h.inP))
  obtain ⟨A, cap, hpv, hl1, hl2, hpl⟩ := h.plan
  rw [hp] at hpv hl1 hpl
  subst hpv
  clear hpl
  have hon := On.start h hc.sep
  have hfr := tick_fr F h.inP (w := w) (.int .i64 (s.steps + 1)) (.int .i64 (s.since + 1))
  subst h0
  have HP : Hid _ := hp
  clear hp
  have hem := hc.em
  have hew := hc.ew
  have hep := hc.ep
  go_enter Tryd.func46, Tryd.ntmps46
  go_wp2_with (first
    | (go_at_call 18; refine (down_ok h).mono ?_; rintro e w' ⟨rfl, h'⟩; replace h' := h'.symm; subst h')
    | (refine (hc.may _ _ _ hon).mono ?_; rintro e w2 ⟨rfl, hb2⟩; have hfr2 := hfr.trans (Sub.refl _ _) (Fr.of_below hb2 F); have hS2 := On.sens (C := C) hS hB hBw hfr2; have hon2 := hon.below hc.sep hb2; obtain ⟨d0, d1, d2, d3, d4, d5⟩ := hon2.is.cells; simp only [St.tick] at d0 d1 d2 d3 d4 d5))
  go_region
  all_goals go_wp2_with (refine (hc.whole rfl _ _ _ (hon2.below hc.sep (Below.refl _ _).drew)).mono ?_; rintro e w3 ⟨rfl, F', fs', hwf, his, hfr3, hsub, hout⟩)
  go_ret
  exact ⟨rfl, F', fs', hwf, his, (hfr2.wide (fun _ _ h => .inl h)).trans (Sub.refl _ _) ⟨hfr3.os, hfr3.tape, hfr3.output, hfr3.size, hfr3.block⟩, (Sub.refl w F).trans hfr2.size hsub, hout⟩
set_option maxRecDepth 100000 in
set_option maxHeartbeats 1000000 in
theorem op_ok_cons (h : Is N w p F s m pv) (hS : Sens w B a0 a1 a2 a3 a4) (hB : ∀ i, F i → B ≤ i) (hr : s.run = true) (hs0 : 0 ≤ s.steps) (hs1 : s.steps < 1000000000000) (hs2 : 0 ≤ s.since) (hs3 : s.since < 1000000000000) (op name : ByteArray) {C : Nat → Prop} {code : Int} {km kw kp : Nat} {cm cw cp : Array Value} {Pf : Int → List Fil → Prop} {Wf : List Fil → Prop} {Out : World → Prop} {Wr : Nat → Prop}
    (hc : Clo N w p F C s m code km kw kp cm cw cp Pf Wf Out Wr) {x : Int × Int × Int} {rest : List (Int × Int × Int)} (hp : s.plan = x :: rest) (hx : x.1 ≠ s.since + 1) (h0 : code = 0) :
    Calls Tryd.prog 46 #[.pointer (some ⟨p, 0, none⟩), .string op, .string name, .func (.func km) #[] cm, .func (.func kw) #[] cw, .func (.func kp) #[] cp] w fun e w' =>
      e = .returned .nilIface ∧ ∃ F' fs', Wf fs' ∧ Is (N + 1) w' p F' { s.tick with fs := fs' } m pv ∧ Fr (fun i => F i ∨ Wr i) w w' ∧ Sub w F F' ∧ Out w'  := by
  obtain ⟨c0, c1, c2, c3, c4, c5⟩ := h.cells
  have th := h.thaw
  have hxb : (x.1 == s.since + 1) = false := beq_eq_false_iff_ne.2 hx
  have hBw : B ≤ w.heap.size := Nat.le_trans (hB p h.inP) (Nat.le_of_lt (h.low p h.inP))
  obtain ⟨A, cap, hpv, hl1, hl2, _⟩ := h.plan
  subst hpv
  have hh := h.plan
  rw [hp] at hh
  obtain ⟨g, o, rfl, hn, hn2, hFg⟩ := hh.head
  have hlen : s.plan.length = rest.length + 1 := by rw [hp]; rfl
  rw [hn] at hn2
  rw [hlen] at c4 h ⊢
  clear hn hh hlen
  have hon := On.start h hc.sep
  have hfr := tick_fr F h.inP (w := w) (.int .i64 (s.steps + 1)) (.int .i64 (s.since + 1))
  subst h0
  have HP : Hid _ := hp
  clear hp
  have hem := hc.em
  have hew := hc.ew
  have hep := hc.ep
  go_enter Tryd.func46, Tryd.ntmps46
  go_wp2_with (first
    | (go_at_call 18; refine (down_ok h).mono ?_; rintro e w' ⟨rfl, h'⟩; replace h' := h'.symm; subst h')
    | (refine (hc.may _ _ _ hon).mono ?_; rintro e w2 ⟨rfl, hb2⟩; have hfr2 := hfr.trans (Sub.refl _ _) (Fr.of_below hb2 F); have hS2 := On.sens (C := C) hS hB hBw hfr2; have hon2 := hon.below hc.sep hb2; obtain ⟨d0, d1, d2, d3, d4, d5⟩ := hon2.is.cells; simp only [St.tick] at d0 d1 d2 d3 d4 d5; have hq := hon2.is.plan; rw [show s.tick.plan = x :: rest from HP.out] at hq; obtain ⟨k1, k2, k3⟩ := hq.first; clear hq))
  go_region
  all_goals go_wp2_with (refine (hc.whole rfl _ _ _ (hon2.below hc.sep (Below.refl _ _).drew)).mono ?_; rintro e w3 ⟨rfl, F', fs', hwf, his, hfr3, hsub, hout⟩)
  go_ret
  exact ⟨rfl, F', fs', hwf, his, (hfr2.wide (fun _ _ h => .inl h)).trans (Sub.refl _ _) ⟨hfr3.os, hfr3.tape, hfr3.output, hfr3.size, hfr3.block⟩, (Sub.refl w F).trans hfr2.size hsub, hout⟩
set_option maxRecDepth 100000 in
set_option maxHeartbeats 1000000 in
theorem op_err_nil (h : Is N w p F s m pv) (hS : Sens w B a0 a1 a2 a3 a4) (hB : ∀ i, F i → B ≤ i) (hr : s.run = true) (hs0 : 0 ≤ s.steps) (hs1 : s.steps < 1000000000000) (hs2 : 0 ≤ s.since) (hs3 : s.since < 1000000000000) (op name : ByteArray) {C : Nat → Prop} {code : Int} {km kw kp : Nat} {cm cw cp : Array Value} {Pf : Int → List Fil → Prop} {Wf : List Fil → Prop} {Out : World → Prop} {Wr : Nat → Prop}
    (hc : Clo N w p F C s m code km kw kp cm cw cp Pf Wf Out Wr) (hp : s.plan = []) (h0 : code ≠ 0) :
    Calls Tryd.prog 46 #[.pointer (some ⟨p, 0, none⟩), .string op, .string name, .func (.func km) #[] cm, .func (.func kw) #[] cw, .func (.func kp) #[] cp] w fun e w' =>
      ∃ v, e = .returned v ∧ IsErr w' v (why a0 a1 a2 a3 a4 code) ∧ Is N w' p F s.tick m pv ∧ Fr F w w'  := by
  obtain ⟨c0, c1, c2, c3, c4, c5⟩ := h.cells
  have th := h.thaw
  have hBw : B ≤ w.heap.size := Nat.le_trans (hB p h.inP) (Nat.le_of_lt (h.low p h.inP))
  obtain ⟨A, cap, hpv, hl1, hl2, hpl⟩ := h.plan
  rw [hp] at hpv hl1 hpl
  subst hpv
  clear hpl
  have hon := On.start h hc.sep
  have hfr := tick_fr F h.inP (w := w) (.int .i64 (s.steps + 1)) (.int .i64 (s.since + 1))
  have HP : Hid _ := hp
  clear hp
  have hem := hc.em
  have hew := hc.ew
  have hep := hc.ep
  go_enter Tryd.func46, Tryd.ntmps46
  go_wp2_with (first
    | (go_at_call 18; refine (down_ok h).mono ?_; rintro e w' ⟨rfl, h'⟩; replace h' := h'.symm; subst h')
    | (refine (hc.may _ _ _ hon).mono ?_; rintro e w2 ⟨rfl, hb2⟩; have hfr2 := hfr.trans (Sub.refl _ _) (Fr.of_below hb2 F); have hS2 := On.sens (C := C) hS hB hBw hfr2; have hon2 := hon.below hc.sep hb2; obtain ⟨d0, d1, d2, d3, d4, d5⟩ := hon2.is.cells; simp only [St.tick] at d0 d1 d2 d3 d4 d5))
  go_region
  all_goals go_wp2_with (go_at_call 77; refine (fail_ok (w := w2.drew) (hS2.below (Below.refl _ _).drew) op name (s.steps + 1) code).mono ?_; rintro e w3 ⟨v, rfl, hv, hb⟩)
  go_ret
  have hb' : Below w2.heap.size w2 w3 := ⟨hb.os, hb.tape, hb.output, hb.size, hb.block⟩
  exact ⟨_, rfl, hv, hon2.is.below hb', hfr2.trans (Sub.refl _ _) (Fr.of_below hb' F)⟩
set_option maxRecDepth 100000 in
set_option maxHeartbeats 1000000 in
theorem op_err_cons (h : Is N w p F s m pv) (hS : Sens w B a0 a1 a2 a3 a4) (hB : ∀ i, F i → B ≤ i) (hr : s.run = true) (hs0 : 0 ≤ s.steps) (hs1 : s.steps < 1000000000000) (hs2 : 0 ≤ s.since) (hs3 : s.since < 1000000000000) (op name : ByteArray) {C : Nat → Prop} {code : Int} {km kw kp : Nat} {cm cw cp : Array Value} {Pf : Int → List Fil → Prop} {Wf : List Fil → Prop} {Out : World → Prop} {Wr : Nat → Prop}
    (hc : Clo N w p F C s m code km kw kp cm cw cp Pf Wf Out Wr) {x : Int × Int × Int} {rest : List (Int × Int × Int)} (hp : s.plan = x :: rest) (hx : x.1 ≠ s.since + 1) (h0 : code ≠ 0) :
    Calls Tryd.prog 46 #[.pointer (some ⟨p, 0, none⟩), .string op, .string name, .func (.func km) #[] cm, .func (.func kw) #[] cw, .func (.func kp) #[] cp] w fun e w' =>
      ∃ v, e = .returned v ∧ IsErr w' v (why a0 a1 a2 a3 a4 code) ∧ Is N w' p F s.tick m pv ∧ Fr F w w'  := by
  obtain ⟨c0, c1, c2, c3, c4, c5⟩ := h.cells
  have th := h.thaw
  have hxb : (x.1 == s.since + 1) = false := beq_eq_false_iff_ne.2 hx
  have hBw : B ≤ w.heap.size := Nat.le_trans (hB p h.inP) (Nat.le_of_lt (h.low p h.inP))
  obtain ⟨A, cap, hpv, hl1, hl2, _⟩ := h.plan
  subst hpv
  have hh := h.plan
  rw [hp] at hh
  obtain ⟨g, o, rfl, hn, hn2, hFg⟩ := hh.head
  have hlen : s.plan.length = rest.length + 1 := by rw [hp]; rfl
  rw [hn] at hn2
  rw [hlen] at c4 h ⊢
  clear hn hh hlen
  have hon := On.start h hc.sep
  have hfr := tick_fr F h.inP (w := w) (.int .i64 (s.steps + 1)) (.int .i64 (s.since + 1))
  have HP : Hid _ := hp
  clear hp
  have hem := hc.em
  have hew := hc.ew
  have hep := hc.ep
  go_enter Tryd.func46, Tryd.ntmps46
  go_wp2_with (first
    | (go_at_call 18; refine (down_ok h).mono ?_; rintro e w' ⟨rfl, h'⟩; replace h' := h'.symm; subst h')
    | (refine (hc.may _ _ _ hon).mono ?_; rintro e w2 ⟨rfl, hb2⟩; have hfr2 := hfr.trans (Sub.refl _ _) (Fr.of_below hb2 F); have hS2 := On.sens (C := C) hS hB hBw hfr2; have hon2 := hon.below hc.sep hb2; obtain ⟨d0, d1, d2, d3, d4, d5⟩ := hon2.is.cells; simp only [St.tick] at d0 d1 d2 d3 d4 d5; have hq := hon2.is.plan; rw [show s.tick.plan = x :: rest from HP.out] at hq; obtain ⟨k1, k2, k3⟩ := hq.first; clear hq))
  go_region
  all_goals go_wp2_with (go_at_call 77; refine (fail_ok (w := w2.drew) (hS2.below (Below.refl _ _).drew) op name (s.steps + 1) code).mono ?_; rintro e w3 ⟨v, rfl, hv, hb⟩)
  go_ret
  have hb' : Below w2.heap.size w2 w3 := ⟨hb.os, hb.tape, hb.output, hb.size, hb.block⟩
  exact ⟨_, rfl, hv, hon2.is.below hb', hfr2.trans (Sub.refl _ _) (Fr.of_below hb' F)⟩
end Go.Proofs.YtkfehogefclhdaaDoor.Dk

/- operate where a stop is due, by its contract. -/
namespace Go.Proofs.YtkfehogefclhdaaDoor.Dk
open Go.RowKit Go.Maps Go.Proofs.YtkfehogefclhdaaDoorW.PrintWords Go.Proofs.YtkfehogefclhdaaDoorW.PrintMore
variable {N : Nat} {w : World} {p : Nat} {F : Nat → Prop} {s : St} {m : Nat} {pv : Value} {B : Nat} {a0 a1 a2 a3 a4 : Addr}

/-- Another plan is laid. -/
theorem Is.setPlan (h : Is N w p F s m pv) (pl : List (Int × Int × Int)) (pv' : Value) (hpl : PlanIs w F pv' pl) : Is N (w.setCell ⟨p, 4, none⟩ pv') p F { s with plan := pl } m pv' where
  top := blk_set h.top 4 pv'
  files := h.files.kept (Below.heap_setCell w ⟨p, 4, none⟩ pv' m (Ne.symm h.ne))
  plan := by
    obtain ⟨A, c, e, h1, h2, h3⟩ := hpl
    refine ⟨A, c, e, h1, h2, fun i x hx => ?_⟩
    obtain ⟨g, o, ha, hg, ⟨cs, k0⟩, k1, k2, k3⟩ := h3 i x hx
    have hgp : g ≠ p := fun e => by rw [e] at k0; have := h.top.symm.trans k0; simp at this
    have hh := Below.heap_setCell w ⟨p, 4, none⟩ pv' g hgp
    exact ⟨g, o, ha, hg, ⟨cs, hh.trans k0⟩, cell_of k1 hh, cell_of k2 hh, cell_of k3 hh⟩
  each := fun f hf => (Below.heap_setCell w ⟨p, 4, none⟩ pv' f.blk (h.types hf).1).trans (h.each f hf)
  names := h.names
  blks := h.blks
  durs := h.durs
  room := h.room
  quo := h.quo
  inP := h.inP
  inM := h.inM
  inF := h.inF
  low := fun i hi => by have := h.low i hi; simpa [World.setCell] using this
theorem PlanIs.tail {g o n c : Nat} {x : Int × Int × Int} {rest : List (Int × Int × Int)} (h : PlanIs w F (.slice (some ⟨g, o, none⟩) n c) (x :: rest)) :
    PlanIs w F (.slice (some ⟨g, o + 3, none⟩) rest.length (c - 1)) rest := by
  obtain ⟨A', c', e, h1, h2, h3⟩ := h
  injection e with e1 e2 e3
  rw [List.length_cons] at h1
  refine ⟨_, _, rfl, by omega, by omega, fun i y hy => ?_⟩
  obtain ⟨g', o', ha, hg, k0, k1, k2, k3⟩ := h3 (i + 1) y (by rw [List.getElem?_cons_succ]; exact hy)
  rw [← e1] at ha
  cases ha
  refine ⟨g, o + 3, rfl, hg, k0, ?_, ?_, ?_⟩
  · rw [show o + 3 + i * 3 = o + (i + 1) * 3 by omega]; exact k1
  · rw [show o + 3 + i * 3 + 1 = o + (i + 1) * 3 + 1 by omega]; exact k2
  · rw [show o + 3 + i * 3 + 2 = o + (i + 1) * 3 + 2 by omega]; exact k3
theorem PlanIs.done (w : World) (F : Nat → Prop) (A : Option Addr) : PlanIs w F (.slice A 0 0) [] := ⟨A, 0, rfl, Nat.le_refl _, by omega, fun i x h => by simp at h⟩
/-- The state behind a stop. -/
def St.halt (s : St) (rest : List (Int × Int × Int)) (fs : List Fil) (r : Int) : St := { s.tick with run := false, plan := rest, fs := fs.map (stopF r) }
theorem why93 : why a0 a1 a2 a3 a4 93 = a0 := rfl
theorem On.cut {C : Nat → Prop} {w1 : World} {s1 : St} {pv1 : Value} (h : On N w p F C s m w1 s1 pv1) (hC : ∀ i, C i → i < w.heap.size ∧ ¬ F i) (pl : List (Int × Int × Int)) (pv' : Value) (hpl : PlanIs w1 F pv' pl) (o : Obj) :
    On N w p F C s m (((w1.setCell ⟨p, 4, none⟩ pv').alloc o).drew) { s1 with plan := pl } pv' := by
  have h1 : On N w p F C s m (w1.setCell ⟨p, 4, none⟩ pv') { s1 with plan := pl } pv' :=
    ⟨h.is.setPlan pl pv' hpl, h.fs, h.quo, fun i hi => (Below.heap_setCell w1 ⟨p, 4, none⟩ pv' i (fun e => (hC i hi).2 (by rw [e]; exact h.is.inP))).trans (h.cap i hi), by simpa [World.setCell] using h.size⟩
  exact h1.below hC ((Below.refl _ _).alloc (Nat.le_refl _) o).drew
theorem cut_fr {w1 : World} (h : Fr F w w1) (hp : F p) (pv' : Value) (o : Obj) : Fr F w (((w1.setCell ⟨p, 4, none⟩ pv').alloc o).drew) :=
  (h.set (a := ⟨p, 4, none⟩) hp pv').trans (Sub.refl _ _) (Fr.of_below ((Below.refl _ _).alloc (Nat.le_refl _) o).drew F)
theorem Sub.trans' {w w1 : World} {F F' : Nat → Prop} (h : Sub w1 F F') (hs : w.heap.size ≤ w1.heap.size) : Sub w F F' := fun i hi => by
  rcases h i hi with h1 | h1
  · exact .inl h1
  · exact .inr (Nat.le_trans hs h1)
set_option maxRecDepth 100000 in
set_option maxHeartbeats 1000000 in
theorem due_err_more (h : Is N w p F s m pv) (hS : Sens w B a0 a1 a2 a3 a4) (hB : ∀ i, F i → B ≤ i) (hr : s.run = true) (hs0 : 0 ≤ s.steps) (hs1 : s.steps < 1000000000000) (hs2 : 0 ≤ s.since) (hs3 : s.since < 1000000000000) (op name : ByteArray) {C : Nat → Prop} {code : Int} {km kw kp : Nat} {cm cw cp : Array Value} {Pf : Int → List Fil → Prop} {Wf : List Fil → Prop} {Out : World → Prop} {Wr : Nat → Prop}
    (hc : Clo N w p F C s m code km kw kp cm cw cp Pf Wf Out Wr) {x : Int × Int × Int} {rest : List (Int × Int × Int)} (hp : s.plan = x :: rest) (hx : x.1 = s.since + 1) (h0 : code ≠ 0) {g o cap : Nat} (hpv : pv = .slice (some ⟨g, o, none⟩) s.plan.length cap) (hcap : cap ≠ 1) :
    Calls Tryd.prog 46 #[.pointer (some ⟨p, 0, none⟩), .string op, .string name, .func (.func km) #[] cm, .func (.func kw) #[] cw, .func (.func kp) #[] cp] w fun e w' =>
      ∃ v, e = .returned v ∧ IsErr w' v a0 ∧ ∃ pv', Is N w' p F (s.halt rest s.fs x.2.2) m pv' ∧ Fr F w w'  := by
  subst hpv
  obtain ⟨c0, c1, c2, c3, c4, c5⟩ := h.cells
  have th := h.thaw
  have hxb : (x.1 == s.since + 1) = true := beq_iff_eq.2 hx
  have hBw : B ≤ w.heap.size := Nat.le_trans (hB p h.inP) (Nat.le_of_lt (h.low p h.inP))
  have hcl : s.plan.length ≤ cap ∧ cap ≤ 9223372036854775807 := by obtain ⟨A, c, e, h1, h2, _⟩ := h.plan; injection e with e1 e2 e3; subst e3; exact ⟨h1, h2⟩
  have hlen : s.plan.length = rest.length + 1 := by rw [hp]; rfl
  rw [hlen] at c4 h hcl
  clear hlen
  have hon := On.start h hc.sep
  have hfr := tick_fr F h.inP (w := w) (.int .i64 (s.steps + 1)) (.int .i64 (s.since + 1))
  have HP : Hid _ := hp
  clear hp
  have hem := hc.em
  have hep := hc.ep
  go_enter Tryd.func46, Tryd.ntmps46
  go_wp2_with (first
    | (go_at_call 18; refine (down_ok h).mono ?_; rintro e w' ⟨rfl, h'⟩; replace h' := h'.symm; subst h')
    | (refine (hc.may _ _ _ hon).mono ?_; rintro e w2 ⟨rfl, hb2⟩; have hfr2 := hfr.trans (Sub.refl _ _) (Fr.of_below hb2 F); have hon2 := hon.below hc.sep hb2; obtain ⟨d0, d1, d2, d3, d4, d5⟩ := hon2.is.cells; simp only [St.tick] at d0 d1 d2 d3 d4 d5; have hpl : p < w2.heap.size := hon2.is.low p hon2.is.inP; have hal : ∀ (o : Obj) (j : Nat), (w2.alloc o).cell? ⟨p, j, none⟩ = w2.cell? ⟨p, j, none⟩ := fun o j => World.cell?_alloc_past _ _ _ hpl; have hth : ∀ (i : Nat), w2.frozen? ⟨p, i, none⟩ = false := hon2.is.thaw; have hfz : ∀ (o : Obj) (i : Nat), (w2.alloc o).frozen? ⟨p, i, none⟩ = false := fun o i => blk_frozen (blk_alloc hon2.is.top o) i; have hne2 : p ≠ w2.heap.size := Nat.ne_of_lt hpl; have hq := hon2.is.plan; rw [show s.tick.plan = x :: _ from HP.out] at hq; obtain ⟨k1, k2, k3⟩ := hq.first; have HQ : Hid _ := hq; clear hq))
  go_region
  have hon3 := On.cut hon2 hc.sep _ (.slice (some ⟨g, o + 3, none⟩) rest.length (cap - 1)) (PlanIs.tail HQ.out) (Obj.cells #[.int .i64 (s.since + 1), .int .i64 x.2.1, .int .i64 x.2.2] 32)
  have hfr3 := cut_fr hfr2 h.inP (.slice (some ⟨g, o + 3, none⟩) rest.length (cap - 1)) (Obj.cells #[.int .i64 (s.since + 1), .int .i64 x.2.1, .int .i64 x.2.2] 32)
  have hnF : ¬ F w2.heap.size := fun e => by have := h.low _ e; have := hfr2.size; omega
  have kst : ∀ j : Nat, ((((w2.setCell ⟨p, 4, none⟩ (.slice (some ⟨g, o + 3, none⟩) rest.length (cap - 1))).alloc (Obj.cells #[.int .i64 (s.since + 1), .int .i64 x.2.1, .int .i64 x.2.2] 32)).drew)).cell? ⟨w2.heap.size, j, none⟩ = (#[.int .i64 (s.since + 1), .int .i64 x.2.1, .int .i64 x.2.2] : Array Value)[j]? := fun j => by
    have e : (w2.setCell ⟨p, 4, none⟩ (.slice (some ⟨g, o + 3, none⟩) rest.length (cap - 1))).heap.size = w2.heap.size := by simp [World.setCell]
    have hb := blk_new (w2.setCell ⟨p, 4, none⟩ (.slice (some ⟨g, o + 3, none⟩) rest.length (cap - 1))) (Obj.cells #[.int .i64 (s.since + 1), .int .i64 x.2.1, .int .i64 x.2.2] 32)
    rw [e] at hb
    exact blk_cell hb j
  all_goals go_wp2_with (first
    | (go_at_call 78; refine (stop_ok hon3.is x.2.2).mono ?_; rintro e w5 ⟨rfl, his5, hfr5⟩; have hfr6 := hfr3.trans (Sub.refl _ _) hfr5; have hS5 := hS.below (hfr6.below hB hBw); have hq3 := his5.cells.2.2.2.1; simp only [St.tick] at hq3)
    | (go_at_call 77; refine (fail_ok hS5 op name (s.steps + 1) 93).mono ?_; rintro e w6 ⟨v, rfl, hv, hb⟩))
  go_ret
  exact ⟨_, rfl, hv, _, his5.below hb, hfr6.trans (Sub.refl _ _) (Fr.of_below hb F)⟩
set_option maxRecDepth 100000 in
set_option maxHeartbeats 1000000 in
theorem due_err_last (h : Is N w p F s m pv) (hS : Sens w B a0 a1 a2 a3 a4) (hB : ∀ i, F i → B ≤ i) (hr : s.run = true) (hs0 : 0 ≤ s.steps) (hs1 : s.steps < 1000000000000) (hs2 : 0 ≤ s.since) (hs3 : s.since < 1000000000000) (op name : ByteArray) {C : Nat → Prop} {code : Int} {km kw kp : Nat} {cm cw cp : Array Value} {Pf : Int → List Fil → Prop} {Wf : List Fil → Prop} {Out : World → Prop} {Wr : Nat → Prop}
    (hc : Clo N w p F C s m code km kw kp cm cw cp Pf Wf Out Wr) {x : Int × Int × Int} {rest : List (Int × Int × Int)} (hp : s.plan = x :: rest) (hx : x.1 = s.since + 1) (h0 : code ≠ 0) {g o cap : Nat} (hpv : pv = .slice (some ⟨g, o, none⟩) s.plan.length cap) (hcap : cap = 1) :
    Calls Tryd.prog 46 #[.pointer (some ⟨p, 0, none⟩), .string op, .string name, .func (.func km) #[] cm, .func (.func kw) #[] cw, .func (.func kp) #[] cp] w fun e w' =>
      ∃ v, e = .returned v ∧ IsErr w' v a0 ∧ ∃ pv', Is N w' p F (s.halt rest s.fs x.2.2) m pv' ∧ Fr F w w'  := by
  subst hpv
  obtain ⟨c0, c1, c2, c3, c4, c5⟩ := h.cells
  have th := h.thaw
  have hxb : (x.1 == s.since + 1) = true := beq_iff_eq.2 hx
  have hBw : B ≤ w.heap.size := Nat.le_trans (hB p h.inP) (Nat.le_of_lt (h.low p h.inP))
  have hcl : s.plan.length ≤ cap ∧ cap ≤ 9223372036854775807 := by obtain ⟨A, c, e, h1, h2, _⟩ := h.plan; injection e with e1 e2 e3; subst e3; exact ⟨h1, h2⟩
  have hlen : s.plan.length = rest.length + 1 := by rw [hp]; rfl
  rw [hlen] at c4 h hcl
  clear hlen
  subst hcap
  have hz : rest = [] := List.eq_nil_of_length_eq_zero (by omega)
  subst hz
  simp only [List.length_nil, Nat.zero_add] at c4 h hcl ⊢
  have hon := On.start h hc.sep
  have hfr := tick_fr F h.inP (w := w) (.int .i64 (s.steps + 1)) (.int .i64 (s.since + 1))
  have HP : Hid _ := hp
  clear hp
  have hem := hc.em
  have hep := hc.ep
  go_enter Tryd.func46, Tryd.ntmps46
  go_wp2_with (first
    | (go_at_call 18; refine (down_ok h).mono ?_; rintro e w' ⟨rfl, h'⟩; replace h' := h'.symm; subst h')
    | (refine (hc.may _ _ _ hon).mono ?_; rintro e w2 ⟨rfl, hb2⟩; have hfr2 := hfr.trans (Sub.refl _ _) (Fr.of_below hb2 F); have hon2 := hon.below hc.sep hb2; obtain ⟨d0, d1, d2, d3, d4, d5⟩ := hon2.is.cells; simp only [St.tick] at d0 d1 d2 d3 d4 d5; have hpl : p < w2.heap.size := hon2.is.low p hon2.is.inP; have hal : ∀ (o : Obj) (j : Nat), (w2.alloc o).cell? ⟨p, j, none⟩ = w2.cell? ⟨p, j, none⟩ := fun o j => World.cell?_alloc_past _ _ _ hpl; have hth : ∀ (i : Nat), w2.frozen? ⟨p, i, none⟩ = false := hon2.is.thaw; have hfz : ∀ (o : Obj) (i : Nat), (w2.alloc o).frozen? ⟨p, i, none⟩ = false := fun o i => blk_frozen (blk_alloc hon2.is.top o) i; have hne2 : p ≠ w2.heap.size := Nat.ne_of_lt hpl; have hq := hon2.is.plan; rw [show s.tick.plan = x :: _ from HP.out] at hq; obtain ⟨k1, k2, k3⟩ := hq.first; have HQ : Hid _ := hq; clear hq))
  go_region
  have hon3 := On.cut hon2 hc.sep _ (.slice (some ⟨g, o, none⟩) 0 0) (PlanIs.done _ _ _) (Obj.cells #[.int .i64 (s.since + 1), .int .i64 x.2.1, .int .i64 x.2.2] 32)
  have hfr3 := cut_fr hfr2 h.inP (.slice (some ⟨g, o, none⟩) 0 0) (Obj.cells #[.int .i64 (s.since + 1), .int .i64 x.2.1, .int .i64 x.2.2] 32)
  have hnF : ¬ F w2.heap.size := fun e => by have := h.low _ e; have := hfr2.size; omega
  have kst : ∀ j : Nat, ((((w2.setCell ⟨p, 4, none⟩ (.slice (some ⟨g, o, none⟩) 0 0)).alloc (Obj.cells #[.int .i64 (s.since + 1), .int .i64 x.2.1, .int .i64 x.2.2] 32)).drew)).cell? ⟨w2.heap.size, j, none⟩ = (#[.int .i64 (s.since + 1), .int .i64 x.2.1, .int .i64 x.2.2] : Array Value)[j]? := fun j => by
    have e : (w2.setCell ⟨p, 4, none⟩ (.slice (some ⟨g, o, none⟩) 0 0)).heap.size = w2.heap.size := by simp [World.setCell]
    have hb := blk_new (w2.setCell ⟨p, 4, none⟩ (.slice (some ⟨g, o, none⟩) 0 0)) (Obj.cells #[.int .i64 (s.since + 1), .int .i64 x.2.1, .int .i64 x.2.2] 32)
    rw [e] at hb
    exact blk_cell hb j
  all_goals go_wp2_with (first
    | (go_at_call 78; refine (stop_ok hon3.is x.2.2).mono ?_; rintro e w5 ⟨rfl, his5, hfr5⟩; have hfr6 := hfr3.trans (Sub.refl _ _) hfr5; have hS5 := hS.below (hfr6.below hB hBw); have hq3 := his5.cells.2.2.2.1; simp only [St.tick] at hq3)
    | (go_at_call 77; refine (fail_ok hS5 op name (s.steps + 1) 93).mono ?_; rintro e w6 ⟨v, rfl, hv, hb⟩))
  go_ret
  exact ⟨_, rfl, hv, _, his5.below hb, hfr6.trans (Sub.refl _ _) (Fr.of_below hb F)⟩
set_option maxRecDepth 100000 in
set_option maxHeartbeats 1000000 in
theorem due_ok_more (h : Is N w p F s m pv) (hS : Sens w B a0 a1 a2 a3 a4) (hB : ∀ i, F i → B ≤ i) (hr : s.run = true) (hs0 : 0 ≤ s.steps) (hs1 : s.steps < 1000000000000) (hs2 : 0 ≤ s.since) (hs3 : s.since < 1000000000000) (op name : ByteArray) {C : Nat → Prop} {code : Int} {km kw kp : Nat} {cm cw cp : Array Value} {Pf : Int → List Fil → Prop} {Wf : List Fil → Prop} {Out : World → Prop} {Wr : Nat → Prop}
    (hc : Clo N w p F C s m code km kw kp cm cw cp Pf Wf Out Wr) {x : Int × Int × Int} {rest : List (Int × Int × Int)} (hp : s.plan = x :: rest) (hx : x.1 = s.since + 1) (h0 : code = 0) {g o cap : Nat} (hpv : pv = .slice (some ⟨g, o, none⟩) s.plan.length cap) (hcap : cap ≠ 1) :
    Calls Tryd.prog 46 #[.pointer (some ⟨p, 0, none⟩), .string op, .string name, .func (.func km) #[] cm, .func (.func kw) #[] cw, .func (.func kp) #[] cp] w fun e w' =>
      ∃ v, e = .returned v ∧ IsErr w' v a0 ∧ ∃ pv', ∃ F' fs', Pf x.2.1 fs' ∧ Is (N + 1) w' p F' (s.halt rest fs' x.2.2) m pv' ∧ Fr F w w' ∧ Sub w F F'  := by
  subst hpv
  obtain ⟨c0, c1, c2, c3, c4, c5⟩ := h.cells
  have th := h.thaw
  have hxb : (x.1 == s.since + 1) = true := beq_iff_eq.2 hx
  have hBw : B ≤ w.heap.size := Nat.le_trans (hB p h.inP) (Nat.le_of_lt (h.low p h.inP))
  have hcl : s.plan.length ≤ cap ∧ cap ≤ 9223372036854775807 := by obtain ⟨A, c, e, h1, h2, _⟩ := h.plan; injection e with e1 e2 e3; subst e3; exact ⟨h1, h2⟩
  have hlen : s.plan.length = rest.length + 1 := by rw [hp]; rfl
  rw [hlen] at c4 h hcl
  clear hlen
  have hon := On.start h hc.sep
  have hfr := tick_fr F h.inP (w := w) (.int .i64 (s.steps + 1)) (.int .i64 (s.since + 1))
  subst h0
  have HP : Hid _ := hp
  clear hp
  have hem := hc.em
  have hep := hc.ep
  go_enter Tryd.func46, Tryd.ntmps46
  go_wp2_with (first
    | (go_at_call 18; refine (down_ok h).mono ?_; rintro e w' ⟨rfl, h'⟩; replace h' := h'.symm; subst h')
    | (refine (hc.may _ _ _ hon).mono ?_; rintro e w2 ⟨rfl, hb2⟩; have hfr2 := hfr.trans (Sub.refl _ _) (Fr.of_below hb2 F); have hon2 := hon.below hc.sep hb2; obtain ⟨d0, d1, d2, d3, d4, d5⟩ := hon2.is.cells; simp only [St.tick] at d0 d1 d2 d3 d4 d5; have hpl : p < w2.heap.size := hon2.is.low p hon2.is.inP; have hal : ∀ (o : Obj) (j : Nat), (w2.alloc o).cell? ⟨p, j, none⟩ = w2.cell? ⟨p, j, none⟩ := fun o j => World.cell?_alloc_past _ _ _ hpl; have hth : ∀ (i : Nat), w2.frozen? ⟨p, i, none⟩ = false := hon2.is.thaw; have hfz : ∀ (o : Obj) (i : Nat), (w2.alloc o).frozen? ⟨p, i, none⟩ = false := fun o i => blk_frozen (blk_alloc hon2.is.top o) i; have hne2 : p ≠ w2.heap.size := Nat.ne_of_lt hpl; have hq := hon2.is.plan; rw [show s.tick.plan = x :: _ from HP.out] at hq; obtain ⟨k1, k2, k3⟩ := hq.first; have HQ : Hid _ := hq; clear hq))
  go_region
  have hon3 := On.cut hon2 hc.sep _ (.slice (some ⟨g, o + 3, none⟩) rest.length (cap - 1)) (PlanIs.tail HQ.out) (Obj.cells #[.int .i64 (s.since + 1), .int .i64 x.2.1, .int .i64 x.2.2] 32)
  have hfr3 := cut_fr hfr2 h.inP (.slice (some ⟨g, o + 3, none⟩) rest.length (cap - 1)) (Obj.cells #[.int .i64 (s.since + 1), .int .i64 x.2.1, .int .i64 x.2.2] 32)
  have hnF : ¬ F w2.heap.size := fun e => by have := h.low _ e; have := hfr2.size; omega
  have kst : ∀ j : Nat, ((((w2.setCell ⟨p, 4, none⟩ (.slice (some ⟨g, o + 3, none⟩) rest.length (cap - 1))).alloc (Obj.cells #[.int .i64 (s.since + 1), .int .i64 x.2.1, .int .i64 x.2.2] 32)).drew)).cell? ⟨w2.heap.size, j, none⟩ = (#[.int .i64 (s.since + 1), .int .i64 x.2.1, .int .i64 x.2.2] : Array Value)[j]? := fun j => by
    have e : (w2.setCell ⟨p, 4, none⟩ (.slice (some ⟨g, o + 3, none⟩) rest.length (cap - 1))).heap.size = w2.heap.size := by simp [World.setCell]
    have hb := blk_new (w2.setCell ⟨p, 4, none⟩ (.slice (some ⟨g, o + 3, none⟩) rest.length (cap - 1))) (Obj.cells #[.int .i64 (s.since + 1), .int .i64 x.2.1, .int .i64 x.2.2] 32)
    rw [e] at hb
    exact blk_cell hb j
  all_goals go_wp2_with (first
    | (refine (hc.part rfl _ _ _ x.2.1 hon3).mono ?_; rintro e w4 ⟨rfl, F', fs', hpf, his4, hfr4, hsub4⟩; have kk := hfr4.block w2.heap.size (by simp [World.setCell]) hnF; have kc : w4.cell? ⟨w2.heap.size, 2, none⟩ = some (.int .i64 x.2.2) := cell_of (kst 2) kk)
    | (go_at_call 78; refine (stop_ok his4 x.2.2).mono ?_; rintro e w5 ⟨rfl, his5, hfr5⟩; have hfr6 := (hfr3.trans (Sub.refl _ _) hfr4).trans (hsub4.trans' hfr3.size) hfr5; have hS5 := hS.below (hfr6.below hB hBw); have hq3 := his5.cells.2.2.2.1; simp only [St.tick] at hq3)
    | (go_at_call 77; refine (fail_ok hS5 op name (s.steps + 1) 93).mono ?_; rintro e w6 ⟨v, rfl, hv, hb⟩))
  go_ret
  exact ⟨_, rfl, hv, _, F', fs', hpf, his5.below hb, hfr6.trans (hsub4.trans' hfr3.size) (Fr.of_below hb F'), hsub4.trans' hfr3.size⟩
set_option maxRecDepth 100000 in
set_option maxHeartbeats 1000000 in
theorem due_ok_last (h : Is N w p F s m pv) (hS : Sens w B a0 a1 a2 a3 a4) (hB : ∀ i, F i → B ≤ i) (hr : s.run = true) (hs0 : 0 ≤ s.steps) (hs1 : s.steps < 1000000000000) (hs2 : 0 ≤ s.since) (hs3 : s.since < 1000000000000) (op name : ByteArray) {C : Nat → Prop} {code : Int} {km kw kp : Nat} {cm cw cp : Array Value} {Pf : Int → List Fil → Prop} {Wf : List Fil → Prop} {Out : World → Prop} {Wr : Nat → Prop}
    (hc : Clo N w p F C s m code km kw kp cm cw cp Pf Wf Out Wr) {x : Int × Int × Int} {rest : List (Int × Int × Int)} (hp : s.plan = x :: rest) (hx : x.1 = s.since + 1) (h0 : code = 0) {g o cap : Nat} (hpv : pv = .slice (some ⟨g, o, none⟩) s.plan.length cap) (hcap : cap = 1) :
    Calls Tryd.prog 46 #[.pointer (some ⟨p, 0, none⟩), .string op, .string name, .func (.func km) #[] cm, .func (.func kw) #[] cw, .func (.func kp) #[] cp] w fun e w' =>
      ∃ v, e = .returned v ∧ IsErr w' v a0 ∧ ∃ pv', ∃ F' fs', Pf x.2.1 fs' ∧ Is (N + 1) w' p F' (s.halt rest fs' x.2.2) m pv' ∧ Fr F w w' ∧ Sub w F F'  := by
  subst hpv
  obtain ⟨c0, c1, c2, c3, c4, c5⟩ := h.cells
  have th := h.thaw
  have hxb : (x.1 == s.since + 1) = true := beq_iff_eq.2 hx
  have hBw : B ≤ w.heap.size := Nat.le_trans (hB p h.inP) (Nat.le_of_lt (h.low p h.inP))
  have hcl : s.plan.length ≤ cap ∧ cap ≤ 9223372036854775807 := by obtain ⟨A, c, e, h1, h2, _⟩ := h.plan; injection e with e1 e2 e3; subst e3; exact ⟨h1, h2⟩
  have hlen : s.plan.length = rest.length + 1 := by rw [hp]; rfl
  rw [hlen] at c4 h hcl
  clear hlen
  subst hcap
  have hz : rest = [] := List.eq_nil_of_length_eq_zero (by omega)
  subst hz
  simp only [List.length_nil, Nat.zero_add] at c4 h hcl ⊢
  have hon := On.start h hc.sep
  have hfr := tick_fr F h.inP (w := w) (.int .i64 (s.steps + 1)) (.int .i64 (s.since + 1))
  subst h0
  have HP : Hid _ := hp
  clear hp
  have hem := hc.em
  have hep := hc.ep
  go_enter Tryd.func46, Tryd.ntmps46
  go_wp2_with (first
    | (go_at_call 18; refine (down_ok h).mono ?_; rintro e w' ⟨rfl, h'⟩; replace h' := h'.symm; subst h')
    | (refine (hc.may _ _ _ hon).mono ?_; rintro e w2 ⟨rfl, hb2⟩; have hfr2 := hfr.trans (Sub.refl _ _) (Fr.of_below hb2 F); have hon2 := hon.below hc.sep hb2; obtain ⟨d0, d1, d2, d3, d4, d5⟩ := hon2.is.cells; simp only [St.tick] at d0 d1 d2 d3 d4 d5; have hpl : p < w2.heap.size := hon2.is.low p hon2.is.inP; have hal : ∀ (o : Obj) (j : Nat), (w2.alloc o).cell? ⟨p, j, none⟩ = w2.cell? ⟨p, j, none⟩ := fun o j => World.cell?_alloc_past _ _ _ hpl; have hth : ∀ (i : Nat), w2.frozen? ⟨p, i, none⟩ = false := hon2.is.thaw; have hfz : ∀ (o : Obj) (i : Nat), (w2.alloc o).frozen? ⟨p, i, none⟩ = false := fun o i => blk_frozen (blk_alloc hon2.is.top o) i; have hne2 : p ≠ w2.heap.size := Nat.ne_of_lt hpl; have hq := hon2.is.plan; rw [show s.tick.plan = x :: _ from HP.out] at hq; obtain ⟨k1, k2, k3⟩ := hq.first; have HQ : Hid _ := hq; clear hq))
  go_region
  have hon3 := On.cut hon2 hc.sep _ (.slice (some ⟨g, o, none⟩) 0 0) (PlanIs.done _ _ _) (Obj.cells #[.int .i64 (s.since + 1), .int .i64 x.2.1, .int .i64 x.2.2] 32)
  have hfr3 := cut_fr hfr2 h.inP (.slice (some ⟨g, o, none⟩) 0 0) (Obj.cells #[.int .i64 (s.since + 1), .int .i64 x.2.1, .int .i64 x.2.2] 32)
  have hnF : ¬ F w2.heap.size := fun e => by have := h.low _ e; have := hfr2.size; omega
  have kst : ∀ j : Nat, ((((w2.setCell ⟨p, 4, none⟩ (.slice (some ⟨g, o, none⟩) 0 0)).alloc (Obj.cells #[.int .i64 (s.since + 1), .int .i64 x.2.1, .int .i64 x.2.2] 32)).drew)).cell? ⟨w2.heap.size, j, none⟩ = (#[.int .i64 (s.since + 1), .int .i64 x.2.1, .int .i64 x.2.2] : Array Value)[j]? := fun j => by
    have e : (w2.setCell ⟨p, 4, none⟩ (.slice (some ⟨g, o, none⟩) 0 0)).heap.size = w2.heap.size := by simp [World.setCell]
    have hb := blk_new (w2.setCell ⟨p, 4, none⟩ (.slice (some ⟨g, o, none⟩) 0 0)) (Obj.cells #[.int .i64 (s.since + 1), .int .i64 x.2.1, .int .i64 x.2.2] 32)
    rw [e] at hb
    exact blk_cell hb j
  all_goals go_wp2_with (first
    | (refine (hc.part rfl _ _ _ x.2.1 hon3).mono ?_; rintro e w4 ⟨rfl, F', fs', hpf, his4, hfr4, hsub4⟩; have kk := hfr4.block w2.heap.size (by simp [World.setCell]) hnF; have kc : w4.cell? ⟨w2.heap.size, 2, none⟩ = some (.int .i64 x.2.2) := cell_of (kst 2) kk)
    | (go_at_call 78; refine (stop_ok his4 x.2.2).mono ?_; rintro e w5 ⟨rfl, his5, hfr5⟩; have hfr6 := (hfr3.trans (Sub.refl _ _) hfr4).trans (hsub4.trans' hfr3.size) hfr5; have hS5 := hS.below (hfr6.below hB hBw); have hq3 := his5.cells.2.2.2.1; simp only [St.tick] at hq3)
    | (go_at_call 77; refine (fail_ok hS5 op name (s.steps + 1) 93).mono ?_; rintro e w6 ⟨v, rfl, hv, hb⟩))
  go_ret
  exact ⟨_, rfl, hv, _, F', fs', hpf, his5.below hb, hfr6.trans (hsub4.trans' hfr3.size) (Fr.of_below hb F'), hsub4.trans' hfr3.size⟩
end Go.Proofs.YtkfehogefclhdaaDoor.Dk

/- operate in one sentence. -/
namespace Go.Proofs.YtkfehogefclhdaaDoor.Dk
open Go.RowKit Go.Maps Go.Proofs.YtkfehogefclhdaaDoorW.PrintWords Go.Proofs.YtkfehogefclhdaaDoorW.PrintMore
variable {N : Nat} {w : World} {p : Nat} {F : Nat → Prop} {s : St} {m : Nat} {pv : Value} {B : Nat} {a0 a1 a2 a3 a4 : Addr}

theorem Is.more (h : Is N w p F s m pv) : Is (N + 1) w p F s m pv := by
  obtain ⟨D, h1, h2⟩ := h.files
  exact ⟨h.top, ⟨D, h1.mono (Nat.le_succ _), h2⟩, h.plan, h.each, h.names, h.blks, h.durs, h.room, h.quo, h.inP, h.inM, h.inF, h.low⟩
/-- What comes of an operation. -/
inductive Came (w : World) (F : Nat → Prop) (s : St) (a0 a1 a2 a3 a4 : Addr) (code : Int) (Pf : Int → List Fil → Prop) (Wf : List Fil → Prop) (Out : World → Prop) (w' : World) (v : Value) : St → Prop
  | down : s.run = false → IsErr w' v a0 → Fr F w w' → Came w F s a0 a1 a2 a3 a4 code Pf Wf Out w' v s
  | due {x rest fs'} : s.run = true → s.plan = x :: rest → x.1 = s.since + 1 → IsErr w' v a0 → Fr F w w' → (code = 0 → Pf x.2.1 fs') → (code ≠ 0 → fs' = s.fs) → Came w F s a0 a1 a2 a3 a4 code Pf Wf Out w' v (s.halt rest fs' x.2.2)
  | err : s.run = true → ¬ Due s → code ≠ 0 → IsErr w' v (why a0 a1 a2 a3 a4 code) → Fr F w w' → Came w F s a0 a1 a2 a3 a4 code Pf Wf Out w' v s.tick
  | ok {fs'} : s.run = true → ¬ Due s → code = 0 → v = .nilIface → Wf fs' → Out w' → Came w F s a0 a1 a2 a3 a4 code Pf Wf Out w' v { s.tick with fs := fs' }
def Res (N : Nat) (w : World) (p : Nat) (F Wr : Nat → Prop) (s : St) (m : Nat) (a0 a1 a2 a3 a4 : Addr) (code : Int) (Pf : Int → List Fil → Prop) (Wf : List Fil → Prop) (Out : World → Prop) (v : Value) (w' : World) : Prop :=
  ∃ F' s' pv', Is (N + 1) w' p F' s' m pv' ∧ Fr (fun i => F i ∨ Wr i) w w' ∧ Sub w F F' ∧ Came w F s a0 a1 a2 a3 a4 code Pf Wf Out w' v s'
theorem Fr.or {w' : World} (h : Fr F w w') (C : Nat → Prop) : Fr (fun i => F i ∨ C i) w w' := h.wide (fun _ _ h => .inl h)
theorem op_any (h : Is N w p F s m pv) (hS : Sens w B a0 a1 a2 a3 a4) (hB : ∀ i, F i → B ≤ i) (hs0 : 0 ≤ s.steps) (hs1 : s.steps < 1000000000000) (hs2 : 0 ≤ s.since) (hs3 : s.since < 1000000000000) (op name : ByteArray) {C : Nat → Prop} {code : Int} {km kw kp : Nat} {cm cw cp : Array Value} {Pf : Int → List Fil → Prop} {Wf : List Fil → Prop} {Out : World → Prop} {Wr : Nat → Prop}
    (hc : Clo N w p F C s m code km kw kp cm cw cp Pf Wf Out Wr) :
    Calls Tryd.prog 46 #[.pointer (some ⟨p, 0, none⟩), .string op, .string name, .func (.func km) #[] cm, .func (.func kw) #[] cw, .func (.func kp) #[] cp] w fun e w' =>
      ∃ v, e = .returned v ∧ Res N w p F Wr s m a0 a1 a2 a3 a4 code Pf Wf Out v w' := by
  cases hr : s.run with
  | false =>
    refine (op_down h hS hr op name).mono ?_
    rintro e w' ⟨v, rfl, hv, hb⟩
    exact ⟨v, rfl, F, s, pv, (h.below hb).more, (Fr.of_below hb F).or Wr, Sub.refl _ _, .down hr hv (Fr.of_below hb F)⟩
  | true =>
    cases hp : s.plan with
    | nil =>
      have hnd : ¬ Due s := fun ⟨x, rest, e, _⟩ => by rw [hp] at e; cases e
      by_cases h0 : code = 0
      · refine (op_ok_nil h hS hB hr hs0 hs1 hs2 hs3 op name hc hp h0).mono ?_
        rintro e w' ⟨rfl, F', fs', hw, hi, hf, hsub, ho⟩
        exact ⟨_, rfl, F', _, pv, hi, hf, hsub, .ok hr hnd h0 rfl hw ho⟩
      · refine (op_err_nil h hS hB hr hs0 hs1 hs2 hs3 op name hc hp h0).mono ?_
        rintro e w' ⟨v, rfl, hv, hi, hf⟩
        exact ⟨_, rfl, F, _, pv, hi.more, hf.or Wr, Sub.refl _ _, .err hr hnd h0 hv hf⟩
    | cons x rest =>
      by_cases hx : x.1 = s.since + 1
      · obtain ⟨A, cap, hpv, _⟩ := h.plan
        have hh := h.plan
        rw [hpv, hp] at hh
        obtain ⟨g, o, rfl, _⟩ := hh.head
        by_cases hcap : cap = 1
        · by_cases h0 : code = 0
          · refine (due_ok_last h hS hB hr hs0 hs1 hs2 hs3 op name hc hp hx h0 hpv hcap).mono ?_
            rintro e w' ⟨v, rfl, hv, pv', F', fs', hpf, hi, hf, hsub⟩
            exact ⟨_, rfl, F', _, pv', hi, hf.or Wr, hsub, .due hr hp hx hv hf (fun _ => hpf) (fun h => absurd h0 h)⟩
          · refine (due_err_last h hS hB hr hs0 hs1 hs2 hs3 op name hc hp hx h0 hpv hcap).mono ?_
            rintro e w' ⟨v, rfl, hv, pv', hi, hf⟩
            exact ⟨_, rfl, F, _, pv', hi.more, hf.or Wr, Sub.refl _ _, .due hr hp hx hv hf (fun h => absurd h h0) (fun _ => rfl)⟩
        · by_cases h0 : code = 0
          · refine (due_ok_more h hS hB hr hs0 hs1 hs2 hs3 op name hc hp hx h0 hpv hcap).mono ?_
            rintro e w' ⟨v, rfl, hv, pv', F', fs', hpf, hi, hf, hsub⟩
            exact ⟨_, rfl, F', _, pv', hi, hf.or Wr, hsub, .due hr hp hx hv hf (fun _ => hpf) (fun h => absurd h0 h)⟩
          · refine (due_err_more h hS hB hr hs0 hs1 hs2 hs3 op name hc hp hx h0 hpv hcap).mono ?_
            rintro e w' ⟨v, rfl, hv, pv', hi, hf⟩
            exact ⟨_, rfl, F, _, pv', hi.more, hf.or Wr, Sub.refl _ _, .due hr hp hx hv hf (fun h => absurd h h0) (fun _ => rfl)⟩
      · have hnd : ¬ Due s := fun ⟨y, r, e, h⟩ => by rw [hp] at e; cases e; exact hx h
        by_cases h0 : code = 0
        · refine (op_ok_cons h hS hB hr hs0 hs1 hs2 hs3 op name hc hp hx h0).mono ?_
          rintro e w' ⟨rfl, F', fs', hw, hi, hf, hsub, ho⟩
          exact ⟨_, rfl, F', _, pv, hi, hf, hsub, .ok hr hnd h0 rfl hw ho⟩
        · refine (op_err_cons h hS hB hr hs0 hs1 hs2 hs3 op name hc hp hx h0).mono ?_
          rintro e w' ⟨v, rfl, hv, hi, hf⟩
          exact ⟨_, rfl, F, _, pv, hi.more, hf.or Wr, Sub.refl _ _, .err hr hnd h0 hv hf⟩
end Go.Proofs.YtkfehogefclhdaaDoor.Dk

/- Names, and whether a file is there. -/
namespace Go.Proofs.YtkfehogefclhdaaDoor.Dk
open Go.RowKit Go.Maps Go.Proofs.YtkfehogefclhdaaDoorW.PrintWords Go.Proofs.YtkfehogefclhdaaDoorW.PrintMore Go.Proofs.YtkfehogefclhdaaDoor.PNm
variable {N : Nat} {w : World} {p : Nat} {F : Nat → Prop} {s : St} {m : Nat} {pv : Value} {B : Nat} {a0 a1 a2 a3 a4 : Addr}

theorem w64 {z : Int} (h0 : -9223372036854775808 ≤ z) (h1 : z ≤ 9223372036854775807) : wrap64 z = z := by unfold wrap64; omega
theorem name_tells (x : ByteArray) (hx : x.size ≤ 140737488351232) : ∀ (d : Nat) (i : Nat), x.size - i = d → ∃ k b, disk_isName.l0 k x (x.size : Int) i = some b := by
  intro d
  induction d with
  | zero =>
    intro i hd
    refine ⟨1, ?_⟩
    simp only [disk_isName.l0]
    rw [if_neg (by omega)]
    split <;> exact ⟨_, rfl⟩
  | succ d ih =>
    intro i hd
    obtain ⟨k, b, hb⟩ := ih (i + 1) (by omega)
    refine ⟨k + 1, ?_⟩
    simp only [disk_isName.l0]
    rw [if_pos (by omega), if_pos (by omega), if_pos (by omega), w64 (by omega) (by omega), show ((i : Int) + 1) = ((i + 1 : Nat) : Int) by omega, hb]
    repeat' split
    all_goals exact ⟨_, rfl⟩
open Classical in
/-- May a file have that name? -/
noncomputable def nameB (x : ByteArray) : Bool := if ∃ k, disk_isName.f k x = some true then true else false
theorem name_is (x : ByteArray) (hx : x.size ≤ 140737488351232) : ∃ k, disk_isName.f k x = some (nameB x) := by
  obtain ⟨k, b, hb⟩ := name_tells x hx x.size 0 (by omega)
  have hf : disk_isName.f k x = some b := hb
  unfold nameB
  cases b with
  | true => rw [if_pos ⟨k, hf⟩]; exact ⟨k, hf⟩
  | false =>
    by_cases h : ∃ k, disk_isName.f k x = some true
    · rw [if_pos h]; exact h
    · rw [if_neg h]; exact ⟨k, hf⟩
theorem name_eq {x : ByteArray} {b : Bool} {k : Nat} (h : disk_isName.f k x = some b) : nameB x = b := by
  unfold nameB
  by_cases h2 : ∃ k, disk_isName.f k x = some true
  · rw [if_pos h2]
    obtain ⟨j, hj⟩ := h2
    have e1 := at_rounds (g := fun k => disk_isName.f k x) (fun k => disk_isName.mono_l k _ _ _) (Nat.le_max_left j k) hj
    have e2 := at_rounds (g := fun k => disk_isName.f k x) (fun k => disk_isName.mono_l k _ _ _) (Nat.le_max_right j k) h
    have := e1.symm.trans e2
    exact Option.some.inj this
  · rw [if_neg h2]
    cases b with
    | true => exact absurd ⟨k, h⟩ h2
    | false => rfl
theorem name_ok (x : ByteArray) (hx : x.size ≤ 140737488351232) (w : World) : Calls Tryd.prog 44 #[.string x] w fun e w' => e = .returned (.bool (nameB x)) ∧ ∃ n, w' = w.drewN n := by
  obtain ⟨k, hk⟩ := name_is x hx
  exact (disk_isName.calls k x _ w hk).mono fun e w' h => ⟨h.1, h.2.out⟩
theorem drewN_below (w : World) (n : Nat) : Below w.heap.size w (w.drewN n) := (Drawn0.mk ⟨n, rfl⟩).below
/-- there's code. -/
noncomputable def thereC (fs : List Fil) (x : ByteArray) : Int := if nameB x = true then (if (look fs x).isSome then 0 else 91) else 90
set_option maxRecDepth 100000 in
theorem there_ok (h : Is N w p F s m pv) (x : ByteArray) (hx : x.size ≤ 140737488351232) : Calls Tryd.prog 52 #[.pointer (some ⟨p, 0, none⟩), .string x] w fun e w' => e = .returned (.int .i64 (thereC s.fs x)) ∧ Below w.heap.size w w' := by
  obtain ⟨c0, c1, c2, c3, c4, c5⟩ := h.cells
  have hnot := not_run
  have hk := look_run h.files (x := x) (by unfold maxLen; omega)
  unfold thereC
  cases hb : nameB x with
  | false =>
    clear hk
    go_enter Tryd.func52, Tryd.ntmps52
    go_wp2_with (go_at_call 44; refine (name_ok x hx _).mono ?_; rw [hb]; rintro e w1 ⟨rfl, n, rfl⟩)
    go_ret
    exact ⟨rfl, drewN_below _ _⟩
  | true =>
    cases hl : look s.fs x with
    | none =>
      unfold at' at hk; rw [hl] at hk; simp only [Option.map_none, ptr] at hk
      have hk2 : ∀ n, (Instr.lookup 75 (.map (some m)) (.string x) false).run Tryd.prog (w.drewN n) = .ok (.pointer none) (w.drewN n) := fun n => by
        have t := look_run (h.below (drewN_below w n)).files (x := x) (by unfold maxLen; omega)
        unfold at' at t; rw [hl] at t; exact t
      go_enter Tryd.func52, Tryd.ntmps52
      go_wp2_with (go_at_call 44; refine (name_ok x hx _).mono ?_; rw [hb]; rintro e w1 ⟨rfl, n, rfl⟩)
      go_ret
      exact ⟨rfl, drewN_below _ _⟩
    | some f =>
      unfold at' at hk; rw [hl] at hk; simp only [Option.map_some, ptr] at hk
      have hk2 : ∀ n, (Instr.lookup 75 (.map (some m)) (.string x) false).run Tryd.prog (w.drewN n) = .ok (.pointer (some ⟨f.blk, 0, none⟩)) (w.drewN n) := fun n => by
        have t := look_run (h.below (drewN_below w n)).files (x := x) (by unfold maxLen; omega)
        unfold at' at t; rw [hl] at t; exact t
      go_enter Tryd.func52, Tryd.ntmps52
      go_wp2_with (go_at_call 44; refine (name_ok x hx _).mono ?_; rw [hb]; rintro e w1 ⟨rfl, n, rfl⟩)
      go_ret
      exact ⟨rfl, drewN_below _ _⟩
end Go.Proofs.YtkfehogefclhdaaDoor.Dk

/- Append, by its contract. -/
namespace Go.Proofs.YtkfehogefclhdaaDoor.Dk
open Go.RowKit Go.Maps Go.Proofs.YtkfehogefclhdaaDoorW.PrintWords Go.Proofs.YtkfehogefclhdaaDoorW.PrintMore
variable {N : Nat} {w : World} {p : Nat} {F : Nat → Prop} {s : St} {m : Nat} {pv : Value} {B : Nat} {a0 a1 a2 a3 a4 : Addr}
attribute [local go_sem] max2_int min2_int max_two min_two

noncomputable def appC (s : St) (x data : ByteArray) : Int := if nameB x = true then (if (data.size : Int) > s.quota - used s.fs then 92 else 0) else 90
set_option maxRecDepth 100000 in
set_option maxHeartbeats 1000000 in
theorem app_may (h : Is N w p F s m pv) (x data : ByteArray) (hx : x.size ≤ 140737488351232) (hd : data.size ≤ 140737488351232) {bd bn bt : Nat} (kd : w.cell? ⟨bd, 0, none⟩ = some (.pointer (some ⟨p, 0, none⟩))) (kn : w.cell? ⟨bn, 0, none⟩ = some (.string x)) (kt : w.cell? ⟨bt, 0, none⟩ = some (.string data)) :
    Calls Tryd.prog 43 #[.pointer (some ⟨bn, 0, none⟩), .pointer (some ⟨bt, 0, none⟩), .pointer (some ⟨bd, 0, none⟩)] w fun e w' => e = .returned (.int .i64 (appC s x data)) ∧ Below w.heap.size w w' := by
  obtain ⟨c0, c1, c2, c3, c4, c5⟩ := h.cells
  have hnot := not_run
  have hq := h.quo
  have hr := h.room
  unfold appC
  cases hb : nameB x with
  | false =>
    go_enter Tryd.func43, Tryd.ntmps43
    go_wp2_with (go_at_call 44; refine (name_ok x hx _).mono ?_; rw [hb]; rintro e w1 ⟨rfl, n, rfl⟩)
    go_ret
    exact ⟨rfl, drewN_below _ _⟩
  | true =>
    rw [if_pos rfl]
    obtain ⟨z, hz⟩ : ∃ z : Int, (if (data.size : Int) > s.quota - used s.fs then (92 : Int) else 0) = z := ⟨_, rfl⟩
    rw [hz]
    have HZ : Hid _ := hz
    clear hz
    have hw : IntKind.i64.wrap (s.quota - used s.fs) = s.quota - used s.fs := by rw [IntKind.wrap_i64]; omega
    have key : ∀ n, Is N (w.drewN n) p F s m pv := fun n => h.below (drewN_below w n)
    go_enter Tryd.func43, Tryd.ntmps43
    go_wp2_with (go_at_call 44; refine (name_ok x hx _).mono ?_; rw [hb]; rintro e w1 ⟨rfl, n, rfl⟩)
    go_region_held3 (fun W => W.cell? ⟨bd, 0, none⟩ = some (.pointer (some ⟨p, 0, none⟩)) ∧ W.cell? ⟨bt, 0, none⟩ = some (.string data) ∧ W.cell? ⟨p, 0, none⟩ = some (.int .i64 s.quota))
      (first | exact ⟨kd, kt, c0⟩ | exact ⟨g1, g3, g2⟩)
      (first | (go_at_call 38; refine (used_ok (key _)).mono ?_; rintro e w2 ⟨rfl, hb2⟩; have g1 : w2.cell? ⟨bd, 0, none⟩ = some (.pointer (some ⟨p, 0, none⟩)) := pw_cell_below hb2 kd; have g2 : w2.cell? ⟨p, 0, none⟩ = some (.int .i64 s.quota) := pw_cell_below hb2 c0; have g3 : w2.cell? ⟨bt, 0, none⟩ = some (.string data) := pw_cell_below hb2 kt))
    all_goals (try go_wp2)
    all_goals go_ret
    · exact ⟨by rw [← HZ.out, if_pos (by omega)]; rfl, (drewN_below w _).trans hb2⟩
    · exact ⟨by rw [← HZ.out, if_neg (by omega)]; rfl, (drewN_below w _).trans hb2⟩
/-- What is written of data within n. -/
def cutD (data : ByteArray) (n : Int) : ByteArray := data.extract 0 (min n.toNat data.size)
def putB (x : ByteArray) (b : ByteArray) (fs : List Fil) : List Fil := fs.map fun g => if g.name = x then { g with bytes := b } else g
def AppF (fs : List Fil) (x data : ByteArray) (n : Int) (fs' : List Fil) : Prop :=
  match look fs x with
  | none => ∃ b, fs' = ⟨x, b, cutD data n, 0⟩ :: fs
  | some f => fs' = putB x (f.bytes ++ cutD data n) fs
theorem cut_idx (data : ByteArray) (n : Int) : ∃ q : Nat, (if (data.size : Int) < (if n < 0 then 0 else n) then (data.size : Int) else if n < 0 then 0 else n) = (q : Int) ∧ q = min n.toNat data.size := by
  refine ⟨min n.toNat data.size, ?_, rfl⟩
  split <;> split <;> omega
set_option maxRecDepth 100000 in
set_option maxHeartbeats 1000000 in
theorem app_part_some (h : Is N w p F s m pv) (x data : ByteArray) (hx : x.size ≤ 140737488351232) (hd : data.size ≤ 140737488351232) {bd bn bt : Nat} (kd : w.cell? ⟨bd, 0, none⟩ = some (.pointer (some ⟨p, 0, none⟩))) (kn : w.cell? ⟨bn, 0, none⟩ = some (.string x)) (kt : w.cell? ⟨bt, 0, none⟩ = some (.string data)) (n : Int) {f : Fil} (hl : look s.fs x = some f) (hrm : f.bytes.size + data.size ≤ 1048576) :
    Calls Tryd.prog 45 #[.int .i64 n, .pointer (some ⟨bd, 0, none⟩), .pointer (some ⟨bn, 0, none⟩), .pointer (some ⟨bt, 0, none⟩)] w fun e w' => e = .returned (.tuple #[]) ∧ ∃ k, w' = (w.setCell ⟨f.blk, 0, none⟩ (.string (f.bytes ++ cutD data n))).drewN k := by
  obtain ⟨c0, c1, c2, c3, c4, c5⟩ := h.cells
  have hm := (look_mem hl).1
  have b0 := blk_cell (h.each f hm) 0
  have bf := blk_frozen (h.each f hm) 0
  simp only [List.getElem?_toArray, List.getElem?_cons_zero] at b0
  have hk := look_run h.files (x := x) (by unfold maxLen; omega)
  unfold at' at hk; rw [hl] at hk; simp only [Option.map_some, ptr] at hk
  have hk1 : (Instr.lookup 75 (.map (some m)) (.string x) false).run Tryd.prog w.drew = .ok (.pointer (some ⟨f.blk, 0, none⟩)) w.drew := by
    have t := look_run (w := w.drew) (h.below (Below.refl _ _).drew).files (x := x) (by unfold maxLen; omega)
    unfold at' at t; rw [hl] at t; exact t
  have hk2 : (Instr.lookup 75 (.map (some m)) (.string x) false).run Tryd.prog w.drew.drew = .ok (.pointer (some ⟨f.blk, 0, none⟩)) w.drew.drew := by
    have t := look_run (w := w.drew.drew) (h.below (Below.refl _ _).drew.drew).files (x := x) (by unfold maxLen; omega)
    unfold at' at t; rw [hl] at t; exact t
  obtain ⟨q, hq, hq2⟩ := cut_idx data n
  have e1 : cutD data n = data.extract 0 q := by unfold cutD; rw [hq2]
  rw [e1]
  have hqs : q ≤ data.size := by omega
  have k1 : (9223372036854775807 < f.bytes.size + (data.extract 0 q).size) = False := eq_false (by rw [ByteArray.size_extract]; omega)
  have k2 : (9223372036854775807 < f.bytes.size + min q data.size) = False := eq_false (by omega)
  have k3 : (9223372036854775807 < f.bytes.size + q) = False := eq_false (by omega)
  clear hq2 e1
  go_enter Tryd.func45, Tryd.ntmps45
  go_wp2
  go_region
  all_goals (try go_wp2)
  go_region
  all_goals (try go_wp2)
  all_goals (go_end0; exact ⟨rfl, 2, rfl⟩)
end Go.Proofs.YtkfehogefclhdaaDoor.Dk

/- The map of files, written: a file put in, a file taken out. -/
namespace Go.Proofs.YtkfehogefclhdaaDoor.Dk
open Go.RowKit Go.Maps Go.Proofs.YtkfehogefclhdaaDoorW.PrintWords Go.Proofs.YtkfehogefclhdaaDoorW.PrintMore
variable {N : Nat} {w : World} {p : Nat} {F : Nat → Prop} {s : St} {m : Nat} {pv : Value} {B : Nat} {a0 a1 a2 a3 a4 : Addr}

def outF (x : ByteArray) (fs : List Fil) : List Fil := fs.filter (fun g => !decide (g.name = x))
theorem look_out_same (x : ByteArray) (fs : List Fil) : look (outF x fs) x = none := by
  unfold look outF
  rw [List.find?_eq_none]
  intro f hf
  rw [List.mem_filter] at hf
  simpa using hf.2
theorem look_out_other {x y : ByteArray} (h : y ≠ x) : ∀ fs : List Fil, look (outF x fs) y = look fs y
  | [] => rfl
  | f :: r => by
    have ih := look_out_other h r
    unfold look outF at *
    rw [List.filter_cons]
    by_cases e : f.name = x
    · rw [decide_eq_true e, Bool.not_true, if_neg (by decide), ih, List.find?_cons, decide_eq_false (fun e2 => h (e2.symm.trans e))]
    · rw [decide_eq_false e, Bool.not_false, if_pos rfl, List.find?_cons, List.find?_cons, ih]
theorem out_none {x : ByteArray} {fs : List Fil} (h : look fs x = none) : outF x fs = fs := by
  unfold outF
  rw [List.filter_eq_self]
  unfold look at h
  rw [List.find?_eq_none] at h
  intro f hf
  have := h f hf
  simpa using this
theorem kl_ne {x y : ByteArray} (h : x ≠ y) : kl x ≠ kl y := fun e => h (kl_inj e)
theorem key_lit_is (x : ByteArray) : WideAt.IsKeyLit (kl x) := trivial
theorem MapIs.put {n : Nat} {fs : List Fil} (h : MapIs w m n fs) {x : ByteArray} (hx : x.size ≤ maxLen) (b : Nat) (hn : n < maxLen) :
    ∃ w', (Instr.mapUpdate 75 (.map (some m)) (.string x) (.pointer (some ⟨b, 0, none⟩))).run Tryd.prog w = .ok () w' ∧ w.grownBy w' (some m) ∧ ∀ f : Fil, f.name = x → f.blk = b → MapIs w' m (n + 1) (f :: outF x fs) := by
  obtain ⟨D, ho, h2, h3⟩ := h
  obtain ⟨w', hrun, ho2, hg⟩ := ho.update law9 Tryd.underlying75 hn (key_of hx) (rp_ptr (some b))
  refine ⟨w', hrun, hg, fun f hf hb => ⟨_, ho2, fun y => ?_, fun y => ?_⟩⟩
  · by_cases e : y = x
    · subst e
      rw [atKey_put_same ho.isMap (key_lit_is _)]
      unfold look; rw [List.find?_cons, decide_eq_true hf]; simp [hb]
    · rw [atKey_put_other (kl_ne e), h2]
      unfold look; rw [List.find?_cons, decide_eq_false (fun e2 => e (e2.symm.trans hf))]
      have := look_out_other e fs; unfold look at this; rw [this]
  · by_cases e : y = x
    · subst e
      rw [has_put_same ho.isMap (key_lit_is _)]
      unfold look; rw [List.find?_cons, decide_eq_true hf]; rfl
    · rw [has_put_other (kl_ne e), h3]
      unfold look; rw [List.find?_cons, decide_eq_false (fun e2 => e (e2.symm.trans hf))]
      have := look_out_other e fs; unfold look at this; rw [this]
theorem MapIs.del {n : Nat} {fs : List Fil} (h : MapIs w m n fs) {x : ByteArray} (hx : x.size ≤ maxLen) (ty : TypeId) :
    ∃ w', (Builtin.delete_ #[75, 9] ty #[.map (some m), .string x]).run Tryd.prog w = .ok (.tuple #[]) w' ∧ w.grownBy w' (some m) ∧ w'.heap.size = w.heap.size ∧ MapIs w' m n (outF x fs) := by
  obtain ⟨D, ho, h2, h3⟩ := h
  obtain ⟨w', hrun, ho2, ht⟩ := ho.drop law9 Tryd.underlying75 (key_of hx) ty
  refine ⟨w', hrun, ht.grown, by obtain ⟨_, _, _, _, _, e⟩ := ht; rw [e]; simp [Go.ChangeMaps.setBlock], ⟨_, ho2, fun y => ?_, fun y => ?_⟩⟩
  · by_cases e : y = x
    · subst e
      rw [atKey_del_same, look_out_same]; rfl
    · rw [atKey_del_other (kl_ne e), h2, look_out_other e]
  · by_cases e : y = x
    · subst e
      rw [has_del_same, look_out_same]; rfl
    · rw [has_del_other (kl_ne e), h3, look_out_other e]
end Go.Proofs.YtkfehogefclhdaaDoor.Dk

/- Append to a file that is not there yet. -/
namespace Go.Proofs.YtkfehogefclhdaaDoor.Dk
open Go.RowKit Go.Maps Go.Proofs.YtkfehogefclhdaaDoorW.PrintWords Go.Proofs.YtkfehogefclhdaaDoorW.PrintMore
variable {N : Nat} {w : World} {p : Nat} {F : Nat → Prop} {s : St} {m : Nat} {pv : Value} {B : Nat} {a0 a1 a2 a3 a4 : Addr}
attribute [local go_sem] max2_int min2_int max_two min_two
theorem empty_app (b : ByteArray) : (⟨#[]⟩ : ByteArray) ++ b = b := by
  apply ByteArray.ext
  simp [ByteArray.data_append]
def newObj : Obj := .cells #[.string ⟨#[]⟩, .int .i64 0] 81
set_option maxRecDepth 100000 in
set_option maxHeartbeats 1000000 in
theorem app_part_none (h : Is N w p F s m pv) (hN : N < maxLen) (x data : ByteArray) (hx : x.size ≤ 140737488351232) (hd : data.size ≤ 1048576) {bd bn bt : Nat} (kd : w.cell? ⟨bd, 0, none⟩ = some (.pointer (some ⟨p, 0, none⟩))) (kn : w.cell? ⟨bn, 0, none⟩ = some (.string x)) (kt : w.cell? ⟨bt, 0, none⟩ = some (.string data)) (n : Int) (hl : look s.fs x = none)
    (nd : bd ≠ m) (nn : bn ≠ m) (nt : bt ≠ m) :
    Calls Tryd.prog 45 #[.int .i64 n, .pointer (some ⟨bd, 0, none⟩), .pointer (some ⟨bn, 0, none⟩), .pointer (some ⟨bt, 0, none⟩)] w fun e w' => e = .returned (.tuple #[]) ∧
      ∃ W2 k, (w.alloc newObj).grownBy W2 (some m) ∧ (∀ f : Fil, f.name = x → f.blk = w.heap.size → MapIs W2 m (N + 1) (f :: outF x s.fs)) ∧ w' = (W2.setCell ⟨w.heap.size, 0, none⟩ (.string (cutD data n))).drewN k := by
  obtain ⟨c0, c1, c2, c3, c4, c5⟩ := h.cells
  have hxm : x.size ≤ maxLen := by unfold maxLen; omega
  have hk := look_run h.files (x := x) hxm
  unfold at' at hk; rw [hl] at hk; simp only [Option.map_none, ptr] at hk
  have hk1 : (Instr.lookup 75 (.map (some m)) (.string x) false).run Tryd.prog w.drew = .ok (.pointer none) w.drew := by
    have t := look_run (w := w.drew) (h.below (Below.refl _ _).drew).files (x := x) hxm
    unfold at' at t; rw [hl] at t; exact t
  obtain ⟨q, hq, hq2⟩ := cut_idx data n
  have e1 : cutD data n = data.extract 0 q := by unfold cutD; rw [hq2]
  rw [e1]
  have hqs : q ≤ data.size := by omega
  have k1 : (9223372036854775807 < (data.extract 0 q).size) = False := eq_false (by rw [ByteArray.size_extract]; omega)
  have k2 : (9223372036854775807 < min q data.size) = False := eq_false (by omega)
  have k3 : (9223372036854775807 < q) = False := eq_false (by omega)
  clear hq2 e1
  have ld := World.block_lt_of_cell? w _ kd
  have ln := World.block_lt_of_cell? w _ kn
  have lt := World.block_lt_of_cell? w _ kt
  have lp := h.low p h.inP
  have lm := h.low m h.inM
  have is1 : Is N ((w.alloc newObj).drew.drew) p F s m pv := h.below (((Below.refl _ _).alloc (Nat.le_refl _) _).drew.drew)
  obtain ⟨W2, hup, hg, hmap⟩ := is1.files.put hxm w.heap.size hN
  unfold newObj at hup
  have al : ∀ (o : Obj) (b j : Nat), b < w.heap.size → (w.alloc o).cell? ⟨b, j, none⟩ = w.cell? ⟨b, j, none⟩ := fun o b j hb => World.cell?_alloc_past _ _ _ hb
  have ad : ∀ o, (w.alloc o).cell? ⟨bd, 0, none⟩ = some (.pointer (some ⟨p, 0, none⟩)) := fun o => (al o bd 0 ld).trans kd
  have an : ∀ o, (w.alloc o).cell? ⟨bn, 0, none⟩ = some (.string x) := fun o => (al o bn 0 ln).trans kn
  have ap : ∀ o, (w.alloc o).cell? ⟨p, 1, none⟩ = some (.map (some m)) := fun o => (al o p 1 lp).trans c1
  have tr : ∀ (b j : Nat) (v : Value), b < w.heap.size → b ≠ m → w.cell? ⟨b, j, none⟩ = some v → W2.cell? ⟨b, j, none⟩ = some v := fun b j v hb hbm hv =>
    cell_of hv ((hg.block b (by show b < (w.alloc newObj).heap.size; simp; omega) (fun e => hbm (Option.some.inj e))).trans (Below.heap_alloc w newObj b hb))
  have d2 := tr bd 0 _ ld nd kd
  have n2 := tr bn 0 _ ln nn kn
  have t2 := tr bt 0 _ lt nt kt
  have p2 := tr p 1 _ lp h.ne c1
  have hnew : W2.heap[w.heap.size]? = some (.cells #[.string ⟨#[]⟩, .int .i64 0] 81 (0, 0)) :=
    (hg.block w.heap.size (by show w.heap.size < (w.alloc newObj).heap.size; simp) (fun e => by have := Option.some.inj e; omega)).trans (blk_new w newObj)
  have f0 := blk_cell hnew 0
  have ff := blk_frozen hnew 0
  simp only [List.getElem?_toArray, List.getElem?_cons_zero] at f0
  have hm2 := hmap ⟨x, w.heap.size, ⟨#[]⟩, 0⟩ rfl rfl
  have hk2 : (Instr.lookup 75 (.map (some m)) (.string x) false).run Tryd.prog W2 = .ok (.pointer (some ⟨w.heap.size, 0, none⟩)) W2 := by
    have t := look_run hm2 (x := x) hxm
    unfold at' look at t
    rw [List.find?_cons, decide_eq_true rfl] at t
    exact t
  have hk3 : (Instr.lookup 75 (.map (some m)) (.string x) false).run Tryd.prog W2.drew = .ok (.pointer (some ⟨w.heap.size, 0, none⟩)) W2.drew := by
    have t := look_run (w := W2.drew) (hm2.kept rfl) (x := x) hxm
    unfold at' look at t
    rw [List.find?_cons, decide_eq_true rfl] at t
    exact t
  have HM : Hid _ := hmap
  have HG : Hid _ := hg
  clear hmap hg tr al hm2 hnew is1
  go_enter Tryd.func45, Tryd.ntmps45
  go_wp2
  go_region
  all_goals (try go_wp2)
  go_region_held3 (fun W => W.cell? ⟨bd, 0, none⟩ = some (.pointer (some ⟨p, 0, none⟩)) ∧ W.cell? ⟨bn, 0, none⟩ = some (.string x) ∧ W.cell? ⟨p, 1, none⟩ = some (.map (some m)))
    (first | exact ⟨kd, kn, c1⟩ | exact ⟨ad _, an _, ap _⟩ | exact ⟨d2, n2, p2⟩)
    (fail)
  all_goals (try go_wp2)
  go_still_tail 19, (by kernel_rfl)
  all_goals (try go_wp2)
  all_goals (go_end0; exact ⟨rfl, W2, ⟨HG.out.os, HG.out.tape, HG.out.output, HG.out.size, HG.out.block⟩, HM.out, 1, by rw [empty_app]; rfl⟩)
theorem used_put {x : ByteArray} {b : ByteArray} {f : Fil} : ∀ {fs : List Fil}, fs.Pairwise (fun f g => f.name ≠ g.name) → f ∈ fs → f.name = x → used (putB x b fs) + f.bytes.size = used fs + b.size
  | [], _, h, _ => by cases h
  | g :: r, hp, hm, hn => by
    rw [List.pairwise_cons] at hp
    unfold putB used
    rw [List.map_cons, List.map_cons, List.sum_cons, List.map_cons, List.sum_cons]
    rcases List.mem_cons.1 hm with e | hm
    · subst e
      rw [if_pos hn]
      have e2 : r.map (fun g => if g.name = x then { g with bytes := b } else g) = r := by
        conv => rhs; rw [← List.map_id r]
        exact List.map_congr_left (fun k hk => by rw [if_neg (fun e => hp.1 k hk (hn.trans e.symm))]; rfl)
      rw [e2]
      show b.size + _ + f.bytes.size = f.bytes.size + _ + b.size
      omega
    · have ih := used_put (x := x) (b := b) hp.2 hm hn
      unfold putB used at ih
      rw [if_neg (fun e => hp.1 f hm (e.trans hn.symm))]
      omega
theorem cut_size (data : ByteArray) (n : Int) : (cutD data n).size ≤ data.size := by unfold cutD; rw [ByteArray.size_extract]; omega
/-- Behind the part of Append: a file that was there. -/
theorem Is.app_some (h : Is N w p F s m pv) {x : ByteArray} {f : Fil} (hl : look s.fs x = some f) (b : ByteArray) (hle : f.bytes.size ≤ b.size) (hr : (used s.fs : Int) + b.size ≤ s.quota + f.bytes.size) (k : Nat) :
    Is (N + 1) ((w.setCell ⟨f.blk, 0, none⟩ (.string b)).drewN k) p F { s with fs := putB x b s.fs } m pv ∧ Fr F w ((w.setCell ⟨f.blk, 0, none⟩ (.string b)).drewN k) := by
  obtain ⟨hm, hn⟩ := look_mem hl
  have hty := h.types hm
  have hset := blk_set (h.each f hm) 0 (.string b)
  have hfr : Fr F w ((w.setCell ⟨f.blk, 0, none⟩ (.string b)).drewN k) := by
    have t := (Fr.refl F w).set (a := ⟨f.blk, 0, none⟩) (h.inF f hm) (.string b)
    exact ⟨t.os, t.tape, t.output, t.size, t.block⟩
  have far : ∀ i, i ≠ f.blk → ((w.setCell ⟨f.blk, 0, none⟩ (.string b)).drewN k).heap[i]? = w.heap[i]? := fun i hi => Below.heap_setCell w ⟨f.blk, 0, none⟩ _ i hi
  refine ⟨⟨(far p (Ne.symm hty.1)).trans h.top, ?_, ?_, ?_, ?_, ?_, ?_, ?_, h.quo, h.inP, h.inM, ?_, ?_⟩, hfr⟩
  · have t := (h.files.kept (far m (Ne.symm hty.2))).map (g := fun g => if g.name = x then { g with bytes := b } else g) (fun g => by split <;> rfl) (fun g => by split <;> rfl)
    obtain ⟨D, h1, h2⟩ := t
    exact ⟨D, h1.mono (Nat.le_succ _), h2⟩
  · obtain ⟨A, c, e, h1, h2, h3⟩ := h.plan
    refine ⟨A, c, e, h1, h2, fun i y hy => ?_⟩
    obtain ⟨g, o, ha, hg, ⟨cs, k0⟩, k1, k2, k3⟩ := h3 i y hy
    have hne : g ≠ f.blk := fun e => by rw [e] at k0; have := (h.each f hm).symm.trans k0; simp at this
    exact ⟨g, o, ha, hg, ⟨cs, (far g hne).trans k0⟩, cell_of k1 (far g hne), cell_of k2 (far g hne), cell_of k3 (far g hne)⟩
  · intro g hg
    obtain ⟨g0, hg0, rfl⟩ := List.mem_map.1 hg
    by_cases e : g0.name = x
    · have e2 : g0 = f := name_inj h.names hg0 hm (e.trans hn.symm)
      subst e2
      rw [if_pos e]
      exact hset
    · rw [if_neg e]
      have hne : g0.blk ≠ f.blk := fun e2 => e (by rw [blk_inj h.blks hg0 hm e2]; exact hn)
      exact (far g0.blk hne).trans (h.each g0 hg0)
  · show (s.fs.map _).Pairwise _
    rw [List.pairwise_map]
    refine h.names.imp ?_
    intro a c hac
    split <;> split <;> exact hac
  · show (s.fs.map _).Pairwise _
    rw [List.pairwise_map]
    refine h.blks.imp ?_
    intro a c hac
    split <;> split <;> exact hac
  · intro g hg
    obtain ⟨g0, hg0, rfl⟩ := List.mem_map.1 hg
    by_cases e : g0.name = x
    · have e2 : g0 = f := name_inj h.names hg0 hm (e.trans hn.symm)
      subst e2
      rw [if_pos e]
      exact Nat.le_trans (h.durs g0 hg0) hle
    · rw [if_neg e]; exact h.durs g0 hg0
  · have := used_put (b := b) h.names hm hn
    show (used (putB x b s.fs) : Int) ≤ s.quota
    omega
  · intro g hg
    obtain ⟨g0, hg0, rfl⟩ := List.mem_map.1 hg
    have := h.inF g0 hg0
    split <;> exact this
  · intro i hi
    exact Nat.lt_of_lt_of_le (h.low i hi) hfr.size
/-- Behind the part of Append: a new file. -/
theorem Is.app_new (h : Is N w p F s m pv) {x : ByteArray} (hl : look s.fs x = none) (b : ByteArray) (hr : (used s.fs : Int) + b.size ≤ s.quota) {W2 : World} (hg : (w.alloc newObj).grownBy W2 (some m)) (hmap : ∀ f : Fil, f.name = x → f.blk = w.heap.size → MapIs W2 m (N + 1) (f :: outF x s.fs)) (k : Nat) :
    Is (N + 1) ((W2.setCell ⟨w.heap.size, 0, none⟩ (.string b)).drewN k) p (fun i => F i ∨ i = w.heap.size) { s with fs := ⟨x, w.heap.size, b, 0⟩ :: s.fs } m pv ∧ Fr F w ((W2.setCell ⟨w.heap.size, 0, none⟩ (.string b)).drewN k) := by
  have lm := h.low m h.inM
  have hsz : W2.heap.size ≥ w.heap.size + 1 := by have := hg.size; simpa using this
  have far : ∀ i, i < w.heap.size → i ≠ m → ((W2.setCell ⟨w.heap.size, 0, none⟩ (.string b)).drewN k).heap[i]? = w.heap[i]? := fun i hi hm =>
    (Below.heap_setCell W2 ⟨w.heap.size, 0, none⟩ (.string b) i (by show i ≠ w.heap.size; omega)).trans ((hg.block i (by show i < (w.alloc newObj).heap.size; simp; omega) (fun e => hm (Option.some.inj e))).trans (Below.heap_alloc w newObj i hi))
  have hnew : W2.heap[w.heap.size]? = some (.cells #[.string ⟨#[]⟩, .int .i64 0] 81 (0, 0)) :=
    (hg.block w.heap.size (by show w.heap.size < (w.alloc newObj).heap.size; simp) (fun e => by have := Option.some.inj e; omega)).trans (blk_new w newObj)
  have hset := blk_set hnew 0 (.string b)
  have hfr : Fr F w ((W2.setCell ⟨w.heap.size, 0, none⟩ (.string b)).drewN k) :=
    ⟨hg.os, hg.tape, hg.output, by show w.heap.size ≤ (W2.setCell _ _).heap.size; simp [World.setCell]; omega, fun i hi hn => far i hi (fun e => hn (by rw [e]; exact h.inM))⟩
  have lowf : ∀ g ∈ s.fs, g.blk < w.heap.size := fun g hg => h.low _ (h.inF g hg)
  refine ⟨⟨(far p (h.low p h.inP) h.ne).trans h.top, ?_, ?_, ?_, ?_, ?_, ?_, ?_, h.quo, .inl h.inP, .inl h.inM, ?_, ?_⟩, hfr⟩
  · have t := hmap ⟨x, w.heap.size, b, 0⟩ rfl rfl
    rw [out_none hl] at t
    exact t.kept (Below.heap_setCell W2 ⟨w.heap.size, 0, none⟩ _ m (by show m ≠ w.heap.size; omega))
  · obtain ⟨A, c, e, h1, h2, h3⟩ := h.plan
    refine ⟨A, c, e, h1, h2, fun i y hy => ?_⟩
    obtain ⟨g, o, ha, hg, ⟨cs, k0⟩, k1, k2, k3⟩ := h3 i y hy
    have hne : g ≠ m := fun e => by
      obtain ⟨D, ⟨es, clock, hb, _⟩, _⟩ := h.files
      rw [e, hb] at k0; cases k0
    have hf := far g (h.low g hg) hne
    exact ⟨g, o, ha, .inl hg, ⟨cs, hf.trans k0⟩, cell_of k1 hf, cell_of k2 hf, cell_of k3 hf⟩
  · intro g hg
    rcases List.mem_cons.1 hg with rfl | hg
    · exact hset
    · exact (far g.blk (lowf g hg) (h.types hg).2).trans (h.each g hg)
  · rw [List.pairwise_cons]
    refine ⟨fun g hg e => ?_, h.names⟩
    have := look_has hg
    rw [← e, hl] at this
    cases this
  · rw [List.pairwise_cons]
    exact ⟨fun g hg e => by have := lowf g hg; have e2 : w.heap.size = g.blk := e; omega, h.blks⟩
  · intro g hg
    rcases List.mem_cons.1 hg with rfl | hg
    · exact Nat.zero_le _
    · exact h.durs g hg
  · show ((used (⟨x, w.heap.size, b, 0⟩ :: s.fs) : Nat) : Int) ≤ s.quota
    unfold used at *
    rw [List.map_cons, List.sum_cons]
    show ((b.size + _ : Nat) : Int) ≤ _
    omega
  · intro g hg
    rcases List.mem_cons.1 hg with rfl | hg
    · exact .inr rfl
    · exact .inl (h.inF g hg)
  · intro i hi
    have : w.heap.size + 1 ≤ ((W2.setCell ⟨w.heap.size, 0, none⟩ (.string b)).drewN k).heap.size := by show _ ≤ (W2.setCell _ _).heap.size; simp [World.setCell]; omega
    rcases hi with hi | rfl
    · have := h.low i hi; omega
    · omega
end Go.Proofs.YtkfehogefclhdaaDoor.Dk

/- Append, whole. -/
namespace Go.Proofs.YtkfehogefclhdaaDoor.Dk
open Go.RowKit Go.Maps Go.Proofs.YtkfehogefclhdaaDoorW.PrintWords Go.Proofs.YtkfehogefclhdaaDoorW.PrintMore
variable {N : Nat} {w : World} {p : Nat} {F : Nat → Prop} {s : St} {m : Nat} {pv : Value} {B : Nat} {a0 a1 a2 a3 a4 : Addr}

theorem app_part (h : Is N w p F s m pv) (hN : N < maxLen) (x data : ByteArray) (hx : x.size ≤ 140737488351232) (hd : (data.size : Int) ≤ s.quota - used s.fs) {bd bn bt : Nat} (kd : w.cell? ⟨bd, 0, none⟩ = some (.pointer (some ⟨p, 0, none⟩))) (kn : w.cell? ⟨bn, 0, none⟩ = some (.string x)) (kt : w.cell? ⟨bt, 0, none⟩ = some (.string data)) (n : Int)
    (nd : bd ≠ m) (nn : bn ≠ m) (nt : bt ≠ m) :
    Calls Tryd.prog 45 #[.int .i64 n, .pointer (some ⟨bd, 0, none⟩), .pointer (some ⟨bn, 0, none⟩), .pointer (some ⟨bt, 0, none⟩)] w fun e w' => e = .returned (.tuple #[]) ∧
      ∃ F' fs', AppF s.fs x data n fs' ∧ Is (N + 1) w' p F' { s with fs := fs' } m pv ∧ Fr F w w' ∧ Sub w F F' := by
  have hq := h.quo
  have hcs := cut_size data n
  cases hl : look s.fs x with
  | none =>
    refine (app_part_none h hN x data hx (by omega) kd kn kt n hl nd nn nt).mono ?_
    rintro e w' ⟨rfl, W2, k, hg, hmap, rfl⟩
    obtain ⟨h1, h2⟩ := h.app_new hl (cutD data n) (by omega) hg hmap k
    refine ⟨rfl, _, _, ?_, h1, h2, ?_⟩
    · unfold AppF; rw [hl]; exact ⟨_, rfl⟩
    · intro i hi
      rcases hi with hi | rfl
      · exact .inl hi
      · exact .inr (Nat.le_refl _)
  | some f =>
    have hu := used_mem (look_mem hl).1
    refine (app_part_some h x data hx (by omega) kd kn kt n hl (by omega)).mono ?_
    rintro e w' ⟨rfl, k, rfl⟩
    obtain ⟨h1, h2⟩ := h.app_some hl (f.bytes ++ cutD data n) (by rw [ByteArray.size_append]; omega) (by rw [ByteArray.size_append]; omega) k
    refine ⟨rfl, _, _, ?_, h1, h2, Sub.refl _ _⟩
    unfold AppF; rw [hl]
set_option maxRecDepth 100000 in
theorem app_whole (h : Is N w p F s m pv) (hN : N < maxLen) (x data : ByteArray) (hx : x.size ≤ 140737488351232) (hd : (data.size : Int) ≤ s.quota - used s.fs) {bd bn bt bp : Nat} (kd : w.cell? ⟨bd, 0, none⟩ = some (.pointer (some ⟨p, 0, none⟩))) (kn : w.cell? ⟨bn, 0, none⟩ = some (.string x)) (kt : w.cell? ⟨bt, 0, none⟩ = some (.string data))
    (kp : w.cell? ⟨bp, 0, none⟩ = some (.func (.func 45) #[] #[.pointer (some ⟨bd, 0, none⟩), .pointer (some ⟨bn, 0, none⟩), .pointer (some ⟨bt, 0, none⟩)])) (nd : bd ≠ m) (nn : bn ≠ m) (nt : bt ≠ m) :
    Calls Tryd.prog 47 #[.pointer (some ⟨bp, 0, none⟩), .pointer (some ⟨bt, 0, none⟩)] w fun e w' => e = .returned (.tuple #[]) ∧
      ∃ F' fs', AppF s.fs x data data.size fs' ∧ Is (N + 1) w' p F' { s with fs := fs' } m pv ∧ Fr F w w' ∧ Sub w F F' := by
  go_enter Tryd.func47, Tryd.ntmps47
  go_wp2_with (go_at_call 45; refine (app_part h hN x data hx hd kd kn kt data.size nd nn nt).mono ?_; rintro e w' ⟨rfl, hh⟩)
  go_end0
  exact ⟨rfl, hh⟩
/-- What comes of an operation, for its caller. -/
inductive Done (s : St) (a0 a1 a2 a3 a4 : Addr) (code : Int) (Pf : Int → List Fil → Prop) (Wf : List Fil → Prop) (w' : World) (v : Value) : St → Prop
  | down : s.run = false → IsErr w' v a0 → Done s a0 a1 a2 a3 a4 code Pf Wf w' v s
  | due {x rest fs'} : s.run = true → s.plan = x :: rest → x.1 = s.since + 1 → IsErr w' v a0 → (code = 0 → Pf x.2.1 fs') → (code ≠ 0 → fs' = s.fs) → Done s a0 a1 a2 a3 a4 code Pf Wf w' v (s.halt rest fs' x.2.2)
  | err : s.run = true → ¬ Due s → code ≠ 0 → IsErr w' v (why a0 a1 a2 a3 a4 code) → Done s a0 a1 a2 a3 a4 code Pf Wf w' v s.tick
  | ok {fs'} : s.run = true → ¬ Due s → code = 0 → v = .nilIface → Wf fs' → Done s a0 a1 a2 a3 a4 code Pf Wf w' v { s.tick with fs := fs' }
def OpRes (N : Nat) (w : World) (p : Nat) (F : Nat → Prop) (s : St) (m : Nat) (a0 a1 a2 a3 a4 : Addr) (code : Int) (Pf : Int → List Fil → Prop) (Wf : List Fil → Prop) (v : Value) (w' : World) : Prop :=
  ∃ F' s' pv', Is (N + 1) w' p F' s' m pv' ∧ Fr F w w' ∧ Sub w F F' ∧ Done s a0 a1 a2 a3 a4 code Pf Wf w' v s'
theorem Res.opRes {w1 w' : World} {C : Nat → Prop} {code : Int} {Pf : Int → List Fil → Prop} {Wf : List Fil → Prop} {Out : World → Prop} {v : Value} (hr : Res N w1 p F C s m a0 a1 a2 a3 a4 code Pf Wf Out v w') (hb : Below w.heap.size w w1) (hC : ∀ i, C i → w.heap.size ≤ i) :
    OpRes N w p F s m a0 a1 a2 a3 a4 code Pf Wf v w' := by
  obtain ⟨F', s', pv', h1, h2, h3, h4⟩ := hr
  refine ⟨F', s', pv', h1, ⟨h2.os.trans hb.os, h2.tape.trans hb.tape, h2.output.trans hb.output, Nat.le_trans hb.size h2.size, fun i hi hn => (h2.block i (Nat.lt_of_lt_of_le hi hb.size) (fun e => by
    rcases e with e | e
    · exact hn e
    · have := hC i e; omega)).trans (hb.block i hi)⟩, h3.trans' hb.size, ?_⟩
  cases h4 with
  | down a b c => exact .down a b
  | due a b c d e f g => exact .due a b c d f g
  | err a b c d e => exact .err a b c d
  | ok a b c d e f => exact .ok a b c d e
theorem ent43 : Enters Tryd.prog 43 := enters_of Tryd.func43 (by kernel_rfl) rfl
theorem ent45 : Enters Tryd.prog 45 := enters_of Tryd.func45 (by kernel_rfl) rfl
theorem ent47 : Enters Tryd.prog 47 := enters_of Tryd.func47 (by kernel_rfl) rfl
theorem appC_zero {x data : ByteArray} (h : appC s x data = 0) : (data.size : Int) ≤ s.quota - used s.fs := by
  unfold appC at h
  split at h
  · split at h
    · cases h
    · omega
  · cases h
theorem appC_same {s1 : St} (e1 : s1.fs = s.fs) (e2 : s1.quota = s.quota) (x data : ByteArray) : appC s1 x data = appC s x data := by unfold appC; rw [e1, e2]
theorem app_clo (h : Is N w p F s m pv) (hN : N < maxLen) (x data : ByteArray) (hx : x.size ≤ 140737488351232) (hd : data.size ≤ 140737488351232) {bd bn bt bp : Nat} (kd : w.cell? ⟨bd, 0, none⟩ = some (.pointer (some ⟨p, 0, none⟩))) (kn : w.cell? ⟨bn, 0, none⟩ = some (.string x)) (kt : w.cell? ⟨bt, 0, none⟩ = some (.string data))
    (kp : w.cell? ⟨bp, 0, none⟩ = some (.func (.func 45) #[] #[.pointer (some ⟨bd, 0, none⟩), .pointer (some ⟨bn, 0, none⟩), .pointer (some ⟨bt, 0, none⟩)])) (nF : ∀ i, i = bd ∨ i = bn ∨ i = bt ∨ i = bp → ¬ F i) :
    Clo N w p F (fun i => i = bd ∨ i = bn ∨ i = bt ∨ i = bp) s m (appC s x data) 43 47 45 #[.pointer (some ⟨bn, 0, none⟩), .pointer (some ⟨bt, 0, none⟩), .pointer (some ⟨bd, 0, none⟩)] #[.pointer (some ⟨bp, 0, none⟩), .pointer (some ⟨bt, 0, none⟩)] #[.pointer (some ⟨bd, 0, none⟩), .pointer (some ⟨bn, 0, none⟩), .pointer (some ⟨bt, 0, none⟩)]
      (AppF s.fs x data) (AppF s.fs x data data.size) (fun _ => True) (fun _ => False) where
  may := fun w1 s1 pv1 on => by
    rw [← appC_same on.fs on.quo]
    exact app_may on.is x data hx hd (cell_of kd (on.cap bd (.inl rfl))) (cell_of kn (on.cap bn (.inr (.inl rfl)))) (cell_of kt (on.cap bt (.inr (.inr (.inl rfl)))))
  part := fun h0 w1 s1 pv1 n on => by
    have hm := nF
    refine (app_part on.is hN x data hx (by rw [on.fs, on.quo]; exact appC_zero h0) (cell_of kd (on.cap bd (.inl rfl))) (cell_of kn (on.cap bn (.inr (.inl rfl)))) (cell_of kt (on.cap bt (.inr (.inr (.inl rfl))))) n
      (fun e => nF bd (.inl rfl) (e ▸ h.inM)) (fun e => nF bn (.inr (.inl rfl)) (e ▸ h.inM)) (fun e => nF bt (.inr (.inr (.inl rfl))) (e ▸ h.inM))).mono ?_
    rintro e w' ⟨rfl, F', fs', h1, h2, h3, h4⟩
    rw [on.fs] at h1
    exact ⟨rfl, F', fs', h1, h2, h3, h4⟩
  whole := fun h0 w1 s1 pv1 on => by
    refine (app_whole on.is hN x data hx (by rw [on.fs, on.quo]; exact appC_zero h0) (cell_of kd (on.cap bd (.inl rfl))) (cell_of kn (on.cap bn (.inr (.inl rfl)))) (cell_of kt (on.cap bt (.inr (.inr (.inl rfl))))) (cell_of kp (on.cap bp (.inr (.inr (.inr rfl)))))
      (fun e => nF bd (.inl rfl) (e ▸ h.inM)) (fun e => nF bn (.inr (.inl rfl)) (e ▸ h.inM)) (fun e => nF bt (.inr (.inr (.inl rfl))) (e ▸ h.inM))).mono ?_
    rintro e w' ⟨rfl, F', fs', h1, h2, h3, h4⟩
    rw [on.fs] at h1
    exact ⟨rfl, F', fs', h1, h2, h3.or _, h4, trivial⟩
  em := ent43
  ew := ent47
  ep := ent45
  sep := fun i hi => ⟨by
    rcases hi with rfl | rfl | rfl | rfl
    · exact World.block_lt_of_cell? w _ kd
    · exact World.block_lt_of_cell? w _ kn
    · exact World.block_lt_of_cell? w _ kt
    · exact World.block_lt_of_cell? w _ kp, nF i hi⟩
set_option maxRecDepth 100000 in
set_option maxHeartbeats 1000000 in
theorem append_ok (h : Is N w p F s m pv) (hN : N < maxLen) (hS : Sens w B a0 a1 a2 a3 a4) (hB : ∀ i, F i → B ≤ i) (hs0 : 0 ≤ s.steps) (hs1 : s.steps < 1000000000000) (hs2 : 0 ≤ s.since) (hs3 : s.since < 1000000000000) (x data : ByteArray) (hx : x.size ≤ 140737488351232) (hd : data.size ≤ 140737488351232) :
    Calls Tryd.prog 12 #[.pointer (some ⟨p, 0, none⟩), .string x, .string data] w fun e w' => ∃ v, e = .returned v ∧ OpRes N w p F s m a0 a1 a2 a3 a4 (appC s x data) (AppF s.fs x data) (AppF s.fs x data data.size) v w' := by
  have hmf : ∀ (fn : Fn) (first cap : Array Value) (w : World), (Instr.makeFunc fn first cap).run Tryd.prog w = .ok (.func fn first cap) w := fun _ _ _ _ => rfl
  obtain ⟨o1, ho1⟩ : ∃ o, o = Obj.cells #[.pointer (some ⟨p, 0, none⟩)] 23 := ⟨_, rfl⟩
  obtain ⟨o2, ho2⟩ : ∃ o, o = Obj.cells #[.string x] 9 := ⟨_, rfl⟩
  obtain ⟨o3, ho3⟩ : ∃ o, o = Obj.cells #[.string data] 9 := ⟨_, rfl⟩
  obtain ⟨o4, ho4⟩ : ∃ o, o = Obj.cells #[.nilFunc] 82 := ⟨_, rfl⟩
  obtain ⟨o5, ho5⟩ : ∃ o, o = Obj.cells #[.func (.func 45) #[] #[.pointer (some ⟨w.heap.size, 0, none⟩), .pointer (some ⟨w.heap.size + 1, 0, none⟩), .pointer (some ⟨w.heap.size + 1 + 1, 0, none⟩)]] 82 := ⟨_, rfl⟩
  have z1 : (w.alloc o1).heap.size = w.heap.size + 1 := by simp
  have z2 : ((w.alloc o1).alloc o2).heap.size = w.heap.size + 1 + 1 := by simp
  have z3 : (((w.alloc o1).alloc o2).alloc o3).heap.size = w.heap.size + 1 + 1 + 1 := by simp
  have b1 := blk_new w o1
  have b2 := blk_new (w.alloc o1) o2
  have b3 := blk_new ((w.alloc o1).alloc o2) o3
  have b4 := blk_new (((w.alloc o1).alloc o2).alloc o3) o4
  have b5 := blk_new (((w.alloc o1).alloc o2).alloc o3) o5
  rw [z1] at b2
  rw [z2] at b3
  rw [z3] at b4 b5
  have b1' := blk_alloc (blk_alloc (blk_alloc b1 o2) o3) o5
  have b2' := blk_alloc (blk_alloc b2 o3) o5
  have b3' := blk_alloc b3 o5
  have hW : Below w.heap.size w ((((w.alloc o1).alloc o2).alloc o3).alloc o5) := ((((Below.refl _ w).alloc (Nat.le_refl _) o1).alloc (by rw [z1]; omega) o2).alloc (by rw [z2]; omega) o3).alloc (by rw [z3]; omega) o5
  subst ho1 ho2 ho3 ho4 ho5
  have e4 := blk_cell b4 0
  have f4 := blk_frozen b4 0
  simp only [List.getElem?_toArray, List.getElem?_cons_zero] at e4
  have k1 := blk_cell b1' 0
  have k2 := blk_cell b2' 0
  have k3 := blk_cell b3' 0
  have k4 := blk_cell b5 0
  clear b1 b2 b3 b4 b5 b1' b2' b3' z1 z2 z3
  have hcl := app_clo (h.below hW) hN x data hx hd (bd := w.heap.size) (bn := w.heap.size + 1) (bt := w.heap.size + 1 + 1) (bp := w.heap.size + 1 + 1 + 1) k1 k2 k3 k4 (fun i hi hF => by have := h.low i hF; omega)
  have hS' := hS.below (hW.mono (Nat.le_trans (hB p h.inP) (Nat.le_of_lt (h.low p h.inP))))
  have hop := op_any (h.below hW) hS' hB hs0 hs1 hs2 hs3 ⟨#[97, 112, 112, 101, 110, 100]⟩ x hcl
  have HOP : Hid _ := hop
  clear hop hcl
  have HW : Hid _ := hW
  go_enter Tryd.func12, Tryd.ntmps12
  go_wp2_with (go_at_call 46; refine Calls.mono HOP.out ?_; rintro e w' ⟨v, rfl, hres⟩)
  go_ret
  exact ⟨v, rfl, hres.opRes HW.out (fun i hi => hi.elim)⟩
end Go.Proofs.YtkfehogefclhdaaDoor.Dk

/- simple and orNothing, by contract: an operation on a file that is there. -/
namespace Go.Proofs.YtkfehogefclhdaaDoor.Dk
open Go.RowKit Go.Maps Go.Proofs.YtkfehogefclhdaaDoorW.PrintWords Go.Proofs.YtkfehogefclhdaaDoorW.PrintMore
variable {N : Nat} {w : World} {p : Nat} {F : Nat → Prop} {s : St} {m : Nat} {pv : Value} {B : Nat} {a0 a1 a2 a3 a4 : Addr}

theorem ent79 : Enters Tryd.prog 79 := enters_of Tryd.func79 (by kernel_rfl) rfl
theorem ent80 : Enters Tryd.prog 80 := enters_of Tryd.func80 (by kernel_rfl) rfl
theorem ent81 : Enters Tryd.prog 81 := enters_of Tryd.func81 (by kernel_rfl) rfl
set_option maxRecDepth 100000 in
theorem or_ok (kd : Nat) (cd : Array Value) (w : World) : Calls Tryd.prog 54 #[.func (.func kd) #[] cd] w fun e w' => e = .returned (.func (.func 81) #[] #[.pointer (some ⟨w.heap.size, 0, none⟩)]) ∧ w' = w.alloc (.cells #[.func (.func kd) #[] cd] 1) := by
  have hmf : ∀ (fn : Fn) (first cap : Array Value) (w : World), (Instr.makeFunc fn first cap).run Tryd.prog w = .ok (.func fn first cap) w := fun _ _ _ _ => rfl
  go_enter Tryd.func54, Tryd.ntmps54
  go_wp2
  go_ret
  exact ⟨rfl, rfl⟩
set_option maxRecDepth 100000 in
theorem or_yes {kd : Nat} {cd : Array Value} {bo : Nat} (hE : Enters Tryd.prog kd) (ko : w.cell? ⟨bo, 0, none⟩ = some (.func (.func kd) #[] cd)) {n : Int} (hn : n ≥ 1) {Q : World → Prop} (hd : Calls Tryd.prog kd cd w fun e w' => e = .returned (.tuple #[]) ∧ Q w') :
    Calls Tryd.prog 81 #[.int .i64 n, .pointer (some ⟨bo, 0, none⟩)] w fun e w' => e = .returned (.tuple #[]) ∧ Q w' := by
  have hE' : ∀ (xs : Array Value) (w : World), (callFunc kd xs).run Tryd.prog w = .ok (.enter kd xs) w := hE
  have HD : Hid _ := hd
  clear hd
  go_enter Tryd.func81, Tryd.ntmps81
  go_wp2_with (refine Calls.mono HD.out ?_; rintro e w' ⟨rfl, hq⟩)
  go_end0
  exact ⟨rfl, hq⟩
set_option maxRecDepth 100000 in
theorem or_no {bo : Nat} {n : Int} (hn : ¬ n ≥ 1) :
    Calls Tryd.prog 81 #[.int .i64 n, .pointer (some ⟨bo, 0, none⟩)] w fun e w' => e = .returned (.tuple #[]) ∧ w' = w := by
  go_enter Tryd.func81, Tryd.ntmps81
  go_wp2
  go_end0
  exact ⟨rfl, rfl⟩
set_option maxRecDepth 100000 in
theorem may_there (h : Is N w p F s m pv) (x : ByteArray) (hx : x.size ≤ 140737488351232) {bd bn : Nat} (kd : w.cell? ⟨bd, 0, none⟩ = some (.pointer (some ⟨p, 0, none⟩))) (kn : w.cell? ⟨bn, 0, none⟩ = some (.string x)) :
    Calls Tryd.prog 80 #[.pointer (some ⟨bd, 0, none⟩), .pointer (some ⟨bn, 0, none⟩)] w fun e w' => e = .returned (.int .i64 (thereC s.fs x)) ∧ Below w.heap.size w w' := by
  go_enter Tryd.func80, Tryd.ntmps80
  go_wp2_with (go_at_call 52; refine (there_ok h x hx).mono ?_; rintro e w' ⟨rfl, hb⟩)
  go_ret
  exact ⟨rfl, hb⟩
set_option maxRecDepth 100000 in
theorem do_ok (h : Is N w p F s m pv) (x : ByteArray) (hx : x.size ≤ 140737488351232) {bd bn bw : Nat} (kd : w.cell? ⟨bd, 0, none⟩ = some (.pointer (some ⟨p, 0, none⟩))) (kn : w.cell? ⟨bn, 0, none⟩ = some (.string x)) {kf : Nat} {cf : Array Value} (hE : Enters Tryd.prog kf)
    (kw : w.cell? ⟨bw, 0, none⟩ = some (.func (.func kf) #[] cf)) {f : Fil} (hl : look s.fs x = some f) {Q : World → Prop} (hf : Calls Tryd.prog kf (#[.pointer (some ⟨f.blk, 0, none⟩)] ++ cf) w.drew fun e w' => e = .returned (.tuple #[]) ∧ Q w') :
    Calls Tryd.prog 79 #[.pointer (some ⟨bw, 0, none⟩), .pointer (some ⟨bd, 0, none⟩), .pointer (some ⟨bn, 0, none⟩)] w fun e w' => e = .returned (.tuple #[]) ∧ Q w' := by
  obtain ⟨c0, c1, c2, c3, c4, c5⟩ := h.cells
  have hk1 : (Instr.lookup 75 (.map (some m)) (.string x) false).run Tryd.prog w.drew = .ok (.pointer (some ⟨f.blk, 0, none⟩)) w.drew := by
    have t := look_run (w := w.drew) (h.below (Below.refl _ _).drew).files (x := x) (by unfold maxLen; omega)
    unfold at' at t; rw [hl] at t; exact t
  have hE' : ∀ (xs : Array Value) (w : World), (callFunc kf xs).run Tryd.prog w = .ok (.enter kf xs) w := hE
  have HF : Hid _ := hf
  clear hf
  go_enter Tryd.func79, Tryd.ntmps79
  go_wp2
  go_still_tail 7, (by kernel_rfl)
  all_goals go_wp2_with (refine Calls.mono HF.out ?_; rintro e w' ⟨rfl, hq⟩)
  go_end0
  exact ⟨rfl, hq⟩
theorem On.outer {w5 w1 : World} {C Cx : Nat → Prop} {s1 : St} {pv1 : Value} (on : On N w5 p F C s m w1 s1 pv1) (hb : Below w.heap.size w w5) (hC : ∀ i, Cx i → C i) (hCx : ∀ i, Cx i → i < w.heap.size) : On N w p F Cx s m w1 s1 pv1 :=
  ⟨on.is, on.fs, on.quo, fun i hi => (on.cap i (hC i hi)).trans (hb.block i (hCx i hi)), Nat.le_trans hb.size on.size⟩
theorem there_zero {fs : List Fil} {x : ByteArray} (h : thereC fs x = 0) : ∃ f, look fs x = some f := by
  unfold thereC at h
  split at h
  · split at h
    · rename_i h1 h2; exact Option.isSome_iff_exists.1 h2
    · cases h
  · cases h
def orF (fs : List Fil) (Wf : List Fil → Prop) (n : Int) (fs' : List Fil) : Prop := if n ≥ 1 then Wf fs' else fs' = fs
/-- What is asked of what is done to the file. -/
def Does (N : Nat) (w : World) (p : Nat) (F Cx : Nat → Prop) (s : St) (m : Nat) (x : ByteArray) (kf : Nat) (cf : Array Value) (Wf : List Fil → Prop) : Prop :=
  ∀ w1 s1 pv1 f, On N w p F Cx s m w1 s1 pv1 → look s.fs x = some f → Calls Tryd.prog kf (#[.pointer (some ⟨f.blk, 0, none⟩)] ++ cf) w1 fun e w' => e = .returned (.tuple #[]) ∧ ∃ F' fs', Wf fs' ∧ Is (N + 1) w' p F' { s1 with fs := fs' } m pv1 ∧ Fr F w1 w' ∧ Sub w1 F F'
theorem simple_clo {w5 : World} (h : Is N w5 p F s m pv) (hb : Below w.heap.size w w5) (x : ByteArray) (hx : x.size ≤ 140737488351232) {kf : Nat} {cf : Array Value} (hE : Enters Tryd.prog kf) {Cx : Nat → Prop} (hCx : ∀ i, Cx i → i < w.heap.size ∧ ¬ F i) {Wf : List Fil → Prop} (hkf : Does N w p F Cx s m x kf cf Wf)
    {bd bn bw bo : Nat} (kd : w5.cell? ⟨bd, 0, none⟩ = some (.pointer (some ⟨p, 0, none⟩))) (kn : w5.cell? ⟨bn, 0, none⟩ = some (.string x)) (kw : w5.cell? ⟨bw, 0, none⟩ = some (.func (.func kf) #[] cf))
    (ko : w5.cell? ⟨bo, 0, none⟩ = some (.func (.func 79) #[] #[.pointer (some ⟨bw, 0, none⟩), .pointer (some ⟨bd, 0, none⟩), .pointer (some ⟨bn, 0, none⟩)])) (nF : ∀ i, i = bd ∨ i = bn ∨ i = bw ∨ i = bo → ¬ F i) :
    Clo N w5 p F (fun i => Cx i ∨ i = bd ∨ i = bn ∨ i = bw ∨ i = bo) s m (thereC s.fs x) 80 79 81 #[.pointer (some ⟨bd, 0, none⟩), .pointer (some ⟨bn, 0, none⟩)] #[.pointer (some ⟨bw, 0, none⟩), .pointer (some ⟨bd, 0, none⟩), .pointer (some ⟨bn, 0, none⟩)] #[.pointer (some ⟨bo, 0, none⟩)]
      (orF s.fs Wf) Wf (fun _ => True) (fun _ => False) := by
  have hsep : ∀ i, (Cx i ∨ i = bd ∨ i = bn ∨ i = bw ∨ i = bo) → i < w5.heap.size ∧ ¬ F i := fun i hi => by
    rcases hi with hi | rfl | rfl | rfl | rfl
    · exact ⟨Nat.lt_of_lt_of_le (hCx i hi).1 hb.size, (hCx i hi).2⟩
    · exact ⟨World.block_lt_of_cell? w5 _ kd, nF _ (.inl rfl)⟩
    · exact ⟨World.block_lt_of_cell? w5 _ kn, nF _ (.inr (.inl rfl))⟩
    · exact ⟨World.block_lt_of_cell? w5 _ kw, nF _ (.inr (.inr (.inl rfl)))⟩
    · exact ⟨World.block_lt_of_cell? w5 _ ko, nF _ (.inr (.inr (.inr rfl)))⟩
  have hdo : thereC s.fs x = 0 → ∀ w1 s1 pv1, On N w5 p F (fun i => Cx i ∨ i = bd ∨ i = bn ∨ i = bw ∨ i = bo) s m w1 s1 pv1 → Calls Tryd.prog 79 #[.pointer (some ⟨bw, 0, none⟩), .pointer (some ⟨bd, 0, none⟩), .pointer (some ⟨bn, 0, none⟩)] w1 fun e w' => e = .returned (.tuple #[]) ∧ ∃ F' fs', Wf fs' ∧ Is (N + 1) w' p F' { s1 with fs := fs' } m pv1 ∧ Fr F w1 w' ∧ Sub w1 F F' := by
    intro h0 w1 s1 pv1 on
    obtain ⟨f, hf⟩ := there_zero h0
    have on' := (on.below hsep (Below.refl _ w1).drew).outer hb (Cx := Cx) (fun i hi => .inl hi) (fun i hi => (hCx i hi).1)
    refine do_ok on.is x hx (cell_of kd (on.cap bd (.inr (.inl rfl)))) (cell_of kn (on.cap bn (.inr (.inr (.inl rfl))))) hE (cell_of kw (on.cap bw (.inr (.inr (.inr (.inl rfl)))))) (by rw [on.fs]; exact hf) ?_
    refine (hkf w1.drew s1 pv1 f on' hf).mono ?_
    rintro e w' ⟨rfl, F', fs', h1, h2, h3, h4⟩
    exact ⟨rfl, F', fs', h1, h2, ⟨h3.os, h3.tape, h3.output, h3.size, h3.block⟩, h4⟩
  exact {
    may := fun w1 s1 pv1 on => by
      rw [← on.fs]
      exact may_there on.is x hx (cell_of kd (on.cap bd (.inr (.inl rfl)))) (cell_of kn (on.cap bn (.inr (.inr (.inl rfl)))))
    part := fun h0 w1 s1 pv1 n on => by
      have ko' := cell_of ko (on.cap bo (.inr (.inr (.inr (.inr rfl)))))
      by_cases hn : n ≥ 1
      · refine (or_yes ent79 ko' hn (hdo h0 w1 s1 pv1 on)).mono ?_
        rintro e w' ⟨rfl, F', fs', h1, h2, h3, h4⟩
        exact ⟨rfl, F', fs', by unfold orF; rw [if_pos hn]; exact h1, h2, h3, h4⟩
      · refine (or_no hn).mono ?_
        rintro e w' ⟨rfl, rfl⟩
        refine ⟨rfl, F, s.fs, by unfold orF; rw [if_neg hn], ?_, Fr.refl _ _, Sub.refl _ _⟩
        have t := on.is.more
        have e1 : ({ s1 with fs := s.fs } : St) = s1 := by rw [← on.fs]
        rw [e1]; exact t
    whole := fun h0 w1 s1 pv1 on => by
      refine (hdo h0 w1 s1 pv1 on).mono ?_
      rintro e w' ⟨rfl, F', fs', h1, h2, h3, h4⟩
      exact ⟨rfl, F', fs', h1, h2, h3.or _, h4, trivial⟩
    em := ent80
    ew := ent79
    ep := ent81
    sep := hsep }
theorem Res.kept {w' : World} {code : Int} {Pf : Int → List Fil → Prop} {Wf : List Fil → Prop} {Out : World → Prop} {v : Value} (hr : Res N w p F (fun _ => False) s m a0 a1 a2 a3 a4 code Pf Wf Out v w') {b : Nat} {u : Value} (hc : w.cell? ⟨b, 0, none⟩ = some u) (hn : ¬ F b) : w'.cell? ⟨b, 0, none⟩ = some u := by
  obtain ⟨F', s', pv', h1, h2, h3, h4⟩ := hr
  exact cell_of hc (h2.block b (World.block_lt_of_cell? w _ hc) (fun e => e.elim hn id))
set_option maxRecDepth 100000 in
set_option maxHeartbeats 1000000 in
theorem simple_ok (h : Is N w p F s m pv) (hS : Sens w B a0 a1 a2 a3 a4) (hB : ∀ i, F i → B ≤ i) (hs0 : 0 ≤ s.steps) (hs1 : s.steps < 1000000000000) (hs2 : 0 ≤ s.since) (hs3 : s.since < 1000000000000) (op x : ByteArray) (hx : x.size ≤ 140737488351232) {kf : Nat} {cf : Array Value} (hE : Enters Tryd.prog kf) {Cx : Nat → Prop} (hCx : ∀ i, Cx i → i < w.heap.size ∧ ¬ F i) {Wf : List Fil → Prop} (hkf : Does N w p F Cx s m x kf cf Wf) :
    Calls Tryd.prog 48 #[.pointer (some ⟨p, 0, none⟩), .string op, .string x, .func (.func kf) #[] cf] w fun e w' => ∃ v, e = .returned v ∧ OpRes N w p F s m a0 a1 a2 a3 a4 (thereC s.fs x) (orF s.fs Wf) Wf v w' := by
  have hmf : ∀ (fn : Fn) (first cap : Array Value) (w : World), (Instr.makeFunc fn first cap).run Tryd.prog w = .ok (.func fn first cap) w := fun _ _ _ _ => rfl
  obtain ⟨o1, ho1⟩ : ∃ o, o = Obj.cells #[.pointer (some ⟨p, 0, none⟩)] 23 := ⟨_, rfl⟩
  obtain ⟨o2, ho2⟩ : ∃ o, o = Obj.cells #[.string x] 9 := ⟨_, rfl⟩
  obtain ⟨o3, ho3⟩ : ∃ o, o = Obj.cells #[.func (.func kf) #[] cf] 85 := ⟨_, rfl⟩
  obtain ⟨o4, ho4⟩ : ∃ o, o = Obj.cells #[.func (.func 79) #[] #[.pointer (some ⟨w.heap.size + 1 + 1, 0, none⟩), .pointer (some ⟨w.heap.size, 0, none⟩), .pointer (some ⟨w.heap.size + 1, 0, none⟩)]] 1 := ⟨_, rfl⟩
  have z1 : (w.alloc o1).heap.size = w.heap.size + 1 := by simp
  have z2 : ((w.alloc o1).alloc o2).heap.size = w.heap.size + 1 + 1 := by simp
  have z3 : (((w.alloc o1).alloc o2).alloc o3).heap.size = w.heap.size + 1 + 1 + 1 := by simp
  have b1 := blk_new w o1
  have b2 := blk_new (w.alloc o1) o2
  have b3 := blk_new ((w.alloc o1).alloc o2) o3
  have b4 := blk_new (((w.alloc o1).alloc o2).alloc o3) o4
  rw [z1] at b2
  rw [z2] at b3
  rw [z3] at b4
  have hW : Below w.heap.size w ((((w.alloc o1).alloc o2).alloc o3).alloc o4).drew := (((((Below.refl _ w).alloc (Nat.le_refl _) o1).alloc (by rw [z1]; omega) o2).alloc (by rw [z2]; omega) o3).alloc (by rw [z3]; omega) o4).drew
  have c1 := blk_alloc (blk_alloc b1 o2) o3
  have c2 := blk_alloc b2 o3
  have b1' := blk_alloc (blk_alloc (blk_alloc b1 o2) o3) o4
  have b2' := blk_alloc (blk_alloc b2 o3) o4
  have b3' := blk_alloc b3 o4
  subst ho1 ho2 ho3 ho4
  have g1 := blk_cell c1 0
  have g2 := blk_cell c2 0
  simp only [List.getElem?_toArray, List.getElem?_cons_zero] at g1 g2
  have hcl := simple_clo (w5 := (((((w.alloc (Obj.cells #[.pointer (some ⟨p, 0, none⟩)] 23)).alloc (Obj.cells #[.string x] 9)).alloc (Obj.cells #[.func (.func kf) #[] cf] 85)).alloc (Obj.cells #[.func (.func 79) #[] #[.pointer (some ⟨w.heap.size + 1 + 1, 0, none⟩), .pointer (some ⟨w.heap.size, 0, none⟩), .pointer (some ⟨w.heap.size + 1, 0, none⟩)]] 1)).drew)) (h.below hW) hW x hx hE hCx hkf (bd := w.heap.size) (bn := w.heap.size + 1) (bw := w.heap.size + 1 + 1) (bo := w.heap.size + 1 + 1 + 1) (blk_cell b1' 0) (blk_cell b2' 0) (blk_cell b3' 0) (blk_cell b4 0) (fun i hi hF => by have := h.low i hF; omega)
  obtain ⟨w3, hw3⟩ : ∃ w3, (((w.alloc (Obj.cells #[.pointer (some ⟨p, 0, none⟩)] 23)).alloc (Obj.cells #[.string x] 9)).alloc (Obj.cells #[.func (.func kf) #[] cf] 85)) = w3 := ⟨_, rfl⟩
  rw [hw3] at g1 g2 z3
  clear b1 b2 b3 b4 b1' b2' b3' c1 c2
  have hS' := hS.below (hW.mono (Nat.le_trans (hB p h.inP) (Nat.le_of_lt (h.low p h.inP))))
  have hop := op_any (h.below hW) hS' hB hs0 hs1 hs2 hs3 op x hcl
  have hW2 := hW
  rw [hw3] at hop hW2
  have HOP : Hid _ := hop
  have HW : Hid _ := hW2
  have HW3 : Hid _ := hw3
  clear hop hcl hW hW2 hS' hkf hw3 z1 z2
  have al : ∀ (o : Obj) {b : Nat} {v : Value}, w3.cell? ⟨b, 0, none⟩ = some v → (w3.alloc o).drew.cell? ⟨b, 0, none⟩ = some v := fun o b v hv => (World.cell?_alloc_past _ _ _ (World.block_lt_of_cell? w3 _ hv)).trans hv
  have nF1 : ¬ F w.heap.size := fun e => by have := h.low _ e; omega
  have nF2 : ¬ F (w.heap.size + 1) := fun e => by have := h.low _ e; omega
  go_enter Tryd.func48, Tryd.ntmps48
  go_wp2
  rw [HW3.out]
  go_region_held3 (fun W => W.cell? ⟨w.heap.size, 0, none⟩ = some (.pointer (some ⟨p, 0, none⟩)) ∧ W.cell? ⟨w.heap.size + 1, 0, none⟩ = some (.string x))
    (first | exact ⟨g1, g2⟩ | exact ⟨al _ g1, al _ g2⟩ | exact ⟨r1, r2⟩)
    (first
    | (go_at_call 54; refine (or_ok _ _ _).mono ?_; rintro e w' ⟨rfl, rfl⟩; rw [show w3.drew.heap.size = w.heap.size + 1 + 1 + 1 from z3])
    | (go_at_call 46; refine Calls.mono HOP.out ?_; rintro e w' ⟨v, rfl, hres⟩; have r1 := hres.kept (al _ g1) nF1; have r2 := hres.kept (al _ g2) nF2))
  all_goals (try go_wp2)
  all_goals go_ret
  all_goals exact ⟨v, rfl, hres.opRes HW.out (fun i hi => hi.elim)⟩
end Go.Proofs.YtkfehogefclhdaaDoor.Dk

/- Sync and Remove, by their contracts. -/
namespace Go.Proofs.YtkfehogefclhdaaDoor.Dk
open Go.RowKit Go.Maps Go.Proofs.YtkfehogefclhdaaDoorW.PrintWords Go.Proofs.YtkfehogefclhdaaDoorW.PrintMore
variable {N : Nat} {w : World} {p : Nat} {F : Nat → Prop} {s : St} {m : Nat} {pv : Value} {B : Nat} {a0 a1 a2 a3 a4 : Addr}

def setF (x : ByteArray) (f' : Fil) (fs : List Fil) : List Fil := fs.map fun g => if g.name = x then f' else g
/-- One file written over, in place. -/
theorem Is.setFile (h : Is N w p F s m pv) {x : ByteArray} {f f' : Fil} (hl : look s.fs x = some f) (en : f'.name = f.name) (eb : f'.blk = f.blk) (hsz : f'.bytes.size ≤ f.bytes.size) (hdu : f'.dur ≤ f'.bytes.size) {w' : World} (hset : w'.heap[f.blk]? = some (.cells #[.string f'.bytes, .int .i64 f'.dur] 81 (0, 0))) (far : ∀ i, i ≠ f.blk → w'.heap[i]? = w.heap[i]?) (hs : w.heap.size ≤ w'.heap.size) :
    Is N w' p F { s with fs := setF x f' s.fs } m pv := by
  obtain ⟨hm, hn⟩ := look_mem hl
  have hty := h.types hm
  have key : ∀ g ∈ s.fs, (if g.name = x then f' else g).name = g.name ∧ (if g.name = x then f' else g).blk = g.blk := fun g hg => by
    by_cases e : g.name = x
    · have e2 : g = f := name_inj h.names hg hm (e.trans hn.symm)
      rw [if_pos e, e2]; exact ⟨en, eb⟩
    · rw [if_neg e]; exact ⟨rfl, rfl⟩
  have hused : used (setF x f' s.fs) ≤ used s.fs := used_map s.fs (fun g hg => by
    by_cases e : g.name = x
    · have e2 : g = f := name_inj h.names hg hm (e.trans hn.symm)
      rw [if_pos e, e2]; exact hsz
    · rw [if_neg e]; exact Nat.le_refl _)
  refine ⟨(far p (Ne.symm hty.1)).trans h.top, ?_, ?_, ?_, ?_, ?_, ?_, ?_, h.quo, h.inP, h.inM, ?_, ?_⟩
  · have t := h.files.kept (far m (Ne.symm hty.2))
    obtain ⟨D, h1, h2, h3⟩ := t
    have look2 : ∀ (fs : List Fil) (y : ByteArray), (∀ g ∈ fs, (if g.name = x then f' else g).name = g.name ∧ (if g.name = x then f' else g).blk = g.blk) → (look (setF x f' fs) y).map Fil.blk = (look fs y).map Fil.blk ∧ (look (setF x f' fs) y).isSome = (look fs y).isSome := by
      intro fs y
      induction fs with
      | nil => intro _; exact ⟨rfl, rfl⟩
      | cons a r ih =>
        intro hk
        have hka := hk a List.mem_cons_self
        have ih' := ih (fun g hg => hk g (List.mem_cons_of_mem _ hg))
        unfold look setF at *
        rw [List.map_cons, List.find?_cons, List.find?_cons, hka.1]
        cases decide (a.name = y) with
        | true => exact ⟨congrArg some hka.2, rfl⟩
        | false => exact ih'
    exact ⟨D, h1, fun y => by rw [h2, (look2 s.fs y key).1], fun y => by rw [h3, (look2 s.fs y key).2]⟩
  · obtain ⟨A, c, e, h1, h2, h3⟩ := h.plan
    refine ⟨A, c, e, h1, h2, fun i y hy => ?_⟩
    obtain ⟨g, o, ha, hg, ⟨cs, k0⟩, k1, k2, k3⟩ := h3 i y hy
    have hne : g ≠ f.blk := fun e => by rw [e] at k0; have := (h.each f hm).symm.trans k0; simp at this
    exact ⟨g, o, ha, hg, ⟨cs, (far g hne).trans k0⟩, cell_of k1 (far g hne), cell_of k2 (far g hne), cell_of k3 (far g hne)⟩
  · intro g hg
    obtain ⟨g0, hg0, rfl⟩ := List.mem_map.1 hg
    by_cases e : g0.name = x
    · rw [if_pos e, eb]; exact hset
    · rw [if_neg e]
      have hne : g0.blk ≠ f.blk := fun e2 => e (by rw [blk_inj h.blks hg0 hm e2]; exact hn)
      exact (far g0.blk hne).trans (h.each g0 hg0)
  · show (s.fs.map _).Pairwise _
    rw [List.pairwise_map]
    exact List.Pairwise.imp_of_mem (fun ha hb hac => by rw [(key _ ha).1, (key _ hb).1]; exact hac) h.names
  · show (s.fs.map _).Pairwise _
    rw [List.pairwise_map]
    exact List.Pairwise.imp_of_mem (fun ha hb hac => by rw [(key _ ha).2, (key _ hb).2]; exact hac) h.blks
  · intro g hg
    obtain ⟨g0, hg0, rfl⟩ := List.mem_map.1 hg
    by_cases e : g0.name = x
    · rw [if_pos e]; exact hdu
    · rw [if_neg e]; exact h.durs g0 hg0
  · have := h.room
    show (used (setF x f' s.fs) : Int) ≤ s.quota
    omega
  · intro g hg
    obtain ⟨g0, hg0, rfl⟩ := List.mem_map.1 hg
    rw [(key g0 hg0).2]; exact h.inF g0 hg0
  · intro i hi
    exact Nat.lt_of_lt_of_le (h.low i hi) hs
def syncFil (f : Fil) : Fil := { f with dur := f.bytes.size }
def SyncF (fs : List Fil) (x : ByteArray) (fs' : List Fil) : Prop := ∃ f, look fs x = some f ∧ fs' = setF x (syncFil f) fs
theorem ent49 : Enters Tryd.prog 49 := enters_of Tryd.func49 (by kernel_rfl) rfl
theorem ent55 : Enters Tryd.prog 55 := enters_of Tryd.func55 (by kernel_rfl) rfl
set_option maxRecDepth 100000 in
theorem sync_does (h : Is N w p F s m pv) (x : ByteArray) : Does N w p F (fun _ => False) s m x 49 #[] (SyncF s.fs x) := by
  intro w1 s1 pv1 f on hl
  have hl1 : look s1.fs x = some f := by rw [on.fs]; exact hl
  have hm := (look_mem hl1).1
  have he := on.is.each f hm
  have b0 := blk_cell he 0
  have b1 := blk_cell he 1
  have bf := blk_frozen he
  simp only [List.getElem?_toArray, List.getElem?_cons_zero, List.getElem?_cons_succ] at b0 b1
  have hset := blk_set he 1 (.int .i64 (f.bytes.size : Nat))
  have hfin := on.is.setFile (f' := syncFil f) hl1 rfl rfl (Nat.le_refl _) (Nat.le_refl _) (w' := w1.setCell ⟨f.blk, 1, none⟩ (.int .i64 (f.bytes.size : Nat))) hset (fun i hi => Below.heap_setCell w1 ⟨f.blk, 1, none⟩ _ i hi) (by simp [World.setCell])
  have hfr := (Fr.refl F w1).set (a := ⟨f.blk, 1, none⟩) (on.is.inF f hm) (.int .i64 (f.bytes.size : Nat))
  have HFIN : Hid _ := hfin
  have HFR : Hid _ := hfr
  clear hset he hfin hfr
  show Calls Tryd.prog 49 #[.pointer (some ⟨f.blk, 0, none⟩)] w1 _
  go_enter Tryd.func49, Tryd.ntmps49
  go_wp2
  go_end0
  exact ⟨rfl, F, _, ⟨f, by rw [← on.fs]; exact hl1, by rw [on.fs]⟩, HFIN.out.more, HFR.out, Sub.refl _ _⟩
set_option maxRecDepth 100000 in
theorem sync_ok (h : Is N w p F s m pv) (hS : Sens w B a0 a1 a2 a3 a4) (hB : ∀ i, F i → B ≤ i) (hs0 : 0 ≤ s.steps) (hs1 : s.steps < 1000000000000) (hs2 : 0 ≤ s.since) (hs3 : s.since < 1000000000000) (x : ByteArray) (hx : x.size ≤ 140737488351232) :
    Calls Tryd.prog 13 #[.pointer (some ⟨p, 0, none⟩), .string x] w fun e w' => ∃ v, e = .returned v ∧ OpRes N w p F s m a0 a1 a2 a3 a4 (thereC s.fs x) (orF s.fs (SyncF s.fs x)) (SyncF s.fs x) v w' := by
  have hop := simple_ok h hS hB hs0 hs1 hs2 hs3 ⟨#[115, 121, 110, 99]⟩ x hx ent49 (Cx := fun _ => False) (fun i hi => hi.elim) (sync_does h x)
  have HOP : Hid _ := hop
  clear hop
  go_enter Tryd.func13, Tryd.ntmps13
  go_wp2_with (go_at_call 48; refine Calls.mono HOP.out ?_; rintro e w' ⟨v, rfl, hres⟩)
  go_ret
  exact ⟨v, rfl, hres⟩
end Go.Proofs.YtkfehogefclhdaaDoor.Dk

/- Remove, by its contract. -/
namespace Go.Proofs.YtkfehogefclhdaaDoor.Dk
open Go.RowKit Go.Maps Go.Proofs.YtkfehogefclhdaaDoorW.PrintWords Go.Proofs.YtkfehogefclhdaaDoorW.PrintMore
variable {N : Nat} {w : World} {p : Nat} {F : Nat → Prop} {s : St} {m : Nat} {pv : Value} {B : Nat} {a0 a1 a2 a3 a4 : Addr}

theorem used_out (x : ByteArray) : ∀ fs : List Fil, used (outF x fs) ≤ used fs
  | [] => Nat.le_refl _
  | f :: r => by
    have ih := used_out x r
    unfold used outF at *
    rw [List.filter_cons, List.map_cons, List.sum_cons]
    split
    · rw [List.map_cons, List.sum_cons]; omega
    · omega
/-- The map has turned: other files are in it, of those that were there. -/
theorem Is.turned (h : Is N w p F s m pv) {w' : World} {N' : Nat} (hg : w.grownBy w' (some m)) {fs' : List Fil} (hmap : MapIs w' m N' fs') (hsub : ∀ f ∈ fs', ∃ g ∈ s.fs, f.blk = g.blk ∧ f.bytes = g.bytes ∧ f.dur = g.dur) (hn : fs'.Pairwise (fun f g => f.name ≠ g.name)) (hb : fs'.Pairwise (fun f g => f.blk ≠ g.blk)) (hu : used fs' ≤ used s.fs) :
    Is N' w' p F { s with fs := fs' } m pv := by
  have far : ∀ i, i < w.heap.size → i ≠ m → w'.heap[i]? = w.heap[i]? := fun i hi hm => hg.block i hi (fun e => hm (Option.some.inj e))
  refine ⟨(far p (h.low p h.inP) h.ne).trans h.top, hmap, ?_, ?_, hn, hb, ?_, ?_, h.quo, h.inP, h.inM, ?_, ?_⟩
  · obtain ⟨A, c, e, h1, h2, h3⟩ := h.plan
    refine ⟨A, c, e, h1, h2, fun i y hy => ?_⟩
    obtain ⟨g, o, ha, hg', ⟨cs, k0⟩, k1, k2, k3⟩ := h3 i y hy
    have hne : g ≠ m := fun e => by
      obtain ⟨D, ⟨es, clock, hb, _⟩, _⟩ := h.files
      rw [e, hb] at k0; cases k0
    have hf := far g (h.low g hg') hne
    exact ⟨g, o, ha, hg', ⟨cs, hf.trans k0⟩, cell_of k1 hf, cell_of k2 hf, cell_of k3 hf⟩
  · intro f hf
    obtain ⟨g, hg', e1, e2, e3⟩ := hsub f hf
    rw [e1, e2, e3]
    exact (far g.blk (h.low _ (h.inF g hg')) (h.types hg').2).trans (h.each g hg')
  · intro f hf
    obtain ⟨g, hg', e1, e2, e3⟩ := hsub f hf
    rw [e2, e3]; exact h.durs g hg'
  · have := h.room
    show (used fs' : Int) ≤ s.quota
    omega
  · intro f hf
    obtain ⟨g, hg', e1, e2, e3⟩ := hsub f hf
    rw [e1]; exact h.inF g hg'
  · intro i hi
    exact Nat.lt_of_lt_of_le (h.low i hi) hg.size
theorem OpRes.since {w1 w' : World} {code : Int} {Pf : Int → List Fil → Prop} {Wf : List Fil → Prop} {v : Value} (hr : OpRes N w1 p F s m a0 a1 a2 a3 a4 code Pf Wf v w') (hb : Below w.heap.size w w1) : OpRes N w p F s m a0 a1 a2 a3 a4 code Pf Wf v w' := by
  obtain ⟨F', s', pv', h1, h2, h3, h4⟩ := hr
  exact ⟨F', s', pv', h1, (Fr.of_below hb F).trans (Sub.refl _ _) h2, h3.trans' hb.size, h4⟩
theorem grown_fr {w' : World} (hm : F m) (hg : w.grownBy w' (some m)) : Fr F w w' := (Fr.refl F w).grown hg (fun k hk => by cases hk; exact .inr hm)
set_option maxRecDepth 100000 in
theorem remove_does (h : Is N w p F s m pv) (x : ByteArray) (hx : x.size ≤ 140737488351232) {bd bn : Nat} (kd : w.cell? ⟨bd, 0, none⟩ = some (.pointer (some ⟨p, 0, none⟩))) (kn : w.cell? ⟨bn, 0, none⟩ = some (.string x)) :
    Does N w p F (fun i => i = bd ∨ i = bn) s m x 55 #[.pointer (some ⟨bd, 0, none⟩), .pointer (some ⟨bn, 0, none⟩)] (fun fs' => fs' = outF x s.fs) := by
  intro w1 s1 pv1 f on hl
  obtain ⟨c0, c1, c2, c3, c4, c5⟩ := on.is.cells
  have kd1 := cell_of kd (on.cap bd (.inl rfl))
  have kn1 := cell_of kn (on.cap bn (.inr rfl))
  have isd : Is N w1.drew p F s1 m pv1 := on.is.below (Below.refl _ _).drew
  obtain ⟨w2, hrun, hg, hsz, hmap⟩ := isd.files.del (x := x) (by unfold maxLen; omega) 0
  have hfin := isd.turned hg hmap (fun f hf => ⟨f, (List.mem_filter.1 hf).1, rfl, rfl, rfl⟩) (on.is.names.filter _) (on.is.blks.filter _) (used_out x _)
  have hfr := grown_fr (F := F) on.is.inM hg
  have HFIN : Hid _ := hfin
  have HFR : Hid _ := hfr
  clear hfin hfr hmap hg hsz isd
  show Calls Tryd.prog 55 #[.pointer (some ⟨f.blk, 0, none⟩), .pointer (some ⟨bd, 0, none⟩), .pointer (some ⟨bn, 0, none⟩)] w1 _
  go_enter Tryd.func55, Tryd.ntmps55
  go_wp2
  go_still_tail 5, (by kernel_rfl)
  all_goals go_wp2
  go_end0
  exact ⟨rfl, F, _, by rw [on.fs], HFIN.out.more, ⟨HFR.out.os, HFR.out.tape, HFR.out.output, HFR.out.size, HFR.out.block⟩, Sub.refl _ _⟩
set_option maxRecDepth 100000 in
theorem remove_ok (h : Is N w p F s m pv) (hS : Sens w B a0 a1 a2 a3 a4) (hB : ∀ i, F i → B ≤ i) (hs0 : 0 ≤ s.steps) (hs1 : s.steps < 1000000000000) (hs2 : 0 ≤ s.since) (hs3 : s.since < 1000000000000) (x : ByteArray) (hx : x.size ≤ 140737488351232) :
    Calls Tryd.prog 16 #[.pointer (some ⟨p, 0, none⟩), .string x] w fun e w' => ∃ v, e = .returned v ∧ OpRes N w p F s m a0 a1 a2 a3 a4 (thereC s.fs x) (orF s.fs (fun fs' => fs' = outF x s.fs)) (fun fs' => fs' = outF x s.fs) v w' := by
  have hmf : ∀ (fn : Fn) (first cap : Array Value) (w : World), (Instr.makeFunc fn first cap).run Tryd.prog w = .ok (.func fn first cap) w := fun _ _ _ _ => rfl
  obtain ⟨o1, ho1⟩ : ∃ o, o = Obj.cells #[.pointer (some ⟨p, 0, none⟩)] 23 := ⟨_, rfl⟩
  obtain ⟨o2, ho2⟩ : ∃ o, o = Obj.cells #[.string x] 9 := ⟨_, rfl⟩
  have z1 : (w.alloc o1).heap.size = w.heap.size + 1 := by simp
  have z2 : ((w.alloc o1).alloc o2).heap.size = w.heap.size + 1 + 1 := by simp
  have b1 := blk_new w o1
  have b2 := blk_new (w.alloc o1) o2
  rw [z1] at b2
  have b1' := blk_alloc b1 o2
  have hW : Below w.heap.size w ((w.alloc o1).alloc o2) := ((Below.refl _ w).alloc (Nat.le_refl _) o1).alloc (by rw [z1]; omega) o2
  subst ho1 ho2
  have g1 := blk_cell b1' 0
  have g2 := blk_cell b2 0
  simp only [List.getElem?_toArray, List.getElem?_cons_zero] at g1 g2
  have hS' := hS.below (hW.mono (Nat.le_trans (hB p h.inP) (Nat.le_of_lt (h.low p h.inP))))
  have hop := simple_ok (h.below hW) hS' hB hs0 hs1 hs2 hs3 ⟨#[114, 101, 109, 111, 118, 101]⟩ x hx ent55 (Cx := fun i => i = w.heap.size ∨ i = w.heap.size + 1) (fun i hi => ⟨by rw [z2]; omega, fun e => by have := h.low i e; omega⟩) (remove_does (h.below hW) x hx g1 g2)
  have HOP : Hid _ := hop
  have HW : Hid _ := hW
  clear hop hW hS' b1 b2 b1' z1 z2
  go_enter Tryd.func16, Tryd.ntmps16
  go_wp2_with (go_at_call 48; refine Calls.mono HOP.out ?_; rintro e w' ⟨v, rfl, hres⟩)
  go_ret
  exact ⟨v, rfl, hres.since HW.out⟩
end Go.Proofs.YtkfehogefclhdaaDoor.Dk

/- Read, by its contract. -/
namespace Go.Proofs.YtkfehogefclhdaaDoor.Dk
open Go.RowKit Go.Maps Go.Proofs.YtkfehogefclhdaaDoorW.PrintWords Go.Proofs.YtkfehogefclhdaaDoorW.PrintMore
variable {N : Nat} {w : World} {p : Nat} {F : Nat → Prop} {s : St} {m : Nat} {pv : Value} {B : Nat} {a0 a1 a2 a3 a4 : Addr}

theorem ent58 : Enters Tryd.prog 58 := enters_of Tryd.func58 (by kernel_rfl) rfl
theorem ent59 : Enters Tryd.prog 59 := enters_of Tryd.func59 (by kernel_rfl) rfl
theorem ent60 : Enters Tryd.prog 60 := enters_of Tryd.func60 (by kernel_rfl) rfl
set_option maxRecDepth 100000 in
theorem may_there58 (h : Is N w p F s m pv) (x : ByteArray) (hx : x.size ≤ 140737488351232) {bd bn : Nat} (kd : w.cell? ⟨bd, 0, none⟩ = some (.pointer (some ⟨p, 0, none⟩))) (kn : w.cell? ⟨bn, 0, none⟩ = some (.string x)) :
    Calls Tryd.prog 58 #[.pointer (some ⟨bd, 0, none⟩), .pointer (some ⟨bn, 0, none⟩)] w fun e w' => e = .returned (.int .i64 (thereC s.fs x)) ∧ Below w.heap.size w w' := by
  go_enter Tryd.func58, Tryd.ntmps58
  go_wp2_with (go_at_call 52; refine (there_ok h x hx).mono ?_; rintro e w' ⟨rfl, hb⟩)
  go_ret
  exact ⟨rfl, hb⟩
set_option maxRecDepth 100000 in
theorem part60 (n : Int) (w : World) : Calls Tryd.prog 60 #[.int .i64 n] w fun e w' => e = .returned (.tuple #[]) ∧ w' = w := by
  go_enter Tryd.func60, Tryd.ntmps60
  try go_wp2
  go_end0
  exact ⟨rfl, rfl⟩
set_option maxRecDepth 100000 in
theorem whole59 (h : Is N w p F s m pv) (x : ByteArray) (hx : x.size ≤ 140737488351232) {bd bn bo : Nat} (kd : w.cell? ⟨bd, 0, none⟩ = some (.pointer (some ⟨p, 0, none⟩))) (kn : w.cell? ⟨bn, 0, none⟩ = some (.string x)) {u : Value} (ko : w.cell? ⟨bo, 0, none⟩ = some u) (fo : w.frozen? ⟨bo, 0, none⟩ = false) {f : Fil} (hl : look s.fs x = some f) :
    Calls Tryd.prog 59 #[.pointer (some ⟨bd, 0, none⟩), .pointer (some ⟨bn, 0, none⟩), .pointer (some ⟨bo, 0, none⟩)] w fun e w' => e = .returned (.tuple #[]) ∧ w' = (w.setCell ⟨bo, 0, none⟩ (.string f.bytes)).drew := by
  obtain ⟨c0, c1, c2, c3, c4, c5⟩ := h.cells
  have hm := (look_mem hl).1
  have b0 := blk_cell (h.each f hm) 0
  simp only [List.getElem?_toArray, List.getElem?_cons_zero] at b0
  have hk1 : (Instr.lookup 75 (.map (some m)) (.string x) false).run Tryd.prog w.drew = .ok (.pointer (some ⟨f.blk, 0, none⟩)) w.drew := by
    have t := look_run (w := w.drew) (h.below (Below.refl _ _).drew).files (x := x) (by unfold maxLen; omega)
    unfold at' at t; rw [hl] at t; exact t
  go_enter Tryd.func59, Tryd.ntmps59
  go_wp2
  go_still_tail 9, (by kernel_rfl)
  all_goals go_wp2
  go_end0
  exact ⟨rfl, rfl⟩
/-- What Read tells. -/
def Told (s : St) (x : ByteArray) (r : ByteArray) (v : Value) : Prop := (v = .nilIface → ∃ f, look s.fs x = some f ∧ r = f.bytes) ∧ (v ≠ .nilIface → r = ⟨#[]⟩)
theorem err_ne {w' : World} {v : Value} {a : Addr} (h : IsErr w' v a) : v ≠ .nilIface := by
  obtain ⟨q, _, _, _, _, rfl, _⟩ := h
  intro e; cases e
theorem read_clo {w5 : World} (h : Is N w5 p F s m pv) (x : ByteArray) (hx : x.size ≤ 140737488351232) {bd bn bo : Nat} (kd : w5.cell? ⟨bd, 0, none⟩ = some (.pointer (some ⟨p, 0, none⟩))) (kn : w5.cell? ⟨bn, 0, none⟩ = some (.string x)) {cs : Array Value} {ty : TypeId} (hbo : w5.heap[bo]? = some (.cells cs ty (0, 0))) {u : Value} (ko : cs[0]? = some u) (nF : ∀ i, i = bd ∨ i = bn ∨ i = bo → ¬ F i) :
    Clo N w5 p F (fun i => i = bd ∨ i = bn ∨ i = bo) s m (thereC s.fs x) 58 59 60 #[.pointer (some ⟨bd, 0, none⟩), .pointer (some ⟨bn, 0, none⟩)] #[.pointer (some ⟨bd, 0, none⟩), .pointer (some ⟨bn, 0, none⟩), .pointer (some ⟨bo, 0, none⟩)] #[]
      (fun _ fs' => fs' = s.fs) (fun fs' => fs' = s.fs) (fun w' => ∃ f, look s.fs x = some f ∧ w'.cell? ⟨bo, 0, none⟩ = some (.string f.bytes)) (fun i => i = bo) where
  may := fun w1 s1 pv1 on => by
    rw [← on.fs]
    exact may_there58 on.is x hx (cell_of kd (on.cap bd (.inl rfl))) (cell_of kn (on.cap bn (.inr (.inl rfl))))
  part := fun h0 w1 s1 pv1 n on => by
    refine (part60 n w1).mono ?_
    rintro e w' ⟨rfl, rfl⟩
    refine ⟨rfl, F, s.fs, rfl, ?_, Fr.refl _ _, Sub.refl _ _⟩
    have e1 : ({ s1 with fs := s.fs } : St) = s1 := by rw [← on.fs]
    rw [e1]; exact on.is.more
  whole := fun h0 w1 s1 pv1 on => by
    obtain ⟨f, hf⟩ := there_zero h0
    have hb1 : w1.heap[bo]? = some (.cells cs ty (0, 0)) := (on.cap bo (.inr (.inr rfl))).trans hbo
    refine (whole59 on.is x hx (cell_of kd (on.cap bd (.inl rfl))) (cell_of kn (on.cap bn (.inr (.inl rfl)))) ((blk_cell hb1 0).trans ko) (blk_frozen hb1 0) (by rw [on.fs]; exact hf)).mono ?_
    rintro e w' ⟨rfl, rfl⟩
    have e1 : ({ s1 with fs := s.fs } : St) = s1 := by rw [← on.fs]
    have hne : ∀ i, F i → i ≠ bo := fun i hi e => nF bo (.inr (.inr rfl)) (e ▸ hi)
    refine ⟨rfl, F, s.fs, rfl, ?_, ?_, Sub.refl _ _, f, hf, ?_⟩
    · rw [e1]
      exact (on.is.kept (w' := (w1.setCell ⟨bo, 0, none⟩ (.string f.bytes)).drew) (fun i hi => Below.heap_setCell w1 ⟨bo, 0, none⟩ _ i (hne i hi)) (by show _ ≤ (w1.setCell _ _).heap.size; simp [World.setCell])).more
    · have t := (Fr.refl (fun i => F i ∨ i = bo) w1).set (a := ⟨bo, 0, none⟩) (.inr rfl) (.string f.bytes)
      exact ⟨t.os, t.tape, t.output, t.size, t.block⟩
    · have t := blk_cell (blk_set hb1 0 (.string f.bytes)) 0
      have hlt : 0 < cs.size := by
        rcases Nat.lt_or_ge 0 cs.size with h | h
        · exact h
        · rw [Array.getElem?_eq_none h] at ko; cases ko
      have t2 : (cs.setIfInBounds 0 (Value.string f.bytes))[0]? = some (Value.string f.bytes) := by simp [hlt]
      exact t.trans t2
  em := ent58
  ew := ent59
  ep := ent60
  sep := fun i hi => ⟨by
    rcases hi with rfl | rfl | rfl
    · exact World.block_lt_of_cell? w5 _ kd
    · exact World.block_lt_of_cell? w5 _ kn
    · exact blk_lt hbo, nF i hi⟩
theorem Res.told {w' : World} {bo : Nat} {x : ByteArray} {Pf : Int → List Fil → Prop} {Wf : List Fil → Prop} {v : Value} (hr : Res N w p F (fun i => i = bo) s m a0 a1 a2 a3 a4 (thereC s.fs x) Pf Wf (fun w' => ∃ f, look s.fs x = some f ∧ w'.cell? ⟨bo, 0, none⟩ = some (.string f.bytes)) v w') (ko : w.cell? ⟨bo, 0, none⟩ = some (.string ⟨#[]⟩)) (hF : ¬ F bo) :
    ∃ r, w'.cell? ⟨bo, 0, none⟩ = some (.string r) ∧ Told s x r v := by
  obtain ⟨F', s', pv', h1, h2, h3, h4⟩ := hr
  have kb := World.block_lt_of_cell? w _ ko
  have old : Fr F w w' → IsErr w' v a0 ∨ IsErr w' v (why a0 a1 a2 a3 a4 (thereC s.fs x)) → ∃ r, w'.cell? ⟨bo, 0, none⟩ = some (.string r) ∧ Told s x r v := fun hf he =>
    ⟨⟨#[]⟩, cell_of ko (hf.block bo kb hF), fun e => by rcases he with he | he <;> exact absurd e (err_ne he), fun _ => rfl⟩
  cases h4 with
  | down a b c => exact old c (.inl b)
  | due a b c d e f g => exact old e (.inl d)
  | err a b c d e => exact old e (.inr d)
  | ok a b c d e f =>
    obtain ⟨g, hg, hc⟩ := f
    exact ⟨g.bytes, hc, fun _ => ⟨g, hg, rfl⟩, fun hn => absurd d hn⟩
set_option maxRecDepth 100000 in
set_option maxHeartbeats 1000000 in
theorem read_ok (h : Is N w p F s m pv) (hS : Sens w B a0 a1 a2 a3 a4) (hB : ∀ i, F i → B ≤ i) (hs0 : 0 ≤ s.steps) (hs1 : s.steps < 1000000000000) (hs2 : 0 ≤ s.since) (hs3 : s.since < 1000000000000) (x : ByteArray) (hx : x.size ≤ 140737488351232) :
    Calls Tryd.prog 20 #[.pointer (some ⟨p, 0, none⟩), .string x] w fun e w' => ∃ v r, e = .returned (.tuple #[.string r, v]) ∧ OpRes N w p F s m a0 a1 a2 a3 a4 (thereC s.fs x) (fun _ fs' => fs' = s.fs) (fun fs' => fs' = s.fs) v w' ∧ Told s x r v := by
  have hmf : ∀ (fn : Fn) (first cap : Array Value) (w : World), (Instr.makeFunc fn first cap).run Tryd.prog w = .ok (.func fn first cap) w := fun _ _ _ _ => rfl
  obtain ⟨o1, ho1⟩ : ∃ o, o = Obj.cells #[.pointer (some ⟨p, 0, none⟩)] 23 := ⟨_, rfl⟩
  obtain ⟨o2, ho2⟩ : ∃ o, o = Obj.cells #[.string x] 9 := ⟨_, rfl⟩
  obtain ⟨o3, ho3⟩ : ∃ o, o = Obj.cells #[.string ⟨#[]⟩] 9 := ⟨_, rfl⟩
  have z1 : (w.alloc o1).heap.size = w.heap.size + 1 := by simp
  have z2 : ((w.alloc o1).alloc o2).heap.size = w.heap.size + 1 + 1 := by simp
  have b1 := blk_new w o1
  have b2 := blk_new (w.alloc o1) o2
  have b3 := blk_new ((w.alloc o1).alloc o2) o3
  rw [z1] at b2
  rw [z2] at b3
  have b1' := blk_alloc (blk_alloc b1 o2) o3
  have b2' := blk_alloc b2 o3
  have hW : Below w.heap.size w (((w.alloc o1).alloc o2).alloc o3) := (((Below.refl _ w).alloc (Nat.le_refl _) o1).alloc (by rw [z1]; omega) o2).alloc (by rw [z2]; omega) o3
  subst ho1 ho2 ho3
  have g1 := blk_cell b1' 0
  have g2 := blk_cell b2' 0
  have g3 := blk_cell b3 0
  have f3 := blk_frozen b3 0
  simp only [List.getElem?_toArray, List.getElem?_cons_zero] at g1 g2 g3
  have hS' := hS.below (hW.mono (Nat.le_trans (hB p h.inP) (Nat.le_of_lt (h.low p h.inP))))
  have nF : ∀ i, w.heap.size ≤ i → ¬ F i := fun i hi e => by have := h.low i e; omega
  have hcl := read_clo (h.below hW) x hx g1 g2 b3 (u := .string ⟨#[]⟩) rfl (fun i hi => nF i (by omega))
  have hop := op_any (h.below hW) hS' hB hs0 hs1 hs2 hs3 ⟨#[114, 101, 97, 100]⟩ x hcl
  have HOP : Hid _ := hop
  have HW : Hid _ := hW
  have HG : Hid _ := g3
  clear hop hcl hW hS' b1 b2 b3 b1' b2' z1 z2
  go_enter Tryd.func20, Tryd.ntmps20
  go_wp2_with (go_at_call 46; refine Calls.mono HOP.out ?_; rintro e w' ⟨v, rfl, hres⟩; obtain ⟨r, hr, htold⟩ := hres.told HG.out (nF _ (by omega)))
  go_ret2
  exact ⟨v, r, rfl, hres.opRes HW.out (fun i hi => by omega), htold⟩
end Go.Proofs.YtkfehogefclhdaaDoor.Dk

/- Rename, by its contract. -/
namespace Go.Proofs.YtkfehogefclhdaaDoor.Dk
open Go.RowKit Go.Maps Go.Proofs.YtkfehogefclhdaaDoorW.PrintWords Go.Proofs.YtkfehogefclhdaaDoorW.PrintMore
variable {N : Nat} {w : World} {p : Nat} {F : Nat → Prop} {s : St} {m : Nat} {pv : Value} {B : Nat} {a0 a1 a2 a3 a4 : Addr}

theorem ent51 : Enters Tryd.prog 51 := enters_of Tryd.func51 (by kernel_rfl) rfl
theorem ent53 : Enters Tryd.prog 53 := enters_of Tryd.func53 (by kernel_rfl) rfl
noncomputable def renC (fs : List Fil) (x y : ByteArray) : Int := if nameB x = true ∧ nameB y = true then thereC fs x else 90
set_option maxRecDepth 100000 in
set_option maxHeartbeats 1000000 in
theorem ren_may (h : Is N w p F s m pv) (x y : ByteArray) (hx : x.size ≤ 140737488351232) (hy : y.size ≤ 140737488351232) {bd bx b2 : Nat} (kd : w.cell? ⟨bd, 0, none⟩ = some (.pointer (some ⟨p, 0, none⟩))) (kx : w.cell? ⟨bx, 0, none⟩ = some (.string x)) (ky : w.cell? ⟨b2, 0, none⟩ = some (.string y)) :
    Calls Tryd.prog 51 #[.pointer (some ⟨bx, 0, none⟩), .pointer (some ⟨b2, 0, none⟩), .pointer (some ⟨bd, 0, none⟩)] w fun e w' => e = .returned (.int .i64 (renC s.fs x y)) ∧ Below w.heap.size w w' := by
  have hnot := not_run
  have key : ∀ n, Is N (w.drewN n) p F s m pv := fun n => h.below (drewN_below w n)
  cases hbx : nameB x with
  | false =>
    rw [show renC s.fs x y = 90 by unfold renC; rw [if_neg (fun e => by rw [hbx] at e; cases e.1)]]
    go_enter Tryd.func51, Tryd.ntmps51
    go_wp2_with (go_at_call 44; refine (name_ok x hx _).mono ?_; rw [hbx]; rintro e w1 ⟨rfl, n, rfl⟩)
    go_ret
    exact ⟨rfl, drewN_below _ _⟩
  | true =>
    cases hby : nameB y with
    | false =>
      rw [show renC s.fs x y = 90 by unfold renC; rw [if_neg (fun e => by rw [hby] at e; cases e.2)]]
      go_enter Tryd.func51, Tryd.ntmps51
      go_wp2_with fail
      refine (name_ok x hx _).mono ?_
      rw [hbx]
      rintro e w1 ⟨rfl, n, rfl⟩
      go_wp2_with fail
      refine (name_ok y hy _).mono ?_
      rw [hby]
      rintro e w1 ⟨rfl, n2, rfl⟩
      go_wp2
      go_ret
      exact ⟨rfl, drewN_below w _⟩
    | true =>
      rw [show renC s.fs x y = thereC s.fs x by unfold renC; rw [if_pos ⟨hbx, hby⟩]]
      go_enter Tryd.func51, Tryd.ntmps51
      go_wp2_with fail
      refine (name_ok x hx _).mono ?_
      rw [hbx]
      rintro e w1 ⟨rfl, n, rfl⟩
      go_wp2_with fail
      refine (name_ok y hy _).mono ?_
      rw [hby]
      rintro e w1 ⟨rfl, n2, rfl⟩
      have key2 : Is N ((w.drewN n).drewN n2) p F s m pv := (key n).below (drewN_below _ _)
      go_wp2_with (go_at_call 52; refine (there_ok (h.below (by first | exact (drewN_below w _).trans (drewN_below (w.drewN _) _) | exact drewN_below w _)) x hx).mono ?_; rintro e w' ⟨rfl, hb⟩)
      go_ret
      exact ⟨rfl, (drewN_below w _).trans hb⟩
def RenF (fs : List Fil) (x y : ByteArray) (fs' : List Fil) : Prop := ∃ f, look fs x = some f ∧ fs' = { f with name := y } :: outF y (outF x fs)
theorem used_out_mem {x : ByteArray} {f : Fil} : ∀ {fs : List Fil}, f ∈ fs → f.name = x → used (outF x fs) + f.bytes.size ≤ used fs
  | [], h, _ => by cases h
  | g :: r, h, hn => by
    rcases List.mem_cons.1 h with rfl | h
    · have := used_out x r
      unfold used outF at *
      rw [List.filter_cons, decide_eq_true hn, Bool.not_true, if_neg (by decide), List.map_cons, List.sum_cons]
      omega
    · have ih := used_out_mem h hn
      unfold used outF at *
      rw [List.filter_cons, List.map_cons, List.sum_cons]
      split
      · rw [List.map_cons, List.sum_cons]; omega
      · omega
set_option maxRecDepth 100000 in
set_option maxHeartbeats 1000000 in
theorem ren_do (h : Is N w p F s m pv) (hN : N < maxLen) (x y : ByteArray) (hx : x.size ≤ 140737488351232) (hy : y.size ≤ 140737488351232) {bd bx b2 : Nat} (kd : w.cell? ⟨bd, 0, none⟩ = some (.pointer (some ⟨p, 0, none⟩))) (kx : w.cell? ⟨bx, 0, none⟩ = some (.string x)) (ky : w.cell? ⟨b2, 0, none⟩ = some (.string y)) (nF : ∀ i, i = bd ∨ i = bx ∨ i = b2 → i ≠ m) {f : Fil} (hl : look s.fs x = some f) :
    Calls Tryd.prog 53 #[.pointer (some ⟨bd, 0, none⟩), .pointer (some ⟨bx, 0, none⟩), .pointer (some ⟨b2, 0, none⟩)] w fun e w' => e = .returned (.tuple #[]) ∧
      ∃ F' fs', RenF s.fs x y fs' ∧ Is (N + 1) w' p F' { s with fs := fs' } m pv ∧ Fr F w w' ∧ Sub w F F' := by
  obtain ⟨c0, c1, c2, c3, c4, c5⟩ := h.cells
  obtain ⟨hm, hn⟩ := look_mem hl
  have hxm : x.size ≤ maxLen := by unfold maxLen; omega
  have hym : y.size ≤ maxLen := by unfold maxLen; omega
  have hk1 : (Instr.lookup 75 (.map (some m)) (.string x) false).run Tryd.prog w.drew = .ok (.pointer (some ⟨f.blk, 0, none⟩)) w.drew := by
    have t := look_run (w := w.drew) (h.below (Below.refl _ _).drew).files (x := x) hxm
    unfold at' at t; rw [hl] at t; exact t
  have isd : Is N w.drew.drew p F s m pv := h.below (Below.refl _ _).drew.drew
  obtain ⟨w2, hrun, hg, hsz, hmap⟩ := isd.files.del hxm 0
  have hmd : MapIs w2.drew m N (outF x s.fs) := hmap.kept rfl
  obtain ⟨w3, hup, hg3, hmap3⟩ := hmd.put hym f.blk hN
  have tr : ∀ (b j : Nat) (v : Value), b ≠ m → w.cell? ⟨b, j, none⟩ = some v → w2.cell? ⟨b, j, none⟩ = some v := fun b j v hbm hv =>
    cell_of hv (hg.block b (World.block_lt_of_cell? w _ hv) (fun e => hbm (Option.some.inj e)))
  have d2 := tr bd 0 _ (nF bd (.inl rfl)) kd
  have x2 := tr bx 0 _ (nF bx (.inr (.inl rfl))) kx
  have y2 := tr b2 0 _ (nF b2 (.inr (.inr rfl))) ky
  have p2 := tr p 1 _ h.ne c1
  have hgg : w.drew.drew.grownBy w3 (some m) := hg.andThen (b' := w2) (row' := some m) ⟨hg3.os, hg3.tape, hg3.output, hg3.size, hg3.block⟩ (fun j hj => .inr hj)
  have hnf : ∀ g ∈ outF x s.fs, g.blk ≠ f.blk := fun g hg e => by
    rw [outF, List.mem_filter] at hg
    have e2 := blk_inj h.blks hg.1 hm e
    have := hg.2
    rw [e2, decide_eq_true hn] at this
    cases this
  have hfin := isd.turned hgg (hmap3 { f with name := y } rfl rfl) (fun g hg => by
      rcases List.mem_cons.1 hg with rfl | hg
      · exact ⟨f, hm, rfl, rfl, rfl⟩
      · exact ⟨g, (List.mem_filter.1 (List.mem_filter.1 hg).1).1, rfl, rfl, rfl⟩)
    (by
      rw [List.pairwise_cons]
      refine ⟨fun g hg e => ?_, (h.names.filter _).filter _⟩
      have := (List.mem_filter.1 hg).2
      rw [decide_eq_true (show g.name = y from e.symm)] at this
      cases this)
    (by
      rw [List.pairwise_cons]
      exact ⟨fun g hg e => hnf g (List.mem_filter.1 hg).1 e.symm, (h.blks.filter _).filter _⟩)
    (by
      have q1 := used_out y (outF x s.fs)
      have q2 := used_out_mem hm hn
      show used ({ f with name := y } :: _) ≤ _
      have e : used ({ f with name := y } :: outF y (outF x s.fs)) = f.bytes.size + used (outF y (outF x s.fs)) := by unfold used; rw [List.map_cons, List.sum_cons]
      omega)
  have hfr := grown_fr (F := F) h.inM hgg
  have HFIN : Hid _ := hfin
  have HFR : Hid _ := hfr
  clear hfin hfr hmap hg hsz isd hmd hg3 hmap3 tr hgg hnf
  obtain ⟨wd, hwd⟩ : ∃ wd, w.drew = wd := ⟨_, rfl⟩
  have kdd : wd.cell? ⟨bd, 0, none⟩ = some (.pointer (some ⟨p, 0, none⟩)) := by rw [← hwd]; exact kd
  have kxd : wd.cell? ⟨bx, 0, none⟩ = some (.string x) := by rw [← hwd]; exact kx
  have c1d : wd.cell? ⟨p, 1, none⟩ = some (.map (some m)) := by rw [← hwd]; exact c1
  have hrund := hrun
  rw [hwd] at hrund
  have HWD : Hid _ := hwd
  clear hwd hrun
  go_enter Tryd.func53, Tryd.ntmps53
  go_wp2
  go_still_tail 6, (by kernel_rfl)
  all_goals go_wp2
  rw [show ({ heap := w.heap, tape := w.tape, drawn := w.drawn + 1, os := w.os, output := w.output } : World) = wd from HWD.out]
  go_still_tail 5, (by kernel_rfl)
  all_goals go_wp2
  go_still_tail 6, (by kernel_rfl)
  all_goals go_wp2
  go_end0
  exact ⟨rfl, F, _, ⟨f, hl, rfl⟩, HFIN.out, ⟨HFR.out.os, HFR.out.tape, HFR.out.output, HFR.out.size, HFR.out.block⟩, Sub.refl _ _⟩
end Go.Proofs.YtkfehogefclhdaaDoor.Dk

/- Rename, whole. -/
namespace Go.Proofs.YtkfehogefclhdaaDoor.Dk
open Go.RowKit Go.Maps Go.Proofs.YtkfehogefclhdaaDoorW.PrintWords Go.Proofs.YtkfehogefclhdaaDoorW.PrintMore
variable {N : Nat} {w : World} {p : Nat} {F : Nat → Prop} {s : St} {m : Nat} {pv : Value} {B : Nat} {a0 a1 a2 a3 a4 : Addr}

theorem ren_zero {fs : List Fil} {x y : ByteArray} (h : renC fs x y = 0) : ∃ f, look fs x = some f := by
  unfold renC at h
  split at h
  · exact there_zero h
  · cases h
theorem ren_clo {w5 : World} (h : Is N w5 p F s m pv) (hN : N < maxLen) (x y : ByteArray) (hx : x.size ≤ 140737488351232) (hy : y.size ≤ 140737488351232)
    {bd bx b2 bo : Nat} (kd : w5.cell? ⟨bd, 0, none⟩ = some (.pointer (some ⟨p, 0, none⟩))) (kx : w5.cell? ⟨bx, 0, none⟩ = some (.string x)) (ky : w5.cell? ⟨b2, 0, none⟩ = some (.string y))
    (ko : w5.cell? ⟨bo, 0, none⟩ = some (.func (.func 53) #[] #[.pointer (some ⟨bd, 0, none⟩), .pointer (some ⟨bx, 0, none⟩), .pointer (some ⟨b2, 0, none⟩)])) (nF : ∀ i, i = bd ∨ i = bx ∨ i = b2 ∨ i = bo → ¬ F i) :
    Clo N w5 p F (fun i => i = bd ∨ i = bx ∨ i = b2 ∨ i = bo) s m (renC s.fs x y) 51 53 81 #[.pointer (some ⟨bx, 0, none⟩), .pointer (some ⟨b2, 0, none⟩), .pointer (some ⟨bd, 0, none⟩)] #[.pointer (some ⟨bd, 0, none⟩), .pointer (some ⟨bx, 0, none⟩), .pointer (some ⟨b2, 0, none⟩)] #[.pointer (some ⟨bo, 0, none⟩)]
      (orF s.fs (RenF s.fs x y)) (RenF s.fs x y) (fun _ => True) (fun _ => False) := by
  have hsep : ∀ i, (i = bd ∨ i = bx ∨ i = b2 ∨ i = bo) → i < w5.heap.size ∧ ¬ F i := fun i hi => ⟨by
    rcases hi with rfl | rfl | rfl | rfl
    · exact World.block_lt_of_cell? w5 _ kd
    · exact World.block_lt_of_cell? w5 _ kx
    · exact World.block_lt_of_cell? w5 _ ky
    · exact World.block_lt_of_cell? w5 _ ko, nF i hi⟩
  have hdo : renC s.fs x y = 0 → ∀ w1 s1 pv1, On N w5 p F (fun i => i = bd ∨ i = bx ∨ i = b2 ∨ i = bo) s m w1 s1 pv1 → Calls Tryd.prog 53 #[.pointer (some ⟨bd, 0, none⟩), .pointer (some ⟨bx, 0, none⟩), .pointer (some ⟨b2, 0, none⟩)] w1 fun e w' => e = .returned (.tuple #[]) ∧ ∃ F' fs', RenF s.fs x y fs' ∧ Is (N + 1) w' p F' { s1 with fs := fs' } m pv1 ∧ Fr F w1 w' ∧ Sub w1 F F' := by
    intro h0 w1 s1 pv1 on
    obtain ⟨f, hf⟩ := ren_zero h0
    refine (ren_do on.is hN x y hx hy (cell_of kd (on.cap bd (.inl rfl))) (cell_of kx (on.cap bx (.inr (.inl rfl)))) (cell_of ky (on.cap b2 (.inr (.inr (.inl rfl))))) (fun i hi e => nF i (by rcases hi with hi | hi | hi <;> simp [hi]) (e ▸ h.inM)) (by rw [on.fs]; exact hf)).mono ?_
    rintro e w' ⟨rfl, F', fs', h1, h2, h3, h4⟩
    rw [on.fs] at h1
    exact ⟨rfl, F', fs', h1, h2, h3, h4⟩
  exact {
    may := fun w1 s1 pv1 on => by
      rw [← on.fs]
      exact ren_may on.is x y hx hy (cell_of kd (on.cap bd (.inl rfl))) (cell_of kx (on.cap bx (.inr (.inl rfl)))) (cell_of ky (on.cap b2 (.inr (.inr (.inl rfl)))))
    part := fun h0 w1 s1 pv1 n on => by
      have ko' := cell_of ko (on.cap bo (.inr (.inr (.inr rfl))))
      by_cases hn : n ≥ 1
      · refine (or_yes ent53 ko' hn (hdo h0 w1 s1 pv1 on)).mono ?_
        rintro e w' ⟨rfl, F', fs', h1, h2, h3, h4⟩
        exact ⟨rfl, F', fs', by unfold orF; rw [if_pos hn]; exact h1, h2, h3, h4⟩
      · refine (or_no hn).mono ?_
        rintro e w' ⟨rfl, rfl⟩
        refine ⟨rfl, F, s.fs, by unfold orF; rw [if_neg hn], ?_, Fr.refl _ _, Sub.refl _ _⟩
        have t := on.is.more
        have e1 : ({ s1 with fs := s.fs } : St) = s1 := by rw [← on.fs]
        rw [e1]; exact t
    whole := fun h0 w1 s1 pv1 on => by
      refine (hdo h0 w1 s1 pv1 on).mono ?_
      rintro e w' ⟨rfl, F', fs', h1, h2, h3, h4⟩
      exact ⟨rfl, F', fs', h1, h2, h3.or _, h4, trivial⟩
    em := ent51
    ew := ent53
    ep := ent81
    sep := hsep }
set_option maxRecDepth 100000 in
set_option maxHeartbeats 1000000 in
theorem rename_ok (h : Is N w p F s m pv) (hN : N < maxLen) (hS : Sens w B a0 a1 a2 a3 a4) (hB : ∀ i, F i → B ≤ i) (hs0 : 0 ≤ s.steps) (hs1 : s.steps < 1000000000000) (hs2 : 0 ≤ s.since) (hs3 : s.since < 1000000000000) (x y : ByteArray) (hx : x.size ≤ 140737488351232) (hy : y.size ≤ 140737488351232) :
    Calls Tryd.prog 15 #[.pointer (some ⟨p, 0, none⟩), .string x, .string y] w fun e w' => ∃ v, e = .returned v ∧ OpRes N w p F s m a0 a1 a2 a3 a4 (renC s.fs x y) (orF s.fs (RenF s.fs x y)) (RenF s.fs x y) v w' := by
  have hmf : ∀ (fn : Fn) (first cap : Array Value) (w : World), (Instr.makeFunc fn first cap).run Tryd.prog w = .ok (.func fn first cap) w := fun _ _ _ _ => rfl
  obtain ⟨o1, ho1⟩ : ∃ o, o = Obj.cells #[.pointer (some ⟨p, 0, none⟩)] 23 := ⟨_, rfl⟩
  obtain ⟨o2, ho2⟩ : ∃ o, o = Obj.cells #[.string x] 9 := ⟨_, rfl⟩
  obtain ⟨o3, ho3⟩ : ∃ o, o = Obj.cells #[.string y] 9 := ⟨_, rfl⟩
  obtain ⟨o4, ho4⟩ : ∃ o, o = Obj.cells #[.func (.func 53) #[] #[.pointer (some ⟨w.heap.size, 0, none⟩), .pointer (some ⟨w.heap.size + 1, 0, none⟩), .pointer (some ⟨w.heap.size + 1 + 1, 0, none⟩)]] 1 := ⟨_, rfl⟩
  have z1 : (w.alloc o1).heap.size = w.heap.size + 1 := by simp
  have z2 : ((w.alloc o1).alloc o2).heap.size = w.heap.size + 1 + 1 := by simp
  have z3 : (((w.alloc o1).alloc o2).alloc o3).heap.size = w.heap.size + 1 + 1 + 1 := by simp
  have b1 := blk_new w o1
  have b2 := blk_new (w.alloc o1) o2
  have b3 := blk_new ((w.alloc o1).alloc o2) o3
  have b4 := blk_new (((w.alloc o1).alloc o2).alloc o3) o4
  rw [z1] at b2
  rw [z2] at b3
  rw [z3] at b4
  have hW : Below w.heap.size w ((((w.alloc o1).alloc o2).alloc o3).alloc o4).drew := (((((Below.refl _ w).alloc (Nat.le_refl _) o1).alloc (by rw [z1]; omega) o2).alloc (by rw [z2]; omega) o3).alloc (by rw [z3]; omega) o4).drew
  have c1 := blk_alloc (blk_alloc b1 o2) o3
  have c2 := blk_alloc b2 o3
  have b1' := blk_alloc (blk_alloc (blk_alloc b1 o2) o3) o4
  have b2' := blk_alloc (blk_alloc b2 o3) o4
  have b3' := blk_alloc b3 o4
  subst ho1 ho2 ho3 ho4
  have g1 := blk_cell c1 0
  have g2 := blk_cell c2 0
  simp only [List.getElem?_toArray, List.getElem?_cons_zero] at g1 g2
  have hcl := ren_clo (w5 := (((((w.alloc (Obj.cells #[.pointer (some ⟨p, 0, none⟩)] 23)).alloc (Obj.cells #[.string x] 9)).alloc (Obj.cells #[.string y] 9)).alloc (Obj.cells #[.func (.func 53) #[] #[.pointer (some ⟨w.heap.size, 0, none⟩), .pointer (some ⟨w.heap.size + 1, 0, none⟩), .pointer (some ⟨w.heap.size + 1 + 1, 0, none⟩)]] 1)).drew)) (h.below hW) hN x y hx hy (bd := w.heap.size) (bx := w.heap.size + 1) (b2 := w.heap.size + 1 + 1) (bo := w.heap.size + 1 + 1 + 1) (blk_cell b1' 0) (blk_cell b2' 0) (blk_cell b3' 0) (blk_cell b4 0) (fun i hi hF => by have := h.low i hF; omega)
  obtain ⟨w3, hw3⟩ : ∃ w3, (((w.alloc (Obj.cells #[.pointer (some ⟨p, 0, none⟩)] 23)).alloc (Obj.cells #[.string x] 9)).alloc (Obj.cells #[.string y] 9)) = w3 := ⟨_, rfl⟩
  rw [hw3] at g1 g2 z3
  clear b1 b2 b3 b4 b1' b2' b3' c1 c2
  have hS' := hS.below (hW.mono (Nat.le_trans (hB p h.inP) (Nat.le_of_lt (h.low p h.inP))))
  have hop := op_any (h.below hW) hS' hB hs0 hs1 hs2 hs3 ⟨#[114, 101, 110, 97, 109, 101]⟩ x hcl
  have hW2 := hW
  rw [hw3] at hop hW2
  have HOP : Hid _ := hop
  have HW : Hid _ := hW2
  have HW3 : Hid _ := hw3
  clear hop hcl hW hW2 hS' hw3 z1 z2
  have al : ∀ (o : Obj) {b : Nat} {v : Value}, w3.cell? ⟨b, 0, none⟩ = some v → (w3.alloc o).drew.cell? ⟨b, 0, none⟩ = some v := fun o b v hv => (World.cell?_alloc_past _ _ _ (World.block_lt_of_cell? w3 _ hv)).trans hv
  have nF1 : ¬ F w.heap.size := fun e => by have := h.low _ e; omega
  have nF2 : ¬ F (w.heap.size + 1) := fun e => by have := h.low _ e; omega
  go_enter Tryd.func15, Tryd.ntmps15
  go_wp2
  rw [HW3.out]
  go_region_held3 (fun W => W.cell? ⟨w.heap.size, 0, none⟩ = some (.pointer (some ⟨p, 0, none⟩)) ∧ W.cell? ⟨w.heap.size + 1, 0, none⟩ = some (.string x))
    (first | exact ⟨g1, g2⟩ | exact ⟨al _ g1, al _ g2⟩ | exact ⟨r1, r2⟩)
    (first
    | (go_at_call 54; refine (or_ok _ _ _).mono ?_; rintro e w' ⟨rfl, rfl⟩; rw [show w3.drew.heap.size = w.heap.size + 1 + 1 + 1 from z3])
    | (go_at_call 46; refine Calls.mono HOP.out ?_; rintro e w' ⟨v, rfl, hres⟩; have r1 := hres.kept (al _ g1) nF1; have r2 := hres.kept (al _ g2) nF2))
  all_goals (try go_wp2)
  all_goals go_ret
  all_goals exact ⟨v, rfl, hres.opRes HW.out (fun i hi => hi.elim)⟩
end Go.Proofs.YtkfehogefclhdaaDoor.Dk

/- New and Start, by their contracts. -/
namespace Go.Proofs.YtkfehogefclhdaaDoor.Dk
open Go.RowKit Go.Maps Go.Proofs.YtkfehogefclhdaaDoorW.PrintWords Go.Proofs.YtkfehogefclhdaaDoorW.PrintMore
variable {N : Nat} {w : World} {p : Nat} {F : Nat → Prop} {s : St} {m : Nat} {pv : Value} {B : Nat} {a0 a1 a2 a3 a4 : Addr}

def St.fresh (q : Int) : St := { quota := q, run := true, steps := 0, plan := [], since := 0, fs := [] }
set_option maxRecDepth 100000 in
theorem new_ok (q : Int) (h1 : 1 ≤ q) (h2 : q ≤ 1048576) (w : World) : Calls Tryd.prog 11 #[.int .i64 q] w fun e w' => e = .returned (.tuple #[.pointer (some ⟨w.heap.size + 1, 0, none⟩), .nilIface]) ∧
    Is 0 w' (w.heap.size + 1) (fun i => i = w.heap.size ∨ i = w.heap.size + 1) (St.fresh q) w.heap.size (.slice none 0 0) ∧ Below w.heap.size w w' := by
  have hmm := @run_makeMap Tryd.prog
  obtain ⟨o1, ho1⟩ : ∃ o, o = Obj.map #[] 0 := ⟨_, rfl⟩
  obtain ⟨o2, ho2⟩ : ∃ o, o = Obj.cells #[.int .i64 q, .map (some w.heap.size), .bool true, .int .i64 0, .slice none 0 0, .int .i64 0] 77 := ⟨_, rfl⟩
  have z1 : (w.alloc o1).heap.size = w.heap.size + 1 := by simp
  have b2 := blk_new (w.alloc o1) o2
  rw [z1] at b2
  have hmade := World.ownsMap_made w Tryd.prog 9 rp
  have hown : ((w.alloc o1).alloc o2).ownsMap Tryd.prog 9 rp w.heap.size 0 (.map []) := by
    rw [ho1]; exact hmade.alloc o2
  have hW : Below w.heap.size w ((w.alloc o1).alloc o2) := ((Below.refl _ w).alloc (Nat.le_refl _) o1).alloc (by rw [z1]; omega) o2
  have z2 : ((w.alloc o1).alloc o2).heap.size = w.heap.size + 1 + 1 := by simp
  have his : Is 0 ((w.alloc o1).alloc o2) (w.heap.size + 1) (fun i => i = w.heap.size ∨ i = w.heap.size + 1) (St.fresh q) w.heap.size (.slice none 0 0) := by
    refine ⟨?_, ⟨_, hown, fun s => rfl, fun s => rfl⟩, ⟨none, 0, rfl, Nat.le_refl _, by omega, fun i x h => by simp [St.fresh] at h⟩, fun f hf => by simp [St.fresh] at hf, List.Pairwise.nil, List.Pairwise.nil, fun f hf => by simp [St.fresh] at hf, ?_, h2, .inr rfl, .inl rfl, fun f hf => by simp [St.fresh] at hf, fun i hi => by rw [z2]; omega⟩
    · rw [ho2] at b2; rw [ho2]; exact b2
    · show ((used [] : Nat) : Int) ≤ q
      show (0 : Int) ≤ q
      omega
  subst ho1 ho2
  have HIS : Hid _ := his
  have HW : Hid _ := hW
  clear his hW hown hmade b2 z1 z2
  go_enter Tryd.func11, Tryd.ntmps11
  go_wp2
  go_ret2
  exact ⟨rfl, HIS.out, HW.out⟩
set_option maxRecDepth 100000 in
theorem start_ok (h : Is N w p F s m pv) : Calls Tryd.prog 19 #[.pointer (some ⟨p, 0, none⟩)] w fun e w' => e = .returned (.tuple #[]) ∧ Is N w' p F s.start m pv ∧ Fr F w w' := by
  obtain ⟨c0, c1, c2, c3, c4, c5⟩ := h.cells
  have hnot := not_run
  have th := h.thaw
  cases hr : s.run with
  | true =>
    have e : s.start = s := by unfold St.start; rw [hr]; cases s; simp_all
    rw [hr] at c2
    rw [e]
    have HR : Hid _ := hr
    clear hr e
    go_enter Tryd.func19, Tryd.ntmps19
    go_wp2_with (go_at_call 50; refine (none_ok h).mono ?_; rintro e w' ⟨rfl, h'⟩; replace h' := h'.symm; subst h')
    go_end0
    exact ⟨rfl, h, Fr.refl _ _⟩
  | false =>
    have hst : Is N ((w.setCell ⟨p, 2, none⟩ (.bool true)).setCell ⟨p, 5, none⟩ (.int .i64 0)) p F s.start m pv := by
      refine h.set s.start _ rfl rfl rfl ?_ (fun i _ hi => (Below.heap_setCell _ _ _ i hi).trans (Below.heap_setCell _ _ _ i hi)) (by simp [World.setCell])
      have t := blk_set (blk_set h.top 2 (.bool true)) 5 (.int .i64 0)
      have e : cellsOf s.start m pv = #[.int .i64 s.quota, .map (some m), .bool true, .int .i64 s.steps, pv, .int .i64 0] := by unfold cellsOf St.start; rw [hr]; rfl
      rw [e]; exact t
    have hfr := ((Fr.refl F w).set (a := ⟨p, 2, none⟩) h.inP (.bool true)).set (a := ⟨p, 5, none⟩) h.inP (.int .i64 0)
    rw [hr] at c2
    have HR : Hid _ := hr
    have HST : Hid _ := hst
    have HFR : Hid _ := hfr
    clear hr hst hfr
    go_enter Tryd.func19, Tryd.ntmps19
    go_wp2_with (go_at_call 50; refine (none_ok h).mono ?_; rintro e w' ⟨rfl, h'⟩; replace h' := h'.symm; subst h')
    go_end0
    exact ⟨rfl, HST.out, HFR.out⟩
end Go.Proofs.YtkfehogefclhdaaDoor.Dk
