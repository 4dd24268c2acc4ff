import Derived.Test.YtkfehogefclhdaaDoorProg
import Derived.Test.YtkfehogefclhdaaDoorShelf
import Derived.WalkKit
import Derived.WalkSpells
import Derived.WalkLawsBesides
import Derived.Lib.LaidTab
import Derived.Lib.AppendIntMem
namespace Go.Proofs.YtkfehogefclhdaaDoor.Ext
open Go.RowKit

theorem var_lt {P : Program} {w : World} {n : String} {g : Nat} {cs : Array Value} (hg : P.globalNamed n = some g) (h : w.var? P n = some cs) : g < w.heap.size := by
  unfold World.var? at h
  simp only [hg, Option.bind_some] at h
  rcases Nat.lt_or_ge g w.heap.size with h' | h'
  · exact h'
  · simp [Array.getElem?_eq_none h'] at h
/-- What these functions lean on in the world: the library's table of powers of ten. -/
structure WP (w : World) : Prop where
  tab : Lib.TabIs Tryd.prog w "internal/strconv.uint64pow10" .u64 Lib.pow10Tab
theorem gPow : Tryd.prog.globalNamed "internal/strconv.uint64pow10" = some 8 := by kernel_rfl
theorem WP.below {w w' : World} (h : WP w) (hb : Below w.heap.size w w') : WP w' := ⟨var?_below hb gPow (var_lt gPow h.tab) h.tab⟩
/-- A number's decimal digits. -/
def itoaBA (n : Int) : ByteArray := ⟨(Lib.itoa n).toArray⟩
theorem itoa_any (n : Int) (w : World) (h0 : -9223372036854775808 ≤ n) (h1 : n ≤ 9223372036854775807) (hw : WP w) :
    Calls Tryd.prog 66 #[.int .i64 n] w fun e w' => e = .returned (.string (itoaBA n)) ∧ Below w.heap.size w w' :=
  (Tryd.strconv_Itoa n h0 h1 w hw.tab).mono fun e w' h => ⟨h.1, by obtain ⟨k, os, h2⟩ := h.2; rw [h2]; exact Lib.below_grow _ _ (Nat.le_refl _) _ _⟩
end Go.Proofs.YtkfehogefclhdaaDoor.Ext
