import Derived.Test.YtkfehogefclhdaaDoorProg
import Derived.WalkKit
import Derived.WalkSpells
import Derived.WalkLawsBesides
import Derived.Lib.ConvBytes
import Derived.Laws.BytesArg
import Derived.Lib.Hide
namespace Go.Proofs.YtkfehogefclhdaaDoor.Ext
open Go.RowKit

/-- A byte in small letters. -/
def lowB (c : UInt8) : UInt8 := if 65 ≤ c ∧ c ≤ 90 then c + 32 else c
/-- A text in small letters. -/
def lowBA (s : ByteArray) : ByteArray := ⟨s.data.map lowB⟩

/-- The row that a conversion from a string has laid: its mark stands behind its cells. -/
def Raw (w : World) (g : Nat) (e : TypeId) (cur : Array Value) : Prop := w.heap[g]? = some (.cells cur e (cur.size, cur.size + 1))
theorem Raw.cell {w : World} {g e : Nat} {cur : Array Value} (h : Raw w g e cur) (j : Nat) : w.cell? ⟨g, j, none⟩ = cur[j]? := by
  unfold World.cell?; rw [show w.heap[(⟨g, j, none⟩ : Addr).block]? = _ from h]; simp
theorem Raw.free {w : World} {g e : Nat} {cur : Array Value} (h : Raw w g e cur) (j : Nat) (hj : j < cur.size) : w.frozen? ⟨g, j, none⟩ = false := by
  unfold World.frozen?; rw [show w.heap[(⟨g, j, none⟩ : Addr).block]? = _ from h]; simp; omega
theorem Raw.set {w : World} {g e : Nat} {cur : Array Value} (h : Raw w g e cur) (j : Nat) (v : Value) : Raw (w.setCell ⟨g, j, none⟩ v) g e (cur.setIfInBounds j v) := by
  unfold Raw World.setCell at *
  simp [Array.getElem?_modify, h]
theorem Raw.of_conv (w : World) (e : TypeId) (s : ByteArray) : Raw (Lib.bytesWorld w e s) w.heap.size e (Lib.bytesCells w e s) := by
  unfold Raw; exact Lib.bytesWorld_at_new w e s
theorem conv_below (w : World) (e : TypeId) (s : ByteArray) : Below w.heap.size w (Lib.bytesWorld w e s) :=
  ⟨rfl, rfl, rfl, by rw [Lib.bytesWorld_size]; omega, fun k hk => Lib.bytesWorld_at_old w e s k hk⟩
theorem conv_cells_size (w : World) (e : TypeId) (s : ByteArray) : s.size ≤ (Lib.bytesCells w e s).size := by
  simp [Lib.bytesCells]
theorem conv_cells_at (w : World) (e : TypeId) (s : ByteArray) (j : Nat) (hj : j < s.size) : (Lib.bytesCells w e s)[j]? = some (.int .u8 (s[j]).toNat) := by
  have h1 : j < s.data.size := hj
  simp only [Lib.bytesCells]
  rw [Array.getElem?_append_left (by simpa using h1)]
  have h2 : s.data[j]? = some s[j] := Array.getElem?_eq_getElem h1
  simp [h2]

/-- The cells of a text of which the first k bytes are small. -/
def LowAt (s : ByteArray) (k : Nat) (cur : Array Value) : Prop := s.size ≤ cur.size ∧ ∀ j (hj : j < s.size), cur[j]? = some (.int .u8 ((if j < k then lowB s[j] else s[j]).toNat : Int))
theorem LowAt.start (w : World) (e : TypeId) (s : ByteArray) : LowAt s 0 (Lib.bytesCells w e s) :=
  ⟨conv_cells_size w e s, fun j hj => by rw [conv_cells_at w e s j hj]; simp⟩
theorem lowB_no {c : UInt8} (h : (c.toNat : Int) < 65 ∨ 90 < (c.toNat : Int)) : lowB c = c := by
  unfold lowB; rw [if_neg]; rw [UInt8.le_iff_toNat_le, UInt8.le_iff_toNat_le]; simp; omega
theorem lowB_yes {c : UInt8} (h1 : 65 ≤ (c.toNat : Int)) (h2 : (c.toNat : Int) ≤ 90) : ((lowB c).toNat : Int) = c.toNat + 32 := by
  unfold lowB; rw [if_pos (by rw [UInt8.le_iff_toNat_le, UInt8.le_iff_toNat_le]; simp; omega)]
  rw [UInt8.toNat_add]; simp; omega
theorem LowAt.keep {s : ByteArray} {k : Nat} {cur : Array Value} (h : LowAt s k cur) (hk : k < s.size) (hn : lowB s[k] = s[k]) : LowAt s (k + 1) cur := by
  refine ⟨h.1, fun j hj => ?_⟩
  rw [h.2 j hj]
  by_cases e : j = k
  · subst e; simp [hn]
  · by_cases e2 : j < k
    · simp [e2, show j < k + 1 by omega]
    · simp [e2, show ¬ j < k + 1 by omega]
theorem LowAt.turn {s : ByteArray} {k : Nat} {cur : Array Value} (h : LowAt s k cur) (hk : k < s.size) (z : Int) (hz : z = ((lowB s[k]).toNat : Int)) : LowAt s (k + 1) (cur.setIfInBounds k (.int .u8 z)) := by
  refine ⟨by simpa using h.1, fun j hj => ?_⟩
  have hs := h.1
  by_cases e : j = k
  · subst e; rw [Array.getElem?_setIfInBounds_self_of_lt (by omega)]; simp [hz]
  · rw [Array.getElem?_setIfInBounds_ne (by omega), h.2 j hj]
    by_cases e2 : j < k
    · simp [e2, show j < k + 1 by omega]
    · simp [e2, show ¬ j < k + 1 by omega]
theorem lowBA_nums (s : ByteArray) : strOfNums ((lowBA s).data.toList.map fun b => (b.toNat : Int)) = lowBA s := by
  unfold strOfNums; simp [List.map_map, Function.comp_def]
theorem lowBA_len (s : ByteArray) : ((lowBA s).data.toList.map fun b => (b.toNat : Int)).length = s.size := by
  rw [List.length_map]; show (s.data.map lowB).toList.length = s.data.size; simp
theorem LowAt.end {s : ByteArray} {cur : Array Value} (h : LowAt s s.size cur) (i : Nat) (hi : i < s.size) : cur[i]? = some (.int .u8 (((lowBA s).data.toList.map fun b => (b.toNat : Int)).getD i 0)) := by
  rw [h.2 i hi]
  simp [lowBA, hi]; rfl

set_option maxHeartbeats 1000000 in
theorem lower_any (s : ByteArray) (w : World) (hs : s.size ≤ 140737488351232) :
    Calls Tryd.prog 85 #[.string s] w fun e w' => e = .returned (.string (lowBA s)) ∧ Below w.heap.size w w' := by
  have hcv : ∀ W : World, (convert 9 120 (.string s)).run Tryd.prog W = .ok (.slice (some ⟨W.heap.size, 0, none⟩) s.size (grownCap W s.size 0 5)) (Lib.bytesWorld W 5 s) :=
    fun W => Lib.run_convert_string_bytes W 9 120 5 s Tryd.underlying9 Tryd.underlying120 Tryd.underlying5
  go_enter Tryd.func85, Tryd.ntmps85
  go_wp2
  have HR := Raw.of_conv w 5 s
  have HL := LowAt.start w 5 s
  have HB := conv_below w 5 s
  have hsz : w.heap.size = w.heap.size := rfl
  clear hcv
  generalize Lib.bytesWorld w 5 s = W1 at *
  generalize Lib.bytesCells w 5 s = C1 at *
  generalize grownCap w s.size 0 5 = cap at *
  clear hsz
  go_loopw [10] (fun i wr => ∃ (k : Nat) (cur : Array Value), k ≤ s.size ∧ i = .int .i64 k ∧ Raw wr w.heap.size 5 cur ∧ LowAt s k cur ∧ Below w.heap.size w wr) (fun i _ => s.size - (intOf i).toNat)
  case atStart => exact ⟨0, C1, Nat.zero_le _, rfl, HR, HL, HB⟩
  case round =>
    obtain ⟨k, cur, hk, rfl, HRr, HLr, HBr⟩ := hrel
    by_cases hlt : k < s.size
    · have hcell : wr.cell? ⟨w.heap.size, k, none⟩ = some (.int .u8 ((s[k]).toNat : Int)) := by rw [HRr.cell, HLr.2 k hlt]; simp
      have hfree : wr.frozen? ⟨w.heap.size, k, none⟩ = false := HRr.free k (by have := HLr.1; omega)
      obtain ⟨c, hc⟩ : ∃ c : Int, c = ((s[k]).toNat : Int) := ⟨_, rfl⟩
      have hc0 : (0 : Int) ≤ c := by omega
      have hc1 : c < 256 := by have := (s[k]).toNat_lt; omega
      rw [← hc] at hcell
      have H2 := Lib.hid (And.intro hc (And.intro HRr (And.intro HLr HBr))); clear hc HRr HLr HBr
      go_wp2
      · go_roundw
        case rel =>
          obtain ⟨hc, HRr, HLr, HBr⟩ := H2.out
          have hlow := lowB_yes (c := s[k]) (by omega) (by omega)
          exact ⟨k + 1, _, by omega, by go_num, HRr.set k _, HLr.turn hlt _ (by omega), HBr.setCell (Nat.le_refl _) _⟩
        case measure => simp [intOf]; omega
      · go_roundw
        case rel =>
          obtain ⟨hc, HRr, HLr, HBr⟩ := H2.out
          exact ⟨k + 1, cur, by omega, by go_num, HRr, HLr.keep hlt (lowB_no (.inr (by rw [← hc]; omega))), HBr⟩
        case measure => simp [intOf]; omega
      · go_roundw
        case rel =>
          obtain ⟨hc, HRr, HLr, HBr⟩ := H2.out
          exact ⟨k + 1, cur, by omega, by go_num, HRr, HLr.keep hlt (lowB_no (.inl (by rw [← hc]; omega))), HBr⟩
        case measure => simp [intOf]; omega
    · have : k = s.size := by omega
      subst this
      have hst := run_convert_bytes_arg (P := Tryd.prog) wr 120 5 Tryd.underlying120 Tryd.underlying5 w.heap.size 0 s.size cap ((lowBA s).data.toList.map fun b => (b.toNat : Int)) (lowBA_len s) (fun i hi => by rw [Nat.zero_add, HRr.cell]; exact HLr.end i hi) 9 Tryd.underlying9
      rw [lowBA_nums] at hst
      have H2 := Lib.hid HBr; clear HRr HLr HBr
      go_wp2
      go_ret
      exact ⟨rfl, H2.out⟩
end Go.Proofs.YtkfehogefclhdaaDoor.Ext
