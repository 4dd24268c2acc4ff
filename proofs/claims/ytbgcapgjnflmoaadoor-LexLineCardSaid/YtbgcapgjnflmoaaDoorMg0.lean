/- Contracts of the functions that the statement reaches, and plain lemmas: ExtA, Shelf, ExtQ, ExtW. -/
import Derived.Test.YtbgcapgjnflmoaaDoorProg
import Derived.WalkKit
import Derived.WalkSpells
import Derived.WalkLawsBesides
import Derived.Lib.ConvBytes
import Derived.Laws.BytesArg
import Derived.Lib.Hide
import Derived.Shelf.Strings.Builder1
import Derived.Shelf.Small.Utf8
import Derived.Shelf.Small.Strs
import Derived.Shelf.Strconv.Itoa0
import Derived.Shelf.Strconv.Itoa1
import Derived.Shelf.LaysM
import Derived.Shelf.Strconv.Itoa2
import Derived.Shelf.Strconv.Itoa3
import Derived.Shelf.Strings.Search1
import Derived.Shelf.Strings.Search2
import Derived.Shelf.Strings.Search3
import Derived.Shelf.Strings.Shaped
import Derived.Shelf.Strings.Prefix
import Derived.Shelf.Strings.Runes
import Derived.Lib.Builder
import Derived.Deep.QuietTactic
import Derived.BigQuiet
import Derived.Lib.LaidTab
import Derived.Lib.AppendIntMem
set_option linter.unusedVariables false
set_option linter.unusedSimpArgs false
set_option linter.unnecessarySimpa false
namespace Go.Proofs.YtbgcapgjnflmoaaDoor.Ext
open Go.RowKit

/-- A byte in small letters. -/
def lowB (c : UInt8) : UInt8 := if 65 ≤ c ∧ c ≤ 90 then c + 32 else c
/-- A text in small letters. -/
def lowBA (s : ByteArray) : ByteArray := ⟨s.data.map lowB⟩

/-- The row that a conversion from a string has laid: its mark stands behind its cells. -/
def Raw (w : World) (g : Nat) (e : TypeId) (cur : Array Value) : Prop := w.heap[g]? = some (.cells cur e (cur.size, cur.size + 1))
theorem Raw.cell {w : World} {g e : Nat} {cur : Array Value} (h : Raw w g e cur) (j : Nat) : w.cell? ⟨g, j, none⟩ = cur[j]? := by
  unfold World.cell?; rw [show w.heap[(⟨g, j, none⟩ : Addr).block]? = _ from h]; simp
theorem Raw.free {w : World} {g e : Nat} {cur : Array Value} (h : Raw w g e cur) (j : Nat) (hj : j < cur.size) : w.frozen? ⟨g, j, none⟩ = false := by
  unfold World.frozen?; rw [show w.heap[(⟨g, j, none⟩ : Addr).block]? = _ from h]; simp; omega
theorem Raw.set {w : World} {g e : Nat} {cur : Array Value} (h : Raw w g e cur) (j : Nat) (v : Value) : Raw (w.setCell ⟨g, j, none⟩ v) g e (cur.setIfInBounds j v) := by
  unfold Raw World.setCell at *
  simp [Array.getElem?_modify, h]
theorem Raw.of_conv (w : World) (e : TypeId) (s : ByteArray) : Raw (Lib.bytesWorld w e s) w.heap.size e (Lib.bytesCells w e s) := by
  unfold Raw; exact Lib.bytesWorld_at_new w e s
theorem conv_below (w : World) (e : TypeId) (s : ByteArray) : Below w.heap.size w (Lib.bytesWorld w e s) :=
  ⟨rfl, rfl, rfl, by rw [Lib.bytesWorld_size]; omega, fun k hk => Lib.bytesWorld_at_old w e s k hk⟩
theorem conv_cells_size (w : World) (e : TypeId) (s : ByteArray) : s.size ≤ (Lib.bytesCells w e s).size := by
  simp [Lib.bytesCells]
theorem conv_cells_at (w : World) (e : TypeId) (s : ByteArray) (j : Nat) (hj : j < s.size) : (Lib.bytesCells w e s)[j]? = some (.int .u8 (s[j]).toNat) := by
  have h1 : j < s.data.size := hj
  simp only [Lib.bytesCells]
  rw [Array.getElem?_append_left (by simpa using h1)]
  have h2 : s.data[j]? = some s[j] := Array.getElem?_eq_getElem h1
  simp [h2]

/-- The cells of a text of which the first k bytes are small. -/
def LowAt (s : ByteArray) (k : Nat) (cur : Array Value) : Prop := s.size ≤ cur.size ∧ ∀ j (hj : j < s.size), cur[j]? = some (.int .u8 ((if j < k then lowB s[j] else s[j]).toNat : Int))
theorem LowAt.start (w : World) (e : TypeId) (s : ByteArray) : LowAt s 0 (Lib.bytesCells w e s) :=
  ⟨conv_cells_size w e s, fun j hj => by rw [conv_cells_at w e s j hj]; simp⟩
theorem lowB_no {c : UInt8} (h : (c.toNat : Int) < 65 ∨ 90 < (c.toNat : Int)) : lowB c = c := by
  unfold lowB; rw [if_neg]; rw [UInt8.le_iff_toNat_le, UInt8.le_iff_toNat_le]; simp; omega
theorem lowB_yes {c : UInt8} (h1 : 65 ≤ (c.toNat : Int)) (h2 : (c.toNat : Int) ≤ 90) : ((lowB c).toNat : Int) = c.toNat + 32 := by
  unfold lowB; rw [if_pos (by rw [UInt8.le_iff_toNat_le, UInt8.le_iff_toNat_le]; simp; omega)]
  rw [UInt8.toNat_add]; simp; omega
theorem LowAt.keep {s : ByteArray} {k : Nat} {cur : Array Value} (h : LowAt s k cur) (hk : k < s.size) (hn : lowB s[k] = s[k]) : LowAt s (k + 1) cur := by
  refine ⟨h.1, fun j hj => ?_⟩
  rw [h.2 j hj]
  by_cases e : j = k
  · subst e; simp [hn]
  · by_cases e2 : j < k
    · simp [e2, show j < k + 1 by omega]
    · simp [e2, show ¬ j < k + 1 by omega]
theorem LowAt.turn {s : ByteArray} {k : Nat} {cur : Array Value} (h : LowAt s k cur) (hk : k < s.size) (z : Int) (hz : z = ((lowB s[k]).toNat : Int)) : LowAt s (k + 1) (cur.setIfInBounds k (.int .u8 z)) := by
  refine ⟨by simpa using h.1, fun j hj => ?_⟩
  have hs := h.1
  by_cases e : j = k
  · subst e; rw [Array.getElem?_setIfInBounds_self_of_lt (by omega)]; simp [hz]
  · rw [Array.getElem?_setIfInBounds_ne (by omega), h.2 j hj]
    by_cases e2 : j < k
    · simp [e2, show j < k + 1 by omega]
    · simp [e2, show ¬ j < k + 1 by omega]
theorem lowBA_nums (s : ByteArray) : strOfNums ((lowBA s).data.toList.map fun b => (b.toNat : Int)) = lowBA s := by
  unfold strOfNums; simp [List.map_map, Function.comp_def]
theorem lowBA_len (s : ByteArray) : ((lowBA s).data.toList.map fun b => (b.toNat : Int)).length = s.size := by
  rw [List.length_map]; show (s.data.map lowB).toList.length = s.data.size; simp
theorem LowAt.end {s : ByteArray} {cur : Array Value} (h : LowAt s s.size cur) (i : Nat) (hi : i < s.size) : cur[i]? = some (.int .u8 (((lowBA s).data.toList.map fun b => (b.toNat : Int)).getD i 0)) := by
  rw [h.2 i hi]
  simp [lowBA, hi]; rfl

set_option maxHeartbeats 1000000 in
theorem lower_any (s : ByteArray) (w : World) (hs : s.size ≤ 140737488351232) :
    Calls Tryd.prog 60 #[.string s] w fun e w' => e = .returned (.string (lowBA s)) ∧ Below w.heap.size w w' := by
  have hcv : ∀ W : World, (convert 9 41 (.string s)).run Tryd.prog W = .ok (.slice (some ⟨W.heap.size, 0, none⟩) s.size (grownCap W s.size 0 5)) (Lib.bytesWorld W 5 s) :=
    fun W => Lib.run_convert_string_bytes W 9 41 5 s Tryd.underlying9 Tryd.underlying41 Tryd.underlying5
  go_enter Tryd.func60, Tryd.ntmps60
  go_wp2
  have HR := Raw.of_conv w 5 s
  have HL := LowAt.start w 5 s
  have HB := conv_below w 5 s
  have hsz : w.heap.size = w.heap.size := rfl
  clear hcv
  generalize Lib.bytesWorld w 5 s = W1 at *
  generalize Lib.bytesCells w 5 s = C1 at *
  generalize grownCap w s.size 0 5 = cap at *
  clear hsz
  go_loopw [10] (fun i wr => ∃ (k : Nat) (cur : Array Value), k ≤ s.size ∧ i = .int .i64 k ∧ Raw wr w.heap.size 5 cur ∧ LowAt s k cur ∧ Below w.heap.size w wr) (fun i _ => s.size - (intOf i).toNat)
  case atStart => exact ⟨0, C1, Nat.zero_le _, rfl, HR, HL, HB⟩
  case round =>
    obtain ⟨k, cur, hk, rfl, HRr, HLr, HBr⟩ := hrel
    by_cases hlt : k < s.size
    · have hcell : wr.cell? ⟨w.heap.size, k, none⟩ = some (.int .u8 ((s[k]).toNat : Int)) := by rw [HRr.cell, HLr.2 k hlt]; simp
      have hfree : wr.frozen? ⟨w.heap.size, k, none⟩ = false := HRr.free k (by have := HLr.1; omega)
      obtain ⟨c, hc⟩ : ∃ c : Int, c = ((s[k]).toNat : Int) := ⟨_, rfl⟩
      have hc0 : (0 : Int) ≤ c := by omega
      have hc1 : c < 256 := by have := (s[k]).toNat_lt; omega
      rw [← hc] at hcell
      have H2 := Lib.hid (And.intro hc (And.intro HRr (And.intro HLr HBr))); clear hc HRr HLr HBr
      go_wp2
      · go_roundw
        case rel =>
          obtain ⟨hc, HRr, HLr, HBr⟩ := H2.out
          have hlow := lowB_yes (c := s[k]) (by omega) (by omega)
          exact ⟨k + 1, _, by omega, by go_num, HRr.set k _, HLr.turn hlt _ (by omega), HBr.setCell (Nat.le_refl _) _⟩
        case measure => simp [intOf]; omega
      · go_roundw
        case rel =>
          obtain ⟨hc, HRr, HLr, HBr⟩ := H2.out
          exact ⟨k + 1, cur, by omega, by go_num, HRr, HLr.keep hlt (lowB_no (.inr (by rw [← hc]; omega))), HBr⟩
        case measure => simp [intOf]; omega
      · go_roundw
        case rel =>
          obtain ⟨hc, HRr, HLr, HBr⟩ := H2.out
          exact ⟨k + 1, cur, by omega, by go_num, HRr, HLr.keep hlt (lowB_no (.inl (by rw [← hc]; omega))), HBr⟩
        case measure => simp [intOf]; omega
    · have : k = s.size := by omega
      subst this
      have hst := run_convert_bytes_arg (P := Tryd.prog) wr 41 5 Tryd.underlying41 Tryd.underlying5 w.heap.size 0 s.size cap ((lowBA s).data.toList.map fun b => (b.toNat : Int)) (lowBA_len s) (fun i hi => by rw [Nat.zero_add, HRr.cell]; exact HLr.end i hi) 9 Tryd.underlying9
      rw [lowBA_nums] at hst
      have H2 := Lib.hid HBr; clear HRr HLr HBr
      go_wp2
      go_ret
      exact ⟨rfl, H2.out⟩
end Go.Proofs.YtbgcapgjnflmoaaDoor.Ext

/-
  DERIVED: THE SHELF's CONTRACTS AT THIS DUMP, IN PLAIN WORDS (tools/lay-plain.mjs out of 'YtbgcapgjnflmoaaDoorShelfX.lean', which tools/lay-shelf.mjs wrote): THE SAME DECLARATIONS UNDER THE SAME NAMES: 'import', 'namespace', 'open', 'def', 'theorem' AND NOTHING ELSE: no command of the shelf's: FOR A HAND-IN. Each laying: the table of numbers ('.._ren') and one theorem, a field a fact of the dump's own or the kernel's comparison; each contract: ONE APPLICATION.
-/
namespace Go.Proofs
open Go.Shelf
def Tryd.lays167_ren : Go.Shelf.Ren := ⟨fun | 167 => 43 | 240 => 58 | 276 => 65 | n => n, fun | 70 => 60 | 5 => 5 | 75 => 82 | 0 => 0 | 72 => 62 | 37 => 41 | 4 => 4 | 164 => 99 | 80 => 66 | 9 => 9 | 3 => 3 | 20 => 20 | 21 => 21 | n => n, fun | n => n⟩
theorem Tryd.lays167 : Go.Proofs.Lays.n167 Tryd.prog Tryd.lays167_ren := {
  mixed := by kernel_rfl
  f167 := Tryd.func43.trans (congrArg some (by kernel_rfl))
  f240 := Tryd.func58.trans (congrArg some (by kernel_rfl))
  f276 := Tryd.func65.trans (congrArg some (by kernel_rfl))
  t0 := Tryd.underlying0
  a0 := Tryd.isAgg0
  z0 := Tryd.sizeOf0
  v0 := Tryd.zeroValue0
  t4 := Tryd.underlying4
  a4 := Tryd.isAgg4
  z4 := Tryd.sizeOf4
  v4 := Tryd.zeroValue4
  t5 := Tryd.underlying5
  a5 := Tryd.isAgg5
  z5 := Tryd.sizeOf5
  v5 := Tryd.zeroValue5
  t9 := Tryd.underlying9
  a9 := Tryd.isAgg9
  z9 := Tryd.sizeOf9
  v9 := Tryd.zeroValue9
  t20 := Tryd.underlying20
  a20 := Tryd.isAgg20
  z20 := Tryd.sizeOf20
  v20 := Tryd.zeroValue20
  t37 := Tryd.underlying41
  a37 := Tryd.isAgg41
  z37 := Tryd.sizeOf41
  v37 := Tryd.zeroValue41
  t70 := Tryd.underlying60
  a70 := Tryd.isAgg60
  z70 := Tryd.sizeOf60
  v70 := Tryd.zeroValue60
  t72 := Tryd.underlying62
  a72 := Tryd.isAgg62
  z72 := Tryd.sizeOf62
  v72 := Tryd.zeroValue62
  t75 := Tryd.underlying82
  a75 := Tryd.isAgg82
  z75 := Tryd.sizeOf82
  v75 := Tryd.zeroValue82
  t164 := Tryd.underlying99
  a164 := Tryd.isAgg99
  z164 := Tryd.sizeOf99
  v164 := Tryd.zeroValue99 }
theorem Tryd.Builder_Extra_167 : Builder.Extra Tryd.prog Tryd.lays167_ren := {
  sizeBuilder := by kernel_rfl
  liesBuilder := by kernel_rfl
  t5 := Tryd.underlying5
  a5 := Tryd.isAgg5
  z5 := Tryd.sizeOf5
  v5 := Tryd.zeroValue5
  infoByte := by kernel_rfl
  cellsByte := by kernel_rfl
  sizeByte := by kernel_rfl
  neB5 := by decide }
open Go.RowKit in
/-- (*strings.Builder).WriteByte: "WriteByte appends the byte c to b's buffer. The returned error is always nil.": UNDER Go's OWN LIMIT: the new length takes at most 2^47 bytes. (LAID: no walk: one application.) -/
theorem Tryd.Builder_WriteByte (B b : Nat) (bs : List Value) (c : Int) (w : World) (h : Lib.IsBuilder 62 5 B b bs w) (hlen : bs.length + 1 ≤ 140737488355328) (hBw : B ≤ w.heap.size) :
    Calls Tryd.prog 43 #[.pointer (some ⟨b, 0, none⟩), .int .u8 c] w fun e w' => e = .returned .nilIface ∧ (Lib.BuilderAt 62 5 B b (.pointer (some ⟨b, 0, none⟩)) (bs ++ [.int .u8 c]) w' ∧ Below B w w') := Any.Builder_WriteByte Tryd.lays167 Tryd.Builder_Extra_167 B b bs c w h hlen hBw
def Tryd.lays169_ren : Go.Shelf.Ren := ⟨fun | 169 => 27 | n => n, fun | 70 => 60 | 9 => 9 | 0 => 0 | 72 => 62 | 37 => 41 | 127 => 87 | 3 => 3 | 5 => 5 | 4 => 4 | 20 => 20 | 21 => 21 | n => n, fun | n => n⟩
theorem Tryd.lays169 : Go.Proofs.Lays.n169 Tryd.prog Tryd.lays169_ren := {
  mixed := by kernel_rfl
  f169 := Tryd.func27.trans (congrArg some (by kernel_rfl))
  t0 := Tryd.underlying0
  a0 := Tryd.isAgg0
  z0 := Tryd.sizeOf0
  v0 := Tryd.zeroValue0
  t3 := Tryd.underlying3
  a3 := Tryd.isAgg3
  z3 := Tryd.sizeOf3
  v3 := Tryd.zeroValue3
  t9 := Tryd.underlying9
  a9 := Tryd.isAgg9
  z9 := Tryd.sizeOf9
  v9 := Tryd.zeroValue9
  t37 := Tryd.underlying41
  a37 := Tryd.isAgg41
  z37 := Tryd.sizeOf41
  v37 := Tryd.zeroValue41
  t70 := Tryd.underlying60
  a70 := Tryd.isAgg60
  z70 := Tryd.sizeOf60
  v70 := Tryd.zeroValue60
  t72 := Tryd.underlying62
  a72 := Tryd.isAgg62
  z72 := Tryd.sizeOf62
  v72 := Tryd.zeroValue62
  t127 := Tryd.underlying87
  a127 := Tryd.isAgg87
  z127 := Tryd.sizeOf87
  v127 := Tryd.zeroValue87 }
theorem Tryd.Builder_Extra_169 : Builder.Extra Tryd.prog Tryd.lays169_ren := {
  sizeBuilder := by kernel_rfl
  liesBuilder := by kernel_rfl
  t5 := Tryd.underlying5
  a5 := Tryd.isAgg5
  z5 := Tryd.sizeOf5
  v5 := Tryd.zeroValue5
  infoByte := by kernel_rfl
  cellsByte := by kernel_rfl
  sizeByte := by kernel_rfl
  neB5 := by decide }
open Go.RowKit in
/-- (*strings.Builder).String: "String returns the accumulated string.": WHATEVER THE BUILDER HOLDS. (LAID: no walk: one application.) -/
theorem Tryd.Builder_String_any (B b : Nat) (l : List UInt8) (w : World) (h : Lib.IsBuilder 62 5 B b (Lib.byteCells l) w) (hBw : B ≤ w.heap.size) :
    Calls Tryd.prog 27 #[.pointer (some ⟨b, 0, none⟩)] w fun e w' => e = .returned (.string ⟨l.toArray⟩) ∧ Below B w w' := Any.Builder_String_any Tryd.lays169 Tryd.Builder_Extra_169 B b l w h hBw
def Tryd.laysM171_ren : Go.Shelf.Ren := ⟨fun | 171 => 35 | 243 => 48 | 246 => 59 | 283 => 66 | 284 => 67 | 285 => 68 | 286 => 69 | 129 => 76 | 317 => 75 | 318 => 77 | 319 => 78 | 320 => 79 | 337 => 82 | 338 => 83 | n => n, fun | 3 => 3 | 9 => 9 | 2 => 2 | 4 => 4 | 171 => 101 | 0 => 0 | 53 => 102 | 37 => 41 | 5 => 5 | 173 => 105 | 212 => 111 | 51 => 112 | 20 => 20 | 213 => 113 | 46 => 109 | 232 => 119 | 233 => 120 | 21 => 21 | n => n, fun | 17 => 0 | 18 => 2 | 19 => 3 | n => n⟩
theorem Tryd.laysM171 : Go.Proofs.LaysM.n171 Tryd.prog Tryd.laysM171_ren := {
  mixed := by kernel_rfl
  f129 := Tryd.func76.trans (congrArg some (by kernel_rfl))
  f171 := Tryd.func35.trans (congrArg some (by kernel_rfl))
  f243 := Tryd.func48.trans (congrArg some (by kernel_rfl))
  f246 := Tryd.func59.trans (congrArg some (by kernel_rfl))
  f283 := Tryd.func66.trans (congrArg some (by kernel_rfl))
  f284 := Tryd.func67.trans (congrArg some (by kernel_rfl))
  f285 := Tryd.func68.trans (congrArg some (by kernel_rfl))
  f286 := Tryd.func69.trans (congrArg some (by kernel_rfl))
  f317 := Tryd.func75.trans (congrArg some (by kernel_rfl))
  f318 := Tryd.func77.trans (congrArg some (by kernel_rfl))
  f319 := Tryd.func78.trans (congrArg some (by kernel_rfl))
  f320 := Tryd.func79.trans (congrArg some (by kernel_rfl))
  f337 := Tryd.func82.trans (congrArg some (by kernel_rfl))
  f338 := Tryd.func83.trans (congrArg some (by kernel_rfl))
  t0 := Tryd.underlying0
  a0 := Tryd.isAgg0
  z0 := Tryd.sizeOf0
  v0 := Tryd.zeroValue0
  t2 := Tryd.underlying2
  a2 := Tryd.isAgg2
  z2 := Tryd.sizeOf2
  v2 := Tryd.zeroValue2
  t3 := Tryd.underlying3
  a3 := Tryd.isAgg3
  z3 := Tryd.sizeOf3
  v3 := Tryd.zeroValue3
  t4 := Tryd.underlying4
  a4 := Tryd.isAgg4
  z4 := Tryd.sizeOf4
  v4 := Tryd.zeroValue4
  t5 := Tryd.underlying5
  a5 := Tryd.isAgg5
  z5 := Tryd.sizeOf5
  v5 := Tryd.zeroValue5
  t9 := Tryd.underlying9
  a9 := Tryd.isAgg9
  z9 := Tryd.sizeOf9
  v9 := Tryd.zeroValue9
  t20 := Tryd.underlying20
  a20 := Tryd.isAgg20
  z20 := Tryd.sizeOf20
  v20 := Tryd.zeroValue20
  t37 := Tryd.underlying41
  a37 := Tryd.isAgg41
  z37 := Tryd.sizeOf41
  v37 := Tryd.zeroValue41
  t46 := Tryd.underlying109
  a46 := Tryd.isAgg109
  z46 := Tryd.sizeOf109
  v46 := Tryd.zeroValue109
  t51 := Tryd.underlying112
  a51 := Tryd.isAgg112
  z51 := Tryd.sizeOf112
  v51 := Tryd.zeroValue112
  t53 := Tryd.underlying102
  a53 := Tryd.isAgg102
  z53 := Tryd.sizeOf102
  v53 := Tryd.zeroValue102
  t171 := Tryd.underlying101
  a171 := Tryd.isAgg101
  z171 := Tryd.sizeOf101
  v171 := Tryd.zeroValue101
  t173 := Tryd.underlying105
  a173 := Tryd.isAgg105
  z173 := Tryd.sizeOf105
  v173 := Tryd.zeroValue105
  t212 := Tryd.underlying111
  a212 := Tryd.isAgg111
  z212 := Tryd.sizeOf111
  v212 := Tryd.zeroValue111
  t213 := Tryd.underlying113
  a213 := Tryd.isAgg113
  z213 := Tryd.sizeOf113
  t232 := Tryd.underlying119
  a232 := Tryd.isAgg119
  z232 := Tryd.sizeOf119
  v232 := Tryd.zeroValue119
  t233 := Tryd.underlying120
  a233 := Tryd.isAgg120
  z233 := Tryd.sizeOf120
  v233 := Tryd.zeroValue120
  g17 := by kernel_rfl
  g18 := by kernel_rfl
  g19 := by kernel_rfl
  i0 := by kernel_rfl
  i2 := by kernel_rfl
  i3 := by kernel_rfl
  i4 := by kernel_rfl
  i5 := by kernel_rfl
  i9 := by kernel_rfl
  i20 := by kernel_rfl
  i37 := by kernel_rfl
  i46 := by kernel_rfl
  i51 := by kernel_rfl
  i53 := by kernel_rfl
  i171 := by kernel_rfl
  i173 := by kernel_rfl
  i212 := by kernel_rfl
  i232 := by kernel_rfl
  i233 := by kernel_rfl
  m17 := by kernel_rfl
  m18 := by kernel_rfl
  m19 := by kernel_rfl }
open Go.RowKit Go.Sort Go.Lib in
/-- strconv.Itoa: "Itoa is equivalent to FormatInt(int64(i), 10).": i's DECIMAL NUMERAL ('Lib.itoa': a '-' where i is negative, then the digits), FOR EVERY int. The world behind the call: the world before it, new blocks behind the heap (the library's 'var a [24]byte'), draws. (LAID: no walk: one application.) -/
theorem Tryd.strconv_Itoa (n : Int) (h0 : -9223372036854775808 ≤ n) (h1 : n ≤ 9223372036854775807) (w : World) (htab : Lib.TabIs Tryd.prog w "internal/strconv.uint64pow10" .u64 Lib.pow10Tab) :
    Calls Tryd.prog 35 #[.int .i64 n] w fun e w' => e = .returned (.string ⟨(Lib.itoa n).toArray⟩) ∧ ∃ k os, w' = grow (w.drewN k) os := Any.strconv_Itoa Tryd.laysM171 n h0 h1 w htab
def Tryd.lays144_ren : Go.Shelf.Ren := ⟨fun | 144 => 50 | 143 => 61 | 219 => 70 | 217 => 80 | 225 => 74 | 224 => 73 | 267 => 81 | 266 => 84 | 314 => 85 | n => n, fun | 9 => 9 | 4 => 4 | 3 => 3 | 5 => 5 | 46 => 109 | 146 => 117 | 51 => 112 | 0 => 0 | 20 => 20 | 21 => 21 | n => n, fun | 1 => 1 | n => n⟩
theorem Tryd.lays144 : Go.Proofs.Lays.n144 Tryd.prog Tryd.lays144_ren := {
  mixed := by kernel_rfl
  f143 := Tryd.func61.trans (congrArg some (by kernel_rfl))
  f144 := Tryd.func50.trans (congrArg some (by kernel_rfl))
  f217 := Tryd.func80.trans (congrArg some (by kernel_rfl))
  f219 := Tryd.func70.trans (congrArg some (by kernel_rfl))
  f224 := Tryd.func73.trans (congrArg some (by kernel_rfl))
  f225 := Tryd.func74.trans (congrArg some (by kernel_rfl))
  f266 := Tryd.func84.trans (congrArg some (by kernel_rfl))
  f267 := Tryd.func81.trans (congrArg some (by kernel_rfl))
  f314 := Tryd.func85.trans (congrArg some (by kernel_rfl))
  t3 := Tryd.underlying3
  a3 := Tryd.isAgg3
  z3 := Tryd.sizeOf3
  v3 := Tryd.zeroValue3
  t4 := Tryd.underlying4
  a4 := Tryd.isAgg4
  z4 := Tryd.sizeOf4
  v4 := Tryd.zeroValue4
  t5 := Tryd.underlying5
  a5 := Tryd.isAgg5
  z5 := Tryd.sizeOf5
  v5 := Tryd.zeroValue5
  t9 := Tryd.underlying9
  a9 := Tryd.isAgg9
  z9 := Tryd.sizeOf9
  v9 := Tryd.zeroValue9
  t46 := Tryd.underlying109
  a46 := Tryd.isAgg109
  z46 := Tryd.sizeOf109
  v46 := Tryd.zeroValue109
  t51 := Tryd.underlying112
  a51 := Tryd.isAgg112
  z51 := Tryd.sizeOf112
  v51 := Tryd.zeroValue112
  t146 := Tryd.underlying117
  a146 := Tryd.isAgg117
  z146 := Tryd.sizeOf117
  v146 := Tryd.zeroValue117
  g1 := by kernel_rfl }
open Go.RowKit Go.Lib in
/-- strings.Contains: "Contains reports whether substr is within s.": AT A substr OF ONE BYTE c: IT RETURNS 'decide (0 ≤ Lib.indexByte s c)'; the world is as it was. (LAID: no walk: one application.) -/
theorem Tryd.strings_Contains_one (s : ByteArray) (c : UInt8) (w : World) :
    Calls Tryd.prog 50 #[.string s, .string ⟨#[c]⟩] w fun e w' => e = .returned (.bool (decide (0 ≤ Lib.indexByte s.data.toList c))) ∧ w' = w := Any.strings_Contains_one Tryd.lays144 s c w
def Tryd.lays99_ren : Go.Shelf.Ren := ⟨fun | 99 => 40 | 206 => 55 | n => n, fun | 9 => 9 | 4 => 4 | 3 => 3 | 0 => 0 | 5 => 5 | 20 => 20 | 21 => 21 | n => n, fun | n => n⟩
theorem Tryd.lays99 : Go.Proofs.Lays.n99 Tryd.prog Tryd.lays99_ren := {
  mixed := by kernel_rfl
  f99 := Tryd.func40.trans (congrArg some (by kernel_rfl))
  f206 := Tryd.func55.trans (congrArg some (by kernel_rfl))
  t3 := Tryd.underlying3
  a3 := Tryd.isAgg3
  z3 := Tryd.sizeOf3
  v3 := Tryd.zeroValue3
  t4 := Tryd.underlying4
  a4 := Tryd.isAgg4
  z4 := Tryd.sizeOf4
  v4 := Tryd.zeroValue4
  t9 := Tryd.underlying9
  a9 := Tryd.isAgg9
  z9 := Tryd.sizeOf9
  v9 := Tryd.zeroValue9 }
open Go.RowKit Go.Lib in
/-- strings.HasPrefix: "HasPrefix reports whether the string s begins with prefix.": IT RETURNS 'Lib.hasPrefix s prefix'; the world is as it was. (LAID: no walk: one application.) -/
theorem Tryd.strings_HasPrefix (s p : ByteArray) (w : World) :
    Calls Tryd.prog 40 #[.string s, .string p] w fun e w' => e = .returned (.bool (Lib.hasPrefix s.data.toList p.data.toList)) ∧ w' = w := Any.strings_HasPrefix Tryd.lays99 s p w
def Tryd.lays100_ren : Go.Shelf.Ren := ⟨fun | 100 => 31 | 207 => 47 | n => n, fun | 9 => 9 | 4 => 4 | 3 => 3 | 0 => 0 | 5 => 5 | 20 => 20 | 21 => 21 | n => n, fun | n => n⟩
theorem Tryd.lays100 : Go.Proofs.Lays.n100 Tryd.prog Tryd.lays100_ren := {
  mixed := by kernel_rfl
  f100 := Tryd.func31.trans (congrArg some (by kernel_rfl))
  f207 := Tryd.func47.trans (congrArg some (by kernel_rfl))
  t3 := Tryd.underlying3
  a3 := Tryd.isAgg3
  z3 := Tryd.sizeOf3
  v3 := Tryd.zeroValue3
  t4 := Tryd.underlying4
  a4 := Tryd.isAgg4
  z4 := Tryd.sizeOf4
  v4 := Tryd.zeroValue4
  t9 := Tryd.underlying9
  a9 := Tryd.isAgg9
  z9 := Tryd.sizeOf9
  v9 := Tryd.zeroValue9 }
open Go.RowKit Go.Lib in
/-- strings.HasSuffix: "HasSuffix reports whether the string s ends with suffix.": IT RETURNS 'Lib.hasSuffix s suffix'; the world is as it was. ('hs': no Go string is longer: a caller has it of every string that it was handed.) (LAID: no walk: one application.) -/
theorem Tryd.strings_HasSuffix (s p : ByteArray) (w : World) (hs : s.size ≤ 9223372036854775807) :
    Calls Tryd.prog 31 #[.string s, .string p] w fun e w' => e = .returned (.bool (Lib.hasSuffix s.data.toList p.data.toList)) ∧ w' = w := Any.strings_HasSuffix Tryd.lays100 s p w hs
def Tryd.lays101_ren : Go.Shelf.Ren := ⟨fun | 101 => 39 | 208 => 54 | 206 => 55 | n => n, fun | 9 => 9 | 4 => 4 | 3 => 3 | 0 => 0 | 5 => 5 | 20 => 20 | 21 => 21 | n => n, fun | n => n⟩
theorem Tryd.lays101 : Go.Proofs.Lays.n101 Tryd.prog Tryd.lays101_ren := {
  mixed := by kernel_rfl
  f101 := Tryd.func39.trans (congrArg some (by kernel_rfl))
  f206 := Tryd.func55.trans (congrArg some (by kernel_rfl))
  f208 := Tryd.func54.trans (congrArg some (by kernel_rfl))
  t3 := Tryd.underlying3
  a3 := Tryd.isAgg3
  z3 := Tryd.sizeOf3
  v3 := Tryd.zeroValue3
  t4 := Tryd.underlying4
  a4 := Tryd.isAgg4
  z4 := Tryd.sizeOf4
  v4 := Tryd.zeroValue4
  t9 := Tryd.underlying9
  a9 := Tryd.isAgg9
  z9 := Tryd.sizeOf9
  v9 := Tryd.zeroValue9 }
open Go.RowKit Go.Lib in
/-- strings.TrimPrefix: "TrimPrefix returns s without the provided leading prefix string. If s doesn't start with prefix, s is returned unchanged.": IT RETURNS 'Lib.trimPrefix s prefix'; the world is as it was. (LAID: no walk: one application.) -/
theorem Tryd.strings_TrimPrefix (s p : ByteArray) (w : World) :
    Calls Tryd.prog 39 #[.string s, .string p] w fun e w' => e = .returned (.string ⟨(Lib.trimPrefix s.data.toList p.data.toList).toArray⟩) ∧ w' = w := Any.strings_TrimPrefix Tryd.lays101 s p w
def Tryd.lays151_ren : Go.Shelf.Ren := ⟨fun | 151 => 53 | 152 => 63 | 137 => 71 | 119 => 72 | 224 => 73 | 225 => 74 | 217 => 80 | 266 => 84 | n => n, fun | 9 => 9 | 21 => 21 | 4 => 4 | 3 => 3 | 5 => 5 | 0 => 0 | 46 => 109 | 20 => 20 | n => n, fun | n => n⟩
theorem Tryd.lays151 : Go.Proofs.Lays.n151 Tryd.prog Tryd.lays151_ren := {
  mixed := by kernel_rfl
  f119 := Tryd.func72.trans (congrArg some (by kernel_rfl))
  f137 := Tryd.func71.trans (congrArg some (by kernel_rfl))
  f151 := Tryd.func53.trans (congrArg some (by kernel_rfl))
  f152 := Tryd.func63.trans (congrArg some (by kernel_rfl))
  f217 := Tryd.func80.trans (congrArg some (by kernel_rfl))
  f224 := Tryd.func73.trans (congrArg some (by kernel_rfl))
  f225 := Tryd.func74.trans (congrArg some (by kernel_rfl))
  f266 := Tryd.func84.trans (congrArg some (by kernel_rfl))
  t0 := Tryd.underlying0
  a0 := Tryd.isAgg0
  z0 := Tryd.sizeOf0
  v0 := Tryd.zeroValue0
  t3 := Tryd.underlying3
  a3 := Tryd.isAgg3
  z3 := Tryd.sizeOf3
  v3 := Tryd.zeroValue3
  t4 := Tryd.underlying4
  a4 := Tryd.isAgg4
  z4 := Tryd.sizeOf4
  v4 := Tryd.zeroValue4
  t5 := Tryd.underlying5
  a5 := Tryd.isAgg5
  z5 := Tryd.sizeOf5
  v5 := Tryd.zeroValue5
  t9 := Tryd.underlying9
  a9 := Tryd.isAgg9
  z9 := Tryd.sizeOf9
  v9 := Tryd.zeroValue9
  t21 := Tryd.underlying21
  a21 := Tryd.isAgg21
  z21 := Tryd.sizeOf21
  v21 := Tryd.zeroValue21
  t46 := Tryd.underlying109
  a46 := Tryd.isAgg109
  z46 := Tryd.sizeOf109
  v46 := Tryd.zeroValue109 }
open Go.RowKit Go.Lib in
theorem Tryd.strings_ContainsRune_ascii (s : ByteArray) (r : Int) (w : World) (h0 : 0 ≤ r) (h1 : r < 128) :
    Calls Tryd.prog 53 #[.string s, .int .i32 r] w fun e w' => e = .returned (.bool (decide (0 ≤ Lib.indexByte s.data.toList r.toNat.toUInt8))) ∧ w' = w := Any.strings_ContainsRune_ascii Tryd.lays151 s r w h0 h1
end Go.Proofs

namespace Go.Proofs.YtbgcapgjnflmoaaDoor.Ext
open Go.RowKit

/-- What a byte is written as within quotes. -/
def esc (c : UInt8) : List UInt8 := if c = 34 ∨ c = 92 then [92, c] else [c]
/-- A text in quotes. -/
def quoteL (l : List UInt8) : List UInt8 := 34 :: (l.flatMap esc ++ [34])
def quoteBA (s : ByteArray) : ByteArray := ⟨(quoteL s.data.toList).toArray⟩
theorem esc_len (l : List UInt8) : (l.flatMap esc).length ≤ 2 * l.length := by
  induction l with
  | nil => simp
  | cons c l ih =>
    rw [List.flatMap_cons, List.length_append]
    have : (esc c).length ≤ 2 := by unfold esc; split <;> simp
    simp only [List.length_cons]; omega
theorem take_esc (s : ByteArray) (k : Nat) (h : k < s.size) : (s.data.toList.take (k + 1)).flatMap esc = (s.data.toList.take k).flatMap esc ++ esc s[k] := by
  rw [List.take_succ_eq_append_getElem (by simpa using h), List.flatMap_append]
  simp; rfl
theorem bytes_snoc (l : List UInt8) (c : UInt8) : Lib.byteCells l ++ [.int .u8 (c.toNat : Int)] = Lib.byteCells (l ++ [c]) := by simp [Lib.byteCells]
def held (s : ByteArray) (k : Nat) : List UInt8 := 34 :: (s.data.toList.take k).flatMap esc
theorem held_len (s : ByteArray) (k : Nat) : (held s k).length ≤ 2 * s.size + 1 := by
  unfold held
  have h := esc_len (s.data.toList.take k)
  have h2 : (s.data.toList.take k).length ≤ s.data.toList.length := by rw [List.length_take]; omega
  have h3 : s.data.toList.length = s.size := by simp
  simp only [List.length_cons]; omega
theorem held_plain (s : ByteArray) (k : Nat) (h : k < s.size) (h1 : s[k] ≠ 34) (h2 : s[k] ≠ 92) : held s k ++ [s[k]] = held s (k + 1) := by
  unfold held; rw [take_esc s k h]; unfold esc; rw [if_neg (by simp [h1, h2])]; rfl
theorem held_esc (s : ByteArray) (k : Nat) (h : k < s.size) (h1 : s[k] = 34 ∨ s[k] = 92) : held s k ++ [92] ++ [s[k]] = held s (k + 1) := by
  unfold held; rw [take_esc s k h]; unfold esc; rw [if_pos h1]; simp
theorem held_end (s : ByteArray) : held s s.size ++ [34] = quoteL s.data.toList := by
  unfold held quoteL; rw [List.take_of_length_le (by simp)]; rfl
theorem cells_len (l : List UInt8) : (Lib.byteCells l).length = l.length := by simp [Lib.byteCells]

set_option maxRecDepth 100000 in
set_option maxHeartbeats 4000000 in
theorem quote_any (s : ByteArray) (w : World) (hs : s.size ≤ 70368744177000) :
    Calls Tryd.prog 34 #[.string s] w fun e w' => e = .returned (.string (quoteBA s)) ∧ Below w.heap.size w w' := by
  have hl0 := held_len s
  go_enter Tryd.func34, Tryd.ntmps34
  go_wp2_with fail
  refine (Tryd.Builder_WriteByte w.heap.size w.heap.size [] 34 _ (Lib.fresh_isBuilder 62 5 w) (by simp) (by simp)).mono ?_
  rintro e w1 ⟨rfl, hb1, hw1⟩
  have hB1 : Below w.heap.size w w1 := ((Below.refl _ _).alloc (Nat.le_refl _) _).trans hw1
  have hI1 : Lib.IsBuilder 62 5 w.heap.size w.heap.size (Lib.byteCells (held s 0)) w1 := .inr hb1
  clear hb1 hw1
  have H1 := Lib.hid (And.intro hI1 hB1); clear hI1 hB1
  go_wp2_with fail
  go_loopw [8] (fun i wr => ∃ k : Nat, k ≤ s.size ∧ i = .int .i64 k ∧ Hid (Lib.IsBuilder 62 5 w.heap.size w.heap.size (Lib.byteCells (held s k)) wr ∧ Below w.heap.size w wr)) (fun i _ => s.size - (intOf i).toNat)
  case atStart => exact ⟨0, Nat.zero_le _, rfl, H1⟩
  case round =>
    obtain ⟨k, hk, rfl, HH⟩ := hrel
    have hl1 := held_len s k
    by_cases hlt : k < s.size
    · obtain ⟨c, hc⟩ : ∃ c : Int, ∀ h : k < s.size, ((s[k]'h).toNat : Int) = c := ⟨((s[k]'hlt).toNat : Int), fun _ => rfl⟩
      have HC := Lib.hid (hc hlt)
      have hc0 : (0 : Int) ≤ c := by rw [← hc hlt]; omega
      have hc1 : c < 256 := by rw [← hc hlt]; have := (s[k]).toNat_lt; omega
      have h2 : (held s (k + 1)).length ≤ 2 * s.size + 1 := held_len s (k + 1)
      have hsz := HH.2.size
      by_cases h34 : c = 34
      · have d1 : (c == 34) = true := beq_iff_eq.2 h34
        have H34 := Lib.hid h34; clear h34
        go_wp2_with fail
        refine (Tryd.Builder_WriteByte w.heap.size w.heap.size _ 92 _ HH.1 (by rw [cells_len]; omega) (by have := HH.2.size; omega)).mono ?_
        rintro e w2 ⟨rfl, hb2, hw2⟩
        have H2 := Lib.hid (And.intro hb2 (HH.2.trans hw2)); clear hb2 hw2
        go_wp2_with fail
        refine (Tryd.Builder_WriteByte w.heap.size w.heap.size _ c _ (.inr H2.1) (by rw [List.length_append, cells_len]; simp only [List.length_cons, List.length_nil]; omega) (by have := H2.2.size; omega)).mono ?_
        rintro e w3 ⟨rfl, hb3, hw3⟩
        have H3 := Lib.hid (And.intro hb3 (H2.2.trans hw3)); clear hb3 hw3
        go_wp2
        go_roundw
        case rel =>
          refine ⟨k + 1, by omega, by go_num, ?_, H3.2⟩
          have e92 : (.int .u8 92 : Value) = .int .u8 (((92 : UInt8).toNat : Nat) : Int) := rfl
          have hh := H3.1
          rw [e92, bytes_snoc, ← HC.out, bytes_snoc, held_esc s k hlt (.inl (UInt8.toNat_inj.1 (by have h1 := HC.out; have h2 := H34.out; have h3 : (34 : UInt8).toNat = 34 := rfl; omega)))] at hh
          exact .inr hh
        case measure => simp [intOf]; omega
      · have d1 : (c == 34) = false := beq_eq_false_iff_ne.2 h34
        by_cases h92 : c = 92
        · have d2 : (c == 92) = true := beq_iff_eq.2 h92
          have H34 := Lib.hid h34; clear h34
          have H92 := Lib.hid h92; clear h92
          go_wp2_with fail
          refine (Tryd.Builder_WriteByte w.heap.size w.heap.size _ 92 _ HH.1 (by rw [cells_len]; omega) (by have := HH.2.size; omega)).mono ?_
          rintro e w2 ⟨rfl, hb2, hw2⟩
          have H2 := Lib.hid (And.intro hb2 (HH.2.trans hw2)); clear hb2 hw2
          go_wp2_with fail
          refine (Tryd.Builder_WriteByte w.heap.size w.heap.size _ c _ (.inr H2.1) (by rw [List.length_append, cells_len]; simp only [List.length_cons, List.length_nil]; omega) (by have := H2.2.size; omega)).mono ?_
          rintro e w3 ⟨rfl, hb3, hw3⟩
          have H3 := Lib.hid (And.intro hb3 (H2.2.trans hw3)); clear hb3 hw3
          go_wp2
          go_roundw
          case rel =>
            refine ⟨k + 1, by omega, by go_num, ?_, H3.2⟩
            have e92 : (.int .u8 92 : Value) = .int .u8 (((92 : UInt8).toNat : Nat) : Int) := rfl
            have hh := H3.1
            rw [e92, bytes_snoc, ← HC.out, bytes_snoc, held_esc s k hlt (.inr (UInt8.toNat_inj.1 (by have h1 := HC.out; have h2 := H92.out; have h3 : (92 : UInt8).toNat = 92 := rfl; omega)))] at hh
            exact .inr hh
          case measure => simp [intOf]; omega
        · have d2 : (c == 92) = false := beq_eq_false_iff_ne.2 h92
          have H34 := Lib.hid h34; clear h34
          have H92 := Lib.hid h92; clear h92
          go_wp2_with fail
          refine (Tryd.Builder_WriteByte w.heap.size w.heap.size _ c _ HH.1 (by rw [cells_len]; omega) (by have := HH.2.size; omega)).mono ?_
          rintro e w3 ⟨rfl, hb3, hw3⟩
          have H3 := Lib.hid (And.intro hb3 (HH.2.trans hw3)); clear hb3 hw3
          go_wp2
          go_roundw
          case rel =>
            refine ⟨k + 1, by omega, by go_num, ?_, H3.2⟩
            have hh := H3.1
            rw [← HC.out, bytes_snoc, held_plain s k hlt (fun h => H34.out (by rw [← HC.out, h]; rfl)) (fun h => H92.out (by rw [← HC.out, h]; rfl))] at hh
            exact .inr hh
          case measure => simp [intOf]; omega
    · obtain rfl : k = s.size := by omega
      have hsz := HH.2.size
      go_wp2_with fail
      refine (Tryd.Builder_WriteByte w.heap.size w.heap.size _ 34 _ HH.1 (by rw [cells_len]; omega) (by omega)).mono ?_
      rintro e w2 ⟨rfl, hb2, hw2⟩
      have H2 : Hid (Lib.IsBuilder 62 5 w.heap.size w.heap.size (Lib.byteCells (quoteL s.data.toList)) w2 ∧ Below w.heap.size w w2) := by
        refine ⟨.inr ?_, HH.2.trans hw2⟩
        have e34 : (.int .u8 34 : Value) = .int .u8 (((34 : UInt8).toNat : Nat) : Int) := rfl
        rw [e34, bytes_snoc, held_end] at hb2
        exact hb2
      clear hb2 hw2
      go_wp2_with fail
      refine (Tryd.Builder_String_any w.heap.size w.heap.size _ _ H2.1 (by have := H2.2.size; omega)).mono ?_
      rintro e w3 ⟨rfl, hw3⟩
      have H3 := Lib.hid (H2.2.trans hw3); clear hw3
      go_wp2
      go_ret
      exact ⟨rfl, H3.out⟩
end Go.Proofs.YtbgcapgjnflmoaaDoor.Ext

namespace Go.Proofs.YtbgcapgjnflmoaaDoor.Ext
open Go.RowKit

theorem var_lt {P : Program} {w : World} {n : String} {g : Nat} {cs : Array Value} (hg : P.globalNamed n = some g) (h : w.var? P n = some cs) : g < w.heap.size := by
  unfold World.var? at h
  simp only [hg, Option.bind_some] at h
  rcases Nat.lt_or_ge g w.heap.size with h' | h'
  · exact h'
  · simp [Array.getElem?_eq_none h'] at h
/-- What these functions lean on in the world: the library's table of powers of ten. -/
structure WP (w : World) : Prop where
  tab : Lib.TabIs Tryd.prog w "internal/strconv.uint64pow10" .u64 Lib.pow10Tab
theorem gPow : Tryd.prog.globalNamed "internal/strconv.uint64pow10" = some 0 := by kernel_rfl
theorem WP.below {w w' : World} (h : WP w) (hb : Below w.heap.size w w') : WP w' := ⟨var?_below hb gPow (var_lt gPow h.tab) h.tab⟩
/-- A number's decimal digits. -/
def itoaBA (n : Int) : ByteArray := ⟨(Lib.itoa n).toArray⟩
theorem itoa_any (n : Int) (w : World) (h0 : -9223372036854775808 ≤ n) (h1 : n ≤ 9223372036854775807) (hw : WP w) :
    Calls Tryd.prog 35 #[.int .i64 n] w fun e w' => e = .returned (.string (itoaBA n)) ∧ Below w.heap.size w w' :=
  (Tryd.strconv_Itoa n h0 h1 w hw.tab).mono fun e w' h => ⟨h.1, by obtain ⟨k, os, h2⟩ := h.2; rw [h2]; exact Lib.below_grow _ _ (Nat.le_refl _) _ _⟩
end Go.Proofs.YtbgcapgjnflmoaaDoor.Ext
