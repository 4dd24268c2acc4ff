import Derived.Test.YtkfehogefclhdaaDoorProg
import Derived.Test.YtkfehogefclhdaaDoorShelfN
import Derived.Test.YtkfehogefclhdaaDoorDigits
import Derived.WalkKit
import Derived.WalkSpells
import Derived.WalkLawsBesides
import Derived.Lib.Hide
import Derived.Lib.ConvBytes
import Derived.Deep.QuietTactic
import Derived.BigQuiet
namespace Go.Proofs.YtkfehogefclhdaaDoor.Ext
open Go.RowKit Go.Proofs.YtkfehogefclhdaaDoorW.PrintWords

/-- What lex.Number leans on in the world: an error of strconv. -/
structure WPN (w : World) : Prop where
  rng : ∃ tp p, w.var? Tryd.prog "strconv.ErrRange" = some #[.iface tp p]
theorem gRng : Tryd.prog.globalNamed "strconv.ErrRange" = some 7 := by kernel_rfl
theorem varN_lt {P : Program} {w : World} {n : String} {g : Nat} {cs : Array Value} (hg : P.globalNamed n = some g) (h : w.var? P n = some cs) : g < w.heap.size := by
  unfold World.var? at h
  simp only [hg, Option.bind_some] at h
  rcases Nat.lt_or_ge g w.heap.size with h' | h'
  · exact h'
  · simp [Array.getElem?_eq_none h'] at h
theorem WPN.below {w w' : World} (h : WPN w) (hb : Below w.heap.size w w') : WPN w' := by
  obtain ⟨tp, p, h1⟩ := h.rng
  exact ⟨⟨tp, p, var?_below hb gRng (varN_lt gRng h1) h1⟩⟩
/-- strconv.Atoi of digits: the number, or another beside an error that is not nil. -/
theorem atoi_ok (s : ByteArray) (w : World) (hs : s.size ≤ 140737488351232) (h0 : s.data.toList ≠ []) (h : s.data.toList.all Pure.countU = true) (hv : Pure.valF 0 s.data.toList < 9223372036854775808) :
    Calls Tryd.prog 76 #[.string s] w fun e w' => e = .returned (.tuple #[.int .i64 (Pure.valF 0 s.data.toList : Int), .nilIface]) ∧ Below w.heap.size w w' := by
  have ha := Pure.atoi_digits _ h0 h
  rw [if_pos hv] at ha
  refine (Tryd.strconv_Atoi_ok s (by omega) _ ha w).mono fun e w' he => ⟨he.1, ?_⟩
  rcases he.2 with h2 | ⟨t, h2⟩
  · rw [h2]; exact Below.refl _ _
  · rw [h2]; exact ⟨rfl, rfl, rfl, by rw [Lib.bytesWorld_size]; omega, fun k hk => Lib.bytesWorld_at_old w _ t k hk⟩
def SomeErr (w : World) (e : Ending) (w' : World) : Prop := ∃ x T a, e = .returned (.tuple #[.int .i64 x, .iface T (.pointer (some a))]) ∧ Below w.heap.size w w'
theorem atoi_no (s : ByteArray) (w : World) (hs : s.size ≤ 140737488351232) (h0 : s.data.toList ≠ []) (h : s.data.toList.all Pure.countU = true) (hv : ¬ Pure.valF 0 s.data.toList < 9223372036854775808) (hw : WPN w) :
    Calls Tryd.prog 76 #[.string s] w (SomeErr w) := by
  have ha := Pure.atoi_digits _ h0 h
  rw [if_neg hv] at ha
  obtain ⟨tp, p, hg⟩ := hw.rng
  exact (Tryd.strconv_Atoi_range_var s (by omega) ha tp p w hg).mono fun e w' ⟨N, he, _, _, hb⟩ => ⟨_, _, _, he, hb⟩
/-- lex.all for the digits. -/
theorem all16 (s : ByteArray) (w : World) (hs : s.size ≤ 140737488351232) :
    Calls Tryd.prog 62 #[.string s, .int .u8 16] w fun e w' => e = .returned (.bool (s.data.toList.all Pure.countU)) ∧ ∃ n, w' = w.drewN n := by
  have h := Pure.all_ev s hs 16
  rw [show (Pure.goodU 16) = Pure.countU from funext Pure.good_count] at h
  obtain ⟨k, hk⟩ := h.rounds
  exact (PLt.lex_all.calls k s 16 _ w hk).mono fun e w' he => ⟨he.1, he.2.out⟩
set_option maxRecDepth 100000 in
set_option maxHeartbeats 4000000 in
theorem number_empty (s : ByteArray) (most : Int) (w : World) (h : s.toList = []) :
    Calls Tryd.prog 41 #[.string s, .int .i64 most] w fun e w' => e = .returned (.tuple #[.int .i64 0, .int .i64 3]) ∧ Below w.heap.size w w' := by
  have h1 : s.toList.isEmpty = true := by rw [h]; rfl
  go_enter Tryd.func41, Tryd.ntmps41
  go_wp2
  go_ret2
  exact ⟨rfl, Below.refl _ _⟩
theorem drewN_below (w : World) (n : Nat) : Below w.heap.size w (w.drewN n) := (Drawn0.mk ⟨n, rfl⟩).below
set_option maxRecDepth 100000 in
set_option maxHeartbeats 4000000 in
theorem number_other (s : ByteArray) (most : Int) (w : World) (hs : s.size ≤ 140737488351232) (h0 : s.data.toList ≠ []) (ha : s.data.toList.all Pure.countU = false) :
    Calls Tryd.prog 41 #[.string s, .int .i64 most] w fun e w' => e = .returned (.tuple #[.int .i64 0, .int .i64 3]) ∧ Below w.heap.size w w' := by
  have hne : s.toList.isEmpty = false := by rw [ByteArray.toList_eq]; cases hq : s.data.toList with | nil => exact absurd hq h0 | cons a b => rfl
  have hne2 := hne
  have H0 := Lib.hid h0; clear h0
  have HA := all16 s w hs
  rw [ha] at HA
  have HX := Lib.hid HA; clear HA
  have HAA := Lib.hid ha; clear ha
  go_enter Tryd.func41, Tryd.ntmps41
  go_wp2_with fail
  refine HX.mono ?_
  rintro e w1 ⟨rfl, n1, rfl⟩
  go_wp2
  go_ret2
  exact ⟨rfl, drewN_below _ _⟩
set_option maxRecDepth 100000 in
set_option maxHeartbeats 4000000 in
theorem number_zero (s : ByteArray) (most : Int) (w : World) (hs : s.size ≤ 140737488351232) (h0 : s.data.toList ≠ []) (ha : s.data.toList.all Pure.countU = true) (hl : 1 < s.size) (hz : ∀ h : 0 < s.size, ((s[0]'h).toNat : Int) = 48) :
    Calls Tryd.prog 41 #[.string s, .int .i64 most] w fun e w' => e = .returned (.tuple #[.int .i64 0, .int .i64 3]) ∧ Below w.heap.size w w' := by
  have hne : s.toList.isEmpty = false := by rw [ByteArray.toList_eq]; cases hq : s.data.toList with | nil => exact absurd hq h0 | cons a b => rfl
  have hne2 := hne
  have H0 := Lib.hid h0; clear h0
  have hl2 : decide (1 < s.size) = true := decide_eq_true hl
  have hl3 : decide (1 < (s.size : Int)) = true := decide_eq_true (by omega)
  have hl4 : 0 < s.size := by omega
  have HA := all16 s w hs
  rw [ha] at HA
  have HX := Lib.hid HA; clear HA
  have HAA := Lib.hid ha; clear ha
  go_enter Tryd.func41, Tryd.ntmps41
  go_wp2_with fail
  refine HX.mono ?_
  rintro e w1 ⟨rfl, n1, rfl⟩
  go_wp2
  go_ret2
  exact ⟨rfl, drewN_below _ _⟩
set_option maxRecDepth 100000 in
set_option maxHeartbeats 4000000 in
theorem number_one_ok (s : ByteArray) (most : Int) (w : World) (hs : s.size ≤ 140737488351232) (h0 : s.data.toList ≠ []) (ha : s.data.toList.all Pure.countU = true) (hl : ¬ 1 < s.size) (hv : Pure.valF 0 s.data.toList < 9223372036854775808) (hm : (Pure.valF 0 s.data.toList : Int) ≤ most) :
    Calls Tryd.prog 41 #[.string s, .int .i64 most] w fun e w' => e = .returned (.tuple #[.int .i64 (Pure.valF 0 s.data.toList : Int), .int .i64 0]) ∧ Below w.heap.size w w' := by
  have hne : s.toList.isEmpty = false := by rw [ByteArray.toList_eq]; cases hq : s.data.toList with | nil => exact absurd hq h0 | cons a b => rfl
  have hne2 := hne
  have H0 := Lib.hid h0; clear h0
  have hl2 : decide (1 < s.size) = false := decide_eq_false hl
  have hl3 : decide (1 < (s.size : Int)) = false := decide_eq_false (by omega)
  have HV := Lib.hid hv; clear hv
  obtain ⟨v, hvv⟩ : ∃ v : Int, v = (Pure.valF 0 s.data.toList : Int) := ⟨_, rfl⟩
  have HO := atoi_ok s
  rw [← hvv] at hm HO
  have HVV := Lib.hid hvv; clear hvv
  have HOO := Lib.hid HO; clear HO
  have HA := all16 s w hs
  rw [ha] at HA
  have HX := Lib.hid HA; clear HA
  have HAA := Lib.hid ha; clear ha
  go_enter Tryd.func41, Tryd.ntmps41
  go_wp2_with fail
  refine HX.mono ?_
  rintro e w1 ⟨rfl, n1, rfl⟩
  go_wp2_with fail
  refine (HOO.out _ hs H0 HAA HV).mono ?_
  rintro e w2 ⟨rfl, hb2⟩
  have HB := Lib.hid ((drewN_below _ _).trans (hb2.mono (drewN_below w n1).size)); clear hb2
  go_wp2
  go_ret2
  exact ⟨by rw [← HVV.out]; rfl, HB.out⟩
set_option maxRecDepth 100000 in
set_option maxHeartbeats 4000000 in
theorem number_one_big (s : ByteArray) (most : Int) (w : World) (hs : s.size ≤ 140737488351232) (h0 : s.data.toList ≠ []) (ha : s.data.toList.all Pure.countU = true) (hl : ¬ 1 < s.size) (hv : Pure.valF 0 s.data.toList < 9223372036854775808) (hm : ¬ (Pure.valF 0 s.data.toList : Int) ≤ most) :
    Calls Tryd.prog 41 #[.string s, .int .i64 most] w fun e w' => e = .returned (.tuple #[.int .i64 0, .int .i64 3]) ∧ Below w.heap.size w w' := by
  have hne : s.toList.isEmpty = false := by rw [ByteArray.toList_eq]; cases hq : s.data.toList with | nil => exact absurd hq h0 | cons a b => rfl
  have hne2 := hne
  have H0 := Lib.hid h0; clear h0
  have hl2 : decide (1 < s.size) = false := decide_eq_false hl
  have hl3 : decide (1 < (s.size : Int)) = false := decide_eq_false (by omega)
  have HV := Lib.hid hv; clear hv
  obtain ⟨v, hvv⟩ : ∃ v : Int, v = (Pure.valF 0 s.data.toList : Int) := ⟨_, rfl⟩
  have HO := atoi_ok s
  rw [← hvv] at hm HO
  have hm2 : most < v := by omega
  have HVV := Lib.hid hvv; clear hvv
  have HOO := Lib.hid HO; clear HO
  have HA := all16 s w hs
  rw [ha] at HA
  have HX := Lib.hid HA; clear HA
  have HAA := Lib.hid ha; clear ha
  go_enter Tryd.func41, Tryd.ntmps41
  go_wp2_with fail
  refine HX.mono ?_
  rintro e w1 ⟨rfl, n1, rfl⟩
  go_wp2_with fail
  refine (HOO.out _ hs H0 HAA HV).mono ?_
  rintro e w2 ⟨rfl, hb2⟩
  have HB := Lib.hid ((drewN_below _ _).trans (hb2.mono (drewN_below w n1).size)); clear hb2
  go_wp2
  go_ret2
  exact ⟨rfl, HB.out⟩
set_option maxRecDepth 100000 in
set_option maxHeartbeats 4000000 in
theorem number_one_err (s : ByteArray) (most : Int) (w : World) (hs : s.size ≤ 140737488351232) (h0 : s.data.toList ≠ []) (ha : s.data.toList.all Pure.countU = true) (hl : ¬ 1 < s.size) (hv : ¬ Pure.valF 0 s.data.toList < 9223372036854775808) (hw : WPN w) :
    Calls Tryd.prog 41 #[.string s, .int .i64 most] w fun e w' => e = .returned (.tuple #[.int .i64 0, .int .i64 3]) ∧ Below w.heap.size w w' := by
  have hne : s.toList.isEmpty = false := by rw [ByteArray.toList_eq]; cases hq : s.data.toList with | nil => exact absurd hq h0 | cons a b => rfl
  have hne2 := hne
  have H0 := Lib.hid h0; clear h0
  have hl2 : decide (1 < s.size) = false := decide_eq_false hl
  have hl3 : decide (1 < (s.size : Int)) = false := decide_eq_false (by omega)
  have HV := Lib.hid hv; clear hv
  have HA := all16 s w hs
  rw [ha] at HA
  have HX := Lib.hid HA; clear HA
  have HAA := Lib.hid ha; clear ha
  go_enter Tryd.func41, Tryd.ntmps41
  go_wp2_with fail
  refine HX.mono ?_
  rintro e w1 ⟨rfl, n1, rfl⟩
  go_wp2_with fail
  refine (atoi_no s _ hs H0 HAA HV (hw.below (drewN_below _ _))).mono ?_
  rintro e w2 ⟨x, T, a, rfl, hb2⟩
  have HB := Lib.hid ((drewN_below _ _).trans (hb2.mono (drewN_below w n1).size)); clear hb2
  go_wp2
  go_ret2
  exact ⟨rfl, HB.out⟩
set_option maxRecDepth 100000 in
set_option maxHeartbeats 4000000 in
theorem number_more_ok (s : ByteArray) (most : Int) (w : World) (hs : s.size ≤ 140737488351232) (h0 : s.data.toList ≠ []) (ha : s.data.toList.all Pure.countU = true) (hl : 1 < s.size) (c : Int) (hz : ∀ h : 0 < s.size, ((s[0]'h).toNat : Int) = c) (hc : (c == 48) = false) (hv : Pure.valF 0 s.data.toList < 9223372036854775808) (hm : (Pure.valF 0 s.data.toList : Int) ≤ most) :
    Calls Tryd.prog 41 #[.string s, .int .i64 most] w fun e w' => e = .returned (.tuple #[.int .i64 (Pure.valF 0 s.data.toList : Int), .int .i64 0]) ∧ Below w.heap.size w w' := by
  have hne : s.toList.isEmpty = false := by rw [ByteArray.toList_eq]; cases hq : s.data.toList with | nil => exact absurd hq h0 | cons a b => rfl
  have hne2 := hne
  have H0 := Lib.hid h0; clear h0
  have hl2 : decide (1 < s.size) = true := decide_eq_true hl
  have hl3 : decide (1 < (s.size : Int)) = true := decide_eq_true (by omega)
  have hl4 : 0 < s.size := by omega
  have HV := Lib.hid hv; clear hv
  obtain ⟨v, hvv⟩ : ∃ v : Int, v = (Pure.valF 0 s.data.toList : Int) := ⟨_, rfl⟩
  have HO := atoi_ok s
  rw [← hvv] at hm HO
  have HVV := Lib.hid hvv; clear hvv
  have HOO := Lib.hid HO; clear HO
  have HA := all16 s w hs
  rw [ha] at HA
  have HX := Lib.hid HA; clear HA
  have HAA := Lib.hid ha; clear ha
  go_enter Tryd.func41, Tryd.ntmps41
  go_wp2_with fail
  refine HX.mono ?_
  rintro e w1 ⟨rfl, n1, rfl⟩
  go_wp2_with fail
  refine (HOO.out _ hs H0 HAA HV).mono ?_
  rintro e w2 ⟨rfl, hb2⟩
  have HB := Lib.hid ((drewN_below _ _).trans (hb2.mono (drewN_below w n1).size)); clear hb2
  go_wp2
  go_ret2
  exact ⟨by rw [← HVV.out]; rfl, HB.out⟩
set_option maxRecDepth 100000 in
set_option maxHeartbeats 4000000 in
theorem number_more_big (s : ByteArray) (most : Int) (w : World) (hs : s.size ≤ 140737488351232) (h0 : s.data.toList ≠ []) (ha : s.data.toList.all Pure.countU = true) (hl : 1 < s.size) (c : Int) (hz : ∀ h : 0 < s.size, ((s[0]'h).toNat : Int) = c) (hc : (c == 48) = false) (hv : Pure.valF 0 s.data.toList < 9223372036854775808) (hm : ¬ (Pure.valF 0 s.data.toList : Int) ≤ most) :
    Calls Tryd.prog 41 #[.string s, .int .i64 most] w fun e w' => e = .returned (.tuple #[.int .i64 0, .int .i64 3]) ∧ Below w.heap.size w w' := by
  have hne : s.toList.isEmpty = false := by rw [ByteArray.toList_eq]; cases hq : s.data.toList with | nil => exact absurd hq h0 | cons a b => rfl
  have hne2 := hne
  have H0 := Lib.hid h0; clear h0
  have hl2 : decide (1 < s.size) = true := decide_eq_true hl
  have hl3 : decide (1 < (s.size : Int)) = true := decide_eq_true (by omega)
  have hl4 : 0 < s.size := by omega
  have HV := Lib.hid hv; clear hv
  obtain ⟨v, hvv⟩ : ∃ v : Int, v = (Pure.valF 0 s.data.toList : Int) := ⟨_, rfl⟩
  have HO := atoi_ok s
  rw [← hvv] at hm HO
  have hm2 : most < v := by omega
  have HVV := Lib.hid hvv; clear hvv
  have HOO := Lib.hid HO; clear HO
  have HA := all16 s w hs
  rw [ha] at HA
  have HX := Lib.hid HA; clear HA
  have HAA := Lib.hid ha; clear ha
  go_enter Tryd.func41, Tryd.ntmps41
  go_wp2_with fail
  refine HX.mono ?_
  rintro e w1 ⟨rfl, n1, rfl⟩
  go_wp2_with fail
  refine (HOO.out _ hs H0 HAA HV).mono ?_
  rintro e w2 ⟨rfl, hb2⟩
  have HB := Lib.hid ((drewN_below _ _).trans (hb2.mono (drewN_below w n1).size)); clear hb2
  go_wp2
  go_ret2
  exact ⟨rfl, HB.out⟩
set_option maxRecDepth 100000 in
set_option maxHeartbeats 4000000 in
theorem number_more_err (s : ByteArray) (most : Int) (w : World) (hs : s.size ≤ 140737488351232) (h0 : s.data.toList ≠ []) (ha : s.data.toList.all Pure.countU = true) (hl : 1 < s.size) (c : Int) (hz : ∀ h : 0 < s.size, ((s[0]'h).toNat : Int) = c) (hc : (c == 48) = false) (hv : ¬ Pure.valF 0 s.data.toList < 9223372036854775808) (hw : WPN w) :
    Calls Tryd.prog 41 #[.string s, .int .i64 most] w fun e w' => e = .returned (.tuple #[.int .i64 0, .int .i64 3]) ∧ Below w.heap.size w w' := by
  have hne : s.toList.isEmpty = false := by rw [ByteArray.toList_eq]; cases hq : s.data.toList with | nil => exact absurd hq h0 | cons a b => rfl
  have hne2 := hne
  have H0 := Lib.hid h0; clear h0
  have hl2 : decide (1 < s.size) = true := decide_eq_true hl
  have hl3 : decide (1 < (s.size : Int)) = true := decide_eq_true (by omega)
  have hl4 : 0 < s.size := by omega
  have HV := Lib.hid hv; clear hv
  have HA := all16 s w hs
  rw [ha] at HA
  have HX := Lib.hid HA; clear HA
  have HAA := Lib.hid ha; clear ha
  go_enter Tryd.func41, Tryd.ntmps41
  go_wp2_with fail
  refine HX.mono ?_
  rintro e w1 ⟨rfl, n1, rfl⟩
  go_wp2_with fail
  refine (atoi_no s _ hs H0 HAA HV (hw.below (drewN_below _ _))).mono ?_
  rintro e w2 ⟨x, T, a, rfl, hb2⟩
  have HB := Lib.hid ((drewN_below _ _).trans (hb2.mono (drewN_below w n1).size)); clear hb2
  go_wp2
  go_ret2
  exact ⟨rfl, HB.out⟩
/-- lex.Number, of any text and bound. -/
theorem number_any (s : ByteArray) (most : Int) (w : World) (hs : s.size ≤ 140737488351232) (hm1 : most ≤ 9223372036854775807) (hw : WPN w) :
    Calls Tryd.prog 41 #[.string s, .int .i64 most] w fun e w' => e = .returned (.tuple #[.int .i64 (Pure.numV (Pure.numO s.data.toList most)), .int .i64 (Pure.numE (Pure.numO s.data.toList most))]) ∧ Below w.heap.size w w' := by
  have e2 : s.data.toList.length = s.size := by simp
  by_cases h0 : s.data.toList = []
  · have e : Pure.numO s.data.toList most = none := by unfold Pure.numO; rw [if_pos h0]
    rw [e]
    exact number_empty s most w (by rw [ByteArray.toList_eq]; exact h0)
  cases ha : s.data.toList.all Pure.countU with
  | false =>
    have e : Pure.numO s.data.toList most = none := by unfold Pure.numO; rw [if_neg h0, if_pos ha]
    rw [e]
    exact number_other s most w hs h0 ha
  | true =>
    have hz0 : 0 < s.size := by rw [← e2]; exact List.length_pos_iff.2 h0
    have hd : s.data.toList.headD 0 = s[0] := by have := Pure.drop_at s 0 hz0; rw [List.drop_zero] at this; rw [this]; rfl
    by_cases hl : 1 < s.size
    · by_cases hc : s[0] = 48
      · have e : Pure.numO s.data.toList most = none := by unfold Pure.numO; rw [if_neg h0, if_neg (by rw [ha]; decide), if_pos ⟨by omega, by rw [hd, hc]⟩]
        rw [e]
        exact number_zero s most w hs h0 ha hl (fun _ => by rw [hc]; rfl)
      · have e : Pure.numO s.data.toList most = if (Pure.valF 0 s.data.toList : Int) ≤ most then some (Pure.valF 0 s.data.toList : Int) else none := by
          unfold Pure.numO; rw [if_neg h0, if_neg (by rw [ha]; decide), if_neg (fun h => hc (by rw [← hd]; exact h.2))]
        have hc2 : ((s[0].toNat : Int) == 48) = false := beq_eq_false_iff_ne.2 (fun h => hc (UInt8.toNat_inj.1 (by have : (48 : UInt8).toNat = 48 := rfl; omega)))
        by_cases hv : Pure.valF 0 s.data.toList < 9223372036854775808
        · by_cases hm : (Pure.valF 0 s.data.toList : Int) ≤ most
          · rw [e, if_pos hm]; exact number_more_ok s most w hs h0 ha hl _ (fun _ => rfl) hc2 hv hm
          · rw [e, if_neg hm]; exact number_more_big s most w hs h0 ha hl _ (fun _ => rfl) hc2 hv hm
        · have hr := number_more_err s most w hs h0 ha hl _ (fun _ => rfl) hc2 hv hw
          by_cases hm : (Pure.valF 0 s.data.toList : Int) ≤ most
          · exact absurd hm (by omega)
          · rw [e, if_neg hm]; exact hr
    · have e : Pure.numO s.data.toList most = if (Pure.valF 0 s.data.toList : Int) ≤ most then some (Pure.valF 0 s.data.toList : Int) else none := by
        unfold Pure.numO; rw [if_neg h0, if_neg (by rw [ha]; decide), if_neg (by omega)]
      by_cases hv : Pure.valF 0 s.data.toList < 9223372036854775808
      · by_cases hm : (Pure.valF 0 s.data.toList : Int) ≤ most
        · rw [e, if_pos hm]; exact number_one_ok s most w hs h0 ha hl hv hm
        · rw [e, if_neg hm]; exact number_one_big s most w hs h0 ha hl hv hm
      · have hr := number_one_err s most w hs h0 ha hl hv hw
        by_cases hm : (Pure.valF 0 s.data.toList : Int) ≤ most
        · exact absurd hm (by omega)
        · rw [e, if_neg hm]; exact hr
end Go.Proofs.YtkfehogefclhdaaDoor.Ext
