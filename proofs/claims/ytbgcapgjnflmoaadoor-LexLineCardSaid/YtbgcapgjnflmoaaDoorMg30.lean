/- Contracts of the functions that the statement reaches, and plain lemmas: ScLm, Opn, PLlx. -/
import Derived.Test.YtbgcapgjnflmoaaDoorMg29
import Derived.Test.YtbgcapgjnflmoaaDoorMg28
import Derived.Test.YtbgcapgjnflmoaaDoorMg16
import Derived.Test.YtbgcapgjnflmoaaDoorMg25
import Derived.Test.YtbgcapgjnflmoaaDoorProg
import Derived.Test.YtbgcapgjnflmoaaDoorWWords
import Derived.Deep.Slices
import Derived.ChangeArms
import Derived.SizedLaws
set_option linter.unusedVariables false
set_option linter.unusedSimpArgs false
set_option linter.unnecessarySimpa false
/- LexLine, of a line that is scanned. -/
namespace Go.Proofs.YtbgcapgjnflmoaaDoor.Sc
open Go.RowKit Go.Proofs.YtbgcapgjnflmoaaDoorW.PrintWords Go.Proofs.YtbgcapgjnflmoaaDoorW.PrintMore Go.Proofs.YtbgcapgjnflmoaaDoor.PLx
variable {w0 w w1 : World}
set_option maxRecDepth 100000 in
set_option maxHeartbeats 4000000 in
theorem line_scanned {A : Option Addr} {cA : Nat} (s : ByteArray) (lits : List ByteArray) {l : List Wd} (hx : scan s lits = (l, 0)) (hj : ∀ (W : World) (A' : Option Addr) (cA' : Nat), Kd.C k43 W A' l.length l → l.length ≤ cA' → Ext.WP W → Calls Tryd.prog 15 #[.slice A' l.length cA'] W (JPost W (wL true l) lits)) (hC : Kd.string.C w A lits.length lits) (hc : lits.length ≤ cA) (hW : Ext.WP w) :
    Calls Tryd.prog 4 #[.string s, .slice A lits.length cA] w fun e w' => e = .returned (.bool true) ∧ Below w.heap.size w w' := by
  obtain ⟨h1, h2, h3, h4, h5⟩ := line_plain hx
  have hsz : s.size ≤ 4096 := by
    unfold scan at hx
    split at hx
    · rename_i h; exact h.1
    · cases hx
  obtain ⟨kp, hkp⟩ := (plain_ev (s := s) (by omega)).rounds
  rw [h1] at hkp
  obtain ⟨o, ho⟩ : ∃ o, wL true l = o := ⟨_, rfl⟩
  rw [ho] at hkp h3 h4 hj
  have HJ : Hid _ := fun (W : World) (A' : Option Addr) (cA' : Nat) (hr : Kd.C k43 W A' l.length l) (hc' : l.length ≤ cA') (hwp : Ext.WP W) => hj W A' cA' hr hc' hwp
  have HP : Hid _ := hkp
  have HX : Hid _ := hx
  have HW : Hid _ := hW
  have HC : Hid _ := And.intro hC (And.intro hc h5)
  obtain ⟨ob, hob⟩ : ∃ ob, ofB o = ob := ⟨_, rfl⟩
  have HOB : Hid _ := hob
  have hbb := (by simp : (ob.toList == ob.toList) = true)
  clear hW hC hc hx hkp h1 h2 h3 h4 h5 hj ho hsz hob
  go_enter Tryd.func4, Tryd.ntmps4
  go_wp2_with fail
  refine (known_ok HW.out).mono ?_
  rintro e w1 ⟨rfl, hb1⟩
  have HB1 : Hid _ := hb1
  clear hb1
  go_wp2_with fail
  refine Calls.mono (scan_ok s lits w1 (Kd.C_below HC.out.1 HB1.out) HC.out.2.1 (by have := HC.out.2.2; omega)) ?_
  rintro e w2 ⟨v2, rfl, hr2, hb2⟩
  rw [HX.out] at hr2 ⊢
  obtain ⟨A2, c2, hv2, hc2, hC2⟩ := Kd.R_reads hr2
  subst hv2
  have HB2 : Hid _ := below_then HB1.out HB1.out.size hb2
  have H2 : Hid _ := And.intro hc2 hC2
  clear hb2 hr2 hc2 hC2
  go_wp2_with (first | (go_at_call 12; refine Calls.mono (num_ok _ _) ?_; rintro e w' ⟨rfl, h'⟩; replace h' := h'.symm; subst h'))
  refine Calls.mono (HJ.out w2 A2 c2 H2.out.2 H2.out.1 (HW.out.below HB2.out)) ?_
  rintro e w4 ⟨A4, c4, rfl, hC4, hc4, hb4⟩
  rw [HOB.out]
  have HB4 : Hid _ := below_then HB2.out HB2.out.size hb4
  have H4 : Hid _ := And.intro hC4 hc4
  clear hC4 hc4 hb4
  go_wp2_with (first | (go_at_call 12; refine Calls.mono (num_ok _ _) ?_; rintro e w' ⟨rfl, h'⟩; replace h' := h'.symm; subst h'))
  refine (PLp.postbaglaw3_plain.calls kp s ob w4 (by rw [← HOB.out]; exact HP.out)).mono ?_
  rintro e w5 ⟨rfl, hb5⟩
  have HB5 : Hid _ := And.intro (below_then HB4.out HB4.out.size hb5) hb5
  clear hb5
  go_wp2_with fail
  obtain ⟨kt, ht⟩ := texts_same lits (by have := HC.out.2.2; omega)
  refine Calls.mono (postbaglaw3_texts.calls kt A4 c4 lits A cA lits true w5 (Kd.C_below H4.out.1 HB5.out.2) H4.out.2 (Kd.C_below HC.out.1 HB5.out.1) HC.out.2.1 ht) ?_
  rintro e w6 ⟨rfl, hd6⟩
  have HB6 : Hid _ := below_then HB5.out.1 HB5.out.1.size hd6.below
  clear hd6
  go_wp2
  go_ret
  exact ⟨rfl, HB6.out⟩
/-- LexLine, of every line and all literals. -/
theorem line_walk {A : Option Addr} {cA : Nat} (s : ByteArray) (lits : List ByteArray) (hC : Kd.string.C w A lits.length lits) (hc : lits.length ≤ cA) (hls : lits.length ≤ 9223372036854775807) (hW : Ext.WP w) :
    Calls Tryd.prog 4 #[.string s, .slice A lits.length cA] w fun e w' => e = .returned (.bool true) ∧ Below w.heap.size w w' := by
  by_cases h : (scan s lits).2 = 0
  · obtain ⟨l, hx⟩ : ∃ l, scan s lits = (l, 0) := ⟨(scan s lits).1, by rw [← h]⟩
    obtain ⟨_, h2, h3, h4, h5⟩ := line_plain hx
    refine line_scanned s lits hx ?_ hC hc hW
    intro W A' cA' hr hc' hwp
    by_cases hne : wL true l = []
    · rw [hne] at h3 ⊢
      obtain ⟨rfl, rfl⟩ := scan_nil h3
      exact join_none hr
    · exact joinT_ok hr hc' (scan_n hx) (scan_Vd hx) hwp rfl h2 hne h4 h5 h3
  · exact line_refused s lits h hC hc hls hW
end Go.Proofs.YtbgcapgjnflmoaaDoor.Sc

/- What an argument's value opens as: kinds of numbers, texts, structs, slices of them, and how large they are. -/
namespace Go.Proofs.YtbgcapgjnflmoaaDoor.Opn
open Go.RowKit Go.Deep Go.ChangeShapes Go.WideShapes Go.Proofs.YtbgcapgjnflmoaaDoorW.PrintWords
variable {P : Program} {t : TypeId} {α β : Type}

/-- A value of type t opens as kind d, and of what it is S holds. -/
def Opn (P : Program) (t : TypeId) (d : Kd α) (S : α → Prop) : Prop :=
  P.cellsOf t = d.sz ∧ ∀ {H : Type} (enc : TypeId × Value → H) (w : World) (fuel : Nat) (cs : List Value) (x : DataW H × List MemPlace),
    DataW.trod enc P w 0 (fun _ => true) true fuel t cs = some x → (∀ k ∈ x.1.weights P t, k ≤ reachBytes) → ∃ y, d.K w y cs ∧ S y
theorem Opn.imp {d : Kd α} {S S' : α → Prop} (h : Opn P t d S) (hS : ∀ y, S y → S' y) : Opn P t d S' := by
  refine ⟨h.1, fun enc w fuel cs x hx hk => ?_⟩
  obtain ⟨y, h1, h2⟩ := h.2 enc w fuel cs x hx hk
  exact ⟨y, h1, hS y h2⟩
theorem opn_int {k : IntKind} (ht : P.underlying t = some (.int k)) (hc : P.cellsOf t = 1) : Opn P t (Kd.int k) (fun n => (Lit.int k n).wf = true) := by
  refine ⟨hc, fun enc w fuel cs x hx hk => ?_⟩
  obtain ⟨n, rfl, _, hw⟩ := DataW.trod_int ht hx
  exact ⟨n, rfl, hw⟩
theorem opn_bool (ht : P.underlying t = some .bool) (hc : P.cellsOf t = 1) : Opn P t Kd.bool (fun _ => True) := by
  refine ⟨hc, fun enc w fuel cs x hx hk => ?_⟩
  obtain ⟨n, rfl, _⟩ := DataW.trod_bool ht hx
  exact ⟨n, rfl, trivial⟩
theorem opn_string (ht : P.underlying t = some .string) (hc : P.cellsOf t = 1) : Opn P t Kd.string (fun s => s.size ≤ 140737488351232) := by
  refine ⟨hc, fun enc w fuel cs x hx hk => ?_⟩
  obtain ⟨s, rfl, rfl, _⟩ := DataW.trod_string ht hx
  refine ⟨s, rfl, ?_⟩
  have h := hk s.data.toList.length (by simp [DataW.weights])
  rw [data_length] at h
  exact h
theorem weightsAll_mem {H : Type} {e : TypeId} : ∀ {l : List (DataW H)} {d : DataW H}, d ∈ l → ∀ n ∈ d.weights P e, n ∈ DataW.weightsAll P e l
  | d' :: r, d, hd, n, hn => by
    simp only [DataW.weightsAll, List.mem_append]
    rcases List.mem_cons.1 hd with rfl | h
    · exact Or.inl hn
    · exact Or.inr (weightsAll_mem h n hn)
theorem opn_slice {e : TypeId} {d : Kd α} {S : α → Prop} (ht : P.underlying t = some (.slice e)) (hc : P.cellsOf t = 1) (he : Opn P e d S) :
    Opn P t (Kd.slice e d) (fun xs => xs.length * P.bytesOf e ≤ 140737488351232 ∧ xs.length ≤ maxLen ∧ ∀ x ∈ xs, S x) := by
  refine ⟨hc, fun enc w fuel cs x hx hk => ?_⟩
  rcases open_slice ht hx with ⟨rfl, rfl⟩ | ⟨a, len, cap, m, n, D, Pl, rfl, hb, hl, hm, hmm, rfl, hel⟩
  · exact ⟨[], ⟨none, 0, rfl, Nat.le_refl _, rfl, Nat.zero_le _, fun h => absurd h (Nat.lt_irrefl _)⟩, by simp, by simp, fun x hx => by cases hx⟩
  · rw [if_pos rfl] at hmm
    subst hmm
    have each : ∀ i, i < len → ∃ y, (∃ cs', w.cells? 0 (a.add (i * P.cellsOf e)) (P.cellsOf e) = some cs' ∧ d.K w y cs') ∧ S y := by
      intro i hi
      obtain ⟨cs', h1, h2⟩ := hel i (by omega)
      obtain ⟨y, h3, h4⟩ := he.2 enc w n cs' (D i, Pl i) h2 (fun k hk' => hk k (by
        simp only [DataW.weights, ht, List.mem_cons, List.mem_append]
        exact .inr (.inl (weightsAll_mem (List.mem_map.2 ⟨i, List.mem_range.2 hi, rfl⟩) k hk'))))
      exact ⟨y, ⟨cs', h1, h3⟩, h4⟩
    have hall : ∃ xs : List α, xs.length = len ∧ ∀ i y, xs[i]? = some y → (∃ cs', w.cells? 0 (a.add (i * P.cellsOf e)) (P.cellsOf e) = some cs' ∧ d.K w y cs') ∧ S y := by
      clear hel hk hx hl hm hb
      induction len with
      | zero => exact ⟨[], rfl, fun i y h => by simp at h⟩
      | succ k ih =>
        obtain ⟨xs, hx1, hx2⟩ := ih (fun i hi => each i (by omega))
        obtain ⟨y, hy⟩ := each k (by omega)
        refine ⟨xs ++ [y], by simp [hx1], fun i z hz => ?_⟩
        by_cases hi : i < xs.length
        · rw [List.getElem?_append_left hi] at hz
          exact hx2 i z hz
        · rw [List.getElem?_append_right (by omega)] at hz
          have hi0 : i - xs.length = 0 := by
            have := List.getElem?_eq_some_iff.1 hz
            obtain ⟨h1, _⟩ := this
            simp at h1; omega
          rw [hi0] at hz
          simp at hz
          subst hz
          rw [show i = k by omega]
          exact hy
    obtain ⟨xs, hx1, hx2⟩ := hall
    have hby : (len + (m - len)) * P.bytesOf e ≤ reachBytes := hk _ (by simp [DataW.weights, ht])
    refine ⟨xs, ⟨some a, m, by rw [hx1], by omega, rfl, by unfold maxLen at hm; omega, fun h0 => ⟨a, rfl, fun j p hj => ?_⟩⟩, ?_, by omega, fun x hx => ?_⟩
    · obtain ⟨⟨cs', h1, h2⟩, _⟩ := hx2 j p hj
      obtain ⟨_, hlen, hcell⟩ := World.cells?_some h1
      refine ⟨cs', d.K_len h2, h2, fun i u hu => ?_⟩
      have hi := hcell i (by have := (List.getElem?_eq_some_iff.1 hu).1; omega)
      rw [hu, Deep.add_add, he.1] at hi
      exact hi
    · have hr : reachBytes = 140737488351232 := rfl
      rw [hx1, ← hr]
      exact Nat.le_trans (Nat.mul_le_mul_right _ (by omega)) hby
    · obtain ⟨i, hi⟩ := List.mem_iff_getElem?.1 hx
      exact (hx2 i x hi).2
/-- Fields from a place on. -/
def OpnF (P : Program) (fs : List Field) (off : Nat) (d : Kd α) (S : α → Prop) : Prop :=
  ∀ {H : Type} (enc : TypeId × Value → H) (w : World) (n : Nat) (cs : List Value) (xs : List (DataW H × List MemPlace)), xs.length = fs.length → cs.length = off + d.sz →
    (∀ (i : Nat) (f : Field), fs[i]? = some f → DataW.trod enc P w 0 (fun _ => true) true n f.type ((cs.drop f.offset).take (P.cellsOf f.type)) = xs[i]?) →
    (∀ k ∈ DataW.weightsEach P (fs.map (·.type)) (xs.map (·.1)), k ≤ reachBytes) → ∃ y, d.K w y (cs.drop off) ∧ S y
theorem opnF_one {f : Field} {off : Nat} {d : Kd α} {S : α → Prop} (ho : f.offset = off) (h : Opn P f.type d S) : OpnF P [f] off d S := by
  intro H enc w n cs xs hl hc hf hk
  match xs, hl with
  | [x], _ =>
    have h0 := hf 0 f rfl
    rw [ho, h.1, List.take_of_length_le (by rw [List.length_drop]; omega)] at h0
    exact h.2 enc w n _ x h0 (fun k hk' => hk k (by simpa [DataW.weightsEach] using hk'))
theorem opnF_cons {f : Field} {fs : List Field} {off : Nat} {d : Kd α} {d' : Kd β} {S : α → Prop} {S' : β → Prop} (ho : f.offset = off) (h : Opn P f.type d S) (h' : OpnF P fs (off + d.sz) d' S') :
    OpnF P (f :: fs) off (Kd.pair d d') (fun z => S z.1 ∧ S' z.2) := by
  intro H enc w n cs xs hl hc hf hk
  match xs, hl with
  | x :: xs, hl =>
    have hsz : cs.length = off + (d.sz + d'.sz) := hc
    have h0 := hf 0 f rfl
    rw [ho, h.1] at h0
    obtain ⟨y, h1, h2⟩ := h.2 enc w n _ x h0 (fun k hk' => hk k (by simp only [List.map_cons, DataW.weightsEach, List.mem_append]; exact .inl hk'))
    obtain ⟨z, h3, h4⟩ := h' enc w n cs xs (by simpa using hl) (by omega) (fun i g hg => by have := hf (i + 1) g (by simpa using hg); simpa using this) (fun k hk' => hk k (by simp only [List.map_cons, DataW.weightsEach, List.mem_append]; exact .inr hk'))
    refine ⟨(y, z), ⟨(cs.drop off).take d.sz, cs.drop (off + d.sz), ?_, h1, h3⟩, h2, h4⟩
    rw [← List.drop_drop, List.take_append_drop]
theorem opn_struct {fs : Array Field} {d : Kd α} {S : α → Prop} (ht : P.underlying t = some (.struct fs)) (hc : P.cellsOf t = d.sz) (h : OpnF P fs.toList 0 d S) : Opn P t d S := by
  refine ⟨hc, fun enc w fuel cs x hx hk => ?_⟩
  obtain ⟨xs, n, _, rfl, hl, hxl, hf⟩ := DataW.trod_struct ht hx
  obtain ⟨y, h1, h2⟩ := h enc w n cs xs (by simpa using hxl) (by omega) (fun i f hi => hf i f (by simpa using hi)) (fun k hk' => hk k (by simpa [DataW.weights, ht] using hk'))
  rw [List.drop_zero] at h1
  exact ⟨y, h1, h2⟩
theorem opn_iso {d : Kd α} {S : α → Prop} (f : β → α) (g : α → β) (hfg : ∀ z, f (g z) = z) (h : Opn P t d S) : Opn P t (Kd.iso d f) (fun y => S (f y)) := by
  refine ⟨h.1, fun enc w fuel cs x hx hk => ?_⟩
  obtain ⟨y, h1, h2⟩ := h.2 enc w fuel cs x hx hk
  exact ⟨g y, by show d.K w (f (g y)) cs; rw [hfg]; exact h1, by show S (f (g y)); rw [hfg]; exact h2⟩
/-- An argument of one cell. -/
theorem opn_arg {H : Type} {enc : TypeId × Value → H} {w : World} {v : Value} {d : DataW H} {ps : List MemPlace} {k : Kd α} {S : α → Prop} {ts : List TypeId} {ds : List (DataW H)} {j : Nat}
    (ho : Opn P t k S) (h : DataW.Trod enc P w 0 (fun _ => true) true t v d ps) (hz : (DataW.weightsEach P ts ds).all (· ≤ reachBytes) = true) (hj : ts[j]? = some t) (hd : ds[j]? = some d) :
    ∃ y, k.K w y v.cells.toList ∧ S y := by
  obtain ⟨fuel, hf⟩ := h
  exact ho.2 enc w fuel _ (d, ps) hf (fun n hn => of_decide_eq_true (List.all_eq_true.1 hz _ (DataW.weights_mem_each hj hd n hn)))
end Go.Proofs.YtbgcapgjnflmoaaDoor.Opn

/- LexLine, for its row. -/
namespace Go.Proofs.YtbgcapgjnflmoaaDoor.Sc
open Go.RowKit Go.Proofs.YtbgcapgjnflmoaaDoorW.PrintWords
set_option maxRecDepth 100000 in
theorem opn22l : Opn.Opn Tryd.prog 22 (Kd.slice 9 Kd.string) (fun xs => xs.length ≤ 8796093021952) :=
  (Opn.opn_slice Tryd.underlying22 (by kernel_rfl) (Opn.opn_string Tryd.underlying9 (by kernel_rfl))).imp (fun _ h => by
    have e : Tryd.prog.bytesOf 9 = 16 := by kernel_rfl
    rw [e] at h
    have := h.1
    omega)
end Go.Proofs.YtbgcapgjnflmoaaDoor.Sc
namespace Go.Proofs.YtbgcapgjnflmoaaDoor.PLl
open Go.RowKit Go.Proofs.YtbgcapgjnflmoaaDoorW.PrintWords
theorem postbaglaw3_LexLine.calls (_k : Nat) (a0 : ByteArray) {w : World} (A : Option Addr) (c : Nat) (xs : List ByteArray) (hC : Kd.string.C w A xs.length xs) (lc : xs.length ≤ c) (hS : xs.length ≤ 8796093021952) (r : Bool) (W : World) (h : a0.size ≤ 140737488351232 ∧ r = true) (hw : Ext.WP W) (e : W = w := by rfl) :
    Calls Tryd.prog 4 #[.string a0, .slice A xs.length c] W fun e w' => e = .returned (.bool r) ∧ Below W.heap.size W w' := by
  subst e
  obtain ⟨_, rfl⟩ := h
  exact Sc.line_walk a0 xs hC lc (by omega) hw
end Go.Proofs.YtbgcapgjnflmoaaDoor.PLl
namespace Go.Proofs.YtbgcapgjnflmoaaDoor.Pure
theorem LexLine (a0 : ByteArray) (h : a0.size ≤ 140737488351232) : ∃ _k : Nat, a0.size ≤ 140737488351232 ∧ true = true := ⟨0, h, rfl⟩
end Go.Proofs.YtbgcapgjnflmoaaDoor.Pure
