/- Contracts of the functions that the statement reaches, and plain lemmas: ScLs, Opn, PLsx. -/
import Derived.Test.YtbgcapgjnflmoaaDoorMg21
import Derived.Test.YtbgcapgjnflmoaaDoorMg28
import Derived.Test.YtbgcapgjnflmoaaDoorProg
import Derived.Test.YtbgcapgjnflmoaaDoorWWords
import Derived.Deep.Slices
import Derived.ChangeArms
import Derived.SizedLaws
set_option linter.unusedVariables false
set_option linter.unusedSimpArgs false
set_option linter.unnecessarySimpa false
/- LexScans, at every line and all literals. -/
namespace Go.Proofs.YtbgcapgjnflmoaaDoor.Sc
open Go.RowKit Go.Proofs.YtbgcapgjnflmoaaDoorW.PrintWords Go.Proofs.YtbgcapgjnflmoaaDoorW.PrintMore Go.Proofs.YtbgcapgjnflmoaaDoor.PLx
variable {w0 w w1 : World}
def rooms (l : List ByteArray) : List ByteArray := l ++ [⟨#[114, 111, 111, 109, 32, 111, 110, 101]⟩, ⟨#[114, 111, 111, 109, 32, 116, 119, 111]⟩]
theorem room_ok {l : List ByteArray} (h : l.length ≤ 8796093021952) : postbaglaw3_room.f l = some (rooms l) := by
  unfold postbaglaw3_room.f rooms
  rw [if_pos (by simp only [List.length_nil]; omega)]
  simp only [Option.bind_some, List.nil_append]
  rw [if_pos (by simp only [List.length_cons, List.length_nil]; omega)]
theorem texts_same (l : List ByteArray) (hl : l.length ≤ 8796093021952) : ∃ k, postbaglaw3_texts.f k l l = some true := by
  have key : ∀ (d i : Nat), l.length - i = d → i ≤ l.length → Ev (fun k => postbaglaw3_texts.l0 k l l (i : Int)) true := by
    intro d
    induction d with
    | zero =>
      intro i hd hi
      refine Ev.step (f := fun _ => some true) (fun k => ?_) (Ev.now _)
      simp only [postbaglaw3_texts.l0]
      rw [if_neg (by omega)]
    | succ d ih =>
      intro i hd hi
      have e1 : wrap64 ((i : Int) + 1) = ((i + 1 : Nat) : Int) := by rw [w64 (by omega) (by omega)]; rfl
      refine Ev.step (f := fun k => postbaglaw3_texts.l0 k l l ((i + 1 : Nat) : Int)) (fun k => ?_) (ih (i + 1) (by omega) (by omega))
      simp only [postbaglaw3_texts.l0]
      rw [if_pos (by omega), if_pos (by omega), if_pos (by omega), if_pos trivial, e1]
  obtain ⟨k, hk⟩ := (key l.length 0 rfl (Nat.zero_le _)).rounds
  refine ⟨k, ?_⟩
  unfold postbaglaw3_texts.f
  rw [if_pos rfl]
  exact hk
theorem C_first {w : World} {A : Option Addr} {l m : List ByteArray} (h : Kd.string.C w A (l ++ m).length (l ++ m)) : Kd.string.C w A l.length l := by
  have hr := Kd.reads_of_C (d := ByteArray.empty) h
  refine Kd.C_of_reads (d := ByteArray.empty) ⟨rfl, Nat.le_trans (by simp) hr.2.1, fun h0 => ?_⟩
  obtain ⟨ad, e, hc⟩ := hr.2.2 (by rw [List.length_append]; omega)
  refine ⟨ad, e, fun j hj => ?_⟩
  have := hc j (by rw [List.length_append]; omega)
  rw [this]
  congr 2
  rw [List.getD_eq_getElem?_getD, List.getD_eq_getElem?_getD, List.getElem?_append_left hj]
set_option maxRecDepth 100000 in
set_option maxHeartbeats 4000000 in
theorem scans_walk {A : Option Addr} {cA : Nat} (s : ByteArray) (lits : List ByteArray) (hC : Kd.string.C w A lits.length lits) (hc : lits.length ≤ cA) (hls : lits.length ≤ 8796093021952) (hW : Ext.WP w) :
    Calls Tryd.prog 3 #[.string s, .slice A lits.length cA] w fun e w' => e = .returned (.bool true) ∧ Below w.heap.size w w' := by
  obtain ⟨R, hR⟩ : ∃ R, scan s lits = R := ⟨_, rfl⟩
  have HR : Hid _ := hR
  have HW : Hid _ := hW
  have HC : Hid _ := And.intro hC (And.intro hc hls)
  have hl9 : (lits.length : Int) ≤ 8796093021952 := by omega
  clear hR hW hC hc hls
  go_enter Tryd.func3, Tryd.ntmps3
  go_wp2_with fail
  refine (known_ok HW.out).mono ?_
  rintro e w1 ⟨rfl, hb1⟩
  have HB1 : Hid _ := hb1
  clear hb1
  go_wp2_with fail
  refine Calls.mono (scanR_ok s lits w1 (Kd.C_below HC.out.1 HB1.out) HC.out.2.1 (by have := HC.out.2.2; omega)) ?_
  rintro e w2 ⟨v2, rfl, hr2, hb2⟩
  rw [HR.out] at hr2 ⊢
  obtain ⟨A2, c2, hv2⟩ := Kd.R_slice hr2
  subst hv2
  have HR2 : Hid _ := hr2
  have HB2 : Hid _ := below_then HB1.out HB1.out.size hb2
  clear hr2 hb2
  go_wp2_with fail
  refine Calls.mono (postbaglaw3_room.calls A cA lits (rooms lits) w2 (Kd.C_below HC.out.1 HB2.out) HC.out.2.1 (room_ok HC.out.2.2)) ?_
  rintro e w3 ⟨v3, rfl, hr3, hb3⟩
  obtain ⟨g3, c3, hv3, hg3, hgl3, _⟩ := Kd.R_form hr3 (by unfold rooms; simp)
  obtain ⟨A3, cq, hvq, hcq, hC3⟩ := Kd.R_reads hr3
  have hrl : (rooms lits).length = lits.length + 2 := by unfold rooms; simp
  obtain ⟨rfl, rfl⟩ : A3 = some ⟨g3, 0, none⟩ ∧ cq = c3 := by rw [hv3] at hvq; injection hvq with h1 h2 h3; exact ⟨h1.symm, h3.symm⟩
  subst hv3
  have hCl : Kd.string.C w3 (some ⟨g3, 0, none⟩) lits.length lits := C_first (m := [⟨#[114, 111, 111, 109, 32, 111, 110, 101]⟩, ⟨#[114, 111, 111, 109, 32, 116, 119, 111]⟩]) hC3
  obtain ⟨ad, ead, hcell⟩ := (Kd.reads_of_C (d := ByteArray.empty) hC3).2.2 (by omega)
  cases ead
  have y0 := hcell lits.length (by omega)
  have y1 := hcell (lits.length + 1) (by omega)
  rw [show (rooms lits).getD lits.length ByteArray.empty = ⟨#[114, 111, 111, 109, 32, 111, 110, 101]⟩ by unfold rooms; simp, add_plain] at y0
  rw [show (rooms lits).getD (lits.length + 1) ByteArray.empty = ⟨#[114, 111, 111, 109, 32, 116, 119, 111]⟩ by unfold rooms; simp, add_plain] at y1
  rw [hrl] at hcq hC3 ⊢
  have hb3' := below_then HB2.out HB2.out.size hb3
  have H3 : Hid _ := And.intro hCl (And.intro hb3' (And.intro hb3 (And.intro y0 (And.intro y1 hcq))))
  have hq0 : (0 : Int) ≤ (lits.length : Int) := by omega
  have hq1 : (lits.length : Int) ≤ (cq : Int) := by omega
  clear hr3 hvq hC3 hCl hcell y0 y1 hb3 hb3' hg3 hgl3 hcq
  go_wp2_with fail
  refine Calls.mono (scan_ok s lits w3 H3.out.1 (by have := H3.out.2.2.2.2.2; omega) (by have := HC.out.2.2; omega)) ?_
  rintro e w4 ⟨v4, rfl, hr4, hb4⟩
  rw [HR.out] at hr4 ⊢
  obtain ⟨A4, c4, hv4, hc4, hC4⟩ := Kd.R_reads hr4
  obtain ⟨A5, c5, hv5, hc5, hC5⟩ := Kd.R_reads HR2.out
  injection hv5 with h1 h2 h3
  subst h1
  subst h3
  subst hv4
  have hC5' := Kd.C_below (Kd.C_below hC5 H3.out.2.2.1) hb4
  have H4 : Hid _ := And.intro hC4 (And.intro hc4 (And.intro hC5' (And.intro hc5 (And.intro (below_then H3.out.2.1 H3.out.2.1.size hb4) hb4))))
  have hRn : (R.2 != R.2) = false := by simp
  clear hr4 hC4 hc4 hC5 hC5' hc5 hb4 h2
  go_wp2_with (first
    | (go_at_call 12; refine Calls.mono (num_ok _ _) ?_; rintro e w' ⟨rfl, h'⟩; replace h' := h'.symm; subst h')
    | (go_at_call 13; refine Calls.mono (Same_eq (SizeOf.sizeOf R.1 + 1) R.1 (Nat.lt_succ_self _) _ _ _ _ _ H4.out.1 H4.out.2.1 H4.out.2.2.1 H4.out.2.2.2.1) ?_; rintro e w5 ⟨rfl, m5, hm5⟩; have HB5 : Hid (Below w4.heap.size w4 w5) := (by rw [hm5]; exact pw_below_drewN (Below.refl _ _) m5 : Below w4.heap.size w4 w5); clear hm5)
    | fail)
  obtain ⟨kt, ht⟩ := texts_same lits HC.out.2.2
  have hb35 := below_then H4.out.2.2.2.2.2 H4.out.2.2.2.2.2.size HB5.out
  have hbW5 := below_then H4.out.2.2.2.2.1 H4.out.2.2.2.2.1.size HB5.out
  refine Calls.mono (postbaglaw3_texts.calls kt (some ⟨g3, 0, none⟩) cq lits A cA lits true w5 (Kd.C_below H3.out.1 hb35) (by have := H3.out.2.2.2.2.2; omega) (Kd.C_below HC.out.1 hbW5) HC.out.2.1 ht) ?_
  rintro e w6 ⟨rfl, hd6⟩
  have hb6 : Below w5.heap.size w5 w6 := hd6.below
  have hb36 := below_then hb35 hb35.size hb6
  have y0 : w6.cell? ⟨g3, lits.length, none⟩ = _ := pw_cell_below hb36 H3.out.2.2.2.1
  have y1 : w6.cell? ⟨g3, lits.length + 1, none⟩ = _ := pw_cell_below hb36 H3.out.2.2.2.2.1
  have HB6 : Hid _ := below_then hbW5 hbW5.size hb6
  have hq2 : (lits.length : Int) < ((lits.length + 2 : Nat) : Int) := by omega
  have hq3 : (lits.length : Int) + 1 < ((lits.length + 2 : Nat) : Int) := by omega
  clear hb35 hbW5 hb6 hb36 hd6 ht
  go_wp2
  go_ret
  exact ⟨rfl, HB6.out⟩
end Go.Proofs.YtbgcapgjnflmoaaDoor.Sc

/- What an argument's value opens as: kinds of numbers, texts, structs, slices of them, and how large they are. -/
namespace Go.Proofs.YtbgcapgjnflmoaaDoor.Opn
open Go.RowKit Go.Deep Go.ChangeShapes Go.WideShapes Go.Proofs.YtbgcapgjnflmoaaDoorW.PrintWords
variable {P : Program} {t : TypeId} {α β : Type}

/-- A value of type t opens as kind d, and of what it is S holds. -/
def Opn (P : Program) (t : TypeId) (d : Kd α) (S : α → Prop) : Prop :=
  P.cellsOf t = d.sz ∧ ∀ {H : Type} (enc : TypeId × Value → H) (w : World) (fuel : Nat) (cs : List Value) (x : DataW H × List MemPlace),
    DataW.trod enc P w 0 (fun _ => true) true fuel t cs = some x → (∀ k ∈ x.1.weights P t, k ≤ reachBytes) → ∃ y, d.K w y cs ∧ S y
theorem Opn.imp {d : Kd α} {S S' : α → Prop} (h : Opn P t d S) (hS : ∀ y, S y → S' y) : Opn P t d S' := by
  refine ⟨h.1, fun enc w fuel cs x hx hk => ?_⟩
  obtain ⟨y, h1, h2⟩ := h.2 enc w fuel cs x hx hk
  exact ⟨y, h1, hS y h2⟩
theorem opn_int {k : IntKind} (ht : P.underlying t = some (.int k)) (hc : P.cellsOf t = 1) : Opn P t (Kd.int k) (fun n => (Lit.int k n).wf = true) := by
  refine ⟨hc, fun enc w fuel cs x hx hk => ?_⟩
  obtain ⟨n, rfl, _, hw⟩ := DataW.trod_int ht hx
  exact ⟨n, rfl, hw⟩
theorem opn_bool (ht : P.underlying t = some .bool) (hc : P.cellsOf t = 1) : Opn P t Kd.bool (fun _ => True) := by
  refine ⟨hc, fun enc w fuel cs x hx hk => ?_⟩
  obtain ⟨n, rfl, _⟩ := DataW.trod_bool ht hx
  exact ⟨n, rfl, trivial⟩
theorem opn_string (ht : P.underlying t = some .string) (hc : P.cellsOf t = 1) : Opn P t Kd.string (fun s => s.size ≤ 140737488351232) := by
  refine ⟨hc, fun enc w fuel cs x hx hk => ?_⟩
  obtain ⟨s, rfl, rfl, _⟩ := DataW.trod_string ht hx
  refine ⟨s, rfl, ?_⟩
  have h := hk s.data.toList.length (by simp [DataW.weights])
  rw [data_length] at h
  exact h
theorem weightsAll_mem {H : Type} {e : TypeId} : ∀ {l : List (DataW H)} {d : DataW H}, d ∈ l → ∀ n ∈ d.weights P e, n ∈ DataW.weightsAll P e l
  | d' :: r, d, hd, n, hn => by
    simp only [DataW.weightsAll, List.mem_append]
    rcases List.mem_cons.1 hd with rfl | h
    · exact Or.inl hn
    · exact Or.inr (weightsAll_mem h n hn)
theorem opn_slice {e : TypeId} {d : Kd α} {S : α → Prop} (ht : P.underlying t = some (.slice e)) (hc : P.cellsOf t = 1) (he : Opn P e d S) :
    Opn P t (Kd.slice e d) (fun xs => xs.length * P.bytesOf e ≤ 140737488351232 ∧ xs.length ≤ maxLen ∧ ∀ x ∈ xs, S x) := by
  refine ⟨hc, fun enc w fuel cs x hx hk => ?_⟩
  rcases open_slice ht hx with ⟨rfl, rfl⟩ | ⟨a, len, cap, m, n, D, Pl, rfl, hb, hl, hm, hmm, rfl, hel⟩
  · exact ⟨[], ⟨none, 0, rfl, Nat.le_refl _, rfl, Nat.zero_le _, fun h => absurd h (Nat.lt_irrefl _)⟩, by simp, by simp, fun x hx => by cases hx⟩
  · rw [if_pos rfl] at hmm
    subst hmm
    have each : ∀ i, i < len → ∃ y, (∃ cs', w.cells? 0 (a.add (i * P.cellsOf e)) (P.cellsOf e) = some cs' ∧ d.K w y cs') ∧ S y := by
      intro i hi
      obtain ⟨cs', h1, h2⟩ := hel i (by omega)
      obtain ⟨y, h3, h4⟩ := he.2 enc w n cs' (D i, Pl i) h2 (fun k hk' => hk k (by
        simp only [DataW.weights, ht, List.mem_cons, List.mem_append]
        exact .inr (.inl (weightsAll_mem (List.mem_map.2 ⟨i, List.mem_range.2 hi, rfl⟩) k hk'))))
      exact ⟨y, ⟨cs', h1, h3⟩, h4⟩
    have hall : ∃ xs : List α, xs.length = len ∧ ∀ i y, xs[i]? = some y → (∃ cs', w.cells? 0 (a.add (i * P.cellsOf e)) (P.cellsOf e) = some cs' ∧ d.K w y cs') ∧ S y := by
      clear hel hk hx hl hm hb
      induction len with
      | zero => exact ⟨[], rfl, fun i y h => by simp at h⟩
      | succ k ih =>
        obtain ⟨xs, hx1, hx2⟩ := ih (fun i hi => each i (by omega))
        obtain ⟨y, hy⟩ := each k (by omega)
        refine ⟨xs ++ [y], by simp [hx1], fun i z hz => ?_⟩
        by_cases hi : i < xs.length
        · rw [List.getElem?_append_left hi] at hz
          exact hx2 i z hz
        · rw [List.getElem?_append_right (by omega)] at hz
          have hi0 : i - xs.length = 0 := by
            have := List.getElem?_eq_some_iff.1 hz
            obtain ⟨h1, _⟩ := this
            simp at h1; omega
          rw [hi0] at hz
          simp at hz
          subst hz
          rw [show i = k by omega]
          exact hy
    obtain ⟨xs, hx1, hx2⟩ := hall
    have hby : (len + (m - len)) * P.bytesOf e ≤ reachBytes := hk _ (by simp [DataW.weights, ht])
    refine ⟨xs, ⟨some a, m, by rw [hx1], by omega, rfl, by unfold maxLen at hm; omega, fun h0 => ⟨a, rfl, fun j p hj => ?_⟩⟩, ?_, by omega, fun x hx => ?_⟩
    · obtain ⟨⟨cs', h1, h2⟩, _⟩ := hx2 j p hj
      obtain ⟨_, hlen, hcell⟩ := World.cells?_some h1
      refine ⟨cs', d.K_len h2, h2, fun i u hu => ?_⟩
      have hi := hcell i (by have := (List.getElem?_eq_some_iff.1 hu).1; omega)
      rw [hu, Deep.add_add, he.1] at hi
      exact hi
    · have hr : reachBytes = 140737488351232 := rfl
      rw [hx1, ← hr]
      exact Nat.le_trans (Nat.mul_le_mul_right _ (by omega)) hby
    · obtain ⟨i, hi⟩ := List.mem_iff_getElem?.1 hx
      exact (hx2 i x hi).2
/-- Fields from a place on. -/
def OpnF (P : Program) (fs : List Field) (off : Nat) (d : Kd α) (S : α → Prop) : Prop :=
  ∀ {H : Type} (enc : TypeId × Value → H) (w : World) (n : Nat) (cs : List Value) (xs : List (DataW H × List MemPlace)), xs.length = fs.length → cs.length = off + d.sz →
    (∀ (i : Nat) (f : Field), fs[i]? = some f → DataW.trod enc P w 0 (fun _ => true) true n f.type ((cs.drop f.offset).take (P.cellsOf f.type)) = xs[i]?) →
    (∀ k ∈ DataW.weightsEach P (fs.map (·.type)) (xs.map (·.1)), k ≤ reachBytes) → ∃ y, d.K w y (cs.drop off) ∧ S y
theorem opnF_one {f : Field} {off : Nat} {d : Kd α} {S : α → Prop} (ho : f.offset = off) (h : Opn P f.type d S) : OpnF P [f] off d S := by
  intro H enc w n cs xs hl hc hf hk
  match xs, hl with
  | [x], _ =>
    have h0 := hf 0 f rfl
    rw [ho, h.1, List.take_of_length_le (by rw [List.length_drop]; omega)] at h0
    exact h.2 enc w n _ x h0 (fun k hk' => hk k (by simpa [DataW.weightsEach] using hk'))
theorem opnF_cons {f : Field} {fs : List Field} {off : Nat} {d : Kd α} {d' : Kd β} {S : α → Prop} {S' : β → Prop} (ho : f.offset = off) (h : Opn P f.type d S) (h' : OpnF P fs (off + d.sz) d' S') :
    OpnF P (f :: fs) off (Kd.pair d d') (fun z => S z.1 ∧ S' z.2) := by
  intro H enc w n cs xs hl hc hf hk
  match xs, hl with
  | x :: xs, hl =>
    have hsz : cs.length = off + (d.sz + d'.sz) := hc
    have h0 := hf 0 f rfl
    rw [ho, h.1] at h0
    obtain ⟨y, h1, h2⟩ := h.2 enc w n _ x h0 (fun k hk' => hk k (by simp only [List.map_cons, DataW.weightsEach, List.mem_append]; exact .inl hk'))
    obtain ⟨z, h3, h4⟩ := h' enc w n cs xs (by simpa using hl) (by omega) (fun i g hg => by have := hf (i + 1) g (by simpa using hg); simpa using this) (fun k hk' => hk k (by simp only [List.map_cons, DataW.weightsEach, List.mem_append]; exact .inr hk'))
    refine ⟨(y, z), ⟨(cs.drop off).take d.sz, cs.drop (off + d.sz), ?_, h1, h3⟩, h2, h4⟩
    rw [← List.drop_drop, List.take_append_drop]
theorem opn_struct {fs : Array Field} {d : Kd α} {S : α → Prop} (ht : P.underlying t = some (.struct fs)) (hc : P.cellsOf t = d.sz) (h : OpnF P fs.toList 0 d S) : Opn P t d S := by
  refine ⟨hc, fun enc w fuel cs x hx hk => ?_⟩
  obtain ⟨xs, n, _, rfl, hl, hxl, hf⟩ := DataW.trod_struct ht hx
  obtain ⟨y, h1, h2⟩ := h enc w n cs xs (by simpa using hxl) (by omega) (fun i f hi => hf i f (by simpa using hi)) (fun k hk' => hk k (by simpa [DataW.weights, ht] using hk'))
  rw [List.drop_zero] at h1
  exact ⟨y, h1, h2⟩
theorem opn_iso {d : Kd α} {S : α → Prop} (f : β → α) (g : α → β) (hfg : ∀ z, f (g z) = z) (h : Opn P t d S) : Opn P t (Kd.iso d f) (fun y => S (f y)) := by
  refine ⟨h.1, fun enc w fuel cs x hx hk => ?_⟩
  obtain ⟨y, h1, h2⟩ := h.2 enc w fuel cs x hx hk
  exact ⟨g y, by show d.K w (f (g y)) cs; rw [hfg]; exact h1, by show S (f (g y)); rw [hfg]; exact h2⟩
/-- An argument of one cell. -/
theorem opn_arg {H : Type} {enc : TypeId × Value → H} {w : World} {v : Value} {d : DataW H} {ps : List MemPlace} {k : Kd α} {S : α → Prop} {ts : List TypeId} {ds : List (DataW H)} {j : Nat}
    (ho : Opn P t k S) (h : DataW.Trod enc P w 0 (fun _ => true) true t v d ps) (hz : (DataW.weightsEach P ts ds).all (· ≤ reachBytes) = true) (hj : ts[j]? = some t) (hd : ds[j]? = some d) :
    ∃ y, k.K w y v.cells.toList ∧ S y := by
  obtain ⟨fuel, hf⟩ := h
  exact ho.2 enc w fuel _ (d, ps) hf (fun n hn => of_decide_eq_true (List.all_eq_true.1 hz _ (DataW.weights_mem_each hj hd n hn)))
end Go.Proofs.YtbgcapgjnflmoaaDoor.Opn

/- LexScans, for its row. -/
namespace Go.Proofs.YtbgcapgjnflmoaaDoor.Sc
open Go.RowKit Go.Proofs.YtbgcapgjnflmoaaDoorW.PrintWords
set_option maxRecDepth 100000 in
theorem opn22s : Opn.Opn Tryd.prog 22 (Kd.slice 9 Kd.string) (fun xs => xs.length ≤ 8796093021952) :=
  (Opn.opn_slice Tryd.underlying22 (by kernel_rfl) (Opn.opn_string Tryd.underlying9 (by kernel_rfl))).imp (fun _ h => by
    have e : Tryd.prog.bytesOf 9 = 16 := by kernel_rfl
    rw [e] at h
    have := h.1
    omega)
end Go.Proofs.YtbgcapgjnflmoaaDoor.Sc
namespace Go.Proofs.YtbgcapgjnflmoaaDoor.PLs
open Go.RowKit Go.Proofs.YtbgcapgjnflmoaaDoorW.PrintWords
theorem postbaglaw3_LexScans.calls (_k : Nat) (a0 : ByteArray) {w : World} (A : Option Addr) (c : Nat) (xs : List ByteArray) (hC : Kd.string.C w A xs.length xs) (lc : xs.length ≤ c) (hS : xs.length ≤ 8796093021952) (r : Bool) (W : World) (h : a0.size ≤ 140737488351232 ∧ r = true) (hw : Ext.WP W) (e : W = w := by rfl) :
    Calls Tryd.prog 3 #[.string a0, .slice A xs.length c] W fun e w' => e = .returned (.bool r) ∧ Below W.heap.size W w' := by
  subst e
  obtain ⟨_, rfl⟩ := h
  exact Sc.scans_walk a0 xs hC lc hS hw
end Go.Proofs.YtbgcapgjnflmoaaDoor.PLs
namespace Go.Proofs.YtbgcapgjnflmoaaDoor.Pure
theorem LexScans (a0 : ByteArray) (h : a0.size ≤ 140737488351232) : ∃ _k : Nat, a0.size ≤ 140737488351232 ∧ true = true := ⟨0, h, rfl⟩
end Go.Proofs.YtbgcapgjnflmoaaDoor.Pure
