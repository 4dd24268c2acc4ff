import Derived.Test.YtkfehogefclhdaaDoorClasses2
import Derived.Test.YtkfehogefclhdaaDoorExtQ
import Derived.Test.YtkfehogefclhdaaDoorExtW
namespace Go.Proofs.YtkfehogefclhdaaDoor.Pure
open Go.RowKit Go.Proofs.YtkfehogefclhdaaDoor.PLt Go.Proofs.YtkfehogefclhdaaDoorW.PrintWords Go.Proofs.YtkfehogefclhdaaDoorW.PrintLast

/-! Texts as they are sent. -/
def litBA (s : ByteArray) : ByteArray := (((⟨#[123]⟩ : ByteArray) ++ Ext.itoaBA (s.size : Int)) ++ (⟨#[125, 13, 10]⟩ : ByteArray)) ++ s
def stringBA (s : ByteArray) : ByteArray := if s.data.toList.all quoteU = true then Ext.quoteBA s else litBA s
def putBA (s : ByteArray) : ByteArray := if isSpec 2 s.data.toList = true then s else stringBA s
theorem dec_len : ∀ n : Nat, (Lib.decDigits n).length ≤ n + 1 := by
  intro n
  induction n using Nat.strongRecOn with
  | _ n ih =>
    rw [Lib.decDigits]
    split
    · simp
    · have := ih (n / 10) (by omega)
      simp only [List.length_append, List.length_cons, List.length_nil]; omega
theorem itoa_nat (n : Nat) : Lib.itoa (n : Int) = Lib.decDigits n := by
  unfold Lib.itoa; rw [if_neg (by omega), Int.toNat_natCast]
theorem itoa_size (n : Nat) : (Ext.itoaBA (n : Int)).size ≤ n + 1 := by
  unfold Ext.itoaBA; rw [itoa_nat]
  have := dec_len n
  show (Lib.decDigits n).toArray.size ≤ n + 1
  simpa using this
theorem quote_size (s : ByteArray) : s.size + 2 ≤ (Ext.quoteBA s).size := by
  show s.size + 2 ≤ (Ext.quoteL s.data.toList).toArray.size
  have h1 : ∀ l : List UInt8, l.length ≤ (l.flatMap Ext.esc).length := by
    intro l
    induction l with
    | nil => simp
    | cons c l ih =>
      rw [List.flatMap_cons, List.length_append]
      have : 1 ≤ (Ext.esc c).length := by unfold Ext.esc; split <;> simp
      simp only [List.length_cons]; omega
  have := h1 s.data.toList
  rw [size_len] at this
  unfold Ext.quoteL
  simp only [List.size_toArray, List.length_cons, List.length_append, List.length_nil]; omega
section
variable (s : ByteArray) (hs : s.size ≤ 1048576)
include hs
theorem lit_steps {α : Type} (t : ByteArray) (ht : t = Ext.itoaBA (s.size : Int)) (f : ByteArray → Option α) :
    (if 1 + t.size ≤ 9223372036854775807 then (if ((⟨#[123]⟩ : ByteArray) ++ t).size + 3 ≤ 9223372036854775807 then (if (((⟨#[123]⟩ : ByteArray) ++ t) ++ (⟨#[125, 13, 10]⟩ : ByteArray)).size + s.size ≤ 9223372036854775807 then (f ((((⟨#[123]⟩ : ByteArray) ++ t) ++ (⟨#[125, 13, 10]⟩ : ByteArray)) ++ s)) else (none)) else (none)) else (none)) = f (litBA s) := by
  subst ht
  have h := itoa_size s.size
  have e1 : (⟨#[123]⟩ : ByteArray).size = 1 := rfl
  have e3 : (⟨#[125, 13, 10]⟩ : ByteArray).size = 3 := rfl
  rw [if_pos (by omega), if_pos (by rw [ByteArray.size_append, e1]; omega), if_pos (by rw [ByteArray.size_append, ByteArray.size_append, e1, e3]; omega)]
  rfl
theorem all_quote_ev : Ev (fun k => lex_all.f k s 8) (s.data.toList.all quoteU) := by
  have := all_ev s (by omega) 8
  rwa [show (goodU 8) = quoteU from funext good_quote] at this
theorem itoa_some : strconv_Itoa.f (s.size : Int) = some (Ext.itoaBA (s.size : Int)) := by
  unfold strconv_Itoa.f; rw [if_pos (by omega)]
theorem lex_String_ev : Ev (fun k => lex_String.f k s) (stringBA s) := by
  refine Ev.congr (fun k => by unfold lex_String.f; rfl) (Ev.bind (all_quote_ev s hs) ?_)
  unfold stringBA
  cases c : s.data.toList.all quoteU with
  | true =>
    refine Ev.congr (fun k => ?_) (Ev.now _)
    rw [if_pos rfl]; unfold lex_quote.f; rw [if_pos (by omega)]; rfl
  | false =>
    refine Ev.congr (fun k => ?_) (Ev.now _)
    rw [if_neg (by decide), itoa_some s hs]
    simp only [Option.bind_some]
    exact lit_steps s hs _ rfl some
theorem lex_Put_ev : Ev (fun k => lex_Put.f k s) (putBA s) := by
  refine Ev.congr (fun k => by unfold lex_Put.f; rfl) (Ev.bind (lex_Is_ev s (by omega) 2) ?_)
  unfold putBA
  cases c : isSpec 2 s.data.toList with
  | true => exact Ev.congr (fun k => by rw [if_pos rfl]; rfl) (Ev.now _)
  | false => exact Ev.congr (fun k => by rw [if_neg (by decide)]) (Ev.bind (lex_String_ev s hs) (Ev.now _))
theorem lex_Nstring_ev (is : Bool) : Ev (fun k => lex_Nstring.f k is s) (if is = true then stringBA s else ⟨#[78, 73, 76]⟩) := by
  cases is with
  | true => exact Ev.congr (fun k => by unfold lex_Nstring.f; rw [if_pos rfl]) (Ev.bind (lex_String_ev s hs) (Ev.now _))
  | false => exact Ev.congr (fun k => by unfold lex_Nstring.f; rw [if_neg (by decide)]; rfl) (Ev.now _)
end
end Go.Proofs.YtkfehogefclhdaaDoor.Pure
