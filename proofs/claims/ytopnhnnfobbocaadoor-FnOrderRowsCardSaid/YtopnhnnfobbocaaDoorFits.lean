/- Arguments of laws: rows of texts, rows of rows; with no condition. -/
import Derived.Test.YtopnhnnfobbocaaDoorClone
import Derived.KernelRfl
namespace Go.Gw
open Go Go.Proofs
set_option linter.unusedSimpArgs false
set_option linter.unusedVariables false
set_option maxRecDepth 100000

def textOf : PV → ByteArray
  | .v (.string s) => s
  | _ => ⟨#[]⟩
def lenOf : PV → Nat
  | .sl _ _ n _ => n
  | _ => 0
def cellOf : PV → Nat → Nat → PV
  | .sl _ _ _ g => g
  | _ => fun _ _ => .any
def textC (c : PV) (a : Nat) : ByteArray := if a < lenOf c then textOf (cellOf c a 0) else ⟨#[]⟩
def widC (c : PV) (a : Nat) : Nat := if a < lenOf c then lenOf (cellOf c a 0) else 0
def numC (c : PV) (a b : Nat) : Int := intOf (cellOf (cellOf c a 0) b 0)
theorem empty_le : (⟨#[]⟩ : ByteArray).size ≤ maxLen := Nat.zero_le _
theorem fit_text {c : PV} (h : Fit .str c) : c = PT (textOf c) ∧ (textOf c).size ≤ maxLen := by
  obtain ⟨s, rfl, hs⟩ := fit_str h
  exact ⟨rfl, hs⟩
theorem fit_texts {c : PV} (h : Fit (.sl [.str]) c) : PV.Le c (.sl false 1 (lenOf c) (TR (textC c))) ∧ lenOf c ≤ maxLen ∧ ∀ a, (textC c a).size ≤ maxLen := by
  obtain ⟨nn, n, g, rfl, hn, hg⟩ := fit_sl h
  refine ⟨.sl _ _ (fun h => by cases h) 1 _ _ _ _ rfl fun i j hi hj => ?_, hn, fun a => ?_⟩
  · have e : j = 0 := by omega
    subst e
    have := (fit_text (hg i 0 _ hi rfl)).1
    have e2 : textC (.sl nn 1 n g) i = textOf (g i 0) := if_pos hi
    show PV.Le (g i 0) (PT (textC (.sl nn 1 n g) i))
    rw [e2, ← this]
    exact .refl _
  · unfold textC
    split
    · rename_i ha
      exact (fit_text (hg a 0 _ ha rfl)).2
    · exact empty_le
theorem fit_ints {c : PV} (h : Fit (.sl [.int .i64]) c) : PV.Le c (.sl false 1 (lenOf c) fun b _ => PI (intOf (cellOf c b 0))) ∧ lenOf c ≤ maxLen := by
  obtain ⟨nn, n, g, rfl, hn, hg⟩ := fit_sl h
  refine ⟨.sl _ _ (fun h => by cases h) 1 _ _ _ _ rfl fun i j hi hj => ?_, hn⟩
  have e : j = 0 := by omega
  subst e
  obtain ⟨m, h1, _⟩ := fit_int (hg i 0 _ hi rfl)
  show PV.Le (g i 0) (PI (intOf (g i 0)))
  rw [h1]
  exact .refl _
theorem fit_rows {c : PV} (h : Fit (.sl [.sl [.int .i64]]) c) : PV.Le c (.sl false 1 (lenOf c) (RR (widC c) (numC c))) ∧ lenOf c ≤ maxLen ∧ ∀ a, widC c a ≤ maxLen := by
  obtain ⟨nn, n, g, rfl, hn, hg⟩ := fit_sl h
  refine ⟨.sl _ _ (fun h => by cases h) 1 _ _ _ _ rfl fun i j hi hj => ?_, hn, fun a => ?_⟩
  · have e : j = 0 := by omega
    subst e
    have := (fit_ints (hg i 0 _ hi rfl)).1
    have e2 : widC (.sl nn 1 n g) i = lenOf (g i 0) := if_pos hi
    show PV.Le (g i 0) (.sl false 1 (widC (.sl nn 1 n g) i) _)
    rw [e2]
    exact this
  · unfold widC
    split
    · rename_i ha
      exact (fit_ints (hg a 0 _ ha rfl)).2
    · exact Nat.zero_le _
theorem sl_le {n n' : Nat} {f f' : Nat → Nat → PV} (hn : n = n') (h : ∀ i, i < n → PV.Le (f i 0) (f' i 0)) : PV.Le (.sl false 1 n f) (.sl false 1 n' f') :=
  .sl _ _ (fun e => e) 1 _ _ _ _ hn fun i j hi hj => by
    have e : j = 0 := by omega
    subst e
    exact h i hi
end Go.Gw
