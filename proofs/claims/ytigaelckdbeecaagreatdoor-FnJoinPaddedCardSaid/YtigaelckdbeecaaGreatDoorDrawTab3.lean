/- Tables drawn, whole; with no condition. -/
import Derived.Test.YtigaelckdbeecaaGreatDoorDrawTab
import Derived.Test.YtigaelckdbeecaaGreatDoorTable
import Derived.KernelRfl
namespace Go.Gw
open Go Go.Proofs
set_option linter.unusedSimpArgs false
set_option linter.unusedVariables false
set_option maxRecDepth 100000
theorem PObj.some {P : Program} {G : List (Nat × PV)} {f : FuncId} {args : List AV} {H H' : List (Nat × Ob)} {r : AV} {α : Type} {φ : α → Prop} {rr : α → AV} {HH : α → List (Nat × Ob)} (h : PObj P G f args H r H') (y : α) (hy : φ y) (h1 : r = rr y) (h2 : H' = HH y) : PSome P G f args H α φ rr HH :=
  PObj.imp h fun x h' ⟨e1, e2⟩ => ⟨y, hy, e1.trans h1, e2.trans h2⟩
theorem oddP_ge (p : Nat) (m : Int) : p ≤ oddP p m := by unfold oddP; split <;> omega
theorem litS_of {φ : ByteArray → Prop} {l : List ByteArray} (h : ∀ x, x ∈ l → φ x) (h0 : φ ByteArray.empty) (i : Nat) : φ (litS l i) := by
  unfold litS
  rw [List.getD_eq_getElem?_getD]
  cases e : l[i]? with
  | none => exact h0
  | some x => exact h x (List.mem_of_getElem? e)
theorem nmV_ok (n : Nat) (f : Nat → Int) (p : Nat) (k : Int) : nmOk (nmV n f p k) := by
  unfold nmV
  repeat' split
  all_goals exact ⟨by decide, by decide, by decide⟩
theorem c_dNamesV (nn : Bool) (n : Nat) (f : Nat → Int) (p : Nat) (k : Int) (hb : Bytes f) (hp : p ≤ 1000000000 - 2) (hk : 0 ≤ k ∧ k ≤ 2) : PObj Tryz.prog G0 51 [.adr 0 0, AI k] [(0, RD nn n f p)] (.own 1) (nmH nn n f (p + 2) (nmV n f p k)) ∧ nmOk (nmV n f p k) := by
  have h : k = 0 ∨ k = 1 ∨ k = 2 := by omega
  have w : ∀ {k}, PSome Tryz.prog G0 51 [.adr 0 0, AI k] [(0, RD nn n f p)] (List ByteArray) (nmE n f p k) nmR (nmH nn n f (p + 2)) → PObj Tryz.prog G0 51 [.adr 0 0, AI k] [(0, RD nn n f p)] (.own 1) (nmH nn n f (p + 2) (nmV n f p k)) := fun h => PObj.imp h fun x h' ⟨y, h1, h2, h3⟩ => ⟨h2, h1.2 ▸ h3⟩
  refine ⟨?_, nmV_ok n f p k⟩
  rcases h with rfl | rfl | rfl
  · exact w (c_dNames0 nn n f p hb hp)
  · exact w (c_dNames1 nn n f p hb hp)
  · exact w (c_dNames2 nn n f p hb hp)
structure DT where
  n : Nat
  f : Nat → ByteArray
  m : Nat
  w : Nat → Nat
  h : Nat → Nat → Int
  p : Nat
structure DtOk (p : Nat) (d : DT) : Prop where
  hn : d.n ≤ 4
  hf : ∀ i, i < d.n → (d.f i).size ≤ 9
  hm : d.m ≤ 17
  hw : ∀ i, i < d.m → d.w i ≤ 7
  hp : p ≤ d.p ∧ d.p ≤ p + 700
theorem TR_le {f g : Nat → ByteArray} {i : Nat} (h : f i = g i) : PV.Le (TR f i 0) (TR g i 0) := by simp only [TR, h]; exact .refl _
theorem TR_le' {x : ByteArray} {g : Nat → ByteArray} {i : Nat} (h : x = g i) : PV.Le (.v (.string x)) (TR g i 0) := by simp only [TR, h]; exact .refl _
end Go.Gw
