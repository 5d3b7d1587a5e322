/- Arguments of laws: rows of texts, rows of rows; with no condition. -/
import Derived.Test.YtopnhnnfobbocaaDoorFind
import Derived.KernelRfl
namespace Go.Gw
open Go Go.Proofs
set_option linter.unusedSimpArgs false
set_option linter.unusedVariables false
set_option maxRecDepth 100000

def textOf : PV → ByteArray
  | .v (.string s) => s
  | _ => ⟨#[]⟩
def lenOf : PV → Nat
  | .sl _ _ n _ => n
  | _ => 0
def cellOf : PV → Nat → Nat → PV
  | .sl _ _ _ g => g
  | _ => fun _ _ => .any
def textC (c : PV) (a : Nat) : ByteArray := if a < lenOf c then textOf (cellOf c a 0) else ⟨#[]⟩
def widC (c : PV) (a : Nat) : Nat := if a < lenOf c then lenOf (cellOf c a 0) else 0
def numC (c : PV) (a b : Nat) : Int := intOf (cellOf (cellOf c a 0) b 0)
theorem empty_le : (⟨#[]⟩ : ByteArray).size ≤ maxLen := Nat.zero_le _
theorem fit_text {c : PV} (h : Fit .str c) : c = PT (textOf c) ∧ (textOf c).size ≤ maxLen := by
  obtain ⟨s, rfl, hs⟩ := fit_str h
  exact ⟨rfl, hs⟩
theorem fit_texts {c : PV} (h : Fit (.sl [.str]) c) : PV.Le c (.sl false 1 (lenOf c) (TR (textC c))) ∧ lenOf c ≤ maxLen ∧ ∀ a, (textC c a).size ≤ maxLen := by
  obtain ⟨nn, n, g, rfl, hn, hg⟩ := fit_sl h
  refine ⟨.sl _ _ (fun h => by cases h) 1 _ _ _ _ rfl fun i j hi hj => ?_, hn, fun a => ?_⟩
  · have e : j = 0 := by omega
    subst e
    have := (fit_text (hg i 0 _ hi rfl)).1
    have e2 : textC (.sl nn 1 n g) i = textOf (g i 0) := if_pos hi
    show PV.Le (g i 0) (PT (textC (.sl nn 1 n g) i))
    rw [e2, ← this]
    exact .refl _
  · unfold textC
    split
    · rename_i ha
      exact (fit_text (hg a 0 _ ha rfl)).2
    · exact empty_le
theorem fit_ints {c : PV} (h : Fit (.sl [.int .i64]) c) : PV.Le c (.sl false 1 (lenOf c) fun b _ => PI (intOf (cellOf c b 0))) ∧ lenOf c ≤ maxLen := by
  obtain ⟨nn, n, g, rfl, hn, hg⟩ := fit_sl h
  refine ⟨.sl _ _ (fun h => by cases h) 1 _ _ _ _ rfl fun i j hi hj => ?_, hn⟩
  have e : j = 0 := by omega
  subst e
  obtain ⟨m, h1, _⟩ := fit_int (hg i 0 _ hi rfl)
  show PV.Le (g i 0) (PI (intOf (g i 0)))
  rw [h1]
  exact .refl _
theorem fit_rows {c : PV} (h : Fit (.sl [.sl [.int .i64]]) c) : PV.Le c (.sl false 1 (lenOf c) (RR (widC c) (numC c))) ∧ lenOf c ≤ maxLen ∧ ∀ a, widC c a ≤ maxLen := by
  obtain ⟨nn, n, g, rfl, hn, hg⟩ := fit_sl h
  refine ⟨.sl _ _ (fun h => by cases h) 1 _ _ _ _ rfl fun i j hi hj => ?_, hn, fun a => ?_⟩
  · have e : j = 0 := by omega
    subst e
    have := (fit_ints (hg i 0 _ hi rfl)).1
    have e2 : widC (.sl nn 1 n g) i = lenOf (g i 0) := if_pos hi
    show PV.Le (g i 0) (.sl false 1 (widC (.sl nn 1 n g) i) _)
    rw [e2]
    exact this
  · unfold widC
    split
    · rename_i ha
      exact (fit_ints (hg a 0 _ ha rfl)).2
    · exact Nat.zero_le _
def catOf (N : Nat) (g : Nat → Nat → PV) : Ct := ⟨fun i => if i < N then textOf (g i 0) else ⟨#[]⟩, fun i => if i < N then lenOf (g i 1) else 0, fun i a => if i < N then textC (g i 1) a else ⟨#[]⟩, fun i => if i < N then lenOf (g i 2) else 0, fun i a => if i < N then widC (g i 2) a else 0, fun i a b => numC (g i 2) a b⟩
theorem fit_named {nn : Bool} {N : Nat} {g : Nat → Nat → PV} (h : ∀ (i j : Nat) (l : Leaf), i < N → [Leaf.str, .sl [.str], .sl [.sl [.int .i64]]][j]? = some l → Fit l (g i j)) :
    AV.leP (.p false (.sl nn 3 N g)) (NL false N (catOf N g)) ∧ (∀ i, ((catOf N g).nm i).size ≤ maxLen) ∧ (∀ i, (catOf N g).n i ≤ maxLen) ∧ (∀ i j, ((catOf N g).f i j).size ≤ maxLen) ∧ (∀ i, (catOf N g).m i ≤ maxLen) ∧ (∀ i j, (catOf N g).w i j ≤ maxLen) := by
  refine ⟨⟨fun h => (by cases h), fun h => (by cases h), rfl, rfl, fun i j hi hj => ?_⟩, fun i => ?_, fun i => ?_, fun i j => ?_, fun i => ?_, fun i j => ?_⟩
  · match j, hj with
    | 0, _ =>
      have := (fit_text (h i 0 _ hi rfl)).1
      show PV.Le (g i 0) (PT ((catOf N g).nm i))
      rw [show (catOf N g).nm i = textOf (g i 0) from if_pos hi, ← this]
      exact .refl _
    | 1, _ =>
      have := (fit_texts (h i 1 _ hi rfl)).1
      show PV.Le (g i 1) (.sl false 1 ((catOf N g).n i) (TR fun a => if i < N then textC (g i 1) a else ⟨#[]⟩))
      rw [show (catOf N g).n i = lenOf (g i 1) from if_pos hi]
      simp only [hi, if_true]
      exact this
    | 2, _ =>
      have := (fit_rows (h i 2 _ hi rfl)).1
      show PV.Le (g i 2) (.sl false 1 ((catOf N g).m i) (RR (fun a => if i < N then widC (g i 2) a else 0) (numC (g i 2))))
      rw [show (catOf N g).m i = lenOf (g i 2) from if_pos hi]
      simp only [hi, if_true]
      exact this
  · show (if i < N then _ else _ : ByteArray).size ≤ _
    split
    · rename_i hi; exact (fit_text (h i 0 _ hi rfl)).2
    · exact empty_le
  · show (if i < N then _ else _ : Nat) ≤ _
    split
    · rename_i hi; exact (fit_texts (h i 1 _ hi rfl)).2.1
    · exact Nat.zero_le _
  · show (if i < N then _ else _ : ByteArray).size ≤ _
    split
    · rename_i hi; exact (fit_texts (h i 1 _ hi rfl)).2.2 j
    · exact empty_le
  · show (if i < N then _ else _ : Nat) ≤ _
    split
    · rename_i hi; exact (fit_rows (h i 2 _ hi rfl)).2.1
    · exact Nat.zero_le _
  · show (if i < N then _ else _ : Nat) ≤ _
    split
    · rename_i hi; exact (fit_rows (h i 2 _ hi rfl)).2.2 j
    · exact Nat.zero_le _
theorem leaves_cat : leaves Tryd.prog 12 39 = some [.sl [.str, .sl [.str], .sl [.sl [.int .i64]]]] := by kernel_rfl
theorem args_cat {ts : List TypeId} {xs : List AV} (h : Args Tryd.prog (39 :: ts) xs) : ∃ N g a cs, N ≤ maxLen ∧ AV.leP a (NL false N (catOf N g)) ∧ ((∀ i, ((catOf N g).nm i).size ≤ maxLen) ∧ (∀ i, (catOf N g).n i ≤ maxLen) ∧ (∀ i j, ((catOf N g).f i j).size ≤ maxLen) ∧ (∀ i, (catOf N g).m i ≤ maxLen) ∧ (∀ i j, (catOf N g).w i j ≤ maxLen)) ∧ Args Tryd.prog ts cs ∧ xs = a :: cs := by
  cases h with
  | cons t ts ls l cs hl hlen hfit h =>
    rw [leaves_cat] at hl
    cases hl
    match l, hlen with
    | [c0], _ =>
      obtain ⟨nn, n, g, h1, hn, hg⟩ := fit_sl (hfit 0 _ rfl)
      simp only [List.getD_cons_zero] at h1
      subst h1
      have := fit_named (nn := nn) hg
      refine ⟨n, g, _, cs, hn, ?_, this.2, h, rfl⟩
      unfold argOf
      rw [Tryd.underlying39]
      exact this.1
theorem leaves_text : leaves Tryd.prog 12 9 = some [.str] := by kernel_rfl
theorem args_text {ts : List TypeId} {xs : List AV} (h : Args Tryd.prog (9 :: ts) xs) : ∃ s a cs, s.size ≤ maxLen ∧ AV.leP a (AT s) ∧ Args Tryd.prog ts cs ∧ xs = a :: cs := by
  cases h with
  | cons t ts ls l cs hl hlen hfit h =>
    rw [leaves_text] at hl
    cases hl
    match l, hlen with
    | [c0], _ =>
      obtain ⟨s, h1, hs⟩ := fit_str (hfit 0 _ rfl)
      simp only [List.getD_cons_zero] at h1
      subst h1
      refine ⟨s, _, cs, hs, ?_, h, rfl⟩
      unfold argOf
      rw [Tryd.underlying9]
      exact ⟨fun _ => .inr ⟨rfl, rfl⟩, PV.leC_rfl _⟩
theorem sumN_mk (c : Ct) : ∀ N : Nat, sumN (mkE c) N ≤ N + sumN (szE c) N
  | 0 => Nat.zero_le _
  | k + 1 => by
    have := sumN_mk c k
    simp only [sumN, mkE, szE, tabSz]
    omega
theorem c_lawFT (N : Nat) (c : Ct) (x : ByteArray) (hN : N ≤ maxLen) (hs : ∀ i, (c.nm i).size ≤ maxLen) (hn : ∀ i, c.n i ≤ maxLen) (hf : ∀ i j, (c.f i j).size ≤ maxLen) (hm : ∀ i, c.m i ≤ maxLen) (hw : ∀ i j, c.w i j ≤ maxLen) : PRet Tryd.prog G0 4 [NL false N c, AT x] (AB true) := by
  refine PRet.by chk4 (ev_lawFT false N c x) ?_
  simp only [VC.holds_split, VC.holds_need, VC.holds_doneP, VC.holds_done, VC.holds_either, VC.holds_call, VC.holds_callE, VC.holds_lend, VC.holds_stop, VC.holds_fail, decide_eq_true_eq, decide_eq_false_iff_not]
  refine ⟨fun _ => by simp, fun h0 => ⟨c_szC _ _ _ _ hN hs hn hf hm hw (by omega) (by omega), fun r hr => ⟨fun _ => by simp, fun h1 => ?_⟩⟩⟩
  have hr := hr.resolve_left (by omega)
  have hsz : N + sumN (szE c) N ≤ 1048576 := by omega
  have hE : ∀ i, i < N → szE c i ≤ 1048576 := fun i hi => by have := sumN_le (w := szE c) hi; omega
  have hT : ∀ i, i < N → tabSz (c.n i) (c.f i) (c.m i) (c.w i) ≤ 1048576 := fun i hi => by have := hE i hi; unfold szE at this; omega
  have ok : CtOk N c := ⟨by omega, fun i hi => by have := hE i hi; unfold szE at this; omega, fun i hi => (tab_bounds (hT i hi)).1, fun i j hi hj => (tab_bounds (hT i hi)).2.2.1 j hj, fun i hi => (tab_bounds (hT i hi)).2.1, fun i j hi hj => (tab_bounds (hT i hi)).2.2.2.1 j hj⟩
  have hM := sumN_mk c N
  have hA : fdB N c x = true → fdA N c x < N := fun h => by
    have h2 := atT_lt c.nm x N
    simp only [fdB, Bool.and_eq_true, decide_eq_true_eq] at h
    simp only [fdA]; omega
  have hfN : fdN N c x ≤ 1048576 ∧ fdM N c x ≤ 1048576 ∧ (∀ i, i < fdM N c x → c.w (fdA N c x) i ≤ 1048576) ∧ sumN (c.w (fdA N c x)) (fdM N c x) ≤ 1048576 := by
    cases hb : fdB N c x with
    | false => simp [fdN, fdM, hb, sumN]
    | true =>
      have h2 := tab_bounds (hT _ (hA hb))
      simp only [fdN, fdM, hb, if_true]
      exact ⟨h2.1, h2.2.1, h2.2.2.2.1, h2.2.2.2.2⟩
  obtain ⟨f1, f2, f3, f4⟩ := hfN
  have to := c_toC false N c ok.hN ok.hn ok.hm ok.hw
  have eqs := c_eqA false false false false (fdN N c x) (c.f (fdA N c x)) (fdM N c x) (c.w (fdA N c x)) (c.h (fdA N c x)) (by omega) (by omega) (fun i hi => by have := f3 i hi; omega)
  have im := c_imFT true N c x ok
  have hd := c_hdA false false (fdN N c x) (fdM N c x) (c.w (fdA N c x)) 1 (by omega) (by omega) (by omega) (by omega) (by omega)
  refine ⟨to, c_spFT _ _ _ _ ok, to, im, eqs, fun h => by simp at h, fun _ => ⟨to, c_eqC _ _ _ _ ok.hN (fun i hi => by have := ok.hn i hi; omega) (fun i hi => by have := ok.hm i hi; omega) (fun i j hi hj => by have := ok.hw i j hi hj; omega),
    c_mkC _ _ _ _ (by omega) (fun i hi => by have := ok.hm i hi; omega) (by omega) (by omega) (by omega), eqs, fun h => by simp at h, fun _ => ⟨c_mkA _ _ _ _ _ _ _ _ (by omega) (by omega) (by omega) (by omega) (by omega), hd, fun h => by simp at h, fun _ => ⟨to, im, eqs, fun h => by simp at h, fun _ => ⟨hd, fun h => by simp at h, fun _ => ?_⟩⟩⟩⟩⟩
  simp
theorem law_FnExactFindTable (xs : List AV) (h : Args Tryd.prog Tryd.f4.params.toList xs) : PRet Tryd.prog G0 4 xs (AB true) := by
  have hp : Tryd.f4.params.toList = [39, 9] := by kernel_rfl
  rw [hp] at h
  obtain ⟨N, g, a, cs, hN, ha, ⟨k1, k2, k3, k4, k5⟩, h2, rfl⟩ := args_cat h
  obtain ⟨x, b, cs', hx, hb, h3, rfl⟩ := args_text h2
  cases h3
  exact (c_lawFT N _ x hN k1 k2 k3 k4 k5).args ⟨ha, hb, trivial⟩
end Go.Gw
