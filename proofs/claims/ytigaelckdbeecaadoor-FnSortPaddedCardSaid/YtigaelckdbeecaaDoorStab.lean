/- Sorting places by the rows that they name: the comparison, insertion; with no condition. -/
import Derived.Test.YtigaelckdbeecaaDoorOrder
import Derived.Test.YtigaelckdbeecaaDoorPadB
import Derived.KernelRfl
namespace Go.Gw
open Go Go.Proofs
set_option linter.unusedSimpArgs false
set_option linter.unusedVariables false
set_option maxRecDepth 100000
def ir54 : Ir :=
  (.seq
  (.reg [] [o 6 (.mov (ci 0))])
  (.seq
  (.seq
  (.dreg [7, 8, 9, 10, 11, 12, 13, 14, 15, 16] [0, 1, 0, 7, 15, 0, 32, 0, 224, 480, 1023] [(1, 1008), (4, 1011), (6, 1013), (9, 1016)] [o 7 (.fadr 2 (tt 2)),
    o 8 (.load false 1 (tt 7)),
    o 9 (.mov (tt 0)),
    o 10 (.idx 1 (tt 8) (tt 9)),
    o 11 (.load false 1 (tt 10)),
    o 12 (.fadr 2 (tt 2)),
    o 13 (.load false 1 (tt 12)),
    o 14 (.mov (tt 1)),
    o 15 (.idx 1 (tt 13) (tt 14)),
    o 16 (.load false 1 (tt 15)),
    o 17 (.binB .neq (tt 11) (tt 16))])
  (.cond (tt 17)
   (.seq
   (.seq
   (.reg [18, 19, 20, 21] [o 18 (.fadr 2 (tt 2)),
     o 19 (.load false 1 (tt 18)),
     o 20 (.mov (tt 0)),
     o 21 (.idx 1 (tt 19) (tt 20)),
     o 22 (.load false 1 (tt 21))])
   (.cond (tt 22)
    (.seq
    (.reg [] [o 6 (.mov (ci (-1)))])
    .ret)
    .skip))
   (.seq
   (.reg [] [o 6 (.mov (ci 1))])
   .ret))
   .skip))
  (.seq
  (.dreg [23, 24, 25, 26, 27, 28, 29, 30, 31, 32, 33, 34] [0, 0, 2, 0, 14, 30, 0, 64, 0, 448, 960, 2047, 4095] [(0, 1023), (2, 1025), (5, 1028), (7, 1030), (10, 1033), (11, 1034), (11, 2034), (11, 3034), (11, 4034), (11, 5034), (11, 6034), (11, 7034), (11, 8034)] [o 23 (.load false 1 (tt 3)),
    o 24 (.fadr 1 (tt 2)),
    o 25 (.load false 1 (tt 24)),
    o 26 (.mov (tt 0)),
    o 27 (.idx 1 (tt 25) (tt 26)),
    o 28 (.load false 1 (tt 27)),
    o 29 (.fadr 1 (tt 2)),
    o 30 (.load false 1 (tt 29)),
    o 31 (.mov (tt 1)),
    o 32 (.idx 1 (tt 30) (tt 31)),
    o 33 (.load false 1 (tt 32)),
    o 34 (.callv (tt 23) [(tt 28), (tt 33)]),
    o 6 (.mov (tt 34))])
  .ret)))
def keep54 : List Nat := [0, 1, 2, 3, 6, 17, 22]
def res54 : List RI := [.tmp 6]
theorem chk54 : chk Tryd.prog 54 4 keep54 = some (ir54, res54) := by kernel_rfl

/-! ### rows in order: real ones first -/
def ordQ (c : Int) (dn : Bool) (x y : List Int) : Int := if 0 ≤ c then ordL c.toNat dn x y else lexL x y
abbrev It := Bool × List Int
def ordX (c : Int) (dn : Bool) (x y : It) : Int := if x.1 != y.1 then (if x.1 then -1 else 1) else ordQ c dn x.2 y.2
def ltQ (c : Int) (dn : Bool) (x y : List Int) : Bool := decide (ordQ c dn x y < 0)
def ltX (c : Int) (dn : Bool) (x y : It) : Bool := decide (ordX c dn x y < 0)
theorem ltQ_swo (c : Int) (dn : Bool) : Go.Sort.SWO (ltQ c dn) := by
  by_cases h : 0 ≤ c
  · have : ltQ c dn = ltO c.toNat dn := by funext x y; simp [ltQ, ltO, ordQ, h]
    rw [this]; exact ltO_swo _ _
  · have : ltQ c dn = ltL := by funext x y; simp [ltQ, ltL, ordQ, h]
    rw [this]; exact lt_swo
theorem ltQ_anti (c : Int) (dn : Bool) (x y : List Int) (h1 : ltQ c dn x y = false) (h2 : ltQ c dn y x = false) : x = y := by
  by_cases h : 0 ≤ c
  · have : ltQ c dn = ltO c.toNat dn := by funext x y; simp [ltQ, ltO, ordQ, h]
    rw [this] at h1 h2; exact ltO_anti _ _ x y h1 h2
  · have : ltQ c dn = ltL := by funext x y; simp [ltQ, ltL, ordQ, h]
    rw [this] at h1 h2; exact lt_anti x y h1 h2
theorem ltX_iff (c : Int) (dn : Bool) (x y : It) : ltX c dn x y = if x.1 = y.1 then ltQ c dn x.2 y.2 else x.1 := by
  obtain ⟨a, x⟩ := x
  obtain ⟨b, y⟩ := y
  cases a <;> cases b <;> simp [ltX, ordX, ltQ]
theorem ltX_swo (c : Int) (dn : Bool) : Go.Sort.SWO (ltX c dn) where
  irrefl x := by rw [ltX_iff, if_pos rfl]; exact (ltQ_swo c dn).irrefl _
  trans x y z h1 h2 := by
    obtain ⟨a, x⟩ := x
    obtain ⟨b, y⟩ := y
    obtain ⟨d, z⟩ := z
    rw [ltX_iff] at *
    cases a <;> cases b <;> cases d <;> simp at h1 h2 ⊢
    · exact (ltQ_swo c dn).trans _ _ _ h1 h2
    · exact (ltQ_swo c dn).trans _ _ _ h1 h2
  ntrans x y z h1 h2 := by
    obtain ⟨a, x⟩ := x
    obtain ⟨b, y⟩ := y
    obtain ⟨d, z⟩ := z
    rw [ltX_iff] at *
    cases a <;> cases b <;> cases d <;> simp at h1 h2 ⊢
    · exact (ltQ_swo c dn).ntrans _ _ _ h1 h2
    · exact (ltQ_swo c dn).ntrans _ _ _ h1 h2
theorem ltX_anti (c : Int) (dn : Bool) (x y : It) (h1 : ltX c dn x y = false) (h2 : ltX c dn y x = false) : x = y := by
  obtain ⟨a, x⟩ := x
  obtain ⟨b, y⟩ := y
  rw [ltX_iff] at *
  cases a <;> cases b <;> simp at h1 h2 ⊢
  · exact ltQ_anti c dn _ _ h1 h2
  · exact ltQ_anti c dn _ _ h1 h2
def itm (w : Nat → Nat) (h : Nat → Nat → Int) (r : Nat → Bool) (i : Nat) : It := (r i, rowL (w i) (h i) 0)
/-! ### boxes seen as data -/
abbrev bx1 (c : PV) : PV := .pp ([c].length - 0) fun j => [c].getD (0 + j) .any
abbrev bx3 (a b c : PV) : PV := .pp ([a, b, c].length - 0) fun j => [a, b, c].getD (0 + j) .any
abbrev roD (c : Int) (dn : Bool) : PV := .cl 66 [] [bx1 (PI c), bx1 (.v (.bool dn))]
abbrev pdD (n : Nat) (f : Nat → ByteArray) (m : Nat) (w : Nat → Nat) (h : Nat → Nat → Int) (k : Nat) (r : Nat → Bool) : PV := bx3 (.sl false 1 n (TR f)) (.sl false 1 m (RR w h)) (.sl false 1 k (MK r))
theorem ev_rOX : ∀ (n : Nat) (f : Nat → Int) (m : Nat) (g : Nat → Int) (c : Int) (dn : Bool), ev G0 res66 [] (3000 : Nat) ((((Or.call [] (AI (cmp3 (g c.toNat) (f c.toNat))) [] Or.nil).split (Or.call [] (AI (cmp3 (f c.toNat) (g c.toNat))) [] Or.nil)).split (Or.call [] (AI (lexL (rowL n f (0 : Nat)) (rowL m g (0 : Nat)))) [] Or.nil)).lit.lit.lit.lit.lit.lit.lit.lit.lit.split (Or.call [] (AI (lexL (rowL n f (0 : Nat)) (rowL m g (0 : Nat)))) [] Or.nil).lit.lit.lit.lit.lit.lit.lit.lit.lit.lit) [Item.ir ir66] (start [IL false n f, IL false m g, AV.p false (bx1 (PI c)), AV.p false (bx1 (PV.v (Value.bool dn)))] []) = VC.split (decide ((0 : Int) ≤ c)) (VC.need ((0 : Int) ≤ c ∧ c.toNat < n) (VC.need ((0 : Int) ≤ c ∧ c.toNat < m) (VC.split (f c.toNat != g c.toNat) (VC.split dn (VC.need ((0 : Int) ≤ c ∧ c.toNat < m) (VC.need ((0 : Int) ≤ c ∧ c.toNat < n) (VC.call (65 : Nat) [AV.p true (PV.v (Value.int IntKind.i64 (g c.toNat))), AV.p true (PV.v (Value.int IntKind.i64 (f c.toNat)))] [] (AI (cmp3 (g c.toNat) (f c.toNat))) [] (VC.doneP (AV.p true (PV.v (Value.int IntKind.i64 (cmp3 (g c.toNat) (f c.toNat))))))))) (VC.need ((0 : Int) ≤ c ∧ c.toNat < n) (VC.need ((0 : Int) ≤ c ∧ c.toNat < m) (VC.call (65 : Nat) [AV.p true (PV.v (Value.int IntKind.i64 (f c.toNat))), AV.p true (PV.v (Value.int IntKind.i64 (g c.toNat)))] [] (AI (cmp3 (f c.toNat) (g c.toNat))) [] (VC.doneP (AV.p true (PV.v (Value.int IntKind.i64 (cmp3 (f c.toNat) (g c.toNat)))))))))) (VC.call (40 : Nat) [AV.p false (PV.sl false (1 : Nat) n fun (i x : Nat) => PI (f i)), AV.p false (PV.sl false (1 : Nat) m fun (i x : Nat) => PI (g i))] [] (AI (lexL (rowL n f (0 : Nat)) (rowL m g (0 : Nat)))) [] (VC.doneP (AV.p true (PV.v (Value.int IntKind.i64 (lexL (rowL n f (0 : Nat)) (rowL m g (0 : Nat))))))))))) (VC.call (40 : Nat) [AV.p false (PV.sl false (1 : Nat) n fun (i x : Nat) => PI (f i)), AV.p false (PV.sl false (1 : Nat) m fun (i x : Nat) => PI (g i))] [] (AI (lexL (rowL n f (0 : Nat)) (rowL m g (0 : Nat)))) [] (VC.doneP (AV.p true (PV.v (Value.int IntKind.i64 (lexL (rowL n f (0 : Nat)) (rowL m g (0 : Nat)))))))) := by intros; kernel_rfl
theorem c_rOX (n : Nat) (f : Nat → Int) (m : Nat) (g : Nat → Int) (c : Int) (dn : Bool) (hc : 0 ≤ c → c.toNat < n ∧ c.toNat < m) (hn : n ≤ 1048576) : PRet Tryd.prog G0 66 [IL false n f, IL false m g, .p false (bx1 (PI c)), .p false (bx1 (.v (.bool dn)))] (AI (ordQ c dn (rowL n f 0) (rowL m g 0))) := by
  refine PRet.by chk66 (ev_rOX n f m g c dn) ?_
  simp only [VC.holds_split, VC.holds_need, VC.holds_doneP, VC.holds_done, VC.holds_either, VC.holds_call, VC.holds_callE, VC.holds_lend, VC.holds_stop, VC.holds_fail, decide_eq_true_eq, decide_eq_false_iff_not]
  refine ⟨fun h0 => ?_, fun h0 => ⟨c_cmpI _ _ _ _ _ _ hn, ?_⟩⟩
  · obtain ⟨hc1, hc2⟩ := hc h0
    have e1 := rowL_get (f := f) hc1
    have e2 := rowL_get (f := g) hc2
    refine ⟨by omega, by omega, fun h => ⟨fun h2 => ⟨by omega, by omega, c_cmp3 _ _, ?_⟩, fun h2 => ⟨by omega, by omega, c_cmp3 _ _, ?_⟩⟩, fun h => ⟨c_cmpI _ _ _ _ _ _ hn, ?_⟩⟩
    · have h3 : ¬ f c.toNat = g c.toNat := by simpa using h
      simp only [ordQ, h0, if_true, ordL, e1, e2]
      simp [h3, h2]
    · have h3 : ¬ f c.toNat = g c.toNat := by simpa using h
      simp only [ordQ, h0, if_true, ordL, e1, e2]
      simp [h3, h2]
    · have h3 : f c.toNat = g c.toNat := by simpa using h
      simp only [ordQ, h0, if_true, ordL, e1, e2]
      simp [h3]
  · simp [ordQ, h0]
theorem ev_sg1 : ∀ (i k n : Nat) (f : Nat → ByteArray) (m : Nat) (w : Nat → Nat) (h : Nat → Nat → Int) (r : Nat → Bool) (c : Int) (dn : Bool), ev G0 res54 [] (3000 : Nat) ((Or.nil.split Or.nil).split (Or.call [] (AI (ordQ c dn (rowL (w (↑i : Int).toNat) (h (↑i : Int).toNat) (0 : Nat)) (rowL (w (↑k : Int).toNat) (h (↑k : Int).toNat) (0 : Nat)))) [] Or.nil)) [Item.ir ir54] (start [AI (↑i : Int), AI (↑k : Int), AV.p false (pdD n f m w h m r), AV.p false (bx1 (roD c dn))] []) = VC.need ((0 : Int) ≤ (↑i : Int) ∧ (↑i : Int).toNat < m) (VC.need ((0 : Int) ≤ (↑k : Int) ∧ (↑k : Int).toNat < m) (VC.split (!r (↑i : Int).toNat == r (↑k : Int).toNat) (VC.need ((0 : Int) ≤ (↑i : Int) ∧ (↑i : Int).toNat < m) (VC.split (r (↑i : Int).toNat) (VC.doneP (AV.p true (PV.v (Value.int IntKind.i64 (-1 : Int))))) (VC.doneP (AV.p true (PV.v (Value.int IntKind.i64 (1 : Int))))))) (VC.need ((0 : Int) ≤ (↑i : Int) ∧ (↑i : Int).toNat < m) (VC.need ((0 : Int) ≤ (↑k : Int) ∧ (↑k : Int).toNat < m) (VC.call (66 : Nat) [AV.p false (PV.sl false (1 : Nat) (w (↑i : Int).toNat) fun (j x : Nat) => PI (h (↑i : Int).toNat j)), AV.p false (PV.sl false (1 : Nat) (w (↑k : Int).toNat) fun (j x : Nat) => PI (h (↑k : Int).toNat j)), AV.p false (PV.pp ([PI c].length - (0 : Nat)) fun (j : Nat) => [PI c].getD ((0 : Nat) + j) PV.any), AV.p false (PV.pp ([PV.v (Value.bool dn)].length - (0 : Nat)) fun (j : Nat) => [PV.v (Value.bool dn)].getD ((0 : Nat) + j) PV.any)] [] (AI (ordQ c dn (rowL (w (↑i : Int).toNat) (h (↑i : Int).toNat) (0 : Nat)) (rowL (w (↑k : Int).toNat) (h (↑k : Int).toNat) (0 : Nat)))) [] (VC.doneP (AV.p true (PV.v (Value.int IntKind.i64 (ordQ c dn (rowL (w (↑i : Int).toNat) (h (↑i : Int).toNat) (0 : Nat)) (rowL (w (↑k : Int).toNat) (h (↑k : Int).toNat) (0 : Nat)))))))))))) := by intros; kernel_rfl
theorem c_sg1 (i k : Nat) (n : Nat) (f : Nat → ByteArray) (m : Nat) (w : Nat → Nat) (h : Nat → Nat → Int) (r : Nat → Bool) (c : Int) (dn : Bool) (hi : i < m) (hk : k < m) (hc : ∀ i, i < m → 0 ≤ c → c.toNat < w i) (hw : ∀ i, i < m → w i ≤ 1048576) : PRet Tryd.prog G0 54 [AI i, AI k, .p false (pdD n f m w h m r), .p false (bx1 (roD c dn))] (AI (ordX c dn (itm w h r i) (itm w h r k))) := by
  refine PRet.by chk54 (ev_sg1 i k n f m w h r c dn) ?_
  simp only [VC.holds_split, VC.holds_need, VC.holds_doneP, VC.holds_done, VC.holds_either, VC.holds_call, VC.holds_callE, VC.holds_lend, VC.holds_stop, VC.holds_fail, decide_eq_true_eq, decide_eq_false_iff_not, Int.toNat_natCast]
  refine ⟨by omega, by omega, fun h1 => ⟨by omega, fun h2 => ?_, fun h2 => ?_⟩, fun h1 => ⟨by omega, by omega, c_rOX _ _ _ _ _ _ (fun h3 => ⟨hc i hi h3, hc k hk h3⟩) (hw i hi), ?_⟩⟩
  · have h4 : r k = false := by rw [h2] at h1; simpa using h1
    simp [ordX, itm, h2, h4]
  · have h4 : r k = true := by rw [h2] at h1; simpa using h1
    simp [ordX, itm, h2, h4]
  · have h4 : r i = r k := by simpa using h1
    simp [ordX, itm, h4]
/-! ### segments -/
/-- D' is D with the places a ≤ i < b permuted. -/
structure SegP (a b : Nat) (D D' : Nat → Nat) : Prop where
  out : ∀ i, i < a ∨ b ≤ i → D' i = D i
  perm : ((List.range' a (b - a)).map D').Perm ((List.range' a (b - a)).map D)
def SrtS {β : Type} (lt : β → β → Bool) (K : Nat → β) (a b : Nat) (D : Nat → Nat) : Prop := ∀ i j, a ≤ i → i < j → j < b → lt (K (D j)) (K (D i)) = false
theorem SegP.refl (a b : Nat) (D : Nat → Nat) : SegP a b D D := ⟨fun _ _ => rfl, .refl _⟩
theorem SegP.trans {a b : Nat} {D D' D'' : Nat → Nat} (h : SegP a b D D') (h' : SegP a b D' D'') : SegP a b D D'' := ⟨fun i hi => (h'.out i hi).trans (h.out i hi), h'.perm.trans h.perm⟩
theorem SegP.all {a b : Nat} {D D' : Nat → Nat} (h : SegP a b D D') {p : Nat → Prop} (hp : ∀ i, a ≤ i → i < b → p (D i)) : ∀ i, a ≤ i → i < b → p (D' i) := fun i h1 h2 => by
  have : D' i ∈ (List.range' a (b - a)).map D' := List.mem_map.2 ⟨i, by simp [List.mem_range'_1]; omega, rfl⟩
  have := h.perm.mem_iff.1 this
  simp only [List.mem_map, List.mem_range'_1] at this
  obtain ⟨j, hj, e⟩ := this
  rw [← e]
  exact hp j hj.1 (by omega)
theorem range_split {a b a' b' : Nat} (h1 : a' ≤ a) (h2 : a ≤ b) (h3 : b ≤ b') : List.range' a' (b' - a') = List.range' a' (a - a') ++ (List.range' a (b - a) ++ List.range' b (b' - b)) := by
  have e1 : List.range' a (b - a) ++ List.range' b (b' - b) = List.range' a (b' - a) := by
    have := List.range'_append_1 (s := a) (m := b - a) (n := b' - b)
    rw [show a + (b - a) = b by omega, show b - a + (b' - b) = b' - a by omega] at this
    exact this
  have e2 := List.range'_append_1 (s := a') (m := a - a') (n := b' - a)
  rw [show a' + (a - a') = a by omega, show a - a' + (b' - a) = b' - a' by omega] at e2
  rw [e1, e2]
theorem SegP.mono {a b a' b' : Nat} {D D' : Nat → Nat} (h : SegP a b D D') (h1 : a' ≤ a) (h2 : b ≤ b') : SegP a' b' D D' := by
  by_cases hab : a ≤ b
  · refine ⟨fun i hi => h.out i (by omega), ?_⟩
    rw [range_split h1 hab h2, List.map_append, List.map_append, List.map_append, List.map_append]
    have e1 : (List.range' a' (a - a')).map D' = (List.range' a' (a - a')).map D := List.map_congr_left fun i hi => h.out i (.inl (by simp only [List.mem_range'_1] at hi; omega))
    have e2 : (List.range' b (b' - b)).map D' = (List.range' b (b' - b)).map D := List.map_congr_left fun i hi => h.out i (.inr (by simp only [List.mem_range'_1] at hi; omega))
    rw [e1, e2]
    exact (List.Perm.append_left _ (h.perm.append_right _))
  · have : ∀ i, D' i = D i := fun i => h.out i (by omega)
    refine ⟨fun i _ => this i, ?_⟩
    rw [show D' = D from funext this]
/-- Two places exchanged. -/
def swF (D : Nat → Nat) (i j : Nat) : Nat → Nat := fun x => if x = i then D j else if x = j then D i else D x
theorem SegP.swap {a b : Nat} (D : Nat → Nat) {i j : Nat} (hi : a ≤ i ∧ i < b) (hj : a ≤ j ∧ j < b) : SegP a b D (swF D i j) := by
  refine ⟨fun x hx => ?_, ?_⟩
  · simp only [swF]
    rw [if_neg (by omega), if_neg (by omega)]
  · let L := (List.range' a (b - a)).map D
    have hl : L.length = b - a := by simp [L]
    have h1 : i - a < L.length := by omega
    have h2 : j - a < L.length := by omega
    have e : (List.range' a (b - a)).map (swF D i j) = (L.set (i - a) L[j - a]).set (j - a) L[i - a] := by
      apply List.ext_getElem
      · simp [L]
      · intro k k1 k2
        have hk : k < b - a := by simpa using k1
        simp only [List.getElem_map, List.getElem_range', List.getElem_set, L, swF, Nat.one_mul]
        by_cases c1 : j - a = k
        · have e1 : a + k = j := by omega
          by_cases c2 : i = j
          · subst c2; simp [c1, e1]
          · have e3 : ¬ j = i := fun e => c2 e.symm
            have e4 : a + (i - a) = i := by omega
            simp [c1, e1, e3, e4]
        · have e1 : ¬ a + k = j := by omega
          by_cases c2 : i - a = k
          · have e3 : a + k = i := by omega
            have e4 : a + (j - a) = j := by omega
            have e5 : ¬ i = j := by omega
            simp [c1, c2, e3, e4]
          · have e3 : ¬ a + k = i := by omega
            simp [c1, c2, e1, e3]
    rw [e]
    exact List.set_set_perm h1 h2
end Go.Gw

namespace Go.Gw
open Go Go.Proofs
set_option linter.unusedSimpArgs false
set_option linter.unusedVariables false
set_option maxRecDepth 100000
def ir85_L1 : Ir :=
  (.seq
  (.seq
  (.dreg [18, 19, 20, 21, 22, 23, 24, 25, 26, 27, 28, 29, 30, 31, 32, 33] [0, 0, 3, 7, 15, 15, 15, 111, 239, 15, 15, 1039, 3599, 7695, 16383, 32767, 65535] [(8, 1026), (13, 1031), (14, 1032), (14, 2032), (14, 3032), (14, 4032), (14, 5032), (14, 6032), (14, 7032), (14, 8032)] [o 18 (.mov (tt 9)),
    o 19 (.mov (tt 1)),
    o 20 (.bin .gtr (tt 18) (tt 19)),
    o 21 (.mov (tt 20)),
    og 22 21 true (.mov (tt 3)),
    og 23 21 true (.mov (tt 0)),
    og 24 21 true (.mov (tt 9)),
    og 25 21 true (.idx 1 (tt 23) (tt 24)),
    og 26 21 true (.load false 1 (tt 25)),
    og 27 21 true (.mov (tt 0)),
    og 28 21 true (.mov (tt 9)),
    og 29 21 true (.bin .sub (tt 28) (ci 1)),
    og 30 21 true (.idx 1 (tt 27) (tt 29)),
    og 31 21 true (.load false 1 (tt 30)),
    og 32 21 true (.callv (tt 22) [(tt 26), (tt 31)]),
    og 33 21 true (.bin .lss (tt 32) (ci 0)),
    o 34 (.pick (tt 21) (tt 33) (cb false))])
  (.cond (tt 34)
   .skip
   (.exit 2)))
  (.seq
  (.block 3
   (.dreg [37, 38, 39, 40, 41, 42, 43, 44, 45, 46, 47, 48, 49, 50, 51, 52] [0, 0, 0, 0, 8, 0, 0, 64, 224, 480, 0, 0, 3072, 7168, 16355, 32739, 65535, 131071] [(9, 1046), (13, 1050)] [o 37 (.mov (tt 0)),
     o 38 (.mov (tt 9)),
     o 39 (.mov (tt 0)),
     o 40 (.mov (tt 9)),
     o 41 (.bin .sub (tt 40) (ci 1)),
     o 42 (.mov (tt 0)),
     o 43 (.mov (tt 9)),
     o 44 (.bin .sub (tt 43) (ci 1)),
     o 45 (.idx 1 (tt 42) (tt 44)),
     o 46 (.load false 1 (tt 45)),
     o 47 (.mov (tt 0)),
     o 48 (.mov (tt 9)),
     o 49 (.idx 1 (tt 47) (tt 48)),
     o 50 (.load false 1 (tt 49)),
     o 51 (.idx 1 (tt 37) (tt 38)),
     on (.store 1 (tt 51) (tt 46)),
     o 52 (.idx 1 (tt 39) (tt 41)),
     on (.store 1 (tt 52) (tt 50))]))
  (.reg [35, 36] [o 35 (.mov (tt 9)),
    o 36 (.bin .sub (tt 35) (ci 1)),
    o 9 (.mov (tt 36))])))
def ir85_T2 : Ir :=
  (.reg [15, 16] [o 15 (.mov (tt 8)),
    o 16 (.bin .add (tt 15) (ci 1)),
    o 8 (.mov (tt 16))])
def ir85_L3 : Ir :=
  (.seq
  (.seq
  (.reg [12, 13] [o 12 (.mov (tt 8)),
    o 13 (.mov (tt 2)),
    o 14 (.bin .lss (tt 12) (tt 13))])
  (.cond (tt 14)
   .skip
   (.exit 0)))
  (.seq
  (.block 1
   (.seq
   (.reg [17] [o 17 (.mov (tt 8)),
     o 9 (.mov (tt 17))])
   (.block 2
    (.loop ir85_L1))))
  ir85_T2))
def ir85 : Ir :=
  (.seq
  (.reg [10, 11] [o 10 (.mov (tt 1)),
    o 11 (.bin .add (tt 10) (ci 1)),
    o 8 (.mov (tt 11))])
  (.block 0
   (.loop ir85_L3)))
def keep85 : List Nat := [0, 1, 2, 3, 8, 9, 14, 34]
def res85 : List RI := []
theorem chk85 : chk Tryd.prog 85 4 keep85 = some (ir85, res85) := by kernel_rfl

/-- What is sorted by: a padded table, a column, a direction. -/
structure SK where
  n : Nat
  f : Nat → ByteArray
  m : Nat
  w : Nat → Nat
  h : Nat → Nat → Int
  r : Nat → Bool
  c : Int
  dn : Bool
structure SkOk (s : SK) : Prop where
  hc : ∀ i, i < s.m → 0 ≤ s.c → s.c.toNat < s.w i
  hw : ∀ i, i < s.m → s.w i ≤ 1048576
  hm : s.m ≤ 1048576
abbrev sgFn (s : SK) : AV := .cl 54 [] [.p false (pdD s.n s.f s.m s.w s.h s.m s.r), .p false (bx1 (roD s.c s.dn))]
abbrev sgK (s : SK) (i : Nat) : It := itm s.w s.h s.r i
abbrev sgL (s : SK) : It → It → Bool := ltX s.c s.dn
abbrev OR (N : Nat) (D : Nat → Nat) : Ob := .row .u true 1 N (fun i _ => PI (D i : Nat)) []
theorem c_sgC (s : SK) (i k : Nat) (ok : SkOk s) (hi : i < s.m) (hk : k < s.m) : PRet Tryd.prog G0 54 [AI i, AI k, .p false (pdD s.n s.f s.m s.w s.h s.m s.r), .p false (bx1 (roD s.c s.dn))] (AI (ordX s.c s.dn (sgK s i) (sgK s k))) :=
  c_sg1 i k s.n s.f s.m s.w s.h s.r s.c s.dn hi hk ok.hc ok.hw
theorem ev_ins : ∀ (s : SK) (N : Nat) (D : Nat → Nat) (a b : Nat), ev G0 res85 [((0 : Nat), OR N D)] (3000 : Nat) Or.nil [Item.ir ir85] (start [AV.own (0 : Nat), AI (↑a : Int), AI (↑b : Int), sgFn s] [((0 : Nat), OR N D)]) = VC.loop ir85_L3 [Item.bend (0 : Nat)] (St.mk [((0 : Nat), AV.own (100000 : Nat)), ((1 : Nat), AV.p true (PV.v (Value.int IntKind.i64 (↑a : Int)))), ((2 : Nat), AV.p true (PV.v (Value.int IntKind.i64 (↑b : Int)))), ((3 : Nat), AV.cl (54 : Nat) [] [AV.p false (PV.pp ([PV.sl false (1 : Nat) s.n (TR s.f), PV.sl false (1 : Nat) s.m (RR s.w s.h), PV.sl false (1 : Nat) s.m (MK s.r)].length - (0 : Nat)) fun (j : Nat) => [PV.sl false (1 : Nat) s.n (TR s.f), PV.sl false (1 : Nat) s.m (RR s.w s.h), PV.sl false (1 : Nat) s.m (MK s.r)].getD ((0 : Nat) + j) PV.any), AV.p false (PV.pp ([roD s.c s.dn].length - (0 : Nat)) fun (j : Nat) => [roD s.c s.dn].getD ((0 : Nat) + j) PV.any)]), ((8 : Nat), AV.p true (PV.v (Value.int IntKind.i64 (IntKind.i64.wrap ((↑a : Int) + (1 : Int))))))] [((100000 : Nat), Ob.row Mode.u true (1 : Nat) N (fun (i x : Nat) => PI (↑(D i) : Int)) [])]) := by intros; kernel_rfl
def st_ins (s : SK) (N : Nat) (a b : Nat) (x : Nat × (Nat → Nat)) : St := ⟨[(0, .own 100000), (1, AI a), (2, AI b), (3, sgFn s), (8, AI x.1)], [(100000, OR N x.2)]⟩
theorem evr_ins : ∀ (s : SK) (N : Nat) (D : Nat → Nat) (a b : Nat) (I : Nat × (Nat → Nat) → St → Prop) (x : Nat × (Nat → Nat)), ev G0 res85 [((0 : Nat), OR N D)] (3000 : Nat) (Or.nil.split Or.nil) [Item.ir ir85_L3, Item.lend (I x), Item.bend (0 : Nat)] (st_ins s N a b x) = VC.split (decide ((↑x.1 : Int) < (↑b : Int))) (VC.loop ir85_L1 [Item.bend (2 : Nat), Item.bend (1 : Nat), Item.ir ir85_T2, Item.lend (I x), Item.bend (0 : Nat)] (St.mk [((0 : Nat), AV.own (100000 : Nat)), ((1 : Nat), AV.p true (PV.v (Value.int IntKind.i64 (↑a : Int)))), ((2 : Nat), AV.p true (PV.v (Value.int IntKind.i64 (↑b : Int)))), ((3 : Nat), AV.cl (54 : Nat) [] [AV.p false (PV.pp ([PV.sl false (1 : Nat) s.n (TR s.f), PV.sl false (1 : Nat) s.m (RR s.w s.h), PV.sl false (1 : Nat) s.m (MK s.r)].length - (0 : Nat)) fun (j : Nat) => [PV.sl false (1 : Nat) s.n (TR s.f), PV.sl false (1 : Nat) s.m (RR s.w s.h), PV.sl false (1 : Nat) s.m (MK s.r)].getD ((0 : Nat) + j) PV.any), AV.p false (PV.pp ([roD s.c s.dn].length - (0 : Nat)) fun (j : Nat) => [roD s.c s.dn].getD ((0 : Nat) + j) PV.any)]), ((8 : Nat), AV.p true (PV.v (Value.int IntKind.i64 (↑x.1 : Int)))), ((14 : Nat), AV.p true (PV.v (Value.bool (decide ((↑x.1 : Int) < (↑b : Int)))))), ((9 : Nat), AV.p true (PV.v (Value.int IntKind.i64 (↑x.1 : Int))))] [((100000 : Nat), Ob.row Mode.u true (1 : Nat) N (fun (i x_1 : Nat) => PI (↑(x.2 i) : Int)) [])])) (VC.done (St.mk [((0 : Nat), AV.own (100000 : Nat)), ((1 : Nat), AV.p true (PV.v (Value.int IntKind.i64 (↑a : Int)))), ((2 : Nat), AV.p true (PV.v (Value.int IntKind.i64 (↑b : Int)))), ((3 : Nat), AV.cl (54 : Nat) [] [AV.p false (PV.pp ([PV.sl false (1 : Nat) s.n (TR s.f), PV.sl false (1 : Nat) s.m (RR s.w s.h), PV.sl false (1 : Nat) s.m (MK s.r)].length - (0 : Nat)) fun (j : Nat) => [PV.sl false (1 : Nat) s.n (TR s.f), PV.sl false (1 : Nat) s.m (RR s.w s.h), PV.sl false (1 : Nat) s.m (MK s.r)].getD ((0 : Nat) + j) PV.any), AV.p false (PV.pp ([roD s.c s.dn].length - (0 : Nat)) fun (j : Nat) => [roD s.c s.dn].getD ((0 : Nat) + j) PV.any)]), ((8 : Nat), AV.p true (PV.v (Value.int IntKind.i64 (↑x.1 : Int)))), ((14 : Nat), AV.p true (PV.v (Value.bool (decide ((↑x.1 : Int) < (↑b : Int))))))] [((100000 : Nat), Ob.row Mode.u true (1 : Nat) N (fun (i x_1 : Nat) => PI (↑(x.2 i) : Int)) [])])) := by intros; kernel_rfl
def st_ins2 (s : SK) (N : Nat) (a b i : Nat) (x : Nat × (Nat → Nat)) : St := ⟨[(0, .own 100000), (1, AI a), (2, AI b), (3, sgFn s), (8, AI i), (9, AI x.1)], [(100000, OR N x.2)]⟩
theorem evr_ins2 : ∀ (s : SK) (N : Nat) (D : Nat → Nat) (a b i : Nat) (I J : Nat × (Nat → Nat) → St → Prop) (y x : Nat × (Nat → Nat)), ev G0 res85 [((0 : Nat), OR N D)] (3000 : Nat) ((Or.call [] (AI (ordX s.c s.dn (sgK s (x.2 (↑x.1 : Int).toNat)) (sgK s (x.2 (IntKind.i64.wrap ((↑x.1 : Int) - (1 : Int))).toNat)))) [] (Or.nil.split Or.nil).lit.lit).lit.lit.lit.lit.lit.lit.lit.lit.lit.lit.split Or.nil.lit.lit.lit.lit.lit.lit.lit.lit.lit.lit.lit.lit.lit) [Item.ir ir85_L1, Item.lend (J x), Item.bend (2 : Nat), Item.bend (1 : Nat), Item.ir ir85_T2, Item.lend (I y), Item.bend (0 : Nat)] (st_ins2 s N a b i x) = VC.split (decide ((↑a : Int) < (↑x.1 : Int))) (VC.need ((0 : Int) ≤ (↑x.1 : Int) ∧ (↑x.1 : Int).toNat < N) (VC.need ((↑x.1 : Int).toNat < N) (VC.need ((0 : Int) ≤ IntKind.i64.wrap ((↑x.1 : Int) - (1 : Int)) ∧ (IntKind.i64.wrap ((↑x.1 : Int) - (1 : Int))).toNat < N) (VC.need ((IntKind.i64.wrap ((↑x.1 : Int) - (1 : Int))).toNat < N) (VC.call (54 : Nat) [AV.p true (PV.v (Value.int IntKind.i64 (↑(x.2 (↑x.1 : Int).toNat) : Int))), AV.p true (PV.v (Value.int IntKind.i64 (↑(x.2 (IntKind.i64.wrap ((↑x.1 : Int) - (1 : Int))).toNat) : Int))), AV.p false (PV.pp ([PV.sl false (1 : Nat) s.n (TR s.f), PV.sl false (1 : Nat) s.m (RR s.w s.h), PV.sl false (1 : Nat) s.m (MK s.r)].length - (0 : Nat)) fun (j : Nat) => [PV.sl false (1 : Nat) s.n (TR s.f), PV.sl false (1 : Nat) s.m (RR s.w s.h), PV.sl false (1 : Nat) s.m (MK s.r)].getD ((0 : Nat) + j) PV.any), AV.p false (PV.pp ([roD s.c s.dn].length - (0 : Nat)) fun (j : Nat) => [roD s.c s.dn].getD ((0 : Nat) + j) PV.any)] [] (AI (ordX s.c s.dn (sgK s (x.2 (↑x.1 : Int).toNat)) (sgK s (x.2 (IntKind.i64.wrap ((↑x.1 : Int) - (1 : Int))).toNat)))) [] (VC.split (decide (ordX s.c s.dn (sgK s (x.2 (↑x.1 : Int).toNat)) (sgK s (x.2 (IntKind.i64.wrap ((↑x.1 : Int) - (1 : Int))).toNat)) < (0 : Int))) (VC.need ((0 : Int) ≤ IntKind.i64.wrap ((↑x.1 : Int) - (1 : Int)) ∧ (IntKind.i64.wrap ((↑x.1 : Int) - (1 : Int))).toNat < N) (VC.need ((IntKind.i64.wrap ((↑x.1 : Int) - (1 : Int))).toNat < N) (VC.need ((0 : Int) ≤ (↑x.1 : Int) ∧ (↑x.1 : Int).toNat < N) (VC.need ((↑x.1 : Int).toNat < N) (VC.need ((0 : Int) ≤ (↑x.1 : Int) ∧ (↑x.1 : Int).toNat < N) (VC.need ((↑x.1 : Int).toNat < N) (VC.need ((0 : Int) ≤ IntKind.i64.wrap ((↑x.1 : Int) - (1 : Int)) ∧ (IntKind.i64.wrap ((↑x.1 : Int) - (1 : Int))).toNat < N) (VC.need ((IntKind.i64.wrap ((↑x.1 : Int) - (1 : Int))).toNat < N) (VC.lend (J x) (St.mk [((0 : Nat), AV.own (100000 : Nat)), ((1 : Nat), AV.p true (PV.v (Value.int IntKind.i64 (↑a : Int)))), ((2 : Nat), AV.p true (PV.v (Value.int IntKind.i64 (↑b : Int)))), ((3 : Nat), AV.cl (54 : Nat) [] [AV.p false (PV.pp ([PV.sl false (1 : Nat) s.n (TR s.f), PV.sl false (1 : Nat) s.m (RR s.w s.h), PV.sl false (1 : Nat) s.m (MK s.r)].length - (0 : Nat)) fun (j : Nat) => [PV.sl false (1 : Nat) s.n (TR s.f), PV.sl false (1 : Nat) s.m (RR s.w s.h), PV.sl false (1 : Nat) s.m (MK s.r)].getD ((0 : Nat) + j) PV.any), AV.p false (PV.pp ([roD s.c s.dn].length - (0 : Nat)) fun (j : Nat) => [roD s.c s.dn].getD ((0 : Nat) + j) PV.any)]), ((8 : Nat), AV.p true (PV.v (Value.int IntKind.i64 (↑i : Int)))), ((9 : Nat), AV.p true (PV.v (Value.int IntKind.i64 (IntKind.i64.wrap ((↑x.1 : Int) - (1 : Int)))))), ((34 : Nat), AV.p true (PV.v (Value.bool (decide (ordX s.c s.dn (sgK s (x.2 (↑x.1 : Int).toNat)) (sgK s (x.2 (IntKind.i64.wrap ((↑x.1 : Int) - (1 : Int))).toNat)) < (0 : Int))))))] [((100000 : Nat), Ob.row Mode.u true (1 : Nat) N (setG [((IntKind.i64.wrap ((↑x.1 : Int) - (1 : Int))).toNat, (0 : Nat), PV.v (Value.int IntKind.i64 (↑(x.2 (↑x.1 : Int).toNat) : Int)))] (setG [((↑x.1 : Int).toNat, (0 : Nat), PV.v (Value.int IntKind.i64 (↑(x.2 (IntKind.i64.wrap ((↑x.1 : Int) - (1 : Int))).toNat) : Int)))] fun (i_1 x_1 : Nat) => PI (↑(x.2 i_1) : Int))) [])])))))))))) (VC.lend (I y) (St.mk [((0 : Nat), AV.own (100000 : Nat)), ((1 : Nat), AV.p true (PV.v (Value.int IntKind.i64 (↑a : Int)))), ((2 : Nat), AV.p true (PV.v (Value.int IntKind.i64 (↑b : Int)))), ((3 : Nat), AV.cl (54 : Nat) [] [AV.p false (PV.pp ([PV.sl false (1 : Nat) s.n (TR s.f), PV.sl false (1 : Nat) s.m (RR s.w s.h), PV.sl false (1 : Nat) s.m (MK s.r)].length - (0 : Nat)) fun (j : Nat) => [PV.sl false (1 : Nat) s.n (TR s.f), PV.sl false (1 : Nat) s.m (RR s.w s.h), PV.sl false (1 : Nat) s.m (MK s.r)].getD ((0 : Nat) + j) PV.any), AV.p false (PV.pp ([roD s.c s.dn].length - (0 : Nat)) fun (j : Nat) => [roD s.c s.dn].getD ((0 : Nat) + j) PV.any)]), ((8 : Nat), AV.p true (PV.v (Value.int IntKind.i64 (IntKind.i64.wrap ((↑i : Int) + (1 : Int)))))), ((9 : Nat), AV.p true (PV.v (Value.int IntKind.i64 (↑x.1 : Int)))), ((34 : Nat), AV.p true (PV.v (Value.bool (decide (ordX s.c s.dn (sgK s (x.2 (↑x.1 : Int).toNat)) (sgK s (x.2 (IntKind.i64.wrap ((↑x.1 : Int) - (1 : Int))).toNat)) < (0 : Int))))))] [((100000 : Nat), Ob.row Mode.u true (1 : Nat) N (fun (i_1 x_1 : Nat) => PI (↑(x.2 i_1) : Int)) [])])))))))) (VC.lend (I y) (St.mk [((0 : Nat), AV.own (100000 : Nat)), ((1 : Nat), AV.p true (PV.v (Value.int IntKind.i64 (↑a : Int)))), ((2 : Nat), AV.p true (PV.v (Value.int IntKind.i64 (↑b : Int)))), ((3 : Nat), AV.cl (54 : Nat) [] [AV.p false (PV.pp ([PV.sl false (1 : Nat) s.n (TR s.f), PV.sl false (1 : Nat) s.m (RR s.w s.h), PV.sl false (1 : Nat) s.m (MK s.r)].length - (0 : Nat)) fun (j : Nat) => [PV.sl false (1 : Nat) s.n (TR s.f), PV.sl false (1 : Nat) s.m (RR s.w s.h), PV.sl false (1 : Nat) s.m (MK s.r)].getD ((0 : Nat) + j) PV.any), AV.p false (PV.pp ([roD s.c s.dn].length - (0 : Nat)) fun (j : Nat) => [roD s.c s.dn].getD ((0 : Nat) + j) PV.any)]), ((8 : Nat), AV.p true (PV.v (Value.int IntKind.i64 (IntKind.i64.wrap ((↑i : Int) + (1 : Int)))))), ((9 : Nat), AV.p true (PV.v (Value.int IntKind.i64 (↑x.1 : Int)))), ((34 : Nat), AV.p true (PV.v (Value.bool false)))] [((100000 : Nat), Ob.row Mode.u true (1 : Nat) N (fun (i_1 x_1 : Nat) => PI (↑(x.2 i_1) : Int)) [])])) := by intros; kernel_rfl
/-- Sorted from a to b but for the place j, which is to go down. -/
structure Hole {β : Type} (lt : β → β → Bool) (K : Nat → β) (a b j : Nat) (D : Nat → Nat) : Prop where
  oth : ∀ p q, a ≤ p → p < q → q < b → p ≠ j → q ≠ j → lt (K (D q)) (K (D p)) = false
  up : ∀ q, j < q → q < b → lt (K (D q)) (K (D j)) = false
section
variable {β : Type} {lt : β → β → Bool} {K : Nat → β}
theorem Hole.start {a i : Nat} {D : Nat → Nat} (h : SrtS lt K a i D) : Hole lt K a (i + 1) i D :=
  ⟨fun p q h1 h2 h3 h4 h5 => h p q h1 h2 (by omega), fun q h1 h2 => by omega⟩
theorem Hole.stop (hO : Go.Sort.SWO lt) {a b j : Nat} {D : Nat → Nat} (h : Hole lt K a b j D) (hj : j = a ∨ (a < j ∧ lt (K (D j)) (K (D (j - 1))) = false)) : SrtS lt K a b D := by
  intro p q h1 h2 h3
  by_cases e1 : q = j
  · subst e1
    have h4 := hj.resolve_left (by omega)
    by_cases e2 : p = q - 1
    · rw [e2]; exact h4.2
    · exact hO.ntrans _ _ _ h4.2 (h.oth p (q - 1) h1 (by omega) (by omega) (by omega) (by omega))
  · by_cases e2 : p = j
    · subst e2; exact h.up q h2 h3
    · exact h.oth p q h1 h2 h3 e2 e1
theorem Hole.step (hO : Go.Sort.SWO lt) {a b j : Nat} {D : Nat → Nat} (h : Hole lt K a b j D) (hj : a < j) (hb : j < b) (hl : lt (K (D j)) (K (D (j - 1))) = true) : Hole lt K a b (j - 1) (swF D j (j - 1)) := by
  have asy : lt (K (D (j - 1))) (K (D j)) = false := by
    cases e : lt (K (D (j - 1))) (K (D j)) with
    | false => rfl
    | true => have := hO.trans _ _ _ hl e; rw [hO.irrefl] at this; cases this
  have ej : ¬ j - 1 = j := by omega
  refine ⟨fun p q h1 h2 h3 h4 h5 => ?_, fun q h1 h2 => ?_⟩
  · simp only [swF]
    by_cases c1 : q = j
    · subst c1
      have c2 : ¬ p = q := by omega
      simp only [if_true, c2, if_false, h4]
      exact h.oth p (q - 1) h1 (by omega) (by omega) (by omega) (by omega)
    · by_cases c2 : p = j
      · subst c2
        simp only [c1, if_false, h5, if_true]
        exact h.oth (p - 1) q (by omega) (by omega) h3 (by omega) (by omega)
      · simp only [c1, c2, h4, h5, if_false]
        exact h.oth p q h1 h2 h3 c2 c1
  · simp only [swF, ej, if_false, if_true]
    by_cases c1 : q = j
    · subst c1; simp only [if_true]; exact asy
    · simp only [c1, if_false, show ¬ q = j - 1 by omega]
      exact h.up q (by omega) h2
end
theorem OR_sw {D : Nat → Nat} {j k : Nat} {X Y : Int} (hjk : j ≠ k) (hX : X = (D k : Nat)) (hY : Y = (D j : Nat)) (i : Nat) : PV.Le (setG [(k, 0, PI Y)] (setG [(j, 0, PI X)] fun i _ => PI (D i : Nat)) i 0) ((fun i (_ : Nat) => PI (swF D j k i : Nat)) i 0) := by
  subst hX; subst hY
  by_cases c1 : i = k
  · subst c1
    have c2 : ¬ i = j := fun e => hjk e.symm
    simp [setG, cellSet, swF, c2]; exact .refl _
  · by_cases c2 : i = j
    · subst c2
      simp [setG, cellSet, swF, c1]; exact .refl _
    · simp [setG, cellSet, swF, c1, c2]; exact .refl _
theorem c_ins (s : SK) (N : Nat) (D : Nat → Nat) (a b : Nat) (h : SkOk s ∧ b ≤ N ∧ N ≤ 1048576 ∧ a ≤ 1048576 ∧ ∀ i, i < N → D i < s.m) : PSome Tryd.prog G0 85 [.own 0, AI a, AI b, sgFn s] [(0, OR N D)] (Nat → Nat) (fun D' => SegP a b D D' ∧ SrtS (sgL s) (sgK s) a b D') (fun _ => .tp []) (fun D' => [(0, OR N D')]) := by
  obtain ⟨ok, hb, hN, ha, hD⟩ := h
  have hO := ltX_swo s.c s.dn
  refine PCall.by chk85 rfl (ev_ins s N D a b) ?_
  have e0 : IntKind.i64.wrap ((a : Int) + 1) = ((a + 1 : Nat) : Int) := wrap_in (by omega) (by omega)
  refine loop_by (st_ins s N a b) (fun x => a < x.1 ∧ (x.1 ≤ b ∨ x.1 = a + 1) ∧ SegP a b D x.2 ∧ SrtS (sgL s) (sgK s) a x.1 x.2) (fun x => b - x.1) (a + 1, D) [] [] [] ⟨by simp only []; omega, .inr rfl, .refl _ _ _, fun i j h1 h2 h3 => by simp only [] at h3; omega⟩ ?_ (evr_ins s N D a b) fun x hx => ?_
  · simp [st_ins, hbs, St.lowers, St.lower, stLe, leEnv, leObs, obLe, injB, pinC, AV.leC, AV.leCs, PV.leC, PV.Le_v, St.get, St.obj, look, rho, isNew, keptC, renH, Mode.ok, Mode.isZ, PV.isVal, PV.isNilSl, List.all_nil, List.all_cons, List.any_nil, List.any_cons, List.map_nil, List.map_cons, PV.Le_self, e0]
  · obtain ⟨i, E⟩ := x
    obtain ⟨hai, hib, hE, hS⟩ := hx
    simp only [] at hai hib hE hS
    simp only [VC.holds_split, VC.holds_need, VC.holds_doneP, VC.holds_done, VC.holds_either, VC.holds_call, VC.holds_callE, VC.holds_lend, VC.holds_stop, VC.holds_fail, decide_eq_true_eq, decide_eq_false_iff_not]
    refine ⟨fun h1 => ?_, fun h1 => ?_⟩
    · have hib' : i < b := by omega
      refine loop_by (st_ins2 s N a b i) (fun y => a ≤ y.1 ∧ y.1 ≤ i ∧ SegP a b D y.2 ∧ Hole (sgL s) (sgK s) a (i + 1) y.1 y.2) (fun y => y.1) (i, E) [] [] [] ⟨by simp only []; omega, Nat.le_refl _, hE, Hole.start hS⟩ ?_ (fun J y => evr_ins2 s N D a b i _ J _ y) fun y hy => ?_
      · simp [st_ins2, hbs, St.lowers, St.lower, stLe, leEnv, leObs, obLe, injB, pinC, AV.leC, AV.leCs, PV.leC, PV.Le_v, St.get, St.obj, look, rho, isNew, keptC, renH, Mode.ok, Mode.isZ, PV.isVal, PV.isNilSl, List.all_nil, List.all_cons, List.any_nil, List.any_cons, List.map_nil, List.map_cons, PV.Le_self]
      · obtain ⟨j, F⟩ := y
        obtain ⟨haj, hji, hF, hH⟩ := hy
        simp only [] at haj hji hF hH
        have hFm : ∀ i, i < N → F i < s.m := fun i hi => by
          by_cases c : a ≤ i ∧ i < b
          · exact hF.all (p := fun x => x < s.m) (fun k h1 h2 => hD k (by omega)) i c.1 c.2
          · rw [hF.out i (by omega)]; exact hD i hi
        have e1 : IntKind.i64.wrap ((i : Int) + 1) = ((i + 1 : Nat) : Int) := wrap_in (by omega) (by omega)
        have next : SrtS (sgL s) (sgK s) a (i + 1) F → a < i + 1 ∧ (i + 1 ≤ b ∨ i + 1 = a + 1) ∧ SegP a b D F ∧ SrtS (sgL s) (sgK s) a (i + 1) F := fun h => ⟨by omega, .inl (by omega), hF, h⟩
        simp only [VC.holds_split, VC.holds_need, VC.holds_doneP, VC.holds_done, VC.holds_either, VC.holds_call, VC.holds_callE, VC.holds_lend, VC.holds_stop, VC.holds_fail, decide_eq_true_eq, decide_eq_false_iff_not, Int.toNat_natCast, e1]
        refine ⟨fun h2 => ?_, fun h2 => Again.mk (i + 1, F) [] [] [] (next (hH.stop hO (.inl (by omega)))) (by simp only []; omega) ?_⟩
        · have haj' : a < j := by omega
          have e2 : IntKind.i64.wrap ((j : Int) - 1) = ((j - 1 : Nat) : Int) := (wrap_in (by omega) (by omega)).trans (by omega)
          simp only [e2, Int.toNat_natCast]
          refine ⟨by omega, by omega, by omega, by omega, c_sgC _ _ _ ok (hFm j (by omega)) (hFm (j - 1) (by omega)), fun h3 => ⟨by omega, by omega, by omega, by omega, by omega, by omega, by omega, by omega, Again.mk (j - 1, swF F j (j - 1)) [] [] [] ⟨by simp only []; omega, by simp only []; omega, hF.trans (.swap F ⟨by omega, by omega⟩ ⟨by omega, by omega⟩), hH.step hO haj' (by omega) (decide_eq_true h3)⟩ (by simp only []; omega) ?_⟩, fun h3 => Again.mk (i + 1, F) [] [] [] (next (hH.stop hO (.inr ⟨haj', decide_eq_false h3⟩))) (by simp only []; omega) ?_⟩
          · simp [st_ins2, hbs, St.lowers, St.lower, stLe, leEnv, leObs, obLe, injB, pinC, AV.leC, AV.leCs, PV.leC, PV.Le_v, St.get, St.obj, look, rho, isNew, keptC, renH, Mode.ok, Mode.isZ, PV.isVal, PV.isNilSl, List.all_nil, List.all_cons, List.any_nil, List.any_cons, List.map_nil, List.map_cons, PV.Le_self]
            exact fun k hk => OR_sw (by omega) rfl rfl k
          · simp [st_ins, hbs, St.lowers, St.lower, stLe, leEnv, leObs, obLe, injB, pinC, AV.leC, AV.leCs, PV.leC, PV.Le_v, St.get, St.obj, look, rho, isNew, keptC, renH, Mode.ok, Mode.isZ, PV.isVal, PV.isNilSl, List.all_nil, List.all_cons, List.any_nil, List.any_cons, List.map_nil, List.map_cons, PV.Le_self]
        · simp [st_ins, hbs, St.lowers, St.lower, stLe, leEnv, leObs, obLe, injB, pinC, AV.leC, AV.leCs, PV.leC, PV.Le_v, St.get, St.obj, look, rho, isNew, keptC, renH, Mode.ok, Mode.isZ, PV.isVal, PV.isNilSl, List.all_nil, List.all_cons, List.any_nil, List.any_cons, List.map_nil, List.map_cons, PV.Le_self]
    · have hS' : SrtS (sgL s) (sgK s) a b E := fun p q h1 h2 h3 => hS p q h1 h2 (by omega)
      refine ResOk.mk [] [(0, 100000)] [] _ _ ?_ ⟨E, ⟨hE, hS'⟩, rfl, rfl⟩
      simp [doneC, resOf, resAV, tup, pinR, PV.Le_self, hbs, St.lowers, St.lower, stLe, leEnv, leObs, obLe, injB, pinC, AV.leC, AV.leCs, PV.leC, PV.Le_v, St.get, St.obj, look, rho, isNew, keptC, renH, Mode.ok, Mode.isZ, PV.isVal, PV.isNilSl, List.all_nil, List.all_cons, List.any_nil, List.any_cons, List.map_nil, List.map_cons, res85]
end Go.Gw

namespace Go.Gw
open Go Go.Proofs
set_option linter.unusedSimpArgs false
set_option linter.unusedVariables false
set_option maxRecDepth 100000
def ir70_L1 : Ir :=
  (.seq
  (.seq
  (.reg [11, 12] [o 11 (.mov (tt 8)),
    o 12 (.mov (tt 1)),
    o 13 (.bin .leq (tt 11) (tt 12))])
  (.cond (tt 13)
   .skip
   (.exit 0)))
  (.block 1
   (.seq
   (.reg [14, 15, 16, 17, 18] [o 14 (.mov (tt 0)),
     o 15 (.mov (tt 7)),
     o 16 (.mov (tt 8)),
     o 17 (.mov (tt 2)),
     o 18 (.call 85 [(tt 14), (tt 15), (tt 16), (tt 17)])])
   (.seq
   (.reg [19] [o 19 (.mov (tt 8)),
     o 7 (.mov (tt 19))])
   (.reg [20, 21, 22] [o 20 (.mov (tt 8)),
     o 21 (.mov (tt 6)),
     o 22 (.bin .add (tt 20) (tt 21)),
     o 8 (.mov (tt 22))])))))
def ir70_L2 : Ir :=
  (.seq
  (.seq
  (.reg [33, 34] [o 33 (.mov (tt 8)),
    o 34 (.mov (tt 1)),
    o 35 (.bin .leq (tt 33) (tt 34))])
  (.cond (tt 35)
   .skip
   (.exit 4)))
  (.block 5
   (.seq
   (.reg [36, 37, 38, 39, 40, 41, 42, 43] [o 36 (.mov (tt 0)),
     o 37 (.mov (tt 7)),
     o 38 (.mov (tt 7)),
     o 39 (.mov (tt 6)),
     o 40 (.bin .add (tt 38) (tt 39)),
     o 41 (.mov (tt 8)),
     o 42 (.mov (tt 2)),
     o 43 (.call 86 [(tt 36), (tt 37), (tt 40), (tt 41), (tt 42)])])
   (.seq
   (.reg [44] [o 44 (.mov (tt 8)),
     o 7 (.mov (tt 44))])
   (.reg [45, 46, 47, 48] [o 45 (.mov (tt 8)),
     o 46 (.mov (tt 6)),
     o 47 (.bin .mul (ci 2) (tt 46)),
     o 48 (.bin .add (tt 45) (tt 47)),
     o 8 (.mov (tt 48))])))))
def ir70_T3 : Ir :=
  (.seq
  (.seq
  (.reg [49, 50, 51] [o 49 (.mov (tt 7)),
    o 50 (.mov (tt 6)),
    o 51 (.bin .add (tt 49) (tt 50)),
    o 9 (.mov (tt 51))])
  (.seq
  (.reg [52, 53] [o 52 (.mov (tt 9)),
    o 53 (.mov (tt 1)),
    o 54 (.bin .lss (tt 52) (tt 53))])
  (.cond (tt 54)
   (.reg [55, 56, 57, 58, 59, 60] [o 55 (.mov (tt 0)),
     o 56 (.mov (tt 7)),
     o 57 (.mov (tt 9)),
     o 58 (.mov (tt 1)),
     o 59 (.mov (tt 2)),
     o 60 (.call 86 [(tt 55), (tt 56), (tt 57), (tt 58), (tt 59)])])
   .skip)))
  (.reg [61, 62] [o 61 (.mov (tt 6)),
    o 62 (.bin .mul (tt 61) (ci 2)),
    o 6 (.mov (tt 62))]))
def ir70_L4 : Ir :=
  (.seq
  (.seq
  (.reg [28, 29] [o 28 (.mov (tt 6)),
    o 29 (.mov (tt 1)),
    o 30 (.bin .lss (tt 28) (tt 29))])
  (.cond (tt 30)
   .skip
   (.exit 2)))
  (.block 3
   (.seq
   (.reg [31, 32] [o 31 (.mov (tt 6)),
     o 32 (.bin .mul (ci 2) (tt 31)),
     o 7 (.mov (ci 0)),
     o 8 (.mov (tt 32))])
   (.seq
   (.block 4
    (.loop ir70_L2))
   ir70_T3))))
def ir70_T5 : Ir :=
  (.seq
  (.reg [23, 24, 25, 26, 27] [o 23 (.mov (tt 0)),
    o 24 (.mov (tt 7)),
    o 25 (.mov (tt 1)),
    o 26 (.mov (tt 2)),
    o 27 (.call 85 [(tt 23), (tt 24), (tt 25), (tt 26)])])
  (.block 2
   (.loop ir70_L4)))
def ir70 : Ir :=
  (.seq
  (.reg [] [o 6 (.mov (ci 20))])
  (.seq
  (.reg [10] [o 10 (.mov (tt 6)),
    o 7 (.mov (ci 0)),
    o 8 (.mov (tt 10))])
  (.seq
  (.block 0
   (.loop ir70_L1))
  ir70_T5)))
def keep70 : List Nat := [0, 1, 2, 6, 7, 8, 9, 13, 30, 35, 54]
def res70 : List RI := []
theorem chk70 : chk Tryd.prog 70 3 keep70 = some (ir70, res70) := by kernel_rfl
def ir53 : Ir :=
  (.reg [4, 5, 6, 7, 8] [o 4 (.mov (tt 0)),
    o 5 (.mov (tt 0)),
    o 6 (.len (tt 5)),
    o 7 (.mov (tt 1)),
    o 8 (.call 70 [(tt 4), (tt 6), (tt 7)])])
def keep53 : List Nat := [0, 1]
def res53 : List RI := []
theorem chk53 : chk Tryd.prog 53 2 keep53 = some (ir53, res53) := by kernel_rfl

theorem ev_stb : ∀ (s : SK) (N : Nat) (D : Nat → Nat), ev G0 res70 [((0 : Nat), OR N D)] (3000 : Nat) Or.nil [Item.ir ir70] (start [AV.own (0 : Nat), AI (↑N : Int), sgFn s] [((0 : Nat), OR N D)]) = VC.loop ir70_L1 [Item.bend (0 : Nat), Item.ir ir70_T5] (St.mk [((0 : Nat), AV.own (100000 : Nat)), ((1 : Nat), AV.p true (PV.v (Value.int IntKind.i64 (↑N : Int)))), ((2 : Nat), AV.cl (54 : Nat) [] [AV.p false (PV.pp ([PV.sl false (1 : Nat) s.n (TR s.f), PV.sl false (1 : Nat) s.m (RR s.w s.h), PV.sl false (1 : Nat) s.m (MK s.r)].length - (0 : Nat)) fun (j : Nat) => [PV.sl false (1 : Nat) s.n (TR s.f), PV.sl false (1 : Nat) s.m (RR s.w s.h), PV.sl false (1 : Nat) s.m (MK s.r)].getD ((0 : Nat) + j) PV.any), AV.p false (PV.pp ([roD s.c s.dn].length - (0 : Nat)) fun (j : Nat) => [roD s.c s.dn].getD ((0 : Nat) + j) PV.any)]), ((6 : Nat), AV.p true (PV.v (Value.int IntKind.i64 (20 : Int)))), ((7 : Nat), AV.p true (PV.v (Value.int IntKind.i64 (0 : Int)))), ((8 : Nat), AV.p true (PV.v (Value.int IntKind.i64 (20 : Int))))] [((100000 : Nat), Ob.row Mode.u true (1 : Nat) N (fun (i x : Nat) => PI (↑(D i) : Int)) [])]) := by intros; kernel_rfl
def st_stb (s : SK) (N : Nat) (x : Nat × (Nat → Nat)) : St := ⟨[(0, .own 100000), (1, AI N), (2, sgFn s), (6, AI 20), (7, AI x.1), (8, AI (x.1 + 20 : Nat))], [(100000, OR N x.2)]⟩
theorem evr_stb : ∀ (s : SK) (N : Nat) (D : Nat → Nat) (I : Nat × (Nat → Nat) → St → Prop) (x : Nat × (Nat → Nat)), ev G0 res70 [((0 : Nat), OR N D)] (3000 : Nat) ((Or.callE [(100000 : Nat)] (Nat → Nat) (fun (D' : Nat → Nat) => SegP x.1 (x.1 + (20 : Nat)) x.2 D' ∧ SrtS (sgL s) (sgK s) x.1 (x.1 + (20 : Nat)) D') (fun (x_1 : Nat → Nat) => AV.tp []) (fun (D' : Nat → Nat) => [((0 : Nat), OR N D')]) fun (D' : Nat → Nat) => Or.nil).split (Or.callE [(100000 : Nat)] (Nat → Nat) (fun (D' : Nat → Nat) => SegP x.1 N x.2 D' ∧ SrtS (sgL s) (sgK s) x.1 N D') (fun (x_1 : Nat → Nat) => AV.tp []) (fun (D' : Nat → Nat) => [((0 : Nat), OR N D')]) fun (D' : Nat → Nat) => Or.nil)) [Item.ir ir70_L1, Item.lend (I x), Item.bend (0 : Nat), Item.ir ir70_T5] (st_stb s N x) = VC.split (decide ((↑(x.1 + (20 : Nat)) : Int) ≤ (↑N : Int))) (VC.callE (Nat → Nat) (85 : Nat) [AV.own (0 : Nat), AV.p true (PV.v (Value.int IntKind.i64 (↑x.1 : Int))), AV.p true (PV.v (Value.int IntKind.i64 (↑(x.1 + (20 : Nat)) : Int))), AV.cl (54 : Nat) [] [AV.p false (PV.pp ([PV.sl false (1 : Nat) s.n (TR s.f), PV.sl false (1 : Nat) s.m (RR s.w s.h), PV.sl false (1 : Nat) s.m (MK s.r)].length - (0 : Nat)) fun (j : Nat) => [PV.sl false (1 : Nat) s.n (TR s.f), PV.sl false (1 : Nat) s.m (RR s.w s.h), PV.sl false (1 : Nat) s.m (MK s.r)].getD ((0 : Nat) + j) PV.any), AV.p false (PV.pp ([roD s.c s.dn].length - (0 : Nat)) fun (j : Nat) => [roD s.c s.dn].getD ((0 : Nat) + j) PV.any)]] [((0 : Nat), Ob.row Mode.u true (1 : Nat) N (fun (i x_1 : Nat) => PI (↑(x.2 i) : Int)) [])] (fun (D' : Nat → Nat) => SegP x.1 (x.1 + (20 : Nat)) x.2 D' ∧ SrtS (sgL s) (sgK s) x.1 (x.1 + (20 : Nat)) D') (fun (x_1 : Nat → Nat) => AV.tp []) (fun (D' : Nat → Nat) => [((0 : Nat), OR N D')]) fun (D' : Nat → Nat) => VC.lend (I x) (St.mk [((0 : Nat), AV.own (100000 : Nat)), ((1 : Nat), AV.p true (PV.v (Value.int IntKind.i64 (↑N : Int)))), ((2 : Nat), AV.cl (54 : Nat) [] [AV.p false (PV.pp ([PV.sl false (1 : Nat) s.n (TR s.f), PV.sl false (1 : Nat) s.m (RR s.w s.h), PV.sl false (1 : Nat) s.m (MK s.r)].length - (0 : Nat)) fun (j : Nat) => [PV.sl false (1 : Nat) s.n (TR s.f), PV.sl false (1 : Nat) s.m (RR s.w s.h), PV.sl false (1 : Nat) s.m (MK s.r)].getD ((0 : Nat) + j) PV.any), AV.p false (PV.pp ([roD s.c s.dn].length - (0 : Nat)) fun (j : Nat) => [roD s.c s.dn].getD ((0 : Nat) + j) PV.any)]), ((6 : Nat), AV.p true (PV.v (Value.int IntKind.i64 (20 : Int)))), ((7 : Nat), AV.p true (PV.v (Value.int IntKind.i64 (↑(x.1 + (20 : Nat)) : Int)))), ((8 : Nat), AV.p true (PV.v (Value.int IntKind.i64 (IntKind.i64.wrap ((↑(x.1 + (20 : Nat)) : Int) + (20 : Int)))))), ((13 : Nat), AV.p true (PV.v (Value.bool (decide ((↑(x.1 + (20 : Nat)) : Int) ≤ (↑N : Int))))))] [((100000 : Nat), Ob.row Mode.u true (1 : Nat) N (fun (i x_1 : Nat) => PI (↑(D' i) : Int)) [])])) (VC.callE (Nat → Nat) (85 : Nat) [AV.own (0 : Nat), AV.p true (PV.v (Value.int IntKind.i64 (↑x.1 : Int))), AV.p true (PV.v (Value.int IntKind.i64 (↑N : Int))), AV.cl (54 : Nat) [] [AV.p false (PV.pp ([PV.sl false (1 : Nat) s.n (TR s.f), PV.sl false (1 : Nat) s.m (RR s.w s.h), PV.sl false (1 : Nat) s.m (MK s.r)].length - (0 : Nat)) fun (j : Nat) => [PV.sl false (1 : Nat) s.n (TR s.f), PV.sl false (1 : Nat) s.m (RR s.w s.h), PV.sl false (1 : Nat) s.m (MK s.r)].getD ((0 : Nat) + j) PV.any), AV.p false (PV.pp ([roD s.c s.dn].length - (0 : Nat)) fun (j : Nat) => [roD s.c s.dn].getD ((0 : Nat) + j) PV.any)]] [((0 : Nat), Ob.row Mode.u true (1 : Nat) N (fun (i x_1 : Nat) => PI (↑(x.2 i) : Int)) [])] (fun (D' : Nat → Nat) => SegP x.1 N x.2 D' ∧ SrtS (sgL s) (sgK s) x.1 N D') (fun (x_1 : Nat → Nat) => AV.tp []) (fun (D' : Nat → Nat) => [((0 : Nat), OR N D')]) fun (D' : Nat → Nat) => VC.loop ir70_L4 [Item.bend (2 : Nat)] (St.mk [((0 : Nat), AV.own (100000 : Nat)), ((1 : Nat), AV.p true (PV.v (Value.int IntKind.i64 (↑N : Int)))), ((2 : Nat), AV.cl (54 : Nat) [] [AV.p false (PV.pp ([PV.sl false (1 : Nat) s.n (TR s.f), PV.sl false (1 : Nat) s.m (RR s.w s.h), PV.sl false (1 : Nat) s.m (MK s.r)].length - (0 : Nat)) fun (j : Nat) => [PV.sl false (1 : Nat) s.n (TR s.f), PV.sl false (1 : Nat) s.m (RR s.w s.h), PV.sl false (1 : Nat) s.m (MK s.r)].getD ((0 : Nat) + j) PV.any), AV.p false (PV.pp ([roD s.c s.dn].length - (0 : Nat)) fun (j : Nat) => [roD s.c s.dn].getD ((0 : Nat) + j) PV.any)]), ((6 : Nat), AV.p true (PV.v (Value.int IntKind.i64 (20 : Int)))), ((7 : Nat), AV.p true (PV.v (Value.int IntKind.i64 (↑x.1 : Int)))), ((8 : Nat), AV.p true (PV.v (Value.int IntKind.i64 (↑(x.1 + (20 : Nat)) : Int)))), ((13 : Nat), AV.p true (PV.v (Value.bool (decide ((↑(x.1 + (20 : Nat)) : Int) ≤ (↑N : Int))))))] [((100000 : Nat), Ob.row Mode.u true (1 : Nat) N (fun (i x_1 : Nat) => PI (↑(D' i) : Int)) [])])) := by intros; kernel_rfl
def st_stb4 (s : SK) (N : Nat) (x : Nat × (Nat → Nat)) : St := ⟨[(0, .own 100000), (1, AI N), (2, sgFn s), (6, AI x.1)], [(100000, OR N x.2)]⟩
theorem evr_stb4 : ∀ (s : SK) (N : Nat) (D : Nat → Nat) (I : Nat × (Nat → Nat) → St → Prop) (x : Nat × (Nat → Nat)), ev G0 res70 [((0 : Nat), OR N D)] (3000 : Nat) (Or.nil.split Or.nil) [Item.ir ir70_L4, Item.lend (I x), Item.bend (2 : Nat)] (st_stb4 s N x) = VC.split (decide ((↑x.1 : Int) < (↑N : Int))) (VC.loop ir70_L2 [Item.bend (4 : Nat), Item.ir ir70_T3, Item.bend (3 : Nat), Item.lend (I x), Item.bend (2 : Nat)] (St.mk [((0 : Nat), AV.own (100000 : Nat)), ((1 : Nat), AV.p true (PV.v (Value.int IntKind.i64 (↑N : Int)))), ((2 : Nat), AV.cl (54 : Nat) [] [AV.p false (PV.pp ([PV.sl false (1 : Nat) s.n (TR s.f), PV.sl false (1 : Nat) s.m (RR s.w s.h), PV.sl false (1 : Nat) s.m (MK s.r)].length - (0 : Nat)) fun (j : Nat) => [PV.sl false (1 : Nat) s.n (TR s.f), PV.sl false (1 : Nat) s.m (RR s.w s.h), PV.sl false (1 : Nat) s.m (MK s.r)].getD ((0 : Nat) + j) PV.any), AV.p false (PV.pp ([roD s.c s.dn].length - (0 : Nat)) fun (j : Nat) => [roD s.c s.dn].getD ((0 : Nat) + j) PV.any)]), ((6 : Nat), AV.p true (PV.v (Value.int IntKind.i64 (↑x.1 : Int)))), ((30 : Nat), AV.p true (PV.v (Value.bool (decide ((↑x.1 : Int) < (↑N : Int)))))), ((7 : Nat), AV.p true (PV.v (Value.int IntKind.i64 (0 : Int)))), ((8 : Nat), AV.p true (PV.v (Value.int IntKind.i64 (IntKind.i64.wrap ((2 : Int) * (↑x.1 : Int))))))] [((100000 : Nat), Ob.row Mode.u true (1 : Nat) N (fun (i x_1 : Nat) => PI (↑(x.2 i) : Int)) [])])) (VC.done (St.mk [((0 : Nat), AV.own (100000 : Nat)), ((1 : Nat), AV.p true (PV.v (Value.int IntKind.i64 (↑N : Int)))), ((2 : Nat), AV.cl (54 : Nat) [] [AV.p false (PV.pp ([PV.sl false (1 : Nat) s.n (TR s.f), PV.sl false (1 : Nat) s.m (RR s.w s.h), PV.sl false (1 : Nat) s.m (MK s.r)].length - (0 : Nat)) fun (j : Nat) => [PV.sl false (1 : Nat) s.n (TR s.f), PV.sl false (1 : Nat) s.m (RR s.w s.h), PV.sl false (1 : Nat) s.m (MK s.r)].getD ((0 : Nat) + j) PV.any), AV.p false (PV.pp ([roD s.c s.dn].length - (0 : Nat)) fun (j : Nat) => [roD s.c s.dn].getD ((0 : Nat) + j) PV.any)]), ((6 : Nat), AV.p true (PV.v (Value.int IntKind.i64 (↑x.1 : Int)))), ((30 : Nat), AV.p true (PV.v (Value.bool (decide ((↑x.1 : Int) < (↑N : Int))))))] [((100000 : Nat), Ob.row Mode.u true (1 : Nat) N (fun (i x_1 : Nat) => PI (↑(x.2 i) : Int)) [])])) := by intros; kernel_rfl
/-- All places sorted. -/
abbrev SorP (s : SK) (N : Nat) (D D' : Nat → Nat) : Prop := SegP 0 N D D' ∧ SrtS (sgL s) (sgK s) 0 N D'
theorem c_stb (s : SK) (N : Nat) (D : Nat → Nat) (h : SkOk s ∧ N ≤ 20 ∧ ∀ i, i < N → D i < s.m) : PSome Tryd.prog G0 70 [.own 0, AI N, sgFn s] [(0, OR N D)] (Nat → Nat) (SorP s N D) (fun _ => .tp []) (fun D' => [(0, OR N D')]) := by
  obtain ⟨ok, hN, hD⟩ := h
  refine PCall.by chk70 rfl (ev_stb s N D) ?_
  refine loop_by (st_stb s N) (fun x => (x.1 = 0 ∨ x.1 = 20) ∧ x.1 ≤ N ∧ SegP 0 x.1 D x.2 ∧ SrtS (sgL s) (sgK s) 0 x.1 x.2) (fun x => 20 - x.1) (0, D) [] [] [] ⟨.inl rfl, Nat.zero_le _, .refl _ _ _, fun i j h1 h2 h3 => by simp only [] at h3; omega⟩ ?_ (evr_stb s N D) fun x hx => ?_
  · simp [st_stb, hbs, St.lowers, St.lower, stLe, leEnv, leObs, obLe, injB, pinC, AV.leC, AV.leCs, PV.leC, PV.Le_v, St.get, St.obj, look, rho, isNew, keptC, renH, Mode.ok, Mode.isZ, PV.isVal, PV.isNilSl, List.all_nil, List.all_cons, List.any_nil, List.any_cons, List.map_nil, List.map_cons, PV.Le_self]
  · obtain ⟨a, E⟩ := x
    obtain ⟨ha, haN, hE, hS⟩ := hx
    simp only [] at ha haN hE hS
    have hEm : ∀ i, i < N → E i < s.m := fun i hi => by
      by_cases c : 0 ≤ i ∧ i < a
      · exact hE.all (p := fun x => x < s.m) (fun k h1 h2 => hD k (by omega)) i c.1 c.2
      · rw [hE.out i (by omega)]; exact hD i hi
    simp only [VC.holds_split, VC.holds_need, VC.holds_doneP, VC.holds_done, VC.holds_either, VC.holds_call, VC.holds_callE, VC.holds_lend, VC.holds_stop, VC.holds_fail, decide_eq_true_eq, decide_eq_false_iff_not]
    refine ⟨fun h1 => ?_, fun h1 => ?_⟩
    · have ha0 : a = 0 := by omega
      have hN20 : N = 20 := by omega
      subst ha0
      refine ⟨c_ins s N E 0 20 ⟨ok, by omega, by omega, by omega, hEm⟩, fun F hF => Again.mk (20, F) [] [] [] ⟨.inr rfl, by simp only []; omega, ?_, ?_⟩ (by simp only []; omega) ?_⟩
      · exact (hE.mono (Nat.zero_le _) (by simp only []; omega)).trans hF.1
      · exact hF.2
      · have e : IntKind.i64.wrap (((0 + 20 : Nat) : Int) + 20) = ((20 + 20 : Nat) : Int) := by decide
        simp [st_stb, hbs, St.lowers, St.lower, stLe, leEnv, leObs, obLe, injB, pinC, AV.leC, AV.leCs, PV.leC, PV.Le_v, St.get, St.obj, look, rho, isNew, keptC, renH, Mode.ok, Mode.isZ, PV.isVal, PV.isNilSl, List.all_nil, List.all_cons, List.any_nil, List.any_cons, List.map_nil, List.map_cons, PV.Le_self] at *
        try exact e
    · refine ⟨c_ins s N E a N ⟨ok, by omega, by omega, by omega, hEm⟩, fun F hF => ?_⟩
      have hall : SorP s N D F := by
        rcases ha with ha0 | ha20
        · subst ha0
          exact ⟨(hE.mono (Nat.zero_le _) (by omega)).trans hF.1, hF.2⟩
        · subst ha20
          have hN20 : N = 20 := by omega
          subst hN20
          have e : F = E := funext fun i => hF.1.out i (by omega)
          rw [e]
          exact ⟨hE, hS⟩
      refine loop_by (st_stb4 s N) (fun x => x.1 = 20 ∧ x.2 = F) (fun _ => 0) (20, F) [] [] [] ⟨rfl, rfl⟩ ?_ (evr_stb4 s N D) fun x hx => ?_
      · simp [st_stb4, hbs, St.lowers, St.lower, stLe, leEnv, leObs, obLe, injB, pinC, AV.leC, AV.leCs, PV.leC, PV.Le_v, St.get, St.obj, look, rho, isNew, keptC, renH, Mode.ok, Mode.isZ, PV.isVal, PV.isNilSl, List.all_nil, List.all_cons, List.any_nil, List.any_cons, List.map_nil, List.map_cons, PV.Le_self]
      · obtain ⟨z, F'⟩ := x
        obtain ⟨hz, hF'⟩ := hx
        simp only [] at hz hF'
        subst hz; subst hF'
        simp only [VC.holds_split, VC.holds_need, VC.holds_doneP, VC.holds_done, VC.holds_either, VC.holds_call, VC.holds_callE, VC.holds_lend, VC.holds_stop, VC.holds_fail, decide_eq_true_eq, decide_eq_false_iff_not]
        refine ⟨fun h2 => by omega, fun h2 => ResOk.mk [] [(0, 100000)] [] _ _ ?_ ⟨F', hall, rfl, rfl⟩⟩
        simp [doneC, resOf, resAV, tup, pinR, PV.Le_self, hbs, St.lowers, St.lower, stLe, leEnv, leObs, obLe, injB, pinC, AV.leC, AV.leCs, PV.leC, PV.Le_v, St.get, St.obj, look, rho, isNew, keptC, renH, Mode.ok, Mode.isZ, PV.isVal, PV.isNilSl, List.all_nil, List.all_cons, List.any_nil, List.any_cons, List.map_nil, List.map_cons, res70]
theorem ev_stF : ∀ (s : SK) (N : Nat) (D : Nat → Nat), ev G0 res53 [((0 : Nat), OR N D)] (3000 : Nat) (Or.callE [(100000 : Nat)] (Nat → Nat) (SorP s N D) (fun (x : Nat → Nat) => AV.tp []) (fun (D' : Nat → Nat) => [((0 : Nat), OR N D')]) fun (x : Nat → Nat) => Or.nil) [Item.ir ir53] (start [AV.own (0 : Nat), sgFn s] [((0 : Nat), OR N D)]) = VC.callE (Nat → Nat) (70 : Nat) [AV.own (0 : Nat), AV.p true (PV.v (Value.int IntKind.i64 (↑N : Int))), AV.cl (54 : Nat) [] [AV.p false (PV.pp ([PV.sl false (1 : Nat) s.n (TR s.f), PV.sl false (1 : Nat) s.m (RR s.w s.h), PV.sl false (1 : Nat) s.m (MK s.r)].length - (0 : Nat)) fun (j : Nat) => [PV.sl false (1 : Nat) s.n (TR s.f), PV.sl false (1 : Nat) s.m (RR s.w s.h), PV.sl false (1 : Nat) s.m (MK s.r)].getD ((0 : Nat) + j) PV.any), AV.p false (PV.pp ([roD s.c s.dn].length - (0 : Nat)) fun (j : Nat) => [roD s.c s.dn].getD ((0 : Nat) + j) PV.any)]] [((0 : Nat), Ob.row Mode.u true (1 : Nat) N (fun (i x : Nat) => PI (↑(D i) : Int)) [])] (SorP s N D) (fun (x : Nat → Nat) => AV.tp []) (fun (D' : Nat → Nat) => [((0 : Nat), OR N D')]) fun (x : Nat → Nat) => VC.done (St.mk [((0 : Nat), AV.own (100000 : Nat)), ((1 : Nat), AV.cl (54 : Nat) [] [AV.p false (PV.pp ([PV.sl false (1 : Nat) s.n (TR s.f), PV.sl false (1 : Nat) s.m (RR s.w s.h), PV.sl false (1 : Nat) s.m (MK s.r)].length - (0 : Nat)) fun (j : Nat) => [PV.sl false (1 : Nat) s.n (TR s.f), PV.sl false (1 : Nat) s.m (RR s.w s.h), PV.sl false (1 : Nat) s.m (MK s.r)].getD ((0 : Nat) + j) PV.any), AV.p false (PV.pp ([roD s.c s.dn].length - (0 : Nat)) fun (j : Nat) => [roD s.c s.dn].getD ((0 : Nat) + j) PV.any)])] [((100000 : Nat), Ob.row Mode.u true (1 : Nat) N (fun (i x_1 : Nat) => PI (↑(x i) : Int)) [])]) := by intros; kernel_rfl
theorem c_stF (s : SK) (N : Nat) (D : Nat → Nat) (h : SkOk s ∧ N ≤ 20 ∧ ∀ i, i < N → D i < s.m) : PSome Tryd.prog G0 53 [.own 0, sgFn s] [(0, OR N D)] (Nat → Nat) (SorP s N D) (fun _ => .tp []) (fun D' => [(0, OR N D')]) := by
  refine PCall.by chk53 rfl (ev_stF s N D) ?_
  simp only [VC.holds_split, VC.holds_need, VC.holds_doneP, VC.holds_done, VC.holds_either, VC.holds_call, VC.holds_callE, VC.holds_lend, VC.holds_stop, VC.holds_fail, decide_eq_true_eq, decide_eq_false_iff_not]
  refine ⟨c_stb s N D h, fun F hF => ResOk.mk [] [(0, 100000)] [] _ _ ?_ ⟨F, hF, rfl, rfl⟩⟩
  simp [doneC, resOf, resAV, tup, pinR, PV.Le_self, hbs, St.lowers, St.lower, stLe, leEnv, leObs, obLe, injB, pinC, AV.leC, AV.leCs, PV.leC, PV.Le_v, St.get, St.obj, look, rho, isNew, keptC, renH, Mode.ok, Mode.isZ, PV.isVal, PV.isNilSl, List.all_nil, List.all_cons, List.any_nil, List.any_cons, List.map_nil, List.map_cons, res53]
end Go.Gw
