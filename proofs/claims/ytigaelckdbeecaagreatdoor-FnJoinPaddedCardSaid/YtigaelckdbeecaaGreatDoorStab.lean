/- Sorting places by the rows that they name: the comparison, insertion; with no condition. -/
import Derived.Test.YtigaelckdbeecaaGreatDoorOrder
import Derived.Test.YtigaelckdbeecaaGreatDoorPadB
import Derived.KernelRfl
namespace Go.Gw
open Go Go.Proofs
set_option linter.unusedSimpArgs false
set_option linter.unusedVariables false
set_option maxRecDepth 100000
def ir57 : Ir := (.seq (.reg [] [o 6 (.mov (ci 0))]) (.seq (.seq (.dreg [7, 8, 9, 10, 11, 12, 13, 14, 15, 16] [0, 1, 0, 7, 15, 0, 32, 0, 224, 480, 1023] [(1, 1008), (4, 1011), (6, 1013), (9, 1016)] [oa 7 2 2, ol 8 7, om 9 0, ox 10 8 9, ol 11 10, oa 12 2 2, ol 13 12, om 14 1, ox 15 13 14, ol 16 15, o 17 (.binB .neq (tt 11) (tt 16))]) (.cond (tt 17) (.seq (.seq (.reg [18, 19, 20, 21] [oa 18 2 2, ol 19 18, om 20 0, ox 21 19 20, ol 22 21]) (.cond (tt 22) (.seq (.reg [] [o 6 (.mov (ci (-1)))]) .ret) .skip)) (.seq (.reg [] [o 6 (.mov (ci 1))]) .ret)) .skip)) (.seq (.dreg [23, 24, 25, 26, 27, 28, 29, 30, 31, 32, 33, 34] [0, 0, 2, 0, 14, 30, 0, 64, 0, 448, 960, 2047, 4095] [(0, 1023), (2, 1025), (5, 1028), (7, 1030), (10, 1033), (11, 1034), (11, 2034), (11, 3034), (11, 4034), (11, 5034), (11, 6034), (11, 7034), (11, 8034)] [ol 23 3, oa 24 1 2, ol 25 24, om 26 0, ox 27 25 26, ol 28 27, oa 29 1 2, ol 30 29, om 31 1, ox 32 30 31, ol 33 32, o 34 (.callv (tt 23) [(tt 28), (tt 33)]), om 6 34]) .ret)))
def keep57 : List Nat := [0, 1, 2, 3, 6, 17, 22]
def res57 : List RI := [.tmp 6]
theorem chk57 : chk Tryz.prog 57 4 keep57 = some (ir57, res57) := by kernel_rfl
def ordQ (c : Int) (dn : Bool) (x y : List Int) : Int := if 0 ≤ c then ordL c.toNat dn x y else lexL x y
abbrev It := Bool × List Int
def ordX (c : Int) (dn : Bool) (x y : It) : Int := if x.1 != y.1 then (if x.1 then -1 else 1) else ordQ c dn x.2 y.2
def ltQ (c : Int) (dn : Bool) (x y : List Int) : Bool := decide (ordQ c dn x y < 0)
def ltX (c : Int) (dn : Bool) (x y : It) : Bool := decide (ordX c dn x y < 0)
theorem ltQ_swo (c : Int) (dn : Bool) : Go.Sort.SWO (ltQ c dn) := by
  by_cases h : 0 ≤ c
  · have : ltQ c dn = ltO c.toNat dn := by funext x y; simp [ltQ, ltO, ordQ, h]
    rw [this]; exact ltO_swo _ _
  · have : ltQ c dn = ltL := by funext x y; simp [ltQ, ltL, ordQ, h]
    rw [this]; exact lt_swo
theorem ltQ_anti (c : Int) (dn : Bool) (x y : List Int) (h1 : ltQ c dn x y = false) (h2 : ltQ c dn y x = false) : x = y := by
  by_cases h : 0 ≤ c
  · have : ltQ c dn = ltO c.toNat dn := by funext x y; simp [ltQ, ltO, ordQ, h]
    rw [this] at h1 h2; exact ltO_anti _ _ x y h1 h2
  · have : ltQ c dn = ltL := by funext x y; simp [ltQ, ltL, ordQ, h]
    rw [this] at h1 h2; exact lt_anti x y h1 h2
theorem ltX_iff (c : Int) (dn : Bool) (x y : It) : ltX c dn x y = if x.1 = y.1 then ltQ c dn x.2 y.2 else x.1 := by
  obtain ⟨a, x⟩ := x
  obtain ⟨b, y⟩ := y
  cases a <;> cases b <;> simp [ltX, ordX, ltQ]
theorem ltX_swo (c : Int) (dn : Bool) : Go.Sort.SWO (ltX c dn) where
  irrefl x := by rw [ltX_iff, if_pos rfl]; exact (ltQ_swo c dn).irrefl _
  trans x y z h1 h2 := by
    obtain ⟨a, x⟩ := x
    obtain ⟨b, y⟩ := y
    obtain ⟨d, z⟩ := z
    rw [ltX_iff] at *
    cases a <;> cases b <;> cases d <;> simp at h1 h2 ⊢
    · exact (ltQ_swo c dn).trans _ _ _ h1 h2
    · exact (ltQ_swo c dn).trans _ _ _ h1 h2
  ntrans x y z h1 h2 := by
    obtain ⟨a, x⟩ := x
    obtain ⟨b, y⟩ := y
    obtain ⟨d, z⟩ := z
    rw [ltX_iff] at *
    cases a <;> cases b <;> cases d <;> simp at h1 h2 ⊢
    · exact (ltQ_swo c dn).ntrans _ _ _ h1 h2
    · exact (ltQ_swo c dn).ntrans _ _ _ h1 h2
theorem ltX_anti (c : Int) (dn : Bool) (x y : It) (h1 : ltX c dn x y = false) (h2 : ltX c dn y x = false) : x = y := by
  obtain ⟨a, x⟩ := x
  obtain ⟨b, y⟩ := y
  rw [ltX_iff] at *
  cases a <;> cases b <;> simp at h1 h2 ⊢
  · exact ltQ_anti c dn _ _ h1 h2
  · exact ltQ_anti c dn _ _ h1 h2
def itm (w : Nat → Nat) (h : Nat → Nat → Int) (r : Nat → Bool) (i : Nat) : It := (r i, rowL (w i) (h i) 0)
abbrev bx1 (c : PV) : PV := .pp ([c].length - 0) fun j => [c].getD (0 + j) .any
abbrev bx3 (a b c : PV) : PV := .pp ([a, b, c].length - 0) fun j => [a, b, c].getD (0 + j) .any
abbrev roD (c : Int) (dn : Bool) : PV := .cl 76 [] [bx1 (PI c), bx1 (.v (.bool dn))]
abbrev pdD (n : Nat) (f : Nat → ByteArray) (m : Nat) (w : Nat → Nat) (h : Nat → Nat → Int) (k : Nat) (r : Nat → Bool) : PV := bx3 (.sl false 1 n (TR f)) (.sl false 1 m (RR w h)) (.sl false 1 k (MK r))
theorem ev_rOX : ∀ (n : Nat) (f : Nat → Int) (m : Nat) (g : Nat → Int) (c : Int) (dn : Bool), ev G0 res76 [] 3000 ((((Or.call [] (AI (cmp3 (g c.toNat) (f c.toNat))) [] Or.nil).split (Or.call [] (AI (cmp3 (f c.toNat) (g c.toNat))) [] Or.nil)).split (Or.call [] (AI (lexL (rowL n f 0) (rowL m g 0))) [] Or.nil)).lit.lit.lit.lit.lit.lit.lit.lit.lit.split (Or.call [] (AI (lexL (rowL n f 0) (rowL m g 0))) [] Or.nil).lit.lit.lit.lit.lit.lit.lit.lit.lit.lit) [.ir ir76] (start [IL false n f, IL false m g, AV.p false (bx1 (PI c)), AV.p false (bx1 (PV.v (Value.bool dn)))] []) = VC.split (decide (0 ≤ c)) (VC.need (0 ≤ c ∧ c.toNat < n) (VC.need (0 ≤ c ∧ c.toNat < m) (VC.split (f c.toNat != g c.toNat) (VC.split dn (VC.need (0 ≤ c ∧ c.toNat < m) (VC.need (0 ≤ c ∧ c.toNat < n) (VC.call 77 [AI (g c.toNat), AI (f c.toNat)] [] (AI (cmp3 (g c.toNat) (f c.toNat))) [] (VC.doneP (AI (cmp3 (g c.toNat) (f c.toNat))))))) (VC.need (0 ≤ c ∧ c.toNat < n) (VC.need (0 ≤ c ∧ c.toNat < m) (VC.call 77 [AI (f c.toNat), AI (g c.toNat)] [] (AI (cmp3 (f c.toNat) (g c.toNat))) [] (VC.doneP (AI (cmp3 (f c.toNat) (g c.toNat)))))))) (VC.call 75 [SL false 1 n fun i x => PI (f i), SL false 1 m fun i x => PI (g i)] [] (AI (lexL (rowL n f 0) (rowL m g 0))) [] (VC.doneP (AI (lexL (rowL n f 0) (rowL m g 0)))))))) (VC.call 75 [SL false 1 n fun i x => PI (f i), SL false 1 m fun i x => PI (g i)] [] (AI (lexL (rowL n f 0) (rowL m g 0))) [] (VC.doneP (AI (lexL (rowL n f 0) (rowL m g 0))))) := by intros; kernel_rfl
theorem c_rOX (n : Nat) (f : Nat → Int) (m : Nat) (g : Nat → Int) (c : Int) (dn : Bool) (hc : 0 ≤ c → c.toNat < n ∧ c.toNat < m) (hn : n ≤ 1048576) : PRet Tryz.prog G0 76 [IL false n f, IL false m g, .p false (bx1 (PI c)), .p false (bx1 (.v (.bool dn)))] (AI (ordQ c dn (rowL n f 0) (rowL m g 0))) := by
  refine PRet.by chk76 (ev_rOX n f m g c dn) ?_
  simp only [vcA]
  refine ⟨fun h0 => ?_, fun h0 => ⟨c_cmpI _ _ _ _ _ _ hn, ?_⟩⟩
  · obtain ⟨hc1, hc2⟩ := hc h0
    have e1 := rowL_get (f := f) hc1
    have e2 := rowL_get (f := g) hc2
    refine ⟨by omega, by omega, fun h => ⟨fun h2 => ⟨by omega, by omega, c_cmp3 _ _, ?_⟩, fun h2 => ⟨by omega, by omega, c_cmp3 _ _, ?_⟩⟩, fun h => ⟨c_cmpI _ _ _ _ _ _ hn, ?_⟩⟩
    · have h3 : ¬ f c.toNat = g c.toNat := by simpa using h
      simp only [ordQ, h0, if_true, ordL, e1, e2]
      simp [h3, h2]
    · have h3 : ¬ f c.toNat = g c.toNat := by simpa using h
      simp only [ordQ, h0, if_true, ordL, e1, e2]
      simp [h3, h2]
    · have h3 : f c.toNat = g c.toNat := by simpa using h
      simp only [ordQ, h0, if_true, ordL, e1, e2]
      simp [h3]
  · simp [ordQ, h0]
theorem ev_sg1 : ∀ (i k n : Nat) (f : Nat → ByteArray) (m : Nat) (w : Nat → Nat) (h : Nat → Nat → Int) (r : Nat → Bool) (c : Int) (dn : Bool), ev G0 res57 [] 3000 ((Or.nil.split Or.nil).split (Or.call [] (AI (ordQ c dn (rowL (w i) (h i) 0) (rowL (w k) (h k) 0))) [] Or.nil)) [.ir ir57] (start [AI ↑i, AI ↑k, AV.p false (pdD n f m w h m r), AV.p false (bx1 (roD c dn))] []) = VC.need (0 ≤ (↑i : Int) ∧ i < m) (VC.need (0 ≤ (↑k : Int) ∧ k < m) (VC.split (!r i == r k) (VC.need (0 ≤ (↑i : Int) ∧ i < m) (VC.split (r i) (VC.doneP (AI (-1))) (VC.doneP (AI 1)))) (VC.need (0 ≤ (↑i : Int) ∧ i < m) (VC.need (0 ≤ (↑k : Int) ∧ k < m) (VC.call 76 [SL false 1 (w i) fun j x => PI (h i j), SL false 1 (w k) fun j x => PI (h k j), AV.p false (PV.pp ([PI c].length - 0) fun j => [PI c].getD (0 + j) PV.any), AV.p false (PV.pp ([PV.v (Value.bool dn)].length - 0) fun j => [PV.v (Value.bool dn)].getD (0 + j) PV.any)] [] (AI (ordQ c dn (rowL (w i) (h i) 0) (rowL (w k) (h k) 0))) [] (VC.doneP (AI (ordQ c dn (rowL (w i) (h i) 0) (rowL (w k) (h k) 0))))))))) := by intros; kernel_rfl
theorem c_sg1 (i k : Nat) (n : Nat) (f : Nat → ByteArray) (m : Nat) (w : Nat → Nat) (h : Nat → Nat → Int) (r : Nat → Bool) (c : Int) (dn : Bool) (hi : i < m) (hk : k < m) (hc : ∀ i, i < m → 0 ≤ c → c.toNat < w i) (hw : ∀ i, i < m → w i ≤ 1048576) : PRet Tryz.prog G0 57 [AI i, AI k, .p false (pdD n f m w h m r), .p false (bx1 (roD c dn))] (AI (ordX c dn (itm w h r i) (itm w h r k))) := by
  refine PRet.by chk57 (ev_sg1 i k n f m w h r c dn) ?_
  simp only [vcA, Int.toNat_natCast]
  refine ⟨by omega, by omega, fun h1 => ⟨by omega, fun h2 => ?_, fun h2 => ?_⟩, fun h1 => ⟨by omega, by omega, c_rOX _ _ _ _ _ _ (fun h3 => ⟨hc i hi h3, hc k hk h3⟩) (hw i hi), ?_⟩⟩
  · have h4 : r k = false := by rw [h2] at h1; simpa using h1
    simp [ordX, itm, h2, h4]
  · have h4 : r k = true := by rw [h2] at h1; simpa using h1
    simp [ordX, itm, h2, h4]
  · have h4 : r i = r k := by simpa using h1
    simp [ordX, itm, h4]
structure SegP (a b : Nat) (D D' : Nat → Nat) : Prop where
  out : ∀ i, i < a ∨ b ≤ i → D' i = D i
  perm : ((List.range' a (b - a)).map D').Perm ((List.range' a (b - a)).map D)
def SrtS {β : Type} (lt : β → β → Bool) (K : Nat → β) (a b : Nat) (D : Nat → Nat) : Prop := ∀ i j, a ≤ i → i < j → j < b → lt (K (D j)) (K (D i)) = false
theorem SegP.refl (a b : Nat) (D : Nat → Nat) : SegP a b D D := ⟨fun _ _ => rfl, .refl _⟩
theorem SegP.trans {a b : Nat} {D D' D'' : Nat → Nat} (h : SegP a b D D') (h' : SegP a b D' D'') : SegP a b D D'' := ⟨fun i hi => (h'.out i hi).trans (h.out i hi), h'.perm.trans h.perm⟩
theorem SegP.all {a b : Nat} {D D' : Nat → Nat} (h : SegP a b D D') {p : Nat → Prop} (hp : ∀ i, a ≤ i → i < b → p (D i)) : ∀ i, a ≤ i → i < b → p (D' i) := fun i h1 h2 => by
  have : D' i ∈ (List.range' a (b - a)).map D' := List.mem_map.2 ⟨i, by simp [List.mem_range'_1]; omega, rfl⟩
  have := h.perm.mem_iff.1 this
  simp only [List.mem_map, List.mem_range'_1] at this
  obtain ⟨j, hj, e⟩ := this
  rw [← e]
  exact hp j hj.1 (by omega)
theorem range_split {a b a' b' : Nat} (h1 : a' ≤ a) (h2 : a ≤ b) (h3 : b ≤ b') : List.range' a' (b' - a') = List.range' a' (a - a') ++ (List.range' a (b - a) ++ List.range' b (b' - b)) := by
  have e1 : List.range' a (b - a) ++ List.range' b (b' - b) = List.range' a (b' - a) := by
    have := List.range'_append_1 (s := a) (m := b - a) (n := b' - b)
    rw [show a + (b - a) = b by omega, show b - a + (b' - b) = b' - a by omega] at this
    exact this
  have e2 := List.range'_append_1 (s := a') (m := a - a') (n := b' - a)
  rw [show a' + (a - a') = a by omega, show a - a' + (b' - a) = b' - a' by omega] at e2
  rw [e1, e2]
theorem SegP.mono {a b a' b' : Nat} {D D' : Nat → Nat} (h : SegP a b D D') (h1 : a' ≤ a) (h2 : b ≤ b') : SegP a' b' D D' := by
  by_cases hab : a ≤ b
  · refine ⟨fun i hi => h.out i (by omega), ?_⟩
    rw [range_split h1 hab h2, List.map_append, List.map_append, List.map_append, List.map_append]
    have e1 : (List.range' a' (a - a')).map D' = (List.range' a' (a - a')).map D := List.map_congr_left fun i hi => h.out i (.inl (by simp only [List.mem_range'_1] at hi; omega))
    have e2 : (List.range' b (b' - b)).map D' = (List.range' b (b' - b)).map D := List.map_congr_left fun i hi => h.out i (.inr (by simp only [List.mem_range'_1] at hi; omega))
    rw [e1, e2]
    exact (List.Perm.append_left _ (h.perm.append_right _))
  · have : ∀ i, D' i = D i := fun i => h.out i (by omega)
    refine ⟨fun i _ => this i, ?_⟩
    rw [show D' = D from funext this]
def swF (D : Nat → Nat) (i j : Nat) : Nat → Nat := fun x => if x = i then D j else if x = j then D i else D x
theorem SegP.swap {a b : Nat} (D : Nat → Nat) {i j : Nat} (hi : a ≤ i ∧ i < b) (hj : a ≤ j ∧ j < b) : SegP a b D (swF D i j) := by
  refine ⟨fun x hx => ?_, ?_⟩
  · simp only [swF]
    rw [if_neg (by omega), if_neg (by omega)]
  · let L := (List.range' a (b - a)).map D
    have hl : L.length = b - a := by simp [L]
    have h1 : i - a < L.length := by omega
    have h2 : j - a < L.length := by omega
    have e : (List.range' a (b - a)).map (swF D i j) = (L.set (i - a) L[j - a]).set (j - a) L[i - a] := by
      apply List.ext_getElem
      · simp [L]
      · intro k k1 k2
        have hk : k < b - a := by simpa using k1
        simp only [List.getElem_map, List.getElem_range', List.getElem_set, L, swF, Nat.one_mul]
        by_cases c1 : j - a = k
        · have e1 : a + k = j := by omega
          by_cases c2 : i = j
          · subst c2; simp [c1, e1]
          · have e3 : ¬ j = i := fun e => c2 e.symm
            have e4 : a + (i - a) = i := by omega
            simp [c1, e1, e3, e4]
        · have e1 : ¬ a + k = j := by omega
          by_cases c2 : i - a = k
          · have e3 : a + k = i := by omega
            have e4 : a + (j - a) = j := by omega
            have e5 : ¬ i = j := by omega
            simp [c1, c2, e3, e4]
          · have e3 : ¬ a + k = i := by omega
            simp [c1, c2, e1, e3]
    rw [e]
    exact List.set_set_perm h1 h2
end Go.Gw
namespace Go.Gw
open Go Go.Proofs
set_option linter.unusedSimpArgs false
set_option linter.unusedVariables false
set_option maxRecDepth 100000
def ir85_L1 : Ir := (.seq (.seq (.dreg [18, 19, 20, 21, 22, 23, 24, 25, 26, 27, 28, 29, 30, 31, 32, 33] [0, 0, 3, 7, 15, 15, 15, 111, 239, 15, 15, 1039, 3599, 7695, 16383, 32767, 65535] [(8, 1026), (13, 1031), (14, 1032), (14, 2032), (14, 3032), (14, 4032), (14, 5032), (14, 6032), (14, 7032), (14, 8032)] [om 18 9, om 19 1, ob .gtr 20 18 19, om 21 20, og 22 21 true (.mov (tt 3)), og 23 21 true (.mov (tt 0)), og 24 21 true (.mov (tt 9)), og 25 21 true (.idx 1 (tt 23) (tt 24)), og 26 21 true (.load false 1 (tt 25)), og 27 21 true (.mov (tt 0)), og 28 21 true (.mov (tt 9)), og 29 21 true (.bin .sub (tt 28) (ci 1)), og 30 21 true (.idx 1 (tt 27) (tt 29)), og 31 21 true (.load false 1 (tt 30)), og 32 21 true (.callv (tt 22) [(tt 26), (tt 31)]), og 33 21 true (.bin .lss (tt 32) (ci 0)), o 34 (.pick (tt 21) (tt 33) (cb false))]) (.cond (tt 34) .skip (.exit 2))) (.seq (.block 3 (.dreg [37, 38, 39, 40, 41, 42, 43, 44, 45, 46, 47, 48, 49, 50, 51, 52] [0, 0, 0, 0, 8, 0, 0, 64, 224, 480, 0, 0, 3072, 7168, 16355, 32739, 65535, 131071] [(9, 1046), (13, 1050)] [om 37 0, om 38 9, om 39 0, om 40 9, o 41 (.bin .sub (tt 40) (ci 1)), om 42 0, om 43 9, o 44 (.bin .sub (tt 43) (ci 1)), ox 45 42 44, ol 46 45, om 47 0, om 48 9, ox 49 47 48, ol 50 49, ox 51 37 38, on (.store 1 (tt 51) (tt 46)), ox 52 39 41, on (.store 1 (tt 52) (tt 50))])) (.reg [35, 36] [om 35 9, o 36 (.bin .sub (tt 35) (ci 1)), om 9 36])))
def ir85_T2 : Ir := (.reg [15, 16] [om 15 8, o 16 (.bin .add (tt 15) (ci 1)), om 8 16])
def ir85_L3 : Ir := (.seq (.seq (.reg [12, 13] [om 12 8, om 13 2, ob .lss 14 12 13]) (.cond (tt 14) .skip (.exit 0))) (.seq (.block 1 (.seq (.reg [17] [om 17 8, om 9 17]) (.block 2 (.loop ir85_L1)))) ir85_T2))
def ir85 : Ir := (.seq (.reg [10, 11] [om 10 1, o 11 (.bin .add (tt 10) (ci 1)), om 8 11]) (.block 0 (.loop ir85_L3)))
def keep85 : List Nat := [0, 1, 2, 3, 8, 9, 14, 34]
def res85 : List RI := []
theorem chk85 : chk Tryz.prog 85 4 keep85 = some (ir85, res85) := by kernel_rfl
structure SK where
  n : Nat
  f : Nat → ByteArray
  m : Nat
  w : Nat → Nat
  h : Nat → Nat → Int
  r : Nat → Bool
  c : Int
  dn : Bool
structure SkOk (s : SK) : Prop where
  hc : ∀ i, i < s.m → 0 ≤ s.c → s.c.toNat < s.w i
  hw : ∀ i, i < s.m → s.w i ≤ 1048576
  hm : s.m ≤ 1048576
abbrev sgFn (s : SK) : AV := .cl 57 [] [.p false (pdD s.n s.f s.m s.w s.h s.m s.r), .p false (bx1 (roD s.c s.dn))]
abbrev sgK (s : SK) (i : Nat) : It := itm s.w s.h s.r i
abbrev sgL (s : SK) : It → It → Bool := ltX s.c s.dn
abbrev OR (N : Nat) (D : Nat → Nat) : Ob := .row .u true 1 N (fun i _ => PI (D i : Nat)) []
theorem c_sgC (s : SK) (i k : Nat) (ok : SkOk s) (hi : i < s.m) (hk : k < s.m) : PRet Tryz.prog G0 57 [AI i, AI k, .p false (pdD s.n s.f s.m s.w s.h s.m s.r), .p false (bx1 (roD s.c s.dn))] (AI (ordX s.c s.dn (sgK s i) (sgK s k))) :=
  c_sg1 i k s.n s.f s.m s.w s.h s.r s.c s.dn hi hk ok.hc ok.hw
theorem ev_ins : ∀ (s : SK) (N : Nat) (D : Nat → Nat) (a b : Nat), ev G0 res85 [(0, OR N D)] 3000 Or.nil [.ir ir85] (start [.own 0, AI ↑a, AI ↑b, sgFn s] [(0, OR N D)]) = VC.loop ir85_L3 [.bend 0] (St.mk [(0, .own 100000), (1, AI ↑a), (2, AI ↑b), (3, AV.cl 57 [] [AV.p false (PV.pp ([PV.sl false 1 s.n (TR s.f), PV.sl false 1 s.m (RR s.w s.h), PV.sl false 1 s.m (MK s.r)].length - 0) fun j => [PV.sl false 1 s.n (TR s.f), PV.sl false 1 s.m (RR s.w s.h), PV.sl false 1 s.m (MK s.r)].getD (0 + j) PV.any), AV.p false (PV.pp ([roD s.c s.dn].length - 0) fun j => [roD s.c s.dn].getD (0 + j) PV.any)]), (8, AI (IntKind.i64.wrap ((↑a : Int) + 1)))] [(100000, .row .u true 1 N (fun i x => PI (↑(D i) : Int)) [])]) := by intros; kernel_rfl
def st_ins (s : SK) (N : Nat) (a b : Nat) (x : Nat × (Nat → Nat)) : St := ⟨[(0, .own 100000), (1, AI a), (2, AI b), (3, sgFn s), (8, AI x.1)], [(100000, OR N x.2)]⟩
theorem evr_ins : ∀ (s : SK) (N : Nat) (D : Nat → Nat) (a b : Nat) (I : Nat × (Nat → Nat) → St → Prop) (x : Nat × (Nat → Nat)), ev G0 res85 [(0, OR N D)] 3000 (Or.nil.split Or.nil) [.ir ir85_L3, .lend (I x), .bend 0] (st_ins s N a b x) = VC.split (decide ((↑x.1 : Int) < ↑b)) (VC.loop ir85_L1 [.bend 2, .bend 1, .ir ir85_T2, .lend (I x), .bend 0] (St.mk [(0, .own 100000), (1, AI ↑a), (2, AI ↑b), (3, AV.cl 57 [] [AV.p false (PV.pp ([PV.sl false 1 s.n (TR s.f), PV.sl false 1 s.m (RR s.w s.h), PV.sl false 1 s.m (MK s.r)].length - 0) fun j => [PV.sl false 1 s.n (TR s.f), PV.sl false 1 s.m (RR s.w s.h), PV.sl false 1 s.m (MK s.r)].getD (0 + j) PV.any), AV.p false (PV.pp ([roD s.c s.dn].length - 0) fun j => [roD s.c s.dn].getD (0 + j) PV.any)]), (8, AI ↑x.1), (14, AB (decide ((↑x.1 : Int) < ↑b))), (9, AI ↑x.1)] [(100000, .row .u true 1 N (fun i x_1 => PI (↑(x.2 i) : Int)) [])])) (VC.done (St.mk [(0, .own 100000), (1, AI ↑a), (2, AI ↑b), (3, AV.cl 57 [] [AV.p false (PV.pp ([PV.sl false 1 s.n (TR s.f), PV.sl false 1 s.m (RR s.w s.h), PV.sl false 1 s.m (MK s.r)].length - 0) fun j => [PV.sl false 1 s.n (TR s.f), PV.sl false 1 s.m (RR s.w s.h), PV.sl false 1 s.m (MK s.r)].getD (0 + j) PV.any), AV.p false (PV.pp ([roD s.c s.dn].length - 0) fun j => [roD s.c s.dn].getD (0 + j) PV.any)]), (8, AI ↑x.1), (14, AB (decide ((↑x.1 : Int) < ↑b)))] [(100000, .row .u true 1 N (fun i x_1 => PI (↑(x.2 i) : Int)) [])])) := by intros; kernel_rfl
def st_ins2 (s : SK) (N : Nat) (a b i : Nat) (x : Nat × (Nat → Nat)) : St := ⟨[(0, .own 100000), (1, AI a), (2, AI b), (3, sgFn s), (8, AI i), (9, AI x.1)], [(100000, OR N x.2)]⟩
theorem evr_ins2 : ∀ (s : SK) (N : Nat) (D : Nat → Nat) (a b i : Nat) (I J : Nat × (Nat → Nat) → St → Prop) (y x : Nat × (Nat → Nat)), ev G0 res85 [(0, OR N D)] 3000 ((Or.call [] (AI (ordX s.c s.dn (sgK s (x.2 x.1)) (sgK s (x.2 (IntKind.i64.wrap ((↑x.1 : Int) - 1)).toNat)))) [] (Or.nil.split Or.nil).lit.lit).lit.lit.lit.lit.lit.lit.lit.lit.lit.lit.split Or.nil.lit.lit.lit.lit.lit.lit.lit.lit.lit.lit.lit.lit.lit) [.ir ir85_L1, .lend (J x), .bend 2, .bend 1, .ir ir85_T2, .lend (I y), .bend 0] (st_ins2 s N a b i x) = VC.split (decide ((↑a : Int) < ↑x.1)) (VC.need (0 ≤ (↑x.1 : Int) ∧ x.1 < N) (VC.need (x.1 < N) (VC.need (0 ≤ IntKind.i64.wrap ((↑x.1 : Int) - 1) ∧ (IntKind.i64.wrap ((↑x.1 : Int) - 1)).toNat < N) (VC.need ((IntKind.i64.wrap ((↑x.1 : Int) - 1)).toNat < N) (VC.call 57 [AI (↑(x.2 x.1) : Int), AI (↑(x.2 (IntKind.i64.wrap ((↑x.1 : Int) - 1)).toNat) : Int), AV.p false (PV.pp ([PV.sl false 1 s.n (TR s.f), PV.sl false 1 s.m (RR s.w s.h), PV.sl false 1 s.m (MK s.r)].length - 0) fun j => [PV.sl false 1 s.n (TR s.f), PV.sl false 1 s.m (RR s.w s.h), PV.sl false 1 s.m (MK s.r)].getD (0 + j) PV.any), AV.p false (PV.pp ([roD s.c s.dn].length - 0) fun j => [roD s.c s.dn].getD (0 + j) PV.any)] [] (AI (ordX s.c s.dn (sgK s (x.2 x.1)) (sgK s (x.2 (IntKind.i64.wrap ((↑x.1 : Int) - 1)).toNat)))) [] (VC.split (decide (ordX s.c s.dn (sgK s (x.2 x.1)) (sgK s (x.2 (IntKind.i64.wrap ((↑x.1 : Int) - 1)).toNat)) < 0)) (VC.need (0 ≤ IntKind.i64.wrap ((↑x.1 : Int) - 1) ∧ (IntKind.i64.wrap ((↑x.1 : Int) - 1)).toNat < N) (VC.need ((IntKind.i64.wrap ((↑x.1 : Int) - 1)).toNat < N) (VC.need (0 ≤ (↑x.1 : Int) ∧ x.1 < N) (VC.need (x.1 < N) (VC.need (0 ≤ (↑x.1 : Int) ∧ x.1 < N) (VC.need (x.1 < N) (VC.need (0 ≤ IntKind.i64.wrap ((↑x.1 : Int) - 1) ∧ (IntKind.i64.wrap ((↑x.1 : Int) - 1)).toNat < N) (VC.need ((IntKind.i64.wrap ((↑x.1 : Int) - 1)).toNat < N) (VC.lend (J x) (St.mk [(0, .own 100000), (1, AI ↑a), (2, AI ↑b), (3, AV.cl 57 [] [AV.p false (PV.pp ([PV.sl false 1 s.n (TR s.f), PV.sl false 1 s.m (RR s.w s.h), PV.sl false 1 s.m (MK s.r)].length - 0) fun j => [PV.sl false 1 s.n (TR s.f), PV.sl false 1 s.m (RR s.w s.h), PV.sl false 1 s.m (MK s.r)].getD (0 + j) PV.any), AV.p false (PV.pp ([roD s.c s.dn].length - 0) fun j => [roD s.c s.dn].getD (0 + j) PV.any)]), (8, AI ↑i), (9, AI (IntKind.i64.wrap ((↑x.1 : Int) - 1))), (34, AB (decide (ordX s.c s.dn (sgK s (x.2 x.1)) (sgK s (x.2 (IntKind.i64.wrap ((↑x.1 : Int) - 1)).toNat)) < 0)))] [(100000, .row .u true 1 N (setG [((IntKind.i64.wrap ((↑x.1 : Int) - 1)).toNat, 0, PV.v (Value.int IntKind.i64 (↑(x.2 x.1) : Int)))] (setG [(x.1, 0, PV.v (Value.int IntKind.i64 (↑(x.2 (IntKind.i64.wrap ((↑x.1 : Int) - 1)).toNat) : Int)))] fun i_1 x_1 => PI (↑(x.2 i_1) : Int))) [])])))))))))) (VC.lend (I y) (St.mk [(0, .own 100000), (1, AI ↑a), (2, AI ↑b), (3, AV.cl 57 [] [AV.p false (PV.pp ([PV.sl false 1 s.n (TR s.f), PV.sl false 1 s.m (RR s.w s.h), PV.sl false 1 s.m (MK s.r)].length - 0) fun j => [PV.sl false 1 s.n (TR s.f), PV.sl false 1 s.m (RR s.w s.h), PV.sl false 1 s.m (MK s.r)].getD (0 + j) PV.any), AV.p false (PV.pp ([roD s.c s.dn].length - 0) fun j => [roD s.c s.dn].getD (0 + j) PV.any)]), (8, AI (IntKind.i64.wrap ((↑i : Int) + 1))), (9, AI ↑x.1), (34, AB (decide (ordX s.c s.dn (sgK s (x.2 x.1)) (sgK s (x.2 (IntKind.i64.wrap ((↑x.1 : Int) - 1)).toNat)) < 0)))] [(100000, .row .u true 1 N (fun i_1 x_1 => PI (↑(x.2 i_1) : Int)) [])])))))))) (VC.lend (I y) (St.mk [(0, .own 100000), (1, AI ↑a), (2, AI ↑b), (3, AV.cl 57 [] [AV.p false (PV.pp ([PV.sl false 1 s.n (TR s.f), PV.sl false 1 s.m (RR s.w s.h), PV.sl false 1 s.m (MK s.r)].length - 0) fun j => [PV.sl false 1 s.n (TR s.f), PV.sl false 1 s.m (RR s.w s.h), PV.sl false 1 s.m (MK s.r)].getD (0 + j) PV.any), AV.p false (PV.pp ([roD s.c s.dn].length - 0) fun j => [roD s.c s.dn].getD (0 + j) PV.any)]), (8, AI (IntKind.i64.wrap ((↑i : Int) + 1))), (9, AI ↑x.1), (34, AB false)] [(100000, .row .u true 1 N (fun i_1 x_1 => PI (↑(x.2 i_1) : Int)) [])])) := by intros; kernel_rfl
structure Hole {β : Type} (lt : β → β → Bool) (K : Nat → β) (a b j : Nat) (D : Nat → Nat) : Prop where
  oth : ∀ p q, a ≤ p → p < q → q < b → p ≠ j → q ≠ j → lt (K (D q)) (K (D p)) = false
  up : ∀ q, j < q → q < b → lt (K (D q)) (K (D j)) = false
section
variable {β : Type} {lt : β → β → Bool} {K : Nat → β}
theorem Hole.start {a i : Nat} {D : Nat → Nat} (h : SrtS lt K a i D) : Hole lt K a (i + 1) i D :=
  ⟨fun p q h1 h2 h3 h4 h5 => h p q h1 h2 (by omega), fun q h1 h2 => by omega⟩
theorem Hole.stop (hO : Go.Sort.SWO lt) {a b j : Nat} {D : Nat → Nat} (h : Hole lt K a b j D) (hj : j = a ∨ (a < j ∧ lt (K (D j)) (K (D (j - 1))) = false)) : SrtS lt K a b D := by
  intro p q h1 h2 h3
  by_cases e1 : q = j
  · subst e1
    have h4 := hj.resolve_left (by omega)
    by_cases e2 : p = q - 1
    · rw [e2]; exact h4.2
    · exact hO.ntrans _ _ _ h4.2 (h.oth p (q - 1) h1 (by omega) (by omega) (by omega) (by omega))
  · by_cases e2 : p = j
    · subst e2; exact h.up q h2 h3
    · exact h.oth p q h1 h2 h3 e2 e1
theorem Hole.step (hO : Go.Sort.SWO lt) {a b j : Nat} {D : Nat → Nat} (h : Hole lt K a b j D) (hj : a < j) (hb : j < b) (hl : lt (K (D j)) (K (D (j - 1))) = true) : Hole lt K a b (j - 1) (swF D j (j - 1)) := by
  have asy : lt (K (D (j - 1))) (K (D j)) = false := by
    cases e : lt (K (D (j - 1))) (K (D j)) with
    | false => rfl
    | true => have := hO.trans _ _ _ hl e; rw [hO.irrefl] at this; cases this
  have ej : ¬ j - 1 = j := by omega
  refine ⟨fun p q h1 h2 h3 h4 h5 => ?_, fun q h1 h2 => ?_⟩
  · simp only [swF]
    by_cases c1 : q = j
    · subst c1
      have c2 : ¬ p = q := by omega
      simp only [if_true, c2, if_false, h4]
      exact h.oth p (q - 1) h1 (by omega) (by omega) (by omega) (by omega)
    · by_cases c2 : p = j
      · subst c2
        simp only [c1, if_false, h5, if_true]
        exact h.oth (p - 1) q (by omega) (by omega) h3 (by omega) (by omega)
      · simp only [c1, c2, h4, h5, if_false]
        exact h.oth p q h1 h2 h3 c2 c1
  · simp only [swF, ej, if_false, if_true]
    by_cases c1 : q = j
    · subst c1; simp only [if_true]; exact asy
    · simp only [c1, if_false, show ¬ q = j - 1 by omega]
      exact h.up q (by omega) h2
end
theorem OR_sw {D : Nat → Nat} {j k : Nat} {X Y : Int} (hjk : j ≠ k) (hX : X = (D k : Nat)) (hY : Y = (D j : Nat)) (i : Nat) : PV.Le (setG [(k, 0, PI Y)] (setG [(j, 0, PI X)] fun i _ => PI (D i : Nat)) i 0) ((fun i (_ : Nat) => PI (swF D j k i : Nat)) i 0) := by
  subst hX; subst hY
  by_cases c1 : i = k
  · subst c1
    have c2 : ¬ i = j := fun e => hjk e.symm
    simp [setG, cellSet, swF, c2]; exact .refl _
  · by_cases c2 : i = j
    · subst c2
      simp [setG, cellSet, swF, c1]; exact .refl _
    · simp [setG, cellSet, swF, c1, c2]; exact .refl _
theorem c_ins (s : SK) (N : Nat) (D : Nat → Nat) (a b : Nat) (h : SkOk s ∧ b ≤ N ∧ N ≤ 1048576 ∧ a ≤ 1048576 ∧ ∀ i, i < N → D i < s.m) : PSome Tryz.prog G0 85 [.own 0, AI a, AI b, sgFn s] [(0, OR N D)] (Nat → Nat) (fun D' => SegP a b D D' ∧ SrtS (sgL s) (sgK s) a b D') (fun _ => .tp []) (fun D' => [(0, OR N D')]) := by
  obtain ⟨ok, hb, hN, ha, hD⟩ := h
  have hO := ltX_swo s.c s.dn
  refine PCall.by chk85 rfl (ev_ins s N D a b) ?_
  have e0 : IntKind.i64.wrap ((a : Int) + 1) = ((a + 1 : Nat) : Int) := wrap_in (by omega) (by omega)
  refine loop_by (st_ins s N a b) (fun x => a < x.1 ∧ (x.1 ≤ b ∨ x.1 = a + 1) ∧ SegP a b D x.2 ∧ SrtS (sgL s) (sgK s) a x.1 x.2) (fun x => b - x.1) (a + 1, D) [] [] [] ⟨by simp only []; omega, .inr rfl, .refl _ _ _, fun i j h1 h2 h3 => by simp only [] at h3; omega⟩ ?_ (evr_ins s N D a b) fun x hx => ?_
  · simp [st_ins, leA, PV.Le_self, e0]
  · obtain ⟨i, E⟩ := x
    obtain ⟨hai, hib, hE, hS⟩ := hx
    simp only [] at hai hib hE hS
    simp only [vcA]
    refine ⟨fun h1 => ?_, fun h1 => ?_⟩
    · have hib' : i < b := by omega
      refine loop_by (st_ins2 s N a b i) (fun y => a ≤ y.1 ∧ y.1 ≤ i ∧ SegP a b D y.2 ∧ Hole (sgL s) (sgK s) a (i + 1) y.1 y.2) (fun y => y.1) (i, E) [] [] [] ⟨by simp only []; omega, Nat.le_refl _, hE, Hole.start hS⟩ ?_ (fun J y => evr_ins2 s N D a b i _ J _ y) fun y hy => ?_
      · simp [st_ins2, leA, PV.Le_self]
      · obtain ⟨j, F⟩ := y
        obtain ⟨haj, hji, hF, hH⟩ := hy
        simp only [] at haj hji hF hH
        have hFm : ∀ i, i < N → F i < s.m := fun i hi => by
          by_cases c : a ≤ i ∧ i < b
          · exact hF.all (p := fun x => x < s.m) (fun k h1 h2 => hD k (by omega)) i c.1 c.2
          · rw [hF.out i (by omega)]; exact hD i hi
        have e1 : IntKind.i64.wrap ((i : Int) + 1) = ((i + 1 : Nat) : Int) := wrap_in (by omega) (by omega)
        have next : SrtS (sgL s) (sgK s) a (i + 1) F → a < i + 1 ∧ (i + 1 ≤ b ∨ i + 1 = a + 1) ∧ SegP a b D F ∧ SrtS (sgL s) (sgK s) a (i + 1) F := fun h => ⟨by omega, .inl (by omega), hF, h⟩
        simp only [vcA, Int.toNat_natCast, e1]
        refine ⟨fun h2 => ?_, fun h2 => Again.mk (i + 1, F) [] [] [] (next (hH.stop hO (.inl (by omega)))) (by simp only []; omega) ?_⟩
        · have haj' : a < j := by omega
          have e2 : IntKind.i64.wrap ((j : Int) - 1) = ((j - 1 : Nat) : Int) := (wrap_in (by omega) (by omega)).trans (by omega)
          simp only [e2, Int.toNat_natCast]
          refine ⟨by omega, by omega, by omega, by omega, c_sgC _ _ _ ok (hFm j (by omega)) (hFm (j - 1) (by omega)), fun h3 => ⟨by omega, by omega, by omega, by omega, by omega, by omega, by omega, by omega, Again.mk (j - 1, swF F j (j - 1)) [] [] [] ⟨by simp only []; omega, by simp only []; omega, hF.trans (.swap F ⟨by omega, by omega⟩ ⟨by omega, by omega⟩), hH.step hO haj' (by omega) (decide_eq_true h3)⟩ (by simp only []; omega) ?_⟩, fun h3 => Again.mk (i + 1, F) [] [] [] (next (hH.stop hO (.inr ⟨haj', decide_eq_false h3⟩))) (by simp only []; omega) ?_⟩
          · simp [st_ins2, leA, PV.Le_self]
            exact fun k hk => OR_sw (by omega) rfl rfl k
          · simp [st_ins, leA, PV.Le_self]
        · simp [st_ins, leA, PV.Le_self]
    · have hS' : SrtS (sgL s) (sgK s) a b E := fun p q h1 h2 h3 => hS p q h1 h2 (by omega)
      refine ResOk.mk [] [(0, 100000)] [] _ _ ?_ ⟨E, ⟨hE, hS'⟩, rfl, rfl⟩
      simp [doneC, resOf, resAV, tup, pinR, PV.Le_self, leA, res85]
end Go.Gw
namespace Go.Gw
open Go Go.Proofs
set_option linter.unusedSimpArgs false
set_option linter.unusedVariables false
set_option maxRecDepth 100000
def swR (D : Nat → Nat) (p q n : Nat) : Nat → Nat := fun x => if p ≤ x ∧ x < p + n then D (x - p + q) else if q ≤ x ∧ x < q + n then D (x - q + p) else D x
theorem swR_zero (D : Nat → Nat) (p q : Nat) : swR D p q 0 = D := by
  funext x; simp only [swR]; rw [if_neg (by omega), if_neg (by omega)]
theorem swR_succ (D : Nat → Nat) {p q n k : Nat} (h : p + n ≤ q) (hk : k < n) : swF (swR D p q k) (p + k) (q + k) = swR D p q (k + 1) := by
  funext x
  simp only [swF, swR]
  by_cases c1 : x = p + k
  · subst c1
    rw [if_pos rfl, if_neg (by omega), if_neg (by omega), if_pos (by omega)]
    congr 1; omega
  · by_cases c2 : x = q + k
    · subst c2
      rw [if_neg (by omega), if_pos rfl, if_neg (by omega), if_neg (by omega), if_neg (by omega), if_pos (by omega)]
      congr 1; omega
    · rw [if_neg c1, if_neg c2]
      by_cases c3 : p ≤ x ∧ x < p + k
      · rw [if_pos c3, if_pos (by omega)]
      · rw [if_neg c3, if_neg (show ¬ (p ≤ x ∧ x < p + (k + 1)) by omega)]
        by_cases c4 : q ≤ x ∧ x < q + k
        · rw [if_pos c4, if_pos (by omega)]
        · rw [if_neg c4, if_neg (show ¬ (q ≤ x ∧ x < q + (k + 1)) by omega)]
theorem swR_perm (D : Nat → Nat) {p q n a b : Nat} (h : p + n ≤ q) (ha : a ≤ p) (hb : q + n ≤ b) : ∀ k, k ≤ n → SegP a b D (swR D p q k) := by
  intro k
  induction k with
  | zero => intro _; rw [swR_zero]; exact .refl _ _ _
  | succ k ih =>
    intro hk
    rw [← swR_succ D h (by omega)]
    exact (ih (by omega)).trans (.swap _ ⟨by omega, by omega⟩ ⟨by omega, by omega⟩)
def rotF (D : Nat → Nat) (a m b : Nat) : Nat → Nat := fun x => if a ≤ x ∧ x < a + (b - m) then D (x + (m - a)) else if a + (b - m) ≤ x ∧ x < b then D (x - (b - m)) else D x
theorem rot_gt (D : Nat → Nat) {m i j : Nat} (hi : i ≤ m) (hij : j < i) : rotF (swR D (m - i) m j) (m - (i - j)) m (m + j) = rotF D (m - i) m (m + j) := by
  funext x
  simp only [rotF, swR]
  by_cases c1 : m - i ≤ x ∧ x < m - i + j
  · rw [if_neg (by omega), if_neg (by omega), if_pos (by omega), if_pos (by omega)]
    congr 1; omega
  · by_cases c2 : m - i + j ≤ x ∧ x < m + j
    · rw [if_neg (show ¬ (m - i ≤ x ∧ x < m - i + (m + j - m)) by omega), if_pos (show m - i + (m + j - m) ≤ x ∧ x < m + j by omega)]
      by_cases c3 : x < m - i + 2 * j
      · rw [if_pos (by omega), if_neg (by omega), if_pos (by omega)]
        congr 1; omega
      · rw [if_neg (by omega), if_pos (by omega), if_neg (by omega), if_neg (by omega)]
    · rw [if_neg (by omega), if_neg (by omega), if_neg (by omega), if_neg (by omega), if_neg (by omega), if_neg (by omega)]
theorem rot_lt (D : Nat → Nat) {m i j : Nat} (hi : i ≤ m) (hij : i < j) : rotF (swR D (m - i) (m + j - i) i) (m - i) m (m + (j - i)) = rotF D (m - i) m (m + j) := by
  funext x
  simp only [rotF, swR]
  by_cases c1 : m + (j - i) ≤ x ∧ x < m + j
  · rw [if_neg (by omega), if_neg (by omega), if_neg (by omega), if_pos (by omega), if_neg (by omega), if_pos (by omega)]
    congr 1; omega
  · by_cases c2 : m - i ≤ x ∧ x < m + (j - i)
    · by_cases c3 : x < m - i + (j - i)
      · rw [if_pos (show m - i ≤ x ∧ x < m - i + (m + (j - i) - m) by omega), if_pos (show m - i ≤ x ∧ x < m - i + (m + j - m) by omega)]
        by_cases c4 : x + i < m
        · omega
        · rw [if_neg (by omega), if_neg (by omega)]
      · rw [if_neg (show ¬ (m - i ≤ x ∧ x < m - i + (m + (j - i) - m)) by omega), if_pos (show m - i + (m + (j - i) - m) ≤ x ∧ x < m + (j - i) by omega)]
        rw [if_pos (by omega), if_pos (by omega)]
        congr 1; omega
    · rw [if_neg (by omega), if_neg (by omega), if_neg (by omega), if_neg (by omega), if_neg (by omega), if_neg (by omega)]
theorem rot_eq (D : Nat → Nat) {m i : Nat} (hi : i ≤ m) : swR D (m - i) m i = rotF D (m - i) m (m + i) := by
  funext x
  simp only [rotF, swR]
  by_cases c1 : m - i ≤ x ∧ x < m - i + i
  · rw [if_pos c1, if_pos (by omega)]
    congr 1; omega
  · rw [if_neg c1]
    by_cases c2 : m ≤ x ∧ x < m + i
    · rw [if_pos c2, if_neg (by omega), if_pos (by omega)]
      congr 1; omega
    · rw [if_neg c2, if_neg (by omega), if_neg (by omega)]
theorem rot_perm : ∀ (k : Nat) (D : Nat → Nat) (m i j : Nat), i + j ≤ k → 0 < i → 0 < j → i ≤ m → SegP (m - i) (m + j) D (rotF D (m - i) m (m + j)) := by
  intro k
  induction k with
  | zero => intro D m i j h hi; omega
  | succ k ih =>
    intro D m i j h hi hj him
    rcases Nat.lt_trichotomy j i with c | c | c
    · rw [← rot_gt D him c]
      have h1 : SegP (m - i) (m + j) D (swR D (m - i) m j) := swR_perm D (n := j) (by omega) (Nat.le_refl _) (Nat.le_refl _) j (Nat.le_refl _)
      have h2 := ih (swR D (m - i) m j) m (i - j) j (by omega) (by omega) hj (by omega)
      exact h1.trans (h2.mono (by omega) (Nat.le_refl _))
    · subst c
      rw [← rot_eq D him]
      exact swR_perm D (n := j) (by omega) (Nat.le_refl _) (Nat.le_refl _) j (Nat.le_refl _)
    · rw [← rot_lt D him c]
      have h1 : SegP (m - i) (m + j) D (swR D (m - i) (m + j - i) i) := swR_perm D (n := i) (by omega) (Nat.le_refl _) (by omega) i (Nat.le_refl _)
      have h2 := ih (swR D (m - i) (m + j - i) i) m i (j - i) (by omega) hi (by omega) him
      exact h1.trans (h2.mono (Nat.le_refl _) (by omega))
theorem rotF_perm (D : Nat → Nat) {a m b : Nat} (h1 : a < m) (h2 : m < b) : SegP a b D (rotF D a m b) := by
  have := rot_perm ((m - a) + (b - m)) D m (m - a) (b - m) (Nat.le_refl _) (by omega) (by omega) (by omega)
  rwa [show m - (m - a) = a by omega, show m + (b - m) = b by omega] at this
section
variable {β : Type} {lt : β → β → Bool} {K : Nat → β}
theorem SrtS.mono {a b a' b' : Nat} {D : Nat → Nat} (h : SrtS lt K a b D) (h1 : a ≤ a') (h2 : b' ≤ b) : SrtS lt K a' b' D := fun p q c1 c2 c3 => h p q (by omega) c2 (by omega)
theorem SrtS.congr {a b : Nat} {D E : Nat → Nat} (h : SrtS lt K a b D) (he : ∀ i, a ≤ i → i < b → E i = D i) : SrtS lt K a b E := fun p q c1 c2 c3 => by
  rw [he p c1 (by omega), he q (by omega) c3]; exact h p q c1 c2 c3
theorem SrtS.shift {a b a' b' : Nat} {D E : Nat → Nat} (h : SrtS lt K a b D) (hl : b' - a' ≤ b - a) (he : ∀ i, i < b' - a' → E (a' + i) = D (a + i)) : SrtS lt K a' b' E := fun p q c1 c2 c3 => by
  have e1 := he (p - a') (by omega)
  have e2 := he (q - a') (by omega)
  rw [show a' + (p - a') = p by omega] at e1
  rw [show a' + (q - a') = q by omega] at e2
  rw [e1, e2]
  exact h _ _ (by omega) (by omega) (by omega)
theorem swo_asy (hO : Go.Sort.SWO lt) {x y : β} (h : lt x y = true) : lt y x = false := by
  cases e : lt y x with
  | false => rfl
  | true => have := hO.trans _ _ _ h e; rw [hO.irrefl] at this; cases this
def Parted (lt : β → β → Bool) (K : Nat → β) (a m b : Nat) (D : Nat → Nat) : Prop := ∀ p q, a ≤ p → p < m → m ≤ q → q < b → lt (K (D q)) (K (D p)) = false
theorem SrtS.join {a m b : Nat} {D : Nat → Nat} (h1 : SrtS lt K a m D) (h2 : SrtS lt K m b D) (h3 : Parted lt K a m b D) : SrtS lt K a b D := fun p q c1 c2 c3 => by
  by_cases e1 : q < m
  · exact h1 p q c1 c2 e1
  · by_cases e2 : m ≤ p
    · exact h2 p q e2 c2 c3
    · exact h3 p q c1 (by omega) (by omega) c3
theorem Parted.left {a m b : Nat} {D E : Nat → Nat} (h : Parted lt K a m b D) (hE : SegP a m D E) (hmb : m ≤ b) : Parted lt K a m b E := fun p q c1 c2 c3 c4 => by
  rw [hE.out q (.inr c3)]
  exact hE.all (p := fun x => lt (K (D q)) (K x) = false) (fun i h1 h2 => h i q h1 h2 c3 c4) p c1 c2
theorem Parted.right {a m b : Nat} {D E : Nat → Nat} (h : Parted lt K a m b D) (hE : SegP m b D E) : Parted lt K a m b E := fun p q c1 c2 c3 c4 => by
  rw [hE.out p (.inl c2)]
  exact hE.all (p := fun x => lt (K x) (K (D p)) = false) (fun i h1 h2 => h p i c1 c2 h1 h2) q c3 c4
theorem rot_parted (hO : Go.Sort.SWO lt) {a m b s e mid : Nat} {D : Nat → Nat} (ham : a < m) (hmb : m < b) (hmid : mid = (a + b) / 2) (he : e + s = mid + m) (hs : a ≤ s ∧ s ≤ m) (hm : m ≤ e ∧ e ≤ b)
    (h1 : SrtS lt K a m D) (h2 : SrtS lt K m b D) (hlo : a < s → e < b → lt (K (D e)) (K (D (s - 1))) = false) (hhi : s < m → m < e → lt (K (D (e - 1))) (K (D s)) = true) :
    Parted lt K a mid b (if s < m ∧ m < e then rotF D s m e else D) ∧ SrtS lt K a s (if s < m ∧ m < e then rotF D s m e else D) ∧ SrtS lt K s mid (if s < m ∧ m < e then rotF D s m e else D) ∧ SrtS lt K mid e (if s < m ∧ m < e then rotF D s m e else D) ∧ SrtS lt K e b (if s < m ∧ m < e then rotF D s m e else D) := by
  -- what is not greater
  have le1 : ∀ x y, a ≤ x → x < s → s ≤ y → y < m → lt (K (D y)) (K (D x)) = false := fun x y c1 c2 c3 c4 => h1 x y c1 (by omega) c4
  have le2 : ∀ x y, m ≤ x → x < e → e ≤ y → y < b → lt (K (D y)) (K (D x)) = false := fun x y c1 c2 c3 c4 => h2 x y c1 (by omega) c4
  have le3 : ∀ x y, a ≤ x → x < s → e ≤ y → y < b → lt (K (D y)) (K (D x)) = false := fun x y c1 c2 c3 c4 => by
    have g := hlo (by omega) (by omega)
    have g1 : lt (K (D y)) (K (D (s - 1))) = false := by
      by_cases c5 : y = e
      · rw [c5]; exact g
      · exact hO.ntrans _ _ _ (h2 e y hm.1 (by omega) c4) g
    by_cases c6 : x = s - 1
    · rw [c6]; exact g1
    · exact hO.ntrans _ _ _ g1 (h1 x (s - 1) c1 (by omega) (by omega))
  have le4 : ∀ x y, m ≤ x → x < e → s ≤ y → y < m → lt (K (D y)) (K (D x)) = false := fun x y c1 c2 c3 c4 => by
    have g := swo_asy hO (hhi (by omega) (by omega))
    have g1 : lt (K (D y)) (K (D (e - 1))) = false := by
      by_cases c5 : y = s
      · rw [c5]; exact g
      · exact hO.ntrans _ _ _ (h1 s y hs.1 (by omega) c4) g
    by_cases c6 : x = e - 1
    · rw [c6]; exact g1
    · exact hO.ntrans _ _ _ g1 (h2 x (e - 1) c1 (by omega) (by omega))
  by_cases hr : s < m ∧ m < e
  · simp only [hr, and_self, if_true]
    have v1 : ∀ i, i < s → rotF D s m e i = D i := fun i hi => by simp only [rotF]; rw [if_neg (by omega), if_neg (by omega)]
    have v2 : ∀ i, s ≤ i → i < mid → rotF D s m e i = D (i + (m - s)) := fun i c1 c2 => by simp only [rotF]; rw [if_pos (by omega)]
    have v3 : ∀ i, mid ≤ i → i < e → rotF D s m e i = D (i - (e - m)) := fun i c1 c2 => by simp only [rotF]; rw [if_neg (by omega), if_pos (by omega)]
    have v4 : ∀ i, e ≤ i → rotF D s m e i = D i := fun i hi => by simp only [rotF]; rw [if_neg (by omega), if_neg (by omega)]
    refine ⟨fun p q c1 c2 c3 c4 => ?_, h1.mono (Nat.le_refl _) hs.2 |>.congr fun i c1 c2 => v1 i c2, ?_, ?_, (h2.mono hm.1 (Nat.le_refl _)).congr fun i c1 c2 => v4 i c1⟩
    · by_cases c5 : p < s
      · rw [v1 p c5]
        by_cases c6 : q < e
        · rw [v3 q c3 c6]; exact le1 _ _ c1 c5 (by omega) (by omega)
        · rw [v4 q (by omega)]; exact le3 _ _ c1 c5 (by omega) c4
      · rw [v2 p (by omega) c2]
        by_cases c6 : q < e
        · rw [v3 q c3 c6]; exact le4 _ _ (by omega) (by omega) (by omega) (by omega)
        · rw [v4 q (by omega)]; exact le2 _ _ (by omega) (by omega) (by omega) c4
    · exact SrtS.shift (h2.mono (Nat.le_refl m) hm.2) (by omega) fun i hi => by rw [v2 (s + i) (by omega) (by omega)]; congr 1; omega
    · exact SrtS.shift (h1.mono hs.1 (Nat.le_refl m)) (by omega) fun i hi => by rw [v3 (mid + i) (by omega) (by omega)]; congr 1; omega
  · simp only [hr, if_false]
    refine ⟨fun p q c1 c2 c3 c4 => ?_, h1.mono (Nat.le_refl _) hs.2, ?_, ?_, h2.mono hm.1 (Nat.le_refl _)⟩
    · by_cases c5 : s = m
      · -- the left is whole: mid = e
        by_cases c6 : p < s
        · exact le3 p q c1 c6 (by omega) c4
        · exact le2 p q (by omega) (by omega) (by omega) c4
      · -- the right is whole: e = m, mid = s
        have c7 : e = m := by omega
        by_cases c6 : q < m
        · exact le1 p q c1 (by omega) (by omega) c6
        · exact le3 p q c1 (by omega) (by omega) c4
    · by_cases c5 : s = m
      · exact (h2.mono (Nat.le_refl m) hm.2).mono (by omega) (by omega)
      · intro p q c1 c2 c3; omega
    · by_cases c5 : s = m
      · intro p q c1 c2 c3; omega
      · exact (h1.mono hs.1 (Nat.le_refl m)).mono (by omega) (by omega)
structure Rise (lt : β → β → Bool) (K : Nat → β) (a b i k : Nat) (D : Nat → Nat) : Prop where
  oth : ∀ p q, a ≤ p → p < q → q < b → p ≠ k → q ≠ k → lt (K (D q)) (K (D p)) = false
  low : ∀ p, a ≤ p → p < k → lt (K (D k)) (K (D p)) = false
  mid : ∀ q, k < q → q < i → lt (K (D q)) (K (D k)) = true
  up : ∀ q, i ≤ q → q < b → lt (K (D q)) (K (D k)) = false
theorem Rise.stop {a b i k : Nat} {D : Nat → Nat} (h : Rise lt K a b i k D) (hk : i ≤ k + 1) : SrtS lt K a b D := by
  intro p q c1 c2 c3
  by_cases e1 : q = k
  · subst e1; exact h.low p c1 c2
  · by_cases e2 : p = k
    · subst e2; exact h.up q (by omega) c3
    · exact h.oth p q c1 c2 c3 e2 e1
theorem Rise.step (hO : Go.Sort.SWO lt) {a b i k : Nat} {D : Nat → Nat} (h : Rise lt K a b i k D) (hk : k + 1 < i) (hi : i ≤ b) (hak : a ≤ k) : Rise lt K a b i (k + 1) (swF D k (k + 1)) := by
  have ek : ¬ k + 1 = k := by omega
  have val : ∀ x, swF D k (k + 1) x = if x = k then D (k + 1) else if x = k + 1 then D k else D x := fun _ => rfl
  refine ⟨fun p q c1 c2 c3 c4 c5 => ?_, fun p c1 c2 => ?_, fun q c1 c2 => ?_, fun q c1 c2 => ?_⟩
  · rw [val p, val q]
    by_cases e1 : q = k
    · subst e1
      rw [if_pos rfl, if_neg (by omega), if_neg c4]
      exact h.oth p (q + 1) c1 (by omega) (by omega) (by omega) (by omega)
    · by_cases e2 : p = k
      · subst e2
        rw [if_neg e1, if_neg c5, if_pos rfl]
        exact h.oth (p + 1) q (by omega) (by omega) c3 (by omega) (by omega)
      · rw [if_neg e1, if_neg c5, if_neg e2, if_neg c4]
        exact h.oth p q c1 c2 c3 e2 e1
  · rw [val (k + 1), val p, if_neg ek, if_pos rfl]
    by_cases e1 : p = k
    · subst e1; rw [if_pos rfl]; exact swo_asy hO (h.mid (p + 1) (by omega) hk)
    · rw [if_neg e1, if_neg (by omega)]; exact h.low p c1 (by omega)
  · rw [val (k + 1), val q, if_neg ek, if_pos rfl, if_neg (by omega), if_neg (by omega)]
    exact h.mid q (by omega) c2
  · rw [val (k + 1), val q, if_neg ek, if_pos rfl, if_neg (by omega), if_neg (by omega)]
    exact h.up q c1 c2
theorem Rise.start {a b i : Nat} {D : Nat → Nat} (h : SrtS lt K (a + 1) b D) (hm : ∀ q, a < q → q < i → lt (K (D q)) (K (D a)) = true) (hu : ∀ q, i ≤ q → q < b → lt (K (D q)) (K (D a)) = false) : Rise lt K a b i a D :=
  ⟨fun p q c1 c2 c3 c4 c5 => h p q (by omega) c2 c3, fun p c1 c2 => by omega, hm, hu⟩
structure Fall (lt : β → β → Bool) (K : Nat → β) (a b i k : Nat) (D : Nat → Nat) : Prop where
  oth : ∀ p q, a ≤ p → p < q → q < b → p ≠ k → q ≠ k → lt (K (D q)) (K (D p)) = false
  low : ∀ p, a ≤ p → p < i → lt (K (D k)) (K (D p)) = false
  mid : ∀ p, i ≤ p → p < k → lt (K (D k)) (K (D p)) = true
  up : ∀ q, k < q → q < b → lt (K (D q)) (K (D k)) = false
theorem Fall.stop {a b i k : Nat} {D : Nat → Nat} (h : Fall lt K a b i k D) (hk : k ≤ i) : SrtS lt K a b D := by
  intro p q c1 c2 c3
  by_cases e1 : q = k
  · subst e1; exact h.low p c1 (by omega)
  · by_cases e2 : p = k
    · subst e2; exact h.up q c2 c3
    · exact h.oth p q c1 c2 c3 e2 e1
theorem Fall.step (hO : Go.Sort.SWO lt) {a b i k : Nat} {D : Nat → Nat} (h : Fall lt K a b i k D) (hk : i < k) (hkb : k < b) (hai : a ≤ i) : Fall lt K a b i (k - 1) (swF D k (k - 1)) := by
  obtain ⟨k, rfl⟩ : ∃ j, k = j + 1 := ⟨k - 1, by omega⟩
  rw [Nat.add_sub_cancel]
  have ek : ¬ k = k + 1 := by omega
  have val : ∀ x, swF D (k + 1) k x = if x = k + 1 then D k else if x = k then D (k + 1) else D x := fun _ => rfl
  refine ⟨fun p q c1 c2 c3 c4 c5 => ?_, fun p c1 c2 => ?_, fun p c1 c2 => ?_, fun q c1 c2 => ?_⟩
  · rw [val p, val q]
    by_cases e1 : q = k + 1
    · subst e1
      rw [if_pos rfl, if_neg (by omega), if_neg c4]
      exact h.oth p k c1 (by omega) (by omega) (by omega) (by omega)
    · by_cases e2 : p = k + 1
      · subst e2
        rw [if_neg e1, if_neg c5, if_pos rfl]
        exact h.oth k q (by omega) (by omega) c3 (by omega) (by omega)
      · rw [if_neg e1, if_neg c5, if_neg e2, if_neg c4]
        exact h.oth p q c1 c2 c3 e2 e1
  · rw [val k, val p, if_neg ek, if_pos rfl, if_neg (by omega), if_neg (by omega)]
    exact h.low p c1 c2
  · rw [val k, val p, if_neg ek, if_pos rfl, if_neg (by omega), if_neg (by omega)]
    exact h.mid p c1 (by omega)
  · rw [val k, val q, if_neg ek, if_pos rfl]
    by_cases e1 : q = k + 1
    · subst e1; rw [if_pos rfl]; exact swo_asy hO (h.mid k (by omega) (by omega))
    · rw [if_neg e1, if_neg (by omega)]; exact h.up q (by omega) c2
theorem Fall.start {a m i : Nat} {D : Nat → Nat} (h : SrtS lt K a m D) (hl : ∀ p, a ≤ p → p < i → lt (K (D m)) (K (D p)) = false) (hm : ∀ p, i ≤ p → p < m → lt (K (D m)) (K (D p)) = true) : Fall lt K a (m + 1) i m D :=
  ⟨fun p q c1 c2 c3 c4 c5 => h p q c1 c2 (by omega), hl, hm, fun q c1 c2 => by omega⟩
end
end Go.Gw
namespace Go.Gw
open Go Go.Proofs
set_option linter.unusedSimpArgs false
set_option linter.unusedVariables false
set_option maxRecDepth 100000
def ir104_L1 : Ir := (.seq (.seq (.reg [11, 12] [om 11 10, om 12 3, ob .lss 13 11 12]) (.cond (tt 13) .skip (.exit 0))) (.seq (.block 1 (.dreg [16, 17, 18, 19, 20, 21, 22, 23, 24, 25, 26, 27, 28, 29, 30, 31, 32, 33, 34, 35, 36, 37] [0, 0, 0, 6, 0, 0, 0, 96, 0, 0, 0, 1536, 3840, 7936, 0, 0, 0, 98304, 245760, 507904, 1048335, 2096911, 4194303, 8388607] [(13, 1029), (19, 1035)] [om 16 0, om 17 1, om 18 10, ob .add 19 17 18, om 20 0, om 21 2, om 22 10, ob .add 23 21 22, om 24 0, om 25 2, om 26 10, ob .add 27 25 26, ox 28 24 27, ol 29 28, om 30 0, om 31 1, om 32 10, ob .add 33 31 32, ox 34 30 33, ol 35 34, ox 36 16 19, on (.store 1 (tt 36) (tt 29)), ox 37 20 23, on (.store 1 (tt 37) (tt 35))])) (.reg [14, 15] [om 14 10, o 15 (.bin .add (tt 14) (ci 1)), om 10 15])))
def ir104 : Ir := (.seq (.reg [] [o 10 (.mov (ci 0))]) (.block 0 (.loop ir104_L1)))
def keep104 : List Nat := [0, 1, 2, 3, 10, 13]
def res104 : List RI := []
theorem chk104 : chk Tryz.prog 104 5 keep104 = some (ir104, res104) := by kernel_rfl
def ir98_L1 : Ir := (.seq (.seq (.reg [18, 19] [om 18 10, om 19 11, ob .neq 20 18 19]) (.cond (tt 20) .skip (.exit 0))) (.block 1 (.seq (.reg [21, 22] [om 21 10, om 22 11, ob .gtr 23 21 22]) (.cond (tt 23) (.seq (.reg [24, 25, 26, 27, 28, 29, 30, 31] [om 24 0, om 25 2, om 26 10, ob .sub 27 25 26, om 28 2, om 29 11, om 30 4, o 31 (.call 104 [(tt 24), (tt 27), (tt 28), (tt 29), (tt 30)])]) (.reg [32, 33, 34] [om 32 10, om 33 11, ob .sub 34 32 33, om 10 34])) (.seq (.reg [35, 36, 37, 38, 39, 40, 41, 42, 43, 44, 45, 46] [om 35 0, om 36 2, om 37 10, ob .sub 38 36 37, om 39 2, om 40 11, ob .add 41 39 40, om 42 10, ob .sub 43 41 42, om 44 10, om 45 4, o 46 (.call 104 [(tt 35), (tt 38), (tt 43), (tt 44), (tt 45)])]) (.reg [47, 48, 49] [om 47 11, om 48 10, ob .sub 49 47 48, om 11 49]))))))
def ir98_T2 : Ir := (.reg [50, 51, 52, 53, 54, 55, 56, 57] [om 50 0, om 51 2, om 52 10, ob .sub 53 51 52, om 54 2, om 55 10, om 56 4, o 57 (.call 104 [(tt 50), (tt 53), (tt 54), (tt 55), (tt 56)])])
def ir98 : Ir := (.seq (.reg [12, 13, 14] [om 12 2, om 13 1, ob .sub 14 12 13, om 10 14]) (.seq (.reg [15, 16, 17] [om 15 3, om 16 2, ob .sub 17 15 16, om 11 17]) (.seq (.block 0 (.loop ir98_L1)) ir98_T2)))
def keep98 : List Nat := [0, 1, 2, 3, 4, 10, 11, 20, 23]
def res98 : List RI := []
theorem chk98 : chk Tryz.prog 98 5 keep98 = some (ir98, res98) := by kernel_rfl
theorem ev_swp : ∀ (s : SK) (N : Nat) (D : Nat → Nat) (p q n : Nat), ev G0 res104 [(0, OR N D)] 3000 Or.nil [.ir ir104] (start [.own 0, AI ↑p, AI ↑q, AI ↑n, sgFn s] [(0, OR N D)]) = VC.loop ir104_L1 [.bend 0] (St.mk [(0, .own 100000), (1, AI ↑p), (2, AI ↑q), (3, AI ↑n), (4, AV.cl 57 [] [AV.p false (PV.pp ([PV.sl false 1 s.n (TR s.f), PV.sl false 1 s.m (RR s.w s.h), PV.sl false 1 s.m (MK s.r)].length - 0) fun j => [PV.sl false 1 s.n (TR s.f), PV.sl false 1 s.m (RR s.w s.h), PV.sl false 1 s.m (MK s.r)].getD (0 + j) PV.any), AV.p false (PV.pp ([roD s.c s.dn].length - 0) fun j => [roD s.c s.dn].getD (0 + j) PV.any)]), (10, AI 0)] [(100000, .row .u true 1 N (fun i x => PI (↑(D i) : Int)) [])]) := by intros; kernel_rfl
def st_swp (N : Nat) (D : Nat → Nat) (p q n k : Nat) : St := ⟨[(0, .own 100000), (1, AI p), (2, AI q), (3, AI n), (10, AI k)], [(100000, OR N (swR D p q k))]⟩
theorem evr_swp : ∀ (N : Nat) (D : Nat → Nat) (p q n : Nat) (I : Nat → St → Prop) (k : Nat), ev G0 res104 [(0, OR N D)] 3000 (Or.nil.split Or.nil) [.ir ir104_L1, .lend (I k), .bend 0] (st_swp N D p q n k) = VC.split (decide ((↑k : Int) < ↑n)) (VC.need (0 ≤ IntKind.i64.wrap ((↑q : Int) + ↑k) ∧ (IntKind.i64.wrap ((↑q : Int) + ↑k)).toNat < N) (VC.need ((IntKind.i64.wrap ((↑q : Int) + ↑k)).toNat < N) (VC.need (0 ≤ IntKind.i64.wrap ((↑p : Int) + ↑k) ∧ (IntKind.i64.wrap ((↑p : Int) + ↑k)).toNat < N) (VC.need ((IntKind.i64.wrap ((↑p : Int) + ↑k)).toNat < N) (VC.need (0 ≤ IntKind.i64.wrap ((↑p : Int) + ↑k) ∧ (IntKind.i64.wrap ((↑p : Int) + ↑k)).toNat < N) (VC.need ((IntKind.i64.wrap ((↑p : Int) + ↑k)).toNat < N) (VC.need (0 ≤ IntKind.i64.wrap ((↑q : Int) + ↑k) ∧ (IntKind.i64.wrap ((↑q : Int) + ↑k)).toNat < N) (VC.need ((IntKind.i64.wrap ((↑q : Int) + ↑k)).toNat < N) (VC.lend (I k) (St.mk [(0, .own 100000), (1, AI ↑p), (2, AI ↑q), (3, AI ↑n), (10, AI (IntKind.i64.wrap ((↑k : Int) + 1))), (13, AB (decide ((↑k : Int) < ↑n)))] [(100000, .row .u true 1 N (setG [((IntKind.i64.wrap ((↑q : Int) + ↑k)).toNat, 0, PV.v (Value.int IntKind.i64 (↑(swR D p q k (IntKind.i64.wrap ((↑p : Int) + ↑k)).toNat) : Int)))] (setG [((IntKind.i64.wrap ((↑p : Int) + ↑k)).toNat, 0, PV.v (Value.int IntKind.i64 (↑(swR D p q k (IntKind.i64.wrap ((↑q : Int) + ↑k)).toNat) : Int)))] fun i x => PI (↑(swR D p q k i) : Int))) [])])))))))))) (VC.done (St.mk [(0, .own 100000), (1, AI ↑p), (2, AI ↑q), (3, AI ↑n), (10, AI ↑k), (13, AB (decide ((↑k : Int) < ↑n)))] [(100000, .row .u true 1 N (fun i x => PI (↑(swR D p q k i) : Int)) [])])) := by intros; kernel_rfl
theorem ev_rot : ∀ (s : SK) (N : Nat) (D : Nat → Nat) (a m b : Nat), ev G0 res98 [(0, OR N D)] 3000 Or.nil [.ir ir98] (start [.own 0, AI ↑a, AI ↑m, AI ↑b, sgFn s] [(0, OR N D)]) = VC.loop ir98_L1 [.bend 0, .ir ir98_T2] (St.mk [(0, .own 100000), (1, AI ↑a), (2, AI ↑m), (3, AI ↑b), (4, AV.cl 57 [] [AV.p false (PV.pp ([PV.sl false 1 s.n (TR s.f), PV.sl false 1 s.m (RR s.w s.h), PV.sl false 1 s.m (MK s.r)].length - 0) fun j => [PV.sl false 1 s.n (TR s.f), PV.sl false 1 s.m (RR s.w s.h), PV.sl false 1 s.m (MK s.r)].getD (0 + j) PV.any), AV.p false (PV.pp ([roD s.c s.dn].length - 0) fun j => [roD s.c s.dn].getD (0 + j) PV.any)]), (10, AI (IntKind.i64.wrap ((↑m : Int) - ↑a))), (11, AI (IntKind.i64.wrap ((↑b : Int) - ↑m)))] [(100000, .row .u true 1 N (fun i x => PI (↑(D i) : Int)) [])]) := by intros; kernel_rfl
theorem c_swp (s : SK) (N : Nat) (D : Nat → Nat) (p q n : Nat) (h : p + n ≤ q ∧ q + n ≤ N ∧ N ≤ 1048576) : PObj Tryz.prog G0 104 [.own 0, AI p, AI q, AI n, sgFn s] [(0, OR N D)] (.tp []) [(0, OR N (swR D p q n))] := by
  obtain ⟨h1, h2, h3⟩ := h
  refine PObj.by chk104 rfl (ev_swp s N D p q n) ?_
  refine loop_by (st_swp N D p q n) (fun k => k ≤ n) (fun k => n - k) 0 [] [] [] (Nat.zero_le _) ?_ (evr_swp N D p q n) fun k hk => ?_
  · simp [st_swp, leA, PV.Le_self, swR_zero]
  · have e1 : IntKind.i64.wrap ((p : Int) + k) = ((p + k : Nat) : Int) := wrap_in (by omega) (by omega)
    have e2 : IntKind.i64.wrap ((q : Int) + k) = ((q + k : Nat) : Int) := wrap_in (by omega) (by omega)
    have e3 : IntKind.i64.wrap ((k : Int) + 1) = ((k + 1 : Nat) : Int) := wrap_in (by omega) (by omega)
    simp only [vcA, e1, e2, e3, Int.toNat_natCast]
    refine ⟨fun h4 => ⟨by omega, by omega, by omega, by omega, by omega, by omega, by omega, by omega, Again.mk (k + 1) [] [] [] (by omega) (by omega) ?_⟩, fun h4 => ?_⟩
    · simp only [st_swp]
      rw [← swR_succ D (n := n) h1 (by omega)]
      generalize swR D p q k = E
      simp [leA, PV.Le_self]
      exact fun i hi => OR_sw (by omega) rfl rfl i
    · have : k = n := by omega
      subst this
      refine ResOk.mk [] [(0, 100000)] [] _ _ ?_ ⟨rfl, rfl⟩
      simp [doneC, resOf, resAV, tup, pinR, PV.Le_self, leA, res104]
theorem c_swI (s : SK) (N : Nat) (D : Nat → Nat) (p q n : Int) (h : 0 ≤ p ∧ 0 ≤ n ∧ p + n ≤ q ∧ q + n ≤ N ∧ N ≤ 1048576) : PObj Tryz.prog G0 104 [.own 0, AI p, AI q, AI n, sgFn s] [(0, OR N D)] (.tp []) [(0, OR N (swR D p.toNat q.toNat n.toNat))] := by
  obtain ⟨p, rfl⟩ : ∃ k : Nat, p = k := ⟨p.toNat, by omega⟩
  obtain ⟨q, rfl⟩ : ∃ k : Nat, q = k := ⟨q.toNat, by omega⟩
  obtain ⟨n, rfl⟩ : ∃ k : Nat, n = k := ⟨n.toNat, by omega⟩
  exact c_swp s N D p q n ⟨by omega, by omega, h.2.2.2.2⟩
def st_rot (s : SK) (N m : Nat) (x : Nat × Nat × (Nat → Nat)) : St := ⟨[(0, .own 100000), (2, AI m), (4, sgFn s), (10, AI x.1), (11, AI x.2.1)], [(100000, OR N x.2.2)]⟩
theorem evr_rot : ∀ (s : SK) (N : Nat) (D : Nat → Nat) (m : Nat) (I : Nat × Nat × (Nat → Nat) → St → Prop) (x : Nat × Nat × (Nat → Nat)), ev G0 res98 [(0, OR N D)] 3000 (((Or.call [100000] (AV.tp []) [(0, OR N (swR x.2.2 (IntKind.i64.wrap ((↑m : Int) - ↑x.1)).toNat m x.2.1))] Or.nil).split (Or.call [100000] (AV.tp []) [(0, OR N (swR x.2.2 (IntKind.i64.wrap ((↑m : Int) - ↑x.1)).toNat (IntKind.i64.wrap (IntKind.i64.wrap ((↑m : Int) + ↑x.2.1) - (↑x.1 : Int))).toNat x.1))] Or.nil)).split (Or.call [100000] (AV.tp []) [(0, OR N (swR x.2.2 (IntKind.i64.wrap ((↑m : Int) - ↑x.1)).toNat m x.1))] Or.nil)) [.ir ir98_L1, .lend (I x), .bend 0, .ir ir98_T2] (st_rot s N m x) = VC.split ((↑x.1 : Int) != (↑x.2.1 : Int)) (VC.split (decide ((↑x.2.1 : Int) < ↑x.1)) (VC.call 104 [.own 0, AI (IntKind.i64.wrap ((↑m : Int) - ↑x.1)), AI ↑m, AI ↑x.2.1, AV.cl 57 [] [AV.p false (PV.pp ([PV.sl false 1 s.n (TR s.f), PV.sl false 1 s.m (RR s.w s.h), PV.sl false 1 s.m (MK s.r)].length - 0) fun j => [PV.sl false 1 s.n (TR s.f), PV.sl false 1 s.m (RR s.w s.h), PV.sl false 1 s.m (MK s.r)].getD (0 + j) PV.any), AV.p false (PV.pp ([roD s.c s.dn].length - 0) fun j => [roD s.c s.dn].getD (0 + j) PV.any)]] [(0, .row .u true 1 N (fun i x_1 => PI (↑(x.2.2 i) : Int)) [])] (AV.tp []) [(0, OR N (swR x.2.2 (IntKind.i64.wrap ((↑m : Int) - ↑x.1)).toNat m x.2.1))] (VC.lend (I x) (St.mk [(0, .own 100000), (2, AI ↑m), (4, AV.cl 57 [] [AV.p false (PV.pp ([PV.sl false 1 s.n (TR s.f), PV.sl false 1 s.m (RR s.w s.h), PV.sl false 1 s.m (MK s.r)].length - 0) fun j => [PV.sl false 1 s.n (TR s.f), PV.sl false 1 s.m (RR s.w s.h), PV.sl false 1 s.m (MK s.r)].getD (0 + j) PV.any), AV.p false (PV.pp ([roD s.c s.dn].length - 0) fun j => [roD s.c s.dn].getD (0 + j) PV.any)]), (10, AI (IntKind.i64.wrap ((↑x.1 : Int) - ↑x.2.1))), (11, AI ↑x.2.1), (20, AB ((↑x.1 : Int) != (↑x.2.1 : Int))), (23, AB (decide ((↑x.2.1 : Int) < ↑x.1)))] [(100000, .row .u true 1 N (fun i x_1 => PI (↑(swR x.2.2 (IntKind.i64.wrap ((↑m : Int) - ↑x.1)).toNat m x.2.1 i) : Int)) [])]))) (VC.call 104 [.own 0, AI (IntKind.i64.wrap ((↑m : Int) - ↑x.1)), AI (IntKind.i64.wrap (IntKind.i64.wrap ((↑m : Int) + ↑x.2.1) - (↑x.1 : Int))), AI ↑x.1, AV.cl 57 [] [AV.p false (PV.pp ([PV.sl false 1 s.n (TR s.f), PV.sl false 1 s.m (RR s.w s.h), PV.sl false 1 s.m (MK s.r)].length - 0) fun j => [PV.sl false 1 s.n (TR s.f), PV.sl false 1 s.m (RR s.w s.h), PV.sl false 1 s.m (MK s.r)].getD (0 + j) PV.any), AV.p false (PV.pp ([roD s.c s.dn].length - 0) fun j => [roD s.c s.dn].getD (0 + j) PV.any)]] [(0, .row .u true 1 N (fun i x_1 => PI (↑(x.2.2 i) : Int)) [])] (AV.tp []) [(0, OR N (swR x.2.2 (IntKind.i64.wrap ((↑m : Int) - ↑x.1)).toNat (IntKind.i64.wrap (IntKind.i64.wrap ((↑m : Int) + ↑x.2.1) - (↑x.1 : Int))).toNat x.1))] (VC.lend (I x) (St.mk [(0, .own 100000), (2, AI ↑m), (4, AV.cl 57 [] [AV.p false (PV.pp ([PV.sl false 1 s.n (TR s.f), PV.sl false 1 s.m (RR s.w s.h), PV.sl false 1 s.m (MK s.r)].length - 0) fun j => [PV.sl false 1 s.n (TR s.f), PV.sl false 1 s.m (RR s.w s.h), PV.sl false 1 s.m (MK s.r)].getD (0 + j) PV.any), AV.p false (PV.pp ([roD s.c s.dn].length - 0) fun j => [roD s.c s.dn].getD (0 + j) PV.any)]), (10, AI ↑x.1), (11, AI (IntKind.i64.wrap ((↑x.2.1 : Int) - ↑x.1))), (20, AB ((↑x.1 : Int) != (↑x.2.1 : Int))), (23, AB (decide ((↑x.2.1 : Int) < ↑x.1)))] [(100000, .row .u true 1 N (fun i x_1 => PI (↑(swR x.2.2 (IntKind.i64.wrap ((↑m : Int) - ↑x.1)).toNat (IntKind.i64.wrap (IntKind.i64.wrap ((↑m : Int) + ↑x.2.1) - (↑x.1 : Int))).toNat x.1 i) : Int)) [])])))) (VC.call 104 [.own 0, AI (IntKind.i64.wrap ((↑m : Int) - ↑x.1)), AI ↑m, AI ↑x.1, AV.cl 57 [] [AV.p false (PV.pp ([PV.sl false 1 s.n (TR s.f), PV.sl false 1 s.m (RR s.w s.h), PV.sl false 1 s.m (MK s.r)].length - 0) fun j => [PV.sl false 1 s.n (TR s.f), PV.sl false 1 s.m (RR s.w s.h), PV.sl false 1 s.m (MK s.r)].getD (0 + j) PV.any), AV.p false (PV.pp ([roD s.c s.dn].length - 0) fun j => [roD s.c s.dn].getD (0 + j) PV.any)]] [(0, .row .u true 1 N (fun i x_1 => PI (↑(x.2.2 i) : Int)) [])] (AV.tp []) [(0, OR N (swR x.2.2 (IntKind.i64.wrap ((↑m : Int) - ↑x.1)).toNat m x.1))] (VC.done (St.mk [(0, .own 100000), (2, AI ↑m), (4, AV.cl 57 [] [AV.p false (PV.pp ([PV.sl false 1 s.n (TR s.f), PV.sl false 1 s.m (RR s.w s.h), PV.sl false 1 s.m (MK s.r)].length - 0) fun j => [PV.sl false 1 s.n (TR s.f), PV.sl false 1 s.m (RR s.w s.h), PV.sl false 1 s.m (MK s.r)].getD (0 + j) PV.any), AV.p false (PV.pp ([roD s.c s.dn].length - 0) fun j => [roD s.c s.dn].getD (0 + j) PV.any)]), (10, AI ↑x.1), (11, AI ↑x.2.1), (20, AB ((↑x.1 : Int) != (↑x.2.1 : Int)))] [(100000, .row .u true 1 N (fun i x_1 => PI (↑(swR x.2.2 (IntKind.i64.wrap ((↑m : Int) - ↑x.1)).toNat m x.1 i) : Int)) [])]))) := by intros; kernel_rfl
theorem c_rot (s : SK) (N : Nat) (D : Nat → Nat) (a m b : Nat) (h : a < m ∧ m < b ∧ b ≤ N ∧ N ≤ 1048576) : PObj Tryz.prog G0 98 [.own 0, AI a, AI m, AI b, sgFn s] [(0, OR N D)] (.tp []) [(0, OR N (rotF D a m b))] := by
  obtain ⟨h1, h2, h3, h4⟩ := h
  refine PObj.by chk98 rfl (ev_rot s N D a m b) ?_
  have e0 : IntKind.i64.wrap ((m : Int) - a) = ((m - a : Nat) : Int) := (wrap_in (by omega) (by omega)).trans (by omega)
  have e0' : IntKind.i64.wrap ((b : Int) - m) = ((b - m : Nat) : Int) := (wrap_in (by omega) (by omega)).trans (by omega)
  refine loop_by (st_rot s N m) (fun x => 0 < x.1 ∧ 0 < x.2.1 ∧ x.1 ≤ m ∧ m + x.2.1 ≤ N ∧ rotF x.2.2 (m - x.1) m (m + x.2.1) = rotF D a m b) (fun x => x.1 + x.2.1) (m - a, b - m, D) [] [] [] ⟨by simp only []; omega, by simp only []; omega, by simp only []; omega, by simp only []; omega, by simp only []; rw [show m - (m - a) = a by omega, show m + (b - m) = b by omega]⟩ ?_ (evr_rot s N D m) fun x hx => ?_
  · simp [st_rot, leA, PV.Le_self, e0, e0', AV.leCs]
  · obtain ⟨i, j, E⟩ := x
    obtain ⟨hi, hj, him, hjN, hE⟩ := hx
    simp only [] at hi hj him hjN hE
    have e1 : IntKind.i64.wrap ((m : Int) - i) = ((m - i : Nat) : Int) := (wrap_in (by omega) (by omega)).trans (by omega)
    have e2 : IntKind.i64.wrap ((m : Int) + j) = ((m + j : Nat) : Int) := wrap_in (by omega) (by omega)
    simp only [vcA, e1, e2, Int.toNat_natCast]
    refine ⟨fun h5 => ⟨fun h6 => ⟨?_, ?_⟩, fun h6 => ⟨?_, ?_⟩⟩, fun h5 => ⟨?_, ?_⟩⟩
    · have := c_swI s N E ((m - i : Nat) : Int) (m : Int) (j : Int) ⟨by omega, by omega, by omega, by omega, h4⟩
      simpa only [Int.toNat_natCast] using this
    · have e3 : IntKind.i64.wrap ((i : Int) - j) = ((i - j : Nat) : Int) := (wrap_in (by omega) (by omega)).trans (by omega)
      refine Again.mk (i - j, j, swR E (m - i) m j) [] [] [] ⟨by simp only []; omega, hj, by simp only []; omega, hjN, ?_⟩ (by simp only []; omega) ?_
      · simp only []; rw [rot_gt E him (by omega)]; exact hE
      · simp [st_rot, leA, PV.Le_self, e3, AV.leCs]
    · have h7 : i < j := by
        have : ¬ i = j := fun e => by rw [e] at h5; simp at h5
        omega
      have e3 : IntKind.i64.wrap (((m + j : Nat) : Int) - i) = ((m + j - i : Nat) : Int) := (wrap_in (by omega) (by omega)).trans (by omega)
      have := c_swI s N E ((m - i : Nat) : Int) ((m + j - i : Nat) : Int) (i : Int) ⟨by omega, by omega, by omega, by omega, h4⟩
      simpa only [Int.toNat_natCast, e3] using this
    · have h7 : i < j := by
        have : ¬ i = j := fun e => by rw [e] at h5; simp at h5
        omega
      have e3 : IntKind.i64.wrap ((j : Int) - i) = ((j - i : Nat) : Int) := (wrap_in (by omega) (by omega)).trans (by omega)
      have e4 : IntKind.i64.wrap (((m + j : Nat) : Int) - i) = ((m + j - i : Nat) : Int) := (wrap_in (by omega) (by omega)).trans (by omega)
      refine Again.mk (i, j - i, swR E (m - i) (m + j - i) i) [] [] [] ⟨hi, by simp only []; omega, him, by simp only []; omega, ?_⟩ (by simp only []; omega) ?_
      · simp only []; rw [rot_lt E him h7]; exact hE
      · simp only [e3, e4, Int.toNat_natCast]
        simp [st_rot, leA, PV.Le_self, AV.leCs]
    · have := c_swI s N E ((m - i : Nat) : Int) (m : Int) (i : Int) ⟨by omega, by omega, by omega, by
        have : (i : Int) = j := by simpa using h5
        omega, h4⟩
      simpa only [Int.toNat_natCast] using this
    · have h7 : i = j := by
        have : (i : Int) = j := by simpa using h5
        omega
      subst h7
      rw [rot_eq E him, hE]
      refine ResOk.mk [] [(0, 100000)] [] _ _ ?_ ⟨rfl, rfl⟩
      simp [doneC, resOf, resAV, tup, pinR, PV.Le_self, leA, res98]
theorem c_rotI (s : SK) (N : Nat) (D : Nat → Nat) (a m b : Int) (h : 0 ≤ a ∧ a < m ∧ m < b ∧ b ≤ N ∧ N ≤ 1048576) : PObj Tryz.prog G0 98 [.own 0, AI a, AI m, AI b, sgFn s] [(0, OR N D)] (.tp []) [(0, OR N (rotF D a.toNat m.toNat b.toNat))] := by
  obtain ⟨a, rfl⟩ : ∃ k : Nat, a = k := ⟨a.toNat, by omega⟩
  obtain ⟨m, rfl⟩ : ∃ k : Nat, m = k := ⟨m.toNat, by omega⟩
  obtain ⟨b, rfl⟩ : ∃ k : Nat, b = k := ⟨b.toNat, by omega⟩
  exact c_rot s N D a m b ⟨by omega, by omega, by omega, h.2.2.2.2⟩
end Go.Gw
