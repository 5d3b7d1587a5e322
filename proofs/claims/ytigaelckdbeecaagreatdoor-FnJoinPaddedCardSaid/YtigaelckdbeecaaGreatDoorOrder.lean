/- OrderRows, of the program and of the model; with no condition. -/
import Derived.Test.YtigaelckdbeecaaGreatDoorSortRows
import Derived.KernelRfl
namespace Go.Gw
open Go Go.Proofs
set_option linter.unusedSimpArgs false
set_option linter.unusedVariables false
set_option maxRecDepth 100000
def ir28_L1 : Ir := (.seq (.seq (.reg [6, 7, 8] [om 6 5, om 7 0, o 8 (.len (tt 7)), ob .lss 9 6 8]) (.cond (tt 9) .skip (.exit 0))) (.seq (.block 1 (.seq (.reg [12, 13, 14, 15, 16] [om 12 0, om 13 5, ox 14 12 13, ol 15 14, om 16 1, ob .eql 17 15 16]) (.cond (tt 17) (.seq (.reg [18] [om 18 5, om 4 18]) .ret) .skip))) (.reg [10, 11] [om 10 5, o 11 (.bin .add (tt 10) (ci 1)), om 5 11])))
def ir28_T2 : Ir := (.seq (.reg [] [o 4 (.mov (ci (-1)))]) .ret)
def ir28 : Ir := (.seq (.reg [] [o 4 (.mov (ci 0))]) (.seq (.seq (.reg [] [o 5 (.mov (ci 0))]) (.block 0 (.loop ir28_L1))) ir28_T2))
def keep28 : List Nat := [0, 1, 4, 5, 9, 17]
def res28 : List RI := [.tmp 4]
theorem chk28 : chk Tryz.prog 28 2 keep28 = some (ir28, res28) := by kernel_rfl
def ir55 : Ir := (.seq (.reg [] [o 5 (.box 1 (tt 2)), o 6 (.mov (.const .nilFunc))]) (.seq (.reg [8, 9, 10] [om 8 0, om 9 1, o 10 (.call 20 [(tt 8), (tt 9)]), o 7 (.alloc [(.int .i64 0)]), on (.store 1 (tt 7) (tt 10))]) (.seq (.reg [11] [o 11 (.mkFn 76 [] [(tt 7), (tt 5)]), om 6 11]) .ret)))
def keep55 : List Nat := [0, 1, 2, 5, 6, 7]
def res55 : List RI := [.tmp 6]
theorem chk55 : chk Tryz.prog 55 3 keep55 = some (ir55, res55) := by kernel_rfl
def ir76 : Ir := (.seq (.reg [] [o 6 (.mov (ci 0))]) (.seq (.seq (.dreg [7, 8, 9, 10, 11, 12, 13, 14, 15, 16, 17, 18] [0, 1, 3, 7, 7, 31, 63, 7, 7, 391, 903, 2047, 4095] [(0, 1007), (4, 1011), (6, 1013), (8, 1015), (10, 1017)] [ol 7 2, o 8 (.bin .geq (tt 7) (ci 0)), om 9 8, og 10 9 true (.mov (tt 0)), og 11 9 true (.load false 1 (tt 2)), og 12 9 true (.idx 1 (tt 10) (tt 11)), og 13 9 true (.load false 1 (tt 12)), og 14 9 true (.mov (tt 1)), og 15 9 true (.load false 1 (tt 2)), og 16 9 true (.idx 1 (tt 14) (tt 15)), og 17 9 true (.load false 1 (tt 16)), og 18 9 true (.bin .neq (tt 13) (tt 17)), o 19 (.pick (tt 9) (tt 18) (cb false))]) (.cond (tt 19) (.seq (.seq (.reg [] [ol 20 3]) (.cond (tt 20) (.seq (.dreg [21, 22, 23, 24, 25, 26, 27, 28, 29] [0, 0, 3, 7, 0, 0, 48, 112, 255, 511] [(1, 1022), (3, 1024), (5, 1026), (7, 1028), (8, 1029), (8, 2029), (8, 3029), (8, 4029), (8, 5029), (8, 6029), (8, 7029), (8, 8029)] [om 21 1, ol 22 2, ox 23 21 22, ol 24 23, om 25 0, ol 26 2, ox 27 25 26, ol 28 27, o 29 (.call 77 [(tt 24), (tt 28)]), om 6 29]) .ret) .skip)) (.seq (.dreg [30, 31, 32, 33, 34, 35, 36, 37, 38] [0, 0, 3, 7, 0, 0, 48, 112, 255, 511] [(1, 1031), (3, 1033), (5, 1035), (7, 1037), (8, 1038), (8, 2038), (8, 3038), (8, 4038), (8, 5038), (8, 6038), (8, 7038), (8, 8038)] [om 30 0, ol 31 2, ox 32 30 31, ol 33 32, om 34 1, ol 35 2, ox 36 34 35, ol 37 36, o 38 (.call 77 [(tt 33), (tt 37)]), om 6 38]) .ret)) .skip)) (.seq (.reg [39, 40, 41] [om 39 0, om 40 1, o 41 (.call 75 [(tt 39), (tt 40)]), om 6 41]) .ret)))
def keep76 : List Nat := [0, 1, 2, 3, 6, 19, 20]
def res76 : List RI := [.tmp 6]
theorem chk76 : chk Tryz.prog 76 4 keep76 = some (ir76, res76) := by kernel_rfl
def ir60_L1 : Ir := (.seq (.seq (.reg [6, 7, 8] [om 6 4, om 7 0, o 8 (.len (tt 7)), ob .lss 9 6 8]) (.cond (tt 9) .skip (.exit 0))) (.seq (.block 1 (.reg [12, 13, 14, 15, 16, 17, 18, 19, 20] [om 12 3, o 13 (.mkSl 1 0 [(.int .i64 0)] []), om 14 0, om 15 4, ox 16 14 15, ol 17 16, o 18 (.app 1 8 true (tt 13) (tt 17)), o 19 (.mkSl 1 1 [(.slice none 0 0)] [(0, (tt 18))]), o 20 (.app 1 24 false (tt 12) (tt 19)), om 3 20])) (.reg [10, 11] [om 10 4, o 11 (.bin .add (tt 10) (ci 1)), om 4 11])))
def ir60_T2 : Ir := (.seq (.reg [21] [om 21 3, om 2 21]) .ret)
def ir60 : Ir := (.seq (.reg [] [o 2 (.mov (.const (.slice none 0 0)))]) (.seq (.reg [5] [o 5 (.mkSl 1 0 [(.slice none 0 0)] []), om 3 5]) (.seq (.seq (.reg [] [o 4 (.mov (ci 0))]) (.block 0 (.loop ir60_L1))) ir60_T2)))
def keep60 : List Nat := [0, 2, 3, 4, 9]
def res60 : List RI := [.tmp 2]
theorem chk60 : chk Tryz.prog 60 1 keep60 = some (ir60, res60) := by kernel_rfl
def colT (f : Nat → ByteArray) (x : ByteArray) : Nat → Int
  | 0 => -1
  | N + 1 => if 0 ≤ colT f x N then colT f x N else if (x.toList == (f N).toList) = true then (N : Int) else -1
theorem colT_lt (f : Nat → ByteArray) (x : ByteArray) : ∀ N, -1 ≤ colT f x N ∧ colT f x N < N
  | 0 => by simp [colT]
  | N + 1 => by
    have := colT_lt f x N
    simp only [colT]
    split
    · omega
    · split <;> omega
theorem colT_no {f : Nat → ByteArray} {x : ByteArray} : ∀ {N : Nat}, (∀ j, j < N → (x.toList == (f j).toList) = false) → colT f x N = -1
  | 0, _ => rfl
  | N + 1, h => by
    simp only [colT, colT_no (N := N) fun j hj => h j (by omega), h N (by omega)]
    simp
theorem colT_at {f : Nat → ByteArray} {x : ByteArray} {k : Nat} (hk : (x.toList == (f k).toList) = true) (h : ∀ j, j < k → (x.toList == (f j).toList) = false) : ∀ {N : Nat}, k < N → colT f x N = k
  | N + 1, hN => by
    by_cases h1 : k = N
    · subst h1
      simp only [colT, colT_no h, hk]
      simp
    · simp only [colT, colT_at (N := N) hk h (by omega)]
      rw [if_pos (by omega)]
theorem colT_has (f : Nat → ByteArray) (x : ByteArray) : ∀ N, decide (0 ≤ colT f x N) = hasT f x N
  | 0 => by simp [colT, hasT, allB]
  | N + 1 => by
    have ih := colT_has f x N
    simp only [hasT, allB] at ih ⊢
    simp only [colT]
    by_cases h : 0 ≤ colT f x N
    · simp only [h, if_true, decide_true] at ih ⊢
      rw [Bool.not_and, ← ih]; simp
    · simp only [h, if_false, decide_false] at ih ⊢
      rw [Bool.not_and, ← ih]
      by_cases h2 : (x.toList == (f N).toList) = true
      · simp [h2]
      · simp only [Bool.not_eq_true] at h2
        simp [h2]
theorem c_ixT (nn : Bool) (n : Nat) (f : Nat → ByteArray) (s : ByteArray) (hn : n ≤ 1048576) : PRet Tryz.prog G0 20 [TL nn n f, AT s] (AI (colT f s n)) := by
  refine PRet.by chk20 (ev_idxT nn n f s) ?_
  refine loop_by (st_idxT nn n f s) (fun k => k ≤ n ∧ ∀ j, j < k → (s.toList == (f j).toList) = false) (fun k => n - k) 0 [] [] [] (by simp) ?_ (evr_idxT nn n f s) fun k hk => ?_
  · simp [st_idxT, leA, PV.Le_self]
  · obtain ⟨hk, hall⟩ := hk
    simp only [vcA, Int.toNat_natCast]
    refine ⟨fun h1 => ⟨by omega, fun h2 => ?_, fun h2 => Again.mk (k + 1) [] [] [] ⟨by omega, fun j hj => ?_⟩ (by omega) ?_⟩, fun h1 => ?_⟩
    · rw [colT_at h2 hall (by omega)]; simp
    · by_cases h3 : j = k
      · subst h3; exact h2
      · exact hall j (by omega)
    · have e1 : IntKind.i64.wrap ((k : Int) + 1) = ((k + 1 : Nat) : Int) := wrap_in (by omega) (by omega)
      simp only [e1, st_idxT]
      simp [leA, PV.Le_self]
    · have : k = n := by omega
      subst this
      rw [colT_no hall]; simp
theorem ev_l1C : ∀ (nn : Bool) (n : Nat) (f : Nat → ByteArray) (s : ByteArray), ev G0 res28 [] 3000 Or.nil [.ir ir28] (start [TL nn n f, AT s] []) = VC.loop ir28_L1 [.bend 0, .ir ir28_T2] (St.mk [(0, TL nn n f), (1, AT s), (4, AI 0), (5, AI 0)] []) := by intros; kernel_rfl
def st_l1C (nn : Bool) (n : Nat) (f : Nat → ByteArray) (s : ByteArray) (k : Nat) : St := ⟨[(0, TL nn n f), (1, AT s), (5, AI k)], []⟩
theorem evr_l1C : ∀ (nn : Bool) (n : Nat) (f : Nat → ByteArray) (s : ByteArray) (I : Nat → St → Prop) (k : Nat), ev G0 res28 [] 3000 ((Or.nil.split Or.nil).split Or.nil) [.ir ir28_L1, .lend (I k), .bend 0, .ir ir28_T2] (st_l1C nn n f s k) = VC.split (decide ((↑k : Int) < ↑n)) (VC.need (0 ≤ (↑k : Int) ∧ k < n) (VC.split ((f k).toList == s.toList) (VC.doneP (AI ↑k)) (VC.lend (I k) (St.mk [(0, TL nn n f), (1, AT s), (5, AI (IntKind.i64.wrap ((↑k : Int) + 1))), (9, AB (decide ((↑k : Int) < ↑n))), (17, AB ((f k).toList == s.toList))] [])))) (VC.doneP (AI (-1))) := by intros; kernel_rfl
def ordL (c : Nat) (dn : Bool) (x y : List Int) : Int :=
  if x.getD c 0 = y.getD c 0 then lexL x y else if dn then cmp3 (y.getD c 0) (x.getD c 0) else cmp3 (x.getD c 0) (y.getD c 0)
def keyO (c : Nat) (dn : Bool) (x : List Int) : Int := if dn then - x.getD c 0 else x.getD c 0
def ltO (c : Nat) (dn : Bool) (x y : List Int) : Bool := decide (ordL c dn x y < 0)
theorem ltO_iff (c : Nat) (dn : Bool) (x y : List Int) : ltO c dn x y = true ↔ (keyO c dn x < keyO c dn y ∨ (keyO c dn x = keyO c dn y ∧ ltL x y = true)) := by
  unfold ltO ltL
  rw [decide_eq_true_iff, decide_eq_true_iff]
  unfold ordL keyO cmp3
  generalize x.getD c 0 = a
  generalize y.getD c 0 = b
  cases dn <;> simp only [if_true, Bool.false_eq_true, if_false] <;> split <;> (try split) <;> (try split) <;> omega
theorem ltO_ff (c : Nat) (dn : Bool) (x y : List Int) : ltO c dn x y = false ↔ (keyO c dn y < keyO c dn x ∨ (keyO c dn x = keyO c dn y ∧ ltL x y = false)) := by
  have h := ltO_iff c dn x y
  cases h1 : ltO c dn x y with
  | true =>
    have h2 := h.1 h1
    refine ⟨fun h => (by cases h), fun h3 => ?_⟩
    rcases h2 with h2 | ⟨h2, h4⟩ <;> rcases h3 with h3 | ⟨h3, h5⟩
    · omega
    · omega
    · omega
    · rw [h4] at h5; cases h5
  | false =>
    refine ⟨fun _ => ?_, fun _ => rfl⟩
    have h2 : ¬ (keyO c dn x < keyO c dn y ∨ (keyO c dn x = keyO c dn y ∧ ltL x y = true)) := fun h3 => by rw [h.2 h3] at h1; cases h1
    by_cases h3 : keyO c dn y < keyO c dn x
    · exact .inl h3
    · have h4 : keyO c dn x = keyO c dn y := by
        have : ¬ keyO c dn x < keyO c dn y := fun h => h2 (.inl h)
        omega
      refine .inr ⟨h4, ?_⟩
      cases h5 : ltL x y with
      | false => rfl
      | true => exact absurd (.inr ⟨h4, h5⟩) h2
theorem ltO_swo (c : Nat) (dn : Bool) : Go.Sort.SWO (ltO c dn) where
  irrefl x := (ltO_ff c dn x x).2 (.inr ⟨rfl, lt_swo.irrefl x⟩)
  trans x y z h1 h2 := by
    rw [ltO_iff] at *
    rcases h1 with h1 | ⟨h1, h3⟩ <;> rcases h2 with h2 | ⟨h2, h4⟩
    · exact .inl (by omega)
    · exact .inl (by omega)
    · exact .inl (by omega)
    · exact .inr ⟨by omega, lt_swo.trans _ _ _ h3 h4⟩
  ntrans x y z h1 h2 := by
    rw [ltO_ff] at *
    rcases h1 with h1 | ⟨h1, h3⟩ <;> rcases h2 with h2 | ⟨h2, h4⟩
    · exact .inl (by omega)
    · exact .inl (by omega)
    · exact .inl (by omega)
    · exact .inr ⟨by omega, lt_swo.ntrans _ _ _ h3 h4⟩
theorem ltO_anti (c : Nat) (dn : Bool) (x y : List Int) (h1 : ltO c dn x y = false) (h2 : ltO c dn y x = false) : x = y := by
  rw [ltO_ff] at *
  rcases h1 with h1 | ⟨h1, h3⟩ <;> rcases h2 with h2 | ⟨h2, h4⟩
  · omega
  · omega
  · omega
  · exact lt_anti _ _ h3 h4
theorem ev_rO : ∀ (nn : Bool) (n : Nat) (f : Nat → ByteArray) (s : ByteArray) (dn : Bool), ev G0 res55 [] 3000 (Or.call [] (AI (colT f s n)) [] Or.nil) [.ir ir55] (start [TL nn n f, AT s, AB dn] []) = VC.call 20 [TL nn n f, AT s] [] (AI (colT f s n)) [] (VC.done (St.mk [(0, TL nn n f), (1, AT s), (2, AB dn), (5, .adr 5 0), (6, AV.cl 76 [] [.adr 7 0, .adr 5 0]), (7, .adr 7 0)] [(5, .box [AB dn]), (7, .box [AI (colT f s n)])])) := by intros; kernel_rfl
theorem c_rO (nn : Bool) (n : Nat) (f : Nat → ByteArray) (s : ByteArray) (dn : Bool) (hn : n ≤ 1048576) : PObj Tryz.prog G0 55 [TL nn n f, AT s, AB dn] [] (.cl 76 [] [.adr 0 0, .adr 1 0]) [(0, .box [AI (colT f s n)]), (1, .box [AB dn])] := by
  refine PObj.by chk55 rfl (ev_rO nn n f s dn) ?_
  simp only [vcA]
  refine ⟨c_ixT _ _ _ _ hn, ResOk.mk [] [(0, 7), (1, 5)] [] _ _ ?_ ⟨rfl, rfl⟩⟩
  simp [doneC, resOf, resAV, tup, pinR, PV.Le_self, leA, res55, AV.leCs]
theorem c_l1C (nn : Bool) (n : Nat) (f : Nat → ByteArray) (s : ByteArray) (hn : n ≤ 1048576) : PRet Tryz.prog G0 28 [TL nn n f, AT s] (AI (colT f s n)) := by
  refine PRet.by chk28 (ev_l1C nn n f s) ?_
  refine loop_by (st_l1C nn n f s) (fun k => k ≤ n ∧ ∀ j, j < k → (s.toList == (f j).toList) = false) (fun k => n - k) 0 [] [] [] (by simp) ?_ (evr_l1C nn n f s) fun k hk => ?_
  · simp [st_l1C, leA, PV.Le_self]
  · obtain ⟨hk, hall⟩ := hk
    simp only [vcA, Int.toNat_natCast]
    refine ⟨fun h1 => ⟨by omega, fun h2 => ?_, fun h2 => Again.mk (k + 1) [] [] [] ⟨by omega, fun j hj => ?_⟩ (by omega) ?_⟩, fun h1 => ?_⟩
    · rw [colT_at (by rw [beq_swap]; exact h2) hall (by omega)]; simp
    · by_cases h3 : j = k
      · subst h3; rw [beq_swap]; exact h2
      · exact hall j (by omega)
    · have e1 : IntKind.i64.wrap ((k : Int) + 1) = ((k + 1 : Nat) : Int) := wrap_in (by omega) (by omega)
      simp only [e1, st_l1C]
      simp [leA, PV.Le_self]
    · have : k = n := by omega
      subst this
      rw [colT_no hall]; simp
theorem tab_w {n : Nat} {f : Nat → ByteArray} {m : Nat} {w : Nat → Nat} {h : Nat → Nat → Int} (ht : tableB n f m w h = true) : ∀ i, i < m → w i = n := fun i hi => by
  simp only [tableB, rowsB, Bool.and_eq_true] at ht
  have := allB_iff.1 ht.2 i hi
  simp only [rowB, Bool.and_eq_true, decide_eq_true_eq] at this
  exact this.1
theorem ev_ownR : ∀ (nn : Bool) (m : Nat) (w : Nat → Nat) (h : Nat → Nat → Int), ev G0 res60 [] 3000 Or.nil [.ir ir60] (start [RL nn m w h] []) = VC.loop ir60_L1 [.bend 0, .ir ir60_T2] (St.mk [(0, RL nn m w h), (2, AV.p true (PV.v (Value.slice none 0 0))), (3, .own 5), (4, AI 0)] [(5, .row .u true 1 0 (setG [] fun x j => PV.v ([Value.slice none 0 0].getD j undef)) [])]) := by intros; kernel_rfl
def st_ownR (nn : Bool) (m : Nat) (w : Nat → Nat) (h : Nat → Nat → Int) (k : Nat) : St := ⟨[(0, RL nn m w h), (3, .own 5), (4, AI k)], [(5, .row .u false 1 k (RR w h) [])]⟩
theorem evr_ownR : ∀ (nn : Bool) (m : Nat) (w : Nat → Nat) (h : Nat → Nat → Int) (I : Nat → St → Prop) (k : Nat), ev G0 res60 [] 3000 (Or.nil.split Or.nil) [.ir ir60_L1, .lend (I k), .bend 0, .ir ir60_T2] (st_ownR nn m w h k) = VC.split (decide ((↑k : Int) < ↑m)) (VC.need (0 ≤ (↑k : Int) ∧ k < m) (VC.need (((0 + w k) * 8 ≤ 140737488355328 ∧ (↑(0 + w k) : Int) ≤ 9223372036854775807) ∧ allV 1 (w k) fun j x => PI (h k j)) (VC.need (((k + 1) * 24 ≤ 140737488355328 ∧ (↑(k + 1) : Int) ≤ 9223372036854775807) ∧ allOne 1 1 (setG [(0, 0, PV.sl true 1 (0 + w k) fun a b => if a < 0 then setG [] (fun x j => PV.v ([Value.int IntKind.i64 0].getD j undef)) a b else PI (h k (a - 0)))] fun x j => PV.v ([Value.slice none 0 0].getD j undef))) (VC.lend (I k) (St.mk [(0, RL nn m w h), (3, .own 20), (4, AI (IntKind.i64.wrap ((↑k : Int) + 1))), (9, AB (decide ((↑k : Int) < ↑m)))] [(20, .row .u false 1 (k + 1) (fun a b => if a < k then RR w h a b else setG [(0, 0, PV.sl true 1 (0 + w k) fun a_1 b_1 => if a_1 < 0 then setG [] (fun x j => PV.v ([Value.int IntKind.i64 0].getD j undef)) a_1 b_1 else PI (h k (a_1 - 0)))] (fun x j => PV.v ([Value.slice none 0 0].getD j undef)) (a - k) b) [])]))))) (VC.done (St.mk [(0, RL nn m w h), (3, .own 5), (4, AI ↑k), (9, AB (decide ((↑k : Int) < ↑m))), (2, .own 5)] [(5, .row .u false 1 k (RR w h) [])])) := by intros; kernel_rfl
theorem c_ownR (nn : Bool) (m : Nat) (w : Nat → Nat) (h : Nat → Nat → Int) (hm : m ≤ 1048576) (hw : ∀ i, i < m → w i ≤ 1048576) : PObj Tryz.prog G0 60 [RL nn m w h] [] (.own 0) [(0, .row .u false 1 m (RR w h) [])] := by
  refine PObj.by chk60 rfl (ev_ownR nn m w h) ?_
  refine loop_by (st_ownR nn m w h) (fun k => k ≤ m) (fun k => m - k) 0 [] [] [] (by omega) ?_ (evr_ownR nn m w h) fun k hk => ?_
  · simp [st_ownR, leA, PV.Le_self]
  · simp only [vcA, Int.toNat_natCast]
    refine ⟨fun h0 => ?_, fun h0 => ?_⟩
    · have hwk := hw k (by omega)
      refine ⟨by omega, ⟨by omega, fun _ _ _ _ => rfl⟩, ⟨by omega, ?_⟩, Again.mk (k + 1) [] [(5, 20)] [] (by omega) (by omega) ?_⟩
      · intro i j hi hj
        obtain rfl : i = 0 := by omega
        obtain rfl : j = 0 := by omega
        rfl
      · have : IntKind.i64.wrap ((k : Int) + 1) = ((k + 1 : Nat) : Int) := wrap_in (by omega) (by omega)
        simp [st_ownR, leA, PV.Le_self, this]
        intro i hi
        by_cases h1 : i < k
        · simp [h1]; exact RR_le rfl (fun _ _ => rfl)
        · obtain rfl : i = k := by omega
          simp [setG, cellSet]
          exact .sl _ _ (fun e => (by cases e)) _ _ _ _ _ rfl fun j l hj hl => .refl _
    · have : k = m := by omega
      subst this
      refine ResOk.mk [] [(0, 5)] [] _ _ ?_ ⟨rfl, rfl⟩
      simp [doneC, resOf, resAV, tup, pinR, PV.Le_self, leA, res60]
abbrev nilT : AV := .p true (.v (.slice none 0 0))
end Go.Gw
