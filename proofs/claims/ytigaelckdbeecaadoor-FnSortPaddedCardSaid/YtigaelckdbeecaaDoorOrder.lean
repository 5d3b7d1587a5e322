/- OrderRows, of the program and of the model; with no condition. -/
import Derived.Test.YtigaelckdbeecaaDoorSortRows
import Derived.KernelRfl
namespace Go.Gw
open Go Go.Proofs
set_option linter.unusedSimpArgs false
set_option linter.unusedVariables false
set_option maxRecDepth 100000
def ir25_L1 : Ir :=
  (.seq
  (.seq
  (.reg [6, 7, 8] [o 6 (.mov (tt 5)),
    o 7 (.mov (tt 0)),
    o 8 (.len (tt 7)),
    o 9 (.bin .lss (tt 6) (tt 8))])
  (.cond (tt 9)
   .skip
   (.exit 0)))
  (.seq
  (.block 1
   (.seq
   (.reg [12, 13, 14, 15, 16] [o 12 (.mov (tt 0)),
     o 13 (.mov (tt 5)),
     o 14 (.idx 1 (tt 12) (tt 13)),
     o 15 (.load false 1 (tt 14)),
     o 16 (.mov (tt 1)),
     o 17 (.bin .eql (tt 15) (tt 16))])
   (.cond (tt 17)
    (.seq
    (.reg [18] [o 18 (.mov (tt 5)),
      o 4 (.mov (tt 18))])
    .ret)
    .skip)))
  (.reg [10, 11] [o 10 (.mov (tt 5)),
    o 11 (.bin .add (tt 10) (ci 1)),
    o 5 (.mov (tt 11))])))
def ir25_T2 : Ir :=
  (.seq
  (.reg [] [o 4 (.mov (ci (-1)))])
  .ret)
def ir25 : Ir :=
  (.seq
  (.reg [] [o 4 (.mov (ci 0))])
  (.seq
  (.seq
  (.reg [] [o 5 (.mov (ci 0))])
  (.block 0
   (.loop ir25_L1)))
  ir25_T2))
def keep25 : List Nat := [0, 1, 4, 5, 9, 17]
def res25 : List RI := [.tmp 4]
theorem chk25 : chk Tryd.prog 25 2 keep25 = some (ir25, res25) := by kernel_rfl
def ir41 : Ir :=
  (.seq
  (.reg [] [o 5 (.box 1 (tt 2)),
    o 6 (.mov (.const .nilFunc))])
  (.seq
  (.reg [8, 9, 10] [o 8 (.mov (tt 0)),
    o 9 (.mov (tt 1)),
    o 10 (.call 52 [(tt 8), (tt 9)]),
    o 7 (.alloc [(.int .i64 0)]),
    on (.store 1 (tt 7) (tt 10))])
  (.seq
  (.reg [11] [o 11 (.mkFn 66 [] [(tt 7), (tt 5)]),
    o 6 (.mov (tt 11))])
  .ret)))
def keep41 : List Nat := [0, 1, 2, 5, 6, 7]
def res41 : List RI := [.tmp 6]
theorem chk41 : chk Tryd.prog 41 3 keep41 = some (ir41, res41) := by kernel_rfl
def ir66 : Ir :=
  (.seq
  (.reg [] [o 6 (.mov (ci 0))])
  (.seq
  (.seq
  (.dreg [7, 8, 9, 10, 11, 12, 13, 14, 15, 16, 17, 18] [0, 1, 3, 7, 7, 31, 63, 7, 7, 391, 903, 2047, 4095] [(0, 1007), (4, 1011), (6, 1013), (8, 1015), (10, 1017)] [o 7 (.load false 1 (tt 2)),
    o 8 (.bin .geq (tt 7) (ci 0)),
    o 9 (.mov (tt 8)),
    og 10 9 true (.mov (tt 0)),
    og 11 9 true (.load false 1 (tt 2)),
    og 12 9 true (.idx 1 (tt 10) (tt 11)),
    og 13 9 true (.load false 1 (tt 12)),
    og 14 9 true (.mov (tt 1)),
    og 15 9 true (.load false 1 (tt 2)),
    og 16 9 true (.idx 1 (tt 14) (tt 15)),
    og 17 9 true (.load false 1 (tt 16)),
    og 18 9 true (.bin .neq (tt 13) (tt 17)),
    o 19 (.pick (tt 9) (tt 18) (cb false))])
  (.cond (tt 19)
   (.seq
   (.seq
   (.reg [] [o 20 (.load false 1 (tt 3))])
   (.cond (tt 20)
    (.seq
    (.dreg [21, 22, 23, 24, 25, 26, 27, 28, 29] [0, 0, 3, 7, 0, 0, 48, 112, 255, 511] [(1, 1022), (3, 1024), (5, 1026), (7, 1028), (8, 1029), (8, 2029), (8, 3029), (8, 4029), (8, 5029), (8, 6029), (8, 7029), (8, 8029)] [o 21 (.mov (tt 1)),
      o 22 (.load false 1 (tt 2)),
      o 23 (.idx 1 (tt 21) (tt 22)),
      o 24 (.load false 1 (tt 23)),
      o 25 (.mov (tt 0)),
      o 26 (.load false 1 (tt 2)),
      o 27 (.idx 1 (tt 25) (tt 26)),
      o 28 (.load false 1 (tt 27)),
      o 29 (.call 65 [(tt 24), (tt 28)]),
      o 6 (.mov (tt 29))])
    .ret)
    .skip))
   (.seq
   (.dreg [30, 31, 32, 33, 34, 35, 36, 37, 38] [0, 0, 3, 7, 0, 0, 48, 112, 255, 511] [(1, 1031), (3, 1033), (5, 1035), (7, 1037), (8, 1038), (8, 2038), (8, 3038), (8, 4038), (8, 5038), (8, 6038), (8, 7038), (8, 8038)] [o 30 (.mov (tt 0)),
     o 31 (.load false 1 (tt 2)),
     o 32 (.idx 1 (tt 30) (tt 31)),
     o 33 (.load false 1 (tt 32)),
     o 34 (.mov (tt 1)),
     o 35 (.load false 1 (tt 2)),
     o 36 (.idx 1 (tt 34) (tt 35)),
     o 37 (.load false 1 (tt 36)),
     o 38 (.call 65 [(tt 33), (tt 37)]),
     o 6 (.mov (tt 38))])
   .ret))
   .skip))
  (.seq
  (.reg [39, 40, 41] [o 39 (.mov (tt 0)),
    o 40 (.mov (tt 1)),
    o 41 (.call 40 [(tt 39), (tt 40)]),
    o 6 (.mov (tt 41))])
  .ret)))
def keep66 : List Nat := [0, 1, 2, 3, 6, 19, 20]
def res66 : List RI := [.tmp 6]
theorem chk66 : chk Tryd.prog 66 4 keep66 = some (ir66, res66) := by kernel_rfl
def ir12 : Ir :=
  (.seq
  (.reg [] [o 3 (.box 2 (tt 0)),
    o 6 (.alloc [(.slice none 0 0), (.slice none 0 0)]),
    o 7 (.mov (cb false))])
  (.seq
  (.seq
  (.reg [9, 10, 11, 12, 13, 14, 15, 16, 17] [o 9 (.load true 2 (tt 3)),
    o 10 (.call 37 [(tt 9)]),
    o 11 (.un .not (tt 10)),
    o 12 (.mov (tt 11)),
    og 13 12 false (.fadr 0 (tt 3)),
    og 14 12 false (.load false 1 (tt 13)),
    og 15 12 false (.mov (tt 1)),
    og 16 12 false (.call 21 [(tt 14), (tt 15)]),
    og 17 12 false (.un .not (tt 16)),
    o 18 (.pick (tt 12) (cb true) (tt 17))])
  (.cond (tt 18)
   (.seq
   (.reg [19] [o 19 (.build [(.slice none 0 0), (.slice none 0 0)] []),
     on (.store 2 (tt 6) (tt 19)),
     o 7 (.mov (cb false))])
   .ret)
   .skip))
  (.seq
  (.reg [20, 21] [o 20 (.load true 2 (tt 3)),
    o 21 (.call 38 [(tt 20)]),
    o 8 (.alloc [(.slice none 0 0), (.slice none 0 0)]),
    on (.store 2 (tt 8) (tt 21))])
  (.seq
  (.dreg [22, 23, 24, 25, 26, 27, 28, 29] [0, 1, 0, 4, 0, 0, 60, 127] [(1, 1023), (3, 1025), (6, 1028), (6, 2028), (6, 3028), (6, 4028), (6, 5028), (6, 6028), (6, 7028), (6, 8028), (7, 1029), (7, 2029), (7, 3029), (7, 4029), (7, 5029), (7, 6029), (7, 7029), (7, 8029)] [o 22 (.fadr 1 (tt 8)),
    o 23 (.load false 1 (tt 22)),
    o 24 (.fadr 0 (tt 3)),
    o 25 (.load false 1 (tt 24)),
    o 26 (.mov (tt 1)),
    o 27 (.mov (tt 2)),
    o 28 (.call 41 [(tt 25), (tt 26), (tt 27)]),
    o 29 (.call 39 [(tt 23), (tt 28)])])
  (.seq
  (.reg [30] [o 30 (.load true 2 (tt 8)),
    on (.store 2 (tt 6) (tt 30)),
    o 7 (.mov (cb true))])
  .ret)))))
def keep12 : List Nat := [0, 1, 2, 3, 6, 7, 8, 18]
def res12 : List RI := [.cell true 2 6, .tmp 7]
theorem chk12 : chk Tryd.prog 12 3 keep12 = some (ir12, res12) := by kernel_rfl
def ir56_L1 : Ir :=
  (.seq
  (.seq
  (.reg [6, 7, 8] [o 6 (.mov (tt 4)),
    o 7 (.mov (tt 0)),
    o 8 (.len (tt 7)),
    o 9 (.bin .lss (tt 6) (tt 8))])
  (.cond (tt 9)
   .skip
   (.exit 0)))
  (.seq
  (.block 1
   (.reg [12, 13, 14, 15, 16, 17, 18, 19, 20] [o 12 (.mov (tt 3)),
     o 13 (.mkSl 1 0 [(.int .i64 0)] []),
     o 14 (.mov (tt 0)),
     o 15 (.mov (tt 4)),
     o 16 (.idx 1 (tt 14) (tt 15)),
     o 17 (.load false 1 (tt 16)),
     o 18 (.app 1 8 true (tt 13) (tt 17)),
     o 19 (.mkSl 1 1 [(.slice none 0 0)] [(0, (tt 18))]),
     o 20 (.app 1 24 false (tt 12) (tt 19)),
     o 3 (.mov (tt 20))]))
  (.reg [10, 11] [o 10 (.mov (tt 4)),
    o 11 (.bin .add (tt 10) (ci 1)),
    o 4 (.mov (tt 11))])))
def ir56_T2 : Ir :=
  (.seq
  (.reg [21] [o 21 (.mov (tt 3)),
    o 2 (.mov (tt 21))])
  .ret)
def ir56 : Ir :=
  (.seq
  (.reg [] [o 2 (.mov (.const (.slice none 0 0)))])
  (.seq
  (.reg [5] [o 5 (.mkSl 1 0 [(.slice none 0 0)] []),
    o 3 (.mov (tt 5))])
  (.seq
  (.seq
  (.reg [] [o 4 (.mov (ci 0))])
  (.block 0
   (.loop ir56_L1)))
  ir56_T2)))
def keep56 : List Nat := [0, 2, 3, 4, 9]
def res56 : List RI := [.tmp 2]
theorem chk56 : chk Tryd.prog 56 1 keep56 = some (ir56, res56) := by kernel_rfl

/-! ### columns -/
def colT (f : Nat → ByteArray) (x : ByteArray) : Nat → Int
  | 0 => -1
  | N + 1 => if 0 ≤ colT f x N then colT f x N else if (x.toList == (f N).toList) = true then (N : Int) else -1
theorem colT_lt (f : Nat → ByteArray) (x : ByteArray) : ∀ N, -1 ≤ colT f x N ∧ colT f x N < N
  | 0 => by simp [colT]
  | N + 1 => by
    have := colT_lt f x N
    simp only [colT]
    split
    · omega
    · split <;> omega
theorem colT_no {f : Nat → ByteArray} {x : ByteArray} : ∀ {N : Nat}, (∀ j, j < N → (x.toList == (f j).toList) = false) → colT f x N = -1
  | 0, _ => rfl
  | N + 1, h => by
    simp only [colT, colT_no (N := N) fun j hj => h j (by omega), h N (by omega)]
    simp
theorem colT_at {f : Nat → ByteArray} {x : ByteArray} {k : Nat} (hk : (x.toList == (f k).toList) = true) (h : ∀ j, j < k → (x.toList == (f j).toList) = false) : ∀ {N : Nat}, k < N → colT f x N = k
  | N + 1, hN => by
    by_cases h1 : k = N
    · subst h1
      simp only [colT, colT_no h, hk]
      simp
    · simp only [colT, colT_at (N := N) hk h (by omega)]
      rw [if_pos (by omega)]
theorem colT_has (f : Nat → ByteArray) (x : ByteArray) : ∀ N, decide (0 ≤ colT f x N) = hasT f x N
  | 0 => by simp [colT, hasT, allB]
  | N + 1 => by
    have ih := colT_has f x N
    simp only [hasT, allB] at ih ⊢
    simp only [colT]
    by_cases h : 0 ≤ colT f x N
    · simp only [h, if_true, decide_true] at ih ⊢
      rw [Bool.not_and, ← ih]; simp
    · simp only [h, if_false, decide_false] at ih ⊢
      rw [Bool.not_and, ← ih]
      by_cases h2 : (x.toList == (f N).toList) = true
      · simp [h2]
      · simp only [Bool.not_eq_true] at h2
        simp [h2]
theorem c_ixT (nn : Bool) (n : Nat) (f : Nat → ByteArray) (s : ByteArray) (hn : n ≤ 1048576) : PRet Tryd.prog G0 52 [TL nn n f, AT s] (AI (colT f s n)) := by
  refine PRet.by chk52 (ev_idxT nn n f s) ?_
  refine loop_by (st_idxT nn n f s) (fun k => k ≤ n ∧ ∀ j, j < k → (s.toList == (f j).toList) = false) (fun k => n - k) 0 [] [] [] (by simp) ?_ (evr_idxT nn n f s) fun k hk => ?_
  · simp [st_idxT, hbs, St.lowers, St.lower, stLe, leEnv, leObs, obLe, injB, pinC, AV.leC, AV.leCs, PV.leC, PV.Le_v, St.get, St.obj, look, rho, isNew, keptC, renH, Mode.ok, Mode.isZ, PV.isVal, PV.isNilSl, List.all_nil, List.all_cons, List.any_nil, List.any_cons, List.map_nil, List.map_cons, PV.Le_self]
  · obtain ⟨hk, hall⟩ := hk
    simp only [VC.holds_split, VC.holds_need, VC.holds_doneP, VC.holds_done, VC.holds_either, VC.holds_call, VC.holds_callE, VC.holds_lend, VC.holds_stop, VC.holds_fail, decide_eq_true_eq, decide_eq_false_iff_not, Int.toNat_natCast]
    refine ⟨fun h1 => ⟨by omega, fun h2 => ?_, fun h2 => Again.mk (k + 1) [] [] [] ⟨by omega, fun j hj => ?_⟩ (by omega) ?_⟩, fun h1 => ?_⟩
    · rw [colT_at h2 hall (by omega)]; simp
    · by_cases h3 : j = k
      · subst h3; exact h2
      · exact hall j (by omega)
    · have e1 : IntKind.i64.wrap ((k : Int) + 1) = ((k + 1 : Nat) : Int) := wrap_in (by omega) (by omega)
      simp only [e1, st_idxT]
      simp [hbs, St.lowers, St.lower, stLe, leEnv, leObs, obLe, injB, pinC, AV.leC, AV.leCs, PV.leC, PV.Le_v, St.get, St.obj, look, rho, isNew, keptC, renH, Mode.ok, Mode.isZ, PV.isVal, PV.isNilSl, List.all_nil, List.all_cons, List.any_nil, List.any_cons, List.map_nil, List.map_cons, PV.Le_self]
    · have : k = n := by omega
      subst this
      rw [colT_no hall]; simp
theorem ev_l1C : ∀ (nn : Bool) (n : Nat) (f : Nat → ByteArray) (s : ByteArray), ev G0 res25 [] (3000 : Nat) Or.nil [Item.ir ir25] (start [TL nn n f, AT s] []) = VC.loop ir25_L1 [Item.bend (0 : Nat), Item.ir ir25_T2] (St.mk [((0 : Nat), AV.p false (PV.sl nn (1 : Nat) n fun (i x : Nat) => PT (f i))), ((1 : Nat), AV.p true (PV.v (Value.string s))), ((4 : Nat), AV.p true (PV.v (Value.int IntKind.i64 (0 : Int)))), ((5 : Nat), AV.p true (PV.v (Value.int IntKind.i64 (0 : Int))))] []) := by intros; kernel_rfl
def st_l1C (nn : Bool) (n : Nat) (f : Nat → ByteArray) (s : ByteArray) (k : Nat) : St := ⟨[(0, TL nn n f), (1, AT s), (5, AI k)], []⟩
theorem evr_l1C : ∀ (nn : Bool) (n : Nat) (f : Nat → ByteArray) (s : ByteArray) (I : Nat → St → Prop) (k : Nat), ev G0 res25 [] (3000 : Nat) ((Or.nil.split Or.nil).split Or.nil) [Item.ir ir25_L1, Item.lend (I k), Item.bend (0 : Nat), Item.ir ir25_T2] (st_l1C nn n f s k) = VC.split (decide ((↑k : Int) < (↑n : Int))) (VC.need ((0 : Int) ≤ (↑k : Int) ∧ (↑k : Int).toNat < n) (VC.split ((f (↑k : Int).toNat).toList == s.toList) (VC.doneP (AV.p true (PV.v (Value.int IntKind.i64 (↑k : Int))))) (VC.lend (I k) (St.mk [((0 : Nat), AV.p false (PV.sl nn (1 : Nat) n fun (i x : Nat) => PT (f i))), ((1 : Nat), AV.p true (PV.v (Value.string s))), ((5 : Nat), AV.p true (PV.v (Value.int IntKind.i64 (IntKind.i64.wrap ((↑k : Int) + (1 : Int)))))), ((9 : Nat), AV.p true (PV.v (Value.bool (decide ((↑k : Int) < (↑n : Int)))))), ((17 : Nat), AV.p true (PV.v (Value.bool ((f (↑k : Int).toNat).toList == s.toList))))] [])))) (VC.doneP (AV.p true (PV.v (Value.int IntKind.i64 (-1 : Int))))) := by intros; kernel_rfl
/-! ### the order -/
def ordL (c : Nat) (dn : Bool) (x y : List Int) : Int :=
  if x.getD c 0 = y.getD c 0 then lexL x y else if dn then cmp3 (y.getD c 0) (x.getD c 0) else cmp3 (x.getD c 0) (y.getD c 0)
def keyO (c : Nat) (dn : Bool) (x : List Int) : Int := if dn then - x.getD c 0 else x.getD c 0
def ltO (c : Nat) (dn : Bool) (x y : List Int) : Bool := decide (ordL c dn x y < 0)
theorem ltO_iff (c : Nat) (dn : Bool) (x y : List Int) : ltO c dn x y = true ↔ (keyO c dn x < keyO c dn y ∨ (keyO c dn x = keyO c dn y ∧ ltL x y = true)) := by
  unfold ltO ltL
  rw [decide_eq_true_iff, decide_eq_true_iff]
  unfold ordL keyO cmp3
  generalize x.getD c 0 = a
  generalize y.getD c 0 = b
  cases dn <;> simp only [if_true, Bool.false_eq_true, if_false] <;> split <;> (try split) <;> (try split) <;> omega
theorem ltO_ff (c : Nat) (dn : Bool) (x y : List Int) : ltO c dn x y = false ↔ (keyO c dn y < keyO c dn x ∨ (keyO c dn x = keyO c dn y ∧ ltL x y = false)) := by
  have h := ltO_iff c dn x y
  cases h1 : ltO c dn x y with
  | true =>
    have h2 := h.1 h1
    refine ⟨fun h => (by cases h), fun h3 => ?_⟩
    rcases h2 with h2 | ⟨h2, h4⟩ <;> rcases h3 with h3 | ⟨h3, h5⟩
    · omega
    · omega
    · omega
    · rw [h4] at h5; cases h5
  | false =>
    refine ⟨fun _ => ?_, fun _ => rfl⟩
    have h2 : ¬ (keyO c dn x < keyO c dn y ∨ (keyO c dn x = keyO c dn y ∧ ltL x y = true)) := fun h3 => by rw [h.2 h3] at h1; cases h1
    by_cases h3 : keyO c dn y < keyO c dn x
    · exact .inl h3
    · have h4 : keyO c dn x = keyO c dn y := by
        have : ¬ keyO c dn x < keyO c dn y := fun h => h2 (.inl h)
        omega
      refine .inr ⟨h4, ?_⟩
      cases h5 : ltL x y with
      | false => rfl
      | true => exact absurd (.inr ⟨h4, h5⟩) h2
theorem ltO_swo (c : Nat) (dn : Bool) : Go.Sort.SWO (ltO c dn) where
  irrefl x := (ltO_ff c dn x x).2 (.inr ⟨rfl, lt_swo.irrefl x⟩)
  trans x y z h1 h2 := by
    rw [ltO_iff] at *
    rcases h1 with h1 | ⟨h1, h3⟩ <;> rcases h2 with h2 | ⟨h2, h4⟩
    · exact .inl (by omega)
    · exact .inl (by omega)
    · exact .inl (by omega)
    · exact .inr ⟨by omega, lt_swo.trans _ _ _ h3 h4⟩
  ntrans x y z h1 h2 := by
    rw [ltO_ff] at *
    rcases h1 with h1 | ⟨h1, h3⟩ <;> rcases h2 with h2 | ⟨h2, h4⟩
    · exact .inl (by omega)
    · exact .inl (by omega)
    · exact .inl (by omega)
    · exact .inr ⟨by omega, lt_swo.ntrans _ _ _ h3 h4⟩
theorem ltO_anti (c : Nat) (dn : Bool) (x y : List Int) (h1 : ltO c dn x y = false) (h2 : ltO c dn y x = false) : x = y := by
  rw [ltO_ff] at *
  rcases h1 with h1 | ⟨h1, h3⟩ <;> rcases h2 with h2 | ⟨h2, h4⟩
  · omega
  · omega
  · omega
  · exact lt_anti _ _ h3 h4
/-! ### comparing by a column -/
theorem ev_rO : ∀ (nn : Bool) (n : Nat) (f : Nat → ByteArray) (s : ByteArray) (dn : Bool), ev G0 res41 [] (3000 : Nat) (Or.call [] (AI (colT f s n)) [] Or.nil) [Item.ir ir41] (start [TL nn n f, AT s, AB dn] []) = VC.call (52 : Nat) [AV.p false (PV.sl nn (1 : Nat) n fun (i x : Nat) => PT (f i)), AV.p true (PV.v (Value.string s))] [] (AI (colT f s n)) [] (VC.done (St.mk [((0 : Nat), AV.p false (PV.sl nn (1 : Nat) n fun (i x : Nat) => PT (f i))), ((1 : Nat), AV.p true (PV.v (Value.string s))), ((2 : Nat), AV.p true (PV.v (Value.bool dn))), ((5 : Nat), AV.adr (5 : Nat) (0 : Nat)), ((6 : Nat), AV.cl (66 : Nat) [] [AV.adr (7 : Nat) (0 : Nat), AV.adr (5 : Nat) (0 : Nat)]), ((7 : Nat), AV.adr (7 : Nat) (0 : Nat))] [((5 : Nat), Ob.box [AV.p true (PV.v (Value.bool dn))]), ((7 : Nat), Ob.box [AV.p true (PV.v (Value.int IntKind.i64 (colT f s n)))])])) := by intros; kernel_rfl
theorem ev_rO1 : ∀ (n : Nat) (f : Nat → Int) (m : Nat) (g : Nat → Int) (c : Nat) (dn : Bool), ev G0 res66 [] (3000 : Nat) (((Or.call [] (AI (cmp3 (g (↑c : Int).toNat) (f (↑c : Int).toNat))) [] Or.nil).split (Or.call [] (AI (cmp3 (f (↑c : Int).toNat) (g (↑c : Int).toNat))) [] Or.nil)).split (Or.call [] (AI (lexL (rowL n f (0 : Nat)) (rowL m g (0 : Nat)))) [] Or.nil)).lit.lit.lit.lit.lit.lit.lit.lit.lit.lit [Item.ir ir66] (start [IL false n f, IL false m g, AV.p false (PV.pp (1 : Nat) fun (x : Nat) => PI (↑c : Int)), AV.p false (PV.pp (1 : Nat) fun (x : Nat) => PV.v (Value.bool dn))] []) = VC.need ((0 : Int) ≤ (↑c : Int) ∧ (↑c : Int).toNat < n) (VC.need ((0 : Int) ≤ (↑c : Int) ∧ (↑c : Int).toNat < m) (VC.split (f (↑c : Int).toNat != g (↑c : Int).toNat) (VC.split dn (VC.need ((0 : Int) ≤ (↑c : Int) ∧ (↑c : Int).toNat < m) (VC.need ((0 : Int) ≤ (↑c : Int) ∧ (↑c : Int).toNat < n) (VC.call (65 : Nat) [AV.p true (PV.v (Value.int IntKind.i64 (g (↑c : Int).toNat))), AV.p true (PV.v (Value.int IntKind.i64 (f (↑c : Int).toNat)))] [] (AI (cmp3 (g (↑c : Int).toNat) (f (↑c : Int).toNat))) [] (VC.doneP (AV.p true (PV.v (Value.int IntKind.i64 (cmp3 (g (↑c : Int).toNat) (f (↑c : Int).toNat))))))))) (VC.need ((0 : Int) ≤ (↑c : Int) ∧ (↑c : Int).toNat < n) (VC.need ((0 : Int) ≤ (↑c : Int) ∧ (↑c : Int).toNat < m) (VC.call (65 : Nat) [AV.p true (PV.v (Value.int IntKind.i64 (f (↑c : Int).toNat))), AV.p true (PV.v (Value.int IntKind.i64 (g (↑c : Int).toNat)))] [] (AI (cmp3 (f (↑c : Int).toNat) (g (↑c : Int).toNat))) [] (VC.doneP (AV.p true (PV.v (Value.int IntKind.i64 (cmp3 (f (↑c : Int).toNat) (g (↑c : Int).toNat)))))))))) (VC.call (40 : Nat) [AV.p false (PV.sl false (1 : Nat) n fun (i x : Nat) => PI (f i)), AV.p false (PV.sl false (1 : Nat) m fun (i x : Nat) => PI (g i))] [] (AI (lexL (rowL n f (0 : Nat)) (rowL m g (0 : Nat)))) [] (VC.doneP (AV.p true (PV.v (Value.int IntKind.i64 (lexL (rowL n f (0 : Nat)) (rowL m g (0 : Nat)))))))))) := by intros; kernel_rfl
theorem c_rO (nn : Bool) (n : Nat) (f : Nat → ByteArray) (s : ByteArray) (dn : Bool) (hn : n ≤ 1048576) : PObj Tryd.prog G0 41 [TL nn n f, AT s, AB dn] [] (.cl 66 [] [.adr 0 0, .adr 1 0]) [(0, .box [AI (colT f s n)]), (1, .box [AB dn])] := by
  refine PObj.by chk41 rfl (ev_rO nn n f s dn) ?_
  simp only [VC.holds_split, VC.holds_need, VC.holds_doneP, VC.holds_done, VC.holds_either, VC.holds_call, VC.holds_callE, VC.holds_lend, VC.holds_stop, VC.holds_fail, decide_eq_true_eq, decide_eq_false_iff_not]
  refine ⟨c_ixT _ _ _ _ hn, ResOk.mk [] [(0, 7), (1, 5)] [] _ _ ?_ ⟨rfl, rfl⟩⟩
  simp [doneC, resOf, resAV, tup, pinR, PV.Le_self, hbs, St.lowers, St.lower, stLe, leEnv, leObs, obLe, injB, pinC, AV.leC, AV.leCs, PV.leC, PV.Le_v, St.get, St.obj, look, rho, isNew, keptC, renH, Mode.ok, Mode.isZ, PV.isVal, PV.isNilSl, List.all_nil, List.all_cons, List.any_nil, List.any_cons, List.map_nil, List.map_cons, res41, AV.leCs]
theorem c_rO1 (n : Nat) (f : Nat → Int) (m : Nat) (g : Nat → Int) (c : Nat) (dn : Bool) (hc : c < n) (hc' : c < m) (hn : n ≤ 1048576) : PRet Tryd.prog G0 66 [IL false n f, IL false m g, .p false (.pp 1 fun _ => PI c), .p false (.pp 1 fun _ => .v (.bool dn))] (AI (ordL c dn (rowL n f 0) (rowL m g 0))) := by
  refine PRet.by chk66 (ev_rO1 n f m g c dn) ?_
  simp only [VC.holds_split, VC.holds_need, VC.holds_doneP, VC.holds_done, VC.holds_either, VC.holds_call, VC.holds_callE, VC.holds_lend, VC.holds_stop, VC.holds_fail, decide_eq_true_eq, decide_eq_false_iff_not, Int.toNat_natCast]
  have e1 := rowL_get (f := f) hc
  have e2 := rowL_get (f := g) hc'
  refine ⟨by omega, by omega, fun h => ⟨fun h2 => ⟨by omega, by omega, c_cmp3 _ _, ?_⟩, fun h2 => ⟨by omega, by omega, c_cmp3 _ _, ?_⟩⟩, fun h => ⟨c_cmpI _ _ _ _ _ _ hn, ?_⟩⟩
  · have h3 : ¬ f c = g c := by simpa using h
    simp only [ordL, e1, e2]
    simp [h3, h2]
  · have h3 : ¬ f c = g c := by simpa using h
    simp only [ordL, e1, e2]
    simp [h3, h2]
  · have h3 : f c = g c := by simpa using h
    simp only [ordL, e1, e2]
    simp [h3]
theorem c_l1C (nn : Bool) (n : Nat) (f : Nat → ByteArray) (s : ByteArray) (hn : n ≤ 1048576) : PRet Tryd.prog G0 25 [TL nn n f, AT s] (AI (colT f s n)) := by
  refine PRet.by chk25 (ev_l1C nn n f s) ?_
  refine loop_by (st_l1C nn n f s) (fun k => k ≤ n ∧ ∀ j, j < k → (s.toList == (f j).toList) = false) (fun k => n - k) 0 [] [] [] (by simp) ?_ (evr_l1C nn n f s) fun k hk => ?_
  · simp [st_l1C, hbs, St.lowers, St.lower, stLe, leEnv, leObs, obLe, injB, pinC, AV.leC, AV.leCs, PV.leC, PV.Le_v, St.get, St.obj, look, rho, isNew, keptC, renH, Mode.ok, Mode.isZ, PV.isVal, PV.isNilSl, List.all_nil, List.all_cons, List.any_nil, List.any_cons, List.map_nil, List.map_cons, PV.Le_self]
  · obtain ⟨hk, hall⟩ := hk
    simp only [VC.holds_split, VC.holds_need, VC.holds_doneP, VC.holds_done, VC.holds_either, VC.holds_call, VC.holds_callE, VC.holds_lend, VC.holds_stop, VC.holds_fail, decide_eq_true_eq, decide_eq_false_iff_not, Int.toNat_natCast]
    refine ⟨fun h1 => ⟨by omega, fun h2 => ?_, fun h2 => Again.mk (k + 1) [] [] [] ⟨by omega, fun j hj => ?_⟩ (by omega) ?_⟩, fun h1 => ?_⟩
    · rw [colT_at (by rw [beq_swap]; exact h2) hall (by omega)]; simp
    · by_cases h3 : j = k
      · subst h3; rw [beq_swap]; exact h2
      · exact hall j (by omega)
    · have e1 : IntKind.i64.wrap ((k : Int) + 1) = ((k + 1 : Nat) : Int) := wrap_in (by omega) (by omega)
      simp only [e1, st_l1C]
      simp [hbs, St.lowers, St.lower, stLe, leEnv, leObs, obLe, injB, pinC, AV.leC, AV.leCs, PV.leC, PV.Le_v, St.get, St.obj, look, rho, isNew, keptC, renH, Mode.ok, Mode.isZ, PV.isVal, PV.isNilSl, List.all_nil, List.all_cons, List.any_nil, List.any_cons, List.map_nil, List.map_cons, PV.Le_self]
    · have : k = n := by omega
      subst this
      rw [colT_no hall]; simp
abbrev srtO (c : Nat) (dn : Bool) (m : Nat) (w : Nat → Nat) (h : Nat → Nat → Int) : List (List Int) := srtL (ltO c dn) (tabL m w h)
theorem c_sortB (nn : Bool) (m : Nat) (w : Nat → Nat) (h : Nat → Nat → Int) (c : Int) (dn : Bool) (hc0 : 0 ≤ c) (hc : ∀ i, i < m → c.toNat < w i) (hm : m ≤ 1048576) (hw : ∀ i, i < m → w i ≤ 1048576) :
    PObj Tryd.prog G0 39 [.own 0, .cl 66 [] [.adr 1 0, .adr 2 0]] [(0, .row .u nn 1 m (RR w h) []), (1, .box [AI c]), (2, .box [AB dn])] (.tp []) [(0, .row .u nn 1 m (RR (wL (srtO c.toNat dn m w h)) (hL (srtO c.toNat dn m w h))) []), (1, .box [AI c]), (2, .box [AB dn])] := by
  obtain ⟨c, rfl⟩ : ∃ k : Nat, c = k := ⟨c.toNat, by omega⟩
  rw [Int.toNat_natCast] at *
  refine sort_row (bs := [PI c, .v (.bool dn)]) (K := fun i => rowL (w i) (h i) 0) (cl := ordL c dn) Tryd.laySort sort_has (fun p cap fv W => AnyF.slices_SortFunc_none { Tryd.laySort with } p cap fv W) (ltO_swo c dn) (el := fun i => RR w h i 0) (fun x y hx hy => ?_) (fun i hi => ⟨_, _, rfl⟩) (by omega) (fun π hs => ⟨fun i => RR (wL (srtO c dn m w h)) (hL (srtO c dn m w h)) i 0, fun i hi => srt_le (ltO_swo c dn) (ltO_anti c dn) hs hi, rfl, rfl⟩)
  exact c_rO1 _ _ _ _ _ _ (hc x hx) (hc y hy) (hw x hx)
theorem ev_imOR : ∀ (n : Nat) (f : Nat → ByteArray) (m : Nat) (w : Nat → Nat) (h : Nat → Nat → Int) (s : ByteArray) (dn : Bool), ev G0 res12 [] (3000 : Nat) (Or.call [] (AB (tableB n f m w h)) [] (Or.nil.lit.lit.lit.lit.lit.lit.split (Or.call [] (AB (hasT f s n)) [] (Or.nil.split (Or.call [] taR (taH n f m w h) (Or.call [] (AV.cl (66 : FuncId) [] [AV.adr (0 : Nat) (0 : Nat), AV.adr (1 : Nat) (0 : Nat)]) [((0 : Nat), Ob.box [AI (colT f s n)]), ((1 : Nat), Ob.box [AB dn])] (Or.call [(2021 : Nat), (1028 : Nat), (2028 : Nat)] (AV.tp []) [((0 : Nat), Ob.row Mode.u false (1 : Nat) m (RR (wL (srtO (colT f s n).toNat dn m w h)) (hL (srtO (colT f s n).toNat dn m w h))) []), ((1 : Nat), Ob.box [AI (colT f s n)]), ((2 : Nat), Ob.box [AB dn])] Or.nil)))).lit.lit).lit.lit.lit)) [Item.ir ir12] (start [TA false false n f m w h, AT s, AB dn] []) = VC.call (37 : Nat) [AV.ag [AV.p false (PV.sl false (1 : Nat) n fun (i x : Nat) => PT (f i)), AV.p false (PV.sl false (1 : Nat) m (RR w h))]] [] (AB (tableB n f m w h)) [] (VC.split (!tableB n f m w h) (VC.done (St.mk [((0 : Nat), AV.ag [AV.p false (PV.sl false (1 : Nat) n fun (i x : Nat) => PT (f i)), AV.p false (PV.sl false (1 : Nat) m (RR w h))]), ((1 : Nat), AV.p true (PV.v (Value.string s))), ((2 : Nat), AV.p true (PV.v (Value.bool dn))), ((3 : Nat), AV.adr (3 : Nat) (0 : Nat)), ((6 : Nat), AV.adr (6 : Nat) (0 : Nat)), ((7 : Nat), AV.p true (PV.v (Value.bool false))), ((18 : Nat), AV.p true (PV.v (Value.bool true)))] [((3 : Nat), Ob.box [AV.p false (PV.sl false (1 : Nat) n fun (i x : Nat) => PT (f i)), AV.p false (PV.sl false (1 : Nat) m (RR w h))]), ((6 : Nat), Ob.box [AV.p true (PV.v (Value.slice none (0 : Nat) (0 : Nat))), AV.p true (PV.v (Value.slice none (0 : Nat) (0 : Nat)))])])) (VC.call (21 : Nat) [AV.p false (PV.sl false (1 : Nat) n fun (i x : Nat) => PT (f i)), AV.p true (PV.v (Value.string s))] [] (AB (hasT f s n)) [] (VC.split (!hasT f s n) (VC.done (St.mk [((0 : Nat), AV.ag [AV.p false (PV.sl false (1 : Nat) n fun (i x : Nat) => PT (f i)), AV.p false (PV.sl false (1 : Nat) m (RR w h))]), ((1 : Nat), AV.p true (PV.v (Value.string s))), ((2 : Nat), AV.p true (PV.v (Value.bool dn))), ((3 : Nat), AV.adr (3 : Nat) (0 : Nat)), ((6 : Nat), AV.adr (6 : Nat) (0 : Nat)), ((7 : Nat), AV.p true (PV.v (Value.bool false))), ((18 : Nat), AV.p true (PV.v (Value.bool !hasT f s n)))] [((3 : Nat), Ob.box [AV.p false (PV.sl false (1 : Nat) n fun (i x : Nat) => PT (f i)), AV.p false (PV.sl false (1 : Nat) m (RR w h))]), ((6 : Nat), Ob.box [AV.p true (PV.v (Value.slice none (0 : Nat) (0 : Nat))), AV.p true (PV.v (Value.slice none (0 : Nat) (0 : Nat)))])])) (VC.call (38 : Nat) [AV.ag [AV.p false (PV.sl false (1 : Nat) n fun (i x : Nat) => PT (f i)), AV.p false (PV.sl false (1 : Nat) m (RR w h))]] [] taR (taH n f m w h) (VC.call (41 : Nat) [AV.p false (PV.sl false (1 : Nat) n fun (i x : Nat) => PT (f i)), AV.p true (PV.v (Value.string s)), AV.p true (PV.v (Value.bool dn))] [] (AV.cl (66 : FuncId) [] [AV.adr (0 : Nat) (0 : Nat), AV.adr (1 : Nat) (0 : Nat)]) [((0 : Nat), Ob.box [AI (colT f s n)]), ((1 : Nat), Ob.box [AB dn])] (VC.call (39 : Nat) [AV.own (0 : Nat), AV.cl (66 : Nat) [] [AV.adr (1 : Nat) (0 : Nat), AV.adr (2 : Nat) (0 : Nat)]] [((0 : Nat), Ob.row Mode.u false (1 : Nat) m (RR w h) []), ((1 : Nat), Ob.box [AV.p true (PV.v (Value.int IntKind.i64 (colT f s n)))]), ((2 : Nat), Ob.box [AV.p true (PV.v (Value.bool dn))])] (AV.tp []) [((0 : Nat), Ob.row Mode.u false (1 : Nat) m (RR (wL (srtO (colT f s n).toNat dn m w h)) (hL (srtO (colT f s n).toNat dn m w h))) []), ((1 : Nat), Ob.box [AI (colT f s n)]), ((2 : Nat), Ob.box [AB dn])] (VC.done (St.mk [((0 : Nat), AV.ag [AV.p false (PV.sl false (1 : Nat) n fun (i x : Nat) => PT (f i)), AV.p false (PV.sl false (1 : Nat) m (RR w h))]), ((1 : Nat), AV.p true (PV.v (Value.string s))), ((2 : Nat), AV.p true (PV.v (Value.bool dn))), ((3 : Nat), AV.adr (3 : Nat) (0 : Nat)), ((6 : Nat), AV.adr (6 : Nat) (0 : Nat)), ((7 : Nat), AV.p true (PV.v (Value.bool true))), ((18 : Nat), AV.p true (PV.v (Value.bool !hasT f s n))), ((8 : Nat), AV.adr (8 : Nat) (0 : Nat))] [((3 : Nat), Ob.box [AV.p false (PV.sl false (1 : Nat) n fun (i x : Nat) => PT (f i)), AV.p false (PV.sl false (1 : Nat) m (RR w h))]), ((6 : Nat), Ob.box [AV.own (1021 : Nat), AV.own (2021 : Nat)]), ((1021 : Nat), Ob.row Mode.u false (1 : Nat) n (TR f) []), ((2021 : Nat), Ob.row Mode.u false (1 : Nat) m (RR (wL (srtO (colT f s n).toNat dn m w h)) (hL (srtO (colT f s n).toNat dn m w h))) []), ((8 : Nat), Ob.box [AV.own (1021 : Nat), AV.own (2021 : Nat)])])))))))) := by intros; kernel_rfl
theorem tab_w {n : Nat} {f : Nat → ByteArray} {m : Nat} {w : Nat → Nat} {h : Nat → Nat → Int} (ht : tableB n f m w h = true) : ∀ i, i < m → w i = n := fun i hi => by
  simp only [tableB, rowsB, Bool.and_eq_true] at ht
  have := allB_iff.1 ht.2 i hi
  simp only [rowB, Bool.and_eq_true, decide_eq_true_eq] at this
  exact this.1
def orB (n : Nat) (f : Nat → ByteArray) (m : Nat) (w : Nat → Nat) (h : Nat → Nat → Int) (s : ByteArray) : Bool := tableB n f m w h && decide (0 ≤ colT f s n)
def orN (n : Nat) (f : Nat → ByteArray) (m : Nat) (w : Nat → Nat) (h : Nat → Nat → Int) (s : ByteArray) : Nat := if orB n f m w h s then n else 0
def orM (n : Nat) (f : Nat → ByteArray) (m : Nat) (w : Nat → Nat) (h : Nat → Nat → Int) (s : ByteArray) : Nat := if orB n f m w h s then m else 0
def orS (n : Nat) (f : Nat → ByteArray) (m : Nat) (w : Nat → Nat) (h : Nat → Nat → Int) (s : ByteArray) (dn : Bool) : List (List Int) := srtO (colT f s n).toNat dn m w h
abbrev orR (n : Nat) (f : Nat → ByteArray) (m : Nat) (w : Nat → Nat) (h : Nat → Nat → Int) (s : ByteArray) : AV := .tp [taR, AB (orB n f m w h s)]
abbrev orH (n : Nat) (f : Nat → ByteArray) (m : Nat) (w : Nat → Nat) (h : Nat → Nat → Int) (s : ByteArray) (dn : Bool) : List (Nat × Ob) := taH (orN n f m w h s) f (orM n f m w h s) (wL (orS n f m w h s dn)) (hL (orS n f m w h s dn))
theorem or_no {n : Nat} {f : Nat → ByteArray} {m : Nat} {w : Nat → Nat} {h : Nat → Nat → Int} {s : ByteArray} (e : orB n f m w h s = false) : orN n f m w h s = 0 ∧ orM n f m w h s = 0 := by simp [orN, orM, e]
theorem or_yes {n : Nat} {f : Nat → ByteArray} {m : Nat} {w : Nat → Nat} {h : Nat → Nat → Int} {s : ByteArray} (e : orB n f m w h s = true) : orN n f m w h s = n ∧ orM n f m w h s = m := by simp [orN, orM, e]
theorem c_imOR (n : Nat) (f : Nat → ByteArray) (m : Nat) (w : Nat → Nat) (h : Nat → Nat → Int) (s : ByteArray) (dn : Bool) (ok : TaOk n f m w) : PObj Tryd.prog G0 12 [TA false false n f m w h, AT s, AB dn] [] (orR n f m w h s) (orH n f m w h s dn) := by
  refine PObj.by chk12 rfl (ev_imOR n f m w h s dn) ?_
  simp only [VC.holds_split, VC.holds_need, VC.holds_doneP, VC.holds_done, VC.holds_either, VC.holds_call, VC.holds_callE, VC.holds_lend, VC.holds_stop, VC.holds_fail, decide_eq_true_eq, decide_eq_false_iff_not]
  have hlt := colT_lt f s n
  refine ⟨c_imTV _ _ _ _ _ _ _ ok.hn ok.hf ok.hm ok.hw, fun h1 => ?_, fun h1 => ⟨c_hasT _ _ _ _ ok.hn, fun h2 => ?_, fun h2 => ?_⟩⟩
  · have e : orB n f m w h s = false := by simp only [Bool.not_eq_true'] at h1; simp [orB, h1]
    simp only [orR, orH, (or_no e).1, (or_no e).2, e]
    refine ResOk.mk [] [] [0, 1] _ _ ?_ ⟨rfl, rfl⟩
    simp [doneC, resOf, resAV, tup, pinR, PV.Le_self, hbs, St.lowers, St.lower, stLe, leEnv, leObs, obLe, injB, pinC, AV.leC, AV.leCs, PV.leC, PV.Le_v, St.get, St.obj, look, rho, isNew, keptC, renH, Mode.ok, Mode.isZ, PV.isVal, PV.isNilSl, List.all_nil, List.all_cons, List.any_nil, List.any_cons, List.map_nil, List.map_cons, res12]
  · have e : orB n f m w h s = false := by simp only [Bool.not_eq_true'] at h2; simp only [orB, colT_has, h2, Bool.and_false]
    simp only [orR, orH, (or_no e).1, (or_no e).2, e]
    refine ResOk.mk [] [] [0, 1] _ _ ?_ ⟨rfl, rfl⟩
    simp [doneC, resOf, resAV, tup, pinR, PV.Le_self, hbs, St.lowers, St.lower, stLe, leEnv, leObs, obLe, injB, pinC, AV.leC, AV.leCs, PV.leC, PV.Le_v, St.get, St.obj, look, rho, isNew, keptC, renH, Mode.ok, Mode.isZ, PV.isVal, PV.isNilSl, List.all_nil, List.all_cons, List.any_nil, List.any_cons, List.map_nil, List.map_cons, res12]
  · have ht : tableB n f m w h = true := by simpa using h1
    have hh : hasT f s n = true := by simpa using h2
    have e : orB n f m w h s = true := by simp only [orB, colT_has, hh, ht, Bool.and_self]
    have h0 : 0 ≤ colT f s n := by rw [← colT_has] at hh; simpa using hh
    refine ⟨c_clA _ _ _ _ _ ok.hn ok.hm ok.hw, c_rO _ _ _ _ _ ok.hn, c_sortB _ _ _ _ _ _ h0 (fun i hi => by rw [tab_w ht i hi]; omega) ok.hm ok.hw, ?_⟩
    simp only [orR, orH, (or_yes e).1, (or_yes e).2, e, orS]
    refine ResOk.mk [] [(0, 1021), (1, 2021)] [] _ _ ?_ ⟨rfl, rfl⟩
    simp [doneC, resOf, resAV, tup, pinR, PV.Le_self, hbs, St.lowers, St.lower, stLe, leEnv, leObs, obLe, injB, pinC, AV.leC, AV.leCs, PV.leC, PV.Le_v, St.get, St.obj, look, rho, isNew, keptC, renH, Mode.ok, Mode.isZ, PV.isVal, PV.isNilSl, List.all_nil, List.all_cons, List.any_nil, List.any_cons, List.map_nil, List.map_cons, res12]
/-! ### the model's -/
theorem ev_ownR : ∀ (nn : Bool) (m : Nat) (w : Nat → Nat) (h : Nat → Nat → Int), ev G0 res56 [] (3000 : Nat) Or.nil [Item.ir ir56] (start [RL nn m w h] []) = VC.loop ir56_L1 [Item.bend (0 : Nat), Item.ir ir56_T2] (St.mk [((0 : Nat), AV.p false (PV.sl nn (1 : Nat) m (RR w h))), ((2 : Nat), AV.p true (PV.v (Value.slice none (0 : Nat) (0 : Nat)))), ((3 : Nat), AV.own (5 : Nat)), ((4 : Nat), AV.p true (PV.v (Value.int IntKind.i64 (0 : Int))))] [((5 : Nat), Ob.row Mode.u true (1 : Nat) (0 : Nat) (setG [] fun (x j : Nat) => PV.v ([Value.slice none (0 : Nat) (0 : Nat)].getD j undef)) [])]) := by intros; kernel_rfl
def st_ownR (nn : Bool) (m : Nat) (w : Nat → Nat) (h : Nat → Nat → Int) (k : Nat) : St := ⟨[(0, RL nn m w h), (3, .own 5), (4, AI k)], [(5, .row .u false 1 k (RR w h) [])]⟩
theorem evr_ownR : ∀ (nn : Bool) (m : Nat) (w : Nat → Nat) (h : Nat → Nat → Int) (I : Nat → St → Prop) (k : Nat), ev G0 res56 [] (3000 : Nat) (Or.nil.split Or.nil) [Item.ir ir56_L1, Item.lend (I k), Item.bend (0 : Nat), Item.ir ir56_T2] (st_ownR nn m w h k) = VC.split (decide ((↑k : Int) < (↑m : Int))) (VC.need ((0 : Int) ≤ (↑k : Int) ∧ (↑k : Int).toNat < m) (VC.need ((((0 : Nat) + w (↑k : Int).toNat) * (8 : Nat) ≤ (140737488355328 : Nat) ∧ (↑((0 : Nat) + w (↑k : Int).toNat) : Int) ≤ (9223372036854775807 : Int)) ∧ allV (1 : Nat) (w (↑k : Int).toNat) fun (j x : Nat) => PI (h (↑k : Int).toNat j)) (VC.need (((k + (1 : Nat)) * (24 : Nat) ≤ (140737488355328 : Nat) ∧ (↑(k + (1 : Nat)) : Int) ≤ (9223372036854775807 : Int)) ∧ allOne (1 : Nat) (1 : Nat) (setG [((0 : Nat), (0 : Nat), PV.sl true (1 : Nat) ((0 : Nat) + w (↑k : Int).toNat) fun (a b : Nat) => if a < (0 : Nat) then setG [] (fun (x j : Nat) => PV.v ([Value.int IntKind.i64 (0 : Int)].getD j undef)) a b else PI (h (↑k : Int).toNat (a - (0 : Nat))))] fun (x j : Nat) => PV.v ([Value.slice none (0 : Nat) (0 : Nat)].getD j undef))) (VC.lend (I k) (St.mk [((0 : Nat), AV.p false (PV.sl nn (1 : Nat) m (RR w h))), ((3 : Nat), AV.own (20 : Nat)), ((4 : Nat), AV.p true (PV.v (Value.int IntKind.i64 (IntKind.i64.wrap ((↑k : Int) + (1 : Int)))))), ((9 : Nat), AV.p true (PV.v (Value.bool (decide ((↑k : Int) < (↑m : Int))))))] [((20 : Nat), Ob.row Mode.u false (1 : Nat) (k + (1 : Nat)) (fun (a b : Nat) => if a < k then RR w h a b else setG [((0 : Nat), (0 : Nat), PV.sl true (1 : Nat) ((0 : Nat) + w (↑k : Int).toNat) fun (a_1 b_1 : Nat) => if a_1 < (0 : Nat) then setG [] (fun (x j : Nat) => PV.v ([Value.int IntKind.i64 (0 : Int)].getD j undef)) a_1 b_1 else PI (h (↑k : Int).toNat (a_1 - (0 : Nat))))] (fun (x j : Nat) => PV.v ([Value.slice none (0 : Nat) (0 : Nat)].getD j undef)) (a - k) b) [])]))))) (VC.done (St.mk [((0 : Nat), AV.p false (PV.sl nn (1 : Nat) m (RR w h))), ((3 : Nat), AV.own (5 : Nat)), ((4 : Nat), AV.p true (PV.v (Value.int IntKind.i64 (↑k : Int)))), ((9 : Nat), AV.p true (PV.v (Value.bool (decide ((↑k : Int) < (↑m : Int)))))), ((2 : Nat), AV.own (5 : Nat))] [((5 : Nat), Ob.row Mode.u false (1 : Nat) k (RR w h) [])])) := by intros; kernel_rfl
theorem c_ownR (nn : Bool) (m : Nat) (w : Nat → Nat) (h : Nat → Nat → Int) (hm : m ≤ 1048576) (hw : ∀ i, i < m → w i ≤ 1048576) : PObj Tryd.prog G0 56 [RL nn m w h] [] (.own 0) [(0, .row .u false 1 m (RR w h) [])] := by
  refine PObj.by chk56 rfl (ev_ownR nn m w h) ?_
  refine loop_by (st_ownR nn m w h) (fun k => k ≤ m) (fun k => m - k) 0 [] [] [] (by omega) ?_ (evr_ownR nn m w h) fun k hk => ?_
  · simp [st_ownR, hbs, St.lowers, St.lower, stLe, leEnv, leObs, obLe, injB, pinC, AV.leC, AV.leCs, PV.leC, PV.Le_v, St.get, St.obj, look, rho, isNew, keptC, renH, Mode.ok, Mode.isZ, PV.isVal, PV.isNilSl, List.all_nil, List.all_cons, List.any_nil, List.any_cons, List.map_nil, List.map_cons, PV.Le_self]
  · simp only [VC.holds_split, VC.holds_need, VC.holds_doneP, VC.holds_done, VC.holds_either, VC.holds_call, VC.holds_callE, VC.holds_lend, VC.holds_stop, VC.holds_fail, decide_eq_true_eq, decide_eq_false_iff_not, Int.toNat_natCast]
    refine ⟨fun h0 => ?_, fun h0 => ?_⟩
    · have hwk := hw k (by omega)
      refine ⟨by omega, ⟨by omega, fun _ _ _ _ => rfl⟩, ⟨by omega, ?_⟩, Again.mk (k + 1) [] [(5, 20)] [] (by omega) (by omega) ?_⟩
      · intro i j hi hj
        obtain rfl : i = 0 := by omega
        obtain rfl : j = 0 := by omega
        rfl
      · have : IntKind.i64.wrap ((k : Int) + 1) = ((k + 1 : Nat) : Int) := wrap_in (by omega) (by omega)
        simp [st_ownR, hbs, St.lowers, St.lower, stLe, leEnv, leObs, obLe, injB, pinC, AV.leC, AV.leCs, PV.leC, PV.Le_v, St.get, St.obj, look, rho, isNew, keptC, renH, Mode.ok, Mode.isZ, PV.isVal, PV.isNilSl, List.all_nil, List.all_cons, List.any_nil, List.any_cons, List.map_nil, List.map_cons, PV.Le_self, this]
        intro i hi
        by_cases h1 : i < k
        · simp [h1]; exact RR_le rfl (fun _ _ => rfl)
        · obtain rfl : i = k := by omega
          simp [setG, cellSet]
          exact .sl _ _ (fun e => (by cases e)) _ _ _ _ _ rfl fun j l hj hl => .refl _
    · have : k = m := by omega
      subst this
      refine ResOk.mk [] [(0, 5)] [] _ _ ?_ ⟨rfl, rfl⟩
      simp [doneC, resOf, resAV, tup, pinR, PV.Le_self, hbs, St.lowers, St.lower, stLe, leEnv, leObs, obLe, injB, pinC, AV.leC, AV.leCs, PV.leC, PV.Le_v, St.get, St.obj, look, rho, isNew, keptC, renH, Mode.ok, Mode.isZ, PV.isVal, PV.isNilSl, List.all_nil, List.all_cons, List.any_nil, List.any_cons, List.map_nil, List.map_cons, res56]
abbrev nilT : AV := .p true (.v (.slice none 0 0))
end Go.Gw
