/- Laws of trees of tags: every root, proof and tag hang together; with no condition. -/
import Derived.Test.YtbaafpfappfkjaaDoorDrawTree
import Derived.KernelRfl
namespace Go.Gw
open Go Go.Proofs
set_option linter.unusedSimpArgs false
set_option linter.unusedVariables false
set_option maxRecDepth 100000
def ir10_L1 : Ir :=
  (.seq
  (.seq
  (.reg [25, 26, 27] [o 25 (.mov (tt 5)),
    o 26 (.mov (tt 3)),
    o 27 (.len (tt 26)),
    o 28 (.bin .lss (tt 25) (tt 27))])
  (.cond (tt 28)
   .skip
   (.exit 0)))
  (.seq
  (.block 1
   (.seq
   (.reg [31, 32, 33] [o 31 (.mkSl 1 0 [(.int .i64 0)] []),
     o 32 (.mov (tt 3)),
     o 33 (.app 1 8 true (tt 31) (tt 32)),
     o 6 (.mov (tt 33))])
   (.seq
   (.reg [34, 35, 36, 37, 38, 39, 40, 41, 42] [o 34 (.mov (tt 6)),
     o 35 (.mov (tt 5)),
     o 36 (.mov (tt 3)),
     o 37 (.mov (tt 5)),
     o 38 (.idx 1 (tt 36) (tt 37)),
     o 39 (.load false 1 (tt 38)),
     o 40 (.bin .add (tt 39) (ci 1)),
     o 41 (.bin .rem (tt 40) (ci 200003)),
     o 42 (.idx 1 (tt 34) (tt 35)),
     on (.store 1 (tt 42) (tt 41))])
   (.seq
   (.reg [43, 44, 45] [o 43 (.mov (tt 6)),
     o 44 (.call 33 [(tt 43)]),
     o 45 (.mov (tt 4)),
     o 46 (.bin .eql (tt 44) (tt 45))])
   (.cond (tt 46)
    (.seq
    (.reg [] [o 2 (.mov (cb false))])
    .ret)
    .skip)))))
  (.reg [29, 30] [o 29 (.mov (tt 5)),
    o 30 (.bin .add (tt 29) (ci 1)),
    o 5 (.mov (tt 30))])))
def ir10_T2 : Ir :=
  (.seq
  (.reg [] [o 2 (.mov (cb true))])
  .ret)
def ir10 : Ir :=
  (.seq
  (.reg [] [o 2 (.mov (cb false))])
  (.seq
  (.seq
  (.reg [7, 8] [o 7 (.mov (tt 0)),
    o 8 (.len (tt 7)),
    o 9 (.bin .gtr (tt 8) (ci 1048576))])
  (.cond (tt 9)
   (.seq
   (.reg [] [o 2 (.mov (cb true))])
   .ret)
   .skip))
  (.seq
  (.reg [10, 11] [o 10 (.mov (tt 0)),
    o 11 (.call 32 [(tt 10)]),
    o 3 (.mov (tt 11))])
  (.seq
  (.reg [12, 13] [o 12 (.mov (tt 3)),
    o 13 (.call 33 [(tt 12)]),
    o 4 (.mov (tt 13))])
  (.seq
  (.seq
  (.reg [14, 15, 16] [o 14 (.mov (tt 4)),
    o 15 (.mov (tt 3)),
    o 16 (.call 34 [(tt 15)]),
    o 17 (.bin .neq (tt 14) (tt 16))])
  (.cond (tt 17)
   (.seq
   (.reg [] [o 2 (.mov (cb false))])
   .ret)
   .skip))
  (.seq
  (.seq
  (.reg [18] [o 18 (.mov (tt 4)),
    o 19 (.bin .lss (tt 18) (ci 0))])
  (.cond (tt 19)
   (.seq
   (.reg [20, 21, 22, 23, 24] [o 20 (.mov (tt 4)),
     o 21 (.bin .eql (tt 20) (ci (-1))),
     o 22 (.mov (tt 21)),
     og 23 22 true (.call 17 []),
     o 24 (.pick (tt 22) (tt 23) (cb false)),
     o 2 (.mov (tt 24))])
   .ret)
   .skip))
  (.seq
  (.seq
  (.reg [] [o 5 (.mov (ci 0))])
  (.block 0
   (.loop ir10_L1)))
  ir10_T2)))))))
def keep10 : List Nat := [0, 2, 3, 4, 5, 6, 9, 17, 19, 28, 46]
def res10 : List RI := [.tmp 2]
theorem chk10 : chk Tryd.prog 10 1 keep10 = some (ir10, res10) := by kernel_rfl
def ir11_L1 : Ir :=
  (.seq
  (.seq
  (.reg [19, 20, 21, 22, 23, 24, 25] [o 19 (.mov (tt 5)),
    o 20 (.mov (tt 3)),
    o 21 (.len (tt 20)),
    o 22 (.bin .lss (tt 19) (tt 21)),
    o 23 (.mov (tt 22)),
    og 24 23 true (.mov (tt 4)),
    og 25 23 true (.bin .geq (tt 24) (ci 0)),
    o 26 (.pick (tt 23) (tt 25) (cb false))])
  (.cond (tt 26)
   .skip
   (.exit 0)))
  (.seq
  (.block 1
   (.seq
   (.reg [30, 31, 32, 29, 33, 34] [o 30 (.mov (tt 3)),
     o 31 (.mov (tt 5)),
     o 32 (.call 35 [(tt 30), (tt 31)]),
     o 29 (.mov (tt 32)),
     o 33 (.ext (tt 29) 0),
     o 34 (.ext (tt 29) 1),
     o 6 (.mov (tt 33)),
     o 7 (.mov (tt 34))])
   (.seq
   (.reg [35, 36, 37, 38, 39, 40, 41, 42, 43, 44, 45, 46] [o 35 (.mov (tt 7)),
     o 36 (.un .not (tt 35)),
     o 37 (.mov (tt 36)),
     og 38 37 false (.mov (tt 4)),
     og 39 37 false (.mov (tt 5)),
     og 40 37 false (.mov (tt 3)),
     og 41 37 false (.mov (tt 5)),
     og 42 37 false (.idx 1 (tt 40) (tt 41)),
     og 43 37 false (.load false 1 (tt 42)),
     og 44 37 false (.mov (tt 6)),
     og 45 37 false (.call 36 [(tt 38), (tt 39), (tt 43), (tt 44)]),
     og 46 37 false (.un .not (tt 45)),
     o 47 (.pick (tt 37) (cb true) (tt 46))])
   (.cond (tt 47)
    (.seq
    (.reg [] [o 2 (.mov (cb false))])
    .ret)
    .skip))))
  (.reg [27, 28] [o 27 (.mov (tt 5)),
    o 28 (.bin .add (tt 27) (ci 1)),
    o 5 (.mov (tt 28))])))
def ir11_T2 : Ir :=
  (.seq
  (.reg [48] [o 48 (.call 17 []),
    o 2 (.mov (tt 48))])
  .ret)
def ir11 : Ir :=
  (.seq
  (.reg [] [o 2 (.mov (cb false))])
  (.seq
  (.seq
  (.reg [8, 9] [o 8 (.mov (tt 0)),
    o 9 (.len (tt 8)),
    o 10 (.bin .gtr (tt 9) (ci 1048576))])
  (.cond (tt 10)
   (.seq
   (.reg [] [o 2 (.mov (cb true))])
   .ret)
   .skip))
  (.seq
  (.reg [11, 12] [o 11 (.mov (tt 0)),
    o 12 (.call 32 [(tt 11)]),
    o 3 (.mov (tt 12))])
  (.seq
  (.reg [13, 14] [o 13 (.mov (tt 3)),
    o 14 (.call 33 [(tt 13)]),
    o 4 (.mov (tt 14))])
  (.seq
  (.seq
  (.reg [15, 16, 17] [o 15 (.mov (tt 4)),
    o 16 (.mov (tt 3)),
    o 17 (.call 34 [(tt 16)]),
    o 18 (.bin .neq (tt 15) (tt 17))])
  (.cond (tt 18)
   (.seq
   (.reg [] [o 2 (.mov (cb false))])
   .ret)
   .skip))
  (.seq
  (.seq
  (.reg [] [o 5 (.mov (ci 0))])
  (.block 0
   (.loop ir11_L1)))
  ir11_T2))))))
def keep11 : List Nat := [0, 2, 3, 4, 5, 6, 7, 10, 18, 26, 47]
def res11 : List RI := [.tmp 2]
theorem chk11 : chk Tryd.prog 11 1 keep11 = some (ir11, res11) := by kernel_rfl
def ir12 : Ir :=
  (.seq
  (.reg [] [o 2 (.mov (cb false))])
  (.seq
  (.seq
  (.reg [10, 11] [o 10 (.mov (tt 0)),
    o 11 (.len (tt 10)),
    o 12 (.bin .gtr (tt 11) (ci 1048576))])
  (.cond (tt 12)
   (.seq
   (.reg [] [o 2 (.mov (cb true))])
   .ret)
   .skip))
  (.seq
  (.reg [14, 15, 13, 16, 17] [o 14 (.mov (tt 0)),
    o 15 (.call 37 [(tt 14)]),
    o 13 (.mov (tt 15)),
    o 16 (.ext (tt 13) 0),
    o 17 (.ext (tt 13) 1),
    o 3 (.mov (tt 16)),
    o 4 (.mov (tt 17))])
  (.seq
  (.reg [19, 20, 21, 18, 22, 23] [o 19 (.mov (tt 3)),
    o 20 (.mov (tt 4)),
    o 21 (.call 35 [(tt 19), (tt 20)]),
    o 18 (.mov (tt 21)),
    o 22 (.ext (tt 18) 0),
    o 23 (.ext (tt 18) 1),
    o 5 (.mov (tt 22)),
    o 6 (.mov (tt 23))])
  (.seq
  (.reg [25, 26, 27, 24, 28, 29] [o 25 (.mov (tt 3)),
    o 26 (.mov (tt 4)),
    o 27 (.call 38 [(tt 25), (tt 26)]),
    o 24 (.mov (tt 27)),
    o 28 (.ext (tt 24) 0),
    o 29 (.ext (tt 24) 1),
    o 7 (.mov (tt 28)),
    o 8 (.mov (tt 29))])
  (.seq
  (.seq
  (.reg [30, 31, 32, 33, 34, 35, 36, 37] [o 30 (.mov (tt 5)),
    o 31 (.mov (tt 7)),
    o 32 (.call 31 [(tt 30), (tt 31)]),
    o 33 (.un .not (tt 32)),
    o 34 (.mov (tt 33)),
    og 35 34 false (.mov (tt 6)),
    og 36 34 false (.mov (tt 8)),
    og 37 34 false (.binB .neq (tt 35) (tt 36)),
    o 38 (.pick (tt 34) (cb true) (tt 37))])
  (.cond (tt 38)
   (.seq
   (.reg [] [o 2 (.mov (cb false))])
   .ret)
   .skip))
  (.seq
  (.seq
  (.reg [39] [o 39 (.mov (tt 6)),
    o 40 (.un .not (tt 39))])
  (.cond (tt 40)
   (.seq
   (.reg [41, 42, 43, 44, 45, 46] [o 41 (.mov (tt 5)),
     o 42 (.len (tt 41)),
     o 43 (.bin .eql (tt 42) (ci 0)),
     o 44 (.mov (tt 43)),
     og 45 44 true (.call 17 []),
     o 46 (.pick (tt 44) (tt 45) (cb false)),
     o 2 (.mov (tt 46))])
   .ret)
   .skip))
  (.seq
  (.reg [47, 48] [o 47 (.mov (tt 3)),
    o 48 (.call 33 [(tt 47)]),
    o 9 (.mov (tt 48))])
  (.seq
  (.reg [49, 50, 51, 52, 53, 54, 55, 56, 57, 58, 59, 60, 61, 62, 63, 64, 65, 66, 67, 68] [o 49 (.mov (tt 9)),
    o 50 (.mov (tt 4)),
    o 51 (.mov (tt 3)),
    o 52 (.mov (tt 4)),
    o 53 (.idx 1 (tt 51) (tt 52)),
    o 54 (.load false 1 (tt 53)),
    o 55 (.mov (tt 5)),
    o 56 (.call 36 [(tt 49), (tt 50), (tt 54), (tt 55)]),
    o 57 (.mov (tt 56)),
    og 58 57 true (.mov (tt 9)),
    og 59 57 true (.mov (tt 4)),
    og 60 57 true (.mov (tt 3)),
    og 61 57 true (.mov (tt 4)),
    og 62 57 true (.idx 1 (tt 60) (tt 61)),
    og 63 57 true (.load false 1 (tt 62)),
    og 64 57 true (.bin .add (tt 63) (ci 1)),
    og 65 57 true (.mov (tt 5)),
    og 66 57 true (.call 36 [(tt 58), (tt 59), (tt 64), (tt 65)]),
    og 67 57 true (.un .not (tt 66)),
    o 68 (.pick (tt 57) (tt 67) (cb false)),
    o 2 (.mov (tt 68))])
  .ret)))))))))
def keep12 : List Nat := [0, 2, 3, 4, 5, 6, 7, 8, 9, 12, 38, 40]
def res12 : List RI := [.tmp 2]
theorem chk12 : chk Tryd.prog 12 1 keep12 = some (ir12, res12) := by kernel_rfl
def ir13 : Ir :=
  (.seq
  (.reg [] [o 2 (.mov (cb false))])
  (.seq
  (.seq
  (.reg [8, 9] [o 8 (.mov (tt 0)),
    o 9 (.len (tt 8)),
    o 10 (.bin .gtr (tt 9) (ci 1048576))])
  (.cond (tt 10)
   (.seq
   (.reg [] [o 2 (.mov (cb true))])
   .ret)
   .skip))
  (.seq
  (.reg [12, 13, 11, 14, 15, 16, 17] [o 12 (.mov (tt 0)),
    o 13 (.call 39 [(tt 12)]),
    o 11 (.mov (tt 13)),
    o 14 (.ext (tt 11) 0),
    o 15 (.ext (tt 11) 1),
    o 16 (.ext (tt 11) 2),
    o 17 (.ext (tt 11) 3),
    o 3 (.mov (tt 14)),
    o 4 (.mov (tt 15)),
    o 5 (.mov (tt 16)),
    o 6 (.mov (tt 17))])
  (.seq
  (.reg [18, 19, 20, 21, 22] [o 18 (.mov (tt 3)),
    o 19 (.mov (tt 4)),
    o 20 (.mov (tt 5)),
    o 21 (.mov (tt 6)),
    o 22 (.call 36 [(tt 18), (tt 19), (tt 20), (tt 21)]),
    o 7 (.mov (tt 22))])
  (.seq
  (.seq
  (.reg [23, 24, 25, 26, 27, 28] [o 23 (.mov (tt 7)),
    o 24 (.mov (tt 3)),
    o 25 (.mov (tt 4)),
    o 26 (.mov (tt 5)),
    o 27 (.mov (tt 6)),
    o 28 (.call 40 [(tt 24), (tt 25), (tt 26), (tt 27)]),
    o 29 (.binB .neq (tt 23) (tt 28))])
  (.cond (tt 29)
   (.seq
   (.reg [] [o 2 (.mov (cb false))])
   .ret)
   .skip))
  (.seq
  (.reg [30, 31, 32, 33, 34, 35, 36, 37, 38, 39, 40, 41, 42, 43, 44, 45, 46, 47, 48, 49, 50, 51, 52, 53, 54, 55] [o 30 (.mov (tt 7)),
    o 31 (.un .not (tt 30)),
    o 32 (.mov (tt 31)),
    og 33 32 true (.call 17 []),
    o 34 (.pick (tt 32) (tt 33) (cb false)),
    o 35 (.mov (tt 34)),
    og 36 35 false (.mov (tt 7)),
    og 37 35 false (.mov (tt 36)),
    og 38 37 true (.mov (tt 3)),
    og 39 37 true (.mov (tt 4)),
    og 40 37 true (.mov (tt 5)),
    og 41 37 true (.bin .add (tt 40) (ci 1)),
    og 42 37 true (.mov (tt 6)),
    og 43 37 true (.call 36 [(tt 38), (tt 39), (tt 41), (tt 42)]),
    og 44 37 true (.un .not (tt 43)),
    og 45 35 false (.pick (tt 37) (tt 44) (cb false)),
    og 46 35 false (.mov (tt 45)),
    og 47 46 true (.mov (tt 3)),
    og 48 46 true (.bin .add (tt 47) (ci 1)),
    og 49 46 true (.mov (tt 4)),
    og 50 46 true (.mov (tt 5)),
    og 51 46 true (.mov (tt 6)),
    og 52 46 true (.call 36 [(tt 48), (tt 49), (tt 50), (tt 51)]),
    og 53 46 true (.un .not (tt 52)),
    og 54 35 false (.pick (tt 46) (tt 53) (cb false)),
    o 55 (.pick (tt 35) (cb true) (tt 54)),
    o 2 (.mov (tt 55))])
  .ret))))))
def keep13 : List Nat := [0, 2, 3, 4, 5, 6, 7, 10, 29]
def res13 : List RI := [.tmp 2]
theorem chk13 : chk Tryd.prog 13 1 keep13 = some (ir13, res13) := by kernel_rfl

theorem intOf_fun' (F : Nat → Int) : (fun i => intOf (PI (F i))) = F := rfl
theorem pow_half {n k : Nat} : n / 2 ^ (k + 1) = n / 2 ^ k / 2 := by rw [Nat.div_div_eq_div_mul, Nat.pow_succ]
/-- All tags of a level are tags. -/
theorem upN_tag {n : Nat} {f : Nat → Int} (h : ∀ i, i < n → tagB (f i) = true) : ∀ k i, i < n / 2 ^ k → tagB (upN f k i) = true
  | 0, i, hi => h i (by simpa using hi)
  | k + 1, i, hi => by
    rw [pow_half] at hi
    have h1 := upN_tag h k (2 * i) (by omega)
    have h2 := upN_tag h k (2 * i + 1) (by omega)
    exact joinT_tag h1 h2
theorem treeOk_tags {n : Nat} {f : Nat → Int} (h : treeOk n f = true) : ∀ i, i < n → tagB (f i) = true := by
  simp only [treeOk, Bool.and_eq_true] at h
  exact allB_iff.1 h.2
/-- One tag is another one: on every level just one is another one. -/
theorem upN_one {n : Nat} {f g : Nat → Int} {k : Nat} (hf : ∀ i, i < n → tagB (f i) = true) (hg : ∀ i, i < n → tagB (g i) = true) (hk : k < n) (hne : f k ≠ g k) (heq : ∀ i, i < n → i ≠ k → f i = g i) :
    ∀ j, (∀ i, i < j → n / 2 ^ i % 2 = 0) → (∀ i, i < n / 2 ^ j → i ≠ k / 2 ^ j → upN f j i = upN g j i) ∧ upN f j (k / 2 ^ j) ≠ upN g j (k / 2 ^ j) ∧ k / 2 ^ j < n / 2 ^ j
  | 0, _ => by simpa using ⟨heq, hne, hk⟩
  | j + 1, he => by
    obtain ⟨h1, h2, h3⟩ := upN_one hf hg hk hne heq j (fun i hi => he i (by omega))
    have hev := he j (by omega)
    rw [pow_half, pow_half]
    have tf := upN_tag hf j
    have tg := upN_tag hg j
    generalize n / 2 ^ j = m at *
    generalize k / 2 ^ j = q at *
    refine ⟨fun i hi hne => ?_, ?_, by omega⟩
    · simp only [upN, upF]
      rw [h1 (2 * i) (by omega) (by omega), h1 (2 * i + 1) (by omega) (by omega)]
    · simp only [upN, upF]
      intro e
      by_cases hq : q % 2 = 0
      · have e1 : 2 * (q / 2) = q := by omega
        rw [e1, h1 (q + 1) (by omega) (by omega)] at e
        exact h2 (joinT_l (tf _ h3) (tg _ h3) (tg _ (by omega)) e)
      · have e1 : 2 * (q / 2) + 1 = q := by omega
        have e2 : 2 * (q / 2) = q - 1 := by omega
        rw [e1, e2, h1 (q - 1) (by omega) (by omega)] at e
        exact h2 (joinT_r (tg _ (by omega)) (tf _ h3) (tg _ h3) e)
theorem tree_evens {n : Nat} (h : n = 1 ∨ n = 2 ∨ n = 4 ∨ n = 8 ∨ n = 16) : ∀ i, i < Nat.log2 n → n / 2 ^ i % 2 = 0 := fun i hi =>
  tree_even h (tree_gt h hi) (by have := tree_log h; omega)
theorem root_other {n : Nat} {f g : Nat → Int} {k : Nat} (hf : treeOk n f = true) (hg : treeOk n g = true) (hk : k < n) (hne : f k ≠ g k) (heq : ∀ i, i < n → i ≠ k → f i = g i) : rootOf n g ≠ rootOf n f := by
  have hN := treeOk_n hf
  have h := upN_one (treeOk_tags hf) (treeOk_tags hg) hk hne heq (Nat.log2 n) (tree_evens hN)
  have e := (tree_log hN).1
  have e0 : k / 2 ^ Nat.log2 n = 0 := by rw [e] at h; exact Nat.lt_one_iff.1 h.2.2
  rw [e0] at h
  simp only [rootOf, hf, hg, if_true]
  exact fun e => h.2.1 e.symm
theorem root_neg {n : Nat} {f : Nat → Int} (h : rootOf n f < 0) : rootOf n f = -1 ∧ treeOk n f = false := by
  cases h0 : treeOk n f with
  | false => exact ⟨by simp [rootOf, h0], rfl⟩
  | true =>
    have := tagB_iff.1 (upN_tag (treeOk_tags h0) (Nat.log2 n) 0 (by rw [(tree_log (treeOk_n h0)).1]; decide))
    simp only [rootOf, h0, if_true] at h
    omega
theorem root_pos {n : Nat} {f : Nat → Int} (h : ¬ rootOf n f < 0) : treeOk n f = true := by
  cases h0 : treeOk n f with
  | false => simp [rootOf, h0] at h
  | true => rfl
/-- A walk along a proof leads up. -/
theorem walk_up {n : Nat} {f : Nat → Int} {a : Nat} (hn : n = 1 ∨ n = 2 ∨ n = 4 ∨ n = 8 ∨ n = 16) (ha : a < n) : ∀ k, k ≤ Nat.log2 n → walkT a (f a) (proofF f a) k = upN f k (a / 2 ^ k)
  | 0, _ => by simp [walkT, upN]
  | k + 1, hk => by
    have ih := walk_up (f := f) hn ha k (by omega)
    rw [pow_half]
    simp only [walkT, ih, upN, upF, proofF]
    generalize a / 2 ^ k = q
    unfold sibN
    split
    · rename_i h
      rw [show q + 1 - 2 * (q % 2) = q + 1 by omega, show 2 * (q / 2) = q by omega]
    · rename_i h
      rw [show q + 1 - 2 * (q % 2) = q - 1 by omega, show 2 * (q / 2) = q - 1 by omega, show q - 1 + 1 = q by omega]
theorem tree_p2 {n : Nat} (h : n = 1 ∨ n = 2 ∨ n = 4 ∨ n = 8 ∨ n = 16) : p2 (Nat.log2 n) = n := by rcases h with rfl | rfl | rfl | rfl | rfl <;> decide
theorem proof_tag {n : Nat} {f : Nat → Int} {a : Nat} (h : treeOk n f = true) (ha : a < n) : ∀ i, i < Nat.log2 n → tagB (proofF f a i) = true := fun i hi => by
  have hN := treeOk_n h
  have hl := (tree_log hN).2
  have h1 := tree_gt hN hi
  exact upN_tag (treeOk_tags h) i _ (sib_lt (tree_lt (a := a) hN (by omega) (by omega) ha) (tree_even hN h1 (by omega)))
theorem proof_right {n : Nat} {f : Nat → Int} {a : Nat} (h : treeOk n f = true) (ha : a < n) : prOk (Nat.log2 n) (proofF f a) (rootOf n f) a (f a) = true := by
  have hN := treeOk_n h
  have hl := tree_log hN
  have h0 : a / 2 ^ Nat.log2 n = 0 := by
    have := tree_lt (a := a) (k := Nat.log2 n) hN (by rw [hl.1]; decide) hl.2 ha
    rw [hl.1] at this; exact Nat.lt_one_iff.1 this
  have hw := walk_up (f := f) hN ha (Nat.log2 n) (Nat.le_refl _)
  rw [h0] at hw
  have hall : allB (fun i => tagB (proofF f a i)) (Nat.log2 n) = true := allB_iff.2 (proof_tag h ha)
  simp only [prOk, Int.toNat_natCast, hw, hall, treeOk_tags h a ha, tree_p2 hN, rootOf, h, if_true, beq_self_eq_true, Bool.and_true, Bool.and_eq_true, decide_eq_true_eq]
  exact ⟨hl.2, inB_iff.2 (by omega)⟩
theorem walk_inj {a : Nat} {t t' : Int} {f : Nat → Int} (ht : tagB t = true) (ht' : tagB t' = true) : ∀ {k : Nat}, (∀ j, j < k → tagB (f j) = true) → walkT a t f k = walkT a t' f k → t = t'
  | 0, _, h => h
  | k + 1, hf, h => by
    have h1 := walk_tag (a := a) ht (k := k) fun j hj => hf j (by omega)
    have h2 := walk_tag (a := a) ht' (k := k) fun j hj => hf j (by omega)
    have h3 := hf k (by omega)
    refine walk_inj (a := a) ht ht' (k := k) (fun j hj => hf j (by omega)) ?_
    simp only [walkT] at h
    split at h
    · exact joinT_l h1 h2 h3 h
    · exact joinT_r h3 h1 h2 h
theorem prOk_all {n : Nat} {f : Nat → Int} {r a t : Int} (h : prOk n f r a t = true) : tagB t = true ∧ (∀ i, i < n → tagB (f i) = true) ∧ walkT a.toNat t f n = r := by
  simp only [prOk, Bool.and_eq_true, beq_iff_eq] at h
  exact ⟨h.1.1.2, allB_iff.1 h.1.2, h.2⟩
theorem prOk_tag {n : Nat} {f : Nat → Int} {r a t : Int} (h : prOk n f r a t = true) : prOk n f r a (t + 1) = false := by
  cases h1 : prOk n f r a (t + 1) with
  | false => rfl
  | true =>
    obtain ⟨a1, a2, a3⟩ := prOk_all h
    obtain ⟨b1, b2, b3⟩ := prOk_all h1
    have := walk_inj a1 b1 a2 (a3.trans b3.symm)
    omega
theorem prOk_root {n : Nat} {f : Nat → Int} {r a t : Int} (h : prOk n f r a t = true) : prOk n f (r + 1) a t = false ∧ tagB r = true := by
  obtain ⟨a1, a2, a3⟩ := prOk_all h
  refine ⟨?_, a3 ▸ walk_tag a1 a2⟩
  cases h1 : prOk n f (r + 1) a t with
  | false => rfl
  | true =>
    obtain ⟨b1, b2, b3⟩ := prOk_all h1
    omega
def in_lRO (nn : Bool) (n : Nat) (f : Nat → Int) := (G0, res10, ([] : List (Nat × Ob)), [Item.ir ir10], start [.p false (.sl nn 1 n (PB f))] [])
theorem ev_lRO : ∀ (nn : Bool) (n : Nat) (f : Nat → Int),
  ev G0 res10 [] (3000 : Nat)
      (Or.nil.split
        (Or.callE [] TE (fun (y : TE) => y.fst ≤ (20 : Nat)) (fun (y : TE) => teR y) (fun (x : TE) => [])
          fun (y : TE) =>
          Or.call [] (AI (rootOf y.1 fun (i : Nat) => intOf (PI (y.2 i)))) []
            (Or.call [] (AI (rootOf y.1 fun (i : Nat) => intOf (PI (y.2 i)))) []
              (Or.nil.split (((Or.call [] (AB true) [] Or.nil.lit).split Or.nil.lit).split Or.nil)))))
      [Item.ir ir10] (start [AV.p false (PV.sl nn (1 : Nat) n (PB f))] []) =
    VC.split (decide ((1048576 : Int) < (↑n : Int))) (VC.doneP (AV.p true (PV.v (Value.bool true))))
      (VC.callE TE (32 : Nat) [AV.p false (PV.sl nn (1 : Nat) n (PB f))] [] (fun (y : TE) => y.fst ≤ (20 : Nat))
        (fun (y : TE) => teR y) (fun (x : TE) => []) fun (y : TE) =>
        VC.call (33 : Nat) [AV.p false (PV.sl false (1 : Nat) y.1 fun (i x : Nat) => PI (y.2 i))] []
          (AI (rootOf y.1 fun (i : Nat) => intOf (PI (y.2 i)))) []
          (VC.call (34 : Nat) [AV.p false (PV.sl false (1 : Nat) y.1 fun (i x : Nat) => PI (y.2 i))] []
            (AI (rootOf y.1 fun (i : Nat) => intOf (PI (y.2 i)))) []
            (VC.split
              ((rootOf y.1 fun (i : Nat) => intOf (PI (y.2 i))) != rootOf y.1 fun (i : Nat) => intOf (PI (y.2 i)))
              (VC.doneP (AV.p true (PV.v (Value.bool false))))
              (VC.split (decide ((rootOf y.1 fun (i : Nat) => intOf (PI (y.2 i))) < (0 : Int)))
                (VC.split ((rootOf y.1 fun (i : Nat) => intOf (PI (y.2 i))) == (-1 : Int))
                  (VC.call (17 : Nat) [] [] (AB true) [] (VC.doneP (AV.p true (PV.v (Value.bool true)))))
                  (VC.doneP (AV.p true (PV.v (Value.bool false)))))
                (VC.loop ir10_L1 [Item.bend (0 : Nat), Item.ir ir10_T2]
                  {
                    env :=
                      [((0 : Nat), AV.p false (PV.sl nn (1 : Nat) n (PB f))),
                        ((2 : Nat), AV.p true (PV.v (Value.bool false))),
                        ((9 : Nat), AV.p true (PV.v (Value.bool (decide ((1048576 : Int) < (↑n : Int)))))),
                        ((3 : Nat), AV.p true (PV.sl false (1 : Nat) y.1 fun (i x : Nat) => PI (y.2 i))),
                        ((4 : Nat),
                          AV.p true (PV.v (Value.int IntKind.i64 (rootOf y.1 fun (i : Nat) => intOf (PI (y.2 i)))))),
                        ((17 : Nat),
                          AV.p true
                            (PV.v
                              (Value.bool
                                ((rootOf y.1 fun (i : Nat) => intOf (PI (y.2 i))) !=
                                  rootOf y.1 fun (i : Nat) => intOf (PI (y.2 i)))))),
                        ((19 : Nat),
                          AV.p true
                            (PV.v
                              (Value.bool (decide ((rootOf y.1 fun (i : Nat) => intOf (PI (y.2 i))) < (0 : Int)))))),
                        ((5 : Nat), AV.p true (PV.v (Value.int IntKind.i64 (0 : Int))))],
                    H := [] }))))) := by
  intros; kernel_rfl
def st_lRO (N : Nat) (F : Nat → Int) (k : Nat) : St := ⟨[(3, .p true (.sl false 1 N (fun i _ => PI (F i)))), (4, AI (rootOf N F)), (5, AI k)], []⟩
def r_lRO (N : Nat) (F : Nat → Int) (I : Nat → St → Prop) (k : Nat) := (G0, res10, ([] : List (Nat × Ob)), [Item.ir ir10_L1, .lend (I k), Item.bend 0, Item.ir ir10_T2], st_lRO N F k)
theorem evr_lRO : ∀ (N : Nat) (F : Nat → Int) (I : Nat → St → Prop) (k : Nat),
  ev G0 res10 [] (3000 : Nat)
      ((Or.call []
            (AI
              (rootOf ((0 : Nat) + N) fun (i : Nat) =>
                intOf
                  (setG
                    [((↑k : Int).toNat, (0 : Nat),
                        PV.v
                          (Value.int IntKind.i64
                            ((IntKind.i64.wrap (F (↑k : Int).toNat + (1 : Int))).tmod (200003 : Int))))]
                    (fun (a b : Nat) =>
                      if a < (0 : Nat) then
                        setG [] (fun (x j : Nat) => PV.v ([Value.int IntKind.i64 (0 : Int)].getD j undef)) a b
                      else PI (F (a - (0 : Nat))))
                    i (0 : Nat))))
            [] (Or.nil.split Or.nil)).split
        Or.nil)
      [Item.ir ir10_L1, Item.lend (I k), Item.bend (0 : Nat), Item.ir ir10_T2] (st_lRO N F k) =
    VC.split (decide ((↑k : Int) < (↑N : Int)))
      (VC.need
        ((((0 : Nat) + N) * (8 : Nat) ≤ (140737488355328 : Nat) ∧
            (↑((0 : Nat) + N) : Int) ≤ (9223372036854775807 : Int)) ∧
          allV (1 : Nat) N fun (i x : Nat) => PI (F i))
        (VC.need ((0 : Int) ≤ (↑k : Int) ∧ (↑k : Int).toNat < N)
          (VC.need ((200003 : Int) ≠ (0 : Int))
            (VC.need ((0 : Int) ≤ (↑k : Int) ∧ (↑k : Int).toNat < (0 : Nat) + N)
              (VC.need ((↑k : Int).toNat < (0 : Nat) + N)
                (VC.call (33 : Nat)
                  [AV.p false
                      (PV.sl true (1 : Nat) ((0 : Nat) + N)
                        (setG
                          [((↑k : Int).toNat, (0 : Nat),
                              PV.v
                                (Value.int IntKind.i64
                                  ((IntKind.i64.wrap (F (↑k : Int).toNat + (1 : Int))).tmod (200003 : Int))))]
                          fun (a b : Nat) =>
                          if a < (0 : Nat) then
                            setG [] (fun (x j : Nat) => PV.v ([Value.int IntKind.i64 (0 : Int)].getD j undef)) a b
                          else PI (F (a - (0 : Nat)))))]
                  []
                  (AI
                    (rootOf ((0 : Nat) + N) fun (i : Nat) =>
                      intOf
                        (setG
                          [((↑k : Int).toNat, (0 : Nat),
                              PV.v
                                (Value.int IntKind.i64
                                  ((IntKind.i64.wrap (F (↑k : Int).toNat + (1 : Int))).tmod (200003 : Int))))]
                          (fun (a b : Nat) =>
                            if a < (0 : Nat) then
                              setG [] (fun (x j : Nat) => PV.v ([Value.int IntKind.i64 (0 : Int)].getD j undef)) a b
                            else PI (F (a - (0 : Nat))))
                          i (0 : Nat))))
                  []
                  (VC.split
                    ((rootOf ((0 : Nat) + N) fun (i : Nat) =>
                        intOf
                          (setG
                            [((↑k : Int).toNat, (0 : Nat),
                                PV.v
                                  (Value.int IntKind.i64
                                    ((IntKind.i64.wrap (F (↑k : Int).toNat + (1 : Int))).tmod (200003 : Int))))]
                            (fun (a b : Nat) =>
                              if a < (0 : Nat) then
                                setG [] (fun (x j : Nat) => PV.v ([Value.int IntKind.i64 (0 : Int)].getD j undef)) a b
                              else PI (F (a - (0 : Nat))))
                            i (0 : Nat))) ==
                      rootOf N F)
                    (VC.doneP (AV.p true (PV.v (Value.bool false))))
                    (VC.lend (I k)
                      {
                        env :=
                          [((3 : Nat), AV.p true (PV.sl false (1 : Nat) N fun (i x : Nat) => PI (F i))),
                            ((4 : Nat), AV.p true (PV.v (Value.int IntKind.i64 (rootOf N F)))),
                            ((5 : Nat),
                              AV.p true (PV.v (Value.int IntKind.i64 (IntKind.i64.wrap ((↑k : Int) + (1 : Int)))))),
                            ((28 : Nat), AV.p true (PV.v (Value.bool (decide ((↑k : Int) < (↑N : Int)))))),
                            ((6 : Nat), AV.own (33 : Nat)),
                            ((46 : Nat),
                              AV.p true
                                (PV.v
                                  (Value.bool
                                    ((rootOf ((0 : Nat) + N) fun (i : Nat) =>
                                        intOf
                                          (setG
                                            [((↑k : Int).toNat, (0 : Nat),
                                                PV.v
                                                  (Value.int IntKind.i64
                                                    ((IntKind.i64.wrap (F (↑k : Int).toNat + (1 : Int))).tmod
                                                      (200003 : Int))))]
                                            (fun (a b : Nat) =>
                                              if a < (0 : Nat) then
                                                setG []
                                                  (fun (x j : Nat) =>
                                                    PV.v ([Value.int IntKind.i64 (0 : Int)].getD j undef))
                                                  a b
                                              else PI (F (a - (0 : Nat))))
                                            i (0 : Nat))) ==
                                      rootOf N F))))],
                        H :=
                          [((33 : Nat),
                              Ob.row Mode.u true (1 : Nat) ((0 : Nat) + N)
                                (setG
                                  [((↑k : Int).toNat, (0 : Nat),
                                      PV.v
                                        (Value.int IntKind.i64
                                          ((IntKind.i64.wrap (F (↑k : Int).toNat + (1 : Int))).tmod (200003 : Int))))]
                                  fun (a b : Nat) =>
                                  if a < (0 : Nat) then
                                    setG [] (fun (x j : Nat) => PV.v ([Value.int IntKind.i64 (0 : Int)].getD j undef)) a
                                      b
                                  else PI (F (a - (0 : Nat))))
                                [])] }))))))))
      (VC.doneP (AV.p true (PV.v (Value.bool true)))) := by
  intros; kernel_rfl
theorem c_lRO (nn : Bool) (n : Nat) (f : Nat → Int) (hb : Bytes f) : PRet Tryd.prog G0 10 [.p false (.sl nn 1 n (PB f))] (AB true) := by
  refine PRet.by chk10 (ev_lRO nn n f) ?_
  simp only [VC.holds_split, VC.holds_need, VC.holds_doneP, VC.holds_done, VC.holds_either, VC.holds_call, VC.holds_callE, VC.holds_lend, VC.holds_stop, VC.holds_fail, decide_eq_true_eq, decide_eq_false_iff_not]
  simp only [intOf_fun']
  refine ⟨fun h => by simp, fun h => ⟨c_dRO nn n f hb, ?_⟩⟩
  rintro ⟨N, F⟩ hy
  simp only [] at hy ⊢
  refine ⟨c_imRO _ _ _ (int_cells _ _) (by omega), c_spRO _ _ _ (int_cells _ _) (by omega), fun h1 => by simp at h1, fun h1 => ⟨fun h2 => ⟨fun h3 => ⟨c_alive, by simp⟩, fun h3 => ?_⟩, fun h2 => ?_⟩⟩
  · rw [(root_neg h2).1] at h3; simp at h3
  · have hok := root_pos h2
    refine loop_by (st_lRO N F) (fun k => k ≤ N) (fun k => N - k) 0 [] [] [] (by omega) ?_ (evr_lRO N F) fun k hk => ?_
    · simp [st_lRO, hbs, St.lowers, St.lower, stLe, leEnv, leObs, obLe, injB, pinC, AV.leC, AV.leCs, PV.leC, PV.Le_v, St.get, St.obj, look, rho, isNew, keptC, renH, Mode.ok, Mode.isZ, PV.isVal, PV.isNilSl, List.all_nil, List.all_cons, List.any_nil, List.any_cons, List.map_nil, List.map_cons]
    · simp only [VC.holds_split, VC.holds_need, VC.holds_doneP, VC.holds_done, VC.holds_either, VC.holds_call, VC.holds_callE, VC.holds_lend, VC.holds_stop, VC.holds_fail, decide_eq_true_eq, decide_eq_false_iff_not, Int.toNat_natCast, Nat.zero_add]
      refine ⟨fun h3 => ?_, fun h3 => by simp⟩
      have hkN : k < N := by omega
      have ht := tagB_iff.1 (treeOk_tags hok k hkN)
      have w1 : IntKind.i64.wrap (F k + 1) = F k + 1 := wrap_in (by omega) (by omega)
      have w2 := tmod_rng (a := F k + 1) (m := 200003) (by omega) (by decide)
      have w3 : IntKind.i64.wrap ((k : Int) + 1) = ((k + 1 : Nat) : Int) := wrap_in (by omega) (by omega)
      have w4 : (F k + 1).tmod 200003 ≠ F k := by
        rw [Int.tmod_eq_emod_of_nonneg (by omega)]; omega
      simp only [w1, w3]
      have hcells : IntCells 1 N (setG [(k, 0, PV.v (Value.int IntKind.i64 ((F k + 1).tmod 200003)))] fun a b => if a < 0 then setG [] (fun x j => PV.v ([Value.int IntKind.i64 0].getD j undef)) a b else PI (F (a - 0))) := by
        intro i j hi hj
        obtain rfl : j = 0 := by omega
        simp only [setG, cellSet]
        exact isI_ite rfl (isI_ite rfl rfl)
      refine ⟨⟨by omega, fun i j hi hj => rfl⟩, ⟨by omega, by omega⟩, by omega, ⟨by omega, by omega⟩, by omega, c_imRO _ _ _ hcells (by omega), fun h4 => ?_, fun h4 => Again.mk (k + 1) [] [] [] (by omega) (by omega) ?_⟩
      · exfalso
        have hv : ∀ i, intOf (setG [(k, 0, PV.v (Value.int IntKind.i64 ((F k + 1).tmod 200003)))] (fun a b => if a < 0 then setG [] (fun x j => PV.v ([Value.int IntKind.i64 0].getD j undef)) a b else PI (F (a - 0))) i 0) = if i = k then (F k + 1).tmod 200003 else F i := by
          intro i
          by_cases h5 : i = k <;> simp [setG, cellSet, h5, intOf]
        simp only [hv] at h4
        refine root_other (f := F) (g := fun i => if i = k then (F k + 1).tmod 200003 else F i) hok ?_ hkN (by simpa using fun e => w4 e.symm) (fun i hi hne => by simp [hne]) (by simpa using h4)
        simp only [treeOk, Bool.and_eq_true] at hok ⊢
        refine ⟨hok.1, allB_iff.2 fun i hi => ?_⟩
        by_cases h5 : i = k
        · simp only [h5, if_true]; exact tagB_iff.2 ⟨w2.1, by omega⟩
        · simp only [h5, if_false]; exact allB_iff.1 hok.2 i hi
      · simp [st_lRO, hbs, St.lowers, St.lower, stLe, leEnv, leObs, obLe, injB, pinC, AV.leC, AV.leCs, PV.leC, PV.Le_v, St.get, St.obj, look, rho, isNew, keptC, renH, Mode.ok, Mode.isZ, PV.isVal, PV.isNilSl, List.all_nil, List.all_cons, List.any_nil, List.any_cons, List.map_nil, List.map_cons]
theorem law_FnRootOf (xs : List AV) (h : Args Tryd.prog Tryd.f10.params.toList xs) : PRet Tryd.prog G0 10 xs (AB true) := by
  have hp : Tryd.f10.params.toList = [22] := by kernel_rfl
  rw [hp] at h
  obtain ⟨nn, n, f, c, cs, hb, h2, rfl, hle⟩ := args_bytes h
  cases h2
  exact (c_lRO nn n f hb).args ⟨hle, trivial⟩
def in_lTP (nn : Bool) (n : Nat) (f : Nat → Int) := (G0, res11, ([] : List (Nat × Ob)), [Item.ir ir11], start [.p false (.sl nn 1 n (PB f))] [])
theorem ev_lTP : ∀ (nn : Bool) (n : Nat) (f : Nat → Int),
  ev G0 res11 [] (3000 : Nat)
      (Or.nil.split
        (Or.callE [] TE (fun (y : TE) => y.fst ≤ (20 : Nat)) (fun (y : TE) => teR y) (fun (x : TE) => [])
          fun (y : TE) =>
          Or.call [] (AI (rootOf y.1 fun (i : Nat) => intOf (PI (y.2 i)))) []
            (Or.call [] (AI (rootOf y.1 fun (i : Nat) => intOf (PI (y.2 i)))) [] (Or.nil.split Or.nil))))
      [Item.ir ir11] (start [AV.p false (PV.sl nn (1 : Nat) n (PB f))] []) =
    VC.split (decide ((1048576 : Int) < (↑n : Int))) (VC.doneP (AV.p true (PV.v (Value.bool true))))
      (VC.callE TE (32 : Nat) [AV.p false (PV.sl nn (1 : Nat) n (PB f))] [] (fun (y : TE) => y.fst ≤ (20 : Nat))
        (fun (y : TE) => teR y) (fun (x : TE) => []) fun (y : TE) =>
        VC.call (33 : Nat) [AV.p false (PV.sl false (1 : Nat) y.1 fun (i x : Nat) => PI (y.2 i))] []
          (AI (rootOf y.1 fun (i : Nat) => intOf (PI (y.2 i)))) []
          (VC.call (34 : Nat) [AV.p false (PV.sl false (1 : Nat) y.1 fun (i x : Nat) => PI (y.2 i))] []
            (AI (rootOf y.1 fun (i : Nat) => intOf (PI (y.2 i)))) []
            (VC.split
              ((rootOf y.1 fun (i : Nat) => intOf (PI (y.2 i))) != rootOf y.1 fun (i : Nat) => intOf (PI (y.2 i)))
              (VC.doneP (AV.p true (PV.v (Value.bool false))))
              (VC.loop ir11_L1 [Item.bend (0 : Nat), Item.ir ir11_T2]
                {
                  env :=
                    [((0 : Nat), AV.p false (PV.sl nn (1 : Nat) n (PB f))),
                      ((2 : Nat), AV.p true (PV.v (Value.bool false))),
                      ((10 : Nat), AV.p true (PV.v (Value.bool (decide ((1048576 : Int) < (↑n : Int)))))),
                      ((3 : Nat), AV.p true (PV.sl false (1 : Nat) y.1 fun (i x : Nat) => PI (y.2 i))),
                      ((4 : Nat),
                        AV.p true (PV.v (Value.int IntKind.i64 (rootOf y.1 fun (i : Nat) => intOf (PI (y.2 i)))))),
                      ((18 : Nat),
                        AV.p true
                          (PV.v
                            (Value.bool
                              ((rootOf y.1 fun (i : Nat) => intOf (PI (y.2 i))) !=
                                rootOf y.1 fun (i : Nat) => intOf (PI (y.2 i)))))),
                      ((5 : Nat), AV.p true (PV.v (Value.int IntKind.i64 (0 : Int))))],
                  H := [] })))) := by
  intros; kernel_rfl
def st_lTP (N : Nat) (F : Nat → Int) (k : Nat) : St := ⟨[(3, .p true (.sl false 1 N (fun i _ => PI (F i)))), (4, AI (rootOf N F)), (5, AI k)], []⟩
def r_lTP (N : Nat) (F : Nat → Int) (I : Nat → St → Prop) (k : Nat) := (G0, res11, ([] : List (Nat × Ob)), [Item.ir ir11_L1, .lend (I k), Item.bend 0, Item.ir ir11_T2], st_lTP N F k)
theorem evr_lTP : ∀ (N : Nat) (F : Nat → Int) (I : Nat → St → Prop) (k : Nat),
  ev G0 res11 [] (3000 : Nat)
      (((Or.call [] (proofR N (fun (i : Nat) => intOf (PI (F i))) (↑k : Int))
                    (proofH N (fun (i : Nat) => intOf (PI (F i))) (↑k : Int))
                    (Or.nil.lit.lit.lit.lit.lit.lit.lit.lit.lit.lit.split
                      (Or.call []
                                      (AB
                                        (prOk (proofN N (fun (i : Nat) => intOf (PI (F i))) (↑k : Int))
                                          (fun (i : Nat) =>
                                            intOf
                                              (PI (proofF (fun (i_1 : Nat) => intOf (PI (F i_1))) (↑k : Int).toNat i)))
                                          (rootOf N F) (↑k : Int) (F (↑k : Int).toNat)))
                                      [] (Or.nil.split Or.nil).lit.lit).lit.lit.lit.lit.lit.lit.lit)).split
                (Or.call [] (AB true) [] Or.nil)).lit.lit.split
        (Or.call [] (AB true) [] Or.nil).lit.lit.lit)
      [Item.ir ir11_L1, Item.lend (I k), Item.bend (0 : Nat), Item.ir ir11_T2] (st_lTP N F k) =
    VC.split (decide ((↑k : Int) < (↑N : Int)))
      (VC.split (decide ((0 : Int) ≤ rootOf N F))
        (VC.call (35 : Nat)
          [AV.p false (PV.sl false (1 : Nat) N fun (i x : Nat) => PI (F i)),
            AV.p true (PV.v (Value.int IntKind.i64 (↑k : Int)))]
          [] (proofR N (fun (i : Nat) => intOf (PI (F i))) (↑k : Int))
          (proofH N (fun (i : Nat) => intOf (PI (F i))) (↑k : Int))
          (VC.split (!proofOk N (fun (i : Nat) => intOf (PI (F i))) (↑k : Int))
            (VC.doneP (AV.p true (PV.v (Value.bool false))))
            (VC.need ((0 : Int) ≤ (↑k : Int) ∧ (↑k : Int).toNat < N)
              (VC.call (36 : Nat)
                [AV.p true (PV.v (Value.int IntKind.i64 (rootOf N F))),
                  AV.p true (PV.v (Value.int IntKind.i64 (↑k : Int))),
                  AV.p true (PV.v (Value.int IntKind.i64 (F (↑k : Int).toNat))),
                  AV.p false
                    (PV.sl false (1 : Nat) (proofN N (fun (i : Nat) => intOf (PI (F i))) (↑k : Int)) fun (i x : Nat) =>
                      PI (proofF (fun (i_1 : Nat) => intOf (PI (F i_1))) (↑k : Int).toNat i))]
                []
                (AB
                  (prOk (proofN N (fun (i : Nat) => intOf (PI (F i))) (↑k : Int))
                    (fun (i : Nat) => intOf (PI (proofF (fun (i_1 : Nat) => intOf (PI (F i_1))) (↑k : Int).toNat i)))
                    (rootOf N F) (↑k : Int) (F (↑k : Int).toNat)))
                []
                (VC.split
                  (!prOk (proofN N (fun (i : Nat) => intOf (PI (F i))) (↑k : Int))
                      (fun (i : Nat) => intOf (PI (proofF (fun (i_1 : Nat) => intOf (PI (F i_1))) (↑k : Int).toNat i)))
                      (rootOf N F) (↑k : Int) (F (↑k : Int).toNat))
                  (VC.doneP (AV.p true (PV.v (Value.bool false))))
                  (VC.lend (I k)
                    {
                      env :=
                        [((3 : Nat), AV.p true (PV.sl false (1 : Nat) N fun (i x : Nat) => PI (F i))),
                          ((4 : Nat), AV.p true (PV.v (Value.int IntKind.i64 (rootOf N F)))),
                          ((5 : Nat),
                            AV.p true (PV.v (Value.int IntKind.i64 (IntKind.i64.wrap ((↑k : Int) + (1 : Int)))))),
                          ((26 : Nat), AV.p true (PV.v (Value.bool (decide ((0 : Int) ≤ rootOf N F))))),
                          ((6 : Nat), AV.own (1032 : Nat)),
                          ((7 : Nat),
                            AV.p true (PV.v (Value.bool (proofOk N (fun (i : Nat) => intOf (PI (F i))) (↑k : Int))))),
                          ((47 : Nat),
                            AV.p true
                              (PV.v
                                (Value.bool
                                  !prOk (proofN N (fun (i : Nat) => intOf (PI (F i))) (↑k : Int))
                                      (fun (i : Nat) =>
                                        intOf (PI (proofF (fun (i_1 : Nat) => intOf (PI (F i_1))) (↑k : Int).toNat i)))
                                      (rootOf N F) (↑k : Int) (F (↑k : Int).toNat))))],
                      H :=
                        [((1032 : Nat),
                            Ob.row Mode.u false (1 : Nat) (proofN N (fun (i : Nat) => intOf (PI (F i))) (↑k : Int))
                              (fun (i x : Nat) =>
                                PI (proofF (fun (i_1 : Nat) => intOf (PI (F i_1))) (↑k : Int).toNat i))
                              [])] }))))))
        (VC.call (17 : Nat) [] [] (AB true) [] (VC.doneP (AV.p true (PV.v (Value.bool true))))))
      (VC.call (17 : Nat) [] [] (AB true) [] (VC.doneP (AV.p true (PV.v (Value.bool true))))) := by
  intros; kernel_rfl
theorem proofOk_nat {N k : Nat} {F : Nat → Int} (h : treeOk N F = true) (hk : k < N) : proofOk N F k = true ∧ proofN N F k = Nat.log2 N := by
  have : proofOk N F k = true := by simp only [proofOk, h, Bool.true_and]; exact inB_iff.2 (by omega)
  exact ⟨this, by simp [proofN, this]⟩
theorem c_lTP (nn : Bool) (n : Nat) (f : Nat → Int) (hb : Bytes f) : PRet Tryd.prog G0 11 [.p false (.sl nn 1 n (PB f))] (AB true) := by
  refine PRet.by chk11 (ev_lTP nn n f) ?_
  simp only [VC.holds_split, VC.holds_need, VC.holds_doneP, VC.holds_done, VC.holds_either, VC.holds_call, VC.holds_callE, VC.holds_lend, VC.holds_stop, VC.holds_fail, decide_eq_true_eq, decide_eq_false_iff_not]
  simp only [intOf_fun']
  refine ⟨fun h => by simp, fun h => ⟨c_dRO nn n f hb, ?_⟩⟩
  rintro ⟨N, F⟩ hy
  simp only [] at hy ⊢
  refine ⟨c_imRO _ _ _ (int_cells _ _) (by omega), c_spRO _ _ _ (int_cells _ _) (by omega), fun h1 => by simp at h1, fun h1 => loop_by (st_lTP N F) (fun k => k ≤ N) (fun k => N - k) 0 [] [] [] (by omega) ?_ (evr_lTP N F) fun k hk => ?_⟩
  · simp [st_lTP, hbs, St.lowers, St.lower, stLe, leEnv, leObs, obLe, injB, pinC, AV.leC, AV.leCs, PV.leC, PV.Le_v, St.get, St.obj, look, rho, isNew, keptC, renH, Mode.ok, Mode.isZ, PV.isVal, PV.isNilSl, List.all_nil, List.all_cons, List.any_nil, List.any_cons, List.map_nil, List.map_cons]
  · simp only [VC.holds_split, VC.holds_need, VC.holds_doneP, VC.holds_done, VC.holds_either, VC.holds_call, VC.holds_callE, VC.holds_lend, VC.holds_stop, VC.holds_fail, decide_eq_true_eq, decide_eq_false_iff_not]
    simp only [intOf_fun', Int.toNat_natCast]
    have hi := int_cells F N
    have w3 : IntKind.i64.wrap ((k : Int) + 1) = ((k + 1 : Nat) : Int) := wrap_in (by omega) (by omega)
    simp only [w3]
    refine ⟨fun h3 => ⟨fun h4 => ?_, fun h4 => ⟨c_alive, by simp⟩⟩, fun h3 => ⟨c_alive, by simp⟩⟩
    have hkN : k < N := by omega
    have hok := root_pos (n := N) (f := F) (by omega)
    obtain ⟨e1, e2⟩ := proofOk_nat hok hkN
    have e3 := proof_right hok hkN
    have hl := (tree_log (treeOk_n hok)).2
    have im := c_imPR false (Nat.log2 N) (fun i _ => PI (proofF F k i)) (rootOf N F) k (F k) (int_cells _ _) (by omega)
    simp only [intOf_fun', e3] at im
    have po := c_imPO false N (fun i _ => PI (F i)) k hi (by omega)
    simp only [e1, e2, e3, Int.toNat_natCast]
    refine ⟨?_, fun h5 => by simp at h5, fun h5 => ⟨by omega, im, fun h6 => by simp at h6, fun h6 => Again.mk (k + 1) [] [] [] (by omega) (by omega) ?_⟩⟩
    · simp only [intOf_fun', proofR, proofH, e1, e2] at po ⊢
      exact po
    · simp [st_lTP, hbs, St.lowers, St.lower, stLe, leEnv, leObs, obLe, injB, pinC, AV.leC, AV.leCs, PV.leC, PV.Le_v, St.get, St.obj, look, rho, isNew, keptC, renH, Mode.ok, Mode.isZ, PV.isVal, PV.isNilSl, List.all_nil, List.all_cons, List.any_nil, List.any_cons, List.map_nil, List.map_cons]
theorem law_FnTreeProofs (xs : List AV) (h : Args Tryd.prog Tryd.f11.params.toList xs) : PRet Tryd.prog G0 11 xs (AB true) := by
  have hp : Tryd.f11.params.toList = [22] := by kernel_rfl
  rw [hp] at h
  obtain ⟨nn, n, f, c, cs, hb, h2, rfl, hle⟩ := args_bytes h
  cases h2
  exact (c_lTP nn n f hb).args ⟨hle, trivial⟩
def in_lPO (nn : Bool) (n : Nat) (f : Nat → Int) := (G0, res12, ([] : List (Nat × Ob)), [Item.ir ir12], start [.p false (.sl nn 1 n (PB f))] [])
theorem ev_lPO : ∀ (nn : Bool) (n : Nat) (f : Nat → Int),
  ev G0 res12 [] (3000 : Nat)
      (Or.nil.split
        (Or.callE [] (TE × Int) (fun (y : TE × Int) => y.fst.fst ≤ (20 : Nat))
          (fun (y : TE × Int) => AV.tp [teR y.fst, AI y.snd]) (fun (x : TE × Int) => []) fun (y : TE × Int) =>
          Or.call [] (proofR y.1.1 (fun (i : Nat) => intOf (PI (y.1.2 i))) y.2)
            (proofH y.1.1 (fun (i : Nat) => intOf (PI (y.1.2 i))) y.2)
            (Or.call [] (proofR y.1.1 (fun (i : Nat) => intOf (PI (y.1.2 i))) y.2)
              (proofH y.1.1 (fun (i : Nat) => intOf (PI (y.1.2 i))) y.2)
              (Or.call []
                (AB
                  (sameI (proofN y.1.1 (fun (i : Nat) => intOf (PI (y.1.2 i))) y.2)
                    (fun (i : Nat) => intOf (PI (proofF (fun (i_1 : Nat) => intOf (PI (y.1.2 i_1))) y.2.toNat i)))
                    (proofN y.1.1 (fun (i : Nat) => intOf (PI (y.1.2 i))) y.2) fun (i : Nat) =>
                    intOf (PI (proofF (fun (i_1 : Nat) => intOf (PI (y.1.2 i_1))) y.2.toNat i))))
                []
                (Or.nil.lit.lit.lit.lit.split
                  (Or.nil.split
                          (((Or.call [] (AB true) [] Or.nil.lit).split Or.nil.lit).split
                            (Or.call [] (AI (rootOf y.1.1 fun (i : Nat) => intOf (PI (y.1.2 i)))) []
                              (Or.call []
                                (AB
                                  (prOk (proofN y.1.1 (fun (i : Nat) => intOf (PI (y.1.2 i))) y.2)
                                    (fun (i : Nat) =>
                                      intOf (PI (proofF (fun (i_1 : Nat) => intOf (PI (y.1.2 i_1))) y.2.toNat i)))
                                    (rootOf y.1.1 fun (i : Nat) => intOf (PI (y.1.2 i))) y.2 (y.1.2 y.2.toNat)))
                                []
                                ((Or.call []
                                                      (AB
                                                        (prOk (proofN y.1.1 (fun (i : Nat) => intOf (PI (y.1.2 i))) y.2)
                                                          (fun (i : Nat) =>
                                                            intOf
                                                              (PI
                                                                (proofF (fun (i_1 : Nat) => intOf (PI (y.1.2 i_1)))
                                                                  y.2.toNat i)))
                                                          (rootOf y.1.1 fun (i : Nat) => intOf (PI (y.1.2 i))) y.2
                                                          (IntKind.i64.wrap (y.1.2 y.2.toNat + (1 : Int)))))
                                                      [] Or.nil.lit.lit).lit.lit.lit.lit.lit.lit.lit.lit.split
                                  Or.nil.lit.lit.lit.lit.lit.lit.lit.lit.lit.lit))))).lit.lit.lit)))))
      [Item.ir ir12] (start [AV.p false (PV.sl nn (1 : Nat) n (PB f))] []) =
    VC.split (decide ((1048576 : Int) < (↑n : Int))) (VC.doneP (AV.p true (PV.v (Value.bool true))))
      (VC.callE (TE × Int) (37 : Nat) [AV.p false (PV.sl nn (1 : Nat) n (PB f))] []
        (fun (y : TE × Int) => y.fst.fst ≤ (20 : Nat)) (fun (y : TE × Int) => AV.tp [teR y.fst, AI y.snd])
        (fun (x : TE × Int) => []) fun (y : TE × Int) =>
        VC.call (35 : Nat)
          [AV.p false (PV.sl false (1 : Nat) y.1.1 fun (i x : Nat) => PI (y.1.2 i)),
            AV.p true (PV.v (Value.int IntKind.i64 y.2))]
          [] (proofR y.1.1 (fun (i : Nat) => intOf (PI (y.1.2 i))) y.2)
          (proofH y.1.1 (fun (i : Nat) => intOf (PI (y.1.2 i))) y.2)
          (VC.call (38 : Nat)
            [AV.p false (PV.sl false (1 : Nat) y.1.1 fun (i x : Nat) => PI (y.1.2 i)),
              AV.p true (PV.v (Value.int IntKind.i64 y.2))]
            [] (proofR y.1.1 (fun (i : Nat) => intOf (PI (y.1.2 i))) y.2)
            (proofH y.1.1 (fun (i : Nat) => intOf (PI (y.1.2 i))) y.2)
            (VC.call (31 : Nat)
              [AV.p false
                  (PV.sl false (1 : Nat) (proofN y.1.1 (fun (i : Nat) => intOf (PI (y.1.2 i))) y.2) fun (i x : Nat) =>
                    PI (proofF (fun (i_1 : Nat) => intOf (PI (y.1.2 i_1))) y.2.toNat i)),
                AV.p false
                  (PV.sl false (1 : Nat) (proofN y.1.1 (fun (i : Nat) => intOf (PI (y.1.2 i))) y.2) fun (i x : Nat) =>
                    PI (proofF (fun (i_1 : Nat) => intOf (PI (y.1.2 i_1))) y.2.toNat i))]
              []
              (AB
                (sameI (proofN y.1.1 (fun (i : Nat) => intOf (PI (y.1.2 i))) y.2)
                  (fun (i : Nat) => intOf (PI (proofF (fun (i_1 : Nat) => intOf (PI (y.1.2 i_1))) y.2.toNat i)))
                  (proofN y.1.1 (fun (i : Nat) => intOf (PI (y.1.2 i))) y.2) fun (i : Nat) =>
                  intOf (PI (proofF (fun (i_1 : Nat) => intOf (PI (y.1.2 i_1))) y.2.toNat i))))
              []
              (VC.split
                (!sameI (proofN y.1.1 (fun (i : Nat) => intOf (PI (y.1.2 i))) y.2)
                    (fun (i : Nat) => intOf (PI (proofF (fun (i_1 : Nat) => intOf (PI (y.1.2 i_1))) y.2.toNat i)))
                    (proofN y.1.1 (fun (i : Nat) => intOf (PI (y.1.2 i))) y.2) fun (i : Nat) =>
                    intOf (PI (proofF (fun (i_1 : Nat) => intOf (PI (y.1.2 i_1))) y.2.toNat i)))
                (VC.doneP (AV.p true (PV.v (Value.bool false))))
                (VC.split
                  (!proofOk y.1.1 (fun (i : Nat) => intOf (PI (y.1.2 i))) y.2 ==
                      proofOk y.1.1 (fun (i : Nat) => intOf (PI (y.1.2 i))) y.2)
                  (VC.doneP (AV.p true (PV.v (Value.bool false))))
                  (VC.split (!proofOk y.1.1 (fun (i : Nat) => intOf (PI (y.1.2 i))) y.2)
                    (VC.split ((↑(proofN y.1.1 (fun (i : Nat) => intOf (PI (y.1.2 i))) y.2) : Int) == (0 : Int))
                      (VC.call (17 : Nat) [] [] (AB true) [] (VC.doneP (AV.p true (PV.v (Value.bool true)))))
                      (VC.doneP (AV.p true (PV.v (Value.bool false)))))
                    (VC.call (33 : Nat) [AV.p false (PV.sl false (1 : Nat) y.1.1 fun (i x : Nat) => PI (y.1.2 i))] []
                      (AI (rootOf y.1.1 fun (i : Nat) => intOf (PI (y.1.2 i)))) []
                      (VC.need ((0 : Int) ≤ y.2 ∧ y.2.toNat < y.1.1)
                        (VC.call (36 : Nat)
                          [AV.p true
                              (PV.v (Value.int IntKind.i64 (rootOf y.1.1 fun (i : Nat) => intOf (PI (y.1.2 i))))),
                            AV.p true (PV.v (Value.int IntKind.i64 y.2)),
                            AV.p true (PV.v (Value.int IntKind.i64 (y.1.2 y.2.toNat))),
                            AV.p false
                              (PV.sl false (1 : Nat) (proofN y.1.1 (fun (i : Nat) => intOf (PI (y.1.2 i))) y.2)
                                fun (i x : Nat) => PI (proofF (fun (i_1 : Nat) => intOf (PI (y.1.2 i_1))) y.2.toNat i))]
                          []
                          (AB
                            (prOk (proofN y.1.1 (fun (i : Nat) => intOf (PI (y.1.2 i))) y.2)
                              (fun (i : Nat) =>
                                intOf (PI (proofF (fun (i_1 : Nat) => intOf (PI (y.1.2 i_1))) y.2.toNat i)))
                              (rootOf y.1.1 fun (i : Nat) => intOf (PI (y.1.2 i))) y.2 (y.1.2 y.2.toNat)))
                          []
                          (VC.split
                            (prOk (proofN y.1.1 (fun (i : Nat) => intOf (PI (y.1.2 i))) y.2)
                              (fun (i : Nat) =>
                                intOf (PI (proofF (fun (i_1 : Nat) => intOf (PI (y.1.2 i_1))) y.2.toNat i)))
                              (rootOf y.1.1 fun (i : Nat) => intOf (PI (y.1.2 i))) y.2 (y.1.2 y.2.toNat))
                            (VC.need ((0 : Int) ≤ y.2 ∧ y.2.toNat < y.1.1)
                              (VC.call (36 : Nat)
                                [AV.p true
                                    (PV.v (Value.int IntKind.i64 (rootOf y.1.1 fun (i : Nat) => intOf (PI (y.1.2 i))))),
                                  AV.p true (PV.v (Value.int IntKind.i64 y.2)),
                                  AV.p true
                                    (PV.v (Value.int IntKind.i64 (IntKind.i64.wrap (y.1.2 y.2.toNat + (1 : Int))))),
                                  AV.p false
                                    (PV.sl false (1 : Nat) (proofN y.1.1 (fun (i : Nat) => intOf (PI (y.1.2 i))) y.2)
                                      fun (i x : Nat) =>
                                      PI (proofF (fun (i_1 : Nat) => intOf (PI (y.1.2 i_1))) y.2.toNat i))]
                                []
                                (AB
                                  (prOk (proofN y.1.1 (fun (i : Nat) => intOf (PI (y.1.2 i))) y.2)
                                    (fun (i : Nat) =>
                                      intOf (PI (proofF (fun (i_1 : Nat) => intOf (PI (y.1.2 i_1))) y.2.toNat i)))
                                    (rootOf y.1.1 fun (i : Nat) => intOf (PI (y.1.2 i))) y.2
                                    (IntKind.i64.wrap (y.1.2 y.2.toNat + (1 : Int)))))
                                []
                                (VC.doneP
                                  (AV.p true
                                    (PV.v
                                      (Value.bool
                                        !prOk (proofN y.1.1 (fun (i : Nat) => intOf (PI (y.1.2 i))) y.2)
                                            (fun (i : Nat) =>
                                              intOf
                                                (PI (proofF (fun (i_1 : Nat) => intOf (PI (y.1.2 i_1))) y.2.toNat i)))
                                            (rootOf y.1.1 fun (i : Nat) => intOf (PI (y.1.2 i))) y.2
                                            (IntKind.i64.wrap (y.1.2 y.2.toNat + (1 : Int)))))))))
                            (VC.doneP (AV.p true (PV.v (Value.bool false)))))))))))))) := by
  intros; kernel_rfl
theorem c_lPO (nn : Bool) (n : Nat) (f : Nat → Int) (hb : Bytes f) : PRet Tryd.prog G0 12 [.p false (.sl nn 1 n (PB f))] (AB true) := by
  refine PRet.by chk12 (ev_lPO nn n f) ?_
  simp only [VC.holds_split, VC.holds_need, VC.holds_doneP, VC.holds_done, VC.holds_either, VC.holds_call, VC.holds_callE, VC.holds_lend, VC.holds_stop, VC.holds_fail, decide_eq_true_eq, decide_eq_false_iff_not]
  simp only [intOf_fun']
  refine ⟨fun h => by simp, fun h => ⟨c_dPO nn n f hb, ?_⟩⟩
  rintro ⟨⟨N, F⟩, a⟩ hy
  simp only [] at hy ⊢
  have hi := int_cells F N
  have hp := int_cells (proofF F a.toNat) (proofN N F a)
  have hN := proofN_le N F a
  refine ⟨c_imPO _ _ _ _ hi (by omega), c_spPO _ _ _ _ hi (by omega), c_same _ _ _ _ _ _ hp hp (by omega), fun h1 => ?_, fun h1 => ⟨fun h2 => by simp at h2, fun h2 => ⟨fun h3 => ⟨fun h4 => ⟨c_alive, by simp⟩, fun h4 => ?_⟩, fun h3 => ?_⟩⟩⟩
  · rw [sameI_rfl (fun i hi => rfl)] at h1; simp at h1
  · have e1 : proofOk N F a = false := by simpa using h3
    have e2 : proofN N F a = 0 := by simp [proofN, e1]
    rw [e2] at h4; simp at h4
  · have e1 : proofOk N F a = true := by simpa using h3
    have e2 : proofN N F a = Nat.log2 N := by simp [proofN, e1]
    simp only [proofOk, Bool.and_eq_true] at e1
    have hb := inB_iff.1 e1.2
    obtain ⟨b, rfl⟩ : ∃ b : Nat, a = b := ⟨a.toNat, by omega⟩
    have hbN : b < N := by omega
    have e3 := proof_right e1.1 hbN
    have ht := treeOk_tags e1.1 b hbN
    have hl := (tree_log (treeOk_n e1.1)).2
    simp only [e2, Int.toNat_natCast, succ_tag ht, e3, prOk_tag e3]
    have im := c_imPR false (Nat.log2 N) (fun i _ => PI (proofF F b i)) (rootOf N F) b (F b) (int_cells _ _) (by omega)
    have im2 := c_imPR false (Nat.log2 N) (fun i _ => PI (proofF F b i)) (rootOf N F) b (F b + 1) (int_cells _ _) (by omega)
    simp only [intOf_fun', e3, prOk_tag e3] at im im2
    exact ⟨c_imRO _ _ _ hi (by omega), by omega, im, fun h4 => ⟨by omega, im2, by simp⟩, fun h4 => by simp at h4⟩
theorem law_FnProofOf (xs : List AV) (h : Args Tryd.prog Tryd.f12.params.toList xs) : PRet Tryd.prog G0 12 xs (AB true) := by
  have hp : Tryd.f12.params.toList = [22] := by kernel_rfl
  rw [hp] at h
  obtain ⟨nn, n, f, c, cs, hb, h2, rfl, hle⟩ := args_bytes h
  cases h2
  exact (c_lPO nn n f hb).args ⟨hle, trivial⟩
def in_lPR (nn : Bool) (n : Nat) (f : Nat → Int) := (G0, res13, ([] : List (Nat × Ob)), [Item.ir ir13], start [.p false (.sl nn 1 n (PB f))] [])
theorem ev_lPR : ∀ (nn : Bool) (n : Nat) (f : Nat → Int),
  ev G0 res13 [] (3000 : Nat)
      (Or.nil.split
        (Or.callE [] PRD (fun (y : PRD) => y.snd.fst ≤ (30 : Nat)) (fun (y : PRD) => prdR y) (fun (x : PRD) => [])
          fun (y : PRD) =>
          Or.call [] (AB (prOk y.2.1 (fun (i : Nat) => intOf (PI (y.2.2 i))) y.1.1 y.1.2.1 y.1.2.2)) []
            (Or.call [] (AB (prOk y.2.1 (fun (i : Nat) => intOf (PI (y.2.2 i))) y.1.1 y.1.2.1 y.1.2.2)) []
              (Or.nil.split
                ((Or.call [] (AB true) [] Or.nil.lit.lit.lit.lit.lit.lit.lit).split
                  ((Or.call []
                                        (AB
                                          (prOk y.2.1 (fun (i : Nat) => intOf (PI (y.2.2 i))) y.1.1 y.1.2.1
                                            (IntKind.i64.wrap (y.1.2.2 + (1 : Int)))))
                                        []
                                        ((Or.call []
                                                                (AB
                                                                  (prOk y.2.1 (fun (i : Nat) => intOf (PI (y.2.2 i)))
                                                                    (IntKind.i64.wrap (y.1.1 + (1 : Int))) y.1.2.1
                                                                    y.1.2.2))
                                                                [] Or.nil.lit.lit.lit.lit).lit.lit.lit.lit.lit.split
                                                  Or.nil.lit.lit.lit.lit.lit.lit.lit.lit.lit).lit.lit.lit.lit).lit.lit.lit.lit.lit.split
                          Or.nil.lit.lit.lit.lit.lit.lit.lit.lit.lit.lit.lit.lit.lit.lit.lit.lit.lit.lit.lit).lit.lit.lit)))))
      [Item.ir ir13] (start [AV.p false (PV.sl nn (1 : Nat) n (PB f))] []) =
    VC.split (decide ((1048576 : Int) < (↑n : Int))) (VC.doneP (AV.p true (PV.v (Value.bool true))))
      (VC.callE PRD (39 : Nat) [AV.p false (PV.sl nn (1 : Nat) n (PB f))] [] (fun (y : PRD) => y.snd.fst ≤ (30 : Nat))
        (fun (y : PRD) => prdR y) (fun (x : PRD) => []) fun (y : PRD) =>
        VC.call (36 : Nat)
          [AV.p true (PV.v (Value.int IntKind.i64 y.1.1)), AV.p true (PV.v (Value.int IntKind.i64 y.1.2.1)),
            AV.p true (PV.v (Value.int IntKind.i64 y.1.2.2)),
            AV.p false (PV.sl false (1 : Nat) y.2.1 fun (i x : Nat) => PI (y.2.2 i))]
          [] (AB (prOk y.2.1 (fun (i : Nat) => intOf (PI (y.2.2 i))) y.1.1 y.1.2.1 y.1.2.2)) []
          (VC.call (40 : Nat)
            [AV.p true (PV.v (Value.int IntKind.i64 y.1.1)), AV.p true (PV.v (Value.int IntKind.i64 y.1.2.1)),
              AV.p true (PV.v (Value.int IntKind.i64 y.1.2.2)),
              AV.p false (PV.sl false (1 : Nat) y.2.1 fun (i x : Nat) => PI (y.2.2 i))]
            [] (AB (prOk y.2.1 (fun (i : Nat) => intOf (PI (y.2.2 i))) y.1.1 y.1.2.1 y.1.2.2)) []
            (VC.split
              (!prOk y.2.1 (fun (i : Nat) => intOf (PI (y.2.2 i))) y.1.1 y.1.2.1 y.1.2.2 ==
                  prOk y.2.1 (fun (i : Nat) => intOf (PI (y.2.2 i))) y.1.1 y.1.2.1 y.1.2.2)
              (VC.doneP (AV.p true (PV.v (Value.bool false))))
              (VC.split (!prOk y.2.1 (fun (i : Nat) => intOf (PI (y.2.2 i))) y.1.1 y.1.2.1 y.1.2.2)
                (VC.call (17 : Nat) [] [] (AB true) [] (VC.doneP (AV.p true (PV.v (Value.bool true)))))
                (VC.split (prOk y.2.1 (fun (i : Nat) => intOf (PI (y.2.2 i))) y.1.1 y.1.2.1 y.1.2.2)
                  (VC.call (36 : Nat)
                    [AV.p true (PV.v (Value.int IntKind.i64 y.1.1)), AV.p true (PV.v (Value.int IntKind.i64 y.1.2.1)),
                      AV.p true (PV.v (Value.int IntKind.i64 (IntKind.i64.wrap (y.1.2.2 + (1 : Int))))),
                      AV.p false (PV.sl false (1 : Nat) y.2.1 fun (i x : Nat) => PI (y.2.2 i))]
                    []
                    (AB
                      (prOk y.2.1 (fun (i : Nat) => intOf (PI (y.2.2 i))) y.1.1 y.1.2.1
                        (IntKind.i64.wrap (y.1.2.2 + (1 : Int)))))
                    []
                    (VC.split
                      (!prOk y.2.1 (fun (i : Nat) => intOf (PI (y.2.2 i))) y.1.1 y.1.2.1
                          (IntKind.i64.wrap (y.1.2.2 + (1 : Int))))
                      (VC.call (36 : Nat)
                        [AV.p true (PV.v (Value.int IntKind.i64 (IntKind.i64.wrap (y.1.1 + (1 : Int))))),
                          AV.p true (PV.v (Value.int IntKind.i64 y.1.2.1)),
                          AV.p true (PV.v (Value.int IntKind.i64 y.1.2.2)),
                          AV.p false (PV.sl false (1 : Nat) y.2.1 fun (i x : Nat) => PI (y.2.2 i))]
                        []
                        (AB
                          (prOk y.2.1 (fun (i : Nat) => intOf (PI (y.2.2 i))) (IntKind.i64.wrap (y.1.1 + (1 : Int)))
                            y.1.2.1 y.1.2.2))
                        []
                        (VC.doneP
                          (AV.p true
                            (PV.v
                              (Value.bool
                                !prOk y.2.1 (fun (i : Nat) => intOf (PI (y.2.2 i)))
                                    (IntKind.i64.wrap (y.1.1 + (1 : Int))) y.1.2.1 y.1.2.2)))))
                      (VC.doneP (AV.p true (PV.v (Value.bool false))))))
                  (VC.doneP (AV.p true (PV.v (Value.bool false))))))))) := by
  intros; kernel_rfl
theorem c_lPR (nn : Bool) (n : Nat) (f : Nat → Int) (hb : Bytes f) : PRet Tryd.prog G0 13 [.p false (.sl nn 1 n (PB f))] (AB true) := by
  refine PRet.by chk13 (ev_lPR nn n f) ?_
  simp only [VC.holds_split, VC.holds_need, VC.holds_doneP, VC.holds_done, VC.holds_either, VC.holds_call, VC.holds_callE, VC.holds_lend, VC.holds_stop, VC.holds_fail, decide_eq_true_eq, decide_eq_false_iff_not]
  simp only [intOf_fun']
  refine ⟨fun h => by simp, fun h => ⟨c_dPR nn n f hb, ?_⟩⟩
  rintro ⟨⟨r, a, t⟩, N, F⟩ hy
  simp only [] at hy ⊢
  have hi := int_cells F N
  refine ⟨c_imPR _ _ _ _ _ _ hi (by omega), c_spPR _ _ _ _ _ _ hi (by omega), fun h1 => by simp at h1, fun h1 => ⟨fun h2 => ⟨c_alive, by simp⟩, fun h2 => ⟨fun h3 => ?_, fun h3 => ?_⟩⟩⟩
  · obtain ⟨a1, a2, a3⟩ := prOk_all h3
    have e1 := prOk_tag h3
    obtain ⟨e2, hr⟩ := prOk_root h3
    simp only [succ_tag a1, succ_tag hr]
    refine ⟨c_imPR _ _ _ _ _ _ hi (by omega), fun h4 => ⟨c_imPR _ _ _ _ _ _ hi (by omega), by simp [e2]⟩, fun h4 => ?_⟩
    simp [e1] at h4
  · simp [h3] at h2
theorem law_FnProofRight (xs : List AV) (h : Args Tryd.prog Tryd.f13.params.toList xs) : PRet Tryd.prog G0 13 xs (AB true) := by
  have hp : Tryd.f13.params.toList = [22] := by kernel_rfl
  rw [hp] at h
  obtain ⟨nn, n, f, c, cs, hb, h2, rfl, hle⟩ := args_bytes h
  cases h2
  exact (c_lPR nn n f hb).args ⟨hle, trivial⟩
end Go.Gw
