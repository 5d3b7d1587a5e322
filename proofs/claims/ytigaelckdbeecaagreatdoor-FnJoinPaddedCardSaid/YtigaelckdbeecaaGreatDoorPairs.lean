/- Rows of pairs: plain facts; with no condition. -/
import Derived.Test.YtigaelckdbeecaaGreatDoorPadF
import Derived.KernelRfl
namespace Go.Gw
open Go Go.Proofs
set_option linter.unusedSimpArgs false
set_option linter.unusedVariables false
set_option maxRecDepth 100000
def meetB (c1 c2 : Nat) (x y : List Int) : Bool := x.getD c1 0 == y.getD c2 0
def pjI (n c1 c2 : Nat) (x y : It) : It := addI n (x.1 && (y.1 && meetB c1 c2 x.2 y.2)) (x.2 ++ y.2)
def pjL (n c1 c2 : Nat) (A B : LI) : LI := A.flatMap fun x => B.map fun y => pjI n c1 c2 x y
def joinL (c1 c2 : Nat) (A B : LL) : LL := A.flatMap fun x => (B.filter fun y => meetB c1 c2 x y).map fun y => x ++ y
theorem reL_append (A B : LI) : reL (A ++ B) = reL A ++ reL B := by simp [reL, List.filter_append]
theorem reL_pjR (n c1 c2 : Nat) (x : It) : ∀ B : LI, reL (B.map fun y => pjI n c1 c2 x y) = if x.1 then ((reL B).filter fun y => meetB c1 c2 x.2 y).map fun y => x.2 ++ y else []
  | [] => by simp [reL]
  | y :: B => by
    have ih := reL_pjR n c1 c2 x B
    rw [List.map_cons, show pjI n c1 c2 x y :: B.map (fun y => pjI n c1 c2 x y) = [pjI n c1 c2 x y] ++ B.map (fun y => pjI n c1 c2 x y) from rfl, reL_append, ih,
      show y :: B = [y] ++ B from rfl, reL_append]
    cases e1 : x.1 <;> cases e2 : y.1 <;> cases e3 : meetB c1 c2 x.2 y.2 <;> simp [reL, pjI, addI, e1, e2, e3]
theorem reL_pj (n c1 c2 : Nat) : ∀ A B : LI, reL (pjL n c1 c2 A B) = joinL c1 c2 (reL A) (reL B)
  | [], B => by simp [pjL, joinL, reL]
  | x :: A, B => by
    have ih := reL_pj n c1 c2 A B
    simp only [pjL, List.flatMap_cons] at ih ⊢
    rw [reL_append, ih, reL_pjR, show x :: A = [x] ++ A from rfl, reL_append]
    cases e1 : x.1
    · simp [joinL, reL, e1]
    · simp [joinL, reL, e1]
theorem pjL_len (n c1 c2 : Nat) (A B : LI) : (pjL n c1 c2 A B).length = A.length * B.length := by
  induction A with
  | nil => simp [pjL]
  | cons x A ih =>
    simp only [pjL, List.flatMap_cons, List.length_append, List.length_map, List.length_cons] at ih ⊢
    rw [ih, Nat.add_mul, Nat.one_mul, Nat.add_comm]
theorem valB_zero : valB 0 = true := by decide
theorem okI_pj {n1 n2 c1 c2 : Nat} {x y : It} (hx : okI n1 x) (hy : okI n2 y) : okI (n1 + n2) (pjI (n1 + n2) c1 c2 x y) := by
  unfold pjI addI
  split
  · refine ⟨by simp only [List.length_append, hx.1, hy.1], fun v hv => ?_, fun e => by cases e⟩
    rcases List.mem_append.1 hv with h | h
    · exact hx.2.1 v h
    · exact hy.2.1 v h
  · refine ⟨by simp, fun v hv => ?_, fun _ v hv => ?_⟩
    · rw [(List.mem_replicate.1 hv).2]; exact valB_zero
    · exact (List.mem_replicate.1 hv).2
theorem padL_iff {n : Nat} {f : Nat → ByteArray} {T : LI} : padB n f T.length (iw T) (ih T) T.length (ib T) = true ↔ namesB n f = true ∧ T.length ≤ 256 ∧ ∀ x, x ∈ T → okI n x := by
  rw [pad_iff, itL_self]
theorem pad_pj {n1 n2 c1 c2 : Nat} {f : Nat → ByteArray} {A B : LI} (hf : namesB (n1 + n2) f = true) (hA : ∀ x, x ∈ A → okI n1 x) (hB : ∀ x, x ∈ B → okI n2 x) (hl : A.length * B.length ≤ 256) : padB (n1 + n2) f (pjL (n1 + n2) c1 c2 A B).length (iw (pjL (n1 + n2) c1 c2 A B)) (ih (pjL (n1 + n2) c1 c2 A B)) (pjL (n1 + n2) c1 c2 A B).length (ib (pjL (n1 + n2) c1 c2 A B)) = true := by
  refine padL_iff.2 ⟨hf, by rw [pjL_len]; exact hl, fun z hz => ?_⟩
  simp only [pjL, List.mem_flatMap, List.mem_map] at hz
  obtain ⟨x, hx, y, hy, rfl⟩ := hz
  exact okI_pj (hA x hx) (hB y hy)
theorem cnt_re (T : LI) : cntB (ib T) T.length = (reL T).length := by
  rw [← reL_len (w := iw T) (h := ih T), itL_self]
def cutB (T : LI) (s : Nat) : Bool := decide ((reL T).length ≤ (reL (T.take s)).length)
theorem cut_re {T : LI} {s : Nat} (h : cutB T s = true) : reL (T.take s) = reL T := by
  simp only [cutB, decide_eq_true_eq] at h
  have e : reL T = reL (T.take s) ++ reL (T.drop s) := by rw [← reL_append, List.take_append_drop]
  have : (reL (T.drop s)).length = 0 := by
    have := congrArg List.length e
    rw [List.length_append] at this
    omega
  rw [e, List.length_eq_zero_iff.1 this, List.append_nil]
theorem cut_iff {T : LI} {s : Nat} : cutB T s = true ↔ ∀ i, s ≤ i → i < T.length → ib T i = false := by
  have e : reL T = reL (T.take s) ++ reL (T.drop s) := by rw [← reL_append, List.take_append_drop]
  have el := congrArg List.length e
  rw [List.length_append] at el
  simp only [cutB, decide_eq_true_eq]
  constructor
  · intro h i h1 h2
    have hz : reL (T.drop s) = [] := List.length_eq_zero_iff.1 (by omega)
    cases e2 : ib T i with
    | false => rfl
    | true =>
      have hm : T[i] ∈ T.drop s := by
        rw [List.mem_drop_iff_getElem]
        exact ⟨i - s, by omega, by simp [show s + (i - s) = i by omega]⟩
      have e3 : T[i].1 = true := by simpa [ib, List.getD_eq_getElem?_getD, h2] using e2
      have : T[i].2 ∈ reL (T.drop s) := by
        simp only [reL, List.mem_map, List.mem_filter]
        exact ⟨T[i], ⟨hm, e3⟩, rfl⟩
      rw [hz] at this; cases this
  · intro h
    have hz : reL (T.drop s) = [] := by
      simp only [reL, List.map_eq_nil_iff, List.filter_eq_nil_iff]
      intro x hx
      rw [List.mem_drop_iff_getElem] at hx
      obtain ⟨i, hi, rfl⟩ := hx
      have := h (s + i) (by omega) (by omega)
      simpa [ib, List.getD_eq_getElem?_getD, show s + i < T.length by omega] using this
    rw [hz] at el
    simp at el; omega
theorem take_get {T : LI} {s i : Nat} (h : i < s) : (T.take s).getD i (false, []) = T.getD i (false, []) := by
  simp [List.getD_eq_getElem?_getD, List.getElem?_take, h]
def njF (n1 : Nat) (f1 f2 : Nat → ByteArray) (i : Nat) : ByteArray := if i < n1 then f1 i else f2 (i - n1)
def jnB (n1 : Nat) (f1 : Nat → ByteArray) (n2 : Nat) (f2 : Nat → ByteArray) (a b : ByteArray) : Bool := namesB (n1 + n2) (njF n1 f1 f2) && hasT f1 a n1 && hasT f2 b n2
theorem rowL_append {n m : Nat} {f g : Nat → Int} : rowL (n + m) (fun j => if j < n then f j else g (j - n)) 0 = rowL n f 0 ++ rowL m g 0 := by
  apply List.ext_getElem
  · simp [rowL]
  · intro i h1 h2
    have hi : i < n + m := by simpa [rowL] using h1
    by_cases c : i < n
    · rw [List.getElem_append_left (by simpa [rowL] using c)]
      simp [rowL, c]
    · rw [List.getElem_append_right (by simp [rowL]; omega)]
      simp [rowL, c]
end Go.Gw
namespace Go.Gw
open Go Go.Proofs
set_option linter.unusedSimpArgs false
set_option linter.unusedVariables false
set_option maxRecDepth 100000
def ir25_L1 : Ir := (.seq (.reg [] [ob .lss 22 21 20]) (.seq (.cond (tt 22) .skip (.exit 2)) (.seq (.block 3 (.seq (.reg [23] [om 23 21, om 7 23]) (.reg [24, 25, 26, 27, 28, 29, 30, 31, 32, 33, 34, 35, 36] [om 24 5, om 25 6, o 26 (.build [(.int .i64 0), (.int .i64 0), (.bool false)] [(0, 1, (ci 0)), (1, 1, (tt 25)), (2, 1, (cb false))]), om 27 7, o 28 (.build [(.int .i64 0), (.int .i64 0), (.bool false)] [(0, 1, (ci 1)), (1, 1, (tt 27)), (2, 1, (cb false))]), om 29 6, om 30 1, ob .mul 31 29 30, om 32 7, ob .add 33 31 32, o 34 (.build [(.int .i64 0), (.int .i64 0), (.bool false)] [(0, 1, (ci 2)), (1, 1, (tt 33)), (2, 1, (cb true))]), o 35 (.mkSl 3 3 [(.int .i64 0), (.int .i64 0), (.bool false)] [(0, (tt 26)), (1, (tt 28)), (2, (tt 34))]), o 36 (.app 3 24 true (tt 24) (tt 35)), om 5 36]))) (.reg [37] [o 37 (.bin .add (tt 21) (ci 1)), om 21 37]))))
def ir25_T2 : Ir := (.reg [38] [o 38 (.bin .add (tt 17) (ci 1)), om 17 38])
def ir25_L3 : Ir := (.seq (.reg [] [ob .lss 18 17 16]) (.seq (.cond (tt 18) .skip (.exit 0)) (.seq (.block 1 (.seq (.reg [19] [om 19 17, om 6 19]) (.seq (.reg [] [om 20 1, o 21 (.mov (ci 0))]) (.block 2 (.loop ir25_L1))))) ir25_T2)))
def ir25_T4 : Ir := (.seq (.reg [39] [om 39 5, om 4 39]) .ret)
def ir25 : Ir := (.seq (.reg [] [o 4 (.mov (.const (.slice none 0 0)))]) (.seq (.seq (.reg [8, 9, 10, 11, 12, 13, 14] [om 8 0, o 9 (.call 18 [(tt 8), (ci 0), (ci 16)]), o 10 (.un .not (tt 9)), om 11 10, og 12 11 false (.mov (tt 1)), og 13 11 false (.call 18 [(tt 12), (ci 0), (ci 16)]), og 14 11 false (.un .not (tt 13)), o 15 (.pick (tt 11) (cb true) (tt 14))]) (.cond (tt 15) (.seq (.reg [] [o 4 (.mov (.const (.slice none 0 0)))]) .ret) .skip)) (.seq (.reg [] [o 5 (.mov (.const (.slice none 0 0)))]) (.seq (.seq (.reg [] [om 16 0, o 17 (.mov (ci 0))]) (.block 0 (.loop ir25_L3))) ir25_T4))))
def keep25 : List Nat := [0, 1, 4, 5, 6, 7, 15, 16, 17, 18, 20, 21, 22]
def res25 : List RI := [.tmp 4]
theorem chk25 : chk Tryz.prog 25 2 keep25 = some (ir25, res25) := by kernel_rfl
def ir33_L1 : Ir := (.seq (.seq (.reg [22, 23] [om 22 7, om 23 1, ob .lss 24 22 23]) (.cond (tt 24) .skip (.exit 2))) (.seq (.block 3 (.reg [27, 28, 29, 30, 31, 32, 33, 34, 35, 36, 37, 38, 39] [om 27 5, om 28 6, o 29 (.build [(.int .i64 0), (.int .i64 0), (.bool false)] [(0, 1, (ci 0)), (1, 1, (tt 28))]), om 30 7, o 31 (.build [(.int .i64 0), (.int .i64 0), (.bool false)] [(0, 1, (ci 1)), (1, 1, (tt 30))]), om 32 6, om 33 1, ob .mul 34 32 33, om 35 7, ob .add 36 34 35, o 37 (.build [(.int .i64 0), (.int .i64 0), (.bool false)] [(0, 1, (ci 2)), (1, 1, (tt 36)), (2, 1, (cb true))]), o 38 (.mkSl 3 3 [(.int .i64 0), (.int .i64 0), (.bool false)] [(0, (tt 29)), (1, (tt 31)), (2, (tt 37))]), o 39 (.app 3 24 true (tt 27) (tt 38)), om 5 39])) (.reg [25, 26] [om 25 7, o 26 (.bin .add (tt 25) (ci 1)), om 7 26])))
def ir33_T2 : Ir := (.reg [20, 21] [om 20 6, o 21 (.bin .add (tt 20) (ci 1)), om 6 21])
def ir33_L3 : Ir := (.seq (.seq (.reg [9, 10, 11, 12, 13, 14, 15, 16, 17, 18] [om 9 6, om 10 0, ob .lss 11 9 10, om 12 11, og 13 12 true (.mov (tt 0)), og 14 12 true (.call 61 [(tt 13), (ci 0), (ci 16)]), o 15 (.pick (tt 12) (tt 14) (cb false)), om 16 15, og 17 16 true (.mov (tt 1)), og 18 16 true (.call 61 [(tt 17), (ci 0), (ci 16)]), o 19 (.pick (tt 16) (tt 18) (cb false))]) (.cond (tt 19) .skip (.exit 0))) (.seq (.block 1 (.seq (.reg [] [o 7 (.mov (ci 0))]) (.block 2 (.loop ir33_L1)))) ir33_T2))
def ir33_T4 : Ir := (.seq (.reg [40] [om 40 5, om 4 40]) .ret)
def ir33 : Ir := (.seq (.reg [] [o 4 (.mov (.const (.slice none 0 0)))]) (.seq (.reg [8] [o 8 (.mkSl 3 0 [(.int .i64 0), (.int .i64 0), (.bool false)] []), om 5 8]) (.seq (.seq (.reg [] [o 6 (.mov (ci 0))]) (.block 0 (.loop ir33_L3))) ir33_T4)))
def keep33 : List Nat := [0, 1, 4, 5, 6, 7, 19, 24]
def res33 : List RI := [.tmp 4]
theorem chk33 : chk Tryz.prog 33 2 keep33 = some (ir33, res33) := by kernel_rfl
def ir59 : Ir := (.seq (.reg [] [o 2 (.box 3 (tt 0)), o 4 (.alloc [(.slice none 0 0), (.slice none 0 0), (.slice none 0 0)])]) (.seq (.reg [6, 7, 8, 9, 10] [om 6 1, oa 7 1 2, ol 8 7, o 9 (.len (tt 8)), o 10 (.mm false (tt 6) (tt 9)), om 5 10]) (.seq (.dreg [11, 12, 13, 14, 15, 16, 17, 18, 19, 20, 21, 22, 23, 24] [0, 1, 3, 0, 8, 0, 56, 127, 0, 256, 0, 1792, 4095, 8191, 16383] [(1, 1012), (2, 1013), (2, 2013), (2, 3013), (2, 4013), (2, 5013), (2, 6013), (2, 7013), (2, 8013), (4, 1015), (6, 17), (7, 1018), (7, 2018), (7, 3018), (7, 4018), (7, 5018), (7, 6018), (7, 7018), (7, 8018), (9, 1020), (11, 22), (12, 23)] [oa 11 0 2, ol 12 11, o 13 (.call 40 [(tt 12)]), oa 14 1 2, ol 15 14, om 16 5, o 17 (.slc 1 (tt 15) none (some (tt 16))), o 18 (.call 80 [(tt 17)]), oa 19 2 2, ol 20 19, om 21 5, o 22 (.slc 1 (tt 20) none (some (tt 21))), o 23 (.app 1 1 true (.const (.slice none 0 0)) (tt 22)), o 24 (.build [(.slice none 0 0), (.slice none 0 0), (.slice none 0 0)] [(0, 1, (tt 13)), (1, 1, (tt 18)), (2, 1, (tt 23))]), on (.store 3 (tt 4) (tt 24))]) .ret)))
def keep59 : List Nat := [0, 1, 2, 4, 5]
def res59 : List RI := [.cell true 3 4]
theorem chk59 : chk Tryz.prog 59 2 keep59 = some (ir59, res59) := by kernel_rfl
def ir24 : Ir := (.seq (.reg [] [o 2 (.box 3 (tt 0)), o 4 (.alloc [(.slice none 0 0), (.slice none 0 0), (.slice none 0 0)]), o 5 (.mov (cb false))]) (.seq (.seq (.reg [7, 8, 9, 10, 11, 12, 13] [o 7 (.load true 3 (tt 2)), o 8 (.call 13 [(tt 7)]), o 9 (.un .not (tt 8)), om 10 9, og 11 10 false (.mov (tt 1)), og 12 10 false (.call 18 [(tt 11), (ci 0), (ci 256)]), og 13 10 false (.un .not (tt 12)), o 14 (.pick (tt 10) (cb true) (tt 13))]) (.cond (tt 14) (.seq (.reg [15] [o 15 (.build [(.slice none 0 0), (.slice none 0 0), (.slice none 0 0)] []), on (.store 3 (tt 4) (tt 15)), o 5 (.mov (cb false))]) .ret) .skip)) (.seq (.reg [16, 17, 18] [o 16 (.load true 3 (tt 2)), om 17 1, o 18 (.call 59 [(tt 16), (tt 17)]), o 6 (.alloc [(.slice none 0 0), (.slice none 0 0), (.slice none 0 0)]), on (.store 3 (tt 6) (tt 18))]) (.seq (.seq (.dreg [19, 20, 21, 22] [0, 1, 0, 7, 15] [(0, 1019), (0, 2019), (0, 3019), (1, 1020), (1, 2020), (1, 3020), (1, 4020), (1, 5020), (1, 6020), (1, 7020), (1, 8020), (2, 1021), (2, 2021), (2, 3021), (3, 1022), (3, 2022), (3, 3022), (3, 4022), (3, 5022), (3, 6022), (3, 7022), (3, 8022)] [o 19 (.load true 3 (tt 6)), o 20 (.call 39 [(tt 19)]), o 21 (.load true 3 (tt 2)), o 22 (.call 39 [(tt 21)]), ob .lss 23 20 22]) (.cond (tt 23) (.seq (.reg [24] [o 24 (.build [(.slice none 0 0), (.slice none 0 0), (.slice none 0 0)] []), on (.store 3 (tt 4) (tt 24)), o 5 (.mov (cb false))]) .ret) .skip)) (.seq (.reg [25] [o 25 (.load true 3 (tt 6)), on (.store 3 (tt 4) (tt 25)), o 5 (.mov (cb true))]) .ret)))))
def keep24 : List Nat := [0, 1, 2, 4, 5, 6, 14, 23]
def res24 : List RI := [.cell true 3 4, .tmp 5]
theorem chk24 : chk Tryz.prog 24 2 keep24 = some (ir24, res24) := by kernel_rfl
def ir32_L1 : Ir := (.seq (.seq (.reg [24, 25, 26, 27] [om 24 7, oa 25 1 2, ol 26 25, o 27 (.len (tt 26)), ob .lss 28 24 27]) (.cond (tt 28) .skip (.exit 0))) (.seq (.block 1 (.seq (.reg [31, 32, 33, 34] [oa 31 2 2, ol 32 31, om 33 7, ox 34 32 33, ol 35 34]) (.cond (tt 35) (.seq (.reg [36] [o 36 (.build [(.slice none 0 0), (.slice none 0 0), (.slice none 0 0)] []), on (.store 3 (tt 4) (tt 36)), o 5 (.mov (cb false))]) .ret) .skip))) (.reg [29, 30] [om 29 7, o 30 (.bin .add (tt 29) (ci 1)), om 7 30])))
def ir32_T2 : Ir := (.seq (.reg [37, 38] [o 37 (.load true 3 (tt 2)), o 38 (.call 68 [(tt 37)]), o 8 (.alloc [(.slice none 0 0), (.slice none 0 0), (.slice none 0 0)]), on (.store 3 (tt 8) (tt 38))]) (.seq (.reg [39, 40, 41, 42, 43] [oa 39 1 8, ol 40 39, om 41 6, o 42 (.slc 1 (tt 40) none (some (tt 41))), oa 43 1 8, on (.store 1 (tt 43) (tt 42))]) (.seq (.reg [44, 45, 46, 47, 48] [oa 44 2 8, ol 45 44, om 46 6, o 47 (.slc 1 (tt 45) none (some (tt 46))), oa 48 2 8, on (.store 1 (tt 48) (tt 47))]) (.seq (.reg [49] [o 49 (.load true 3 (tt 8)), on (.store 3 (tt 4) (tt 49)), o 5 (.mov (cb true))]) .ret))))
def ir32 : Ir := (.seq (.reg [] [o 2 (.box 3 (tt 0)), o 4 (.alloc [(.slice none 0 0), (.slice none 0 0), (.slice none 0 0)]), o 5 (.mov (cb false))]) (.seq (.seq (.reg [9, 10, 11, 12, 13, 14, 15] [o 9 (.load true 3 (tt 2)), o 10 (.call 27 [(tt 9)]), o 11 (.un .not (tt 10)), om 12 11, og 13 12 false (.mov (tt 1)), og 14 12 false (.call 61 [(tt 13), (ci 0), (ci 256)]), og 15 12 false (.un .not (tt 14)), o 16 (.pick (tt 12) (cb true) (tt 15))]) (.cond (tt 16) (.seq (.reg [17] [o 17 (.build [(.slice none 0 0), (.slice none 0 0), (.slice none 0 0)] []), on (.store 3 (tt 4) (tt 17)), o 5 (.mov (cb false))]) .ret) .skip)) (.seq (.reg [18, 19, 20, 21, 22] [om 18 1, oa 19 1 2, ol 20 19, o 21 (.len (tt 20)), o 22 (.mm false (tt 18) (tt 21)), om 6 22]) (.seq (.seq (.reg [23] [om 23 6, om 7 23]) (.block 0 (.loop ir32_L1))) ir32_T2))))
def keep32 : List Nat := [0, 1, 2, 4, 5, 6, 7, 8, 16, 28, 35]
def res32 : List RI := [.cell true 3 4, .tmp 5]
theorem chk32 : chk Tryz.prog 32 2 keep32 = some (ir32, res32) := by kernel_rfl
def crP (n i k : Nat) : LA := [(0, i, false), (1, k, false), (2, i * n + k, true)]
def crR (n i : Nat) : Nat → LA
  | 0 => []
  | k + 1 => crR n i k ++ crP n i k
def crL (n : Nat) : Nat → LA
  | 0 => []
  | i + 1 => crL n i ++ crR n i n
theorem crR_len (n i : Nat) : ∀ k, (crR n i k).length = 3 * k
  | 0 => rfl
  | k + 1 => by rw [crR, List.length_append, crR_len n i k]; simp [crP]; omega
theorem crL_len (n : Nat) : ∀ i, (crL n i).length = 3 * (i * n)
  | 0 => by simp [crL]
  | i + 1 => by rw [crL, List.length_append, crL_len n i, crR_len, Nat.add_mul]; omega
theorem ev_imCT : ∀ (m n : Nat), ev G0 res25 [] 3000 (Or.call [] (AB (inB (↑m : Int) 0 16)) [] (Or.nil.lit.lit.lit.lit.split (Or.call [] (AB (inB (↑n : Int) 0 16)) [] (Or.nil.split Or.nil).lit.lit).lit)) [.ir ir25] (start [AI ↑m, AI ↑n] []) = VC.call 18 [AI ↑m, AI 0, AI 16] [] (AB (inB (↑m : Int) 0 16)) [] (VC.split (!inB (↑m : Int) 0 16) (VC.done (St.mk [(0, AI ↑m), (1, AI ↑n), (4, nilT), (15, AB true)] [])) (VC.call 18 [AI ↑n, AI 0, AI 16] [] (AB (inB (↑n : Int) 0 16)) [] (VC.split (!inB (↑n : Int) 0 16) (VC.done (St.mk [(0, AI ↑m), (1, AI ↑n), (4, nilT), (15, AB !inB (↑n : Int) 0 16)] [])) (VC.loop ir25_L3 [.bend 0, .ir ir25_T4] (St.mk [(0, AI ↑m), (1, AI ↑n), (4, nilT), (15, AB !inB (↑n : Int) 0 16), (5, nilT), (16, AI ↑m), (17, AI 0)] []))))) := by intros; kernel_rfl
def st_imCT (m n : Nat) (x : Nat × LA) : St := ⟨[(0, AI m), (1, AI n), (5, .own 77777), (16, AI m), (17, AI x.1)], [(77777, CR false x.2)]⟩
theorem evr_imCT : ∀ (m n : Nat) (I : Nat × LA → St → Prop) (x : Nat × LA), ev G0 res25 [] 3000 (Or.nil.split Or.nil) [.ir ir25_L3, .lend (I x), .bend 0, .ir ir25_T4] (st_imCT m n x) = VC.split (decide ((↑x.1 : Int) < ↑m)) (VC.loop ir25_L1 [.bend 2, .bend 1, .ir ir25_T2, .lend (I x), .bend 0, .ir ir25_T4] (St.mk [(0, AI ↑m), (1, AI ↑n), (5, .own 77777), (16, AI ↑m), (17, AI ↑x.1), (18, AB (decide ((↑x.1 : Int) < ↑m))), (6, AI ↑x.1), (20, AI ↑n), (21, AI 0)] [(77777, .row .u false 3 (x.2.length) (CB x.2) [])])) (VC.done (St.mk [(0, AI ↑m), (1, AI ↑n), (5, .own 77777), (16, AI ↑m), (17, AI ↑x.1), (18, AB (decide ((↑x.1 : Int) < ↑m))), (4, .own 77777)] [(77777, .row .u false 3 (x.2.length) (CB x.2) [])])) := by intros; kernel_rfl
def st_imCT1 (m n i : Nat) (x : Nat × LA) : St := ⟨[(0, AI m), (1, AI n), (5, .own 77777), (6, AI i), (16, AI m), (17, AI i), (20, AI n), (21, AI x.1)], [(77777, CR false x.2)]⟩
theorem evr_imCT1 : ∀ (m n i : Nat) (I J : Nat × LA → St → Prop) (y x : Nat × LA), ev G0 res25 [] 3000 (Or.nil.split Or.nil) [.ir ir25_L1, .lend (J x), .bend 2, .bend 1, .ir ir25_T2, .lend (I y), .bend 0, .ir ir25_T4] (st_imCT1 m n i x) = VC.split (decide ((↑x.1 : Int) < ↑n)) (VC.need (((x.2.length + 3) * 24 ≤ 140737488355328 ∧ (↑(x.2.length + 3) : Int) ≤ 9223372036854775807) ∧ allV 3 3 fun a b => if b = 0 + 1 + 1 ∧ a = nat_lit 2 then PV.v (Value.bool true) else cellSet (cellSet (cellSet (cellSet (cellSet (cellSet (cellSet (cellSet (fun x_1 j => PV.v ([Value.int IntKind.i64 0, Value.int IntKind.i64 0, Value.bool false].getD j undef)) (nat_lit 0) 0 (PV.v (Value.int IntKind.i64 0))) (nat_lit 0) (0 + 1) (PV.v (Value.int IntKind.i64 (↑i : Int)))) (nat_lit 0) (0 + 1 + 1) (PV.v (Value.bool false))) (nat_lit 1) 0 (PV.v (Value.int IntKind.i64 1))) (nat_lit 1) (0 + 1) (PV.v (Value.int IntKind.i64 (↑x.1 : Int)))) (nat_lit 1) (0 + 1 + 1) (PV.v (Value.bool false))) (nat_lit 2) 0 (PV.v (Value.int IntKind.i64 2))) (nat_lit 2) (0 + 1) (PV.v (Value.int IntKind.i64 (IntKind.i64.wrap (IntKind.i64.wrap ((↑i : Int) * ↑n) + (↑x.1 : Int))))) a b) (VC.lend (J x) (St.mk [(0, AI ↑m), (1, AI ↑n), (5, .own 36), (6, AI ↑i), (16, AI ↑m), (17, AI ↑i), (20, AI ↑n), (21, AI (IntKind.i64.wrap ((↑x.1 : Int) + 1))), (22, AB (decide ((↑x.1 : Int) < ↑n))), (7, AI ↑x.1)] [(36, .row .u false 3 (x.2.length + 3) (fun a b => if a < x.2.length then CB x.2 a b else if b = 0 + 1 + 1 ∧ a - x.2.length = nat_lit 2 then PV.v (Value.bool true) else cellSet (cellSet (cellSet (cellSet (cellSet (cellSet (cellSet (cellSet (fun x_1 j => PV.v ([Value.int IntKind.i64 0, Value.int IntKind.i64 0, Value.bool false].getD j undef)) (nat_lit 0) 0 (PV.v (Value.int IntKind.i64 0))) (nat_lit 0) (0 + 1) (PV.v (Value.int IntKind.i64 (↑i : Int)))) (nat_lit 0) (0 + 1 + 1) (PV.v (Value.bool false))) (nat_lit 1) 0 (PV.v (Value.int IntKind.i64 1))) (nat_lit 1) (0 + 1) (PV.v (Value.int IntKind.i64 (↑x.1 : Int)))) (nat_lit 1) (0 + 1 + 1) (PV.v (Value.bool false))) (nat_lit 2) 0 (PV.v (Value.int IntKind.i64 2))) (nat_lit 2) (0 + 1) (PV.v (Value.int IntKind.i64 (IntKind.i64.wrap (IntKind.i64.wrap ((↑i : Int) * ↑n) + (↑x.1 : Int))))) (a - x.2.length) b) [])]))) (VC.lend (I y) (St.mk [(0, AI ↑m), (1, AI ↑n), (5, .own 77777), (6, AI ↑i), (16, AI ↑m), (17, AI (IntKind.i64.wrap ((↑i : Int) + 1))), (20, AI ↑n), (21, AI ↑x.1), (22, AB (decide ((↑x.1 : Int) < ↑n)))] [(77777, .row .u false 3 (x.2.length) (CB x.2) [])])) := by intros; kernel_rfl
theorem ev_spCT : ∀ (m n : Nat), ev G0 res33 [] 3000 Or.nil [.ir ir33] (start [AI ↑m, AI ↑n] []) = VC.loop ir33_L3 [.bend 0, .ir ir33_T4] (St.mk [(0, AI ↑m), (1, AI ↑n), (4, nilT), (5, .own 8), (6, AI 0)] [(8, .row .u true 3 0 (setG [] fun x j => PV.v ([Value.int IntKind.i64 0, Value.int IntKind.i64 0, Value.bool false].getD j undef)) [])]) := by intros; kernel_rfl
def st_spCT (m n : Nat) (x : Nat × LA) : St := ⟨[(0, AI m), (1, AI n), (5, .own 77777), (6, AI x.1)], [(77777, CR false x.2)]⟩
theorem evr_spCT : ∀ (m n : Nat) (I : Nat × LA → St → Prop) (x : Nat × LA), ev G0 res33 [] 3000 ((Or.call [] (AB (inB (↑m : Int) 0 16)) [] ((Or.call [] (AB (inB (↑n : Int) 0 16)) [] (Or.nil.split Or.nil).lit).lit.split Or.nil.lit.lit.lit).lit).lit.split Or.nil.lit.lit.lit.lit.lit.lit) [.ir ir33_L3, .lend (I x), .bend 0, .ir ir33_T4] (st_spCT m n x) = VC.split (decide ((↑x.1 : Int) < ↑m)) (VC.call 61 [AI ↑m, AI 0, AI 16] [] (AB (inB (↑m : Int) 0 16)) [] (VC.split (inB (↑m : Int) 0 16) (VC.call 61 [AI ↑n, AI 0, AI 16] [] (AB (inB (↑n : Int) 0 16)) [] (VC.split (inB (↑n : Int) 0 16) (VC.loop ir33_L1 [.bend 2, .bend 1, .ir ir33_T2, .lend (I x), .bend 0, .ir ir33_T4] (St.mk [(0, AI ↑m), (1, AI ↑n), (5, .own 77777), (6, AI ↑x.1), (19, AB (inB (↑n : Int) 0 16)), (7, AI 0)] [(77777, .row .u false 3 (x.2.length) (CB x.2) [])])) (VC.done (St.mk [(0, AI ↑m), (1, AI ↑n), (5, .own 77777), (6, AI ↑x.1), (19, AB (inB (↑n : Int) 0 16)), (4, .own 77777)] [(77777, .row .u false 3 (x.2.length) (CB x.2) [])])))) (VC.done (St.mk [(0, AI ↑m), (1, AI ↑n), (5, .own 77777), (6, AI ↑x.1), (19, AB false), (4, .own 77777)] [(77777, .row .u false 3 (x.2.length) (CB x.2) [])])))) (VC.done (St.mk [(0, AI ↑m), (1, AI ↑n), (5, .own 77777), (6, AI ↑x.1), (19, AB false), (4, .own 77777)] [(77777, .row .u false 3 (x.2.length) (CB x.2) [])])) := by intros; kernel_rfl
def st_spCT1 (m n i : Nat) (x : Nat × LA) : St := ⟨[(0, AI m), (1, AI n), (5, .own 77777), (6, AI i), (7, AI x.1)], [(77777, CR false x.2)]⟩
theorem evr_spCT1 : ∀ (m n i : Nat) (I J : Nat × LA → St → Prop) (y x : Nat × LA), ev G0 res33 [] 3000 (Or.nil.split Or.nil) [.ir ir33_L1, .lend (J x), .bend 2, .bend 1, .ir ir33_T2, .lend (I y), .bend 0, .ir ir33_T4] (st_spCT1 m n i x) = VC.split (decide ((↑x.1 : Int) < ↑n)) (VC.need (((x.2.length + 3) * 24 ≤ 140737488355328 ∧ (↑(x.2.length + 3) : Int) ≤ 9223372036854775807) ∧ allV 3 3 fun a b => if b = 0 + 1 + 1 ∧ a = nat_lit 2 then PV.v (Value.bool true) else cellSet (cellSet (cellSet (cellSet (cellSet (cellSet (cellSet (cellSet (fun x_1 j => PV.v ([Value.int IntKind.i64 0, Value.int IntKind.i64 0, Value.bool false].getD j undef)) (nat_lit 0) 0 (PV.v (Value.int IntKind.i64 0))) (nat_lit 0) (0 + 1) (PV.v (Value.int IntKind.i64 (↑i : Int)))) (nat_lit 0) (0 + 1 + 1) (PV.v (Value.bool false))) (nat_lit 1) 0 (PV.v (Value.int IntKind.i64 1))) (nat_lit 1) (0 + 1) (PV.v (Value.int IntKind.i64 (↑x.1 : Int)))) (nat_lit 1) (0 + 1 + 1) (PV.v (Value.bool false))) (nat_lit 2) 0 (PV.v (Value.int IntKind.i64 2))) (nat_lit 2) (0 + 1) (PV.v (Value.int IntKind.i64 (IntKind.i64.wrap (IntKind.i64.wrap ((↑i : Int) * ↑n) + (↑x.1 : Int))))) a b) (VC.lend (J x) (St.mk [(0, AI ↑m), (1, AI ↑n), (5, .own 39), (6, AI ↑i), (7, AI (IntKind.i64.wrap ((↑x.1 : Int) + 1))), (24, AB (decide ((↑x.1 : Int) < ↑n)))] [(39, .row .u false 3 (x.2.length + 3) (fun a b => if a < x.2.length then CB x.2 a b else if b = 0 + 1 + 1 ∧ a - x.2.length = nat_lit 2 then PV.v (Value.bool true) else cellSet (cellSet (cellSet (cellSet (cellSet (cellSet (cellSet (cellSet (fun x_1 j => PV.v ([Value.int IntKind.i64 0, Value.int IntKind.i64 0, Value.bool false].getD j undef)) (nat_lit 0) 0 (PV.v (Value.int IntKind.i64 0))) (nat_lit 0) (0 + 1) (PV.v (Value.int IntKind.i64 (↑i : Int)))) (nat_lit 0) (0 + 1 + 1) (PV.v (Value.bool false))) (nat_lit 1) 0 (PV.v (Value.int IntKind.i64 1))) (nat_lit 1) (0 + 1) (PV.v (Value.int IntKind.i64 (↑x.1 : Int)))) (nat_lit 1) (0 + 1 + 1) (PV.v (Value.bool false))) (nat_lit 2) 0 (PV.v (Value.int IntKind.i64 2))) (nat_lit 2) (0 + 1) (PV.v (Value.int IntKind.i64 (IntKind.i64.wrap (IntKind.i64.wrap ((↑i : Int) * ↑n) + (↑x.1 : Int))))) (a - x.2.length) b) [])]))) (VC.lend (I y) (St.mk [(0, AI ↑m), (1, AI ↑n), (5, .own 77777), (6, AI (IntKind.i64.wrap ((↑i : Int) + 1))), (7, AI ↑x.1), (24, AB (decide ((↑x.1 : Int) < ↑n)))] [(77777, .row .u false 3 (x.2.length) (CB x.2) [])])) := by intros; kernel_rfl
abbrev PDL (n : Nat) (f : Nat → ByteArray) (T : LI) : AV := PD false false false n f T.length (iw T) (ih T) T.length (ib T)
theorem ev_fst : ∀ (n : Nat) (f : Nat → ByteArray) (T : LI) (s : Nat), ev G0 res59 [] 3000 (Or.call [] (.own 0) [(0, .row .u false 1 n (TR f) [])] (Or.call [] (.own 0) [(0, .row .u false 1 ((if false = true then if (↑(T.length) : Int) > (↑s : Int) then (↑(T.length) : Int) else (↑s : Int) else if (↑(T.length) : Int) < ↑s then (↑(T.length) : Int) else (↑s : Int)) - 0).toNat (RR (iw T) (ih T)) [])] Or.nil)) [.ir ir59] (start [PDL n f T, AI ↑s] []) = VC.call 40 [TL false n f] [] (.own 0) [(0, .row .u false 1 n (TR f) [])] (VC.need ((0 : Int) ≤ 0 ∧ (0 ≤ if false = true then if (↑(T.length) : Int) > (↑s : Int) then (↑(T.length) : Int) else (↑s : Int) else if (↑(T.length) : Int) < ↑s then (↑(T.length) : Int) else (↑s : Int)) ∧ (if false = true then if (↑(T.length) : Int) > (↑s : Int) then (↑(T.length) : Int) else (↑s : Int) else if (↑(T.length) : Int) < ↑s then (↑(T.length) : Int) else (↑s : Int)) ≤ (↑(T.length) : Int)) (VC.call 80 [SL false 1 ((if false = true then if (↑(T.length) : Int) > (↑s : Int) then (↑(T.length) : Int) else (↑s : Int) else if (↑(T.length) : Int) < ↑s then (↑(T.length) : Int) else (↑s : Int)) - 0).toNat fun i j => RR (iw T) (ih T) (i + Int.toNat 0) j] [] (.own 0) [(0, .row .u false 1 ((if false = true then if (↑(T.length) : Int) > (↑s : Int) then (↑(T.length) : Int) else (↑s : Int) else if (↑(T.length) : Int) < ↑s then (↑(T.length) : Int) else (↑s : Int)) - 0).toNat (RR (iw T) (ih T)) [])] (VC.need ((0 : Int) ≤ 0 ∧ (0 ≤ if false = true then if (↑(T.length) : Int) > (↑s : Int) then (↑(T.length) : Int) else (↑s : Int) else if (↑(T.length) : Int) < ↑s then (↑(T.length) : Int) else (↑s : Int)) ∧ (if false = true then if (↑(T.length) : Int) > (↑s : Int) then (↑(T.length) : Int) else (↑s : Int) else if (↑(T.length) : Int) < ↑s then (↑(T.length) : Int) else (↑s : Int)) ≤ (↑(T.length) : Int)) (VC.need ((((if false = true then if (↑(T.length) : Int) > (↑s : Int) then (↑(T.length) : Int) else (↑s : Int) else if (↑(T.length) : Int) < ↑s then (↑(T.length) : Int) else (↑s : Int)) - 0).toNat * 1 ≤ 140737488355328 ∧ (↑((if false = true then if (↑(T.length) : Int) > (↑s : Int) then (↑(T.length) : Int) else (↑s : Int) else if (↑(T.length) : Int) < ↑s then (↑(T.length) : Int) else (↑s : Int)) - 0).toNat : Int) ≤ 9223372036854775807) ∧ allV 1 ((if false = true then if (↑(T.length) : Int) > (↑s : Int) then (↑(T.length) : Int) else (↑s : Int) else if (↑(T.length) : Int) < ↑s then (↑(T.length) : Int) else (↑s : Int)) - 0).toNat fun i j => MK (ib T) (i + Int.toNat 0) j) (VC.done (St.mk [(0, AV.ag [TL false n f, SL false 1 (T.length) (RR (iw T) (ih T)), SL false 1 (T.length) (MK (ib T))]), (1, AI ↑s), (2, .adr 2 0), (4, .adr 4 0), (5, AI (if false = true then if (↑(T.length) : Int) > (↑s : Int) then (↑(T.length) : Int) else (↑s : Int) else if (↑(T.length) : Int) < ↑s then (↑(T.length) : Int) else (↑s : Int)))] [(2, .box [TL false n f, SL false 1 (T.length) (RR (iw T) (ih T)), SL false 1 (T.length) (MK (ib T))]), (4, .box [.own 1013, .own 1018, .own 23]), (1013, .row .u false 1 n (TR f) []), (1018, .row .u false 1 ((if false = true then if (↑(T.length) : Int) > (↑s : Int) then (↑(T.length) : Int) else (↑s : Int) else if (↑(T.length) : Int) < ↑s then (↑(T.length) : Int) else (↑s : Int)) - 0).toNat (RR (iw T) (ih T)) []), (23, .row .u false 1 ((if false = true then if (↑(T.length) : Int) > (↑s : Int) then (↑(T.length) : Int) else (↑s : Int) else if (↑(T.length) : Int) < ↑s then (↑(T.length) : Int) else (↑s : Int)) - 0).toNat (fun i j => MK (ib T) (i + Int.toNat 0) j) [])])))))) := by intros; kernel_rfl
theorem c_imCT (m n : Nat) (hm : m ≤ 16) (hn : n ≤ 16) : PObj Tryz.prog G0 25 [AI m, AI n] [] (.own 0) [(0, CR false (crL n m))] := by
  refine PObj.by chk25 rfl (ev_imCT m n) ?_
  have i1 : inB (m : Int) 0 16 = true := by simp [inB]; omega
  have i2 : inB (n : Int) 0 16 = true := by simp [inB]; omega
  simp only [vcA]
  refine ⟨c_in _ _ _, fun h1 => (by rw [i1] at h1; cases h1), fun _ => ⟨c_in _ _ _, fun h1 => (by rw [i2] at h1; cases h1), fun _ => ?_⟩⟩
  refine loop_by (st_imCT m n) (fun x => x.1 ≤ m ∧ x.2 = crL n x.1) (fun x => m - x.1) (0, []) [] [] [77777] ⟨Nat.zero_le _, rfl⟩ ?_ (evr_imCT m n) fun x hx => ?_
  · simp [st_imCT, leA, PV.Le_self]
  · obtain ⟨i, L⟩ := x
    obtain ⟨hi, hL⟩ := hx
    simp only [] at hi hL
    subst hL
    have e1 : IntKind.i64.wrap ((i : Int) + 1) = ((i + 1 : Nat) : Int) := wrap_in (by omega) (by omega)
    have hin : i * n ≤ 256 := by have := Nat.mul_le_mul hi hn; have := Nat.mul_le_mul_right 16 hm; omega
    simp only [vcA]
    refine ⟨fun h1 => ?_, fun h1 => ?_⟩
    · refine loop_by (st_imCT1 m n i) (fun y => y.1 ≤ n ∧ y.2 = crL n i ++ crR n i y.1) (fun y => n - y.1) (0, crL n i) [] [] [] ⟨Nat.zero_le _, by simp [crR]⟩ ?_ (fun J y => evr_imCT1 m n i _ J _ y) fun y hy => ?_
      · simp [st_imCT1, leA, PV.Le_self]
      · obtain ⟨k, L⟩ := y
        obtain ⟨hk, hL⟩ := hy
        simp only [] at hk hL
        have e2 : IntKind.i64.wrap ((k : Int) + 1) = ((k + 1 : Nat) : Int) := wrap_in (by omega) (by omega)
        have e3 : IntKind.i64.wrap ((i : Int) * (n : Int)) = ((i * n : Nat) : Int) := (wrap_in (by omega) (by omega)).trans (by simp)
        have e4 : IntKind.i64.wrap (((i * n : Nat) : Int) + k) = ((i * n + k : Nat) : Int) := wrap_in (by omega) (by omega)
        have hl : L.length = 3 * (i * n) + 3 * k := by rw [hL, List.length_append, crL_len, crR_len]
        simp only [vcA, e1, e2, e3, e4]
        refine ⟨fun h2 => ⟨⟨⟨by omega, by omega⟩, allV3 rfl⟩, Again.mk (k + 1, L ++ crP n i k) [] [(77777, 36)] [] ⟨by simp only []; omega, by simp only [hL, crR, List.append_assoc]⟩ (by simp only []; omega) ?_⟩, fun h2 => Again.mk (i + 1, L) [] [] [] ⟨by simp only []; omega, ?_⟩ (by simp only []; omega) ?_⟩
        · have hl2 : (L ++ crP n i k).length = L.length + 3 := by simp [crP]
          simp [st_imCT1, leA, PV.Le_self, hl2]
          intro a b ha hb
          refine CB_app hb fun h3 => ?_
          have e : a - L.length = 0 ∨ a - L.length = 1 ∨ a - L.length = 2 := by omega
          have eb : b = 0 ∨ b = 1 ∨ b = 2 := by omega
          rcases e with e | e | e <;> rcases eb with rfl | rfl | rfl <;> (simp [e, setG, cellSet, crP, accD]; try exact .refl _)
        · have : k = n := by omega
          subst this
          simp only [hL, crL]
        · simp [st_imCT, leA, PV.Le_self]
    · have : i = m := by omega
      subst this
      refine ResOk.mk [] [(0, 77777)] [] _ _ ?_ ⟨rfl, rfl⟩
      simp [doneC, resOf, resAV, tup, pinR, PV.Le_self, leA, res25]
theorem c_spCT (m n : Nat) (hm : m ≤ 16) (hn : n ≤ 16) : PObj Tryz.prog G0 33 [AI m, AI n] [] (.own 0) [(0, CR false (crL n m))] := by
  refine PObj.by chk33 rfl (ev_spCT m n) ?_
  have i1 : inB (m : Int) 0 16 = true := by simp [inB]; omega
  have i2 : inB (n : Int) 0 16 = true := by simp [inB]; omega
  refine loop_by (st_spCT m n) (fun x => x.1 ≤ m ∧ x.2 = crL n x.1) (fun x => m - x.1) (0, []) [] [(77777, 8)] [] ⟨Nat.zero_le _, rfl⟩ ?_ (evr_spCT m n) fun x hx => ?_
  · simp [st_spCT, leA, PV.Le_self]
  · obtain ⟨i, L⟩ := x
    obtain ⟨hi, hL⟩ := hx
    simp only [] at hi hL
    subst hL
    have e1 : IntKind.i64.wrap ((i : Int) + 1) = ((i + 1 : Nat) : Int) := wrap_in (by omega) (by omega)
    have hin : i * n ≤ 256 := by have := Nat.mul_le_mul hi hn; have := Nat.mul_le_mul_right 16 hm; omega
    simp only [vcA]
    refine ⟨fun h1 => ⟨c_l1In _ _ _, fun _ => ⟨c_l1In _ _ _, fun _ => ?_, fun h2 => (by rw [i2] at h2; cases h2)⟩, fun h2 => (by rw [i1] at h2; cases h2)⟩, fun h1 => ?_⟩
    · refine loop_by (st_spCT1 m n i) (fun y => y.1 ≤ n ∧ y.2 = crL n i ++ crR n i y.1) (fun y => n - y.1) (0, crL n i) [] [] [] ⟨Nat.zero_le _, by simp [crR]⟩ ?_ (fun J y => evr_spCT1 m n i _ J _ y) fun y hy => ?_
      · simp [st_spCT1, leA, PV.Le_self]
      · obtain ⟨k, L⟩ := y
        obtain ⟨hk, hL⟩ := hy
        simp only [] at hk hL
        have e2 : IntKind.i64.wrap ((k : Int) + 1) = ((k + 1 : Nat) : Int) := wrap_in (by omega) (by omega)
        have e3 : IntKind.i64.wrap ((i : Int) * (n : Int)) = ((i * n : Nat) : Int) := (wrap_in (by omega) (by omega)).trans (by simp)
        have e4 : IntKind.i64.wrap (((i * n : Nat) : Int) + k) = ((i * n + k : Nat) : Int) := wrap_in (by omega) (by omega)
        have hl : L.length = 3 * (i * n) + 3 * k := by rw [hL, List.length_append, crL_len, crR_len]
        simp only [vcA, e1, e2, e3, e4]
        refine ⟨fun h2 => ⟨⟨⟨by omega, by omega⟩, allV3 rfl⟩, Again.mk (k + 1, L ++ crP n i k) [] [(77777, 39)] [] ⟨by simp only []; omega, by simp only [hL, crR, List.append_assoc]⟩ (by simp only []; omega) ?_⟩, fun h2 => Again.mk (i + 1, L) [] [] [] ⟨by simp only []; omega, ?_⟩ (by simp only []; omega) ?_⟩
        · have hl2 : (L ++ crP n i k).length = L.length + 3 := by simp [crP]
          simp [st_spCT1, leA, PV.Le_self, hl2]
          intro a b ha hb
          refine CB_app hb fun h3 => ?_
          have e : a - L.length = 0 ∨ a - L.length = 1 ∨ a - L.length = 2 := by omega
          have eb : b = 0 ∨ b = 1 ∨ b = 2 := by omega
          rcases e with e | e | e <;> rcases eb with rfl | rfl | rfl <;> (simp [e, setG, cellSet, crP, accD]; try exact .refl _)
        · have : k = n := by omega
          subst this
          simp only [hL, crL]
        · simp [st_spCT, leA, PV.Le_self]
    · have : i = m := by omega
      subst this
      refine ResOk.mk [] [(0, 77777)] [] _ _ ?_ ⟨rfl, rfl⟩
      simp [doneC, resOf, resAV, tup, pinR, PV.Le_self, leA, res33]
theorem mm_min {a b : Nat} : (if false = true then if (a : Int) > (b : Int) then (a : Int) else (b : Int) else if (a : Int) < (b : Int) then (a : Int) else (b : Int)) = ((min b a : Nat) : Int) := by
  rw [if_neg (by decide)]
  split
  · rw [Nat.min_eq_right (by omega)]
  · rw [Nat.min_eq_left (by omega)]
theorem RR_take {T : LI} {s i : Nat} (h : i < s) : PV.Le (RR (iw T) (ih T) i 0) (RR (iw (T.take s)) (ih (T.take s)) i 0) :=
  RR_le (by simp only [iw, take_get h]) fun j hj => by simp only [ih, take_get h]
theorem ib_take {T : LI} {s i : Nat} (h : i < s) : ib (T.take s) i = ib T i := by simp only [ib, take_get h]
structure TlOk (n : Nat) (f : Nat → ByteArray) (T : LI) : Prop where
  hn : n ≤ 1048576
  hf : ∀ i, i < n → (f i).size ≤ 1048576
  hT : T.length ≤ 524288
  hw : ∀ i, i < T.length → iw T i ≤ 1048576
theorem TlOk.pd {n : Nat} {f : Nat → ByteArray} {T : LI} (h : TlOk n f T) : PdOk n f T.length (iw T) T.length := ⟨⟨h.hn, h.hf, Nat.le_trans h.hT (by decide), h.hw⟩, Nat.le_trans h.hT (by decide)⟩
theorem TlOk.take {n : Nat} {f : Nat → ByteArray} {T : LI} (h : TlOk n f T) (s : Nat) : TlOk n f (T.take s) :=
  ⟨h.hn, h.hf, Nat.le_trans (by rw [List.length_take]; exact Nat.min_le_right _ _) h.hT, fun i hi => by
    rw [List.length_take] at hi
    have : iw (T.take s) i = iw T i := by simp only [iw, take_get (show i < s by omega)]
    rw [this]; exact h.hw i (by omega)⟩
theorem c_fst (n : Nat) (f : Nat → ByteArray) (T : LI) (s : Nat) (ok : TlOk n f T) (hs : s ≤ 1048576) : PObj Tryz.prog G0 59 [PDL n f T, AI s] [] pdR (pdH n f (T.take s)) := by
  have hn := ok.hn
  have hT := ok.hT
  refine PObj.by chk59 rfl (ev_fst n f T s) ?_
  simp only [vcA, mm_min, Int.sub_zero, Int.toNat_natCast]
  have hmin : min s T.length ≤ T.length := Nat.min_le_right _ _
  have hl : (T.take s).length = min s T.length := List.length_take
  refine ⟨c_clT _ _ hn, by omega, ?_, by omega, ⟨⟨by omega, by omega⟩, fun _ _ _ _ => rfl⟩, ?_⟩
  · exact c_clR false _ _ _ (by omega) fun i hi => ok.hw i (by omega)
  · refine ResOk.mk [] [(0, 1013), (1, 1018), (2, 23)] [] _ _ ?_ ⟨rfl, rfl⟩
    simp [doneC, resOf, resAV, tup, pinR, PV.Le_self, leA, res59, AV.leCs, hl]
    exact ⟨fun i h1 => RR_take (by omega), fun i h1 => (ib_take (by omega)).symm⟩
theorem c_fsI (n : Nat) (f : Nat → ByteArray) (T : LI) (s : Int) (h : TlOk n f T ∧ 0 ≤ s ∧ s ≤ 1048576) : PObj Tryz.prog G0 59 [PDL n f T, AI s] [] pdR (pdH n f (T.take s.toNat)) := by
  obtain ⟨s, rfl⟩ : ∃ k : Nat, s = k := ⟨s.toNat, by omega⟩
  exact c_fst n f T s h.1 (by omega)
theorem c_reT (n : Nat) (f : Nat → ByteArray) (T : LI) (h : T.length ≤ 1048576) : PRet Tryz.prog G0 39 [PDL n f T] (AI ((reL T).length : Nat)) := by
  have := c_re n f T.length (iw T) (ih T) T.length (ib T) h
  rwa [cnt_re] at this
theorem c_pvT (n : Nat) (f : Nat → ByteArray) (T : LI) (h : TlOk n f T) : PRet Tryz.prog G0 13 [PDL n f T] (AB (padB n f T.length (iw T) (ih T) T.length (ib T))) := c_imPV n f _ _ _ _ _ h.pd
theorem ev_imCP : ∀ (n : Nat) (f : Nat → ByteArray) (T : LI) (s : Int), ev G0 res24 [] 3000 (Or.call [] (AB (padB n f (T.length) (iw T) (ih T) (T.length) (ib T))) [] (Or.nil.lit.lit.lit.lit.split (Or.call [] (AB (inB s 0 256)) [] (Or.nil.split (Or.call [] pdR (pdH n f (List.take s.toNat T)) (Or.call [] (AI (↑(List.length (reL (List.take s.toNat T))) : Int)) [] (Or.call [] (AI (↑(List.length (reL T)) : Int)) [] (Or.nil.split Or.nil))))).lit.lit).lit)) [.ir ir24] (start [PDL n f T, AI s] []) = VC.call 13 [AV.ag [TL false n f, SL false 1 (T.length) (RR (iw T) (ih T)), SL false 1 (T.length) (MK (ib T))]] [] (AB (padB n f (T.length) (iw T) (ih T) (T.length) (ib T))) [] (VC.split (!padB n f (T.length) (iw T) (ih T) (T.length) (ib T)) (VC.done (St.mk [(0, AV.ag [TL false n f, SL false 1 (T.length) (RR (iw T) (ih T)), SL false 1 (T.length) (MK (ib T))]), (1, AI s), (2, .adr 2 0), (4, .adr 4 0), (5, AB false), (14, AB true)] [(2, .box [TL false n f, SL false 1 (T.length) (RR (iw T) (ih T)), SL false 1 (T.length) (MK (ib T))]), (4, .box [nilT, nilT, nilT])])) (VC.call 18 [AI s, AI 0, AI 256] [] (AB (inB s 0 256)) [] (VC.split (!inB s 0 256) (VC.done (St.mk [(0, AV.ag [TL false n f, SL false 1 (T.length) (RR (iw T) (ih T)), SL false 1 (T.length) (MK (ib T))]), (1, AI s), (2, .adr 2 0), (4, .adr 4 0), (5, AB false), (14, AB !inB s 0 256)] [(2, .box [TL false n f, SL false 1 (T.length) (RR (iw T) (ih T)), SL false 1 (T.length) (MK (ib T))]), (4, .box [nilT, nilT, nilT])])) (VC.call 59 [AV.ag [TL false n f, SL false 1 (T.length) (RR (iw T) (ih T)), SL false 1 (T.length) (MK (ib T))], AI s] [] pdR (pdH n f (List.take s.toNat T)) (VC.call 39 [AV.ag [SL false 1 n (TR f), SL false 1 (List.take s.toNat T).length (RR (iw (List.take s.toNat T)) (ih (List.take s.toNat T))), SL false 1 (List.take s.toNat T).length (MK (ib (List.take s.toNat T)))]] [] (AI (↑(List.length (reL (List.take s.toNat T))) : Int)) [] (VC.call 39 [AV.ag [TL false n f, SL false 1 (T.length) (RR (iw T) (ih T)), SL false 1 (T.length) (MK (ib T))]] [] (AI (↑(List.length (reL T)) : Int)) [] (VC.split (decide ((↑(List.length (reL (List.take s.toNat T))) : Int) < (↑(List.length (reL T)) : Int))) (VC.done (St.mk [(0, AV.ag [TL false n f, SL false 1 (T.length) (RR (iw T) (ih T)), SL false 1 (T.length) (MK (ib T))]), (1, AI s), (2, .adr 2 0), (4, .adr 4 0), (5, AB false), (14, AB !inB s 0 256), (6, .adr 6 0), (23, AB (decide ((↑(List.length (reL (List.take s.toNat T))) : Int) < (↑(List.length (reL T)) : Int))))] [(2, .box [TL false n f, SL false 1 (T.length) (RR (iw T) (ih T)), SL false 1 (T.length) (MK (ib T))]), (4, .box [nilT, nilT, nilT]), (1018, .row .u false 1 n (TR f) []), (2018, .row .u false 1 (List.take s.toNat T).length (RR (iw (List.take s.toNat T)) (ih (List.take s.toNat T))) []), (3018, .row .u false 1 (List.take s.toNat T).length (MK (ib (List.take s.toNat T))) []), (6, .box [.own 1018, .own 2018, .own 3018])])) (VC.done (St.mk [(0, AV.ag [TL false n f, SL false 1 (T.length) (RR (iw T) (ih T)), SL false 1 (T.length) (MK (ib T))]), (1, AI s), (2, .adr 2 0), (4, .adr 4 0), (5, AB true), (14, AB !inB s 0 256), (6, .adr 6 0), (23, AB (decide ((↑(List.length (reL (List.take s.toNat T))) : Int) < (↑(List.length (reL T)) : Int))))] [(2, .box [TL false n f, SL false 1 (T.length) (RR (iw T) (ih T)), SL false 1 (T.length) (MK (ib T))]), (4, .box [.own 1018, .own 2018, .own 3018]), (1018, .row .u false 1 n (TR f) []), (2018, .row .u false 1 (List.take s.toNat T).length (RR (iw (List.take s.toNat T)) (ih (List.take s.toNat T))) []), (3018, .row .u false 1 (List.take s.toNat T).length (MK (ib (List.take s.toNat T))) []), (6, .box [.own 1018, .own 2018, .own 3018])]))))))))) := by intros; kernel_rfl
theorem c_svT (n : Nat) (f : Nat → ByteArray) (T : LI) (h : TlOk n f T) : PRet Tryz.prog G0 27 [PDL n f T] (AB (padB n f T.length (iw T) (ih T) T.length (ib T))) := c_spPV n f _ _ _ _ _ h.pd
theorem ev_spCP : ∀ (n : Nat) (f : Nat → ByteArray) (T : LI) (s : Int), ev G0 res32 [] 3000 (Or.call [] (AB (padB n f (T.length) (iw T) (ih T) (T.length) (ib T))) [] (Or.nil.lit.lit.lit.lit.split (Or.call [] (AB (inB s 0 256)) [] (Or.nil.split Or.nil).lit.lit).lit)) [.ir ir32] (start [PDL n f T, AI s] []) = VC.call 27 [AV.ag [TL false n f, SL false 1 (T.length) (RR (iw T) (ih T)), SL false 1 (T.length) (MK (ib T))]] [] (AB (padB n f (T.length) (iw T) (ih T) (T.length) (ib T))) [] (VC.split (!padB n f (T.length) (iw T) (ih T) (T.length) (ib T)) (VC.done (St.mk [(0, AV.ag [TL false n f, SL false 1 (T.length) (RR (iw T) (ih T)), SL false 1 (T.length) (MK (ib T))]), (1, AI s), (2, .adr 2 0), (4, .adr 4 0), (5, AB false), (16, AB true)] [(2, .box [TL false n f, SL false 1 (T.length) (RR (iw T) (ih T)), SL false 1 (T.length) (MK (ib T))]), (4, .box [nilT, nilT, nilT])])) (VC.call 61 [AI s, AI 0, AI 256] [] (AB (inB s 0 256)) [] (VC.split (!inB s 0 256) (VC.done (St.mk [(0, AV.ag [TL false n f, SL false 1 (T.length) (RR (iw T) (ih T)), SL false 1 (T.length) (MK (ib T))]), (1, AI s), (2, .adr 2 0), (4, .adr 4 0), (5, AB false), (16, AB !inB s 0 256)] [(2, .box [TL false n f, SL false 1 (T.length) (RR (iw T) (ih T)), SL false 1 (T.length) (MK (ib T))]), (4, .box [nilT, nilT, nilT])])) (VC.loop ir32_L1 [.bend 0, .ir ir32_T2] (St.mk [(0, AV.ag [TL false n f, SL false 1 (T.length) (RR (iw T) (ih T)), SL false 1 (T.length) (MK (ib T))]), (1, AI s), (2, .adr 2 0), (4, .adr 4 0), (5, AB false), (16, AB !inB s 0 256), (6, AI (if false = true then if (↑(T.length) : Int) > s then (↑(T.length) : Int) else s else if (↑(T.length) : Int) < s then (↑(T.length) : Int) else s)), (7, AI (if false = true then if (↑(T.length) : Int) > s then (↑(T.length) : Int) else s else if (↑(T.length) : Int) < s then (↑(T.length) : Int) else s))] [(2, .box [TL false n f, SL false 1 (T.length) (RR (iw T) (ih T)), SL false 1 (T.length) (MK (ib T))]), (4, .box [nilT, nilT, nilT])]))))) := by intros; kernel_rfl
def cpB (n : Nat) (f : Nat → ByteArray) (T : LI) (s : Int) : Bool := padB n f T.length (iw T) (ih T) T.length (ib T) && inB s 0 256 && cutB T s.toNat
abbrev cpR (b : Bool) : AV := .tp [pdR, AB b]
abbrev cpH (b : Bool) (n : Nat) (f : Nat → ByteArray) (T : LI) (s : Int) : List (Nat × Ob) := pdH (if b then n else 0) f (if b then T.take s.toNat else [])
theorem c_imCP (n : Nat) (f : Nat → ByteArray) (T : LI) (s : Int) (ok : TlOk n f T) : PObj Tryz.prog G0 24 [PDL n f T, AI s] [] (cpR (cpB n f T s)) (cpH (cpB n f T s) n f T s) := by
  have hT := ok.hT
  refine PObj.by chk24 rfl (ev_imCP n f T s) ?_
  simp only [vcA]
  have ht : (T.take s.toNat).length ≤ T.length := by rw [List.length_take]; exact Nat.min_le_right _ _
  refine ⟨c_pvT _ _ _ ok, fun h1 => ?_, fun h1 => ⟨c_in _ _ _, fun h2 => ?_, fun h2 => ?_⟩⟩
  · have e : cpB n f T s = false := by
      have : padB n f T.length (iw T) (ih T) T.length (ib T) = false := by simpa using h1
      simp [cpB, this]
    simp only [e]
    refine ResOk.mk [] [] [0, 1, 2] _ _ ?_ ⟨rfl, rfl⟩
    simp [doneC, resOf, resAV, tup, pinR, PV.Le_self, leA, res24, AV.leCs]
  · have e : cpB n f T s = false := by
      have : inB s 0 256 = false := by simpa using h2
      simp [cpB, this]
    simp only [e]
    refine ResOk.mk [] [] [0, 1, 2] _ _ ?_ ⟨rfl, rfl⟩
    simp [doneC, resOf, resAV, tup, pinR, PV.Le_self, leA, res24, AV.leCs]
  · have hp : padB n f T.length (iw T) (ih T) T.length (ib T) = true := by simpa using h1
    have hs : inB s 0 256 = true := by simpa using h2
    have hs' := inB_iff.1 hs
    refine ⟨c_fsI _ _ _ _ ⟨ok, hs'.1, by omega⟩, c_reT _ _ _ (by omega), c_reT _ _ _ (by omega), fun h3 => ?_, fun h3 => ?_⟩
    · have e : cpB n f T s = false := by
        have : cutB T s.toNat = false := by simp only [cutB, decide_eq_false_iff_not]; omega
        simp [cpB, this]
      simp only [e]
      refine ResOk.mk [] [] [0, 1, 2] _ _ ?_ ⟨rfl, rfl⟩
      simp [doneC, resOf, resAV, tup, pinR, PV.Le_self, leA, res24, AV.leCs]
    · have e : cpB n f T s = true := by
        have : cutB T s.toNat = true := by simp only [cutB, decide_eq_true_eq]; omega
        simp [cpB, this, hp, hs]
      simp only [e, if_true]
      refine ResOk.mk [] [(0, 1018), (1, 2018), (2, 3018)] [] _ _ ?_ ⟨rfl, rfl⟩
      simp [doneC, resOf, resAV, tup, pinR, PV.Le_self, leA, res24, AV.leCs]
def st_spCP (n : Nat) (f : Nat → ByteArray) (T : LI) (k q : Nat) : St := ⟨[(2, .adr 2 0), (4, .adr 4 0), (5, AB false), (6, AI k), (7, AI q)], [(2, .box [TL false n f, RL false T.length (iw T) (ih T), ML false T.length (ib T)]), (4, .box [nilT, nilT, nilT])]⟩
theorem c_cpT (n : Nat) (f : Nat → ByteArray) (T : LI) (ok : TlOk n f T) : PObj Tryz.prog G0 68 [PDL n f T] [] pdR (pkH n f T.length (iw T) (ih T) T.length (ib T)) := c_cpP n f _ _ _ _ _ ok.pd
theorem evr_spCP : ∀ (n : Nat) (f : Nat → ByteArray) (T : LI) (k : Nat) (I : Nat → St → Prop) (q : Nat), ev G0 res32 [] 3000 ((Or.nil.split Or.nil).split (Or.call [] pdR (pkH n f (T.length) (iw T) (ih T) (T.length) (ib T)) Or.nil)) [.ir ir32_L1, .lend (I q), .bend 0, .ir ir32_T2] (st_spCP n f T k q) = VC.split (decide ((↑q : Int) < (↑(T.length) : Int))) (VC.need (0 ≤ (↑q : Int) ∧ q < T.length) (VC.split (ib T q) (VC.done (St.mk [(2, .adr 2 0), (4, .adr 4 0), (5, AB false), (6, AI ↑k), (7, AI ↑q), (28, AB (decide ((↑q : Int) < (↑(T.length) : Int)))), (35, AB (ib T q))] [(2, .box [TL false n f, SL false 1 (T.length) (RR (iw T) (ih T)), SL false 1 (T.length) (MK (ib T))]), (4, .box [nilT, nilT, nilT])])) (VC.lend (I q) (St.mk [(2, .adr 2 0), (4, .adr 4 0), (5, AB false), (6, AI ↑k), (7, AI (IntKind.i64.wrap ((↑q : Int) + 1))), (28, AB (decide ((↑q : Int) < (↑(T.length) : Int)))), (35, AB (ib T q))] [(2, .box [TL false n f, SL false 1 (T.length) (RR (iw T) (ih T)), SL false 1 (T.length) (MK (ib T))]), (4, .box [nilT, nilT, nilT])])))) (VC.call 68 [AV.ag [TL false n f, SL false 1 (T.length) (RR (iw T) (ih T)), SL false 1 (T.length) (MK (ib T))]] [] pdR (pkH n f (T.length) (iw T) (ih T) (T.length) (ib T)) (VC.need (0 ≤ (↑k : Int) ∧ (↑k : Int) ≤ (↑(T.length) : Int)) (VC.need (0 ≤ (↑k : Int) ∧ (↑k : Int) ≤ (↑(T.length) : Int)) (VC.done (St.mk [(2, .adr 2 0), (4, .adr 4 0), (5, AB true), (6, AI ↑k), (7, AI ↑q), (28, AB (decide ((↑q : Int) < (↑(T.length) : Int)))), (8, .adr 8 0)] [(2, .box [TL false n f, SL false 1 (T.length) (RR (iw T) (ih T)), SL false 1 (T.length) (MK (ib T))]), (4, .box [.own 1038, .own 42, .own 47]), (1038, .row .u false 1 n (TR f) []), (8, .box [.own 1038, .own 42, .own 47]), (42, .row .u false 1 k (RR (iw T) (ih T)) []), (47, .row .u false 1 k (MK (ib T)) [])]))))) := by intros; kernel_rfl
theorem c_spCP (n : Nat) (f : Nat → ByteArray) (T : LI) (s : Int) (ok : TlOk n f T) : PObj Tryz.prog G0 32 [PDL n f T, AI s] [] (cpR (cpB n f T s)) (cpH (cpB n f T s) n f T s) := by
  have hT := ok.hT
  refine PObj.by chk32 rfl (ev_spCP n f T s) ?_
  simp only [vcA]
  refine ⟨c_svT _ _ _ ok, fun h1 => ?_, fun h1 => ⟨c_l1In _ _ _, fun h2 => ?_, fun h2 => ?_⟩⟩
  · have e : cpB n f T s = false := by
      have : padB n f T.length (iw T) (ih T) T.length (ib T) = false := by simpa using h1
      simp [cpB, this]
    simp only [e]
    refine ResOk.mk [] [] [0, 1, 2] _ _ ?_ ⟨rfl, rfl⟩
    simp [doneC, resOf, resAV, tup, pinR, PV.Le_self, leA, res32, AV.leCs]
  · have e : cpB n f T s = false := by
      have : inB s 0 256 = false := by simpa using h2
      simp [cpB, this]
    simp only [e]
    refine ResOk.mk [] [] [0, 1, 2] _ _ ?_ ⟨rfl, rfl⟩
    simp [doneC, resOf, resAV, tup, pinR, PV.Le_self, leA, res32, AV.leCs]
  · have hp : padB n f T.length (iw T) (ih T) T.length (ib T) = true := by simpa using h1
    have hs : inB s 0 256 = true := by simpa using h2
    have hs' := inB_iff.1 hs
    obtain ⟨s, rfl⟩ : ∃ k : Nat, s = k := ⟨s.toNat, by omega⟩
    simp only [mm_min, Int.toNat_natCast]
    have hmin : min s T.length ≤ T.length := Nat.min_le_right _ _
    have hl : (T.take s).length = min s T.length := List.length_take
    refine loop_by (st_spCP n f T (min s T.length)) (fun q => min s T.length ≤ q ∧ q ≤ T.length ∧ ∀ i, s ≤ i → i < q → ib T i = false) (fun q => T.length - q) (min s T.length) [] [] [] ⟨Nat.le_refl _, hmin, fun i h3 h4 => by omega⟩ ?_ (evr_spCP n f T (min s T.length)) fun q hq => ?_
    · simp [st_spCP, leA, PV.Le_self, AV.leCs]
    · obtain ⟨hq1, hq2, hall⟩ := hq
      have e1 : IntKind.i64.wrap ((q : Int) + 1) = ((q + 1 : Nat) : Int) := wrap_in (by omega) (by omega)
      simp only [vcA, Int.toNat_natCast, e1]
      refine ⟨fun h3 => ⟨by omega, fun h4 => ?_, fun h4 => Again.mk (q + 1) [] [] [] ⟨by omega, by omega, fun i h5 h6 => ?_⟩ (by omega) ?_⟩, fun h3 => ⟨c_cpT _ _ _ ok, by omega, by omega, ?_⟩⟩
      · have e : cpB n f T (s : Int) = false := by
          have : cutB T s = false := by
            cases e2 : cutB T s with
            | false => rfl
            | true =>
              have := cut_iff.1 e2 q (by omega) (by omega)
              rw [this] at h4; cases h4
          simp [cpB, this]
        simp only [e]
        refine ResOk.mk [] [] [0, 1, 2] _ _ ?_ ⟨rfl, rfl⟩
        simp [doneC, resOf, resAV, tup, pinR, PV.Le_self, leA, res32, AV.leCs]
      · by_cases e2 : i = q
        · subst e2; exact h4
        · exact hall i h5 (by omega)
      · simp [st_spCP, leA, PV.Le_self, AV.leCs]
      · have hqT : q = T.length := by omega
        subst hqT
        have e : cpB n f T (s : Int) = true := by
          have : cutB T s = true := cut_iff.2 hall
          simp [cpB, this, hp, hs]
        simp only [e, if_true, Int.toNat_natCast]
        refine ResOk.mk [] [(0, 1038), (1, 42), (2, 47)] [] _ _ ?_ ⟨rfl, rfl⟩
        simp [doneC, resOf, resAV, tup, pinR, PV.Le_self, leA, res32, AV.leCs, hl]
        exact ⟨fun i h5 => RR_take (by omega), fun i h5 => (ib_take (by omega)).symm⟩
end Go.Gw
