/- Sorting rows: comparisons, and the sort itself; with no condition. -/
import Derived.Test.YtigaelckdbeecaaGreatDoorTable
import Derived.Test.YtigaelckdbeecaaGreatDoorGw32
import Derived.Shelf.SlSortCmp.NoneTotal
import Derived.KernelRfl
namespace Go.Proofs
open Go.Shelf
def Tryz.laySort_ren : Go.Shelf.Ren := ⟨fun | 6 => 74 | 15 => 83 | 14 => 82 | 28 => 96 | 29 => 97 | 20 => 88 | 21 => 89 | 22 => 90 | 23 => 91 | 24 => 92 | 25 => 93 | 26 => 94 | 27 => 95 | 46 => 99 | 47 => 100 | 48 => 101 | 49 => 102 | 50 => 103 | 57 => 105 | n => n, fun | 22 => 24 | 24 => 49 | 25 => 90 | 3 => 3 | 39 => 107 | 0 => 0 | 53 => 119 | 55 => 121 | 4 => 4 | 46 => 112 | 45 => 111 | 50 => 116 | 5 => 5 | 9 => 9 | 66 => 122 | 70 => 126 | 76 => 128 | 77 => 129 | n => n, fun | n => n⟩
theorem Tryz.laySort : Go.Proofs.SlLaysF.n6 Tryz.prog Tryz.laySort_ren := {
  mixed := by kernel_rfl
  f6 := ⟨Tryz.f74.name, by decide, Tryz.func74.trans (congrArg some (by kernel_rfl))⟩
  f14 := ⟨Tryz.f82.name, by decide, Tryz.func82.trans (congrArg some (by kernel_rfl))⟩
  f15 := Tryz.func83.trans (congrArg some (by kernel_rfl))
  f20 := ⟨Tryz.f88.name, by decide, Tryz.func88.trans (congrArg some (by kernel_rfl))⟩
  f21 := ⟨Tryz.f89.name, by decide, Tryz.func89.trans (congrArg some (by kernel_rfl))⟩
  f22 := ⟨Tryz.f90.name, by decide, Tryz.func90.trans (congrArg some (by kernel_rfl))⟩
  f23 := ⟨Tryz.f91.name, by decide, Tryz.func91.trans (congrArg some (by kernel_rfl))⟩
  f24 := ⟨Tryz.f92.name, by decide, Tryz.func92.trans (congrArg some (by kernel_rfl))⟩
  f25 := ⟨Tryz.f93.name, by decide, Tryz.func93.trans (congrArg some (by kernel_rfl))⟩
  f26 := ⟨Tryz.f94.name, by decide, Tryz.func94.trans (congrArg some (by kernel_rfl))⟩
  f27 := ⟨Tryz.f95.name, by decide, Tryz.func95.trans (congrArg some (by kernel_rfl))⟩
  f28 := Tryz.func96.trans (congrArg some (by kernel_rfl))
  f29 := Tryz.func97.trans (congrArg some (by kernel_rfl))
  f46 := ⟨Tryz.f99.name, by decide, Tryz.func99.trans (congrArg some (by kernel_rfl))⟩
  f47 := Tryz.func100.trans (congrArg some (by kernel_rfl))
  f48 := Tryz.func101.trans (congrArg some (by kernel_rfl))
  f49 := ⟨Tryz.f102.name, by decide, Tryz.func102.trans (congrArg some (by kernel_rfl))⟩
  f50 := ⟨Tryz.f103.name, by decide, Tryz.func103.trans (congrArg some (by kernel_rfl))⟩
  f57 := ⟨Tryz.f105.name, by decide, Tryz.func105.trans (congrArg some (by kernel_rfl))⟩
  t0 := Tryz.underlying0
  a0 := Tryz.isAgg0
  z0 := Tryz.sizeOf0
  v0 := Tryz.zeroValue0
  t3 := Tryz.underlying3
  a3 := Tryz.isAgg3
  z3 := Tryz.sizeOf3
  v3 := Tryz.zeroValue3
  t4 := Tryz.underlying4
  a4 := Tryz.isAgg4
  z4 := Tryz.sizeOf4
  v4 := Tryz.zeroValue4
  t5 := Tryz.underlying5
  a5 := Tryz.isAgg5
  z5 := Tryz.sizeOf5
  v5 := Tryz.zeroValue5
  t9 := Tryz.underlying9
  a9 := Tryz.isAgg9
  z9 := Tryz.sizeOf9
  v9 := Tryz.zeroValue9
  t22 := Tryz.underlying24
  a22 := Tryz.isAgg24
  z22 := Tryz.sizeOf24
  v22 := Tryz.zeroValue24
  a24 := Tryz.isAgg49
  z24 := Tryz.sizeOf49
  t25 := Tryz.underlying90
  a25 := Tryz.isAgg90
  z25 := Tryz.sizeOf90
  v25 := Tryz.zeroValue90
  t39 := Tryz.underlying107
  a39 := Tryz.isAgg107
  z39 := Tryz.sizeOf107
  v39 := Tryz.zeroValue107
  t45 := Tryz.underlying111
  a45 := Tryz.isAgg111
  z45 := Tryz.sizeOf111
  v45 := Tryz.zeroValue111
  t46 := Tryz.underlying112
  a46 := Tryz.isAgg112
  z46 := Tryz.sizeOf112
  v46 := Tryz.zeroValue112
  t50 := Tryz.underlying116
  a50 := Tryz.isAgg116
  z50 := Tryz.sizeOf116
  v50 := Tryz.zeroValue116
  t53 := Tryz.underlying119
  a53 := Tryz.isAgg119
  z53 := Tryz.sizeOf119
  v53 := Tryz.zeroValue119
  t55 := Tryz.underlying121
  a55 := Tryz.isAgg121
  z55 := Tryz.sizeOf121
  v55 := Tryz.zeroValue121
  t66 := Tryz.underlying122
  a66 := Tryz.isAgg122
  z66 := Tryz.sizeOf122
  v66 := Tryz.zeroValue122
  t70 := Tryz.underlying126
  a70 := Tryz.isAgg126
  z70 := Tryz.sizeOf126
  v70 := Tryz.zeroValue126
  t76 := Tryz.underlying128
  a76 := Tryz.isAgg128
  z76 := Tryz.sizeOf128
  v76 := Tryz.zeroValue128
  t77 := Tryz.underlying129
  a77 := Tryz.isAgg129
  z77 := Tryz.sizeOf129
  v77 := Tryz.zeroValue129 }
end Go.Proofs
namespace Go.Gw
open Go Go.Proofs
set_option linter.unusedSimpArgs false
set_option linter.unusedVariables false
set_option maxRecDepth 100000
def ir84 : Ir := (.seq (.reg [] [o 2 (.mov (cb false))]) (.seq (.reg [3, 4, 5] [om 3 0, om 4 0, ob .neq 5 3 4, om 2 5]) .ret))
def keep84 : List Nat := [0, 2]
def res84 : List RI := [.tmp 2]
theorem chk84 : chk Tryz.prog 84 1 keep84 = some (ir84, res84) := by kernel_rfl
def ir77 : Ir := (.seq (.reg [] [o 4 (.mov (ci 0))]) (.seq (.reg [7, 8] [om 7 0, o 8 (.call 84 [(tt 7)]), om 5 8]) (.seq (.reg [9, 10] [om 9 1, o 10 (.call 84 [(tt 9)]), om 6 10]) (.seq (.seq (.reg [] [om 11 5]) (.cond (tt 11) (.seq (.seq (.reg [] [om 12 6]) (.cond (tt 12) (.seq (.reg [] [o 4 (.mov (ci 0))]) .ret) .skip)) (.seq (.reg [] [o 4 (.mov (ci (-1)))]) .ret)) .skip)) (.seq (.seq (.reg [] [om 13 6]) (.cond (tt 13) (.seq (.reg [] [o 4 (.mov (ci 1))]) .ret) .skip)) (.seq (.seq (.reg [14, 15] [om 14 0, om 15 1, ob .lss 16 14 15]) (.cond (tt 16) (.seq (.reg [] [o 4 (.mov (ci (-1)))]) .ret) .skip)) (.seq (.seq (.reg [17, 18] [om 17 0, om 18 1, ob .gtr 19 17 18]) (.cond (tt 19) (.seq (.reg [] [o 4 (.mov (ci 1))]) .ret) .skip)) (.seq (.reg [] [o 4 (.mov (ci 0))]) .ret))))))))
def keep77 : List Nat := [0, 1, 4, 5, 6, 11, 12, 13, 16, 19]
def res77 : List RI := [.tmp 4]
theorem chk77 : chk Tryz.prog 77 2 keep77 = some (ir77, res77) := by kernel_rfl
def ir75_L1 : Ir := (.seq (.reg [] [ob .lss 12 11 10]) (.seq (.cond (tt 12) .skip (.exit 0)) (.seq (.block 1 (.seq (.reg [13, 14, 15] [om 13 11, ox 14 9 11, ol 15 14, om 5 13, om 6 15]) (.seq (.seq (.reg [16, 17, 18] [om 16 5, om 17 1, o 18 (.len (tt 17)), ob .geq 19 16 18]) (.cond (tt 19) (.seq (.reg [] [o 4 (.mov (ci 1))]) .ret) .skip)) (.seq (.reg [20, 21, 22, 23] [om 20 1, om 21 5, ox 22 20 21, ol 23 22, om 7 23]) (.seq (.reg [24, 25, 26] [om 24 6, om 25 7, o 26 (.call 77 [(tt 24), (tt 25)]), om 8 26]) (.seq (.reg [27] [om 27 8, o 28 (.bin .neq (tt 27) (ci 0))]) (.cond (tt 28) (.seq (.reg [29] [om 29 8, om 4 29]) .ret) .skip))))))) (.reg [30] [o 30 (.bin .add (tt 11) (ci 1)), om 11 30]))))
def ir75_T2 : Ir := (.seq (.seq (.reg [31, 32, 33, 34] [om 31 0, o 32 (.len (tt 31)), om 33 1, o 34 (.len (tt 33)), ob .lss 35 32 34]) (.cond (tt 35) (.seq (.reg [] [o 4 (.mov (ci (-1)))]) .ret) .skip)) (.seq (.reg [] [o 4 (.mov (ci 0))]) .ret))
def ir75 : Ir := (.seq (.reg [] [o 4 (.mov (ci 0))]) (.seq (.seq (.reg [] [om 9 0, o 10 (.len (tt 9)), o 11 (.mov (ci 0))]) (.block 0 (.loop ir75_L1))) ir75_T2))
def keep75 : List Nat := [0, 1, 4, 5, 6, 7, 8, 9, 10, 11, 12, 19, 28, 35]
def res75 : List RI := [.tmp 4]
theorem chk75 : chk Tryz.prog 75 2 keep75 = some (ir75, res75) := by kernel_rfl
def ir87_L1 : Ir := (.seq (.seq (.reg [6, 7, 8, 9, 10, 11, 12, 13, 14] [om 6 5, om 7 0, o 8 (.len (tt 7)), ob .lss 9 6 8, om 10 9, og 11 10 true (.mov (tt 5)), og 12 10 true (.mov (tt 1)), og 13 10 true (.len (tt 12)), og 14 10 true (.bin .lss (tt 11) (tt 13)), o 15 (.pick (tt 10) (tt 14) (cb false))]) (.cond (tt 15) .skip (.exit 0))) (.seq (.block 1 (.seq (.dreg [18, 19, 20, 21, 22, 23, 24, 25] [0, 0, 3, 7, 0, 0, 48, 112, 255] [(3, 1021), (7, 1025)] [om 18 0, om 19 5, ox 20 18 19, ol 21 20, om 22 1, om 23 5, ox 24 22 23, ol 25 24, ob .neq 26 21 25]) (.cond (tt 26) (.seq (.dreg [27, 28, 29, 30, 31, 32, 33, 34, 35] [0, 0, 3, 7, 0, 0, 48, 112, 255, 511] [(3, 1030), (7, 1034)] [om 27 0, om 28 5, ox 29 27 28, ol 30 29, om 31 1, om 32 5, ox 33 31 32, ol 34 33, ob .lss 35 30 34, om 4 35]) .ret) .skip))) (.reg [16, 17] [om 16 5, o 17 (.bin .add (tt 16) (ci 1)), om 5 17])))
def ir87_T2 : Ir := (.seq (.reg [36, 37, 38, 39, 40] [om 36 0, o 37 (.len (tt 36)), om 38 1, o 39 (.len (tt 38)), ob .lss 40 37 39, om 4 40]) .ret)
def ir87 : Ir := (.seq (.reg [] [o 4 (.mov (cb false))]) (.seq (.seq (.reg [] [o 5 (.mov (ci 0))]) (.block 0 (.loop ir87_L1))) ir87_T2))
def keep87 : List Nat := [0, 1, 4, 5, 15, 26]
def res87 : List RI := [.tmp 4]
theorem chk87 : chk Tryz.prog 87 2 keep87 = some (ir87, res87) := by kernel_rfl
def cmp3 (x y : Int) : Int := if x < y then -1 else if y < x then 1 else 0
def lexL : List Int → List Int → Int
  | [], [] => 0
  | [], _ :: _ => -1
  | _ :: _, [] => 1
  | x :: xs, y :: ys => if x < y then -1 else if y < x then 1 else lexL xs ys
theorem lex_refl : ∀ x, lexL x x = 0
  | [] => rfl
  | x :: xs => by simp [lexL, lex_refl xs]
theorem lex_swap : ∀ x y, lexL y x = - lexL x y
  | [], [] => rfl
  | [], _ :: _ => rfl
  | _ :: _, [] => rfl
  | x :: xs, y :: ys => by
    simp only [lexL]
    by_cases h1 : x < y
    · simp [h1, show ¬ y < x by omega]
    · by_cases h2 : y < x
      · simp [h1, h2]
      · simp [h1, h2, lex_swap xs ys]
theorem lex_zero : ∀ x y, lexL x y = 0 → x = y
  | [], [], _ => rfl
  | [], _ :: _, h => by simp [lexL] at h
  | _ :: _, [], h => by simp [lexL] at h
  | x :: xs, y :: ys, h => by
    simp only [lexL] at h
    split at h
    · omega
    · split at h
      · omega
      · rw [lex_zero xs ys h, show x = y by omega]
theorem lex_le : ∀ x y z, lexL x y ≤ 0 → lexL y z ≤ 0 → lexL x z ≤ 0
  | [], _, [], _, _ => by simp [lexL]
  | [], _, _ :: _, _, _ => by simp [lexL]
  | _ :: _, [], _, h, _ => by simp [lexL] at h
  | _ :: _, _ :: _, [], _, h => by simp [lexL] at h
  | x :: xs, y :: ys, z :: zs, h1, h2 => by
    have ih := lex_le xs ys zs
    simp only [lexL] at h1 h2 ⊢
    split at h1
    · split at h2
      · simp [show x < z by omega]
      · split at h2
        · omega
        · simp [show x < z by omega]
    · split at h1
      · omega
      · split at h2
        · simp [show x < z by omega]
        · split at h2
          · omega
          · have := ih h1 h2
            simp [show ¬ x < z by omega, show ¬ z < x by omega, this]
def ltL (x y : List Int) : Bool := decide (lexL x y < 0)
theorem lt_swo : Go.Sort.SWO ltL where
  irrefl x := by simp [ltL, lex_refl]
  trans x y z h1 h2 := by
    simp only [ltL, decide_eq_true_eq] at *
    have h3 := lex_le x y z (by omega) (by omega)
    by_cases h4 : lexL x z = 0
    · have := lex_zero _ _ h4
      subst this
      have := lex_swap x y
      omega
    · omega
  ntrans x y z h1 h2 := by
    simp only [ltL, decide_eq_false_iff_not, Int.not_lt] at *
    have h3 := lex_le z y x (by rw [lex_swap y z]; omega) (by rw [lex_swap x y]; omega)
    rw [lex_swap x z] at h3
    omega
theorem lt_anti (x y : List Int) (h1 : ltL x y = false) (h2 : ltL y x = false) : x = y := by
  simp only [ltL, decide_eq_false_iff_not, Int.not_lt] at *
  have := lex_swap x y
  exact lex_zero _ _ (by omega)
def rowL (n : Nat) (f : Nat → Int) (k : Nat) : List Int := (List.range' k (n - k)).map f
theorem rowL_step {n : Nat} {f : Nat → Int} {k : Nat} (h : k < n) : rowL n f k = f k :: rowL n f (k + 1) := by
  unfold rowL
  obtain ⟨d, hd⟩ : ∃ d, n - k = d + 1 := ⟨n - k - 1, by omega⟩
  rw [hd, List.range'_succ, show n - (k + 1) = d by omega]
  rfl
theorem rowL_nil {n : Nat} {f : Nat → Int} {k : Nat} (h : n ≤ k) : rowL n f k = [] := by
  unfold rowL
  rw [show n - k = 0 by omega]
  rfl
theorem rowL_len {n : Nat} {f : Nat → Int} : (rowL n f 0).length = n := by simp [rowL]
theorem rowL_get {n : Nat} {f : Nat → Int} {j : Nat} (h : j < n) : (rowL n f 0).getD j 0 = f j := by
  simp [rowL, List.getD_eq_getElem?_getD, List.getElem?_range', h]
theorem rowL_congr {n : Nat} {f g : Nat → Int} (h : ∀ j, j < n → f j = g j) : rowL n f 0 = rowL n g 0 := by
  unfold rowL
  apply List.map_congr_left
  intro j hj
  simp only [List.mem_range'_1] at hj
  exact h j (by omega)
def tabL (m : Nat) (w : Nat → Nat) (h : Nat → Nat → Int) : List (List Int) := (List.range m).map fun i => rowL (w i) (h i) 0
def wL (S : List (List Int)) (i : Nat) : Nat := (S.getD i []).length
def hL (S : List (List Int)) (i j : Nat) : Int := (S.getD i []).getD j 0
theorem tabL_len {m : Nat} {w : Nat → Nat} {h : Nat → Nat → Int} : (tabL m w h).length = m := by simp [tabL]
theorem tabL_get {m : Nat} {w : Nat → Nat} {h : Nat → Nat → Int} {i : Nat} (hi : i < m) : (tabL m w h).getD i [] = rowL (w i) (h i) 0 := by
  simp [tabL, List.getD_eq_getElem?_getD, hi]
def srtL (lt : List Int → List Int → Bool) (S : List (List Int)) : List (List Int) := S.mergeSort fun x y => !lt y x
theorem srt_eq {lt : List Int → List Int → Bool} (hO : Go.Sort.SWO lt) (ha : ∀ x y, lt x y = false → lt y x = false → x = y) {S S' : List (List Int)} (hp : S'.Perm S) (hs : S'.Pairwise fun x y => lt y x = false) : S' = srtL lt S := by
  have hlen := hp.length_eq
  have := Go.Sort.sorted_unique_holds (lt := lt) hO ha S.toArray S'.toArray ⟨by simpa using hlen, fun i hi => ?_, ?_⟩ (fun i j _ hij hj => ?_)
  · show S' = S.mergeSort _
    simpa using this
  · have h1 : S.toArray.size ≤ i := by rcases hi with h | h <;> omega
    have h2 : S'.toArray.size ≤ i := by simpa [hlen] using h1
    rw [getElem!_neg _ _ (by omega), getElem!_neg _ _ (by omega)]
  · rw [extract_all (d := S'.toArray) (by simp [hlen]), extract_all (d := S.toArray) (by simp)]
    simpa using hp
  · have hj' : j < S'.length := by simpa [hlen] using hj
    rw [getElem!_pos S'.toArray j (by simpa using hj'), getElem!_pos S'.toArray i (by (try simp); omega)]
    simpa using List.pairwise_iff_getElem.1 hs i j (by omega) hj' hij
theorem srt_of {lt : List Int → List Int → Bool} (hO : Go.Sort.SWO lt) (ha : ∀ x y, lt x y = false → lt y x = false → x = y) {m : Nat} {w : Nat → Nat} {h : Nat → Nat → Int} {π : Nat → Nat} (hs : Srt lt m (fun i => rowL (w i) (h i) 0) π) :
    (List.range m).map (fun i => rowL (w (π i)) (h (π i)) 0) = srtL lt (tabL m w h) := by
  refine srt_eq hO ha ?_ ?_
  · have := (hs.perm).map (fun i => rowL (w i) (h i) 0)
    simpa [List.map_map, Function.comp_def, tabL] using this
  · rw [List.pairwise_iff_getElem]
    intro i j hi hj hij
    simpa using hs.srt i j hij (by simpa using hj)
theorem RR_le2 {w w' : Nat → Nat} {h h' : Nat → Nat → Int} {i i' : Nat} (hw : w i = w' i') (hh : ∀ j, j < w i → h i j = h' i' j) : PV.Le (RR w h i 0) (RR w' h' i' 0) :=
  .sl _ _ (fun e => e) _ _ _ _ _ hw fun j k hj _ => by rw [hh j hj]; exact .refl _
theorem srt_le {lt : List Int → List Int → Bool} (hO : Go.Sort.SWO lt) (ha : ∀ x y, lt x y = false → lt y x = false → x = y) {m : Nat} {w : Nat → Nat} {h : Nat → Nat → Int} {π : Nat → Nat} (hs : Srt lt m (fun i => rowL (w i) (h i) 0) π) {i : Nat} (hi : i < m) :
    PV.Le (RR w h (π i) 0) (RR (wL (srtL lt (tabL m w h))) (hL (srtL lt (tabL m w h))) i 0) := by
  have e : (srtL lt (tabL m w h)).getD i [] = rowL (w (π i)) (h (π i)) 0 := by
    rw [← srt_of hO ha hs]
    simp [List.getD_eq_getElem?_getD, hi]
  exact RR_le2 (by simp only [wL, e, rowL_len]) fun j hj => by simp only [hL, e, rowL_get hj]
theorem ev_nan : ∀ (x : Int), ev G0 res84 [] 3000 Or.nil [.ir ir84] (start [AI x] []) = VC.doneP (AB (x != x)) := by intros; kernel_rfl
theorem c_nan (x : Int) : PRet Tryz.prog G0 84 [AI x] (AB false) := by
  refine PRet.by chk84 (ev_nan x) ?_
  simp only [vcA]
  simp
theorem ev_cmp3 : ∀ (x y : Int), ev G0 res77 [] 3000 (Or.call [] (AB false) [] (Or.call [] (AB false) [] (Or.nil.split (Or.nil.split Or.nil)).lit.lit)) [.ir ir77] (start [AI x, AI y] []) = VC.call 84 [AI x] [] (AB false) [] (VC.call 84 [AI y] [] (AB false) [] (VC.split (decide (x < y)) (VC.doneP (AI (-1))) (VC.split (decide (y < x)) (VC.doneP (AI 1)) (VC.doneP (AI 0))))) := by intros; kernel_rfl
theorem c_cmp3 (x y : Int) : PRet Tryz.prog G0 77 [AI x, AI y] (AI (cmp3 x y)) := by
  refine PRet.by chk77 (ev_cmp3 x y) ?_
  simp only [vcA]
  refine ⟨c_nan _, c_nan _, fun h => ?_, fun h => ⟨fun h2 => ?_, fun h2 => ?_⟩⟩
  · simp [cmp3, h]
  · have : ¬ x < y := by omega
    simp [cmp3, this]; omega
  · have : ¬ y < x := by omega
    simp [cmp3, h, this]
theorem ev_cmpI : ∀ (nn nn' : Bool) (n : Nat) (f : Nat → Int) (m : Nat) (g : Nat → Int), ev G0 res75 [] 3000 Or.nil [.ir ir75] (start [IL nn n f, IL nn' m g] []) = VC.loop ir75_L1 [.bend 0, .ir ir75_T2] (St.mk [(0, SL nn 1 n fun i x => PI (f i)), (1, SL nn' 1 m fun i x => PI (g i)), (4, AI 0), (9, SL nn 1 n fun i x => PI (f i)), (10, AI ↑n), (11, AI 0)] []) := by intros; kernel_rfl
def st_cmpI (nn nn' : Bool) (n : Nat) (f : Nat → Int) (m : Nat) (g : Nat → Int) (k : Nat) : St := ⟨[(0, IL nn n f), (1, IL nn' m g), (9, IL nn n f), (10, AI n), (11, AI k)], []⟩
theorem evr_cmpI : ∀ (nn nn' : Bool) (n : Nat) (f : Nat → Int) (m : Nat) (g : Nat → Int) (I : Nat → St → Prop) (k : Nat), ev G0 res75 [] 3000 ((Or.nil.split (Or.call [] (AI (cmp3 (f k) (g k))) [] (Or.nil.split Or.nil))).split (Or.nil.split Or.nil)) [.ir ir75_L1, .lend (I k), .bend 0, .ir ir75_T2] (st_cmpI nn nn' n f m g k) = VC.split (decide ((↑k : Int) < ↑n)) (VC.need (0 ≤ (↑k : Int) ∧ k < n) (VC.split (decide ((↑m : Int) ≤ ↑k)) (VC.doneP (AI 1)) (VC.need (0 ≤ (↑k : Int) ∧ k < m) (VC.call 77 [AI (f k), AI (g k)] [] (AI (cmp3 (f k) (g k))) [] (VC.split (cmp3 (f k) (g k) != 0) (VC.doneP (AI (cmp3 (f k) (g k)))) (VC.lend (I k) (St.mk [(0, SL nn 1 n fun i x => PI (f i)), (1, SL nn' 1 m fun i x => PI (g i)), (9, SL nn 1 n fun i x => PI (f i)), (10, AI ↑n), (11, AI (IntKind.i64.wrap ((↑k : Int) + 1))), (12, AB (decide ((↑k : Int) < ↑n))), (5, AI ↑k), (6, AI (f k)), (19, AB (decide ((↑m : Int) ≤ ↑k))), (7, AI (g k)), (8, AI (cmp3 (f k) (g k))), (28, AB (cmp3 (f k) (g k) != 0))] []))))))) (VC.split (decide ((↑n : Int) < ↑m)) (VC.doneP (AI (-1))) (VC.doneP (AI 0))) := by intros; kernel_rfl
theorem ev_less : ∀ (nn nn' : Bool) (n : Nat) (f : Nat → Int) (m : Nat) (g : Nat → Int), ev G0 res87 [] 3000 Or.nil [.ir ir87] (start [IL nn n f, IL nn' m g] []) = VC.loop ir87_L1 [.bend 0, .ir ir87_T2] (St.mk [(0, SL nn 1 n fun i x => PI (f i)), (1, SL nn' 1 m fun i x => PI (g i)), (4, AB false), (5, AI 0)] []) := by intros; kernel_rfl
def st_less (nn nn' : Bool) (n : Nat) (f : Nat → Int) (m : Nat) (g : Nat → Int) (k : Nat) : St := ⟨[(0, IL nn n f), (1, IL nn' m g), (5, AI k)], []⟩
theorem evr_less : ∀ (nn nn' : Bool) (n : Nat) (f : Nat → Int) (m : Nat) (g : Nat → Int) (I : Nat → St → Prop) (k : Nat), ev G0 res87 [] 3000 (((Or.nil.split Or.nil).split Or.nil).lit.lit.lit.lit.split Or.nil.lit.lit.lit.lit.lit) [.ir ir87_L1, .lend (I k), .bend 0, .ir ir87_T2] (st_less nn nn' n f m g k) = VC.split (decide ((↑k : Int) < ↑n)) (VC.split (decide ((↑k : Int) < ↑m)) (VC.need (0 ≤ (↑k : Int) ∧ k < n) (VC.need (0 ≤ (↑k : Int) ∧ k < m) (VC.split (f k != g k) (VC.need (0 ≤ (↑k : Int) ∧ k < n) (VC.need (0 ≤ (↑k : Int) ∧ k < m) (VC.doneP (AB (decide (f k < g k)))))) (VC.lend (I k) (St.mk [(0, SL nn 1 n fun i x => PI (f i)), (1, SL nn' 1 m fun i x => PI (g i)), (5, AI (IntKind.i64.wrap ((↑k : Int) + 1))), (15, AB (decide ((↑k : Int) < ↑m))), (26, AB (f k != g k))] []))))) (VC.doneP (AB (decide ((↑n : Int) < ↑m))))) (VC.doneP (AB (decide ((↑n : Int) < ↑m)))) := by intros; kernel_rfl
theorem c_cmpI (nn nn' : Bool) (n : Nat) (f : Nat → Int) (m : Nat) (g : Nat → Int) (hn : n ≤ 1048576) : PRet Tryz.prog G0 75 [IL nn n f, IL nn' m g] (AI (lexL (rowL n f 0) (rowL m g 0))) := by
  refine PRet.by chk75 (ev_cmpI nn nn' n f m g) ?_
  refine loop_by (st_cmpI nn nn' n f m g) (fun k => k ≤ n ∧ k ≤ m ∧ lexL (rowL n f 0) (rowL m g 0) = lexL (rowL n f k) (rowL m g k)) (fun k => n - k) 0 [] [] [] ⟨Nat.zero_le _, Nat.zero_le _, rfl⟩ ?_ (evr_cmpI nn nn' n f m g) fun k hk => ?_
  · simp [st_cmpI, leA, PV.Le_self]
  · obtain ⟨hk, hkm, he⟩ := hk
    simp only [vcA, Int.toNat_natCast]
    refine ⟨fun h1 => ⟨by omega, fun h2 => ?_, fun h2 => ⟨by omega, c_cmp3 _ _, fun h3 => ?_, fun h3 => Again.mk (k + 1) [] [] [] ⟨by omega, by omega, ?_⟩ (by omega) ?_⟩⟩, fun h1 => ⟨fun h2 => ?_, fun h2 => ?_⟩⟩
    · rw [he, rowL_step (by omega), rowL_nil (show m ≤ k by omega)]
      simp [lexL]
    · rw [he, rowL_step (n := n) (by omega), rowL_step (n := m) (by omega)]
      simp only [bne_iff_ne, ne_eq, cmp3] at h3
      simp only [lexL, cmp3]
      by_cases h4 : f k < g k
      · simp [h4]
      · by_cases h5 : g k < f k
        · simp [h4, h5]
        · simp [h4, h5] at h3
    · rw [he, rowL_step (n := n) (by omega), rowL_step (n := m) (by omega)]
      have h3' : cmp3 (f k) (g k) = 0 := by simpa using h3
      simp only [cmp3] at h3'
      by_cases h4 : f k < g k
      · simp [h4] at h3'
      · by_cases h5 : g k < f k
        · simp [h4, h5] at h3'
        · simp [lexL, h4, h5]
    · have e1 : IntKind.i64.wrap ((k : Int) + 1) = ((k + 1 : Nat) : Int) := wrap_in (by omega) (by omega)
      simp [st_cmpI, leA, PV.Le_self, e1]
    · rw [he, rowL_nil (show n ≤ k by omega), rowL_step (by omega)]
      simp [lexL]
    · rw [he, rowL_nil (show n ≤ k by omega), rowL_nil (show m ≤ k by omega)]
      simp [lexL]
theorem c_less (nn nn' : Bool) (n : Nat) (f : Nat → Int) (m : Nat) (g : Nat → Int) (hn : n ≤ 1048576) : PRet Tryz.prog G0 87 [IL nn n f, IL nn' m g] (AB (ltL (rowL n f 0) (rowL m g 0))) := by
  refine PRet.by chk87 (ev_less nn nn' n f m g) ?_
  refine loop_by (st_less nn nn' n f m g) (fun k => k ≤ n ∧ k ≤ m ∧ lexL (rowL n f 0) (rowL m g 0) = lexL (rowL n f k) (rowL m g k)) (fun k => n - k) 0 [] [] [] ⟨Nat.zero_le _, Nat.zero_le _, rfl⟩ ?_ (evr_less nn nn' n f m g) fun k hk => ?_
  · simp [st_less, leA, PV.Le_self]
  · obtain ⟨hk, hkm, he⟩ := hk
    simp only [vcA, Int.toNat_natCast]
    refine ⟨fun h1 => ⟨fun h2 => ⟨by omega, by omega, fun h3 => ⟨by omega, by omega, ?_⟩, fun h3 => Again.mk (k + 1) [] [] [] ⟨by omega, by omega, ?_⟩ (by omega) ?_⟩, fun h2 => ?_⟩, fun h1 => ?_⟩
    · have h3 : ¬ f k = g k := by simpa using h3
      simp only [ltL]
      rw [he, rowL_step (n := n) (by omega), rowL_step (n := m) (by omega)]
      by_cases h4 : f k < g k
      · simp [lexL, h4]
      · simp [lexL, h4, show g k < f k by omega]
    · have h3 : f k = g k := by simpa using h3
      rw [he, rowL_step (n := n) (by omega), rowL_step (n := m) (by omega)]
      simp [lexL, h3]
    · have e1 : IntKind.i64.wrap ((k : Int) + 1) = ((k + 1 : Nat) : Int) := wrap_in (by omega) (by omega)
      simp [st_less, leA, PV.Le_self, e1]
    · simp only [ltL]
      rw [he, rowL_step (n := n) (by omega), rowL_nil (show m ≤ k by omega)]
      simp [lexL]; omega
    · simp only [ltL]
      rw [he, rowL_nil (show n ≤ k by omega)]
      by_cases h4 : k < m
      · rw [rowL_step h4]; simp [lexL]; omega
      · rw [rowL_nil (show m ≤ k by omega)]; simp [lexL]; omega
abbrev srtA (m : Nat) (w : Nat → Nat) (h : Nat → Nat → Int) : List (List Int) := srtL ltL (tabL m w h)
theorem sort_has : ∃ fn, Tryz.prog.funcs[Tryz.laySort_ren.f 6]? = some fn ∧ fn.body.isSome = true ∧ (fn.name == "runtime.NumGoroutine") = false :=
  ⟨Tryz.f74, Tryz.func74, by kernel_rfl, by kernel_rfl⟩
theorem c_sortA (nn : Bool) (m : Nat) (w : Nat → Nat) (h : Nat → Nat → Int) (hm : m ≤ 1048576) (hw : ∀ i, i < m → w i ≤ 1048576) :
    PObj Tryz.prog G0 74 [.own 0, .cl 75 [] []] [(0, .row .u nn 1 m (RR w h) [])] (.tp []) [(0, .row .u nn 1 m (RR (wL (srtA m w h)) (hL (srtA m w h))) [])] := by
  refine sort_row (bs := []) (K := fun i => rowL (w i) (h i) 0) (cl := lexL) Tryz.laySort sort_has (fun p cap fv W => AnyF.slices_SortFunc_none { Tryz.laySort with } p cap fv W) lt_swo (el := fun i => RR w h i 0) (fun x y hx hy => ?_) (fun i hi => ⟨_, _, rfl⟩) (by omega) (fun π hs => ⟨fun i => RR (wL (srtA m w h)) (hL (srtA m w h)) i 0, fun i hi => srt_le lt_swo lt_anti hs hi, rfl, rfl⟩)
  exact c_cmpI false false _ _ _ _ (hw x hx)
end Go.Gw
