/- Networks and their accesses, of the program and of the model; with no condition. -/
import Derived.Test.YtigaelckdbeecaaGreatDoorNet
import Derived.Test.YtigaelckdbeecaaGreatDoorInts
import Derived.KernelRfl
namespace Go.Gw
open Go Go.Proofs
set_option linter.unusedSimpArgs false
set_option linter.unusedVariables false
set_option maxRecDepth 100000
def ir42_L1 : Ir := (.seq (.seq (.reg [9, 10, 11, 12] [om 9 8, om 10 2, ob .add 11 9 10, ol 12 3, ob .lss 13 11 12]) (.cond (tt 13) .skip (.exit 0))) (.seq (.block 1 (.seq (.reg [16, 17, 18, 19] [om 16 8, om 17 0, ob .and 18 16 17, om 19 1, ob .eql 20 18 19]) (.cond (tt 20) (.reg [21, 22, 23, 24, 25, 26, 27, 28] [ol 21 4, om 22 8, om 23 8, om 24 2, ob .add 25 23 24, o 26 (.build [(.int .i64 0), (.int .i64 0)] [(0, 1, (tt 22)), (1, 1, (tt 25))]), o 27 (.mkSl 2 1 [(.int .i64 0), (.int .i64 0)] [(0, (tt 26))]), o 28 (.app 2 16 true (tt 21) (tt 27)), on (.store 1 (tt 4) (tt 28))]) .skip))) (.reg [14, 15] [om 14 8, o 15 (.bin .add (tt 14) (ci 1)), om 8 15])))
def ir42 : Ir := (.seq (.reg [] [o 8 (.mov (ci 0))]) (.block 0 (.loop ir42_L1)))
def keep42 : List Nat := [0, 1, 2, 3, 4, 8, 13, 20]
def res42 : List RI := []
theorem chk42 : chk Tryz.prog 42 5 keep42 = some (ir42, res42) := by kernel_rfl
def ir12_L1 : Ir := (.seq (.seq (.reg [11, 12, 13] [om 11 3, o 12 (.bin .mul (ci 2) (tt 11)), ol 13 1, ob .lss 14 12 13]) (.cond (tt 14) .skip (.exit 0))) (.block 1 (.reg [15, 16] [om 15 3, o 16 (.bin .mul (tt 15) (ci 2)), om 3 16])))
def ir12_L2 : Ir := (.seq (.seq (.reg [28, 29] [om 28 7, om 29 6, ob .gtr 30 28 29]) (.cond (tt 30) .skip (.exit 4))) (.seq (.block 5 (.reg [33, 34, 35, 36, 37, 38, 39] [om 33 5, om 34 6, om 35 6, om 36 7, om 37 6, ob .sub 38 36 37, o 39 (.callv (tt 33) [(tt 34), (tt 35), (tt 38)])])) (.reg [31, 32] [om 31 7, o 32 (.bin .quo (tt 31) (ci 2)), om 7 32])))
def ir12_T3 : Ir := (.reg [21, 22] [om 21 6, o 22 (.bin .quo (tt 21) (ci 2)), om 6 22])
def ir12_L4 : Ir := (.seq (.seq (.reg [19] [om 19 6, o 20 (.bin .gtr (tt 19) (ci 0))]) (.cond (tt 20) .skip (.exit 2))) (.seq (.block 3 (.seq (.reg [23, 24, 25, 26] [om 23 5, om 24 6, om 25 6, o 26 (.callv (tt 23) [(tt 24), (ci 0), (tt 25)])]) (.seq (.reg [27] [om 27 3, om 7 27]) (.block 4 (.loop ir12_L2))))) ir12_T3))
def ir12_T5 : Ir := (.seq (.reg [40] [ol 40 4, om 2 40]) .ret)
def ir12_T6 : Ir := (.seq (.reg [] [o 4 (.alloc [(.slice none 0 0)])]) (.seq (.reg [17] [o 17 (.mkFn 42 [] [(tt 1), (tt 4)]), om 5 17]) (.seq (.seq (.reg [18] [om 18 3, om 6 18]) (.block 2 (.loop ir12_L4))) ir12_T5)))
def ir12 : Ir := (.seq (.reg [] [o 1 (.box 1 (tt 0)), o 2 (.mov (.const (.slice none 0 0)))]) (.seq (.seq (.reg [8, 9] [ol 8 1, o 9 (.call 18 [(tt 8), (ci 0), (ci 256)]), o 10 (.un .not (tt 9))]) (.cond (tt 10) (.seq (.reg [] [o 2 (.mov (.const (.slice none 0 0)))]) .ret) .skip)) (.seq (.reg [] [o 3 (.mov (ci 1))]) (.seq (.block 0 (.loop ir12_L1)) ir12_T6))))
def keep12 : List Nat := [0, 1, 2, 3, 4, 5, 6, 7, 10, 14, 20, 30]
def res12 : List RI := [.tmp 2]
theorem chk12 : chk Tryz.prog 12 1 keep12 = some (ir12, res12) := by kernel_rfl
abbrev LP := List (Nat × Nat)
def nb (L : LP) (i j : Nat) : Nat := if j = 0 then (L.getD i (0, 0)).1 else (L.getD i (0, 0)).2
abbrev NB (L : LP) : Nat → Nat → PV := fun i j => PI (nb L i j : Nat)
abbrev NR (nn : Bool) (L : LP) : Ob := .row .u nn 2 L.length (NB L) []
abbrev NL (nn : Bool) (L : LP) : AV := .p false (.sl nn 2 L.length (NB L))
theorem nb_app {L : LP} {x : Nat × Nat} {i j : Nat} : nb (L ++ [x]) i j = if i < L.length then nb L i j else nb [x] (i - L.length) j := by
  unfold nb
  by_cases h : i < L.length
  · simp only [h, if_true, List.getD_eq_getElem?_getD, List.getElem?_append_left h]
  · simp only [h, if_false, List.getD_eq_getElem?_getD, List.getElem?_append_right (Nat.le_of_not_lt h)]
theorem NB_app {L : LP} {x y : Nat} {g : Nat → Nat → PV} {X Y : Int} (hX : X = x) (hY : Y = y) {i j : Nat} (hi : i < L.length + 1) (hj : j < 2) : PV.Le (if i < L.length then NB L i j else setG [(0, 0, PI X), (0, 1, PI Y)] g (i - L.length) j) (NB (L ++ [(x, y)]) i j) := by
  subst hX; subst hY
  simp only [NB, nb_app]
  by_cases h : i < L.length
  · simp only [h, if_true]; exact .refl _
  · have e : i - L.length = 0 := by omega
    simp only [h, if_false, e]
    have : j = 0 ∨ j = 1 := by omega
    rcases this with rfl | rfl
    · simp [setG, cellSet, nb]; exact .refl _
    · simp [setG, cellSet, nb]; exact .refl _
theorem and_two (i e : Nat) : i &&& 2 ^ e = 2 ^ e * (i / 2 ^ e % 2) := by
  apply Nat.eq_of_testBit_eq
  intro k
  rw [Nat.testBit_and, Nat.testBit_two_pow]
  have h := Nat.testBit_eq_decide_div_mod_eq (x := i) (i := e)
  rcases Nat.mod_two_eq_zero_or_one (i / 2 ^ e) with h2 | h2
  · rw [h2] at h ⊢
    by_cases e1 : e = k
    · subst e1; simp [h]
    · simp [e1]
  · rw [h2] at h ⊢
    rw [Nat.mul_one, Nat.testBit_two_pow]
    by_cases e1 : e = k
    · subst e1; simp [h]
    · simp [e1]
theorem and_pow {i e : Nat} (hi : i < 2 ^ 62) (he : e < 62) : IntKind.i64.wrap ((BitVec.ofInt 64 (i : Int) &&& BitVec.ofInt 64 ((2 ^ e : Nat) : Int)).toNat : Int) = ((2 ^ e * (i / 2 ^ e % 2) : Nat) : Int) := by
  have hp : 2 ^ e < 2 ^ 62 := Nat.pow_lt_pow_right (by decide) he
  have e1 : (BitVec.ofInt 64 (i : Int) &&& BitVec.ofInt 64 ((2 ^ e : Nat) : Int)).toNat = 2 ^ e * (i / 2 ^ e % 2) := by
    rw [BitVec.ofInt_natCast, BitVec.ofInt_natCast, BitVec.toNat_and, BitVec.toNat_ofNat, BitVec.toNat_ofNat, Nat.mod_eq_of_lt (by omega), Nat.mod_eq_of_lt (by omega), and_two]
  rw [e1]
  have h2 : i / 2 ^ e % 2 ≤ 1 := by omega
  have h3 : 2 ^ e * (i / 2 ^ e % 2) ≤ 2 ^ e * 1 := Nat.mul_le_mul_left _ h2
  exact wrap_in (by omega) (by omega)
theorem ev_nwC : ∀ (nn : Bool) (n p s d : Nat) (L : LP), ev G0 res42 [(0, .box [AI ↑n]), (1, .box [.own 2]), (2, NR nn L)] 3000 Or.nil [.ir ir42] (start [AI ↑p, AI ↑s, AI ↑d, .adr 0 0, .adr 1 0] [(0, .box [AI ↑n]), (1, .box [.own 2]), (2, NR nn L)]) = VC.loop ir42_L1 [.bend 0] (St.mk [(0, AI ↑p), (1, AI ↑s), (2, AI ↑d), (3, .adr 100000 0), (4, .adr 100001 0), (8, AI 0)] [(100000, .box [AI ↑n]), (100001, .box [.own 100002]), (100002, .row .u nn 2 (L.length) (NB L) [])]) := by intros; kernel_rfl
def st_nwC (nn : Bool) (n p s d : Nat) (x : Nat × LP) : St := ⟨[(0, AI p), (1, AI s), (2, AI d), (3, .adr 100000 0), (4, .adr 100001 0), (8, AI x.1)], [(100000, .box [AI n]), (100001, .box [.own 77777]), (77777, NR nn x.2)]⟩
theorem evr_nwC : ∀ (nn : Bool) (n p s d : Nat) (L : LP) (I : Nat × LP → St → Prop) (x : Nat × LP), ev G0 res42 [(0, .box [AI ↑n]), (1, .box [.own 2]), (2, NR nn L)] 3000 ((Or.nil.split Or.nil).split Or.nil) [.ir ir42_L1, .lend (I x), .bend 0] (st_nwC nn n p s d x) = VC.split (decide (IntKind.i64.wrap ((↑x.1 : Int) + ↑d) < (↑n : Int))) (VC.split (IntKind.i64.wrap (↑(BitVec.ofInt IntKind.i64.bits (↑x.1 : Int) &&& BitVec.ofInt IntKind.i64.bits (↑p : Int)).toNat : Int) == ↑s) (VC.need (((x.2.length + 1) * 16 ≤ 140737488355328 ∧ (↑(x.2.length + 1) : Int) ≤ 9223372036854775807) ∧ allV 2 1 (setG [(0, 0, PV.v (Value.int IntKind.i64 (↑x.1 : Int))), (0, 1, PV.v (Value.int IntKind.i64 (IntKind.i64.wrap ((↑x.1 : Int) + ↑d))))] fun x_1 j => PV.v ([Value.int IntKind.i64 0, Value.int IntKind.i64 0].getD j undef))) (VC.lend (I x) (St.mk [(0, AI ↑p), (1, AI ↑s), (2, AI ↑d), (3, .adr 100000 0), (4, .adr 100001 0), (8, AI (IntKind.i64.wrap ((↑x.1 : Int) + 1))), (13, AB (decide (IntKind.i64.wrap ((↑x.1 : Int) + ↑d) < (↑n : Int)))), (20, AB (IntKind.i64.wrap (↑(BitVec.ofInt IntKind.i64.bits (↑x.1 : Int) &&& BitVec.ofInt IntKind.i64.bits (↑p : Int)).toNat : Int) == ↑s))] [(100000, .box [AI ↑n]), (100001, .box [.own 28]), (28, .row .u nn 2 (x.2.length + 1) (fun a b => if a < x.2.length then NB x.2 a b else setG [(0, 0, PV.v (Value.int IntKind.i64 (↑x.1 : Int))), (0, 1, PV.v (Value.int IntKind.i64 (IntKind.i64.wrap ((↑x.1 : Int) + ↑d))))] (fun x_1 j => PV.v ([Value.int IntKind.i64 0, Value.int IntKind.i64 0].getD j undef)) (a - x.2.length) b) [])]))) (VC.lend (I x) (St.mk [(0, AI ↑p), (1, AI ↑s), (2, AI ↑d), (3, .adr 100000 0), (4, .adr 100001 0), (8, AI (IntKind.i64.wrap ((↑x.1 : Int) + 1))), (13, AB (decide (IntKind.i64.wrap ((↑x.1 : Int) + ↑d) < (↑n : Int)))), (20, AB (IntKind.i64.wrap (↑(BitVec.ofInt IntKind.i64.bits (↑x.1 : Int) &&& BitVec.ofInt IntKind.i64.bits (↑p : Int)).toNat : Int) == ↑s))] [(100000, .box [AI ↑n]), (100001, .box [.own 77777]), (77777, .row .u nn 2 (x.2.length) (NB x.2) [])]))) (VC.done (St.mk [(0, AI ↑p), (1, AI ↑s), (2, AI ↑d), (3, .adr 100000 0), (4, .adr 100001 0), (8, AI ↑x.1), (13, AB (decide (IntKind.i64.wrap ((↑x.1 : Int) + ↑d) < (↑n : Int))))] [(100000, .box [AI ↑n]), (100001, .box [.own 77777]), (77777, .row .u nn 2 (x.2.length) (NB x.2) [])])) := by intros; kernel_rfl
theorem c_nwC (nn : Bool) (n e s d : Nat) (L : LP) (hn : n ≤ 256) (he : e ≤ 8) (hs : s < 2) (hd : d ≤ 256) (hL : L.length + (cF n (2 ^ e) d s 0).length ≤ 16777216) :
    PObj Tryz.prog G0 42 [AI (2 ^ e : Nat), AI (2 ^ e * s : Nat), AI d, .adr 0 0, .adr 1 0] [(0, .box [AI n]), (1, .box [.own 2]), (2, NR nn L)] (.tp []) [(0, .box [AI n]), (1, .box [.own 3]), (3, NR nn (L ++ cF n (2 ^ e) d s 0))] := by
  refine PObj.by chk42 rfl (ev_nwC nn n (2 ^ e) (2 ^ e * s) d L) ?_
  have hpos := Nat.two_pow_pos e
  refine loop_by (st_nwC nn n (2 ^ e) (2 ^ e * s) d) (fun x => x.1 ≤ n ∧ x.2 ++ cF n (2 ^ e) d s x.1 = L ++ cF n (2 ^ e) d s 0) (fun x => n - x.1) (0, L) [] [(77777, 100002)] [] ⟨Nat.zero_le _, rfl⟩ ?_ (evr_nwC nn n (2 ^ e) (2 ^ e * s) d L) fun x hx => ?_
  · simp [st_nwC, leA, PV.Le_self]
  · obtain ⟨i, L'⟩ := x
    obtain ⟨hi, hinv⟩ := hx
    simp only [] at hi hinv
    have hlen := congrArg List.length hinv
    rw [List.length_append, List.length_append] at hlen
    have e1 : IntKind.i64.wrap ((i : Int) + d) = ((i + d : Nat) : Int) := wrap_in (by omega) (by omega)
    have e2 : IntKind.i64.wrap ((i : Int) + 1) = ((i + 1 : Nat) : Int) := wrap_in (by omega) (by omega)
    have e3 : IntKind.i64.wrap ((BitVec.ofInt IntKind.i64.bits (i : Int) &&& BitVec.ofInt IntKind.i64.bits ((2 ^ e : Nat) : Int)).toNat : Int) = ((2 ^ e * (i / 2 ^ e % 2) : Nat) : Int) := and_pow (by omega) (by omega)
    simp only [vcA, Int.toNat_natCast, e1, e2, e3]
    have hcond : (((2 ^ e * (i / 2 ^ e % 2) : Nat) : Int) == ((2 ^ e * s : Nat) : Int)) = decide (i / 2 ^ e % 2 = s) := by
      rw [Bool.eq_iff_iff]
      simp only [beq_iff_eq, decide_eq_true_eq]
      constructor
      · intro h
        exact Nat.eq_of_mul_eq_mul_left hpos (by omega)
      · intro h; rw [h]
    refine ⟨fun h1 => ⟨fun h2 => ?_, fun h2 => Again.mk (i + 1, L') [] [] [] ⟨by simp only []; omega, ?_⟩ (by simp only []; omega) ?_⟩, fun h1 => ?_⟩
    · rw [hcond] at h2
      have h3 : i / 2 ^ e % 2 = s := by simpa using h2
      have h4 : i + d < n := by omega
      rw [cF_in h4 h3] at hinv hlen
      rw [List.length_cons] at hlen
      refine ⟨⟨⟨by omega, by omega⟩, ?_⟩, Again.mk (i + 1, L' ++ [(i, i + d)]) [] [(77777, 28)] [] ⟨by simp only []; omega, ?_⟩ (by simp only []; omega) ?_⟩
      · intro a b ha hb
        obtain rfl : a = 0 := by omega
        have : b = 0 ∨ b = 1 := by omega
        rcases this with rfl | rfl <;> rfl
      · simp only [List.append_assoc, List.singleton_append]; exact hinv
      · simp [st_nwC, leA, PV.Le_self]
        intro a b ha hb
        exact NB_app rfl (by omega) ha hb
    · rw [hcond] at h2
      have h3 : ¬ i / 2 ^ e % 2 = s := by simpa using h2
      rw [cF_out h3] at hinv
      exact hinv
    · simp [st_nwC, leA, PV.Le_self]
    · have h3 : ¬ i + d < n := by omega
      rw [cF_end h3, List.append_nil] at hinv
      subst hinv
      refine ResOk.mk [] [(0, 100000), (1, 100001), (3, 77777)] [] _ _ ?_ ⟨rfl, rfl⟩
      simp [doneC, resOf, resAV, tup, pinR, PV.Le_self, leA, res42]
theorem c_nwC0 (nn : Bool) (n p : Nat) (L : LP) (h : n ≤ 256 ∧ (∃ e, p = 2 ^ e ∧ e ≤ 8) ∧ L.length + (cF n p p 0 0).length ≤ 16777216) :
    PObj Tryz.prog G0 42 [AI p, AI 0, AI p, .adr 0 0, .adr 1 0] [(0, .box [AI n]), (1, .box [.own 2]), (2, NR nn L)] (.tp []) [(0, .box [AI n]), (1, .box [.own 3]), (3, NR nn (L ++ cF n p p 0 0))] := by
  obtain ⟨hn, ⟨e, rfl, he⟩, hL⟩ := h
  exact c_nwC nn n e 0 (2 ^ e) L hn he (by decide) (Nat.le_trans (Nat.pow_le_pow_right (by decide) he) (by decide)) hL
theorem c_nwC1 (nn : Bool) (n p : Nat) (d : Int) (L : LP) (h : n ≤ 256 ∧ (∃ e, p = 2 ^ e ∧ e ≤ 8) ∧ 0 ≤ d ∧ d ≤ 256 ∧ L.length + (cF n p d.toNat 1 0).length ≤ 16777216) :
    PObj Tryz.prog G0 42 [AI p, AI p, AI d, .adr 0 0, .adr 1 0] [(0, .box [AI n]), (1, .box [.own 2]), (2, NR nn L)] (.tp []) [(0, .box [AI n]), (1, .box [.own 3]), (3, NR nn (L ++ cF n p d.toNat 1 0))] := by
  obtain ⟨hn, ⟨e, rfl, he⟩, h0, h1, hL⟩ := h
  have := c_nwC nn n e 1 d.toNat L hn he (by decide) (by omega) hL
  rwa [Nat.mul_one, Int.toNat_of_nonneg h0] at this
theorem ev_niN : ∀ (n : Nat), ev G0 res12 [] 3000 (Or.call [] (AB (inB (↑n : Int) 0 256)) [] (Or.nil.split Or.nil)) [.ir ir12] (start [AI ↑n] []) = VC.call 18 [AI ↑n, AI 0, AI 256] [] (AB (inB (↑n : Int) 0 256)) [] (VC.split (!inB (↑n : Int) 0 256) (VC.done (St.mk [(0, AI ↑n), (1, .adr 1 0), (2, AV.p true (PV.v (Value.slice none 0 0))), (10, AB !inB (↑n : Int) 0 256)] [(1, .box [AI ↑n])])) (VC.loop ir12_L1 [.bend 0, .ir ir12_T6] (St.mk [(0, AI ↑n), (1, .adr 1 0), (2, AV.p true (PV.v (Value.slice none 0 0))), (10, AB !inB (↑n : Int) 0 256), (3, AI 1)] [(1, .box [AI ↑n])]))) := by intros; kernel_rfl
def st_niN (n t : Nat) : St := ⟨[(1, .adr 1 0), (3, AI t)], [(1, .box [AI n])]⟩
theorem evr_niN : ∀ (n : Nat) (I : Nat → St → Prop) (t : Nat), ev G0 res12 [] 3000 (Or.nil.split Or.nil) [.ir ir12_L1, .lend (I t), .bend 0, .ir ir12_T6] (st_niN n t) = VC.split (decide (IntKind.i64.wrap (2 * (↑t : Int)) < (↑n : Int))) (VC.lend (I t) (St.mk [(1, .adr 1 0), (3, AI (IntKind.i64.wrap ((↑t : Int) * 2))), (14, AB (decide (IntKind.i64.wrap (2 * (↑t : Int)) < (↑n : Int))))] [(1, .box [AI ↑n])])) (VC.loop ir12_L4 [.bend 2, .ir ir12_T5] (St.mk [(1, .adr 1 0), (3, AI ↑t), (14, AB (decide (IntKind.i64.wrap (2 * (↑t : Int)) < (↑n : Int)))), (4, .adr 4 0), (5, AV.cl 42 [] [.adr 1 0, .adr 4 0]), (6, AI ↑t)] [(1, .box [AI ↑n]), (4, .box [AV.p true (PV.v (Value.slice none 0 0))])])) := by intros; kernel_rfl
abbrev nwFn : AV := .cl 42 [] [.adr 1 0, .adr 4 0]
def st_niN2 (n t : Nat) (x : Nat × LP) : St := ⟨[(1, .adr 1 0), (3, AI t), (4, .adr 4 0), (5, nwFn), (6, AI x.1)], [(1, .box [AI n]), (4, .box [.own 77777]), (77777, NR false x.2)]⟩
theorem evr_niN2 : ∀ (n t : Nat) (I : Nat × LP → St → Prop) (x : Nat × LP), ev G0 res12 [] 3000 ((Or.call [1, 4, 77777] (AV.tp []) [(0, .box [AI ↑n]), (1, .box [.own 3]), (3, NR false (x.2 ++ cF n x.1 x.1 0 0))] Or.nil).split Or.nil) [.ir ir12_L4, .lend (I x), .bend 2, .ir ir12_T5] (st_niN2 n t x) = VC.split (decide (0 < (↑x.1 : Int))) (VC.call 42 [AI ↑x.1, AI 0, AI ↑x.1, .adr 0 0, .adr 1 0] [(0, .box [AI ↑n]), (1, .box [.own 2]), (2, .row .u false 2 (x.2.length) (NB x.2) [])] (AV.tp []) [(0, .box [AI ↑n]), (1, .box [.own 3]), (3, NR false (x.2 ++ cF n x.1 x.1 0 0))] (VC.loop ir12_L2 [.bend 4, .bend 3, .ir ir12_T3, .lend (I x), .bend 2, .ir ir12_T5] (St.mk [(1, .adr 1 0), (3, AI ↑t), (4, .adr 4 0), (5, AV.cl 42 [] [.adr 1 0, .adr 4 0]), (6, AI ↑x.1), (20, AB (decide (0 < (↑x.1 : Int)))), (7, AI ↑t)] [(1, .box [AI ↑n]), (4, .box [.own 1026]), (1026, .row .u false 2 (List.length (x.2 ++ cF n x.1 x.1 0 0)) (NB (x.2 ++ cF n x.1 x.1 0 0)) [])]))) (VC.done (St.mk [(1, .adr 1 0), (3, AI ↑t), (4, .adr 4 0), (5, AV.cl 42 [] [.adr 1 0, .adr 4 0]), (6, AI ↑x.1), (20, AB (decide (0 < (↑x.1 : Int)))), (2, .own 77777)] [(1, .box [AI ↑n]), (4, .box [.own 77777]), (77777, .row .u false 2 (x.2.length) (NB x.2) [])])) := by intros; kernel_rfl
def st_niN3 (n t p : Nat) (x : Nat × LP) : St := ⟨[(1, .adr 1 0), (3, AI t), (4, .adr 4 0), (5, nwFn), (6, AI p), (7, AI x.1)], [(1, .box [AI n]), (4, .box [.own 77777]), (77777, NR false x.2)]⟩
theorem evr_niN3 : ∀ (n t p : Nat) (I J : Nat × LP → St → Prop) (y x : Nat × LP), ev G0 res12 [] 3000 ((Or.call [1, 4, 77777] (AV.tp []) [(0, .box [AI ↑n]), (1, .box [.own 3]), (3, NR false (x.2 ++ cF n p (IntKind.i64.wrap ((↑x.1 : Int) - ↑p)).toNat 1 0))] Or.nil).split Or.nil) [.ir ir12_L2, .lend (J x), .bend 4, .bend 3, .ir ir12_T3, .lend (I y), .bend 2, .ir ir12_T5] (st_niN3 n t p x) = VC.split (decide ((↑p : Int) < ↑x.1)) (VC.call 42 [AI ↑p, AI ↑p, AI (IntKind.i64.wrap ((↑x.1 : Int) - ↑p)), .adr 0 0, .adr 1 0] [(0, .box [AI ↑n]), (1, .box [.own 2]), (2, .row .u false 2 (x.2.length) (NB x.2) [])] (AV.tp []) [(0, .box [AI ↑n]), (1, .box [.own 3]), (3, NR false (x.2 ++ cF n p (IntKind.i64.wrap ((↑x.1 : Int) - ↑p)).toNat 1 0))] (VC.need ((2 : Int) ≠ 0) (VC.lend (J x) (St.mk [(1, .adr 1 0), (3, AI ↑t), (4, .adr 4 0), (5, AV.cl 42 [] [.adr 1 0, .adr 4 0]), (6, AI ↑p), (7, AI (IntKind.i64.wrap ((↑x.1 : Int).tdiv 2))), (30, AB (decide ((↑p : Int) < ↑x.1)))] [(1, .box [AI ↑n]), (4, .box [.own 1039]), (1039, .row .u false 2 (List.length (x.2 ++ cF n p (IntKind.i64.wrap ((↑x.1 : Int) - ↑p)).toNat 1 0)) (NB (x.2 ++ cF n p (IntKind.i64.wrap ((↑x.1 : Int) - ↑p)).toNat 1 0)) [])])))) (VC.need ((2 : Int) ≠ 0) (VC.lend (I y) (St.mk [(1, .adr 1 0), (3, AI ↑t), (4, .adr 4 0), (5, AV.cl 42 [] [.adr 1 0, .adr 4 0]), (6, AI (IntKind.i64.wrap ((↑p : Int).tdiv 2))), (7, AI ↑x.1), (30, AB (decide ((↑p : Int) < ↑x.1)))] [(1, .box [AI ↑n]), (4, .box [.own 77777]), (77777, .row .u false 2 (x.2.length) (NB x.2) [])]))) := by intros; kernel_rfl
theorem half_pow {p t : Nat} (h : ∃ e, p = 2 ^ e ∧ e ≤ 8) : p / 2 = 0 ∨ ∃ e, p / 2 = 2 ^ e ∧ e ≤ 8 := by
  obtain ⟨e, rfl, he⟩ := h
  cases e with
  | zero => exact .inl (by decide)
  | succ e => exact .inr ⟨e, by rw [Nat.pow_succ]; omega, by omega⟩
theorem top_pow {n : Nat} (hn : n ≤ 256) : ∃ e, topN n 1 = 2 ^ e ∧ e ≤ 8 := by
  obtain ⟨j, h1, _⟩ := topN_pow n 0
  rw [Nat.pow_zero] at h1
  refine ⟨j, h1, ?_⟩
  have h2 := topN_lt n 1 (by omega) (.inr rfl)
  rcases Nat.lt_or_ge 8 j with h3 | h3
  · have : 2 ^ 9 ≤ 2 ^ j := Nat.pow_le_pow_right (by decide) h3
    omega
  · exact h3
theorem wrap_half (p : Nat) (hp : p ≤ 1048576) : IntKind.i64.wrap ((p : Int).tdiv 2) = ((p / 2 : Nat) : Int) := by
  rw [Int.tdiv_eq_ediv_of_nonneg (by omega)]
  exact (wrap_in (by omega) (by omega)).trans (by omega)
theorem c_niN (n : Nat) (hn : n ≤ 256) : PObj Tryz.prog G0 12 [AI n] [] (.own 0) [(0, NR false (netL n))] := by
  refine PObj.by chk12 rfl (ev_niN n) ?_
  simp only [vcA]
  refine ⟨c_in _ _ _, fun h1 => ?_, fun h1 => ?_⟩
  · have : inB (n : Int) 0 256 = true := by simp [inB]; omega
    simp [this] at h1
  · have hT := netL_len hn
    have htl := topN_lt n 1 (by omega) (.inr rfl)
    refine loop_by (st_niN n) (fun t => 0 < t ∧ (t < n ∨ t = 1) ∧ topN n t = topN n 1) (fun t => n - t) 1 [] [] [] ⟨by omega, .inr rfl, rfl⟩ ?_ (evr_niN n) fun t ht => ?_
    · simp [st_niN, leA, PV.Le_self]
    · obtain ⟨ht0, htn, hte⟩ := ht
      have e1 : IntKind.i64.wrap (2 * (t : Int)) = ((2 * t : Nat) : Int) := (wrap_in (by omega) (by omega)).trans (by omega)
      have e2 : IntKind.i64.wrap ((t : Int) * 2) = ((2 * t : Nat) : Int) := (wrap_in (by omega) (by omega)).trans (by omega)
      simp only [vcA, e1, e2]
      refine ⟨fun h2 => Again.mk (2 * t) [] [] [] ⟨by omega, .inl (by omega), ?_⟩ (by omega) ?_, fun h2 => ?_⟩
      · rw [← topN_in (by omega) ht0]; exact hte
      · simp [st_niN, leA, PV.Le_self]
      · rw [topN_end (by omega)] at hte
        subst hte
        generalize htop : topN n 1 = t at *
        have hpw := top_pow hn
        rw [htop] at hpw
        refine loop_by (st_niN2 n t) (fun x => x.2 ++ pL n t x.1 = netL n ∧ (x.1 = 0 ∨ ∃ e, x.1 = 2 ^ e ∧ e ≤ 8) ∧ x.1 ≤ t) (fun x => x.1) (t, []) [] [] [77777] ⟨by simp [netL, htop], .inr hpw, Nat.le_refl _⟩ ?_ (evr_niN2 n t) fun x hx => ?_
        · simp [st_niN2, leA, PV.Le_self, AV.leCs]
        · obtain ⟨p, L⟩ := x
          obtain ⟨hinv, hp, hpt⟩ := hx
          simp only [] at hinv hp hpt
          have hlen := congrArg List.length hinv
          rw [List.length_append] at hlen
          simp only [vcA]
          refine ⟨fun h3 => ⟨?_, ?_⟩, fun h3 => ?_⟩
          · have hp' := hp.resolve_left (by omega)
            rw [pL_in (by omega), List.length_append] at hlen
            exact c_nwC0 _ _ _ _ ⟨hn, hp', by omega⟩
          · have hp' := hp.resolve_left (by omega)
            rw [pL_in (show 0 < p by omega)] at hinv
            refine loop_by (st_niN3 n t p) (fun y => y.2 ++ (qL n p y.1 ++ pL n t (p / 2)) = netL n ∧ y.1 ≤ t) (fun y => y.1) (t, L ++ cF n p p 0 0) [] [(77777, 1026)] [] ⟨by simp only [List.append_assoc]; exact hinv, Nat.le_refl _⟩ ?_ (fun J y => evr_niN3 n t p _ J _ y) fun y hy => ?_
            · simp [st_niN3, leA, PV.Le_self, AV.leCs]
            · obtain ⟨q, L'⟩ := y
              obtain ⟨hinv', hqt⟩ := hy
              simp only [] at hinv' hqt
              have hlen' := congrArg List.length hinv'
              rw [List.length_append] at hlen'
              have e3 := wrap_half q (by omega)
              have e4 := wrap_half p (by omega)
              simp only [vcA, e3, e4]
              refine ⟨fun h4 => ?_, fun h4 => ⟨by decide, Again.mk (p / 2, L') [] [] [] ⟨?_, half_pow (t := t) hp', by simp only []; omega⟩ (by simp only []; omega) ?_⟩⟩
              · have e5 : IntKind.i64.wrap ((q : Int) - p) = ((q - p : Nat) : Int) := (wrap_in (by omega) (by omega)).trans (by omega)
                rw [qL_in (show p < q by omega), List.append_assoc] at hinv'
                rw [qL_in (show p < q by omega), List.append_assoc, List.length_append] at hlen'
                simp only [e5, Int.toNat_natCast]
                refine ⟨?_, by decide, Again.mk (q / 2, L' ++ cF n p (q - p) 1 0) [] [(77777, 1039)] [] ⟨by simp only [List.append_assoc]; exact hinv', by simp only []; omega⟩ (by simp only []; omega) ?_⟩
                · have := c_nwC1 false n p ((q - p : Nat) : Int) L' ⟨hn, hp', by omega, by omega, by rw [Int.toNat_natCast]; omega⟩
                  rwa [Int.toNat_natCast] at this
                · simp [st_niN3, leA, PV.Le_self, AV.leCs]
              · rw [qL_end (by omega), List.nil_append] at hinv'
                exact hinv'
              · simp [st_niN2, leA, PV.Le_self, AV.leCs]
          · obtain rfl : p = 0 := by omega
            rw [pL_end, List.append_nil] at hinv
            subst hinv
            refine ResOk.mk [] [(0, 77777)] [] _ _ ?_ ⟨rfl, rfl⟩
            simp [doneC, resOf, resAV, tup, pinR, PV.Le_self, leA, res12]
end Go.Gw
namespace Go.Gw
open Go Go.Proofs
set_option linter.unusedSimpArgs false
set_option linter.unusedVariables false
set_option maxRecDepth 100000
def ir67_L1 : Ir := (.seq (.seq (.reg [14, 15, 16] [om 14 4, o 15 (.bin .mul (ci 2) (tt 14)), om 16 0, ob .lss 17 15 16]) (.cond (tt 17) .skip (.exit 0))) (.block 1 (.reg [18, 19] [om 18 4, o 19 (.bin .mul (ci 2) (tt 18)), om 4 19])))
def ir67_L2 : Ir := (.seq (.seq (.reg [25, 26, 27, 28] [om 25 6, om 26 5, ob .add 27 25 26, om 28 0, ob .lss 29 27 28]) (.cond (tt 29) .skip (.exit 4))) (.seq (.block 5 (.seq (.reg [32, 33, 34, 35] [om 32 6, om 33 5, ob .quo 34 32 33, o 35 (.bin .rem (tt 34) (ci 2)), o 36 (.bin .eql (tt 35) (ci 0))]) (.cond (tt 36) (.reg [37, 38, 39, 40, 41, 42, 43, 44] [om 37 3, om 38 6, om 39 6, om 40 5, ob .add 41 39 40, o 42 (.build [(.int .i64 0), (.int .i64 0)] [(0, 1, (tt 38)), (1, 1, (tt 41))]), o 43 (.mkSl 2 1 [(.int .i64 0), (.int .i64 0)] [(0, (tt 42))]), o 44 (.app 2 16 true (tt 37) (tt 43)), om 3 44]) .skip))) (.reg [30, 31] [om 30 6, o 31 (.bin .add (tt 30) (ci 1)), om 6 31])))
def ir67_L3 : Ir := (.seq (.seq (.reg [51, 52, 53, 54, 55, 56] [om 51 8, om 52 7, ob .add 53 51 52, om 54 5, ob .sub 55 53 54, om 56 0, ob .lss 57 55 56]) (.cond (tt 57) .skip (.exit 8))) (.seq (.block 9 (.seq (.reg [60, 61, 62, 63] [om 60 8, om 61 5, ob .quo 62 60 61, o 63 (.bin .rem (tt 62) (ci 2)), o 64 (.bin .eql (tt 63) (ci 1))]) (.cond (tt 64) (.reg [65, 66, 67, 68, 69, 70, 71, 72, 73, 74] [om 65 3, om 66 8, om 67 8, om 68 7, ob .add 69 67 68, om 70 5, ob .sub 71 69 70, o 72 (.build [(.int .i64 0), (.int .i64 0)] [(0, 1, (tt 66)), (1, 1, (tt 71))]), o 73 (.mkSl 2 1 [(.int .i64 0), (.int .i64 0)] [(0, (tt 72))]), o 74 (.app 2 16 true (tt 65) (tt 73)), om 3 74]) .skip))) (.reg [58, 59] [om 58 8, o 59 (.bin .add (tt 58) (ci 1)), om 8 59])))
def ir67_T4 : Ir := (.reg [49, 50] [om 49 7, o 50 (.bin .quo (tt 49) (ci 2)), om 7 50])
def ir67_L5 : Ir := (.seq (.seq (.reg [46, 47] [om 46 7, om 47 5, ob .gtr 48 46 47]) (.cond (tt 48) .skip (.exit 6))) (.seq (.block 7 (.seq (.reg [] [o 8 (.mov (ci 0))]) (.block 8 (.loop ir67_L3)))) ir67_T4))
def ir67_T6 : Ir := (.seq (.reg [45] [om 45 4, om 7 45]) (.block 6 (.loop ir67_L5)))
def ir67_T7 : Ir := (.reg [23, 24] [om 23 5, o 24 (.bin .quo (tt 23) (ci 2)), om 5 24])
def ir67_L8 : Ir := (.seq (.seq (.reg [21] [om 21 5, o 22 (.bin .gtr (tt 21) (ci 0))]) (.cond (tt 22) .skip (.exit 2))) (.seq (.block 3 (.seq (.seq (.reg [] [o 6 (.mov (ci 0))]) (.block 4 (.loop ir67_L2))) ir67_T6)) ir67_T7))
def ir67_T9 : Ir := (.seq (.reg [75] [om 75 3, om 2 75]) .ret)
def ir67_T10 : Ir := (.seq (.seq (.reg [20] [om 20 4, om 5 20]) (.block 2 (.loop ir67_L8))) ir67_T9)
def ir67 : Ir := (.seq (.reg [] [o 2 (.mov (.const (.slice none 0 0)))]) (.seq (.reg [9] [o 9 (.mkSl 2 0 [(.int .i64 0), (.int .i64 0)] []), om 3 9]) (.seq (.seq (.reg [10, 11] [om 10 0, o 11 (.call 61 [(tt 10), (ci 2), (ci 256)]), o 12 (.un .not (tt 11))]) (.cond (tt 12) (.seq (.reg [13] [om 13 3, om 2 13]) .ret) .skip)) (.seq (.reg [] [o 4 (.mov (ci 1))]) (.seq (.block 0 (.loop ir67_L1)) ir67_T10)))))
def keep67 : List Nat := [0, 2, 3, 4, 5, 6, 7, 8, 12, 17, 22, 29, 36, 48, 57, 64]
def res67 : List RI := [.tmp 2]
theorem chk67 : chk Tryz.prog 67 1 keep67 = some (ir67, res67) := by kernel_rfl
theorem ev_nsN : ∀ (n : Nat), ev G0 res67 [] 3000 (Or.call [] (AB (inB (↑n : Int) 2 256)) [] (Or.nil.split Or.nil)) [.ir ir67] (start [AI ↑n] []) = VC.call 61 [AI ↑n, AI 2, AI 256] [] (AB (inB (↑n : Int) 2 256)) [] (VC.split (!inB (↑n : Int) 2 256) (VC.done (St.mk [(0, AI ↑n), (2, .own 9), (3, .own 9), (12, AB !inB (↑n : Int) 2 256)] [(9, .row .u true 2 0 (setG [] fun x j => PV.v ([Value.int IntKind.i64 0, Value.int IntKind.i64 0].getD j undef)) [])])) (VC.loop ir67_L1 [.bend 0, .ir ir67_T10] (St.mk [(0, AI ↑n), (2, AV.p true (PV.v (Value.slice none 0 0))), (3, .own 9), (12, AB !inB (↑n : Int) 2 256), (4, AI 1)] [(9, .row .u true 2 0 (setG [] fun x j => PV.v ([Value.int IntKind.i64 0, Value.int IntKind.i64 0].getD j undef)) [])]))) := by intros; kernel_rfl
def st_nsNa (n t : Nat) : St := ⟨[(0, AI n), (3, .own 77777), (4, AI t)], [(77777, NR false [])]⟩
theorem evr_nsNa : ∀ (n : Nat) (I : Nat → St → Prop) (t : Nat), ev G0 res67 [] 3000 (Or.nil.split Or.nil) [.ir ir67_L1, .lend (I t), .bend 0, .ir ir67_T10] (st_nsNa n t) = VC.split (decide (IntKind.i64.wrap (2 * (↑t : Int)) < (↑n : Int))) (VC.lend (I t) (St.mk [(0, AI ↑n), (3, .own 77777), (4, AI (IntKind.i64.wrap (2 * (↑t : Int)))), (17, AB (decide (IntKind.i64.wrap (2 * (↑t : Int)) < (↑n : Int))))] [(77777, .row .u false 2 0 (NB []) [])])) (VC.loop ir67_L8 [.bend 2, .ir ir67_T9] (St.mk [(0, AI ↑n), (3, .own 77777), (4, AI ↑t), (17, AB (decide (IntKind.i64.wrap (2 * (↑t : Int)) < (↑n : Int)))), (5, AI ↑t)] [(77777, .row .u false 2 0 (NB []) [])])) := by intros; kernel_rfl
def st_nsNb (n t : Nat) (x : Nat × LP) : St := ⟨[(0, AI n), (3, .own 77777), (4, AI t), (5, AI x.1)], [(77777, NR false x.2)]⟩
theorem evr_nsNb : ∀ (n t : Nat) (I : Nat × LP → St → Prop) (x : Nat × LP), ev G0 res67 [] 3000 (Or.nil.split Or.nil) [.ir ir67_L8, .lend (I x), .bend 2, .ir ir67_T9] (st_nsNb n t x) = VC.split (decide (0 < (↑x.1 : Int))) (VC.loop ir67_L2 [.bend 4, .ir ir67_T6, .bend 3, .ir ir67_T7, .lend (I x), .bend 2, .ir ir67_T9] (St.mk [(0, AI ↑n), (3, .own 77777), (4, AI ↑t), (5, AI ↑x.1), (22, AB (decide (0 < (↑x.1 : Int)))), (6, AI 0)] [(77777, .row .u false 2 (x.2.length) (NB x.2) [])])) (VC.done (St.mk [(0, AI ↑n), (3, .own 77777), (4, AI ↑t), (5, AI ↑x.1), (22, AB (decide (0 < (↑x.1 : Int)))), (2, .own 77777)] [(77777, .row .u false 2 (x.2.length) (NB x.2) [])])) := by intros; kernel_rfl
def st_nsNc (n t p : Nat) (x : Nat × LP) : St := ⟨[(0, AI n), (3, .own 77777), (4, AI t), (5, AI p), (6, AI x.1)], [(77777, NR false x.2)]⟩
theorem evr_nsNc : ∀ (n t p : Nat) (I J : Nat × LP → St → Prop) (y x : Nat × LP), ev G0 res67 [] 3000 ((Or.nil.split Or.nil).split Or.nil) [.ir ir67_L2, .lend (J x), .bend 4, .ir ir67_T6, .bend 3, .ir ir67_T7, .lend (I y), .bend 2, .ir ir67_T9] (st_nsNc n t p x) = VC.split (decide (IntKind.i64.wrap ((↑x.1 : Int) + ↑p) < (↑n : Int))) (VC.need ((↑p : Int) ≠ 0) (VC.need ((2 : Int) ≠ 0) (VC.split ((IntKind.i64.wrap ((↑x.1 : Int).tdiv (↑p : Int))).tmod (2 : Int) == 0) (VC.need (((x.2.length + 1) * 16 ≤ 140737488355328 ∧ (↑(x.2.length + 1) : Int) ≤ 9223372036854775807) ∧ allV 2 1 (setG [(0, 0, PV.v (Value.int IntKind.i64 (↑x.1 : Int))), (0, 1, PV.v (Value.int IntKind.i64 (IntKind.i64.wrap ((↑x.1 : Int) + ↑p))))] fun x_1 j => PV.v ([Value.int IntKind.i64 0, Value.int IntKind.i64 0].getD j undef))) (VC.lend (J x) (St.mk [(0, AI ↑n), (3, .own 44), (4, AI ↑t), (5, AI ↑p), (6, AI (IntKind.i64.wrap ((↑x.1 : Int) + 1))), (29, AB (decide (IntKind.i64.wrap ((↑x.1 : Int) + ↑p) < (↑n : Int)))), (36, AB ((IntKind.i64.wrap ((↑x.1 : Int).tdiv (↑p : Int))).tmod (2 : Int) == 0))] [(44, .row .u false 2 (x.2.length + 1) (fun a b => if a < x.2.length then NB x.2 a b else setG [(0, 0, PV.v (Value.int IntKind.i64 (↑x.1 : Int))), (0, 1, PV.v (Value.int IntKind.i64 (IntKind.i64.wrap ((↑x.1 : Int) + ↑p))))] (fun x_1 j => PV.v ([Value.int IntKind.i64 0, Value.int IntKind.i64 0].getD j undef)) (a - x.2.length) b) [])]))) (VC.lend (J x) (St.mk [(0, AI ↑n), (3, .own 77777), (4, AI ↑t), (5, AI ↑p), (6, AI (IntKind.i64.wrap ((↑x.1 : Int) + 1))), (29, AB (decide (IntKind.i64.wrap ((↑x.1 : Int) + ↑p) < (↑n : Int)))), (36, AB ((IntKind.i64.wrap ((↑x.1 : Int).tdiv (↑p : Int))).tmod (2 : Int) == 0))] [(77777, .row .u false 2 (x.2.length) (NB x.2) [])]))))) (VC.loop ir67_L5 [.bend 6, .bend 3, .ir ir67_T7, .lend (I y), .bend 2, .ir ir67_T9] (St.mk [(0, AI ↑n), (3, .own 77777), (4, AI ↑t), (5, AI ↑p), (6, AI ↑x.1), (29, AB (decide (IntKind.i64.wrap ((↑x.1 : Int) + ↑p) < (↑n : Int)))), (7, AI ↑t)] [(77777, .row .u false 2 (x.2.length) (NB x.2) [])])) := by intros; kernel_rfl
def st_nsNd (n t p : Nat) (x : Nat × LP) : St := ⟨[(0, AI n), (3, .own 77777), (4, AI t), (5, AI p), (7, AI x.1)], [(77777, NR false x.2)]⟩
theorem evr_nsNd : ∀ (n t p : Nat) (I J : Nat × LP → St → Prop) (y x : Nat × LP), ev G0 res67 [] 3000 (Or.nil.split Or.nil) [.ir ir67_L5, .lend (J x), .bend 6, .bend 3, .ir ir67_T7, .lend (I y), .bend 2, .ir ir67_T9] (st_nsNd n t p x) = VC.split (decide ((↑p : Int) < ↑x.1)) (VC.loop ir67_L3 [.bend 8, .bend 7, .ir ir67_T4, .lend (J x), .bend 6, .bend 3, .ir ir67_T7, .lend (I y), .bend 2, .ir ir67_T9] (St.mk [(0, AI ↑n), (3, .own 77777), (4, AI ↑t), (5, AI ↑p), (7, AI ↑x.1), (48, AB (decide ((↑p : Int) < ↑x.1))), (8, AI 0)] [(77777, .row .u false 2 (x.2.length) (NB x.2) [])])) (VC.need ((2 : Int) ≠ 0) (VC.lend (I y) (St.mk [(0, AI ↑n), (3, .own 77777), (4, AI ↑t), (5, AI (IntKind.i64.wrap ((↑p : Int).tdiv 2))), (7, AI ↑x.1), (48, AB (decide ((↑p : Int) < ↑x.1)))] [(77777, .row .u false 2 (x.2.length) (NB x.2) [])]))) := by intros; kernel_rfl
def st_nsNe (n t p q : Nat) (x : Nat × LP) : St := ⟨[(0, AI n), (3, .own 77777), (4, AI t), (5, AI p), (7, AI q), (8, AI x.1)], [(77777, NR false x.2)]⟩
theorem evr_nsNe : ∀ (n t p q : Nat) (I J K : Nat × LP → St → Prop) (y z x : Nat × LP), ev G0 res67 [] 3000 ((Or.nil.split Or.nil).split Or.nil) [.ir ir67_L3, .lend (K x), .bend 8, .bend 7, .ir ir67_T4, .lend (J z), .bend 6, .bend 3, .ir ir67_T7, .lend (I y), .bend 2, .ir ir67_T9] (st_nsNe n t p q x) = VC.split (decide (IntKind.i64.wrap (IntKind.i64.wrap ((↑x.1 : Int) + ↑q) - (↑p : Int)) < (↑n : Int))) (VC.need ((↑p : Int) ≠ 0) (VC.need ((2 : Int) ≠ 0) (VC.split ((IntKind.i64.wrap ((↑x.1 : Int).tdiv (↑p : Int))).tmod (2 : Int) == 1) (VC.need (((x.2.length + 1) * 16 ≤ 140737488355328 ∧ (↑(x.2.length + 1) : Int) ≤ 9223372036854775807) ∧ allV 2 1 (setG [(0, 0, PV.v (Value.int IntKind.i64 (↑x.1 : Int))), (0, 1, PV.v (Value.int IntKind.i64 (IntKind.i64.wrap (IntKind.i64.wrap ((↑x.1 : Int) + ↑q) - (↑p : Int)))))] fun x_1 j => PV.v ([Value.int IntKind.i64 0, Value.int IntKind.i64 0].getD j undef))) (VC.lend (K x) (St.mk [(0, AI ↑n), (3, .own 74), (4, AI ↑t), (5, AI ↑p), (7, AI ↑q), (8, AI (IntKind.i64.wrap ((↑x.1 : Int) + 1))), (57, AB (decide (IntKind.i64.wrap (IntKind.i64.wrap ((↑x.1 : Int) + ↑q) - (↑p : Int)) < (↑n : Int)))), (64, AB ((IntKind.i64.wrap ((↑x.1 : Int).tdiv (↑p : Int))).tmod (2 : Int) == 1))] [(74, .row .u false 2 (x.2.length + 1) (fun a b => if a < x.2.length then NB x.2 a b else setG [(0, 0, PV.v (Value.int IntKind.i64 (↑x.1 : Int))), (0, 1, PV.v (Value.int IntKind.i64 (IntKind.i64.wrap (IntKind.i64.wrap ((↑x.1 : Int) + ↑q) - (↑p : Int)))))] (fun x_1 j => PV.v ([Value.int IntKind.i64 0, Value.int IntKind.i64 0].getD j undef)) (a - x.2.length) b) [])]))) (VC.lend (K x) (St.mk [(0, AI ↑n), (3, .own 77777), (4, AI ↑t), (5, AI ↑p), (7, AI ↑q), (8, AI (IntKind.i64.wrap ((↑x.1 : Int) + 1))), (57, AB (decide (IntKind.i64.wrap (IntKind.i64.wrap ((↑x.1 : Int) + ↑q) - (↑p : Int)) < (↑n : Int)))), (64, AB ((IntKind.i64.wrap ((↑x.1 : Int).tdiv (↑p : Int))).tmod (2 : Int) == 1))] [(77777, .row .u false 2 (x.2.length) (NB x.2) [])]))))) (VC.need ((2 : Int) ≠ 0) (VC.lend (J z) (St.mk [(0, AI ↑n), (3, .own 77777), (4, AI ↑t), (5, AI ↑p), (7, AI (IntKind.i64.wrap ((↑q : Int).tdiv 2))), (8, AI ↑x.1), (57, AB (decide (IntKind.i64.wrap (IntKind.i64.wrap ((↑x.1 : Int) + ↑q) - (↑p : Int)) < (↑n : Int))))] [(77777, .row .u false 2 (x.2.length) (NB x.2) [])]))) := by intros; kernel_rfl
theorem mod_i {i p : Nat} (hi : i ≤ 1048576) : (IntKind.i64.wrap ((i : Int).tdiv (p : Int))).tmod 2 = ((i / p % 2 : Nat) : Int) := by
  have h1 : i / p ≤ i := Nat.div_le_self i p
  have e : (i : Int).tdiv (p : Int) = ((i / p : Nat) : Int) := by
    rw [Int.tdiv_eq_ediv_of_nonneg (by omega)]; exact (Int.natCast_ediv i p).symm
  rw [e]
  generalize i / p = d at *
  have e2 : IntKind.i64.wrap (d : Int) = (d : Int) := wrap_in (by omega) (by omega)
  rw [e2, Int.tmod_eq_emod_of_nonneg (by omega)]
  omega
theorem allV2 {g : Nat → Nat → PV} (h0 : (g 0 0).isV = true) (h1 : (g 0 1).isV = true) : allV 2 1 g := fun i j hi hj => by
  obtain rfl : i = 0 := by omega
  have : j = 0 ∨ j = 1 := by omega
  rcases this with rfl | rfl
  · exact h0
  · exact h1
theorem c_nsN0 (n : Nat) (hn : n ≤ 256) : PObj Tryz.prog G0 67 [AI n] [] (.own 0) [(0, NR false (netL n))] := by
  refine PObj.by chk67 rfl (ev_nsN n) ?_
  simp only [vcA]
  refine ⟨c_l1In _ _ _, fun h1 => ?_, fun h1 => ?_⟩
  · have h2 : n < 2 := by
      rcases Nat.lt_or_ge n 2 with h | h
      · exact h
      · have : inB (n : Int) 2 256 = true := by simp [inB]; omega
        simp [this] at h1
    have e : netL n = [] := by
      have e1 : topN n 1 = 1 := topN_end (by omega)
      simp only [netL, e1]
      rw [pL_in (by omega), cF_end (by omega), qL_end (by omega), show (1 / 2 : Nat) = 0 by decide, pL_end]
      rfl
    rw [e]
    refine ResOk.mk [] [(0, 9)] [] _ _ ?_ ⟨rfl, rfl⟩
    simp [doneC, resOf, resAV, tup, pinR, PV.Le_self, leA, res67]
  · have hT := netL_len hn
    have htl := topN_lt n 1 (by omega) (.inr rfl)
    refine loop_by (st_nsNa n) (fun t => 0 < t ∧ (t < n ∨ t = 1) ∧ topN n t = topN n 1) (fun t => n - t) 1 [] [(77777, 9)] [] ⟨by omega, .inr rfl, rfl⟩ ?_ (evr_nsNa n) fun t ht => ?_
    · simp [st_nsNa, leA, PV.Le_self]
    · obtain ⟨ht0, htn, hte⟩ := ht
      have e1 : IntKind.i64.wrap (2 * (t : Int)) = ((2 * t : Nat) : Int) := (wrap_in (by omega) (by omega)).trans (by omega)
      simp only [vcA, e1]
      refine ⟨fun h2 => Again.mk (2 * t) [] [] [] ⟨by omega, .inl (by omega), ?_⟩ (by omega) ?_, fun h2 => ?_⟩
      · rw [← topN_in (by omega) ht0]; exact hte
      · simp [st_nsNa, leA, PV.Le_self]
      · rw [topN_end (by omega)] at hte
        subst hte
        generalize htop : topN n 1 = t at *
        have hpw := top_pow hn
        rw [htop] at hpw
        refine loop_by (st_nsNb n t) (fun x => x.2 ++ pL n t x.1 = netL n ∧ (x.1 = 0 ∨ ∃ e, x.1 = 2 ^ e ∧ e ≤ 8) ∧ x.1 ≤ t) (fun x => x.1) (t, []) [] [] [] ⟨by simp [netL, htop], .inr hpw, Nat.le_refl _⟩ ?_ (evr_nsNb n t) fun x hx => ?_
        · simp [st_nsNb, leA, PV.Le_self]
        · obtain ⟨p, L⟩ := x
          obtain ⟨hinv, hp, hpt⟩ := hx
          simp only [] at hinv hp hpt
          simp only [vcA]
          refine ⟨fun h3 => ?_, fun h3 => ?_⟩
          · have hp' := hp.resolve_left (by omega)
            rw [pL_in (show 0 < p by omega)] at hinv
            refine loop_by (st_nsNc n t p) (fun y => y.2 ++ (cF n p p 0 y.1 ++ (qL n p t ++ pL n t (p / 2))) = netL n ∧ y.1 ≤ n) (fun y => n - y.1) (0, L) [] [] [] ⟨hinv, Nat.zero_le _⟩ ?_ (fun J y => evr_nsNc n t p _ J _ y) fun y hy => ?_
            · simp [st_nsNc, leA, PV.Le_self]
            · obtain ⟨i, L'⟩ := y
              obtain ⟨hinv', hi⟩ := hy
              simp only [] at hinv' hi
              have hlen' := congrArg List.length hinv'
              rw [List.length_append, List.length_append] at hlen'
              have e3 : IntKind.i64.wrap ((i : Int) + p) = ((i + p : Nat) : Int) := wrap_in (by omega) (by omega)
              have e4 : IntKind.i64.wrap ((i : Int) + 1) = ((i + 1 : Nat) : Int) := wrap_in (by omega) (by omega)
              have e5 := mod_i (i := i) (p := p) (by omega)
              simp only [vcA, e3, e4, e5]
              refine ⟨fun h4 => ⟨by omega, by decide, fun h5 => ?_, fun h5 => Again.mk (i + 1, L') [] [] [] ⟨?_, by simp only []; omega⟩ (by simp only []; omega) ?_⟩, fun h4 => ?_⟩
              · have h6 : i / p % 2 = 0 := by
                  have := beq_iff_eq.1 h5; omega
                rw [cF_in (by omega) h6] at hinv' hlen'
                rw [List.length_cons] at hlen'
                refine ⟨⟨⟨by omega, by omega⟩, allV2 rfl rfl⟩, Again.mk (i + 1, L' ++ [(i, i + p)]) [] [(77777, 44)] [] ⟨?_, by simp only []; omega⟩ (by simp only []; omega) ?_⟩
                · simp only [List.append_assoc, List.singleton_append]; exact hinv'
                · simp [st_nsNc, leA, PV.Le_self]
                  intro a b ha hb
                  exact NB_app rfl (by omega) ha hb
              · have h6 : ¬ i / p % 2 = 0 := fun e => by
                  rw [e] at h5; simp at h5
                rw [cF_out h6] at hinv'
                exact hinv'
              · simp [st_nsNc, leA, PV.Le_self]
              · rw [cF_end (by omega), List.nil_append] at hinv'
                refine loop_by (st_nsNd n t p) (fun z => z.2 ++ (qL n p z.1 ++ pL n t (p / 2)) = netL n ∧ z.1 ≤ t) (fun z => z.1) (t, L') [] [] [] ⟨hinv', Nat.le_refl _⟩ ?_ (fun J z => evr_nsNd n t p _ J _ z) fun z hz => ?_
                · simp [st_nsNd, leA, PV.Le_self]
                · obtain ⟨q, M⟩ := z
                  obtain ⟨hinv2, hqt⟩ := hz
                  simp only [] at hinv2 hqt
                  have e7 := wrap_half p (by omega)
                  simp only [vcA, e7]
                  refine ⟨fun h8 => ?_, fun h8 => ⟨by decide, Again.mk (p / 2, M) [] [] [] ⟨?_, half_pow (t := t) hp', by simp only []; omega⟩ (by simp only []; omega) ?_⟩⟩
                  · rw [qL_in (show p < q by omega), List.append_assoc] at hinv2
                    refine loop_by (st_nsNe n t p q) (fun y => y.2 ++ (cF n p (q - p) 1 y.1 ++ (qL n p (q / 2) ++ pL n t (p / 2))) = netL n ∧ y.1 ≤ n) (fun y => n - y.1) (0, M) [] [] [] ⟨hinv2, Nat.zero_le _⟩ ?_ (fun K y => evr_nsNe n t p q _ _ K _ _ y) fun y hy => ?_
                    · simp [st_nsNe, leA, PV.Le_self]
                    · obtain ⟨i, L'⟩ := y
                      obtain ⟨hinv', hi⟩ := hy
                      simp only [] at hinv' hi
                      have hlen' := congrArg List.length hinv'
                      rw [List.length_append, List.length_append] at hlen'
                      have e3 : IntKind.i64.wrap ((i : Int) + q) = ((i + q : Nat) : Int) := wrap_in (by omega) (by omega)
                      have e3' : IntKind.i64.wrap (((i + q : Nat) : Int) - p) = ((i + (q - p) : Nat) : Int) := (wrap_in (by omega) (by omega)).trans (by omega)
                      have e4 : IntKind.i64.wrap ((i : Int) + 1) = ((i + 1 : Nat) : Int) := wrap_in (by omega) (by omega)
                      have e5 := mod_i (i := i) (p := p) (by omega)
                      have e6 := wrap_half q (by omega)
                      simp only [vcA, e3, e3', e4, e5, e6]
                      refine ⟨fun h4 => ⟨by omega, by decide, fun h5 => ?_, fun h5 => Again.mk (i + 1, L') [] [] [] ⟨?_, by simp only []; omega⟩ (by simp only []; omega) ?_⟩, fun h4 => ⟨by decide, Again.mk (q / 2, L') [] [] [] ⟨?_, by simp only []; omega⟩ (by simp only []; omega) ?_⟩⟩
                      · have h6 : i / p % 2 = 1 := by
                          have := beq_iff_eq.1 h5; omega
                        rw [cF_in (by omega) h6] at hinv' hlen'
                        rw [List.length_cons] at hlen'
                        refine ⟨⟨⟨by omega, by omega⟩, allV2 rfl rfl⟩, Again.mk (i + 1, L' ++ [(i, i + (q - p))]) [] [(77777, 74)] [] ⟨?_, by simp only []; omega⟩ (by simp only []; omega) ?_⟩
                        · simp only [List.append_assoc, List.singleton_append]; exact hinv'
                        · simp [st_nsNe, leA, PV.Le_self]
                          intro a b ha hb
                          exact NB_app rfl (by omega) ha hb
                      · have h6 : ¬ i / p % 2 = 1 := fun e => by
                          rw [e] at h5; simp at h5
                        rw [cF_out h6] at hinv'
                        exact hinv'
                      · simp [st_nsNe, leA, PV.Le_self]
                      · rw [cF_end (by omega), List.nil_append] at hinv'
                        exact hinv'
                      · simp [st_nsNd, leA, PV.Le_self]
                  · rw [qL_end (by omega), List.nil_append] at hinv2
                    exact hinv2
                  · simp [st_nsNb, leA, PV.Le_self]
          · obtain rfl : p = 0 := by omega
            rw [pL_end, List.append_nil] at hinv
            subst hinv
            refine ResOk.mk [] [(0, 77777)] [] _ _ ?_ ⟨rfl, rfl⟩
            simp [doneC, resOf, resAV, tup, pinR, PV.Le_self, leA, res67]
end Go.Gw
