/- Networks and their accesses, of the program and of the model; with no condition. -/
import Derived.Test.YtigaelckdbeecaaDoorNet
import Derived.Test.YtigaelckdbeecaaDoorInts
import Derived.KernelRfl
namespace Go.Gw
open Go Go.Proofs
set_option linter.unusedSimpArgs false
set_option linter.unusedVariables false
set_option maxRecDepth 100000
def ir48_L1 : Ir :=
  (.seq
  (.seq
  (.reg [9, 10, 11, 12] [o 9 (.mov (tt 8)),
    o 10 (.mov (tt 2)),
    o 11 (.bin .add (tt 9) (tt 10)),
    o 12 (.load false 1 (tt 3)),
    o 13 (.bin .lss (tt 11) (tt 12))])
  (.cond (tt 13)
   .skip
   (.exit 0)))
  (.seq
  (.block 1
   (.seq
   (.reg [16, 17, 18, 19] [o 16 (.mov (tt 8)),
     o 17 (.mov (tt 0)),
     o 18 (.bin .and (tt 16) (tt 17)),
     o 19 (.mov (tt 1)),
     o 20 (.bin .eql (tt 18) (tt 19))])
   (.cond (tt 20)
    (.reg [21, 22, 23, 24, 25, 26, 27, 28] [o 21 (.load false 1 (tt 4)),
      o 22 (.mov (tt 8)),
      o 23 (.mov (tt 8)),
      o 24 (.mov (tt 2)),
      o 25 (.bin .add (tt 23) (tt 24)),
      o 26 (.build [(.int .i64 0), (.int .i64 0)] [(0, 1, (tt 22)), (1, 1, (tt 25))]),
      o 27 (.mkSl 2 1 [(.int .i64 0), (.int .i64 0)] [(0, (tt 26))]),
      o 28 (.app 2 16 true (tt 21) (tt 27)),
      on (.store 1 (tt 4) (tt 28))])
    .skip)))
  (.reg [14, 15] [o 14 (.mov (tt 8)),
    o 15 (.bin .add (tt 14) (ci 1)),
    o 8 (.mov (tt 15))])))
def ir48 : Ir :=
  (.seq
  (.reg [] [o 8 (.mov (ci 0))])
  (.block 0
   (.loop ir48_L1)))
def keep48 : List Nat := [0, 1, 2, 3, 4, 8, 13, 20]
def res48 : List RI := []
theorem chk48 : chk Tryd.prog 48 5 keep48 = some (ir48, res48) := by kernel_rfl
def ir17_L1 : Ir :=
  (.seq
  (.seq
  (.reg [11, 12, 13] [o 11 (.mov (tt 3)),
    o 12 (.bin .mul (ci 2) (tt 11)),
    o 13 (.load false 1 (tt 1)),
    o 14 (.bin .lss (tt 12) (tt 13))])
  (.cond (tt 14)
   .skip
   (.exit 0)))
  (.block 1
   (.reg [15, 16] [o 15 (.mov (tt 3)),
     o 16 (.bin .mul (tt 15) (ci 2)),
     o 3 (.mov (tt 16))])))
def ir17_L2 : Ir :=
  (.seq
  (.seq
  (.reg [28, 29] [o 28 (.mov (tt 7)),
    o 29 (.mov (tt 6)),
    o 30 (.bin .gtr (tt 28) (tt 29))])
  (.cond (tt 30)
   .skip
   (.exit 4)))
  (.seq
  (.block 5
   (.reg [33, 34, 35, 36, 37, 38, 39] [o 33 (.mov (tt 5)),
     o 34 (.mov (tt 6)),
     o 35 (.mov (tt 6)),
     o 36 (.mov (tt 7)),
     o 37 (.mov (tt 6)),
     o 38 (.bin .sub (tt 36) (tt 37)),
     o 39 (.callv (tt 33) [(tt 34), (tt 35), (tt 38)])]))
  (.reg [31, 32] [o 31 (.mov (tt 7)),
    o 32 (.bin .quo (tt 31) (ci 2)),
    o 7 (.mov (tt 32))])))
def ir17_T3 : Ir :=
  (.reg [21, 22] [o 21 (.mov (tt 6)),
    o 22 (.bin .quo (tt 21) (ci 2)),
    o 6 (.mov (tt 22))])
def ir17_L4 : Ir :=
  (.seq
  (.seq
  (.reg [19] [o 19 (.mov (tt 6)),
    o 20 (.bin .gtr (tt 19) (ci 0))])
  (.cond (tt 20)
   .skip
   (.exit 2)))
  (.seq
  (.block 3
   (.seq
   (.reg [23, 24, 25, 26] [o 23 (.mov (tt 5)),
     o 24 (.mov (tt 6)),
     o 25 (.mov (tt 6)),
     o 26 (.callv (tt 23) [(tt 24), (ci 0), (tt 25)])])
   (.seq
   (.reg [27] [o 27 (.mov (tt 3)),
     o 7 (.mov (tt 27))])
   (.block 4
    (.loop ir17_L2)))))
  ir17_T3))
def ir17_T5 : Ir :=
  (.seq
  (.reg [40] [o 40 (.load false 1 (tt 4)),
    o 2 (.mov (tt 40))])
  .ret)
def ir17_T6 : Ir :=
  (.seq
  (.reg [] [o 4 (.alloc [(.slice none 0 0)])])
  (.seq
  (.reg [17] [o 17 (.mkFn 48 [] [(tt 1), (tt 4)]),
    o 5 (.mov (tt 17))])
  (.seq
  (.seq
  (.reg [18] [o 18 (.mov (tt 3)),
    o 6 (.mov (tt 18))])
  (.block 2
   (.loop ir17_L4)))
  ir17_T5)))
def ir17 : Ir :=
  (.seq
  (.reg [] [o 1 (.box 1 (tt 0)),
    o 2 (.mov (.const (.slice none 0 0)))])
  (.seq
  (.seq
  (.reg [8, 9] [o 8 (.load false 1 (tt 1)),
    o 9 (.call 47 [(tt 8), (ci 0), (ci 256)]),
    o 10 (.un .not (tt 9))])
  (.cond (tt 10)
   (.seq
   (.reg [] [o 2 (.mov (.const (.slice none 0 0)))])
   .ret)
   .skip))
  (.seq
  (.reg [] [o 3 (.mov (ci 1))])
  (.seq
  (.block 0
   (.loop ir17_L1))
  ir17_T6))))
def keep17 : List Nat := [0, 1, 2, 3, 4, 5, 6, 7, 10, 14, 20, 30]
def res17 : List RI := [.tmp 2]
theorem chk17 : chk Tryd.prog 17 1 keep17 = some (ir17, res17) := by kernel_rfl

/-- A row of pairs. -/
abbrev LP := List (Nat × Nat)
def nb (L : LP) (i j : Nat) : Nat := if j = 0 then (L.getD i (0, 0)).1 else (L.getD i (0, 0)).2
abbrev NB (L : LP) : Nat → Nat → PV := fun i j => PI (nb L i j : Nat)
abbrev NR (nn : Bool) (L : LP) : Ob := .row .u nn 2 L.length (NB L) []
abbrev NL (nn : Bool) (L : LP) : AV := .p false (.sl nn 2 L.length (NB L))
theorem nb_app {L : LP} {x : Nat × Nat} {i j : Nat} : nb (L ++ [x]) i j = if i < L.length then nb L i j else nb [x] (i - L.length) j := by
  unfold nb
  by_cases h : i < L.length
  · simp only [h, if_true, List.getD_eq_getElem?_getD, List.getElem?_append_left h]
  · simp only [h, if_false, List.getD_eq_getElem?_getD, List.getElem?_append_right (Nat.le_of_not_lt h)]
theorem NB_app {L : LP} {x y : Nat} {g : Nat → Nat → PV} {X Y : Int} (hX : X = x) (hY : Y = y) {i j : Nat} (hi : i < L.length + 1) (hj : j < 2) : PV.Le (if i < L.length then NB L i j else setG [(0, 0, PI X), (0, 1, PI Y)] g (i - L.length) j) (NB (L ++ [(x, y)]) i j) := by
  subst hX; subst hY
  simp only [NB, nb_app]
  by_cases h : i < L.length
  · simp only [h, if_true]; exact .refl _
  · have e : i - L.length = 0 := by omega
    simp only [h, if_false, e]
    have : j = 0 ∨ j = 1 := by omega
    rcases this with rfl | rfl
    · simp [setG, cellSet, nb]; exact .refl _
    · simp [setG, cellSet, nb]; exact .refl _
/-! ### the program's network -/
theorem and_two (i e : Nat) : i &&& 2 ^ e = 2 ^ e * (i / 2 ^ e % 2) := by
  apply Nat.eq_of_testBit_eq
  intro k
  rw [Nat.testBit_and, Nat.testBit_two_pow]
  have h := Nat.testBit_eq_decide_div_mod_eq (x := i) (i := e)
  rcases Nat.mod_two_eq_zero_or_one (i / 2 ^ e) with h2 | h2
  · rw [h2] at h ⊢
    by_cases e1 : e = k
    · subst e1; simp [h]
    · simp [e1]
  · rw [h2] at h ⊢
    rw [Nat.mul_one, Nat.testBit_two_pow]
    by_cases e1 : e = k
    · subst e1; simp [h]
    · simp [e1]
theorem and_pow {i e : Nat} (hi : i < 2 ^ 62) (he : e < 62) : IntKind.i64.wrap ((BitVec.ofInt 64 (i : Int) &&& BitVec.ofInt 64 ((2 ^ e : Nat) : Int)).toNat : Int) = ((2 ^ e * (i / 2 ^ e % 2) : Nat) : Int) := by
  have hp : 2 ^ e < 2 ^ 62 := Nat.pow_lt_pow_right (by decide) he
  have e1 : (BitVec.ofInt 64 (i : Int) &&& BitVec.ofInt 64 ((2 ^ e : Nat) : Int)).toNat = 2 ^ e * (i / 2 ^ e % 2) := by
    rw [BitVec.ofInt_natCast, BitVec.ofInt_natCast, BitVec.toNat_and, BitVec.toNat_ofNat, BitVec.toNat_ofNat, Nat.mod_eq_of_lt (by omega), Nat.mod_eq_of_lt (by omega), and_two]
  rw [e1]
  have h2 : i / 2 ^ e % 2 ≤ 1 := by omega
  have h3 : 2 ^ e * (i / 2 ^ e % 2) ≤ 2 ^ e * 1 := Nat.mul_le_mul_left _ h2
  exact wrap_in (by omega) (by omega)
theorem ev_nwC : ∀ (nn : Bool) (n p s d : Nat) (L : LP), ev G0 res48 [((0 : Nat), Ob.box [AI (↑n : Int)]), ((1 : Nat), Ob.box [AV.own (2 : Nat)]), ((2 : Nat), NR nn L)] (3000 : Nat) Or.nil [Item.ir ir48] (start [AI (↑p : Int), AI (↑s : Int), AI (↑d : Int), AV.adr (0 : Nat) (0 : Nat), AV.adr (1 : Nat) (0 : Nat)] [((0 : Nat), Ob.box [AI (↑n : Int)]), ((1 : Nat), Ob.box [AV.own (2 : Nat)]), ((2 : Nat), NR nn L)]) = VC.loop ir48_L1 [Item.bend (0 : Nat)] (St.mk [((0 : Nat), AV.p true (PV.v (Value.int IntKind.i64 (↑p : Int)))), ((1 : Nat), AV.p true (PV.v (Value.int IntKind.i64 (↑s : Int)))), ((2 : Nat), AV.p true (PV.v (Value.int IntKind.i64 (↑d : Int)))), ((3 : Nat), AV.adr (100000 : Nat) (0 : Nat)), ((4 : Nat), AV.adr (100001 : Nat) (0 : Nat)), ((8 : Nat), AV.p true (PV.v (Value.int IntKind.i64 (0 : Int))))] [((100000 : Nat), Ob.box [AV.p true (PV.v (Value.int IntKind.i64 (↑n : Int)))]), ((100001 : Nat), Ob.box [AV.own (100002 : Nat)]), ((100002 : Nat), Ob.row Mode.u nn (2 : Nat) (List.length L) (NB L) [])]) := by intros; kernel_rfl
def st_nwC (nn : Bool) (n p s d : Nat) (x : Nat × LP) : St := ⟨[(0, AI p), (1, AI s), (2, AI d), (3, .adr 100000 0), (4, .adr 100001 0), (8, AI x.1)], [(100000, .box [AI n]), (100001, .box [.own 77777]), (77777, NR nn x.2)]⟩
theorem evr_nwC : ∀ (nn : Bool) (n p s d : Nat) (L : LP) (I : Nat × LP → St → Prop) (x : Nat × LP), ev G0 res48 [((0 : Nat), Ob.box [AI (↑n : Int)]), ((1 : Nat), Ob.box [AV.own (2 : Nat)]), ((2 : Nat), NR nn L)] (3000 : Nat) ((Or.nil.split Or.nil).split Or.nil) [Item.ir ir48_L1, Item.lend (I x), Item.bend (0 : Nat)] (st_nwC nn n p s d x) = VC.split (decide (IntKind.i64.wrap ((↑x.1 : Int) + (↑d : Int)) < (↑n : Int))) (VC.split (IntKind.i64.wrap (↑(BitVec.ofInt IntKind.i64.bits (↑x.1 : Int) &&& BitVec.ofInt IntKind.i64.bits (↑p : Int)).toNat : Int) == (↑s : Int)) (VC.need (((List.length x.2 + (1 : Nat)) * (16 : Nat) ≤ (140737488355328 : Nat) ∧ (↑(List.length x.2 + (1 : Nat)) : Int) ≤ (9223372036854775807 : Int)) ∧ allV (2 : Nat) (1 : Nat) (setG [((0 : Nat), (0 : Nat), PV.v (Value.int IntKind.i64 (↑x.1 : Int))), ((0 : Nat), (1 : Nat), PV.v (Value.int IntKind.i64 (IntKind.i64.wrap ((↑x.1 : Int) + (↑d : Int)))))] fun (x_1 j : Nat) => PV.v ([Value.int IntKind.i64 (0 : Int), Value.int IntKind.i64 (0 : Int)].getD j undef))) (VC.lend (I x) (St.mk [((0 : Nat), AV.p true (PV.v (Value.int IntKind.i64 (↑p : Int)))), ((1 : Nat), AV.p true (PV.v (Value.int IntKind.i64 (↑s : Int)))), ((2 : Nat), AV.p true (PV.v (Value.int IntKind.i64 (↑d : Int)))), ((3 : Nat), AV.adr (100000 : Nat) (0 : Nat)), ((4 : Nat), AV.adr (100001 : Nat) (0 : Nat)), ((8 : Nat), AV.p true (PV.v (Value.int IntKind.i64 (IntKind.i64.wrap ((↑x.1 : Int) + (1 : Int)))))), ((13 : Nat), AV.p true (PV.v (Value.bool (decide (IntKind.i64.wrap ((↑x.1 : Int) + (↑d : Int)) < (↑n : Int)))))), ((20 : Nat), AV.p true (PV.v (Value.bool (IntKind.i64.wrap (↑(BitVec.ofInt IntKind.i64.bits (↑x.1 : Int) &&& BitVec.ofInt IntKind.i64.bits (↑p : Int)).toNat : Int) == (↑s : Int)))))] [((100000 : Nat), Ob.box [AV.p true (PV.v (Value.int IntKind.i64 (↑n : Int)))]), ((100001 : Nat), Ob.box [AV.own (28 : Nat)]), ((28 : Nat), Ob.row Mode.u nn (2 : Nat) (List.length x.2 + (1 : Nat)) (fun (a b : Nat) => if a < List.length x.2 then NB x.2 a b else setG [((0 : Nat), (0 : Nat), PV.v (Value.int IntKind.i64 (↑x.1 : Int))), ((0 : Nat), (1 : Nat), PV.v (Value.int IntKind.i64 (IntKind.i64.wrap ((↑x.1 : Int) + (↑d : Int)))))] (fun (x_1 j : Nat) => PV.v ([Value.int IntKind.i64 (0 : Int), Value.int IntKind.i64 (0 : Int)].getD j undef)) (a - List.length x.2) b) [])]))) (VC.lend (I x) (St.mk [((0 : Nat), AV.p true (PV.v (Value.int IntKind.i64 (↑p : Int)))), ((1 : Nat), AV.p true (PV.v (Value.int IntKind.i64 (↑s : Int)))), ((2 : Nat), AV.p true (PV.v (Value.int IntKind.i64 (↑d : Int)))), ((3 : Nat), AV.adr (100000 : Nat) (0 : Nat)), ((4 : Nat), AV.adr (100001 : Nat) (0 : Nat)), ((8 : Nat), AV.p true (PV.v (Value.int IntKind.i64 (IntKind.i64.wrap ((↑x.1 : Int) + (1 : Int)))))), ((13 : Nat), AV.p true (PV.v (Value.bool (decide (IntKind.i64.wrap ((↑x.1 : Int) + (↑d : Int)) < (↑n : Int)))))), ((20 : Nat), AV.p true (PV.v (Value.bool (IntKind.i64.wrap (↑(BitVec.ofInt IntKind.i64.bits (↑x.1 : Int) &&& BitVec.ofInt IntKind.i64.bits (↑p : Int)).toNat : Int) == (↑s : Int)))))] [((100000 : Nat), Ob.box [AV.p true (PV.v (Value.int IntKind.i64 (↑n : Int)))]), ((100001 : Nat), Ob.box [AV.own (77777 : Nat)]), ((77777 : Nat), Ob.row Mode.u nn (2 : Nat) (List.length x.2) (NB x.2) [])]))) (VC.done (St.mk [((0 : Nat), AV.p true (PV.v (Value.int IntKind.i64 (↑p : Int)))), ((1 : Nat), AV.p true (PV.v (Value.int IntKind.i64 (↑s : Int)))), ((2 : Nat), AV.p true (PV.v (Value.int IntKind.i64 (↑d : Int)))), ((3 : Nat), AV.adr (100000 : Nat) (0 : Nat)), ((4 : Nat), AV.adr (100001 : Nat) (0 : Nat)), ((8 : Nat), AV.p true (PV.v (Value.int IntKind.i64 (↑x.1 : Int)))), ((13 : Nat), AV.p true (PV.v (Value.bool (decide (IntKind.i64.wrap ((↑x.1 : Int) + (↑d : Int)) < (↑n : Int))))))] [((100000 : Nat), Ob.box [AV.p true (PV.v (Value.int IntKind.i64 (↑n : Int)))]), ((100001 : Nat), Ob.box [AV.own (77777 : Nat)]), ((77777 : Nat), Ob.row Mode.u nn (2 : Nat) (List.length x.2) (NB x.2) [])])) := by intros; kernel_rfl
theorem c_nwC (nn : Bool) (n e s d : Nat) (L : LP) (hn : n ≤ 256) (he : e ≤ 8) (hs : s < 2) (hd : d ≤ 256) (hL : L.length + (cF n (2 ^ e) d s 0).length ≤ 16777216) :
    PObj Tryd.prog G0 48 [AI (2 ^ e : Nat), AI (2 ^ e * s : Nat), AI d, .adr 0 0, .adr 1 0] [(0, .box [AI n]), (1, .box [.own 2]), (2, NR nn L)] (.tp []) [(0, .box [AI n]), (1, .box [.own 3]), (3, NR nn (L ++ cF n (2 ^ e) d s 0))] := by
  refine PObj.by chk48 rfl (ev_nwC nn n (2 ^ e) (2 ^ e * s) d L) ?_
  have hpos := Nat.two_pow_pos e
  refine loop_by (st_nwC nn n (2 ^ e) (2 ^ e * s) d) (fun x => x.1 ≤ n ∧ x.2 ++ cF n (2 ^ e) d s x.1 = L ++ cF n (2 ^ e) d s 0) (fun x => n - x.1) (0, L) [] [(77777, 100002)] [] ⟨Nat.zero_le _, rfl⟩ ?_ (evr_nwC nn n (2 ^ e) (2 ^ e * s) d L) fun x hx => ?_
  · simp [st_nwC, hbs, St.lowers, St.lower, stLe, leEnv, leObs, obLe, injB, pinC, AV.leC, AV.leCs, PV.leC, PV.Le_v, St.get, St.obj, look, rho, isNew, keptC, renH, Mode.ok, Mode.isZ, PV.isVal, PV.isNilSl, List.all_nil, List.all_cons, List.any_nil, List.any_cons, List.map_nil, List.map_cons, PV.Le_self]
  · obtain ⟨i, L'⟩ := x
    obtain ⟨hi, hinv⟩ := hx
    simp only [] at hi hinv
    have hlen := congrArg List.length hinv
    rw [List.length_append, List.length_append] at hlen
    have e1 : IntKind.i64.wrap ((i : Int) + d) = ((i + d : Nat) : Int) := wrap_in (by omega) (by omega)
    have e2 : IntKind.i64.wrap ((i : Int) + 1) = ((i + 1 : Nat) : Int) := wrap_in (by omega) (by omega)
    have e3 : IntKind.i64.wrap ((BitVec.ofInt IntKind.i64.bits (i : Int) &&& BitVec.ofInt IntKind.i64.bits ((2 ^ e : Nat) : Int)).toNat : Int) = ((2 ^ e * (i / 2 ^ e % 2) : Nat) : Int) := and_pow (by omega) (by omega)
    simp only [VC.holds_split, VC.holds_need, VC.holds_doneP, VC.holds_done, VC.holds_either, VC.holds_call, VC.holds_callE, VC.holds_lend, VC.holds_stop, VC.holds_fail, decide_eq_true_eq, decide_eq_false_iff_not, Int.toNat_natCast, e1, e2, e3]
    have hcond : (((2 ^ e * (i / 2 ^ e % 2) : Nat) : Int) == ((2 ^ e * s : Nat) : Int)) = decide (i / 2 ^ e % 2 = s) := by
      rw [Bool.eq_iff_iff]
      simp only [beq_iff_eq, decide_eq_true_eq]
      constructor
      · intro h
        exact Nat.eq_of_mul_eq_mul_left hpos (by omega)
      · intro h; rw [h]
    refine ⟨fun h1 => ⟨fun h2 => ?_, fun h2 => Again.mk (i + 1, L') [] [] [] ⟨by simp only []; omega, ?_⟩ (by simp only []; omega) ?_⟩, fun h1 => ?_⟩
    · rw [hcond] at h2
      have h3 : i / 2 ^ e % 2 = s := by simpa using h2
      have h4 : i + d < n := by omega
      rw [cF_in h4 h3] at hinv hlen
      rw [List.length_cons] at hlen
      refine ⟨⟨⟨by omega, by omega⟩, ?_⟩, Again.mk (i + 1, L' ++ [(i, i + d)]) [] [(77777, 28)] [] ⟨by simp only []; omega, ?_⟩ (by simp only []; omega) ?_⟩
      · intro a b ha hb
        obtain rfl : a = 0 := by omega
        have : b = 0 ∨ b = 1 := by omega
        rcases this with rfl | rfl <;> rfl
      · simp only [List.append_assoc, List.singleton_append]; exact hinv
      · simp [st_nwC, hbs, St.lowers, St.lower, stLe, leEnv, leObs, obLe, injB, pinC, AV.leC, AV.leCs, PV.leC, PV.Le_v, St.get, St.obj, look, rho, isNew, keptC, renH, Mode.ok, Mode.isZ, PV.isVal, PV.isNilSl, List.all_nil, List.all_cons, List.any_nil, List.any_cons, List.map_nil, List.map_cons, PV.Le_self]
        intro a b ha hb
        exact NB_app rfl (by omega) ha hb
    · rw [hcond] at h2
      have h3 : ¬ i / 2 ^ e % 2 = s := by simpa using h2
      rw [cF_out h3] at hinv
      exact hinv
    · simp [st_nwC, hbs, St.lowers, St.lower, stLe, leEnv, leObs, obLe, injB, pinC, AV.leC, AV.leCs, PV.leC, PV.Le_v, St.get, St.obj, look, rho, isNew, keptC, renH, Mode.ok, Mode.isZ, PV.isVal, PV.isNilSl, List.all_nil, List.all_cons, List.any_nil, List.any_cons, List.map_nil, List.map_cons, PV.Le_self]
    · have h3 : ¬ i + d < n := by omega
      rw [cF_end h3, List.append_nil] at hinv
      subst hinv
      refine ResOk.mk [] [(0, 100000), (1, 100001), (3, 77777)] [] _ _ ?_ ⟨rfl, rfl⟩
      simp [doneC, resOf, resAV, tup, pinR, PV.Le_self, hbs, St.lowers, St.lower, stLe, leEnv, leObs, obLe, injB, pinC, AV.leC, AV.leCs, PV.leC, PV.Le_v, St.get, St.obj, look, rho, isNew, keptC, renH, Mode.ok, Mode.isZ, PV.isVal, PV.isNilSl, List.all_nil, List.all_cons, List.any_nil, List.any_cons, List.map_nil, List.map_cons, res48]
/-! ### the network whole -/
theorem c_nwC0 (nn : Bool) (n p : Nat) (L : LP) (h : n ≤ 256 ∧ (∃ e, p = 2 ^ e ∧ e ≤ 8) ∧ L.length + (cF n p p 0 0).length ≤ 16777216) :
    PObj Tryd.prog G0 48 [AI p, AI 0, AI p, .adr 0 0, .adr 1 0] [(0, .box [AI n]), (1, .box [.own 2]), (2, NR nn L)] (.tp []) [(0, .box [AI n]), (1, .box [.own 3]), (3, NR nn (L ++ cF n p p 0 0))] := by
  obtain ⟨hn, ⟨e, rfl, he⟩, hL⟩ := h
  exact c_nwC nn n e 0 (2 ^ e) L hn he (by decide) (Nat.le_trans (Nat.pow_le_pow_right (by decide) he) (by decide)) hL
theorem c_nwC1 (nn : Bool) (n p : Nat) (d : Int) (L : LP) (h : n ≤ 256 ∧ (∃ e, p = 2 ^ e ∧ e ≤ 8) ∧ 0 ≤ d ∧ d ≤ 256 ∧ L.length + (cF n p d.toNat 1 0).length ≤ 16777216) :
    PObj Tryd.prog G0 48 [AI p, AI p, AI d, .adr 0 0, .adr 1 0] [(0, .box [AI n]), (1, .box [.own 2]), (2, NR nn L)] (.tp []) [(0, .box [AI n]), (1, .box [.own 3]), (3, NR nn (L ++ cF n p d.toNat 1 0))] := by
  obtain ⟨hn, ⟨e, rfl, he⟩, h0, h1, hL⟩ := h
  have := c_nwC nn n e 1 d.toNat L hn he (by decide) (by omega) hL
  rwa [Nat.mul_one, Int.toNat_of_nonneg h0] at this
theorem ev_niN : ∀ (n : Nat), ev G0 res17 [] (3000 : Nat) (Or.call [] (AB (inB (↑n : Int) (0 : Int) (256 : Int))) [] (Or.nil.split Or.nil)) [Item.ir ir17] (start [AI (↑n : Int)] []) = VC.call (47 : Nat) [AV.p true (PV.v (Value.int IntKind.i64 (↑n : Int))), AV.p true (PV.v (Value.int IntKind.i64 (0 : Int))), AV.p true (PV.v (Value.int IntKind.i64 (256 : Int)))] [] (AB (inB (↑n : Int) (0 : Int) (256 : Int))) [] (VC.split (!inB (↑n : Int) (0 : Int) (256 : Int)) (VC.done (St.mk [((0 : Nat), AV.p true (PV.v (Value.int IntKind.i64 (↑n : Int)))), ((1 : Nat), AV.adr (1 : Nat) (0 : Nat)), ((2 : Nat), AV.p true (PV.v (Value.slice none (0 : Nat) (0 : Nat)))), ((10 : Nat), AV.p true (PV.v (Value.bool !inB (↑n : Int) (0 : Int) (256 : Int))))] [((1 : Nat), Ob.box [AV.p true (PV.v (Value.int IntKind.i64 (↑n : Int)))])])) (VC.loop ir17_L1 [Item.bend (0 : Nat), Item.ir ir17_T6] (St.mk [((0 : Nat), AV.p true (PV.v (Value.int IntKind.i64 (↑n : Int)))), ((1 : Nat), AV.adr (1 : Nat) (0 : Nat)), ((2 : Nat), AV.p true (PV.v (Value.slice none (0 : Nat) (0 : Nat)))), ((10 : Nat), AV.p true (PV.v (Value.bool !inB (↑n : Int) (0 : Int) (256 : Int)))), ((3 : Nat), AV.p true (PV.v (Value.int IntKind.i64 (1 : Int))))] [((1 : Nat), Ob.box [AV.p true (PV.v (Value.int IntKind.i64 (↑n : Int)))])]))) := by intros; kernel_rfl
def st_niN (n t : Nat) : St := ⟨[(1, .adr 1 0), (3, AI t)], [(1, .box [AI n])]⟩
theorem evr_niN : ∀ (n : Nat) (I : Nat → St → Prop) (t : Nat), ev G0 res17 [] (3000 : Nat) (Or.nil.split Or.nil) [Item.ir ir17_L1, Item.lend (I t), Item.bend (0 : Nat), Item.ir ir17_T6] (st_niN n t) = VC.split (decide (IntKind.i64.wrap ((2 : Int) * (↑t : Int)) < (↑n : Int))) (VC.lend (I t) (St.mk [((1 : Nat), AV.adr (1 : Nat) (0 : Nat)), ((3 : Nat), AV.p true (PV.v (Value.int IntKind.i64 (IntKind.i64.wrap ((↑t : Int) * (2 : Int)))))), ((14 : Nat), AV.p true (PV.v (Value.bool (decide (IntKind.i64.wrap ((2 : Int) * (↑t : Int)) < (↑n : Int))))))] [((1 : Nat), Ob.box [AV.p true (PV.v (Value.int IntKind.i64 (↑n : Int)))])])) (VC.loop ir17_L4 [Item.bend (2 : Nat), Item.ir ir17_T5] (St.mk [((1 : Nat), AV.adr (1 : Nat) (0 : Nat)), ((3 : Nat), AV.p true (PV.v (Value.int IntKind.i64 (↑t : Int)))), ((14 : Nat), AV.p true (PV.v (Value.bool (decide (IntKind.i64.wrap ((2 : Int) * (↑t : Int)) < (↑n : Int)))))), ((4 : Nat), AV.adr (4 : Nat) (0 : Nat)), ((5 : Nat), AV.cl (48 : Nat) [] [AV.adr (1 : Nat) (0 : Nat), AV.adr (4 : Nat) (0 : Nat)]), ((6 : Nat), AV.p true (PV.v (Value.int IntKind.i64 (↑t : Int))))] [((1 : Nat), Ob.box [AV.p true (PV.v (Value.int IntKind.i64 (↑n : Int)))]), ((4 : Nat), Ob.box [AV.p true (PV.v (Value.slice none (0 : Nat) (0 : Nat)))])])) := by intros; kernel_rfl
abbrev nwFn : AV := .cl 48 [] [.adr 1 0, .adr 4 0]
def st_niN2 (n t : Nat) (x : Nat × LP) : St := ⟨[(1, .adr 1 0), (3, AI t), (4, .adr 4 0), (5, nwFn), (6, AI x.1)], [(1, .box [AI n]), (4, .box [.own 77777]), (77777, NR false x.2)]⟩
theorem evr_niN2 : ∀ (n t : Nat) (I : Nat × LP → St → Prop) (x : Nat × LP), ev G0 res17 [] (3000 : Nat) ((Or.call [(1 : Nat), (4 : Nat), (77777 : Nat)] (AV.tp []) [((0 : Nat), Ob.box [AI (↑n : Int)]), ((1 : Nat), Ob.box [AV.own (3 : Nat)]), ((3 : Nat), NR false (x.2 ++ cF n x.1 x.1 (0 : Nat) (0 : Nat)))] Or.nil).split Or.nil) [Item.ir ir17_L4, Item.lend (I x), Item.bend (2 : Nat), Item.ir ir17_T5] (st_niN2 n t x) = VC.split (decide ((0 : Int) < (↑x.1 : Int))) (VC.call (48 : Nat) [AV.p true (PV.v (Value.int IntKind.i64 (↑x.1 : Int))), AV.p true (PV.v (Value.int IntKind.i64 (0 : Int))), AV.p true (PV.v (Value.int IntKind.i64 (↑x.1 : Int))), AV.adr (0 : Nat) (0 : Nat), AV.adr (1 : Nat) (0 : Nat)] [((0 : Nat), Ob.box [AV.p true (PV.v (Value.int IntKind.i64 (↑n : Int)))]), ((1 : Nat), Ob.box [AV.own (2 : Nat)]), ((2 : Nat), Ob.row Mode.u false (2 : Nat) (List.length x.2) (NB x.2) [])] (AV.tp []) [((0 : Nat), Ob.box [AI (↑n : Int)]), ((1 : Nat), Ob.box [AV.own (3 : Nat)]), ((3 : Nat), NR false (x.2 ++ cF n x.1 x.1 (0 : Nat) (0 : Nat)))] (VC.loop ir17_L2 [Item.bend (4 : Nat), Item.bend (3 : Nat), Item.ir ir17_T3, Item.lend (I x), Item.bend (2 : Nat), Item.ir ir17_T5] (St.mk [((1 : Nat), AV.adr (1 : Nat) (0 : Nat)), ((3 : Nat), AV.p true (PV.v (Value.int IntKind.i64 (↑t : Int)))), ((4 : Nat), AV.adr (4 : Nat) (0 : Nat)), ((5 : Nat), AV.cl (48 : Nat) [] [AV.adr (1 : Nat) (0 : Nat), AV.adr (4 : Nat) (0 : Nat)]), ((6 : Nat), AV.p true (PV.v (Value.int IntKind.i64 (↑x.1 : Int)))), ((20 : Nat), AV.p true (PV.v (Value.bool (decide ((0 : Int) < (↑x.1 : Int)))))), ((7 : Nat), AV.p true (PV.v (Value.int IntKind.i64 (↑t : Int))))] [((1 : Nat), Ob.box [AV.p true (PV.v (Value.int IntKind.i64 (↑n : Int)))]), ((4 : Nat), Ob.box [AV.own (1026 : Nat)]), ((1026 : Nat), Ob.row Mode.u false (2 : Nat) (List.length (x.2 ++ cF n x.1 x.1 (0 : Nat) (0 : Nat))) (NB (x.2 ++ cF n x.1 x.1 (0 : Nat) (0 : Nat))) [])]))) (VC.done (St.mk [((1 : Nat), AV.adr (1 : Nat) (0 : Nat)), ((3 : Nat), AV.p true (PV.v (Value.int IntKind.i64 (↑t : Int)))), ((4 : Nat), AV.adr (4 : Nat) (0 : Nat)), ((5 : Nat), AV.cl (48 : Nat) [] [AV.adr (1 : Nat) (0 : Nat), AV.adr (4 : Nat) (0 : Nat)]), ((6 : Nat), AV.p true (PV.v (Value.int IntKind.i64 (↑x.1 : Int)))), ((20 : Nat), AV.p true (PV.v (Value.bool (decide ((0 : Int) < (↑x.1 : Int)))))), ((2 : Nat), AV.own (77777 : Nat))] [((1 : Nat), Ob.box [AV.p true (PV.v (Value.int IntKind.i64 (↑n : Int)))]), ((4 : Nat), Ob.box [AV.own (77777 : Nat)]), ((77777 : Nat), Ob.row Mode.u false (2 : Nat) (List.length x.2) (NB x.2) [])])) := by intros; kernel_rfl
def st_niN3 (n t p : Nat) (x : Nat × LP) : St := ⟨[(1, .adr 1 0), (3, AI t), (4, .adr 4 0), (5, nwFn), (6, AI p), (7, AI x.1)], [(1, .box [AI n]), (4, .box [.own 77777]), (77777, NR false x.2)]⟩
theorem evr_niN3 : ∀ (n t p : Nat) (I J : Nat × LP → St → Prop) (y x : Nat × LP), ev G0 res17 [] (3000 : Nat) ((Or.call [(1 : Nat), (4 : Nat), (77777 : Nat)] (AV.tp []) [((0 : Nat), Ob.box [AI (↑n : Int)]), ((1 : Nat), Ob.box [AV.own (3 : Nat)]), ((3 : Nat), NR false (x.2 ++ cF n p (IntKind.i64.wrap ((↑x.1 : Int) - (↑p : Int))).toNat (1 : Nat) (0 : Nat)))] Or.nil).split Or.nil) [Item.ir ir17_L2, Item.lend (J x), Item.bend (4 : Nat), Item.bend (3 : Nat), Item.ir ir17_T3, Item.lend (I y), Item.bend (2 : Nat), Item.ir ir17_T5] (st_niN3 n t p x) = VC.split (decide ((↑p : Int) < (↑x.1 : Int))) (VC.call (48 : Nat) [AV.p true (PV.v (Value.int IntKind.i64 (↑p : Int))), AV.p true (PV.v (Value.int IntKind.i64 (↑p : Int))), AV.p true (PV.v (Value.int IntKind.i64 (IntKind.i64.wrap ((↑x.1 : Int) - (↑p : Int))))), AV.adr (0 : Nat) (0 : Nat), AV.adr (1 : Nat) (0 : Nat)] [((0 : Nat), Ob.box [AV.p true (PV.v (Value.int IntKind.i64 (↑n : Int)))]), ((1 : Nat), Ob.box [AV.own (2 : Nat)]), ((2 : Nat), Ob.row Mode.u false (2 : Nat) (List.length x.2) (NB x.2) [])] (AV.tp []) [((0 : Nat), Ob.box [AI (↑n : Int)]), ((1 : Nat), Ob.box [AV.own (3 : Nat)]), ((3 : Nat), NR false (x.2 ++ cF n p (IntKind.i64.wrap ((↑x.1 : Int) - (↑p : Int))).toNat (1 : Nat) (0 : Nat)))] (VC.need ((2 : Int) ≠ (0 : Int)) (VC.lend (J x) (St.mk [((1 : Nat), AV.adr (1 : Nat) (0 : Nat)), ((3 : Nat), AV.p true (PV.v (Value.int IntKind.i64 (↑t : Int)))), ((4 : Nat), AV.adr (4 : Nat) (0 : Nat)), ((5 : Nat), AV.cl (48 : Nat) [] [AV.adr (1 : Nat) (0 : Nat), AV.adr (4 : Nat) (0 : Nat)]), ((6 : Nat), AV.p true (PV.v (Value.int IntKind.i64 (↑p : Int)))), ((7 : Nat), AV.p true (PV.v (Value.int IntKind.i64 (IntKind.i64.wrap ((↑x.1 : Int).tdiv (2 : Int)))))), ((30 : Nat), AV.p true (PV.v (Value.bool (decide ((↑p : Int) < (↑x.1 : Int))))))] [((1 : Nat), Ob.box [AV.p true (PV.v (Value.int IntKind.i64 (↑n : Int)))]), ((4 : Nat), Ob.box [AV.own (1039 : Nat)]), ((1039 : Nat), Ob.row Mode.u false (2 : Nat) (List.length (x.2 ++ cF n p (IntKind.i64.wrap ((↑x.1 : Int) - (↑p : Int))).toNat (1 : Nat) (0 : Nat))) (NB (x.2 ++ cF n p (IntKind.i64.wrap ((↑x.1 : Int) - (↑p : Int))).toNat (1 : Nat) (0 : Nat))) [])])))) (VC.need ((2 : Int) ≠ (0 : Int)) (VC.lend (I y) (St.mk [((1 : Nat), AV.adr (1 : Nat) (0 : Nat)), ((3 : Nat), AV.p true (PV.v (Value.int IntKind.i64 (↑t : Int)))), ((4 : Nat), AV.adr (4 : Nat) (0 : Nat)), ((5 : Nat), AV.cl (48 : Nat) [] [AV.adr (1 : Nat) (0 : Nat), AV.adr (4 : Nat) (0 : Nat)]), ((6 : Nat), AV.p true (PV.v (Value.int IntKind.i64 (IntKind.i64.wrap ((↑p : Int).tdiv (2 : Int)))))), ((7 : Nat), AV.p true (PV.v (Value.int IntKind.i64 (↑x.1 : Int)))), ((30 : Nat), AV.p true (PV.v (Value.bool (decide ((↑p : Int) < (↑x.1 : Int))))))] [((1 : Nat), Ob.box [AV.p true (PV.v (Value.int IntKind.i64 (↑n : Int)))]), ((4 : Nat), Ob.box [AV.own (77777 : Nat)]), ((77777 : Nat), Ob.row Mode.u false (2 : Nat) (List.length x.2) (NB x.2) [])]))) := by intros; kernel_rfl
theorem half_pow {p t : Nat} (h : ∃ e, p = 2 ^ e ∧ e ≤ 8) : p / 2 = 0 ∨ ∃ e, p / 2 = 2 ^ e ∧ e ≤ 8 := by
  obtain ⟨e, rfl, he⟩ := h
  cases e with
  | zero => exact .inl (by decide)
  | succ e => exact .inr ⟨e, by rw [Nat.pow_succ]; omega, by omega⟩
theorem top_pow {n : Nat} (hn : n ≤ 256) : ∃ e, topN n 1 = 2 ^ e ∧ e ≤ 8 := by
  obtain ⟨j, h1, _⟩ := topN_pow n 0
  rw [Nat.pow_zero] at h1
  refine ⟨j, h1, ?_⟩
  have h2 := topN_lt n 1 (by omega) (.inr rfl)
  rcases Nat.lt_or_ge 8 j with h3 | h3
  · have : 2 ^ 9 ≤ 2 ^ j := Nat.pow_le_pow_right (by decide) h3
    omega
  · exact h3
theorem wrap_half (p : Nat) (hp : p ≤ 1048576) : IntKind.i64.wrap ((p : Int).tdiv 2) = ((p / 2 : Nat) : Int) := by
  rw [Int.tdiv_eq_ediv_of_nonneg (by omega)]
  exact (wrap_in (by omega) (by omega)).trans (by omega)
theorem c_niN (n : Nat) (hn : n ≤ 256) : PObj Tryd.prog G0 17 [AI n] [] (.own 0) [(0, NR false (netL n))] := by
  refine PObj.by chk17 rfl (ev_niN n) ?_
  simp only [VC.holds_split, VC.holds_need, VC.holds_doneP, VC.holds_done, VC.holds_either, VC.holds_call, VC.holds_callE, VC.holds_lend, VC.holds_stop, VC.holds_fail, decide_eq_true_eq, decide_eq_false_iff_not]
  refine ⟨c_in _ _ _, fun h1 => ?_, fun h1 => ?_⟩
  · have : inB (n : Int) 0 256 = true := by simp [inB]; omega
    simp [this] at h1
  · have hT := netL_len hn
    have htl := topN_lt n 1 (by omega) (.inr rfl)
    refine loop_by (st_niN n) (fun t => 0 < t ∧ (t < n ∨ t = 1) ∧ topN n t = topN n 1) (fun t => n - t) 1 [] [] [] ⟨by omega, .inr rfl, rfl⟩ ?_ (evr_niN n) fun t ht => ?_
    · simp [st_niN, hbs, St.lowers, St.lower, stLe, leEnv, leObs, obLe, injB, pinC, AV.leC, AV.leCs, PV.leC, PV.Le_v, St.get, St.obj, look, rho, isNew, keptC, renH, Mode.ok, Mode.isZ, PV.isVal, PV.isNilSl, List.all_nil, List.all_cons, List.any_nil, List.any_cons, List.map_nil, List.map_cons, PV.Le_self]
    · obtain ⟨ht0, htn, hte⟩ := ht
      have e1 : IntKind.i64.wrap (2 * (t : Int)) = ((2 * t : Nat) : Int) := (wrap_in (by omega) (by omega)).trans (by omega)
      have e2 : IntKind.i64.wrap ((t : Int) * 2) = ((2 * t : Nat) : Int) := (wrap_in (by omega) (by omega)).trans (by omega)
      simp only [VC.holds_split, VC.holds_need, VC.holds_doneP, VC.holds_done, VC.holds_either, VC.holds_call, VC.holds_callE, VC.holds_lend, VC.holds_stop, VC.holds_fail, decide_eq_true_eq, decide_eq_false_iff_not, e1, e2]
      refine ⟨fun h2 => Again.mk (2 * t) [] [] [] ⟨by omega, .inl (by omega), ?_⟩ (by omega) ?_, fun h2 => ?_⟩
      · rw [← topN_in (by omega) ht0]; exact hte
      · simp [st_niN, hbs, St.lowers, St.lower, stLe, leEnv, leObs, obLe, injB, pinC, AV.leC, AV.leCs, PV.leC, PV.Le_v, St.get, St.obj, look, rho, isNew, keptC, renH, Mode.ok, Mode.isZ, PV.isVal, PV.isNilSl, List.all_nil, List.all_cons, List.any_nil, List.any_cons, List.map_nil, List.map_cons, PV.Le_self]
      · rw [topN_end (by omega)] at hte
        subst hte
        generalize htop : topN n 1 = t at *
        have hpw := top_pow hn
        rw [htop] at hpw
        refine loop_by (st_niN2 n t) (fun x => x.2 ++ pL n t x.1 = netL n ∧ (x.1 = 0 ∨ ∃ e, x.1 = 2 ^ e ∧ e ≤ 8) ∧ x.1 ≤ t) (fun x => x.1) (t, []) [] [] [77777] ⟨by simp [netL, htop], .inr hpw, Nat.le_refl _⟩ ?_ (evr_niN2 n t) fun x hx => ?_
        · simp [st_niN2, hbs, St.lowers, St.lower, stLe, leEnv, leObs, obLe, injB, pinC, AV.leC, AV.leCs, PV.leC, PV.Le_v, St.get, St.obj, look, rho, isNew, keptC, renH, Mode.ok, Mode.isZ, PV.isVal, PV.isNilSl, List.all_nil, List.all_cons, List.any_nil, List.any_cons, List.map_nil, List.map_cons, PV.Le_self, AV.leCs]
        · obtain ⟨p, L⟩ := x
          obtain ⟨hinv, hp, hpt⟩ := hx
          simp only [] at hinv hp hpt
          have hlen := congrArg List.length hinv
          rw [List.length_append] at hlen
          simp only [VC.holds_split, VC.holds_need, VC.holds_doneP, VC.holds_done, VC.holds_either, VC.holds_call, VC.holds_callE, VC.holds_lend, VC.holds_stop, VC.holds_fail, decide_eq_true_eq, decide_eq_false_iff_not]
          refine ⟨fun h3 => ⟨?_, ?_⟩, fun h3 => ?_⟩
          · have hp' := hp.resolve_left (by omega)
            rw [pL_in (by omega), List.length_append] at hlen
            exact c_nwC0 _ _ _ _ ⟨hn, hp', by omega⟩
          · have hp' := hp.resolve_left (by omega)
            rw [pL_in (show 0 < p by omega)] at hinv
            refine loop_by (st_niN3 n t p) (fun y => y.2 ++ (qL n p y.1 ++ pL n t (p / 2)) = netL n ∧ y.1 ≤ t) (fun y => y.1) (t, L ++ cF n p p 0 0) [] [(77777, 1026)] [] ⟨by simp only [List.append_assoc]; exact hinv, Nat.le_refl _⟩ ?_ (fun J y => evr_niN3 n t p _ J _ y) fun y hy => ?_
            · simp [st_niN3, hbs, St.lowers, St.lower, stLe, leEnv, leObs, obLe, injB, pinC, AV.leC, AV.leCs, PV.leC, PV.Le_v, St.get, St.obj, look, rho, isNew, keptC, renH, Mode.ok, Mode.isZ, PV.isVal, PV.isNilSl, List.all_nil, List.all_cons, List.any_nil, List.any_cons, List.map_nil, List.map_cons, PV.Le_self, AV.leCs]
            · obtain ⟨q, L'⟩ := y
              obtain ⟨hinv', hqt⟩ := hy
              simp only [] at hinv' hqt
              have hlen' := congrArg List.length hinv'
              rw [List.length_append] at hlen'
              have e3 := wrap_half q (by omega)
              have e4 := wrap_half p (by omega)
              simp only [VC.holds_split, VC.holds_need, VC.holds_doneP, VC.holds_done, VC.holds_either, VC.holds_call, VC.holds_callE, VC.holds_lend, VC.holds_stop, VC.holds_fail, decide_eq_true_eq, decide_eq_false_iff_not, e3, e4]
              refine ⟨fun h4 => ?_, fun h4 => ⟨by decide, Again.mk (p / 2, L') [] [] [] ⟨?_, half_pow (t := t) hp', by simp only []; omega⟩ (by simp only []; omega) ?_⟩⟩
              · have e5 : IntKind.i64.wrap ((q : Int) - p) = ((q - p : Nat) : Int) := (wrap_in (by omega) (by omega)).trans (by omega)
                rw [qL_in (show p < q by omega), List.append_assoc] at hinv'
                rw [qL_in (show p < q by omega), List.append_assoc, List.length_append] at hlen'
                simp only [e5, Int.toNat_natCast]
                refine ⟨?_, by decide, Again.mk (q / 2, L' ++ cF n p (q - p) 1 0) [] [(77777, 1039)] [] ⟨by simp only [List.append_assoc]; exact hinv', by simp only []; omega⟩ (by simp only []; omega) ?_⟩
                · have := c_nwC1 false n p ((q - p : Nat) : Int) L' ⟨hn, hp', by omega, by omega, by rw [Int.toNat_natCast]; omega⟩
                  rwa [Int.toNat_natCast] at this
                · simp [st_niN3, hbs, St.lowers, St.lower, stLe, leEnv, leObs, obLe, injB, pinC, AV.leC, AV.leCs, PV.leC, PV.Le_v, St.get, St.obj, look, rho, isNew, keptC, renH, Mode.ok, Mode.isZ, PV.isVal, PV.isNilSl, List.all_nil, List.all_cons, List.any_nil, List.any_cons, List.map_nil, List.map_cons, PV.Le_self, AV.leCs]
              · rw [qL_end (by omega), List.nil_append] at hinv'
                exact hinv'
              · simp [st_niN2, hbs, St.lowers, St.lower, stLe, leEnv, leObs, obLe, injB, pinC, AV.leC, AV.leCs, PV.leC, PV.Le_v, St.get, St.obj, look, rho, isNew, keptC, renH, Mode.ok, Mode.isZ, PV.isVal, PV.isNilSl, List.all_nil, List.all_cons, List.any_nil, List.any_cons, List.map_nil, List.map_cons, PV.Le_self, AV.leCs]
          · obtain rfl : p = 0 := by omega
            rw [pL_end, List.append_nil] at hinv
            subst hinv
            refine ResOk.mk [] [(0, 77777)] [] _ _ ?_ ⟨rfl, rfl⟩
            simp [doneC, resOf, resAV, tup, pinR, PV.Le_self, hbs, St.lowers, St.lower, stLe, leEnv, leObs, obLe, injB, pinC, AV.leC, AV.leCs, PV.leC, PV.Le_v, St.get, St.obj, look, rho, isNew, keptC, renH, Mode.ok, Mode.isZ, PV.isVal, PV.isNilSl, List.all_nil, List.all_cons, List.any_nil, List.any_cons, List.map_nil, List.map_cons, res17]
end Go.Gw

namespace Go.Gw
open Go Go.Proofs
set_option linter.unusedSimpArgs false
set_option linter.unusedVariables false
set_option maxRecDepth 100000
def ir28_L1 : Ir :=
  (.seq
  (.seq
  (.reg [14, 15, 16] [o 14 (.mov (tt 4)),
    o 15 (.bin .mul (ci 2) (tt 14)),
    o 16 (.mov (tt 0)),
    o 17 (.bin .lss (tt 15) (tt 16))])
  (.cond (tt 17)
   .skip
   (.exit 0)))
  (.block 1
   (.reg [18, 19] [o 18 (.mov (tt 4)),
     o 19 (.bin .mul (ci 2) (tt 18)),
     o 4 (.mov (tt 19))])))
def ir28_L2 : Ir :=
  (.seq
  (.seq
  (.reg [25, 26, 27, 28] [o 25 (.mov (tt 6)),
    o 26 (.mov (tt 5)),
    o 27 (.bin .add (tt 25) (tt 26)),
    o 28 (.mov (tt 0)),
    o 29 (.bin .lss (tt 27) (tt 28))])
  (.cond (tt 29)
   .skip
   (.exit 4)))
  (.seq
  (.block 5
   (.seq
   (.reg [32, 33, 34, 35] [o 32 (.mov (tt 6)),
     o 33 (.mov (tt 5)),
     o 34 (.bin .quo (tt 32) (tt 33)),
     o 35 (.bin .rem (tt 34) (ci 2)),
     o 36 (.bin .eql (tt 35) (ci 0))])
   (.cond (tt 36)
    (.reg [37, 38, 39, 40, 41, 42, 43, 44] [o 37 (.mov (tt 3)),
      o 38 (.mov (tt 6)),
      o 39 (.mov (tt 6)),
      o 40 (.mov (tt 5)),
      o 41 (.bin .add (tt 39) (tt 40)),
      o 42 (.build [(.int .i64 0), (.int .i64 0)] [(0, 1, (tt 38)), (1, 1, (tt 41))]),
      o 43 (.mkSl 2 1 [(.int .i64 0), (.int .i64 0)] [(0, (tt 42))]),
      o 44 (.app 2 16 true (tt 37) (tt 43)),
      o 3 (.mov (tt 44))])
    .skip)))
  (.reg [30, 31] [o 30 (.mov (tt 6)),
    o 31 (.bin .add (tt 30) (ci 1)),
    o 6 (.mov (tt 31))])))
def ir28_L3 : Ir :=
  (.seq
  (.seq
  (.reg [51, 52, 53, 54, 55, 56] [o 51 (.mov (tt 8)),
    o 52 (.mov (tt 7)),
    o 53 (.bin .add (tt 51) (tt 52)),
    o 54 (.mov (tt 5)),
    o 55 (.bin .sub (tt 53) (tt 54)),
    o 56 (.mov (tt 0)),
    o 57 (.bin .lss (tt 55) (tt 56))])
  (.cond (tt 57)
   .skip
   (.exit 8)))
  (.seq
  (.block 9
   (.seq
   (.reg [60, 61, 62, 63] [o 60 (.mov (tt 8)),
     o 61 (.mov (tt 5)),
     o 62 (.bin .quo (tt 60) (tt 61)),
     o 63 (.bin .rem (tt 62) (ci 2)),
     o 64 (.bin .eql (tt 63) (ci 1))])
   (.cond (tt 64)
    (.reg [65, 66, 67, 68, 69, 70, 71, 72, 73, 74] [o 65 (.mov (tt 3)),
      o 66 (.mov (tt 8)),
      o 67 (.mov (tt 8)),
      o 68 (.mov (tt 7)),
      o 69 (.bin .add (tt 67) (tt 68)),
      o 70 (.mov (tt 5)),
      o 71 (.bin .sub (tt 69) (tt 70)),
      o 72 (.build [(.int .i64 0), (.int .i64 0)] [(0, 1, (tt 66)), (1, 1, (tt 71))]),
      o 73 (.mkSl 2 1 [(.int .i64 0), (.int .i64 0)] [(0, (tt 72))]),
      o 74 (.app 2 16 true (tt 65) (tt 73)),
      o 3 (.mov (tt 74))])
    .skip)))
  (.reg [58, 59] [o 58 (.mov (tt 8)),
    o 59 (.bin .add (tt 58) (ci 1)),
    o 8 (.mov (tt 59))])))
def ir28_T4 : Ir :=
  (.reg [49, 50] [o 49 (.mov (tt 7)),
    o 50 (.bin .quo (tt 49) (ci 2)),
    o 7 (.mov (tt 50))])
def ir28_L5 : Ir :=
  (.seq
  (.seq
  (.reg [46, 47] [o 46 (.mov (tt 7)),
    o 47 (.mov (tt 5)),
    o 48 (.bin .gtr (tt 46) (tt 47))])
  (.cond (tt 48)
   .skip
   (.exit 6)))
  (.seq
  (.block 7
   (.seq
   (.reg [] [o 8 (.mov (ci 0))])
   (.block 8
    (.loop ir28_L3))))
  ir28_T4))
def ir28_T6 : Ir :=
  (.seq
  (.reg [45] [o 45 (.mov (tt 4)),
    o 7 (.mov (tt 45))])
  (.block 6
   (.loop ir28_L5)))
def ir28_T7 : Ir :=
  (.reg [23, 24] [o 23 (.mov (tt 5)),
    o 24 (.bin .quo (tt 23) (ci 2)),
    o 5 (.mov (tt 24))])
def ir28_L8 : Ir :=
  (.seq
  (.seq
  (.reg [21] [o 21 (.mov (tt 5)),
    o 22 (.bin .gtr (tt 21) (ci 0))])
  (.cond (tt 22)
   .skip
   (.exit 2)))
  (.seq
  (.block 3
   (.seq
   (.seq
   (.reg [] [o 6 (.mov (ci 0))])
   (.block 4
    (.loop ir28_L2)))
   ir28_T6))
  ir28_T7))
def ir28_T9 : Ir :=
  (.seq
  (.reg [75] [o 75 (.mov (tt 3)),
    o 2 (.mov (tt 75))])
  .ret)
def ir28_T10 : Ir :=
  (.seq
  (.seq
  (.reg [20] [o 20 (.mov (tt 4)),
    o 5 (.mov (tt 20))])
  (.block 2
   (.loop ir28_L8)))
  ir28_T9)
def ir28 : Ir :=
  (.seq
  (.reg [] [o 2 (.mov (.const (.slice none 0 0)))])
  (.seq
  (.reg [9] [o 9 (.mkSl 2 0 [(.int .i64 0), (.int .i64 0)] []),
    o 3 (.mov (tt 9))])
  (.seq
  (.seq
  (.reg [10, 11] [o 10 (.mov (tt 0)),
    o 11 (.call 57 [(tt 10), (ci 2), (ci 256)]),
    o 12 (.un .not (tt 11))])
  (.cond (tt 12)
   (.seq
   (.reg [13] [o 13 (.mov (tt 3)),
     o 2 (.mov (tt 13))])
   .ret)
   .skip))
  (.seq
  (.reg [] [o 4 (.mov (ci 1))])
  (.seq
  (.block 0
   (.loop ir28_L1))
  ir28_T10)))))
def keep28 : List Nat := [0, 2, 3, 4, 5, 6, 7, 8, 12, 17, 22, 29, 36, 48, 57, 64]
def res28 : List RI := [.tmp 2]
theorem chk28 : chk Tryd.prog 28 1 keep28 = some (ir28, res28) := by kernel_rfl

theorem ev_nsN : ∀ (n : Nat), ev G0 res28 [] (3000 : Nat) (Or.call [] (AB (inB (↑n : Int) (2 : Int) (256 : Int))) [] (Or.nil.split Or.nil)) [Item.ir ir28] (start [AI (↑n : Int)] []) = VC.call (57 : Nat) [AV.p true (PV.v (Value.int IntKind.i64 (↑n : Int))), AV.p true (PV.v (Value.int IntKind.i64 (2 : Int))), AV.p true (PV.v (Value.int IntKind.i64 (256 : Int)))] [] (AB (inB (↑n : Int) (2 : Int) (256 : Int))) [] (VC.split (!inB (↑n : Int) (2 : Int) (256 : Int)) (VC.done (St.mk [((0 : Nat), AV.p true (PV.v (Value.int IntKind.i64 (↑n : Int)))), ((2 : Nat), AV.own (9 : Nat)), ((3 : Nat), AV.own (9 : Nat)), ((12 : Nat), AV.p true (PV.v (Value.bool !inB (↑n : Int) (2 : Int) (256 : Int))))] [((9 : Nat), Ob.row Mode.u true (2 : Nat) (0 : Nat) (setG [] fun (x j : Nat) => PV.v ([Value.int IntKind.i64 (0 : Int), Value.int IntKind.i64 (0 : Int)].getD j undef)) [])])) (VC.loop ir28_L1 [Item.bend (0 : Nat), Item.ir ir28_T10] (St.mk [((0 : Nat), AV.p true (PV.v (Value.int IntKind.i64 (↑n : Int)))), ((2 : Nat), AV.p true (PV.v (Value.slice none (0 : Nat) (0 : Nat)))), ((3 : Nat), AV.own (9 : Nat)), ((12 : Nat), AV.p true (PV.v (Value.bool !inB (↑n : Int) (2 : Int) (256 : Int)))), ((4 : Nat), AV.p true (PV.v (Value.int IntKind.i64 (1 : Int))))] [((9 : Nat), Ob.row Mode.u true (2 : Nat) (0 : Nat) (setG [] fun (x j : Nat) => PV.v ([Value.int IntKind.i64 (0 : Int), Value.int IntKind.i64 (0 : Int)].getD j undef)) [])]))) := by intros; kernel_rfl
def st_nsNa (n t : Nat) : St := ⟨[(0, AI n), (3, .own 77777), (4, AI t)], [(77777, NR false [])]⟩
theorem evr_nsNa : ∀ (n : Nat) (I : Nat → St → Prop) (t : Nat), ev G0 res28 [] (3000 : Nat) (Or.nil.split Or.nil) [Item.ir ir28_L1, Item.lend (I t), Item.bend (0 : Nat), Item.ir ir28_T10] (st_nsNa n t) = VC.split (decide (IntKind.i64.wrap ((2 : Int) * (↑t : Int)) < (↑n : Int))) (VC.lend (I t) (St.mk [((0 : Nat), AV.p true (PV.v (Value.int IntKind.i64 (↑n : Int)))), ((3 : Nat), AV.own (77777 : Nat)), ((4 : Nat), AV.p true (PV.v (Value.int IntKind.i64 (IntKind.i64.wrap ((2 : Int) * (↑t : Int)))))), ((17 : Nat), AV.p true (PV.v (Value.bool (decide (IntKind.i64.wrap ((2 : Int) * (↑t : Int)) < (↑n : Int))))))] [((77777 : Nat), Ob.row Mode.u false (2 : Nat) (0 : Nat) (NB []) [])])) (VC.loop ir28_L8 [Item.bend (2 : Nat), Item.ir ir28_T9] (St.mk [((0 : Nat), AV.p true (PV.v (Value.int IntKind.i64 (↑n : Int)))), ((3 : Nat), AV.own (77777 : Nat)), ((4 : Nat), AV.p true (PV.v (Value.int IntKind.i64 (↑t : Int)))), ((17 : Nat), AV.p true (PV.v (Value.bool (decide (IntKind.i64.wrap ((2 : Int) * (↑t : Int)) < (↑n : Int)))))), ((5 : Nat), AV.p true (PV.v (Value.int IntKind.i64 (↑t : Int))))] [((77777 : Nat), Ob.row Mode.u false (2 : Nat) (0 : Nat) (NB []) [])])) := by intros; kernel_rfl
def st_nsNb (n t : Nat) (x : Nat × LP) : St := ⟨[(0, AI n), (3, .own 77777), (4, AI t), (5, AI x.1)], [(77777, NR false x.2)]⟩
theorem evr_nsNb : ∀ (n t : Nat) (I : Nat × LP → St → Prop) (x : Nat × LP), ev G0 res28 [] (3000 : Nat) (Or.nil.split Or.nil) [Item.ir ir28_L8, Item.lend (I x), Item.bend (2 : Nat), Item.ir ir28_T9] (st_nsNb n t x) = VC.split (decide ((0 : Int) < (↑x.1 : Int))) (VC.loop ir28_L2 [Item.bend (4 : Nat), Item.ir ir28_T6, Item.bend (3 : Nat), Item.ir ir28_T7, Item.lend (I x), Item.bend (2 : Nat), Item.ir ir28_T9] (St.mk [((0 : Nat), AV.p true (PV.v (Value.int IntKind.i64 (↑n : Int)))), ((3 : Nat), AV.own (77777 : Nat)), ((4 : Nat), AV.p true (PV.v (Value.int IntKind.i64 (↑t : Int)))), ((5 : Nat), AV.p true (PV.v (Value.int IntKind.i64 (↑x.1 : Int)))), ((22 : Nat), AV.p true (PV.v (Value.bool (decide ((0 : Int) < (↑x.1 : Int)))))), ((6 : Nat), AV.p true (PV.v (Value.int IntKind.i64 (0 : Int))))] [((77777 : Nat), Ob.row Mode.u false (2 : Nat) (List.length x.2) (NB x.2) [])])) (VC.done (St.mk [((0 : Nat), AV.p true (PV.v (Value.int IntKind.i64 (↑n : Int)))), ((3 : Nat), AV.own (77777 : Nat)), ((4 : Nat), AV.p true (PV.v (Value.int IntKind.i64 (↑t : Int)))), ((5 : Nat), AV.p true (PV.v (Value.int IntKind.i64 (↑x.1 : Int)))), ((22 : Nat), AV.p true (PV.v (Value.bool (decide ((0 : Int) < (↑x.1 : Int)))))), ((2 : Nat), AV.own (77777 : Nat))] [((77777 : Nat), Ob.row Mode.u false (2 : Nat) (List.length x.2) (NB x.2) [])])) := by intros; kernel_rfl
def st_nsNc (n t p : Nat) (x : Nat × LP) : St := ⟨[(0, AI n), (3, .own 77777), (4, AI t), (5, AI p), (6, AI x.1)], [(77777, NR false x.2)]⟩
theorem evr_nsNc : ∀ (n t p : Nat) (I J : Nat × LP → St → Prop) (y x : Nat × LP), ev G0 res28 [] (3000 : Nat) ((Or.nil.split Or.nil).split Or.nil) [Item.ir ir28_L2, Item.lend (J x), Item.bend (4 : Nat), Item.ir ir28_T6, Item.bend (3 : Nat), Item.ir ir28_T7, Item.lend (I y), Item.bend (2 : Nat), Item.ir ir28_T9] (st_nsNc n t p x) = VC.split (decide (IntKind.i64.wrap ((↑x.1 : Int) + (↑p : Int)) < (↑n : Int))) (VC.need ((↑p : Int) ≠ (0 : Int)) (VC.need ((2 : Int) ≠ (0 : Int)) (VC.split ((IntKind.i64.wrap ((↑x.1 : Int).tdiv (↑p : Int))).tmod (2 : Int) == (0 : Int)) (VC.need (((List.length x.2 + (1 : Nat)) * (16 : Nat) ≤ (140737488355328 : Nat) ∧ (↑(List.length x.2 + (1 : Nat)) : Int) ≤ (9223372036854775807 : Int)) ∧ allV (2 : Nat) (1 : Nat) (setG [((0 : Nat), (0 : Nat), PV.v (Value.int IntKind.i64 (↑x.1 : Int))), ((0 : Nat), (1 : Nat), PV.v (Value.int IntKind.i64 (IntKind.i64.wrap ((↑x.1 : Int) + (↑p : Int)))))] fun (x_1 j : Nat) => PV.v ([Value.int IntKind.i64 (0 : Int), Value.int IntKind.i64 (0 : Int)].getD j undef))) (VC.lend (J x) (St.mk [((0 : Nat), AV.p true (PV.v (Value.int IntKind.i64 (↑n : Int)))), ((3 : Nat), AV.own (44 : Nat)), ((4 : Nat), AV.p true (PV.v (Value.int IntKind.i64 (↑t : Int)))), ((5 : Nat), AV.p true (PV.v (Value.int IntKind.i64 (↑p : Int)))), ((6 : Nat), AV.p true (PV.v (Value.int IntKind.i64 (IntKind.i64.wrap ((↑x.1 : Int) + (1 : Int)))))), ((29 : Nat), AV.p true (PV.v (Value.bool (decide (IntKind.i64.wrap ((↑x.1 : Int) + (↑p : Int)) < (↑n : Int)))))), ((36 : Nat), AV.p true (PV.v (Value.bool ((IntKind.i64.wrap ((↑x.1 : Int).tdiv (↑p : Int))).tmod (2 : Int) == (0 : Int)))))] [((44 : Nat), Ob.row Mode.u false (2 : Nat) (List.length x.2 + (1 : Nat)) (fun (a b : Nat) => if a < List.length x.2 then NB x.2 a b else setG [((0 : Nat), (0 : Nat), PV.v (Value.int IntKind.i64 (↑x.1 : Int))), ((0 : Nat), (1 : Nat), PV.v (Value.int IntKind.i64 (IntKind.i64.wrap ((↑x.1 : Int) + (↑p : Int)))))] (fun (x_1 j : Nat) => PV.v ([Value.int IntKind.i64 (0 : Int), Value.int IntKind.i64 (0 : Int)].getD j undef)) (a - List.length x.2) b) [])]))) (VC.lend (J x) (St.mk [((0 : Nat), AV.p true (PV.v (Value.int IntKind.i64 (↑n : Int)))), ((3 : Nat), AV.own (77777 : Nat)), ((4 : Nat), AV.p true (PV.v (Value.int IntKind.i64 (↑t : Int)))), ((5 : Nat), AV.p true (PV.v (Value.int IntKind.i64 (↑p : Int)))), ((6 : Nat), AV.p true (PV.v (Value.int IntKind.i64 (IntKind.i64.wrap ((↑x.1 : Int) + (1 : Int)))))), ((29 : Nat), AV.p true (PV.v (Value.bool (decide (IntKind.i64.wrap ((↑x.1 : Int) + (↑p : Int)) < (↑n : Int)))))), ((36 : Nat), AV.p true (PV.v (Value.bool ((IntKind.i64.wrap ((↑x.1 : Int).tdiv (↑p : Int))).tmod (2 : Int) == (0 : Int)))))] [((77777 : Nat), Ob.row Mode.u false (2 : Nat) (List.length x.2) (NB x.2) [])]))))) (VC.loop ir28_L5 [Item.bend (6 : Nat), Item.bend (3 : Nat), Item.ir ir28_T7, Item.lend (I y), Item.bend (2 : Nat), Item.ir ir28_T9] (St.mk [((0 : Nat), AV.p true (PV.v (Value.int IntKind.i64 (↑n : Int)))), ((3 : Nat), AV.own (77777 : Nat)), ((4 : Nat), AV.p true (PV.v (Value.int IntKind.i64 (↑t : Int)))), ((5 : Nat), AV.p true (PV.v (Value.int IntKind.i64 (↑p : Int)))), ((6 : Nat), AV.p true (PV.v (Value.int IntKind.i64 (↑x.1 : Int)))), ((29 : Nat), AV.p true (PV.v (Value.bool (decide (IntKind.i64.wrap ((↑x.1 : Int) + (↑p : Int)) < (↑n : Int)))))), ((7 : Nat), AV.p true (PV.v (Value.int IntKind.i64 (↑t : Int))))] [((77777 : Nat), Ob.row Mode.u false (2 : Nat) (List.length x.2) (NB x.2) [])])) := by intros; kernel_rfl
def st_nsNd (n t p : Nat) (x : Nat × LP) : St := ⟨[(0, AI n), (3, .own 77777), (4, AI t), (5, AI p), (7, AI x.1)], [(77777, NR false x.2)]⟩
theorem evr_nsNd : ∀ (n t p : Nat) (I J : Nat × LP → St → Prop) (y x : Nat × LP), ev G0 res28 [] (3000 : Nat) (Or.nil.split Or.nil) [Item.ir ir28_L5, Item.lend (J x), Item.bend (6 : Nat), Item.bend (3 : Nat), Item.ir ir28_T7, Item.lend (I y), Item.bend (2 : Nat), Item.ir ir28_T9] (st_nsNd n t p x) = VC.split (decide ((↑p : Int) < (↑x.1 : Int))) (VC.loop ir28_L3 [Item.bend (8 : Nat), Item.bend (7 : Nat), Item.ir ir28_T4, Item.lend (J x), Item.bend (6 : Nat), Item.bend (3 : Nat), Item.ir ir28_T7, Item.lend (I y), Item.bend (2 : Nat), Item.ir ir28_T9] (St.mk [((0 : Nat), AV.p true (PV.v (Value.int IntKind.i64 (↑n : Int)))), ((3 : Nat), AV.own (77777 : Nat)), ((4 : Nat), AV.p true (PV.v (Value.int IntKind.i64 (↑t : Int)))), ((5 : Nat), AV.p true (PV.v (Value.int IntKind.i64 (↑p : Int)))), ((7 : Nat), AV.p true (PV.v (Value.int IntKind.i64 (↑x.1 : Int)))), ((48 : Nat), AV.p true (PV.v (Value.bool (decide ((↑p : Int) < (↑x.1 : Int)))))), ((8 : Nat), AV.p true (PV.v (Value.int IntKind.i64 (0 : Int))))] [((77777 : Nat), Ob.row Mode.u false (2 : Nat) (List.length x.2) (NB x.2) [])])) (VC.need ((2 : Int) ≠ (0 : Int)) (VC.lend (I y) (St.mk [((0 : Nat), AV.p true (PV.v (Value.int IntKind.i64 (↑n : Int)))), ((3 : Nat), AV.own (77777 : Nat)), ((4 : Nat), AV.p true (PV.v (Value.int IntKind.i64 (↑t : Int)))), ((5 : Nat), AV.p true (PV.v (Value.int IntKind.i64 (IntKind.i64.wrap ((↑p : Int).tdiv (2 : Int)))))), ((7 : Nat), AV.p true (PV.v (Value.int IntKind.i64 (↑x.1 : Int)))), ((48 : Nat), AV.p true (PV.v (Value.bool (decide ((↑p : Int) < (↑x.1 : Int))))))] [((77777 : Nat), Ob.row Mode.u false (2 : Nat) (List.length x.2) (NB x.2) [])]))) := by intros; kernel_rfl
def st_nsNe (n t p q : Nat) (x : Nat × LP) : St := ⟨[(0, AI n), (3, .own 77777), (4, AI t), (5, AI p), (7, AI q), (8, AI x.1)], [(77777, NR false x.2)]⟩
theorem evr_nsNe : ∀ (n t p q : Nat) (I J K : Nat × LP → St → Prop) (y z x : Nat × LP), ev G0 res28 [] (3000 : Nat) ((Or.nil.split Or.nil).split Or.nil) [Item.ir ir28_L3, Item.lend (K x), Item.bend (8 : Nat), Item.bend (7 : Nat), Item.ir ir28_T4, Item.lend (J z), Item.bend (6 : Nat), Item.bend (3 : Nat), Item.ir ir28_T7, Item.lend (I y), Item.bend (2 : Nat), Item.ir ir28_T9] (st_nsNe n t p q x) = VC.split (decide (IntKind.i64.wrap (IntKind.i64.wrap ((↑x.1 : Int) + (↑q : Int)) - (↑p : Int)) < (↑n : Int))) (VC.need ((↑p : Int) ≠ (0 : Int)) (VC.need ((2 : Int) ≠ (0 : Int)) (VC.split ((IntKind.i64.wrap ((↑x.1 : Int).tdiv (↑p : Int))).tmod (2 : Int) == (1 : Int)) (VC.need (((List.length x.2 + (1 : Nat)) * (16 : Nat) ≤ (140737488355328 : Nat) ∧ (↑(List.length x.2 + (1 : Nat)) : Int) ≤ (9223372036854775807 : Int)) ∧ allV (2 : Nat) (1 : Nat) (setG [((0 : Nat), (0 : Nat), PV.v (Value.int IntKind.i64 (↑x.1 : Int))), ((0 : Nat), (1 : Nat), PV.v (Value.int IntKind.i64 (IntKind.i64.wrap (IntKind.i64.wrap ((↑x.1 : Int) + (↑q : Int)) - (↑p : Int)))))] fun (x_1 j : Nat) => PV.v ([Value.int IntKind.i64 (0 : Int), Value.int IntKind.i64 (0 : Int)].getD j undef))) (VC.lend (K x) (St.mk [((0 : Nat), AV.p true (PV.v (Value.int IntKind.i64 (↑n : Int)))), ((3 : Nat), AV.own (74 : Nat)), ((4 : Nat), AV.p true (PV.v (Value.int IntKind.i64 (↑t : Int)))), ((5 : Nat), AV.p true (PV.v (Value.int IntKind.i64 (↑p : Int)))), ((7 : Nat), AV.p true (PV.v (Value.int IntKind.i64 (↑q : Int)))), ((8 : Nat), AV.p true (PV.v (Value.int IntKind.i64 (IntKind.i64.wrap ((↑x.1 : Int) + (1 : Int)))))), ((57 : Nat), AV.p true (PV.v (Value.bool (decide (IntKind.i64.wrap (IntKind.i64.wrap ((↑x.1 : Int) + (↑q : Int)) - (↑p : Int)) < (↑n : Int)))))), ((64 : Nat), AV.p true (PV.v (Value.bool ((IntKind.i64.wrap ((↑x.1 : Int).tdiv (↑p : Int))).tmod (2 : Int) == (1 : Int)))))] [((74 : Nat), Ob.row Mode.u false (2 : Nat) (List.length x.2 + (1 : Nat)) (fun (a b : Nat) => if a < List.length x.2 then NB x.2 a b else setG [((0 : Nat), (0 : Nat), PV.v (Value.int IntKind.i64 (↑x.1 : Int))), ((0 : Nat), (1 : Nat), PV.v (Value.int IntKind.i64 (IntKind.i64.wrap (IntKind.i64.wrap ((↑x.1 : Int) + (↑q : Int)) - (↑p : Int)))))] (fun (x_1 j : Nat) => PV.v ([Value.int IntKind.i64 (0 : Int), Value.int IntKind.i64 (0 : Int)].getD j undef)) (a - List.length x.2) b) [])]))) (VC.lend (K x) (St.mk [((0 : Nat), AV.p true (PV.v (Value.int IntKind.i64 (↑n : Int)))), ((3 : Nat), AV.own (77777 : Nat)), ((4 : Nat), AV.p true (PV.v (Value.int IntKind.i64 (↑t : Int)))), ((5 : Nat), AV.p true (PV.v (Value.int IntKind.i64 (↑p : Int)))), ((7 : Nat), AV.p true (PV.v (Value.int IntKind.i64 (↑q : Int)))), ((8 : Nat), AV.p true (PV.v (Value.int IntKind.i64 (IntKind.i64.wrap ((↑x.1 : Int) + (1 : Int)))))), ((57 : Nat), AV.p true (PV.v (Value.bool (decide (IntKind.i64.wrap (IntKind.i64.wrap ((↑x.1 : Int) + (↑q : Int)) - (↑p : Int)) < (↑n : Int)))))), ((64 : Nat), AV.p true (PV.v (Value.bool ((IntKind.i64.wrap ((↑x.1 : Int).tdiv (↑p : Int))).tmod (2 : Int) == (1 : Int)))))] [((77777 : Nat), Ob.row Mode.u false (2 : Nat) (List.length x.2) (NB x.2) [])]))))) (VC.need ((2 : Int) ≠ (0 : Int)) (VC.lend (J z) (St.mk [((0 : Nat), AV.p true (PV.v (Value.int IntKind.i64 (↑n : Int)))), ((3 : Nat), AV.own (77777 : Nat)), ((4 : Nat), AV.p true (PV.v (Value.int IntKind.i64 (↑t : Int)))), ((5 : Nat), AV.p true (PV.v (Value.int IntKind.i64 (↑p : Int)))), ((7 : Nat), AV.p true (PV.v (Value.int IntKind.i64 (IntKind.i64.wrap ((↑q : Int).tdiv (2 : Int)))))), ((8 : Nat), AV.p true (PV.v (Value.int IntKind.i64 (↑x.1 : Int)))), ((57 : Nat), AV.p true (PV.v (Value.bool (decide (IntKind.i64.wrap (IntKind.i64.wrap ((↑x.1 : Int) + (↑q : Int)) - (↑p : Int)) < (↑n : Int))))))] [((77777 : Nat), Ob.row Mode.u false (2 : Nat) (List.length x.2) (NB x.2) [])]))) := by intros; kernel_rfl
theorem mod_i {i p : Nat} (hi : i ≤ 1048576) : (IntKind.i64.wrap ((i : Int).tdiv (p : Int))).tmod 2 = ((i / p % 2 : Nat) : Int) := by
  have h1 : i / p ≤ i := Nat.div_le_self i p
  have e : (i : Int).tdiv (p : Int) = ((i / p : Nat) : Int) := by
    rw [Int.tdiv_eq_ediv_of_nonneg (by omega)]; exact (Int.natCast_ediv i p).symm
  rw [e]
  generalize i / p = d at *
  have e2 : IntKind.i64.wrap (d : Int) = (d : Int) := wrap_in (by omega) (by omega)
  rw [e2, Int.tmod_eq_emod_of_nonneg (by omega)]
  omega
theorem allV2 {g : Nat → Nat → PV} (h0 : (g 0 0).isV = true) (h1 : (g 0 1).isV = true) : allV 2 1 g := fun i j hi hj => by
  obtain rfl : i = 0 := by omega
  have : j = 0 ∨ j = 1 := by omega
  rcases this with rfl | rfl
  · exact h0
  · exact h1
theorem c_nsN0 (n : Nat) (hn : n ≤ 256) : PObj Tryd.prog G0 28 [AI n] [] (.own 0) [(0, NR false (netL n))] := by
  refine PObj.by chk28 rfl (ev_nsN n) ?_
  simp only [VC.holds_split, VC.holds_need, VC.holds_doneP, VC.holds_done, VC.holds_either, VC.holds_call, VC.holds_callE, VC.holds_lend, VC.holds_stop, VC.holds_fail, decide_eq_true_eq, decide_eq_false_iff_not]
  refine ⟨c_l1In _ _ _, fun h1 => ?_, fun h1 => ?_⟩
  · have h2 : n < 2 := by
      rcases Nat.lt_or_ge n 2 with h | h
      · exact h
      · have : inB (n : Int) 2 256 = true := by simp [inB]; omega
        simp [this] at h1
    have e : netL n = [] := by
      have e1 : topN n 1 = 1 := topN_end (by omega)
      simp only [netL, e1]
      rw [pL_in (by omega), cF_end (by omega), qL_end (by omega), show (1 / 2 : Nat) = 0 by decide, pL_end]
      rfl
    rw [e]
    refine ResOk.mk [] [(0, 9)] [] _ _ ?_ ⟨rfl, rfl⟩
    simp [doneC, resOf, resAV, tup, pinR, PV.Le_self, hbs, St.lowers, St.lower, stLe, leEnv, leObs, obLe, injB, pinC, AV.leC, AV.leCs, PV.leC, PV.Le_v, St.get, St.obj, look, rho, isNew, keptC, renH, Mode.ok, Mode.isZ, PV.isVal, PV.isNilSl, List.all_nil, List.all_cons, List.any_nil, List.any_cons, List.map_nil, List.map_cons, res28]
  · have hT := netL_len hn
    have htl := topN_lt n 1 (by omega) (.inr rfl)
    refine loop_by (st_nsNa n) (fun t => 0 < t ∧ (t < n ∨ t = 1) ∧ topN n t = topN n 1) (fun t => n - t) 1 [] [(77777, 9)] [] ⟨by omega, .inr rfl, rfl⟩ ?_ (evr_nsNa n) fun t ht => ?_
    · simp [st_nsNa, hbs, St.lowers, St.lower, stLe, leEnv, leObs, obLe, injB, pinC, AV.leC, AV.leCs, PV.leC, PV.Le_v, St.get, St.obj, look, rho, isNew, keptC, renH, Mode.ok, Mode.isZ, PV.isVal, PV.isNilSl, List.all_nil, List.all_cons, List.any_nil, List.any_cons, List.map_nil, List.map_cons, PV.Le_self]
    · obtain ⟨ht0, htn, hte⟩ := ht
      have e1 : IntKind.i64.wrap (2 * (t : Int)) = ((2 * t : Nat) : Int) := (wrap_in (by omega) (by omega)).trans (by omega)
      simp only [VC.holds_split, VC.holds_need, VC.holds_doneP, VC.holds_done, VC.holds_either, VC.holds_call, VC.holds_callE, VC.holds_lend, VC.holds_stop, VC.holds_fail, decide_eq_true_eq, decide_eq_false_iff_not, e1]
      refine ⟨fun h2 => Again.mk (2 * t) [] [] [] ⟨by omega, .inl (by omega), ?_⟩ (by omega) ?_, fun h2 => ?_⟩
      · rw [← topN_in (by omega) ht0]; exact hte
      · simp [st_nsNa, hbs, St.lowers, St.lower, stLe, leEnv, leObs, obLe, injB, pinC, AV.leC, AV.leCs, PV.leC, PV.Le_v, St.get, St.obj, look, rho, isNew, keptC, renH, Mode.ok, Mode.isZ, PV.isVal, PV.isNilSl, List.all_nil, List.all_cons, List.any_nil, List.any_cons, List.map_nil, List.map_cons, PV.Le_self]
      · rw [topN_end (by omega)] at hte
        subst hte
        generalize htop : topN n 1 = t at *
        have hpw := top_pow hn
        rw [htop] at hpw
        refine loop_by (st_nsNb n t) (fun x => x.2 ++ pL n t x.1 = netL n ∧ (x.1 = 0 ∨ ∃ e, x.1 = 2 ^ e ∧ e ≤ 8) ∧ x.1 ≤ t) (fun x => x.1) (t, []) [] [] [] ⟨by simp [netL, htop], .inr hpw, Nat.le_refl _⟩ ?_ (evr_nsNb n t) fun x hx => ?_
        · simp [st_nsNb, hbs, St.lowers, St.lower, stLe, leEnv, leObs, obLe, injB, pinC, AV.leC, AV.leCs, PV.leC, PV.Le_v, St.get, St.obj, look, rho, isNew, keptC, renH, Mode.ok, Mode.isZ, PV.isVal, PV.isNilSl, List.all_nil, List.all_cons, List.any_nil, List.any_cons, List.map_nil, List.map_cons, PV.Le_self]
        · obtain ⟨p, L⟩ := x
          obtain ⟨hinv, hp, hpt⟩ := hx
          simp only [] at hinv hp hpt
          simp only [VC.holds_split, VC.holds_need, VC.holds_doneP, VC.holds_done, VC.holds_either, VC.holds_call, VC.holds_callE, VC.holds_lend, VC.holds_stop, VC.holds_fail, decide_eq_true_eq, decide_eq_false_iff_not]
          refine ⟨fun h3 => ?_, fun h3 => ?_⟩
          · have hp' := hp.resolve_left (by omega)
            rw [pL_in (show 0 < p by omega)] at hinv
            refine loop_by (st_nsNc n t p) (fun y => y.2 ++ (cF n p p 0 y.1 ++ (qL n p t ++ pL n t (p / 2))) = netL n ∧ y.1 ≤ n) (fun y => n - y.1) (0, L) [] [] [] ⟨hinv, Nat.zero_le _⟩ ?_ (fun J y => evr_nsNc n t p _ J _ y) fun y hy => ?_
            · simp [st_nsNc, hbs, St.lowers, St.lower, stLe, leEnv, leObs, obLe, injB, pinC, AV.leC, AV.leCs, PV.leC, PV.Le_v, St.get, St.obj, look, rho, isNew, keptC, renH, Mode.ok, Mode.isZ, PV.isVal, PV.isNilSl, List.all_nil, List.all_cons, List.any_nil, List.any_cons, List.map_nil, List.map_cons, PV.Le_self]
            · obtain ⟨i, L'⟩ := y
              obtain ⟨hinv', hi⟩ := hy
              simp only [] at hinv' hi
              have hlen' := congrArg List.length hinv'
              rw [List.length_append, List.length_append] at hlen'
              have e3 : IntKind.i64.wrap ((i : Int) + p) = ((i + p : Nat) : Int) := wrap_in (by omega) (by omega)
              have e4 : IntKind.i64.wrap ((i : Int) + 1) = ((i + 1 : Nat) : Int) := wrap_in (by omega) (by omega)
              have e5 := mod_i (i := i) (p := p) (by omega)
              simp only [VC.holds_split, VC.holds_need, VC.holds_doneP, VC.holds_done, VC.holds_either, VC.holds_call, VC.holds_callE, VC.holds_lend, VC.holds_stop, VC.holds_fail, decide_eq_true_eq, decide_eq_false_iff_not, e3, e4, e5]
              refine ⟨fun h4 => ⟨by omega, by decide, fun h5 => ?_, fun h5 => Again.mk (i + 1, L') [] [] [] ⟨?_, by simp only []; omega⟩ (by simp only []; omega) ?_⟩, fun h4 => ?_⟩
              · have h6 : i / p % 2 = 0 := by
                  have := beq_iff_eq.1 h5; omega
                rw [cF_in (by omega) h6] at hinv' hlen'
                rw [List.length_cons] at hlen'
                refine ⟨⟨⟨by omega, by omega⟩, allV2 rfl rfl⟩, Again.mk (i + 1, L' ++ [(i, i + p)]) [] [(77777, 44)] [] ⟨?_, by simp only []; omega⟩ (by simp only []; omega) ?_⟩
                · simp only [List.append_assoc, List.singleton_append]; exact hinv'
                · simp [st_nsNc, hbs, St.lowers, St.lower, stLe, leEnv, leObs, obLe, injB, pinC, AV.leC, AV.leCs, PV.leC, PV.Le_v, St.get, St.obj, look, rho, isNew, keptC, renH, Mode.ok, Mode.isZ, PV.isVal, PV.isNilSl, List.all_nil, List.all_cons, List.any_nil, List.any_cons, List.map_nil, List.map_cons, PV.Le_self]
                  intro a b ha hb
                  exact NB_app rfl (by omega) ha hb
              · have h6 : ¬ i / p % 2 = 0 := fun e => by
                  rw [e] at h5; simp at h5
                rw [cF_out h6] at hinv'
                exact hinv'
              · simp [st_nsNc, hbs, St.lowers, St.lower, stLe, leEnv, leObs, obLe, injB, pinC, AV.leC, AV.leCs, PV.leC, PV.Le_v, St.get, St.obj, look, rho, isNew, keptC, renH, Mode.ok, Mode.isZ, PV.isVal, PV.isNilSl, List.all_nil, List.all_cons, List.any_nil, List.any_cons, List.map_nil, List.map_cons, PV.Le_self]
              · rw [cF_end (by omega), List.nil_append] at hinv'
                refine loop_by (st_nsNd n t p) (fun z => z.2 ++ (qL n p z.1 ++ pL n t (p / 2)) = netL n ∧ z.1 ≤ t) (fun z => z.1) (t, L') [] [] [] ⟨hinv', Nat.le_refl _⟩ ?_ (fun J z => evr_nsNd n t p _ J _ z) fun z hz => ?_
                · simp [st_nsNd, hbs, St.lowers, St.lower, stLe, leEnv, leObs, obLe, injB, pinC, AV.leC, AV.leCs, PV.leC, PV.Le_v, St.get, St.obj, look, rho, isNew, keptC, renH, Mode.ok, Mode.isZ, PV.isVal, PV.isNilSl, List.all_nil, List.all_cons, List.any_nil, List.any_cons, List.map_nil, List.map_cons, PV.Le_self]
                · obtain ⟨q, M⟩ := z
                  obtain ⟨hinv2, hqt⟩ := hz
                  simp only [] at hinv2 hqt
                  have e7 := wrap_half p (by omega)
                  simp only [VC.holds_split, VC.holds_need, VC.holds_doneP, VC.holds_done, VC.holds_either, VC.holds_call, VC.holds_callE, VC.holds_lend, VC.holds_stop, VC.holds_fail, decide_eq_true_eq, decide_eq_false_iff_not, e7]
                  refine ⟨fun h8 => ?_, fun h8 => ⟨by decide, Again.mk (p / 2, M) [] [] [] ⟨?_, half_pow (t := t) hp', by simp only []; omega⟩ (by simp only []; omega) ?_⟩⟩
                  · rw [qL_in (show p < q by omega), List.append_assoc] at hinv2
                    refine loop_by (st_nsNe n t p q) (fun y => y.2 ++ (cF n p (q - p) 1 y.1 ++ (qL n p (q / 2) ++ pL n t (p / 2))) = netL n ∧ y.1 ≤ n) (fun y => n - y.1) (0, M) [] [] [] ⟨hinv2, Nat.zero_le _⟩ ?_ (fun K y => evr_nsNe n t p q _ _ K _ _ y) fun y hy => ?_
                    · simp [st_nsNe, hbs, St.lowers, St.lower, stLe, leEnv, leObs, obLe, injB, pinC, AV.leC, AV.leCs, PV.leC, PV.Le_v, St.get, St.obj, look, rho, isNew, keptC, renH, Mode.ok, Mode.isZ, PV.isVal, PV.isNilSl, List.all_nil, List.all_cons, List.any_nil, List.any_cons, List.map_nil, List.map_cons, PV.Le_self]
                    · obtain ⟨i, L'⟩ := y
                      obtain ⟨hinv', hi⟩ := hy
                      simp only [] at hinv' hi
                      have hlen' := congrArg List.length hinv'
                      rw [List.length_append, List.length_append] at hlen'
                      have e3 : IntKind.i64.wrap ((i : Int) + q) = ((i + q : Nat) : Int) := wrap_in (by omega) (by omega)
                      have e3' : IntKind.i64.wrap (((i + q : Nat) : Int) - p) = ((i + (q - p) : Nat) : Int) := (wrap_in (by omega) (by omega)).trans (by omega)
                      have e4 : IntKind.i64.wrap ((i : Int) + 1) = ((i + 1 : Nat) : Int) := wrap_in (by omega) (by omega)
                      have e5 := mod_i (i := i) (p := p) (by omega)
                      have e6 := wrap_half q (by omega)
                      simp only [VC.holds_split, VC.holds_need, VC.holds_doneP, VC.holds_done, VC.holds_either, VC.holds_call, VC.holds_callE, VC.holds_lend, VC.holds_stop, VC.holds_fail, decide_eq_true_eq, decide_eq_false_iff_not, e3, e3', e4, e5, e6]
                      refine ⟨fun h4 => ⟨by omega, by decide, fun h5 => ?_, fun h5 => Again.mk (i + 1, L') [] [] [] ⟨?_, by simp only []; omega⟩ (by simp only []; omega) ?_⟩, fun h4 => ⟨by decide, Again.mk (q / 2, L') [] [] [] ⟨?_, by simp only []; omega⟩ (by simp only []; omega) ?_⟩⟩
                      · have h6 : i / p % 2 = 1 := by
                          have := beq_iff_eq.1 h5; omega
                        rw [cF_in (by omega) h6] at hinv' hlen'
                        rw [List.length_cons] at hlen'
                        refine ⟨⟨⟨by omega, by omega⟩, allV2 rfl rfl⟩, Again.mk (i + 1, L' ++ [(i, i + (q - p))]) [] [(77777, 74)] [] ⟨?_, by simp only []; omega⟩ (by simp only []; omega) ?_⟩
                        · simp only [List.append_assoc, List.singleton_append]; exact hinv'
                        · simp [st_nsNe, hbs, St.lowers, St.lower, stLe, leEnv, leObs, obLe, injB, pinC, AV.leC, AV.leCs, PV.leC, PV.Le_v, St.get, St.obj, look, rho, isNew, keptC, renH, Mode.ok, Mode.isZ, PV.isVal, PV.isNilSl, List.all_nil, List.all_cons, List.any_nil, List.any_cons, List.map_nil, List.map_cons, PV.Le_self]
                          intro a b ha hb
                          exact NB_app rfl (by omega) ha hb
                      · have h6 : ¬ i / p % 2 = 1 := fun e => by
                          rw [e] at h5; simp at h5
                        rw [cF_out h6] at hinv'
                        exact hinv'
                      · simp [st_nsNe, hbs, St.lowers, St.lower, stLe, leEnv, leObs, obLe, injB, pinC, AV.leC, AV.leCs, PV.leC, PV.Le_v, St.get, St.obj, look, rho, isNew, keptC, renH, Mode.ok, Mode.isZ, PV.isVal, PV.isNilSl, List.all_nil, List.all_cons, List.any_nil, List.any_cons, List.map_nil, List.map_cons, PV.Le_self]
                      · rw [cF_end (by omega), List.nil_append] at hinv'
                        exact hinv'
                      · simp [st_nsNd, hbs, St.lowers, St.lower, stLe, leEnv, leObs, obLe, injB, pinC, AV.leC, AV.leCs, PV.leC, PV.Le_v, St.get, St.obj, look, rho, isNew, keptC, renH, Mode.ok, Mode.isZ, PV.isVal, PV.isNilSl, List.all_nil, List.all_cons, List.any_nil, List.any_cons, List.map_nil, List.map_cons, PV.Le_self]
                  · rw [qL_end (by omega), List.nil_append] at hinv2
                    exact hinv2
                  · simp [st_nsNb, hbs, St.lowers, St.lower, stLe, leEnv, leObs, obLe, injB, pinC, AV.leC, AV.leCs, PV.leC, PV.Le_v, St.get, St.obj, look, rho, isNew, keptC, renH, Mode.ok, Mode.isZ, PV.isVal, PV.isNilSl, List.all_nil, List.all_cons, List.any_nil, List.any_cons, List.map_nil, List.map_cons, PV.Le_self]
          · obtain rfl : p = 0 := by omega
            rw [pL_end, List.append_nil] at hinv
            subst hinv
            refine ResOk.mk [] [(0, 77777)] [] _ _ ?_ ⟨rfl, rfl⟩
            simp [doneC, resOf, resAV, tup, pinR, PV.Le_self, hbs, St.lowers, St.lower, stLe, leEnv, leObs, obLe, injB, pinC, AV.leC, AV.leCs, PV.leC, PV.Le_v, St.get, St.obj, look, rho, isNew, keptC, renH, Mode.ok, Mode.isZ, PV.isVal, PV.isNilSl, List.all_nil, List.all_cons, List.any_nil, List.any_cons, List.map_nil, List.map_cons, res28]
end Go.Gw
