/- Small functions on whole numbers and rows of them; with no condition. -/
import Derived.Test.YtopnhnnfobbocaaDoorGw26
import Derived.IntWalk
import Derived.KernelRfl
import Derived.Test.YtopnhnnfobbocaaDoorProg
namespace Go.Gw
open Go Go.Proofs
set_option linter.unusedSimpArgs false
set_option linter.unusedVariables false
set_option maxRecDepth 100000
abbrev reservedW : List ByteArray := [⟨#[115, 101, 108, 101, 99, 116]⟩, ⟨#[102, 114, 111, 109]⟩, ⟨#[106, 111, 105, 110]⟩, ⟨#[111, 110]⟩, ⟨#[119, 104, 101, 114, 101]⟩, ⟨#[97, 110, 100]⟩, ⟨#[111, 114]⟩, ⟨#[103, 114, 111, 117, 112]⟩, ⟨#[98, 121]⟩, ⟨#[115, 117, 109]⟩, ⟨#[111, 114, 100, 101, 114]⟩, ⟨#[100, 111, 119, 110]⟩, ⟨#[108, 105, 109, 105, 116]⟩]
abbrev G0 : List (Nat × PV) := [(0, .pp 1 fun _ => strRow reservedW)]
def ir129 : Ir :=
  (.seq
  (.reg [] [o 6 (.mov (cb false))])
  (.seq
  (.reg [7, 8, 9, 10, 11, 12, 13, 14] [o 7 (.mov (tt 1)),
    o 8 (.mov (tt 0)),
    o 9 (.bin .leq (tt 7) (tt 8)),
    o 10 (.mov (tt 9)),
    og 11 10 true (.mov (tt 0)),
    og 12 10 true (.mov (tt 2)),
    og 13 10 true (.bin .leq (tt 11) (tt 12)),
    o 14 (.pick (tt 10) (tt 13) (cb false)),
    o 6 (.mov (tt 14))])
  .ret))
def keep129 : List Nat := [0, 1, 2, 6]
def res129 : List RI := [.tmp 6]
theorem chk129 : chk Tryd.prog 129 3 keep129 = some (ir129, res129) := by kernel_rfl
def ir64 : Ir :=
  (.seq
  (.reg [] [o 6 (.mov (cb false))])
  (.seq
  (.reg [7, 8, 9, 10, 11, 12, 13, 14] [o 7 (.mov (tt 0)),
    o 8 (.mov (tt 1)),
    o 9 (.bin .geq (tt 7) (tt 8)),
    o 10 (.mov (tt 9)),
    og 11 10 true (.mov (tt 0)),
    og 12 10 true (.mov (tt 2)),
    og 13 10 true (.bin .leq (tt 11) (tt 12)),
    o 14 (.pick (tt 10) (tt 13) (cb false)),
    o 6 (.mov (tt 14))])
  .ret))
def keep64 : List Nat := [0, 1, 2, 6]
def res64 : List RI := [.tmp 6]
theorem chk64 : chk Tryd.prog 64 3 keep64 = some (ir64, res64) := by kernel_rfl
def ir153 : Ir :=
  (.seq
  (.reg [] [o 4 (.mov (ci 0))])
  (.seq
  (.reg [5, 6, 7, 8] [o 5 (.mov (tt 1)),
    o 6 (.mov (tt 0)),
    o 7 (.len (tt 6)),
    o 8 (.bin .sub (tt 5) (tt 7)),
    o 1 (.mov (tt 8))])
  (.seq
  (.seq
  (.reg [9] [o 9 (.mov (tt 1)),
    o 10 (.bin .lss (tt 9) (ci 0))])
  (.cond (tt 10)
   (.seq
   (.reg [] [o 4 (.mov (ci (-1)))])
   .ret)
   .skip))
  (.seq
  (.reg [11] [o 11 (.mov (tt 1)),
    o 4 (.mov (tt 11))])
  .ret))))
def keep153 : List Nat := [0, 1, 4, 10]
def res153 : List RI := [.tmp 4]
theorem chk153 : chk Tryd.prog 153 2 keep153 = some (ir153, res153) := by kernel_rfl
def ir154_L1 : Ir :=
  (.seq
  (.seq
  (.reg [8, 9, 10] [o 8 (.mov (tt 4)),
    o 9 (.mov (tt 0)),
    o 10 (.len (tt 9)),
    o 11 (.bin .lss (tt 8) (tt 10))])
  (.cond (tt 11)
   .skip
   (.exit 0)))
  (.seq
  (.block 1
   (.reg [14, 15, 16, 17, 18, 19, 20] [o 14 (.mov (tt 3)),
     o 15 (.mov (tt 4)),
     o 16 (.mov (tt 0)),
     o 17 (.mov (tt 4)),
     o 18 (.idx 1 (tt 16) (tt 17)),
     o 19 (.load false 1 (tt 18)),
     o 20 (.idx 1 (tt 14) (tt 15)),
     on (.store 1 (tt 20) (tt 19))]))
  (.reg [12, 13] [o 12 (.mov (tt 4)),
    o 13 (.bin .add (tt 12) (ci 1)),
    o 4 (.mov (tt 13))])))
def ir154_T2 : Ir :=
  (.seq
  (.reg [21] [o 21 (.mov (tt 3)),
    o 2 (.mov (tt 21))])
  .ret)
def ir154 : Ir :=
  (.seq
  (.reg [] [o 2 (.mov (.const (.slice none 0 0)))])
  (.seq
  (.reg [5, 6, 7] [o 5 (.mov (tt 0)),
    o 6 (.len (tt 5)),
    o 7 (.mkSlc 1 8 [(.int .i64 0)] (tt 6) (tt 6)),
    o 3 (.mov (tt 7))])
  (.seq
  (.seq
  (.reg [] [o 4 (.mov (ci 0))])
  (.block 0
   (.loop ir154_L1)))
  ir154_T2)))
def keep154 : List Nat := [0, 2, 3, 4, 11]
def res154 : List RI := [.tmp 2]
theorem chk154 : chk Tryd.prog 154 1 keep154 = some (ir154, res154) := by kernel_rfl

abbrev W (n : Int) : Int := IntKind.i64.wrap n
theorem wrap_in {n : Int} (h1 : -9223372036854775808 ≤ n) (h2 : n ≤ 9223372036854775807) : W n = n := IntWalk.i64_in n (by omega)

/-! ### in -/
def inB (x lo hi : Int) : Bool := decide (lo ≤ x) && decide (x ≤ hi)
theorem inB_iff {x lo hi : Int} : inB x lo hi = true ↔ lo ≤ x ∧ x ≤ hi := by simp [inB]
def in_in (x lo hi : Int) := (G0, res129, ([] : List (Nat × Ob)), [Item.ir ir129], start [AI x, AI lo, AI hi] [])
theorem ev_in : ∀ (x lo hi : Int), ev G0 res129 [] (3000 : Nat) (Or.nil.lit.lit.lit.split Or.nil.lit.lit.lit) [Item.ir ir129] (start [AI x, AI lo, AI hi] []) = VC.split (decide (lo ≤ x)) (VC.doneP (AV.p true (PV.v (Value.bool (decide (x ≤ hi)))))) (VC.doneP (AV.p true (PV.v (Value.bool false)))) := by intros; kernel_rfl
theorem c_in (x lo hi : Int) : PRet Tryd.prog G0 129 [AI x, AI lo, AI hi] (AB (inB x lo hi)) := by
  refine PRet.by chk129 (ev_in x lo hi) ?_
  simp only [VC.holds_split, VC.holds_need, VC.holds_doneP, VC.holds_done, VC.holds_either, VC.holds_call, VC.holds_callE, VC.holds_lend, VC.holds_stop, VC.holds_fail, decide_eq_true_eq, decide_eq_false_iff_not]
  simp +contextual [inB]
  try omega
def in_l1In (x lo hi : Int) := (G0, res64, ([] : List (Nat × Ob)), [Item.ir ir64], start [AI x, AI lo, AI hi] [])
theorem ev_l1In : ∀ (x lo hi : Int), ev G0 res64 [] (3000 : Nat) (Or.nil.lit.lit.lit.split Or.nil.lit.lit.lit) [Item.ir ir64] (start [AI x, AI lo, AI hi] []) = VC.split (decide (lo ≤ x)) (VC.doneP (AV.p true (PV.v (Value.bool (decide (x ≤ hi)))))) (VC.doneP (AV.p true (PV.v (Value.bool false)))) := by intros; kernel_rfl
theorem c_l1In (x lo hi : Int) : PRet Tryd.prog G0 64 [AI x, AI lo, AI hi] (AB (inB x lo hi)) := by
  refine PRet.by chk64 (ev_l1In x lo hi) ?_
  simp only [VC.holds_split, VC.holds_need, VC.holds_doneP, VC.holds_done, VC.holds_either, VC.holds_call, VC.holds_callE, VC.holds_lend, VC.holds_stop, VC.holds_fail, decide_eq_true_eq, decide_eq_false_iff_not]
  simp +contextual [inB]
  try omega

/-! ### szIntS -/
def szN (n : Nat) (l : Int) : Int := if W (l - n) < 0 then -1 else W (l - n)
def in_szIntS (nn : Bool) (n : Nat) (g : Nat → Nat → PV) (l : Int) := (G0, res153, ([] : List (Nat × Ob)), [Item.ir ir153], start [SL nn 1 n g, AI l] [])
theorem ev_szIntS : ∀ (nn : Bool) (n : Nat) (g : Nat → Nat → PV) (l : Int), ev G0 res153 [] (3000 : Nat) (Or.nil.split Or.nil) [Item.ir ir153] (start [SL nn (1 : Nat) n g, AI l] []) = VC.split (decide (IntKind.i64.wrap (l - (↑n : Int)) < (0 : Int))) (VC.doneP (AV.p true (PV.v (Value.int IntKind.i64 (-1 : Int))))) (VC.doneP (AV.p true (PV.v (Value.int IntKind.i64 (IntKind.i64.wrap (l - (↑n : Int))))))) := by intros; kernel_rfl
theorem c_szIntS (nn : Bool) (n : Nat) (g : Nat → Nat → PV) (l : Int) : PRet Tryd.prog G0 153 [SL nn 1 n g, AI l] (AI (szN n l)) := by
  refine PRet.by chk153 (ev_szIntS nn n g l) ?_
  simp only [VC.holds_split, VC.holds_need, VC.holds_doneP, VC.holds_done, VC.holds_either, VC.holds_call, VC.holds_callE, VC.holds_lend, VC.holds_stop, VC.holds_fail, decide_eq_true_eq, decide_eq_false_iff_not]
  constructor <;> intro h <;> simp [szN, W, h]

theorem szN_neg {n : Nat} {l : Int} (h : ¬ szN n l < 0) : szN n l = W (l - n) := by
  unfold szN at h ⊢
  split
  · rename_i h2; rw [if_pos h2] at h; exact (h (by decide)).elim
  · rfl
/-! ### toIntS -/
def in_toIntS (nn : Bool) (n : Nat) (f : Nat → Int) := (G0, res154, ([] : List (Nat × Ob)), [Item.ir ir154], start [IL nn n f] [])
theorem ev_toIntS : ∀ (nn : Bool) (n : Nat) (f : Nat → Int), ev G0 res154 [] (3000 : Nat) Or.nil [Item.ir ir154] (start [IL nn n f] []) = VC.need ((0 : Int) ≤ (↑n : Int) ∧ (↑n : Int) ≤ (↑n : Int) ∧ (↑(8 : Nat) : Int) * (↑n : Int) ≤ (281474976710656 : Int) ∧ (↑n : Int) ≤ (9223372036854775807 : Int)) (VC.loop ir154_L1 [Item.bend (0 : Nat), Item.ir ir154_T2] (St.mk [((0 : Nat), AV.p false (PV.sl nn (1 : Nat) n fun (i x : Nat) => PI (f i))), ((2 : Nat), AV.p true (PV.v (Value.slice none (0 : Nat) (0 : Nat)))), ((3 : Nat), AV.own (7 : Nat)), ((4 : Nat), AV.p true (PV.v (Value.int IntKind.i64 (0 : Int))))] [((7 : Nat), Ob.row Mode.u true (1 : Nat) (↑n : Int).toNat (fun (x j : Nat) => PV.v ([Value.int IntKind.i64 (0 : Int)].getD j undef)) [])])) := by intros; kernel_rfl
def st_toIntS (nn : Bool) (n : Nat) (f : Nat → Int) (k : Nat) : St := ⟨[(0, IL nn n f), (3, .own 7), (4, AI k)], [(7, .row .u true 1 n (fun i _ => PI (if i < k then f i else 0)) [])]⟩
def r_toIntS (nn : Bool) (n : Nat) (f : Nat → Int) (I : Nat → St → Prop) (k : Nat) := (G0, res154, ([] : List (Nat × Ob)), [Item.ir ir154_L1, .lend (I k), Item.bend 0, Item.ir ir154_T2], st_toIntS nn n f k)
theorem evr_toIntS : ∀ (nn : Bool) (n : Nat) (f : Nat → Int) (I : Nat → St → Prop) (k : Nat), ev G0 res154 [] (3000 : Nat) (Or.nil.split Or.nil) [Item.ir ir154_L1, Item.lend (I k), Item.bend (0 : Nat), Item.ir ir154_T2] (st_toIntS nn n f k) = VC.split (decide ((↑k : Int) < (↑n : Int))) (VC.need ((0 : Int) ≤ (↑k : Int) ∧ (↑k : Int).toNat < n) (VC.need ((0 : Int) ≤ (↑k : Int) ∧ (↑k : Int).toNat < n) (VC.need ((↑k : Int).toNat < n) (VC.lend (I k) (St.mk [((0 : Nat), AV.p false (PV.sl nn (1 : Nat) n fun (i x : Nat) => PI (f i))), ((3 : Nat), AV.own (7 : Nat)), ((4 : Nat), AV.p true (PV.v (Value.int IntKind.i64 (IntKind.i64.wrap ((↑k : Int) + (1 : Int)))))), ((11 : Nat), AV.p true (PV.v (Value.bool (decide ((↑k : Int) < (↑n : Int))))))] [((7 : Nat), Ob.row Mode.u true (1 : Nat) n (setG [((↑k : Int).toNat, (0 : Nat), PV.v (Value.int IntKind.i64 (f (↑k : Int).toNat)))] fun (i x : Nat) => PI (if i < k then f i else (0 : Int))) [])]))))) (VC.done (St.mk [((0 : Nat), AV.p false (PV.sl nn (1 : Nat) n fun (i x : Nat) => PI (f i))), ((3 : Nat), AV.own (7 : Nat)), ((4 : Nat), AV.p true (PV.v (Value.int IntKind.i64 (↑k : Int)))), ((11 : Nat), AV.p true (PV.v (Value.bool (decide ((↑k : Int) < (↑n : Int)))))), ((2 : Nat), AV.own (7 : Nat))] [((7 : Nat), Ob.row Mode.u true (1 : Nat) n (fun (i x : Nat) => PI (if i < k then f i else (0 : Int))) [])])) := by intros; kernel_rfl
theorem c_toIntS0 (nn : Bool) (n : Nat) (f : Nat → Int) (hn : n ≤ 1048576) : PObj Tryd.prog G0 154 [IL nn n f] [] (.own 0) [(0, .row .u true 1 n (fun i _ => PI (f i)) [])] := by
  refine PObj.by chk154 rfl (ev_toIntS nn n f) ?_
  simp only [VC.holds_split, VC.holds_need, VC.holds_doneP, VC.holds_done, VC.holds_either, VC.holds_call, VC.holds_callE, VC.holds_lend, VC.holds_stop, VC.holds_fail, decide_eq_true_eq, decide_eq_false_iff_not]
  refine ⟨by omega, loop_by (st_toIntS nn n f) (fun k => k ≤ n) (fun k => n - k) 0 [] [] [] (by omega) ?_ (evr_toIntS nn n f) fun k hk => ?_⟩
  · simp [st_toIntS, hbs, St.lowers, St.lower, stLe, leEnv, leObs, obLe, injB, pinC, AV.leC, AV.leCs, PV.leC, PV.Le_v, St.get, St.obj, look, rho, isNew, keptC, renH, Mode.ok, Mode.isZ, PV.isVal, PV.isNilSl, List.all_nil, List.all_cons, List.any_nil, List.any_cons, List.map_nil, List.map_cons]
  · simp only [VC.holds_split, VC.holds_need, VC.holds_doneP, VC.holds_done, VC.holds_either, VC.holds_call, VC.holds_callE, VC.holds_lend, VC.holds_stop, VC.holds_fail, decide_eq_true_eq, decide_eq_false_iff_not]
    refine ⟨fun h => ⟨by omega, by omega, by omega, Again.mk (k + 1) [] [] [] (by omega) (by omega) ?_⟩, fun h => ?_⟩
    · have : IntKind.i64.wrap ((k : Int) + 1) = ((k + 1 : Nat) : Int) := wrap_in (by omega) (by omega)
      simp [st_toIntS, hbs, St.lowers, St.lower, stLe, leEnv, leObs, obLe, injB, pinC, AV.leC, AV.leCs, PV.leC, PV.Le_v, St.get, St.obj, look, rho, isNew, keptC, renH, Mode.ok, Mode.isZ, PV.isVal, PV.isNilSl, List.all_nil, List.all_cons, List.any_nil, List.any_cons, List.map_nil, List.map_cons, this]
      intro i hi
      by_cases h1 : i = k
      · subst h1; simp [setG, cellSet]; exact .refl _
      · have : (i < k + 1) = (i < k) := by apply propext; omega
        simp [setG, cellSet, h1, this]; exact .refl _
    · have : k = n := by omega
      subst this
      refine ResOk.mk [] [(0, 7)] [] _ _ ?_ ⟨rfl, rfl⟩
      simp [doneC, resOf, resAV, tup, pinR, hbs, St.lowers, St.lower, stLe, leEnv, leObs, obLe, injB, pinC, AV.leC, AV.leCs, PV.leC, PV.Le_v, St.get, St.obj, look, rho, isNew, keptC, renH, Mode.ok, Mode.isZ, PV.isVal, PV.isNilSl, List.all_nil, List.all_cons, List.any_nil, List.any_cons, List.map_nil, List.map_cons, res154]
      omega
end Go.Gw
