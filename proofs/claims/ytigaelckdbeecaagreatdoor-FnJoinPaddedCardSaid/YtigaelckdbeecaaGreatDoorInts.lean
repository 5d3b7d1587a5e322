/- Small functions on whole numbers and rows of them; with no condition. -/
import Derived.Test.YtigaelckdbeecaaGreatDoorGw26
import Derived.IntWalk
import Derived.KernelRfl
import Derived.Test.YtigaelckdbeecaaGreatDoorProg
namespace Go.Gw
open Go Go.Proofs
set_option linter.unusedSimpArgs false
set_option linter.unusedVariables false
set_option maxRecDepth 100000
theorem leA : type_of% (And.intro @hbs.eq_1 <| And.intro @St.lowers.eq_1 <| And.intro @St.lowers.eq_2 <| And.intro @St.lower.eq_1 <| And.intro @stLe.eq_1 <| And.intro @leEnv.eq_1 <| And.intro @leEnv.eq_2 <| And.intro @leObs.eq_1 <| And.intro @leObs.eq_2 <| And.intro @obLe.eq_1 <| And.intro @obLe.eq_2 <| And.intro @obLe.eq_3 <| And.intro @injB.eq_1 <| And.intro @injB.eq_2 <| And.intro @pinC.eq_1 <| And.intro @AV.leC.eq_1 <| And.intro @AV.leC.eq_2 <| And.intro @AV.leC.eq_3 <| And.intro @AV.leC.eq_4 <| And.intro @AV.leC.eq_5 <| And.intro @AV.leC.eq_6 <| And.intro @AV.leC.eq_7 <| And.intro @AV.leC.eq_8 <| And.intro @AV.leC.eq_9 <| And.intro @AV.leC.eq_10 <| And.intro @AV.leC.eq_11 <| And.intro @AV.leCs.eq_1 <| And.intro @AV.leCs.eq_2 <| And.intro @AV.leCs.eq_3 <| And.intro @PV.leC.eq_1 <| And.intro @PV.leC.eq_2 <| And.intro @PV.leC.eq_3 <| And.intro @PV.leC.eq_4 <| And.intro @PV.leC.eq_5 <| And.intro @PV.leC.eq_6 <| And.intro @PV.leC.eq_7 <| And.intro @PV.leC.eq_8 <| And.intro @PV.Le_v <| And.intro @St.get.eq_1 <| And.intro @St.obj.eq_1 <| And.intro @look.eq_1 <| And.intro @look.eq_2 <| And.intro @rho.eq_1 <| And.intro @isNew.eq_1 <| And.intro @keptC.eq_1 <| And.intro @renH.eq_1 <| And.intro @Mode.ok.eq_1 <| And.intro @Mode.ok.eq_2 <| And.intro @Mode.ok.eq_3 <| And.intro @Mode.ok.eq_4 <| And.intro @Mode.ok.eq_5 <| And.intro @Mode.isZ.eq_1 <| And.intro @Mode.isZ.eq_2 <| And.intro @PV.isVal.eq_1 <| And.intro @PV.isVal.eq_2 <| And.intro @PV.isNilSl.eq_1 <| And.intro @PV.isNilSl.eq_2 <| And.intro @List.all_nil.{0} <| And.intro @List.all_cons.{0} <| And.intro @List.any_nil.{0} <| And.intro @List.any_cons.{0} <| And.intro @List.map_nil.{0, 0} <| @List.map_cons.{0, 0}) := And.intro @hbs.eq_1 <| And.intro @St.lowers.eq_1 <| And.intro @St.lowers.eq_2 <| And.intro @St.lower.eq_1 <| And.intro @stLe.eq_1 <| And.intro @leEnv.eq_1 <| And.intro @leEnv.eq_2 <| And.intro @leObs.eq_1 <| And.intro @leObs.eq_2 <| And.intro @obLe.eq_1 <| And.intro @obLe.eq_2 <| And.intro @obLe.eq_3 <| And.intro @injB.eq_1 <| And.intro @injB.eq_2 <| And.intro @pinC.eq_1 <| And.intro @AV.leC.eq_1 <| And.intro @AV.leC.eq_2 <| And.intro @AV.leC.eq_3 <| And.intro @AV.leC.eq_4 <| And.intro @AV.leC.eq_5 <| And.intro @AV.leC.eq_6 <| And.intro @AV.leC.eq_7 <| And.intro @AV.leC.eq_8 <| And.intro @AV.leC.eq_9 <| And.intro @AV.leC.eq_10 <| And.intro @AV.leC.eq_11 <| And.intro @AV.leCs.eq_1 <| And.intro @AV.leCs.eq_2 <| And.intro @AV.leCs.eq_3 <| And.intro @PV.leC.eq_1 <| And.intro @PV.leC.eq_2 <| And.intro @PV.leC.eq_3 <| And.intro @PV.leC.eq_4 <| And.intro @PV.leC.eq_5 <| And.intro @PV.leC.eq_6 <| And.intro @PV.leC.eq_7 <| And.intro @PV.leC.eq_8 <| And.intro @PV.Le_v <| And.intro @St.get.eq_1 <| And.intro @St.obj.eq_1 <| And.intro @look.eq_1 <| And.intro @look.eq_2 <| And.intro @rho.eq_1 <| And.intro @isNew.eq_1 <| And.intro @keptC.eq_1 <| And.intro @renH.eq_1 <| And.intro @Mode.ok.eq_1 <| And.intro @Mode.ok.eq_2 <| And.intro @Mode.ok.eq_3 <| And.intro @Mode.ok.eq_4 <| And.intro @Mode.ok.eq_5 <| And.intro @Mode.isZ.eq_1 <| And.intro @Mode.isZ.eq_2 <| And.intro @PV.isVal.eq_1 <| And.intro @PV.isVal.eq_2 <| And.intro @PV.isNilSl.eq_1 <| And.intro @PV.isNilSl.eq_2 <| And.intro @List.all_nil.{0} <| And.intro @List.all_cons.{0} <| And.intro @List.any_nil.{0} <| And.intro @List.any_cons.{0} <| And.intro @List.map_nil.{0, 0} <| @List.map_cons.{0, 0}
theorem vcA : type_of% (And.intro @VC.holds_split <| And.intro @VC.holds_need <| And.intro @VC.holds_doneP <| And.intro @VC.holds_done <| And.intro @VC.holds_either <| And.intro @VC.holds_call <| And.intro @VC.holds_callE <| And.intro @VC.holds_lend <| And.intro @VC.holds_stop <| And.intro @VC.holds_fail <| And.intro @decide_eq_true_eq <| @decide_eq_false_iff_not) := And.intro @VC.holds_split <| And.intro @VC.holds_need <| And.intro @VC.holds_doneP <| And.intro @VC.holds_done <| And.intro @VC.holds_either <| And.intro @VC.holds_call <| And.intro @VC.holds_callE <| And.intro @VC.holds_lend <| And.intro @VC.holds_stop <| And.intro @VC.holds_fail <| And.intro @decide_eq_true_eq <| @decide_eq_false_iff_not
abbrev om (d a : Nat) : IOpr := o d (.mov (tt a))
abbrev ol (d a : Nat) : IOpr := o d (.load false 1 (tt a))
abbrev ox (d a b : Nat) : IOpr := o d (.idx 1 (tt a) (tt b))
abbrev oa (d k a : Nat) : IOpr := o d (.fadr k (tt a))
abbrev ob (k : BinOp) (d a b : Nat) : IOpr := o d (.bin k (tt a) (tt b))
abbrev reservedW : List ByteArray := [⟨#[115, 101, 108, 101, 99, 116]⟩, ⟨#[102, 114, 111, 109]⟩, ⟨#[106, 111, 105, 110]⟩, ⟨#[111, 110]⟩, ⟨#[119, 104, 101, 114, 101]⟩, ⟨#[97, 110, 100]⟩, ⟨#[111, 114]⟩, ⟨#[103, 114, 111, 117, 112]⟩, ⟨#[98, 121]⟩, ⟨#[115, 117, 109]⟩, ⟨#[111, 114, 100, 101, 114]⟩, ⟨#[100, 111, 119, 110]⟩, ⟨#[108, 105, 109, 105, 116]⟩]
abbrev G0 : List (Nat × PV) := [(0, .pp 1 fun _ => strRow reservedW)]
def ir18 : Ir := (.seq (.reg [] [o 6 (.mov (cb false))]) (.seq (.reg [7, 8, 9, 10, 11, 12, 13, 14] [om 7 1, om 8 0, ob .leq 9 7 8, om 10 9, og 11 10 true (.mov (tt 0)), og 12 10 true (.mov (tt 2)), og 13 10 true (.bin .leq (tt 11) (tt 12)), o 14 (.pick (tt 10) (tt 13) (cb false)), om 6 14]) .ret))
def keep18 : List Nat := [0, 1, 2, 6]
def res18 : List RI := [.tmp 6]
theorem chk18 : chk Tryz.prog 18 3 keep18 = some (ir18, res18) := by kernel_rfl
def ir61 : Ir := (.seq (.reg [] [o 6 (.mov (cb false))]) (.seq (.reg [7, 8, 9, 10, 11, 12, 13, 14] [om 7 0, om 8 1, ob .geq 9 7 8, om 10 9, og 11 10 true (.mov (tt 0)), og 12 10 true (.mov (tt 2)), og 13 10 true (.bin .leq (tt 11) (tt 12)), o 14 (.pick (tt 10) (tt 13) (cb false)), om 6 14]) .ret))
def keep61 : List Nat := [0, 1, 2, 6]
def res61 : List RI := [.tmp 6]
theorem chk61 : chk Tryz.prog 61 3 keep61 = some (ir61, res61) := by kernel_rfl
abbrev W (n : Int) : Int := IntKind.i64.wrap n
theorem wrap_in {n : Int} (h1 : -9223372036854775808 ≤ n) (h2 : n ≤ 9223372036854775807) : W n = n := IntWalk.i64_in n (by omega)
def inB (x lo hi : Int) : Bool := decide (lo ≤ x) && decide (x ≤ hi)
theorem inB_iff {x lo hi : Int} : inB x lo hi = true ↔ lo ≤ x ∧ x ≤ hi := by simp [inB]
theorem ev_in : ∀ (x lo hi : Int), ev G0 res18 [] 3000 (Or.nil.lit.lit.lit.split Or.nil.lit.lit.lit) [.ir ir18] (start [AI x, AI lo, AI hi] []) = VC.split (decide (lo ≤ x)) (VC.doneP (AB (decide (x ≤ hi)))) (VC.doneP (AB false)) := by intros; kernel_rfl
theorem c_in (x lo hi : Int) : PRet Tryz.prog G0 18 [AI x, AI lo, AI hi] (AB (inB x lo hi)) := by
  refine PRet.by chk18 (ev_in x lo hi) ?_
  simp only [vcA]
  simp +contextual [inB]
  try omega
theorem ev_l1In : ∀ (x lo hi : Int), ev G0 res61 [] 3000 (Or.nil.lit.lit.lit.split Or.nil.lit.lit.lit) [.ir ir61] (start [AI x, AI lo, AI hi] []) = VC.split (decide (lo ≤ x)) (VC.doneP (AB (decide (x ≤ hi)))) (VC.doneP (AB false)) := by intros; kernel_rfl
theorem c_l1In (x lo hi : Int) : PRet Tryz.prog G0 61 [AI x, AI lo, AI hi] (AB (inB x lo hi)) := by
  refine PRet.by chk61 (ev_l1In x lo hi) ?_
  simp only [vcA]
  simp +contextual [inB]
  try omega
end Go.Gw
namespace Go.Gw
open Go Go.Proofs
set_option linter.unusedSimpArgs false
set_option linter.unusedVariables false
set_option maxRecDepth 100000
end Go.Gw
namespace Go.Gw
open Go Go.Proofs
set_option linter.unusedSimpArgs false
set_option linter.unusedVariables false
set_option maxRecDepth 100000
theorem int_cells (f : Nat → Int) (n : Nat) : IntCells 1 n (fun i _ => PI (f i)) := fun _ _ _ _ => rfl
def allB (p : Nat → Bool) : Nat → Bool
  | 0 => true
  | k + 1 => allB p k && p k
theorem allB_iff {p : Nat → Bool} : ∀ {k : Nat}, allB p k = true ↔ ∀ i, i < k → p i = true
  | 0 => by simp [allB]
  | k + 1 => by
    simp only [allB, Bool.and_eq_true, allB_iff (k := k)]
    constructor
    · intro ⟨h1, h2⟩ i hi
      by_cases h : i = k
      · subst h; exact h2
      · exact h1 i (by omega)
    · intro h; exact ⟨fun i hi => h i (by omega), h k (by omega)⟩
end Go.Gw
namespace Go.Gw
open Go Go.Proofs
set_option linter.unusedSimpArgs false
set_option linter.unusedVariables false
set_option maxRecDepth 100000
def ir20_L1 : Ir := (.seq (.reg [] [ob .lss 9 8 7]) (.seq (.cond (tt 9) .skip (.exit 0)) (.seq (.block 1 (.seq (.reg [10] [om 10 8, om 5 10]) (.seq (.reg [11, 12, 13, 14, 15] [om 11 1, om 12 0, om 13 5, ox 14 12 13, ol 15 14, ob .eql 16 11 15]) (.cond (tt 16) (.seq (.reg [17] [om 17 5, om 4 17]) .ret) .skip)))) (.reg [18] [o 18 (.bin .add (tt 8) (ci 1)), om 8 18]))))
def ir20_T2 : Ir := (.seq (.reg [] [o 4 (.mov (ci (-1)))]) .ret)
def ir20 : Ir := (.seq (.reg [] [o 4 (.mov (ci 0))]) (.seq (.seq (.reg [6] [om 6 0, o 7 (.len (tt 6)), o 8 (.mov (ci 0))]) (.block 0 (.loop ir20_L1))) ir20_T2))
def keep20 : List Nat := [0, 1, 4, 5, 7, 8, 9, 16]
def res20 : List RI := [.tmp 4]
theorem chk20 : chk Tryz.prog 20 2 keep20 = some (ir20, res20) := by kernel_rfl
def ir54 : Ir := (.seq (.reg [] [o 4 (.mov (cb false))]) (.seq (.reg [5, 6, 7, 8] [om 5 0, om 6 1, o 7 (.call 20 [(tt 5), (tt 6)]), o 8 (.bin .geq (tt 7) (ci 0)), om 4 8]) .ret))
def keep54 : List Nat := [0, 1, 4]
def res54 : List RI := [.tmp 4]
theorem chk54 : chk Tryz.prog 54 2 keep54 = some (ir54, res54) := by kernel_rfl
def ir38_L1 : Ir := (.seq (.reg [] [ob .lss 7 6 5]) (.seq (.cond (tt 7) .skip (.exit 0)) (.seq (.block 1 (.seq (.reg [8] [om 8 6, om 3 8]) (.seq (.reg [9, 10, 11, 12, 13, 14, 15, 16, 17] [om 9 0, om 10 3, o 11 (.idxS (tt 9) (tt 10)), o 12 (.bin .lss (tt 11) (.const (.int .u8 97))), om 13 12, og 14 13 false (.mov (tt 0)), og 15 13 false (.mov (tt 3)), og 16 13 false (.idxS (tt 14) (tt 15)), og 17 13 false (.bin .gtr (tt 16) (.const (.int .u8 122))), o 18 (.pick (tt 13) (cb true) (tt 17))]) (.cond (tt 18) (.seq (.reg [] [o 2 (.mov (cb false))]) .ret) .skip)))) (.reg [19] [o 19 (.bin .add (tt 6) (ci 1)), om 6 19]))))
def ir38_T2 : Ir := (.seq (.reg [20, 21, 22, 23, 24, 25, 26, 27, 28] [om 20 0, o 21 (.lenS (tt 20)), o 22 (.call 18 [(tt 21), (ci 1), (ci 8)]), om 23 22, og 24 23 true (.load false 1 (.global 0)), og 25 23 true (.mov (tt 0)), og 26 23 true (.call 54 [(tt 24), (tt 25)]), og 27 23 true (.un .not (tt 26)), o 28 (.pick (tt 23) (tt 27) (cb false)), om 2 28]) .ret)
def ir38 : Ir := (.seq (.reg [] [o 2 (.mov (cb false))]) (.seq (.seq (.reg [4] [om 4 0, o 5 (.lenS (tt 4)), o 6 (.mov (ci 0))]) (.block 0 (.loop ir38_L1))) ir38_T2))
def keep38 : List Nat := [0, 2, 3, 5, 6, 7, 18]
def res38 : List RI := [.tmp 2]
theorem chk38 : chk Tryz.prog 38 1 keep38 = some (ir38, res38) := by kernel_rfl
def ir9 : Ir := (.seq (.reg [] [o 0 (.mov (cb false))]) (.seq (.reg [1] [o 1 (.call 38 [(.const (.string ⟨#[107, 101, 121]⟩))]), om 0 1]) .ret))
def keep9 : List Nat := [0]
def res9 : List RI := [.tmp 0]
theorem chk9 : chk Tryz.prog 9 0 keep9 = some (ir9, res9) := by kernel_rfl
abbrev PT (s : ByteArray) : PV := .v (.string s)
abbrev AT (s : ByteArray) : AV := .p true (PT s)
abbrev TL (nn : Bool) (n : Nat) (f : Nat → ByteArray) : AV := .p false (.sl nn 1 n fun i _ => PT (f i))
def hasT (f : Nat → ByteArray) (s : ByteArray) (n : Nat) : Bool := !allB (fun i => !(s.toList == (f i).toList)) n
theorem ev_idxT : ∀ (nn : Bool) (n : Nat) (f : Nat → ByteArray) (s : ByteArray), ev G0 res20 [] 3000 Or.nil [.ir ir20] (start [TL nn n f, AT s] []) = VC.loop ir20_L1 [.bend 0, .ir ir20_T2] (St.mk [(0, TL nn n f), (1, AT s), (4, AI 0), (7, AI ↑n), (8, AI 0)] []) := by intros; kernel_rfl
def st_idxT (nn : Bool) (n : Nat) (f : Nat → ByteArray) (s : ByteArray) (k : Nat) : St := ⟨[(0, TL nn n f), (1, AT s), (7, AI n), (8, AI k)], []⟩
theorem evr_idxT : ∀ (nn : Bool) (n : Nat) (f : Nat → ByteArray) (s : ByteArray) (I : Nat → St → Prop) (k : Nat), ev G0 res20 [] 3000 ((Or.nil.split Or.nil).split Or.nil) [.ir ir20_L1, .lend (I k), .bend 0, .ir ir20_T2] (st_idxT nn n f s k) = VC.split (decide ((↑k : Int) < ↑n)) (VC.need (0 ≤ (↑k : Int) ∧ k < n) (VC.split (s.toList == (f k).toList) (VC.doneP (AI ↑k)) (VC.lend (I k) (St.mk [(0, TL nn n f), (1, AT s), (7, AI ↑n), (8, AI (IntKind.i64.wrap ((↑k : Int) + 1))), (9, AB (decide ((↑k : Int) < ↑n))), (5, AI ↑k), (16, AB (s.toList == (f k).toList))] [])))) (VC.doneP (AI (-1))) := by intros; kernel_rfl
theorem c_idxT (nn : Bool) (n : Nat) (f : Nat → ByteArray) (s : ByteArray) (hn : n ≤ 1048576) : PSome Tryz.prog G0 20 [TL nn n f, AT s] [] Int (fun r => decide (0 ≤ r) = hasT f s n) (fun r => AI r) (fun _ => []) := by
  refine PCall.by chk20 rfl (ev_idxT nn n f s) ?_
  refine loop_by (st_idxT nn n f s) (fun k => k ≤ n ∧ ∀ j, j < k → (s.toList == (f j).toList) = false) (fun k => n - k) 0 [] [] [] (by simp) ?_ (evr_idxT nn n f s) fun k hk => ?_
  · simp [st_idxT, leA]
  · obtain ⟨hk, hall⟩ := hk
    simp only [vcA, Int.toNat_natCast]
    refine ⟨fun h1 => ⟨by omega, fun h2 => ?_, fun h2 => Again.mk (k + 1) [] [] [] ⟨by omega, fun j hj => ?_⟩ (by omega) ?_⟩, fun h1 => ?_⟩
    · have : allB (fun i => !(s.toList == (f i).toList)) n = false := by
        cases h3 : allB (fun i => !(s.toList == (f i).toList)) n with
        | false => rfl
        | true =>
          have := allB_iff.1 h3 k (by omega)
          simp only [Bool.not_eq_true'] at this
          rw [h2] at this; cases this
      exact ⟨k, by simp [hasT, this], rfl, trivial⟩
    · by_cases h3 : j = k
      · subst h3; exact h2
      · exact hall j (by omega)
    · have e1 : IntKind.i64.wrap ((k : Int) + 1) = ((k + 1 : Nat) : Int) := wrap_in (by omega) (by omega)
      simp only [e1, st_idxT]
      simp [leA]
    · have : k = n := by omega
      subst this
      have : allB (fun i => !(s.toList == (f i).toList)) k = true := allB_iff.2 fun i hi => by rw [hall i hi]; rfl
      exact ⟨-1, by simp [hasT, this], rfl, trivial⟩
theorem ev_hasT : ∀ (nn : Bool) (n : Nat) (f : Nat → ByteArray) (s : ByteArray), ev G0 res54 [] 3000 (Or.callE [] Int (fun (r : Int) => decide (0 ≤ r) = hasT f s n) (fun (r : Int) => AI r) (fun (x : Int) => []) fun (r : Int) => Or.nil) [.ir ir54] (start [TL nn n f, AT s] []) = VC.callE Int 20 [TL nn n f, AT s] [] (fun (r : Int) => decide (0 ≤ r) = hasT f s n) (fun (r : Int) => AI r) (fun (x : Int) => []) fun (r : Int) => VC.doneP (AB (decide (0 ≤ r))) := by intros; kernel_rfl
theorem c_hasT (nn : Bool) (n : Nat) (f : Nat → ByteArray) (s : ByteArray) (hn : n ≤ 1048576) : PRet Tryz.prog G0 54 [TL nn n f, AT s] (AB (hasT f s n)) := by
  refine PRet.by chk54 (ev_hasT nn n f s) ?_
  simp only [vcA]
  refine ⟨c_idxT _ _ _ _ hn, fun r hr => ?_⟩
  simp [← hr]
def byteI (s : ByteArray) (i : Nat) : Int := ((s.data.toList.getD i 0).toNat : Int)
def lowC (s : ByteArray) (i : Nat) : Bool := decide (97 ≤ byteI s i) && decide (byteI s i ≤ 122)
def nameB (s : ByteArray) : Bool := allB (lowC s) s.size && inB s.size 1 8 && !hasT (fun i => reservedW.getD i ByteArray.empty) s 13
theorem ev_nameV : ∀ (s : ByteArray), ev G0 res38 [] 3000 Or.nil [.ir ir38] (start [AT s] []) = VC.loop ir38_L1 [.bend 0, .ir ir38_T2] (St.mk [(0, AT s), (2, AB false), (5, AI ↑s.size), (6, AI 0)] []) := by intros; kernel_rfl
def st_nameV (s : ByteArray) (k : Nat) : St := ⟨[(0, AT s), (5, AI s.size), (6, AI k)], []⟩
theorem evr_nameV : ∀ (s : ByteArray) (I : Nat → St → Prop) (k : Nat), ev G0 res38 [] 3000 ((Or.nil.lit.lit.lit.lit.lit.split (Or.nil.split Or.nil).lit.lit.lit.lit).split (Or.call [] (AB (inB (↑s.size : Int) 1 8)) [] ((Or.call [] (AB (hasT (fun i => reservedW.getD i ByteArray.empty) s 13)) [] Or.nil.lit.lit).lit.lit.split Or.nil.lit.lit.lit.lit))) [.ir ir38_L1, .lend (I k), .bend 0, .ir ir38_T2] (st_nameV s k) = VC.split (decide ((↑k : Int) < ↑s.size)) (VC.need (0 ≤ (↑k : Int) ∧ k < s.size) (VC.split (decide ((↑(s.data.toList.getD k 0).toNat : Int) < 97)) (VC.doneP (AB false)) (VC.need (0 ≤ (↑k : Int) ∧ k < s.size) (VC.split (decide (122 < (↑(s.data.toList.getD k 0).toNat : Int))) (VC.doneP (AB false)) (VC.lend (I k) (St.mk [(0, AT s), (5, AI ↑s.size), (6, AI (IntKind.i64.wrap ((↑k : Int) + 1))), (7, AB (decide ((↑k : Int) < ↑s.size))), (3, AI ↑k), (18, AB (decide (122 < (↑(s.data.toList.getD k 0).toNat : Int))))] [])))))) (VC.call 18 [AI ↑s.size, AI 1, AI 8] [] (AB (inB (↑s.size : Int) 1 8)) [] (VC.split (inB (↑s.size : Int) 1 8) (VC.call 54 [SL true 1 13 fun i x => PV.v (Value.string (reservedW.getD i ByteArray.empty)), AT s] [] (AB (hasT (fun i => reservedW.getD i ByteArray.empty) s 13)) [] (VC.doneP (AB !hasT (fun i => reservedW.getD i ByteArray.empty) s 13))) (VC.doneP (AB false)))) := by intros; kernel_rfl
theorem c_nameV (s : ByteArray) (hs : s.size ≤ 1048576000) : PRet Tryz.prog G0 38 [AT s] (AB (nameB s)) := by
  refine PRet.by chk38 (ev_nameV s) ?_
  refine loop_by (st_nameV s) (fun k => k ≤ s.size ∧ ∀ j, j < k → lowC s j = true) (fun k => s.size - k) 0 [] [] [] (by simp) ?_ (evr_nameV s) fun k hk => ?_
  · simp [st_nameV, leA]
  · obtain ⟨hk, hall⟩ := hk
    simp only [vcA, Int.toNat_natCast]
    refine ⟨fun h1 => ⟨by omega, fun h2 => ?_, fun h2 => ⟨by omega, fun h3 => ?_, fun h3 => Again.mk (k + 1) [] [] [] ⟨by omega, fun j hj => ?_⟩ (by omega) ?_⟩⟩, fun h1 => ⟨c_in _ _ _, fun h2 => ⟨c_hasT _ _ _ _ (by omega), ?_⟩, fun h2 => ?_⟩⟩
    · have h4 : lowC s k = false := by
        have : ¬ 97 ≤ byteI s k := by unfold byteI; omega
        simp [lowC, this]
      have : allB (lowC s) s.size = false := by
        cases h5 : allB (lowC s) s.size with
        | false => rfl
        | true => rw [allB_iff.1 h5 k (by omega)] at h4; cases h4
      simp [nameB, this]
    · have h4 : lowC s k = false := by
        have : ¬ byteI s k ≤ 122 := by unfold byteI; omega
        simp [lowC, this]
      have : allB (lowC s) s.size = false := by
        cases h5 : allB (lowC s) s.size with
        | false => rfl
        | true => rw [allB_iff.1 h5 k (by omega)] at h4; cases h4
      simp [nameB, this]
    · by_cases h4 : j = k
      · subst h4
        have h5 : 97 ≤ byteI s j := by unfold byteI; omega
        have h6 : byteI s j ≤ 122 := by unfold byteI; omega
        simp [lowC, h5, h6]
      · exact hall j (by omega)
    · have e1 : IntKind.i64.wrap ((k : Int) + 1) = ((k + 1 : Nat) : Int) := wrap_in (by omega) (by omega)
      simp only [e1, st_nameV]
      simp [leA]
    · have hks : k = s.size := by omega
      have : allB (lowC s) s.size = true := allB_iff.2 fun j hj => hall j (by omega)
      simp [nameB, this, h2]
    · simp [nameB, h2]
theorem ev_alive : ev G0 res9 [] 3000 (Or.call [] (AB (nameB (ByteArray.mk #[107, 101, 121]))) [] Or.nil) [.ir ir9] (start [] []) = VC.call 38 [AT (ByteArray.mk #[107, 101, 121])] [] (AB (nameB (ByteArray.mk #[107, 101, 121]))) [] (VC.doneP (AB true)) := by intros; kernel_rfl
theorem key_name : nameB ⟨#[107, 101, 121]⟩ = true := by kernel_rfl
theorem c_alive : PRet Tryz.prog G0 9 [] (AB true) := by
  refine PRet.by chk9 ev_alive ?_
  simp only [vcA]
  refine ⟨c_nameV _ (by decide), ?_⟩
  simp [key_name]
end Go.Gw
