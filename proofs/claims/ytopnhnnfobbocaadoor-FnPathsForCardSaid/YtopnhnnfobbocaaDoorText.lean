/- Texts in rows: copied, compared, written over, read again; with no condition. -/
import Derived.Test.YtopnhnnfobbocaaDoorNames
import Derived.KernelRfl
namespace Go.Gw
open Go Go.Proofs
set_option linter.unusedSimpArgs false
set_option linter.unusedVariables false
set_option maxRecDepth 100000
def ir80_L1 : Ir :=
  (.seq
  (.seq
  (.reg [6] [o 6 (.mov (tt 0)),
    o 7 (.bin .gtr (tt 6) (ci 0))])
  (.cond (tt 7)
   .skip
   (.exit 0)))
  (.block 1
   (.seq
   (.reg [8, 9, 10, 11, 12, 13, 14, 15] [o 8 (.mov (tt 0)),
     o 9 (.bin .rem (tt 8) (ci 10)),
     o 10 (.bin .add (ci 48) (tt 9)),
     o 11 (.conv .u8 (tt 10)),
     o 12 (.mkSl 1 1 [(.int .u8 0)] [(0, (tt 11))]),
     o 13 (.b2s (tt 12)),
     o 14 (.mov (tt 3)),
     o 15 (.bin .add (tt 13) (tt 14)),
     o 3 (.mov (tt 15))])
   (.reg [16, 17] [o 16 (.mov (tt 0)),
     o 17 (.bin .quo (tt 16) (ci 10)),
     o 0 (.mov (tt 17))]))))
def ir80_T2 : Ir :=
  (.seq
  (.reg [18, 19] [o 18 (.mov (tt 3)),
    o 19 (.bin .add (.const (.string ⟨#[109]⟩)) (tt 18)),
    o 2 (.mov (tt 19))])
  .ret)
def ir80 : Ir :=
  (.seq
  (.reg [] [o 2 (.mov (.const (.string ⟨#[]⟩)))])
  (.seq
  (.seq
  (.reg [4] [o 4 (.mov (tt 0)),
    o 5 (.bin .leq (tt 4) (ci 0))])
  (.cond (tt 5)
   (.seq
   (.reg [] [o 2 (.mov (.const (.string ⟨#[109, 48]⟩)))])
   .ret)
   .skip))
  (.seq
  (.reg [] [o 3 (.mov (.const (.string ⟨#[]⟩)))])
  (.seq
  (.block 0
   (.loop ir80_L1))
  ir80_T2))))
def keep80 : List Nat := [0, 2, 3, 5, 7]
def res80 : List RI := [.tmp 2]
theorem chk80 : chk Tryd.prog 80 1 keep80 = some (ir80, res80) := by kernel_rfl
def ir102_L1 : Ir :=
  (.seq
  (.seq
  (.reg [12, 13, 14] [o 12 (.mov (tt 5)),
    o 13 (.mov (tt 0)),
    o 14 (.len (tt 13)),
    o 15 (.bin .lss (tt 12) (tt 14))])
  (.cond (tt 15)
   .skip
   (.exit 0)))
  (.seq
  (.block 1
   (.seq
   (.reg [18, 19, 20, 21, 22, 23, 24] [o 18 (.mov (tt 1)),
     o 19 (.mov (tt 0)),
     o 20 (.mov (tt 5)),
     o 21 (.idx 1 (tt 19) (tt 20)),
     o 22 (.load false 1 (tt 21)),
     o 23 (.lenS (tt 22)),
     o 24 (.bin .sub (tt 18) (tt 23)),
     o 1 (.mov (tt 24))])
   (.seq
   (.reg [25] [o 25 (.mov (tt 1)),
     o 26 (.bin .lss (tt 25) (ci 0))])
   (.cond (tt 26)
    (.seq
    (.reg [] [o 4 (.mov (ci (-1)))])
    .ret)
    .skip))))
  (.reg [16, 17] [o 16 (.mov (tt 5)),
    o 17 (.bin .add (tt 16) (ci 1)),
    o 5 (.mov (tt 17))])))
def ir102_T2 : Ir :=
  (.seq
  (.reg [27] [o 27 (.mov (tt 1)),
    o 4 (.mov (tt 27))])
  .ret)
def ir102 : Ir :=
  (.seq
  (.reg [] [o 4 (.mov (ci 0))])
  (.seq
  (.reg [6, 7, 8, 9] [o 6 (.mov (tt 1)),
    o 7 (.mov (tt 0)),
    o 8 (.len (tt 7)),
    o 9 (.bin .sub (tt 6) (tt 8)),
    o 1 (.mov (tt 9))])
  (.seq
  (.seq
  (.reg [10] [o 10 (.mov (tt 1)),
    o 11 (.bin .lss (tt 10) (ci 0))])
  (.cond (tt 11)
   (.seq
   (.reg [] [o 4 (.mov (ci (-1)))])
   .ret)
   .skip))
  (.seq
  (.seq
  (.reg [] [o 5 (.mov (ci 0))])
  (.block 0
   (.loop ir102_L1)))
  ir102_T2))))
def keep102 : List Nat := [0, 1, 4, 5, 11, 15, 26]
def res102 : List RI := [.tmp 4]
theorem chk102 : chk Tryd.prog 102 2 keep102 = some (ir102, res102) := by kernel_rfl
def ir104_L1 : Ir :=
  (.seq
  (.seq
  (.reg [8, 9, 10] [o 8 (.mov (tt 4)),
    o 9 (.mov (tt 0)),
    o 10 (.len (tt 9)),
    o 11 (.bin .lss (tt 8) (tt 10))])
  (.cond (tt 11)
   .skip
   (.exit 0)))
  (.seq
  (.block 1
   (.reg [14, 15, 16, 17, 18, 19, 20] [o 14 (.mov (tt 3)),
     o 15 (.mov (tt 4)),
     o 16 (.mov (tt 0)),
     o 17 (.mov (tt 4)),
     o 18 (.idx 1 (tt 16) (tt 17)),
     o 19 (.load false 1 (tt 18)),
     o 20 (.idx 1 (tt 14) (tt 15)),
     on (.store 1 (tt 20) (tt 19))]))
  (.reg [12, 13] [o 12 (.mov (tt 4)),
    o 13 (.bin .add (tt 12) (ci 1)),
    o 4 (.mov (tt 13))])))
def ir104_T2 : Ir :=
  (.seq
  (.reg [21] [o 21 (.mov (tt 3)),
    o 2 (.mov (tt 21))])
  .ret)
def ir104 : Ir :=
  (.seq
  (.reg [] [o 2 (.mov (.const (.slice none 0 0)))])
  (.seq
  (.reg [5, 6, 7] [o 5 (.mov (tt 0)),
    o 6 (.len (tt 5)),
    o 7 (.mkSlc 1 16 [(.string ⟨#[]⟩)] (tt 6) (tt 6)),
    o 3 (.mov (tt 7))])
  (.seq
  (.seq
  (.reg [] [o 4 (.mov (ci 0))])
  (.block 0
   (.loop ir104_L1)))
  ir104_T2)))
def keep104 : List Nat := [0, 2, 3, 4, 11]
def res104 : List RI := [.tmp 2]
theorem chk104 : chk Tryd.prog 104 1 keep104 = some (ir104, res104) := by kernel_rfl
def ir77_L1 : Ir :=
  (.seq
  (.seq
  (.reg [11, 12, 13] [o 11 (.mov (tt 5)),
    o 12 (.mov (tt 0)),
    o 13 (.len (tt 12)),
    o 14 (.bin .lss (tt 11) (tt 13))])
  (.cond (tt 14)
   .skip
   (.exit 0)))
  (.seq
  (.block 1
   (.seq
   (.dreg [17, 18, 19, 20, 21, 22, 23, 24] [0, 0, 3, 7, 0, 0, 48, 112, 255] [(3, 1020), (7, 1024)] [o 17 (.mov (tt 0)),
     o 18 (.mov (tt 5)),
     o 19 (.idx 1 (tt 17) (tt 18)),
     o 20 (.load false 1 (tt 19)),
     o 21 (.mov (tt 1)),
     o 22 (.mov (tt 5)),
     o 23 (.idx 1 (tt 21) (tt 22)),
     o 24 (.load false 1 (tt 23)),
     o 25 (.bin .neq (tt 20) (tt 24))])
   (.cond (tt 25)
    (.seq
    (.reg [] [o 4 (.mov (cb false))])
    .ret)
    .skip)))
  (.reg [15, 16] [o 15 (.mov (tt 5)),
    o 16 (.bin .add (tt 15) (ci 1)),
    o 5 (.mov (tt 16))])))
def ir77_T2 : Ir :=
  (.seq
  (.reg [] [o 4 (.mov (cb true))])
  .ret)
def ir77 : Ir :=
  (.seq
  (.reg [] [o 4 (.mov (cb false))])
  (.seq
  (.seq
  (.reg [6, 7, 8, 9] [o 6 (.mov (tt 0)),
    o 7 (.len (tt 6)),
    o 8 (.mov (tt 1)),
    o 9 (.len (tt 8)),
    o 10 (.bin .neq (tt 7) (tt 9))])
  (.cond (tt 10)
   (.seq
   (.reg [] [o 4 (.mov (cb false))])
   .ret)
   .skip))
  (.seq
  (.seq
  (.reg [] [o 5 (.mov (ci 0))])
  (.block 0
   (.loop ir77_L1)))
  ir77_T2)))
def keep77 : List Nat := [0, 1, 4, 5, 10, 14, 25]
def res77 : List RI := [.tmp 4]
theorem chk77 : chk Tryd.prog 77 2 keep77 = some (ir77, res77) := by kernel_rfl
def ir81_L1 : Ir :=
  (.seq
  (.seq
  (.reg [6, 7, 8] [o 6 (.mov (tt 5)),
    o 7 (.mov (tt 0)),
    o 8 (.len (tt 7)),
    o 9 (.bin .lss (tt 6) (tt 8))])
  (.cond (tt 9)
   .skip
   (.exit 0)))
  (.seq
  (.block 1
   (.seq
   (.reg [12, 13, 14, 15, 16] [o 12 (.mov (tt 0)),
     o 13 (.mov (tt 5)),
     o 14 (.mov (tt 1)),
     o 15 (.call 80 [(tt 14)]),
     o 16 (.idx 1 (tt 12) (tt 13)),
     on (.store 1 (tt 16) (tt 15))])
   (.reg [17, 18] [o 17 (.mov (tt 1)),
     o 18 (.bin .add (tt 17) (ci 1)),
     o 1 (.mov (tt 18))])))
  (.reg [10, 11] [o 10 (.mov (tt 5)),
    o 11 (.bin .add (tt 10) (ci 1)),
    o 5 (.mov (tt 11))])))
def ir81_T2 : Ir :=
  (.seq
  (.reg [19] [o 19 (.mov (tt 1)),
    o 4 (.mov (tt 19))])
  .ret)
def ir81 : Ir :=
  (.seq
  (.reg [] [o 4 (.mov (ci 0))])
  (.seq
  (.seq
  (.reg [] [o 5 (.mov (ci 0))])
  (.block 0
   (.loop ir81_L1)))
  ir81_T2))
def keep81 : List Nat := [0, 1, 4, 5, 9]
def res81 : List RI := [.tmp 4]
theorem chk81 : chk Tryd.prog 81 2 keep81 = some (ir81, res81) := by kernel_rfl
def ir83_L1 : Ir :=
  (.seq
  (.seq
  (.reg [6, 7, 8] [o 6 (.mov (tt 5)),
    o 7 (.mov (tt 0)),
    o 8 (.len (tt 7)),
    o 9 (.bin .lss (tt 6) (tt 8))])
  (.cond (tt 9)
   .skip
   (.exit 0)))
  (.seq
  (.block 1
   (.seq
   (.seq
   (.dreg [12, 13, 14, 15, 16, 17] [0, 0, 3, 7, 0, 16, 63] [(3, 1015), (5, 1017), (5, 2017), (5, 3017), (5, 4017), (5, 5017), (5, 6017), (5, 7017), (5, 8017)] [o 12 (.mov (tt 0)),
     o 13 (.mov (tt 5)),
     o 14 (.idx 1 (tt 12) (tt 13)),
     o 15 (.load false 1 (tt 14)),
     o 16 (.mov (tt 1)),
     o 17 (.call 80 [(tt 16)]),
     o 18 (.bin .neq (tt 15) (tt 17))])
   (.cond (tt 18)
    (.seq
    (.reg [] [o 4 (.mov (ci (-1)))])
    .ret)
    .skip))
   (.reg [19, 20] [o 19 (.mov (tt 1)),
     o 20 (.bin .add (tt 19) (ci 1)),
     o 1 (.mov (tt 20))])))
  (.reg [10, 11] [o 10 (.mov (tt 5)),
    o 11 (.bin .add (tt 10) (ci 1)),
    o 5 (.mov (tt 11))])))
def ir83_T2 : Ir :=
  (.seq
  (.reg [21] [o 21 (.mov (tt 1)),
    o 4 (.mov (tt 21))])
  .ret)
def ir83 : Ir :=
  (.seq
  (.reg [] [o 4 (.mov (ci 0))])
  (.seq
  (.seq
  (.reg [] [o 5 (.mov (ci 0))])
  (.block 0
   (.loop ir83_L1)))
  ir83_T2))
def keep83 : List Nat := [0, 1, 4, 5, 9, 18]
def res83 : List RI := [.tmp 4]
theorem chk83 : chk Tryd.prog 83 2 keep83 = some (ir83, res83) := by kernel_rfl

abbrev TR (f : Nat → ByteArray) : Nat → Nat → PV := fun i _ => PT (f i)
/-! ### markText -/
def dgt (k : Nat) : ByteArray := bytesOf 1 (setG [(0, 0, .v (.int .u8 (IntKind.u8.wrap (IntKind.i64.wrap (48 + (k : Int).tmod 10)))))] (fun _ j => .v ([Value.int .u8 0].getD j undef)))
theorem dgt_size (k : Nat) : (dgt k).size = 1 := rfl
def digT : Nat → Nat → ByteArray → ByteArray
  | 0, _, out => out
  | fu + 1, k, out => if k = 0 then out else digT fu (k / 10) (dgt k ++ out)
def markT (k : Int) : ByteArray := if k ≤ 0 then ⟨#[109, 48]⟩ else ⟨#[109]⟩ ++ digT k.toNat k.toNat ⟨#[]⟩
theorem digT_fuel : ∀ (fu fu' k : Nat) (out : ByteArray), k ≤ fu → k ≤ fu' → digT fu k out = digT fu' k out
  | 0, 0, _, _, _, _ => rfl
  | 0, fu' + 1, k, out, h, _ => by
    have : k = 0 := by omega
    simp [digT, this]
  | fu + 1, 0, k, out, _, h => by
    have : k = 0 := by omega
    simp [digT, this]
  | fu + 1, fu' + 1, k, out, h, h' => by
    simp only [digT]
    split
    · rfl
    · exact digT_fuel fu fu' (k / 10) _ (by omega) (by omega)
def in_markT (k : Int) := (G0, res80, ([] : List (Nat × Ob)), [Item.ir ir80], start [AI k] [])
theorem ev_markT : ∀ (k : Int), ev G0 res80 [] (3000 : Nat) (Or.nil.split Or.nil) [Item.ir ir80] (start [AI k] []) = VC.split (decide (k ≤ (0 : Int))) (VC.doneP (AV.p true (PV.v (Value.string (ByteArray.mk #[(109 : UInt8), (48 : UInt8)]))))) (VC.loop ir80_L1 [Item.bend (0 : Nat), Item.ir ir80_T2] (St.mk [((0 : Nat), AV.p true (PV.v (Value.int IntKind.i64 k))), ((2 : Nat), AV.p true (PV.v (Value.string (ByteArray.mk #[])))), ((5 : Nat), AV.p true (PV.v (Value.bool (decide (k ≤ (0 : Int)))))), ((3 : Nat), AV.p true (PV.v (Value.string (ByteArray.mk #[]))))] [])) := by intros; kernel_rfl
def st_markT (x : Nat × ByteArray) : St := ⟨[(0, AI (x.1 : Int)), (3, AT x.2)], []⟩
def r_markT (I : Nat × ByteArray → St → Prop) (x : Nat × ByteArray) := (G0, res80, ([] : List (Nat × Ob)), [Item.ir ir80_L1, .lend (I x), Item.bend 0, Item.ir ir80_T2], st_markT x)
theorem evr_markT : ∀ (I : Nat × ByteArray → St → Prop) (x : Nat × ByteArray), ev G0 res80 [] (3000 : Nat) (Or.nil.split Or.nil) [Item.ir ir80_L1, Item.lend (I x), Item.bend (0 : Nat), Item.ir ir80_T2] (st_markT x) = VC.split (decide ((0 : Int) < (↑x.1 : Int))) (VC.need ((10 : Int) ≠ (0 : Int)) (VC.need (∀ (i : Nat), i < (1 : Nat) → ∃ (m : Int), setG [((0 : Nat), (0 : Nat), PV.v (Value.int IntKind.u8 (IntKind.u8.wrap (IntKind.i64.wrap ((48 : Int) + (↑x.1 : Int).tmod (10 : Int))))))] (fun (x_1 j : Nat) => PV.v ([Value.int IntKind.u8 (0 : Int)].getD j undef)) i (0 : Nat) = PV.v (Value.int IntKind.u8 m)) (VC.need ((↑((bytesOf (1 : Nat) (setG [((0 : Nat), (0 : Nat), PV.v (Value.int IntKind.u8 (IntKind.u8.wrap (IntKind.i64.wrap ((48 : Int) + (↑x.1 : Int).tmod (10 : Int))))))] fun (x_1 j : Nat) => PV.v ([Value.int IntKind.u8 (0 : Int)].getD j undef))).size + x.2.size) : Int) ≤ IntKind.i64.max) (VC.need ((10 : Int) ≠ (0 : Int)) (VC.lend (I x) (St.mk [((0 : Nat), AV.p true (PV.v (Value.int IntKind.i64 (IntKind.i64.wrap ((↑x.1 : Int).tdiv (10 : Int)))))), ((3 : Nat), AV.p true (PV.v (Value.string (bytesOf (1 : Nat) (setG [((0 : Nat), (0 : Nat), PV.v (Value.int IntKind.u8 (IntKind.u8.wrap (IntKind.i64.wrap ((48 : Int) + (↑x.1 : Int).tmod (10 : Int))))))] fun (x_1 j : Nat) => PV.v ([Value.int IntKind.u8 (0 : Int)].getD j undef)) ++ x.2)))), ((7 : Nat), AV.p true (PV.v (Value.bool (decide ((0 : Int) < (↑x.1 : Int))))))] [])))))) (VC.need ((↑((ByteArray.mk #[(109 : UInt8)]).size + x.2.size) : Int) ≤ IntKind.i64.max) (VC.doneP (AV.p true (PV.v (Value.string (ByteArray.mk #[(109 : UInt8)] ++ x.2)))))) := by intros; kernel_rfl
theorem c_markT (k : Int) (hk : k ≤ 1073741824) : PRet Tryd.prog G0 80 [AI k] (AT (markT k)) := by
  refine PRet.by chk80 (ev_markT k) ?_
  simp only [VC.holds_split, VC.holds_need, VC.holds_doneP, VC.holds_done, VC.holds_either, VC.holds_call, VC.holds_callE, VC.holds_lend, VC.holds_stop, VC.holds_fail, decide_eq_true_eq, decide_eq_false_iff_not]
  have hmax : IntKind.i64.max = 9223372036854775807 := rfl
  refine ⟨fun h => by simp [markT, h], fun h => ?_⟩
  refine loop_by st_markT (fun x => digT x.1 x.1 x.2 = digT k.toNat k.toNat ⟨#[]⟩ ∧ x.1 ≤ k.toNat ∧ x.2.size + x.1 ≤ k.toNat) (fun x => x.1) (k.toNat, ⟨#[]⟩) [] [] [] ⟨rfl, Nat.le_refl _, by simp [ByteArray.size]⟩ ?_ evr_markT fun x hx => ?_
  · have e : ((k.toNat : Nat) : Int) = k := by omega
    simp [st_markT, hbs, St.lowers, St.lower, stLe, leEnv, leObs, obLe, injB, pinC, AV.leC, AV.leCs, PV.leC, PV.Le_v, St.get, St.obj, look, rho, isNew, keptC, renH, Mode.ok, Mode.isZ, PV.isVal, PV.isNilSl, List.all_nil, List.all_cons, List.any_nil, List.any_cons, List.map_nil, List.map_cons, e]
  · obtain ⟨k', out⟩ := x
    obtain ⟨h1, h2, h3⟩ := hx
    simp only [] at h1 h2 h3
    have w : IntKind.i64.wrap ((k' : Int).tdiv 10) = ((k' / 10 : Nat) : Int) := by
      have e : (k' : Int).tdiv 10 = ((k' / 10 : Nat) : Int) := by rw [Int.tdiv_eq_ediv_of_nonneg (by omega)]; omega
      rw [e]; exact wrap_in (by omega) (by omega)
    simp only [VC.holds_split, VC.holds_need, VC.holds_doneP, VC.holds_done, VC.holds_either, VC.holds_call, VC.holds_callE, VC.holds_lend, VC.holds_stop, VC.holds_fail, decide_eq_true_eq, decide_eq_false_iff_not, w]
    have hd : (bytesOf 1 (setG [(0, 0, PV.v (Value.int .u8 (IntKind.u8.wrap (IntKind.i64.wrap (48 + (k' : Int).tmod 10)))))] (fun _ j => PV.v ([Value.int .u8 0].getD j undef)))) = dgt k' := rfl
    simp only [hd, dgt_size]
    refine ⟨fun h4 => ⟨by omega, fun i hi => ?_, by omega, by omega, Again.mk (k' / 10, dgt k' ++ out) [] [] [] ⟨?_, by simp only []; omega, ?_⟩ (by simp only []; omega) ?_⟩, fun h4 => ⟨?_, ?_⟩⟩
    · obtain rfl : i = 0 := by omega
      exact ⟨_, rfl⟩
    · rw [← h1]
      obtain ⟨m, rfl⟩ : ∃ m, k' = m + 1 := ⟨k' - 1, by omega⟩
      rw [digT, if_neg (by omega)]
      exact digT_fuel _ _ _ _ (Nat.le_refl _) (by omega)
    · simp only [ByteArray.size_append, dgt_size]; omega
    · simp [st_markT, hbs, St.lowers, St.lower, stLe, leEnv, leObs, obLe, injB, pinC, AV.leC, AV.leCs, PV.leC, PV.Le_v, St.get, St.obj, look, rho, isNew, keptC, renH, Mode.ok, Mode.isZ, PV.isVal, PV.isNilSl, List.all_nil, List.all_cons, List.any_nil, List.any_cons, List.map_nil, List.map_cons]
    · have : ({ data := #[(109 : UInt8)] } : ByteArray).size = 1 := rfl
      rw [this]; omega
    · have : k' = 0 := by omega
      subst this
      simp only [digT] at h1
      simp [markT, h, h1]
def in_szT (nn : Bool) (n : Nat) (f : Nat → ByteArray) (l : Int) := (G0, res102, ([] : List (Nat × Ob)), [Item.ir ir102], start [TL nn n f, AI l] [])
theorem ev_szT : ∀ (nn : Bool) (n : Nat) (f : Nat → ByteArray) (l : Int), ev G0 res102 [] (3000 : Nat) (Or.nil.split Or.nil) [Item.ir ir102] (start [TL nn n f, AI l] []) = VC.split (decide (IntKind.i64.wrap (l - (↑n : Int)) < (0 : Int))) (VC.doneP (AV.p true (PV.v (Value.int IntKind.i64 (-1 : Int))))) (VC.loop ir102_L1 [Item.bend (0 : Nat), Item.ir ir102_T2] (St.mk [((0 : Nat), AV.p false (PV.sl nn (1 : Nat) n fun (i x : Nat) => PT (f i))), ((1 : Nat), AV.p true (PV.v (Value.int IntKind.i64 (IntKind.i64.wrap (l - (↑n : Int)))))), ((4 : Nat), AV.p true (PV.v (Value.int IntKind.i64 (0 : Int)))), ((11 : Nat), AV.p true (PV.v (Value.bool (decide (IntKind.i64.wrap (l - (↑n : Int)) < (0 : Int)))))), ((5 : Nat), AV.p true (PV.v (Value.int IntKind.i64 (0 : Int))))] [])) := by intros; kernel_rfl
def st_szT (nn : Bool) (n : Nat) (f : Nat → ByteArray) (x : Nat × Int) : St := ⟨[(0, TL nn n f), (1, AI x.2), (5, AI x.1)], []⟩
def r_szT (nn : Bool) (n : Nat) (f : Nat → ByteArray) (I : Nat × Int → St → Prop) (x : Nat × Int) := (G0, res102, ([] : List (Nat × Ob)), [Item.ir ir102_L1, .lend (I x), Item.bend 0, Item.ir ir102_T2], st_szT nn n f x)
theorem evr_szT : ∀ (nn : Bool) (n : Nat) (f : Nat → ByteArray) (I : Nat × Int → St → Prop) (x : Nat × Int), ev G0 res102 [] (3000 : Nat) ((Or.nil.split Or.nil).split Or.nil) [Item.ir ir102_L1, Item.lend (I x), Item.bend (0 : Nat), Item.ir ir102_T2] (st_szT nn n f x) = VC.split (decide ((↑x.1 : Int) < (↑n : Int))) (VC.need ((0 : Int) ≤ (↑x.1 : Int) ∧ (↑x.1 : Int).toNat < n) (VC.split (decide (IntKind.i64.wrap (x.2 - (↑(f (↑x.1 : Int).toNat).size : Int)) < (0 : Int))) (VC.doneP (AV.p true (PV.v (Value.int IntKind.i64 (-1 : Int))))) (VC.lend (I x) (St.mk [((0 : Nat), AV.p false (PV.sl nn (1 : Nat) n fun (i x_1 : Nat) => PT (f i))), ((1 : Nat), AV.p true (PV.v (Value.int IntKind.i64 (IntKind.i64.wrap (x.2 - (↑(f (↑x.1 : Int).toNat).size : Int)))))), ((5 : Nat), AV.p true (PV.v (Value.int IntKind.i64 (IntKind.i64.wrap ((↑x.1 : Int) + (1 : Int)))))), ((15 : Nat), AV.p true (PV.v (Value.bool (decide ((↑x.1 : Int) < (↑n : Int)))))), ((26 : Nat), AV.p true (PV.v (Value.bool (decide (IntKind.i64.wrap (x.2 - (↑(f (↑x.1 : Int).toNat).size : Int)) < (0 : Int))))))] [])))) (VC.doneP (AV.p true (PV.v (Value.int IntKind.i64 x.2)))) := by intros; kernel_rfl
def sumN (w : Nat → Nat) : Nat → Nat
  | 0 => 0
  | k + 1 => sumN w k + w k
theorem sumN_le {w : Nat → Nat} : ∀ {n i : Nat}, i < n → w i ≤ sumN w n
  | n + 1, i, h => by
    by_cases h2 : i = n
    · subst h2; simp only [sumN]; omega
    · have := sumN_le (w := w) (n := n) (i := i) (by omega)
      simp only [sumN]; omega
theorem sumN_mono {w : Nat → Nat} : ∀ {n k : Nat}, k ≤ n → sumN w k ≤ sumN w n
  | 0, k, h => by
    obtain rfl : k = 0 := by omega
    exact Nat.le_refl _
  | n + 1, k, h => by
    by_cases h2 : k = n + 1
    · subst h2; exact Nat.le_refl _
    · have := sumN_mono (w := w) (n := n) (k := k) (by omega)
      simp only [sumN]; omega
theorem c_szT (nn : Bool) (n : Nat) (f : Nat → ByteArray) (l : Int) (hn : n ≤ maxLen) (hl0 : 0 ≤ l) (hl : l ≤ 1048576) (hf : ∀ i, (f i).size ≤ maxLen) : PSome Tryd.prog G0 102 [TL nn n f, AI l] [] Int (fun r => r = -1 ∨ (0 ≤ r ∧ r + n + (sumN (fun i => (f i).size) n : Nat) = l)) (fun r => AI r) (fun _ => []) := by
  refine PCall.by chk102 rfl (ev_szT nn n f l) ?_
  simp only [VC.holds_split, VC.holds_need, VC.holds_doneP, VC.holds_done, VC.holds_either, VC.holds_call, VC.holds_callE, VC.holds_lend, VC.holds_stop, VC.holds_fail, decide_eq_true_eq, decide_eq_false_iff_not]
  have hm : maxLen = 9223372036854775807 := rfl
  have w1 : IntKind.i64.wrap (l - n) = l - n := wrap_in (by omega) (by omega)
  rw [w1]
  refine ⟨fun h => ⟨-1, .inl rfl, rfl, trivial⟩, fun h => ?_⟩
  refine loop_by (st_szT nn n f) (fun x => x.1 ≤ n ∧ 0 ≤ x.2 ∧ x.2 + n + (sumN (fun i => (f i).size) x.1 : Nat) = l) (fun x => n - x.1) (0, l - n) [] [] [] ⟨by simp, by simp only []; omega, by simp only [sumN]; omega⟩ ?_ (evr_szT nn n f) fun x hx => ?_
  · simp [st_szT, hbs, St.lowers, St.lower, stLe, leEnv, leObs, obLe, injB, pinC, AV.leC, AV.leCs, PV.leC, PV.Le_v, St.get, St.obj, look, rho, isNew, keptC, renH, Mode.ok, Mode.isZ, PV.isVal, PV.isNilSl, List.all_nil, List.all_cons, List.any_nil, List.any_cons, List.map_nil, List.map_cons]
  · obtain ⟨k, r⟩ := x
    obtain ⟨h1, h2, h3⟩ := hx
    simp only [] at h1 h2 h3
    have hk := hf k
    have w2 : IntKind.i64.wrap (r - ((f k).size : Int)) = r - ((f k).size : Int) := wrap_in (by omega) (by omega)
    simp only [VC.holds_split, VC.holds_need, VC.holds_doneP, VC.holds_done, VC.holds_either, VC.holds_call, VC.holds_callE, VC.holds_lend, VC.holds_stop, VC.holds_fail, decide_eq_true_eq, decide_eq_false_iff_not, Int.toNat_natCast, w2]
    refine ⟨fun h5 => ⟨by omega, fun h6 => ⟨-1, .inl rfl, rfl, trivial⟩, fun h6 => Again.mk (k + 1, r - (f k).size) [] [] [] ⟨by simp only []; omega, by simp only []; omega, ?_⟩ (by simp only []; omega) ?_⟩, fun h5 => ⟨r, .inr ⟨h2, ?_⟩, rfl, trivial⟩⟩
    · simp only [sumN]; omega
    · have e1 : IntKind.i64.wrap ((k : Int) + 1) = ((k + 1 : Nat) : Int) := wrap_in (by omega) (by omega)
      simp [st_szT, hbs, St.lowers, St.lower, stLe, leEnv, leObs, obLe, injB, pinC, AV.leC, AV.leCs, PV.leC, PV.Le_v, St.get, St.obj, look, rho, isNew, keptC, renH, Mode.ok, Mode.isZ, PV.isVal, PV.isNilSl, List.all_nil, List.all_cons, List.any_nil, List.any_cons, List.map_nil, List.map_cons, e1]
    · have : k = n := by omega
      subst this
      exact h3
def in_toT (nn : Bool) (n : Nat) (f : Nat → ByteArray) := (G0, res104, ([] : List (Nat × Ob)), [Item.ir ir104], start [TL nn n f] [])
theorem ev_toT : ∀ (nn : Bool) (n : Nat) (f : Nat → ByteArray), ev G0 res104 [] (3000 : Nat) Or.nil [Item.ir ir104] (start [TL nn n f] []) = VC.need ((0 : Int) ≤ (↑n : Int) ∧ (↑n : Int) ≤ (↑n : Int) ∧ (↑(16 : Nat) : Int) * (↑n : Int) ≤ (281474976710656 : Int) ∧ (↑n : Int) ≤ (9223372036854775807 : Int)) (VC.loop ir104_L1 [Item.bend (0 : Nat), Item.ir ir104_T2] (St.mk [((0 : Nat), AV.p false (PV.sl nn (1 : Nat) n fun (i x : Nat) => PT (f i))), ((2 : Nat), AV.p true (PV.v (Value.slice none (0 : Nat) (0 : Nat)))), ((3 : Nat), AV.own (7 : Nat)), ((4 : Nat), AV.p true (PV.v (Value.int IntKind.i64 (0 : Int))))] [((7 : Nat), Ob.row Mode.u true (1 : Nat) (↑n : Int).toNat (fun (x j : Nat) => PV.v ([Value.string (ByteArray.mk #[])].getD j undef)) [])])) := by intros; kernel_rfl
def st_toT (nn : Bool) (n : Nat) (f : Nat → ByteArray) (k : Nat) : St := ⟨[(0, TL nn n f), (3, .own 7), (4, AI k)], [(7, .row .u true 1 n (fun i _ => PT (if i < k then f i else ⟨#[]⟩)) [])]⟩
def r_toT (nn : Bool) (n : Nat) (f : Nat → ByteArray) (I : Nat → St → Prop) (k : Nat) := (G0, res104, ([] : List (Nat × Ob)), [Item.ir ir104_L1, .lend (I k), Item.bend 0, Item.ir ir104_T2], st_toT nn n f k)
theorem evr_toT : ∀ (nn : Bool) (n : Nat) (f : Nat → ByteArray) (I : Nat → St → Prop) (k : Nat), ev G0 res104 [] (3000 : Nat) (Or.nil.split Or.nil) [Item.ir ir104_L1, Item.lend (I k), Item.bend (0 : Nat), Item.ir ir104_T2] (st_toT nn n f k) = VC.split (decide ((↑k : Int) < (↑n : Int))) (VC.need ((0 : Int) ≤ (↑k : Int) ∧ (↑k : Int).toNat < n) (VC.need ((0 : Int) ≤ (↑k : Int) ∧ (↑k : Int).toNat < n) (VC.need ((↑k : Int).toNat < n) (VC.lend (I k) (St.mk [((0 : Nat), AV.p false (PV.sl nn (1 : Nat) n fun (i x : Nat) => PT (f i))), ((3 : Nat), AV.own (7 : Nat)), ((4 : Nat), AV.p true (PV.v (Value.int IntKind.i64 (IntKind.i64.wrap ((↑k : Int) + (1 : Int)))))), ((11 : Nat), AV.p true (PV.v (Value.bool (decide ((↑k : Int) < (↑n : Int))))))] [((7 : Nat), Ob.row Mode.u true (1 : Nat) n (setG [((↑k : Int).toNat, (0 : Nat), PV.v (Value.string (f (↑k : Int).toNat)))] fun (i x : Nat) => PT (if i < k then f i else ByteArray.mk #[])) [])]))))) (VC.done (St.mk [((0 : Nat), AV.p false (PV.sl nn (1 : Nat) n fun (i x : Nat) => PT (f i))), ((3 : Nat), AV.own (7 : Nat)), ((4 : Nat), AV.p true (PV.v (Value.int IntKind.i64 (↑k : Int)))), ((11 : Nat), AV.p true (PV.v (Value.bool (decide ((↑k : Int) < (↑n : Int)))))), ((2 : Nat), AV.own (7 : Nat))] [((7 : Nat), Ob.row Mode.u true (1 : Nat) n (fun (i x : Nat) => PT (if i < k then f i else ByteArray.mk #[])) [])])) := by intros; kernel_rfl
theorem c_toT (nn : Bool) (n : Nat) (f : Nat → ByteArray) (hn : n ≤ 1048576) : PObj Tryd.prog G0 104 [TL nn n f] [] (.own 0) [(0, .row .u true 1 n (TR f) [])] := by
  refine PObj.by chk104 rfl (ev_toT nn n f) ?_
  simp only [VC.holds_split, VC.holds_need, VC.holds_doneP, VC.holds_done, VC.holds_either, VC.holds_call, VC.holds_callE, VC.holds_lend, VC.holds_stop, VC.holds_fail, decide_eq_true_eq, decide_eq_false_iff_not]
  refine ⟨by omega, loop_by (st_toT nn n f) (fun k => k ≤ n) (fun k => n - k) 0 [] [] [] (by omega) ?_ (evr_toT nn n f) fun k hk => ?_⟩
  · simp [st_toT, hbs, St.lowers, St.lower, stLe, leEnv, leObs, obLe, injB, pinC, AV.leC, AV.leCs, PV.leC, PV.Le_v, St.get, St.obj, look, rho, isNew, keptC, renH, Mode.ok, Mode.isZ, PV.isVal, PV.isNilSl, List.all_nil, List.all_cons, List.any_nil, List.any_cons, List.map_nil, List.map_cons]
  · simp only [VC.holds_split, VC.holds_need, VC.holds_doneP, VC.holds_done, VC.holds_either, VC.holds_call, VC.holds_callE, VC.holds_lend, VC.holds_stop, VC.holds_fail, decide_eq_true_eq, decide_eq_false_iff_not]
    refine ⟨fun h => ⟨by omega, by omega, by omega, Again.mk (k + 1) [] [] [] (by omega) (by omega) ?_⟩, fun h => ?_⟩
    · have : IntKind.i64.wrap ((k : Int) + 1) = ((k + 1 : Nat) : Int) := wrap_in (by omega) (by omega)
      simp [st_toT, hbs, St.lowers, St.lower, stLe, leEnv, leObs, obLe, injB, pinC, AV.leC, AV.leCs, PV.leC, PV.Le_v, St.get, St.obj, look, rho, isNew, keptC, renH, Mode.ok, Mode.isZ, PV.isVal, PV.isNilSl, List.all_nil, List.all_cons, List.any_nil, List.any_cons, List.map_nil, List.map_cons, this]
      intro i hi
      by_cases h1 : i = k
      · subst h1; simp [setG, cellSet]; exact .refl _
      · have : (i < k + 1) = (i < k) := by apply propext; omega
        simp [setG, cellSet, h1, this]; exact .refl _
    · have : k = n := by omega
      subst this
      refine ResOk.mk [] [(0, 7)] [] _ _ ?_ ⟨rfl, rfl⟩
      simp [doneC, resOf, resAV, tup, pinR, hbs, St.lowers, St.lower, stLe, leEnv, leObs, obLe, injB, pinC, AV.leC, AV.leCs, PV.leC, PV.Le_v, St.get, St.obj, look, rho, isNew, keptC, renH, Mode.ok, Mode.isZ, PV.isVal, PV.isNilSl, List.all_nil, List.all_cons, List.any_nil, List.any_cons, List.map_nil, List.map_cons, res104]
      intro i hi
      intro h; omega
def in_eqT (nn nn' : Bool) (n : Nat) (f : Nat → ByteArray) := (G0, res77, ([] : List (Nat × Ob)), [Item.ir ir77], start [TL nn n f, TL nn' n f] [])
theorem ev_eqT : ∀ (nn nn' : Bool) (n : Nat) (f : Nat → ByteArray), ev G0 res77 [] (3000 : Nat) (Or.nil.split Or.nil) [Item.ir ir77] (start [TL nn n f, TL nn' n f] []) = VC.split ((↑n : Int) != (↑n : Int)) (VC.doneP (AV.p true (PV.v (Value.bool false)))) (VC.loop ir77_L1 [Item.bend (0 : Nat), Item.ir ir77_T2] (St.mk [((0 : Nat), AV.p false (PV.sl nn (1 : Nat) n fun (i x : Nat) => PT (f i))), ((1 : Nat), AV.p false (PV.sl nn' (1 : Nat) n fun (i x : Nat) => PT (f i))), ((4 : Nat), AV.p true (PV.v (Value.bool false))), ((10 : Nat), AV.p true (PV.v (Value.bool ((↑n : Int) != (↑n : Int))))), ((5 : Nat), AV.p true (PV.v (Value.int IntKind.i64 (0 : Int))))] [])) := by intros; kernel_rfl
def st_eqT (nn nn' : Bool) (n : Nat) (f : Nat → ByteArray) (k : Nat) : St := ⟨[(0, TL nn n f), (1, TL nn' n f), (5, AI k)], []⟩
def r_eqT (nn nn' : Bool) (n : Nat) (f : Nat → ByteArray) (I : Nat → St → Prop) (k : Nat) := (G0, res77, ([] : List (Nat × Ob)), [Item.ir ir77_L1, .lend (I k), Item.bend 0, Item.ir ir77_T2], st_eqT nn nn' n f k)
theorem evr_eqT : ∀ (nn nn' : Bool) (n : Nat) (f : Nat → ByteArray) (I : Nat → St → Prop) (k : Nat), ev G0 res77 [] (3000 : Nat) ((Or.nil.split Or.nil).split Or.nil) [Item.ir ir77_L1, Item.lend (I k), Item.bend (0 : Nat), Item.ir ir77_T2] (st_eqT nn nn' n f k) = VC.split (decide ((↑k : Int) < (↑n : Int))) (VC.need ((0 : Int) ≤ (↑k : Int) ∧ (↑k : Int).toNat < n) (VC.need ((0 : Int) ≤ (↑k : Int) ∧ (↑k : Int).toNat < n) (VC.split (!(f (↑k : Int).toNat).toList == (f (↑k : Int).toNat).toList) (VC.doneP (AV.p true (PV.v (Value.bool false)))) (VC.lend (I k) (St.mk [((0 : Nat), AV.p false (PV.sl nn (1 : Nat) n fun (i x : Nat) => PT (f i))), ((1 : Nat), AV.p false (PV.sl nn' (1 : Nat) n fun (i x : Nat) => PT (f i))), ((5 : Nat), AV.p true (PV.v (Value.int IntKind.i64 (IntKind.i64.wrap ((↑k : Int) + (1 : Int)))))), ((14 : Nat), AV.p true (PV.v (Value.bool (decide ((↑k : Int) < (↑n : Int)))))), ((25 : Nat), AV.p true (PV.v (Value.bool !(f (↑k : Int).toNat).toList == (f (↑k : Int).toNat).toList)))] []))))) (VC.doneP (AV.p true (PV.v (Value.bool true)))) := by intros; kernel_rfl
theorem c_eqT (nn nn' : Bool) (n : Nat) (f : Nat → ByteArray) (hn : n ≤ 1048576000) : PRet Tryd.prog G0 77 [TL nn n f, TL nn' n f] (AB true) := by
  refine PRet.by chk77 (ev_eqT nn nn' n f) ?_
  simp only [VC.holds_split, VC.holds_need, VC.holds_doneP, VC.holds_done, VC.holds_either, VC.holds_call, VC.holds_callE, VC.holds_lend, VC.holds_stop, VC.holds_fail, decide_eq_true_eq, decide_eq_false_iff_not]
  refine ⟨fun h => by simp at h, fun h => loop_by (st_eqT nn nn' n f) (fun k => k ≤ n) (fun k => n - k) 0 [] [] [] (by omega) ?_ (evr_eqT nn nn' n f) fun k hk => ?_⟩
  · simp [st_eqT, hbs, St.lowers, St.lower, stLe, leEnv, leObs, obLe, injB, pinC, AV.leC, AV.leCs, PV.leC, PV.Le_v, St.get, St.obj, look, rho, isNew, keptC, renH, Mode.ok, Mode.isZ, PV.isVal, PV.isNilSl, List.all_nil, List.all_cons, List.any_nil, List.any_cons, List.map_nil, List.map_cons]
  · simp only [VC.holds_split, VC.holds_need, VC.holds_doneP, VC.holds_done, VC.holds_either, VC.holds_call, VC.holds_callE, VC.holds_lend, VC.holds_stop, VC.holds_fail, decide_eq_true_eq, decide_eq_false_iff_not]
    refine ⟨fun h => ⟨by omega, by omega, fun h2 => by simp at h2, fun h2 => Again.mk (k + 1) [] [] [] (by omega) (by omega) ?_⟩, fun h => ?_⟩
    · have : IntKind.i64.wrap ((k : Int) + 1) = ((k + 1 : Nat) : Int) := wrap_in (by omega) (by omega)
      simp [st_eqT, hbs, St.lowers, St.lower, stLe, leEnv, leObs, obLe, injB, pinC, AV.leC, AV.leCs, PV.leC, PV.Le_v, St.get, St.obj, look, rho, isNew, keptC, renH, Mode.ok, Mode.isZ, PV.isVal, PV.isNilSl, List.all_nil, List.all_cons, List.any_nil, List.any_cons, List.map_nil, List.map_cons, this]
    · simp
def in_mkT (nn : Bool) (n : Nat) (f : Nat → ByteArray) (v : Int) := (G0, res81, [(0, Ob.row .u nn 1 n (TR f) [])], [Item.ir ir81], start [.own 0, AI v] [(0, Ob.row .u nn 1 n (TR f) [])])
theorem ev_mkT : ∀ (nn : Bool) (n : Nat) (f : Nat → ByteArray) (v : Int), ev G0 res81 [((0 : Nat), Ob.row Mode.u nn (1 : Nat) n (TR f) [])] (3000 : Nat) Or.nil [Item.ir ir81] (start [AV.own (0 : Nat), AI v] [((0 : Nat), Ob.row Mode.u nn (1 : Nat) n (TR f) [])]) = VC.loop ir81_L1 [Item.bend (0 : Nat), Item.ir ir81_T2] (St.mk [((0 : Nat), AV.own (100000 : Nat)), ((1 : Nat), AV.p true (PV.v (Value.int IntKind.i64 v))), ((4 : Nat), AV.p true (PV.v (Value.int IntKind.i64 (0 : Int)))), ((5 : Nat), AV.p true (PV.v (Value.int IntKind.i64 (0 : Int))))] [((100000 : Nat), Ob.row Mode.u nn (1 : Nat) n (TR f) [])]) := by intros; kernel_rfl
def st_mkT (nn : Bool) (n : Nat) (f : Nat → ByteArray) (v : Int) (k : Nat) : St := ⟨[(0, .own 100000), (1, AI (v + k)), (5, AI k)], [(100000, .row .u nn 1 n (TR fun i => if i < k then markT (v + i) else f i) [])]⟩
def r_mkT (nn : Bool) (n : Nat) (f : Nat → ByteArray) (v : Int) (I : Nat → St → Prop) (k : Nat) := (G0, res81, [(0, Ob.row .u nn 1 n (TR f) [])], [Item.ir ir81_L1, .lend (I k), Item.bend 0, Item.ir ir81_T2], st_mkT nn n f v k)
theorem evr_mkT : ∀ (nn : Bool) (n : Nat) (f : Nat → ByteArray) (v : Int) (I : Nat → St → Prop) (k : Nat), ev G0 res81 [((0 : Nat), Ob.row Mode.u nn (1 : Nat) n (TR f) [])] (3000 : Nat) ((Or.call [] (AT (markT (v + (↑k : Int)))) [] Or.nil).split Or.nil) [Item.ir ir81_L1, Item.lend (I k), Item.bend (0 : Nat), Item.ir ir81_T2] (st_mkT nn n f v k) = VC.split (decide ((↑k : Int) < (↑n : Int))) (VC.call (80 : Nat) [AV.p true (PV.v (Value.int IntKind.i64 (v + (↑k : Int))))] [] (AT (markT (v + (↑k : Int)))) [] (VC.need ((0 : Int) ≤ (↑k : Int) ∧ (↑k : Int).toNat < n) (VC.need ((↑k : Int).toNat < n) (VC.lend (I k) (St.mk [((0 : Nat), AV.own (100000 : Nat)), ((1 : Nat), AV.p true (PV.v (Value.int IntKind.i64 (IntKind.i64.wrap (v + (↑k : Int) + (1 : Int)))))), ((5 : Nat), AV.p true (PV.v (Value.int IntKind.i64 (IntKind.i64.wrap ((↑k : Int) + (1 : Int)))))), ((9 : Nat), AV.p true (PV.v (Value.bool (decide ((↑k : Int) < (↑n : Int))))))] [((100000 : Nat), Ob.row Mode.u nn (1 : Nat) n (setG [((↑k : Int).toNat, (0 : Nat), PV.v (Value.string (markT (v + (↑k : Int)))))] (TR fun (i : Nat) => if i < k then markT (v + (↑i : Int)) else f i)) [])]))))) (VC.done (St.mk [((0 : Nat), AV.own (100000 : Nat)), ((1 : Nat), AV.p true (PV.v (Value.int IntKind.i64 (v + (↑k : Int))))), ((5 : Nat), AV.p true (PV.v (Value.int IntKind.i64 (↑k : Int)))), ((9 : Nat), AV.p true (PV.v (Value.bool (decide ((↑k : Int) < (↑n : Int)))))), ((4 : Nat), AV.p true (PV.v (Value.int IntKind.i64 (v + (↑k : Int)))))] [((100000 : Nat), Ob.row Mode.u nn (1 : Nat) n (TR fun (i : Nat) => if i < k then markT (v + (↑i : Int)) else f i) [])])) := by intros; kernel_rfl
theorem c_mkT (nn : Bool) (n : Nat) (f : Nat → ByteArray) (v : Int) (hn : n ≤ 16777216) (hv1 : 0 ≤ v) (hv2 : v ≤ 536870912) : PObj Tryd.prog G0 81 [.own 0, AI v] [(0, Ob.row .u nn 1 n (TR f) [])] (AI (v + n)) [(0, Ob.row .u nn 1 n (TR fun i => markT (v + i)) [])] := by
  refine PObj.by chk81 rfl (ev_mkT nn n f v) ?_
  refine loop_by (st_mkT nn n f v) (fun k => k ≤ n) (fun k => n - k) 0 [] [] [] (by omega) ?_ (evr_mkT nn n f v) fun k hk => ?_
  · simp [st_mkT, hbs, St.lowers, St.lower, stLe, leEnv, leObs, obLe, injB, pinC, AV.leC, AV.leCs, PV.leC, PV.Le_v, St.get, St.obj, look, rho, isNew, keptC, renH, Mode.ok, Mode.isZ, PV.isVal, PV.isNilSl, List.all_nil, List.all_cons, List.any_nil, List.any_cons, List.map_nil, List.map_cons, hbs]
  · simp only [VC.holds_split, VC.holds_need, VC.holds_doneP, VC.holds_done, VC.holds_either, VC.holds_call, VC.holds_callE, VC.holds_lend, VC.holds_stop, VC.holds_fail, decide_eq_true_eq, decide_eq_false_iff_not]
    refine ⟨fun h => ⟨c_markT _ (by omega), by omega, by omega, Again.mk (k + 1) [] [] [] (by omega) (by omega) ?_⟩, fun h => ?_⟩
    · have e1 : IntKind.i64.wrap ((k : Int) + 1) = ((k + 1 : Nat) : Int) := wrap_in (by omega) (by omega)
      have e2 : IntKind.i64.wrap (v + (k : Int) + 1) = v + ((k + 1 : Nat) : Int) := (wrap_in (by omega) (by omega)).trans (by omega)
      simp [st_mkT, hbs, St.lowers, St.lower, stLe, leEnv, leObs, obLe, injB, pinC, AV.leC, AV.leCs, PV.leC, PV.Le_v, St.get, St.obj, look, rho, isNew, keptC, renH, Mode.ok, Mode.isZ, PV.isVal, PV.isNilSl, List.all_nil, List.all_cons, List.any_nil, List.any_cons, List.map_nil, List.map_cons, e1, e2, hbs]
      intro i hi
      by_cases h1 : i = k
      · subst h1; simp [TR, setG, cellSet]; exact .refl _
      · have : (i < k + 1) = (i < k) := by apply propext; omega
        simp [TR, setG, cellSet, h1, this]; exact .refl _
    · have : k = n := by omega
      subst this
      refine ResOk.mk [] [(0, 100000)] [] _ _ ?_ ⟨rfl, rfl⟩
      simp [doneC, resOf, resAV, tup, pinR, hbs, St.lowers, St.lower, stLe, leEnv, leObs, obLe, injB, pinC, AV.leC, AV.leCs, PV.leC, PV.Le_v, St.get, St.obj, look, rho, isNew, keptC, renH, Mode.ok, Mode.isZ, PV.isVal, PV.isNilSl, List.all_nil, List.all_cons, List.any_nil, List.any_cons, List.map_nil, List.map_cons, res81, hbs]
      intro i hi
      intro h; omega
def in_hdT (nn : Bool) (n : Nat) (v : Int) := (G0, res83, ([] : List (Nat × Ob)), [Item.ir ir83], start [TL nn n fun i => markT (v + i), AI v] [])
theorem ev_hdT : ∀ (nn : Bool) (n : Nat) (v : Int), ev G0 res83 [] (3000 : Nat) Or.nil [Item.ir ir83] (start [TL nn n fun (i : Nat) => markT (v + (↑i : Int)), AI v] []) = VC.loop ir83_L1 [Item.bend (0 : Nat), Item.ir ir83_T2] (St.mk [((0 : Nat), AV.p false (PV.sl nn (1 : Nat) n fun (i x : Nat) => PT (markT (v + (↑i : Int))))), ((1 : Nat), AV.p true (PV.v (Value.int IntKind.i64 v))), ((4 : Nat), AV.p true (PV.v (Value.int IntKind.i64 (0 : Int)))), ((5 : Nat), AV.p true (PV.v (Value.int IntKind.i64 (0 : Int))))] []) := by intros; kernel_rfl
def st_hdT (nn : Bool) (n : Nat) (v : Int) (k : Nat) : St := ⟨[(0, TL nn n fun i => markT (v + i)), (1, AI (v + k)), (5, AI k)], []⟩
def r_hdT (nn : Bool) (n : Nat) (v : Int) (I : Nat → St → Prop) (k : Nat) := (G0, res83, ([] : List (Nat × Ob)), [Item.ir ir83_L1, .lend (I k), Item.bend 0, Item.ir ir83_T2], st_hdT nn n v k)
theorem evr_hdT : ∀ (nn : Bool) (n : Nat) (v : Int) (I : Nat → St → Prop) (k : Nat), ev G0 res83 [] (3000 : Nat) ((Or.call [] (AT (markT (v + (↑k : Int)))) [] (Or.nil.split Or.nil)).split Or.nil) [Item.ir ir83_L1, Item.lend (I k), Item.bend (0 : Nat), Item.ir ir83_T2] (st_hdT nn n v k) = VC.split (decide ((↑k : Int) < (↑n : Int))) (VC.need ((0 : Int) ≤ (↑k : Int) ∧ (↑k : Int).toNat < n) (VC.call (80 : Nat) [AV.p true (PV.v (Value.int IntKind.i64 (v + (↑k : Int))))] [] (AT (markT (v + (↑k : Int)))) [] (VC.split (!(markT (v + (↑(↑k : Int).toNat : Int))).toList == (markT (v + (↑k : Int))).toList) (VC.doneP (AV.p true (PV.v (Value.int IntKind.i64 (-1 : Int))))) (VC.lend (I k) (St.mk [((0 : Nat), AV.p false (PV.sl nn (1 : Nat) n fun (i x : Nat) => PT (markT (v + (↑i : Int))))), ((1 : Nat), AV.p true (PV.v (Value.int IntKind.i64 (IntKind.i64.wrap (v + (↑k : Int) + (1 : Int)))))), ((5 : Nat), AV.p true (PV.v (Value.int IntKind.i64 (IntKind.i64.wrap ((↑k : Int) + (1 : Int)))))), ((9 : Nat), AV.p true (PV.v (Value.bool (decide ((↑k : Int) < (↑n : Int)))))), ((18 : Nat), AV.p true (PV.v (Value.bool !(markT (v + (↑(↑k : Int).toNat : Int))).toList == (markT (v + (↑k : Int))).toList)))] []))))) (VC.doneP (AV.p true (PV.v (Value.int IntKind.i64 (v + (↑k : Int)))))) := by intros; kernel_rfl
theorem c_hdT (nn : Bool) (n : Nat) (v : Int) (hn : n ≤ 16777216) (hv1 : 0 ≤ v) (hv2 : v ≤ 536870912) : PRet Tryd.prog G0 83 [TL nn n fun i => markT (v + i), AI v] (AI (v + n)) := by
  refine PRet.by chk83 (ev_hdT nn n v) ?_
  refine loop_by (st_hdT nn n v) (fun k => k ≤ n) (fun k => n - k) 0 [] [] [] (by omega) ?_ (evr_hdT nn n v) fun k hk => ?_
  · simp [st_hdT, hbs, St.lowers, St.lower, stLe, leEnv, leObs, obLe, injB, pinC, AV.leC, AV.leCs, PV.leC, PV.Le_v, St.get, St.obj, look, rho, isNew, keptC, renH, Mode.ok, Mode.isZ, PV.isVal, PV.isNilSl, List.all_nil, List.all_cons, List.any_nil, List.any_cons, List.map_nil, List.map_cons]
  · simp only [VC.holds_split, VC.holds_need, VC.holds_doneP, VC.holds_done, VC.holds_either, VC.holds_call, VC.holds_callE, VC.holds_lend, VC.holds_stop, VC.holds_fail, decide_eq_true_eq, decide_eq_false_iff_not, Int.toNat_natCast]
    refine ⟨fun h => ⟨by omega, c_markT _ (by omega), fun h2 => by simp at h2, fun h2 => Again.mk (k + 1) [] [] [] (by omega) (by omega) ?_⟩, fun h => ?_⟩
    · have e1 : IntKind.i64.wrap ((k : Int) + 1) = ((k + 1 : Nat) : Int) := wrap_in (by omega) (by omega)
      have e2 : IntKind.i64.wrap (v + (k : Int) + 1) = v + ((k + 1 : Nat) : Int) := (wrap_in (by omega) (by omega)).trans (by omega)
      simp [st_hdT, hbs, St.lowers, St.lower, stLe, leEnv, leObs, obLe, injB, pinC, AV.leC, AV.leCs, PV.leC, PV.Le_v, St.get, St.obj, look, rho, isNew, keptC, renH, Mode.ok, Mode.isZ, PV.isVal, PV.isNilSl, List.all_nil, List.all_cons, List.any_nil, List.any_cons, List.map_nil, List.map_cons, e1, e2]
    · have : k = n := by omega
      subst this
      simp
end Go.Gw
