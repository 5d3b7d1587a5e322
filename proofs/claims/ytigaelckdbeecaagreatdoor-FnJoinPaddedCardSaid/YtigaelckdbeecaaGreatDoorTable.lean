/- Tables: measured, copied, compared, written over, read again; with no condition. -/
import Derived.Test.YtigaelckdbeecaaGreatDoorTabV
import Derived.KernelRfl
namespace Go.Gw
open Go Go.Proofs
set_option linter.unusedSimpArgs false
set_option linter.unusedVariables false
set_option maxRecDepth 100000
def ir22 : Ir := (.seq (.reg [] [o 2 (.mov (.const (.slice none 0 0)))]) (.seq (.seq (.reg [3] [om 3 0, o 4 (.isNil false (tt 3))]) (.cond (tt 4) (.seq (.reg [] [o 2 (.mov (.const (.slice none 0 0)))]) .ret) .skip)) (.seq (.reg [5, 6, 7] [o 5 (.mkSl 1 0 [(.int .i64 0)] []), om 6 0, o 7 (.app 1 8 true (tt 5) (tt 6)), om 2 7]) .ret)))
def keep22 : List Nat := [0, 2, 4]
def res22 : List RI := [.tmp 2]
theorem chk22 : chk Tryz.prog 22 1 keep22 = some (ir22, res22) := by kernel_rfl
abbrev taR : AV := .ag [.own 0, .own 1]
abbrev taH (n : Nat) (f : Nat → ByteArray) (m : Nat) (w : Nat → Nat) (h : Nat → Nat → Int) : List (Nat × Ob) := [(0, .row .u false 1 n (TR f) []), (1, .row .u false 1 m (RR w h) [])]
theorem allV_TR {n : Nat} {f : Nat → ByteArray} : allV 1 n (TR f) := fun _ _ _ _ => rfl
theorem ev_clI : ∀ (n : Nat) (f : Nat → Int), ev G0 res22 [] 3000 (Or.nil.lit.split Or.nil.lit) [.ir ir22] (start [IL false n f] []) = VC.either (n = 0) (VC.done (St.mk [(0, SL false 1 n fun i x => PI (f i)), (2, AV.p true (PV.v (Value.slice none 0 0))), (4, AB true)] [])) (VC.need (((0 + n) * 8 ≤ 140737488355328 ∧ (↑(0 + n) : Int) ≤ 9223372036854775807) ∧ allV 1 n fun i x => PI (f i)) (VC.done (St.mk [(0, SL false 1 n fun i x => PI (f i)), (2, .own 7), (4, AB false)] [(7, .row .u true 1 (0 + n) (fun a b => if a < 0 then setG [] (fun x j => PV.v ([Value.int IntKind.i64 0].getD j undef)) a b else PI (f (a - 0))) [])]))) := by intros; kernel_rfl
end Go.Gw
namespace Go.Gw
open Go Go.Proofs
set_option linter.unusedSimpArgs false
set_option linter.unusedVariables false
set_option maxRecDepth 100000
def ir40 : Ir := (.seq (.reg [] [o 2 (.mov (.const (.slice none 0 0)))]) (.seq (.reg [3, 4] [om 3 0, o 4 (.app 1 16 true (.const (.slice none 0 0)) (tt 3)), om 2 4]) .ret))
def keep40 : List Nat := [0, 2]
def res40 : List RI := [.tmp 2]
theorem chk40 : chk Tryz.prog 40 1 keep40 = some (ir40, res40) := by kernel_rfl
def ir64 : Ir := (.seq (.reg [] [o 2 (.mov (.const (.slice none 0 0)))]) (.seq (.reg [3, 4, 5] [o 3 (.mkSl 1 0 [(.int .i64 0)] []), om 4 0, o 5 (.app 1 8 true (tt 3) (tt 4)), om 2 5]) .ret))
def keep64 : List Nat := [0, 2]
def res64 : List RI := [.tmp 2]
theorem chk64 : chk Tryz.prog 64 1 keep64 = some (ir64, res64) := by kernel_rfl
def ir80_L1 : Ir := (.seq (.reg [] [ob .lss 9 8 7]) (.seq (.cond (tt 9) .skip (.exit 0)) (.seq (.block 1 (.seq (.reg [10, 11] [ox 10 6 8, ol 11 10, om 5 11]) (.reg [12, 13, 14, 15, 16] [om 12 3, om 13 5, o 14 (.call 22 [(tt 13)]), o 15 (.mkSl 1 1 [(.slice none 0 0)] [(0, (tt 14))]), o 16 (.app 1 24 false (tt 12) (tt 15)), om 3 16]))) (.reg [17] [o 17 (.bin .add (tt 8) (ci 1)), om 8 17]))))
def ir80_T2 : Ir := (.seq (.reg [18] [om 18 3, om 2 18]) .ret)
def ir80 : Ir := (.seq (.reg [] [o 2 (.mov (.const (.slice none 0 0)))]) (.seq (.reg [] [o 3 (.mov (.const (.slice none 0 0)))]) (.seq (.seq (.reg [] [om 6 0, o 7 (.len (tt 6)), o 8 (.mov (ci 0))]) (.block 0 (.loop ir80_L1))) ir80_T2)))
def keep80 : List Nat := [0, 2, 3, 5, 6, 7, 8, 9]
def res80 : List RI := [.tmp 2]
theorem chk80 : chk Tryz.prog 80 1 keep80 = some (ir80, res80) := by kernel_rfl
def ir73 : Ir := (.seq (.reg [] [o 1 (.box 2 (tt 0)), o 2 (.alloc [(.slice none 0 0), (.slice none 0 0)])]) (.seq (.dreg [3, 4, 5, 6, 7, 8, 9] [0, 1, 3, 0, 8, 31, 63, 127] [(1, 1004), (2, 1005), (2, 2005), (2, 3005), (2, 4005), (2, 5005), (2, 6005), (2, 7005), (2, 8005), (4, 1007), (5, 1008), (5, 2008), (5, 3008), (5, 4008), (5, 5008), (5, 6008), (5, 7008), (5, 8008)] [oa 3 0 1, ol 4 3, o 5 (.call 40 [(tt 4)]), oa 6 1 1, ol 7 6, o 8 (.call 80 [(tt 7)]), o 9 (.build [(.slice none 0 0), (.slice none 0 0)] [(0, 1, (tt 5)), (1, 1, (tt 8))]), on (.store 2 (tt 2) (tt 9))]) .ret))
def keep73 : List Nat := [0, 1, 2]
def res73 : List RI := [.cell true 2 2]
theorem chk73 : chk Tryz.prog 73 1 keep73 = some (ir73, res73) := by kernel_rfl
theorem c_clI (n : Nat) (f : Nat → Int) (hn : n ≤ 1048576) : PObj Tryz.prog G0 22 [IL false n f] [] (.own 0) [(0, .row .u false 1 n (fun i _ => PI (f i)) [])] := by
  refine PObj.by chk22 rfl (ev_clI n f) ?_
  simp only [vcA]
  refine ⟨fun h0 => ?_, ⟨by omega, fun _ _ _ _ => rfl⟩, ?_⟩
  · refine ResOk.mk [] [] [0] _ _ ?_ ⟨rfl, rfl⟩
    subst h0
    simp [doneC, resOf, resAV, tup, pinR, PV.Le_self, leA, res22]
  · refine ResOk.mk [] [(0, 7)] [] _ _ ?_ ⟨rfl, rfl⟩
    simp [doneC, resOf, resAV, tup, pinR, PV.Le_self, leA, res22]
theorem ev_clT : ∀ (n : Nat) (f : Nat → ByteArray), ev G0 res40 [] 3000 Or.nil [.ir ir40] (start [TL false n f] []) = VC.need ((n * 16 ≤ 140737488355328 ∧ (↑n : Int) ≤ 9223372036854775807) ∧ allV 1 n fun i x => PT (f i)) (VC.done (St.mk [(0, TL false n f), (2, .own 4)] [(4, .row .u false 1 n (fun i x => PT (f i)) [])])) := by intros; kernel_rfl
theorem c_clT (n : Nat) (f : Nat → ByteArray) (hn : n ≤ 1048576) : PObj Tryz.prog G0 40 [TL false n f] [] (.own 0) [(0, .row .u false 1 n (TR f) [])] := by
  refine PObj.by chk40 rfl (ev_clT n f) ?_
  simp only [vcA]
  refine ⟨⟨by omega, fun _ _ _ _ => rfl⟩, ?_⟩
  refine ResOk.mk [] [(0, 4)] [] _ _ ?_ ⟨rfl, rfl⟩
  simp [doneC, resOf, resAV, tup, pinR, PV.Le_self, leA, res40]
theorem ev_cpI : ∀ (n : Nat) (f : Nat → Int), ev G0 res64 [] 3000 Or.nil [.ir ir64] (start [IL false n f] []) = VC.need (((0 + n) * 8 ≤ 140737488355328 ∧ (↑(0 + n) : Int) ≤ 9223372036854775807) ∧ allV 1 n fun i x => PI (f i)) (VC.done (St.mk [(0, SL false 1 n fun i x => PI (f i)), (2, .own 5)] [(5, .row .u true 1 (0 + n) (fun a b => if a < 0 then setG [] (fun x j => PV.v ([Value.int IntKind.i64 0].getD j undef)) a b else PI (f (a - 0))) [])])) := by intros; kernel_rfl
theorem c_cpI (n : Nat) (f : Nat → Int) (hn : n ≤ 1048576) : PObj Tryz.prog G0 64 [IL false n f] [] (.own 0) [(0, .row .u false 1 n (fun i _ => PI (f i)) [])] := by
  refine PObj.by chk64 rfl (ev_cpI n f) ?_
  simp only [vcA]
  refine ⟨⟨by omega, fun _ _ _ _ => rfl⟩, ?_⟩
  refine ResOk.mk [] [(0, 5)] [] _ _ ?_ ⟨rfl, rfl⟩
  simp [doneC, resOf, resAV, tup, pinR, PV.Le_self, leA, res64]
theorem ev_clR : ∀ (nn : Bool) (m : Nat) (w : Nat → Nat) (h : Nat → Nat → Int), ev G0 res80 [] 3000 Or.nil [.ir ir80] (start [RL nn m w h] []) = VC.loop ir80_L1 [.bend 0, .ir ir80_T2] (St.mk [(0, RL nn m w h), (2, AV.p true (PV.v (Value.slice none 0 0))), (3, AV.p true (PV.v (Value.slice none 0 0))), (6, RL nn m w h), (7, AI ↑m), (8, AI 0)] []) := by intros; kernel_rfl
def st_clR (nn : Bool) (m : Nat) (w : Nat → Nat) (h : Nat → Nat → Int) (k : Nat) : St := ⟨[(0, RL nn m w h), (3, .own 7), (6, RL nn m w h), (7, AI m), (8, AI k)], [(7, .row .u false 1 k (RR w h) [])]⟩
theorem evr_clR : ∀ (nn : Bool) (m : Nat) (w : Nat → Nat) (h : Nat → Nat → Int) (I : Nat → St → Prop) (k : Nat), ev G0 res80 [] 3000 ((Or.call [] (.own 0) [(0, .row .u false 1 (w k) (fun i x => PI (h k i)) [])] Or.nil).split Or.nil) [.ir ir80_L1, .lend (I k), .bend 0, .ir ir80_T2] (st_clR nn m w h k) = VC.split (decide ((↑k : Int) < ↑m)) (VC.need (0 ≤ (↑k : Int) ∧ k < m) (VC.call 22 [SL false 1 (w k) fun j x => PI (h k j)] [] (.own 0) [(0, .row .u false 1 (w k) (fun i x => PI (h k i)) [])] (VC.need (((k + 1) * 24 ≤ 140737488355328 ∧ (↑(k + 1) : Int) ≤ 9223372036854775807) ∧ allOne 1 1 (setG [(0, 0, PV.sl false 1 (w k) fun i x => PI (h k i))] fun x j => PV.v ([Value.slice none 0 0].getD j undef))) (VC.lend (I k) (St.mk [(0, RL nn m w h), (3, .own 16), (6, RL nn m w h), (7, AI ↑m), (8, AI (IntKind.i64.wrap ((↑k : Int) + 1))), (9, AB (decide ((↑k : Int) < ↑m))), (5, SL false 1 (w k) fun j x => PI (h k j))] [(16, .row .u false 1 (k + 1) (fun a b => if a < k then RR w h a b else setG [(0, 0, PV.sl false 1 (w k) fun i x => PI (h k i))] (fun x j => PV.v ([Value.slice none 0 0].getD j undef)) (a - k) b) [])]))))) (VC.done (St.mk [(0, RL nn m w h), (3, .own 7), (6, RL nn m w h), (7, AI ↑m), (8, AI ↑k), (9, AB (decide ((↑k : Int) < ↑m))), (2, .own 7)] [(7, .row .u false 1 k (RR w h) [])])) := by intros; kernel_rfl
theorem c_clR (nn : Bool) (m : Nat) (w : Nat → Nat) (h : Nat → Nat → Int) (hm : m ≤ 1048576) (hw : ∀ i, i < m → w i ≤ 1048576) : PObj Tryz.prog G0 80 [RL nn m w h] [] (.own 0) [(0, .row .u false 1 m (RR w h) [])] := by
  refine PObj.by chk80 rfl (ev_clR nn m w h) ?_
  refine loop_by (st_clR nn m w h) (fun k => k ≤ m) (fun k => m - k) 0 [] [] [7] (by omega) ?_ (evr_clR nn m w h) fun k hk => ?_
  · simp [st_clR, leA, PV.Le_self]
  · simp only [vcA, Int.toNat_natCast]
    refine ⟨fun h0 => ⟨by omega, c_clI _ _ (hw k (by omega)), ⟨by omega, ?_⟩, Again.mk (k + 1) [] [(7, 16)] [] (by omega) (by omega) ?_⟩, fun h0 => ?_⟩
    · intro i j hi hj
      obtain rfl : i = 0 := by omega
      obtain rfl : j = 0 := by omega
      rfl
    · have : IntKind.i64.wrap ((k : Int) + 1) = ((k + 1 : Nat) : Int) := wrap_in (by omega) (by omega)
      simp [st_clR, leA, PV.Le_self, this]
      intro i hi
      by_cases h1 : i < k
      · simp [h1]; exact RR_le rfl (fun _ _ => rfl)
      · obtain rfl : i = k := by omega
        simp [setG, cellSet]
        exact RR_le rfl (fun _ _ => rfl)
    · have : k = m := by omega
      subst this
      refine ResOk.mk [] [(0, 7)] [] _ _ ?_ ⟨rfl, rfl⟩
      simp [doneC, resOf, resAV, tup, pinR, PV.Le_self, leA, res80]
theorem ev_clA : ∀ (n : Nat) (f : Nat → ByteArray) (m : Nat) (w : Nat → Nat) (h : Nat → Nat → Int), ev G0 res73 [] 3000 (Or.call [] (.own 0) [(0, .row .u false 1 n (TR f) [])] (Or.call [] (.own 0) [(0, .row .u false 1 m (RR w h) [])] Or.nil)) [.ir ir73] (start [TA false false n f m w h] []) = VC.call 40 [TL false n f] [] (.own 0) [(0, .row .u false 1 n (TR f) [])] (VC.call 80 [RL false m w h] [] (.own 0) [(0, .row .u false 1 m (RR w h) [])] (VC.done (St.mk [(0, AV.ag [TL false n f, RL false m w h]), (1, .adr 1 0), (2, .adr 2 0)] [(1, .box [TL false n f, RL false m w h]), (2, .box [.own 1005, .own 1008]), (1005, .row .u false 1 n (TR f) []), (1008, .row .u false 1 m (RR w h) [])]))) := by intros; kernel_rfl
theorem c_clA (n : Nat) (f : Nat → ByteArray) (m : Nat) (w : Nat → Nat) (h : Nat → Nat → Int) (hn : n ≤ 1048576) (hm : m ≤ 1048576) (hw : ∀ i, i < m → w i ≤ 1048576) : PObj Tryz.prog G0 73 [TA false false n f m w h] [] taR (taH n f m w h) := by
  refine PObj.by chk73 rfl (ev_clA n f m w h) ?_
  simp only [vcA]
  refine ⟨c_clT _ _ hn, c_clR _ _ _ _ hm hw, ResOk.mk [] [(0, 1005), (1, 1008)] [] _ _ ?_ ⟨rfl, rfl⟩⟩
  simp [doneC, resOf, resAV, tup, pinR, PV.Le_self, leA, res73]
end Go.Gw
namespace Go.Gw
open Go Go.Proofs
set_option linter.unusedSimpArgs false
set_option linter.unusedVariables false
set_option maxRecDepth 100000
def lenOf : PV → Nat
  | .sl _ _ n _ => n
  | _ => 0
structure TaOk (n : Nat) (f : Nat → ByteArray) (m : Nat) (w : Nat → Nat) : Prop where
  hn : n ≤ 1048576
  hf : ∀ i, i < n → (f i).size ≤ 1048576
  hm : m ≤ 1048576
  hw : ∀ i, i < m → w i ≤ 1048576
end Go.Gw
