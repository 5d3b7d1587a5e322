/- Names and rows joined; with no condition. -/
import Derived.Test.YtigaelckdbeecaaGreatDoorPairs
import Derived.KernelRfl
namespace Go.Gw
open Go Go.Proofs
set_option linter.unusedSimpArgs false
set_option linter.unusedVariables false
set_option maxRecDepth 100000
def ir19 : Ir := (.seq (.reg [] [o 8 (.mov (.const (.slice none 0 0))), o 9 (.mov (cb false))]) (.seq (.reg [11, 12, 13, 14] [om 11 0, o 12 (.call 40 [(tt 11)]), om 13 1, o 14 (.app 1 16 true (tt 12) (tt 13)), om 10 14]) (.seq (.reg [15, 16, 17, 18, 19, 20, 21, 22, 23, 24, 25, 26, 27] [om 15 10, om 16 10, o 17 (.call 43 [(tt 16)]), om 18 17, og 19 18 true (.mov (tt 0)), og 20 18 true (.mov (tt 2)), og 21 18 true (.call 54 [(tt 19), (tt 20)]), o 22 (.pick (tt 18) (tt 21) (cb false)), om 23 22, og 24 23 true (.mov (tt 1)), og 25 23 true (.mov (tt 3)), og 26 23 true (.call 54 [(tt 24), (tt 25)]), o 27 (.pick (tt 23) (tt 26) (cb false)), om 8 15, om 9 27]) .ret)))
def keep19 : List Nat := [0, 1, 2, 3, 8, 9, 10]
def res19 : List RI := [.tmp 8, .tmp 9]
theorem chk19 : chk Tryz.prog 19 4 keep19 = some (ir19, res19) := by kernel_rfl
def ir11_L1 : Ir := (.seq (.reg [] [ob .lss 52 51 50]) (.seq (.cond (tt 52) .skip (.exit 2)) (.seq (.block 3 (.seq (.reg [53, 54] [ox 53 49 51, ol 54 53, om 16 54]) (.seq (.dreg [55, 56, 57, 58, 59, 60, 61, 62, 63, 64, 65, 66, 67, 68] [0, 0, 2, 0, 14, 31, 63, 0, 0, 256, 0, 1822, 3998, 8094, 16383] [(2, 1057), (4, 1059), (4, 2059), (4, 3059), (4, 4059), (4, 5059), (4, 6059), (4, 7059), (4, 8059), (6, 1061), (9, 1064), (11, 1066), (11, 2066), (11, 3066), (11, 4066), (11, 5066), (11, 6066), (11, 7066), (11, 8066), (13, 1068)] [om 55 14, oa 56 0 4, ol 57 56, om 58 2, o 59 (.call 20 [(tt 57), (tt 58)]), ox 60 55 59, ol 61 60, om 62 16, oa 63 0 5, ol 64 63, om 65 3, o 66 (.call 20 [(tt 64), (tt 65)]), ox 67 62 66, ol 68 67, ob .eql 69 61 68]) (.cond (tt 69) (.dreg [70, 71, 72, 73, 74, 75, 76, 77, 78] [0, 1, 0, 4, 0, 28, 60, 127, 255, 511] [(1, 1071), (3, 1073), (3, 2073), (3, 3073), (3, 4073), (3, 5073), (3, 6073), (3, 7073), (3, 8073), (5, 75), (6, 76), (7, 77)] [oa 70 1 12, ol 71 70, om 72 14, o 73 (.call 22 [(tt 72)]), om 74 16, o 75 (.app 1 8 true (tt 73) (tt 74)), o 76 (.mkSl 1 1 [(.slice none 0 0)] [(0, (tt 75))]), o 77 (.app 1 24 false (tt 71) (tt 76)), oa 78 1 12, on (.store 1 (tt 78) (tt 77))]) .skip)))) (.reg [79] [o 79 (.bin .add (tt 51) (ci 1)), om 51 79]))))
def ir11_T2 : Ir := (.reg [80] [o 80 (.bin .add (tt 44) (ci 1)), om 44 80])
def ir11_L3 : Ir := (.seq (.reg [] [ob .lss 45 44 43]) (.seq (.cond (tt 45) .skip (.exit 0)) (.seq (.block 1 (.seq (.reg [46, 47] [ox 46 42 44, ol 47 46, om 14 47]) (.seq (.reg [48] [oa 48 1 5, ol 49 48, o 50 (.len (tt 49)), o 51 (.mov (ci 0))]) (.block 2 (.loop ir11_L1))))) ir11_T2)))
def ir11_T4 : Ir := (.seq (.seq (.reg [81, 82] [o 81 (.load true 2 (tt 12)), o 82 (.call 41 [(tt 81)]), o 83 (.un .not (tt 82))]) (.cond (tt 83) (.seq (.reg [84] [o 84 (.build [(.slice none 0 0), (.slice none 0 0)] []), on (.store 2 (tt 8) (tt 84)), o 9 (.mov (cb false))]) .ret) .skip)) (.seq (.reg [85] [o 85 (.load true 2 (tt 12)), on (.store 2 (tt 8) (tt 85)), o 9 (.mov (cb true))]) .ret))
def ir11 : Ir := (.seq (.reg [] [o 4 (.box 2 (tt 0)), o 5 (.box 2 (tt 1)), o 8 (.alloc [(.slice none 0 0), (.slice none 0 0)]), o 9 (.mov (cb false))]) (.seq (.seq (.reg [17, 18, 19, 20, 21, 22, 23] [o 17 (.load true 2 (tt 4)), o 18 (.call 41 [(tt 17)]), o 19 (.un .not (tt 18)), om 20 19, og 21 20 false (.load true 2 (tt 5)), og 22 20 false (.call 41 [(tt 21)]), og 23 20 false (.un .not (tt 22)), o 24 (.pick (tt 20) (cb true) (tt 23))]) (.cond (tt 24) (.seq (.reg [25] [o 25 (.build [(.slice none 0 0), (.slice none 0 0)] []), on (.store 2 (tt 8) (tt 25)), o 9 (.mov (cb false))]) .ret) .skip)) (.seq (.reg [27, 28, 29, 30, 31, 32, 33, 26, 34, 35] [oa 27 0 4, ol 28 27, oa 29 0 5, ol 30 29, om 31 2, om 32 3, o 33 (.call 19 [(tt 28), (tt 30), (tt 31), (tt 32)]), om 26 33, o 34 (.ext (tt 26) 0), o 35 (.ext (tt 26) 1), om 10 34, om 11 35]) (.seq (.seq (.reg [36] [om 36 11, o 37 (.un .not (tt 36))]) (.cond (tt 37) (.seq (.reg [38] [o 38 (.build [(.slice none 0 0), (.slice none 0 0)] []), on (.store 2 (tt 8) (tt 38)), o 9 (.mov (cb false))]) .ret) .skip)) (.seq (.reg [39, 40] [om 39 10, o 40 (.build [(.slice none 0 0), (.slice none 0 0)] [(0, 1, (tt 39))]), o 12 (.alloc [(.slice none 0 0), (.slice none 0 0)]), on (.store 2 (tt 12) (tt 40))]) (.seq (.seq (.reg [41] [oa 41 1 4, ol 42 41, o 43 (.len (tt 42)), o 44 (.mov (ci 0))]) (.block 0 (.loop ir11_L3))) ir11_T4))))))
def keep11 : List Nat := [0, 1, 2, 3, 4, 5, 8, 9, 10, 11, 12, 14, 16, 24, 37, 42, 43, 44, 45, 49, 50, 51, 52, 69, 83]
def res11 : List RI := [.cell true 2 8, .tmp 9]
theorem chk11 : chk Tryz.prog 11 4 keep11 = some (ir11, res11) := by kernel_rfl
def txtOf : PV → ByteArray
  | .v (.string s) => s
  | _ => ⟨#[]⟩
def TxtOk (n : Nat) (g : Nat → Nat → PV) : Prop := n ≤ 1048576 ∧ ∀ i, i < n → g i 0 = PT (txtOf (g i 0)) ∧ (txtOf (g i 0)).size ≤ 1048576
theorem TxtOk.le {nn : Bool} {n : Nat} {g : Nat → Nat → PV} (h : TxtOk n g) : AV.leP (SL nn 1 n g) (TL nn n fun i => txtOf (g i 0)) := ⟨fun e => (by cases e), ⟨fun e => e, rfl, rfl, fun i j hi hj => by
    obtain rfl : j = 0 := by omega
    have e := (h.2 i hi).1
    show PV.Le (g i 0) (PT (txtOf (g i 0)))
    generalize txtOf (g i 0) = t at e
    rw [e]
    exact .refl _⟩⟩
theorem c_colS (nn : Bool) (n : Nat) (g : Nat → Nat → PV) (h : TxtOk n g) : PRet Tryz.prog G0 43 [SL nn 1 n g] (AB (namesB n fun i => txtOf (g i 0))) :=
  (c_cols nn n _ h.1 fun i hi => (h.2 i hi).2).args ⟨h.le, trivial⟩
theorem c_spNS (nn : Bool) (n : Nat) (g : Nat → Nat → PV) (h : TxtOk n g) : PRet Tryz.prog G0 29 [SL nn 1 n g] (AB (namesB n fun i => txtOf (g i 0))) :=
  (c_spN nn n _ h.1 fun i hi => (h.2 i hi).2).args ⟨h.le, trivial⟩
theorem namesB_congr {n : Nat} {f g : Nat → ByteArray} (h : ∀ i, i < n → f i = g i) : namesB n f = namesB n g := by
  rw [Bool.eq_iff_iff]
  have e : allB (colB f) n = true ↔ allB (colB g) n = true := by
    simp only [allB_iff]
    refine forall_congr' fun i => forall_congr' fun hi => ?_
    have : colB f i = colB g i := by
      have e2 : hasT f (f i) i = hasT g (g i) i := by
        simp only [hasT, h i hi]
        congr 1
        rw [Bool.eq_iff_iff]
        simp only [allB_iff]
        exact forall_congr' fun j => forall_congr' fun hj => by rw [h j (by omega)]
      rw [colB, colB, e2, h i hi]
    rw [this]
  simp only [namesB, Bool.and_eq_true, e]
theorem ev_jn : ∀ (n1 : Nat) (f1 : Nat → ByteArray) (n2 : Nat) (f2 : Nat → ByteArray) (a b : ByteArray), ev G0 res19 [] 3000 (Or.call [] (.own 0) [(0, .row .u false 1 n1 (TR f1) [])] (Or.call [] (AB (namesB (n1 + n2) fun i => txtOf (if i < n1 then TR f1 i 0 else PT (f2 (i - n1))))) [] ((Or.call [] (AB (hasT f1 a n1)) [] ((Or.call [] (AB (hasT f2 b n2)) [] Or.nil.lit).lit.lit.split Or.nil.lit.lit.lit).lit).lit.lit.split Or.nil.lit.lit.lit.lit.lit.lit.lit))) [.ir ir19] (start [TL false n1 f1, TL false n2 f2, AT a, AT b] []) = VC.call 40 [TL false n1 f1] [] (.own 0) [(0, .row .u false 1 n1 (TR f1) [])] (VC.need (((n1 + n2) * 16 ≤ 140737488355328 ∧ (↑(n1 + n2) : Int) ≤ 9223372036854775807) ∧ allV 1 n2 fun i x => PT (f2 i)) (VC.call 43 [SL false 1 (n1 + n2) fun a_1 b_1 => if a_1 < n1 then TR f1 a_1 b_1 else PT (f2 (a_1 - n1))] [] (AB (namesB (n1 + n2) fun i => txtOf (if i < n1 then TR f1 i 0 else PT (f2 (i - n1))))) [] (VC.split (namesB (n1 + n2) fun i => txtOf (if i < n1 then TR f1 i 0 else PT (f2 (i - n1)))) (VC.call 54 [TL false n1 f1, AT a] [] (AB (hasT f1 a n1)) [] (VC.split (hasT f1 a n1) (VC.call 54 [TL false n2 f2, AT b] [] (AB (hasT f2 b n2)) [] (VC.done (St.mk [(0, TL false n1 f1), (1, TL false n2 f2), (2, AT a), (3, AT b), (8, .own 14), (9, AB (hasT f2 b n2)), (10, .own 14)] [(14, .row .u false 1 (n1 + n2) (fun a_1 b_1 => if a_1 < n1 then TR f1 a_1 b_1 else PT (f2 (a_1 - n1))) [])]))) (VC.done (St.mk [(0, TL false n1 f1), (1, TL false n2 f2), (2, AT a), (3, AT b), (8, .own 14), (9, AB false), (10, .own 14)] [(14, .row .u false 1 (n1 + n2) (fun a_1 b_1 => if a_1 < n1 then TR f1 a_1 b_1 else PT (f2 (a_1 - n1))) [])])))) (VC.done (St.mk [(0, TL false n1 f1), (1, TL false n2 f2), (2, AT a), (3, AT b), (8, .own 14), (9, AB false), (10, .own 14)] [(14, .row .u false 1 (n1 + n2) (fun a_1 b_1 => if a_1 < n1 then TR f1 a_1 b_1 else PT (f2 (a_1 - n1))) [])]))))) := by intros; kernel_rfl
theorem TR_nj {n1 : Nat} {f1 f2 : Nat → ByteArray} {i : Nat} : (if i < n1 then TR f1 i 0 else PT (f2 (i - n1))) = TR (njF n1 f1 f2) i 0 := by
  unfold njF
  split <;> simp [TR, *]
theorem TR_njT {n1 : Nat} {f1 f2 : Nat → ByteArray} {i : Nat} : txtOf (if i < n1 then TR f1 i 0 else PT (f2 (i - n1))) = njF n1 f1 f2 i := by rw [TR_nj]; rfl
abbrev jnR (b : Bool) : AV := .tp [.own 0, AB b]
structure JnOk (n1 : Nat) (f1 : Nat → ByteArray) (n2 : Nat) (f2 : Nat → ByteArray) : Prop where
  hn : n1 + n2 ≤ 1048576
  hf1 : ∀ i, i < n1 → (f1 i).size ≤ 1048576
  hf2 : ∀ i, i < n2 → (f2 i).size ≤ 1048576
theorem JnOk.nj {n1 : Nat} {f1 : Nat → ByteArray} {n2 : Nat} {f2 : Nat → ByteArray} (h : JnOk n1 f1 n2 f2) : ∀ i, i < n1 + n2 → (njF n1 f1 f2 i).size ≤ 1048576 := fun i hi => by
  unfold njF
  split
  · exact h.hf1 i (by omega)
  · exact h.hf2 _ (by omega)
theorem c_jn (n1 : Nat) (f1 : Nat → ByteArray) (n2 : Nat) (f2 : Nat → ByteArray) (a b : ByteArray) (ok : JnOk n1 f1 n2 f2) : PObj Tryz.prog G0 19 [TL false n1 f1, TL false n2 f2, AT a, AT b] [] (jnR (jnB n1 f1 n2 f2 a b)) [(0, .row .u false 1 (n1 + n2) (TR (njF n1 f1 f2)) [])] := by
  have hn := ok.hn
  refine PObj.by chk19 rfl (ev_jn n1 f1 n2 f2 a b) ?_
  have ht : TxtOk (n1 + n2) (fun i _ => if i < n1 then TR f1 i 0 else PT (f2 (i - n1))) := ⟨hn, fun i hi => by
    simp only [TR_nj]
    exact ⟨rfl, ok.nj i hi⟩⟩
  have hc : namesB (n1 + n2) (fun i => txtOf (if i < n1 then TR f1 i 0 else PT (f2 (i - n1)))) = namesB (n1 + n2) (njF n1 f1 f2) := namesB_congr fun i _ => TR_njT
  simp only [vcA]
  refine ⟨c_clT _ _ (by omega), ⟨⟨by omega, by omega⟩, fun _ _ _ _ => rfl⟩, c_colS _ _ _ ht, fun h1 => ⟨c_hasT _ _ _ _ (by omega), fun h2 => ⟨c_hasT _ _ _ _ (by omega), ?_⟩, fun h2 => ?_⟩, fun h1 => ?_⟩
  · rw [hc] at h1
    have e : jnB n1 f1 n2 f2 a b = hasT f2 b n2 := by simp [jnB, h1, h2]
    rw [e]
    refine ResOk.mk [] [(0, 14)] [] _ _ ?_ ⟨rfl, rfl⟩
    simp [doneC, resOf, resAV, tup, pinR, PV.Le_self, leA, res19]
    intro i hi
    rw [TR_nj]; exact .refl _
  · have e : jnB n1 f1 n2 f2 a b = false := by simp [jnB, h2]
    rw [e]
    refine ResOk.mk [] [(0, 14)] [] _ _ ?_ ⟨rfl, rfl⟩
    simp [doneC, resOf, resAV, tup, pinR, PV.Le_self, leA, res19]
    intro i hi
    rw [TR_nj]; exact .refl _
  · rw [hc] at h1
    have e : jnB n1 f1 n2 f2 a b = false := by simp [jnB, h1]
    rw [e]
    refine ResOk.mk [] [(0, 14)] [] _ _ ?_ ⟨rfl, rfl⟩
    simp [doneC, resOf, resAV, tup, pinR, PV.Le_self, leA, res19]
    intro i hi
    rw [TR_nj]; exact .refl _
theorem c_imTVS (nn nn' : Bool) (n : Nat) (f : Nat → ByteArray) (S : LL) (h : n ≤ 1048576 ∧ (∀ i, i < n → (f i).size ≤ 1048576) ∧ S.length ≤ 1048576 ∧ ∀ i, i < S.length → wL S i ≤ 1048576) : PRet Tryz.prog G0 41 [TA nn nn' n f S.length (wL S) (hL S)] (AB (tableB n f S.length (wL S) (hL S))) := c_imTV nn nn' n f _ _ _ h.1 h.2.1 h.2.2.1 h.2.2.2
theorem ev_jr : ∀ (n1 : Nat) (f1 : Nat → ByteArray) (m1 : Nat) (w1 : Nat → Nat) (h1 : Nat → Nat → Int) (n2 : Nat) (f2 : Nat → ByteArray) (m2 : Nat) (w2 : Nat → Nat) (h2 : Nat → Nat → Int) (a b : ByteArray), ev G0 res11 [] 3000 (Or.call [] (AB (tableB n1 f1 m1 w1 h1)) [] (Or.nil.lit.lit.lit.lit.split (Or.call [] (AB (tableB n2 f2 m2 w2 h2)) [] (Or.nil.split (Or.call [] (jnR (jnB n1 f1 n2 f2 a b)) [(0, .row .u false 1 (n1 + n2) (TR (njF n1 f1 f2)) [])] (Or.nil.split Or.nil))).lit.lit).lit)) [.ir ir11] (start [TA false false n1 f1 m1 w1 h1, TA false false n2 f2 m2 w2 h2, AT a, AT b] []) = VC.call 41 [AV.ag [TL false n1 f1, RL false m1 w1 h1]] [] (AB (tableB n1 f1 m1 w1 h1)) [] (VC.split (!tableB n1 f1 m1 w1 h1) (VC.done (St.mk [(0, AV.ag [TL false n1 f1, RL false m1 w1 h1]), (1, AV.ag [TL false n2 f2, RL false m2 w2 h2]), (2, AT a), (3, AT b), (4, .adr 4 0), (5, .adr 5 0), (8, .adr 8 0), (9, AB false), (24, AB true)] [(4, .box [TL false n1 f1, RL false m1 w1 h1]), (5, .box [TL false n2 f2, RL false m2 w2 h2]), (8, .box [nilT, nilT])])) (VC.call 41 [AV.ag [TL false n2 f2, RL false m2 w2 h2]] [] (AB (tableB n2 f2 m2 w2 h2)) [] (VC.split (!tableB n2 f2 m2 w2 h2) (VC.done (St.mk [(0, AV.ag [TL false n1 f1, RL false m1 w1 h1]), (1, AV.ag [TL false n2 f2, RL false m2 w2 h2]), (2, AT a), (3, AT b), (4, .adr 4 0), (5, .adr 5 0), (8, .adr 8 0), (9, AB false), (24, AB !tableB n2 f2 m2 w2 h2)] [(4, .box [TL false n1 f1, RL false m1 w1 h1]), (5, .box [TL false n2 f2, RL false m2 w2 h2]), (8, .box [nilT, nilT])])) (VC.call 19 [TL false n1 f1, TL false n2 f2, AT a, AT b] [] (jnR (jnB n1 f1 n2 f2 a b)) [(0, .row .u false 1 (n1 + n2) (TR (njF n1 f1 f2)) [])] (VC.split (!jnB n1 f1 n2 f2 a b) (VC.done (St.mk [(0, AV.ag [TL false n1 f1, RL false m1 w1 h1]), (1, AV.ag [TL false n2 f2, RL false m2 w2 h2]), (2, AT a), (3, AT b), (4, .adr 4 0), (5, .adr 5 0), (8, .adr 8 0), (9, AB false), (24, AB !tableB n2 f2 m2 w2 h2), (10, .own 1033), (11, AB (jnB n1 f1 n2 f2 a b)), (37, AB !jnB n1 f1 n2 f2 a b)] [(4, .box [TL false n1 f1, RL false m1 w1 h1]), (5, .box [TL false n2 f2, RL false m2 w2 h2]), (8, .box [nilT, nilT]), (1033, .row .u false 1 (n1 + n2) (TR (njF n1 f1 f2)) [])])) (VC.loop ir11_L3 [.bend 0, .ir ir11_T4] (St.mk [(0, AV.ag [TL false n1 f1, RL false m1 w1 h1]), (1, AV.ag [TL false n2 f2, RL false m2 w2 h2]), (2, AT a), (3, AT b), (4, .adr 4 0), (5, .adr 5 0), (8, .adr 8 0), (9, AB false), (24, AB !tableB n2 f2 m2 w2 h2), (10, .own 1033), (11, AB (jnB n1 f1 n2 f2 a b)), (37, AB !jnB n1 f1 n2 f2 a b), (12, .adr 12 0), (42, RL false m1 w1 h1), (43, AI ↑m1), (44, AI 0)] [(4, .box [TL false n1 f1, RL false m1 w1 h1]), (5, .box [TL false n2 f2, RL false m2 w2 h2]), (8, .box [nilT, nilT]), (1033, .row .u false 1 (n1 + n2) (TR (njF n1 f1 f2)) []), (12, .box [.own 1033, nilT])]))))))) := by intros; kernel_rfl
abbrev jrA (n1 : Nat) (f1 : Nat → ByteArray) (m1 : Nat) (w1 : Nat → Nat) (h1 : Nat → Nat → Int) : Ob := .box [TL false n1 f1, RL false m1 w1 h1]
def st_jr (n1 : Nat) (f1 : Nat → ByteArray) (m1 : Nat) (w1 : Nat → Nat) (h1 : Nat → Nat → Int) (n2 : Nat) (f2 : Nat → ByteArray) (m2 : Nat) (w2 : Nat → Nat) (h2 : Nat → Nat → Int) (a b : ByteArray) (x : Nat × LL) : St := ⟨[(2, AT a), (3, AT b), (4, .adr 4 0), (5, .adr 5 0), (8, .adr 8 0), (12, .adr 12 0), (42, RL false m1 w1 h1), (43, AI m1), (44, AI x.1)], [(4, jrA n1 f1 m1 w1 h1), (5, jrA n2 f2 m2 w2 h2), (8, .box [nilT, nilT]), (1033, .row .u false 1 (n1 + n2) (TR (njF n1 f1 f2)) []), (77777, .row .u false 1 x.2.length (RR (wL x.2) (hL x.2)) []), (12, .box [.own 1033, .own 77777])]⟩
theorem evr_jr : ∀ (n1 : Nat) (f1 : Nat → ByteArray) (m1 : Nat) (w1 : Nat → Nat) (h1 : Nat → Nat → Int) (n2 : Nat) (f2 : Nat → ByteArray) (m2 : Nat) (w2 : Nat → Nat) (h2 : Nat → Nat → Int) (a b : ByteArray) (I : Nat × LL → St → Prop) (x : Nat × LL), ev G0 res11 [] 3000 (Or.nil.split (Or.call [] (AB (tableB (n1 + n2) (njF n1 f1 f2) (x.2.length) (wL x.2) (hL x.2))) [] (Or.nil.split Or.nil))) [.ir ir11_L3, .lend (I x), .bend 0, .ir ir11_T4] (st_jr n1 f1 m1 w1 h1 n2 f2 m2 w2 h2 a b x) = VC.split (decide ((↑x.1 : Int) < ↑m1)) (VC.need (0 ≤ (↑x.1 : Int) ∧ x.1 < m1) (VC.loop ir11_L1 [.bend 2, .bend 1, .ir ir11_T2, .lend (I x), .bend 0, .ir ir11_T4] (St.mk [(2, AT a), (3, AT b), (4, .adr 4 0), (5, .adr 5 0), (8, .adr 8 0), (12, .adr 12 0), (42, RL false m1 w1 h1), (43, AI ↑m1), (44, AI ↑x.1), (45, AB (decide ((↑x.1 : Int) < ↑m1))), (14, SL false 1 (w1 x.1) fun j x_1 => PI (h1 x.1 j)), (49, RL false m2 w2 h2), (50, AI ↑m2), (51, AI 0)] [(4, .box [TL false n1 f1, RL false m1 w1 h1]), (5, .box [TL false n2 f2, RL false m2 w2 h2]), (8, .box [nilT, nilT]), (1033, .row .u false 1 (n1 + n2) (TR (njF n1 f1 f2)) []), (77777, .row .u false 1 (x.2.length) (RR (wL x.2) (hL x.2)) []), (12, .box [.own 1033, .own 77777])]))) (VC.call 41 [AV.ag [SL false 1 (n1 + n2) (TR (njF n1 f1 f2)), SL false 1 (x.2.length) (RR (wL x.2) (hL x.2))]] [] (AB (tableB (n1 + n2) (njF n1 f1 f2) (x.2.length) (wL x.2) (hL x.2))) [] (VC.split (!tableB (n1 + n2) (njF n1 f1 f2) (x.2.length) (wL x.2) (hL x.2)) (VC.done (St.mk [(2, AT a), (3, AT b), (4, .adr 4 0), (5, .adr 5 0), (8, .adr 8 0), (12, .adr 12 0), (42, RL false m1 w1 h1), (43, AI ↑m1), (44, AI ↑x.1), (45, AB (decide ((↑x.1 : Int) < ↑m1))), (83, AB !tableB (n1 + n2) (njF n1 f1 f2) (x.2.length) (wL x.2) (hL x.2)), (9, AB false)] [(4, .box [TL false n1 f1, RL false m1 w1 h1]), (5, .box [TL false n2 f2, RL false m2 w2 h2]), (8, .box [nilT, nilT]), (1033, .row .u false 1 (n1 + n2) (TR (njF n1 f1 f2)) []), (77777, .row .u false 1 (x.2.length) (RR (wL x.2) (hL x.2)) []), (12, .box [.own 1033, .own 77777])])) (VC.done (St.mk [(2, AT a), (3, AT b), (4, .adr 4 0), (5, .adr 5 0), (8, .adr 8 0), (12, .adr 12 0), (42, RL false m1 w1 h1), (43, AI ↑m1), (44, AI ↑x.1), (45, AB (decide ((↑x.1 : Int) < ↑m1))), (83, AB !tableB (n1 + n2) (njF n1 f1 f2) (x.2.length) (wL x.2) (hL x.2)), (9, AB true)] [(4, .box [TL false n1 f1, RL false m1 w1 h1]), (5, .box [TL false n2 f2, RL false m2 w2 h2]), (8, .box [.own 1033, .own 77777]), (1033, .row .u false 1 (n1 + n2) (TR (njF n1 f1 f2)) []), (77777, .row .u false 1 (x.2.length) (RR (wL x.2) (hL x.2)) []), (12, .box [.own 1033, .own 77777])])))) := by intros; kernel_rfl
def st_jr1 (n1 : Nat) (f1 : Nat → ByteArray) (m1 : Nat) (w1 : Nat → Nat) (h1 : Nat → Nat → Int) (n2 : Nat) (f2 : Nat → ByteArray) (m2 : Nat) (w2 : Nat → Nat) (h2 : Nat → Nat → Int) (a b : ByteArray) (k : Nat) (x : Nat × LL) : St := ⟨[(2, AT a), (3, AT b), (4, .adr 4 0), (5, .adr 5 0), (8, .adr 8 0), (12, .adr 12 0), (14, IL false (w1 k) (h1 k)), (42, RL false m1 w1 h1), (43, AI m1), (44, AI k), (49, RL false m2 w2 h2), (50, AI m2), (51, AI x.1)], [(4, jrA n1 f1 m1 w1 h1), (5, jrA n2 f2 m2 w2 h2), (8, .box [nilT, nilT]), (1033, .row .u false 1 (n1 + n2) (TR (njF n1 f1 f2)) []), (77777, .row .u false 1 x.2.length (RR (wL x.2) (hL x.2)) []), (12, .box [.own 1033, .own 77777])]⟩
theorem evr_jr1 : ∀ (n1 : Nat) (f1 : Nat → ByteArray) (m1 : Nat) (w1 : Nat → Nat) (h1 : Nat → Nat → Int) (n2 : Nat) (f2 : Nat → ByteArray) (m2 : Nat) (w2 : Nat → Nat) (h2 : Nat → Nat → Int) (a b : ByteArray) (k : Nat) (I J : Nat × LL → St → Prop) (y x : Nat × LL), ev G0 res11 [] 3000 ((Or.call [] (AI (colT f1 a n1)) [] (Or.call [] (AI (colT f2 b n2)) [] ((Or.call [] (.own 0) [(0, .row .u false 1 (w1 k) (fun i x_1 => PI (h1 k i)) [])] Or.nil).split Or.nil))).split Or.nil) [.ir ir11_L1, .lend (J x), .bend 2, .bend 1, .ir ir11_T2, .lend (I y), .bend 0, .ir ir11_T4] (st_jr1 n1 f1 m1 w1 h1 n2 f2 m2 w2 h2 a b k x) = VC.split (decide ((↑x.1 : Int) < ↑m2)) (VC.need (0 ≤ (↑x.1 : Int) ∧ x.1 < m2) (VC.call 20 [TL false n1 f1, AT a] [] (AI (colT f1 a n1)) [] (VC.need (0 ≤ colT f1 a n1 ∧ (colT f1 a n1).toNat < w1 k) (VC.call 20 [TL false n2 f2, AT b] [] (AI (colT f2 b n2)) [] (VC.need (0 ≤ colT f2 b n2 ∧ (colT f2 b n2).toNat < w2 x.1) (VC.split (h1 k (colT f1 a n1).toNat == h2 x.1 (colT f2 b n2).toNat) (VC.call 22 [SL false 1 (w1 k) fun i x_1 => PI (h1 k i)] [] (.own 0) [(0, .row .u false 1 (w1 k) (fun i x_1 => PI (h1 k i)) [])] (VC.need (((w1 k + w2 x.1) * 8 ≤ 140737488355328 ∧ (↑(w1 k + w2 x.1) : Int) ≤ 9223372036854775807) ∧ allV 1 (w2 x.1) fun j x_1 => PI (h2 x.1 j)) (VC.need (((x.2.length + 1) * 24 ≤ 140737488355328 ∧ (↑(x.2.length + 1) : Int) ≤ 9223372036854775807) ∧ allOne 1 1 (setG [(0, 0, PV.sl false 1 (w1 k + w2 x.1) fun a_1 b_1 => if a_1 < w1 k then PI (h1 k a_1) else PI (h2 x.1 (a_1 - w1 k)))] fun x_1 j => PV.v ([Value.slice none 0 0].getD j undef))) (VC.lend (J x) (St.mk [(2, AT a), (3, AT b), (4, .adr 4 0), (5, .adr 5 0), (8, .adr 8 0), (12, .adr 12 0), (14, SL false 1 (w1 k) fun i x_1 => PI (h1 k i)), (42, RL false m1 w1 h1), (43, AI ↑m1), (44, AI ↑k), (49, RL false m2 w2 h2), (50, AI ↑m2), (51, AI (IntKind.i64.wrap ((↑x.1 : Int) + 1))), (52, AB (decide ((↑x.1 : Int) < ↑m2))), (16, SL false 1 (w2 x.1) fun j x_1 => PI (h2 x.1 j)), (69, AB (h1 k (colT f1 a n1).toNat == h2 x.1 (colT f2 b n2).toNat))] [(4, .box [TL false n1 f1, RL false m1 w1 h1]), (5, .box [TL false n2 f2, RL false m2 w2 h2]), (8, .box [nilT, nilT]), (1033, .row .u false 1 (n1 + n2) (TR (njF n1 f1 f2)) []), (12, .box [.own 1033, .own 77]), (77, .row .u false 1 (x.2.length + 1) (fun a_1 b_1 => if a_1 < x.2.length then RR (wL x.2) (hL x.2) a_1 b_1 else setG [(0, 0, PV.sl false 1 (w1 k + w2 x.1) fun a_2 b_2 => if a_2 < w1 k then PI (h1 k a_2) else PI (h2 x.1 (a_2 - w1 k)))] (fun x_1 j => PV.v ([Value.slice none 0 0].getD j undef)) (a_1 - x.2.length) b_1) [])]))))) (VC.lend (J x) (St.mk [(2, AT a), (3, AT b), (4, .adr 4 0), (5, .adr 5 0), (8, .adr 8 0), (12, .adr 12 0), (14, SL false 1 (w1 k) fun i x_1 => PI (h1 k i)), (42, RL false m1 w1 h1), (43, AI ↑m1), (44, AI ↑k), (49, RL false m2 w2 h2), (50, AI ↑m2), (51, AI (IntKind.i64.wrap ((↑x.1 : Int) + 1))), (52, AB (decide ((↑x.1 : Int) < ↑m2))), (16, SL false 1 (w2 x.1) fun j x_1 => PI (h2 x.1 j)), (69, AB (h1 k (colT f1 a n1).toNat == h2 x.1 (colT f2 b n2).toNat))] [(4, .box [TL false n1 f1, RL false m1 w1 h1]), (5, .box [TL false n2 f2, RL false m2 w2 h2]), (8, .box [nilT, nilT]), (1033, .row .u false 1 (n1 + n2) (TR (njF n1 f1 f2)) []), (77777, .row .u false 1 (x.2.length) (RR (wL x.2) (hL x.2)) []), (12, .box [.own 1033, .own 77777])])))))))) (VC.lend (I y) (St.mk [(2, AT a), (3, AT b), (4, .adr 4 0), (5, .adr 5 0), (8, .adr 8 0), (12, .adr 12 0), (14, SL false 1 (w1 k) fun i x_1 => PI (h1 k i)), (42, RL false m1 w1 h1), (43, AI ↑m1), (44, AI (IntKind.i64.wrap ((↑k : Int) + 1))), (49, RL false m2 w2 h2), (50, AI ↑m2), (51, AI ↑x.1), (52, AB (decide ((↑x.1 : Int) < ↑m2)))] [(4, .box [TL false n1 f1, RL false m1 w1 h1]), (5, .box [TL false n2 f2, RL false m2 w2 h2]), (8, .box [nilT, nilT]), (1033, .row .u false 1 (n1 + n2) (TR (njF n1 f1 f2)) []), (77777, .row .u false 1 (x.2.length) (RR (wL x.2) (hL x.2)) []), (12, .box [.own 1033, .own 77777])])) := by intros; kernel_rfl
def matL (c1 c2 : Nat) (x : List Int) (B : LL) : LL := (B.filter fun y => meetB c1 c2 x y).map fun y => x ++ y
theorem joinL_app {c1 c2 : Nat} {A : LL} {x : List Int} {B : LL} : joinL c1 c2 (A ++ [x]) B = joinL c1 c2 A B ++ matL c1 c2 x B := by simp [joinL, matL]
theorem matL_app {c1 c2 : Nat} {B : LL} {x y : List Int} : matL c1 c2 x (B ++ [y]) = matL c1 c2 x B ++ if meetB c1 c2 x y then [x ++ y] else [] := by
  cases e : meetB c1 c2 x y <;> simp [matL, List.filter_append, e]
theorem matL_len {c1 c2 : Nat} {B : LL} {x : List Int} : (matL c1 c2 x B).length ≤ B.length := by
  simp only [matL, List.length_map]; exact List.length_filter_le _ _
theorem joinL_len {c1 c2 : Nat} {A B : LL} : (joinL c1 c2 A B).length ≤ A.length * B.length := by
  induction A with
  | nil => simp [joinL]
  | cons x A ih =>
    have h2 := matL_len (c1 := c1) (c2 := c2) (B := B) (x := x)
    simp only [joinL, List.flatMap_cons, List.length_append, List.length_cons, matL] at ih h2 ⊢
    rw [Nat.add_mul, Nat.one_mul]
    omega
theorem joinL_w {c1 c2 n1 n2 : Nat} {A B : LL} (hA : ∀ x, x ∈ A → x.length = n1) (hB : ∀ x, x ∈ B → x.length = n2) : ∀ i, i < (joinL c1 c2 A B).length → wL (joinL c1 c2 A B) i = n1 + n2 := fun i hi => by
  have : (joinL c1 c2 A B).getD i [] ∈ joinL c1 c2 A B := by
    rw [List.getD_eq_getElem?_getD, List.getElem?_eq_getElem hi]; exact List.getElem_mem _
  unfold wL
  generalize (joinL c1 c2 A B).getD i [] = z at this ⊢
  simp only [joinL, List.mem_flatMap, List.mem_map, List.mem_filter] at this
  obtain ⟨x, hx, y, ⟨hy, _⟩, rfl⟩ := this
  rw [List.length_append, hA x hx, hB y hy]
theorem tabL_w {m n : Nat} {w : Nat → Nat} {h : Nat → Nat → Int} (hw : ∀ i, i < m → w i = n) : ∀ x, x ∈ tabL m w h → x.length = n := fun x hx => by
  simp only [tabL, List.mem_map, List.mem_range] at hx
  obtain ⟨i, hi, rfl⟩ := hx
  rw [rowL_len, hw i hi]
theorem tab_m {n : Nat} {f : Nat → ByteArray} {m : Nat} {w : Nat → Nat} {h : Nat → Nat → Int} (ht : tableB n f m w h = true) : m ≤ 16 := by
  simp only [tableB, Bool.and_eq_true, decide_eq_true_eq] at ht
  exact ht.1.2
def jrL (n1 : Nat) (f1 : Nat → ByteArray) (m1 : Nat) (w1 : Nat → Nat) (h1 : Nat → Nat → Int) (n2 : Nat) (f2 : Nat → ByteArray) (m2 : Nat) (w2 : Nat → Nat) (h2 : Nat → Nat → Int) (a b : ByteArray) : LL := joinL (colT f1 a n1).toNat (colT f2 b n2).toNat (tabL m1 w1 h1) (tabL m2 w2 h2)
def jrB (n1 : Nat) (f1 : Nat → ByteArray) (m1 : Nat) (w1 : Nat → Nat) (h1 : Nat → Nat → Int) (n2 : Nat) (f2 : Nat → ByteArray) (m2 : Nat) (w2 : Nat → Nat) (h2 : Nat → Nat → Int) (a b : ByteArray) : Bool :=
  tableB n1 f1 m1 w1 h1 && tableB n2 f2 m2 w2 h2 && jnB n1 f1 n2 f2 a b && tableB (n1 + n2) (njF n1 f1 f2) (jrL n1 f1 m1 w1 h1 n2 f2 m2 w2 h2 a b).length (wL (jrL n1 f1 m1 w1 h1 n2 f2 m2 w2 h2 a b)) (hL (jrL n1 f1 m1 w1 h1 n2 f2 m2 w2 h2 a b))
theorem jn_cols {n1 : Nat} {f1 : Nat → ByteArray} {n2 : Nat} {f2 : Nat → ByteArray} {a b : ByteArray} (h : jnB n1 f1 n2 f2 a b = true) : ∃ c1 c2 : Nat, colT f1 a n1 = c1 ∧ c1 < n1 ∧ colT f2 b n2 = c2 ∧ c2 < n2 := by
  simp only [jnB, Bool.and_eq_true, ← colT_has, decide_eq_true_eq] at h
  have g1 := colT_lt f1 a n1
  have g2 := colT_lt f2 b n2
  exact ⟨(colT f1 a n1).toNat, (colT f2 b n2).toNat, by omega, by omega, by omega, by omega⟩
theorem c_jr (n1 : Nat) (f1 : Nat → ByteArray) (m1 : Nat) (w1 : Nat → Nat) (h1 : Nat → Nat → Int) (n2 : Nat) (f2 : Nat → ByteArray) (m2 : Nat) (w2 : Nat → Nat) (h2 : Nat → Nat → Int) (a b : ByteArray) (ok1 : TaOk n1 f1 m1 w1) (ok2 : TaOk n2 f2 m2 w2) (hnn : n1 + n2 ≤ 1048576) :
    PObj Tryz.prog G0 11 [TA false false n1 f1 m1 w1 h1, TA false false n2 f2 m2 w2 h2, AT a, AT b] [] (tkR (jrB n1 f1 m1 w1 h1 n2 f2 m2 w2 h2 a b)) (tkH (if jrB n1 f1 m1 w1 h1 n2 f2 m2 w2 h2 a b then n1 + n2 else 0) (njF n1 f1 f2) (if jrB n1 f1 m1 w1 h1 n2 f2 m2 w2 h2 a b then jrL n1 f1 m1 w1 h1 n2 f2 m2 w2 h2 a b else [])) := by
  have okj : JnOk n1 f1 n2 f2 := ⟨hnn, ok1.hf, ok2.hf⟩
  refine PObj.by chk11 rfl (ev_jr n1 f1 m1 w1 h1 n2 f2 m2 w2 h2 a b) ?_
  simp only [vcA]
  refine ⟨c_imTV _ _ _ _ _ _ _ ok1.hn ok1.hf ok1.hm ok1.hw, fun g1 => ?_, fun g1 => ⟨c_imTV _ _ _ _ _ _ _ ok2.hn ok2.hf ok2.hm ok2.hw, fun g2 => ?_, fun g2 => ⟨c_jn _ _ _ _ _ _ okj, fun g3 => ?_, fun g3 => ?_⟩⟩⟩
  · have e : jrB n1 f1 m1 w1 h1 n2 f2 m2 w2 h2 a b = false := by
      have : tableB n1 f1 m1 w1 h1 = false := by simpa using g1
      simp [jrB, this]
    simp only [e]
    refine ResOk.mk [] [] [0, 1] _ _ ?_ ⟨rfl, rfl⟩
    simp [doneC, resOf, resAV, tup, pinR, PV.Le_self, leA, res11, AV.leCs]
  · have e : jrB n1 f1 m1 w1 h1 n2 f2 m2 w2 h2 a b = false := by
      have : tableB n2 f2 m2 w2 h2 = false := by simpa using g2
      simp [jrB, this]
    simp only [e]
    refine ResOk.mk [] [] [0, 1] _ _ ?_ ⟨rfl, rfl⟩
    simp [doneC, resOf, resAV, tup, pinR, PV.Le_self, leA, res11, AV.leCs]
  · have e : jrB n1 f1 m1 w1 h1 n2 f2 m2 w2 h2 a b = false := by
      have : jnB n1 f1 n2 f2 a b = false := by simpa using g3
      simp [jrB, this]
    simp only [e]
    refine ResOk.mk [] [] [0, 1] _ _ ?_ ⟨rfl, rfl⟩
    simp [doneC, resOf, resAV, tup, pinR, PV.Le_self, leA, res11, AV.leCs]
  · have t1 : tableB n1 f1 m1 w1 h1 = true := by simpa using g1
    have t2 : tableB n2 f2 m2 w2 h2 = true := by simpa using g2
    have t3 : jnB n1 f1 n2 f2 a b = true := by simpa using g3
    obtain ⟨c1, c2, hc1, hl1, hc2, hl2⟩ := jn_cols t3
    have u1 := tab_w t1
    have u2 := tab_w t2
    have hm1 := tab_m t1
    have hm2 := tab_m t2
    have hn1 := ok1.hn
    have hn2 := ok2.hn
    have eL : ∀ T : LL, T = joinL c1 c2 (tabL m1 w1 h1) (tabL m2 w2 h2) → jrL n1 f1 m1 w1 h1 n2 f2 m2 w2 h2 a b = T := fun T e => by rw [e, jrL, hc1, hc2]; rfl
    refine loop_by (st_jr n1 f1 m1 w1 h1 n2 f2 m2 w2 h2 a b) (fun x => x.1 ≤ m1 ∧ x.2 = joinL c1 c2 (tabL x.1 w1 h1) (tabL m2 w2 h2)) (fun x => m1 - x.1) (0, []) [] [] [77777] ⟨Nat.zero_le _, rfl⟩ ?_ (evr_jr n1 f1 m1 w1 h1 n2 f2 m2 w2 h2 a b) fun x hx => ?_
    · simp [st_jr, leA, PV.Le_self, AV.leCs]
    · obtain ⟨k, T⟩ := x
      obtain ⟨hk, hT⟩ := hx
      simp only [] at hk hT
      have e1 : IntKind.i64.wrap ((k : Int) + 1) = ((k + 1 : Nat) : Int) := wrap_in (by omega) (by omega)
      have hTl : T.length ≤ 256 := by
        have := joinL_len (c1 := c1) (c2 := c2) (A := tabL k w1 h1) (B := tabL m2 w2 h2)
        rw [tabL_len, tabL_len, ← hT] at this
        have := Nat.mul_le_mul (show k ≤ 16 by omega) hm2
        omega
      have hTw : ∀ i, i < T.length → wL T i = n1 + n2 := by
        rw [hT]
        exact joinL_w (tabL_w fun i hi => u1 i (by omega)) (tabL_w u2)
      simp only [vcA, Int.toNat_natCast]
      refine ⟨fun q1 => ⟨by omega, ?_⟩, fun q1 => ⟨c_imTVS _ _ _ _ _ ⟨hnn, okj.nj, by omega, fun i hi => by rw [hTw i hi]; exact hnn⟩, fun q2 => ?_, fun q2 => ?_⟩⟩
      · have hwk := u1 k (by omega)
        refine loop_by (st_jr1 n1 f1 m1 w1 h1 n2 f2 m2 w2 h2 a b k) (fun y => y.1 ≤ m2 ∧ y.2 = T ++ matL c1 c2 (rowL (w1 k) (h1 k) 0) (tabL y.1 w2 h2)) (fun y => m2 - y.1) (0, T) [] [] [] ⟨Nat.zero_le _, by simp [matL, tabL]⟩ ?_ (fun J y => evr_jr1 n1 f1 m1 w1 h1 n2 f2 m2 w2 h2 a b k _ J _ y) fun y hy => ?_
        · simp [st_jr1, leA, PV.Le_self, AV.leCs]
        · obtain ⟨q, U⟩ := y
          obtain ⟨hq, hU⟩ := hy
          simp only [] at hq hU
          have e2 : IntKind.i64.wrap ((q : Int) + 1) = ((q + 1 : Nat) : Int) := wrap_in (by omega) (by omega)
          have hUl : U.length ≤ 272 := by
            have := matL_len (c1 := c1) (c2 := c2) (B := tabL q w2 h2) (x := rowL (w1 k) (h1 k) 0)
            rw [tabL_len] at this
            rw [hU, List.length_append]
            omega
          simp only [vcA, Int.toNat_natCast, hc1, hc2, e2]
          refine ⟨fun q2 => ?_, fun q2 => Again.mk (k + 1, U) [] [] [] ⟨by simp only []; omega, ?_⟩ (by simp only []; omega) ?_⟩
          · have hwq := u2 q (by omega)
            have hmt : meetB c1 c2 (rowL (w1 k) (h1 k) 0) (rowL (w2 q) (h2 q) 0) = (h1 k c1 == h2 q c2) := by
              rw [meetB, rowL_get (by omega), rowL_get (by omega)]
            refine ⟨by omega, hc1 ▸ c_ixT _ _ _ _ hn1, by omega, hc2 ▸ c_ixT _ _ _ _ hn2, by omega, fun q3 => ⟨c_clI _ _ (by omega), ⟨⟨by omega, by omega⟩, fun _ _ _ _ => rfl⟩, ⟨⟨by omega, by omega⟩, allOne1 rfl⟩, Again.mk (q + 1, U ++ [rowL (w1 k) (h1 k) 0 ++ rowL (w2 q) (h2 q) 0]) [] [(77777, 77)] [] ⟨by simp only []; omega, ?_⟩ (by simp only []; omega) ?_⟩, fun q3 => Again.mk (q + 1, U) [] [] [] ⟨by simp only []; omega, ?_⟩ (by simp only []; omega) ?_⟩
            · simp only [tabL_succ, matL_app, hmt, q3, if_true, hU, List.append_assoc]
            · have el : (U ++ [rowL (w1 k) (h1 k) 0 ++ rowL (w2 q) (h2 q) 0]).length = U.length + 1 := by simp
              simp [st_jr1, leA, PV.Le_self, AV.leCs, el]
              exact fun i hi => RL_app hi (by rw [List.length_append, rowL_len, rowL_len]) fun j hj => by
                rw [← rowL_append, rowL_get hj]
                split <;> exact .refl _
            · simp only [tabL_succ, matL_app, hmt, q3, hU]; simp
            · simp [st_jr1, leA, PV.Le_self, AV.leCs]
          · have : q = m2 := by omega
            subst this
            simp only [tabL_succ, joinL_app, hU, hT]
          · simp [st_jr, leA, PV.Le_self, AV.leCs, e1]
      · have : k = m1 := by omega
        subst this
        have e : jrB n1 f1 k w1 h1 n2 f2 m2 w2 h2 a b = false := by
          have : tableB (n1 + n2) (njF n1 f1 f2) T.length (wL T) (hL T) = false := by simpa using q2
          simp [jrB, eL T hT, this]
        simp only [e]
        refine ResOk.mk [] [] [0, 1] _ _ ?_ ⟨rfl, rfl⟩
        simp [doneC, resOf, resAV, tup, pinR, PV.Le_self, leA, res11, AV.leCs]
      · have : k = m1 := by omega
        subst this
        have e : jrB n1 f1 k w1 h1 n2 f2 m2 w2 h2 a b = true := by
          have : tableB (n1 + n2) (njF n1 f1 f2) T.length (wL T) (hL T) = true := by simpa using q2
          simp [jrB, eL T hT, this, t1, t2, t3]
        simp only [e, if_true, eL T hT]
        refine ResOk.mk [] [(0, 1033), (1, 77777)] [] _ _ ?_ ⟨rfl, rfl⟩
        simp [doneC, resOf, resAV, tup, pinR, PV.Le_self, leA, res11, AV.leCs]
end Go.Gw
