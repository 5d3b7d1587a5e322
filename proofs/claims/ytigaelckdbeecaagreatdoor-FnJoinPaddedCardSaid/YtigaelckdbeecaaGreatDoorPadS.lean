/- Padded tables sorted: the two functions; with no condition. -/
import Derived.Test.YtigaelckdbeecaaGreatDoorSorted
import Derived.KernelRfl
namespace Go.Gw
open Go Go.Proofs
set_option linter.unusedSimpArgs false
set_option linter.unusedVariables false
set_option maxRecDepth 100000
def ir26 : Ir := (.seq (.reg [] [o 1 (.box 3 (tt 0)), o 2 (.alloc [(.slice none 0 0), (.slice none 0 0), (.slice none 0 0)])]) (.seq (.reg [4] [o 4 (.load true 3 (tt 1)), o 3 (.alloc [(.slice none 0 0), (.slice none 0 0), (.slice none 0 0)]), on (.store 3 (tt 3) (tt 4))]) (.seq (.reg [5, 6, 7, 8, 9] [o 5 (.mkSl 1 0 [(.string ⟨#[]⟩)] []), oa 6 0 1, ol 7 6, o 8 (.app 1 16 true (tt 5) (tt 7)), oa 9 0 3, on (.store 1 (tt 9) (tt 8))]) (.seq (.reg [10, 11, 12, 13] [oa 10 1 1, ol 11 10, o 12 (.call 60 [(tt 11)]), oa 13 1 3, on (.store 1 (tt 13) (tt 12))]) (.seq (.reg [14, 15, 16, 17, 18] [o 14 (.mkSl 1 0 [(.bool false)] []), oa 15 2 1, ol 16 15, o 17 (.app 1 1 true (tt 14) (tt 16)), oa 18 2 3, on (.store 1 (tt 18) (tt 17))]) (.seq (.reg [19] [o 19 (.load true 3 (tt 3)), on (.store 3 (tt 2) (tt 19))]) .ret))))))
def keep26 : List Nat := [0, 1, 2, 3]
def res26 : List RI := [.cell true 3 2]
theorem chk26 : chk Tryz.prog 26 1 keep26 = some (ir26, res26) := by kernel_rfl
def ir68_L1 : Ir := (.seq (.seq (.reg [14, 15, 16, 17] [om 14 4, oa 15 1 1, ol 16 15, o 17 (.len (tt 16)), ob .lss 18 14 17]) (.cond (tt 18) .skip (.exit 0))) (.seq (.block 1 (.dreg [21, 22, 23, 24, 25, 26, 27, 28, 29, 30, 31] [0, 1, 0, 4, 0, 28, 60, 124, 252, 511, 1023, 2047] [(1, 1022), (3, 1024), (6, 1027), (7, 1028), (7, 2028), (7, 3028), (7, 4028), (7, 5028), (7, 6028), (7, 7028), (7, 8028), (8, 29), (9, 30)] [oa 21 1 3, ol 22 21, oa 23 1 1, ol 24 23, om 25 4, ox 26 24 25, ol 27 26, o 28 (.call 64 [(tt 27)]), o 29 (.mkSl 1 1 [(.slice none 0 0)] [(0, (tt 28))]), o 30 (.app 1 24 false (tt 22) (tt 29)), oa 31 1 3, on (.store 1 (tt 31) (tt 30))])) (.reg [19, 20] [om 19 4, o 20 (.bin .add (tt 19) (ci 1)), om 4 20])))
def ir68_T2 : Ir := (.seq (.reg [32] [o 32 (.load true 3 (tt 3)), on (.store 3 (tt 2) (tt 32))]) .ret)
def ir68 : Ir := (.seq (.reg [] [o 1 (.box 3 (tt 0)), o 2 (.alloc [(.slice none 0 0), (.slice none 0 0), (.slice none 0 0)])]) (.seq (.dreg [5, 6, 7, 8, 9, 10, 11, 12, 13] [0, 0, 2, 7, 0, 0, 32, 127, 255, 0, 1023] [(0, 5), (2, 1007), (3, 8), (4, 9), (6, 1011), (7, 12), (9, 3)] [o 5 (.mkSl 1 0 [(.string ⟨#[]⟩)] []), oa 6 0 1, ol 7 6, o 8 (.app 1 16 true (tt 5) (tt 7)), o 9 (.mkSl 1 0 [(.bool false)] []), oa 10 2 1, ol 11 10, o 12 (.app 1 1 true (tt 9) (tt 11)), o 13 (.build [(.slice none 0 0), (.slice none 0 0), (.slice none 0 0)] [(0, 1, (tt 8)), (2, 1, (tt 12))]), o 3 (.alloc [(.slice none 0 0), (.slice none 0 0), (.slice none 0 0)]), on (.store 3 (tt 3) (tt 13))]) (.seq (.seq (.reg [] [o 4 (.mov (ci 0))]) (.block 0 (.loop ir68_L1))) ir68_T2)))
def keep68 : List Nat := [0, 1, 2, 3, 4, 18]
def res68 : List RI := [.cell true 3 2]
theorem chk68 : chk Tryz.prog 68 1 keep68 = some (ir68, res68) := by kernel_rfl
def ir81 : Ir := (.seq (.reg [] [o 5 (.box 3 (tt 0)), o 10 (.mov (cb false))]) (.seq (.seq (.dreg [11, 12, 13, 14, 15, 16, 17, 18, 19, 20] [0, 1, 0, 7, 15, 0, 32, 0, 224, 480, 1023] [(1, 1012), (4, 1015), (6, 1017), (9, 1020)] [oa 11 2 5, ol 12 11, om 13 1, ox 14 12 13, ol 15 14, oa 16 2 5, ol 17 16, om 18 2, ox 19 17 18, ol 20 19, o 21 (.binB .neq (tt 15) (tt 20))]) (.cond (tt 21) (.seq (.reg [22, 23, 24, 25, 26] [oa 22 2 5, ol 23 22, om 24 1, ox 25 23 24, ol 26 25, om 10 26]) .ret) .skip)) (.seq (.seq (.dreg [27, 28, 29, 30, 31, 32, 33, 34, 35, 36, 37, 38, 39, 40, 41, 42, 43, 44, 45, 46] [0, 1, 3, 7, 15, 7, 63, 127, 7, 511, 1023, 7, 2055, 7, 14343, 30727, 7, 129031, 260103, 524287, 1048575] [(4, 1031), (7, 1034), (10, 1037), (12, 1039), (15, 1042), (18, 1045)] [om 27 3, o 28 (.bin .geq (tt 27) (ci 0)), om 29 28, og 30 29 true (.fadr 1 (tt 5)), og 31 29 true (.load false 1 (tt 30)), og 32 29 true (.mov (tt 1)), og 33 29 true (.idx 1 (tt 31) (tt 32)), og 34 29 true (.load false 1 (tt 33)), og 35 29 true (.mov (tt 3)), og 36 29 true (.idx 1 (tt 34) (tt 35)), og 37 29 true (.load false 1 (tt 36)), og 38 29 true (.fadr 1 (tt 5)), og 39 29 true (.load false 1 (tt 38)), og 40 29 true (.mov (tt 2)), og 41 29 true (.idx 1 (tt 39) (tt 40)), og 42 29 true (.load false 1 (tt 41)), og 43 29 true (.mov (tt 3)), og 44 29 true (.idx 1 (tt 42) (tt 43)), og 45 29 true (.load false 1 (tt 44)), og 46 29 true (.bin .neq (tt 37) (tt 45)), o 47 (.pick (tt 29) (tt 46) (cb false))]) (.cond (tt 47) (.seq (.dreg [48, 49, 50, 51, 52, 53, 54, 55, 56, 57, 58, 59, 60, 61, 62, 63, 64, 65, 66] [0, 1, 0, 7, 15, 0, 63, 127, 0, 256, 0, 1792, 3840, 0, 16128, 32512, 65535, 0, 262143, 524287] [(1, 1049), (4, 1052), (7, 1055), (9, 1057), (12, 1060), (15, 1063)] [oa 48 1 5, ol 49 48, om 50 1, ox 51 49 50, ol 52 51, om 53 3, ox 54 52 53, ol 55 54, oa 56 1 5, ol 57 56, om 58 2, ox 59 57 58, ol 60 59, om 61 3, ox 62 60 61, ol 63 62, ob .lss 64 55 63, om 65 4, o 66 (.binB .neq (tt 64) (tt 65)), om 10 66]) .ret) .skip)) (.seq (.dreg [67, 68, 69, 70, 71, 72, 73, 74, 75, 76, 77] [0, 1, 0, 7, 15, 0, 32, 0, 224, 480, 1023, 2047] [(1, 1068), (4, 1071), (6, 1073), (9, 1076), (10, 1077), (10, 2077), (10, 3077), (10, 4077), (10, 5077), (10, 6077), (10, 7077), (10, 8077)] [oa 67 1 5, ol 68 67, om 69 1, ox 70 68 69, ol 71 70, oa 72 1 5, ol 73 72, om 74 2, ox 75 73 74, ol 76 75, o 77 (.call 87 [(tt 71), (tt 76)]), om 10 77]) .ret))))
def keep81 : List Nat := [0, 1, 2, 3, 4, 5, 10, 21, 47]
def res81 : List RI := [.tmp 10]
theorem chk81 : chk Tryz.prog 81 5 keep81 = some (ir81, res81) := by kernel_rfl
def ir65_C1 : Ir := (.seq (.reg [36, 37, 38, 39, 40] [o 36 (.load true 3 (tt 7)), om 37 11, om 38 10, om 39 1, om 40 2, o 41 (.call 81 [(tt 36), (tt 37), (tt 38), (tt 39), (tt 40)])]) (.cond (tt 41) (.seq (.reg [42, 43, 44, 45, 46] [oa 42 1 7, ol 43 42, om 44 10, ox 45 43 44, ol 46 45, om 12 46]) (.seq (.dreg [47, 48, 49, 50, 51, 52, 53, 54, 55] [0, 1, 0, 0, 8, 0, 56, 120, 255, 511] [(1, 1048), (4, 1051), (7, 1054)] [oa 47 1 7, ol 48 47, om 49 10, oa 50 1 7, ol 51 50, om 52 11, ox 53 51 52, ol 54 53, ox 55 48 49, on (.store 1 (tt 55) (tt 54))]) (.seq (.reg [56, 57, 58, 59, 60] [oa 56 1 7, ol 57 56, om 58 11, om 59 12, ox 60 57 58, on (.store 1 (tt 60) (tt 59))]) (.seq (.reg [61, 62, 63, 64, 65] [oa 61 2 7, ol 62 61, om 63 10, ox 64 62 63, ol 65 64, om 13 65]) (.seq (.dreg [66, 67, 68, 69, 70, 71, 72, 73, 74] [0, 1, 0, 0, 8, 0, 56, 120, 255, 511] [(1, 1067), (4, 1070), (7, 1073)] [oa 66 2 7, ol 67 66, om 68 10, oa 69 2 7, ol 70 69, om 71 11, ox 72 70 71, ol 73 72, ox 74 67 68, on (.store 1 (tt 74) (tt 73))]) (.reg [75, 76, 77, 78, 79] [oa 75 2 7, ol 76 75, om 77 11, om 78 13, ox 79 76 77, on (.store 1 (tt 79) (tt 78))])))))) .skip))
def ir65_E1 : Ir := (.reg [24, 25] [om 24 9, o 25 (.bin .add (tt 24) (ci 1)), om 9 25])
def ir65_L1 : Ir := (.seq (.seq (.reg [20, 21, 22] [om 20 9, om 21 8, o 22 (.len (tt 21)), ob .lss 23 20 22]) (.cond (tt 23) .skip (.exit 0))) (.seq (.block 1 (.seq (.reg [26, 27, 28, 29, 30] [om 26 8, om 27 9, o 28 (.idx 2 (tt 26) (tt 27)), oa 29 0 28, ol 30 29, om 10 30]) (.seq (.reg [31, 32, 33, 34, 35] [om 31 8, om 32 9, o 33 (.idx 2 (tt 31) (tt 32)), oa 34 1 33, ol 35 34, om 11 35]) ir65_C1))) ir65_E1))
def ir65_T2 : Ir := (.seq (.reg [80] [o 80 (.load true 3 (tt 7)), on (.store 3 (tt 6) (tt 80))]) .ret)
def ir65 : Ir := (.seq (.reg [] [o 3 (.box 3 (tt 0)), o 6 (.alloc [(.slice none 0 0), (.slice none 0 0), (.slice none 0 0)])]) (.seq (.reg [14, 15] [o 14 (.load true 3 (tt 3)), o 15 (.call 68 [(tt 14)]), o 7 (.alloc [(.slice none 0 0), (.slice none 0 0), (.slice none 0 0)]), on (.store 3 (tt 7) (tt 15))]) (.seq (.reg [16, 17, 18, 19] [oa 16 1 3, ol 17 16, o 18 (.len (tt 17)), o 19 (.call 67 [(tt 18)]), om 8 19]) (.seq (.seq (.reg [] [o 9 (.mov (ci 0))]) (.block 0 (.loop ir65_L1))) ir65_T2))))
def keep65 : List Nat := [0, 1, 2, 3, 6, 7, 8, 9, 10, 11, 12, 13, 23, 41]
def res65 : List RI := [.cell true 3 6]
theorem chk65 : chk Tryz.prog 65 3 keep65 = some (ir65, res65) := by kernel_rfl
def ir31 : Ir := (.seq (.reg [] [o 3 (.box 3 (tt 0)), o 6 (.alloc [(.slice none 0 0), (.slice none 0 0), (.slice none 0 0)]), o 7 (.mov (.const (.slice none 0 0))), o 8 (.mov (cb false))]) (.seq (.reg [9, 10] [o 9 (.load true 3 (tt 3)), o 10 (.call 26 [(tt 9)]), on (.store 3 (tt 3) (tt 10))]) (.seq (.seq (.reg [11, 12, 13, 14, 15, 16, 17, 18, 19, 20, 21, 22, 23] [o 11 (.load true 3 (tt 3)), o 12 (.call 27 [(tt 11)]), o 13 (.un .not (tt 12)), om 14 13, og 15 14 false (.mov (tt 1)), og 16 14 false (.bin .neq (tt 15) (.const (.string ⟨#[]⟩))), og 17 14 false (.mov (tt 16)), og 18 17 true (.fadr 0 (tt 3)), og 19 17 true (.load false 1 (tt 18)), og 20 17 true (.mov (tt 1)), og 21 17 true (.call 28 [(tt 19), (tt 20)]), og 22 17 true (.bin .lss (tt 21) (ci 0)), og 23 14 false (.pick (tt 17) (tt 22) (cb false)), o 24 (.pick (tt 14) (cb true) (tt 23))]) (.cond (tt 24) (.seq (.reg [25, 26] [o 25 (.build [(.slice none 0 0), (.slice none 0 0), (.slice none 0 0)] []), o 26 (.mkSl 3 0 [(.int .i64 0), (.int .i64 0), (.bool false)] []), on (.store 3 (tt 6) (tt 25)), om 7 26, o 8 (.mov (cb false))]) .ret) .skip)) (.seq (.dreg [27, 28, 29, 30, 31, 32, 33, 34, 35, 36, 37, 38] [0, 0, 2, 0, 14, 0, 63, 0, 128, 384, 1023, 2047, 4095, 8191, 16383] [(0, 1027), (0, 2027), (0, 3027), (2, 1029), (4, 1031), (4, 2031), (4, 3031), (4, 4031), (4, 5031), (4, 6031), (4, 7031), (4, 8031), (6, 1033), (6, 2033), (6, 3033), (6, 4033), (6, 5033), (6, 6033), (6, 7033), (6, 8033), (8, 1035), (10, 1037), (10, 2037), (10, 3037), (10, 4037), (10, 5037), (10, 6037), (10, 7037), (10, 8037), (11, 1038), (11, 2038), (11, 3038), (11, 4038), (11, 5038), (11, 6038), (11, 7038), (11, 8038)] [o 27 (.load true 3 (tt 3)), oa 28 0 3, ol 29 28, om 30 1, o 31 (.call 28 [(tt 29), (tt 30)]), om 32 2, o 33 (.call 65 [(tt 27), (tt 31), (tt 32)]), oa 34 1 3, ol 35 34, o 36 (.len (tt 35)), o 37 (.call 67 [(tt 36)]), o 38 (.call 66 [(ci 2), (tt 37)]), on (.store 3 (tt 6) (tt 33)), om 7 38, o 8 (.mov (cb true))]) .ret))))
def keep31 : List Nat := [0, 1, 2, 3, 6, 7, 8, 24]
def res31 : List RI := [.cell true 3 6, .tmp 7, .tmp 8]
theorem chk31 : chk Tryz.prog 31 3 keep31 = some (ir31, res31) := by kernel_rfl
section
variable {β : Type} (lt : β → β → Bool) (K : Nat → β)
def stD (D : Nat → Nat) (x : Nat × Nat) : Nat → Nat := if lt (K (D x.2)) (K (D x.1)) then swF D x.1 x.2 else D
def runD (D : Nat → Nat) (l : LP) : Nat → Nat := l.foldl (stD lt K) D
theorem runD_perm {n : Nat} {l : LP} (h : ∀ x, x ∈ l → x.1 < x.2 ∧ x.2 < n) : ∀ D, SegP 0 n D (runD lt K D l) := by
  induction l with
  | nil => intro D; exact .refl _ _ _
  | cons x l ih =>
    intro D
    have hx := h x List.mem_cons_self
    show SegP 0 n D (runD lt K (stD lt K D x) l)
    refine SegP.trans ?_ (ih (fun y hy => h y (List.mem_cons_of_mem _ hy)) _)
    simp only [stD]
    split
    · exact .swap D ⟨Nat.zero_le _, by omega⟩ ⟨Nat.zero_le _, hx.2⟩
    · exact .refl _ _ _
theorem runD_bool (hO : Go.Sort.SWO lt) (t : β) {n : Nat} {l : LP} (h : ∀ x, x ∈ l → x.1 < x.2 ∧ x.2 < n) : ∀ D, (fun i => !lt (K (runD lt K D l i)) t) = runB (fun i => !lt (K (D i)) t) l := by
  induction l with
  | nil => intro D; rfl
  | cons x l ih =>
    intro D
    have hx := h x List.mem_cons_self
    show (fun i => !lt (K (runD lt K (stD lt K D x) l i)) t) = runB (stB (fun i => !lt (K (D i)) t) x) l
    rw [ih (fun y hy => h y (List.mem_cons_of_mem _ hy))]
    congr 1
    funext i
    simp only [stD, stB]
    have hne : ¬ x.2 = x.1 := by omega
    by_cases hl : lt (K (D x.2)) (K (D x.1)) = true
    · -- exchanged: what is at the second place is less
      have up : lt (K (D x.1)) t = true → lt (K (D x.2)) t = true := fun e => hO.trans _ _ _ hl e
      simp only [hl, if_true, swF]
      by_cases c1 : i = x.1
      · subst c1
        simp only [if_true]
        cases e1 : lt (K (D x.1)) t <;> cases e2 : lt (K (D x.2)) t <;> simp_all
      · by_cases c2 : i = x.2
        · subst c2
          simp only [hne, if_false, if_true]
          cases e1 : lt (K (D x.1)) t <;> cases e2 : lt (K (D x.2)) t <;> simp_all
        · simp only [c1, c2, if_false]
    · have hl' : lt (K (D x.2)) (K (D x.1)) = false := by simpa using hl
      have up : lt (K (D x.2)) t = true → lt (K (D x.1)) t = true := fun e => by
        cases e3 : lt (K (D x.1)) t with
        | true => rfl
        | false =>
          have := hO.ntrans _ _ _ hl' e3
          rw [e] at this; cases this
      simp only [hl', if_false, Bool.false_eq_true]
      by_cases c1 : i = x.1
      · subst c1
        simp only [if_true]
        cases e1 : lt (K (D x.1)) t <;> cases e2 : lt (K (D x.2)) t <;> simp_all
      · by_cases c2 : i = x.2
        · subst c2
          simp only [hne, if_false, if_true]
          cases e1 : lt (K (D x.1)) t <;> cases e2 : lt (K (D x.2)) t <;> simp_all
        · simp only [c1, c2, if_false]
theorem runD_sorted (hO : Go.Sort.SWO lt) (n : Nat) (D : Nat → Nat) : SrtS lt K 0 n (runD lt K D (netL n)) := by
  intro i j _ hij hj
  cases e : lt (K (runD lt K D (netL n) j)) (K (runD lt K D (netL n) i)) with
  | false => rfl
  | true =>
    have h := runD_bool lt K hO (K (runD lt K D (netL n) i)) (n := n) (l := netL n) (fun x hx => netL_mem hx) D
    have hi := congrFun h i
    have hj' := congrFun h j
    simp only [hO.irrefl, Bool.not_false] at hi
    have := net_bool _ hij hj hi.symm
    rw [this, e] at hj'
    cases hj'
end
theorem srtP_of {c : Int} {dn : Bool} {k : Nat} {w : Nat → Nat} {h : Nat → Nat → Int} {r : Nat → Bool} {D E : Nat → Nat} (hD : ∀ j, j < k → D j = j) (hP : SegP 0 k D E) (hS : SrtS (ltX c dn) (itm w h r) 0 k E) : (List.range k).map (fun j => itm w h r (E j)) = srtP c dn (itL k w h r) := by
  refine srtP_eq ?_ ?_
  · have := hP.perm
    rw [Nat.sub_zero, ← List.range_eq_range'] at this
    have e2 : (List.range k).map D = List.range k := by
      rw [show (List.range k).map D = (List.range k).map id from List.map_congr_left fun j hj => hD j (by simpa using hj), List.map_id]
    rw [e2] at this
    have := this.map (itm w h r)
    rw [List.map_map] at this
    exact this
  · rw [List.pairwise_iff_getElem]
    intro i j hi hj hij
    simp only [List.getElem_map, List.getElem_range]
    exact hS i j (Nat.zero_le _) hij (by simpa using hj)
def emB (s : ByteArray) : Bool := s.toList == (ByteArray.mk #[]).toList
def spB (n : Nat) (f : Nat → ByteArray) (m : Nat) (w : Nat → Nat) (h : Nat → Nat → Int) (k : Nat) (r : Nat → Bool) (s : ByteArray) : Bool := padB n f m w h k r && (emB s || hasT f s n)
theorem c_pvK (n : Nat) (f : Nat → ByteArray) (m : Nat) (w : Nat → Nat) (h : Nat → Nat → Int) (k : Nat) (r : Nat → Bool) (ok : PdOk n f m w k) : PRet Tryz.prog G0 13 [PD false false false n f m w h k r] (AB (padB n f m w h k r)) := c_imPV n f m w h k r ok
theorem ev_ownP : ∀ (n : Nat) (f : Nat → ByteArray) (m : Nat) (w : Nat → Nat) (h : Nat → Nat → Int) (k : Nat) (r : Nat → Bool), ev G0 res26 [] 3000 (Or.call [] (.own 0) [(0, .row .u false 1 m (RR w h) [])] Or.nil) [.ir ir26] (start [PD false false false n f m w h k r] []) = VC.need (((0 + n) * 16 ≤ 140737488355328 ∧ (↑(0 + n) : Int) ≤ 9223372036854775807) ∧ allV 1 n fun i x => PT (f i)) (VC.call 60 [RL false m w h] [] (.own 0) [(0, .row .u false 1 m (RR w h) [])] (VC.need (((0 + k) * 1 ≤ 140737488355328 ∧ (↑(0 + k) : Int) ≤ 9223372036854775807) ∧ allV 1 k (MK r)) (VC.done (St.mk [(0, AV.ag [TL false n f, RL false m w h, SL false 1 k (MK r)]), (1, .adr 1 0), (2, .adr 2 0), (3, .adr 3 0)] [(1, .box [TL false n f, RL false m w h, SL false 1 k (MK r)]), (2, .box [.own 8, .own 1012, .own 17]), (3, .box [.own 8, .own 1012, .own 17]), (8, .row .u true 1 (0 + n) (fun a b => if a < 0 then setG [] (fun x j => PV.v ([Value.string (ByteArray.mk #[])].getD j undef)) a b else PT (f (a - 0))) []), (1012, .row .u false 1 m (RR w h) []), (17, .row .u true 1 (0 + k) (fun a b => if a < 0 then setG [] (fun x j => PV.v ([Value.bool false].getD j undef)) a b else MK r (a - 0) b) [])])))) := by intros; kernel_rfl
theorem ev_cpP : ∀ (n : Nat) (f : Nat → ByteArray) (m : Nat) (w : Nat → Nat) (h : Nat → Nat → Int) (k : Nat) (r : Nat → Bool), ev G0 res68 [] 3000 Or.nil [.ir ir68] (start [PD false false false n f m w h k r] []) = VC.need (((0 + n) * 16 ≤ 140737488355328 ∧ (↑(0 + n) : Int) ≤ 9223372036854775807) ∧ allV 1 n fun i x => PT (f i)) (VC.need (((0 + k) * 1 ≤ 140737488355328 ∧ (↑(0 + k) : Int) ≤ 9223372036854775807) ∧ allV 1 k (MK r)) (VC.loop ir68_L1 [.bend 0, .ir ir68_T2] (St.mk [(0, AV.ag [TL false n f, RL false m w h, SL false 1 k (MK r)]), (1, .adr 1 0), (2, .adr 2 0), (3, .adr 3 0), (4, AI 0)] [(1, .box [TL false n f, RL false m w h, SL false 1 k (MK r)]), (2, .box [nilT, nilT, nilT]), (8, .row .u true 1 (0 + n) (fun a b => if a < 0 then setG [] (fun x j => PV.v ([Value.string (ByteArray.mk #[])].getD j undef)) a b else PT (f (a - 0))) []), (12, .row .u true 1 (0 + k) (fun a b => if a < 0 then setG [] (fun x j => PV.v ([Value.bool false].getD j undef)) a b else MK r (a - 0) b) []), (3, .box [.own 8, nilT, .own 12])]))) := by intros; kernel_rfl
theorem ev_bef : ∀ (n : Nat) (f : Nat → ByteArray) (m : Nat) (w : Nat → Nat) (h : Nat → Nat → Int) (r : Nat → Bool) (a b : Nat) (c : Int) (dn : Bool), ev G0 res81 [] 3000 (Or.nil.split ((Or.nil.split (Or.call [] (AB (ltL (rowL (w a) (h a) 0) (rowL (w b) (h b) 0))) [] Or.nil)).lit.lit.lit.lit.lit.lit.lit.lit.lit.lit.lit.lit.lit.lit.lit.lit.lit.split (Or.call [] (AB (ltL (rowL (w a) (h a) 0) (rowL (w b) (h b) 0))) [] Or.nil).lit.lit.lit.lit.lit.lit.lit.lit.lit.lit.lit.lit.lit.lit.lit.lit.lit.lit)) [.ir ir81] (start [PD false false false n f m w h m r, AI ↑a, AI ↑b, AI c, AB dn] []) = VC.need (0 ≤ (↑a : Int) ∧ a < m) (VC.need (0 ≤ (↑b : Int) ∧ b < m) (VC.split (!r a == r b) (VC.need (0 ≤ (↑a : Int) ∧ a < m) (VC.doneP (AB (r a)))) (VC.split (decide (0 ≤ c)) (VC.need (0 ≤ (↑a : Int) ∧ a < m) (VC.need (0 ≤ c ∧ c.toNat < w a) (VC.need (0 ≤ (↑b : Int) ∧ b < m) (VC.need (0 ≤ c ∧ c.toNat < w b) (VC.split (h a c.toNat != h b c.toNat) (VC.need (0 ≤ (↑a : Int) ∧ a < m) (VC.need (0 ≤ c ∧ c.toNat < w a) (VC.need (0 ≤ (↑b : Int) ∧ b < m) (VC.need (0 ≤ c ∧ c.toNat < w b) (VC.doneP (AB !decide (h a c.toNat < h b c.toNat) == dn)))))) (VC.need (0 ≤ (↑a : Int) ∧ a < m) (VC.need (0 ≤ (↑b : Int) ∧ b < m) (VC.call 87 [SL false 1 (w a) fun j x => PI (h a j), SL false 1 (w b) fun j x => PI (h b j)] [] (AB (ltL (rowL (w a) (h a) 0) (rowL (w b) (h b) 0))) [] (VC.doneP (AB (ltL (rowL (w a) (h a) 0) (rowL (w b) (h b) 0)))))))))))) (VC.need (0 ≤ (↑a : Int) ∧ a < m) (VC.need (0 ≤ (↑b : Int) ∧ b < m) (VC.call 87 [SL false 1 (w a) fun j x => PI (h a j), SL false 1 (w b) fun j x => PI (h b j)] [] (AB (ltL (rowL (w a) (h a) 0) (rowL (w b) (h b) 0))) [] (VC.doneP (AB (ltL (rowL (w a) (h a) 0) (rowL (w b) (h b) 0)))))))))) := by intros; kernel_rfl
theorem pad_parts {n : Nat} {f : Nat → ByteArray} {m : Nat} {w : Nat → Nat} {h : Nat → Nat → Int} {k : Nat} {r : Nat → Bool} (hp : padB n f m w h k r = true) : namesB n f = true ∧ m ≤ 256 ∧ k = m ∧ (∀ i, i < m → w i = n ∧ ∀ j, j < n → valB (h i j) = true) ∧ ∀ i, i < m → r i = false → ∀ j, j < n → h i j = 0 := by
  simp only [padB, Bool.and_eq_true, decide_eq_true_eq] at hp
  obtain ⟨⟨⟨⟨h1, h2⟩, h3⟩, h4⟩, h5⟩ := hp
  have hr : ∀ i, i < m → w i = n ∧ ∀ j, j < n → valB (h i j) = true := fun i hi => by
    have := allB_iff.1 h4 i hi
    simp only [rowB, Bool.and_eq_true, decide_eq_true_eq] at this
    exact ⟨this.1, fun j hj => allB_iff.1 this.2 j (by rw [this.1]; exact hj)⟩
  refine ⟨h1, h2, h3, hr, fun i hi e j hj => ?_⟩
  have := allB_iff.1 h5 i hi
  simp only [zB, e, Bool.false_or] at this
  have := allB_iff.1 this j (by rw [(hr i hi).1]; exact hj)
  simpa using this
theorem pad_sr {n : Nat} {f : Nat → ByteArray} {m : Nat} {w : Nat → Nat} {h : Nat → Nat → Int} {k : Nat} {r : Nat → Bool} (hn : n ≤ 1048576) (hp : padB n f m w h k r = true) : SrOk n f m w h r :=
  have := pad_parts hp
  ⟨hn, this.2.1, fun i hi => (this.2.2.2.1 i hi).1, this.2.2.2.2⟩
abbrev spR (b : Bool) : AV := .tp [pdR, .own 3, AB b]
def spT (n : Nat) (f : Nat → ByteArray) (m : Nat) (w : Nat → Nat) (h : Nat → Nat → Int) (k : Nat) (r : Nat → Bool) (s : ByteArray) (dn : Bool) : LI := if spB n f m w h k r s then srtP (colT f s n) dn (itL m w h r) else []
def spL (n : Nat) (f : Nat → ByteArray) (m : Nat) (w : Nat → Nat) (h : Nat → Nat → Int) (k : Nat) (r : Nat → Bool) (s : ByteArray) : LA := if spB n f m w h k r s then trL 2 (netL m) else []
def spN (n : Nat) (f : Nat → ByteArray) (m : Nat) (w : Nat → Nat) (h : Nat → Nat → Int) (k : Nat) (r : Nat → Bool) (s : ByteArray) : Nat := if spB n f m w h k r s then n else 0
structure SpOk (n : Nat) (f : Nat → ByteArray) (m : Nat) (w : Nat → Nat) (h : Nat → Nat → Int) (k : Nat) (r : Nat → Bool) : Prop where
  pd : PdOk n f m w k
abbrev pkH (n : Nat) (f : Nat → ByteArray) (m : Nat) (w : Nat → Nat) (h : Nat → Nat → Int) (k : Nat) (r : Nat → Bool) : List (Nat × Ob) := [(0, .row .u false 1 n (TR f) []), (1, .row .u false 1 m (RR w h) []), (2, .row .u false 1 k (MK r) [])]
theorem allV_MK {n : Nat} {r : Nat → Bool} : allV 1 n (MK r) := fun _ _ _ _ => rfl
theorem c_ownP (n : Nat) (f : Nat → ByteArray) (m : Nat) (w : Nat → Nat) (h : Nat → Nat → Int) (k : Nat) (r : Nat → Bool) (ok : PdOk n f m w k) : PObj Tryz.prog G0 26 [PD false false false n f m w h k r] [] pdR (pkH n f m w h k r) := by
  have hn := ok.ta.hn
  have hk := ok.hk
  refine PObj.by chk26 rfl (ev_ownP n f m w h k r) ?_
  simp only [vcA, Nat.zero_add]
  refine ⟨⟨⟨by omega, by omega⟩, allV_TR⟩, c_ownR _ _ _ _ ok.ta.hm ok.ta.hw, ⟨⟨by omega, by omega⟩, allV_MK⟩, ?_⟩
  refine ResOk.mk [] [(0, 8), (1, 1012), (2, 17)] [] _ _ ?_ ⟨rfl, rfl⟩
  simp [doneC, resOf, resAV, tup, pinR, PV.Le_self, leA, res26, AV.leCs]
theorem c_bef (n : Nat) (f : Nat → ByteArray) (m : Nat) (w : Nat → Nat) (h : Nat → Nat → Int) (r : Nat → Bool) (a b : Nat) (c : Int) (dn : Bool) (ok : a < m ∧ b < m ∧ (∀ i, i < m → 0 ≤ c → c.toNat < w i) ∧ ∀ i, i < m → w i ≤ 1048576) : PRet Tryz.prog G0 81 [PD false false false n f m w h m r, AI a, AI b, AI c, AB dn] (AB (ltX c dn (itm w h r a) (itm w h r b))) := by
  obtain ⟨ha, hb, hc, hw⟩ := ok
  refine PRet.by chk81 (ev_bef n f m w h r a b c dn) ?_
  simp only [vcA, Int.toNat_natCast]
  refine ⟨by omega, by omega, fun h1 => ⟨by omega, ?_⟩, fun h1 => ⟨fun h2 => ?_, fun h2 => ⟨by omega, by omega, c_less _ _ _ _ _ _ (hw a ha), ?_⟩⟩⟩
  · have h3 : ¬ r a = r b := by simpa using h1
    simp [ltX_iff, itm, h3]
  · have h3 : r a = r b := by simpa using h1
    have ca := hc a ha h2
    have cb := hc b hb h2
    have ea := rowL_get (f := h a) ca
    have eb := rowL_get (f := h b) cb
    have hq : ltX c dn (itm w h r a) (itm w h r b) = ltO c.toNat dn (rowL (w a) (h a) 0) (rowL (w b) (h b) 0) := by
      rw [ltX_iff]; simp [itm, h3, ltQ, ordQ, h2, ltO]
    refine ⟨by omega, by omega, by omega, by omega, fun h4 => ⟨by omega, by omega, by omega, by omega, ?_⟩, fun h4 => ⟨by omega, by omega, c_less _ _ _ _ _ _ (hw a ha), ?_⟩⟩
    · have h5 : ¬ h a c.toNat = h b c.toNat := by simpa using h4
      rw [hq]
      simp only [ltO, ordL, ea, eb]
      rcases Int.lt_or_lt_of_ne h5 with c1 | c1
      · have c2 : ¬ h b c.toNat < h a c.toNat := by omega
        cases dn <;> simp [cmp3, h5, c1, c2]
      · have c2 : ¬ h a c.toNat < h b c.toNat := by omega
        cases dn <;> simp [cmp3, h5, c1, c2]
    · have h5 : h a c.toNat = h b c.toNat := by simpa using h4
      rw [hq]
      simp only [ltO, ordL, ea, eb, ltL]
      simp [h5]
  · have h3 : r a = r b := by simpa using h1
    rw [ltX_iff]; simp [itm, h3, ltQ, ordQ, h2, ltL]
def st_cpP (n : Nat) (f : Nat → ByteArray) (m : Nat) (w : Nat → Nat) (h : Nat → Nat → Int) (k : Nat) (r : Nat → Bool) (q : Nat) : St := ⟨[(1, .adr 1 0), (2, .adr 2 0), (3, .adr 3 0), (4, AI q)], [(1, .box [TL false n f, RL false m w h, ML false k r]), (2, .box [nilT, nilT, nilT]), (8, .row .u false 1 n (TR f) []), (12, .row .u false 1 k (MK r) []), (77777, .row .u false 1 q (RR w h) []), (3, .box [.own 8, .own 77777, .own 12])]⟩
theorem c_cpK (n : Nat) (f : Nat → Int) (hn : n ≤ 1048576) : PObj Tryz.prog G0 64 [IL false n f] [] (.own 0) [(0, .row .u false 1 n (fun i _ => PI (f i)) [])] := c_cpI n f hn
theorem evr_cpP : ∀ (n : Nat) (f : Nat → ByteArray) (m : Nat) (w : Nat → Nat) (h : Nat → Nat → Int) (k : Nat) (r : Nat → Bool) (I : Nat → St → Prop) (q : Nat), ev G0 res68 [] 3000 ((Or.call [] (.own 0) [(0, .row .u false 1 (w q) (fun i x => PI (h q i)) [])] Or.nil).split Or.nil) [.ir ir68_L1, .lend (I q), .bend 0, .ir ir68_T2] (st_cpP n f m w h k r q) = VC.split (decide ((↑q : Int) < ↑m)) (VC.need (0 ≤ (↑q : Int) ∧ q < m) (VC.call 64 [SL false 1 (w q) fun j x => PI (h q j)] [] (.own 0) [(0, .row .u false 1 (w q) (fun i x => PI (h q i)) [])] (VC.need (((q + 1) * 24 ≤ 140737488355328 ∧ (↑(q + 1) : Int) ≤ 9223372036854775807) ∧ allOne 1 1 (setG [(0, 0, PV.sl false 1 (w q) fun i x => PI (h q i))] fun x j => PV.v ([Value.slice none 0 0].getD j undef))) (VC.lend (I q) (St.mk [(1, .adr 1 0), (2, .adr 2 0), (3, .adr 3 0), (4, AI (IntKind.i64.wrap ((↑q : Int) + 1))), (18, AB (decide ((↑q : Int) < ↑m)))] [(1, .box [TL false n f, RL false m w h, SL false 1 k (MK r)]), (2, .box [nilT, nilT, nilT]), (8, .row .u false 1 n (TR f) []), (12, .row .u false 1 k (MK r) []), (3, .box [.own 8, .own 30, .own 12]), (30, .row .u false 1 (q + 1) (fun a b => if a < q then RR w h a b else setG [(0, 0, PV.sl false 1 (w q) fun i x => PI (h q i))] (fun x j => PV.v ([Value.slice none 0 0].getD j undef)) (a - q) b) [])]))))) (VC.done (St.mk [(1, .adr 1 0), (2, .adr 2 0), (3, .adr 3 0), (4, AI ↑q), (18, AB (decide ((↑q : Int) < ↑m)))] [(1, .box [TL false n f, RL false m w h, SL false 1 k (MK r)]), (2, .box [.own 8, .own 77777, .own 12]), (8, .row .u false 1 n (TR f) []), (12, .row .u false 1 k (MK r) []), (77777, .row .u false 1 q (RR w h) []), (3, .box [.own 8, .own 77777, .own 12])])) := by intros; kernel_rfl
theorem c_cpP (n : Nat) (f : Nat → ByteArray) (m : Nat) (w : Nat → Nat) (h : Nat → Nat → Int) (k : Nat) (r : Nat → Bool) (ok : PdOk n f m w k) : PObj Tryz.prog G0 68 [PD false false false n f m w h k r] [] pdR (pkH n f m w h k r) := by
  have hn := ok.ta.hn
  have hk := ok.hk
  have hm := ok.ta.hm
  refine PObj.by chk68 rfl (ev_cpP n f m w h k r) ?_
  simp only [vcA, Nat.zero_add]
  refine ⟨⟨⟨by omega, by omega⟩, allV_TR⟩, ⟨⟨by omega, by omega⟩, allV_MK⟩, ?_⟩
  refine loop_by (st_cpP n f m w h k r) (fun q => q ≤ m) (fun q => m - q) 0 [] [] [77777] (Nat.zero_le _) ?_ (evr_cpP n f m w h k r) fun q hq => ?_
  · simp [st_cpP, leA, PV.Le_self, AV.leCs]
  · have e1 : IntKind.i64.wrap ((q : Int) + 1) = ((q + 1 : Nat) : Int) := wrap_in (by omega) (by omega)
    simp only [vcA, Int.toNat_natCast]
    refine ⟨fun h1 => ⟨by omega, c_cpK _ _ (ok.ta.hw q (by omega)), ⟨⟨by omega, by omega⟩, allOne1 rfl⟩, Again.mk (q + 1) [] [(77777, 30)] [] (by omega) (by omega) ?_⟩, fun h1 => ?_⟩
    · simp [st_cpP, leA, PV.Le_self, AV.leCs, e1]
      intro i hi
      by_cases e : i < q
      · simp [e]; exact .refl _
      · have e2 : i - q = 0 := by omega
        have e3 : i = q := by omega
        simp [e, e2, setG, cellSet]
        subst e3
        exact .refl _
    · have : q = m := by omega
      subst this
      refine ResOk.mk [] [(0, 8), (1, 77777), (2, 12)] [] _ _ ?_ ⟨rfl, rfl⟩
      simp [doneC, resOf, resAV, tup, pinR, PV.Le_self, leA, res68, AV.leCs]
theorem c_cpS (n : Nat) (f : Nat → ByteArray) (m : Nat) (w : Nat → Nat) (h : Nat → Nat → Int) (k : Nat) (r : Nat → Bool) (ok : PdOk n f m w k) : PObj Tryz.prog G0 68 [PD false false false n f m w h k r] [] pdR (pkH n f m w h k r) := c_cpP n f m w h k r ok
theorem ev_s11 : ∀ (n : Nat) (f : Nat → ByteArray) (m : Nat) (w : Nat → Nat) (h : Nat → Nat → Int) (r : Nat → Bool) (c : Int) (dn : Bool), ev G0 res65 [] 3000 (Or.call [] pdR (pkH n f m w h m r) (Or.call [] (.own 0) [(0, NR false (netL m))] Or.nil)) [.ir ir65] (start [PD false false false n f m w h m r, AI c, AB dn] []) = VC.call 68 [AV.ag [TL false n f, RL false m w h, SL false 1 m (MK r)]] [] pdR (pkH n f m w h m r) (VC.call 67 [AI ↑m] [] (.own 0) [(0, NR false (netL m))] (VC.loop ir65_L1 [.bend 0, .ir ir65_T2] (St.mk [(0, AV.ag [TL false n f, RL false m w h, SL false 1 m (MK r)]), (1, AI c), (2, AB dn), (3, .adr 3 0), (6, .adr 6 0), (7, .adr 7 0), (8, .own 1019), (9, AI 0)] [(3, .box [TL false n f, RL false m w h, SL false 1 m (MK r)]), (6, .box [nilT, nilT, nilT]), (1015, .row .u false 1 n (TR f) []), (2015, .row .u false 1 m (RR w h) []), (3015, .row .u false 1 m (MK r) []), (7, .box [.own 1015, .own 2015, .own 3015]), (1019, .row .u false 2 (netL m).length (NB (netL m)) [])]))) := by intros; kernel_rfl
def st_s11 (n : Nat) (f : Nat → ByteArray) (m : Nat) (w : Nat → Nat) (h : Nat → Nat → Int) (r : Nat → Bool) (c : Int) (dn : Bool) (x : Nat × (Nat → Nat)) : St := ⟨[(1, AI c), (2, AB dn), (6, .adr 6 0), (7, .adr 7 0), (8, .own 1019), (9, AI x.1)], [(6, .box [nilT, nilT, nilT]), (1015, .row .u false 1 n (TR f) []), (2015, .row .f false 1 m (fun i j => RR w h (x.2 i) j) []), (3015, .row .u false 1 m (fun i j => MK r (x.2 i) j) []), (7, .box [.own 1015, .own 2015, .own 3015]), (1019, NR false (netL m))]⟩
abbrev PDd (n : Nat) (f : Nat → ByteArray) (m : Nat) (w : Nat → Nat) (h : Nat → Nat → Int) (r : Nat → Bool) (D : Nat → Nat) : AV := .ag [TL false n f, .p false (.sl false 1 m fun i j => RR w h (D i) j), .p false (.sl false 1 m fun i j => MK r (D i) j)]
theorem c_bfD (n : Nat) (f : Nat → ByteArray) (m : Nat) (w : Nat → Nat) (h : Nat → Nat → Int) (r : Nat → Bool) (D : Nat → Nat) (a b : Nat) (c : Int) (dn : Bool) (ok : a < m ∧ b < m ∧ (∀ i, i < m → D i < m) ∧ (∀ i, i < m → 0 ≤ c → c.toNat < w i) ∧ ∀ i, i < m → w i ≤ 1048576) : PRet Tryz.prog G0 81 [PDd n f m w h r D, AI a, AI b, AI c, AB dn] (AB (ltX c dn (itm w h r (D a)) (itm w h r (D b)))) :=
  c_bef n f m (fun i => w (D i)) (fun i j => h (D i) j) (fun i => r (D i)) a b c dn ⟨ok.1, ok.2.1, fun i hi => ok.2.2.2.1 _ (ok.2.2.1 i hi), fun i hi => ok.2.2.2.2 _ (ok.2.2.1 i hi)⟩
theorem evr_s11 : ∀ (n : Nat) (f : Nat → ByteArray) (m : Nat) (w : Nat → Nat) (h : Nat → Nat → Int) (r : Nat → Bool) (c : Int) (dn : Bool) (I : Nat × (Nat → Nat) → St → Prop) (x : Nat × (Nat → Nat)), ev G0 res65 [] 3000 ((Or.call [] (AB (ltX c dn (itm w h r (x.2 (nb (netL m) x.1 (1 + 0)))) (itm w h r (x.2 (nb (netL m) x.1 (0 + 0)))))) [] (Or.nil.split Or.nil)).split Or.nil) [.ir ir65_L1, .lend (I x), .bend 0, .ir ir65_T2] (st_s11 n f m w h r c dn x) = VC.split (decide ((↑x.1 : Int) < (↑(netL m).length : Int))) (VC.need (0 ≤ (↑x.1 : Int) ∧ x.1 < (netL m).length) (VC.need (x.1 < (netL m).length) (VC.need (0 ≤ (↑x.1 : Int) ∧ x.1 < (netL m).length) (VC.need (x.1 < (netL m).length) (VC.call 81 [AV.ag [SL false 1 n (TR f), SL false 1 m fun i j => RR w h (x.2 i) j, SL false 1 m fun i j => MK r (x.2 i) j], AI (↑(nb (netL m) x.1 (1 + 0)) : Int), AI (↑(nb (netL m) x.1 (0 + 0)) : Int), AI c, AB dn] [] (AB (ltX c dn (itm w h r (x.2 (nb (netL m) x.1 (1 + 0)))) (itm w h r (x.2 (nb (netL m) x.1 (0 + 0)))))) [] (VC.split (ltX c dn (itm w h r (x.2 (nb (netL m) x.1 (1 + 0)))) (itm w h r (x.2 (nb (netL m) x.1 (0 + 0))))) (VC.need (0 ≤ (↑(nb (netL m) x.1 (0 + 0)) : Int) ∧ (↑(nb (netL m) x.1 (0 + 0)) : Int).toNat < m) (VC.need ((↑(nb (netL m) x.1 (0 + 0)) : Int).toNat < m) (VC.need (0 ≤ (↑(nb (netL m) x.1 (1 + 0)) : Int) ∧ (↑(nb (netL m) x.1 (1 + 0)) : Int).toNat < m) (VC.need ((↑(nb (netL m) x.1 (1 + 0)) : Int).toNat < m) (VC.need (0 ≤ (↑(nb (netL m) x.1 (0 + 0)) : Int) ∧ (↑(nb (netL m) x.1 (0 + 0)) : Int).toNat < m) (VC.need ((↑(nb (netL m) x.1 (0 + 0)) : Int).toNat < m) (VC.need (0 ≤ (↑(nb (netL m) x.1 (1 + 0)) : Int) ∧ (↑(nb (netL m) x.1 (1 + 0)) : Int).toNat < m) (VC.need ((↑(nb (netL m) x.1 (1 + 0)) : Int).toNat < m) (VC.need (0 ≤ (↑(nb (netL m) x.1 (0 + 0)) : Int) ∧ (↑(nb (netL m) x.1 (0 + 0)) : Int).toNat < m) (VC.need ((↑(nb (netL m) x.1 (0 + 0)) : Int).toNat < m) (VC.need (0 ≤ (↑(nb (netL m) x.1 (1 + 0)) : Int) ∧ (↑(nb (netL m) x.1 (1 + 0)) : Int).toNat < m) (VC.need ((↑(nb (netL m) x.1 (1 + 0)) : Int).toNat < m) (VC.need (0 ≤ (↑(nb (netL m) x.1 (0 + 0)) : Int) ∧ (↑(nb (netL m) x.1 (0 + 0)) : Int).toNat < m) (VC.need ((↑(nb (netL m) x.1 (0 + 0)) : Int).toNat < m) (VC.need (0 ≤ (↑(nb (netL m) x.1 (1 + 0)) : Int) ∧ (↑(nb (netL m) x.1 (1 + 0)) : Int).toNat < m) (VC.need ((↑(nb (netL m) x.1 (1 + 0)) : Int).toNat < m) (VC.lend (I x) (St.mk [(1, AI c), (2, AB dn), (6, .adr 6 0), (7, .adr 7 0), (8, .own 1019), (9, AI (IntKind.i64.wrap ((↑x.1 : Int) + 1))), (23, AB (decide ((↑x.1 : Int) < (↑(netL m).length : Int)))), (10, AI (↑(nb (netL m) x.1 (0 + 0)) : Int)), (11, AI (↑(nb (netL m) x.1 (1 + 0)) : Int)), (41, AB (ltX c dn (itm w h r (x.2 (nb (netL m) x.1 (1 + 0)))) (itm w h r (x.2 (nb (netL m) x.1 (0 + 0)))))), (12, AV.p true (PV.sl false 1 (w (x.2 (↑(nb (netL m) x.1 (0 + 0)) : Int).toNat)) fun j x_1 => PI (h (x.2 (↑(nb (netL m) x.1 (0 + 0)) : Int).toNat) j))), (13, AB (r (x.2 (↑(nb (netL m) x.1 (0 + 0)) : Int).toNat)))] [(6, .box [nilT, nilT, nilT]), (1015, .row .u false 1 n (TR f) []), (2015, .row .f false 1 m (setG [((↑(nb (netL m) x.1 (1 + 0)) : Int).toNat, 0, PV.sl false 1 (w (x.2 (↑(nb (netL m) x.1 (0 + 0)) : Int).toNat)) fun j x_1 => PI (h (x.2 (↑(nb (netL m) x.1 (0 + 0)) : Int).toNat) j))] (setG [((↑(nb (netL m) x.1 (0 + 0)) : Int).toNat, 0, PV.sl false 1 (w (x.2 (↑(nb (netL m) x.1 (1 + 0)) : Int).toNat)) fun j x_1 => PI (h (x.2 (↑(nb (netL m) x.1 (1 + 0)) : Int).toNat) j))] fun i j => RR w h (x.2 i) j)) []), (3015, .row .u false 1 m (setG [((↑(nb (netL m) x.1 (1 + 0)) : Int).toNat, 0, PV.v (Value.bool (r (x.2 (↑(nb (netL m) x.1 (0 + 0)) : Int).toNat))))] (setG [((↑(nb (netL m) x.1 (0 + 0)) : Int).toNat, 0, PV.v (Value.bool (r (x.2 (↑(nb (netL m) x.1 (1 + 0)) : Int).toNat))))] fun i j => MK r (x.2 i) j)) []), (7, .box [.own 1015, .own 2015, .own 3015]), (1019, .row .u false 2 (netL m).length (NB (netL m)) [])])))))))))))))))))) (VC.lend (I x) (St.mk [(1, AI c), (2, AB dn), (6, .adr 6 0), (7, .adr 7 0), (8, .own 1019), (9, AI (IntKind.i64.wrap ((↑x.1 : Int) + 1))), (23, AB (decide ((↑x.1 : Int) < (↑(netL m).length : Int)))), (10, AI (↑(nb (netL m) x.1 (0 + 0)) : Int)), (11, AI (↑(nb (netL m) x.1 (1 + 0)) : Int)), (41, AB (ltX c dn (itm w h r (x.2 (nb (netL m) x.1 (1 + 0)))) (itm w h r (x.2 (nb (netL m) x.1 (0 + 0))))))] [(6, .box [nilT, nilT, nilT]), (1015, .row .u false 1 n (TR f) []), (2015, .row .f false 1 m (fun i j => RR w h (x.2 i) j) []), (3015, .row .u false 1 m (fun i j => MK r (x.2 i) j) []), (7, .box [.own 1015, .own 2015, .own 3015]), (1019, .row .u false 2 (netL m).length (NB (netL m)) [])])))))))) (VC.done (St.mk [(1, AI c), (2, AB dn), (6, .adr 6 0), (7, .adr 7 0), (8, .own 1019), (9, AI ↑x.1), (23, AB (decide ((↑x.1 : Int) < (↑(netL m).length : Int))))] [(6, .box [.own 1015, .own 2015, .own 3015]), (1015, .row .u false 1 n (TR f) []), (2015, .row .f false 1 m (fun i j => RR w h (x.2 i) j) []), (3015, .row .u false 1 m (fun i j => MK r (x.2 i) j) []), (7, .box [.own 1015, .own 2015, .own 3015]), (1019, .row .u false 2 (netL m).length (NB (netL m)) [])])) := by intros; kernel_rfl
theorem sw_le (G : Nat → Nat → PV) {D : Nat → Nat} {a b : Nat} (hab : a ≠ b) (i : Nat) : PV.Le (setG [(b, 0, G (D a) 0)] (setG [(a, 0, G (D b) 0)] fun i j => G (D i) j) i 0) (G (swF D a b i) 0) := by
  by_cases c1 : i = b
  · subst c1
    have c2 : ¬ i = a := fun e => hab e.symm
    simp [setG, cellSet, swF, c2]; exact .refl _
  · by_cases c2 : i = a
    · subst c2; simp [setG, cellSet, swF, c1]; exact .refl _
    · simp [setG, cellSet, swF, c1, c2]; exact .refl _
abbrev pfH (n : Nat) (f : Nat → ByteArray) (T : LI) : List (Nat × Ob) := [(0, .row .u false 1 n (TR f) []), (1, .row .f false 1 T.length (RR (iw T) (ih T)) []), (2, .row .u false 1 T.length (MK (ib T)) [])]
theorem c_s11 (n : Nat) (f : Nat → ByteArray) (m : Nat) (w : Nat → Nat) (h : Nat → Nat → Int) (r : Nat → Bool) (c : Int) (dn : Bool) (ok : PdOk n f m w m ∧ m ≤ 256 ∧ ∀ i, i < m → 0 ≤ c → c.toNat < w i) : PObj Tryz.prog G0 65 [PD false false false n f m w h m r, AI c, AB dn] [] pdR (pfH n f (srtP c dn (itL m w h r))) := by
  obtain ⟨ok, hm, hc⟩ := ok
  have hw := ok.ta.hw
  have hO := ltX_swo c dn
  have hT := netL_len hm
  refine PObj.by chk65 rfl (ev_s11 n f m w h r c dn) ?_
  simp only [vcA]
  refine ⟨c_cpS _ _ _ _ _ _ _ ok, c_nsN0 _ hm, ?_⟩
  let K : Nat → It := itm w h r
  refine loop_by (st_s11 n f m w h r c dn) (fun x => x.1 ≤ (netL m).length ∧ x.2 = runD (ltX c dn) K (fun i => i) ((netL m).take x.1)) (fun x => (netL m).length - x.1) (0, fun i => i) [(2015, .f)] [] [] ⟨Nat.zero_le _, rfl⟩ ?_ (evr_s11 n f m w h r c dn) fun x hx => ?_
  · simp [st_s11, leA, PV.Le_self, AV.leCs, Mode.low, St.setOb, ins]
  · obtain ⟨k, D⟩ := x
    obtain ⟨hk, hD⟩ := hx
    simp only [] at hk hD
    have hP : SegP 0 m (fun i => i) D := by
      rw [hD]
      exact runD_perm _ _ (fun x hx => netL_mem (List.mem_of_mem_take hx)) _
    have hDm : ∀ i, i < m → D i < m := fun i hi => hP.all (p := fun x => x < m) (fun j h1 h2 => h2) i (Nat.zero_le _) hi
    have e1 : IntKind.i64.wrap ((k : Int) + 1) = ((k + 1 : Nat) : Int) := wrap_in (by omega) (by omega)
    simp only [vcA, Int.toNat_natCast, Nat.add_zero]
    refine ⟨fun h1 => ?_, fun h1 => ?_⟩
    · have hkl : k < (netL m).length := by omega
      obtain ⟨a, ha⟩ : ∃ a, nb (netL m) k 0 = a := ⟨_, rfl⟩
      obtain ⟨b, hb⟩ : ∃ b, nb (netL m) k 1 = b := ⟨_, rfl⟩
      have hab : (netL m)[k] = (a, b) := by
        refine Prod.ext ?_ ?_
        · rw [← ha]; simp [nb, List.getD_eq_getElem?_getD, hkl]
        · rw [← hb]; simp [nb, List.getD_eq_getElem?_getD, hkl]
      have hin := netL_mem (hab ▸ List.getElem_mem hkl)
      simp only [] at hin
      have next : ∀ E, stD (ltX c dn) K D (a, b) = E → E = runD (ltX c dn) K (fun i => i) ((netL m).take (k + 1)) := fun E hE => by
        rw [List.take_succ_eq_append_getElem hkl, hab, ← hE, hD]
        simp [runD, List.foldl_append]
      simp only [Nat.zero_add, ha, hb]
      refine ⟨by omega, by omega, by omega, by omega, c_bfD _ _ _ _ _ _ _ _ _ _ _ ⟨by omega, by omega, hDm, hc, hw⟩, fun h2 => ⟨by omega, by omega, by omega, by omega, by omega, by omega, by omega, by omega, by omega, by omega, by omega, by omega, by omega, by omega, by omega, by omega, Again.mk (k + 1, swF D a b) [] [] [] ⟨by simp only []; omega, next _ ?_⟩ (by simp only []; omega) ?_⟩, fun h2 => Again.mk (k + 1, D) [] [] [] ⟨by simp only []; omega, next _ ?_⟩ (by simp only []; omega) ?_⟩
      · simp only [stD, K]; rw [if_pos h2]
      · simp [st_s11, leA, PV.Le_self, AV.leCs, e1]
        exact ⟨fun i hi => sw_le (RR w h) (by omega) i, fun i hi => sw_le (MK r) (by omega) i⟩
      · simp only [stD, K]; rw [if_neg (by rw [h2]; simp)]
      · simp [st_s11, leA, PV.Le_self, AV.leCs, e1]
    · have hkl : k = (netL m).length := by omega
      subst hkl
      rw [List.take_length] at hD
      have hS : SrtS (ltX c dn) K 0 m D := by rw [hD]; exact runD_sorted _ _ hO m _
      have hres := srtP_of (w := w) (h := h) (r := r) (fun _ _ => rfl) hP hS
      have hl : (srtP c dn (itL m w h r)).length = m := by rw [srtP_len, itL_len]
      have hget : ∀ i, i < m → (srtP c dn (itL m w h r)).getD i (false, []) = itm w h r (D i) := fun i hi => by
        rw [← hres]; simp [List.getD_eq_getElem?_getD, hi]
      refine ResOk.mk [] [(0, 1015), (1, 2015), (2, 3015)] [] _ _ ?_ ⟨rfl, rfl⟩
      simp [doneC, resOf, resAV, tup, pinR, PV.Le_self, leA, res65, AV.leCs, hl]
      exact ⟨fun i hi => RR_it (hget i hi), fun i hi => by simp only [ib, hget i hi, itm]⟩
theorem c_s11K (n : Nat) (f : Nat → ByteArray) (m : Nat) (w : Nat → Nat) (h : Nat → Nat → Int) (k : Nat) (r : Nat → Bool) (c : Int) (dn : Bool) (ok : (PdOk n f m w m ∧ m ≤ 256 ∧ ∀ i, i < m → 0 ≤ c → c.toNat < w i) ∧ k = m) : PObj Tryz.prog G0 65 [PD false false false n f m w h k r, AI c, AB dn] [] pdR (pfH n f (srtP c dn (itL m w h r))) := by
  obtain ⟨ok, rfl⟩ := ok
  exact c_s11 n f k w h r c dn ok
theorem c_svK (n : Nat) (f : Nat → ByteArray) (m : Nat) (w : Nat → Nat) (h : Nat → Nat → Int) (k : Nat) (r : Nat → Bool) (ok : PdOk n f m w k) : PRet Tryz.prog G0 27 [PD false false false n f m w h k r] (AB (padB n f m w h k r)) := c_spPV n f m w h k r ok
theorem c_ptS (r : Nat) (nn : Bool) (L : LP) (h : r ≤ 2 ∧ L.length ≤ 16777216) : PObj Tryz.prog G0 66 [AI r, NL nn L] [] (.own 0) [(0, CR false (trL r L))] := c_spPT r nn L h.1 h.2
theorem ev_spSP : ∀ (n : Nat) (f : Nat → ByteArray) (m : Nat) (w : Nat → Nat) (h : Nat → Nat → Int) (k : Nat) (r : Nat → Bool) (s : ByteArray) (dn : Bool), ev G0 res31 [] 3000 (Or.call [] pdR (pkH n f m w h k r) (Or.call [] (AB (padB n f m w h k r)) [] (Or.nil.lit.lit.lit.lit.lit.split ((Or.call [] (AI (colT f s n)) [] (Or.nil.split (Or.call [] (AI (colT f s n)) [] (Or.call [] pdR (pfH n f (srtP (colT f s n) dn (itL m w h r))) (Or.call [] (.own 0) [(0, NR false (netL m))] (Or.call [] (.own 0) [(0, CR false (trL (nat_lit 2) (netL m)))] Or.nil))))).lit.lit.lit.lit).lit.lit.lit.split (Or.call [] (AI (colT f s n)) [] (Or.call [] pdR (pfH n f (srtP (colT f s n) dn (itL m w h r))) (Or.call [] (.own 0) [(0, NR false (netL m))] (Or.call [] (.own 0) [(0, CR false (trL (nat_lit 2) (netL m)))] Or.nil)))).lit.lit.lit.lit.lit.lit.lit.lit).lit.lit))) [.ir ir31] (start [PD false false false n f m w h k r, AT s, AB dn] []) = VC.call 26 [AV.ag [TL false n f, RL false m w h, SL false 1 k (MK r)]] [] pdR (pkH n f m w h k r) (VC.call 27 [AV.ag [SL false 1 n (TR f), RL false m w h, SL false 1 k (MK r)]] [] (AB (padB n f m w h k r)) [] (VC.split (!padB n f m w h k r) (VC.done (St.mk [(0, AV.ag [TL false n f, RL false m w h, SL false 1 k (MK r)]), (1, AT s), (2, AB dn), (3, .adr 3 0), (6, .adr 6 0), (7, .own 26), (8, AB false), (24, AB true)] [(3, .box [.own 1010, .own 2010, .own 3010]), (6, .box [nilT, nilT, nilT]), (1010, .row .u false 1 n (TR f) []), (2010, .row .u false 1 m (RR w h) []), (3010, .row .u false 1 k (MK r) []), (26, .row .u true 3 0 (setG [] fun x j => PV.v ([Value.int IntKind.i64 0, Value.int IntKind.i64 0, Value.bool false].getD j undef)) [])])) (VC.split (!s.toList == (ByteArray.mk #[]).toList) (VC.call 28 [SL false 1 n (TR f), AT s] [] (AI (colT f s n)) [] (VC.split (decide (colT f s n < 0)) (VC.done (St.mk [(0, AV.ag [TL false n f, RL false m w h, SL false 1 k (MK r)]), (1, AT s), (2, AB dn), (3, .adr 3 0), (6, .adr 6 0), (7, .own 26), (8, AB false), (24, AB (decide (colT f s n < 0)))] [(3, .box [.own 1010, .own 2010, .own 3010]), (6, .box [nilT, nilT, nilT]), (1010, .row .u false 1 n (TR f) []), (2010, .row .u false 1 m (RR w h) []), (3010, .row .u false 1 k (MK r) []), (26, .row .u true 3 0 (setG [] fun x j => PV.v ([Value.int IntKind.i64 0, Value.int IntKind.i64 0, Value.bool false].getD j undef)) [])])) (VC.call 28 [SL false 1 n (TR f), AT s] [] (AI (colT f s n)) [] (VC.call 65 [AV.ag [SL false 1 n (TR f), RL false m w h, SL false 1 k (MK r)], AI (colT f s n), AB dn] [] pdR (pfH n f (srtP (colT f s n) dn (itL m w h r))) (VC.call 67 [AI ↑m] [] (.own 0) [(0, NR false (netL m))] (VC.call 66 [AI 2, SL false 2 (netL m).length (NB (netL m))] [] (.own 0) [(0, CR false (trL (nat_lit 2) (netL m)))] (VC.done (St.mk [(0, AV.ag [TL false n f, RL false m w h, SL false 1 k (MK r)]), (1, AT s), (2, AB dn), (3, .adr 3 0), (6, .adr 6 0), (7, .own 1038), (8, AB true), (24, AB (decide (colT f s n < 0)))] [(3, .box [.own 1010, .own 2010, .own 3010]), (6, .box [.own 1033, .own 2033, .own 3033]), (1010, .row .u false 1 n (TR f) []), (2010, .row .u false 1 m (RR w h) []), (3010, .row .u false 1 k (MK r) []), (1033, .row .u false 1 n (TR f) []), (2033, .row .f false 1 (List.length (srtP (colT f s n) dn (itL m w h r))) (RR (iw (srtP (colT f s n) dn (itL m w h r))) (ih (srtP (colT f s n) dn (itL m w h r)))) []), (3033, .row .u false 1 (List.length (srtP (colT f s n) dn (itL m w h r))) (MK (ib (srtP (colT f s n) dn (itL m w h r)))) []), (1038, .row .u false 3 (List.length (trL (nat_lit 2) (netL m))) (CB (trL (nat_lit 2) (netL m))) [])])))))))) (VC.call 28 [SL false 1 n (TR f), AT s] [] (AI (colT f s n)) [] (VC.call 65 [AV.ag [SL false 1 n (TR f), RL false m w h, SL false 1 k (MK r)], AI (colT f s n), AB dn] [] pdR (pfH n f (srtP (colT f s n) dn (itL m w h r))) (VC.call 67 [AI ↑m] [] (.own 0) [(0, NR false (netL m))] (VC.call 66 [AI 2, SL false 2 (netL m).length (NB (netL m))] [] (.own 0) [(0, CR false (trL (nat_lit 2) (netL m)))] (VC.done (St.mk [(0, AV.ag [TL false n f, RL false m w h, SL false 1 k (MK r)]), (1, AT s), (2, AB dn), (3, .adr 3 0), (6, .adr 6 0), (7, .own 1038), (8, AB true), (24, AB false)] [(3, .box [.own 1010, .own 2010, .own 3010]), (6, .box [.own 1033, .own 2033, .own 3033]), (1010, .row .u false 1 n (TR f) []), (2010, .row .u false 1 m (RR w h) []), (3010, .row .u false 1 k (MK r) []), (1033, .row .u false 1 n (TR f) []), (2033, .row .f false 1 (List.length (srtP (colT f s n) dn (itL m w h r))) (RR (iw (srtP (colT f s n) dn (itL m w h r))) (ih (srtP (colT f s n) dn (itL m w h r)))) []), (3033, .row .u false 1 (List.length (srtP (colT f s n) dn (itL m w h r))) (MK (ib (srtP (colT f s n) dn (itL m w h r)))) []), (1038, .row .u false 3 (List.length (trL (nat_lit 2) (netL m))) (CB (trL (nat_lit 2) (netL m))) [])]))))))))) := by intros; kernel_rfl
abbrev soF (n : Nat) (f : Nat → ByteArray) (T : LI) (L : LA) : List (Nat × Ob) := [(0, .row .u false 1 n (TR f) []), (1, .row .f false 1 T.length (RR (iw T) (ih T)) []), (2, .row .u false 1 T.length (MK (ib T)) []), (3, CR false L)]
abbrev spF (n : Nat) (f : Nat → ByteArray) (m : Nat) (w : Nat → Nat) (h : Nat → Nat → Int) (k : Nat) (r : Nat → Bool) (s : ByteArray) (dn : Bool) : List (Nat × Ob) := soF (spN n f m w h k r s) f (spT n f m w h k r s dn) (spL n f m w h k r s)
theorem c_spSP (n : Nat) (f : Nat → ByteArray) (m : Nat) (w : Nat → Nat) (h : Nat → Nat → Int) (k : Nat) (r : Nat → Bool) (s : ByteArray) (dn : Bool) (ok : PdOk n f m w k) : PObj Tryz.prog G0 31 [PD false false false n f m w h k r, AT s, AB dn] [] (spR (spB n f m w h k r s)) (spF n f m w h k r s dn) := by
  refine PObj.by chk31 rfl (ev_spSP n f m w h k r s dn) ?_
  have hn := ok.ta.hn
  have hlt := colT_lt f s n
  have hsv : ∀ b : Bool, spB n f m w h k r s = b → (spR (spB n f m w h k r s) = spR b ∧ spF n f m w h k r s dn = soF (if b then n else 0) f (if b then srtP (colT f s n) dn (itL m w h r) else []) (if b then trL 2 (netL m) else [])) := fun b e => by
    subst e; exact ⟨rfl, rfl⟩
  have s11 : padB n f m w h k r = true → (PdOk n f m w m ∧ m ≤ 256 ∧ ∀ i, i < m → 0 ≤ colT f s n → (colT f s n).toNat < w i) ∧ k = m := fun hp =>
    have hh := pad_parts hp
    ⟨⟨⟨ok.ta, ok.ta.hm⟩, hh.2.1, fun i hi h0 => by rw [(hh.2.2.2.1 i hi).1]; omega⟩, hh.2.2.1⟩
  simp only [vcA]
  refine ⟨c_ownP _ _ _ _ _ _ _ ok, c_svK _ _ _ _ _ _ _ ok, fun h1 => ?_, fun h1 => ?_⟩
  · have e : spB n f m w h k r s = false := by
      have : padB n f m w h k r = false := by simpa using h1
      simp [spB, this]
    rw [(hsv _ e).1, (hsv _ e).2]
    refine ResOk.mk [] [(3, 26)] [0, 1, 2] _ _ ?_ ⟨rfl, rfl⟩
    simp [doneC, resOf, resAV, tup, pinR, PV.Le_self, leA, res31, AV.leCs]
  · have hp : padB n f m w h k r = true := by simpa using h1
    have hm := (pad_parts hp).2.1
    refine ⟨fun h2 => ⟨c_l1C _ _ _ _ hn, fun h3 => ?_, fun h3 => ⟨c_l1C _ _ _ _ hn, c_s11K _ _ _ _ _ _ _ _ _ (s11 hp), c_nsN0 _ hm, c_ptS _ _ _ ⟨Nat.le_refl _, netL_len hm⟩, ?_⟩⟩, fun h2 => ⟨c_l1C _ _ _ _ hn, c_s11K _ _ _ _ _ _ _ _ _ (s11 hp), c_nsN0 _ hm, c_ptS _ _ _ ⟨Nat.le_refl _, netL_len hm⟩, ?_⟩⟩
    · have e : spB n f m w h k r s = false := by
        have h4 : hasT f s n = false := by rw [← colT_has]; simpa using h3
        have h5 : emB s = false := by simpa [emB] using h2
        simp [spB, h4, h5]
      rw [(hsv _ e).1, (hsv _ e).2]
      refine ResOk.mk [] [(3, 26)] [0, 1, 2] _ _ ?_ ⟨rfl, rfl⟩
      simp [doneC, resOf, resAV, tup, pinR, PV.Le_self, leA, res31, AV.leCs]
    · have e : spB n f m w h k r s = true := by
        have h4 : hasT f s n = true := by rw [← colT_has]; simpa using h3
        simp [spB, h4, hp]
      rw [(hsv _ e).1, (hsv _ e).2]
      refine ResOk.mk [] [(0, 1033), (1, 2033), (2, 3033), (3, 1038)] [] _ _ ?_ ⟨rfl, rfl⟩
      simp [doneC, resOf, resAV, tup, pinR, PV.Le_self, leA, res31, AV.leCs]
    · have e : spB n f m w h k r s = true := by
        have h5 : emB s = true := by simpa [emB] using h2
        simp [spB, h5, hp]
      rw [(hsv _ e).1, (hsv _ e).2]
      refine ResOk.mk [] [(0, 1033), (1, 2033), (2, 3033), (3, 1038)] [] _ _ ?_ ⟨rfl, rfl⟩
      simp [doneC, resOf, resAV, tup, pinR, PV.Le_self, leA, res31, AV.leCs]
end Go.Gw
