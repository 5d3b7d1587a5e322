/- The law on MemoryUse; with no condition. -/
import Derived.Test.YtmnfbiaelkdljaaMemX
import Derived.KernelRfl
namespace Go.Gw
open Go Go.Proofs
set_option linter.unusedSimpArgs false
set_option linter.unusedVariables false
set_option maxRecDepth 100000
def ir9 : Ir :=
  (.seq
  (.reg [] [o 5 (.box 2 (tt 0)),
    o 10 (.mov (cb false))])
  (.seq
  (.reg [] [o 11 (.mov (ci 1048576))])
  (.seq
  (.reg [28, 29, 30] [o 28 (.load true 2 (tt 5)),
    o 29 (.mov (tt 11)),
    o 30 (.call 32 [(tt 28), (tt 29)]),
    o 11 (.mov (tt 30))])
  (.seq
  (.seq
  (.reg [31] [o 31 (.mov (tt 11)),
    o 32 (.bin .lss (tt 31) (ci 0))])
  (.cond (tt 32)
   (.seq
   (.reg [] [o 10 (.mov (cb true))])
   .ret)
   .skip))
  (.seq
  (.reg [34, 35, 36, 37, 38, 39, 40, 33, 41, 42, 43, 44] [o 34 (.load true 2 (tt 5)),
    o 35 (.call 34 [(tt 34)]),
    o 36 (.mov (tt 1)),
    o 37 (.mov (tt 2)),
    o 38 (.mov (tt 3)),
    o 39 (.mov (tt 4)),
    o 40 (.call 33 [(tt 35), (tt 36), (tt 37), (tt 38), (tt 39)]),
    o 33 (.mov (tt 40)),
    o 41 (.ext (tt 33) 0),
    o 42 (.ext (tt 33) 1),
    o 43 (.ext (tt 33) 2),
    o 44 (.ext (tt 33) 3),
    o 12 (.alloc [(.slice none 0 0), (.slice none 0 0)]),
    on (.store 2 (tt 12) (tt 41)),
    o 13 (.mov (tt 42)),
    o 14 (.mov (tt 43)),
    o 15 (.mov (tt 44))])
  (.seq
  (.reg [45, 46] [o 45 (.load true 2 (tt 5)),
    o 46 (.call 34 [(tt 45)]),
    o 16 (.alloc [(.slice none 0 0), (.slice none 0 0)]),
    on (.store 2 (tt 16) (tt 46))])
  (.seq
  (.reg [48, 49, 50, 51, 52, 53, 47, 54, 55, 56, 57] [o 48 (.load true 2 (tt 16)),
    o 49 (.mov (tt 1)),
    o 50 (.mov (tt 2)),
    o 51 (.mov (tt 3)),
    o 52 (.mov (tt 4)),
    o 53 (.call 35 [(tt 48), (tt 49), (tt 50), (tt 51), (tt 52)]),
    o 47 (.mov (tt 53)),
    o 54 (.ext (tt 47) 0),
    o 55 (.ext (tt 47) 1),
    o 56 (.ext (tt 47) 2),
    o 57 (.ext (tt 47) 3),
    o 17 (.alloc [(.slice none 0 0), (.slice none 0 0)]),
    on (.store 2 (tt 17) (tt 54)),
    o 18 (.mov (tt 55)),
    o 19 (.mov (tt 56)),
    o 20 (.mov (tt 57))])
  (.seq
  (.seq
  (.reg [58, 59, 60, 61, 62, 63, 64, 65, 66, 67, 68, 69, 70, 71, 72, 73, 74, 75, 76] [o 58 (.load true 2 (tt 17)),
    o 59 (.load true 2 (tt 12)),
    o 60 (.call 36 [(tt 58), (tt 59)]),
    o 61 (.un .not (tt 60)),
    o 62 (.mov (tt 61)),
    og 63 62 false (.mov (tt 18)),
    og 64 62 false (.mov (tt 13)),
    og 65 62 false (.bin .neq (tt 63) (tt 64)),
    o 66 (.pick (tt 62) (cb true) (tt 65)),
    o 67 (.mov (tt 66)),
    og 68 67 false (.mov (tt 19)),
    og 69 67 false (.mov (tt 14)),
    og 70 67 false (.call 19 [(tt 68), (tt 69)]),
    og 71 67 false (.un .not (tt 70)),
    o 72 (.pick (tt 67) (cb true) (tt 71)),
    o 73 (.mov (tt 72)),
    og 74 73 false (.mov (tt 20)),
    og 75 73 false (.mov (tt 15)),
    og 76 73 false (.binB .neq (tt 74) (tt 75)),
    o 77 (.pick (tt 73) (cb true) (tt 76))])
  (.cond (tt 77)
   (.seq
   (.reg [] [o 10 (.mov (cb false))])
   .ret)
   .skip))
  (.seq
  (.seq
  (.dreg [78, 79, 80, 81] [0, 0, 2, 7, 15] [(0, 1078), (0, 2078), (1, 1079), (1, 2079), (2, 1080), (2, 2080), (2, 3080), (2, 4080), (2, 5080), (2, 6080), (2, 7080), (2, 8080), (3, 1081), (3, 2081), (3, 3081), (3, 4081), (3, 5081), (3, 6081), (3, 7081), (3, 8081)] [o 78 (.load true 2 (tt 16)),
    o 79 (.load true 2 (tt 5)),
    o 80 (.call 34 [(tt 79)]),
    o 81 (.call 36 [(tt 78), (tt 80)]),
    o 82 (.un .not (tt 81))])
  (.cond (tt 82)
   (.seq
   (.reg [] [o 10 (.mov (cb false))])
   .ret)
   .skip))
  (.seq
  (.reg [] [o 21 (.mov (ci 1))])
  (.seq
  (.reg [83, 84, 85] [o 83 (.load true 2 (tt 16)),
    o 84 (.mov (tt 21)),
    o 85 (.call 37 [(tt 83), (tt 84)]),
    o 21 (.mov (tt 85))])
  (.seq
  (.seq
  (.reg [86, 87, 88, 89, 90, 91, 92, 93, 94, 95, 96, 97, 98, 99, 100, 101, 102, 103, 104, 105, 106, 107, 108] [o 86 (.mov (tt 21)),
    o 87 (.bin .lss (tt 86) (ci 0)),
    o 88 (.mov (tt 87)),
    og 89 88 false (.load true 2 (tt 17)),
    og 90 88 false (.load true 2 (tt 12)),
    og 91 88 false (.call 36 [(tt 89), (tt 90)]),
    og 92 88 false (.un .not (tt 91)),
    o 93 (.pick (tt 88) (cb true) (tt 92)),
    o 94 (.mov (tt 93)),
    og 95 94 false (.mov (tt 18)),
    og 96 94 false (.mov (tt 13)),
    og 97 94 false (.bin .neq (tt 95) (tt 96)),
    o 98 (.pick (tt 94) (cb true) (tt 97)),
    o 99 (.mov (tt 98)),
    og 100 99 false (.mov (tt 19)),
    og 101 99 false (.mov (tt 14)),
    og 102 99 false (.call 19 [(tt 100), (tt 101)]),
    og 103 99 false (.un .not (tt 102)),
    o 104 (.pick (tt 99) (cb true) (tt 103)),
    o 105 (.mov (tt 104)),
    og 106 105 false (.mov (tt 20)),
    og 107 105 false (.mov (tt 15)),
    og 108 105 false (.binB .neq (tt 106) (tt 107)),
    o 109 (.pick (tt 105) (cb true) (tt 108))])
  (.cond (tt 109)
   (.seq
   (.reg [] [o 10 (.mov (cb false))])
   .ret)
   .skip))
  (.seq
  (.reg [] [o 22 (.mov (ci 1))])
  (.seq
  (.reg [110, 111, 112] [o 110 (.load true 2 (tt 17)),
    o 111 (.mov (tt 22)),
    o 112 (.call 37 [(tt 110), (tt 111)]),
    o 22 (.mov (tt 112))])
  (.seq
  (.reg [113, 114, 115] [o 113 (.mov (tt 19)),
    o 114 (.mov (tt 22)),
    o 115 (.call 26 [(tt 113), (tt 114)]),
    o 22 (.mov (tt 115))])
  (.seq
  (.reg [] [o 23 (.mov (ci 1))])
  (.seq
  (.reg [116, 117, 118] [o 116 (.load true 2 (tt 17)),
    o 117 (.mov (tt 23)),
    o 118 (.call 38 [(tt 116), (tt 117)]),
    o 23 (.mov (tt 118))])
  (.seq
  (.seq
  (.reg [119] [o 119 (.mov (tt 23)),
    o 120 (.bin .lss (tt 119) (ci 0))])
  (.cond (tt 120)
   (.seq
   (.reg [] [o 10 (.mov (cb false))])
   .ret)
   .skip))
  (.seq
  (.reg [121, 122, 123] [o 121 (.mov (tt 19)),
    o 122 (.mov (tt 23)),
    o 123 (.call 27 [(tt 121), (tt 122)]),
    o 23 (.mov (tt 123))])
  (.seq
  (.seq
  (.reg [124] [o 124 (.mov (tt 23)),
    o 125 (.bin .lss (tt 124) (ci 0))])
  (.cond (tt 125)
   (.seq
   (.reg [] [o 10 (.mov (cb false))])
   .ret)
   .skip))
  (.seq
  (.seq
  (.reg [126, 127] [o 126 (.mov (tt 23)),
    o 127 (.mov (tt 22)),
    o 128 (.bin .neq (tt 126) (tt 127))])
  (.cond (tt 128)
   (.seq
   (.reg [] [o 10 (.mov (cb false))])
   .ret)
   .skip))
  (.seq
  (.reg [130, 131, 132, 133, 134, 135, 136, 129, 137, 138, 139, 140] [o 130 (.load true 2 (tt 5)),
    o 131 (.call 34 [(tt 130)]),
    o 132 (.mov (tt 1)),
    o 133 (.mov (tt 2)),
    o 134 (.mov (tt 3)),
    o 135 (.mov (tt 4)),
    o 136 (.call 35 [(tt 131), (tt 132), (tt 133), (tt 134), (tt 135)]),
    o 129 (.mov (tt 136)),
    o 137 (.ext (tt 129) 0),
    o 138 (.ext (tt 129) 1),
    o 139 (.ext (tt 129) 2),
    o 140 (.ext (tt 129) 3),
    o 24 (.alloc [(.slice none 0 0), (.slice none 0 0)]),
    on (.store 2 (tt 24) (tt 137)),
    o 25 (.mov (tt 138)),
    o 26 (.mov (tt 139)),
    o 27 (.mov (tt 140))])
  (.seq
  (.seq
  (.reg [141, 142, 143, 144, 145, 146, 147, 148, 149, 150, 151, 152, 153, 154, 155, 156, 157, 158, 159] [o 141 (.load true 2 (tt 24)),
    o 142 (.load true 2 (tt 12)),
    o 143 (.call 36 [(tt 141), (tt 142)]),
    o 144 (.un .not (tt 143)),
    o 145 (.mov (tt 144)),
    og 146 145 false (.mov (tt 25)),
    og 147 145 false (.mov (tt 13)),
    og 148 145 false (.bin .neq (tt 146) (tt 147)),
    o 149 (.pick (tt 145) (cb true) (tt 148)),
    o 150 (.mov (tt 149)),
    og 151 150 false (.mov (tt 26)),
    og 152 150 false (.mov (tt 14)),
    og 153 150 false (.call 19 [(tt 151), (tt 152)]),
    og 154 150 false (.un .not (tt 153)),
    o 155 (.pick (tt 150) (cb true) (tt 154)),
    o 156 (.mov (tt 155)),
    og 157 156 false (.mov (tt 27)),
    og 158 156 false (.mov (tt 15)),
    og 159 156 false (.binB .neq (tt 157) (tt 158)),
    o 160 (.pick (tt 156) (cb true) (tt 159))])
  (.cond (tt 160)
   (.seq
   (.reg [] [o 10 (.mov (cb false))])
   .ret)
   .skip))
  (.seq
  (.reg [] [o 23 (.mov (ci 1))])
  (.seq
  (.reg [161, 162, 163] [o 161 (.load true 2 (tt 17)),
    o 162 (.mov (tt 23)),
    o 163 (.call 38 [(tt 161), (tt 162)]),
    o 23 (.mov (tt 163))])
  (.seq
  (.seq
  (.reg [164] [o 164 (.mov (tt 23)),
    o 165 (.bin .lss (tt 164) (ci 0))])
  (.cond (tt 165)
   (.seq
   (.reg [] [o 10 (.mov (cb false))])
   .ret)
   .skip))
  (.seq
  (.reg [166, 167, 168] [o 166 (.mov (tt 19)),
    o 167 (.mov (tt 23)),
    o 168 (.call 27 [(tt 166), (tt 167)]),
    o 23 (.mov (tt 168))])
  (.seq
  (.seq
  (.reg [169] [o 169 (.mov (tt 23)),
    o 170 (.bin .lss (tt 169) (ci 0))])
  (.cond (tt 170)
   (.seq
   (.reg [] [o 10 (.mov (cb false))])
   .ret)
   .skip))
  (.seq
  (.seq
  (.reg [171, 172] [o 171 (.mov (tt 23)),
    o 172 (.mov (tt 22)),
    o 173 (.bin .neq (tt 171) (tt 172))])
  (.cond (tt 173)
   (.seq
   (.reg [] [o 10 (.mov (cb false))])
   .ret)
   .skip))
  (.seq
  (.reg [] [o 10 (.mov (cb true))])
  .ret))))))))))))))))))))))))))))))
def keep9 : List Nat := [0, 1, 2, 3, 4, 5, 10, 11, 12, 13, 14, 15, 16, 17, 18, 19, 20, 21, 22, 23, 24, 25, 26, 27, 32, 77, 82, 109, 120, 125, 128, 160, 165, 170, 173]
def res9 : List RI := [.tmp 10]
theorem chk9 : chk Try.prog 9 5 keep9 = some (ir9, res9) := by kernel_rfl

/-! ### arguments -/
def lenC : PV → Nat
  | .sl _ _ n _ => n
  | _ => 0
def celC : PV → Nat → Nat → PV
  | .sl _ _ _ g => g
  | _ => fun _ _ => .any
def blkC (c : PV) (i : Nat) : Blk := ⟨intOf (celC c i 0), intOf (celC c i 1), intOf (celC c i 2)⟩
def blksC (c : PV) : List Blk := (List.range (lenC c)).map (blkC c)
def bucsC (c : PV) : List (List Blk) := (List.range (lenC c)).map fun i => blksC (celC c i 0)
theorem map_get {α : Type} {d : α} {f : Nat → α} {n i : Nat} (h : i < n) : ((List.range n).map f).getD i d = f i := by
  simp [List.getD_eq_getElem?_getD, h]
theorem fit_blks {c : PV} (h : Fit (.sl [.int .i64, .int .i64, .int .i64]) c) : PV.Le c (.sl false 3 (blksC c).length (SB (blksC c))) ∧ (blksC c).length ≤ maxLen := by
  obtain ⟨nn, n, g, rfl, hn, hg⟩ := fit_sl h
  have hl : (blksC (.sl nn 3 n g)).length = n := by simp [blksC, lenC]
  have hc : IntCells 3 n g := fit_cells (e := [.int .i64, .int .i64, .int .i64]) (fun j l hj => by
    match j, hj with
    | 0, hj => simpa using hj.symm
    | 1, hj => simpa using hj.symm
    | 2, hj => simpa using hj.symm) hg
  refine ⟨.sl _ _ (fun h => by cases h) 3 _ _ _ _ hl.symm fun i j hi hj => ?_, by rw [show ([Leaf.int .i64, .int .i64, .int .i64] : List Leaf).length = 3 from rfl, hl]; exact hn⟩
  have e : (blksC (.sl nn 3 n g)).getD i b0 = blkC (.sl nn 3 n g) i := map_get hi
  show PV.Le (g i j) (SB (blksC (.sl nn 3 n g)) i j)
  simp only [SB, e]
  rw [hc i j hi hj]
  match j, hj with
  | 0, _ => exact .refl _
  | 1, _ => exact .refl _
  | 2, _ => exact .refl _
theorem fit_bucs {c : PV} (h : Fit (.sl [.sl [.int .i64, .int .i64, .int .i64]]) c) : PV.Le c (.sl false 1 (bucsC c).length (BB (bucsC c))) ∧ (bucsC c).length ≤ maxLen ∧ ∀ i, wT (bucsC c) i ≤ maxLen := by
  obtain ⟨nn, n, g, rfl, hn, hg⟩ := fit_sl h
  have hl : (bucsC (.sl nn 1 n g)).length = n := by simp [bucsC, lenC]
  refine ⟨.sl _ _ (fun h => by cases h) 1 _ _ _ _ hl.symm fun i j hi hj => ?_, by rw [show ([Leaf.sl [.int .i64, .int .i64, .int .i64]] : List Leaf).length = 1 from rfl, hl]; exact hn, fun i => ?_⟩
  · obtain rfl : j = 0 := by omega
    have e : (bucsC (.sl nn 1 n g)).getD i [] = blksC (g i 0) := map_get hi
    show PV.Le (g i 0) (BB (bucsC (.sl nn 1 n g)) i 0)
    simp only [BB, e]
    exact (fit_blks (hg i 0 _ hi rfl)).1
  · unfold wT
    by_cases hi : i < n
    · have e : (bucsC (.sl nn 1 n g)).getD i [] = blksC (g i 0) := map_get hi
      show ((bucsC (.sl nn 1 n g)).getD i []).length ≤ maxLen
      rw [e]
      exact (fit_blks (hg i 0 _ hi rfl)).2
    · rw [getD_out (by show ¬ i < (bucsC (.sl nn 1 n g)).length; rw [hl]; exact hi)]; exact Nat.zero_le _
theorem leC_sl {nn nn' : Bool} {e n n' : Nat} {g g' : Nat → Nat → PV} (h : PV.Le (.sl nn e n g) (.sl nn' e n' g')) : PV.leC (.sl nn e n g) (.sl nn' e n' g') := by
  cases h with
  | refl => exact ⟨fun h => h, rfl, rfl, fun _ _ _ _ => .refl _⟩
  | sl _ _ hn _ _ _ _ _ e h => exact ⟨hn, rfl, e, h⟩
theorem leP_fit {e : List Leaf} {c : PV} (hf : Fit (.sl e) c) {n : Nat} {g : Nat → Nat → PV} (h : PV.Le c (.sl false e.length n g)) : AV.leP (.p false c) (.p false (.sl false e.length n g)) := by
  obtain ⟨nn, n', g', rfl, _, _⟩ := fit_sl hf
  exact ⟨fun h => (by cases h), leC_sl h⟩
theorem leaves_mem : leaves Try.prog 12 48 = some [.sl [.sl [.int .i64, .int .i64, .int .i64]], .sl [.int .i64, .int .i64, .int .i64]] := by kernel_rfl
theorem args_mem {ts : List TypeId} {xs : List AV} (h : Args Try.prog (48 :: ts) xs) : ∃ T S a cs, T.length ≤ maxLen ∧ (∀ i, wT T i ≤ maxLen) ∧ S.length ≤ maxLen ∧ AV.leP a (ME T S) ∧ Args Try.prog ts cs ∧ xs = a :: cs := by
  cases h with
  | cons t ts ls l cs hl hlen hfit h =>
    rw [leaves_mem] at hl
    cases hl
    match l, hlen with
    | [c0, c1], _ =>
      have h0 := fit_bucs (hfit 0 _ rfl)
      have h1 := fit_blks (hfit 1 _ rfl)
      simp only [List.getD_cons_zero, List.getD_cons_succ] at h0 h1
      refine ⟨bucsC c0, blksC c1, _, cs, h0.2.1, h0.2.2, h1.2, ?_, h, rfl⟩
      unfold argOf
      rw [Try.underlying48]
      exact ⟨leP_fit (e := [.sl [.int .i64, .int .i64, .int .i64]]) (hfit 0 _ rfl) h0.1, leP_fit (e := [.int .i64, .int .i64, .int .i64]) (hfit 1 _ rfl) h1.1, trivial⟩
theorem leaves_in : leaves Try.prog 12 3 = some [.int .i64] := by kernel_rfl
theorem args_in {ts : List TypeId} {xs : List AV} (h : Args Try.prog (3 :: ts) xs) : ∃ c a cs, AV.leP a (AI c) ∧ Args Try.prog ts cs ∧ xs = a :: cs := by
  cases h with
  | cons t ts ls l cs hl hlen hfit h =>
    rw [leaves_in] at hl
    cases hl
    match l, hlen with
    | [c0], _ =>
      obtain ⟨n, hn, _⟩ := fit_int (hfit 0 _ rfl)
      simp only [List.getD_cons_zero] at hn
      subst hn
      refine ⟨n, _, cs, ?_, h, rfl⟩
      unfold argOf
      rw [Try.underlying3]
      exact ⟨fun _ => .inr ⟨rfl, rfl⟩, PV.leC_rfl _⟩
theorem leaves_bl : leaves Try.prog 12 4 = some [.bool] := by kernel_rfl
theorem args_bl {ts : List TypeId} {xs : List AV} (h : Args Try.prog (4 :: ts) xs) : ∃ c a cs, AV.leP a (AB c) ∧ Args Try.prog ts cs ∧ xs = a :: cs := by
  cases h with
  | cons t ts ls l cs hl hlen hfit h =>
    rw [leaves_bl] at hl
    cases hl
    match l, hlen with
    | [c0], _ =>
      obtain ⟨n, hn⟩ := fit_bool (hfit 0 _ rfl)
      simp only [List.getD_cons_zero] at hn
      subst hn
      refine ⟨n, _, cs, ?_, h, rfl⟩
      unfold argOf
      rw [Try.underlying4]
      exact ⟨fun _ => .inr ⟨rfl, rfl⟩, PV.leC_rfl _⟩
/-! ### the law -/
def in_lawMU (T : List (List Blk)) (S : List Blk) (x : Int) (wr : Bool) (v lf : Int) := (G0, res9, ([] : List (Nat × Ob)), [Item.ir ir9], start [ME T S, AI x, AB wr, AI v, AI lf] [])
theorem ev_lawMU : ∀ (T : List (List Blk)) (S : List Blk) (x : Int) (wr : Bool) (v lf : Int), ev G0 res9 [] (3000 : Nat) (Or.callE [] Int (fun (r : Int) => r = (-1 : Int) ∨ (0 : Int) ≤ r ∧ r + (↑T.length : Int) + (↑T.flatten.length : Int) + (↑S.length : Int) = (1048576 : Int)) (fun (r : Int) => AI r) (fun (x_1 : Int) => []) fun (r : Int) => Or.nil.split (Or.call [] meR (meH T S) (Or.call [] (usR T S x v lf) (usH T S x wr v lf) (Or.call [] meR (meH T S) (Or.call [] (usR T S x v lf) (usH T S x wr v lf) (Or.call [] (AB true) [] (Or.nil.lit.lit.lit.lit.lit.lit.lit.lit.lit.split (Or.call [] (AB true) [] (Or.nil.split (Or.call [] meR (meH T S) (Or.call [] (AB true) [] (Or.call [(1046 : Nat), (2046 : Nat)] (AI ((1 : Int) + (↑(mkN T S) : Int))) (mkMH T S (1 : Int)) (Or.call [] (AB true) [] (Or.no.split (Or.call [] (AB true) [] (Or.no.split (Or.call [(1053 : Nat), (2053 : Nat)] (AI ((1 : Int) + (↑(mkN (usT T S x wr v lf) (usS T S x wr v lf)) : Int))) (mkMH (usT T S x wr v lf) (usS T S x wr v lf) (1 : Int)) (Or.call [(3053 : Nat)] (AI ((1 : Int) + (↑(mkN (usT T S x wr v lf) (usS T S x wr v lf)) : Int) + (↑(usN T S x v lf) : Int))) [((0 : Nat), Ob.row Mode.u false (1 : Nat) (usN T S x v lf) (fun (i x_1 : Nat) => PI ((1 : Int) + (↑(mkN (usT T S x wr v lf) (usS T S x wr v lf)) : Int) + (↑i : Int))) [])] (Or.call [] (AI ((1 : Int) + (↑(mkN (usT T S x wr v lf) (usS T S x wr v lf)) : Int))) [] (Or.call [] (AI ((1 : Int) + (↑(mkN (usT T S x wr v lf) (usS T S x wr v lf)) : Int) + (↑(usN T S x v lf) : Int))) [] (Or.nil.split (Or.call [] meR (meH T S) (Or.call [] (usR T S x v lf) (usH T S x wr v lf) (Or.call [] (AB true) [] (Or.no.split (Or.call [] (AB true) [] (Or.no.split (Or.call [] (AI ((1 : Int) + (↑(mkN (usT T S x wr v lf) (usS T S x wr v lf)) : Int))) [] (Or.call [] (AI ((1 : Int) + (↑(mkN (usT T S x wr v lf) (usS T S x wr v lf)) : Int) + (↑(usN T S x v lf) : Int))) [] (Or.no.split Or.nil).lit).lit)).lit.lit.lit.lit.lit.lit).lit.lit).lit.lit.lit.lit)))).lit).lit)))).lit.lit.lit.lit.lit.lit).lit.lit).lit.lit.lit.lit.lit.lit).lit.lit.lit).lit))).lit.lit.lit.lit.lit.lit).lit.lit).lit.lit.lit.lit)))))) [Item.ir ir9] (start [ME T S, AI x, AB wr, AI v, AI lf] []) = VC.callE Int (32 : Nat) [AV.ag [AV.p false (PV.sl false (1 : Nat) T.length (BB T)), AV.p false (PV.sl false (3 : Nat) S.length (SB S))], AV.p true (PV.v (Value.int IntKind.i64 (1048576 : Int)))] [] (fun (r : Int) => r = (-1 : Int) ∨ (0 : Int) ≤ r ∧ r + (↑T.length : Int) + (↑T.flatten.length : Int) + (↑S.length : Int) = (1048576 : Int)) (fun (r : Int) => AI r) (fun (x_1 : Int) => []) fun (r : Int) => VC.split (decide (r < (0 : Int))) (VC.doneP (AV.p true (PV.v (Value.bool true)))) (VC.call (34 : Nat) [AV.ag [AV.p false (PV.sl false (1 : Nat) T.length (BB T)), AV.p false (PV.sl false (3 : Nat) S.length (SB S))]] [] meR (meH T S) (VC.call (33 : Nat) [AV.ag [AV.p false (PV.sl false (1 : Nat) T.length (BB T)), AV.p false (PV.sl false (3 : Nat) S.length (SB S))], AV.p true (PV.v (Value.int IntKind.i64 x)), AV.p true (PV.v (Value.bool wr)), AV.p true (PV.v (Value.int IntKind.i64 v)), AV.p true (PV.v (Value.int IntKind.i64 lf))] [] (usR T S x v lf) (usH T S x wr v lf) (VC.call (34 : Nat) [AV.ag [AV.p false (PV.sl false (1 : Nat) T.length (BB T)), AV.p false (PV.sl false (3 : Nat) S.length (SB S))]] [] meR (meH T S) (VC.call (35 : Nat) [AV.ag [AV.p false (PV.sl false (1 : Nat) T.length (BB T)), AV.p false (PV.sl false (3 : Nat) S.length (SB S))], AV.p true (PV.v (Value.int IntKind.i64 x)), AV.p true (PV.v (Value.bool wr)), AV.p true (PV.v (Value.int IntKind.i64 v)), AV.p true (PV.v (Value.int IntKind.i64 lf))] [] (usR T S x v lf) (usH T S x wr v lf) (VC.call (36 : Nat) [AV.ag [AV.p false (PV.sl false (1 : Nat) (usT T S x wr v lf).length (BB (usT T S x wr v lf))), AV.p false (PV.sl false (3 : Nat) (usS T S x wr v lf).length (SB (usS T S x wr v lf)))], AV.ag [AV.p false (PV.sl false (1 : Nat) (usT T S x wr v lf).length (BB (usT T S x wr v lf))), AV.p false (PV.sl false (3 : Nat) (usS T S x wr v lf).length (SB (usS T S x wr v lf)))]] [] (AB true) [] (VC.split (usV T S x v lf != usV T S x v lf) (VC.doneP (AV.p true (PV.v (Value.bool false)))) (VC.call (19 : Nat) [AV.p false (PV.sl false (1 : Nat) (usN T S x v lf) (PA (usO T S x).l)), AV.p false (PV.sl false (1 : Nat) (usN T S x v lf) (PA (usO T S x).l))] [] (AB true) [] (VC.split (!useOk T S x v lf == useOk T S x v lf) (VC.doneP (AV.p true (PV.v (Value.bool false)))) (VC.call (34 : Nat) [AV.ag [AV.p false (PV.sl false (1 : Nat) T.length (BB T)), AV.p false (PV.sl false (3 : Nat) S.length (SB S))]] [] meR (meH T S) (VC.call (36 : Nat) [AV.ag [AV.p false (PV.sl false (1 : Nat) T.length (BB T)), AV.p false (PV.sl false (3 : Nat) S.length (SB S))], AV.ag [AV.p false (PV.sl false (1 : Nat) T.length (BB T)), AV.p false (PV.sl false (3 : Nat) S.length (SB S))]] [] (AB true) [] (VC.call (37 : Nat) [AV.ag [AV.own (0 : Nat), AV.own (1 : Nat)], AV.p true (PV.v (Value.int IntKind.i64 (1 : Int)))] [((0 : Nat), Ob.row Mode.u false (1 : Nat) T.length (BB T) []), ((1 : Nat), Ob.row Mode.u false (3 : Nat) S.length (SB S) [])] (AI ((1 : Int) + (↑(mkN T S) : Int))) (mkMH T S (1 : Int)) (VC.call (36 : Nat) [AV.ag [AV.p false (PV.sl false (1 : Nat) (usT T S x wr v lf).length (BB (usT T S x wr v lf))), AV.p false (PV.sl false (3 : Nat) (usS T S x wr v lf).length (SB (usS T S x wr v lf)))], AV.ag [AV.p false (PV.sl false (1 : Nat) (usT T S x wr v lf).length (BB (usT T S x wr v lf))), AV.p false (PV.sl false (3 : Nat) (usS T S x wr v lf).length (SB (usS T S x wr v lf)))]] [] (AB true) [] (VC.split (usV T S x v lf != usV T S x v lf) VC.fail (VC.call (19 : Nat) [AV.p false (PV.sl false (1 : Nat) (usN T S x v lf) (PA (usO T S x).l)), AV.p false (PV.sl false (1 : Nat) (usN T S x v lf) (PA (usO T S x).l))] [] (AB true) [] (VC.split (!useOk T S x v lf == useOk T S x v lf) VC.fail (VC.call (37 : Nat) [AV.ag [AV.own (0 : Nat), AV.own (1 : Nat)], AV.p true (PV.v (Value.int IntKind.i64 (1 : Int)))] [((0 : Nat), Ob.row Mode.u false (1 : Nat) (usT T S x wr v lf).length (BB (usT T S x wr v lf)) []), ((1 : Nat), Ob.row Mode.u false (3 : Nat) (usS T S x wr v lf).length (SB (usS T S x wr v lf)) [])] (AI ((1 : Int) + (↑(mkN (usT T S x wr v lf) (usS T S x wr v lf)) : Int))) (mkMH (usT T S x wr v lf) (usS T S x wr v lf) (1 : Int)) (VC.call (26 : Nat) [AV.own (0 : Nat), AV.p true (PV.v (Value.int IntKind.i64 ((1 : Int) + (↑(mkN (usT T S x wr v lf) (usS T S x wr v lf)) : Int))))] [((0 : Nat), Ob.row Mode.u false (1 : Nat) (usN T S x v lf) (PA (usO T S x).l) [])] (AI ((1 : Int) + (↑(mkN (usT T S x wr v lf) (usS T S x wr v lf)) : Int) + (↑(usN T S x v lf) : Int))) [((0 : Nat), Ob.row Mode.u false (1 : Nat) (usN T S x v lf) (fun (i x_1 : Nat) => PI ((1 : Int) + (↑(mkN (usT T S x wr v lf) (usS T S x wr v lf)) : Int) + (↑i : Int))) [])] (VC.call (38 : Nat) [AV.ag [AV.p false (PV.sl false (1 : Nat) (usT T S x wr v lf).length (BW (wT (usT T S x wr v lf)) (mkW (wT (usT T S x wr v lf)) (1 : Int)))), AV.p false (PV.sl false (3 : Nat) (usS T S x wr v lf).length (MK ((1 : Int) + (3 : Int) * (↑(usT T S x wr v lf).flatten.length : Int))))], AV.p true (PV.v (Value.int IntKind.i64 (1 : Int)))] [] (AI ((1 : Int) + (↑(mkN (usT T S x wr v lf) (usS T S x wr v lf)) : Int))) [] (VC.call (27 : Nat) [AV.p false (PV.sl false (1 : Nat) (usN T S x v lf) fun (i x_1 : Nat) => PI ((1 : Int) + (↑(mkN (usT T S x wr v lf) (usS T S x wr v lf)) : Int) + (↑i : Int))), AV.p true (PV.v (Value.int IntKind.i64 ((1 : Int) + (↑(mkN (usT T S x wr v lf) (usS T S x wr v lf)) : Int))))] [] (AI ((1 : Int) + (↑(mkN (usT T S x wr v lf) (usS T S x wr v lf)) : Int) + (↑(usN T S x v lf) : Int))) [] (VC.split ((1 : Int) + (↑(mkN (usT T S x wr v lf) (usS T S x wr v lf)) : Int) + (↑(usN T S x v lf) : Int) != (1 : Int) + (↑(mkN (usT T S x wr v lf) (usS T S x wr v lf)) : Int) + (↑(usN T S x v lf) : Int)) (VC.doneP (AV.p true (PV.v (Value.bool false)))) (VC.call (34 : Nat) [AV.ag [AV.p false (PV.sl false (1 : Nat) T.length (BB T)), AV.p false (PV.sl false (3 : Nat) S.length (SB S))]] [] meR (meH T S) (VC.call (35 : Nat) [AV.ag [AV.p false (PV.sl false (1 : Nat) T.length (BB T)), AV.p false (PV.sl false (3 : Nat) S.length (SB S))], AV.p true (PV.v (Value.int IntKind.i64 x)), AV.p true (PV.v (Value.bool wr)), AV.p true (PV.v (Value.int IntKind.i64 v)), AV.p true (PV.v (Value.int IntKind.i64 lf))] [] (usR T S x v lf) (usH T S x wr v lf) (VC.call (36 : Nat) [AV.ag [AV.p false (PV.sl false (1 : Nat) (usT T S x wr v lf).length (BB (usT T S x wr v lf))), AV.p false (PV.sl false (3 : Nat) (usS T S x wr v lf).length (SB (usS T S x wr v lf)))], AV.ag [AV.p false (PV.sl false (1 : Nat) (usT T S x wr v lf).length (BB (usT T S x wr v lf))), AV.p false (PV.sl false (3 : Nat) (usS T S x wr v lf).length (SB (usS T S x wr v lf)))]] [] (AB true) [] (VC.split (usV T S x v lf != usV T S x v lf) VC.fail (VC.call (19 : Nat) [AV.p false (PV.sl false (1 : Nat) (usN T S x v lf) (PA (usO T S x).l)), AV.p false (PV.sl false (1 : Nat) (usN T S x v lf) (PA (usO T S x).l))] [] (AB true) [] (VC.split (!useOk T S x v lf == useOk T S x v lf) VC.fail (VC.call (38 : Nat) [AV.ag [AV.p false (PV.sl false (1 : Nat) (usT T S x wr v lf).length (BW (wT (usT T S x wr v lf)) (mkW (wT (usT T S x wr v lf)) (1 : Int)))), AV.p false (PV.sl false (3 : Nat) (usS T S x wr v lf).length (MK ((1 : Int) + (3 : Int) * (↑(usT T S x wr v lf).flatten.length : Int))))], AV.p true (PV.v (Value.int IntKind.i64 (1 : Int)))] [] (AI ((1 : Int) + (↑(mkN (usT T S x wr v lf) (usS T S x wr v lf)) : Int))) [] (VC.call (27 : Nat) [AV.p false (PV.sl false (1 : Nat) (usN T S x v lf) fun (i x_1 : Nat) => PI ((1 : Int) + (↑(mkN (usT T S x wr v lf) (usS T S x wr v lf)) : Int) + (↑i : Int))), AV.p true (PV.v (Value.int IntKind.i64 ((1 : Int) + (↑(mkN (usT T S x wr v lf) (usS T S x wr v lf)) : Int))))] [] (AI ((1 : Int) + (↑(mkN (usT T S x wr v lf) (usS T S x wr v lf)) : Int) + (↑(usN T S x v lf) : Int))) [] (VC.split ((1 : Int) + (↑(mkN (usT T S x wr v lf) (usS T S x wr v lf)) : Int) + (↑(usN T S x v lf) : Int) != (1 : Int) + (↑(mkN (usT T S x wr v lf) (usS T S x wr v lf)) : Int) + (↑(usN T S x v lf) : Int)) VC.fail (VC.doneP (AV.p true (PV.v (Value.bool true))))))))))))))))))))))))))))))))) := by intros; kernel_rfl
theorem us_bound (T : List (List Blk)) (S : List Blk) (x : Int) (wr : Bool) (v lf : Int) : (usT T S x wr v lf).length ≤ 7 ∧ (usS T S x wr v lf).length + (usT T S x wr v lf).flatten.length ≤ 1000 ∧ usN T S x v lf ≤ 3 := by
  cases h : useOk T S x v lf with
  | false =>
    obtain ⟨h1, h2, h3, h4⟩ := us_no wr h
    rw [h1, h2, h4]; simp
  | true =>
    obtain ⟨h1, h2, h3, h4⟩ := us_yes wr h
    rw [h1, h2, h4]
    simp only [useOk, Bool.and_eq_true] at h
    have := use_bound (mem_ok h.1.1.1) h.1.1.2 (wr := wr) (v := v) (lf := lf) rfl
    exact ⟨Nat.le_of_eq this.2, this.1, Nat.le_refl _⟩
theorem c_lawMU (T : List (List Blk)) (S : List Blk) (x : Int) (wr : Bool) (v lf : Int) (h1 : T.length ≤ maxLen) (h2 : ∀ i, wT T i ≤ maxLen) (h3 : S.length ≤ maxLen) : PRet Try.prog G0 9 [ME T S, AI x, AB wr, AI v, AI lf] (AB true) := by
  refine PRet.by chk9 (ev_lawMU T S x wr v lf) ?_
  simp only [VC.holds_split, VC.holds_need, VC.holds_doneP, VC.holds_done, VC.holds_either, VC.holds_call, VC.holds_callE, VC.holds_lend, VC.holds_stop, VC.holds_fail, decide_eq_true_eq, decide_eq_false_iff_not]
  refine ⟨c_szM _ _ _ h1 h2 h3 (by omega) (by omega), fun r hr => ⟨fun _ => by simp, fun hr0 => ?_⟩⟩
  have hr := hr.resolve_left (by omega)
  have hT : T.length ≤ 1048576 := by omega
  have hS : S.length + T.flatten.length ≤ 1048576 := by omega
  obtain ⟨u1, u2, u3⟩ := us_bound T S x wr v lf
  have to := c_toM T S hT hS
  have sp := c_spMU T S x wr v lf hT hS
  have im := c_imMU T S x wr v lf hT hS
  have em0 := c_eqM T S hT hS
  generalize usT T S x wr v lf = T' at *
  generalize usS T S x wr v lf = S' at *
  have hT' : T'.length ≤ 1048576 := by omega
  have hS' : S'.length + T'.flatten.length ≤ 1048576 := by omega
  have em := c_eqM T' S' hT' hS'
  have hk : mkN T S ≤ 6291456 := by unfold mkN; omega
  have hk' : mkN T' S' ≤ 6291456 := by unfold mkN; omega
  have hd := c_hdM false false T' S' 1 hT' hS' (by omega) (by omega)
  have ei := c_eqIntS0 false false (usN T S x v lf) (litI (pathL (usO T S x).l)) (by omega)
  have hdi := c_heldIntS0 false (usN T S x v lf) (1 + (mkN T' S' : Nat)) (by omega) (by omega) (by omega)
  refine ⟨to, sp, to, im, em, fun e => by simp at e, fun _ => ⟨ei, fun e => by simp at e, fun _ => ⟨to, em0, c_mkM _ _ _ _ _ hT hS (by omega) (by omega), em, fun e => by simp at e, fun _ => ⟨ei, fun e => by simp at e, fun _ => ⟨c_mkM _ _ _ _ _ hT' hS' (by omega) (by omega), c_markIntS _ _ _ _ (by omega) (by omega) (by omega), hd, hdi, fun e => by simp at e, fun _ => ⟨to, im, em, fun e => by simp at e, fun _ => ⟨ei, fun e => by simp at e, fun _ => ⟨hd, hdi, fun e => by simp at e, fun _ => by simp⟩⟩⟩⟩⟩⟩⟩⟩
theorem law_FnExactMemoryUse (xs : List AV) (h : Args Try.prog Try.f9.params.toList xs) : PRet Try.prog G0 9 xs (AB true) := by
  have hp : Try.f9.params.toList = [48, 3, 4, 3, 3] := by kernel_rfl
  rw [hp] at h
  obtain ⟨T, S, a, cs, k1, k2, k3, ha, h2, rfl⟩ := args_mem h
  obtain ⟨x, b, cs', hb, h3, rfl⟩ := args_in h2
  obtain ⟨wr, c, cs'', hc, h4, rfl⟩ := args_bl h3
  obtain ⟨v, d, cs3, hd, h5, rfl⟩ := args_in h4
  obtain ⟨lf, e, cs4, he, h6, rfl⟩ := args_in h5
  cases h6
  exact (c_lawMU T S x wr v lf k1 k2 k3).args ⟨ha, hb, hc, hd, he, trivial⟩
end Go.Gw
