/- A padded table sorted, of the program; with no condition. -/
import Derived.Test.YtigaelckdbeecaaGreatDoorSym
import Derived.Test.YtigaelckdbeecaaGreatDoorTrace
import Derived.KernelRfl
namespace Go.Gw
open Go Go.Proofs
set_option linter.unusedSimpArgs false
set_option linter.unusedVariables false
set_option maxRecDepth 100000
def ir21 : Ir := (.seq (.seq (.reg [6] [om 6 2, o 7 (.un .not (tt 6))]) (.cond (tt 7) (.reg [8, 9, 10, 11, 12, 13] [om 8 0, o 9 (.nilck (tt 8)), oa 10 0 9, ol 11 10, o 12 (.len (tt 11)), o 13 (.mkSlc 1 8 [(.int .i64 0)] (tt 12) (tt 12)), om 1 13]) .skip)) (.seq (.dreg [14, 15, 16, 17, 18, 19, 20, 21, 22, 23, 24] [0, 0, 2, 6, 14, 0, 32, 96, 254, 511, 1023, 2047] [(4, 1018), (6, 1020), (6, 2020), (6, 3020), (6, 4020), (6, 5020), (6, 6020), (6, 7020), (6, 8020), (7, 21), (8, 22)] [om 14 0, om 15 0, o 16 (.nilck (tt 15)), oa 17 1 16, ol 18 17, om 19 1, o 20 (.call 22 [(tt 19)]), o 21 (.mkSl 1 1 [(.slice none 0 0)] [(0, (tt 20))]), o 22 (.app 1 24 false (tt 18) (tt 21)), o 23 (.nilck (tt 14)), oa 24 1 23, on (.store 1 (tt 24) (tt 22))]) (.reg [25, 26, 27, 28, 29, 30, 31, 32, 33, 34] [om 25 0, om 26 0, o 27 (.nilck (tt 26)), oa 28 2 27, ol 29 28, om 30 2, o 31 (.mkSl 1 1 [(.bool false)] [(0, (tt 30))]), o 32 (.app 1 1 true (tt 29) (tt 31)), o 33 (.nilck (tt 25)), oa 34 2 33, on (.store 1 (tt 34) (tt 32))])))
def keep21 : List Nat := [0, 1, 2, 7]
def res21 : List RI := []
theorem chk21 : chk Tryz.prog 21 3 keep21 = some (ir21, res21) := by kernel_rfl
def ir23_L1 : Ir := (.seq (.reg [] [ob .lss 26 25 24]) (.seq (.cond (tt 26) .skip (.exit 0)) (.seq (.block 1 (.seq (.reg [27] [om 27 25, om 10 27]) (.reg [28, 29, 30, 31] [om 28 9, om 29 10, om 30 10, ox 31 28 29, on (.store 1 (tt 31) (tt 30))]))) (.reg [32] [o 32 (.bin .add (tt 25) (ci 1)), om 25 32]))))
def ir23_L2 : Ir := (.seq (.reg [] [ob .lss 43 42 41]) (.seq (.cond (tt 43) .skip (.exit 2)) (.seq (.block 3 (.seq (.reg [44, 45] [ox 44 40 42, ol 45 44, om 13 45]) (.dreg [46, 47, 48, 49, 50, 51, 52, 53, 54, 55, 56] [0, 1, 0, 7, 15, 0, 32, 0, 224, 480, 1023] [(1, 1047), (4, 1050), (6, 1052), (9, 1055), (10, 1056), (10, 2056), (10, 3056), (10, 4056), (10, 5056), (10, 6056), (10, 7056), (10, 8056)] [oa 46 1 3, ol 47 46, om 48 13, ox 49 47 48, ol 50 49, oa 51 2 3, ol 52 51, om 53 13, ox 54 52 53, ol 55 54, o 56 (.call 21 [(tt 11), (tt 50), (tt 55)])]))) (.reg [57] [o 57 (.bin .add (tt 42) (ci 1)), om 42 57]))))
def ir23_T3 : Ir := (.seq (.dreg [58, 59, 60, 61, 62, 63] [0, 0, 2, 6, 14, 30, 63, 127] [(0, 1058), (0, 2058), (0, 3058), (2, 1060), (4, 1062), (4, 2062), (4, 3062), (4, 4062), (4, 5062), (4, 6062), (4, 7062), (4, 8062), (5, 1063), (5, 2063), (5, 3063), (5, 4063), (5, 5063), (5, 6063), (5, 7063), (5, 8063)] [o 58 (.load true 3 (tt 11)), oa 59 1 3, ol 60 59, o 61 (.len (tt 60)), o 62 (.call 12 [(tt 61)]), o 63 (.call 58 [(ci 2), (tt 62)]), on (.store 3 (tt 6) (tt 58)), om 7 63]) .ret)
def ir23_T4 : Ir := (.seq (.reg [33, 34, 35] [om 33 9, o 34 (.mkFn 57 [] [(tt 3), (tt 8)]), o 35 (.call 56 [(tt 33), (tt 34)])]) (.seq (.reg [36, 37, 38, 39] [oa 36 0 3, ol 37 36, o 38 (.call 40 [(tt 37)]), o 39 (.build [(.slice none 0 0), (.slice none 0 0), (.slice none 0 0)] [(0, 1, (tt 38))]), o 11 (.alloc [(.slice none 0 0), (.slice none 0 0), (.slice none 0 0)]), on (.store 3 (tt 11) (tt 39))]) (.seq (.seq (.reg [] [om 40 9, o 41 (.len (tt 40)), o 42 (.mov (ci 0))]) (.block 2 (.loop ir23_L2))) ir23_T3)))
def ir23 : Ir := (.seq (.reg [] [o 3 (.box 3 (tt 0)), o 6 (.alloc [(.slice none 0 0), (.slice none 0 0), (.slice none 0 0)]), o 7 (.mov (.const (.slice none 0 0)))]) (.seq (.reg [14, 15, 16, 17, 18] [oa 14 0 3, ol 15 14, om 16 1, om 17 2, o 18 (.call 55 [(tt 15), (tt 16), (tt 17)]), o 8 (.alloc [.nilFunc]), on (.store 1 (tt 8) (tt 18))]) (.seq (.reg [19, 20, 21, 22] [oa 19 1 3, ol 20 19, o 21 (.len (tt 20)), o 22 (.mkSlc 1 8 [(.int .i64 0)] (tt 21) (tt 21)), om 9 22]) (.seq (.seq (.reg [23] [om 23 9, o 24 (.len (tt 23)), o 25 (.mov (ci 0))]) (.block 0 (.loop ir23_L1))) ir23_T4))))
def keep23 : List Nat := [0, 1, 2, 3, 6, 7, 8, 9, 10, 11, 13, 24, 25, 26, 40, 41, 42, 43]
def res23 : List RI := [.cell true 3 6, .tmp 7]
theorem chk23 : chk Tryz.prog 23 3 keep23 = some (ir23, res23) := by kernel_rfl
abbrev LI := List It
def iw (T : LI) (i : Nat) : Nat := (T.getD i (false, [])).2.length
def ih (T : LI) (i j : Nat) : Int := (T.getD i (false, [])).2.getD j 0
def ib (T : LI) (i : Nat) : Bool := (T.getD i (false, [])).1
abbrev pdR : AV := .ag [.own 0, .own 1, .own 2]
abbrev pdH (N : Nat) (F : Nat → ByteArray) (T : LI) : List (Nat × Ob) := [(0, .row .u false 1 N (TR F) []), (1, .row .u false 1 T.length (RR (iw T) (ih T)) []), (2, .row .u false 1 T.length (MK (ib T)) [])]
def itL (m : Nat) (w : Nat → Nat) (h : Nat → Nat → Int) (r : Nat → Bool) : LI := (List.range m).map (itm w h r)
theorem itL_len {m : Nat} {w : Nat → Nat} {h : Nat → Nat → Int} {r : Nat → Bool} : (itL m w h r).length = m := by simp [itL]
theorem RR_it {T : LI} {w : Nat → Nat} {h : Nat → Nat → Int} {r : Nat → Bool} {i k : Nat} (e : T.getD i (false, []) = itm w h r k) : PV.Le (RR w h k 0) (RR (iw T) (ih T) i 0) :=
  RR_le2 (by simp only [iw, e, itm, rowL_len]) fun j hj => by simp only [ih, e, itm, rowL_get hj]
theorem get_app {T : LI} {x : It} {i : Nat} : (T ++ [x]).getD i (false, []) = if i < T.length then T.getD i (false, []) else if i = T.length then x else (false, []) := by
  by_cases h : i < T.length
  · simp only [h, if_true, List.getD_eq_getElem?_getD, List.getElem?_append_left h]
  · by_cases h2 : i = T.length
    · subst h2; simp [List.getD_eq_getElem?_getD]
    · simp only [h, h2, if_false, List.getD_eq_getElem?_getD]
      rw [List.getElem?_eq_none (by (try simp); omega)]
      rfl
def addI (N : Nat) (b : Bool) (l : List Int) : It := if b then (true, l) else (false, List.replicate N 0)
abbrev pdB (N : Nat) (F : Nat → ByteArray) (T : LI) : List (Nat × Ob) := [(0, .box [.own 1, .own 2, .own 3]), (1, .row .u false 1 N (TR F) []), (2, .row .u false 1 T.length (RR (iw T) (ih T)) []), (3, .row .u false 1 T.length (MK (ib T)) [])]
abbrev pdB' (N : Nat) (F : Nat → ByteArray) (T : LI) : List (Nat × Ob) := [(0, .box [.own 1, .own 4, .own 5]), (1, .row .u false 1 N (TR F) []), (4, .row .u false 1 T.length (RR (iw T) (ih T)) []), (5, .row .u false 1 T.length (MK (ib T)) [])]
theorem c_clS (nn : Bool) (n : Nat) (g : Nat → Nat → PV) (h : IntCells 1 n g ∧ n ≤ 1048576) : PObj Tryz.prog G0 22 [SL nn 1 n g] [] (.own 0) [(0, .row .u false 1 n (fun i _ => PI (intOf (g i 0))) [])] :=
  (c_clI n _ h.2).args ⟨⟨fun h => (by cases h), ⟨fun h => (by cases h), rfl, rfl, fun i j hi hj => by
    obtain rfl : j = 0 := by omega
    rw [h.1 i 0 hi hj]
    exact .refl _⟩⟩, trivial⟩ trivial
theorem ev_add : ∀ (N : Nat) (F : Nat → ByteArray) (T : LI) (l : Nat) (f : Nat → Int) (b : Bool), ev G0 res21 (pdB N F T) 3000 ((Or.call [] (.own 0) [(0, .row .u false 1 N (fun i x => PI (intOf (PV.v ([Value.int IntKind.i64 0].getD 0 undef)))) [])] Or.nil).split (Or.call [] (.own 0) [(0, .row .u false 1 l (fun i x => PI (intOf (PI (f i)))) [])] Or.nil)) [.ir ir21] (start [.adr 0 0, IL false l f, AB b] (pdB N F T)) = VC.split (!b) (VC.need (0 ≤ (↑N : Int) ∧ (↑N : Int) ≤ ↑N ∧ (↑8 : Int) * ↑N ≤ 281474976710656 ∧ (↑N : Int) ≤ 9223372036854775807) (VC.call 22 [SL true 1 N fun x j => PV.v ([Value.int IntKind.i64 0].getD j undef)] [] (.own 0) [(0, .row .u false 1 N (fun i x => PI (intOf (PV.v ([Value.int IntKind.i64 0].getD 0 undef)))) [])] (VC.need (((T.length + 1) * 24 ≤ 140737488355328 ∧ (↑(T.length + 1) : Int) ≤ 9223372036854775807) ∧ allOne 1 1 (setG [(0, 0, PV.sl false 1 N fun i x => PI (intOf (PV.v ([Value.int IntKind.i64 0].getD 0 undef))))] fun x j => PV.v ([Value.slice none 0 0].getD j undef))) (VC.need (((T.length + 1) * 1 ≤ 140737488355328 ∧ (↑(T.length + 1) : Int) ≤ 9223372036854775807) ∧ allV 1 1 (setG [(0, 0, PV.v (Value.bool b))] fun x j => PV.v ([Value.bool false].getD j undef))) (VC.done (St.mk [(0, .adr 100000 0), (1, .own 13), (2, AB b), (7, AB !b)] [(100000, .box [.own 100001, .own 22, .own 32]), (100001, .row .u false 1 N (TR F) []), (13, .row .u true 1 N (fun x j => PV.v ([Value.int IntKind.i64 0].getD j undef)) []), (22, .row .u false 1 (T.length + 1) (fun a b_1 => if a < T.length then RR (iw T) (ih T) a b_1 else setG [(0, 0, PV.sl false 1 N fun i x => PI (intOf (PV.v ([Value.int IntKind.i64 0].getD 0 undef))))] (fun x j => PV.v ([Value.slice none 0 0].getD j undef)) (a - T.length) b_1) []), (32, .row .u false 1 (T.length + 1) (fun a b_1 => if a < T.length then MK (ib T) a b_1 else setG [(0, 0, PV.v (Value.bool b))] (fun x j => PV.v ([Value.bool false].getD j undef)) (a - T.length) b_1) [])])))))) (VC.call 22 [SL false 1 l fun i x => PI (f i)] [] (.own 0) [(0, .row .u false 1 l (fun i x => PI (intOf (PI (f i)))) [])] (VC.need (((T.length + 1) * 24 ≤ 140737488355328 ∧ (↑(T.length + 1) : Int) ≤ 9223372036854775807) ∧ allOne 1 1 (setG [(0, 0, PV.sl false 1 l fun i x => PI (intOf (PI (f i))))] fun x j => PV.v ([Value.slice none 0 0].getD j undef))) (VC.need (((T.length + 1) * 1 ≤ 140737488355328 ∧ (↑(T.length + 1) : Int) ≤ 9223372036854775807) ∧ allV 1 1 (setG [(0, 0, PV.v (Value.bool b))] fun x j => PV.v ([Value.bool false].getD j undef))) (VC.done (St.mk [(0, .adr 100000 0), (1, SL false 1 l fun i x => PI (f i)), (2, AB b), (7, AB !b)] [(100000, .box [.own 100001, .own 22, .own 32]), (100001, .row .u false 1 N (TR F) []), (22, .row .u false 1 (T.length + 1) (fun a b_1 => if a < T.length then RR (iw T) (ih T) a b_1 else setG [(0, 0, PV.sl false 1 l fun i x => PI (intOf (PI (f i))))] (fun x j => PV.v ([Value.slice none 0 0].getD j undef)) (a - T.length) b_1) []), (32, .row .u false 1 (T.length + 1) (fun a b_1 => if a < T.length then MK (ib T) a b_1 else setG [(0, 0, PV.v (Value.bool b))] (fun x j => PV.v ([Value.bool false].getD j undef)) (a - T.length) b_1) [])]))))) := by intros; kernel_rfl
theorem RR_app {T : LI} {x : It} {l : Nat} {nn : Bool} {g g' : Nat → Nat → PV} {i : Nat} (hi : i < T.length + 1) (hl : x.2.length = l) (hg : ∀ j, j < l → PV.Le (g j 0) (PI (x.2.getD j 0))) : PV.Le (if i < T.length then RR (iw T) (ih T) i 0 else setG [(0, 0, .sl nn 1 l g)] g' (i - T.length) 0) (RR (iw (T ++ [x])) (ih (T ++ [x])) i 0) := by
  by_cases e : i < T.length
  · simp only [e, if_true]
    exact RR_le (by simp only [iw, get_app, e, if_true]) fun j hj => by simp only [ih, get_app, e, if_true]
  · have e1 : i - T.length = 0 := by omega
    have e2 : i = T.length := by omega
    subst e2
    simp only [Nat.lt_irrefl, if_false, Nat.sub_self, setG, cellSet, and_self, if_true]
    refine .sl _ _ (fun e => (by cases e)) 1 _ _ _ _ ?_ fun j k hj hk => ?_
    · simp only [iw, get_app, Nat.lt_irrefl, if_false, if_true, hl]
    · obtain rfl : k = 0 := by omega
      simp only [ih, get_app, Nat.lt_irrefl, if_false, if_true]
      exact hg j hj
theorem MK_app {T : LI} {x : It} {b : Bool} {g' : Nat → Nat → PV} {i : Nat} (hi : i < T.length + 1) (hb : x.1 = b) : PV.Le (if i < T.length then MK (ib T) i 0 else setG [(0, 0, .v (.bool b))] g' (i - T.length) 0) (MK (ib (T ++ [x])) i 0) := by
  by_cases e : i < T.length
  · simp only [e, if_true]
    exact MK_le (by simp only [ib, get_app, e, if_true])
  · have e1 : i - T.length = 0 := by omega
    have e2 : i = T.length := by omega
    subst e2
    simp only [Nat.lt_irrefl, if_false, Nat.sub_self, setG, cellSet, and_self, if_true]
    exact MK_le' (by simp only [ib, get_app, Nat.lt_irrefl, if_false, if_true, hb])
theorem c_add (N : Nat) (F : Nat → ByteArray) (T : LI) (l : Nat) (f : Nat → Int) (b : Bool) (h : N ≤ 1048576 ∧ l ≤ 1048576 ∧ T.length ≤ 1048576) : PObj Tryz.prog G0 21 [.adr 0 0, IL false l f, AB b] (pdB N F T) (.tp []) (pdB' N F (T ++ [addI N b (rowL l f 0)])) := by
  obtain ⟨hN, hl, hT⟩ := h
  refine PObj.by chk21 rfl (ev_add N F T l f b) ?_
  simp only [vcA, Int.toNat_natCast]
  refine ⟨fun h1 => ⟨⟨by omega, by omega, by (try simp); omega, by omega⟩, c_clS _ _ _ ⟨fun i j hi hj => ?_, hN⟩, ⟨⟨by omega, by omega⟩, allOne1 rfl⟩, ⟨⟨by omega, by omega⟩, allV1 rfl⟩, ?_⟩, fun h1 => ⟨c_clS _ _ _ ⟨int_cells _ _, hl⟩, ⟨⟨by omega, by omega⟩, allOne1 rfl⟩, ⟨⟨by omega, by omega⟩, allV1 rfl⟩, ?_⟩⟩
  · obtain rfl : j = 0 := by omega
    rfl
  · have hb : b = false := by simpa using h1
    subst hb
    refine ResOk.mk [] [(0, 100000), (1, 100001), (4, 22), (5, 32)] [] _ _ ?_ ⟨rfl, rfl⟩
    have el : (T ++ [addI N false (rowL l f 0)]).length = T.length + 1 := by simp
    generalize hx : addI N false (rowL l f 0) = x
    have hx1 : x.1 = false := by rw [← hx]; rfl
    have hx2 : x.2 = List.replicate N 0 := by rw [← hx]; rfl
    rw [hx] at el
    simp [doneC, resOf, resAV, tup, pinR, PV.Le_self, leA, res21, el]
    refine ⟨fun i hi => RR_app hi (by rw [hx2]; simp) fun j hj => ?_, fun i hi => MK_app hi hx1⟩
    have : x.2.getD j 0 = 0 := by rw [hx2]; simp [List.getD_eq_getElem?_getD, List.getElem?_replicate, hj]
    rw [this]
    exact .refl _
  · have hb : b = true := by simpa using h1
    subst hb
    refine ResOk.mk [] [(0, 100000), (1, 100001), (4, 22), (5, 32)] [] _ _ ?_ ⟨rfl, rfl⟩
    have el : (T ++ [addI N true (rowL l f 0)]).length = T.length + 1 := by simp
    generalize hx : addI N true (rowL l f 0) = x
    have hx1 : x.1 = true := by rw [← hx]; rfl
    have hx2 : x.2 = rowL l f 0 := by rw [← hx]; rfl
    rw [hx] at el
    simp [doneC, resOf, resAV, tup, pinR, PV.Le_self, leA, res21, el]
    refine ⟨fun i hi => RR_app hi (by rw [hx2, rowL_len]) fun j hj => ?_, fun i hi => MK_app hi hx1⟩
    rw [hx2, rowL_get hj]
    exact .refl _
theorem ev_srt : ∀ (n : Nat) (f : Nat → ByteArray) (m : Nat) (w : Nat → Nat) (h : Nat → Nat → Int) (r : Nat → Bool) (s : ByteArray) (dn : Bool), ev G0 res23 [] 3000 (Or.call [] (AV.cl (76 : FuncId) [] [.adr 0 0, .adr 1 0]) [(0, .box [AI (colT f s n)]), (1, .box [AB dn])] Or.nil) [.ir ir23] (start [PD false false false n f m w h m r, AT s, AB dn] []) = VC.call 55 [TL false n f, AT s, AB dn] [] (AV.cl (76 : FuncId) [] [.adr 0 0, .adr 1 0]) [(0, .box [AI (colT f s n)]), (1, .box [AB dn])] (VC.need (0 ≤ (↑m : Int) ∧ (↑m : Int) ≤ ↑m ∧ (↑8 : Int) * ↑m ≤ 281474976710656 ∧ (↑m : Int) ≤ 9223372036854775807) (VC.loop ir23_L1 [.bend 0, .ir ir23_T4] (St.mk [(0, AV.ag [TL false n f, RL false m w h, SL false 1 m (MK r)]), (1, AT s), (2, AB dn), (3, .adr 3 0), (6, .adr 6 0), (7, nilT), (8, .adr 8 0), (9, .own 22), (24, AI ↑m), (25, AI 0)] [(3, .box [TL false n f, RL false m w h, SL false 1 m (MK r)]), (6, .box [nilT, nilT, nilT]), (1018, .box [AI (colT f s n)]), (2018, .box [AB dn]), (8, .box [AV.cl 76 [] [.adr 1018 0, .adr 2018 0]]), (22, .row .u true 1 m (fun x j => PV.v ([Value.int IntKind.i64 0].getD j undef)) [])]))) := by intros; kernel_rfl
def st_srt (n : Nat) (f : Nat → ByteArray) (m : Nat) (w : Nat → Nat) (h : Nat → Nat → Int) (r : Nat → Bool) (c : Int) (dn : Bool) (x : Nat × (Nat → Nat)) : St := ⟨[(3, .adr 3 0), (6, .adr 6 0), (8, .adr 8 0), (9, .own 22), (24, AI m), (25, AI x.1)], [(3, .box [TL false n f, RL false m w h, ML false m r]), (6, .box [nilT, nilT, nilT]), (8, .box [.cl 76 [] [.adr 77001 0, .adr 77002 0]]), (77001, .box [AI c]), (77002, .box [AB dn]), (22, OR m x.2)]⟩
theorem c_stK (n : Nat) (f : Nat → ByteArray) (m : Nat) (w : Nat → Nat) (h : Nat → Nat → Int) (r : Nat → Bool) (c : Int) (dn : Bool) (N : Nat) (D : Nat → Nat) (hh : SkOk ⟨n, f, m, w, h, r, c, dn⟩ ∧ N ≤ 524288 ∧ ∀ i, i < N → D i < m) : PSome Tryz.prog G0 56 [.own 0, .cl 57 [] [.p false (pdD n f m w h m r), .p false (bx1 (roD c dn))]] [(0, OR N D)] (Nat → Nat) (SorP ⟨n, f, m, w, h, r, c, dn⟩ N D) (fun _ => .tp []) (fun D' => [(0, OR N D')]) :=
  c_stF ⟨n, f, m, w, h, r, c, dn⟩ N D hh
theorem evr_srt : ∀ (n : Nat) (f : Nat → ByteArray) (m : Nat) (w : Nat → Nat) (h : Nat → Nat → Int) (r : Nat → Bool) (c : Int) (dn : Bool) (I : Nat × (Nat → Nat) → St → Prop) (x : Nat × (Nat → Nat)), ev G0 res23 [] 3000 (Or.nil.split (Or.callE [22] (Nat → Nat) (SorP (SK.mk n f m w h r c dn) m x.2) (fun (x_1 : Nat → Nat) => AV.tp []) (fun (D' : Nat → Nat) => [(0, OR m D')]) fun (x_1 : Nat → Nat) => Or.call [] (.own 0) [(0, .row .u false 1 n (TR f) [])] Or.nil)) [.ir ir23_L1, .lend (I x), .bend 0, .ir ir23_T4] (st_srt n f m w h r c dn x) = VC.split (decide ((↑x.1 : Int) < ↑m)) (VC.need (0 ≤ (↑x.1 : Int) ∧ x.1 < m) (VC.need (x.1 < m) (VC.lend (I x) (St.mk [(3, .adr 3 0), (6, .adr 6 0), (8, .adr 8 0), (9, .own 22), (24, AI ↑m), (25, AI (IntKind.i64.wrap ((↑x.1 : Int) + 1))), (26, AB (decide ((↑x.1 : Int) < ↑m))), (10, AI ↑x.1)] [(3, .box [TL false n f, RL false m w h, SL false 1 m (MK r)]), (6, .box [nilT, nilT, nilT]), (8, .box [AV.cl 76 [] [.adr 77001 0, .adr 77002 0]]), (77001, .box [AI c]), (77002, .box [AB dn]), (22, .row .u true 1 m (setG [(x.1, 0, PV.v (Value.int IntKind.i64 (↑x.1 : Int)))] fun i x_1 => PI (↑(x.2 i) : Int)) [])])))) (VC.callE (Nat → Nat) 56 [.own 0, AV.cl 57 [] [AV.p false (PV.pp ([PV.sl false 1 n fun i x_1 => PT (f i), PV.sl false 1 m (RR w h), PV.sl false 1 m (MK r)].length - 0) fun j => [PV.sl false 1 n fun i x_1 => PT (f i), PV.sl false 1 m (RR w h), PV.sl false 1 m (MK r)].getD (0 + j) PV.any), AV.p false (PV.pp ([PV.cl 76 [] [PV.pp ([PV.v (Value.int IntKind.i64 c)].length - 0) fun j => [PV.v (Value.int IntKind.i64 c)].getD (0 + j) PV.any, PV.pp ([PV.v (Value.bool dn)].length - 0) fun j => [PV.v (Value.bool dn)].getD (0 + j) PV.any]].length - 0) fun j => [PV.cl 76 [] [PV.pp ([PV.v (Value.int IntKind.i64 c)].length - 0) fun j_1 => [PV.v (Value.int IntKind.i64 c)].getD (0 + j_1) PV.any, PV.pp ([PV.v (Value.bool dn)].length - 0) fun j_1 => [PV.v (Value.bool dn)].getD (0 + j_1) PV.any]].getD (0 + j) PV.any)]] [(0, .row .u true 1 m (fun i x_1 => PI (↑(x.2 i) : Int)) [])] (SorP (SK.mk n f m w h r c dn) m x.2) (fun (x_1 : Nat → Nat) => AV.tp []) (fun (D' : Nat → Nat) => [(0, OR m D')]) fun (x_1 : Nat → Nat) => VC.call 40 [TL false n f] [] (.own 0) [(0, .row .u false 1 n (TR f) [])] (VC.loop ir23_L2 [.bend 2, .ir ir23_T3] (St.mk [(3, .adr 3 0), (6, .adr 6 0), (8, .adr 8 0), (9, .own 22), (24, AI ↑m), (25, AI ↑x.1), (26, AB (decide ((↑x.1 : Int) < ↑m))), (11, .adr 11 0), (40, .own 22), (41, AI ↑m), (42, AI 0)] [(3, .box [TL false n f, RL false m w h, SL false 1 m (MK r)]), (6, .box [nilT, nilT, nilT]), (8, .box [AV.cl 76 [] [.adr 77001 0, .adr 77002 0]]), (77001, .box [AI c]), (77002, .box [AB dn]), (22, .row .u true 1 m (fun i x_2 => PI (↑(x_1 i) : Int)) []), (1038, .row .u false 1 n (TR f) []), (11, .box [.own 1038, nilT, nilT])]))) := by intros; kernel_rfl
def st_srt2 (n : Nat) (f : Nat → ByteArray) (m : Nat) (w : Nat → Nat) (h : Nat → Nat → Int) (r : Nat → Bool) (E : Nat → Nat) (x : Nat × LI) : St := ⟨[(3, .adr 3 0), (6, .adr 6 0), (11, .adr 11 0), (40, .own 22), (41, AI m), (42, AI x.1)], [(3, .box [TL false n f, RL false m w h, ML false m r]), (6, .box [nilT, nilT, nilT]), (22, OR m E), (1038, .row .u false 1 n (TR f) []), (77777, .row .u false 1 x.2.length (RR (iw x.2) (ih x.2)) []), (77778, .row .u false 1 x.2.length (MK (ib x.2)) []), (11, .box [.own 1038, .own 77777, .own 77778])]⟩
theorem c_ptP (r : Nat) (nn : Bool) (L : LP) (h : r ≤ 2 ∧ L.length ≤ 16777216) : PObj Tryz.prog G0 58 [AI r, NL nn L] [] (.own 0) [(0, CR false (trL r L))] := c_imPT r nn L h.1 h.2
theorem evr_srt2 : ∀ (n : Nat) (f : Nat → ByteArray) (m : Nat) (w : Nat → Nat) (h : Nat → Nat → Int) (r : Nat → Bool) (E : Nat → Nat) (I : Nat × LI → St → Prop) (x : Nat × LI), ev G0 res23 [] 3000 ((Or.call [11, 1038, 77777, 77778] (AV.tp []) (pdB' n f (x.2 ++ [addI n (r (↑(E x.1) : Int).toNat) (rowL (w (↑(E x.1) : Int).toNat) (h (↑(E x.1) : Int).toNat) 0)])) Or.nil).split (Or.call [] (.own 0) [(0, NR false (netL m))] (Or.call [] (.own 0) [(0, CR false (trL (nat_lit 2) (netL m)))] Or.nil))) [.ir ir23_L2, .lend (I x), .bend 2, .ir ir23_T3] (st_srt2 n f m w h r E x) = VC.split (decide ((↑x.1 : Int) < ↑m)) (VC.need (0 ≤ (↑x.1 : Int) ∧ x.1 < m) (VC.need (x.1 < m) (VC.need (0 ≤ (↑(E x.1) : Int) ∧ (↑(E x.1) : Int).toNat < m) (VC.need (0 ≤ (↑(E x.1) : Int) ∧ (↑(E x.1) : Int).toNat < m) (VC.call 21 [.adr 0 0, SL false 1 (w (↑(E x.1) : Int).toNat) fun j x_1 => PI (h (↑(E x.1) : Int).toNat j), AB (r (↑(E x.1) : Int).toNat)] [(0, .box [.own 1, .own 2, .own 3]), (1, .row .u false 1 n (TR f) []), (2, .row .u false 1 (x.2.length) (RR (iw x.2) (ih x.2)) []), (3, .row .u false 1 (x.2.length) (MK (ib x.2)) [])] (AV.tp []) (pdB' n f (x.2 ++ [addI n (r (↑(E x.1) : Int).toNat) (rowL (w (↑(E x.1) : Int).toNat) (h (↑(E x.1) : Int).toNat) 0)])) (VC.lend (I x) (St.mk [(3, .adr 3 0), (6, .adr 6 0), (11, .adr 11 0), (40, .own 22), (41, AI ↑m), (42, AI (IntKind.i64.wrap ((↑x.1 : Int) + 1))), (43, AB (decide ((↑x.1 : Int) < ↑m))), (13, AI (↑(E x.1) : Int))] [(3, .box [TL false n f, RL false m w h, SL false 1 m (MK r)]), (6, .box [nilT, nilT, nilT]), (22, .row .u true 1 m (fun i x_1 => PI (↑(E i) : Int)) []), (1038, .row .u false 1 n (TR f) []), (11, .box [.own 1038, .own 1056, .own 2056]), (1056, .row .u false 1 (List.length (x.2 ++ [addI n (r (↑(E x.1) : Int).toNat) (rowL (w (↑(E x.1) : Int).toNat) (h (↑(E x.1) : Int).toNat) 0)])) (RR (iw (x.2 ++ [addI n (r (↑(E x.1) : Int).toNat) (rowL (w (↑(E x.1) : Int).toNat) (h (↑(E x.1) : Int).toNat) 0)])) (ih (x.2 ++ [addI n (r (↑(E x.1) : Int).toNat) (rowL (w (↑(E x.1) : Int).toNat) (h (↑(E x.1) : Int).toNat) 0)]))) []), (2056, .row .u false 1 (List.length (x.2 ++ [addI n (r (↑(E x.1) : Int).toNat) (rowL (w (↑(E x.1) : Int).toNat) (h (↑(E x.1) : Int).toNat) 0)])) (MK (ib (x.2 ++ [addI n (r (↑(E x.1) : Int).toNat) (rowL (w (↑(E x.1) : Int).toNat) (h (↑(E x.1) : Int).toNat) 0)]))) [])]))))))) (VC.call 12 [AI ↑m] [] (.own 0) [(0, NR false (netL m))] (VC.call 58 [AI 2, SL false 2 (netL m).length (NB (netL m))] [] (.own 0) [(0, CR false (trL (nat_lit 2) (netL m)))] (VC.done (St.mk [(3, .adr 3 0), (6, .adr 6 0), (11, .adr 11 0), (40, .own 22), (41, AI ↑m), (42, AI ↑x.1), (43, AB (decide ((↑x.1 : Int) < ↑m))), (7, .own 1063)] [(3, .box [TL false n f, RL false m w h, SL false 1 m (MK r)]), (6, .box [.own 1038, .own 77777, .own 77778]), (22, .row .u true 1 m (fun i x_1 => PI (↑(E i) : Int)) []), (1038, .row .u false 1 n (TR f) []), (77777, .row .u false 1 (x.2.length) (RR (iw x.2) (ih x.2)) []), (77778, .row .u false 1 (x.2.length) (MK (ib x.2)) []), (11, .box [.own 1038, .own 77777, .own 77778]), (1063, .row .u false 3 (List.length (trL (nat_lit 2) (netL m))) (CB (trL (nat_lit 2) (netL m))) [])])))) := by intros; kernel_rfl
def srtP (c : Int) (dn : Bool) (T : LI) : LI := T.mergeSort fun x y => !ltX c dn y x
theorem srtP_perm (c : Int) (dn : Bool) (T : LI) : (srtP c dn T).Perm T := List.mergeSort_perm _ _
theorem srtP_sorted (c : Int) (dn : Bool) (T : LI) : (srtP c dn T).Pairwise fun x y => ltX c dn y x = false := by
  have hO := ltX_swo c dn
  have := List.pairwise_mergeSort (le := fun x y => !ltX c dn y x) (fun x y z h1 h2 => by
    simp only [Bool.not_eq_true'] at h1 h2 ⊢
    exact hO.ntrans _ _ _ h2 h1) (fun x y => by
    cases h3 : ltX c dn y x with
    | false => simp
    | true =>
      cases h4 : ltX c dn x y with
      | false => simp
      | true => have := hO.trans _ _ _ h3 h4; rw [hO.irrefl] at this; cases this) T
  exact this.imp fun h => by simpa using h
theorem srtP_eq {c : Int} {dn : Bool} {T T' : LI} (hp : T'.Perm T) (hs : T'.Pairwise fun x y => ltX c dn y x = false) : T' = srtP c dn T :=
  List.Perm.eq_of_pairwise (le := fun x y => ltX c dn y x = false) (fun a b _ _ h1 h2 => ltX_anti c dn a b h2 h1) hs (srtP_sorted c dn T) (hp.trans (srtP_perm c dn T).symm)
theorem srtP_len (c : Int) (dn : Bool) (T : LI) : (srtP c dn T).length = T.length := (srtP_perm c dn T).length_eq
structure SrOk (n : Nat) (f : Nat → ByteArray) (m : Nat) (w : Nat → Nat) (h : Nat → Nat → Int) (r : Nat → Bool) : Prop where
  hn : n ≤ 1048576
  hm : m ≤ 256
  hw : ∀ i, i < m → w i = n
  hz : ∀ i, i < m → r i = false → ∀ j, j < n → h i j = 0
theorem add_itm {n : Nat} {w : Nat → Nat} {h : Nat → Nat → Int} {r : Nat → Bool} {i : Nat} (hw : w i = n) (hz : r i = false → ∀ j, j < n → h i j = 0) : addI n (r i) (rowL (w i) (h i) 0) = itm w h r i := by
  cases e : r i with
  | true => simp [addI, itm, e]
  | false =>
    simp only [addI, itm, e, if_false, Bool.false_eq_true]
    refine Prod.ext rfl ?_
    rw [hw]
    apply List.ext_getElem
    · simp [rowL]
    · intro j h1 h2
      have hj : j < n := by simpa using h1
      simp [rowL, hz e j hj]
abbrev soH (n : Nat) (f : Nat → ByteArray) (T : LI) (L : LA) : List (Nat × Ob) := [(0, .row .u false 1 n (TR f) []), (1, .row .u false 1 T.length (RR (iw T) (ih T)) []), (2, .row .u false 1 T.length (MK (ib T)) []), (3, CR false L)]
abbrev soR : AV := .tp [pdR, .own 3]
theorem c_srt (n : Nat) (f : Nat → ByteArray) (m : Nat) (w : Nat → Nat) (h : Nat → Nat → Int) (r : Nat → Bool) (s : ByteArray) (dn : Bool) (ok : SrOk n f m w h r) : PObj Tryz.prog G0 23 [PD false false false n f m w h m r, AT s, AB dn] [] soR (soH n f (srtP (colT f s n) dn (itL m w h r)) (trL 2 (netL m))) := by
  have hm := ok.hm
  have hn := ok.hn
  have hlt := colT_lt f s n
  refine PObj.by chk23 rfl (ev_srt n f m w h r s dn) ?_
  simp only [vcA, Int.toNat_natCast]
  refine ⟨c_rO _ _ _ _ _ hn, ⟨by omega, by omega, by (try simp); omega, by omega⟩, ?_⟩
  generalize colT f s n = c at *
  have sk : SkOk ⟨n, f, m, w, h, r, c, dn⟩ := ⟨fun i hi h0 => by simp only [] at *; rw [ok.hw i hi]; omega, fun i hi => by simp only [] at *; rw [ok.hw i hi]; exact hn, by simp only []; omega⟩
  refine loop_by (st_srt n f m w h r c dn) (fun x => x.1 ≤ m ∧ ∀ j, j < x.1 → x.2 j = j) (fun x => m - x.1) (0, fun _ => 0) [] [(77001, 1018), (77002, 2018)] [] ⟨Nat.zero_le _, fun j hj => absurd hj (Nat.not_lt_zero _)⟩ ?_ (evr_srt n f m w h r c dn) fun x hx => ?_
  · simp [st_srt, leA, PV.Le_self, AV.leCs]
  · obtain ⟨k, D⟩ := x
    obtain ⟨hk, hD⟩ := hx
    simp only [] at hk hD
    have e1 : IntKind.i64.wrap ((k : Int) + 1) = ((k + 1 : Nat) : Int) := wrap_in (by omega) (by omega)
    simp only [vcA, Int.toNat_natCast]
    refine ⟨fun h1 => ⟨by omega, by omega, Again.mk (k + 1, fun j => if j = k then k else D j) [] [] [] ⟨by simp only []; omega, fun j hj => ?_⟩ (by simp only []; omega) ?_⟩, fun h1 => ?_⟩
    · simp only []
      by_cases e : j = k
      · simp [e]
      · simp only [e, if_false]; exact hD j (by simp only [] at hj; omega)
    · simp [st_srt, leA, PV.Le_self, AV.leCs, e1]
      intro i hi
      by_cases e : i = k
      · simp [setG, cellSet, e]; exact .refl _
      · simp [setG, cellSet, e]; exact .refl _
    · have hkm : k = m := by omega
      subst hkm
      refine ⟨c_stK n f k w h r c dn k D ⟨sk, by omega, fun i hi => by rw [hD i hi]; exact hi⟩, fun E hE => ⟨c_clT _ _ hn, ?_⟩⟩
      obtain ⟨hP, hS⟩ := hE
      have hEm : ∀ i, i < k → E i < k := fun i hi => hP.all (p := fun x => x < k) (fun j h1 h2 => by rw [hD j h2]; exact h2) i (Nat.zero_le _) hi
      have hres : (List.range k).map (fun j => itm w h r (E j)) = srtP c dn (itL k w h r) := by
        refine srtP_eq ?_ ?_
        · have := hP.perm
          rw [Nat.sub_zero, ← List.range_eq_range'] at this
          have e2 : (List.range k).map D = List.range k := by
            rw [show (List.range k).map D = (List.range k).map id from List.map_congr_left fun j hj => hD j (by simpa using hj), List.map_id]
          rw [e2] at this
          have := this.map (itm w h r)
          rw [List.map_map] at this
          exact this
        · rw [List.pairwise_iff_getElem]
          intro i j hi hj hij
          simp only [List.getElem_map, List.getElem_range]
          exact hS i j (Nat.zero_le _) hij (by simpa using hj)
      refine loop_by (st_srt2 n f k w h r E) (fun x => x.1 ≤ k ∧ x.2 = (List.range x.1).map fun j => itm w h r (E j)) (fun x => k - x.1) (0, []) [] [] [77777, 77778] ⟨Nat.zero_le _, rfl⟩ ?_ (evr_srt2 n f k w h r E) fun x hx => ?_
      · simp [st_srt2, leA, PV.Le_self, AV.leCs]
      · obtain ⟨q, T⟩ := x
        obtain ⟨hq, hT⟩ := hx
        simp only [] at hq hT
        have hTl : T.length = q := by rw [hT]; simp
        have e1 : IntKind.i64.wrap ((q : Int) + 1) = ((q + 1 : Nat) : Int) := wrap_in (by omega) (by omega)
        simp only [vcA, Int.toNat_natCast]
        refine ⟨fun h2 => ?_, fun h2 => ?_⟩
        · have hEq := hEm q (by omega)
          have hwE := ok.hw (E q) hEq
          refine ⟨by omega, by omega, by omega, by omega, c_add _ _ _ _ _ _ ⟨hn, by rw [hwE]; exact hn, by omega⟩, Again.mk (q + 1, T ++ [itm w h r (E q)]) [] [(77777, 1056), (77778, 2056)] [] ⟨by simp only []; omega, ?_⟩ (by simp only []; omega) ?_⟩
          · simp only [hT, List.range_succ, List.map_append, List.map_cons, List.map_nil]
          · rw [add_itm hwE (ok.hz (E q) hEq)]
            simp [st_srt2, leA, PV.Le_self, AV.leCs, e1]
        · have hqk : q = k := by omega
          subst hqk
          rw [hres] at hT
          subst hT
          refine ⟨c_niN _ (by omega), c_ptP _ _ _ ⟨Nat.le_refl _, netL_len (by omega)⟩, ?_⟩
          refine ResOk.mk [] [(0, 1038), (1, 77777), (2, 77778), (3, 1063)] [] _ _ ?_ ⟨rfl, rfl⟩
          simp [doneC, resOf, resAV, tup, pinR, PV.Le_self, leA, res23, AV.leCs]
end Go.Gw
