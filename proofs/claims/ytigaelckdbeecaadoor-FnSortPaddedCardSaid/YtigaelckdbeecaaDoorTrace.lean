/- Accesses; with no condition. -/
import Derived.Test.YtigaelckdbeecaaDoorNetW
import Derived.KernelRfl
namespace Go.Gw
open Go Go.Proofs
set_option linter.unusedSimpArgs false
set_option linter.unusedVariables false
set_option maxRecDepth 100000
def ir32_L1 : Ir :=
  (.seq
  (.reg [] [o 14 (.bin .lss (tt 13) (tt 12))])
  (.seq
  (.cond (tt 14)
   .skip
   (.exit 0))
  (.seq
  (.block 1
   (.seq
   (.reg [15] [o 15 (.mov (tt 13)),
     o 5 (.mov (tt 15))])
   (.seq
   (.dreg [16, 17, 18, 19, 20, 21, 22, 23] [0, 0, 3, 7, 0, 0, 48, 112, 255] [(3, 1019), (3, 2019), (3, 3019), (7, 1023), (7, 2023), (7, 3023)] [o 16 (.mov (tt 0)),
     o 17 (.mov (tt 5)),
     o 18 (.idx 3 (tt 16) (tt 17)),
     o 19 (.load true 3 (tt 18)),
     o 20 (.mov (tt 1)),
     o 21 (.mov (tt 5)),
     o 22 (.idx 3 (tt 20) (tt 21)),
     o 23 (.load true 3 (tt 22)),
     o 24 (.eqA true [true, true, false] (tt 19) (tt 23))])
   (.cond (tt 24)
    (.seq
    (.reg [] [o 4 (.mov (cb false))])
    .ret)
    .skip))))
  (.reg [25] [o 25 (.bin .add (tt 13) (ci 1)),
    o 13 (.mov (tt 25))]))))
def ir32_T2 : Ir :=
  (.seq
  (.reg [] [o 4 (.mov (cb true))])
  .ret)
def ir32 : Ir :=
  (.seq
  (.reg [] [o 4 (.mov (cb false))])
  (.seq
  (.seq
  (.reg [6, 7, 8, 9] [o 6 (.mov (tt 0)),
    o 7 (.len (tt 6)),
    o 8 (.mov (tt 1)),
    o 9 (.len (tt 8)),
    o 10 (.bin .neq (tt 7) (tt 9))])
  (.cond (tt 10)
   (.seq
   (.reg [] [o 4 (.mov (cb false))])
   .ret)
   .skip))
  (.seq
  (.seq
  (.reg [11] [o 11 (.mov (tt 0)),
    o 12 (.len (tt 11)),
    o 13 (.mov (ci 0))])
  (.block 0
   (.loop ir32_L1)))
  ir32_T2)))
def keep32 : List Nat := [0, 1, 4, 5, 10, 12, 13, 14, 24]
def res32 : List RI := [.tmp 4]
theorem chk32 : chk Tryd.prog 32 2 keep32 = some (ir32, res32) := by kernel_rfl
def ir8 : Ir :=
  (.seq
  (.reg [] [o 4 (.mov (cb false))])
  (.seq
  (.reg [5, 6, 7] [o 5 (.mov (tt 0)),
    o 6 (.mov (tt 1)),
    o 7 (.call 32 [(tt 5), (tt 6)]),
    o 4 (.mov (tt 7))])
  .ret))
def keep8 : List Nat := [0, 1, 4]
def res8 : List RI := [.tmp 4]
theorem chk8 : chk Tryd.prog 8 2 keep8 = some (ir8, res8) := by kernel_rfl
def ir16_L1 : Ir :=
  (.seq
  (.reg [] [o 14 (.bin .lss (tt 13) (tt 12))])
  (.seq
  (.cond (tt 14)
   .skip
   (.exit 0))
  (.seq
  (.block 1
   (.seq
   (.reg [15, 16] [o 15 (.idx 2 (tt 11) (tt 13)),
     o 16 (.load true 2 (tt 15)),
     o 7 (.alloc [(.int .i64 0), (.int .i64 0)]),
     on (.store 2 (tt 7) (tt 16))])
   (.reg [17, 18, 19, 20, 21, 22, 23, 24, 25, 26, 27, 28, 29, 30, 31, 32, 33, 34, 35] [o 17 (.mov (tt 5)),
     o 18 (.mov (tt 0)),
     o 19 (.fadr 0 (tt 7)),
     o 20 (.load false 1 (tt 19)),
     o 21 (.build [(.int .i64 0), (.int .i64 0), (.bool false)] [(0, 1, (tt 18)), (1, 1, (tt 20)), (2, 1, (cb false))]),
     o 22 (.mov (tt 0)),
     o 23 (.fadr 1 (tt 7)),
     o 24 (.load false 1 (tt 23)),
     o 25 (.build [(.int .i64 0), (.int .i64 0), (.bool false)] [(0, 1, (tt 22)), (1, 1, (tt 24)), (2, 1, (cb false))]),
     o 26 (.mov (tt 0)),
     o 27 (.fadr 0 (tt 7)),
     o 28 (.load false 1 (tt 27)),
     o 29 (.build [(.int .i64 0), (.int .i64 0), (.bool false)] [(0, 1, (tt 26)), (1, 1, (tt 28)), (2, 1, (cb true))]),
     o 30 (.mov (tt 0)),
     o 31 (.fadr 1 (tt 7)),
     o 32 (.load false 1 (tt 31)),
     o 33 (.build [(.int .i64 0), (.int .i64 0), (.bool false)] [(0, 1, (tt 30)), (1, 1, (tt 32)), (2, 1, (cb true))]),
     o 34 (.mkSl 3 4 [(.int .i64 0), (.int .i64 0), (.bool false)] [(0, (tt 21)), (1, (tt 25)), (2, (tt 29)), (3, (tt 33))]),
     o 35 (.app 3 24 true (tt 17) (tt 34)),
     o 5 (.mov (tt 35))])))
  (.reg [36] [o 36 (.bin .add (tt 13) (ci 1)),
    o 13 (.mov (tt 36))]))))
def ir16_T2 : Ir :=
  (.seq
  (.reg [37] [o 37 (.mov (tt 5)),
    o 4 (.mov (tt 37))])
  .ret)
def ir16 : Ir :=
  (.seq
  (.reg [] [o 4 (.mov (.const (.slice none 0 0)))])
  (.seq
  (.seq
  (.reg [8, 9] [o 8 (.mov (tt 0)),
    o 9 (.call 46 [(tt 8)]),
    o 10 (.un .not (tt 9))])
  (.cond (tt 10)
   (.seq
   (.reg [] [o 4 (.mov (.const (.slice none 0 0)))])
   .ret)
   .skip))
  (.seq
  (.reg [] [o 5 (.mov (.const (.slice none 0 0)))])
  (.seq
  (.seq
  (.reg [] [o 11 (.mov (tt 1)),
    o 12 (.len (tt 11)),
    o 13 (.mov (ci 0))])
  (.block 0
   (.loop ir16_L1)))
  ir16_T2))))
def keep16 : List Nat := [0, 1, 4, 5, 7, 10, 11, 12, 13, 14]
def res16 : List RI := [.tmp 4]
theorem chk16 : chk Tryd.prog 16 2 keep16 = some (ir16, res16) := by kernel_rfl
def ir46 : Ir :=
  (.seq
  (.reg [] [o 2 (.mov (cb false))])
  (.seq
  (.reg [3, 4] [o 3 (.mov (tt 0)),
    o 4 (.call 47 [(tt 3), (ci 0), (ci 2)]),
    o 2 (.mov (tt 4))])
  .ret))
def keep46 : List Nat := [0, 2]
def res46 : List RI := [.tmp 2]
theorem chk46 : chk Tryd.prog 46 1 keep46 = some (ir46, res46) := by kernel_rfl
def ir27_L1 : Ir :=
  (.seq
  (.seq
  (.reg [10, 11, 12, 13, 14, 15, 16] [o 10 (.mov (tt 6)),
    o 11 (.mov (tt 1)),
    o 12 (.len (tt 11)),
    o 13 (.bin .lss (tt 10) (tt 12)),
    o 14 (.mov (tt 13)),
    og 15 14 true (.mov (tt 0)),
    og 16 14 true (.call 57 [(tt 15), (ci 0), (ci 2)]),
    o 17 (.pick (tt 14) (tt 16) (cb false))])
  (.cond (tt 17)
   .skip
   (.exit 0)))
  (.seq
  (.block 1
   (.seq
   (.reg [20, 21, 22, 23, 24] [o 20 (.mov (tt 1)),
     o 21 (.mov (tt 6)),
     o 22 (.idx 2 (tt 20) (tt 21)),
     o 23 (.fadr 0 (tt 22)),
     o 24 (.load false 1 (tt 23)),
     o 7 (.mov (tt 24))])
   (.seq
   (.reg [25, 26, 27, 28, 29] [o 25 (.mov (tt 1)),
     o 26 (.mov (tt 6)),
     o 27 (.idx 2 (tt 25) (tt 26)),
     o 28 (.fadr 1 (tt 27)),
     o 29 (.load false 1 (tt 28)),
     o 8 (.mov (tt 29))])
   (.reg [30, 31, 32, 33, 34, 35, 36, 37, 38, 39, 40, 41, 42, 43, 44] [o 30 (.mov (tt 5)),
     o 31 (.mov (tt 0)),
     o 32 (.mov (tt 7)),
     o 33 (.build [(.int .i64 0), (.int .i64 0), (.bool false)] [(0, 1, (tt 31)), (1, 1, (tt 32))]),
     o 34 (.mov (tt 0)),
     o 35 (.mov (tt 8)),
     o 36 (.build [(.int .i64 0), (.int .i64 0), (.bool false)] [(0, 1, (tt 34)), (1, 1, (tt 35))]),
     o 37 (.mov (tt 0)),
     o 38 (.mov (tt 7)),
     o 39 (.build [(.int .i64 0), (.int .i64 0), (.bool false)] [(0, 1, (tt 37)), (1, 1, (tt 38)), (2, 1, (cb true))]),
     o 40 (.mov (tt 0)),
     o 41 (.mov (tt 8)),
     o 42 (.build [(.int .i64 0), (.int .i64 0), (.bool false)] [(0, 1, (tt 40)), (1, 1, (tt 41)), (2, 1, (cb true))]),
     o 43 (.mkSl 3 4 [(.int .i64 0), (.int .i64 0), (.bool false)] [(0, (tt 33)), (1, (tt 36)), (2, (tt 39)), (3, (tt 42))]),
     o 44 (.app 3 24 true (tt 30) (tt 43)),
     o 5 (.mov (tt 44))]))))
  (.reg [18, 19] [o 18 (.mov (tt 6)),
    o 19 (.bin .add (tt 18) (ci 1)),
    o 6 (.mov (tt 19))])))
def ir27_T2 : Ir :=
  (.seq
  (.reg [45] [o 45 (.mov (tt 5)),
    o 4 (.mov (tt 45))])
  .ret)
def ir27 : Ir :=
  (.seq
  (.reg [] [o 4 (.mov (.const (.slice none 0 0)))])
  (.seq
  (.reg [9] [o 9 (.mkSl 3 0 [(.int .i64 0), (.int .i64 0), (.bool false)] []),
    o 5 (.mov (tt 9))])
  (.seq
  (.seq
  (.reg [] [o 6 (.mov (ci 0))])
  (.block 0
   (.loop ir27_L1)))
  ir27_T2)))
def keep27 : List Nat := [0, 1, 4, 5, 6, 7, 8, 17]
def res27 : List RI := [.tmp 4]
theorem chk27 : chk Tryd.prog 27 2 keep27 = some (ir27, res27) := by kernel_rfl

/-- Accesses: region, place, whether it is written. -/
abbrev LA := List (Nat × Nat × Bool)
abbrev accD (L : LA) (i : Nat) : Nat × Nat × Bool := L.getD i (0, 0, false)
abbrev CB (L : LA) : Nat → Nat → PV := fun i j => match j with
  | 0 => PI ((accD L i).1 : Nat)
  | 1 => PI ((accD L i).2.1 : Nat)
  | _ => .v (.bool (accD L i).2.2)
abbrev CR (nn : Bool) (L : LA) : Ob := .row .u nn 3 L.length (CB L) []
abbrev CL (nn : Bool) (L : LA) : AV := .p false (.sl nn 3 L.length (CB L))
theorem ev_eqC : ∀ (nn nn' : Bool) (L M : LA), ev G0 res32 [] (3000 : Nat) (Or.nil.split Or.nil) [Item.ir ir32] (start [CL nn L, CL nn' M] []) = VC.split ((↑(List.length L) : Int) != (↑(List.length M) : Int)) (VC.doneP (AV.p true (PV.v (Value.bool false)))) (VC.loop ir32_L1 [Item.bend (0 : Nat), Item.ir ir32_T2] (St.mk [((0 : Nat), AV.p false (PV.sl nn (3 : Nat) (List.length L) (CB L))), ((1 : Nat), AV.p false (PV.sl nn' (3 : Nat) (List.length M) (CB M))), ((4 : Nat), AV.p true (PV.v (Value.bool false))), ((10 : Nat), AV.p true (PV.v (Value.bool ((↑(List.length L) : Int) != (↑(List.length M) : Int))))), ((12 : Nat), AV.p true (PV.v (Value.int IntKind.i64 (↑(List.length L) : Int)))), ((13 : Nat), AV.p true (PV.v (Value.int IntKind.i64 (0 : Int))))] [])) := by intros; kernel_rfl
def st_eqC (nn nn' : Bool) (L M : LA) (k : Nat) : St := ⟨[(0, CL nn L), (1, CL nn' M), (12, AI L.length), (13, AI k)], []⟩
theorem evr_eqC : ∀ (nn nn' : Bool) (L M : LA) (I : Nat → St → Prop) (k : Nat), ev G0 res32 [] (3000 : Nat) ((Or.nil.split Or.nil).split Or.nil) [Item.ir ir32_L1, Item.lend (I k), Item.bend (0 : Nat), Item.ir ir32_T2] (st_eqC nn nn' L M k) = VC.split (decide ((↑k : Int) < (↑(List.length L) : Int))) (VC.need ((0 : Int) ≤ (↑k : Int) ∧ (↑k : Int).toNat < List.length L) (VC.need ((0 : Int) ≤ (↑k : Int) ∧ (↑k : Int).toNat < List.length M) (VC.split (match true with | true => !((↑(accD L (↑k : Int).toNat).1 : Int) == (↑(accD M (↑k : Int).toNat).1 : Int) && ((↑(accD L (↑k : Int).toNat).2.1 : Int) == (↑(accD M (↑k : Int).toNat).2.1 : Int) && ((accD L (↑k : Int).toNat).2.2 == (accD M (↑k : Int).toNat).2.2 && true))) | false => (↑(accD L (↑k : Int).toNat).1 : Int) == (↑(accD M (↑k : Int).toNat).1 : Int) && ((↑(accD L (↑k : Int).toNat).2.1 : Int) == (↑(accD M (↑k : Int).toNat).2.1 : Int) && ((accD L (↑k : Int).toNat).2.2 == (accD M (↑k : Int).toNat).2.2 && true))) (VC.doneP (AV.p true (PV.v (Value.bool false)))) (VC.lend (I k) (St.mk [((0 : Nat), AV.p false (PV.sl nn (3 : Nat) (List.length L) (CB L))), ((1 : Nat), AV.p false (PV.sl nn' (3 : Nat) (List.length M) (CB M))), ((12 : Nat), AV.p true (PV.v (Value.int IntKind.i64 (↑(List.length L) : Int)))), ((13 : Nat), AV.p true (PV.v (Value.int IntKind.i64 (IntKind.i64.wrap ((↑k : Int) + (1 : Int)))))), ((14 : Nat), AV.p true (PV.v (Value.bool (decide ((↑k : Int) < (↑(List.length L) : Int)))))), ((5 : Nat), AV.p true (PV.v (Value.int IntKind.i64 (↑k : Int)))), ((24 : Nat), AV.p true (PV.v (Value.bool (match true with | true => !((↑(accD L (↑k : Int).toNat).1 : Int) == (↑(accD M (↑k : Int).toNat).1 : Int) && ((↑(accD L (↑k : Int).toNat).2.1 : Int) == (↑(accD M (↑k : Int).toNat).2.1 : Int) && ((accD L (↑k : Int).toNat).2.2 == (accD M (↑k : Int).toNat).2.2 && true))) | false => (↑(accD L (↑k : Int).toNat).1 : Int) == (↑(accD M (↑k : Int).toNat).1 : Int) && ((↑(accD L (↑k : Int).toNat).2.1 : Int) == (↑(accD M (↑k : Int).toNat).2.1 : Int) && ((accD L (↑k : Int).toNat).2.2 == (accD M (↑k : Int).toNat).2.2 && true))))))] []))))) (VC.doneP (AV.p true (PV.v (Value.bool true)))) := by intros; kernel_rfl
theorem list_eq_of {α : Type} [BEq α] [LawfulBEq α] {d : α} {L M : List α} (hl : L.length = M.length) (h : ∀ i, i < L.length → L.getD i d = M.getD i d) : L = M := by
  apply List.ext_getElem hl
  intro i h1 h2
  have := h i h1
  simpa [List.getD_eq_getElem?_getD, h1, h2] using this
theorem c_eqC (nn nn' : Bool) (L M : LA) (hL : L.length ≤ 1000000000) : PRet Tryd.prog G0 32 [CL nn L, CL nn' M] (AB (L == M)) := by
  refine PRet.by chk32 (ev_eqC nn nn' L M) ?_
  simp only [VC.holds_split, VC.holds_need, VC.holds_doneP, VC.holds_done, VC.holds_either, VC.holds_call, VC.holds_callE, VC.holds_lend, VC.holds_stop, VC.holds_fail, decide_eq_true_eq, decide_eq_false_iff_not]
  refine ⟨fun h => ?_, fun h => ?_⟩
  · have : ¬ L = M := fun e => by rw [e] at h; simp at h
    simp [this]
  · have hl : L.length = M.length := by simp at h; omega
    refine loop_by (st_eqC nn nn' L M) (fun k => k ≤ L.length ∧ ∀ j, j < k → accD L j = accD M j) (fun k => L.length - k) 0 [] [] [] (by simp) ?_ (evr_eqC nn nn' L M) fun k hk => ?_
    · simp [st_eqC, hbs, St.lowers, St.lower, stLe, leEnv, leObs, obLe, injB, pinC, AV.leC, AV.leCs, PV.leC, PV.Le_v, St.get, St.obj, look, rho, isNew, keptC, renH, Mode.ok, Mode.isZ, PV.isVal, PV.isNilSl, List.all_nil, List.all_cons, List.any_nil, List.any_cons, List.map_nil, List.map_cons, PV.Le_self]
    · obtain ⟨hk, hall⟩ := hk
      have e1 : IntKind.i64.wrap ((k : Int) + 1) = ((k + 1 : Nat) : Int) := wrap_in (by omega) (by omega)
      simp only [VC.holds_split, VC.holds_need, VC.holds_doneP, VC.holds_done, VC.holds_either, VC.holds_call, VC.holds_callE, VC.holds_lend, VC.holds_stop, VC.holds_fail, decide_eq_true_eq, decide_eq_false_iff_not, Int.toNat_natCast]
      refine ⟨fun h1 => ⟨by omega, by omega, fun h2 => ?_, fun h2 => Again.mk (k + 1) [] [] [] ⟨by omega, fun j hj => ?_⟩ (by omega) ?_⟩, fun h1 => ?_⟩
      · have : ¬ L = M := fun e => by
          subst e; simp at h2
        simp [this]
      · by_cases h3 : j = k
        · subst h3
          simp only [Bool.not_eq_false', Bool.and_eq_true, beq_iff_eq] at h2
          obtain ⟨a1, a2, a3⟩ := h2
          refine Prod.ext ?_ (Prod.ext ?_ ?_)
          · exact Int.ofNat.inj a1
          · exact Int.ofNat.inj a2
          · simpa using a3
        · exact hall j (by omega)
      · simp [st_eqC, hbs, St.lowers, St.lower, stLe, leEnv, leObs, obLe, injB, pinC, AV.leC, AV.leCs, PV.leC, PV.Le_v, St.get, St.obj, look, rho, isNew, keptC, renH, Mode.ok, Mode.isZ, PV.isVal, PV.isNilSl, List.all_nil, List.all_cons, List.any_nil, List.any_cons, List.map_nil, List.map_cons, PV.Le_self, e1]
      · have : k = L.length := by omega
        subst this
        have : L = M := list_eq_of hl hall
        simp [this]
theorem ev_sTr : ∀ (nn nn' : Bool) (L M : LA), ev G0 res8 [] (3000 : Nat) (Or.call [] (AB (L == M)) [] Or.nil) [Item.ir ir8] (start [CL nn L, CL nn' M] []) = VC.call (32 : Nat) [AV.p false (PV.sl nn (3 : Nat) (List.length L) (CB L)), AV.p false (PV.sl nn' (3 : Nat) (List.length M) (CB M))] [] (AB (L == M)) [] (VC.doneP (AV.p true (PV.v (Value.bool (L == M))))) := by intros; kernel_rfl
theorem c_sTr (nn nn' : Bool) (L M : LA) (hL : L.length ≤ 1000000000) : PRet Tryd.prog G0 8 [CL nn L, CL nn' M] (AB (L == M)) := by
  refine PRet.by chk8 (ev_sTr nn nn' L M) ?_
  simp only [VC.holds_split, VC.holds_need, VC.holds_doneP, VC.holds_done, VC.holds_either, VC.holds_call, VC.holds_callE, VC.holds_lend, VC.holds_stop, VC.holds_fail, decide_eq_true_eq, decide_eq_false_iff_not]
  exact ⟨c_eqC _ _ _ _ hL, by simp⟩
/-! ### accesses of pairs -/
def trP (r : Nat) (x : Nat × Nat) : LA := [(r, x.1, false), (r, x.2, false), (r, x.1, true), (r, x.2, true)]
def trL (r : Nat) (L : LP) : LA := L.flatMap (trP r)
theorem trL_len (r : Nat) : ∀ L : LP, (trL r L).length = 4 * L.length
  | [] => rfl
  | x :: L => by
    have := trL_len r L
    simp only [trL, List.flatMap_cons, List.length_append, List.length_cons, trP] at this ⊢
    simp only [List.length_nil]
    omega
theorem trL_take (r : Nat) {L : LP} {k : Nat} (h : k < L.length) : trL r (L.take (k + 1)) = trL r (L.take k) ++ trP r (L.getD k (0, 0)) := by
  rw [List.take_succ_eq_append_getElem h]
  simp only [trL, List.flatMap_append, List.flatMap_cons, List.flatMap_nil, List.append_nil, List.getD_eq_getElem?_getD, List.getElem?_eq_getElem h, Option.getD_some]
theorem CB_app {L M : LA} {i j : Nat} {g : PV} (hj : j < 3) (h : L.length ≤ i → PV.Le g (CB M (i - L.length) j)) : PV.Le (if i < L.length then CB L i j else g) (CB (L ++ M) i j) := by
  by_cases e : i < L.length
  · have e2 : accD (L ++ M) i = accD L i := by simp only [accD, List.getD_eq_getElem?_getD, List.getElem?_append_left e]
    simp only [e, if_true, CB, e2]
    exact .refl _
  · have e2 : accD (L ++ M) i = accD M (i - L.length) := by simp only [accD, List.getD_eq_getElem?_getD, List.getElem?_append_right (Nat.le_of_not_lt e)]
    simp only [e, if_false]
    have := h (by omega)
    simp only [CB, e2] at this ⊢
    exact this
theorem ev_isR : ∀ (r : Int), ev G0 res46 [] (3000 : Nat) (Or.call [] (AB (inB r (0 : Int) (2 : Int))) [] Or.nil) [Item.ir ir46] (start [AI r] []) = VC.call (47 : Nat) [AV.p true (PV.v (Value.int IntKind.i64 r)), AV.p true (PV.v (Value.int IntKind.i64 (0 : Int))), AV.p true (PV.v (Value.int IntKind.i64 (2 : Int)))] [] (AB (inB r (0 : Int) (2 : Int))) [] (VC.doneP (AV.p true (PV.v (Value.bool (inB r (0 : Int) (2 : Int)))))) := by intros; kernel_rfl
theorem c_isR (r : Int) : PRet Tryd.prog G0 46 [AI r] (AB (inB r 0 2)) := by
  refine PRet.by chk46 (ev_isR r) ?_
  simp only [VC.holds_split, VC.holds_need, VC.holds_doneP, VC.holds_done, VC.holds_either, VC.holds_call, VC.holds_callE, VC.holds_lend, VC.holds_stop, VC.holds_fail, decide_eq_true_eq, decide_eq_false_iff_not]
  exact ⟨c_in _ _ _, by simp⟩
theorem ev_imPT : ∀ (r : Nat) (nn : Bool) (L : LP), ev G0 res16 [] (3000 : Nat) (Or.call [] (AB (inB (↑r : Int) (0 : Int) (2 : Int))) [] (Or.nil.split Or.nil)) [Item.ir ir16] (start [AI (↑r : Int), NL nn L] []) = VC.call (46 : Nat) [AV.p true (PV.v (Value.int IntKind.i64 (↑r : Int)))] [] (AB (inB (↑r : Int) (0 : Int) (2 : Int))) [] (VC.split (!inB (↑r : Int) (0 : Int) (2 : Int)) (VC.done (St.mk [((0 : Nat), AV.p true (PV.v (Value.int IntKind.i64 (↑r : Int)))), ((1 : Nat), AV.p false (PV.sl nn (2 : Nat) (List.length L) (NB L))), ((4 : Nat), AV.p true (PV.v (Value.slice none (0 : Nat) (0 : Nat)))), ((10 : Nat), AV.p true (PV.v (Value.bool !inB (↑r : Int) (0 : Int) (2 : Int))))] [])) (VC.loop ir16_L1 [Item.bend (0 : Nat), Item.ir ir16_T2] (St.mk [((0 : Nat), AV.p true (PV.v (Value.int IntKind.i64 (↑r : Int)))), ((1 : Nat), AV.p false (PV.sl nn (2 : Nat) (List.length L) (NB L))), ((4 : Nat), AV.p true (PV.v (Value.slice none (0 : Nat) (0 : Nat)))), ((10 : Nat), AV.p true (PV.v (Value.bool !inB (↑r : Int) (0 : Int) (2 : Int)))), ((5 : Nat), AV.p true (PV.v (Value.slice none (0 : Nat) (0 : Nat)))), ((11 : Nat), AV.p false (PV.sl nn (2 : Nat) (List.length L) (NB L))), ((12 : Nat), AV.p true (PV.v (Value.int IntKind.i64 (↑(List.length L) : Int)))), ((13 : Nat), AV.p true (PV.v (Value.int IntKind.i64 (0 : Int))))] []))) := by intros; kernel_rfl
def st_imPT (r : Nat) (nn : Bool) (L : LP) (x : Nat × LA) : St := ⟨[(0, AI r), (5, .own 77777), (11, NL nn L), (12, AI L.length), (13, AI x.1)], [(77777, CR false x.2)]⟩
theorem evr_imPT : ∀ (r : Nat) (nn : Bool) (L : LP) (I : Nat × LA → St → Prop) (x : Nat × LA), ev G0 res16 [] (3000 : Nat) (Or.nil.split Or.nil) [Item.ir ir16_L1, Item.lend (I x), Item.bend (0 : Nat), Item.ir ir16_T2] (st_imPT r nn L x) = VC.split (decide ((↑x.1 : Int) < (↑(List.length L) : Int))) (VC.need ((0 : Int) ≤ (↑x.1 : Int) ∧ (↑x.1 : Int).toNat < List.length L) (VC.need (((List.length x.2 + (4 : Nat)) * (24 : Nat) ≤ (140737488355328 : Nat) ∧ (↑(List.length x.2 + (4 : Nat)) : Int) ≤ (9223372036854775807 : Int)) ∧ allV (3 : Nat) (4 : Nat) fun (a b : Nat) => if b = (0 : Nat) + (1 : Nat) + (1 : Nat) ∧ a = nat_lit 3 then PV.v (Value.bool true) else cellSet (cellSet (cellSet (cellSet (cellSet (cellSet (cellSet (cellSet (cellSet (cellSet (cellSet (fun (x_1 j : Nat) => PV.v ([Value.int IntKind.i64 (0 : Int), Value.int IntKind.i64 (0 : Int), Value.bool false].getD j undef)) (nat_lit 0) (0 : Nat) (PV.v (Value.int IntKind.i64 (↑r : Int)))) (nat_lit 0) ((0 : Nat) + (1 : Nat)) (PV.v (Value.int IntKind.i64 (↑(nb L (↑x.1 : Int).toNat (nat_lit 0)) : Int)))) (nat_lit 0) ((0 : Nat) + (1 : Nat) + (1 : Nat)) (PV.v (Value.bool false))) (nat_lit 1) (0 : Nat) (PV.v (Value.int IntKind.i64 (↑r : Int)))) (nat_lit 1) ((0 : Nat) + (1 : Nat)) (PV.v (Value.int IntKind.i64 (↑(nb L (↑x.1 : Int).toNat (nat_lit 1)) : Int)))) (nat_lit 1) ((0 : Nat) + (1 : Nat) + (1 : Nat)) (PV.v (Value.bool false))) (nat_lit 2) (0 : Nat) (PV.v (Value.int IntKind.i64 (↑r : Int)))) (nat_lit 2) ((0 : Nat) + (1 : Nat)) (PV.v (Value.int IntKind.i64 (↑(nb L (↑x.1 : Int).toNat (nat_lit 0)) : Int)))) (nat_lit 2) ((0 : Nat) + (1 : Nat) + (1 : Nat)) (PV.v (Value.bool true))) (nat_lit 3) (0 : Nat) (PV.v (Value.int IntKind.i64 (↑r : Int)))) (nat_lit 3) ((0 : Nat) + (1 : Nat)) (PV.v (Value.int IntKind.i64 (↑(nb L (↑x.1 : Int).toNat (nat_lit 1)) : Int))) a b) (VC.lend (I x) (St.mk [((0 : Nat), AV.p true (PV.v (Value.int IntKind.i64 (↑r : Int)))), ((5 : Nat), AV.own (35 : Nat)), ((11 : Nat), AV.p false (PV.sl nn (2 : Nat) (List.length L) (NB L))), ((12 : Nat), AV.p true (PV.v (Value.int IntKind.i64 (↑(List.length L) : Int)))), ((13 : Nat), AV.p true (PV.v (Value.int IntKind.i64 (IntKind.i64.wrap ((↑x.1 : Int) + (1 : Int)))))), ((14 : Nat), AV.p true (PV.v (Value.bool (decide ((↑x.1 : Int) < (↑(List.length L) : Int)))))), ((7 : Nat), AV.adr (7 : Nat) (0 : Nat))] [((7 : Nat), Ob.box [AV.p true (PV.v (Value.int IntKind.i64 (↑(nb L (↑x.1 : Int).toNat (nat_lit 0)) : Int))), AV.p true (PV.v (Value.int IntKind.i64 (↑(nb L (↑x.1 : Int).toNat (nat_lit 1)) : Int)))]), ((35 : Nat), Ob.row Mode.u false (3 : Nat) (List.length x.2 + (4 : Nat)) (fun (a b : Nat) => if a < List.length x.2 then CB x.2 a b else if b = (0 : Nat) + (1 : Nat) + (1 : Nat) ∧ a - List.length x.2 = nat_lit 3 then PV.v (Value.bool true) else cellSet (cellSet (cellSet (cellSet (cellSet (cellSet (cellSet (cellSet (cellSet (cellSet (cellSet (fun (x_1 j : Nat) => PV.v ([Value.int IntKind.i64 (0 : Int), Value.int IntKind.i64 (0 : Int), Value.bool false].getD j undef)) (nat_lit 0) (0 : Nat) (PV.v (Value.int IntKind.i64 (↑r : Int)))) (nat_lit 0) ((0 : Nat) + (1 : Nat)) (PV.v (Value.int IntKind.i64 (↑(nb L (↑x.1 : Int).toNat (nat_lit 0)) : Int)))) (nat_lit 0) ((0 : Nat) + (1 : Nat) + (1 : Nat)) (PV.v (Value.bool false))) (nat_lit 1) (0 : Nat) (PV.v (Value.int IntKind.i64 (↑r : Int)))) (nat_lit 1) ((0 : Nat) + (1 : Nat)) (PV.v (Value.int IntKind.i64 (↑(nb L (↑x.1 : Int).toNat (nat_lit 1)) : Int)))) (nat_lit 1) ((0 : Nat) + (1 : Nat) + (1 : Nat)) (PV.v (Value.bool false))) (nat_lit 2) (0 : Nat) (PV.v (Value.int IntKind.i64 (↑r : Int)))) (nat_lit 2) ((0 : Nat) + (1 : Nat)) (PV.v (Value.int IntKind.i64 (↑(nb L (↑x.1 : Int).toNat (nat_lit 0)) : Int)))) (nat_lit 2) ((0 : Nat) + (1 : Nat) + (1 : Nat)) (PV.v (Value.bool true))) (nat_lit 3) (0 : Nat) (PV.v (Value.int IntKind.i64 (↑r : Int)))) (nat_lit 3) ((0 : Nat) + (1 : Nat)) (PV.v (Value.int IntKind.i64 (↑(nb L (↑x.1 : Int).toNat (nat_lit 1)) : Int))) (a - List.length x.2) b) [])])))) (VC.done (St.mk [((0 : Nat), AV.p true (PV.v (Value.int IntKind.i64 (↑r : Int)))), ((5 : Nat), AV.own (77777 : Nat)), ((11 : Nat), AV.p false (PV.sl nn (2 : Nat) (List.length L) (NB L))), ((12 : Nat), AV.p true (PV.v (Value.int IntKind.i64 (↑(List.length L) : Int)))), ((13 : Nat), AV.p true (PV.v (Value.int IntKind.i64 (↑x.1 : Int)))), ((14 : Nat), AV.p true (PV.v (Value.bool (decide ((↑x.1 : Int) < (↑(List.length L) : Int)))))), ((4 : Nat), AV.own (77777 : Nat))] [((77777 : Nat), Ob.row Mode.u false (3 : Nat) (List.length x.2) (CB x.2) [])])) := by intros; kernel_rfl
theorem ev_spPT : ∀ (r : Nat) (nn : Bool) (L : LP), ev G0 res27 [] (3000 : Nat) Or.nil [Item.ir ir27] (start [AI (↑r : Int), NL nn L] []) = VC.loop ir27_L1 [Item.bend (0 : Nat), Item.ir ir27_T2] (St.mk [((0 : Nat), AV.p true (PV.v (Value.int IntKind.i64 (↑r : Int)))), ((1 : Nat), AV.p false (PV.sl nn (2 : Nat) (List.length L) (NB L))), ((4 : Nat), AV.p true (PV.v (Value.slice none (0 : Nat) (0 : Nat)))), ((5 : Nat), AV.own (9 : Nat)), ((6 : Nat), AV.p true (PV.v (Value.int IntKind.i64 (0 : Int))))] [((9 : Nat), Ob.row Mode.u true (3 : Nat) (0 : Nat) (setG [] fun (x j : Nat) => PV.v ([Value.int IntKind.i64 (0 : Int), Value.int IntKind.i64 (0 : Int), Value.bool false].getD j undef)) [])]) := by intros; kernel_rfl
def st_spPT (r : Nat) (nn : Bool) (L : LP) (x : Nat × LA) : St := ⟨[(0, AI r), (1, NL nn L), (5, .own 77777), (6, AI x.1)], [(77777, CR false x.2)]⟩
theorem evr_spPT : ∀ (r : Nat) (nn : Bool) (L : LP) (I : Nat × LA → St → Prop) (x : Nat × LA), ev G0 res27 [] (3000 : Nat) ((Or.call [] (AB (inB (↑r : Int) (0 : Int) (2 : Int))) [] (Or.nil.split Or.nil).lit).lit.split Or.nil.lit.lit.lit) [Item.ir ir27_L1, Item.lend (I x), Item.bend (0 : Nat), Item.ir ir27_T2] (st_spPT r nn L x) = VC.split (decide ((↑x.1 : Int) < (↑(List.length L) : Int))) (VC.call (57 : Nat) [AV.p true (PV.v (Value.int IntKind.i64 (↑r : Int))), AV.p true (PV.v (Value.int IntKind.i64 (0 : Int))), AV.p true (PV.v (Value.int IntKind.i64 (2 : Int)))] [] (AB (inB (↑r : Int) (0 : Int) (2 : Int))) [] (VC.split (inB (↑r : Int) (0 : Int) (2 : Int)) (VC.need ((0 : Int) ≤ (↑x.1 : Int) ∧ (↑x.1 : Int).toNat < List.length L) (VC.need ((0 : Int) ≤ (↑x.1 : Int) ∧ (↑x.1 : Int).toNat < List.length L) (VC.need (((List.length x.2 + (4 : Nat)) * (24 : Nat) ≤ (140737488355328 : Nat) ∧ (↑(List.length x.2 + (4 : Nat)) : Int) ≤ (9223372036854775807 : Int)) ∧ allV (3 : Nat) (4 : Nat) fun (a b : Nat) => if b = (0 : Nat) + (1 : Nat) + (1 : Nat) ∧ a = nat_lit 3 then PV.v (Value.bool true) else cellSet (cellSet (cellSet (cellSet (cellSet (cellSet (cellSet (cellSet (cellSet (cellSet (cellSet (fun (x_1 j : Nat) => PV.v ([Value.int IntKind.i64 (0 : Int), Value.int IntKind.i64 (0 : Int), Value.bool false].getD j undef)) (nat_lit 0) (0 : Nat) (PV.v (Value.int IntKind.i64 (↑r : Int)))) (nat_lit 0) ((0 : Nat) + (1 : Nat)) (PV.v (Value.int IntKind.i64 (↑(nb L (↑x.1 : Int).toNat ((0 : Nat) + (0 : Nat))) : Int)))) (nat_lit 0) ((0 : Nat) + (1 : Nat) + (1 : Nat)) (PV.v (Value.bool false))) (nat_lit 1) (0 : Nat) (PV.v (Value.int IntKind.i64 (↑r : Int)))) (nat_lit 1) ((0 : Nat) + (1 : Nat)) (PV.v (Value.int IntKind.i64 (↑(nb L (↑x.1 : Int).toNat ((1 : Nat) + (0 : Nat))) : Int)))) (nat_lit 1) ((0 : Nat) + (1 : Nat) + (1 : Nat)) (PV.v (Value.bool false))) (nat_lit 2) (0 : Nat) (PV.v (Value.int IntKind.i64 (↑r : Int)))) (nat_lit 2) ((0 : Nat) + (1 : Nat)) (PV.v (Value.int IntKind.i64 (↑(nb L (↑x.1 : Int).toNat ((0 : Nat) + (0 : Nat))) : Int)))) (nat_lit 2) ((0 : Nat) + (1 : Nat) + (1 : Nat)) (PV.v (Value.bool true))) (nat_lit 3) (0 : Nat) (PV.v (Value.int IntKind.i64 (↑r : Int)))) (nat_lit 3) ((0 : Nat) + (1 : Nat)) (PV.v (Value.int IntKind.i64 (↑(nb L (↑x.1 : Int).toNat ((1 : Nat) + (0 : Nat))) : Int))) a b) (VC.lend (I x) (St.mk [((0 : Nat), AV.p true (PV.v (Value.int IntKind.i64 (↑r : Int)))), ((1 : Nat), AV.p false (PV.sl nn (2 : Nat) (List.length L) (NB L))), ((5 : Nat), AV.own (44 : Nat)), ((6 : Nat), AV.p true (PV.v (Value.int IntKind.i64 (IntKind.i64.wrap ((↑x.1 : Int) + (1 : Int)))))), ((17 : Nat), AV.p true (PV.v (Value.bool (inB (↑r : Int) (0 : Int) (2 : Int))))), ((7 : Nat), AV.p true (PV.v (Value.int IntKind.i64 (↑(nb L (↑x.1 : Int).toNat ((0 : Nat) + (0 : Nat))) : Int)))), ((8 : Nat), AV.p true (PV.v (Value.int IntKind.i64 (↑(nb L (↑x.1 : Int).toNat ((1 : Nat) + (0 : Nat))) : Int))))] [((44 : Nat), Ob.row Mode.u false (3 : Nat) (List.length x.2 + (4 : Nat)) (fun (a b : Nat) => if a < List.length x.2 then CB x.2 a b else if b = (0 : Nat) + (1 : Nat) + (1 : Nat) ∧ a - List.length x.2 = nat_lit 3 then PV.v (Value.bool true) else cellSet (cellSet (cellSet (cellSet (cellSet (cellSet (cellSet (cellSet (cellSet (cellSet (cellSet (fun (x_1 j : Nat) => PV.v ([Value.int IntKind.i64 (0 : Int), Value.int IntKind.i64 (0 : Int), Value.bool false].getD j undef)) (nat_lit 0) (0 : Nat) (PV.v (Value.int IntKind.i64 (↑r : Int)))) (nat_lit 0) ((0 : Nat) + (1 : Nat)) (PV.v (Value.int IntKind.i64 (↑(nb L (↑x.1 : Int).toNat ((0 : Nat) + (0 : Nat))) : Int)))) (nat_lit 0) ((0 : Nat) + (1 : Nat) + (1 : Nat)) (PV.v (Value.bool false))) (nat_lit 1) (0 : Nat) (PV.v (Value.int IntKind.i64 (↑r : Int)))) (nat_lit 1) ((0 : Nat) + (1 : Nat)) (PV.v (Value.int IntKind.i64 (↑(nb L (↑x.1 : Int).toNat ((1 : Nat) + (0 : Nat))) : Int)))) (nat_lit 1) ((0 : Nat) + (1 : Nat) + (1 : Nat)) (PV.v (Value.bool false))) (nat_lit 2) (0 : Nat) (PV.v (Value.int IntKind.i64 (↑r : Int)))) (nat_lit 2) ((0 : Nat) + (1 : Nat)) (PV.v (Value.int IntKind.i64 (↑(nb L (↑x.1 : Int).toNat ((0 : Nat) + (0 : Nat))) : Int)))) (nat_lit 2) ((0 : Nat) + (1 : Nat) + (1 : Nat)) (PV.v (Value.bool true))) (nat_lit 3) (0 : Nat) (PV.v (Value.int IntKind.i64 (↑r : Int)))) (nat_lit 3) ((0 : Nat) + (1 : Nat)) (PV.v (Value.int IntKind.i64 (↑(nb L (↑x.1 : Int).toNat ((1 : Nat) + (0 : Nat))) : Int))) (a - List.length x.2) b) [])]))))) (VC.done (St.mk [((0 : Nat), AV.p true (PV.v (Value.int IntKind.i64 (↑r : Int)))), ((1 : Nat), AV.p false (PV.sl nn (2 : Nat) (List.length L) (NB L))), ((5 : Nat), AV.own (77777 : Nat)), ((6 : Nat), AV.p true (PV.v (Value.int IntKind.i64 (↑x.1 : Int)))), ((17 : Nat), AV.p true (PV.v (Value.bool (inB (↑r : Int) (0 : Int) (2 : Int))))), ((4 : Nat), AV.own (77777 : Nat))] [((77777 : Nat), Ob.row Mode.u false (3 : Nat) (List.length x.2) (CB x.2) [])])))) (VC.done (St.mk [((0 : Nat), AV.p true (PV.v (Value.int IntKind.i64 (↑r : Int)))), ((1 : Nat), AV.p false (PV.sl nn (2 : Nat) (List.length L) (NB L))), ((5 : Nat), AV.own (77777 : Nat)), ((6 : Nat), AV.p true (PV.v (Value.int IntKind.i64 (↑x.1 : Int)))), ((17 : Nat), AV.p true (PV.v (Value.bool false))), ((4 : Nat), AV.own (77777 : Nat))] [((77777 : Nat), Ob.row Mode.u false (3 : Nat) (List.length x.2) (CB x.2) [])])) := by intros; kernel_rfl
theorem allV3 {n : Nat} {g : Nat → Nat → PV} (h : ((List.range n).all fun i => (g i 0).isV && (g i 1).isV && (g i 2).isV) = true) : allV 3 n g := fun i j hi hj => by
  have := List.all_eq_true.1 h i (by simpa using hi)
  simp only [Bool.and_eq_true] at this
  have e : j = 0 ∨ j = 1 ∨ j = 2 := by omega
  rcases e with rfl | rfl | rfl
  · exact this.1.1
  · exact this.1.2
  · exact this.2
theorem c_imPT (r : Nat) (nn : Bool) (L : LP) (hr : r ≤ 2) (hL : L.length ≤ 16777216) : PObj Tryd.prog G0 16 [AI r, NL nn L] [] (.own 0) [(0, CR false (trL r L))] := by
  refine PObj.by chk16 rfl (ev_imPT r nn L) ?_
  simp only [VC.holds_split, VC.holds_need, VC.holds_doneP, VC.holds_done, VC.holds_either, VC.holds_call, VC.holds_callE, VC.holds_lend, VC.holds_stop, VC.holds_fail, decide_eq_true_eq, decide_eq_false_iff_not]
  refine ⟨c_isR _, fun h1 => ?_, fun h1 => ?_⟩
  · have : inB (r : Int) 0 2 = true := by simp [inB]; omega
    simp [this] at h1
  · refine loop_by (st_imPT r nn L) (fun x => x.1 ≤ L.length ∧ x.2 = trL r (L.take x.1)) (fun x => L.length - x.1) (0, []) [] [] [77777] ⟨Nat.zero_le _, rfl⟩ ?_ (evr_imPT r nn L) fun x hx => ?_
    · simp [st_imPT, hbs, St.lowers, St.lower, stLe, leEnv, leObs, obLe, injB, pinC, AV.leC, AV.leCs, PV.leC, PV.Le_v, St.get, St.obj, look, rho, isNew, keptC, renH, Mode.ok, Mode.isZ, PV.isVal, PV.isNilSl, List.all_nil, List.all_cons, List.any_nil, List.any_cons, List.map_nil, List.map_cons, PV.Le_self]
    · obtain ⟨k, T⟩ := x
      obtain ⟨hk, hT⟩ := hx
      simp only [] at hk hT; subst hT
      have hl : (trL r (L.take k)).length = 4 * k := by rw [trL_len, List.length_take]; omega
      have e1 : IntKind.i64.wrap ((k : Int) + 1) = ((k + 1 : Nat) : Int) := wrap_in (by omega) (by omega)
      simp only [VC.holds_split, VC.holds_need, VC.holds_doneP, VC.holds_done, VC.holds_either, VC.holds_call, VC.holds_callE, VC.holds_lend, VC.holds_stop, VC.holds_fail, decide_eq_true_eq, decide_eq_false_iff_not, Int.toNat_natCast]
      refine ⟨fun h2 => ⟨by omega, ⟨⟨by omega, by omega⟩, allV3 rfl⟩, Again.mk (k + 1, trL r (L.take (k + 1))) [] [(77777, 35)] [] ⟨by simp only []; omega, rfl⟩ (by simp only []; omega) ?_⟩, fun h2 => ?_⟩
      · have hk' : k < L.length := by omega
        simp only [trL_take r hk']
        have hl2 : (trL r (L.take k) ++ trP r (L.getD k (0, 0))).length = (trL r (L.take k)).length + 4 := by simp [trP]
        simp [st_imPT, hbs, St.lowers, St.lower, stLe, leEnv, leObs, obLe, injB, pinC, AV.leC, AV.leCs, PV.leC, PV.Le_v, St.get, St.obj, look, rho, isNew, keptC, renH, Mode.ok, Mode.isZ, PV.isVal, PV.isNilSl, List.all_nil, List.all_cons, List.any_nil, List.any_cons, List.map_nil, List.map_cons, PV.Le_self, e1, hl2]
        refine ⟨rfl, fun a b ha hb => ?_⟩
        refine CB_app hb fun h3 => ?_
        have e : a - (trL r (L.take k)).length = 0 ∨ a - (trL r (L.take k)).length = 1 ∨ a - (trL r (L.take k)).length = 2 ∨ a - (trL r (L.take k)).length = 3 := by omega
        have eb : b = 0 ∨ b = 1 ∨ b = 2 := by omega
        rcases e with e | e | e | e <;> rcases eb with rfl | rfl | rfl <;> (simp [e, setG, cellSet, trP, accD, nb]; try exact .refl _)
      · have : k = L.length := by omega
        subst this
        rw [List.take_length]
        refine ResOk.mk [] [(0, 77777)] [] _ _ ?_ ⟨rfl, rfl⟩
        simp [doneC, resOf, resAV, tup, pinR, PV.Le_self, hbs, St.lowers, St.lower, stLe, leEnv, leObs, obLe, injB, pinC, AV.leC, AV.leCs, PV.leC, PV.Le_v, St.get, St.obj, look, rho, isNew, keptC, renH, Mode.ok, Mode.isZ, PV.isVal, PV.isNilSl, List.all_nil, List.all_cons, List.any_nil, List.any_cons, List.map_nil, List.map_cons, res16]
theorem c_spPT (r : Nat) (nn : Bool) (L : LP) (hr : r ≤ 2) (hL : L.length ≤ 16777216) : PObj Tryd.prog G0 27 [AI r, NL nn L] [] (.own 0) [(0, CR false (trL r L))] := by
  refine PObj.by chk27 rfl (ev_spPT r nn L) ?_
  refine loop_by (st_spPT r nn L) (fun x => x.1 ≤ L.length ∧ x.2 = trL r (L.take x.1)) (fun x => L.length - x.1) (0, []) [] [(77777, 9)] [] ⟨Nat.zero_le _, rfl⟩ ?_ (evr_spPT r nn L) fun x hx => ?_
  · simp [st_spPT, hbs, St.lowers, St.lower, stLe, leEnv, leObs, obLe, injB, pinC, AV.leC, AV.leCs, PV.leC, PV.Le_v, St.get, St.obj, look, rho, isNew, keptC, renH, Mode.ok, Mode.isZ, PV.isVal, PV.isNilSl, List.all_nil, List.all_cons, List.any_nil, List.any_cons, List.map_nil, List.map_cons, PV.Le_self]
  · obtain ⟨k, T⟩ := x
    obtain ⟨hk, hT⟩ := hx
    simp only [] at hk hT; subst hT
    have hl : (trL r (L.take k)).length = 4 * k := by rw [trL_len, List.length_take]; omega
    have e1 : IntKind.i64.wrap ((k : Int) + 1) = ((k + 1 : Nat) : Int) := wrap_in (by omega) (by omega)
    have hin : inB (r : Int) 0 2 = true := by simp [inB]; omega
    simp only [VC.holds_split, VC.holds_need, VC.holds_doneP, VC.holds_done, VC.holds_either, VC.holds_call, VC.holds_callE, VC.holds_lend, VC.holds_stop, VC.holds_fail, decide_eq_true_eq, decide_eq_false_iff_not, Int.toNat_natCast]
    refine ⟨fun h2 => ⟨c_l1In _ _ _, fun h3 => ⟨by omega, by omega, ⟨⟨by omega, by omega⟩, allV3 rfl⟩, Again.mk (k + 1, trL r (L.take (k + 1))) [] [(77777, 44)] [] ⟨by simp only []; omega, rfl⟩ (by simp only []; omega) ?_⟩, fun h3 => by rw [hin] at h3; cases h3⟩, fun h2 => ?_⟩
    · have hk' : k < L.length := by omega
      simp only [trL_take r hk']
      have hl2 : (trL r (L.take k) ++ trP r (L.getD k (0, 0))).length = (trL r (L.take k)).length + 4 := by simp [trP]
      simp [st_spPT, hbs, St.lowers, St.lower, stLe, leEnv, leObs, obLe, injB, pinC, AV.leC, AV.leCs, PV.leC, PV.Le_v, St.get, St.obj, look, rho, isNew, keptC, renH, Mode.ok, Mode.isZ, PV.isVal, PV.isNilSl, List.all_nil, List.all_cons, List.any_nil, List.any_cons, List.map_nil, List.map_cons, PV.Le_self, e1, hl2]
      refine ⟨rfl, fun a b ha hb => ?_⟩
      refine CB_app hb fun h3 => ?_
      have e : a - (trL r (L.take k)).length = 0 ∨ a - (trL r (L.take k)).length = 1 ∨ a - (trL r (L.take k)).length = 2 ∨ a - (trL r (L.take k)).length = 3 := by omega
      have eb : b = 0 ∨ b = 1 ∨ b = 2 := by omega
      rcases e with e | e | e | e <;> rcases eb with rfl | rfl | rfl <;> (simp [e, setG, cellSet, trP, accD, nb]; try exact .refl _)
    · have : k = L.length := by omega
      subst this
      rw [List.take_length]
      refine ResOk.mk [] [(0, 77777)] [] _ _ ?_ ⟨rfl, rfl⟩
      simp [doneC, resOf, resAV, tup, pinR, PV.Le_self, hbs, St.lowers, St.lower, stLe, leEnv, leObs, obLe, injB, pinC, AV.leC, AV.leCs, PV.leC, PV.Le_v, St.get, St.obj, look, rho, isNew, keptC, renH, Mode.ok, Mode.isZ, PV.isVal, PV.isNilSl, List.all_nil, List.all_cons, List.any_nil, List.any_cons, List.map_nil, List.map_cons, res27]
end Go.Gw
