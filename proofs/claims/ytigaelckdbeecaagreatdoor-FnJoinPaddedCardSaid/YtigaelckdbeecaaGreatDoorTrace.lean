/- Accesses; with no condition. -/
import Derived.Test.YtigaelckdbeecaaGreatDoorNetW
import Derived.KernelRfl
namespace Go.Gw
open Go Go.Proofs
set_option linter.unusedSimpArgs false
set_option linter.unusedVariables false
set_option maxRecDepth 100000
def ir37_L1 : Ir := (.seq (.reg [] [ob .lss 14 13 12]) (.seq (.cond (tt 14) .skip (.exit 0)) (.seq (.block 1 (.seq (.reg [15] [om 15 13, om 5 15]) (.seq (.dreg [16, 17, 18, 19, 20, 21, 22, 23] [0, 0, 3, 7, 0, 0, 48, 112, 255] [(3, 1019), (3, 2019), (3, 3019), (7, 1023), (7, 2023), (7, 3023)] [om 16 0, om 17 5, o 18 (.idx 3 (tt 16) (tt 17)), o 19 (.load true 3 (tt 18)), om 20 1, om 21 5, o 22 (.idx 3 (tt 20) (tt 21)), o 23 (.load true 3 (tt 22)), o 24 (.eqA true [true, true, false] (tt 19) (tt 23))]) (.cond (tt 24) (.seq (.reg [] [o 4 (.mov (cb false))]) .ret) .skip)))) (.reg [25] [o 25 (.bin .add (tt 13) (ci 1)), om 13 25]))))
def ir37_T2 : Ir := (.seq (.reg [] [o 4 (.mov (cb true))]) .ret)
def ir37 : Ir := (.seq (.reg [] [o 4 (.mov (cb false))]) (.seq (.seq (.reg [6, 7, 8, 9] [om 6 0, o 7 (.len (tt 6)), om 8 1, o 9 (.len (tt 8)), ob .neq 10 7 9]) (.cond (tt 10) (.seq (.reg [] [o 4 (.mov (cb false))]) .ret) .skip)) (.seq (.seq (.reg [11] [om 11 0, o 12 (.len (tt 11)), o 13 (.mov (ci 0))]) (.block 0 (.loop ir37_L1))) ir37_T2)))
def keep37 : List Nat := [0, 1, 4, 5, 10, 12, 13, 14, 24]
def res37 : List RI := [.tmp 4]
theorem chk37 : chk Tryz.prog 37 2 keep37 = some (ir37, res37) := by kernel_rfl
def ir8 : Ir := (.seq (.reg [] [o 4 (.mov (cb false))]) (.seq (.reg [5, 6, 7] [om 5 0, om 6 1, o 7 (.call 37 [(tt 5), (tt 6)]), om 4 7]) .ret))
def keep8 : List Nat := [0, 1, 4]
def res8 : List RI := [.tmp 4]
theorem chk8 : chk Tryz.prog 8 2 keep8 = some (ir8, res8) := by kernel_rfl
def ir58_L1 : Ir := (.seq (.reg [] [ob .lss 14 13 12]) (.seq (.cond (tt 14) .skip (.exit 0)) (.seq (.block 1 (.seq (.reg [15, 16] [o 15 (.idx 2 (tt 11) (tt 13)), o 16 (.load true 2 (tt 15)), o 7 (.alloc [(.int .i64 0), (.int .i64 0)]), on (.store 2 (tt 7) (tt 16))]) (.reg [17, 18, 19, 20, 21, 22, 23, 24, 25, 26, 27, 28, 29, 30, 31, 32, 33, 34, 35] [om 17 5, om 18 0, oa 19 0 7, ol 20 19, o 21 (.build [(.int .i64 0), (.int .i64 0), (.bool false)] [(0, 1, (tt 18)), (1, 1, (tt 20)), (2, 1, (cb false))]), om 22 0, oa 23 1 7, ol 24 23, o 25 (.build [(.int .i64 0), (.int .i64 0), (.bool false)] [(0, 1, (tt 22)), (1, 1, (tt 24)), (2, 1, (cb false))]), om 26 0, oa 27 0 7, ol 28 27, o 29 (.build [(.int .i64 0), (.int .i64 0), (.bool false)] [(0, 1, (tt 26)), (1, 1, (tt 28)), (2, 1, (cb true))]), om 30 0, oa 31 1 7, ol 32 31, o 33 (.build [(.int .i64 0), (.int .i64 0), (.bool false)] [(0, 1, (tt 30)), (1, 1, (tt 32)), (2, 1, (cb true))]), o 34 (.mkSl 3 4 [(.int .i64 0), (.int .i64 0), (.bool false)] [(0, (tt 21)), (1, (tt 25)), (2, (tt 29)), (3, (tt 33))]), o 35 (.app 3 24 true (tt 17) (tt 34)), om 5 35]))) (.reg [36] [o 36 (.bin .add (tt 13) (ci 1)), om 13 36]))))
def ir58_T2 : Ir := (.seq (.reg [37] [om 37 5, om 4 37]) .ret)
def ir58 : Ir := (.seq (.reg [] [o 4 (.mov (.const (.slice none 0 0)))]) (.seq (.seq (.reg [8, 9] [om 8 0, o 9 (.call 79 [(tt 8)]), o 10 (.un .not (tt 9))]) (.cond (tt 10) (.seq (.reg [] [o 4 (.mov (.const (.slice none 0 0)))]) .ret) .skip)) (.seq (.reg [] [o 5 (.mov (.const (.slice none 0 0)))]) (.seq (.seq (.reg [] [om 11 1, o 12 (.len (tt 11)), o 13 (.mov (ci 0))]) (.block 0 (.loop ir58_L1))) ir58_T2))))
def keep58 : List Nat := [0, 1, 4, 5, 7, 10, 11, 12, 13, 14]
def res58 : List RI := [.tmp 4]
theorem chk58 : chk Tryz.prog 58 2 keep58 = some (ir58, res58) := by kernel_rfl
def ir79 : Ir := (.seq (.reg [] [o 2 (.mov (cb false))]) (.seq (.reg [3, 4] [om 3 0, o 4 (.call 18 [(tt 3), (ci 0), (ci 2)]), om 2 4]) .ret))
def keep79 : List Nat := [0, 2]
def res79 : List RI := [.tmp 2]
theorem chk79 : chk Tryz.prog 79 1 keep79 = some (ir79, res79) := by kernel_rfl
def ir66_L1 : Ir := (.seq (.seq (.reg [10, 11, 12, 13, 14, 15, 16] [om 10 6, om 11 1, o 12 (.len (tt 11)), ob .lss 13 10 12, om 14 13, og 15 14 true (.mov (tt 0)), og 16 14 true (.call 61 [(tt 15), (ci 0), (ci 2)]), o 17 (.pick (tt 14) (tt 16) (cb false))]) (.cond (tt 17) .skip (.exit 0))) (.seq (.block 1 (.seq (.reg [20, 21, 22, 23, 24] [om 20 1, om 21 6, o 22 (.idx 2 (tt 20) (tt 21)), oa 23 0 22, ol 24 23, om 7 24]) (.seq (.reg [25, 26, 27, 28, 29] [om 25 1, om 26 6, o 27 (.idx 2 (tt 25) (tt 26)), oa 28 1 27, ol 29 28, om 8 29]) (.reg [30, 31, 32, 33, 34, 35, 36, 37, 38, 39, 40, 41, 42, 43, 44] [om 30 5, om 31 0, om 32 7, o 33 (.build [(.int .i64 0), (.int .i64 0), (.bool false)] [(0, 1, (tt 31)), (1, 1, (tt 32))]), om 34 0, om 35 8, o 36 (.build [(.int .i64 0), (.int .i64 0), (.bool false)] [(0, 1, (tt 34)), (1, 1, (tt 35))]), om 37 0, om 38 7, o 39 (.build [(.int .i64 0), (.int .i64 0), (.bool false)] [(0, 1, (tt 37)), (1, 1, (tt 38)), (2, 1, (cb true))]), om 40 0, om 41 8, o 42 (.build [(.int .i64 0), (.int .i64 0), (.bool false)] [(0, 1, (tt 40)), (1, 1, (tt 41)), (2, 1, (cb true))]), o 43 (.mkSl 3 4 [(.int .i64 0), (.int .i64 0), (.bool false)] [(0, (tt 33)), (1, (tt 36)), (2, (tt 39)), (3, (tt 42))]), o 44 (.app 3 24 true (tt 30) (tt 43)), om 5 44])))) (.reg [18, 19] [om 18 6, o 19 (.bin .add (tt 18) (ci 1)), om 6 19])))
def ir66_T2 : Ir := (.seq (.reg [45] [om 45 5, om 4 45]) .ret)
def ir66 : Ir := (.seq (.reg [] [o 4 (.mov (.const (.slice none 0 0)))]) (.seq (.reg [9] [o 9 (.mkSl 3 0 [(.int .i64 0), (.int .i64 0), (.bool false)] []), om 5 9]) (.seq (.seq (.reg [] [o 6 (.mov (ci 0))]) (.block 0 (.loop ir66_L1))) ir66_T2)))
def keep66 : List Nat := [0, 1, 4, 5, 6, 7, 8, 17]
def res66 : List RI := [.tmp 4]
theorem chk66 : chk Tryz.prog 66 2 keep66 = some (ir66, res66) := by kernel_rfl
abbrev LA := List (Nat × Nat × Bool)
abbrev accD (L : LA) (i : Nat) : Nat × Nat × Bool := L.getD i (0, 0, false)
abbrev CB (L : LA) : Nat → Nat → PV := fun i j => match j with
  | 0 => PI ((accD L i).1 : Nat)
  | 1 => PI ((accD L i).2.1 : Nat)
  | _ => .v (.bool (accD L i).2.2)
abbrev CR (nn : Bool) (L : LA) : Ob := .row .u nn 3 L.length (CB L) []
abbrev CL (nn : Bool) (L : LA) : AV := .p false (.sl nn 3 L.length (CB L))
theorem ev_eqC : ∀ (nn nn' : Bool) (L M : LA), ev G0 res37 [] 3000 (Or.nil.split Or.nil) [.ir ir37] (start [CL nn L, CL nn' M] []) = VC.split ((↑(L.length) : Int) != (↑(M.length) : Int)) (VC.doneP (AB false)) (VC.loop ir37_L1 [.bend 0, .ir ir37_T2] (St.mk [(0, SL nn 3 (L.length) (CB L)), (1, SL nn' 3 (M.length) (CB M)), (4, AB false), (10, AB ((↑(L.length) : Int) != (↑(M.length) : Int))), (12, AI (↑(L.length) : Int)), (13, AI 0)] [])) := by intros; kernel_rfl
def st_eqC (nn nn' : Bool) (L M : LA) (k : Nat) : St := ⟨[(0, CL nn L), (1, CL nn' M), (12, AI L.length), (13, AI k)], []⟩
theorem evr_eqC : ∀ (nn nn' : Bool) (L M : LA) (I : Nat → St → Prop) (k : Nat), ev G0 res37 [] 3000 ((Or.nil.split Or.nil).split Or.nil) [.ir ir37_L1, .lend (I k), .bend 0, .ir ir37_T2] (st_eqC nn nn' L M k) = VC.split (decide ((↑k : Int) < (↑(L.length) : Int))) (VC.need (0 ≤ (↑k : Int) ∧ k < L.length) (VC.need (0 ≤ (↑k : Int) ∧ k < M.length) (VC.split (match true with | true => !((↑(accD L k).1 : Int) == (↑(accD M k).1 : Int) && ((↑(accD L k).2.1 : Int) == (↑(accD M k).2.1 : Int) && ((accD L k).2.2 == (accD M k).2.2 && true))) | false => (↑(accD L k).1 : Int) == (↑(accD M k).1 : Int) && ((↑(accD L k).2.1 : Int) == (↑(accD M k).2.1 : Int) && ((accD L k).2.2 == (accD M k).2.2 && true))) (VC.doneP (AB false)) (VC.lend (I k) (St.mk [(0, SL nn 3 (L.length) (CB L)), (1, SL nn' 3 (M.length) (CB M)), (12, AI (↑(L.length) : Int)), (13, AI (IntKind.i64.wrap ((↑k : Int) + 1))), (14, AB (decide ((↑k : Int) < (↑(L.length) : Int)))), (5, AI ↑k), (24, AB (match true with | true => !((↑(accD L k).1 : Int) == (↑(accD M k).1 : Int) && ((↑(accD L k).2.1 : Int) == (↑(accD M k).2.1 : Int) && ((accD L k).2.2 == (accD M k).2.2 && true))) | false => (↑(accD L k).1 : Int) == (↑(accD M k).1 : Int) && ((↑(accD L k).2.1 : Int) == (↑(accD M k).2.1 : Int) && ((accD L k).2.2 == (accD M k).2.2 && true))))] []))))) (VC.doneP (AB true)) := by intros; kernel_rfl
theorem list_eq_of {α : Type} [BEq α] [LawfulBEq α] {d : α} {L M : List α} (hl : L.length = M.length) (h : ∀ i, i < L.length → L.getD i d = M.getD i d) : L = M := by
  apply List.ext_getElem hl
  intro i h1 h2
  have := h i h1
  simpa [List.getD_eq_getElem?_getD, h1, h2] using this
theorem c_eqC (nn nn' : Bool) (L M : LA) (hL : L.length ≤ 1000000000) : PRet Tryz.prog G0 37 [CL nn L, CL nn' M] (AB (L == M)) := by
  refine PRet.by chk37 (ev_eqC nn nn' L M) ?_
  simp only [vcA]
  refine ⟨fun h => ?_, fun h => ?_⟩
  · have : ¬ L = M := fun e => by rw [e] at h; simp at h
    simp [this]
  · have hl : L.length = M.length := by simp at h; omega
    refine loop_by (st_eqC nn nn' L M) (fun k => k ≤ L.length ∧ ∀ j, j < k → accD L j = accD M j) (fun k => L.length - k) 0 [] [] [] (by simp) ?_ (evr_eqC nn nn' L M) fun k hk => ?_
    · simp [st_eqC, leA, PV.Le_self]
    · obtain ⟨hk, hall⟩ := hk
      have e1 : IntKind.i64.wrap ((k : Int) + 1) = ((k + 1 : Nat) : Int) := wrap_in (by omega) (by omega)
      simp only [vcA, Int.toNat_natCast]
      refine ⟨fun h1 => ⟨by omega, by omega, fun h2 => ?_, fun h2 => Again.mk (k + 1) [] [] [] ⟨by omega, fun j hj => ?_⟩ (by omega) ?_⟩, fun h1 => ?_⟩
      · have : ¬ L = M := fun e => by
          subst e; simp at h2
        simp [this]
      · by_cases h3 : j = k
        · subst h3
          simp only [Bool.not_eq_false', Bool.and_eq_true, beq_iff_eq] at h2
          obtain ⟨a1, a2, a3⟩ := h2
          refine Prod.ext ?_ (Prod.ext ?_ ?_)
          · exact Int.ofNat.inj a1
          · exact Int.ofNat.inj a2
          · simpa using a3
        · exact hall j (by omega)
      · simp [st_eqC, leA, PV.Le_self, e1]
      · have : k = L.length := by omega
        subst this
        have : L = M := list_eq_of hl hall
        simp [this]
theorem ev_sTr : ∀ (nn nn' : Bool) (L M : LA), ev G0 res8 [] 3000 (Or.call [] (AB (L == M)) [] Or.nil) [.ir ir8] (start [CL nn L, CL nn' M] []) = VC.call 37 [SL nn 3 (L.length) (CB L), SL nn' 3 (M.length) (CB M)] [] (AB (L == M)) [] (VC.doneP (AB (L == M))) := by intros; kernel_rfl
theorem c_sTr (nn nn' : Bool) (L M : LA) (hL : L.length ≤ 1000000000) : PRet Tryz.prog G0 8 [CL nn L, CL nn' M] (AB (L == M)) := by
  refine PRet.by chk8 (ev_sTr nn nn' L M) ?_
  simp only [vcA]
  exact ⟨c_eqC _ _ _ _ hL, by simp⟩
def trP (r : Nat) (x : Nat × Nat) : LA := [(r, x.1, false), (r, x.2, false), (r, x.1, true), (r, x.2, true)]
def trL (r : Nat) (L : LP) : LA := L.flatMap (trP r)
theorem trL_len (r : Nat) : ∀ L : LP, (trL r L).length = 4 * L.length
  | [] => rfl
  | x :: L => by
    have := trL_len r L
    simp only [trL, List.flatMap_cons, List.length_append, List.length_cons, trP] at this ⊢
    simp only [List.length_nil]
    omega
theorem trL_take (r : Nat) {L : LP} {k : Nat} (h : k < L.length) : trL r (L.take (k + 1)) = trL r (L.take k) ++ trP r (L.getD k (0, 0)) := by
  rw [List.take_succ_eq_append_getElem h]
  simp only [trL, List.flatMap_append, List.flatMap_cons, List.flatMap_nil, List.append_nil, List.getD_eq_getElem?_getD, List.getElem?_eq_getElem h, Option.getD_some]
theorem CB_app {L M : LA} {i j : Nat} {g : PV} (hj : j < 3) (h : L.length ≤ i → PV.Le g (CB M (i - L.length) j)) : PV.Le (if i < L.length then CB L i j else g) (CB (L ++ M) i j) := by
  by_cases e : i < L.length
  · have e2 : accD (L ++ M) i = accD L i := by simp only [accD, List.getD_eq_getElem?_getD, List.getElem?_append_left e]
    simp only [e, if_true, CB, e2]
    exact .refl _
  · have e2 : accD (L ++ M) i = accD M (i - L.length) := by simp only [accD, List.getD_eq_getElem?_getD, List.getElem?_append_right (Nat.le_of_not_lt e)]
    simp only [e, if_false]
    have := h (by omega)
    simp only [CB, e2] at this ⊢
    exact this
theorem ev_isR : ∀ (r : Int), ev G0 res79 [] 3000 (Or.call [] (AB (inB r 0 2)) [] Or.nil) [.ir ir79] (start [AI r] []) = VC.call 18 [AI r, AI 0, AI 2] [] (AB (inB r 0 2)) [] (VC.doneP (AB (inB r 0 2))) := by intros; kernel_rfl
theorem c_isR (r : Int) : PRet Tryz.prog G0 79 [AI r] (AB (inB r 0 2)) := by
  refine PRet.by chk79 (ev_isR r) ?_
  simp only [vcA]
  exact ⟨c_in _ _ _, by simp⟩
theorem ev_imPT : ∀ (r : Nat) (nn : Bool) (L : LP), ev G0 res58 [] 3000 (Or.call [] (AB (inB (↑r : Int) 0 2)) [] (Or.nil.split Or.nil)) [.ir ir58] (start [AI ↑r, NL nn L] []) = VC.call 79 [AI ↑r] [] (AB (inB (↑r : Int) 0 2)) [] (VC.split (!inB (↑r : Int) 0 2) (VC.done (St.mk [(0, AI ↑r), (1, SL nn 2 (L.length) (NB L)), (4, AV.p true (PV.v (Value.slice none 0 0))), (10, AB !inB (↑r : Int) 0 2)] [])) (VC.loop ir58_L1 [.bend 0, .ir ir58_T2] (St.mk [(0, AI ↑r), (1, SL nn 2 (L.length) (NB L)), (4, AV.p true (PV.v (Value.slice none 0 0))), (10, AB !inB (↑r : Int) 0 2), (5, AV.p true (PV.v (Value.slice none 0 0))), (11, SL nn 2 (L.length) (NB L)), (12, AI (↑(L.length) : Int)), (13, AI 0)] []))) := by intros; kernel_rfl
def st_imPT (r : Nat) (nn : Bool) (L : LP) (x : Nat × LA) : St := ⟨[(0, AI r), (5, .own 77777), (11, NL nn L), (12, AI L.length), (13, AI x.1)], [(77777, CR false x.2)]⟩
theorem evr_imPT : ∀ (r : Nat) (nn : Bool) (L : LP) (I : Nat × LA → St → Prop) (x : Nat × LA), ev G0 res58 [] 3000 (Or.nil.split Or.nil) [.ir ir58_L1, .lend (I x), .bend 0, .ir ir58_T2] (st_imPT r nn L x) = VC.split (decide ((↑x.1 : Int) < (↑(L.length) : Int))) (VC.need (0 ≤ (↑x.1 : Int) ∧ x.1 < L.length) (VC.need (((x.2.length + 4) * 24 ≤ 140737488355328 ∧ (↑(x.2.length + 4) : Int) ≤ 9223372036854775807) ∧ allV 3 4 fun a b => if b = 0 + 1 + 1 ∧ a = nat_lit 3 then PV.v (Value.bool true) else cellSet (cellSet (cellSet (cellSet (cellSet (cellSet (cellSet (cellSet (cellSet (cellSet (cellSet (fun x_1 j => PV.v ([Value.int IntKind.i64 0, Value.int IntKind.i64 0, Value.bool false].getD j undef)) (nat_lit 0) 0 (PV.v (Value.int IntKind.i64 (↑r : Int)))) (nat_lit 0) (0 + 1) (PV.v (Value.int IntKind.i64 (↑(nb L x.1 (nat_lit 0)) : Int)))) (nat_lit 0) (0 + 1 + 1) (PV.v (Value.bool false))) (nat_lit 1) 0 (PV.v (Value.int IntKind.i64 (↑r : Int)))) (nat_lit 1) (0 + 1) (PV.v (Value.int IntKind.i64 (↑(nb L x.1 (nat_lit 1)) : Int)))) (nat_lit 1) (0 + 1 + 1) (PV.v (Value.bool false))) (nat_lit 2) 0 (PV.v (Value.int IntKind.i64 (↑r : Int)))) (nat_lit 2) (0 + 1) (PV.v (Value.int IntKind.i64 (↑(nb L x.1 (nat_lit 0)) : Int)))) (nat_lit 2) (0 + 1 + 1) (PV.v (Value.bool true))) (nat_lit 3) 0 (PV.v (Value.int IntKind.i64 (↑r : Int)))) (nat_lit 3) (0 + 1) (PV.v (Value.int IntKind.i64 (↑(nb L x.1 (nat_lit 1)) : Int))) a b) (VC.lend (I x) (St.mk [(0, AI ↑r), (5, .own 35), (11, SL nn 2 (L.length) (NB L)), (12, AI (↑(L.length) : Int)), (13, AI (IntKind.i64.wrap ((↑x.1 : Int) + 1))), (14, AB (decide ((↑x.1 : Int) < (↑(L.length) : Int)))), (7, .adr 7 0)] [(7, .box [AI (↑(nb L x.1 (nat_lit 0)) : Int), AI (↑(nb L x.1 (nat_lit 1)) : Int)]), (35, .row .u false 3 (x.2.length + 4) (fun a b => if a < x.2.length then CB x.2 a b else if b = 0 + 1 + 1 ∧ a - x.2.length = nat_lit 3 then PV.v (Value.bool true) else cellSet (cellSet (cellSet (cellSet (cellSet (cellSet (cellSet (cellSet (cellSet (cellSet (cellSet (fun x_1 j => PV.v ([Value.int IntKind.i64 0, Value.int IntKind.i64 0, Value.bool false].getD j undef)) (nat_lit 0) 0 (PV.v (Value.int IntKind.i64 (↑r : Int)))) (nat_lit 0) (0 + 1) (PV.v (Value.int IntKind.i64 (↑(nb L x.1 (nat_lit 0)) : Int)))) (nat_lit 0) (0 + 1 + 1) (PV.v (Value.bool false))) (nat_lit 1) 0 (PV.v (Value.int IntKind.i64 (↑r : Int)))) (nat_lit 1) (0 + 1) (PV.v (Value.int IntKind.i64 (↑(nb L x.1 (nat_lit 1)) : Int)))) (nat_lit 1) (0 + 1 + 1) (PV.v (Value.bool false))) (nat_lit 2) 0 (PV.v (Value.int IntKind.i64 (↑r : Int)))) (nat_lit 2) (0 + 1) (PV.v (Value.int IntKind.i64 (↑(nb L x.1 (nat_lit 0)) : Int)))) (nat_lit 2) (0 + 1 + 1) (PV.v (Value.bool true))) (nat_lit 3) 0 (PV.v (Value.int IntKind.i64 (↑r : Int)))) (nat_lit 3) (0 + 1) (PV.v (Value.int IntKind.i64 (↑(nb L x.1 (nat_lit 1)) : Int))) (a - x.2.length) b) [])])))) (VC.done (St.mk [(0, AI ↑r), (5, .own 77777), (11, SL nn 2 (L.length) (NB L)), (12, AI (↑(L.length) : Int)), (13, AI ↑x.1), (14, AB (decide ((↑x.1 : Int) < (↑(L.length) : Int)))), (4, .own 77777)] [(77777, .row .u false 3 (x.2.length) (CB x.2) [])])) := by intros; kernel_rfl
theorem ev_spPT : ∀ (r : Nat) (nn : Bool) (L : LP), ev G0 res66 [] 3000 Or.nil [.ir ir66] (start [AI ↑r, NL nn L] []) = VC.loop ir66_L1 [.bend 0, .ir ir66_T2] (St.mk [(0, AI ↑r), (1, SL nn 2 (L.length) (NB L)), (4, AV.p true (PV.v (Value.slice none 0 0))), (5, .own 9), (6, AI 0)] [(9, .row .u true 3 0 (setG [] fun x j => PV.v ([Value.int IntKind.i64 0, Value.int IntKind.i64 0, Value.bool false].getD j undef)) [])]) := by intros; kernel_rfl
def st_spPT (r : Nat) (nn : Bool) (L : LP) (x : Nat × LA) : St := ⟨[(0, AI r), (1, NL nn L), (5, .own 77777), (6, AI x.1)], [(77777, CR false x.2)]⟩
theorem evr_spPT : ∀ (r : Nat) (nn : Bool) (L : LP) (I : Nat × LA → St → Prop) (x : Nat × LA), ev G0 res66 [] 3000 ((Or.call [] (AB (inB (↑r : Int) 0 2)) [] (Or.nil.split Or.nil).lit).lit.split Or.nil.lit.lit.lit) [.ir ir66_L1, .lend (I x), .bend 0, .ir ir66_T2] (st_spPT r nn L x) = VC.split (decide ((↑x.1 : Int) < (↑(L.length) : Int))) (VC.call 61 [AI ↑r, AI 0, AI 2] [] (AB (inB (↑r : Int) 0 2)) [] (VC.split (inB (↑r : Int) 0 2) (VC.need (0 ≤ (↑x.1 : Int) ∧ x.1 < L.length) (VC.need (0 ≤ (↑x.1 : Int) ∧ x.1 < L.length) (VC.need (((x.2.length + 4) * 24 ≤ 140737488355328 ∧ (↑(x.2.length + 4) : Int) ≤ 9223372036854775807) ∧ allV 3 4 fun a b => if b = 0 + 1 + 1 ∧ a = nat_lit 3 then PV.v (Value.bool true) else cellSet (cellSet (cellSet (cellSet (cellSet (cellSet (cellSet (cellSet (cellSet (cellSet (cellSet (fun x_1 j => PV.v ([Value.int IntKind.i64 0, Value.int IntKind.i64 0, Value.bool false].getD j undef)) (nat_lit 0) 0 (PV.v (Value.int IntKind.i64 (↑r : Int)))) (nat_lit 0) (0 + 1) (PV.v (Value.int IntKind.i64 (↑(nb L x.1 (0 + 0)) : Int)))) (nat_lit 0) (0 + 1 + 1) (PV.v (Value.bool false))) (nat_lit 1) 0 (PV.v (Value.int IntKind.i64 (↑r : Int)))) (nat_lit 1) (0 + 1) (PV.v (Value.int IntKind.i64 (↑(nb L x.1 (1 + 0)) : Int)))) (nat_lit 1) (0 + 1 + 1) (PV.v (Value.bool false))) (nat_lit 2) 0 (PV.v (Value.int IntKind.i64 (↑r : Int)))) (nat_lit 2) (0 + 1) (PV.v (Value.int IntKind.i64 (↑(nb L x.1 (0 + 0)) : Int)))) (nat_lit 2) (0 + 1 + 1) (PV.v (Value.bool true))) (nat_lit 3) 0 (PV.v (Value.int IntKind.i64 (↑r : Int)))) (nat_lit 3) (0 + 1) (PV.v (Value.int IntKind.i64 (↑(nb L x.1 (1 + 0)) : Int))) a b) (VC.lend (I x) (St.mk [(0, AI ↑r), (1, SL nn 2 (L.length) (NB L)), (5, .own 44), (6, AI (IntKind.i64.wrap ((↑x.1 : Int) + 1))), (17, AB (inB (↑r : Int) 0 2)), (7, AI (↑(nb L x.1 (0 + 0)) : Int)), (8, AI (↑(nb L x.1 (1 + 0)) : Int))] [(44, .row .u false 3 (x.2.length + 4) (fun a b => if a < x.2.length then CB x.2 a b else if b = 0 + 1 + 1 ∧ a - x.2.length = nat_lit 3 then PV.v (Value.bool true) else cellSet (cellSet (cellSet (cellSet (cellSet (cellSet (cellSet (cellSet (cellSet (cellSet (cellSet (fun x_1 j => PV.v ([Value.int IntKind.i64 0, Value.int IntKind.i64 0, Value.bool false].getD j undef)) (nat_lit 0) 0 (PV.v (Value.int IntKind.i64 (↑r : Int)))) (nat_lit 0) (0 + 1) (PV.v (Value.int IntKind.i64 (↑(nb L x.1 (0 + 0)) : Int)))) (nat_lit 0) (0 + 1 + 1) (PV.v (Value.bool false))) (nat_lit 1) 0 (PV.v (Value.int IntKind.i64 (↑r : Int)))) (nat_lit 1) (0 + 1) (PV.v (Value.int IntKind.i64 (↑(nb L x.1 (1 + 0)) : Int)))) (nat_lit 1) (0 + 1 + 1) (PV.v (Value.bool false))) (nat_lit 2) 0 (PV.v (Value.int IntKind.i64 (↑r : Int)))) (nat_lit 2) (0 + 1) (PV.v (Value.int IntKind.i64 (↑(nb L x.1 (0 + 0)) : Int)))) (nat_lit 2) (0 + 1 + 1) (PV.v (Value.bool true))) (nat_lit 3) 0 (PV.v (Value.int IntKind.i64 (↑r : Int)))) (nat_lit 3) (0 + 1) (PV.v (Value.int IntKind.i64 (↑(nb L x.1 (1 + 0)) : Int))) (a - x.2.length) b) [])]))))) (VC.done (St.mk [(0, AI ↑r), (1, SL nn 2 (L.length) (NB L)), (5, .own 77777), (6, AI ↑x.1), (17, AB (inB (↑r : Int) 0 2)), (4, .own 77777)] [(77777, .row .u false 3 (x.2.length) (CB x.2) [])])))) (VC.done (St.mk [(0, AI ↑r), (1, SL nn 2 (L.length) (NB L)), (5, .own 77777), (6, AI ↑x.1), (17, AB false), (4, .own 77777)] [(77777, .row .u false 3 (x.2.length) (CB x.2) [])])) := by intros; kernel_rfl
theorem allV3 {n : Nat} {g : Nat → Nat → PV} (h : ((List.range n).all fun i => (g i 0).isV && (g i 1).isV && (g i 2).isV) = true) : allV 3 n g := fun i j hi hj => by
  have := List.all_eq_true.1 h i (by simpa using hi)
  simp only [Bool.and_eq_true] at this
  have e : j = 0 ∨ j = 1 ∨ j = 2 := by omega
  rcases e with rfl | rfl | rfl
  · exact this.1.1
  · exact this.1.2
  · exact this.2
theorem c_imPT (r : Nat) (nn : Bool) (L : LP) (hr : r ≤ 2) (hL : L.length ≤ 16777216) : PObj Tryz.prog G0 58 [AI r, NL nn L] [] (.own 0) [(0, CR false (trL r L))] := by
  refine PObj.by chk58 rfl (ev_imPT r nn L) ?_
  simp only [vcA]
  refine ⟨c_isR _, fun h1 => ?_, fun h1 => ?_⟩
  · have : inB (r : Int) 0 2 = true := by simp [inB]; omega
    simp [this] at h1
  · refine loop_by (st_imPT r nn L) (fun x => x.1 ≤ L.length ∧ x.2 = trL r (L.take x.1)) (fun x => L.length - x.1) (0, []) [] [] [77777] ⟨Nat.zero_le _, rfl⟩ ?_ (evr_imPT r nn L) fun x hx => ?_
    · simp [st_imPT, leA, PV.Le_self]
    · obtain ⟨k, T⟩ := x
      obtain ⟨hk, hT⟩ := hx
      simp only [] at hk hT; subst hT
      have hl : (trL r (L.take k)).length = 4 * k := by rw [trL_len, List.length_take]; omega
      have e1 : IntKind.i64.wrap ((k : Int) + 1) = ((k + 1 : Nat) : Int) := wrap_in (by omega) (by omega)
      simp only [vcA, Int.toNat_natCast]
      refine ⟨fun h2 => ⟨by omega, ⟨⟨by omega, by omega⟩, allV3 rfl⟩, Again.mk (k + 1, trL r (L.take (k + 1))) [] [(77777, 35)] [] ⟨by simp only []; omega, rfl⟩ (by simp only []; omega) ?_⟩, fun h2 => ?_⟩
      · have hk' : k < L.length := by omega
        simp only [trL_take r hk']
        have hl2 : (trL r (L.take k) ++ trP r (L.getD k (0, 0))).length = (trL r (L.take k)).length + 4 := by simp [trP]
        simp [st_imPT, leA, PV.Le_self, e1, hl2]
        refine ⟨rfl, fun a b ha hb => ?_⟩
        refine CB_app hb fun h3 => ?_
        have e : a - (trL r (L.take k)).length = 0 ∨ a - (trL r (L.take k)).length = 1 ∨ a - (trL r (L.take k)).length = 2 ∨ a - (trL r (L.take k)).length = 3 := by omega
        have eb : b = 0 ∨ b = 1 ∨ b = 2 := by omega
        rcases e with e | e | e | e <;> rcases eb with rfl | rfl | rfl <;> (simp [e, setG, cellSet, trP, accD, nb]; try exact .refl _)
      · have : k = L.length := by omega
        subst this
        rw [List.take_length]
        refine ResOk.mk [] [(0, 77777)] [] _ _ ?_ ⟨rfl, rfl⟩
        simp [doneC, resOf, resAV, tup, pinR, PV.Le_self, leA, res58]
theorem c_spPT (r : Nat) (nn : Bool) (L : LP) (hr : r ≤ 2) (hL : L.length ≤ 16777216) : PObj Tryz.prog G0 66 [AI r, NL nn L] [] (.own 0) [(0, CR false (trL r L))] := by
  refine PObj.by chk66 rfl (ev_spPT r nn L) ?_
  refine loop_by (st_spPT r nn L) (fun x => x.1 ≤ L.length ∧ x.2 = trL r (L.take x.1)) (fun x => L.length - x.1) (0, []) [] [(77777, 9)] [] ⟨Nat.zero_le _, rfl⟩ ?_ (evr_spPT r nn L) fun x hx => ?_
  · simp [st_spPT, leA, PV.Le_self]
  · obtain ⟨k, T⟩ := x
    obtain ⟨hk, hT⟩ := hx
    simp only [] at hk hT; subst hT
    have hl : (trL r (L.take k)).length = 4 * k := by rw [trL_len, List.length_take]; omega
    have e1 : IntKind.i64.wrap ((k : Int) + 1) = ((k + 1 : Nat) : Int) := wrap_in (by omega) (by omega)
    have hin : inB (r : Int) 0 2 = true := by simp [inB]; omega
    simp only [vcA, Int.toNat_natCast]
    refine ⟨fun h2 => ⟨c_l1In _ _ _, fun h3 => ⟨by omega, by omega, ⟨⟨by omega, by omega⟩, allV3 rfl⟩, Again.mk (k + 1, trL r (L.take (k + 1))) [] [(77777, 44)] [] ⟨by simp only []; omega, rfl⟩ (by simp only []; omega) ?_⟩, fun h3 => by rw [hin] at h3; cases h3⟩, fun h2 => ?_⟩
    · have hk' : k < L.length := by omega
      simp only [trL_take r hk']
      have hl2 : (trL r (L.take k) ++ trP r (L.getD k (0, 0))).length = (trL r (L.take k)).length + 4 := by simp [trP]
      simp [st_spPT, leA, PV.Le_self, e1, hl2]
      refine ⟨rfl, fun a b ha hb => ?_⟩
      refine CB_app hb fun h3 => ?_
      have e : a - (trL r (L.take k)).length = 0 ∨ a - (trL r (L.take k)).length = 1 ∨ a - (trL r (L.take k)).length = 2 ∨ a - (trL r (L.take k)).length = 3 := by omega
      have eb : b = 0 ∨ b = 1 ∨ b = 2 := by omega
      rcases e with e | e | e | e <;> rcases eb with rfl | rfl | rfl <;> (simp [e, setG, cellSet, trP, accD, nb]; try exact .refl _)
    · have : k = L.length := by omega
      subst this
      rw [List.take_length]
      refine ResOk.mk [] [(0, 77777)] [] _ _ ?_ ⟨rfl, rfl⟩
      simp [doneC, resOf, resAV, tup, pinR, PV.Le_self, leA, res66]
end Go.Gw
