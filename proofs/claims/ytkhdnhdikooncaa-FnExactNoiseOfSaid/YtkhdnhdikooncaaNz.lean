import Derived.Test.YtkhdnhdikooncaaNzIr
import Derived.Test.YtkhdnhdikooncaaFw10
import Derived.KernelRfl
import Derived.IntWalk
namespace Go.Fw
open Go Go.Proofs
set_option linter.unusedSimpArgs false
set_option linter.unusedVariables false
abbrev W (n : Int) : Int := IntKind.i64.wrap n

/-! ### in -/
def inB (x lo hi : Int) : Bool := decide (lo ≤ x) && decide (x ≤ hi)
def in29 (x lo hi : Int) := (G0, res29, [Item.ir ir29], (⟨argEnv 0 [AI x, AI lo, AI hi], []⟩ : St))
theorem ev29 : ∀ (x lo hi : Int),
  ev G0 res29 (3000 : Nat) (Or.nil.lit.lit.lit.split Or.nil.lit.lit.lit) [Item.ir ir29]
      { env := argEnv (0 : Nat) [AI x, AI lo, AI hi], H := [] } =
    VC.split (decide (lo ≤ x)) (VC.done (AV.p true (PV.v (Value.bool (decide (x ≤ hi))))))
      (VC.done (AV.p true (PV.v (Value.bool false)))) := by
  intros; kernel_rfl
theorem c29 (x lo hi : Int) : PRet Try.prog G0 29 [AI x, AI lo, AI hi] (AB (inB x lo hi)) := by
  refine PRet.by chk29 (ev29 x lo hi) ?_
  simp only [VC.holds_split, VC.done_ret, AV.Le_v, AV.closed]
  simp +contextual [inB]
  try omega
def in23 (x lo hi : Int) := (G0, res23, [Item.ir ir23], (⟨argEnv 0 [AI x, AI lo, AI hi], []⟩ : St))
theorem ev23 : ∀ (x lo hi : Int),
  ev G0 res23 (3000 : Nat) (Or.nil.lit.lit.lit.split Or.nil.lit.lit.lit) [Item.ir ir23]
      { env := argEnv (0 : Nat) [AI x, AI lo, AI hi], H := [] } =
    VC.split (decide (lo ≤ x)) (VC.done (AV.p true (PV.v (Value.bool (decide (x ≤ hi))))))
      (VC.done (AV.p true (PV.v (Value.bool false)))) := by
  intros; kernel_rfl
theorem c23 (x lo hi : Int) : PRet Try.prog G0 23 [AI x, AI lo, AI hi] (AB (inB x lo hi)) := by
  refine PRet.by chk23 (ev23 x lo hi) ?_
  simp only [VC.holds_split, VC.done_ret, AV.Le_v, AV.closed]
  simp +contextual [inB]
  try omega

/-! ### stream -/
def mixN (x y z : Int) : Nat → Int
  | 0 => (W (W (W (W (7 * x) + W (13 * y)) + W (29 * z)) + 11)).tmod 2147483647
  | k + 1 => (W (W (W (W (48271 * mixN x y z k) + x) + y) + k)).tmod 2147483647

theorem wrap_small {n : Int} (h1 : -1000000 ≤ n) (h2 : n ≤ 1000000) : W n = n := by
  exact IntWalk.i64_in n (by omega)

def in35 (x y z : Int) := (G0, res35, [Item.ir ir35], (⟨argEnv 0 [AI x, AI y, AI z], []⟩ : St))
theorem ev35 : ∀ (x y z : Int),
  ev G0 res35 (3000 : Nat) Or.nil [Item.ir ir35] { env := argEnv (0 : Nat) [AI x, AI y, AI z], H := [] } =
    VC.need ((2147483647 : Int) ≠ (0 : Int))
      (VC.loop ir35_L1 [Item.bend (0 : Nat), Item.ir ir35_T2]
        {
          env :=
            [((0 : Nat), AV.p true (PV.v (Value.int IntKind.i64 x))),
              ((1 : Nat), AV.p true (PV.v (Value.int IntKind.i64 y))),
              ((2 : Nat), AV.p true (PV.v (Value.int IntKind.i64 z))),
              ((6 : Nat), AV.p true (PV.v (Value.int IntKind.i64 (0 : Int)))),
              ((7 : Nat),
                AV.p true
                  (PV.v
                    (Value.int IntKind.i64
                      ((IntKind.i64.wrap
                            (IntKind.i64.wrap
                                (IntKind.i64.wrap
                                    (IntKind.i64.wrap ((7 : Int) * x) + IntKind.i64.wrap ((13 : Int) * y)) +
                                  IntKind.i64.wrap ((29 : Int) * z)) +
                              (11 : Int))).tmod
                        (2147483647 : Int))))),
              ((19 : Nat), AV.p true (PV.v (Value.int IntKind.i64 (0 : Int))))],
          H := [] }) := by
  intros; kernel_rfl
def st35 (x y z : Int) (k : Nat) : St := ⟨[(0, AI x), (1, AI y), (2, AI z), (6, AI 0), (7, AI (mixN x y z k)), (19, AI k)], []⟩
def r35 (x y z : Int) (I : Nat → St → Prop) (k : Nat) := (G0, res35, [Item.ir ir35_L1, .lend (I k), Item.bend 0, Item.ir ir35_T2], st35 x y z k)
theorem ev35r : ∀ (x y z : Int) (I : Nat → St → Prop) (k : Nat),
  ev G0 res35 (3000 : Nat) (Or.nil.split Or.nil)
      [Item.ir ir35_L1, Item.lend (I k), Item.bend (0 : Nat), Item.ir ir35_T2] (st35 x y z k) =
    VC.split (decide ((↑k : Int) < (3 : Int)))
      (VC.need ((2147483647 : Int) ≠ (0 : Int))
        (VC.lend (I k)
          {
            env :=
              [((0 : Nat), AV.p true (PV.v (Value.int IntKind.i64 x))),
                ((1 : Nat), AV.p true (PV.v (Value.int IntKind.i64 y))),
                ((2 : Nat), AV.p true (PV.v (Value.int IntKind.i64 z))),
                ((6 : Nat), AV.p true (PV.v (Value.int IntKind.i64 (0 : Int)))),
                ((7 : Nat),
                  AV.p true
                    (PV.v
                      (Value.int IntKind.i64
                        ((IntKind.i64.wrap
                              (IntKind.i64.wrap
                                  (IntKind.i64.wrap (IntKind.i64.wrap ((48271 : Int) * mixN x y z k) + x) + y) +
                                (↑k : Int))).tmod
                          (2147483647 : Int))))),
                ((19 : Nat), AV.p true (PV.v (Value.int IntKind.i64 (IntKind.i64.wrap ((↑k : Int) + (1 : Int)))))),
                ((20 : Nat), AV.p true (PV.v (Value.bool (decide ((↑k : Int) < (3 : Int)))))),
                ((8 : Nat), AV.p true (PV.v (Value.int IntKind.i64 (↑k : Int))))],
            H := [] }))
      (VC.need ((200003 : Int) ≠ (0 : Int))
        (VC.done (AV.p true (PV.v (Value.int IntKind.i64 ((mixN x y z k).tmod (200003 : Int))))))) := by
  intros; kernel_rfl
theorem c35 (x y z : Int) : PRet Try.prog G0 35 [AI x, AI y, AI z] (AI ((mixN x y z 3).tmod 200003)) := by
  refine PRet.by chk35 (ev35 x y z) ?_
  simp only [VC.holds_need]
  refine ⟨by decide, loop_by (st35 x y z) (fun k => k ≤ 3) (fun k => 3 - k) 0 [] [] (by omega) ?_ (ev35r x y z) fun k hk => ?_⟩
  · simp [stLe, leEnv, leObs, injB, st35, AV.leC, PV.leC, St.get, look, mixN]
  · simp only [VC.holds_split, VC.holds_need, VC.holds_lend, VC.done_ret, AV.Le_v, AV.closed, decide_eq_true_eq, decide_eq_false_iff_not]
    refine ⟨fun h => ⟨by decide, Again.mk (k + 1) [] [] (by omega) (by omega) ?_⟩, fun h => ⟨by decide, trivial, ?_⟩⟩
    · have : W ((k : Int) + 1) = k + 1 := wrap_small (by omega) (by omega)
      simp [stLe, leEnv, leObs, injB, st35, AV.leC, PV.leC, St.get, look, mixN, this]
    · have : k = 3 := by omega
      subst this
      rfl

def in33 (x : Int) := (G0, res33, [Item.ir ir33], (⟨argEnv 0 [AI x], []⟩ : St))
theorem ev33 : ∀ (x : Int),
  ev G0 res33 (3000 : Nat) (Or.call (AB (inB x (0 : Int) (1000000 : Int))) Or.nil) [Item.ir ir33]
      { env := argEnv (0 : Nat) [AI x], H := [] } =
    VC.call (29 : Nat)
      [AV.p true (PV.v (Value.int IntKind.i64 x)), AV.p true (PV.v (Value.int IntKind.i64 (0 : Int))),
        AV.p true (PV.v (Value.int IntKind.i64 (1000000 : Int)))]
      (AB (inB x (0 : Int) (1000000 : Int))) (VC.done (AV.p true (PV.v (Value.bool (inB x (0 : Int) (1000000 : Int)))))) := by
  intros; kernel_rfl
theorem c33 (x : Int) : PRet Try.prog G0 33 [AI x] (AB (inB x 0 1000000)) := by
  refine PRet.by chk33 (ev33 x) ?_
  simp only [VC.holds_call, VC.done_ret, AV.Le_v, AV.closed]
  exact ⟨c29 _ _ _, trivial, trivial⟩
def in34 (x : Int) := (G0, res34, [Item.ir ir34], (⟨argEnv 0 [AI x], []⟩ : St))
theorem ev34 : ∀ (x : Int),
  ev G0 res34 (3000 : Nat) (Or.call (AB (inB x (0 : Int) (1000000000 : Int))) Or.nil) [Item.ir ir34]
      { env := argEnv (0 : Nat) [AI x], H := [] } =
    VC.call (29 : Nat)
      [AV.p true (PV.v (Value.int IntKind.i64 x)), AV.p true (PV.v (Value.int IntKind.i64 (0 : Int))),
        AV.p true (PV.v (Value.int IntKind.i64 (1000000000 : Int)))]
      (AB (inB x (0 : Int) (1000000000 : Int)))
      (VC.done (AV.p true (PV.v (Value.bool (inB x (0 : Int) (1000000000 : Int)))))) := by
  intros; kernel_rfl
theorem c34 (x : Int) : PRet Try.prog G0 34 [AI x] (AB (inB x 0 1000000000)) := by
  refine PRet.by chk34 (ev34 x) ?_
  simp only [VC.holds_call, VC.done_ret, AV.Le_v, AV.closed]
  exact ⟨c29 _ _ _, trivial, trivial⟩
def in26 (x y z : Int) := (G0, res26, [Item.ir ir26], (⟨argEnv 0 [AI x, AI y, AI z], []⟩ : St))
theorem ev26 : ∀ (x y z : Int),
  ev G0 res26 (3000 : Nat)
      (Or.call (AB (inB x (0 : Int) (1000000 : Int)))
        ((Or.call (AB (inB y (0 : Int) (1000000000 : Int)))
                ((Or.call (AB (inB z (0 : Int) (1000 : Int))) Or.nil.lit).lit.split Or.nil.lit.lit).lit).lit.split
          Or.nil.lit.lit.lit.lit.lit))
      [Item.ir ir26] { env := argEnv (0 : Nat) [AI x, AI y, AI z], H := [] } =
    VC.call (33 : Nat) [AV.p true (PV.v (Value.int IntKind.i64 x))] (AB (inB x (0 : Int) (1000000 : Int)))
      (VC.split (inB x (0 : Int) (1000000 : Int))
        (VC.call (34 : Nat) [AV.p true (PV.v (Value.int IntKind.i64 y))] (AB (inB y (0 : Int) (1000000000 : Int)))
          (VC.split (inB y (0 : Int) (1000000000 : Int))
            (VC.call (29 : Nat)
              [AV.p true (PV.v (Value.int IntKind.i64 z)), AV.p true (PV.v (Value.int IntKind.i64 (0 : Int))),
                AV.p true (PV.v (Value.int IntKind.i64 (1000 : Int)))]
              (AB (inB z (0 : Int) (1000 : Int)))
              (VC.done (AV.p true (PV.v (Value.bool (inB z (0 : Int) (1000 : Int)))))))
            (VC.done (AV.p true (PV.v (Value.bool false))))))
        (VC.done (AV.p true (PV.v (Value.bool false))))) := by
  intros; kernel_rfl
theorem c26 (x y z : Int) : PRet Try.prog G0 26 [AI x, AI y, AI z] (AB (inB x 0 1000000 && inB y 0 1000000000 && inB z 0 1000)) := by
  refine PRet.by chk26 (ev26 x y z) ?_
  simp only [VC.holds_call, VC.holds_split, VC.done_ret, AV.Le_v, AV.closed, c29, c33, c34, true_and]
  simp +contextual
def streamAt (x y z : Int) : Int := if inB x 0 1000000 && inB y 0 1000000000 && inB z 0 7 then (mixN x y z 3).tmod 200003 else -1
def in27 (x y z : Int) := (G0, res27, [Item.ir ir27], (⟨argEnv 0 [AI x, AI y, AI z], []⟩ : St))
theorem ev27 : ∀ (x y z : Int),
  ev G0 res27 (3000 : Nat)
      (Or.call (AB (inB x (0 : Int) (1000000 : Int)))
        (Or.nil.lit.lit.lit.lit.lit.lit.lit.lit.split
          (Or.call (AB (inB y (0 : Int) (1000000000 : Int)))
              (Or.nil.lit.lit.lit.lit.split
                    (Or.call (AB (inB z (0 : Int) (7 : Int)))
                        (Or.nil.split
                              (Or.call (AI ((mixN x y z (3 : Nat)).tmod (200003 : Int)))
                                Or.nil)).lit.lit).lit).lit.lit).lit))
      [Item.ir ir27] { env := argEnv (0 : Nat) [AI x, AI y, AI z], H := [] } =
    VC.call (33 : Nat) [AV.p true (PV.v (Value.int IntKind.i64 x))] (AB (inB x (0 : Int) (1000000 : Int)))
      (VC.split (!inB x (0 : Int) (1000000 : Int)) (VC.done (AV.p true (PV.v (Value.int IntKind.i64 (-1 : Int)))))
        (VC.call (34 : Nat) [AV.p true (PV.v (Value.int IntKind.i64 y))] (AB (inB y (0 : Int) (1000000000 : Int)))
          (VC.split (!inB y (0 : Int) (1000000000 : Int))
            (VC.done (AV.p true (PV.v (Value.int IntKind.i64 (-1 : Int)))))
            (VC.call (29 : Nat)
              [AV.p true (PV.v (Value.int IntKind.i64 z)), AV.p true (PV.v (Value.int IntKind.i64 (0 : Int))),
                AV.p true (PV.v (Value.int IntKind.i64 (7 : Int)))]
              (AB (inB z (0 : Int) (7 : Int)))
              (VC.split (!inB z (0 : Int) (7 : Int)) (VC.done (AV.p true (PV.v (Value.int IntKind.i64 (-1 : Int)))))
                (VC.call (35 : Nat)
                  [AV.p true (PV.v (Value.int IntKind.i64 x)), AV.p true (PV.v (Value.int IntKind.i64 y)),
                    AV.p true (PV.v (Value.int IntKind.i64 z))]
                  (AI ((mixN x y z (3 : Nat)).tmod (200003 : Int)))
                  (VC.done
                    (AV.p true (PV.v (Value.int IntKind.i64 ((mixN x y z (3 : Nat)).tmod (200003 : Int)))))))))))) := by
  intros; kernel_rfl
theorem c27 (x y z : Int) : PRet Try.prog G0 27 [AI x, AI y, AI z] (AI (streamAt x y z)) := by
  refine PRet.by chk27 (ev27 x y z) ?_
  simp only [VC.holds_call, VC.holds_split, VC.done_ret, AV.Le_v, AV.closed, c29, c33, c34, c35, true_and]
  simp +contextual [streamAt]
def in32 (x y z : Int) := (G0, res32, [Item.ir ir32], (⟨argEnv 0 [AI x, AI y, AI z], []⟩ : St))
theorem ev32 : ∀ (x y z : Int),
  ev G0 res32 (3000 : Nat) Or.nil [Item.ir ir32] { env := argEnv (0 : Nat) [AI x, AI y, AI z], H := [] } =
    VC.need ((2147483647 : Int) ≠ (0 : Int))
      (VC.loop ir32_L1 [Item.bend (0 : Nat), Item.ir ir32_T2]
        {
          env :=
            [((0 : Nat), AV.p true (PV.v (Value.int IntKind.i64 x))),
              ((1 : Nat), AV.p true (PV.v (Value.int IntKind.i64 y))),
              ((2 : Nat), AV.p true (PV.v (Value.int IntKind.i64 z))),
              ((6 : Nat), AV.p true (PV.v (Value.int IntKind.i64 (0 : Int)))),
              ((7 : Nat),
                AV.p true
                  (PV.v
                    (Value.int IntKind.i64
                      ((IntKind.i64.wrap
                            (IntKind.i64.wrap
                                (IntKind.i64.wrap
                                    (IntKind.i64.wrap (x * (7 : Int)) + IntKind.i64.wrap (y * (13 : Int))) +
                                  IntKind.i64.wrap (z * (29 : Int))) +
                              (11 : Int))).tmod
                        (2147483647 : Int))))),
              ((8 : Nat), AV.p true (PV.v (Value.int IntKind.i64 (0 : Int))))],
          H := [] }) := by
  intros; kernel_rfl
def st32 (x y z : Int) (k : Nat) : St := ⟨[(0, AI x), (1, AI y), (2, AI z), (6, AI 0), (7, AI (mixN x y z k)), (8, AI k)], []⟩
def r32 (x y z : Int) (I : Nat → St → Prop) (k : Nat) := (G0, res32, [Item.ir ir32_L1, .lend (I k), Item.bend 0, Item.ir ir32_T2], st32 x y z k)
theorem ev32r : ∀ (x y z : Int) (I : Nat → St → Prop) (k : Nat),
  ev G0 res32 (3000 : Nat) (Or.nil.split Or.nil)
      [Item.ir ir32_L1, Item.lend (I k), Item.bend (0 : Nat), Item.ir ir32_T2] (st32 x y z k) =
    VC.split (decide ((↑k : Int) < (3 : Int)))
      (VC.need ((2147483647 : Int) ≠ (0 : Int))
        (VC.lend (I k)
          {
            env :=
              [((0 : Nat), AV.p true (PV.v (Value.int IntKind.i64 x))),
                ((1 : Nat), AV.p true (PV.v (Value.int IntKind.i64 y))),
                ((2 : Nat), AV.p true (PV.v (Value.int IntKind.i64 z))),
                ((6 : Nat), AV.p true (PV.v (Value.int IntKind.i64 (0 : Int)))),
                ((7 : Nat),
                  AV.p true
                    (PV.v
                      (Value.int IntKind.i64
                        ((IntKind.i64.wrap
                              (IntKind.i64.wrap
                                  (IntKind.i64.wrap (IntKind.i64.wrap (mixN x y z k * (48271 : Int)) + x) + y) +
                                (↑k : Int))).tmod
                          (2147483647 : Int))))),
                ((8 : Nat), AV.p true (PV.v (Value.int IntKind.i64 (IntKind.i64.wrap ((↑k : Int) + (1 : Int)))))),
                ((20 : Nat), AV.p true (PV.v (Value.bool (decide ((↑k : Int) < (3 : Int))))))],
            H := [] }))
      (VC.done (AV.p true (PV.v (Value.int IntKind.i64 (mixN x y z k))))) := by
  intros; kernel_rfl
theorem c32 (x y z : Int) : PRet Try.prog G0 32 [AI x, AI y, AI z] (AI (mixN x y z 3)) := by
  refine PRet.by chk32 (ev32 x y z) ?_
  simp only [VC.holds_need]
  refine ⟨by decide, loop_by (st32 x y z) (fun k => k ≤ 3) (fun k => 3 - k) 0 [] [] (by omega) ?_ (ev32r x y z) fun k hk => ?_⟩
  · simp [stLe, leEnv, leObs, injB, st32, AV.leC, PV.leC, St.get, look, mixN, Int.mul_comm]
  · simp only [VC.holds_split, VC.holds_need, VC.holds_lend, VC.done_ret, AV.Le_v, AV.closed, decide_eq_true_eq, decide_eq_false_iff_not]
    refine ⟨fun h => ⟨by decide, Again.mk (k + 1) [] [] (by omega) (by omega) ?_⟩, fun h => ⟨trivial, ?_⟩⟩
    · have : W ((k : Int) + 1) = k + 1 := wrap_small (by omega) (by omega)
      simp [stLe, leEnv, leObs, injB, st32, AV.leC, PV.leC, St.get, look, mixN, this, Int.mul_comm]
    · have : k = 3 := by omega
      subst this
      rfl
def in25 (x y z : Int) := (G0, res25, [Item.ir ir25], (⟨argEnv 0 [AI x, AI y, AI z], []⟩ : St))
theorem ev25 : ∀ (x y z : Int),
  ev G0 res25 (3000 : Nat)
      (Or.call (AB (inB x (0 : Int) (1000000 : Int)))
        (Or.nil.lit.lit.lit.lit.lit.lit.lit.lit.split
          (Or.call (AB (inB y (0 : Int) (1000000000 : Int)))
              (Or.nil.lit.lit.lit.lit.split
                    (Or.call (AB (inB z (0 : Int) (7 : Int)))
                        (Or.nil.split (Or.call (AI (mixN x y z (3 : Nat))) Or.nil)).lit.lit).lit).lit.lit).lit))
      [Item.ir ir25] { env := argEnv (0 : Nat) [AI x, AI y, AI z], H := [] } =
    VC.call (23 : Nat)
      [AV.p true (PV.v (Value.int IntKind.i64 x)), AV.p true (PV.v (Value.int IntKind.i64 (0 : Int))),
        AV.p true (PV.v (Value.int IntKind.i64 (1000000 : Int)))]
      (AB (inB x (0 : Int) (1000000 : Int)))
      (VC.split (!inB x (0 : Int) (1000000 : Int)) (VC.done (AV.p true (PV.v (Value.int IntKind.i64 (-1 : Int)))))
        (VC.call (23 : Nat)
          [AV.p true (PV.v (Value.int IntKind.i64 y)), AV.p true (PV.v (Value.int IntKind.i64 (0 : Int))),
            AV.p true (PV.v (Value.int IntKind.i64 (1000000000 : Int)))]
          (AB (inB y (0 : Int) (1000000000 : Int)))
          (VC.split (!inB y (0 : Int) (1000000000 : Int))
            (VC.done (AV.p true (PV.v (Value.int IntKind.i64 (-1 : Int)))))
            (VC.call (23 : Nat)
              [AV.p true (PV.v (Value.int IntKind.i64 z)), AV.p true (PV.v (Value.int IntKind.i64 (0 : Int))),
                AV.p true (PV.v (Value.int IntKind.i64 (7 : Int)))]
              (AB (inB z (0 : Int) (7 : Int)))
              (VC.split (!inB z (0 : Int) (7 : Int)) (VC.done (AV.p true (PV.v (Value.int IntKind.i64 (-1 : Int)))))
                (VC.call (32 : Nat)
                  [AV.p true (PV.v (Value.int IntKind.i64 x)), AV.p true (PV.v (Value.int IntKind.i64 y)),
                    AV.p true (PV.v (Value.int IntKind.i64 z))]
                  (AI (mixN x y z (3 : Nat)))
                  (VC.need ((200003 : Int) ≠ (0 : Int))
                    (VC.done
                      (AV.p true (PV.v (Value.int IntKind.i64 ((mixN x y z (3 : Nat)).tmod (200003 : Int))))))))))))) := by
  intros; kernel_rfl
theorem c25 (x y z : Int) : PRet Try.prog G0 25 [AI x, AI y, AI z] (AI (streamAt x y z)) := by
  refine PRet.by chk25 (ev25 x y z) ?_
  simp only [VC.holds_call, VC.holds_split, VC.holds_need, VC.done_ret, AV.Le_v, AV.closed, c23, c32, true_and]
  simp +contextual [streamAt]
def noise (x y z : Int) : Int := if inB x 0 1000000 && inB y 0 1000000000 && inB z 0 1000 then W ((streamAt x y 0).tmod (W (z + 1)) - (streamAt x y 1).tmod (W (z + 1))) else 0
theorem inB_iff {x lo hi : Int} : inB x lo hi = true ↔ lo ≤ x ∧ x ≤ hi := by simp [inB]
theorem wz {z : Int} (h : inB z 0 1000 = true) : W (z + 1) ≠ 0 := by
  have := inB_iff.1 h
  rw [wrap_small (by omega) (by omega)]
  omega
def in10 (x y z : Int) := (G0, res10, [Item.ir ir10], (⟨argEnv 0 [AI x, AI y, AI z], []⟩ : St))
theorem ev10 : ∀ (x y z : Int),
  ev G0 res10 (3000 : Nat)
      (Or.call (AB (inB x (0 : Int) (1000000 : Int)))
        (Or.nil.lit.lit.lit.lit.lit.lit.lit.lit.split
          (Or.call (AB (inB y (0 : Int) (1000000000 : Int)))
              (Or.nil.lit.lit.lit.lit.split
                    (Or.call (AB (inB z (0 : Int) (1000 : Int)))
                        (Or.nil.split
                              (Or.call (AI (streamAt x y (0 : Int)))
                                (Or.call (AI (streamAt x y (1 : Int))) Or.nil))).lit.lit).lit).lit.lit).lit))
      [Item.ir ir10] { env := argEnv (0 : Nat) [AI x, AI y, AI z], H := [] } =
    VC.call (23 : Nat)
      [AV.p true (PV.v (Value.int IntKind.i64 x)), AV.p true (PV.v (Value.int IntKind.i64 (0 : Int))),
        AV.p true (PV.v (Value.int IntKind.i64 (1000000 : Int)))]
      (AB (inB x (0 : Int) (1000000 : Int)))
      (VC.split (!inB x (0 : Int) (1000000 : Int)) (VC.done (AV.p true (PV.v (Value.int IntKind.i64 (0 : Int)))))
        (VC.call (23 : Nat)
          [AV.p true (PV.v (Value.int IntKind.i64 y)), AV.p true (PV.v (Value.int IntKind.i64 (0 : Int))),
            AV.p true (PV.v (Value.int IntKind.i64 (1000000000 : Int)))]
          (AB (inB y (0 : Int) (1000000000 : Int)))
          (VC.split (!inB y (0 : Int) (1000000000 : Int)) (VC.done (AV.p true (PV.v (Value.int IntKind.i64 (0 : Int)))))
            (VC.call (23 : Nat)
              [AV.p true (PV.v (Value.int IntKind.i64 z)), AV.p true (PV.v (Value.int IntKind.i64 (0 : Int))),
                AV.p true (PV.v (Value.int IntKind.i64 (1000 : Int)))]
              (AB (inB z (0 : Int) (1000 : Int)))
              (VC.split (!inB z (0 : Int) (1000 : Int)) (VC.done (AV.p true (PV.v (Value.int IntKind.i64 (0 : Int)))))
                (VC.call (25 : Nat)
                  [AV.p true (PV.v (Value.int IntKind.i64 x)), AV.p true (PV.v (Value.int IntKind.i64 y)),
                    AV.p true (PV.v (Value.int IntKind.i64 (0 : Int)))]
                  (AI (streamAt x y (0 : Int)))
                  (VC.need (IntKind.i64.wrap (z + (1 : Int)) ≠ (0 : Int))
                    (VC.call (25 : Nat)
                      [AV.p true (PV.v (Value.int IntKind.i64 x)), AV.p true (PV.v (Value.int IntKind.i64 y)),
                        AV.p true (PV.v (Value.int IntKind.i64 (1 : Int)))]
                      (AI (streamAt x y (1 : Int)))
                      (VC.need (IntKind.i64.wrap (z + (1 : Int)) ≠ (0 : Int))
                        (VC.done
                          (AV.p true
                            (PV.v
                              (Value.int IntKind.i64
                                (IntKind.i64.wrap
                                  ((streamAt x y (0 : Int)).tmod (IntKind.i64.wrap (z + (1 : Int))) -
                                    (streamAt x y (1 : Int)).tmod (IntKind.i64.wrap (z + (1 : Int)))))))))))))))))) := by
  intros; kernel_rfl
theorem c10 (x y z : Int) : PRet Try.prog G0 10 [AI x, AI y, AI z] (AI (noise x y z)) := by
  refine PRet.by chk10 (ev10 x y z) ?_
  simp only [VC.holds_call, VC.holds_split, VC.holds_need, VC.done_ret, AV.Le_v, AV.closed, c23, c25, true_and]
  simp +contextual [noise, wz]
def in11 (x y z : Int) := (G0, res11, [Item.ir ir11], (⟨argEnv 0 [AI x, AI y, AI z], []⟩ : St))
theorem ev11 : ∀ (x y z : Int),
  ev G0 res11 (3000 : Nat)
      (Or.call
        (AB (inB x (0 : Int) (1000000 : Int) && inB y (0 : Int) (1000000000 : Int) && inB z (0 : Int) (1000 : Int)))
        (Or.nil.split (Or.call (AI (streamAt x y (0 : Int))) (Or.call (AI (streamAt x y (1 : Int))) Or.nil))))
      [Item.ir ir11] { env := argEnv (0 : Nat) [AI x, AI y, AI z], H := [] } =
    VC.call (26 : Nat)
      [AV.p true (PV.v (Value.int IntKind.i64 x)), AV.p true (PV.v (Value.int IntKind.i64 y)),
        AV.p true (PV.v (Value.int IntKind.i64 z))]
      (AB (inB x (0 : Int) (1000000 : Int) && inB y (0 : Int) (1000000000 : Int) && inB z (0 : Int) (1000 : Int)))
      (VC.split
        (!(inB x (0 : Int) (1000000 : Int) && inB y (0 : Int) (1000000000 : Int) && inB z (0 : Int) (1000 : Int)))
        (VC.done (AV.p true (PV.v (Value.int IntKind.i64 (0 : Int)))))
        (VC.call (27 : Nat)
          [AV.p true (PV.v (Value.int IntKind.i64 x)), AV.p true (PV.v (Value.int IntKind.i64 y)),
            AV.p true (PV.v (Value.int IntKind.i64 (0 : Int)))]
          (AI (streamAt x y (0 : Int)))
          (VC.need (IntKind.i64.wrap (z + (1 : Int)) ≠ (0 : Int))
            (VC.call (27 : Nat)
              [AV.p true (PV.v (Value.int IntKind.i64 x)), AV.p true (PV.v (Value.int IntKind.i64 y)),
                AV.p true (PV.v (Value.int IntKind.i64 (1 : Int)))]
              (AI (streamAt x y (1 : Int)))
              (VC.need (IntKind.i64.wrap (z + (1 : Int)) ≠ (0 : Int))
                (VC.done
                  (AV.p true
                    (PV.v
                      (Value.int IntKind.i64
                        (IntKind.i64.wrap
                          ((streamAt x y (0 : Int)).tmod (IntKind.i64.wrap (z + (1 : Int))) -
                            (streamAt x y (1 : Int)).tmod (IntKind.i64.wrap (z + (1 : Int)))))))))))))) := by
  intros; kernel_rfl
theorem c11 (x y z : Int) : PRet Try.prog G0 11 [AI x, AI y, AI z] (AI (noise x y z)) := by
  refine PRet.by chk11 (ev11 x y z) ?_
  simp only [VC.holds_call, VC.holds_split, VC.holds_need, VC.done_ret, AV.Le_v, AV.closed, c26, c27, true_and]
  cases h1 : inB x 0 1000000 <;> cases h2 : inB y 0 1000000000 <;> cases h3 : inB z 0 1000 <;> simp +contextual [noise, wz, h1, h2, h3]
def in4 (x y z : Int) := (G0, res4, [Item.ir ir4], (⟨argEnv 0 [AI x, AI y, AI z], []⟩ : St))
theorem ev4 : ∀ (x y z : Int),
  ev G0 res4 (3000 : Nat) (Or.call (AI (noise x y z)) (Or.call (AI (noise x y z)) (Or.nil.split Or.nil))) [Item.ir ir4]
      { env := argEnv (0 : Nat) [AI x, AI y, AI z], H := [] } =
    VC.call (10 : Nat)
      [AV.p true (PV.v (Value.int IntKind.i64 x)), AV.p true (PV.v (Value.int IntKind.i64 y)),
        AV.p true (PV.v (Value.int IntKind.i64 z))]
      (AI (noise x y z))
      (VC.call (11 : Nat)
        [AV.p true (PV.v (Value.int IntKind.i64 x)), AV.p true (PV.v (Value.int IntKind.i64 y)),
          AV.p true (PV.v (Value.int IntKind.i64 z))]
        (AI (noise x y z))
        (VC.split (noise x y z != noise x y z) (VC.done (AV.p true (PV.v (Value.bool false))))
          (VC.done (AV.p true (PV.v (Value.bool true)))))) := by
  intros; kernel_rfl
theorem c4 (x y z : Int) : PRet Try.prog G0 4 [AI x, AI y, AI z] (AB true) := by
  refine PRet.by chk4 (ev4 x y z) ?_
  simp only [VC.holds_call, VC.holds_split, VC.holds_need, VC.done_ret, AV.Le_v, AV.closed, c10, c11, true_and]
  simp
end Go.Fw
