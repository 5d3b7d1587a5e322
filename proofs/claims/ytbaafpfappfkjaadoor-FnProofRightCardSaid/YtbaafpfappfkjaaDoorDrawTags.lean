/- Two tags drawn; joined tags differ; with no condition. -/
import Derived.Test.YtbaafpfappfkjaaDoorDraw
import Derived.Test.YtbaafpfappfkjaaDoorTags
import Derived.KernelRfl
namespace Go.Gw
open Go Go.Proofs
set_option linter.unusedSimpArgs false
set_option linter.unusedVariables false
set_option maxRecDepth 100000
def ir14 : Ir :=
  (.seq
  (.reg [] [o 2 (.mov (ci 0)),
    o 3 (.mov (ci 0))])
  (.seq
  (.reg [5, 6] [o 5 (.mov (tt 0)),
    o 6 (.call 41 [(tt 5)]),
    o 4 (.mov (tt 6))])
  (.seq
  (.dreg [7, 8, 9, 10, 11, 12, 13, 14, 15, 16, 17, 18, 19, 20] [0, 1, 3, 7, 0, 0, 35, 115, 243, 511, 1023, 0, 2147, 6243, 8191, 32767] [(1, 1008), (1, 2008), (1, 3008), (1, 4008), (1, 5008), (1, 6008), (1, 7008), (1, 8008), (3, 10), (4, 11), (6, 1013), (6, 2013), (6, 3013), (6, 4013), (6, 5013), (6, 6013), (6, 7013), (6, 8013), (8, 1015), (10, 1017), (12, 1019), (12, 2019), (12, 3019), (12, 4019), (12, 5019), (12, 6019), (12, 7019), (12, 8019)] [o 7 (.mov (tt 4)),
    o 8 (.call 42 [(tt 7), (ci 256)]),
    o 9 (.bin .mul (tt 8) (ci 780)),
    o 10 (.mkSl 1 4 [(.int .i64 0)] [(0, (tt 9)), (1, (ci 200002)), (2, (ci 200003)), (3, (ci (-1)))]),
    o 11 (.mkSl 1 7 [(.int .i64 0)] [(0, (ci 0)), (1, (ci 0)), (2, (ci 0)), (3, (ci 0)), (4, (ci 1)), (5, (ci 2)), (6, (ci 3))]),
    o 12 (.mov (tt 4)),
    o 13 (.call 42 [(tt 12), (ci 7)]),
    o 14 (.idx 1 (tt 11) (tt 13)),
    o 15 (.load false 1 (tt 14)),
    o 16 (.idx 1 (tt 10) (tt 15)),
    o 17 (.load false 1 (tt 16)),
    o 18 (.mov (tt 4)),
    o 19 (.call 42 [(tt 18), (ci 256)]),
    o 20 (.bin .mul (tt 19) (ci 700)),
    o 2 (.mov (tt 17)),
    o 3 (.mov (tt 20))])
  .ret)))
def keep14 : List Nat := [0, 2, 3, 4]
def res14 : List RI := [.tmp 2, .tmp 3]
theorem chk14 : chk Tryd.prog 14 1 keep14 = some (ir14, res14) := by kernel_rfl
def ir3 : Ir :=
  (.seq
  (.reg [] [o 2 (.mov (cb false))])
  (.seq
  (.seq
  (.reg [6, 7] [o 6 (.mov (tt 0)),
    o 7 (.len (tt 6)),
    o 8 (.bin .gtr (tt 7) (ci 1048576))])
  (.cond (tt 8)
   (.seq
   (.reg [] [o 2 (.mov (cb true))])
   .ret)
   .skip))
  (.seq
  (.reg [10, 11, 9, 12, 13] [o 10 (.mov (tt 0)),
    o 11 (.call 14 [(tt 10)]),
    o 9 (.mov (tt 11)),
    o 12 (.ext (tt 9) 0),
    o 13 (.ext (tt 9) 1),
    o 3 (.mov (tt 12)),
    o 4 (.mov (tt 13))])
  (.seq
  (.reg [14, 15, 16] [o 14 (.mov (tt 3)),
    o 15 (.mov (tt 4)),
    o 16 (.call 15 [(tt 14), (tt 15)]),
    o 5 (.mov (tt 16))])
  (.seq
  (.seq
  (.reg [17, 18, 19, 20] [o 17 (.mov (tt 5)),
    o 18 (.mov (tt 3)),
    o 19 (.mov (tt 4)),
    o 20 (.call 16 [(tt 18), (tt 19)]),
    o 21 (.bin .neq (tt 17) (tt 20))])
  (.cond (tt 21)
   (.seq
   (.reg [] [o 2 (.mov (cb false))])
   .ret)
   .skip))
  (.seq
  (.seq
  (.reg [22] [o 22 (.mov (tt 5)),
    o 23 (.bin .lss (tt 22) (ci 0))])
  (.cond (tt 23)
   (.seq
   (.reg [24, 25, 26, 27, 28] [o 24 (.mov (tt 5)),
     o 25 (.bin .eql (tt 24) (ci (-1))),
     o 26 (.mov (tt 25)),
     og 27 26 true (.call 17 []),
     o 28 (.pick (tt 26) (tt 27) (cb false)),
     o 2 (.mov (tt 28))])
   .ret)
   .skip))
  (.seq
  (.reg [29, 30, 31, 32, 33, 34, 35, 36, 37, 38, 39, 40, 41, 42, 43, 44, 45, 46] [o 29 (.mov (tt 5)),
    o 30 (.bin .lss (tt 29) (ci 200003)),
    o 31 (.mov (tt 30)),
    og 32 31 true (.mov (tt 3)),
    og 33 31 true (.mov (tt 4)),
    og 34 31 true (.bin .add (tt 33) (ci 1)),
    og 35 31 true (.call 15 [(tt 32), (tt 34)]),
    og 36 31 true (.mov (tt 5)),
    og 37 31 true (.bin .neq (tt 35) (tt 36)),
    o 38 (.pick (tt 31) (tt 37) (cb false)),
    o 39 (.mov (tt 38)),
    og 40 39 true (.mov (tt 3)),
    og 41 39 true (.bin .add (tt 40) (ci 1)),
    og 42 39 true (.mov (tt 4)),
    og 43 39 true (.call 15 [(tt 41), (tt 42)]),
    og 44 39 true (.mov (tt 5)),
    og 45 39 true (.bin .neq (tt 43) (tt 44)),
    o 46 (.pick (tt 39) (tt 45) (cb false)),
    o 2 (.mov (tt 46))])
  .ret)))))))
def keep3 : List Nat := [0, 2, 3, 4, 5, 8, 21, 23]
def res3 : List RI := [.tmp 2]
theorem chk3 : chk Tryd.prog 3 1 keep3 = some (ir3, res3) := by kernel_rfl

def in_dJT (nn : Bool) (n : Nat) (f : Nat → Int) := (G0, res14, ([] : List (Nat × Ob)), [Item.ir ir14], start [.p false (.sl nn 1 n (PB f))] [])
theorem ev_dJT : ∀ (nn : Bool) (n : Nat) (f : Nat → Int),
  ev G0 res14 [] (3000 : Nat)
      (Or.call [] (AV.adr (0 : Nat) (0 : Nat)) [((0 : Nat), RD nn (openN n) f (0 : Nat))]
        (Or.call [(1006 : Nat)] (AI (pickV (openN n) f (0 : Nat) (256 : Int)))
          [((0 : Nat), RD nn (openN n) f ((0 : Nat) + (1 : Nat)))]
          (Or.call [(1006 : Nat)] (AI (pickV (openN n) f ((0 : Nat) + (1 : Nat)) (7 : Int)))
            [((0 : Nat), RD nn (openN n) f ((0 : Nat) + (1 : Nat) + (1 : Nat)))]
            (Or.call [(1006 : Nat)] (AI (pickV (openN n) f ((0 : Nat) + (1 : Nat) + (1 : Nat)) (256 : Int)))
              [((0 : Nat), RD nn (openN n) f ((0 : Nat) + (1 : Nat) + (1 : Nat) + (1 : Nat)))] Or.nil))))
      [Item.ir ir14] (start [AV.p false (PV.sl nn (1 : Nat) n (PB f))] []) =
    VC.call (41 : Nat) [AV.p false (PV.sl nn (1 : Nat) n (PB f))] [] (AV.adr (0 : Nat) (0 : Nat))
      [((0 : Nat), RD nn (openN n) f (0 : Nat))]
      (VC.call (42 : Nat) [AV.adr (0 : Nat) (0 : Nat), AV.p true (PV.v (Value.int IntKind.i64 (256 : Int)))]
        [((0 : Nat),
            Ob.box
              [AV.p false (PV.sl nn (1 : Nat) (openN n) (PB f)),
                AV.p true (PV.v (Value.int IntKind.i64 (↑(0 : Nat) : Int)))])]
        (AI (pickV (openN n) f (0 : Nat) (256 : Int))) [((0 : Nat), RD nn (openN n) f ((0 : Nat) + (1 : Nat)))]
        (VC.call (42 : Nat) [AV.adr (0 : Nat) (0 : Nat), AV.p true (PV.v (Value.int IntKind.i64 (7 : Int)))]
          [((0 : Nat),
              Ob.box
                [AV.p false (PV.sl nn (1 : Nat) (openN n) (PB f)),
                  AV.p true (PV.v (Value.int IntKind.i64 (↑((0 : Nat) + (1 : Nat)) : Int)))])]
          (AI (pickV (openN n) f ((0 : Nat) + (1 : Nat)) (7 : Int)))
          [((0 : Nat), RD nn (openN n) f ((0 : Nat) + (1 : Nat) + (1 : Nat)))]
          (VC.need
            ((0 : Int) ≤ pickV (openN n) f ((0 : Nat) + (1 : Nat)) (7 : Int) ∧
              (pickV (openN n) f ((0 : Nat) + (1 : Nat)) (7 : Int)).toNat < (7 : Nat))
            (VC.need ((pickV (openN n) f ((0 : Nat) + (1 : Nat)) (7 : Int)).toNat < (7 : Nat))
              (VC.need
                ((0 : Int) ≤
                    litI [(0 : Int), (0 : Int), (0 : Int), (0 : Int), (1 : Int), (2 : Int), (3 : Int)]
                      (pickV (openN n) f ((0 : Nat) + (1 : Nat)) (7 : Int)).toNat ∧
                  (litI [(0 : Int), (0 : Int), (0 : Int), (0 : Int), (1 : Int), (2 : Int), (3 : Int)]
                        (pickV (openN n) f ((0 : Nat) + (1 : Nat)) (7 : Int)).toNat).toNat <
                    (4 : Nat))
                (VC.need
                  ((litI [(0 : Int), (0 : Int), (0 : Int), (0 : Int), (1 : Int), (2 : Int), (3 : Int)]
                        (pickV (openN n) f ((0 : Nat) + (1 : Nat)) (7 : Int)).toNat).toNat <
                    (4 : Nat))
                  (VC.call (42 : Nat) [AV.adr (0 : Nat) (0 : Nat), AV.p true (PV.v (Value.int IntKind.i64 (256 : Int)))]
                    [((0 : Nat),
                        Ob.box
                          [AV.p false (PV.sl nn (1 : Nat) (openN n) (PB f)),
                            AV.p true (PV.v (Value.int IntKind.i64 (↑((0 : Nat) + (1 : Nat) + (1 : Nat)) : Int)))])]
                    (AI (pickV (openN n) f ((0 : Nat) + (1 : Nat) + (1 : Nat)) (256 : Int)))
                    [((0 : Nat), RD nn (openN n) f ((0 : Nat) + (1 : Nat) + (1 : Nat) + (1 : Nat)))]
                    (VC.doneP
                      (AV.tp
                        [AV.p true
                            (PV.v
                              (Value.int IntKind.i64
                                (litI
                                  [IntKind.i64.wrap (pickV (openN n) f (0 : Nat) (256 : Int) * (780 : Int)),
                                    (200002 : Int), (200003 : Int), (-1 : Int)]
                                  (litI [(0 : Int), (0 : Int), (0 : Int), (0 : Int), (1 : Int), (2 : Int), (3 : Int)]
                                      (pickV (openN n) f ((0 : Nat) + (1 : Nat)) (7 : Int)).toNat).toNat))),
                          AV.p true
                            (PV.v
                              (Value.int IntKind.i64
                                (IntKind.i64.wrap
                                  (pickV (openN n) f ((0 : Nat) + (1 : Nat) + (1 : Nat)) (256 : Int) *
                                    (700 : Int)))))]))))))))) := by
  intros; kernel_rfl
theorem c_dJT (nn : Bool) (n : Nat) (f : Nat → Int) (hb : Bytes f) : PSome Tryd.prog G0 14 [.p false (.sl nn 1 n (PB f))] [] (Int × Int) (fun _ => True) (fun x => .tp [AI x.1, AI x.2]) (fun _ => []) := by
  refine PCall.by chk14 rfl (ev_dJT nn n f) ?_
  simp only [VC.holds_split, VC.holds_need, VC.holds_doneP, VC.holds_done, VC.holds_either, VC.holds_call, VC.holds_callE, VC.holds_lend, VC.holds_stop, VC.holds_fail, decide_eq_true_eq, decide_eq_false_iff_not]
  have r1 := pick_rng (n := openN n) (p := 0 + 1) (m := 7) hb (by omega) (by omega)
  have r2 := lit_rng (lo := 0) (hi := 3) (l := [0, 0, 0, 0, 1, 2, 3]) (by decide) (i := (pickV (openN n) f (0 + 1) 7).toNat) (by simp only [List.length_cons, List.length_nil]; omega)
  refine ⟨c_open _ _ _, c_pick _ _ _ _ _ hb (by omega), c_pick _ _ _ _ _ hb (by omega), ⟨r1.1, by omega⟩, by omega, ⟨r2.1, by omega⟩, by omega, c_pick _ _ _ _ _ hb (by omega), ⟨(_, _), trivial, rfl, trivial⟩⟩
theorem joinT_eq {x y : Int} (hx : tagB x = true) (hy : tagB y = true) : joinT x y = (31 * x + 7919 * y + 17) % 200003 := by
  have := tagB_iff.1 hx
  have := tagB_iff.1 hy
  simp only [joinT, hx, hy, Bool.and_self, if_true]
  exact Int.tmod_eq_emod_of_nonneg (by omega)
theorem joinT_neg {x y : Int} (h : joinT x y < 0) : joinT x y = -1 := by
  unfold joinT at h ⊢
  split at h
  · rename_i h1
    simp only [Bool.and_eq_true] at h1
    have h2 := tagB_iff.1 (joinT_tag h1.1 h1.2)
    simp only [joinT, h1, Bool.and_self, if_true] at h2
    omega
  · rename_i h1; rw [if_neg h1]
theorem joinT_pos {x y : Int} (h : ¬ joinT x y < 0) : tagB x = true ∧ tagB y = true := by
  unfold joinT at h
  split at h
  · rename_i h1; simpa using h1
  · omega
theorem joinT_l {x x' y : Int} (hx : tagB x = true) (hx' : tagB x' = true) (hy : tagB y = true) (h : joinT x y = joinT x' y) : x = x' := by
  rw [joinT_eq hx hy, joinT_eq hx' hy] at h
  have := tagB_iff.1 hx
  have := tagB_iff.1 hx'
  omega
theorem joinT_r {x y y' : Int} (hx : tagB x = true) (hy : tagB y = true) (hy' : tagB y' = true) (h : joinT x y = joinT x y') : y = y' := by
  rw [joinT_eq hx hy, joinT_eq hx hy'] at h
  have := tagB_iff.1 hy
  have := tagB_iff.1 hy'
  omega
def in_lJT (nn : Bool) (n : Nat) (f : Nat → Int) := (G0, res3, ([] : List (Nat × Ob)), [Item.ir ir3], start [.p false (.sl nn 1 n (PB f))] [])
theorem ev_lJT : ∀ (nn : Bool) (n : Nat) (f : Nat → Int),
  ev G0 res3 [] (3000 : Nat)
      (Or.nil.split
        (Or.callE [] (Int × Int) (fun (x : Int × Int) => True) (fun (x : Int × Int) => AV.tp [AI x.fst, AI x.snd])
          (fun (x : Int × Int) => []) fun (x : Int × Int) =>
          Or.call [] (AI (joinT x.1 x.2)) []
            (Or.call [] (AI (joinT x.1 x.2)) []
              (Or.nil.split
                (((Or.call [] (AB true) [] Or.nil.lit).split Or.nil.lit).split
                  ((Or.call [] (AI (joinT x.1 (IntKind.i64.wrap (x.2 + (1 : Int))))) []
                              ((Or.call [] (AI (joinT (IntKind.i64.wrap (x.1 + (1 : Int))) x.2)) []
                                                Or.nil.lit.lit.lit).lit.lit.lit.split
                                      Or.nil.lit.lit.lit.lit.lit.lit).lit.lit.lit).lit.lit.lit.split
                    Or.nil.lit.lit.lit.lit.lit.lit.lit.lit.lit.lit.lit.lit.lit))))))
      [Item.ir ir3] (start [AV.p false (PV.sl nn (1 : Nat) n (PB f))] []) =
    VC.split (decide ((1048576 : Int) < (↑n : Int))) (VC.doneP (AV.p true (PV.v (Value.bool true))))
      (VC.callE (Int × Int) (14 : Nat) [AV.p false (PV.sl nn (1 : Nat) n (PB f))] [] (fun (x : Int × Int) => True)
        (fun (x : Int × Int) => AV.tp [AI x.fst, AI x.snd]) (fun (x : Int × Int) => []) fun (x : Int × Int) =>
        VC.call (15 : Nat) [AV.p true (PV.v (Value.int IntKind.i64 x.1)), AV.p true (PV.v (Value.int IntKind.i64 x.2))]
          [] (AI (joinT x.1 x.2)) []
          (VC.call (16 : Nat)
            [AV.p true (PV.v (Value.int IntKind.i64 x.1)), AV.p true (PV.v (Value.int IntKind.i64 x.2))] []
            (AI (joinT x.1 x.2)) []
            (VC.split (joinT x.1 x.2 != joinT x.1 x.2) (VC.doneP (AV.p true (PV.v (Value.bool false))))
              (VC.split (decide (joinT x.1 x.2 < (0 : Int)))
                (VC.split (joinT x.1 x.2 == (-1 : Int))
                  (VC.call (17 : Nat) [] [] (AB true) [] (VC.doneP (AV.p true (PV.v (Value.bool true)))))
                  (VC.doneP (AV.p true (PV.v (Value.bool false)))))
                (VC.split (decide (joinT x.1 x.2 < (200003 : Int)))
                  (VC.call (15 : Nat)
                    [AV.p true (PV.v (Value.int IntKind.i64 x.1)),
                      AV.p true (PV.v (Value.int IntKind.i64 (IntKind.i64.wrap (x.2 + (1 : Int)))))]
                    [] (AI (joinT x.1 (IntKind.i64.wrap (x.2 + (1 : Int))))) []
                    (VC.split (joinT x.1 (IntKind.i64.wrap (x.2 + (1 : Int))) != joinT x.1 x.2)
                      (VC.call (15 : Nat)
                        [AV.p true (PV.v (Value.int IntKind.i64 (IntKind.i64.wrap (x.1 + (1 : Int))))),
                          AV.p true (PV.v (Value.int IntKind.i64 x.2))]
                        [] (AI (joinT (IntKind.i64.wrap (x.1 + (1 : Int))) x.2)) []
                        (VC.doneP
                          (AV.p true
                            (PV.v (Value.bool (joinT (IntKind.i64.wrap (x.1 + (1 : Int))) x.2 != joinT x.1 x.2))))))
                      (VC.doneP (AV.p true (PV.v (Value.bool false))))))
                  (VC.doneP (AV.p true (PV.v (Value.bool false))))))))) := by
  intros; kernel_rfl
theorem succ_tag {x : Int} (hx : tagB x = true) : IntKind.i64.wrap (x + 1) = x + 1 := by
  have := tagB_iff.1 hx
  exact wrap_in (by omega) (by omega)
theorem joinT_ne_l {x y : Int} (h : ¬ joinT x y < 0) : joinT (x + 1) y ≠ joinT x y := by
  obtain ⟨hx, hy⟩ := joinT_pos h
  intro e
  cases h1 : tagB (x + 1) with
  | true => have := joinT_l h1 hx hy e; omega
  | false => have e2 : joinT (x + 1) y = -1 := by simp [joinT, h1]
             omega
theorem joinT_ne_r {x y : Int} (h : ¬ joinT x y < 0) : joinT x (y + 1) ≠ joinT x y := by
  obtain ⟨hx, hy⟩ := joinT_pos h
  intro e
  cases h1 : tagB (y + 1) with
  | true => have := joinT_r hx h1 hy e; omega
  | false => have e2 : joinT x (y + 1) = -1 := by simp [joinT, h1]
             omega
theorem c_lJT (nn : Bool) (n : Nat) (f : Nat → Int) (hb : Bytes f) : PRet Tryd.prog G0 3 [.p false (.sl nn 1 n (PB f))] (AB true) := by
  refine PRet.by chk3 (ev_lJT nn n f) ?_
  simp only [VC.holds_split, VC.holds_need, VC.holds_doneP, VC.holds_done, VC.holds_either, VC.holds_call, VC.holds_callE, VC.holds_lend, VC.holds_stop, VC.holds_fail, decide_eq_true_eq, decide_eq_false_iff_not]
  refine ⟨fun h => by simp, fun h => ⟨c_dJT nn n f hb, fun x _ => ⟨c_imJT _ _, c_spJT _ _, fun h1 => by simp at h1, fun h1 => ⟨fun h2 => ⟨fun h3 => ⟨c_alive, by simp⟩, fun h3 => ?_⟩, fun h2 => ?_⟩⟩⟩⟩
  · rw [joinT_neg h2] at h3; simp at h3
  · obtain ⟨hx, hy⟩ := joinT_pos h2
    have := tagB_iff.1 (joinT_tag hx hy)
    have n1 := joinT_ne_r h2
    have n2 := joinT_ne_l h2
    simp only [succ_tag hx, succ_tag hy]
    refine ⟨fun h3 => ⟨c_imJT _ _, fun h4 => ⟨c_imJT _ _, ?_⟩, fun h4 => ?_⟩, fun h3 => by omega⟩
    · simp [n2]
    · simp [n1] at h4
theorem law_FnJoinTags (xs : List AV) (h : Args Tryd.prog Tryd.f3.params.toList xs) : PRet Tryd.prog G0 3 xs (AB true) := by
  have hp : Tryd.f3.params.toList = [22] := by kernel_rfl
  rw [hp] at h
  obtain ⟨nn, n, f, c, cs, hb, h2, rfl, hle⟩ := args_bytes h
  cases h2
  exact (c_lJT nn n f hb).args ⟨hle, trivial⟩
end Go.Gw
