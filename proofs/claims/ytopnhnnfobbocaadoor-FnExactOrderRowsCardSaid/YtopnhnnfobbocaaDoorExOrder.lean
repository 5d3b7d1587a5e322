/- The law on OrderRows alone; with no condition. -/
import Derived.Test.YtopnhnnfobbocaaDoorOrder
import Derived.KernelRfl
namespace Go.Gw
open Go Go.Proofs
set_option linter.unusedSimpArgs false
set_option linter.unusedVariables false
set_option maxRecDepth 100000
def ir12 : Ir :=
  (.seq
  (.reg [] [o 3 (.box 2 (tt 0)),
    o 6 (.mov (cb false))])
  (.seq
  (.seq
  (.reg [18, 19] [o 18 (.mov (tt 1)),
    o 19 (.lenS (tt 18)),
    o 20 (.bin .gtr (tt 19) (ci 1048576))])
  (.cond (tt 20)
   (.seq
   (.reg [] [o 6 (.mov (cb true))])
   .ret)
   .skip))
  (.seq
  (.reg [] [o 7 (.mov (ci 1048576))])
  (.seq
  (.reg [21, 22, 23] [o 21 (.load true 2 (tt 3)),
    o 22 (.mov (tt 7)),
    o 23 (.call 38 [(tt 21), (tt 22)]),
    o 7 (.mov (tt 23))])
  (.seq
  (.seq
  (.reg [24] [o 24 (.mov (tt 7)),
    o 25 (.bin .lss (tt 24) (ci 0))])
  (.cond (tt 25)
   (.seq
   (.reg [] [o 6 (.mov (cb true))])
   .ret)
   .skip))
  (.seq
  (.reg [27, 28, 29, 30, 31, 26, 32, 33] [o 27 (.load true 2 (tt 3)),
    o 28 (.call 39 [(tt 27)]),
    o 29 (.mov (tt 1)),
    o 30 (.mov (tt 2)),
    o 31 (.call 45 [(tt 28), (tt 29), (tt 30)]),
    o 26 (.mov (tt 31)),
    o 32 (.ext (tt 26) 0),
    o 33 (.ext (tt 26) 1),
    o 8 (.alloc [(.slice none 0 0), (.slice none 0 0)]),
    on (.store 2 (tt 8) (tt 32)),
    o 9 (.mov (tt 33))])
  (.seq
  (.reg [34, 35] [o 34 (.load true 2 (tt 3)),
    o 35 (.call 39 [(tt 34)]),
    o 10 (.alloc [(.slice none 0 0), (.slice none 0 0)]),
    on (.store 2 (tt 10) (tt 35))])
  (.seq
  (.reg [37, 38, 39, 40, 36, 41, 42] [o 37 (.load true 2 (tt 10)),
    o 38 (.mov (tt 1)),
    o 39 (.mov (tt 2)),
    o 40 (.call 44 [(tt 37), (tt 38), (tt 39)]),
    o 36 (.mov (tt 40)),
    o 41 (.ext (tt 36) 0),
    o 42 (.ext (tt 36) 1),
    o 11 (.alloc [(.slice none 0 0), (.slice none 0 0)]),
    on (.store 2 (tt 11) (tt 41)),
    o 12 (.mov (tt 42))])
  (.seq
  (.seq
  (.reg [43, 44, 45, 46, 47, 48, 49, 50] [o 43 (.load true 2 (tt 11)),
    o 44 (.load true 2 (tt 8)),
    o 45 (.call 24 [(tt 43), (tt 44)]),
    o 46 (.un .not (tt 45)),
    o 47 (.mov (tt 46)),
    og 48 47 false (.mov (tt 12)),
    og 49 47 false (.mov (tt 9)),
    og 50 47 false (.binB .neq (tt 48) (tt 49)),
    o 51 (.pick (tt 47) (cb true) (tt 50))])
  (.cond (tt 51)
   (.seq
   (.reg [] [o 6 (.mov (cb false))])
   .ret)
   .skip))
  (.seq
  (.seq
  (.dreg [52, 53, 54, 55] [0, 0, 2, 7, 15] [(0, 1052), (0, 2052), (1, 1053), (1, 2053), (2, 1054), (2, 2054), (2, 3054), (2, 4054), (2, 5054), (2, 6054), (2, 7054), (2, 8054), (3, 1055), (3, 2055), (3, 3055), (3, 4055), (3, 5055), (3, 6055), (3, 7055), (3, 8055)] [o 52 (.load true 2 (tt 10)),
    o 53 (.load true 2 (tt 3)),
    o 54 (.call 39 [(tt 53)]),
    o 55 (.call 24 [(tt 52), (tt 54)]),
    o 56 (.un .not (tt 55))])
  (.cond (tt 56)
   (.seq
   (.reg [] [o 6 (.mov (cb false))])
   .ret)
   .skip))
  (.seq
  (.reg [] [o 13 (.mov (ci 1))])
  (.seq
  (.reg [57, 58, 59] [o 57 (.load true 2 (tt 10)),
    o 58 (.mov (tt 13)),
    o 59 (.call 27 [(tt 57), (tt 58)]),
    o 13 (.mov (tt 59))])
  (.seq
  (.seq
  (.reg [60, 61, 62, 63, 64, 65, 66, 67, 68, 69, 70, 71] [o 60 (.mov (tt 13)),
    o 61 (.bin .lss (tt 60) (ci 0)),
    o 62 (.mov (tt 61)),
    og 63 62 false (.load true 2 (tt 11)),
    og 64 62 false (.load true 2 (tt 8)),
    og 65 62 false (.call 24 [(tt 63), (tt 64)]),
    og 66 62 false (.un .not (tt 65)),
    o 67 (.pick (tt 62) (cb true) (tt 66)),
    o 68 (.mov (tt 67)),
    og 69 68 false (.mov (tt 12)),
    og 70 68 false (.mov (tt 9)),
    og 71 68 false (.binB .neq (tt 69) (tt 70)),
    o 72 (.pick (tt 68) (cb true) (tt 71))])
  (.cond (tt 72)
   (.seq
   (.reg [] [o 6 (.mov (cb false))])
   .ret)
   .skip))
  (.seq
  (.reg [] [o 14 (.mov (ci 1))])
  (.seq
  (.reg [73, 74, 75] [o 73 (.load true 2 (tt 11)),
    o 74 (.mov (tt 14)),
    o 75 (.call 27 [(tt 73), (tt 74)]),
    o 14 (.mov (tt 75))])
  (.seq
  (.reg [] [o 15 (.mov (ci 1))])
  (.seq
  (.reg [76, 77, 78] [o 76 (.load true 2 (tt 11)),
    o 77 (.mov (tt 15)),
    o 78 (.call 28 [(tt 76), (tt 77)]),
    o 15 (.mov (tt 78))])
  (.seq
  (.seq
  (.reg [79] [o 79 (.mov (tt 15)),
    o 80 (.bin .lss (tt 79) (ci 0))])
  (.cond (tt 80)
   (.seq
   (.reg [] [o 6 (.mov (cb false))])
   .ret)
   .skip))
  (.seq
  (.seq
  (.reg [81, 82] [o 81 (.mov (tt 15)),
    o 82 (.mov (tt 14)),
    o 83 (.bin .neq (tt 81) (tt 82))])
  (.cond (tt 83)
   (.seq
   (.reg [] [o 6 (.mov (cb false))])
   .ret)
   .skip))
  (.seq
  (.reg [85, 86, 87, 88, 89, 84, 90, 91] [o 85 (.load true 2 (tt 3)),
    o 86 (.call 39 [(tt 85)]),
    o 87 (.mov (tt 1)),
    o 88 (.mov (tt 2)),
    o 89 (.call 44 [(tt 86), (tt 87), (tt 88)]),
    o 84 (.mov (tt 89)),
    o 90 (.ext (tt 84) 0),
    o 91 (.ext (tt 84) 1),
    o 16 (.alloc [(.slice none 0 0), (.slice none 0 0)]),
    on (.store 2 (tt 16) (tt 90)),
    o 17 (.mov (tt 91))])
  (.seq
  (.seq
  (.reg [92, 93, 94, 95, 96, 97, 98, 99] [o 92 (.load true 2 (tt 16)),
    o 93 (.load true 2 (tt 8)),
    o 94 (.call 24 [(tt 92), (tt 93)]),
    o 95 (.un .not (tt 94)),
    o 96 (.mov (tt 95)),
    og 97 96 false (.mov (tt 17)),
    og 98 96 false (.mov (tt 9)),
    og 99 96 false (.binB .neq (tt 97) (tt 98)),
    o 100 (.pick (tt 96) (cb true) (tt 99))])
  (.cond (tt 100)
   (.seq
   (.reg [] [o 6 (.mov (cb false))])
   .ret)
   .skip))
  (.seq
  (.reg [] [o 15 (.mov (ci 1))])
  (.seq
  (.reg [101, 102, 103] [o 101 (.load true 2 (tt 11)),
    o 102 (.mov (tt 15)),
    o 103 (.call 28 [(tt 101), (tt 102)]),
    o 15 (.mov (tt 103))])
  (.seq
  (.seq
  (.reg [104] [o 104 (.mov (tt 15)),
    o 105 (.bin .lss (tt 104) (ci 0))])
  (.cond (tt 105)
   (.seq
   (.reg [] [o 6 (.mov (cb false))])
   .ret)
   .skip))
  (.seq
  (.seq
  (.reg [106, 107] [o 106 (.mov (tt 15)),
    o 107 (.mov (tt 14)),
    o 108 (.bin .neq (tt 106) (tt 107))])
  (.cond (tt 108)
   (.seq
   (.reg [] [o 6 (.mov (cb false))])
   .ret)
   .skip))
  (.seq
  (.reg [] [o 6 (.mov (cb true))])
  .ret))))))))))))))))))))))))))
def keep12 : List Nat := [0, 1, 2, 3, 6, 7, 8, 9, 10, 11, 12, 13, 14, 15, 16, 17, 20, 25, 51, 56, 72, 80, 83, 100, 105, 108]
def res12 : List RI := [.tmp 6]
theorem chk12 : chk Tryd.prog 12 3 keep12 = some (ir12, res12) := by kernel_rfl

theorem leaves_tx : leaves Tryd.prog 12 9 = some [.str] := by kernel_rfl
theorem args_tx {ts : List TypeId} {xs : List AV} (h : Args Tryd.prog (9 :: ts) xs) : ∃ s a cs, s.size ≤ maxLen ∧ AV.leP a (AT s) ∧ Args Tryd.prog ts cs ∧ xs = a :: cs := by
  cases h with
  | cons t ts ls l cs hl hlen hfit h =>
    rw [leaves_tx] at hl
    cases hl
    match l, hlen with
    | [c0], _ =>
      obtain ⟨s, h1, hs⟩ := fit_str (hfit 0 _ rfl)
      simp only [List.getD_cons_zero] at h1
      subst h1
      refine ⟨s, _, cs, hs, ?_, h, rfl⟩
      unfold argOf
      rw [Tryd.underlying9]
      exact ⟨fun _ => .inr ⟨rfl, rfl⟩, PV.leC_rfl _⟩
theorem leaves_bo : leaves Tryd.prog 12 4 = some [.bool] := by kernel_rfl
theorem args_bo {ts : List TypeId} {xs : List AV} (h : Args Tryd.prog (4 :: ts) xs) : ∃ b a cs, AV.leP a (AB b) ∧ Args Tryd.prog ts cs ∧ xs = a :: cs := by
  cases h with
  | cons t ts ls l cs hl hlen hfit h =>
    rw [leaves_bo] at hl
    cases hl
    match l, hlen with
    | [c0], _ =>
      obtain ⟨s, h1⟩ := fit_bool (hfit 0 _ rfl)
      simp only [List.getD_cons_zero] at h1
      subst h1
      refine ⟨s, _, cs, ?_, h, rfl⟩
      unfold argOf
      rw [Tryd.underlying4]
      exact ⟨fun _ => .inr ⟨rfl, rfl⟩, PV.leC_rfl _⟩
def in_lawOR (n : Nat) (f : Nat → ByteArray) (m : Nat) (w : Nat → Nat) (h : Nat → Nat → Int) (s : ByteArray) (dn : Bool) := (G0, res12, ([] : List (Nat × Ob)), [Item.ir ir12], start [TA false false n f m w h, AT s, AB dn] [])
theorem ev_lawOR : ∀ (n : Nat) (f : Nat → ByteArray) (m : Nat) (w : Nat → Nat) (h : Nat → Nat → Int) (s : ByteArray) (dn : Bool),
  ev G0 res12 [] (3000 : Nat)
      (Or.nil.split
        (Or.callE [] Int
          (fun (r : Int) => r = (-1 : Int) ∨ (0 : Int) ≤ r ∧ r + (↑(tabSz n f m w) : Int) = (1048576 : Int))
          (fun (r : Int) => AI r) (fun (x : Int) => []) fun (r : Int) =>
          Or.nil.split
            (Or.call [] taR (taH n f m w h)
              (Or.call [] (orR n f m w h s) (orF n f m w h s dn)
                (Or.call [] taR (taH n f m w h)
                  (Or.call [] (orR n f m w h s) (orH n f m w h s dn)
                    (Or.call [] (AB true) []
                      (Or.nil.split
                                (Or.call [] taR (taH n f m w h)
                                  (Or.call [] (AB true) []
                                    (Or.call [(1035 : Nat), (2035 : Nat)]
                                        (AI ((1 : Int) + (↑n : Int) + (↑(sumN w m) : Int)))
                                        (taH n (fun (i : Nat) => markT ((1 : Int) + (↑i : Int))) m w
                                          (mkH w ((1 : Int) + (↑n : Int))))
                                        (Or.call [] (AB true) []
                                                (Or.no.split
                                                              (Or.call [(1040 : Nat), (2040 : Nat)]
                                                                (AI
                                                                  ((1 : Int) + (↑(orN n f m w h s) : Int) +
                                                                    (↑(sumN (wL (orS n f m w h s dn))
                                                                          (orM n f m w h s)) :
                                                                      Int)))
                                                                (taH (orN n f m w h s)
                                                                  (fun (i : Nat) => markT ((1 : Int) + (↑i : Int)))
                                                                  (orM n f m w h s) (wL (orS n f m w h s dn))
                                                                  (mkH (wL (orS n f m w h s dn))
                                                                    ((1 : Int) + (↑(orN n f m w h s) : Int))))
                                                                (Or.call []
                                                                  (AI
                                                                    ((1 : Int) + (↑(orN n f m w h s) : Int) +
                                                                      (↑(sumN (wL (orS n f m w h s dn))
                                                                            (orM n f m w h s)) :
                                                                        Int)))
                                                                  []
                                                                  (Or.nil.split
                                                                      (Or.call [] taR (taH n f m w h)
                                                                        (Or.call [] (orR n f m w h s)
                                                                          (orH n f m w h s dn)
                                                                          (Or.call [] (AB true) []
                                                                            (Or.no.split
                                                                                      (Or.call []
                                                                                        (AI
                                                                                          ((1 : Int) +
                                                                                              (↑(orN n f m w h s) :
                                                                                                Int) +
                                                                                            (↑(sumN
                                                                                                  (wL
                                                                                                    (orS n f m w h s
                                                                                                      dn))
                                                                                                  (orM n f m w h s)) :
                                                                                              Int)))
                                                                                        []
                                                                                        (Or.no.split
                                                                                            Or.nil).lit)).lit.lit.lit.lit)))).lit))).lit.lit.lit.lit.lit.lit).lit.lit.lit).lit))).lit.lit.lit.lit)))))))
      [Item.ir ir12] (start [TA false false n f m w h, AT s, AB dn] []) =
    VC.split (decide ((1048576 : Int) < (↑s.size : Int))) (VC.doneP (AV.p true (PV.v (Value.bool true))))
      (VC.callE Int (38 : Nat)
        [AV.ag
            [AV.p false (PV.sl false (1 : Nat) n fun (i x : Nat) => PT (f i)),
              AV.p false (PV.sl false (1 : Nat) m (RR w h))],
          AV.p true (PV.v (Value.int IntKind.i64 (1048576 : Int)))]
        [] (fun (r : Int) => r = (-1 : Int) ∨ (0 : Int) ≤ r ∧ r + (↑(tabSz n f m w) : Int) = (1048576 : Int))
        (fun (r : Int) => AI r) (fun (x : Int) => []) fun (r : Int) =>
        VC.split (decide (r < (0 : Int))) (VC.doneP (AV.p true (PV.v (Value.bool true))))
          (VC.call (39 : Nat)
            [AV.ag
                [AV.p false (PV.sl false (1 : Nat) n fun (i x : Nat) => PT (f i)),
                  AV.p false (PV.sl false (1 : Nat) m (RR w h))]]
            [] taR (taH n f m w h)
            (VC.call (45 : Nat)
              [AV.ag [AV.p false (PV.sl false (1 : Nat) n (TR f)), AV.p false (PV.sl false (1 : Nat) m (RR w h))],
                AV.p true (PV.v (Value.string s)), AV.p true (PV.v (Value.bool dn))]
              [] (orR n f m w h s) (orF n f m w h s dn)
              (VC.call (39 : Nat)
                [AV.ag
                    [AV.p false (PV.sl false (1 : Nat) n fun (i x : Nat) => PT (f i)),
                      AV.p false (PV.sl false (1 : Nat) m (RR w h))]]
                [] taR (taH n f m w h)
                (VC.call (44 : Nat)
                  [AV.ag [AV.p false (PV.sl false (1 : Nat) n (TR f)), AV.p false (PV.sl false (1 : Nat) m (RR w h))],
                    AV.p true (PV.v (Value.string s)), AV.p true (PV.v (Value.bool dn))]
                  [] (orR n f m w h s) (orH n f m w h s dn)
                  (VC.call (24 : Nat)
                    [AV.ag
                        [AV.p false (PV.sl false (1 : Nat) (orN n f m w h s) (TR f)),
                          AV.p false
                            (PV.sl false (1 : Nat) (orM n f m w h s)
                              (RR (wL (orS n f m w h s dn)) (hL (orS n f m w h s dn))))],
                      AV.ag
                        [AV.p false (PV.sl false (1 : Nat) (orN n f m w h s) (TR f)),
                          AV.p false
                            (PV.sl false (1 : Nat) (orM n f m w h s)
                              (RR (wL (orS n f m w h s dn)) (hL (orS n f m w h s dn))))]]
                    [] (AB true) []
                    (VC.split (!orB n f m w h s == orB n f m w h s) (VC.doneP (AV.p true (PV.v (Value.bool false))))
                      (VC.call (39 : Nat)
                        [AV.ag
                            [AV.p false (PV.sl false (1 : Nat) n fun (i x : Nat) => PT (f i)),
                              AV.p false (PV.sl false (1 : Nat) m (RR w h))]]
                        [] taR (taH n f m w h)
                        (VC.call (24 : Nat)
                          [AV.ag
                              [AV.p false (PV.sl false (1 : Nat) n (TR f)),
                                AV.p false (PV.sl false (1 : Nat) m (RR w h))],
                            AV.ag
                              [AV.p false (PV.sl false (1 : Nat) n (TR f)),
                                AV.p false (PV.sl false (1 : Nat) m (RR w h))]]
                          [] (AB true) []
                          (VC.call (27 : Nat)
                            [AV.ag [AV.own (0 : Nat), AV.own (1 : Nat)],
                              AV.p true (PV.v (Value.int IntKind.i64 (1 : Int)))]
                            [((0 : Nat), Ob.row Mode.u false (1 : Nat) n (TR f) []),
                              ((1 : Nat), Ob.row Mode.u false (1 : Nat) m (RR w h) [])]
                            (AI ((1 : Int) + (↑n : Int) + (↑(sumN w m) : Int)))
                            (taH n (fun (i : Nat) => markT ((1 : Int) + (↑i : Int))) m w
                              (mkH w ((1 : Int) + (↑n : Int))))
                            (VC.call (24 : Nat)
                              [AV.ag
                                  [AV.p false (PV.sl false (1 : Nat) (orN n f m w h s) (TR f)),
                                    AV.p false
                                      (PV.sl false (1 : Nat) (orM n f m w h s)
                                        (RR (wL (orS n f m w h s dn)) (hL (orS n f m w h s dn))))],
                                AV.ag
                                  [AV.p false (PV.sl false (1 : Nat) (orN n f m w h s) (TR f)),
                                    AV.p false
                                      (PV.sl false (1 : Nat) (orM n f m w h s)
                                        (RR (wL (orS n f m w h s dn)) (hL (orS n f m w h s dn))))]]
                              [] (AB true) []
                              (VC.split (!orB n f m w h s == orB n f m w h s) VC.fail
                                (VC.call (27 : Nat)
                                  [AV.ag [AV.own (0 : Nat), AV.own (1 : Nat)],
                                    AV.p true (PV.v (Value.int IntKind.i64 (1 : Int)))]
                                  [((0 : Nat), Ob.row Mode.u false (1 : Nat) (orN n f m w h s) (TR f) []),
                                    ((1 : Nat),
                                      Ob.row Mode.u false (1 : Nat) (orM n f m w h s)
                                        (RR (wL (orS n f m w h s dn)) (hL (orS n f m w h s dn))) [])]
                                  (AI
                                    ((1 : Int) + (↑(orN n f m w h s) : Int) +
                                      (↑(sumN (wL (orS n f m w h s dn)) (orM n f m w h s)) : Int)))
                                  (taH (orN n f m w h s) (fun (i : Nat) => markT ((1 : Int) + (↑i : Int)))
                                    (orM n f m w h s) (wL (orS n f m w h s dn))
                                    (mkH (wL (orS n f m w h s dn)) ((1 : Int) + (↑(orN n f m w h s) : Int))))
                                  (VC.call (28 : Nat)
                                    [AV.ag
                                        [AV.p false
                                            (PV.sl false (1 : Nat) (orN n f m w h s)
                                              (TR fun (i : Nat) => markT ((1 : Int) + (↑i : Int)))),
                                          AV.p false
                                            (PV.sl false (1 : Nat) (orM n f m w h s)
                                              (RR (wL (orS n f m w h s dn))
                                                (mkH (wL (orS n f m w h s dn))
                                                  ((1 : Int) + (↑(orN n f m w h s) : Int)))))],
                                      AV.p true (PV.v (Value.int IntKind.i64 (1 : Int)))]
                                    []
                                    (AI
                                      ((1 : Int) + (↑(orN n f m w h s) : Int) +
                                        (↑(sumN (wL (orS n f m w h s dn)) (orM n f m w h s)) : Int)))
                                    []
                                    (VC.split
                                      ((1 : Int) + (↑(orN n f m w h s) : Int) +
                                          (↑(sumN (wL (orS n f m w h s dn)) (orM n f m w h s)) : Int) !=
                                        (1 : Int) + (↑(orN n f m w h s) : Int) +
                                          (↑(sumN (wL (orS n f m w h s dn)) (orM n f m w h s)) : Int))
                                      (VC.doneP (AV.p true (PV.v (Value.bool false))))
                                      (VC.call (39 : Nat)
                                        [AV.ag
                                            [AV.p false (PV.sl false (1 : Nat) n fun (i x : Nat) => PT (f i)),
                                              AV.p false (PV.sl false (1 : Nat) m (RR w h))]]
                                        [] taR (taH n f m w h)
                                        (VC.call (44 : Nat)
                                          [AV.ag
                                              [AV.p false (PV.sl false (1 : Nat) n (TR f)),
                                                AV.p false (PV.sl false (1 : Nat) m (RR w h))],
                                            AV.p true (PV.v (Value.string s)), AV.p true (PV.v (Value.bool dn))]
                                          [] (orR n f m w h s) (orH n f m w h s dn)
                                          (VC.call (24 : Nat)
                                            [AV.ag
                                                [AV.p false (PV.sl false (1 : Nat) (orN n f m w h s) (TR f)),
                                                  AV.p false
                                                    (PV.sl false (1 : Nat) (orM n f m w h s)
                                                      (RR (wL (orS n f m w h s dn)) (hL (orS n f m w h s dn))))],
                                              AV.ag
                                                [AV.p false (PV.sl false (1 : Nat) (orN n f m w h s) (TR f)),
                                                  AV.p false
                                                    (PV.sl false (1 : Nat) (orM n f m w h s)
                                                      (RR (wL (orS n f m w h s dn)) (hL (orS n f m w h s dn))))]]
                                            [] (AB true) []
                                            (VC.split (!orB n f m w h s == orB n f m w h s) VC.fail
                                              (VC.call (28 : Nat)
                                                [AV.ag
                                                    [AV.p false
                                                        (PV.sl false (1 : Nat) (orN n f m w h s)
                                                          (TR fun (i : Nat) => markT ((1 : Int) + (↑i : Int)))),
                                                      AV.p false
                                                        (PV.sl false (1 : Nat) (orM n f m w h s)
                                                          (RR (wL (orS n f m w h s dn))
                                                            (mkH (wL (orS n f m w h s dn))
                                                              ((1 : Int) + (↑(orN n f m w h s) : Int)))))],
                                                  AV.p true (PV.v (Value.int IntKind.i64 (1 : Int)))]
                                                []
                                                (AI
                                                  ((1 : Int) + (↑(orN n f m w h s) : Int) +
                                                    (↑(sumN (wL (orS n f m w h s dn)) (orM n f m w h s)) : Int)))
                                                []
                                                (VC.split
                                                  ((1 : Int) + (↑(orN n f m w h s) : Int) +
                                                      (↑(sumN (wL (orS n f m w h s dn)) (orM n f m w h s)) : Int) !=
                                                    (1 : Int) + (↑(orN n f m w h s) : Int) +
                                                      (↑(sumN (wL (orS n f m w h s dn)) (orM n f m w h s)) : Int))
                                                  VC.fail
                                                  (VC.doneP (AV.p true (PV.v (Value.bool true))))))))))))))))))))))))) := by
  intros; kernel_rfl
theorem ord_perm (c : Nat) (dn : Bool) (S : List (List Int)) : (srtL (ltO c dn) S).Perm S := List.mergeSort_perm _ _
theorem ord_len (c : Nat) (dn : Bool) (m : Nat) (w : Nat → Nat) (h : Nat → Nat → Int) : (srtO c dn m w h).length = m := by rw [(ord_perm _ _ _).length_eq, tabL_len]
theorem ord_sum (c : Nat) (dn : Bool) (m : Nat) (w : Nat → Nat) (h : Nat → Nat → Int) : sumN (wL (srtO c dn m w h)) m = sumN w m := by
  have h1 := sum_wL m w h (srtO c dn m w h)
  rw [ord_len] at h1
  have h2 := sum_wL m w h (srtA m w h)
  rw [srt_len] at h2
  rw [h1, ← srt_sum m w h, h2]
  exact (((ord_perm c dn (tabL m w h)).trans (srt_perm (tabL m w h)).symm).map List.length).sum_nat
theorem or_bounds {n : Nat} {f : Nat → ByteArray} {m : Nat} {w : Nat → Nat} (h : Nat → Nat → Int) (s : ByteArray) (dn : Bool) (hs : tabSz n f m w ≤ 1048576) :
    orN n f m w h s ≤ 1048576 ∧ orM n f m w h s ≤ 1048576 ∧ sumN (wL (orS n f m w h s dn)) (orM n f m w h s) ≤ 1048576 ∧ ∀ i, i < orM n f m w h s → wL (orS n f m w h s dn) i ≤ 1048576 := by
  have hb := tab_bounds hs
  have h3 : sumN (wL (orS n f m w h s dn)) (orM n f m w h s) ≤ 1048576 := by
    unfold orM
    split
    · unfold orS; rw [ord_sum]; exact hb.2.2.2.2
    · simp [sumN]
  refine ⟨?_, ?_, h3, fun i hi => Nat.le_trans (sumN_le hi) h3⟩
  · unfold orN; split
    · exact hb.1
    · omega
  · unfold orM; split
    · exact hb.2.1
    · omega
theorem c_lawOR (n : Nat) (f : Nat → ByteArray) (m : Nat) (w : Nat → Nat) (h : Nat → Nat → Int) (s : ByteArray) (dn : Bool) (hn : n ≤ maxLen) (hf : ∀ i, (f i).size ≤ maxLen) (hm : m ≤ maxLen) (hw : ∀ i, w i ≤ maxLen) : PRet Tryd.prog G0 12 [TA false false n f m w h, AT s, AB dn] (AB true) := by
  refine PRet.by chk12 (ev_lawOR n f m w h s dn) ?_
  simp only [VC.holds_split, VC.holds_need, VC.holds_doneP, VC.holds_done, VC.holds_either, VC.holds_call, VC.holds_callE, VC.holds_lend, VC.holds_stop, VC.holds_fail, decide_eq_true_eq, decide_eq_false_iff_not]
  refine ⟨fun _ => by simp, fun h0 => ⟨c_szA _ _ _ _ _ _ _ _ hn hf hm hw (by omega) (by omega), fun r hr => ⟨fun _ => by simp, fun h1 => ?_⟩⟩⟩
  have hr := hr.resolve_left (by omega)
  have hs : tabSz n f m w ≤ 1048576 := by omega
  have ok := tab_ok hs
  obtain ⟨B1, B2, B3, B4⟩ := or_bounds h s dn hs
  have to := c_toA false false n f m w h ok.hn ok.hm ok.hw
  have im := c_imOR n f m w h s dn ok
  have eqs := c_eqA false false false false (orN n f m w h s) f (orM n f m w h s) (wL (orS n f m w h s dn)) (hL (orS n f m w h s dn)) (by omega) (by omega) (fun i hi => by have := B4 i hi; omega)
  have hd := c_hdA false false (orN n f m w h s) (orM n f m w h s) (wL (orS n f m w h s dn)) 1 (by omega) (by omega) (by omega) (by omega) (by omega)
  have eq0 := c_eqA false false false false n f m w h (by have := ok.hn; omega) (by have := ok.hm; omega) (fun i hi => by have := ok.hw i hi; omega)
  have hb := tab_bounds hs
  refine ⟨to, c_spOR _ _ _ _ _ _ _ ok, to, im, eqs, fun h => by simp at h, fun _ => ⟨to, eq0, c_mkA _ _ _ _ _ _ _ _ (by omega) (by omega) (by omega) (by omega) (by omega), eqs, fun h => by simp at h, fun _ => ⟨c_mkA _ _ _ _ _ _ _ _ (by omega) (by omega) (by omega) (by omega) (by omega), hd, fun h => by simp at h, fun _ => ⟨to, im, eqs, fun h => by simp at h, fun _ => ⟨hd, fun h => by simp at h, fun _ => ?_⟩⟩⟩⟩⟩
  simp
theorem law_FnExactOrderRows (xs : List AV) (h : Args Tryd.prog Tryd.f12.params.toList xs) : PRet Tryd.prog G0 12 xs (AB true) := by
  have hp : Tryd.f12.params.toList = [59, 9, 4] := by kernel_rfl
  rw [hp] at h
  obtain ⟨n, f, m, w, hh, a, cs, k1, k2, k3, k4, ha, h2, rfl⟩ := args_tab h
  obtain ⟨s, b, cs', hx, hb, h3, rfl⟩ := args_tx h2
  obtain ⟨d, b', cs'', hb', h4, rfl⟩ := args_bo h3
  cases h4
  exact (c_lawOR n f m w hh s d k1 k2 k3 k4).args ⟨ha, hb, hb', trivial⟩
end Go.Gw
