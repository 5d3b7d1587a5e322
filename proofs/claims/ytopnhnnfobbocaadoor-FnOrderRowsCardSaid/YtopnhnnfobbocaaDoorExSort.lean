/- The laws on SortRows alone; with no condition. -/
import Derived.Test.YtopnhnnfobbocaaDoorSortRows
import Derived.KernelRfl
namespace Go.Gw
open Go Go.Proofs
set_option linter.unusedSimpArgs false
set_option linter.unusedVariables false
set_option maxRecDepth 100000
def ir9 : Ir :=
  (.seq
  (.reg [] [o 1 (.box 2 (tt 0)),
    o 2 (.mov (cb false))])
  (.seq
  (.reg [] [o 3 (.mov (ci 1048576))])
  (.seq
  (.reg [11, 12, 13] [o 11 (.load true 2 (tt 1)),
    o 12 (.mov (tt 3)),
    o 13 (.call 38 [(tt 11), (tt 12)]),
    o 3 (.mov (tt 13))])
  (.seq
  (.seq
  (.reg [14] [o 14 (.mov (tt 3)),
    o 15 (.bin .lss (tt 14) (ci 0))])
  (.cond (tt 15)
   (.seq
   (.reg [] [o 2 (.mov (cb true))])
   .ret)
   .skip))
  (.seq
  (.reg [16, 17, 18] [o 16 (.load true 2 (tt 1)),
    o 17 (.call 39 [(tt 16)]),
    o 18 (.call 32 [(tt 17)]),
    o 4 (.alloc [(.slice none 0 0), (.slice none 0 0)]),
    on (.store 2 (tt 4) (tt 18))])
  (.seq
  (.reg [19, 20] [o 19 (.load true 2 (tt 1)),
    o 20 (.call 39 [(tt 19)]),
    o 5 (.alloc [(.slice none 0 0), (.slice none 0 0)]),
    on (.store 2 (tt 5) (tt 20))])
  (.seq
  (.reg [21, 22] [o 21 (.load true 2 (tt 5)),
    o 22 (.call 30 [(tt 21)]),
    o 6 (.alloc [(.slice none 0 0), (.slice none 0 0)]),
    on (.store 2 (tt 6) (tt 22))])
  (.seq
  (.seq
  (.reg [23, 24, 25] [o 23 (.load true 2 (tt 6)),
    o 24 (.load true 2 (tt 4)),
    o 25 (.call 24 [(tt 23), (tt 24)]),
    o 26 (.un .not (tt 25))])
  (.cond (tt 26)
   (.seq
   (.reg [] [o 2 (.mov (cb false))])
   .ret)
   .skip))
  (.seq
  (.seq
  (.dreg [27, 28, 29, 30] [0, 0, 2, 7, 15] [(0, 1027), (0, 2027), (1, 1028), (1, 2028), (2, 1029), (2, 2029), (2, 3029), (2, 4029), (2, 5029), (2, 6029), (2, 7029), (2, 8029), (3, 1030), (3, 2030), (3, 3030), (3, 4030), (3, 5030), (3, 6030), (3, 7030), (3, 8030)] [o 27 (.load true 2 (tt 5)),
    o 28 (.load true 2 (tt 1)),
    o 29 (.call 39 [(tt 28)]),
    o 30 (.call 24 [(tt 27), (tt 29)]),
    o 31 (.un .not (tt 30))])
  (.cond (tt 31)
   (.seq
   (.reg [] [o 2 (.mov (cb false))])
   .ret)
   .skip))
  (.seq
  (.reg [] [o 7 (.mov (ci 1))])
  (.seq
  (.reg [32, 33, 34] [o 32 (.load true 2 (tt 5)),
    o 33 (.mov (tt 7)),
    o 34 (.call 27 [(tt 32), (tt 33)]),
    o 7 (.mov (tt 34))])
  (.seq
  (.seq
  (.reg [35, 36, 37, 38, 39, 40, 41] [o 35 (.mov (tt 7)),
    o 36 (.bin .lss (tt 35) (ci 0)),
    o 37 (.mov (tt 36)),
    og 38 37 false (.load true 2 (tt 6)),
    og 39 37 false (.load true 2 (tt 4)),
    og 40 37 false (.call 24 [(tt 38), (tt 39)]),
    og 41 37 false (.un .not (tt 40)),
    o 42 (.pick (tt 37) (cb true) (tt 41))])
  (.cond (tt 42)
   (.seq
   (.reg [] [o 2 (.mov (cb false))])
   .ret)
   .skip))
  (.seq
  (.reg [] [o 8 (.mov (ci 1))])
  (.seq
  (.reg [43, 44, 45] [o 43 (.load true 2 (tt 6)),
    o 44 (.mov (tt 8)),
    o 45 (.call 27 [(tt 43), (tt 44)]),
    o 8 (.mov (tt 45))])
  (.seq
  (.reg [] [o 9 (.mov (ci 1))])
  (.seq
  (.reg [46, 47, 48] [o 46 (.load true 2 (tt 6)),
    o 47 (.mov (tt 9)),
    o 48 (.call 28 [(tt 46), (tt 47)]),
    o 9 (.mov (tt 48))])
  (.seq
  (.seq
  (.reg [49] [o 49 (.mov (tt 9)),
    o 50 (.bin .lss (tt 49) (ci 0))])
  (.cond (tt 50)
   (.seq
   (.reg [] [o 2 (.mov (cb false))])
   .ret)
   .skip))
  (.seq
  (.seq
  (.reg [51, 52] [o 51 (.mov (tt 9)),
    o 52 (.mov (tt 8)),
    o 53 (.bin .neq (tt 51) (tt 52))])
  (.cond (tt 53)
   (.seq
   (.reg [] [o 2 (.mov (cb false))])
   .ret)
   .skip))
  (.seq
  (.reg [54, 55, 56] [o 54 (.load true 2 (tt 1)),
    o 55 (.call 39 [(tt 54)]),
    o 56 (.call 30 [(tt 55)]),
    o 10 (.alloc [(.slice none 0 0), (.slice none 0 0)]),
    on (.store 2 (tt 10) (tt 56))])
  (.seq
  (.seq
  (.reg [57, 58, 59] [o 57 (.load true 2 (tt 10)),
    o 58 (.load true 2 (tt 4)),
    o 59 (.call 24 [(tt 57), (tt 58)]),
    o 60 (.un .not (tt 59))])
  (.cond (tt 60)
   (.seq
   (.reg [] [o 2 (.mov (cb false))])
   .ret)
   .skip))
  (.seq
  (.reg [] [o 9 (.mov (ci 1))])
  (.seq
  (.reg [61, 62, 63] [o 61 (.load true 2 (tt 6)),
    o 62 (.mov (tt 9)),
    o 63 (.call 28 [(tt 61), (tt 62)]),
    o 9 (.mov (tt 63))])
  (.seq
  (.seq
  (.reg [64] [o 64 (.mov (tt 9)),
    o 65 (.bin .lss (tt 64) (ci 0))])
  (.cond (tt 65)
   (.seq
   (.reg [] [o 2 (.mov (cb false))])
   .ret)
   .skip))
  (.seq
  (.seq
  (.reg [66, 67] [o 66 (.mov (tt 9)),
    o 67 (.mov (tt 8)),
    o 68 (.bin .neq (tt 66) (tt 67))])
  (.cond (tt 68)
   (.seq
   (.reg [] [o 2 (.mov (cb false))])
   .ret)
   .skip))
  (.seq
  (.reg [] [o 2 (.mov (cb true))])
  .ret)))))))))))))))))))))))))
def keep9 : List Nat := [0, 1, 2, 3, 4, 5, 6, 7, 8, 9, 10, 15, 26, 31, 42, 50, 53, 60, 65, 68]
def res9 : List RI := [.tmp 2]
theorem chk9 : chk Tryd.prog 9 1 keep9 = some (ir9, res9) := by kernel_rfl

theorem leC_sl {nn nn' : Bool} {e n n' : Nat} {g g' : Nat → Nat → PV} (h : PV.Le (.sl nn e n g) (.sl nn' e n' g')) : PV.leC (.sl nn e n g) (.sl nn' e n' g') := by
  cases h with
  | refl => exact ⟨fun h => h, rfl, rfl, fun _ _ _ _ => .refl _⟩
  | sl _ _ hn _ _ _ _ _ e h => exact ⟨hn, rfl, e, h⟩
theorem leP_fit {e : List Leaf} {c : PV} (hf : Fit (.sl e) c) {n : Nat} {g : Nat → Nat → PV} (h : PV.Le c (.sl false e.length n g)) : AV.leP (.p false c) (.p false (.sl false e.length n g)) := by
  obtain ⟨nn, n', g', rfl, _, _⟩ := fit_sl hf
  exact ⟨fun h => (by cases h), leC_sl h⟩
theorem leaves_tab : leaves Tryd.prog 12 59 = some [.sl [.str], .sl [.sl [.int .i64]]] := by kernel_rfl
theorem args_tab {ts : List TypeId} {xs : List AV} (h : Args Tryd.prog (59 :: ts) xs) : ∃ n f m w h a cs, n ≤ maxLen ∧ (∀ i, (f i).size ≤ maxLen) ∧ m ≤ maxLen ∧ (∀ i, w i ≤ maxLen) ∧ AV.leP a (TA false false n f m w h) ∧ Args Tryd.prog ts cs ∧ xs = a :: cs := by
  cases h with
  | cons t ts ls l cs hl hlen hfit h =>
    rw [leaves_tab] at hl
    cases hl
    match l, hlen with
    | [c0, c1], _ =>
      have h0 := fit_texts (hfit 0 _ rfl)
      have h1 := fit_rows (hfit 1 _ rfl)
      simp only [List.getD_cons_zero, List.getD_cons_succ] at h0 h1
      refine ⟨lenOf c0, textC c0, lenOf c1, widC c1, numC c1, _, cs, h0.2.1, h0.2.2, h1.2.1, h1.2.2, ?_, h, rfl⟩
      unfold argOf
      rw [Tryd.underlying59]
      exact ⟨leP_fit (e := [.str]) (hfit 0 _ rfl) h0.1, leP_fit (e := [.sl [.int .i64]]) (hfit 1 _ rfl) h1.1, trivial⟩
theorem tab_ok {n : Nat} {f : Nat → ByteArray} {m : Nat} {w : Nat → Nat} (h : tabSz n f m w ≤ 1048576) : TaOk n f m w :=
  ⟨(tab_bounds h).1, (tab_bounds h).2.2.1, (tab_bounds h).2.1, (tab_bounds h).2.2.2.1⟩
def in_lawSR (n : Nat) (f : Nat → ByteArray) (m : Nat) (w : Nat → Nat) (h : Nat → Nat → Int) := (G0, res9, ([] : List (Nat × Ob)), [Item.ir ir9], start [TA false false n f m w h] [])
theorem ev_lawSR : ∀ (n : Nat) (f : Nat → ByteArray) (m : Nat) (w : Nat → Nat) (h : Nat → Nat → Int), ev G0 res9 [] (3000 : Nat) (Or.callE [] Int (fun (r : Int) => r = (-1 : Int) ∨ (0 : Int) ≤ r ∧ r + (↑(tabSz n f m w) : Int) = (1048576 : Int)) (fun (r : Int) => AI r) (fun (x : Int) => []) fun (r : Int) => Or.nil.split (Or.call [] taR (taH n f m w h) (Or.call [] taR (srF n f m w h) (Or.call [] taR (taH n f m w h) (Or.call [] taR (srH n f m w h) (Or.call [] (AB true) [] (Or.call [] taR (taH n f m w h) (Or.call [] (AB true) [] (Or.call [(1020 : Nat), (2020 : Nat)] (AI ((1 : Int) + (↑n : Int) + (↑(sumN w m) : Int))) (taH n (fun (i : Nat) => markT ((1 : Int) + (↑i : Int))) m w (mkH w ((1 : Int) + (↑n : Int)))) (Or.call [] (AB true) [] (Or.call [(1022 : Nat), (2022 : Nat)] (AI ((1 : Int) + (↑(srN n f m w h) : Int) + (↑(sumN (wL (srtA m w h)) (srM n f m w h)) : Int))) (taH (srN n f m w h) (fun (i : Nat) => markT ((1 : Int) + (↑i : Int))) (srM n f m w h) (wL (srtA m w h)) (mkH (wL (srtA m w h)) ((1 : Int) + (↑(srN n f m w h) : Int)))) (Or.call [] (AI ((1 : Int) + (↑(srN n f m w h) : Int) + (↑(sumN (wL (srtA m w h)) (srM n f m w h)) : Int))) [] (Or.nil.split (Or.call [] taR (taH n f m w h) (Or.call [] taR (srH n f m w h) (Or.call [] (AB true) [] (Or.call [] (AI ((1 : Int) + (↑(srN n f m w h) : Int) + (↑(sumN (wL (srtA m w h)) (srM n f m w h)) : Int))) [] (Or.no.split Or.nil).lit).lit)))).lit)).lit.lit.lit).lit.lit.lit).lit)).lit)))))) [Item.ir ir9] (start [TA false false n f m w h] []) = VC.callE Int (38 : Nat) [AV.ag [AV.p false (PV.sl false (1 : Nat) n fun (i x : Nat) => PT (f i)), AV.p false (PV.sl false (1 : Nat) m (RR w h))], AV.p true (PV.v (Value.int IntKind.i64 (1048576 : Int)))] [] (fun (r : Int) => r = (-1 : Int) ∨ (0 : Int) ≤ r ∧ r + (↑(tabSz n f m w) : Int) = (1048576 : Int)) (fun (r : Int) => AI r) (fun (x : Int) => []) fun (r : Int) => VC.split (decide (r < (0 : Int))) (VC.doneP (AV.p true (PV.v (Value.bool true)))) (VC.call (39 : Nat) [AV.ag [AV.p false (PV.sl false (1 : Nat) n fun (i x : Nat) => PT (f i)), AV.p false (PV.sl false (1 : Nat) m (RR w h))]] [] taR (taH n f m w h) (VC.call (32 : Nat) [AV.ag [AV.p false (PV.sl false (1 : Nat) n (TR f)), AV.p false (PV.sl false (1 : Nat) m (RR w h))]] [] taR (srF n f m w h) (VC.call (39 : Nat) [AV.ag [AV.p false (PV.sl false (1 : Nat) n fun (i x : Nat) => PT (f i)), AV.p false (PV.sl false (1 : Nat) m (RR w h))]] [] taR (taH n f m w h) (VC.call (30 : Nat) [AV.ag [AV.p false (PV.sl false (1 : Nat) n (TR f)), AV.p false (PV.sl false (1 : Nat) m (RR w h))]] [] taR (srH n f m w h) (VC.call (24 : Nat) [AV.ag [AV.p false (PV.sl false (1 : Nat) (srN n f m w h) (TR f)), AV.p false (PV.sl false (1 : Nat) (srM n f m w h) (RR (wL (srtA m w h)) (hL (srtA m w h))))], AV.ag [AV.p false (PV.sl false (1 : Nat) (srN n f m w h) (TR f)), AV.p false (PV.sl false (1 : Nat) (srM n f m w h) (RR (wL (srtA m w h)) (hL (srtA m w h))))]] [] (AB true) [] (VC.call (39 : Nat) [AV.ag [AV.p false (PV.sl false (1 : Nat) n fun (i x : Nat) => PT (f i)), AV.p false (PV.sl false (1 : Nat) m (RR w h))]] [] taR (taH n f m w h) (VC.call (24 : Nat) [AV.ag [AV.p false (PV.sl false (1 : Nat) n (TR f)), AV.p false (PV.sl false (1 : Nat) m (RR w h))], AV.ag [AV.p false (PV.sl false (1 : Nat) n (TR f)), AV.p false (PV.sl false (1 : Nat) m (RR w h))]] [] (AB true) [] (VC.call (27 : Nat) [AV.ag [AV.own (0 : Nat), AV.own (1 : Nat)], AV.p true (PV.v (Value.int IntKind.i64 (1 : Int)))] [((0 : Nat), Ob.row Mode.u false (1 : Nat) n (TR f) []), ((1 : Nat), Ob.row Mode.u false (1 : Nat) m (RR w h) [])] (AI ((1 : Int) + (↑n : Int) + (↑(sumN w m) : Int))) (taH n (fun (i : Nat) => markT ((1 : Int) + (↑i : Int))) m w (mkH w ((1 : Int) + (↑n : Int)))) (VC.call (24 : Nat) [AV.ag [AV.p false (PV.sl false (1 : Nat) (srN n f m w h) (TR f)), AV.p false (PV.sl false (1 : Nat) (srM n f m w h) (RR (wL (srtA m w h)) (hL (srtA m w h))))], AV.ag [AV.p false (PV.sl false (1 : Nat) (srN n f m w h) (TR f)), AV.p false (PV.sl false (1 : Nat) (srM n f m w h) (RR (wL (srtA m w h)) (hL (srtA m w h))))]] [] (AB true) [] (VC.call (27 : Nat) [AV.ag [AV.own (0 : Nat), AV.own (1 : Nat)], AV.p true (PV.v (Value.int IntKind.i64 (1 : Int)))] [((0 : Nat), Ob.row Mode.u false (1 : Nat) (srN n f m w h) (TR f) []), ((1 : Nat), Ob.row Mode.u false (1 : Nat) (srM n f m w h) (RR (wL (srtA m w h)) (hL (srtA m w h))) [])] (AI ((1 : Int) + (↑(srN n f m w h) : Int) + (↑(sumN (wL (srtA m w h)) (srM n f m w h)) : Int))) (taH (srN n f m w h) (fun (i : Nat) => markT ((1 : Int) + (↑i : Int))) (srM n f m w h) (wL (srtA m w h)) (mkH (wL (srtA m w h)) ((1 : Int) + (↑(srN n f m w h) : Int)))) (VC.call (28 : Nat) [AV.ag [AV.p false (PV.sl false (1 : Nat) (srN n f m w h) (TR fun (i : Nat) => markT ((1 : Int) + (↑i : Int)))), AV.p false (PV.sl false (1 : Nat) (srM n f m w h) (RR (wL (srtA m w h)) (mkH (wL (srtA m w h)) ((1 : Int) + (↑(srN n f m w h) : Int)))))], AV.p true (PV.v (Value.int IntKind.i64 (1 : Int)))] [] (AI ((1 : Int) + (↑(srN n f m w h) : Int) + (↑(sumN (wL (srtA m w h)) (srM n f m w h)) : Int))) [] (VC.split ((1 : Int) + (↑(srN n f m w h) : Int) + (↑(sumN (wL (srtA m w h)) (srM n f m w h)) : Int) != (1 : Int) + (↑(srN n f m w h) : Int) + (↑(sumN (wL (srtA m w h)) (srM n f m w h)) : Int)) (VC.doneP (AV.p true (PV.v (Value.bool false)))) (VC.call (39 : Nat) [AV.ag [AV.p false (PV.sl false (1 : Nat) n fun (i x : Nat) => PT (f i)), AV.p false (PV.sl false (1 : Nat) m (RR w h))]] [] taR (taH n f m w h) (VC.call (30 : Nat) [AV.ag [AV.p false (PV.sl false (1 : Nat) n (TR f)), AV.p false (PV.sl false (1 : Nat) m (RR w h))]] [] taR (srH n f m w h) (VC.call (24 : Nat) [AV.ag [AV.p false (PV.sl false (1 : Nat) (srN n f m w h) (TR f)), AV.p false (PV.sl false (1 : Nat) (srM n f m w h) (RR (wL (srtA m w h)) (hL (srtA m w h))))], AV.ag [AV.p false (PV.sl false (1 : Nat) (srN n f m w h) (TR f)), AV.p false (PV.sl false (1 : Nat) (srM n f m w h) (RR (wL (srtA m w h)) (hL (srtA m w h))))]] [] (AB true) [] (VC.call (28 : Nat) [AV.ag [AV.p false (PV.sl false (1 : Nat) (srN n f m w h) (TR fun (i : Nat) => markT ((1 : Int) + (↑i : Int)))), AV.p false (PV.sl false (1 : Nat) (srM n f m w h) (RR (wL (srtA m w h)) (mkH (wL (srtA m w h)) ((1 : Int) + (↑(srN n f m w h) : Int)))))], AV.p true (PV.v (Value.int IntKind.i64 (1 : Int)))] [] (AI ((1 : Int) + (↑(srN n f m w h) : Int) + (↑(sumN (wL (srtA m w h)) (srM n f m w h)) : Int))) [] (VC.split ((1 : Int) + (↑(srN n f m w h) : Int) + (↑(sumN (wL (srtA m w h)) (srM n f m w h)) : Int) != (1 : Int) + (↑(srN n f m w h) : Int) + (↑(sumN (wL (srtA m w h)) (srM n f m w h)) : Int)) VC.fail (VC.doneP (AV.p true (PV.v (Value.bool true))))))))))))))))))))) := by intros; kernel_rfl
theorem srt_perm (S : List (List Int)) : (srtL ltL S).Perm S := List.mergeSort_perm _ _
theorem sum_wL (m : Nat) (w : Nat → Nat) (h : Nat → Nat → Int) : ∀ (S : List (List Int)), sumN (wL S) S.length = (S.map List.length).sum := by
  have key : ∀ (S : List (List Int)) (k : Nat), k ≤ S.length → sumN (wL S) k = ((S.take k).map List.length).sum := by
    intro S k
    induction k with
    | zero => intro _; rfl
    | succ k ih =>
      intro hk
      have hk' : k < S.length := by omega
      rw [List.take_succ_eq_append_getElem hk', List.map_append, List.sum_append, ← ih (by omega)]
      simp [sumN, wL, List.getD_eq_getElem?_getD, hk']
  intro S
  rw [key S S.length (Nat.le_refl _), List.take_length]
theorem srt_len (m : Nat) (w : Nat → Nat) (h : Nat → Nat → Int) : (srtA m w h).length = m := by rw [(srt_perm _).length_eq, tabL_len]
theorem srt_sum (m : Nat) (w : Nat → Nat) (h : Nat → Nat → Int) : sumN (wL (srtA m w h)) m = sumN w m := by
  have h1 := sum_wL m w h (srtA m w h)
  rw [srt_len] at h1
  have h2 := sum_wL m w h (tabL m w h)
  rw [tabL_len] at h2
  rw [h1, ((srt_perm (tabL m w h)).map List.length).sum_nat, ← h2]
  have : ∀ k, k ≤ m → sumN (wL (tabL m w h)) k = sumN w k := by
    intro k
    induction k with
    | zero => intro _; rfl
    | succ k ih => intro hk; simp only [sumN]; rw [ih (by omega)]; simp only [wL, tabL_get (show k < m by omega), rowL_len]
  exact this m (Nat.le_refl _)
structure SrB (n : Nat) (f : Nat → ByteArray) (m : Nat) (w : Nat → Nat) (h : Nat → Nat → Int) : Prop where
  hn : srN n f m w h ≤ 1048576
  hm : srM n f m w h ≤ 1048576
  hs : sumN (wL (srtA m w h)) (srM n f m w h) ≤ 1048576
  hw : ∀ i, i < srM n f m w h → wL (srtA m w h) i ≤ 1048576
theorem sr_bounds {n : Nat} {f : Nat → ByteArray} {m : Nat} {w : Nat → Nat} (h : Nat → Nat → Int) (hs : tabSz n f m w ≤ 1048576) : SrB n f m w h := by
  have hb := tab_bounds hs
  have h3 : sumN (wL (srtA m w h)) (srM n f m w h) ≤ 1048576 := by
    unfold srM
    split
    · rw [srt_sum]; exact hb.2.2.2.2
    · simp [sumN]
  refine ⟨?_, ?_, h3, fun i hi => Nat.le_trans (sumN_le hi) h3⟩
  · unfold srN; split
    · exact hb.1
    · omega
  · unfold srM; split
    · exact hb.2.1
    · omega
theorem c_lawSR (n : Nat) (f : Nat → ByteArray) (m : Nat) (w : Nat → Nat) (h : Nat → Nat → Int) (hn : n ≤ maxLen) (hf : ∀ i, (f i).size ≤ maxLen) (hm : m ≤ maxLen) (hw : ∀ i, w i ≤ maxLen) : PRet Tryd.prog G0 9 [TA false false n f m w h] (AB true) := by
  refine PRet.by chk9 (ev_lawSR n f m w h) ?_
  simp only [VC.holds_split, VC.holds_need, VC.holds_doneP, VC.holds_done, VC.holds_either, VC.holds_call, VC.holds_callE, VC.holds_lend, VC.holds_stop, VC.holds_fail, decide_eq_true_eq, decide_eq_false_iff_not]
  refine ⟨c_szA _ _ _ _ _ _ _ _ hn hf hm hw (by omega) (by omega), fun r hr => ⟨fun _ => by simp, fun h1 => ?_⟩⟩
  have hr := hr.resolve_left (by omega)
  have hs : tabSz n f m w ≤ 1048576 := by omega
  have ok := tab_ok hs
  have B := sr_bounds h hs
  have hb := tab_bounds hs
  have to := c_toA false false n f m w h ok.hn ok.hm ok.hw
  have im := c_imSR n f m w h ok
  have B1 := B.hn
  have B2 := B.hm
  have B3 := B.hs
  have eqs := c_eqA false false false false (srN n f m w h) f (srM n f m w h) (wL (srtA m w h)) (hL (srtA m w h)) (by omega) (by omega) (fun i hi => by have := B.hw i hi; omega)
  have hd := c_hdA false false (srN n f m w h) (srM n f m w h) (wL (srtA m w h)) 1 (by omega) (by omega) (by omega) (by omega) (by omega)
  have eq0 := c_eqA false false false false n f m w h (by have := ok.hn; omega) (by have := ok.hm; omega) (fun i hi => by have := ok.hw i hi; omega)
  refine ⟨to, c_spSR _ _ _ _ _ ok, to, im, eqs, to, eq0, c_mkA _ _ _ _ _ _ _ _ (by omega) (by omega) (by omega) (by omega) (by omega), eqs, c_mkA _ _ _ _ _ _ _ _ (by omega) (by omega) (by omega) (by omega) (by omega), hd, fun h => by simp at h, fun _ => ⟨to, im, eqs, hd, fun h => by simp at h, fun _ => ?_⟩⟩
  simp
theorem law_FnExactSortRows (xs : List AV) (h : Args Tryd.prog Tryd.f9.params.toList xs) : PRet Tryd.prog G0 9 xs (AB true) := by
  have hp : Tryd.f9.params.toList = [59] := by kernel_rfl
  rw [hp] at h
  obtain ⟨n, f, m, w, hh, a, cs, k1, k2, k3, k4, ha, h2, rfl⟩ := args_tab h
  cases h2
  exact (c_lawSR n f m w hh k1 k2 k3 k4).args ⟨ha, trivial⟩
end Go.Gw
