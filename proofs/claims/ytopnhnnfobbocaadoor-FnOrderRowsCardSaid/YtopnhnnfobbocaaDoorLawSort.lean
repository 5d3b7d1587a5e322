/- Sorted rows are the rows: the law FnSortRows; with no condition. -/
import Derived.Test.YtopnhnnfobbocaaDoorBagFacts
import Derived.Test.YtopnhnnfobbocaaDoorDrawTab3
import Derived.Test.YtopnhnnfobbocaaDoorSameTab
import Derived.KernelRfl
namespace Go.Gw
open Go Go.Proofs
set_option linter.unusedSimpArgs false
set_option linter.unusedVariables false
set_option maxRecDepth 100000
def ir29 : Ir :=
  (.seq
  (.reg [] [o 2 (.alloc [(.slice none 0 0), (.slice none 0 0)])])
  (.seq
  (.reg [4, 5] [o 4 (.mov (tt 0)),
    o 5 (.call 85 [(tt 4)]),
    o 3 (.mov (tt 5))])
  (.seq
  (.reg [6, 7, 8, 9] [o 6 (.mov (tt 3)),
    o 7 (.mov (tt 3)),
    o 8 (.call 87 [(tt 7), (ci 3)]),
    o 9 (.call 86 [(tt 6), (tt 8), (ci 9)]),
    on (.store 2 (tt 2) (tt 9))])
  .ret)))
def keep29 : List Nat := [0, 2, 3]
def res29 : List RI := [.cell true 2 2]
theorem chk29 : chk Tryd.prog 29 1 keep29 = some (ir29, res29) := by kernel_rfl
def ir5 : Ir :=
  (.seq
  (.reg [] [o 2 (.mov (cb false))])
  (.seq
  (.seq
  (.reg [5, 6] [o 5 (.mov (tt 0)),
    o 6 (.len (tt 5)),
    o 7 (.bin .gtr (tt 6) (ci 1048576))])
  (.cond (tt 7)
   (.seq
   (.reg [] [o 2 (.mov (cb true))])
   .ret)
   .skip))
  (.seq
  (.reg [8, 9] [o 8 (.mov (tt 0)),
    o 9 (.call 29 [(tt 8)]),
    o 3 (.alloc [(.slice none 0 0), (.slice none 0 0)]),
    on (.store 2 (tt 3) (tt 9))])
  (.seq
  (.reg [10, 11] [o 10 (.load true 2 (tt 3)),
    o 11 (.call 30 [(tt 10)]),
    o 4 (.alloc [(.slice none 0 0), (.slice none 0 0)]),
    on (.store 2 (tt 4) (tt 11))])
  (.seq
  (.seq
  (.dreg [12, 13, 14, 15] [0, 0, 2, 7, 15] [(0, 1012), (0, 2012), (1, 1013), (1, 2013), (2, 1014), (2, 2014), (2, 3014), (2, 4014), (2, 5014), (2, 6014), (2, 7014), (2, 8014), (3, 1015), (3, 2015), (3, 3015), (3, 4015), (3, 5015), (3, 6015), (3, 7015), (3, 8015)] [o 12 (.load true 2 (tt 4)),
    o 13 (.load true 2 (tt 3)),
    o 14 (.call 32 [(tt 13)]),
    o 15 (.call 31 [(tt 12), (tt 14)]),
    o 16 (.un .not (tt 15))])
  (.cond (tt 16)
   (.seq
   (.reg [] [o 2 (.mov (cb false))])
   .ret)
   .skip))
  (.seq
  (.seq
  (.reg [17, 18] [o 17 (.load true 2 (tt 3)),
    o 18 (.call 33 [(tt 17)]),
    o 19 (.un .not (tt 18))])
  (.cond (tt 19)
   (.seq
   (.reg [20, 21, 22, 23, 24, 25, 26, 27, 28, 29, 30, 31, 32] [o 20 (.fadr 0 (tt 4)),
     o 21 (.load false 1 (tt 20)),
     o 22 (.len (tt 21)),
     o 23 (.bin .eql (tt 22) (ci 0)),
     o 24 (.mov (tt 23)),
     og 25 24 true (.fadr 1 (tt 4)),
     og 26 24 true (.load false 1 (tt 25)),
     og 27 24 true (.len (tt 26)),
     og 28 24 true (.bin .eql (tt 27) (ci 0)),
     o 29 (.pick (tt 24) (tt 28) (cb false)),
     o 30 (.mov (tt 29)),
     og 31 30 true (.call 19 []),
     o 32 (.pick (tt 30) (tt 31) (cb false)),
     o 2 (.mov (tt 32))])
   .ret)
   .skip))
  (.seq
  (.dreg [33, 34, 35, 36, 37, 38, 39, 40, 41, 42, 43, 44, 45, 46, 47, 48, 49, 50] [0, 1, 0, 7, 15, 31, 31, 127, 255, 511, 1023, 2047, 4095, 1023, 9215, 25599, 65535, 131071, 262143] [(0, 1033), (0, 2033), (1, 1034), (1, 2034), (1, 3034), (1, 4034), (1, 5034), (1, 6034), (1, 7034), (1, 8034), (2, 1035), (2, 2035), (3, 1036), (3, 2036), (3, 3036), (3, 4036), (3, 5036), (3, 6036), (3, 7036), (3, 8036), (5, 1038), (5, 2038), (6, 1039), (6, 2039), (7, 1040), (7, 2040), (7, 3040), (7, 4040), (7, 5040), (7, 6040), (7, 7040), (7, 8040), (11, 1044), (14, 1047)] [o 33 (.load true 2 (tt 4)),
    o 34 (.call 30 [(tt 33)]),
    o 35 (.load true 2 (tt 4)),
    o 36 (.call 31 [(tt 34), (tt 35)]),
    o 37 (.mov (tt 36)),
    og 38 37 true (.load true 2 (tt 4)),
    og 39 37 true (.load true 2 (tt 3)),
    og 40 37 true (.call 34 [(tt 38), (tt 39)]),
    o 41 (.pick (tt 37) (tt 40) (cb false)),
    o 42 (.mov (tt 41)),
    og 43 42 true (.fadr 1 (tt 4)),
    og 44 42 true (.load false 1 (tt 43)),
    og 45 42 true (.len (tt 44)),
    og 46 42 true (.fadr 1 (tt 3)),
    og 47 42 true (.load false 1 (tt 46)),
    og 48 42 true (.len (tt 47)),
    og 49 42 true (.bin .eql (tt 45) (tt 48)),
    o 50 (.pick (tt 42) (tt 49) (cb false)),
    o 2 (.mov (tt 50))])
  .ret)))))))
def keep5 : List Nat := [0, 2, 3, 4, 7, 16, 19]
def res5 : List RI := [.tmp 2]
theorem chk5 : chk Tryd.prog 5 1 keep5 = some (ir5, res5) := by kernel_rfl

structure DsOk (d : DT) : Prop where
  ok : TaOk d.n d.f d.m d.w
  hn : d.n ≤ 10
  hm : d.m ≤ 100
  hw : ∀ i, i < d.m → d.w i ≤ 10
theorem DtOk.ds {p : Nat} {d : DT} (h : DtOk p d) : DsOk d :=
  ⟨⟨by have := h.hn; omega, fun i hi => by have := h.hf i hi; omega, by have := h.hm; omega, fun i hi => by have := h.hw i hi; omega⟩, by have := h.hn; omega, by have := h.hm; omega, fun i hi => by have := h.hw i hi; omega⟩
abbrev dsH (d : DT) : List (Nat × Ob) := taH d.n d.f d.m d.w d.h
def in_dSR (nn : Bool) (n : Nat) (f : Nat → Int) := (G0, res29, ([] : List (Nat × Ob)), [Item.ir ir29], start [.p false (.sl nn 1 n (PB f))] [])
theorem ev_dSR : ∀ (nn : Bool) (n : Nat) (f : Nat → Int), ev G0 res29 [] (3000 : Nat) (Or.call [] (AV.adr (0 : Nat) (0 : Nat)) [((0 : Nat), RD nn (openN n) f (0 : Nat))] (Or.call [(1005 : Nat)] (AI (pickV (openN n) f (0 : Nat) (3 : Int))) [((0 : Nat), RD nn (openN n) f ((0 : Nat) + (1 : Nat)))] (Or.callE [(1005 : Nat)] DT (DtOk ((0 : Nat) + (1 : Nat))) dtR (dtH nn (openN n) f) fun (x : DT) => Or.nil))) [Item.ir ir29] (start [AV.p false (PV.sl nn (1 : Nat) n (PB f))] []) = VC.call (85 : Nat) [AV.p false (PV.sl nn (1 : Nat) n (PB f))] [] (AV.adr (0 : Nat) (0 : Nat)) [((0 : Nat), RD nn (openN n) f (0 : Nat))] (VC.call (87 : Nat) [AV.adr (0 : Nat) (0 : Nat), AV.p true (PV.v (Value.int IntKind.i64 (3 : Int)))] [((0 : Nat), Ob.box [AV.p false (PV.sl nn (1 : Nat) (openN n) (PB f)), AV.p true (PV.v (Value.int IntKind.i64 (↑(0 : Nat) : Int)))])] (AI (pickV (openN n) f (0 : Nat) (3 : Int))) [((0 : Nat), RD nn (openN n) f ((0 : Nat) + (1 : Nat)))] (VC.callE DT (86 : Nat) [AV.adr (0 : Nat) (0 : Nat), AV.p true (PV.v (Value.int IntKind.i64 (pickV (openN n) f (0 : Nat) (3 : Int)))), AV.p true (PV.v (Value.int IntKind.i64 (9 : Int)))] [((0 : Nat), Ob.box [AV.p false (PV.sl nn (1 : Nat) (openN n) (PB f)), AV.p true (PV.v (Value.int IntKind.i64 (↑((0 : Nat) + (1 : Nat)) : Int)))])] (DtOk ((0 : Nat) + (1 : Nat))) dtR (dtH nn (openN n) f) fun (x : DT) => VC.done (St.mk [((0 : Nat), AV.p false (PV.sl nn (1 : Nat) n (PB f))), ((2 : Nat), AV.adr (2 : Nat) (0 : Nat)), ((3 : Nat), AV.adr (1005 : Nat) (0 : Nat))] [((2 : Nat), Ob.box [AV.own (1009 : Nat), AV.own (2009 : Nat)]), ((1005 : Nat), Ob.box [AV.p false (PV.sl nn (1 : Nat) (openN n) (PB f)), AV.p true (PV.v (Value.int IntKind.i64 (↑x.p : Int)))]), ((1009 : Nat), Ob.row Mode.u false (1 : Nat) x.n (TR x.f) []), ((2009 : Nat), Ob.row Mode.u false (1 : Nat) x.m (RR x.w x.h) [])]))) := by intros; kernel_rfl
theorem c_dSR (nn : Bool) (n : Nat) (f : Nat → Int) (hb : Bytes f) : PSome Tryd.prog G0 29 [.p false (.sl nn 1 n (PB f))] [] DT DsOk (fun _ => taR) dsH := by
  refine PCall.by chk29 rfl (ev_dSR nn n f) ?_
  simp only [VC.holds_split, VC.holds_need, VC.holds_doneP, VC.holds_done, VC.holds_either, VC.holds_call, VC.holds_callE, VC.holds_lend, VC.holds_stop, VC.holds_fail, decide_eq_true_eq, decide_eq_false_iff_not]
  have r1 := pick_rng (n := openN n) (p := 0) (m := 3) hb (by omega) (by omega)
  refine ⟨c_open _ _ _, c_pick _ _ _ _ _ hb (by omega), c_dTab _ _ _ _ _ _ hb (by omega) (by omega), fun d hd => ResOk.mk [] [(0, 1009), (1, 2009)] [] _ _ ?_ ⟨d, hd.ds, rfl, rfl⟩⟩
  simp [doneC, resOf, resAV, tup, pinR, PV.Le_self, hbs, St.lowers, St.lower, stLe, leEnv, leObs, obLe, injB, pinC, AV.leC, AV.leCs, PV.leC, PV.Le_v, St.get, St.obj, look, rho, isNew, keptC, renH, Mode.ok, Mode.isZ, PV.isVal, PV.isNilSl, List.all_nil, List.all_cons, List.any_nil, List.any_cons, List.map_nil, List.map_cons, res29, dsH]
theorem perm_w {S : List (List Int)} {m : Nat} {w : Nat → Nat} {h : Nat → Nat → Int} {b : Nat} (hp : S.Perm (tabL m w h)) (hw : ∀ i, i < m → w i ≤ b) : ∀ i, i < m → wL S i ≤ b := fun i hi => by
  have hl : S.length = m := by rw [hp.length_eq, tabL_len]
  have h1 : S.getD i [] ∈ tabL m w h := by
    rw [List.getD_eq_getElem?_getD, List.getElem?_eq_getElem (by omega)]
    exact hp.mem_iff.1 (List.getElem_mem _)
  simp only [tabL, List.mem_map, List.mem_range] at h1
  obtain ⟨k, hk, he⟩ := h1
  have : wL S i = w k := by simp only [wL, ← he, rowL_len]
  rw [this]; exact hw k hk
def in_lSR (nn : Bool) (n : Nat) (f : Nat → Int) := (G0, res5, ([] : List (Nat × Ob)), [Item.ir ir5], start [.p false (.sl nn 1 n (PB f))] [])
theorem ev_lSR : ∀ (nn : Bool) (n : Nat) (f : Nat → Int), ev G0 res5 [] (3000 : Nat) (Or.nil.split (Or.callE [] DT DsOk (fun (x : DT) => taR) dsH fun (x : DT) => Or.call [] taR (srH x.n x.f x.m x.w x.h) (Or.call [] taR (srF x.n x.f x.m x.w x.h) (Or.call [] (AB (sameT (srN x.n x.f x.m x.w x.h) x.f (srN x.n x.f x.m x.w x.h) x.f && sameR (srM x.n x.f x.m x.w x.h) (wL (srtA x.m x.w x.h)) (hL (srtA x.m x.w x.h)) (srM x.n x.f x.m x.w x.h) (wL (srtA x.m x.w x.h)) (hL (srtA x.m x.w x.h)))) [] (Or.nil.split (Or.call [] (AB (tableB x.n x.f x.m x.w x.h)) [] ((((Or.call [] (AB true) [] Or.nil.lit).split Or.nil.lit).lit.lit.lit.lit.split Or.nil.lit.lit.lit.lit.lit.lit).split (Or.call [] taR (srH (srN x.n x.f x.m x.w x.h) x.f (srM x.n x.f x.m x.w x.h) (wL (srtA x.m x.w x.h)) (hL (srtA x.m x.w x.h))) (Or.call [] (AB (sameT (srN (srN x.n x.f x.m x.w x.h) x.f (srM x.n x.f x.m x.w x.h) (wL (srtA x.m x.w x.h)) (hL (srtA x.m x.w x.h))) x.f (srN x.n x.f x.m x.w x.h) x.f && sameR (srM (srN x.n x.f x.m x.w x.h) x.f (srM x.n x.f x.m x.w x.h) (wL (srtA x.m x.w x.h)) (hL (srtA x.m x.w x.h))) (wL (srtA (srM x.n x.f x.m x.w x.h) (wL (srtA x.m x.w x.h)) (hL (srtA x.m x.w x.h)))) (hL (srtA (srM x.n x.f x.m x.w x.h) (wL (srtA x.m x.w x.h)) (hL (srtA x.m x.w x.h)))) (srM x.n x.f x.m x.w x.h) (wL (srtA x.m x.w x.h)) (hL (srtA x.m x.w x.h)))) [] ((Or.call [] (AB (bagB (srN x.n x.f x.m x.w x.h) x.f (srM x.n x.f x.m x.w x.h) (wL (srtA x.m x.w x.h)) (hL (srtA x.m x.w x.h)) x.n x.f x.m x.w x.h)) [] (Or.nil.lit.lit.lit.lit.lit.lit.lit.split Or.nil.lit.lit.lit.lit.lit.lit.lit).lit).lit.lit.split Or.nil.lit.lit.lit.lit.lit.lit.lit.lit.lit.lit.lit)))))))))) [Item.ir ir5] (start [AV.p false (PV.sl nn (1 : Nat) n (PB f))] []) = VC.split (decide ((1048576 : Int) < (↑n : Int))) (VC.doneP (AV.p true (PV.v (Value.bool true)))) (VC.callE DT (29 : Nat) [AV.p false (PV.sl nn (1 : Nat) n (PB f))] [] DsOk (fun (x : DT) => taR) dsH fun (x : DT) => VC.call (30 : Nat) [AV.ag [AV.p false (PV.sl false (1 : Nat) x.n (TR x.f)), AV.p false (PV.sl false (1 : Nat) x.m (RR x.w x.h))]] [] taR (srH x.n x.f x.m x.w x.h) (VC.call (32 : Nat) [AV.ag [AV.p false (PV.sl false (1 : Nat) x.n (TR x.f)), AV.p false (PV.sl false (1 : Nat) x.m (RR x.w x.h))]] [] taR (srF x.n x.f x.m x.w x.h) (VC.call (31 : Nat) [AV.ag [AV.p false (PV.sl false (1 : Nat) (srN x.n x.f x.m x.w x.h) (TR x.f)), AV.p false (PV.sl false (1 : Nat) (srM x.n x.f x.m x.w x.h) (RR (wL (srtA x.m x.w x.h)) (hL (srtA x.m x.w x.h))))], AV.ag [AV.p false (PV.sl false (1 : Nat) (srN x.n x.f x.m x.w x.h) (TR x.f)), AV.p false (PV.sl false (1 : Nat) (srM x.n x.f x.m x.w x.h) (RR (wL (srtA x.m x.w x.h)) (hL (srtA x.m x.w x.h))))]] [] (AB (sameT (srN x.n x.f x.m x.w x.h) x.f (srN x.n x.f x.m x.w x.h) x.f && sameR (srM x.n x.f x.m x.w x.h) (wL (srtA x.m x.w x.h)) (hL (srtA x.m x.w x.h)) (srM x.n x.f x.m x.w x.h) (wL (srtA x.m x.w x.h)) (hL (srtA x.m x.w x.h)))) [] (VC.split (!(sameT (srN x.n x.f x.m x.w x.h) x.f (srN x.n x.f x.m x.w x.h) x.f && sameR (srM x.n x.f x.m x.w x.h) (wL (srtA x.m x.w x.h)) (hL (srtA x.m x.w x.h)) (srM x.n x.f x.m x.w x.h) (wL (srtA x.m x.w x.h)) (hL (srtA x.m x.w x.h)))) (VC.doneP (AV.p true (PV.v (Value.bool false)))) (VC.call (33 : Nat) [AV.ag [AV.p false (PV.sl false (1 : Nat) x.n (TR x.f)), AV.p false (PV.sl false (1 : Nat) x.m (RR x.w x.h))]] [] (AB (tableB x.n x.f x.m x.w x.h)) [] (VC.split (!tableB x.n x.f x.m x.w x.h) (VC.split ((↑(srN x.n x.f x.m x.w x.h) : Int) == (0 : Int)) (VC.split ((↑(srM x.n x.f x.m x.w x.h) : Int) == (0 : Int)) (VC.call (19 : Nat) [] [] (AB true) [] (VC.doneP (AV.p true (PV.v (Value.bool true))))) (VC.doneP (AV.p true (PV.v (Value.bool false))))) (VC.doneP (AV.p true (PV.v (Value.bool false))))) (VC.call (30 : Nat) [AV.ag [AV.p false (PV.sl false (1 : Nat) (srN x.n x.f x.m x.w x.h) (TR x.f)), AV.p false (PV.sl false (1 : Nat) (srM x.n x.f x.m x.w x.h) (RR (wL (srtA x.m x.w x.h)) (hL (srtA x.m x.w x.h))))]] [] taR (srH (srN x.n x.f x.m x.w x.h) x.f (srM x.n x.f x.m x.w x.h) (wL (srtA x.m x.w x.h)) (hL (srtA x.m x.w x.h))) (VC.call (31 : Nat) [AV.ag [AV.p false (PV.sl false (1 : Nat) (srN (srN x.n x.f x.m x.w x.h) x.f (srM x.n x.f x.m x.w x.h) (wL (srtA x.m x.w x.h)) (hL (srtA x.m x.w x.h))) (TR x.f)), AV.p false (PV.sl false (1 : Nat) (srM (srN x.n x.f x.m x.w x.h) x.f (srM x.n x.f x.m x.w x.h) (wL (srtA x.m x.w x.h)) (hL (srtA x.m x.w x.h))) (RR (wL (srtA (srM x.n x.f x.m x.w x.h) (wL (srtA x.m x.w x.h)) (hL (srtA x.m x.w x.h)))) (hL (srtA (srM x.n x.f x.m x.w x.h) (wL (srtA x.m x.w x.h)) (hL (srtA x.m x.w x.h))))))], AV.ag [AV.p false (PV.sl false (1 : Nat) (srN x.n x.f x.m x.w x.h) (TR x.f)), AV.p false (PV.sl false (1 : Nat) (srM x.n x.f x.m x.w x.h) (RR (wL (srtA x.m x.w x.h)) (hL (srtA x.m x.w x.h))))]] [] (AB (sameT (srN (srN x.n x.f x.m x.w x.h) x.f (srM x.n x.f x.m x.w x.h) (wL (srtA x.m x.w x.h)) (hL (srtA x.m x.w x.h))) x.f (srN x.n x.f x.m x.w x.h) x.f && sameR (srM (srN x.n x.f x.m x.w x.h) x.f (srM x.n x.f x.m x.w x.h) (wL (srtA x.m x.w x.h)) (hL (srtA x.m x.w x.h))) (wL (srtA (srM x.n x.f x.m x.w x.h) (wL (srtA x.m x.w x.h)) (hL (srtA x.m x.w x.h)))) (hL (srtA (srM x.n x.f x.m x.w x.h) (wL (srtA x.m x.w x.h)) (hL (srtA x.m x.w x.h)))) (srM x.n x.f x.m x.w x.h) (wL (srtA x.m x.w x.h)) (hL (srtA x.m x.w x.h)))) [] (VC.split (sameT (srN (srN x.n x.f x.m x.w x.h) x.f (srM x.n x.f x.m x.w x.h) (wL (srtA x.m x.w x.h)) (hL (srtA x.m x.w x.h))) x.f (srN x.n x.f x.m x.w x.h) x.f && sameR (srM (srN x.n x.f x.m x.w x.h) x.f (srM x.n x.f x.m x.w x.h) (wL (srtA x.m x.w x.h)) (hL (srtA x.m x.w x.h))) (wL (srtA (srM x.n x.f x.m x.w x.h) (wL (srtA x.m x.w x.h)) (hL (srtA x.m x.w x.h)))) (hL (srtA (srM x.n x.f x.m x.w x.h) (wL (srtA x.m x.w x.h)) (hL (srtA x.m x.w x.h)))) (srM x.n x.f x.m x.w x.h) (wL (srtA x.m x.w x.h)) (hL (srtA x.m x.w x.h))) (VC.call (34 : Nat) [AV.ag [AV.p false (PV.sl false (1 : Nat) (srN x.n x.f x.m x.w x.h) (TR x.f)), AV.p false (PV.sl false (1 : Nat) (srM x.n x.f x.m x.w x.h) (RR (wL (srtA x.m x.w x.h)) (hL (srtA x.m x.w x.h))))], AV.ag [AV.p false (PV.sl false (1 : Nat) x.n (TR x.f)), AV.p false (PV.sl false (1 : Nat) x.m (RR x.w x.h))]] [] (AB (bagB (srN x.n x.f x.m x.w x.h) x.f (srM x.n x.f x.m x.w x.h) (wL (srtA x.m x.w x.h)) (hL (srtA x.m x.w x.h)) x.n x.f x.m x.w x.h)) [] (VC.split (bagB (srN x.n x.f x.m x.w x.h) x.f (srM x.n x.f x.m x.w x.h) (wL (srtA x.m x.w x.h)) (hL (srtA x.m x.w x.h)) x.n x.f x.m x.w x.h) (VC.doneP (AV.p true (PV.v (Value.bool ((↑(srM x.n x.f x.m x.w x.h) : Int) == (↑x.m : Int)))))) (VC.doneP (AV.p true (PV.v (Value.bool false)))))) (VC.doneP (AV.p true (PV.v (Value.bool false))))))))))))) := by intros; kernel_rfl
theorem c_lSR (nn : Bool) (n : Nat) (f : Nat → Int) (hb : Bytes f) : PRet Tryd.prog G0 5 [.p false (.sl nn 1 n (PB f))] (AB true) := by
  refine PRet.by chk5 (ev_lSR nn n f) ?_
  simp only [VC.holds_split, VC.holds_need, VC.holds_doneP, VC.holds_done, VC.holds_either, VC.holds_call, VC.holds_callE, VC.holds_lend, VC.holds_stop, VC.holds_fail, decide_eq_true_eq, decide_eq_false_iff_not]
  refine ⟨fun h => by simp, fun h => ⟨c_dSR nn n f hb, fun d hd => ?_⟩⟩
  have ok := hd.ok
  have im := c_imSR d.n d.f d.m d.w d.h ok
  have sp := c_spSR d.n d.f d.m d.w d.h ok
  have tv := c_spTV false false d.n d.f d.m d.w d.h ok.hn ok.hf ok.hm ok.hw
  cases ht : tableB d.n d.f d.m d.w d.h with
  | false =>
    have eN : srN d.n d.f d.m d.w d.h = 0 := by simp [srN, ht]
    have eM : srM d.n d.f d.m d.w d.h = 0 := by simp [srM, ht]
    simp only [srH, srF, eN, eM, ht] at im sp tv ⊢
    refine ⟨im, sp, c_sTb _ _ _ _ _ _ _ _ _ _ (by omega) (by omega) (fun i hi => absurd hi (Nat.not_lt_zero _)), fun e => ?_, fun _ => ⟨tv, fun _ => ⟨fun _ => ⟨fun _ => ⟨c_alive, trivial, trivial⟩, fun e => ?_⟩, fun e => ?_⟩, fun e => ?_⟩⟩
    · simp [sameT_rfl, sameR_rfl] at e
    · simp at e
    · simp at e
    · simp at e
  | true =>
    have hp : (srtA d.m d.w d.h).Perm (tabL d.m d.w d.h) := srtL_perm' _ _
    have ag := srt_again d.m d.w d.h
    have hw := perm_w hp ok.hw
    have ht2 := table_srt hp ht
    have bg := bag_perm hp ht
    have eN : srN d.n d.f d.m d.w d.h = d.n := by simp [srN, ht]
    have eM : srM d.n d.f d.m d.w d.h = d.m := by simp [srM, ht]
    generalize srtA d.m d.w d.h = A at *
    have eN2 : srN d.n d.f d.m (wL A) (hL A) = d.n := by simp [srN, ht2]
    have eM2 : srM d.n d.f d.m (wL A) (hL A) = d.m := by simp [srM, ht2]
    have im2 := c_imSR d.n d.f d.m (wL A) (hL A) ⟨ok.hn, ok.hf, ok.hm, hw⟩
    simp only [srH, srF, eN, eM, ht, eN2, eM2, ag, bg] at im sp tv im2 ⊢
    have sb := c_imSB d.n d.f d.m (wL A) (hL A) d.n d.f d.m d.w d.h ⟨ok.hn, ok.hf, ok.hm, hw⟩ ok
    rw [bg] at sb
    have st := c_sTb d.n d.f d.m (wL A) (hL A) d.n d.f d.m (wL A) (hL A) ok.hn ok.hm hw
    refine ⟨im, sp, st, fun e => ?_, fun _ => ⟨tv, fun e => (by cases e), fun _ => ⟨im2, st, fun _ => ⟨sb, fun _ => ⟨?_, trivial⟩, fun e => (by cases e)⟩, fun e => ?_⟩⟩⟩
    · simp [sameT_rfl, sameR_rfl] at e
    · simp
    · simp [sameT_rfl, sameR_rfl] at e
theorem law_FnSortRows (xs : List AV) (h : Args Tryd.prog Tryd.f5.params.toList xs) : PRet Tryd.prog G0 5 xs (AB true) := by
  have hp : Tryd.f5.params.toList = [22] := by kernel_rfl
  rw [hp] at h
  obtain ⟨nn, n, f, c, cs, hb, h2, rfl, hle⟩ := args_bytes h
  cases h2
  exact (c_lSR nn n f hb).args ⟨hle, trivial⟩
end Go.Gw
