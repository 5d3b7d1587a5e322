/- Memories: a block is used, loop by loop; with no condition. -/
import Derived.Test.YtopnhnnfobbocaaDoorMemU
import Derived.KernelRfl
namespace Go.Gw
open Go Go.Proofs
set_option linter.unusedSimpArgs false
set_option linter.unusedVariables false
set_option maxRecDepth 100000

theorem pth_int {l : Int} (hl : 0 ≤ l ∧ l ≤ 3) {k : Nat} (hk : k < 3) : litI [0, 1 + l / 2, 3 + l] k = ((pth l k : Nat) : Int) ∧ pth l k < 7 := by
  have h : k = 0 ∨ k = 1 ∨ k = 2 := by omega
  rcases h with rfl | rfl | rfl <;> simp [pth, pathL, litI] <;> omega
theorem pth_ne {l : Int} (hl : 0 ≤ l ∧ l ≤ 3) {k k' : Nat} (hk : k < 3) (hk' : k' < 3) (h : k ≠ k') : pth l k ≠ pth l k' := by
  have h1 : k = 0 ∨ k = 1 ∨ k = 2 := by omega
  have h2 : k' = 0 ∨ k' = 1 ∨ k' = 2 := by omega
  rcases h1 with rfl | rfl | rfl <;> rcases h2 with rfl | rfl | rfl <;> simp [pth, pathL, litI] at h ⊢ <;> omega
theorem T1_len (T : List (List Blk)) (l : Int) : ∀ k, (T1 T l k).length = T.length
  | 0 => rfl
  | k + 1 => by simp only [T1, List.length_set, T1_len T l k]
theorem F3_len (l : Int) (T : List (List Blk)) (S : List Blk) : ∀ k, (F3 l T S k).1.length = T.length
  | 0 => rfl
  | k + 1 => by simp only [F3, List.length_set, F3_len l T S k]
theorem getD_setL {α : Type} {d : α} {T : List α} {p : Nat} {X : α} {i : Nat} (hp : p < T.length) : (T.set p X).getD i d = if i = p then X else T.getD i d := by
  simp only [List.getD_eq_getElem?_getD, List.getElem?_set]
  by_cases h : p = i
  · subst h; simp [hp]
  · rw [if_neg h, if_neg fun e => h e.symm]
theorem set_self {α : Type} {d : α} {T : List α} {p : Nat} (hp : p < T.length) : T.set p (T.getD p d) = T := by
  apply List.ext_getElem
  · simp
  · intro i h1 h2
    rw [List.getElem_set]
    split
    · rename_i h; subst h; simp [List.getD_eq_getElem?_getD, hp]
    · rfl
theorem set_set {α : Type} {T : List α} {p : Nat} {X Y : α} : (T.set p X).set p Y = T.set p Y := List.set_set ..
theorem fillK_succ {i : Int} {B L : List Blk} {j : Nat} (hj : j < L.length) : fillK i B L (j + 1) = fillStep i (fillK i B L j) (L.getD j b0) := by
  unfold fillK
  rw [List.take_succ_eq_append_getElem hj, List.foldl_append]
  simp [List.getD_eq_getElem?_getD, hj]
theorem fill_mem {i : Int} {B L : List Blk} : ∀ {j}, j ≤ L.length → (∀ b, b ∈ (fillK i B L j).2 → b ∈ L) ∧ (fillK i B L j).2.length ≤ j ∧ (fillK i B L j).1.length ≤ B.length + j ∧ ∀ b, b ∈ (fillK i B L j).1 → b ∈ B ∨ b ∈ L
  | 0, _ => by simp [fillK]; exact fun b h => .inl h
  | j + 1, h => by
    obtain ⟨h1, h2, h3, h4⟩ := fill_mem (i := i) (B := B) (L := L) (j := j) (by omega)
    rw [fillK_succ (by omega)]
    have hm : L.getD j b0 ∈ L := getD_mem (i := j) (by omega)
    generalize fillK i B L j = p at *
    unfold fillStep
    split
    · refine ⟨h1, by simp only []; omega, by simp only [List.length_append, List.length_singleton]; omega, fun b hb => ?_⟩
      simp only [List.mem_append, List.mem_singleton] at hb
      rcases hb with hb | rfl
      · exact h4 b hb
      · exact .inr hm
    · refine ⟨fun b hb => ?_, by simp only [List.length_append, List.length_singleton]; omega, by simp only []; omega, h4⟩
      simp only [List.mem_append, List.mem_singleton] at hb
      rcases hb with hb | rfl
      · exact h1 b hb
      · exact hm
theorem lit_blk {R : List Blk} {b : Blk} {x0 x1 x2 : Int} {z : Nat → Nat → PV} {i c : Nat} (h0 : x0 = b.a) (h1 : x1 = b.v) (h2 : x2 = b.l) (hi : i < R.length + 1) (hc : c < 3) :
    PV.Le (if i < R.length then SB R i c else setG [(0, 0, PI x0), (0, 1, PI x1), (0, 2, PI x2)] z (i - R.length) c) (SB (R ++ [b]) i c) := by
  subst h0; subst h1; subst h2
  by_cases h : i < R.length
  · rw [if_pos h]; exact SB_le (by rw [getD_app, if_pos h])
  · have hi : i = R.length := by omega
    subst hi
    rw [if_neg h]
    have e : (R ++ [b]).getD R.length b0 = b := by rw [getD_app, if_neg h]; simp
    simp only [SB, e, Nat.sub_self]
    match c, hc with
    | 0, _ => simp [setG, cellSet, Blk.col]; exact .refl _
    | 1, _ => simp [setG, cellSet, Blk.col]; exact .refl _
    | 2, _ => simp [setG, cellSet, Blk.col]; exact .refl _
theorem lit_V {x0 x1 x2 : Int} {z : Nat → Nat → PV} : allV 3 1 (setG [(0, 0, PI x0), (0, 1, PI x1), (0, 2, PI x2)] z) := fun i c hi hc => by
  obtain rfl : i = 0 := by omega
  match c, hc with
  | 0, _ => rfl
  | 1, _ => rfl
  | 2, _ => rfl
abbrev useH3 (T : List (List Blk)) (S : List Blk) (l : Int) : List (Nat × Ob) := [(0, .row .u false 1 T.length (BB T) []), (1, .row .u false 3 S.length (SB S) []), (2, .row .u false 1 3 (PA l) [])]
theorem col0 (b : Blk) : b.col 0 = b.a := rfl
theorem col1 (b : Blk) : b.col 1 = b.v := rfl
theorem col2 (b : Blk) : b.col 2 = b.l := rfl
theorem F3_mem (l : Int) (T : List (List Blk)) (S : List Blk) : ∀ k, (∀ b, b ∈ (F3 l T S k).2 → b ∈ S) ∧ (F3 l T S k).2.length ≤ S.length
  | 0 => ⟨fun b h => h, Nat.le_refl _⟩
  | k + 1 => by
    obtain ⟨h1, h2⟩ := F3_mem l T S k
    obtain ⟨g1, g2, _⟩ := fill_mem (i := ((pth l (2 - k) : Nat) : Int)) (B := (F3 l T S k).1.getD (pth l (2 - k)) []) (L := (F3 l T S k).2) (Nat.le_refl (F3 l T S k).2.length)
    exact ⟨fun b hb => h1 b (g1 b hb), Nat.le_trans g2 h2⟩
theorem st6_im (x : Int) (wr : Bool) (v lf l : Int) (o : Blk) (T : List (List Blk)) (S : List Blk) (hl : 0 ≤ l ∧ l ≤ 3) (hT : T.length = 7) (hS : S.length ≤ 1000) (hv : ∀ b, b ∈ S → 0 ≤ b.l ∧ b.l ≤ 3) (hF : (F3 l T S 3).2.length + (F3 l T S 3).1.flatten.length ≤ 1048576) (R : AV → List (Nat × Ob) → Prop)
    (hR : R (.tp [.ag [.own 0, .own 1], AI o.v, .own 2, AB true]) (useH3 (F3 l T S 3).1 (F3 l T S 3).2 l)) (s : St) (hs : stLe (s.lowers []) (st_imU6 x wr v lf l o T S 0) [] []) :
    (VC.loop ir68_L6 [Item.bend 4, Item.ir ir68_T7] s).holds Tryd.prog G0 res68 [] R := by
  refine loop_by (st_imU6 x wr v lf l o T S) (fun i => i ≤ 3) (fun i => 3 - i) 0 [] [] [] (by omega) hs (evr_imU6 x wr v lf l o T S) fun i hi => ?_
  obtain ⟨m1, m2⟩ := F3_mem l T S i
  have m3 := F3_len l T S i
  simp only [VC.holds_split, VC.holds_need, VC.holds_doneP, VC.holds_done, VC.holds_either, VC.holds_call, VC.holds_callE, VC.holds_lend, VC.holds_stop, VC.holds_fail, decide_eq_true_eq, decide_eq_false_iff_not]
  refine ⟨fun h0 => ?_, fun h0 => ?_⟩
  · have hi3 : i < 3 := by have : (0 : Int) ≤ 2 - i := by simpa using h0
                           omega
    have et : ((2 : Int) - i).toNat = 2 - i := by omega
    obtain ⟨p1, p2⟩ := pth_int hl (show 2 - i < 3 by omega)
    simp only [et, p1]
    refine ⟨⟨by omega, by omega⟩, by omega, ?_⟩
    have e3 : F3 l T S (i + 1) = ((F3 l T S i).1.set (pth l (2 - i)) (fillK (pth l (2 - i)) ((F3 l T S i).1.getD (pth l (2 - i)) []) (F3 l T S i).2 (F3 l T S i).2.length).1, (fillK (pth l (2 - i)) ((F3 l T S i).1.getD (pth l (2 - i)) []) (F3 l T S i).2 (F3 l T S i).2.length).2) := rfl
    generalize hp : pth l (2 - i) = p at *
    have p1' : litI (pathL l) (2 - i) = (p : Int) := p1
    generalize hTi : (F3 l T S i).1 = Ti at *
    generalize hL : (F3 l T S i).2 = L at *
    generalize hB00 : Ti.getD p [] = B0 at *
    have hset : Ti.set p B0 = Ti := by rw [← hB00]; exact set_self (by omega)
    have f0 : fillK p B0 L 0 = (B0, []) := by simp [fillK]
    refine loop_by (fun j => st_imU3 x wr v lf l o i Ti L (fillK p B0 L j).1 (fillK p B0 L j).2 j) (fun j => j ≤ L.length) (fun j => L.length - j) 0 [] [] [22] (Nat.zero_le _) ?_ (fun J j => evr_imU3 x wr v lf l o i Ti L (fillK p B0 L j).1 (fillK p B0 L j).2 _ J j) fun j hj => ?_
    · simp only [st_imU3, f0, hp, p1', hset]
      simp [hbs, St.lowers, St.lower, stLe, leEnv, leObs, obLe, injB, pinC, AV.leC, AV.leCs, PV.leC, PV.Le_v, St.get, St.obj, look, rho, isNew, keptC, renH, Mode.ok, Mode.isZ, PV.isVal, PV.isNilSl, List.all_nil, List.all_cons, List.any_nil, List.any_cons, List.map_nil, List.map_cons, PV.Le_self]
    · obtain ⟨f1, f2, f3, _⟩ := fill_mem (i := (p : Int)) (B := B0) (L := L) hj
      have fs := fun h => fillK_succ (i := (p : Int)) (B := B0) (L := L) (j := j) h
      obtain ⟨B, Rr, hBR⟩ : ∃ B Rr, fillK p B0 L j = (B, Rr) := ⟨_, _, rfl⟩
      simp only [hBR] at f1 f2 f3 fs ⊢
      have ej : IntKind.i64.wrap ((j : Int) + 1) = ((j + 1 : Nat) : Int) := wrap_in (by omega) (by omega)
      have hg : (Ti.set p B).getD p [] = B := by rw [getD_setL (by omega), if_pos rfl]
      have hlen : (Ti.set p B).length = Ti.length := List.length_set
      have hbm : j < L.length → 0 ≤ (L.getD j b0).l ∧ (L.getD j b0).l ≤ 3 := fun h => hv _ (m1 _ (getD_mem h))
      have hne : ∀ X, X.length = Ti.length → X.getD p [] = B → ∀ a, PV.Le (cellSet (BB X) p 0 (.sl false 3 B.length (SB B)) a 0) (BB X a 0) := fun X _ hX a => by
        by_cases c : a = p
        · subst c; simp only [cellSet, and_self, if_true]; exact BB_le1 hX rfl fun _ _ _ _ => .refl _
        · simp only [cellSet, c, and_false, if_false]; exact .refl _
      simp only [VC.holds_split, VC.holds_need, VC.holds_doneP, VC.holds_done, VC.holds_either, VC.holds_call, VC.holds_callE, VC.holds_lend, VC.holds_stop, VC.holds_fail, decide_eq_true_eq, decide_eq_false_iff_not, Int.toNat_natCast, hp, p1, hg, hlen, et, Nat.zero_add, Nat.add_zero, Nat.reduceAdd, col0, col1, col2]
      have hup : ∀ (b : Blk) (Z : Nat → Nat → PV), (∀ q k, q < B.length + 1 → k < 3 → PV.Le (if q < B.length then SB B q k else Z (q - B.length) k) (SB (B ++ [b]) q k)) → ∀ a, a < Ti.length → PV.Le (setG [(p, 0, PV.sl false 3 (B.length + 1) fun q c => if q < B.length then SB B q c else Z (q - B.length) c)] (BB (Ti.set p B)) a 0) (BB (Ti.set p (B ++ [b])) a 0) := fun b Z hZ a ha => by
        by_cases c : a = p
        · subst c
          simp only [setG, cellSet, and_self, if_true]
          exact BB_le1 (by rw [getD_setL (by omega), if_pos rfl]) (by simp) hZ
        · simp only [setG, cellSet, c, and_false, if_false]
          exact BB_le (by rw [getD_setL (by omega), getD_setL (by omega), if_neg c, if_neg c])
      generalize hb : L.getD j b0 = b at *
      have no : j < L.length → ¬ (B.length < 2 ∧ onB b.l p = true) → fillK p B0 L (j + 1) = (B, Rr ++ [b]) := fun h1 h2 => by rw [fs h1]; unfold fillStep; rw [if_neg h2]
      have yes : j < L.length → B.length < 2 → onB b.l p = true → fillK p B0 L (j + 1) = (B ++ [b], Rr) := fun h1 h2 h3 => by rw [fs h1]; unfold fillStep; rw [if_pos ⟨h2, h3⟩]
      refine ⟨fun h1 => ⟨⟨by omega, by omega⟩, by omega, ⟨by omega, by omega⟩, by omega, fun h2 => ⟨c_path _ (hbm (by omega)), c_coP _ _, fun h3 => ?_, fun h3 => ⟨⟨⟨by omega, by omega⟩, lit_V⟩, Again.mk (j + 1) [] [(22, 147)] [] (by omega) (by omega) ?_⟩⟩, fun h2 => ⟨⟨⟨by omega, by omega⟩, lit_V⟩, Again.mk (j + 1) [] [(22, 147)] [] (by omega) (by omega) ?_⟩⟩, fun h1 => ?_⟩
      · refine M.by [] [] [] ?_ (evr_imUC x wr v lf l o i Ti L B Rr _ _ j) ?_
        · generalize hX : Ti.set p B = X at *
          simp only [st_imUC, hp, p1', hX, hb]
          simp [hbs, St.lowers, St.lower, stLe, leEnv, leObs, obLe, injB, pinC, AV.leC, AV.leCs, PV.leC, PV.Le_v, St.get, St.obj, look, rho, isNew, keptC, renH, Mode.ok, Mode.isZ, PV.isVal, PV.isNilSl, List.all_nil, List.all_cons, List.any_nil, List.any_cons, List.map_nil, List.map_cons, PV.Le_self]
          exact ⟨hlen.symm, fun a ha => hne X hlen hg a⟩
        · simp only [VC.holds_split, VC.holds_need, VC.holds_doneP, VC.holds_done, VC.holds_either, VC.holds_call, VC.holds_callE, VC.holds_lend, VC.holds_stop, VC.holds_fail, decide_eq_true_eq, decide_eq_false_iff_not, Int.toNat_natCast, hp, p1, hg, hlen, et, hb, Nat.zero_add, Nat.add_zero, Nat.reduceAdd, col0, col1, col2]
          refine ⟨⟨by omega, by omega⟩, by omega, ⟨⟨by omega, by omega⟩, lit_V⟩, ⟨by omega, by omega⟩, ⟨by omega, trivial⟩, Again.mk (j + 1) [] [] [] (by omega) (by omega) ?_⟩
          have e := yes (by omega) (by omega) h3
          simp only [st_imU3, e, hp, p1']
          have hup2 := hup b _ fun q k hq hk => lit_blk (z := fun _ k => .v ([Value.int .i64 0, .int .i64 0, .int .i64 0].getD k undef)) rfl rfl rfl hq hk
          generalize hX : Ti.set p B = X at *
          generalize hY : Ti.set p (B ++ [b]) = Y at *
          have hlY : Y.length = Ti.length := by rw [← hY]; exact List.length_set
          simp [hbs, St.lowers, St.lower, stLe, leEnv, leObs, obLe, injB, pinC, AV.leC, AV.leCs, PV.leC, PV.Le_v, St.get, St.obj, look, rho, isNew, keptC, renH, Mode.ok, Mode.isZ, PV.isVal, PV.isNilSl, List.all_nil, List.all_cons, List.any_nil, List.any_cons, List.map_nil, List.map_cons, PV.Le_self, ej, hlen, hlY]
          exact fun a ha => hup2 a ha
      · have e := no (by omega) (fun h => by rw [h3] at h; cases h.2)
        simp only [st_imU3, e, hp, p1']
        generalize hX : Ti.set p B = X at *
        simp [hbs, St.lowers, St.lower, stLe, leEnv, leObs, obLe, injB, pinC, AV.leC, AV.leCs, PV.leC, PV.Le_v, St.get, St.obj, look, rho, isNew, keptC, renH, Mode.ok, Mode.isZ, PV.isVal, PV.isNilSl, List.all_nil, List.all_cons, List.any_nil, List.any_cons, List.map_nil, List.map_cons, PV.Le_self, ej]
        exact ⟨⟨hlen.symm, fun a ha => hne X hlen hg a⟩, fun a c ha hc => lit_blk rfl rfl rfl ha hc⟩
      · have e := no (by omega) (fun h => by omega)
        simp only [st_imU3, e, hp, p1']
        generalize hX : Ti.set p B = X at *
        simp [hbs, St.lowers, St.lower, stLe, leEnv, leObs, obLe, injB, pinC, AV.leC, AV.leCs, PV.leC, PV.Le_v, St.get, St.obj, look, rho, isNew, keptC, renH, Mode.ok, Mode.isZ, PV.isVal, PV.isNilSl, List.all_nil, List.all_cons, List.any_nil, List.any_cons, List.map_nil, List.map_cons, PV.Le_self, ej]
        exact ⟨⟨hlen.symm, fun a ha => hne X hlen hg a⟩, fun a c ha hc => lit_blk rfl rfl rfl ha hc⟩
      · have hjL : j = L.length := by omega
        subst hjL
        have ek : IntKind.i64.wrap ((2 : Int) - i - 1) = 2 - ((i + 1 : Nat) : Int) := (wrap_in (by omega) (by omega)).trans (by omega)
        rw [hBR] at e3
        refine Again.mk (i + 1) [] [(2045, 22)] [] (by omega) (by omega) ?_
        simp only [st_imU6, e3, ek]
        simp [hbs, St.lowers, St.lower, stLe, leEnv, leObs, obLe, injB, pinC, AV.leC, AV.leCs, PV.leC, PV.Le_v, St.get, St.obj, look, rho, isNew, keptC, renH, Mode.ok, Mode.isZ, PV.isVal, PV.isNilSl, List.all_nil, List.all_cons, List.any_nil, List.any_cons, List.map_nil, List.map_cons, PV.Le_self]
  · have hi3 : i = 3 := by have : ¬ (0 : Int) ≤ 2 - i := by simpa using h0
                           omega
    subst hi3
    refine ⟨c_cl _ _ (by omega) hF, ResOk.mk [] [(0, 1152), (1, 2152), (2, 1051)] [] _ _ ?_ hR⟩
    simp [doneC, resOf, resAV, tup, pinR, PV.Le_self, hbs, St.lowers, St.lower, stLe, leEnv, leObs, obLe, injB, pinC, AV.leC, AV.leCs, PV.leC, PV.Le_v, St.get, St.obj, look, rho, isNew, keptC, renH, Mode.ok, Mode.isZ, PV.isVal, PV.isNilSl, List.all_nil, List.all_cons, List.any_nil, List.any_cons, List.map_nil, List.map_cons, res68]
theorem st6_sp (x : Int) (wr : Bool) (v lf l : Int) (hd : Int) (T : List (List Blk)) (S : List Blk) (hl : 0 ≤ l ∧ l ≤ 3) (hT : T.length = 7) (hS : S.length ≤ 1000) (hv : ∀ b, b ∈ S → 0 ≤ b.l ∧ b.l ≤ 3) (R : AV → List (Nat × Ob) → Prop)
    (hR : R (.tp [.ag [.own 0, .own 1], AI hd, .own 2, AB true]) (useH3 (F3 l T S 3).1 (F3 l T S 3).2 l)) (s : St) (hs : stLe (s.lowers []) (st_spU6 x wr v lf l hd T S 0) [] []) :
    (VC.loop ir181_L6 [Item.bend 4, Item.ir ir181_T7] s).holds Tryd.prog G0 res181 [] R := by
  refine loop_by (st_spU6 x wr v lf l hd T S) (fun i => i ≤ 3) (fun i => 3 - i) 0 [] [] [] (by omega) hs (evr_spU6 x wr v lf l hd T S) fun i hi => ?_
  obtain ⟨m1, m2⟩ := F3_mem l T S i
  have m3 := F3_len l T S i
  simp only [VC.holds_split, VC.holds_need, VC.holds_doneP, VC.holds_done, VC.holds_either, VC.holds_call, VC.holds_callE, VC.holds_lend, VC.holds_stop, VC.holds_fail, decide_eq_true_eq, decide_eq_false_iff_not]
  refine ⟨fun h0 => ?_, fun h0 => ?_⟩
  · have hi3 : i < 3 := by have : (0 : Int) ≤ 2 - i := by simpa using h0
                           omega
    have et : ((2 : Int) - i).toNat = 2 - i := by omega
    obtain ⟨p1, p2⟩ := pth_int hl (show 2 - i < 3 by omega)
    
    
    have e3 : F3 l T S (i + 1) = ((F3 l T S i).1.set (pth l (2 - i)) (fillK (pth l (2 - i)) ((F3 l T S i).1.getD (pth l (2 - i)) []) (F3 l T S i).2 (F3 l T S i).2.length).1, (fillK (pth l (2 - i)) ((F3 l T S i).1.getD (pth l (2 - i)) []) (F3 l T S i).2 (F3 l T S i).2.length).2) := rfl
    generalize hp : pth l (2 - i) = p at *
    have p1' : litI (pathL l) (2 - i) = (p : Int) := p1
    generalize hTi : (F3 l T S i).1 = Ti at *
    generalize hL : (F3 l T S i).2 = L at *
    generalize hB00 : Ti.getD p [] = B0 at *
    have hset : Ti.set p B0 = Ti := by rw [← hB00]; exact set_self (by omega)
    have f0 : fillK p B0 L 0 = (B0, []) := by simp [fillK]
    refine loop_by (fun j => st_spU3 x wr v lf l hd i Ti L (fillK p B0 L j).1 (fillK p B0 L j).2 j) (fun j => j ≤ L.length) (fun j => L.length - j) 0 [] [(22, 111)] [] (Nat.zero_le _) ?_ (fun J j => evr_spU3 x wr v lf l hd i Ti L (fillK p B0 L j).1 (fillK p B0 L j).2 _ J j) fun j hj => ?_
    · simp only [st_spU3, f0, hp, p1', hset]
      simp [hbs, St.lowers, St.lower, stLe, leEnv, leObs, obLe, injB, pinC, AV.leC, AV.leCs, PV.leC, PV.Le_v, St.get, St.obj, look, rho, isNew, keptC, renH, Mode.ok, Mode.isZ, PV.isVal, PV.isNilSl, List.all_nil, List.all_cons, List.any_nil, List.any_cons, List.map_nil, List.map_cons, PV.Le_self]
    · obtain ⟨f1, f2, f3, _⟩ := fill_mem (i := (p : Int)) (B := B0) (L := L) hj
      have fs := fun h => fillK_succ (i := (p : Int)) (B := B0) (L := L) (j := j) h
      obtain ⟨B, Rr, hBR⟩ : ∃ B Rr, fillK p B0 L j = (B, Rr) := ⟨_, _, rfl⟩
      simp only [hBR] at f1 f2 f3 fs ⊢
      have ej : IntKind.i64.wrap ((j : Int) + 1) = ((j + 1 : Nat) : Int) := wrap_in (by omega) (by omega)
      have hg : (Ti.set p B).getD p [] = B := by rw [getD_setL (by omega), if_pos rfl]
      have hlen : (Ti.set p B).length = Ti.length := List.length_set
      have hbm : j < L.length → 0 ≤ (L.getD j b0).l ∧ (L.getD j b0).l ≤ 3 := fun h => hv _ (m1 _ (getD_mem h))
      have hne : ∀ X, X.length = Ti.length → X.getD p [] = B → ∀ a, PV.Le (cellSet (BB X) p 0 (.sl false 3 B.length (SB B)) a 0) (BB X a 0) := fun X _ hX a => by
        by_cases c : a = p
        · subst c; simp only [cellSet, and_self, if_true]; exact BB_le1 hX rfl fun _ _ _ _ => .refl _
        · simp only [cellSet, c, and_false, if_false]; exact .refl _
      simp only [VC.holds_split, VC.holds_need, VC.holds_doneP, VC.holds_done, VC.holds_either, VC.holds_call, VC.holds_callE, VC.holds_lend, VC.holds_stop, VC.holds_fail, decide_eq_true_eq, decide_eq_false_iff_not, Int.toNat_natCast, hp, p1, hg, hlen, et, Nat.zero_add, Nat.add_zero, Nat.reduceAdd, col0, col1, col2]
      have hup : ∀ (b : Blk) (Z : Nat → Nat → PV), (∀ q k, q < B.length + 1 → k < 3 → PV.Le (if q < B.length then SB B q k else Z (q - B.length) k) (SB (B ++ [b]) q k)) → ∀ a, a < Ti.length → PV.Le (setG [(p, 0, PV.sl false 3 (B.length + 1) fun q c => if q < B.length then SB B q c else Z (q - B.length) c)] (BB (Ti.set p B)) a 0) (BB (Ti.set p (B ++ [b])) a 0) := fun b Z hZ a ha => by
        by_cases c : a = p
        · subst c
          simp only [setG, cellSet, and_self, if_true]
          exact BB_le1 (by rw [getD_setL (by omega), if_pos rfl]) (by simp) hZ
        · simp only [setG, cellSet, c, and_false, if_false]
          exact BB_le (by rw [getD_setL (by omega), getD_setL (by omega), if_neg c, if_neg c])
      generalize hb : L.getD j b0 = b at *
      have no : j < L.length → ¬ (B.length < 2 ∧ onB b.l p = true) → fillK p B0 L (j + 1) = (B, Rr ++ [b]) := fun h1 h2 => by rw [fs h1]; unfold fillStep; rw [if_neg h2]
      have yes : j < L.length → B.length < 2 → onB b.l p = true → fillK p B0 L (j + 1) = (B ++ [b], Rr) := fun h1 h2 h3 => by rw [fs h1]; unfold fillStep; rw [if_pos ⟨h2, h3⟩]
      refine ⟨fun h1 => ⟨⟨by omega, by omega⟩, by omega, ⟨by omega, by omega⟩, by omega, fun h2 => ⟨⟨by omega, by omega⟩, by omega, ⟨by omega, by omega⟩, by omega, c_sOn _ _, fun h3 => ?_, fun h3 => ⟨⟨by omega, by omega⟩, by omega, ⟨⟨by omega, by omega⟩, lit_V⟩, Again.mk (j + 1) [] [(22, 171)] [] (by omega) (by omega) ?_⟩⟩, fun h2 => ⟨⟨by omega, by omega⟩, by omega, ⟨⟨by omega, by omega⟩, lit_V⟩, Again.mk (j + 1) [] [(22, 171)] [] (by omega) (by omega) ?_⟩⟩, fun h1 => ?_⟩
      · refine M.by [] [] [] ?_ (evr_spUC x wr v lf l hd i Ti L B Rr _ _ j) ?_
        · generalize hX : Ti.set p B = X at *
          simp only [st_spUC, hp, p1', hX, hb]
          simp [hbs, St.lowers, St.lower, stLe, leEnv, leObs, obLe, injB, pinC, AV.leC, AV.leCs, PV.leC, PV.Le_v, St.get, St.obj, look, rho, isNew, keptC, renH, Mode.ok, Mode.isZ, PV.isVal, PV.isNilSl, List.all_nil, List.all_cons, List.any_nil, List.any_cons, List.map_nil, List.map_cons, PV.Le_self]
          exact ⟨hlen.symm, fun a ha => hne X hlen hg a⟩
        · simp only [VC.holds_split, VC.holds_need, VC.holds_doneP, VC.holds_done, VC.holds_either, VC.holds_call, VC.holds_callE, VC.holds_lend, VC.holds_stop, VC.holds_fail, decide_eq_true_eq, decide_eq_false_iff_not, Int.toNat_natCast, hp, p1, hg, hlen, et, hb, Nat.zero_add, Nat.add_zero, Nat.reduceAdd, col0, col1, col2]
          refine ⟨⟨by omega, by omega⟩, by omega, ⟨by omega, by omega⟩, by omega, ⟨by omega, by omega⟩, by omega, ⟨by omega, by omega⟩, by omega, ⟨⟨by omega, by omega⟩, lit_V⟩, ⟨by omega, by omega⟩, ⟨by omega, trivial⟩, Again.mk (j + 1) [] [] [] (by omega) (by omega) ?_⟩
          have e := yes (by omega) (by omega) (by simp only [onS, Bool.and_eq_true] at h3; exact h3.2)
          simp only [st_spU3, e, hp, p1']
          have hup2 := hup b _ fun q k hq hk => lit_blk (z := fun _ k => .v ([Value.int .i64 0, .int .i64 0, .int .i64 0].getD k undef)) rfl rfl rfl hq hk
          generalize hX : Ti.set p B = X at *
          generalize hY : Ti.set p (B ++ [b]) = Y at *
          have hlY : Y.length = Ti.length := by rw [← hY]; exact List.length_set
          simp [hbs, St.lowers, St.lower, stLe, leEnv, leObs, obLe, injB, pinC, AV.leC, AV.leCs, PV.leC, PV.Le_v, St.get, St.obj, look, rho, isNew, keptC, renH, Mode.ok, Mode.isZ, PV.isVal, PV.isNilSl, List.all_nil, List.all_cons, List.any_nil, List.any_cons, List.map_nil, List.map_cons, PV.Le_self, ej, hlen, hlY]
          exact fun a ha => hup2 a ha
      · have e := no (by omega) (fun h => by have g := hbm (by omega); have g2 := inB_iff.2 g; simp only [onS, g2, Bool.true_and] at h3; rw [h3] at h; cases h.2)
        simp only [st_spU3, e, hp, p1']
        generalize hX : Ti.set p B = X at *
        simp [hbs, St.lowers, St.lower, stLe, leEnv, leObs, obLe, injB, pinC, AV.leC, AV.leCs, PV.leC, PV.Le_v, St.get, St.obj, look, rho, isNew, keptC, renH, Mode.ok, Mode.isZ, PV.isVal, PV.isNilSl, List.all_nil, List.all_cons, List.any_nil, List.any_cons, List.map_nil, List.map_cons, PV.Le_self, ej]
        exact ⟨⟨hlen.symm, fun a ha => hne X hlen hg a⟩, fun a c ha hc => lit_blk rfl rfl rfl ha hc⟩
      · have e := no (by omega) (fun h => by omega)
        simp only [st_spU3, e, hp, p1']
        generalize hX : Ti.set p B = X at *
        simp [hbs, St.lowers, St.lower, stLe, leEnv, leObs, obLe, injB, pinC, AV.leC, AV.leCs, PV.leC, PV.Le_v, St.get, St.obj, look, rho, isNew, keptC, renH, Mode.ok, Mode.isZ, PV.isVal, PV.isNilSl, List.all_nil, List.all_cons, List.any_nil, List.any_cons, List.map_nil, List.map_cons, PV.Le_self, ej]
        exact ⟨⟨hlen.symm, fun a ha => hne X hlen hg a⟩, fun a c ha hc => lit_blk rfl rfl rfl ha hc⟩
      · have hjL : j = L.length := by omega
        subst hjL
        have ek : IntKind.i64.wrap ((2 : Int) - i - 1) = 2 - ((i + 1 : Nat) : Int) := (wrap_in (by omega) (by omega)).trans (by omega)
        rw [hBR] at e3
        refine Again.mk (i + 1) [] [(2043, 22)] [] (by omega) (by omega) ?_
        simp only [st_spU6, e3, ek]
        simp [hbs, St.lowers, St.lower, stLe, leEnv, leObs, obLe, injB, pinC, AV.leC, AV.leCs, PV.leC, PV.Le_v, St.get, St.obj, look, rho, isNew, keptC, renH, Mode.ok, Mode.isZ, PV.isVal, PV.isNilSl, List.all_nil, List.all_cons, List.any_nil, List.any_cons, List.map_nil, List.map_cons, PV.Le_self]
  · have hi3 : i = 3 := by have : ¬ (0 : Int) ≤ 2 - i := by simpa using h0
                           omega
    subst hi3
    refine ResOk.mk [] [(0, 1043), (1, 2043), (2, 1041)] [] _ _ ?_ hR
    simp [doneC, resOf, resAV, tup, pinR, PV.Le_self, hbs, St.lowers, St.lower, stLe, leEnv, leObs, obLe, injB, pinC, AV.leC, AV.leCs, PV.leC, PV.Le_v, St.get, St.obj, look, rho, isNew, keptC, renH, Mode.ok, Mode.isZ, PV.isVal, PV.isNilSl, List.all_nil, List.all_cons, List.any_nil, List.any_cons, List.map_nil, List.map_cons, res181]
end Go.Gw
