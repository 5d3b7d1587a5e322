/- Padded tables compared, real rows taken; with no condition. -/
import Derived.Test.YtigaelckdbeecaaGreatDoorPadS
import Derived.Test.YtigaelckdbeecaaGreatDoorSameTab
import Derived.KernelRfl
namespace Go.Gw
open Go Go.Proofs
set_option linter.unusedSimpArgs false
set_option linter.unusedVariables false
set_option maxRecDepth 100000
def ir7 : Ir := (.seq (.reg [] [o 2 (.box 3 (tt 0)), o 3 (.box 3 (tt 1)), o 4 (.mov (cb false))]) (.seq (.reg [5, 6, 7, 8, 9, 10, 11, 12, 13, 14, 15, 16, 17, 18, 19, 20, 21, 22, 23] [oa 5 0 2, ol 6 5, oa 7 0 3, ol 8 7, o 9 (.call 34 [(tt 6), (tt 8)]), om 10 9, og 11 10 true (.fadr 1 (tt 2)), og 12 10 true (.load false 1 (tt 11)), og 13 10 true (.fadr 1 (tt 3)), og 14 10 true (.load false 1 (tt 13)), og 15 10 true (.call 35 [(tt 12), (tt 14)]), o 16 (.pick (tt 10) (tt 15) (cb false)), om 17 16, og 18 17 true (.fadr 2 (tt 2)), og 19 17 true (.load false 1 (tt 18)), og 20 17 true (.fadr 2 (tt 3)), og 21 17 true (.load false 1 (tt 20)), og 22 17 true (.call 36 [(tt 19), (tt 21)]), o 23 (.pick (tt 17) (tt 22) (cb false)), om 4 23]) .ret))
def keep7 : List Nat := [0, 1, 2, 3, 4]
def res7 : List RI := [.tmp 4]
theorem chk7 : chk Tryz.prog 7 2 keep7 = some (ir7, res7) := by kernel_rfl
def ir10_L1 : Ir := (.seq (.reg [] [ob .lss 24 23 22]) (.seq (.cond (tt 24) .skip (.exit 0)) (.seq (.block 1 (.seq (.reg [25, 26, 27] [om 25 23, ox 26 21 23, ol 27 26, om 5 25, om 6 27]) (.seq (.reg [28, 29, 30, 31] [oa 28 2 1, ol 29 28, om 30 5, ox 31 29 30, ol 32 31]) (.cond (tt 32) (.dreg [33, 34, 35, 36, 37, 38, 39] [0, 1, 0, 4, 12, 31, 63, 127] [(1, 1034), (3, 1036), (3, 2036), (3, 3036), (3, 4036), (3, 5036), (3, 6036), (3, 7036), (3, 8036), (4, 37), (5, 38)] [oa 33 1 4, ol 34 33, om 35 6, o 36 (.call 22 [(tt 35)]), o 37 (.mkSl 1 1 [(.slice none 0 0)] [(0, (tt 36))]), o 38 (.app 1 24 false (tt 34) (tt 37)), oa 39 1 4, on (.store 1 (tt 39) (tt 38))]) .skip)))) (.reg [40] [o 40 (.bin .add (tt 23) (ci 1)), om 23 40]))))
def ir10_T2 : Ir := (.seq (.reg [41] [o 41 (.load true 2 (tt 4)), on (.store 2 (tt 2) (tt 41)), o 3 (.mov (cb true))]) .ret)
def ir10 : Ir := (.seq (.reg [] [o 1 (.box 3 (tt 0)), o 2 (.alloc [(.slice none 0 0), (.slice none 0 0)]), o 3 (.mov (cb false))]) (.seq (.seq (.reg [7, 8, 9, 10, 11, 12, 13] [o 7 (.load true 3 (tt 1)), o 8 (.call 13 [(tt 7)]), o 9 (.un .not (tt 8)), om 10 9, og 11 10 false (.load true 3 (tt 1)), og 12 10 false (.call 39 [(tt 11)]), og 13 10 false (.bin .gtr (tt 12) (ci 16)), o 14 (.pick (tt 10) (cb true) (tt 13))]) (.cond (tt 14) (.seq (.reg [15] [o 15 (.build [(.slice none 0 0), (.slice none 0 0)] []), on (.store 2 (tt 2) (tt 15)), o 3 (.mov (cb false))]) .ret) .skip)) (.seq (.reg [16, 17, 18, 19] [oa 16 0 1, ol 17 16, o 18 (.call 40 [(tt 17)]), o 19 (.build [(.slice none 0 0), (.slice none 0 0)] [(0, 1, (tt 18))]), o 4 (.alloc [(.slice none 0 0), (.slice none 0 0)]), on (.store 2 (tt 4) (tt 19))]) (.seq (.seq (.reg [20] [oa 20 1 1, ol 21 20, o 22 (.len (tt 21)), o 23 (.mov (ci 0))]) (.block 0 (.loop ir10_L1))) ir10_T2))))
def keep10 : List Nat := [0, 1, 2, 3, 4, 5, 6, 14, 21, 22, 23, 24, 32]
def res10 : List RI := [.cell true 2 2, .tmp 3]
theorem chk10 : chk Tryz.prog 10 1 keep10 = some (ir10, res10) := by kernel_rfl
theorem c_sMK (nn nn' : Bool) (k : Nat) (r : Nat → Bool) (k' : Nat) (r' : Nat → Bool) (hk : k ≤ 1048576) : PRet Tryz.prog G0 36 [ML nn k r, ML nn' k' r'] (AB (sameM k r k' r')) := c_sM nn nn' k r k' r' hk
theorem ev_sPd : ∀ (n : Nat) (f : Nat → ByteArray) (m : Nat) (w : Nat → Nat) (h : Nat → Nat → Int) (k : Nat) (r : Nat → Bool) (n' : Nat) (f' : Nat → ByteArray) (m' : Nat) (w' : Nat → Nat) (h' : Nat → Nat → Int) (k' : Nat) (r' : Nat → Bool), ev G0 res7 [] 3000 (Or.call [] (AB (sameT n f n' f')) [] ((Or.call [] (AB (sameR m w h m' w' h')) [] ((Or.call [] (AB (sameM k r k' r')) [] Or.nil.lit).lit.lit.lit.lit.split Or.nil.lit.lit.lit.lit.lit).lit).lit.lit.lit.lit.split Or.nil.lit.lit.lit.lit.lit.lit.lit.lit.lit.lit.lit)) [.ir ir7] (start [PD false false false n f m w h k r, PD false false false n' f' m' w' h' k' r'] []) = VC.call 34 [TL false n f, SL false 1 n' fun i x => PT (f' i)] [] (AB (sameT n f n' f')) [] (VC.split (sameT n f n' f') (VC.call 35 [RL false m w h, SL false 1 m' (RR w' h')] [] (AB (sameR m w h m' w' h')) [] (VC.split (sameR m w h m' w' h') (VC.call 36 [SL false 1 k (MK r), SL false 1 k' (MK r')] [] (AB (sameM k r k' r')) [] (VC.doneP (AB (sameM k r k' r')))) (VC.doneP (AB false)))) (VC.doneP (AB false))) := by intros; kernel_rfl
theorem c_sPd (n : Nat) (f : Nat → ByteArray) (m : Nat) (w : Nat → Nat) (h : Nat → Nat → Int) (k : Nat) (r : Nat → Bool) (n' : Nat) (f' : Nat → ByteArray) (m' : Nat) (w' : Nat → Nat) (h' : Nat → Nat → Int) (k' : Nat) (r' : Nat → Bool) (ok : PdOk n f m w k) : PRet Tryz.prog G0 7 [PD false false false n f m w h k r, PD false false false n' f' m' w' h' k' r'] (AB (sameT n f n' f' && (sameR m w h m' w' h' && sameM k r k' r'))) := by
  refine PRet.by chk7 (ev_sPd n f m w h k r n' f' m' w' h' k' r') ?_
  simp only [vcA]
  refine ⟨c_sTx _ _ _ _ _ _ ok.ta.hn, fun e => ⟨c_sRw _ _ _ _ _ _ _ _ ok.ta.hm ok.ta.hw, fun e2 => ⟨c_sMK _ _ _ _ _ _ ok.hk, ?_⟩, fun e2 => ?_⟩, fun e => ?_⟩
  · simp [e, e2]
  · simp [e, e2]
  · simp [e]
theorem c_reK (n : Nat) (f : Nat → ByteArray) (m : Nat) (w : Nat → Nat) (h : Nat → Nat → Int) (k : Nat) (r : Nat → Bool) (hk : k ≤ 1048576) : PRet Tryz.prog G0 39 [PD false false false n f m w h k r] (AI (cntB r k)) := c_re n f m w h k r hk
theorem ev_tkR : ∀ (n : Nat) (f : Nat → ByteArray) (m : Nat) (w : Nat → Nat) (h : Nat → Nat → Int) (k : Nat) (r : Nat → Bool), ev G0 res10 [] 3000 (Or.call [] (AB (padB n f m w h k r)) [] (Or.nil.lit.lit.lit.lit.split (Or.call [] (AI (↑(cntB r k) : Int)) [] (Or.nil.split (Or.call [] (.own 0) [(0, .row .u false 1 n (TR f) [])] Or.nil)).lit.lit).lit)) [.ir ir10] (start [PD false false false n f m w h k r] []) = VC.call 13 [AV.ag [TL false n f, RL false m w h, SL false 1 k (MK r)]] [] (AB (padB n f m w h k r)) [] (VC.split (!padB n f m w h k r) (VC.done (St.mk [(0, AV.ag [TL false n f, RL false m w h, SL false 1 k (MK r)]), (1, .adr 1 0), (2, .adr 2 0), (3, AB false), (14, AB true)] [(1, .box [TL false n f, RL false m w h, SL false 1 k (MK r)]), (2, .box [nilT, nilT])])) (VC.call 39 [AV.ag [TL false n f, RL false m w h, SL false 1 k (MK r)]] [] (AI (↑(cntB r k) : Int)) [] (VC.split (decide (16 < (↑(cntB r k) : Int))) (VC.done (St.mk [(0, AV.ag [TL false n f, RL false m w h, SL false 1 k (MK r)]), (1, .adr 1 0), (2, .adr 2 0), (3, AB false), (14, AB (decide (16 < (↑(cntB r k) : Int))))] [(1, .box [TL false n f, RL false m w h, SL false 1 k (MK r)]), (2, .box [nilT, nilT])])) (VC.call 40 [TL false n f] [] (.own 0) [(0, .row .u false 1 n (TR f) [])] (VC.loop ir10_L1 [.bend 0, .ir ir10_T2] (St.mk [(0, AV.ag [TL false n f, RL false m w h, SL false 1 k (MK r)]), (1, .adr 1 0), (2, .adr 2 0), (3, AB false), (14, AB (decide (16 < (↑(cntB r k) : Int)))), (4, .adr 4 0), (21, RL false m w h), (22, AI ↑m), (23, AI 0)] [(1, .box [TL false n f, RL false m w h, SL false 1 k (MK r)]), (2, .box [nilT, nilT]), (1018, .row .u false 1 n (TR f) []), (4, .box [.own 1018, nilT])])))))) := by intros; kernel_rfl
abbrev LL := List (List Int)
theorem getL_app {S : LL} {x : List Int} {i : Nat} : (S ++ [x]).getD i [] = if i < S.length then S.getD i [] else if i = S.length then x else [] := by
  by_cases h : i < S.length
  · simp only [h, if_true, List.getD_eq_getElem?_getD, List.getElem?_append_left h]
  · by_cases h2 : i = S.length
    · subst h2; simp [List.getD_eq_getElem?_getD]
    · simp only [h, h2, if_false, List.getD_eq_getElem?_getD]
      rw [List.getElem?_eq_none (by (try simp); omega)]
      rfl
theorem RL_app {S : LL} {x : List Int} {l : Nat} {nn : Bool} {g g' : Nat → Nat → PV} {i : Nat} (hi : i < S.length + 1) (hl : x.length = l) (hg : ∀ j, j < l → PV.Le (g j 0) (PI (x.getD j 0))) : PV.Le (if i < S.length then RR (wL S) (hL S) i 0 else setG [(0, 0, .sl nn 1 l g)] g' (i - S.length) 0) (RR (wL (S ++ [x])) (hL (S ++ [x])) i 0) := by
  by_cases e : i < S.length
  · simp only [e, if_true]
    exact RR_le (by simp only [wL, getL_app, e, if_true]) fun j hj => by simp only [hL, getL_app, e, if_true]
  · have e2 : i = S.length := by omega
    subst e2
    simp only [Nat.lt_irrefl, if_false, Nat.sub_self, setG, cellSet, and_self, if_true]
    refine .sl _ _ (fun e => (by cases e)) 1 _ _ _ _ ?_ fun j k hj hk => ?_
    · simp only [wL, getL_app, Nat.lt_irrefl, if_false, if_true, hl]
    · obtain rfl : k = 0 := by omega
      simp only [hL, getL_app, Nat.lt_irrefl, if_false, if_true]
      exact hg j hj
def reL (T : LI) : LL := (T.filter fun x => x.1).map fun x => x.2
theorem itL_succ {m : Nat} {w : Nat → Nat} {h : Nat → Nat → Int} {r : Nat → Bool} : itL (m + 1) w h r = itL m w h r ++ [itm w h r m] := by simp [itL, List.range_succ]
theorem reL_succ {m : Nat} {w : Nat → Nat} {h : Nat → Nat → Int} {r : Nat → Bool} : reL (itL (m + 1) w h r) = reL (itL m w h r) ++ (if r m then [rowL (w m) (h m) 0] else []) := by
  rw [itL_succ]
  cases e : r m <;> simp [reL, List.filter_append, itm, e]
theorem reL_len {w : Nat → Nat} {h : Nat → Nat → Int} {r : Nat → Bool} : ∀ m, (reL (itL m w h r)).length = cntB r m
  | 0 => rfl
  | m + 1 => by
    rw [reL_succ, List.length_append, reL_len m]
    cases e : r m <;> simp [cntB, e]
def st_tkR (n : Nat) (f : Nat → ByteArray) (m : Nat) (w : Nat → Nat) (h : Nat → Nat → Int) (r : Nat → Bool) (x : Nat × LL) : St := ⟨[(1, .adr 1 0), (2, .adr 2 0), (4, .adr 4 0), (21, RL false m w h), (22, AI m), (23, AI x.1)], [(1, .box [TL false n f, RL false m w h, ML false m r]), (2, .box [nilT, nilT]), (1018, .row .u false 1 n (TR f) []), (77777, .row .u false 1 x.2.length (RR (wL x.2) (hL x.2)) []), (4, .box [.own 1018, .own 77777])]⟩
theorem evr_tkR : ∀ (n : Nat) (f : Nat → ByteArray) (m : Nat) (w : Nat → Nat) (h : Nat → Nat → Int) (r : Nat → Bool) (I : Nat × LL → St → Prop) (x : Nat × LL), ev G0 res10 [] 3000 (((Or.call [] (.own 0) [(0, .row .u false 1 (w x.1) (fun i x_1 => PI (h x.1 i)) [])] Or.nil).split Or.nil).split Or.nil) [.ir ir10_L1, .lend (I x), .bend 0, .ir ir10_T2] (st_tkR n f m w h r x) = VC.split (decide ((↑x.1 : Int) < ↑m)) (VC.need (0 ≤ (↑x.1 : Int) ∧ x.1 < m) (VC.need (0 ≤ (↑x.1 : Int) ∧ x.1 < m) (VC.split (r x.1) (VC.call 22 [SL false 1 (w x.1) fun j x_1 => PI (h x.1 j)] [] (.own 0) [(0, .row .u false 1 (w x.1) (fun i x_1 => PI (h x.1 i)) [])] (VC.need (((x.2.length + 1) * 24 ≤ 140737488355328 ∧ (↑(x.2.length + 1) : Int) ≤ 9223372036854775807) ∧ allOne 1 1 (setG [(0, 0, PV.sl false 1 (w x.1) fun i x_1 => PI (h x.1 i))] fun x_1 j => PV.v ([Value.slice none 0 0].getD j undef))) (VC.lend (I x) (St.mk [(1, .adr 1 0), (2, .adr 2 0), (4, .adr 4 0), (21, RL false m w h), (22, AI ↑m), (23, AI (IntKind.i64.wrap ((↑x.1 : Int) + 1))), (24, AB (decide ((↑x.1 : Int) < ↑m))), (5, AI ↑x.1), (6, SL false 1 (w x.1) fun j x_1 => PI (h x.1 j)), (32, AB (r x.1))] [(1, .box [TL false n f, RL false m w h, SL false 1 m (MK r)]), (2, .box [nilT, nilT]), (1018, .row .u false 1 n (TR f) []), (4, .box [.own 1018, .own 38]), (38, .row .u false 1 (x.2.length + 1) (fun a b => if a < x.2.length then RR (wL x.2) (hL x.2) a b else setG [(0, 0, PV.sl false 1 (w x.1) fun i x_1 => PI (h x.1 i))] (fun x_1 j => PV.v ([Value.slice none 0 0].getD j undef)) (a - x.2.length) b) [])])))) (VC.lend (I x) (St.mk [(1, .adr 1 0), (2, .adr 2 0), (4, .adr 4 0), (21, RL false m w h), (22, AI ↑m), (23, AI (IntKind.i64.wrap ((↑x.1 : Int) + 1))), (24, AB (decide ((↑x.1 : Int) < ↑m))), (5, AI ↑x.1), (6, SL false 1 (w x.1) fun j x_1 => PI (h x.1 j)), (32, AB (r x.1))] [(1, .box [TL false n f, RL false m w h, SL false 1 m (MK r)]), (2, .box [nilT, nilT]), (1018, .row .u false 1 n (TR f) []), (77777, .row .u false 1 (x.2.length) (RR (wL x.2) (hL x.2)) []), (4, .box [.own 1018, .own 77777])]))))) (VC.done (St.mk [(1, .adr 1 0), (2, .adr 2 0), (4, .adr 4 0), (21, RL false m w h), (22, AI ↑m), (23, AI ↑x.1), (24, AB (decide ((↑x.1 : Int) < ↑m))), (3, AB true)] [(1, .box [TL false n f, RL false m w h, SL false 1 m (MK r)]), (2, .box [.own 1018, .own 77777]), (1018, .row .u false 1 n (TR f) []), (77777, .row .u false 1 (x.2.length) (RR (wL x.2) (hL x.2)) []), (4, .box [.own 1018, .own 77777])])) := by intros; kernel_rfl
def tkB (n : Nat) (f : Nat → ByteArray) (m : Nat) (w : Nat → Nat) (h : Nat → Nat → Int) (k : Nat) (r : Nat → Bool) : Bool := padB n f m w h k r && decide (cntB r k ≤ 16)
def tkN (n : Nat) (f : Nat → ByteArray) (m : Nat) (w : Nat → Nat) (h : Nat → Nat → Int) (k : Nat) (r : Nat → Bool) : Nat := if tkB n f m w h k r then n else 0
def tkS (n : Nat) (f : Nat → ByteArray) (m : Nat) (w : Nat → Nat) (h : Nat → Nat → Int) (k : Nat) (r : Nat → Bool) : LL := if tkB n f m w h k r then reL (itL m w h r) else []
abbrev tkR (b : Bool) : AV := .tp [taR, AB b]
abbrev tkH (n : Nat) (f : Nat → ByteArray) (S : LL) : List (Nat × Ob) := taH n f S.length (wL S) (hL S)
theorem c_tkR (n : Nat) (f : Nat → ByteArray) (m : Nat) (w : Nat → Nat) (h : Nat → Nat → Int) (k : Nat) (r : Nat → Bool) (ok : PdOk n f m w k) : PObj Tryz.prog G0 10 [PD false false false n f m w h k r] [] (tkR (tkB n f m w h k r)) (tkH (tkN n f m w h k r) f (tkS n f m w h k r)) := by
  have hn := ok.ta.hn
  have hsv : ∀ b : Bool, tkB n f m w h k r = b → (tkR (tkB n f m w h k r) = tkR b ∧ tkH (tkN n f m w h k r) f (tkS n f m w h k r) = tkH (if b then n else 0) f (if b then reL (itL m w h r) else [])) := fun b e => by
    subst e; exact ⟨rfl, rfl⟩
  refine PObj.by chk10 rfl (ev_tkR n f m w h k r) ?_
  simp only [vcA]
  refine ⟨c_pvK _ _ _ _ _ _ _ ok, fun h1 => ?_, fun h1 => ⟨c_reK _ _ _ _ _ _ _ ok.hk, fun h2 => ?_, fun h2 => ⟨c_clT _ _ hn, ?_⟩⟩⟩
  · have hp : padB n f m w h k r = false := by simpa using h1
    have e : tkB n f m w h k r = false := by simp [tkB, hp]
    rw [(hsv _ e).1, (hsv _ e).2]
    refine ResOk.mk [] [] [0, 1] _ _ ?_ ⟨rfl, rfl⟩
    simp [doneC, resOf, resAV, tup, pinR, PV.Le_self, leA, res10, AV.leCs]
  · have e : tkB n f m w h k r = false := by
      have : ¬ cntB r k ≤ 16 := by omega
      simp [tkB, this]
    rw [(hsv _ e).1, (hsv _ e).2]
    refine ResOk.mk [] [] [0, 1] _ _ ?_ ⟨rfl, rfl⟩
    simp [doneC, resOf, resAV, tup, pinR, PV.Le_self, leA, res10, AV.leCs]
  · have hp : padB n f m w h k r = true := by simpa using h1
    have hh := pad_parts hp
    obtain rfl : k = m := hh.2.2.1
    have e : tkB n f k w h k r = true := by
      have : cntB r k ≤ 16 := by omega
      simp [tkB, hp, this]
    rw [(hsv _ e).1, (hsv _ e).2]
    have hm := ok.hk
    refine loop_by (st_tkR n f k w h r) (fun x => x.1 ≤ k ∧ x.2 = reL (itL x.1 w h r)) (fun x => k - x.1) (0, []) [] [] [77777] ⟨Nat.zero_le _, rfl⟩ ?_ (evr_tkR n f k w h r) fun x hx => ?_
    · simp [st_tkR, leA, PV.Le_self, AV.leCs]
    · obtain ⟨q, S⟩ := x
      obtain ⟨hq, hS⟩ := hx
      simp only [] at hq hS
      have hl : S.length ≤ q := by rw [hS, reL_len]; exact cntB_le r q
      have e1 : IntKind.i64.wrap ((q : Int) + 1) = ((q + 1 : Nat) : Int) := wrap_in (by omega) (by omega)
      simp only [vcA, Int.toNat_natCast]
      refine ⟨fun h3 => ⟨by omega, by omega, fun h4 => ⟨c_clI _ _ (ok.ta.hw q (by omega)), ⟨⟨by omega, by omega⟩, allOne1 rfl⟩, Again.mk (q + 1, S ++ [rowL (w q) (h q) 0]) [] [(77777, 38)] [] ⟨by simp only []; omega, ?_⟩ (by simp only []; omega) ?_⟩, fun h4 => Again.mk (q + 1, S) [] [] [] ⟨by simp only []; omega, ?_⟩ (by simp only []; omega) ?_⟩, fun h3 => ?_⟩
      · simp only [reL_succ, h4, if_true, hS]
      · have el : (S ++ [rowL (w q) (h q) 0]).length = S.length + 1 := by simp
        simp [st_tkR, leA, PV.Le_self, AV.leCs, e1]
        exact fun i hi => RL_app hi rowL_len fun j hj => by rw [rowL_get hj]; exact .refl _
      · simp only [reL_succ, h4, hS]; simp
      · simp [st_tkR, leA, PV.Le_self, AV.leCs, e1]
      · have : q = k := by omega
        subst this
        subst hS
        refine ResOk.mk [] [(0, 1018), (1, 77777)] [] _ _ ?_ ⟨rfl, rfl⟩
        simp [doneC, resOf, resAV, tup, pinR, PV.Le_self, leA, res10, AV.leCs]
end Go.Gw
