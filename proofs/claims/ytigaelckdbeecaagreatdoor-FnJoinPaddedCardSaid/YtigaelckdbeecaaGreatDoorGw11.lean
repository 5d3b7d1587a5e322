/- Slice literals, stores into variables and rows; with no condition. -/
import Derived.Test.YtigaelckdbeecaaGreatDoorGw9
namespace Go.Gw
open Go
set_option linter.unusedVariables false
set_option linter.unusedSimpArgs false
theorem row_pos {a b k e : Nat} (he : 0 < e) (hb : b < e) : (k * e ≤ a * e + b ∧ a * e + b < k * e + e) ↔ a = k := by
  constructor
  · rintro ⟨h1, h2⟩
    rcases Nat.lt_trichotomy a k with h | h | h
    · have : a * e + e ≤ k * e := by rw [← Nat.succ_mul]; exact Nat.mul_le_mul_right _ h
      omega
    · exact h
    · have : k * e + e ≤ a * e := by rw [← Nat.succ_mul]; exact Nat.mul_le_mul_right _ h
      omega
  · rintro rfl; omega
section
variable {P : Program} {cx : Cx} {ι : Nat → Value} {ow : Nat → Option Nat} {s : St} {a : Act} {w : World} {d : Nat}
theorem fillSl_spec (hm : Models cx ι ow s a w) {esz len : Nat} {M : Mode} {E : Nat → Nat → PV → Value → Prop} {mvAll : List (Nat × (Nat × Nat))} (h0 : 0 < esz)
    (hcell : ∀ (k : Nat) (c : AV) (v : Value) (m : Mode) (x : PV) (dd : List Nat) (j : Nat), RepA (zF cx ow) (zZ cx ow) ι w c v → c.pc s.obj = some (m, x, dd) → M.le m → (∀ i ∈ dd, (i, (k, j)) ∈ mvAll) → E k j x v) :
    ∀ (ps : List (Nat × AV)) (parts : List (Nat × Value)) (g : Nat → Nat → PV) (arr : Array Value) (m : Mode) (xs : List (Nat × Nat × PV)) (mv : List (Nat × (Nat × Nat))), ps.length = parts.length →
      (∀ (j : Nat) (p : Nat × AV) (q : Nat × Value), ps[j]? = some p → parts[j]? = some q → p.1 = q.1 ∧ p.1 < len ∧ RepA (zF cx ow) (zZ cx ow) ι w p.2 q.2 ∧ p.2.cells.length = esz) →
      arr.size = len * esz → pcl s.obj (ps.flatMap fun x => posn x.1 0 x.2.cells) = some (m, xs, mv) → M.le m → (∀ y ∈ mv, y ∈ mvAll) →
      (∀ a b, a < len → b < esz → E a b (g a b) (arr.getD (a * esz + b) undef)) →
      ∃ arr', Instr.fill (fun i => some (i * esz, esz)) arr parts = some arr' ∧ arr'.size = len * esz ∧ ∀ a b, a < len → b < esz → E a b (setG xs g a b) (arr'.getD (a * esz + b) undef)
  | [], [], g, arr, m, xs, mv, _, _, hs, hp, _, _, hb => by
    simp only [List.flatMap_nil, pcl, Option.some.injEq, Prod.mk.injEq] at hp
    obtain ⟨rfl, rfl, rfl⟩ := hp
    exact ⟨arr, rfl, hs, hb⟩
  | (k, c) :: ps, (k', v) :: parts, g, arr, m, xs, mv, hl, hall, hs, hp, hM, hmv, hb => by
    obtain ⟨h1, h2, h3, h4⟩ := hall 0 _ _ rfl rfl
    simp only at h1 h2 h3 h4
    subst h1
    simp only [List.flatMap_cons] at hp
    have hone : (c.cells.all fun e => e.one s.obj) = true := by
      rw [List.all_eq_true]
      intro e he
      obtain ⟨j, hj⟩ := posn_mem (k := k) (off := 0) he
      exact pcl_one hp _ (List.mem_append_left _ hj)
    obtain ⟨m1, xs1, mv1, m2, xs2, mv2, e1, e2, e3, e4, rfl, rfl⟩ := pcl_append _ _ hp
    obtain ⟨h5, h6, h7⟩ := cells_rep hm h3 hone
    have hvs : v.cells.size = esz := h5.trans h4
    have hroom : k * esz + esz ≤ len * esz := by rw [← Nat.succ_mul]; exact Nat.mul_le_mul_right _ h2
    have hlay := layAt_spec (cells := arr) (off := k * esz) (v := v) (by rw [hvs, hs]; exact hroom)
    have hset := posn_set (M := M) (E := fun a b c v => a < len → b < esz → E a b c v) (k := k) (mvAll := mvAll) (fun _ => True) (fun c v m x dd j _ r1 r2 r3 r4 _ _ => hcell k c v m x dd j r1 r2 r3 r4) c.cells 0 (fun j => v.cells.getD j undef) m1 xs1 mv1 g (fun a b => arr.getD (a * esz + b) undef)
      (fun j c hj => h7 j c hj) e1 (Mode.le_trans hM e3) (fun y hy => hmv y (List.mem_append_left _ hy)) (fun a b => .inr (hb a b)) (fun _ _ _ => trivial)
    obtain ⟨arr', r1, r2, r3⟩ := fillSl_spec hm h0 hcell ps parts (setG xs1 g) (layAt arr (k * esz) v) m2 xs2 mv2 (by simpa using hl) (fun j p q hp hq => hall (j + 1) p q (by simpa using hp) (by simpa using hq)) (hlay.1.trans hs) e2 (Mode.le_trans hM e4)
      (fun y hy => hmv y (List.mem_append_right _ hy)) (fun a b ha hb' => by
        have := hset a b ha hb'
        rw [hlay.2, hvs]
        rw [h4] at this
        by_cases hak : a = k
        · subst hak
          rw [if_pos ((row_pos h0 hb').2 rfl)]
          rw [if_pos ⟨rfl, Nat.zero_le _, by omega⟩] at this
          rw [show a * esz + b - a * esz = b - 0 by omega]
          exact this
        · rw [if_neg (fun e => hak ((row_pos h0 hb').1 e))]
          rw [if_neg (fun e => hak e.1)] at this
          exact this)
    refine ⟨arr', ?_, r2, fun a b ha hb' => by rw [setG_append]; exact r3 a b ha hb'⟩
    rw [fill_cons (off := k * esz) (n := esz) rfl hvs (by rw [hs]; exact hroom)]
    exact r1
def qNew (ow : Nat → Option Nat) (B : Nat) (mv : List (Nat × (Nat × Nat))) (b : Nat) : Option (Nat × Nat) :=
  if b = B then none else match ow b with
    | some i => posOf mv i
    | none => none
theorem setG_ord : ∀ (xs : List (Nat × Nat × PV)) (i0 : Nat) (l : List Int) (g : Nat → Nat → PV) (p : Nat), ordI i0 xs = some l → setG xs g p 0 = if i0 ≤ p ∧ p < i0 + l.length then .v (.int .i64 (l.getD (p - i0) 0)) else g p 0
  | [], i0, l, g, p, h => by
    simp only [ordI, Option.some.injEq] at h
    subst h
    have : ¬ (i0 ≤ p ∧ p < i0 + ([] : List Int).length) := by simp
    rw [if_neg this]
    rfl
  | (k, j, x) :: r, i0, l, g, p, h => by
    simp only [ordI] at h
    split at h
    · rename_i n
      split at h
      · rename_i hk
        simp only [Bool.and_eq_true] at hk
        obtain rfl := Nat.eq_of_beq_eq_true hk.1
        obtain rfl := Nat.eq_of_beq_eq_true hk.2
        simp only [Option.map_eq_some_iff] at h
        obtain ⟨l', h, rfl⟩ := h
        simp only [setG]
        rw [setG_ord r (k + 1) l' _ p h]
        by_cases h1 : k + 1 ≤ p ∧ p < k + 1 + l'.length
        · rw [if_pos h1, if_pos (by simp only [List.length_cons]; omega)]
          obtain ⟨m, hm⟩ : ∃ m, p - k = m + 1 := ⟨p - k - 1, by omega⟩
          rw [hm, show p - (k + 1) = m by omega]
          rfl
        · rw [if_neg h1]
          by_cases h2 : p = k
          · subst h2
            rw [if_pos (by simp only [List.length_cons]; omega)]
            simp [cellSet]
          · rw [if_neg (by simp only [List.length_cons]; omega)]
            simp [cellSet, h2]
      · cases h
    · cases h
theorem setG_ordS : ∀ (xs : List (Nat × Nat × PV)) (i0 : Nat) (l : List ByteArray) (g : Nat → Nat → PV) (p : Nat), ordS i0 xs = some l → setG xs g p 0 = if i0 ≤ p ∧ p < i0 + l.length then .v (.string (l.getD (p - i0) ByteArray.empty)) else g p 0
  | [], i0, l, g, p, h => by
    simp only [ordS, Option.some.injEq] at h
    subst h
    have : ¬ (i0 ≤ p ∧ p < i0 + ([] : List ByteArray).length) := by simp
    rw [if_neg this]
    rfl
  | (k, j, x) :: r, i0, l, g, p, h => by
    simp only [ordS] at h
    split at h
    · rename_i n
      split at h
      · rename_i hk
        simp only [Bool.and_eq_true] at hk
        obtain rfl := Nat.eq_of_beq_eq_true hk.1
        obtain rfl := Nat.eq_of_beq_eq_true hk.2
        simp only [Option.map_eq_some_iff] at h
        obtain ⟨l', h, rfl⟩ := h
        simp only [setG]
        rw [setG_ordS r (k + 1) l' _ p h]
        by_cases h1 : k + 1 ≤ p ∧ p < k + 1 + l'.length
        · rw [if_pos h1, if_pos (by simp only [List.length_cons]; omega)]
          obtain ⟨m, hm⟩ : ∃ m, p - k = m + 1 := ⟨p - k - 1, by omega⟩
          rw [hm, show p - (k + 1) = m by omega]
          rfl
        · rw [if_neg h1]
          by_cases h2 : p = k
          · subst h2
            rw [if_pos (by simp only [List.length_cons]; omega)]
            simp [cellSet]
          · rw [if_neg (by simp only [List.length_cons]; omega)]
            simp [cellSet, h2]
      · cases h
    · cases h
theorem mkG_eq {esz len : Nat} {xs : List (Nat × Nat × PV)} {zero : List Value} {p q : Nat} (hp : p < len) (hq : q < esz) : mkG esz len xs zero p q = setG xs (fun _ j => .v (zero.getD j undef)) p q := by
  unfold mkG
  cases h1 : (Nat.blt 1 len && Nat.beq esz 1) with
  | false => rfl
  | true =>
    cases hl : ordI 0 xs with
    | none =>
      cases hs : ordS 0 xs with
      | none => simp only []
      | some l =>
        cases h2 : Nat.beq l.length len with
        | false => simp only [h2]
        | true =>
          simp only [h2]
          simp only [Bool.and_eq_true] at h1
          have h3 := Nat.eq_of_beq_eq_true h1.2
          have h4 := Nat.eq_of_beq_eq_true h2
          have e : q = 0 := by omega
          subst e
          rw [setG_ordS xs 0 l _ p hs, if_pos (by omega)]
          rfl
    | some l =>
      cases h2 : Nat.beq l.length len with
      | false => simp only [h2]
      | true =>
        simp only [h2]
        simp only [Bool.and_eq_true] at h1
        have h3 := Nat.eq_of_beq_eq_true h1.2
        have h4 := Nat.eq_of_beq_eq_true h2
        have e : q = 0 := by omega
        subst e
        rw [setG_ord xs 0 l _ p hl, if_pos (by omega)]
        rfl
theorem sound_mkSl {t e : TypeId} {len : Nat} {ie : TypeInfo} {z : Value} {parts : Array (Nat × Operand)}
    (hu : P.underlying t = some (.slice e)) (hie : P.info? e = some ie) (hz : ie.zero = some z) : Sound P cx (.buildSlice t len parts) (.mkSl ie.size len z.cells.toList parts.toList) := by
  intro det ι ow s a w d K hm h hfr o ho next Q hnx
  simp only [IOp.opds, res] at h
  split at h
  · rename_i m xs mv hpcl
    simp only [Cnd.holds, Bool.and_eq_true, decide_eq_true_eq, List.all_eq_true, Bool.not_eq_true', List.contains_eq_mem, decide_eq_false_iff_not] at h
    obtain ⟨⟨⟨⟨⟨hA, hcl⟩, hlt⟩, hnd⟩, hdd⟩, _, h⟩ := h
    obtain ⟨h0, h24, hzl, hpl⟩ := of_decide_eq_true hA
    have hd := hfr d (by simp [IOp.fresh])
    have hzl : z.cells.size = ie.size := by simpa using hzl
    let dead := mv.map Prod.fst
    let B := w.heap.size
    let base : Array Value := (Array.range (len * ie.size)).map (z.cells[· % z.cells.size]!)
    have hbs : base.size = len * ie.size := by simp [base]
    have hbase : ∀ p q, p < len → q < ie.size → base.getD (p * ie.size + q) undef = z.cells.getD q undef := fun p q hp hq => by
      have hlt := idx_lt hp hq
      have e1 : base.getD (p * ie.size + q) undef = z.cells[(p * ie.size + q) % z.cells.size]! := by
        simp [base, Array.getD_eq_getD_getElem?, hlt]
      rw [e1, hzl]
      have e2 : (p * ie.size + q) % ie.size = q := by rw [Nat.add_comm, Nat.add_mul_mod_self_right]; exact Nat.mod_eq_of_lt hq
      rw [e2]
      have : q < z.cells.size := by omega
      simp [Array.getD_eq_getD_getElem?, this]
    -- all at once, behind the allocation
    have go : ∀ (w' : World), Grows w w' → (∀ b, zF cx ow b → b < w.heap.size → w'.heap[b]? = w.heap[b]? ∧ zF cx (owNew ow B d dead m) b) → (∀ b, zZ cx ow b → b < w.heap.size → w'.heap[b]? = w.heap[b]? ∧ zZ cx (owNew ow B d dead m) b) →
        ∀ ι', ∃ arr', Instr.fill (fun i => some (i * ie.size, ie.size)) base (parts.toList.map fun p => (p.1, a.eval p.2)) = some arr' ∧ arr'.size = len * ie.size ∧
          ∀ p q, p < len → q < ie.size → EltOk m (zF cx (owNew ow B d dead m)) (zZ cx (owNew ow B d dead m)) (fun b => owNew ow B d dead m b = some d) (qNew ow B mv) ι' [] w' p q (setG xs (fun _ j => .v (z.cells.toList.getD j undef)) p q) (arr'.getD (p * ie.size + q) undef) := by
      intro w' hg hF hZ ι'
      refine fillSl_spec hm h0 (M := m) (E := fun p q c v => EltOk m (zF cx (owNew ow B d dead m)) (zZ cx (owNew ow B d dead m)) (fun b => owNew ow B d dead m b = some d) (qNew ow B mv) ι' [] w' p q c v) (mvAll := mv)
        (fun k c v m1 x dd j r1 r2 r3 r4 => ?_) ((parts.toList.map Prod.fst).zip ((parts.toList.map fun p => p.2).map (opd cx.G s))) _ _ base m xs mv (by simp) (fun j p q hp hq => ?_) hbs hpcl (Mode.le_refl _) (fun y hy => hy) (fun p q hp hq => ?_)
      · refine pc_elt hm hF hZ r1 r2 r3 (fun i hi b hl hb => ⟨hg.same hl, fun hu => ⟨?_, ?_⟩, fun hu => ⟨?_, (hm.dom b i hb).2⟩⟩) rfl
        · have hne : b ≠ B := by omega
          have : i ∈ dead := List.mem_map.2 ⟨_, r4 i hi, rfl⟩
          simp [owNew, hne, hb, this, hu]
        · have hne : b ≠ B := by omega
          simp only [qNew, hb]
          rw [if_neg hne]
          exact posOf_mem hnd (r4 i hi)
        · have hne : b ≠ B := by omega
          have : i ∈ dead := List.mem_map.2 ⟨_, r4 i hi, rfl⟩
          simp [owNew, hne, hb, this, hu]
      · simp only [List.getElem?_map, Option.map_eq_some_iff] at hq
        obtain ⟨r, hr, rfl⟩ := hq
        rw [List.getElem?_zip_eq_some] at hp
        obtain ⟨hp1, hp2⟩ := hp
        simp only [List.getElem?_map, hr, Option.map_some, Option.some.injEq] at hp1 hp2
        refine ⟨hp1.symm, ?_, ?_, ?_⟩
        · rw [← hp1]; exact hlt r (List.mem_of_getElem? hr)
        · rw [← hp2]; exact eval_rep hm _
        · rw [← hp2]; exact hcl _ (List.mem_map.2 ⟨_, List.mem_map.2 ⟨r, List.mem_of_getElem? hr, rfl⟩, rfl⟩)
      · rw [hbase p q hp hq]
        have e : z.cells.toList.getD q undef = z.cells.getD q undef := by simp [List.getD, Array.getD_eq_getD_getElem?]
        rw [e]
        cases m with
        | z => exact RepP.v _
        | f => exact RepP.v _
        | u => simp only [EltOk, hole]; exact .v _ _
    obtain ⟨arr, hfill, harr, _⟩ := go (w.alloc (.cells #[] e)) (Grows.alloc w _) (fun b hb hl => ⟨(Grows.alloc w _).same hl, by
        have : b ≠ B := by omega
        simp [zF, owNew, this, hb.1, hb.2]⟩) (fun b hb hl => ⟨(Grows.alloc w _).same hl, by
        have : b ≠ B := by omega
        simp [zZ, owNew, this, hb.1, hb.2]⟩) ι
    have hrun : (execOp a.eval o).run P w = .ok (.value (.slice (some ⟨B, 0, none⟩) len len)) (w.alloc (.cells arr e)) := by
      have : (Instr.buildSlice t len (parts.map fun p => (p.1, a.eval p.2))).run P w = .ok (.slice (some ⟨B, 0, none⟩) len len) (w.alloc (.cells arr e)) := by
        by_cases hpos : len * ie.size = 0
        · have hz' : len = 0 := by
            rcases Nat.mul_eq_zero.1 hpos with h | h
            · exact h
            · omega
          subst hz'
          have hnil : parts = #[] := by
            rcases parts with ⟨l⟩
            cases l with
            | nil => rfl
            | cons p l => have := hlt p (by simp); omega
          subst hnil
          have : arr = #[] := by
            apply Array.eq_empty_of_size_eq_zero
            rw [harr]; omega
          subst this
          simp [Instr.buildSlice, run_underlying hu, sizeOf, typeInfo, hie, Instr.fill, newRow, B, Array.range_zero']
        · exact run_buildSlice w t e len _ arr ie z hu hie hz (by omega) hpos (by simpa [base] using hfill)
      simp [execOp, ho, this]
    unfold Oper.wp
    rw [hrun, Oper.upon_value]
    have hm' := hm.newObj (dead := dead) (M := m) hd (Grows.alloc w (.cells arr e)) (Nat.le_refl B) (.slice (some ⟨B, 0, none⟩) len len) (.row m true ie.size len (mkG ie.size len xs z.cells.toList) []) (fun hF hZ => by
      obtain ⟨arr', r1, r2, r3⟩ := go _ (Grows.alloc w (.cells arr e)) hF hZ (fun t => if t = d then .slice (some ⟨B, 0, none⟩) len len else ι t)
      have e1 : arr' = arr := by rw [hfill] at r1; cases r1; rfl
      subst e1
      exact .inr ⟨B, len, arr', e, qNew ow B mv, rfl, by simp [owNew], (by show (w.heap.push _)[w.heap.size]? = _; simp), Nat.le_refl _, by rw [harr]; exact Nat.le_refl _, by simp [qNew], fun p q hp hq => by rw [mkG_eq hp hq]; exact r3 p q hp hq⟩)
    refine hnx (fun t => if t = d then .slice (some ⟨B, 0, none⟩) len len else ι t) (owNew ow B d dead m) _ _ _ _ h ?_ ?_
    · rw [upd_delU]; exact hm'
    · have := RepA.own (F := zF cx (owNew ow B d dead m)) (Z := zZ cx (owNew ow B d dead m)) (ι := fun t => if t = d then .slice (some ⟨B, 0, none⟩) len len else ι t) (w := w.alloc (.cells arr e)) d
      simp only [if_true] at this
      exact this
  · exact h.elim
theorem run_store {t : TypeId} {n : Nat} (hn : (P.info? t).map (·.size) = some n) {b off : Nat} {cur : Array Value} {et : TypeId} {v : Value} (hs : v.cells.size = n)
    (hg : w.heap[b]? = some (.cells cur et (0, 0))) (hl : off + n ≤ cur.size) (h1 : ∀ u ∈ v.cells.toList, u.oneCell' = true) :
    (storeVar t ⟨b, off, none⟩ v).run P w = .ok () (w.setRow b (cur.toList.take off ++ v.cells.toList ++ cur.toList.drop (off + n)).toArray) := by
  have := run_storeCells_at (P := P) b off et v.cells.toList 0 cur w hg (by simp; omega) h1
  simp only [storeVar, Sem.run_bind, run_size hn, Result.andThen_ok, hs, ne_eq, not_true_eq_false, if_false]
  simp only [Nat.add_zero, Array.length_toList, hs] at this
  simpa using this
theorem setRow_facts {b : Nat} {cur new : Array Value} {et : TypeId} (hg : w.heap[b]? = some (.cells cur et (0, 0))) :
    (w.setRow b new).heap[b]? = some (.cells new et (0, 0)) ∧ (∀ k, k ≠ b → (w.setRow b new).heap[k]? = w.heap[k]?) ∧ (w.setRow b new).heap.size = w.heap.size ∧
    (w.setRow b new).os = w.os ∧ (w.setRow b new).tape = w.tape ∧ (w.setRow b new).output = w.output :=
  ⟨setRow_heap w b cur new et (0, 0) hg, fun k hk => setRow_other w b k new hk, size_setRow w b new, rfl, rfl, rfl⟩
theorem getD_splice (cur vs : List Value) (off k : Nat) (h : off + vs.length ≤ cur.length) :
    (cur.take off ++ vs ++ cur.drop (off + vs.length)).toArray.getD k undef = if off ≤ k ∧ k < off + vs.length then vs.getD (k - off) undef else cur.getD k undef := by
  have e1 : (cur.take off).length = off := by simp; omega
  have e2 : (cur.take off ++ vs).length = off + vs.length := by simp; omega
  simp only [Array.getD_eq_getD_getElem?, List.getElem?_toArray, List.getD]
  by_cases h1 : k < off
  · rw [List.append_assoc, List.getElem?_append_left (by omega), List.getElem?_take_of_lt h1, if_neg (by omega)]
  · by_cases h2 : k < off + vs.length
    · rw [List.append_assoc, List.getElem?_append_right (by omega), e1, List.getElem?_append_left (by omega), if_pos ⟨by omega, h2⟩]
    · rw [List.getElem?_append_right (by omega), e2, if_neg (by omega), List.getElem?_drop, show off + vs.length + (k - (off + vs.length)) = k by omega]
def owPut (ow : Nat → Option Nat) (i i' b0 : Nat) (dead : List Nat) (M : Mode) (b : Nat) : Option Nat := match ow b with
  | some t => if t ∈ dead then (if M = .u then some i' else none) else if t = i then (if M = .u ∨ b = b0 then some i' else none) else some t
  | none => none
theorem Models.putRow (hm : Models cx ι ow s a w) {i i' b0 : Nat} {o0 : Ob} (ho : s.obj i = some o0) (hb0 : ow b0 = some i) (hi' : i' = i ∨ s.noid i') {dead : List Nat} {M : Mode} {w' : World} (hid : i ∉ dead)
    (x : Value) (hx : i' = i → x = ι i) (hos : w'.os = w.os) (htape : w'.tape = w.tape) (hout : w'.output = w.output) (hdrawn : w.drawn ≤ w'.drawn) (hsize : w.heap.size ≤ w'.heap.size) (hsame : ∀ b, b < w.heap.size → b ≠ b0 → w'.heap[b]? = w.heap[b]?) (ob : Ob)
    (hob : (∀ b, zF cx ow b → b < w.heap.size → w'.heap[b]? = w.heap[b]? ∧ zF cx (owPut ow i i' b0 dead M) b) → (∀ b, zZ cx ow b → b < w.heap.size → w'.heap[b]? = w.heap[b]? ∧ zZ cx (owPut ow i i' b0 dead M) b) →
      (∀ j o, s.obj j = some o → ∀ k, o.noid k = false → (if k = i' then x else ι k) = ι k) →
      ObOk (zF cx (owPut ow i i' b0 dead M)) (zZ cx (owPut ow i i' b0 dead M)) (fun b => owPut ow i i' b0 dead M b = some i') (fun t => if t = i' then x else ι t) w' x ob) :
    Models cx (fun t => if t = i' then x else ι t) (owPut ow i i' b0 dead M) (((s.dels dead).delOb i).setOb i' ob) a w' := by
  refine hm.change (by show (s.dels dead).env = s.env; exact env_dels dead s) (fun t => ?_) (fun b hl hb => ⟨by simp [owPut, hb], hsame b hl (fun e => by rw [e, hb0] at hb; cases hb)⟩) (fun b t ht => ?_) hos htape hout hdrawn hsize fun t o ht => ?_
  · by_cases h : t = i'
    · rcases hi' with h' | h'
      · exact .inl (by subst h; simp [hx h', h'])
      · exact .inr (h ▸ h')
    · exact .inl (by simp [h])
  · unfold owPut at ht
    split at ht
    · rename_i t' ht'
      obtain ⟨h1, h2⟩ := hm.dom b t' ht'
      split at ht
      · split at ht
        · cases ht; exact ⟨by rw [St.obj_setOb, if_pos rfl]; rfl, h2⟩
        · cases ht
      · rename_i hnd
        split at ht
        · split at ht
          · cases ht; exact ⟨by rw [St.obj_setOb, if_pos rfl]; rfl, h2⟩
          · cases ht
        · rename_i hne
          cases ht
          refine ⟨?_, h2⟩
          rw [St.obj_setOb]
          split
          · rfl
          · rw [St.obj_delOb, if_neg (fun e => hne e.symm), obj_dels, if_neg hnd]; exact h1
    · cases ht
  · rw [St.obj_setOb] at ht
    split at ht
    · rename_i hit
      subst hit
      cases ht
      refine .inr fun hF hZ hno => ?_
      simp only [if_true]
      exact hob hF hZ hno
    · rename_i hit
      rw [St.obj_delOb] at ht
      split at ht
      · cases ht
      · rename_i hit2
        rw [obj_dels] at ht
        split at ht
        · cases ht
        · rename_i hnd
          refine .inl ⟨if_neg fun e => hit e.symm, ht, fun b hl hb => ⟨?_, hsame b hl fun e => ?_⟩⟩
          · simp only [owPut, hb]
            rw [if_neg hnd, if_neg (fun e => hit2 e.symm)]
          · rw [e, hb0] at hb
            cases hb
            exact hit2 rfl
end
end Go.Gw
namespace Go.Gw
open Go
set_option linter.unusedVariables false
set_option linter.unusedSimpArgs false
theorem hole_keep {f : Nat × Nat × Nat → Bool} {a b : Nat} : ∀ {hl : List (Nat × Nat × Nat)}, (∀ x ∈ hl, x.1 = a → x.2.1 = b → f x = true) → hole (hl.filter f) a b = hole hl a b
  | [], _ => rfl
  | (k, j, d) :: r, h => by
    have ih := hole_keep (f := f) (a := a) (b := b) (hl := r) fun x hx => h x (List.mem_cons_of_mem _ hx)
    simp only [List.filter_cons]
    split
    · simp only [hole, ih]
    · rename_i hf
      simp only [hole]
      rw [if_neg (fun e => hf (h (k, j, d) List.mem_cons_self e.1.symm e.2.symm)), ih]
theorem hole_gone {f : Nat × Nat × Nat → Bool} {a b : Nat} {hl : List (Nat × Nat × Nat)} (h : ∀ x ∈ hl, x.2.1 = b → f x = false) : hole (hl.filter f) a b = none := by
  cases hh : hole (hl.filter f) a b with
  | none => rfl
  | some d =>
    have := List.mem_filter.1 (hole_mem hh)
    have h2 := h _ this.1 rfl
    rw [h2] at this
    cases this.2
theorem hole_none {a b : Nat} {hl : List (Nat × Nat × Nat)} (h : ∀ x ∈ hl, ¬ (x.1 = a ∧ x.2.1 = b)) : hole hl a b = none := by
  cases hh : hole hl a b with
  | none => rfl
  | some d => exact (h _ (hole_mem hh) ⟨rfl, rfl⟩).elim
section
variable {P : Program} {cx : Cx} {ι : Nat → Value} {ow : Nat → Option Nat} {s : St} {a : Act} {w : World} {d : Nat}
theorem store_cells (hm : Models cx ι ow s a w) {i k off n b nl esz : Nat} {m m' : Mode} {g : Nat → Nat → PV} {hl : List (Nat × Nat × Nat)} {cur : Array Value} {q : Nat → Option (Nat × Nat)} {y : AV} {yv : Value} {xs : List (Nat × Nat × PV)} {mv : List (Nat × (Nat × Nat))}
    {w' : World} {ow' : Nat → Option Nat} {ι' : Nat → Value}
    (hw : ∀ b', b' ≠ b → w'.heap[b']? = w.heap[b']?) (hι' : ∀ k, ι' k = ι k) (hown : ow' = owPut ow i i b (mv.map Prod.fst) (m.min m'))
    (h0 : ow b = some i) (hq : q b = none) (hcur : k * esz + off + n ≤ cur.size) (hk : k < nl) (hle : off + n ≤ esz) (hlen : y.cells.length = n) (hvn : yv.cells.size = n)
    (h10 : ∀ j e, y.cells[j]? = some e → RepA (zF cx ow) (zZ cx ow) ι w e (yv.cells.getD j undef)) (hpcl : pcl s.obj (posn k off y.cells) = some (m', xs, mv))
    (hnd : nodupB (mv.map Prod.fst) = true) (hid : i ∉ mv.map Prod.fst) (hnil : m.min m' ≠ .u → hl = []) (hkh : ∀ z ∈ hl, off ≤ z.2.1 → z.2.1 < off + n → k = z.1)
    (h11 : ∀ p r, p < nl → r < esz → EltOk m (zF cx ow) (zZ cx ow) (fun b => ow b = some i) q ι hl w p r (g p r) (cur.getD (p * esz + r) undef))
    (hF : ∀ b, zF cx ow b → b < w.heap.size → w'.heap[b]? = w.heap[b]? ∧ zF cx ow' b) (hZ : ∀ b, zZ cx ow b → b < w.heap.size → w'.heap[b]? = w.heap[b]? ∧ zZ cx ow' b) {p r : Nat} (hp' : p < nl) (hr' : r < esz) :
    EltOk (m.min m') (zF cx ow') (zZ cx ow') (fun b => ow' b = some i) (fun b' => match ow b' with | some t => if t ∈ mv.map Prod.fst then posOf mv t else q b' | none => q b') ι'
      (hl.filter fun z => !(decide (off ≤ z.2.1) && decide (z.2.1 < off + n))) w' p r (setG xs g p r) ((cur.toList.take (k * esz + off) ++ yv.cells.toList ++ cur.toList.drop (k * esz + off + n)).toArray.getD (p * esz + r) undef) := by
  subst hown
  have hvl : yv.cells.toList.length = n := by simpa using hvn
  have hset := posn_set (cx := cx) (ι := ι) (ow := ow) (s := s) (w := w) (M := m.min m') (E := fun a' b' c v => a' < nl → b' < esz → EltOk (m.min m') (zF cx (owPut ow i i b (mv.map Prod.fst) (m.min m'))) (zZ cx (owPut ow i i b (mv.map Prod.fst) (m.min m')))
      (fun b1 => owPut ow i i b (mv.map Prod.fst) (m.min m') b1 = some i) (fun b' => match ow b' with | some t => if t ∈ mv.map Prod.fst then posOf mv t else q b' | none => q b') ι' (hl.filter fun z => !(decide (off ≤ z.2.1) && decide (z.2.1 < off + n))) w' a' b' c v) (k := k) (mvAll := mv)
    (fun j => off ≤ j ∧ j < off + n) (fun c v m1 x1 dd j hin r1 r2 r3 r4 hk' hj' => ?_) y.cells off (fun j => yv.cells.getD j undef) m' xs mv g (fun a' b' => cur.getD (a' * esz + b') undef) (fun j c hj => h10 j c hj) hpcl (Mode.min_le2 _ _) (fun z hz => hz) (fun a' b' => ?_) (fun b h1 h2 => ⟨h1, by omega⟩) p r hp' hr'
  · rw [show k * esz + off + n = k * esz + off + yv.cells.toList.length by rw [hvl], getD_splice _ _ _ _ (by rw [hvl]; simpa using hcur), hvl]
    have pos : (k * esz + off ≤ p * esz + r ∧ p * esz + r < k * esz + off + n) ↔ (p = k ∧ off ≤ r ∧ r < off + n) := by
      constructor
      · rintro ⟨g1, g2⟩
        have hpk := (row_pos (a := p) (b := r) (k := k) (by omega : 0 < esz) hr').1 ⟨by omega, by omega⟩
        subst hpk
        omega
      · rintro ⟨rfl, g1, g2⟩; omega
    rw [hlen] at hset
    by_cases hw : p = k ∧ off ≤ r ∧ r < off + n
    · rw [if_pos (pos.2 hw)]
      rw [if_pos hw] at hset
      obtain ⟨rfl, g1, g2⟩ := hw
      rw [show p * esz + r - (p * esz + off) = r - off by omega]
      rwa [show yv.cells.toList.getD (r - off) undef = yv.cells.getD (r - off) undef by simp [List.getD, Array.getD_eq_getD_getElem?]]
    · rw [if_neg (fun e => hw (pos.1 e))]
      rw [if_neg hw] at hset
      rwa [show cur.toList.getD (p * esz + r) undef = cur.getD (p * esz + r) undef by simp [List.getD, Array.getD_eq_getD_getElem?]]
  · refine pc_elt hm hF hZ r1 r2 r3 (fun j' hj' b' hl hb' => ?_) (hole_gone fun z hz hzj => by simp [hzj, hin.1, hin.2])
    have hdead : j' ∈ mv.map Prod.fst := List.mem_map.2 ⟨_, r4 j' hj', rfl⟩
    have hne : b' ≠ b := fun e => by rw [e, h0] at hb'; cases hb'; exact hid hdead
    refine ⟨hw b' hne, fun hu => ⟨?_, ?_⟩, fun hu => ⟨?_, (hm.dom b' j' hb').2⟩⟩
    · simp only [owPut, hb']
      rw [if_pos hdead, if_pos hu]
    · simp only [hb']
      rw [if_pos hdead]
      exact posOf_mem hnd (r4 j' hj')
    · simp only [owPut, hb']
      rw [if_pos hdead, if_neg hu]
  · by_cases hwr : a' = k ∧ off ≤ b' ∧ b' < off + y.cells.length
    · exact .inl hwr
    · refine .inr fun ha' hb' => ?_
      rw [hlen] at hwr
      refine EltOk.weak (Mode.min_le1 _ _) hnil hF hZ (fun _ h => zFZ h) (fun _ h => zFZ h) (fun b1 hb1 hqb hl1 => ?_) (fun d' _ => hι' d') (fun hu => ?_) (h11 a' b' ha' hb')
      · have hne : b1 ≠ b := fun e => by rw [e, hq] at hqb; cases hqb
        refine ⟨hw b1 hne, fun hu => ⟨?_, ?_⟩, fun hu => ⟨?_, (hm.dom b1 i hb1).2⟩⟩
        · simp only [owPut, hb1]
          rw [if_neg hid]; simp [hu]
        · simp only [hb1]
          rw [if_neg hid]; exact hqb
        · simp only [owPut, hb1]
          rw [if_neg hid]
          simp [hu, hne]
      · refine hole_keep fun z hz hza hzb => ?_
        by_cases hin : off ≤ z.2.1 ∧ z.2.1 < off + n
        · exact (hwr ⟨by rw [← hza]; exact (hkh z hz hin.1 hin.2).symm, by omega, by omega⟩).elim
        · simp; omega
theorem Models.storeRow (hm : Models cx ι ow s a w) {i k off n b nl esz cap : Nat} {m m' : Mode} {nn : Bool} {g : Nat → Nat → PV} {hl : List (Nat × Nat × Nat)} {cur : Array Value} {et : TypeId} {q : Nat → Option (Nat × Nat)} {y : AV} {yv : Value} {xs : List (Nat × Nat × PV)} {mv : List (Nat × (Nat × Nat))}
    (hob : s.obj i = some (.row m nn esz nl g hl)) (hbi : ι i = .slice (some ⟨b, 0, none⟩) nl cap) (h5 : w.heap[b]? = some (.cells cur et (0, 0))) (h0 : ow b = some i) (hq : q b = none) (h6 : nl ≤ cap) (h7 : cap * esz ≤ cur.size)
    (h11 : ∀ p r, p < nl → r < esz → EltOk m (zF cx ow) (zZ cx ow) (fun b => ow b = some i) q ι hl w p r (g p r) (cur.getD (p * esz + r) undef))
    (hk : k < nl) (hle : off + n ≤ esz) (hlen : y.cells.length = n) (hvn : yv.cells.size = n) (h10 : ∀ j e, y.cells[j]? = some e → RepA (zF cx ow) (zZ cx ow) ι w e (yv.cells.getD j undef)) (hpcl : pcl s.obj (posn k off y.cells) = some (m', xs, mv))
    (hnd : nodupB (mv.map Prod.fst) = true) (hid : i ∉ mv.map Prod.fst) (hnil : m.min m' ≠ .u → hl = []) (hkh : ∀ z ∈ hl, off ≤ z.2.1 → z.2.1 < off + n → k = z.1) (hcur : k * esz + off + n ≤ cur.size) :
    ∃ ι' ow', Models cx ι' ow' (s.upd (delU (mv.map Prod.fst) ++ [(i, some (.row (m.min m') nn esz nl (setG xs g) (hl.filter fun z => !(decide (off ≤ z.2.1) && decide (z.2.1 < off + n)))))])) a
      (w.setRow b (cur.toList.take (k * esz + off) ++ yv.cells.toList ++ cur.toList.drop (k * esz + off + n)).toArray) := by
  obtain ⟨f1, f2, f3, f4, f5, f6⟩ := setRow_facts (new := (cur.toList.take (k * esz + off) ++ yv.cells.toList ++ cur.toList.drop (k * esz + off + n)).toArray) h5
  have hvl : yv.cells.toList.length = n := by simpa using hvn
  refine ⟨fun t => if t = i then ι i else ι t, owPut ow i i b (mv.map Prod.fst) (m.min m'), ?_⟩
  have hm' := hm.putRow (i' := i) (M := m.min m') hob h0 (.inl rfl) (dead := mv.map Prod.fst) hid (ι i) (fun _ => rfl) f4 f5 f6 (Nat.le_refl _) (by rw [f3]; exact Nat.le_refl _) (fun b' hlt hne => f2 b' hne)
    (.row (m.min m') nn esz nl (setG xs g) (hl.filter fun z => !(decide (off ≤ z.2.1) && decide (z.2.1 < off + n)))) (by
      intro hF hZ hno
      refine .inr ⟨b, cap, _, et, fun b' => match ow b' with | some t => if t ∈ mv.map Prod.fst then posOf mv t else q b' | none => q b', hbi, ?_, f1, h6, ?_, ?_, fun p r hp' hr' => ?_⟩
      · simp only [owPut, h0]
        rw [if_neg hid]; simp
      · simp only [List.size_toArray, List.length_append, List.length_take, List.length_drop, Array.length_toList]
        simp only [Array.length_toList] at hvl
        omega
      · simp only [h0]
        rw [if_neg hid]; exact hq
      · exact store_cells hm (fun b' hne => f2 b' hne) (fun k => by split <;> simp_all) rfl h0 hq hcur hk hle hlen hvn h10 hpcl hnd hid hnil hkh h11 hF hZ hp' hr')
  refine hm'.same (fun t => ?_) fun t => ?_
  · rw [get_upd]
    have e : ((((s.dels (mv.map Prod.fst)).delOb i).setOb i (.row (m.min m') nn esz nl (setG xs g) (hl.filter fun z => !(decide (off ≤ z.2.1) && decide (z.2.1 < off + n))))).env) = s.env := env_dels _ s
    simp only [St.get, e]
  · rw [upd_delU]
    simp only [St.upd, St.obj_setOb, St.obj_delOb]
    split <;> rfl
theorem sound_store {t : TypeId} {n : Nat} {x y : Operand} (hn : (P.info? t).map (·.size) = some n) : Sound P cx (.store t x y) (.store n x y) := by
  intro det ι ow s a w d K hm h hfr o ho next Q hnx
  simp only [IOp.opds, List.map_cons, List.map_nil, res] at h
  have hx := eval_rep hm x
  have hy := eval_rep hm y
  split at h
  · rename_i i off yv hvs
    simp only [List.cons.injEq, and_true] at hvs
    obtain ⟨hxe, rfl⟩ := hvs
    split at h
    · rename_i cs hob
      simp only [Cnd.holds, Bool.and_eq_true] at h
      obtain ⟨⟨hA, hone⟩, _, h⟩ := h
      obtain ⟨hlen, hle⟩ := of_decide_eq_true hA
      rw [hxe] at hx
      generalize hev : a.eval x = xv at hx
      cases hx with
      | adr _ _ b hbi =>
        obtain ⟨b', cur, et, h4, h0, h5, h6, h7⟩ := hm.obs i _ hob
        rw [hbi] at h4
        simp only [Value.pointer.injEq, Option.some.injEq, Addr.mk.injEq] at h4
        obtain ⟨rfl, _⟩ := h4
        obtain ⟨h8, h9, h10⟩ := cells_rep hm hy hone
        have hvn : (a.eval y).cells.toList.length = n := by simpa using h8.trans hlen
        have hrun : (execOp a.eval o).run P w = .ok .skip (w.setRow b (cur.toList.take off ++ (a.eval y).cells.toList ++ cur.toList.drop (off + n)).toArray) := by
          have hst := run_store (P := P) (w := w) hn (h8.trans hlen) h5 (show off + n ≤ cur.size by omega) h9
          simp only [execOp, ho, hev, Instr.storeAt, Instr.sureAddr, Sem.run_bind, Sem.run_pure, Result.andThen_ok, hst]
        unfold Oper.wp
        rw [hrun, Oper.upon_skip]
        obtain ⟨f1, f2, f3, f4, f5, f6⟩ := setRow_facts (new := (cur.toList.take off ++ (a.eval y).cells.toList ++ cur.toList.drop (off + n)).toArray) h5
        have hm' := hm.putRow (i' := i) (M := .u) hob h0 (.inl rfl) (dead := []) (by simp) (ι i) (fun _ => rfl) f4 f5 f6 (Nat.le_refl _) (by rw [f3]; exact Nat.le_refl _) (fun b' hl hne => f2 b' hne) (.box (cs.take off ++ (opd cx.G s y).cells ++ cs.drop (off + n))) (fun hF hZ hno => by
          refine ⟨b, _, et, hbi, by simp [owPut, h0], f1, by simp; omega, fun j c hj => ?_⟩
          have hi : ∀ k, (if k = i then ι i else ι k) = ι k := fun k => by split <;> simp_all
          rw [show off + n = off + (a.eval y).cells.toList.length by rw [hvn], getD_splice _ _ _ _ (by rw [hvn]; simp; omega), hvn]
          have old : ∀ j c, cs[j]? = some c → RepA (zF cx (owPut ow i i b [] .u)) (zZ cx (owPut ow i i b [] .u)) (fun t => if t = i then ι i else ι t) _ c (cur.toList.getD j undef) := fun j c hj => by
            have := (h7 j c hj).mono hF hZ (fun k _ => hi k)
            rwa [show cur.toList.getD j undef = cur.getD j undef by simp [List.getD, Array.getD_eq_getD_getElem?]]
          by_cases h1 : j < off
          · rw [if_neg (by omega)]
            rw [List.append_assoc, List.getElem?_append_left (by simp; omega), List.getElem?_take_of_lt h1] at hj
            exact old j c hj
          · by_cases h2 : j < off + n
            · rw [if_pos ⟨by omega, h2⟩]
              rw [List.append_assoc, List.getElem?_append_right (by simp; omega), List.getElem?_append_left (by simp; omega)] at hj
              have : j - (cs.take off).length = j - off := by simp; omega
              rw [this] at hj
              have := (h10 _ c hj).mono hF hZ (fun k _ => hi k)
              rwa [show (a.eval y).cells.toList.getD (j - off) undef = (a.eval y).cells.getD (j - off) undef by simp [List.getD, Array.getD_eq_getD_getElem?]]
            · rw [if_neg (by omega)]
              rw [List.getElem?_append_right (by simp; omega), List.getElem?_drop] at hj
              have : off + n + (j - (cs.take off ++ (opd cx.G s y).cells).length) = j := by simp; omega
              rw [this] at hj
              exact old j c hj)
        refine hnx _ _ _ _ _ _ h (hm'.same (fun t => rfl) fun k => ?_) (rep_mkv _)
        simp only [St.upd, St.obj_setOb, St.obj_delOb, St.dels]
        split <;> rfl
    · exact h.elim
  · rename_i i esz k off yv hvs
    simp only [List.cons.injEq, and_true] at hvs
    obtain ⟨hxe, rfl⟩ := hvs
    split at h
    · rename_i m nn esz' n' g hl hob
      split at h
      · rename_i m' xs mv hpcl
        simp only [Cnd.holds, Bool.and_eq_true, Bool.not_eq_true', List.contains_eq_mem, decide_eq_false_iff_not] at h
        obtain ⟨⟨⟨⟨hA, hnd⟩, hid⟩, hM⟩, hp, h⟩ := h
        obtain ⟨rfl, hlen, hle⟩ := of_decide_eq_true hA
        have hall := andP_all hp
        have hk : k < n' := hall _ List.mem_cons_self
        have hkh : ∀ z ∈ hl, off ≤ z.2.1 → z.2.1 < off + n → k = z.1 := fun z hz h1 h2 => hall _ (List.mem_cons_of_mem _ (List.mem_map.2 ⟨z, List.mem_filter.2 ⟨hz, by simp [h1, h2]⟩, rfl⟩))
        have hnil : m.min m' ≠ .u → hl = [] := fun hne => by
          cases hmm : m.min m' with
          | u => exact (hne hmm).elim
          | f => rw [hmm] at hM; simpa using hM
          | z => rw [hmm] at hM; simpa using hM
        rw [hxe] at hx
        generalize hev : a.eval x = xv at hx
        cases hx with
        | elt _ _ _ _ b nl cap hbi =>
          rcases hm.obs i _ hob with ⟨rfl, _⟩ | ⟨b', cap', cur, et, q, h4, h0, h5, h6, h7, hq, h11⟩
          · omega
          rw [hbi] at h4
          simp only [Value.slice.injEq, Option.some.injEq, Addr.mk.injEq] at h4
          obtain ⟨⟨rfl, _⟩, rfl, rfl⟩ := h4
          have hone : ((opd cx.G s y).cells.all fun e => e.one s.obj) = true := by
            rw [List.all_eq_true]
            intro e he
            obtain ⟨j, hj⟩ := posn_mem (k := k) (off := off) he
            exact pcl_one hpcl _ hj
          obtain ⟨h8, h9, h10⟩ := cells_rep hm hy hone
          have hvn : (a.eval y).cells.size = n := h8.trans hlen
          have hvl : (a.eval y).cells.toList.length = n := by simpa using hvn
          have hroom : k * esz + off + n ≤ cur.size := by
            have h1 : k * esz + esz ≤ nl * esz := by rw [← Nat.succ_mul]; exact Nat.mul_le_mul_right _ hk
            have h2 := Nat.mul_le_mul_right esz h6
            omega
          have hrun : (execOp a.eval o).run P w = .ok .skip (w.setRow b (cur.toList.take (k * esz + off) ++ (a.eval y).cells.toList ++ cur.toList.drop (k * esz + off + n)).toArray) := by
            have hst := run_store (P := P) (w := w) hn hvn h5 hroom h9
            simp only [execOp, ho, hev, Instr.storeAt, Instr.sureAddr, Sem.run_bind, Sem.run_pure, Result.andThen_ok, hst]
          unfold Oper.wp
          rw [hrun, Oper.upon_skip]
          obtain ⟨f1, f2, f3, f4, f5, f6⟩ := setRow_facts (new := (cur.toList.take (k * esz + off) ++ (a.eval y).cells.toList ++ cur.toList.drop (k * esz + off + n)).toArray) h5
          obtain ⟨ι', ow', hm'⟩ := hm.storeRow hob hbi h5 h0 hq h6 h7 h11 hk hle hlen hvn h10 hpcl hnd hid hnil hkh hroom
          exact hnx ι' ow' _ _ _ _ h hm' (rep_mkv _)
      · exact h.elim
    · exact h.elim
  · exact h.elim
end
end Go.Gw
