/- Bytes to a string; maps with whole numbers as keys; with no condition. -/
import Derived.Test.YtopnhnnfobbocaaDoorGw16
import Derived.MapKept
namespace Go.Gw
open Go
set_option linter.unusedVariables false
set_option linter.unusedSimpArgs false

theorem foldl_push (ns : List Int) : ∀ (b : ByteArray), ns.foldl (fun r n => r.push (UInt8.ofNat n.toNat)) b = ⟨(b.data.toList ++ ns.map fun n => UInt8.ofNat n.toNat).toArray⟩ := by
  induction ns with
  | nil => intro b; simp
  | cons n ns ih =>
    intro b
    simp only [List.foldl_cons, ih, List.map_cons]
    congr 1
    have : (b.push (UInt8.ofNat n.toNat)).data.toList = b.data.toList ++ [UInt8.ofNat n.toNat] := by
      simp [ByteArray.push]
    rw [this]
    simp

def intOf : PV → Int
  | .v (.int _ m) => m
  | _ => 0

section
variable {P : Program} {cx : Cx} {ι : Nat → Value} {ow : Nat → Option Nat} {s : St} {a : Act} {w : World} {d : Nat}

theorem run_b2s (pt : Option Addr) (n c : Nat) (g : Nat → Nat → PV) (vals : Nat → Value) (hg : ∀ i, i < n → ∃ m : Int, g i 0 = .v (.int .u8 m)) (hv : ∀ i, i < n → g i 0 = .v (vals i))
    (hc : 0 < n → ∃ ad, pt = some ad ∧ ∀ k, k < n → w.cell? (ad.add k) = some (vals k)) : (Conv.bytesToString (.slice pt n c)).run P w = .ok (.string (bytesOf n g)) w := by
  have hvals : ∀ i, i < n → vals i = .int .u8 (intOf (g i 0)) := fun i hi => by
    obtain ⟨m, hm⟩ := hg i hi
    have := hv i hi
    rw [hm] at this ⊢
    injection this with h
    exact h.symm
  have hfin : ∀ ad, (loadCells ad n).run P w = .ok (((List.range n).map fun i => intOf (g i 0)).map (Value.int .u8)).toArray w → (Conv.bytesToString (.slice (some ad) n c)).run P w = .ok (.string (bytesOf n g)) w := fun ad h => by
    rw [run_bytesToString w ad n c _ h, foldl_push]
    congr 2
    unfold bytesOf
    congr 1
    simp only [List.map_map]
    show (([] : List UInt8) ++ _).toArray = _
    rw [List.nil_append]
    congr 1
    refine List.map_congr_left fun i hi => ?_
    obtain ⟨m, hm⟩ := hg i (List.mem_range.1 hi)
    simp [hm, intOf, byteOf]
  cases pt with
  | none =>
    have hn : n = 0 := by
      rcases Nat.eq_zero_or_pos n with h | h
      · exact h
      · obtain ⟨ad, h1, _⟩ := hc h; cases h1
    subst hn
    have e : bytesOf 0 g = ByteArray.empty := rfl
    simp [Conv.bytesToString, e]
  | some ad =>
    refine hfin ad ?_
    have := run_loadCells (P := P) w ad n vals (fun j hj => by
      obtain ⟨ad', h1, h2⟩ := hc (by omega)
      cases h1
      exact h2 j hj)
    rw [this]
    congr 2
    simp only [List.map_map]
    exact List.map_congr_left fun i hi => hvals i (List.mem_range.1 hi)

theorem sound_b2s {t u e : TypeId} {x : Operand} (ht : P.underlying t = some (.slice e)) (he : P.underlying e = some (.int .u8)) (hu : P.underlying u = some .string) : Sound P cx (.convert t u x) (.b2s x) :=
  .value fun _ ι ow s a w d K hm h => by
    simp only [IOp.opds, List.map_cons, List.map_nil, res] at h
    have h1 := eval_rep hm x
    have fin : ∀ (pt : Option Addr) (n c : Nat) (g : Nat → Nat → PV) (vals : Nat → Value), a.eval x = .slice pt n c → (∀ i, i < n → ∃ m : Int, g i 0 = .v (.int .u8 m)) → (∀ i, i < n → g i 0 = .v (vals i)) →
        (0 < n → ∃ ad, pt = some ad ∧ ∀ k, k < n → w.cell? (ad.add k) = some (vals k)) → ∀ o : Oper, o.op = .convert t u x → (execOp a.eval o).run P w = .ok (.value (.string (bytesOf n g))) w := by
      intro pt n c g vals hev hg hv hc o ho
      simp [execOp, ho, hev, run_convert_bytes_string w t u e pt n c ht he hu, run_b2s pt n c g vals hg hv hc]
    split at h
    · rename_i fr nn e' n g hvs
      simp only [List.cons.injEq, and_true] at hvs
      simp only [Cnd.holds, decide_eq_true_eq] at h
      obtain ⟨rfl, hp, h⟩ := h
      have hp : ∀ i, i < n → ∃ m : Int, g i 0 = .v (.int .u8 m) := hp
      rw [hvs, rep_p] at h1
      generalize hev : a.eval x = y at h1
      cases h1 with
      | nil => exact ⟨_, _, h, rep_mkv _, fin none 0 0 g (fun _ => undef) hev hp (fun i hi => by omega) (fun h => by omega)⟩
      | emp _ _ _ ad cap => exact ⟨_, _, h, rep_mkv _, fin (some ad) 0 cap g (fun _ => undef) hev hp (fun i hi => by omega) (fun h => by omega)⟩
      | sl _ _ _ _ b off cap val hc hr hz hcap =>
        refine ⟨_, _, h, rep_mkv _, fin _ n cap g (fun i => val i 0) hev hp (fun i hi => ?_) (fun _ => ⟨_, rfl, fun k hk => ?_⟩)⟩
        · obtain ⟨m, hm'⟩ := hp i hi
          have := hr i 0 hi (by omega)
          rw [hm'] at this ⊢
          generalize val i 0 = yy at this
          cases this; rfl
        · rw [addr_add]
          have := hc k 0 hk (by omega)
          simpa using this
    · rename_i j hvs
      simp only [List.cons.injEq, and_true] at hvs
      split at h
      · rename_i m nn e' n g hl hob
        simp only [Cnd.holds, Bool.and_eq_true, decide_eq_true_eq, List.isEmpty_iff] at h
        obtain ⟨⟨rfl, rfl⟩, hp, h⟩ := h
        have hp : ∀ i, i < n → ∃ m : Int, g i 0 = .v (.int .u8 m) := hp
        rw [hvs] at h1
        generalize hev : a.eval x = y at h1
        cases h1 with
        | own _ =>
          rcases hm.obs j _ hob with ⟨rfl, ⟨_, h4⟩ | ⟨b, off, h4⟩⟩ | ⟨b, cap, c, tt, q, h4, h5, h6, h7, h8, hq, h9⟩
          · exact ⟨_, _, h, rep_mkv _, fin none 0 0 g (fun _ => undef) (hev.trans h4) hp (fun i hi => by omega) (fun h => by omega)⟩
          · exact ⟨_, _, h, rep_mkv _, fin _ 0 0 g (fun _ => undef) (hev.trans h4) hp (fun i hi => by omega) (fun h => by omega)⟩
          · refine ⟨_, _, h, rep_mkv _, fin _ n cap g (fun i => c.getD i undef) (hev.trans h4) hp (fun i hi => ?_) (fun _ => ⟨_, rfl, fun k hk => ?_⟩)⟩
            · obtain ⟨m', hm'⟩ := hp i hi
              have := h9 i 0 hi (by omega)
              simp only [Nat.mul_one, Nat.add_zero] at this
              rw [hm'] at this ⊢
              generalize c.getD i undef = yy at this
              cases m with
              | z => cases this; rfl
              | f => cases this; rfl
              | u => simp only [EltOk, hole] at this; cases this; rfl
            · rw [addr_add, Nat.zero_add]
              exact cell_of_row h6 (by omega)
      · exact h.elim
    · exact h.elim

/-! ### Maps -/
theorem runMap {b : Nat} {es : Array MapEntry} {clock : Nat} (h : w.heap[b]? = some (.map es clock)) : (getObj b).run P w = .ok (.map es clock) w := by
  simp [getObj, Sem.run, h]

theorem runSetMap {b : Nat} {es : Array MapEntry} {clock : Nat} (o' : Obj) (h : w.heap[b]? = some (.map es clock)) : (setObj b o').run P w = .ok () { w with heap := w.heap.setIfInBounds b o' } := by
  simp [setObj, Sem.run, h]

theorem findNow_spec {kind : IntKind} {k : Int} : ∀ (es : List MapEntry) (i : Nat), (∀ e ∈ es, ∃ k' : Int, e.key = .int .i64 k') →
    (∃ j e, es[j]? = some e ∧ e.key = .int .i64 k ∧ Instr.findNow (.int kind) (.int .i64 k) es i = some (some (i + j, e.val))) ∨
    ((∀ e ∈ es, e.key ≠ .int .i64 k) ∧ Instr.findNow (.int kind) (.int .i64 k) es i = some none)
  | [], i, _ => .inr ⟨fun e h => (by cases h), rfl⟩
  | e :: es, i, h => by
    obtain ⟨k', hk'⟩ := h e List.mem_cons_self
    by_cases hkk : k = k'
    · subst hkk
      refine .inl ⟨0, e, rfl, hk', ?_⟩
      simp [Instr.findNow, hk', Instr.sameNow]
    · have hs : Instr.findNow (.int kind) (.int .i64 k) (e :: es) i = Instr.findNow (.int kind) (.int .i64 k) es (i + 1) := by
        have : (k == k') = false := by simp [hkk]
        simp [Instr.findNow, hk', Instr.sameNow, this]
      rw [hs]
      rcases findNow_spec (kind := kind) (k := k) es (i + 1) (fun e he => h e (List.mem_cons_of_mem _ he)) with ⟨j, e', h1, h2, h3⟩ | ⟨h1, h2⟩
      · exact .inl ⟨j + 1, e', by simpa using h1, h2, by rw [h3, show i + 1 + j = i + (j + 1) by omega]⟩
      · refine .inr ⟨fun e' he' => ?_, h2⟩
        rcases List.mem_cons.1 he' with rfl | he'
        · rw [hk']; intro e; cases e; exact hkk rfl
        · exact h1 e' he'

theorem run_checkKey {kt : TypeId} {kind : IntKind} (hk : P.underlying kt = some (.int kind)) (b : Bool) (k : Int) : (Instr.checkKey b 10000 kt (.int .i64 k)).run P w = .ok () w := by
  have : ∀ n, (Instr.checkKey b (n + 1) kt (.int .i64 k)).run P w = .ok () w := fun n => by
    simp [Instr.checkKey, run_underlying hk]
  exact this 9999

theorem sound_mkM {t : TypeId} : Sound P cx (.makeMap t none) .mkM := by
  intro det ι ow s a w d K hm h hfr o ho next Q hnx
  simp only [IOp.opds, List.map_nil, res, Cnd.holds] at h
  have hd := hfr d (by simp [IOp.fresh])
  unfold Oper.wp
  have : (execOp a.eval o).run P w = .ok (.value (.map (some w.heap.size))) (w.alloc (.map #[] 0)) := by
    simp only [execOp, ho]
    rfl
  rw [this, Oper.upon_value]
  have hm' := hm.newObj (dead := []) (M := .u) hd (Grows.alloc w (.map #[] 0)) (Nat.le_refl _) (.map (some w.heap.size)) (.map (fun _ => none) 0) (fun hF hZ => by
    refine ⟨w.heap.size, #[], 0, rfl, by simp [owNew], (by show (w.heap.push _)[w.heap.size]? = _; simp), ⟨rfl, fun e h => by simp at h, fun k v h => (by cases h), by simp⟩⟩)
  exact hnx _ _ _ _ _ _ h.2.2 (hm'.same (fun t => rfl) fun i => rfl) (own_self _)

theorem sound_lookM {t kt et : TypeId} {kind : IntKind} {i : TypeInfo} {z : Value} {x y : Operand} (ht : P.underlying t = some (.map kt et)) (hk : P.underlying kt = some (.int kind)) (hi : P.info? et = some i) (hz : i.zero = some z) :
    Sound P cx (.lookup t x y false) (.lookM z x y) :=
  .value fun _ ι ow s a w d K hm h => by
    simp only [IOp.opds, List.map_cons, List.map_nil, res] at h
    have hx := eval_rep hm x
    have hy := eval_rep hm y
    split at h
    · rename_i j fr k hvs
      simp only [List.cons.injEq, and_true] at hvs
      split at h
      · rename_i f n hob
        rw [hvs.1] at hx
        rw [hvs.2] at hy
        have hy := rep_v hy
        generalize hev : a.eval x = xv at hx
        cases hx with
        | own _ =>
          obtain ⟨b, es, clock, h1, h2, h3, h4, h5, h6, h7⟩ := hm.obs j _ hob
          refine ⟨_, (f k).getD z, h.2.2, rep_mkv _, fun o ho => ?_⟩
          have hfind : ∃ r : Option (Nat × Value), Instr.findNow (.int kind) (.int .i64 k) es.toList 0 = some r ∧ (f k).getD z = (match r with | some (_, v) => v | none => z) := by
            rcases findNow_spec (kind := kind) (k := k) es.toList 0 (fun e he => by obtain ⟨k', hk', _⟩ := h5 e he; exact ⟨k', hk'⟩) with ⟨jj, e, g1, g2, g3⟩ | ⟨g1, g2⟩
            · refine ⟨_, g3, ?_⟩
              obtain ⟨k', g4, g5, _⟩ := h5 e (List.mem_of_getElem? g1)
              rw [g2] at g4
              cases g4
              rw [g5]; rfl
            · refine ⟨_, g2, ?_⟩
              cases hf : f k with
              | none => rfl
              | some v =>
                obtain ⟨e, he, hke⟩ := h6 k v hf
                exact (g1 e he hke).elim
          obtain ⟨r, hr1, hr2⟩ := hfind
          rw [hr2]
          cases r with
          | none =>
            simp [execOp, ho, hev, h1, hy, Instr.lookup, run_underlying ht, runMap h3, run_checkKey hk, Instr.findKey, run_underlying hk, hr1, zeroValue, typeInfo, hi, hz]
          | some r =>
            simp [execOp, ho, hev, h1, hy, Instr.lookup, run_underlying ht, runMap h3, run_checkKey hk, Instr.findKey, run_underlying hk, hr1]
      · exact h.elim
    · exact h.elim

theorem sound_lenM {t kt et : TypeId} {x : Operand} (ht : P.underlying t = some (.map kt et)) : Sound P cx (.call { callee := .builtin .len, args := #[x], argTypes := #[t] }) (.lenM x) :=
  .value fun _ ι ow s a w d K hm h => by
    simp only [IOp.opds, List.map_cons, List.map_nil, res] at h
    have hx := eval_rep hm x
    split at h
    · rename_i j hvs
      simp only [List.cons.injEq, and_true] at hvs
      split at h
      · rename_i f n hob
        rw [hvs] at hx
        generalize hev : a.eval x = xv at hx
        cases hx with
        | own _ =>
          obtain ⟨b, es, clock, h1, h2, h3, h4, _⟩ := hm.obs j _ hob
          refine ⟨_, _, h.2.2, rep_mkv _, fun o ho => ?_⟩
          simp [execOp, ho, resolve, invoke, builtin, Builtin.len_, hev, h1, run_underlying ht, runMap h3, goInt, h4]
      · exact h.elim
    · exact h.elim

theorem mapOk_push {es : Array MapEntry} {clock n : Nat} {f : Int → Option Value} {k : Int} {x : Value} (h : MapOk es clock f n) (hk : f k = none) :
    MapOk (es.push { key := .int .i64 k, val := x, born := clock }) (clock + 1) (fun i => if i = k then some x else f i) (n + 1) := by
  obtain ⟨h1, h2, h3, h4⟩ := h
  have hno : ∀ e ∈ es.toList, e.key ≠ .int .i64 k := fun e he hke => by
    obtain ⟨k', g1, g2, _⟩ := h2 e he
    rw [hke] at g1
    cases g1
    rw [hk] at g2
    cases g2
  refine ⟨by simp [h1], fun e he => ?_, fun k' v hv => ?_, ?_⟩
  · simp only [Array.toList_push, List.mem_append, List.mem_singleton] at he
    rcases he with he | rfl
    · obtain ⟨k', g1, g2, g3⟩ := h2 e he
      refine ⟨k', g1, ?_, by omega⟩
      have : k' ≠ k := fun e' => by subst e'; rw [hk] at g2; cases g2
      simp [this, g2]
    · exact ⟨k, rfl, by simp, Nat.lt_succ_self _⟩
  · simp only at hv
    split at hv
    · rename_i e; subst e
      exact ⟨_, by simp; exact .inr rfl, rfl⟩
    · obtain ⟨e, he, hke⟩ := h3 k' v hv
      exact ⟨e, by simp only [Array.toList_push, List.mem_append]; exact .inl he, hke⟩
  · simp only [Array.toList_push, List.map_append, List.map_cons, List.map_nil]
    rw [List.nodup_append]
    refine ⟨h4, by simp, fun a ha b hb e => ?_⟩
    simp only [List.mem_singleton] at hb
    obtain ⟨e1, he1, rfl⟩ := List.mem_map.1 ha
    obtain ⟨k', g1, g2, _⟩ := h2 e1 he1
    rw [g1] at e
    simp only [keyInt] at e
    subst hb
    subst e
    rw [hk] at g2
    cases g2

theorem mapOk_set {es : Array MapEntry} {clock n : Nat} {f : Int → Option Value} {k : Int} {x v0 : Value} {i : Nat} {e0 : MapEntry} (h : MapOk es clock f n) (hk : f k = some v0) (hi : es.toList[i]? = some e0) (hke : e0.key = .int .i64 k) :
    MapOk (es.modify i fun e => { e with key := .int .i64 k, val := x }) clock (fun j => if j = k then some x else f j) n := by
  obtain ⟨h1, h2, h3, h4⟩ := h
  have hil : i < es.size := by have := (List.getElem?_eq_some_iff.1 hi).1; simpa using this
  have hget : ∀ (j : Nat) (e : MapEntry), (es.modify i fun e => { e with key := .int .i64 k, val := x }).toList[j]? = some e → ∃ e1, es.toList[j]? = some e1 ∧ e = if j = i then { e1 with key := .int .i64 k, val := x } else e1 := by
    intro j e hj
    simp only [Array.getElem?_toList, Array.getElem?_modify] at hj
    split at hj
    · rename_i hij
      simp only [Option.map_eq_some_iff] at hj
      obtain ⟨e1, g1, rfl⟩ := hj
      exact ⟨e1, by simpa using g1, by simp [hij.symm]⟩
    · rename_i hij
      exact ⟨e, by simpa using hj, by rw [if_neg (fun h => hij h.symm)]⟩
  have hkeyi : ∀ (j : Nat) (e1 : MapEntry), es.toList[j]? = some e1 → e1.key = .int .i64 k → j = i := by
    intro j e1 hj hk1
    have g1 : (es.toList.map fun e => keyInt e.key)[j]? = some k := by simp only [List.getElem?_map, hj, Option.map_some, hk1, keyInt]
    have g2 : (es.toList.map fun e => keyInt e.key)[i]? = some k := by simp only [List.getElem?_map, hi, Option.map_some, hke, keyInt]
    obtain ⟨l1, m1⟩ := List.getElem?_eq_some_iff.1 g1
    obtain ⟨l2, m2⟩ := List.getElem?_eq_some_iff.1 g2
    have hp := List.pairwise_iff_getElem.1 h4
    rcases Nat.lt_trichotomy j i with h | h | h
    · exact absurd (m1.trans m2.symm) (hp j i l1 l2 h)
    · exact h
    · exact absurd (m2.trans m1.symm) (hp i j l2 l1 h)
  refine ⟨by simp [h1], fun e he => ?_, fun k' v hv => ?_, ?_⟩
  · obtain ⟨j, hj⟩ := List.mem_iff_getElem?.1 he
    obtain ⟨e1, g1, rfl⟩ := hget j e hj
    obtain ⟨k', g2, g3, g4⟩ := h2 e1 (List.mem_of_getElem? g1)
    by_cases hji : j = i
    · rw [if_pos hji]
      exact ⟨k, rfl, by simp, g4⟩
    · rw [if_neg hji]
      refine ⟨k', g2, ?_, g4⟩
      have : k' ≠ k := fun e => hji (hkeyi j e1 g1 (by rw [g2, e]))
      simp [this, g3]
  · have hmem : ∀ (j : Nat) (e1 : MapEntry), es.toList[j]? = some e1 → (if j = i then { e1 with key := .int .i64 k, val := x } else e1) ∈ (es.modify i fun e => { e with key := .int .i64 k, val := x }).toList := by
      intro j e1 hj
      refine List.mem_iff_getElem?.2 ⟨j, ?_⟩
      simp only [Array.getElem?_toList] at hj
      simp only [Array.getElem?_toList, Array.getElem?_modify, hj]
      by_cases hji : i = j
      · simp [hji]
      · have : ¬ j = i := fun h => hji h.symm
        simp [hji, this]
    simp only at hv
    split at hv
    · rename_i e; subst e
      exact ⟨_, hmem i e0 hi, by simp⟩
    · obtain ⟨e, he, hke'⟩ := h3 k' v hv
      obtain ⟨j, hj⟩ := List.mem_iff_getElem?.1 he
      refine ⟨_, hmem j e hj, ?_⟩
      by_cases hji : j = i
      · subst hji
        rw [hi] at hj
        cases hj
        rw [hke] at hke'
        cases hke'
        rename_i hne
        exact (hne rfl).elim
      · rw [if_neg hji]; exact hke'
  · have : ((es.modify i fun e => { e with key := .int .i64 k, val := x }).toList.map fun e => keyInt e.key) = (es.toList.map fun e => keyInt e.key) := by
      apply List.ext_getElem?
      intro j
      simp only [List.getElem?_map, Array.getElem?_toList, Array.getElem?_modify]
      by_cases hji : i = j
      · subst hji
        simp only [Array.getElem?_toList] at hi
        simp [hi, hke]
      · simp [hji]
    rw [this]
    exact h4

theorem sound_updM {t kt et : TypeId} {kind : IntKind} {x y z : Operand} (ht : P.underlying t = some (.map kt et)) (hk : P.underlying kt = some (.int kind)) : Sound P cx (.mapUpdate t x y z) (.updM x y z) := by
  intro det ι ow s a w d K hm h hfr o ho next Q hnx
  simp only [IOp.opds, List.map_cons, List.map_nil, res] at h
  have hx := eval_rep hm x
  have hy := eval_rep hm y
  have hz := eval_rep hm z
  split at h
  · rename_i j fr k fr' v hvs
    simp only [List.cons.injEq, and_true] at hvs
    split at h
    · rename_i f n hob
      rw [hvs.1] at hx
      rw [hvs.2.1] at hy
      rw [hvs.2.2] at hz
      have hy := rep_v hy
      have hz := rep_v hz
      generalize hev : a.eval x = xv at hx
      cases hx with
      | own _ =>
        obtain ⟨b, es, clock, h1, h0, h3, hok⟩ := hm.obs j _ hob
        obtain ⟨h4, h5, h6, h7⟩ := hok
        simp only [Cnd.holds] at h
        have fin : ∀ (es' : Array MapEntry) (clock' : Nat), MapOk es' clock' (fun i => if i = k then some v else f i) (match f k with | some _ => n | none => n + 1) →
            (execOp a.eval o).run P w = .ok .skip { w with heap := w.heap.setIfInBounds b (.map es' clock') } → o.upon P a next Q ((execOp a.eval o).run P w) := by
          intro es' clock' hok' hrun
          rw [hrun, Oper.upon_skip]
          have hbl := heap_lt h3
          have hm' := hm.putRow (i' := j) (M := .u) hob h0 (.inl rfl) (dead := []) (by simp) (w' := { w with heap := w.heap.setIfInBounds b (.map es' clock') }) (ι j) (fun _ => rfl) rfl rfl rfl (Nat.le_refl _) (by simp) (fun b' _ hne => (Array.getElem?_setIfInBounds_ne (fun e => hne e.symm)))
            (.map (fun i => if i = k then some v else f i) (match f k with | some _ => n | none => n + 1)) (fun _ _ _ => by
            refine ⟨b, es', clock', h1, by simp [owPut, h0], by simp [Array.getElem?_setIfInBounds, hbl], hok'⟩)
          refine hnx _ _ _ _ _ _ h.2.2 (hm'.same (fun t => rfl) fun i => ?_) (rep_mkv _)
          simp only [St.upd, St.obj_setOb, St.obj_delOb, St.dels]
          split <;> rfl
        unfold Oper.wp
        rcases findNow_spec (kind := kind) (k := k) es.toList 0 (fun e he => by obtain ⟨k', hk', _⟩ := h5 e he; exact ⟨k', hk'⟩) with ⟨jj, e, g1, g2, g3⟩ | ⟨g1, g2⟩
        · obtain ⟨k', g4, g5, g6⟩ := h5 e (List.mem_of_getElem? g1)
          rw [g2] at g4
          cases g4
          refine fin (es.modify jj fun e => { e with key := .int .i64 k, val := v }) clock (by rw [g5]; exact mapOk_set ⟨h4, h5, h6, h7⟩ g5 g1 g2) ?_
          have hes : es[jj]? = some e := by simpa using g1
          have hstay : (Instr.keyThatStays e.key (.int .i64 k)).run P w = .ok (.int .i64 k) w := by
            rw [g2]
            have : Instr.sameBits 10000 (.int .i64 k) (.int .i64 k) = true := by simp [Instr.sameBits]
            simp [Instr.keyThatStays, this]
          rw [Nat.zero_add] at g3
          simp [execOp, ho, hev, h1, hy, hz, Instr.mapUpdate, run_underlying ht, runMap h3, run_checkKey hk, Instr.findKey, run_underlying hk, g3, hes, hstay, runSetMap _ h3]
        · have hfk : f k = none := by
            cases hf : f k with
            | none => rfl
            | some v' =>
              obtain ⟨e, he, hke⟩ := h6 k v' hf
              exact (g1 e he hke).elim
          refine fin (es.push { key := .int .i64 k, val := v, born := clock }) (clock + 1) (by rw [hfk]; exact mapOk_push ⟨h4, h5, h6, h7⟩ hfk) ?_
          simp [execOp, ho, hev, h1, hy, hz, Instr.mapUpdate, run_underlying ht, runMap h3, run_checkKey hk, Instr.findKey, run_underlying hk, g2, runSetMap _ h3]
    · exact h.elim
  · exact h.elim
end
end Go.Gw
