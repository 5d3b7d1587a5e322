/- From a law's contract to its row; with no condition. -/
import Derived.Test.YtopnhnnfobbocaaDoorGw29
import Derived.Handed
namespace Go.Gw
open Go Go.ChangeShapes Go.WideShapes Go.RowKit
set_option linter.unusedVariables false
set_option linter.unusedSimpArgs false

/-- An argument as the walk takes it. -/
def argOf (P : Program) (t : TypeId) (l : List PV) : AV := match P.underlying t with
  | some (.struct _) => .ag (l.map (.p false))
  | _ => .p false (l.getD 0 .any)

/-- All arguments that a law may be given. -/
inductive Args (P : Program) : List TypeId → List AV → Prop
  | nil : Args P [] []
  | cons (t : TypeId) (ts : List TypeId) (ls : List Leaf) (l : List PV) (cs : List AV) (hl : leaves P 12 t = some ls) (hlen : l.length = ls.length)
      (hfit : ∀ (j : Nat) (lf : Leaf), ls[j]? = some lf → Fit lf (l.getD j .any)) (h : Args P ts cs) : Args P (t :: ts) (argOf P t l :: cs)

section
variable {H : Type} {enc : TypeId × Value → H} {P : Program} {w : World}

theorem okWide_struct {t : TypeId} {fs : Array Field} {v : Value} {base : Nat} (ht : P.underlying t = some (.struct fs)) (h : Value.okWide P w .any base t v) : ∃ cs, v = .agg cs := by
  unfold Value.okWide at h
  simp only [ht] at h
  obtain ⟨cs, rfl, _⟩ := h
  exact ⟨cs, rfl⟩

theorem okWide_cell {t : TypeId} {ls : List Leaf} {m : Nat} {v : Value} {base : Nat} (hl : leaves P m t = some ls) (hns : ∀ fs, P.underlying t ≠ some (.struct fs)) (h : Value.okWide P w .any base t v) : v.cells = #[v] := by
  have key : Cell.okWide P w .any base t v := by
    unfold Value.okWide at h
    split at h
    · rename_i fs ht; exact (hns fs ht).elim
    · rename_i n e ht
      cases m with
      | zero => simp [leaves] at hl
      | succ m => simp [leaves, ht] at hl
    · exact h
  cases v <;> first
    | rfl
    | (exfalso
       unfold Cell.okWide at key
       split at key <;> first
         | (rename_i e; cases e; done)
         | skip
       unfold Cell.ok at key
       split at key <;> simp_all)

theorem open_arg {t : TypeId} {ls : List Leaf} {v : Value} {base : Nat} {d : DataW H} {ps : List MemPlace} (hl : leaves P 12 t = some ls) (hok : Value.okWide P w .any base t v) (h : DataW.Trod enc P w 0 (fun _ => true) true t v d ps) :
    ∃ l : List PV, l.length = ls.length ∧ (∀ (j : Nat) (lf : Leaf), ls[j]? = some lf → Fit lf (l.getD j .any)) ∧ RepA (fun _ => False) (fun _ => True) (fun _ => undef) w (argOf P t l) v := by
  obtain ⟨n, h⟩ := h
  obtain ⟨h1, h2⟩ := open_trod 12 t ls n _ _ hl h
  have key : ∀ (ls : List Leaf) (cs : List Value), (∀ (j : Nat) (lf : Leaf), ls[j]? = some lf → ∃ c, Fit lf c ∧ RepP (fun _ => True) w c (cs.getD j undef)) →
      ∃ l : List PV, l.length = ls.length ∧ (∀ (j : Nat) (lf : Leaf), ls[j]? = some lf → Fit lf (l.getD j .any)) ∧ ∀ (j : Nat) (c : PV), l[j]? = some c → RepP (fun _ => True) w c (cs.getD j undef) := by
    intro ls
    induction ls with
    | nil => intro cs _; exact ⟨[], rfl, fun j lf h => by simp at h, fun j c h => by simp at h⟩
    | cons lf ls ih =>
      intro cs h
      obtain ⟨c, hc1, hc2⟩ := h 0 lf rfl
      obtain ⟨l, i1, i2, i3⟩ := ih (cs.drop 1) (fun j lf' hj => by
        obtain ⟨c', a1, a2⟩ := h (j + 1) lf' (by simpa using hj)
        refine ⟨c', a1, ?_⟩
        have : (cs.drop 1).getD j undef = cs.getD (j + 1) undef := by simp [List.getD_eq_getElem?_getD, Nat.add_comm]
        rwa [this])
      refine ⟨c :: l, by simp [i1], fun j lf' hj => ?_, fun j c' hj => ?_⟩
      · cases j with
        | zero => simp at hj; subst hj; simpa using hc1
        | succ j => simpa using i2 j lf' (by simpa using hj)
      · cases j with
        | zero => simp at hj; subst hj; exact hc2
        | succ j =>
          have := i3 j c' (by simpa using hj)
          have e : (cs.drop 1).getD j undef = cs.getD (j + 1) undef := by simp [List.getD_eq_getElem?_getD, Nat.add_comm]
          rwa [e] at this
  obtain ⟨l, k1, k2, k3⟩ := key ls v.cells.toList h2
  refine ⟨l, k1, k2, ?_⟩
  unfold argOf
  split
  · rename_i fs ht
    obtain ⟨cs, rfl⟩ := okWide_struct ht hok
    refine .ag _ cs ?_ fun j c hj => ?_
    · simp only [Value.cells] at h1
      simp [k1, ← h1]
    · simp only [List.getElem?_map, Option.map_eq_some_iff] at hj
      obtain ⟨c', hj, rfl⟩ := hj
      have := k3 j c' hj
      simp only [Value.cells] at this
      have e : cs.toList.getD j undef = cs.getD j undef := by simp [List.getD_eq_getElem?_getD, Array.getD_eq_getD_getElem?]
      rw [e] at this
      exact .pf _ _ this
  · rename_i hns
    have hv := okWide_cell hl (fun fs e => hns fs e) hok
    rw [hv] at k3 h1
    have hl1 : l.length = 1 := by rw [k1, ← h1]; rfl
    have := k3 0 (l.getD 0 .any) (by rw [List.getD_eq_getElem?_getD, List.getElem?_eq_getElem (by omega)]; rfl)
    exact .pf _ _ this

theorem open_args : ∀ {ts : List TypeId} {vs : List Value} {ds : List (DataW H)} {ps : List MemPlace} {base : Nat}, DataW.TrodAll enc P w 0 (fun _ => true) true ts vs ds ps → (∀ t, t ∈ ts → ∃ ls, leaves P 12 t = some ls) →
    (∀ (j : Nat) (t : TypeId) (v : Value), ts[j]? = some t → vs[j]? = some v → Value.okWide P w .any base t v) →
    ∃ xs : List AV, Args P ts xs ∧ vs.length = xs.length ∧ ∀ (j : Nat) (c : AV), xs[j]? = some c → RepA (fun _ => False) (fun _ => True) (fun _ => undef) w c (vs.getD j undef)
  | [], vs, ds, ps, base, h, _, _ => by
    obtain ⟨rfl, _⟩ := trodAll_nil h
    exact ⟨[], .nil, rfl, fun j c h => by simp at h⟩
  | t :: ts, vs, ds, ps, base, h, hl, hok => by
    obtain ⟨v, vs', d, ds', p, q, rfl, rfl, rfl, h1, h2⟩ := trodAll_cons h
    obtain ⟨ls, hls⟩ := hl t List.mem_cons_self
    obtain ⟨l, k1, k2, k3⟩ := open_arg hls (hok 0 t v rfl rfl) h1
    obtain ⟨ys, a1, a2, a3⟩ := open_args h2 (fun t' ht => hl t' (List.mem_cons_of_mem _ ht)) (fun j t' v' hj hv => hok (j + 1) t' v' (by simpa using hj) (by simpa using hv))
    refine ⟨_, .cons t ts ls l ys hls k1 k2 a1, by simp [a2], fun j c hj => ?_⟩
    cases j with
    | zero => simp at hj; subst hj; simpa using k3
    | succ j => simpa using a3 j c (by simpa using hj)

theorem trodAll_stays (hl : laidOutB P = true) {W W' : World} {sp : Nat → Bool} (hb : Below W.heap.size W W') : ∀ {ts : List TypeId} {vs : List Value} {ds : List (DataW H)} {ps : List MemPlace}, DataW.TrodAll enc P W 0 (fun _ => true) true ts vs ds ps →
    (∀ t, t ∈ ts → P.readableRec t = true ∧ t < P.types.size) → (∀ x ∈ ps, x.block < W.heap.size) → (∀ x ∈ ps, sp x.block = true) → DataW.TrodAll enc P W' 0 sp true ts vs ds ps
  | [], vs, ds, ps, h, _, _, _ => by
    obtain ⟨rfl, rfl, rfl⟩ := trodAll_nil h
    exact trodAll_mk0
  | t :: ts, vs, ds, ps, h, hr, hlt, hsp => by
    obtain ⟨v, vs', d, ds', p, q, rfl, rfl, rfl, h1, h2⟩ := trodAll_cons h
    obtain ⟨r1, r2⟩ := hr t List.mem_cons_self
    exact trodAll_cons_mk (WideElems.Trod_stays hl r1 r2 h1 (fun x hx => hb.same (hlt x (List.mem_append_left _ hx))) (fun x hx => hsp x (List.mem_append_left _ hx)))
      (trodAll_stays hl hb h2 (fun t' ht => hr t' (List.mem_cons_of_mem _ ht)) (fun x hx => hlt x (List.mem_append_right _ hx)) (fun x hx => hsp x (List.mem_append_right _ hx)))

theorem trodAll_len : ∀ {ts : List TypeId} {vs : List Value} {ds : List (DataW H)} {ps : List MemPlace}, DataW.TrodAll enc P w 0 (fun _ => true) true ts vs ds ps → ds.length = ts.length
  | [], vs, ds, ps, h => by
    obtain ⟨rfl, rfl, rfl⟩ := trodAll_nil h
    rfl
  | t :: ts, vs, ds, ps, h => by
    obtain ⟨v, vs', d, ds', p, q, rfl, rfl, rfl, h1, h2⟩ := trodAll_cons h
    simp [trodAll_len h2]

theorem fit_int {k : IntKind} {c : PV} (h : Fit (.int k) c) : ∃ n, c = .v (.int k n) ∧ (Lit.int k n).wf = true := by cases h with | int _ n h => exact ⟨n, rfl, h⟩
theorem fit_bool {c : PV} (h : Fit .bool c) : ∃ b, c = .v (.bool b) := by cases h with | bool b => exact ⟨b, rfl⟩
theorem fit_str {c : PV} (h : Fit .str c) : ∃ s, c = .v (.string s) ∧ s.size ≤ maxLen := by cases h with | str s h => exact ⟨s, rfl, h⟩
theorem fit_sl {e : List Leaf} {c : PV} (h : Fit (.sl e) c) : ∃ nn n g, c = .sl nn e.length n g ∧ n ≤ maxLen ∧ ∀ (i j : Nat) (l : Leaf), i < n → e[j]? = some l → Fit l (g i j) := by
  cases h with | sl _ nn n g hn h => exact ⟨nn, n, g, rfl, hn, h⟩
theorem fit_cells {e : List Leaf} {n : Nat} {g : Nat → Nat → PV} (he : ∀ (j : Nat) (l : Leaf), e[j]? = some l → l = .int .i64) (h : ∀ (i j : Nat) (l : Leaf), i < n → e[j]? = some l → Fit l (g i j)) : IntCells e.length n g := by
  intro i j hi hj
  have h1 := List.getElem?_eq_getElem hj
  have h2 := h i j _ hi h1
  rw [he j _ h1] at h2
  obtain ⟨m, h3, _⟩ := fit_int h2
  rw [h3]; rfl

/-- A law's step: it returns true whatever it is given, and its arguments read as they did. -/
theorem law_step {f : FuncId} {fn : Func} {s : ChangeSpec} {apart fresh handsOn again : Bool} {tb : TypeId} (hlaid : laidOutB P = true) (hread : ∀ t, t ∈ fn.params.toList → P.readableRec t = true ∧ t < P.types.size)
    (hleaf : ∀ t, t ∈ fn.params.toList → ∃ ls, leaves P 12 t = some ls) (hvars : s.vars = []) (hres : fn.resultTypes = #[tb]) (htb : P.underlying tb = some .bool)
    (hs : ∀ ds : List (DataW H), ds.length = fn.params.size → s.fn H ds = { results := [.lit (.bool true)], args := ds })
    (hlaw : ∀ xs, Args P fn.params.toList xs → PRet P [] f xs (AB true))
    (W : World) (base : Nat) (args : Array Value) (ds gs : List (DataW H)) (before : List MemPlace)
    (hval : ∀ (j : Nat) t v, fn.params[j]? = some t → args[j]? = some v → Value.okWide P W .any base t v)
    (hW : DataW.Whole enc P fn.params.toList s.vars apart W args.toList ds gs before) :
    Calls P f args W fun e W' => ∃ v, e = .returned v ∧ s.post enc P fn apart fresh handsOn again W args v W' := by
  have hW' := hW
  obtain ⟨p, q, hA, hV, rfl, hfz, hnd⟩ := hW
  rw [hvars] at hV
  obtain ⟨rfl, rfl⟩ := trodVars_none hV
  obtain ⟨ys, h1, h2, h3⟩ := open_args hA hleaf (fun j t v hj hv => hval j t v (by simpa using hj) (by simpa using hv))
  have hcall := (hlaw ys h1).calls (w := W) (vs := args) (by simpa using h2) (fun j c hj => by
    have := h3 j c hj
    rwa [show args.toList.getD j undef = args.getD j undef by simp [List.getD_eq_getElem?_getD, Array.getD_eq_getD_getElem?]] at this) (fun g c h => by simp [look] at h)
  refine hcall.mono fun e W' ⟨he, hb⟩ => ⟨.bool true, he, ?_⟩
  have hlen := trodAll_len hA
  have hfn := hs ds (by simpa using hlen)
  simp only [List.append_nil] at hW'
  have hlt : ∀ x ∈ p, x.block < W.heap.size := fun x hx => hW'.lt x hx
  refine post_of_old (pa := p) (pv := []) hW' (fun b sp hd => ?_) (fun sp hsp => ?_) (fun sp hsp => ?_) (by simp) hb ?_
  · rw [List.append_nil, hfn, hres]
    exact trodAll_cons_mk (shut_bool htb _) trodAll_mk0
  · rw [List.append_nil, hfn]
    exact trodAll_stays hlaid hb hA hread hlt (fun x hx => hsp x hx)
  · rw [List.append_nil, hfn, hvars]
    rfl
  · exact ok_one hres rfl (okWide_bool_mk htb _)
end
end Go.Gw
