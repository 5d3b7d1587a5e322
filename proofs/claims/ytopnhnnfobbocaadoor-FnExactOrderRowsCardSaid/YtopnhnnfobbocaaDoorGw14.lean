/- Appending; with no condition. -/
import Derived.Test.YtopnhnnfobbocaaDoorGw13
namespace Go.Gw
open Go
set_option linter.unusedVariables false
set_option linter.unusedSimpArgs false

section
variable {P : Program} {cx : Cx} {ι : Nat → Value} {ow : Nat → Option Nat} {s : St} {a : Act} {w : World} {d : Nat}

theorem run_append_into (t ty e : TypeId) (i : TypeInfo) (ht : P.underlying t = some (.slice e)) (hi : P.info? e = some i)
    (g sLen sCap : Nat) (cur : Array Value) (tt : TypeId) (hg : w.heap[g]? = some (.cells cur tt (0, 0)))
    (a : Addr) (m c : Nat) (news : List Value) (hl : news.length = m * i.size) (hnews : ∀ j u, news[j]? = some u → w.cell? (a.add j) = some u) (h1 : ∀ u ∈ news, u.oneCell' = true)
    (hroom : sLen + m ≤ sCap) (hfit : sLen * i.size + news.length ≤ cur.size) :
    (Builtin.append_ #[t, t] ty #[.slice (some ⟨g, 0, none⟩) sLen sCap, .slice (some a) m c]).run P w =
      .ok (.slice (some ⟨g, 0, none⟩) (sLen + m) sCap) (w.setRow g (cur.toList.take (sLen * i.size) ++ news ++ cur.toList.drop (sLen * i.size + news.length)).toArray) := by
  have hf := run_firstCells_some (P := P) w i.size m a m c news hl hnews
  have hst := run_storeCells_at P g (sLen * i.size) tt news 0 cur w hg (by simpa using hfit) h1
  simp only [Nat.add_zero] at hst
  simp [Builtin.append_, run_underlying ht, sizeOf, typeInfo, hi, Builtin.lenOf, hroom, hf, Addr.add_lit, hst]

theorem run_append_nothing (t ty e : TypeId) (i : TypeInfo) (ht : P.underlying t = some (.slice e)) (hi : P.info? e = some i)
    (p : Option Addr) (n cap : Nat) (q : Option Addr) (c : Nat) (hn : n ≤ cap) :
    (Builtin.append_ #[t, t] ty #[.slice p n cap, .slice q 0 c]).run P w = .ok (.slice p n cap) w := by
  have hf : (Builtin.firstCells i.size 0 (.slice q 0 c)).run P w = .ok #[] w := by
    cases q with
    | none => simp [Builtin.firstCells]
    | some a => have := run_firstCells_some (P := P) w i.size 0 a 0 c [] (by simp) (fun j v h => by simp at h); simpa using this
  cases p with
  | none => simp [Builtin.append_, run_underlying ht, sizeOf, typeInfo, hi, Builtin.lenOf, hn, hf]
  | some b => simp [Builtin.append_, run_underlying ht, sizeOf, typeInfo, hi, Builtin.lenOf, hn, hf, storeCells]

/-- What an append takes its elements from. -/
def SrcOk (cx : Cx) (ow : Nat → Option Nat) (s : St) (w : World) (esz n : Nat) (g : Nat → Nat → PV) (m : Mode) (dead : List Nat) (v : Value) : Prop :=
  ∃ (pt : Option Addr) (c : Nat) (vals : Nat → Value), v = .slice pt n c ∧ n ≤ c ∧ (0 < n → ∃ ad, pt = some ad ∧ ∀ k, k < n * esz → w.cell? (ad.add k) = some (vals k)) ∧ (∀ k, k < n * esz → (vals k).oneCell' = true) ∧
      ∃ qs : Nat → Option (Nat × Nat), (∀ j ∈ dead, ∃ o, s.obj j = some o) ∧ ∀ (ι' : Nat → Value) (ow' : Nat → Option Nat) (w' : World) (M : Mode) (t sh : Nat) (q' : Nat → Option (Nat × Nat)) (hl' : List (Nat × Nat × Nat)), M.le m →
        (∀ b, zF cx ow b → b < w.heap.size → w'.heap[b]? = w.heap[b]? ∧ zF cx ow' b) → (∀ b, zZ cx ow b → b < w.heap.size → w'.heap[b]? = w.heap[b]? ∧ zZ cx ow' b) →
        (∀ j ∈ dead, ∀ b, b < w.heap.size → ow b = some j → ∀ r, qs b = some r → w'.heap[b]? = w.heap[b]? ∧ (M = .u → ow' b = some t ∧ q' b = some (sh + r.1, r.2)) ∧ (M ≠ .u → zF cx ow' b)) →
        (∀ i j, hole hl' (sh + i) j = none) →
        ∀ i j, i < n → j < esz → EltOk M (zF cx ow') (zZ cx ow') (fun b => ow' b = some t) q' ι' hl' w' (sh + i) j (g i j) (vals (i * esz + j))

theorem src_spec (hm : Models cx ι ow s a w) {esz n : Nat} {scal : Bool} {g : Nat → Nat → PV} {m : Mode} {dead : List Nat} {p : Option Prop} {x : AV} {v : Value} (h0 : 0 < esz) (hr : RepA (zF cx ow) (zZ cx ow) ι w x v)
    (hs : srcOf s.obj esz scal x = some (n, g, m, dead, p)) (hp : opt p) : SrcOk cx ow s w esz n g m dead v := by
  have divmod : ∀ i j, j < esz → (i * esz + j) / esz = i ∧ (i * esz + j) % esz = j := fun i j hj => by
    constructor
    · rw [Nat.add_comm, Nat.add_mul_div_right _ _ h0, Nat.div_eq_of_lt hj, Nat.zero_add]
    · rw [Nat.add_comm, Nat.add_mul_mod_self_right]; exact Nat.mod_eq_of_lt hj
  have undivmod : ∀ k, k < n * esz → k / esz < n ∧ k % esz < esz ∧ k / esz * esz + k % esz = k := fun k hk => by
    refine ⟨by rw [Nat.div_lt_iff_lt_mul h0]; exact hk, Nat.mod_lt _ h0, ?_⟩
    have := Nat.div_add_mod k esz
    rw [Nat.mul_comm] at this
    exact this
  have isV_one : ∀ c : PV, c.isV = true → c.one = true := fun c h => by cases c <;> simp_all [PV.isV]
  have isV_v : ∀ {Z : Nat → Prop} (c : PV) (y : Value), c.isV = true → RepP Z w c y → c = .v y := fun c y h hr => by
    cases c with
    | v x => cases hr; rfl
    | _ => simp [PV.isV] at h
  have isV_u : ∀ {S : Nat → Prop} (c : PV) (y : Value), c.isV = true → RepU w S c y → c = .v y := fun c y h hr => by
    cases c with
    | v x => cases hr; rfl
    | _ => simp [PV.isV] at h
  have flat : ∀ {M : Mode} {F Z S : Nat → Prop} {q : Nat → Option (Nat × Nat)} {ι' : Nat → Value} {hl' : List (Nat × Nat × Nat)} {w' : World} {i j : Nat} {c : PV} {y : Value}, c = .v y → hole hl' i j = none → EltOk M F Z S q ι' hl' w' i j c y := by
    intro M F Z S q ι' hl' w' i j c y hc hh
    subst hc
    cases M with
    | z => exact RepP.v _
    | f => exact RepP.v _
    | u => simp only [EltOk, hh]; exact .v _ _
  have elt_one : ∀ {mm : Mode} {S : Nat → Prop} {q : Nat → Option (Nat × Nat)} {i j : Nat} {c : PV} {y : Value}, EltOk mm (zF cx ow) (zZ cx ow) S q ι [] w i j c y → c.one = true → y.oneCell' = true := by
    intro mm S q i j c y h h1
    cases mm with
    | z => exact (pv_one h h1).1
    | f => exact (pv_one h h1).1
    | u => simp only [EltOk, hole] at h; exact (pv_one (h.toP (Z := fun _ => True) fun _ _ _ => trivial) h1).1
  have elt_v : ∀ {mm : Mode} {S : Nat → Prop} {q : Nat → Option (Nat × Nat)} {i j : Nat} {c : PV} {y : Value}, EltOk mm (zF cx ow) (zZ cx ow) S q ι [] w i j c y → c.isV = true → c = .v y := by
    intro mm S q i j c y h h1
    cases mm with
    | z => exact isV_v c y h1 h
    | f => exact isV_v c y h1 h
    | u => simp only [EltOk, hole] at h; exact isV_u c y h1 h
  unfold srcOf at hs
  split at hs
  · rename_i fr nn e n0 g0
    split at hs
    · rename_i hee
      simp only [beq_iff_eq] at hee
      subst hee
      simp only [Option.some.injEq, Prod.mk.injEq] at hs
      obtain ⟨rfl, rfl, rfl, rfl, rfl⟩ := hs
      rw [rep_p] at hr
      have hone : allOne e n0 g0 := by
        cases scal with
        | true => exact fun i j hi hj => isV_one _ ((show allV e n0 g0 from hp) i j hi hj)
        | false => exact hp
      cases hr with
      | nil => exact ⟨none, 0, fun _ => undef, rfl, Nat.le_refl _, fun h => by omega, fun k hk => by simp at hk, fun _ => none, fun j h => by simp at h, fun ι' ow' w' M t sh q' hl' hM hF hZ _ hh i j hi => by omega⟩
      | emp _ _ _ ad cap => exact ⟨some ad, cap, fun _ => undef, rfl, Nat.zero_le _, fun h => by omega, fun k hk => by simp at hk, fun _ => none, fun j h => by simp at h, fun ι' ow' w' M t sh q' hl' hM hF hZ _ hh i j hi => by omega⟩
      | sl _ _ _ _ b off cap val hc hrr hz hcap =>
        refine ⟨some ⟨b, off, none⟩, cap, fun k => val (k / e) (k % e), rfl, hcap, fun hn => ⟨_, rfl, fun k hk => ?_⟩, fun k hk => ?_, fun _ => none, fun j h => by simp at h, fun ι' ow' w' M t sh q' hl' hM hF hZ _ hh i j hi hj => ?_⟩
        · rw [addr_add]
          obtain ⟨d1, d2, d3⟩ := undivmod k hk
          have := hc _ _ d1 d2
          rwa [show off + k / e * e + k % e = off + k by omega] at this
        · obtain ⟨d1, d2, d3⟩ := undivmod k hk
          exact (pv_one (hrr _ _ d1 d2) (hone _ _ d1 d2)).1
        · obtain ⟨d1, d2⟩ := divmod i j hj
          simp only [d1, d2]
          have h1 := hrr i j hi hj
          cases scal with
          | true => exact flat (isV_v _ _ ((show allV e n0 g0 from hp) i j hi hj) h1) (hh i j)
          | false =>
            cases fr with
            | true =>
              cases M with
              | u => exact hM.elim
              | f => exact RepP.mono hF h1
              | z => exact RepP.mono (fun b hb hl => ⟨(hF b hb hl).1, zFZ (hF b hb hl).2⟩) h1
            | false =>
              cases M with
              | u => exact hM.elim
              | f => exact hM.elim
              | z => exact RepP.mono hZ h1
    · cases hs
  · simp only [Option.some.injEq, Prod.mk.injEq] at hs
    obtain ⟨rfl, rfl, rfl, rfl, rfl⟩ := hs
    have := rep_v hr
    subst this
    exact ⟨none, 0, fun _ => undef, rfl, Nat.le_refl _, fun h => by omega, fun k hk => by simp at hk, fun _ => none, fun j h => by simp at h, fun ι' ow' w' M t sh q' hl' hM hF hZ _ hh i j hi => by omega⟩
  · rename_i j0
    split at hs
    · rename_i m0 nn e n0 g0 hob
      split at hs
      · rename_i hee
        simp only [beq_iff_eq] at hee
        subst hee
        cases hr
        have common : ∀ (mm : Mode) (dd : List Nat), (mm = .u ∧ dd = [] ∧ allV e n0 g0) ∨ (mm = m0 ∧ dd = [j0] ∧ allOne e n0 g0) → SrcOk cx ow s w e n0 g0 mm dd (ι j0) := by
          intro mm dd hcs
          have hone : allOne e n0 g0 := by
            rcases hcs with ⟨_, _, h⟩ | ⟨_, _, h⟩
            · exact fun i j hi hj => isV_one _ (h i j hi hj)
            · exact h
          have hdead : ∀ j ∈ dd, ∃ o, s.obj j = some o := fun j h => by
            rcases hcs with ⟨_, rfl, _⟩ | ⟨_, rfl, _⟩
            · simp at h
            · simp at h; subst h; exact ⟨_, hob⟩
          have und : ∀ k, k < n0 * e → k / e < n0 ∧ k % e < e ∧ k / e * e + k % e = k := fun k hk => by
            refine ⟨by rw [Nat.div_lt_iff_lt_mul h0]; exact hk, Nat.mod_lt _ h0, ?_⟩
            have := Nat.div_add_mod k e
            rw [Nat.mul_comm] at this
            exact this
          rcases hm.obs j0 _ hob with ⟨rfl, hcase⟩ | ⟨b, cap, c, tt, q, h4, h5, h6, h7, h8, hq, h9⟩
          · rcases hcase with ⟨_, e2⟩ | ⟨b, off, e2⟩
            · rw [e2]
              exact ⟨none, 0, fun _ => undef, rfl, Nat.le_refl _, fun h => by omega, fun k hk => by simp at hk, fun _ => none, hdead, fun ι' ow' w' M t sh q' hl' hM hF hZ _ hh i j hi => by omega⟩
            · rw [e2]
              exact ⟨_, 0, fun _ => undef, rfl, Nat.le_refl _, fun h => by omega, fun k hk => by simp at hk, fun _ => none, hdead, fun ι' ow' w' M t sh q' hl' hM hF hZ _ hh i j hi => by omega⟩
          · rw [h4]
            refine ⟨_, cap, fun k => c.getD k undef, rfl, h7, fun hn => ⟨_, rfl, fun k hk => ?_⟩, fun k hk => ?_, q, hdead, fun ι' ow' w' M t sh q' hl' hM hF hZ hdd hh i j hi hj => ?_⟩
            · rw [addr_add, Nat.zero_add]
              have := Nat.mul_le_mul_right e h7
              exact cell_of_row h6 (by omega)
            · obtain ⟨d1, d2, d3⟩ := und k hk
              have := elt_one (h9 _ _ d1 d2) (hone _ _ d1 d2)
              rwa [d3] at this
            · have h10 := h9 i j hi hj
              rcases hcs with ⟨rfl, rfl, hv⟩ | ⟨rfl, rfl, _⟩
              · exact flat (elt_v h10 (hv i j hi hj)) (hh i j)
              · refine EltOk.weak hM (fun _ => rfl) hF hZ (fun _ h => zFZ h) (fun _ h => zFZ h) (fun b1 hb1 hqb hl1 => ?_) (fun d' hd' => by simp [hole] at hd') (fun _ => (hh i j)) h10
                exact hdd j0 (List.mem_singleton.2 rfl) b1 hl1 hb1 _ hqb
        split at hs
        · simp only [Option.some.injEq, Prod.mk.injEq] at hs
          obtain ⟨rfl, rfl, rfl, rfl, rfl⟩ := hs
          exact common _ _ (.inl ⟨rfl, rfl, hp⟩)
        · simp only [Option.some.injEq, Prod.mk.injEq] at hs
          obtain ⟨rfl, rfl, rfl, rfl, rfl⟩ := hs
          exact common _ _ (.inr ⟨rfl, rfl, hp⟩)
      · cases hs
    · cases hs
  · cases hs
end
end Go.Gw
