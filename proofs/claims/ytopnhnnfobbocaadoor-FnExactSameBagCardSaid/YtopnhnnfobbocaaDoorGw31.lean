/- From a law's contract to its row, where the row tells what a package-level variable reads as; with no condition. -/
import Derived.Test.YtopnhnnfobbocaaDoorGw30
import Derived.Carry
import Derived.ChangeOld
import Derived.MakeChecks
namespace Go.Gw
open Go Go.ChangeShapes Go.WideShapes Go.RowKit
set_option linter.unusedVariables false
set_option linter.unusedSimpArgs false

section
variable {H : Type} {enc : TypeId × Value → H} {P : Program} {w : World}

theorem trodVars_stays (hl : laidOutB P = true) {W W' : World} {sp : Nat → Bool} (hb : Below W.heap.size W W') :
    ∀ {ns : List String} {gs : List (DataW H)} {ps : List MemPlace}, (∀ n, n ∈ ns → ∀ g gl, P.globalNamed n = some g → P.globals[g]? = some gl → P.readableRec gl.type = true ∧ gl.type < P.types.size) → DataW.TrodVars enc P W (fun _ => true) ns gs ps → (∀ x ∈ ps, sp x.block = true) → DataW.TrodVars enc P W' sp ns gs ps
  | [], [], _, _, h, _ => h
  | [], _ :: _, _, _, h, _ => h.elim
  | _ :: _, [], _, _, h, _ => h.elim
  | n :: ns, d :: ds, ps, hv, h, hsp => by
    have hlt := h.lt
    obtain ⟨g, t, cs, fuel, p, q, h1, h2, h3, h4, hs, e⟩ := h
    have ht : P.readableRec t = true ∧ t < P.types.size := by
      cases hg : P.globals[g]? with
      | none => rw [hg] at h2; cases h2
      | some gl =>
        rw [hg] at h2
        obtain rfl : gl.type = t := Option.some.inj h2
        exact hv n List.mem_cons_self g gl h1 hg
    have hp : ∀ x ∈ p, x.block < W.heap.size := fun x hx => hlt x (by rw [e]; simp [hx])
    have h3' : W'.var? P n = some cs := by
      unfold World.var? at h3 ⊢
      rw [h1] at h3 ⊢
      simp only [Option.bind_some] at h3 ⊢
      have hg : g < W.heap.size := by
        cases hh : W.heap[g]? with
        | none => rw [hh] at h3; cases h3
        | some o => exact (Array.getElem?_eq_some_iff.1 hh).1
      rw [hb.block g hg]; exact h3
    obtain ⟨f2, h5⟩ := WideElems.Trod_stays hl ht.1 ht.2 (v := .agg cs) ⟨fuel, h4⟩ (fun x hx => hb.same (hp x hx)) (fun x hx => hsp x (by rw [e]; simp [hx]))
    exact ⟨g, t, cs, f2, p, q, h1, h2, h3', h5,
      trodVars_stays hl hb (fun m hm => hv m (List.mem_cons_of_mem _ hm)) hs (fun x hx => hsp x (by rw [e]; simp [hx])), e⟩

theorem trodVars_len {sp : Nat → Bool} : ∀ {ns : List String} {gs : List (DataW H)} {ps : List MemPlace}, DataW.TrodVars enc P w sp ns gs ps → gs.length = ns.length
  | [], [], _, _ => rfl
  | [], _ :: _, _, h => h.elim
  | _ :: _, [], _, h => h.elim
  | n :: ns, d :: ds, ps, h => by
    obtain ⟨g, t, cs, fuel, p, q, h1, h2, h3, h4, hs, e⟩ := h
    simp [trodVars_len hs]

/-- A law's step, where some package-level variables are known. -/
theorem law_step_laid {f : FuncId} {fn : Func} {s : ChangeSpec} {apart fresh handsOn again : Bool} {tb : TypeId} {G : List (Nat × PV)} (hlaid : laidOutB P = true) (hread : ∀ t, t ∈ fn.params.toList → P.readableRec t = true ∧ t < P.types.size)
    (hleaf : ∀ t, t ∈ fn.params.toList → ∃ ls, leaves P 12 t = some ls) (hvars : ∀ n, n ∈ s.vars → ∀ g gl, P.globalNamed n = some g → P.globals[g]? = some gl → P.readableRec gl.type = true ∧ gl.type < P.types.size) (hres : fn.resultTypes = #[tb]) (htb : P.underlying tb = some .bool)
    (hs : ∀ ds gs : List (DataW H), ds.length = fn.params.size → gs.length = s.vars.length → s.fn H (ds ++ gs) = { results := [.lit (.bool true)], args := ds, vars := gs })
    (hlaw : ∀ xs, Args P fn.params.toList xs → PRet P G f xs (AB true))
    (W : World) (base : Nat) (args : Array Value) (ds gs : List (DataW H)) (before : List MemPlace)
    (hval : ∀ (j : Nat) t v, fn.params[j]? = some t → args[j]? = some v → Value.okWide P W .any base t v)
    (hW : DataW.Whole enc P fn.params.toList s.vars apart W args.toList ds gs before)
    (hG : ∀ g c, look G g = some c → RepP (fun _ => True) W c (.pointer (some ⟨g, 0, none⟩))) :
    Calls P f args W fun e W' => ∃ v, e = .returned v ∧ s.post enc P fn apart fresh handsOn again W args v W' := by
  have hW' := hW
  obtain ⟨p, q, hA, hV, rfl, hfz, hnd⟩ := hW
  obtain ⟨ys, h1, h2, h3⟩ := open_args hA hleaf (fun j t v hj hv => hval j t v (by simpa using hj) (by simpa using hv))
  have hcall := (hlaw ys h1).calls (w := W) (vs := args) (by simpa using h2) (fun j c hj => by
    have := h3 j c hj
    rwa [show args.toList.getD j undef = args.getD j undef by simp [List.getD_eq_getElem?_getD, Array.getD_eq_getD_getElem?]] at this) hG
  refine hcall.mono fun e W' ⟨he, hb⟩ => ⟨.bool true, he, ?_⟩
  have hlen := trodAll_len hA
  have hfn := hs ds gs (by simpa using hlen) (trodVars_len hV)
  have hlt : ∀ x ∈ p ++ q, x.block < W.heap.size := fun x hx => hW'.lt x hx
  refine post_of_old (pa := p) (pv := q) hW' (fun b sp hd => ?_) (fun sp hsp => ?_) (fun sp hsp => ?_) rfl hb ?_
  · rw [hfn, hres]
    exact trodAll_cons_mk (shut_bool htb _) trodAll_mk0
  · rw [hfn]
    exact trodAll_stays hlaid hb hA hread (fun x hx => hlt x (List.mem_append_left _ hx)) (fun x hx => hsp x (List.mem_append_left _ hx))
  · rw [hfn]
    exact trodVars_stays hlaid hb hvars hV (fun x hx => hsp x (List.mem_append_right _ hx))
  · exact ok_one hres rfl (okWide_bool_mk htb _)

/-- A row of words, as data. -/
abbrev strRow (l : List ByteArray) : PV := .sl true 1 l.length fun i _ => .v (.string (l.getD i ByteArray.empty))

theorem strs_of_trod {t e : TypeId} {base : Nat} {sp : Nat → Bool} {held : Bool} {fuel : Nat} {cs : List Value} {p : List MemPlace} {l : List ByteArray} (hl : l ≠ []) (ht : P.underlying t = some (.slice e)) (he : P.underlying e = some .string) (hsz : P.cellsOf e = 1)
    (h : DataW.trod enc P w base sp held fuel t cs = some (.slice (l.map fun s => .lit (.string s.data.toList)) [], p)) : ∃ v, cs = [v] ∧ RepP (fun _ => True) w (strRow l) v := by
  rcases DataW.trod_slice ht h with ⟨_, hx⟩ | ⟨a, len, cap, elems, rest, n', rfl, rfl, hx, _, hlc, hcm, hel, hcell, _⟩
  · cases hx
  · refine ⟨_, rfl, ?_⟩
    simp only [Prod.mk.injEq, DataW.slice.injEq] at hx
    obtain ⟨⟨hx1, _⟩, _⟩ := hx
    have hlen : l.length = len := by
      rw [← hel]
      have := congrArg List.length hx1
      simpa using this
    have key : ∀ i, i < len → w.cell? ((a.add i).add 0) = some (.string (l.getD i ByteArray.empty)) := fun i hi => by
      have h1 := hcell i hi
      rw [List.getElem?_eq_getElem (by omega), Option.bind_eq_some_iff] at h1
      obtain ⟨cs', h2, h3⟩ := h1
      rw [hsz, Nat.mul_one] at h2
      obtain ⟨s, rfl, h4, _⟩ := DataW.trod_string he h3
      have h5 := (cells_spec h2).2 0 (by decide)
      simp only [List.getElem?_cons_zero] at h5
      have h6 : (elems[i]'(by omega)).1 = .lit (.string s.data.toList) := by rw [h4]
      have h7 : (l.map fun s => (DataW.lit (.string s.data.toList) : DataW H))[i]? = some (.lit (.string s.data.toList)) := by
        rw [hx1, List.getElem?_map, List.getElem?_eq_getElem (by omega), Option.map_some, h6]
      rw [List.getElem?_map, List.getElem?_eq_getElem (by omega), Option.map_some] at h7
      simp only [Option.some.injEq, DataW.lit.injEq, Lit.string.injEq] at h7
      have h8 : l[i]'(by omega) = s := by
        have := h7
        cases hs : s with
        | mk d =>
          cases hq : l[i]'(by omega) with
          | mk d' => rw [hs, hq] at this; simp only at this; congr 1; exact Array.toList_inj.1 this
      rw [List.getD_eq_getElem?_getD, List.getElem?_eq_getElem (by omega), Option.getD_some, h8]
      exact h5
    have hspot : a.spot = none := by
      have h0 : 0 < len := by
        rw [← hlen]
        exact List.length_pos_iff.2 hl
      have := World.cell?_spot (key 0 h0)
      simpa [Addr.add] using this
    obtain ⟨b, off, spt⟩ := a
    simp only at hspot
    subst hspot
    rw [show strRow l = .sl true 1 len fun i _ => .v (.string (l.getD i ByteArray.empty)) by rw [strRow, hlen]]
    refine .sl true 1 len _ b off cap (fun i _ => .string (l.getD i ByteArray.empty)) (fun i j hi hj => ?_) (fun i j hi hj => .v _) (fun _ _ _ _ => trivial) hlc
    obtain rfl : j = 0 := by omega
    have h1 := key i hi
    rw [addr_add, addr_add] at h1
    simpa using h1
end
end Go.Gw
