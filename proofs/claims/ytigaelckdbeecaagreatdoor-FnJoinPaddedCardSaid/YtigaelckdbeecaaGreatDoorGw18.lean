/- Calls; from the program's code to operations with their types resolved; with no condition. -/
import Derived.Test.YtigaelckdbeecaaGreatDoorGw16
namespace Go.Gw
open Go
set_option linter.unusedVariables false
set_option linter.unusedSimpArgs false
section
variable {P : Program} {cx : Cx} {ι : Nat → Value} {ow : Nat → Option Nat} {s : St} {a : Act} {w : World} {d : Nat}
theorem rep_args' (hm : Models cx ι ow s a w) (args : Array Operand) : ∀ j c, (args.toList.map (opd cx.G s))[j]? = some c → RepA (zF cx ow) (zZ cx ow) ι w c ((args.map a.eval).getD j undef) := by
  intro j c hj
  simp only [List.getElem?_map, Option.map_eq_some_iff] at hj
  obtain ⟨x, hx, rfl⟩ := hj
  have : (args.map a.eval).getD j undef = a.eval x := by
    simp only [Array.getElem?_toList] at hx
    simp [Array.getD_eq_getD_getElem?, hx]
  rw [this]
  exact eval_rep hm x
theorem sound_call {f : FuncId} {args : Array Operand} {ts : Array TypeId} : Sound P cx (.call { callee := .value (.func f), args := args, argTypes := ts }) (.call f args.toList) := by
  intro det ι ow s a w d K hm h hfr o ho next Q hnx
  simp only [IOp.opds, res, Cnd.holds] at h
  unfold Oper.wp
  have : (execOp a.eval o).run P w = (callFunc f (args.map a.eval)).run P w := by
    simp [execOp, ho, resolve, Deferred.ofValue, Act.eval, invoke]
  rw [this]
  exact call_upon hm h (fun e he => hfr e he) (by simp) (rep_args' hm args) (fun ι' ow' c u v w' hk hm' hr => hnx ι' ow' c u v w' hk hm' hr)
theorem rep_append {F Z : Nat → Prop} {as bs : List AV} {xs ys : Array Value} (h1 : xs.size = as.length) (ha : ∀ j c, as[j]? = some c → RepA F Z ι w c (xs.getD j undef))
    (hb : ∀ j c, bs[j]? = some c → RepA F Z ι w c (ys.getD j undef)) : ∀ j c, (as ++ bs)[j]? = some c → RepA F Z ι w c ((xs ++ ys).getD j undef) := by
  intro j c hj
  rw [getD_append, h1]
  rw [List.getElem?_append] at hj
  split at hj
  · rename_i hlt; rw [if_pos hlt]; exact ha j c hj
  · rename_i hlt; rw [if_neg hlt]; exact hb _ c hj
theorem sound_callv {x : Operand} {args : Array Operand} {ts : Array TypeId} : Sound P cx (.call { callee := .value x, args := args, argTypes := ts }) (.callv x args.toList) := by
  intro det ι ow s a w d K hm h hfr o ho next Q hnx
  simp only [IOp.opds, List.map_cons, res] at h
  unfold Oper.wp
  have hrun : ∀ f fs cs, a.eval x = .func (.func f) fs cs → (execOp a.eval o).run P w = (callFunc f (fs ++ args.map a.eval ++ cs)).run P w := by
    intro f fs cs he
    simp [execOp, ho, resolve, Deferred.ofValue, he, invoke]
  have h1 := eval_rep hm x
  split at h
  · rename_i f p q as hvs
    simp only [List.cons.injEq] at hvs
    rw [hvs.1] at h1
    simp only [Cnd.holds] at h
    generalize he : a.eval x = y at h1
    cases h1 with
    | cl _ _ _ fs cs h1 h2 h3 h4 =>
      rw [hrun f fs cs he]
      rw [← hvs.2] at h
      exact call_upon hm h (fun e he => hfr e he) (by simp [h1, h2]) (rep_append (by simp [h1]) (rep_append h1 h3 (rep_args' hm args)) h4) (fun ι' ow' c u v w' hk hm' hr => hnx ι' ow' c u v w' hk hm' hr)
  · rename_i fr f p q as hvs
    simp only [List.cons.injEq] at hvs
    rw [hvs.1, rep_p] at h1
    simp only [Cnd.holds] at h
    generalize he : a.eval x = y at h1
    cases h1 with
    | cl _ _ _ fs cs h1 h2 h3 h4 =>
      rw [hrun f fs cs he]
      rw [← hvs.2] at h
      refine call_upon hm h (fun e he => hfr e he) (by simp [h1, h2]) (rep_append (by simp [h1]) (rep_append (by simp [h1]) (fun j c hj => ?_) (rep_args' hm args)) (fun j c hj => ?_)) (fun ι' ow' c u v w' hk hm' hr => hnx ι' ow' c u v w' hk hm' hr)
      · simp only [List.getElem?_map, Option.map_eq_some_iff] at hj
        obtain ⟨d, hd, rfl⟩ := hj
        exact rep_p.2 (h3 j d hd)
      · simp only [List.getElem?_map, Option.map_eq_some_iff] at hj
        obtain ⟨d, hd, rfl⟩ := hj
        exact rep_p.2 (h4 j d hd)
  · exact h.elim
theorem sound_bad {op : Op} {l : List Operand} : Sound P cx op (.bad l) := by
  intro det ι ow s a w d K hm h
  simp only [res, Cnd.holds] at h
end
def szOf (P : Program) (t : TypeId) : Option Nat := (P.info? t).map (·.size)
def scalD : TypeDesc → Bool
  | .int _ => true
  | .bool => true
  | .string => true
  | _ => false
def scalV : Value → Bool
  | .int _ _ => true
  | .bool _ => true
  | .string _ => true
  | _ => false
def scalE (d : TypeDesc) (z : Value) : Bool := match scalD d with
  | true => true
  | false => z.cells.toList.all scalV
def compBuiltin (P : Program) (b : Builtin) (args : List Operand) (ts : List TypeId) : IOp :=
  match b, args, ts with
  | .len, [x], [t] => match P.underlying t with
    | some (.slice _) => .len x
    | some .string => .lenS x
    | some (.map _ _) => .lenM x
    | _ => .bad args
  | .append, [x, y], [t, u] => match decide (u = t) with
    | true => match P.underlying t with
      | some (.slice e) => match P.info? e, P.underlying e with
        | some i, some de => match i.zero with
          | some z => match decide (z.cells.size = i.size) with
            | true => .app i.size i.bytes (scalE de z) x y
            | false => .bad args
          | none => .bad args
        | _, _ => .bad args
      | _ => .bad args
    | false => .bad args
  | .min, [x, y], [_, _] => .mm false x y
  | .max, [x, y], [_, _] => .mm true x y
  | _, _, _ => .bad args
def compCall (P : Program) (c : Call) : IOp :=
  match c.callee with
  | .builtin b => compBuiltin P b c.args.toList c.argTypes.toList
  | .value (.func f) => .call f c.args.toList
  | .value x => .callv x c.args.toList
  | .invoke _ _ => .bad c.args.toList
def compEq (P : Program) (neq : Bool) (t : TypeId) (x y : Operand) : IOp := match P.underlying t with
  | some (.struct _) => match P.stoodInHeld t with
    | true => .bad [x, y]
    | false => match P.eqGuardType P.depth t with
      | true => .bad [x, y]
      | false => match fieldKs P (P.fieldsOf t).toList 0 with
        | some ks => .eqA neq ks x y
        | none => .bad [x, y]
  | _ => .bad [x, y]
def compBin (P : Program) (op : BinOp) (t : TypeId) (x y : Operand) : IOp :=
  match P.underlying t with
  | some (.int _) => .bin op x y
  | some .string => .bin op x y
  | some .bool => .binB op x y
  | some (.slice _) => match y with
    | .const (.slice none 0 0) => match op with
      | .neq => .isNil true x
      | .eql => .isNil false x
      | _ => .bad [x, y]
    | _ => .bad [x, y]
  | some (.struct _) => match op with
    | .neq => compEq P true t x y
    | .eql => compEq P false t x y
    | _ => .bad [x, y]
  | _ => .bad [x, y]
def compConv (P : Program) (t u : TypeId) (x : Operand) : IOp :=
  match P.underlying t, P.underlying u with
  | some (.int _), some (.int k) => .conv k x
  | some (.slice e), some .string => match P.underlying e with
    | some (.int .u8) => .b2s x
    | _ => .bad [x]
  | _, _ => .bad [x]
def intKey (P : Program) (t : TypeId) : Bool := match P.underlying t with
  | some (.map kt _) => match P.underlying kt with
    | some (.int _) => true
    | _ => false
  | _ => false
def zeroOf (P : Program) (t : TypeId) : Option Value := match P.info? t with
  | some i => i.zero
  | none => none
def compLook (P : Program) (t : TypeId) (x y : Operand) : IOp := match P.underlying t with
  | some (.map kt et) => match P.underlying kt, zeroOf P et with
    | some (.int _), some z => .lookM z x y
    | _, _ => .bad [x, y]
  | _ => .bad [x, y]
def fieldOf (P : Program) (t : TypeId) (i : Nat) : Option (Nat × TypeDesc × Nat) := match P.underlying t with
  | some (.struct fs) => match fs[i]? with
    | some f => match P.underlying f.type, szOf P f.type with
      | some td, some n => some (f.offset, td, n)
      | _, _ => none
    | none => none
  | _ => none
def buildOf (P : Program) (t : TypeId) (parts : List (Nat × Operand)) : Option (List Value × List (Nat × Nat × Operand)) := match P.underlying t with
  | some (.struct fs) => match zeroOf P t, fs.toList.mapM (fun f => (P.info? f.type).map fun i => (f.offset, i.size)) with
    | some z, some places => match parts.mapM (fun p => (places[p.1]?).map fun q => (q.1, q.2, p.2)) with
      | some ps => some (z.cells.toList, ps)
      | none => none
    | _, _ => none
  | _ => none
def elemOf (P : Program) (t : TypeId) : Option (Nat × Nat × List Value) := match P.underlying t with
  | some (.slice e) => match P.info? e with
    | some i => match i.zero with
      | some z => some (i.size, i.bytes, z.cells.toList)
      | none => none
    | none => none
  | _ => none
def compOp (P : Program) : Op → IOp
  | .move x => .mov x
  | .assign x => .mov x
  | .pick c a b => .pick c a b
  | .binOp op t x y _ => compBin P op t x y
  | .unOp op _ x => .un op x
  | .box t x => match szOf P t with
    | some n => .box n x
    | none => .bad []
  | .alloc t => match zeroOf P t with
    | some z => .alloc z.cells.toList
    | none => .bad []
  | .build t ps => match buildOf P t ps.toList with
    | some (z, ps) => .build z ps
    | none => .bad []
  | .buildSlice t len ps => match elemOf P t with
    | some (esz, _, z) => .mkSl esz len z ps.toList
    | none => .bad []
  | .load t x => match P.underlying t, szOf P t with
    | some d, some n => .load (aggD d) n x
    | _, _ => .bad []
  | .store t x y => match szOf P t with
    | some n => .store n x y
    | none => .bad []
  | .nilCheck x => .nilck x
  | .convert t u x => compConv P t u x
  | .makeMap t r => match r with
    | none => .mkM
    | some _ => .bad []
  | .makeSlice t x y => match elemOf P t with
    | some (esz, bytes, z) => .mkSlc esz bytes z x y
    | none => .bad []
  | .slice t x lo hi mx => match mx with
    | none => match P.underlying t with
      | some (.slice e) => match szOf P e with
        | some n => .slc n x lo hi
        | none => .bad []
      | _ => .bad []
    | some _ => .bad []
  | .fieldAddr t x i => match fieldOf P t i with
    | some (off, _, n + 1) => .fadr off x
    | _ => .bad []
  | .field t x i => match fieldOf P t i with
    | some (off, td, n) => .fval (aggD td) off n x
    | none => .bad []
  | .indexAddr t x i => match P.underlying t with
    | some (.slice e) => match szOf P e with
      | some n => .idx n x i
      | none => .bad []
    | _ => .bad []
  | .index t x i => match P.underlying t with
    | some .string => .idxS x i
    | _ => .bad []
  | .lookup t x i ok => match ok with
    | false => compLook P t x i
    | true => .bad []
  | .mapUpdate t x i v => match intKey P t with
    | true => .updM x i v
    | false => .bad []
  | .extract x i => .ext x i
  | .makeFunc fn fs cs => match fn with
    | .func f => .mkFn f fs.toList cs.toList
    | _ => .bad []
  | .call c => compCall P c
  | _ => .bad []
section
variable {P : Program} {cx : Cx}
theorem sound_builtin {b : Builtin} {args : Array Operand} {ts : Array TypeId} : Sound P cx (.call { callee := .builtin b, args := args, argTypes := ts }) (compBuiltin P b args.toList ts.toList) := by
  unfold compBuiltin
  split
  · rename_i x t h1 h2
    obtain rfl : args = #[x] := by rw [← Array.toList_inj]; exact h1
    obtain rfl : ts = #[t] := by rw [← Array.toList_inj]; exact h2
    split
    · rename_i e ht; exact sound_len ht
    · rename_i ht; exact sound_lenS ht
    · rename_i k e ht; exact sound_lenM ht
    · exact sound_bad
  · rename_i x y t u h1 h2
    obtain rfl : args = #[x, y] := by rw [← Array.toList_inj]; exact h1
    obtain rfl : ts = #[t, u] := by rw [← Array.toList_inj]; exact h2
    split
    · rename_i hut
      obtain rfl : u = t := by simpa using hut
      split
      · rename_i e ht
        split
        · rename_i i de hi hde
          split
          · rename_i z hz
            split
            · rename_i hzs; exact sound_app ht hi hz (by simpa using hzs)
            · exact sound_bad
          · exact sound_bad
        · exact sound_bad
      · exact sound_bad
    · exact sound_bad
  · rename_i x y t u h1 h2
    obtain rfl : args = #[x, y] := by rw [← Array.toList_inj]; exact h1
    obtain rfl : ts = #[t, u] := by rw [← Array.toList_inj]; exact h2
    exact sound_mm (mx := false)
  · rename_i x y t u h1 h2
    obtain rfl : args = #[x, y] := by rw [← Array.toList_inj]; exact h1
    obtain rfl : ts = #[t, u] := by rw [← Array.toList_inj]; exact h2
    exact sound_mm (mx := true)
  · exact sound_bad
theorem sound_compCall {c : Call} : Sound P cx (.call c) (compCall P c) := by
  obtain ⟨callee, args, ts⟩ := c
  unfold compCall
  split
  · rename_i b hb; simp only at hb; subst hb; exact sound_builtin
  · rename_i f hb; simp only at hb; subst hb; exact sound_call
  · rename_i x _ hb; simp only at hb; subst hb; exact sound_callv
  · exact sound_bad
theorem sound_compEq {neq : Bool} {op : BinOp} (ho : op = if neq then .neq else .eql) {t u : TypeId} {x y : Operand} : Sound P cx (.binOp op t x y u) (compEq P neq t x y) := by
  unfold compEq
  split
  · rename_i fs ht
    split
    · exact sound_bad
    · rename_i hp
      split
      · exact sound_bad
      · rename_i hm
        split
        · rename_i ks hk
          rw [ho]; exact sound_eqA (by rw [ht]; simp [Program.fieldsOf, ht]) hp hm hk
        · exact sound_bad
  · exact sound_bad
theorem sound_compBin {op : BinOp} {t u : TypeId} {x y : Operand} : Sound P cx (.binOp op t x y u) (compBin P op t x y) := by
  unfold compBin
  split
  · exact sound_bin
  · exact sound_bin
  · rename_i ht; exact sound_binB ht
  · rename_i e ht
    split
    · split
      · exact sound_isNil (neq := true) ht
      · exact sound_isNil (neq := false) ht
      · exact sound_bad
    · exact sound_bad
  · split
    · exact sound_compEq (neq := true) rfl
    · exact sound_compEq (neq := false) rfl
    · exact sound_bad
  · exact sound_bad
theorem sound_compConv {t u : TypeId} {x : Operand} : Sound P cx (.convert t u x) (compConv P t u x) := by
  unfold compConv
  split
  · rename_i ht hu; exact sound_conv ht hu
  · rename_i e ht hu
    split
    · rename_i he; exact sound_b2s ht he hu
    · exact sound_bad
  · exact sound_bad
theorem zeroOf_spec {t : TypeId} {z : Value} (h : zeroOf P t = some z) : ∃ i, P.info? t = some i ∧ i.zero = some z := by
  unfold zeroOf at h
  split at h
  · rename_i i hi; exact ⟨i, hi, h⟩
  · cases h
theorem sound_compLook {t : TypeId} {x y : Operand} : Sound P cx (.lookup t x y false) (compLook P t x y) := by
  unfold compLook
  split
  · rename_i kt et ht
    split
    · rename_i k z hk hz
      obtain ⟨i, hi, hz⟩ := zeroOf_spec hz
      exact sound_lookM ht hk hi hz
    · exact sound_bad
  · exact sound_bad
theorem elemOf_spec {t : TypeId} {esz bytes : Nat} {l : List Value} (h : elemOf P t = some (esz, bytes, l)) : ∃ e i z, P.underlying t = some (.slice e) ∧ P.info? e = some i ∧ i.zero = some z ∧ esz = i.size ∧ bytes = i.bytes ∧ l = z.cells.toList := by
  unfold elemOf at h
  split at h
  · rename_i e he
    split at h
    · rename_i i hi
      split at h
      · rename_i z hz
        simp only [Option.some.injEq, Prod.mk.injEq] at h
        obtain ⟨rfl, rfl, rfl⟩ := h
        exact ⟨e, i, z, he, hi, hz, rfl, rfl, rfl⟩
      · cases h
    · cases h
  · cases h
theorem fieldOf_spec {t : TypeId} {i off n : Nat} {td : TypeDesc} (h : fieldOf P t i = some (off, td, n)) : ∃ fs f, P.underlying t = some (.struct fs) ∧ fs[i]? = some f ∧ off = f.offset ∧ P.underlying f.type = some td ∧ (P.info? f.type).map (·.size) = some n := by
  unfold fieldOf at h
  split at h
  · rename_i fs hfs
    split at h
    · rename_i f hf
      split at h
      · rename_i td' n' h1 h2
        simp only [Option.some.injEq, Prod.mk.injEq] at h
        obtain ⟨rfl, rfl, rfl⟩ := h
        exact ⟨fs, f, hfs, hf, rfl, h1, h2⟩
      · cases h
    · cases h
  · cases h
theorem sound_comp (op : Op) : Sound P cx op (compOp P op) := by
  cases op <;> simp only [compOp]
  case move => exact sound_mov
  case assign => exact sound_assign
  case pick => exact sound_pick
  case binOp => exact sound_compBin
  case unOp => exact sound_un
  case box => split <;> first | exact sound_box | exact sound_bad
  case alloc =>
    split
    · rename_i z hz
      obtain ⟨i, hi, hz⟩ := zeroOf_spec hz
      exact sound_alloc hi hz
    · exact sound_bad
  case build t parts =>
    split
    · rename_i z ps h
      unfold buildOf at h
      split at h
      · rename_i fs hfs
        split at h
        · rename_i z' places hz hpl
          split at h
          · rename_i ps' hps
            simp only [Option.some.injEq, Prod.mk.injEq] at h
            obtain ⟨rfl, rfl⟩ := h
            obtain ⟨i, hi, hz⟩ := zeroOf_spec hz
            exact sound_build hfs hi hz hpl hps
          · cases h
        · cases h
      · cases h
    · exact sound_bad
  case buildSlice =>
    split
    · rename_i h
      obtain ⟨e, i, z, h1, h2, h3, rfl, rfl, rfl⟩ := elemOf_spec h
      exact sound_mkSl h1 h2 h3
    · exact sound_bad
  case load =>
    split
    · rename_i h1 h2; exact sound_load h1 h2
    · exact sound_bad
  case store =>
    split
    · rename_i h; exact sound_store h
    · exact sound_bad
  case nilCheck => exact sound_nilck
  case convert => exact sound_compConv
  case makeMap =>
    split
    · exact sound_mkM
    · exact sound_bad
  case makeSlice =>
    split
    · rename_i h
      obtain ⟨e, i, z, h1, h2, h3, rfl, rfl, rfl⟩ := elemOf_spec h
      exact sound_mkSlc h1 h2 h3
    · exact sound_bad
  case slice =>
    split
    · split
      · rename_i ht
        split
        · rename_i hn; exact sound_slc ht hn
        · exact sound_bad
      · exact sound_bad
    · exact sound_bad
  case fieldAddr =>
    split
    · rename_i h
      obtain ⟨fs, f, h1, h2, rfl, h3, h4⟩ := fieldOf_spec h
      exact sound_fadr h1 h2 h4 (by omega)
    · exact sound_bad
  case field =>
    split
    · rename_i h
      obtain ⟨fs, f, h1, h2, rfl, h3, h4⟩ := fieldOf_spec h
      exact sound_fval h1 h2 h3 h4
    · exact sound_bad
  case indexAddr =>
    split
    · rename_i ht
      split
      · rename_i hn; exact sound_idx ht hn
      · exact sound_bad
    · exact sound_bad
  case index =>
    split
    · rename_i ht; exact sound_idxS ht
    · exact sound_bad
  case lookup =>
    split
    · exact sound_compLook
    · exact sound_bad
  case mapUpdate =>
    split
    · rename_i h
      unfold intKey at h
      split at h
      · rename_i kt et ht
        split at h
        · rename_i k hk; exact sound_updM ht hk
        · cases h
      · cases h
    · exact sound_bad
  case extract => exact sound_ext
  case makeFunc =>
    split
    · exact sound_mkFn
    · exact sound_bad
  case call => exact sound_compCall
  all_goals exact sound_bad
end
end Go.Gw
namespace Go.Gw
open Go
set_option linter.unusedVariables false
set_option linter.unusedSimpArgs false
structure IOpr where
  d : Option Nat
  g : Option (Nat × Bool)
  op : IOp
def noidL (e : List (Nat × AV)) (i : Nat) : Bool := match e with
  | [] => true
  | x :: r => match x.2.noid i with
    | true => noidL r i
    | false => false
def noidH (e : List (Nat × Ob)) (i : Nat) : Bool := match e with
  | [] => true
  | x :: r => match x.2.noid i with
    | true => noidH r i
    | false => false
def St.noidB (s : St) (i : Nat) : Bool := match noidL s.env i with
  | true => match noidH s.H i with
    | true => Nat.blt i hbs
    | false => false
  | false => false
theorem noidL_spec {i : Nat} : ∀ {e : List (Nat × AV)}, noidL e i = true → ∀ x, x ∈ e → x.2.noid i = true
  | y :: r, h, x, hx => by
    simp only [noidL] at h
    split at h
    · rename_i hy
      rcases List.mem_cons.1 hx with rfl | hx
      · exact hy
      · exact noidL_spec h x hx
    · cases h
theorem noidH_spec {i : Nat} : ∀ {e : List (Nat × Ob)}, noidH e i = true → ∀ x, x ∈ e → x.2.noid i = true
  | y :: r, h, x, hx => by
    simp only [noidH] at h
    split at h
    · rename_i hy
      rcases List.mem_cons.1 hx with rfl | hx
      · exact hy
      · exact noidH_spec h x hx
    · cases h
theorem St.noid_of {s : St} {i : Nat} (h : s.noidB i = true) : s.noid i := by
  unfold St.noidB at h
  split at h
  · rename_i h1
    split at h
    · rename_i h2
      refine ⟨?_, ?_, by simpa [Nat.blt_eq] using h⟩
      · intro t
        unfold St.get
        cases hl : look s.env t with
        | none => rfl
        | some c => exact noidL_spec h1 _ (look_mem hl)
      · intro j o ho
        exact noidH_spec h2 _ (look_mem ho)
    · cases h
  · cases h
def freshB (s : St) : List Nat → Bool
  | [] => true
  | e :: l => match s.noidB e with
    | true => freshB s l
    | false => false
theorem freshB_spec {s : St} : ∀ {l : List Nat}, freshB s l = true → ∀ e, e ∈ l → s.noid e
  | x :: l, h, e, he => by
    simp only [freshB] at h
    split at h
    · rename_i hx
      rcases List.mem_cons.1 he with rfl | he
      · exact St.noid_of hx
      · exact freshB_spec h e he
    · cases h
def AOp (P : Program) (G : List (Nat × PV)) (det : Bool) (s : St) (d : Nat) (K : AV → Upd → Prop) (op : IOp) : Prop :=
  freshB s (op.fresh d) = true ∧ (res s.obj d (op.opds.map (opd G s)) op).holds P G s.obj d det K
def dstOk (n : Nat) : Option Nat → Bool
  | some t => decide (t < n)
  | none => true
def asB : Value → Option Bool
  | .bool b => some b
  | _ => none
def compOper (P : Program) (n : Nat) (ops : Array Oper) (o : Oper) : Option IOpr :=
    if dstOk n o.dst then
      match o.guard with
      | none => some ⟨o.dst, none, compOp P o.op⟩
      | some (j, want) => match (ops[j]?).bind (·.dst) with
        | some t => some ⟨o.dst, some (t, want), compOp P o.op⟩
        | none => none
    else none
def AOps (P : Program) (G : List (Nat × PV)) : List IOpr → St → (St → Prop) → Prop
  | [], s, K => K s
  | o :: r, s, K => match o.g with
    | none => AOp P G false s (o.d.getD 0) (fun c u => AOps P G r ((s.upd u).putD o.d c) K) o.op
    | some (t, want) => match s.get t with
      | .p _ (.v (.bool b)) =>
        (b = want → AOp P G false (s.put t (.p true (.v (.bool want)))) (o.d.getD 0) (fun c u => AOps P G r (((s.put t (.p true (.v (.bool want)))).upd u).putD o.d c) K) o.op) ∧
        (b = !want → AOps P G r ((s.put t (.p true (.v (.bool !want)))).putD o.d (.p true (.v undef))) K)
      | .p _ (.v (.tuple _)) => AOps P G r (s.putD o.d (.p true (.v undef))) K
      | _ => False
theorem yielded_of {ops : Array Oper} {tmps : Array Value} {j t : Nat} (h : (ops[j]?).bind (·.dst) = some t) {v : Value} (hv : tmps.getD t undef = v) :
    yielded ops tmps j = asB v := by
  unfold yielded
  rw [h]
  simp only [Option.bind_some]
  rw [Array.getD_eq_getD_getElem?] at hv
  cases ht : tmps[t]? with
  | none => simp [ht] at hv; subst hv; rfl
  | some x => simp [ht] at hv; subst hv; cases x <;> rfl
theorem wpOps_of {P : Program} {cx : Cx} {ops : Array Oper} {Q : Exit → Act → World → Prop} {K : St → Prop}
    (hK : ∀ ι ow s a w, K s → Models cx ι ow s a w → Q .normal a w) :
    ∀ (l : List Oper) (il : List IOpr) (k : Nat), (∀ j, l[j]? = ops[k + j]?) → l.mapM (compOper P cx.n ops) = some il →
      ∀ ι ow s a w, AOps P cx.G il s K → Models cx ι ow s a w → wpOps P ops Q (List.range' k l.length) a w := by
  intro l
  induction l with
  | nil =>
    intro il k hl hc ι ow s a w h hm
    simp at hc
    subst hc
    exact hK ι ow s a w h hm
  | cons o r ih =>
    intro il k hl hc ι ow s a w h hm
    have h0 : ops[k]? = some o := by simpa using (hl 0).symm
    have hr : ∀ j, r[j]? = ops[k + 1 + j]? := fun j => by have := hl (j + 1); simpa [Nat.add_assoc, Nat.add_comm 1 j] using this
    simp only [List.mapM_cons, Option.bind_eq_bind, Option.bind_eq_some_iff, Option.pure_def, Option.some.injEq] at hc
    obtain ⟨io, hio, il', hil', rfl⟩ := hc
    simp only [List.length_cons, List.range'_succ, wpOps, h0]
    unfold compOper at hio
    split at hio
    · rename_i hd
      have hdst : ∀ t, o.dst = some t → t < cx.n := fun t ht => by rw [ht] at hd; simpa [dstOk] using hd
      have step : ∀ (s : St), Models cx ι ow s a w → AOp P cx.G false s (o.dst.getD 0) (fun c u => AOps P cx.G il' ((s.upd u).putD o.dst c) K) (compOp P o.op) →
          o.wp P a w (wpOps P ops Q (List.range' (k + 1) r.length)) Q := fun s hm h =>
        sound_comp o.op false ι ow s a w (o.dst.getD 0) _ hm h.2 (freshB_spec h.1) o rfl _ _ fun ι' ow' c u v w' hk hm' hrep => ih il' (k + 1) hr hil' ι' ow' _ _ w' hk (hm'.putD hrep hdst)
      split at hio
      · rename_i hg
        cases hio
        have hw : Region.wanted o (yielded ops a.tmps) = true := by simp [Region.wanted, hg]
        rw [if_pos hw]
        exact .inl (step s hm h)
      · rename_i j want hg
        split at hio
        · rename_i t ht
          cases hio
          simp only [AOps] at h
          have henv := hm.env t
          split at h
          · rename_i fr b hb
            rw [hb] at henv
            have hv := rep_v henv
            have hy := yielded_of ht hv
            by_cases hbw : b = want
            · subst hbw
              have hw : Region.wanted o (yielded ops a.tmps) = true := by simp [Region.wanted, hg, hy, asB]
              rw [if_pos hw]
              exact .inl (step _ (hm.redesc (by rw [hv]; exact rep_mkv _)) (h.1 rfl))
            · have hb' : b = !want := by cases b <;> cases want <;> simp_all
              subst hb'
              have hw : Region.wanted o (yielded ops a.tmps) = false := by simp [Region.wanted, hg, hy, asB]
              rw [if_neg (by simp [hw])]
              exact ih il' (k + 1) hr hil' ι ow _ _ w (h.2 rfl) ((hm.redesc (by rw [hv]; exact rep_mkv _)).putD (rep_mkv _) hdst)
          · rename_i fr vs hb
            rw [hb] at henv
            have hv := rep_v henv
            have hy := yielded_of ht hv
            have hw : Region.wanted o (yielded ops a.tmps) = false := by simp [Region.wanted, hg, hy, asB]
            rw [if_neg (by simp [hw])]
            exact ih il' (k + 1) hr hil' ι ow _ _ w h (hm.putD (rep_mkv _) hdst)
          · exact h.elim
        · cases hio
    · cases hio
end Go.Gw
