/- What an operation comes to, as data; regions walked by it; with no condition. -/
import Derived.Test.YtkhdnhdikooncaaFw6d
namespace Go.Fw
open Go
set_option linter.unusedVariables false
set_option linter.unusedSimpArgs false


inductive Cnd where
  | fail
  | val (b : Bool) (p : Option Prop) (c : AV)
  | upd (b : Bool) (p : Option Prop) (c : AV) (u : List (Nat × Option Ob))
  | ite (b : Bool) (c d : AV)
  | call (f : FuncId) (args : List AV) (l : Bool)

def AIv (k : IntKind) (n : Int) : AV := .p true (.v (.int k n))
def ABv (b : Bool) : AV := .p true (.v (.bool b))

def binR (op : BinOp) (k : IntKind) (a : Int) (k' : IntKind) (b : Int) : Cnd :=
  match op with
  | .shl => .val true (some (0 ≤ b)) (.p true (.v (.int k (k.wrap (a * 2 ^ min b.toNat k.bits)))))
  | .shr => .val true (some (0 ≤ b)) (.p true (.v (.int k (a.fdiv (2 ^ min b.toNat k.bits)))))
  | .add => .val (decide (k = k')) none (.p true (.v (.int k (k.wrap (a + b)))))
  | .sub => .val (decide (k = k')) none (.p true (.v (.int k (k.wrap (a - b)))))
  | .mul => .val (decide (k = k')) none (.p true (.v (.int k (k.wrap (a * b)))))
  | .quo => .val (decide (k = k')) (some (b ≠ 0)) (.p true (.v (.int k (k.wrap (a.tdiv b)))))
  | .rem => .val (decide (k = k')) (some (b ≠ 0)) (.p true (.v (.int k (a.tmod b))))
  | .and => .val (decide (k = k')) none (.p true (.v (.int k (k.wrap (BitVec.ofInt k.bits a &&& BitVec.ofInt k.bits b).toNat))))
  | .or => .val (decide (k = k')) none (.p true (.v (.int k (k.wrap (BitVec.ofInt k.bits a ||| BitVec.ofInt k.bits b).toNat))))
  | .xor => .val (decide (k = k')) none (.p true (.v (.int k (k.wrap (BitVec.ofInt k.bits a ^^^ BitVec.ofInt k.bits b).toNat))))
  | .andNot => .val (decide (k = k')) none (.p true (.v (.int k (k.wrap (BitVec.ofInt k.bits a &&& ~~~ BitVec.ofInt k.bits b).toNat))))
  | .eql => .val (decide (k = k')) none (.p true (.v (.bool (a == b))))
  | .neq => .val (decide (k = k')) none (.p true (.v (.bool (a != b))))
  | .lss => .val (decide (k = k')) none (.p true (.v (.bool (decide (a < b)))))
  | .leq => .val (decide (k = k')) none (.p true (.v (.bool (decide (a ≤ b)))))
  | .gtr => .val (decide (k = k')) none (.p true (.v (.bool (decide (b < a)))))
  | .geq => .val (decide (k = k')) none (.p true (.v (.bool (decide (b ≤ a)))))

def strR (op : BinOp) (x y : ByteArray) : Cnd :=
  match op with
  | .add => .val true (some (((x.size + y.size : Nat) : Int) ≤ IntKind.i64.max)) (.p true (.v (.string (x ++ y))))
  | .eql => .val true none (.p true (.v (.bool (x.toList == y.toList))))
  | .neq => .val true none (.p true (.v (.bool !(x.toList == y.toList))))
  | .lss => .val true none (.p true (.v (.bool (Op.bytesLess x.toList y.toList))))
  | .leq => .val true none (.p true (.v (.bool (Op.bytesLess x.toList y.toList || x.toList == y.toList))))
  | .gtr => .val true none (.p true (.v (.bool !(Op.bytesLess x.toList y.toList || x.toList == y.toList))))
  | .geq => .val true none (.p true (.v (.bool !(Op.bytesLess x.toList y.toList))))
  | _ => .fail

def res (G : List (Nat × PV)) (s : St) (d : Nat) : IOp → Cnd
  | .mov x => .val true none (opd G s x)
  | .pick c a b => match opd G s c with
    | .p _ (.v (.bool t)) => .ite t (opd G s a) (opd G s b)
    | _ => .fail
  | .bin op x y => match opd G s x, opd G s y with
    | .p _ (.v (.int k a)), .p _ (.v (.int k' b)) => binR op k a k' b
    | .p _ (.v (.string a)), .p _ (.v (.string b)) => strR op a b
    | _, _ => .fail
  | .binB op x y => match op, opd G s x, opd G s y with
    | .eql, .p _ (.v (.bool a)), .p _ (.v (.bool b)) => .val true none (.p true (.v (.bool (a == b))))
    | .neq, .p _ (.v (.bool a)), .p _ (.v (.bool b)) => .val true none (.p true (.v (.bool (!(a == b)))))
    | _, _, _ => .fail
  | .un op x => match op, opd G s x with
    | .not, .p _ (.v (.bool a)) => .val true none (.p true (.v (.bool !a)))
    | .neg, .p _ (.v (.int k a)) => .val true none (.p true (.v (.int k (k.wrap (0 - a)))))
    | _, _ => .fail
  | .load agg n x => match opd G s x with
    | .p fr (.pp m h) => if agg then .val (decide (n ≤ m)) none (.ag ((List.range n).map fun j => AV.mk fr (h j))) else .val (decide (n ≤ m) && decide (n = 1)) none (AV.mk fr (h 0))
    | .adr i off => match s.obj i with
      | some (.box cs) => if agg then .val (decide (off + n ≤ cs.length)) none (.ag ((cs.drop off).take n)) else .val (decide (off + n ≤ cs.length) && decide (n = 1)) none (cs.getD off default)
      | _ => .fail
    | .elt i esz k off => match s.obj i with
      | some (.row fr esz' m g) => if agg then .val (decide (esz = esz') && decide (off + n ≤ esz)) (some (k < m)) (.ag ((List.range n).map fun j => AV.mk fr (g k (off + j))))
          else .val (decide (esz = esz') && decide (off + n ≤ esz) && decide (n = 1)) (some (k < m)) (AV.mk fr (g k off))
      | _ => .fail
    | _ => .fail
  | .fadr off x => match opd G s x with
    | .p fr (.pp m h) => .val true none (.p fr (.pp (m - off) (fun j => h (off + j))))
    | .adr i o => .val true none (.adr i (o + off))
    | .elt i esz k o => .val true none (.elt i esz k (o + off))
    | _ => .fail
  | .idx esz x i => match opd G s i with
    | .p _ (.v (.int _ n)) => match opd G s x with
      | .p fr (.sl _ esz' m g) => .val (decide (esz = esz')) (some (0 ≤ n ∧ n.toNat < m)) (.p fr (.pp esz (g n.toNat)))
      | .own j => match s.obj j with
        | some (.row _ esz' m _) => .val (decide (esz = esz')) (some (0 ≤ n ∧ n.toNat < m)) (.elt j esz n.toNat 0)
        | _ => .fail
      | _ => .fail
    | _ => .fail
  | .len x => match opd G s x with
    | .p _ (.sl _ _ n _) => .val true none (.p true (.v (.int .i64 n)))
    | .p _ (.v (.slice _ n _)) => .val true none (.p true (.v (.int .i64 n)))
    | .own j => match s.obj j with
      | some (.row _ _ n _) => .val true none (.p true (.v (.int .i64 n)))
      | _ => .fail
    | _ => .fail
  | .lenS x => match opd G s x with
    | .p _ (.v (.string b)) => .val true none (.p true (.v (.int .i64 b.size)))
    | _ => .fail
  | .ext x i => match opd G s x with
    | .tp cs => match cs[i]? with
      | some c => .val true none c
      | none => .fail
    | _ => .fail
  | .mkFn f a b => .val true none (.cl f (a.map (opd G s)) (b.map (opd G s)))
  | .call f args => .call f (AV.views s.obj (args.map (opd G s))) (AV.lents (args.map (opd G s)))
  | .callv x args => match opd G s x with
    | .cl f a b => .call f (AV.views s.obj (a ++ args.map (opd G s) ++ b)) (AV.lents (a ++ args.map (opd G s) ++ b))
    | .p fr (.cl f a b) => .call f (AV.views s.obj (a.map (AV.p fr) ++ args.map (opd G s) ++ b.map (AV.p fr))) (AV.lents (a.map (AV.p fr) ++ args.map (opd G s) ++ b.map (AV.p fr)))
    | _ => .fail
  | .box n x => .upd (s.noidB d && decide ((opd G s x).cells.length = n) && ((opd G s x).cells.all fun c => c.one s.obj)) none (.adr d 0) [(d, none), (d, some (.box (opd G s x).cells))]
  | .alloc zero => .upd (s.noidB d) none (.adr d 0) [(d, none), (d, some (.box (zero.map fun v => .p true (.v v))))]
  | _ => .fail

def opt : Option Prop → Prop
  | none => True
  | some p => p

/-- What a description says of a continuation. -/
def Cnd.holds (P : Program) (G : List (Nat × PV)) (det : Bool) (K : AV → List (Nat × Option Ob) → Prop) : Cnd → Prop
  | .fail => False
  | .val b p c => b = true ∧ opt p ∧ K c []
  | .upd b p c u => b = true ∧ opt p ∧ K c u
  | .ite b c d => (b = true → K c []) ∧ (b = false → K d [])
  | .call f args l => ACall P G det f args l (fun c => K c [])

theorem binR_ok {P : Program} {G : List (Nat × PV)} {det : Bool} {op : BinOp} {k : IntKind} {a : Int} {k' : IntKind} {b : Int} {K : AV → List (Nat × Option Ob) → Prop}
    (h : (binR op k a k' b).holds P G det K) : binI op k a k' b fun v => K (.p true (.v v)) [] := by
  cases op <;> simp only [binR, Cnd.holds, opt, decide_eq_true_eq] at h <;> simp only [binI]
  case shl => exact ⟨h.2.1, h.2.2⟩
  case shr => exact ⟨h.2.1, h.2.2⟩
  case quo => exact ⟨h.1, h.2.1, h.2.2⟩
  case rem => exact ⟨h.1, h.2.1, h.2.2⟩
  all_goals exact ⟨h.1, h.2.2⟩

theorem strR_ok {P : Program} {G : List (Nat × PV)} {det : Bool} {op : BinOp} {a b : ByteArray} {K : AV → List (Nat × Option Ob) → Prop}
    (h : (strR op a b).holds P G det K) : binS op a b fun v => K (.p true (.v v)) [] := by
  cases op <;> simp only [strR, Cnd.holds, opt] at h <;> simp only [binS]
  case add => exact h.2
  all_goals first
    | exact h.elim
    | exact h.2.2

theorem res_ok {P : Program} {G : List (Nat × PV)} {det : Bool} {s : St} {d : Nat} {op : IOp} {K : AV → List (Nat × Option Ob) → Prop} (h : (res G s d op).holds P G det K) :
    match op.isW with
    | true => AW nB G s d K op
    | false => AQ P G det s (fun c => K c []) op := by
  cases op <;> simp only [res] at h <;> simp only [IOp.isW, AQ, AW]
  case mov => exact h.2.2
  case mkFn => exact h.2.2
  case call => exact h
  case callv =>
    split at h
    · rename_i hx; rw [hx]; exact h
    · rename_i hx; rw [hx]; exact h
    · exact h.elim
  case pick =>
    split at h
    · rename_i hx; rw [hx]; exact h
    · exact h.elim
  case bin =>
    split at h
    · rename_i hx hy; rw [hx, hy]; exact binR_ok h
    · rename_i hx hy; rw [hx, hy]; exact strR_ok h
    · exact h.elim
  case binB =>
    split at h
    · rename_i hx hy; rw [hx, hy]; exact h.2.2
    · rename_i hx hy; rw [hx, hy]; exact h.2.2
    · exact h.elim
  case un =>
    split at h
    · rename_i hx; rw [hx]; exact h.2.2
    · rename_i hx; rw [hx]; exact h.2.2
    · exact h.elim
  case load =>
    split at h
    · rename_i hx
      rw [hx]
      split at h
      · rename_i he
        simp only [Cnd.holds, decide_eq_true_eq] at h
        refine ⟨h.1, ?_⟩; rw [if_pos he]; exact h.2.2
      · rename_i he
        simp only [Cnd.holds, Bool.and_eq_true, decide_eq_true_eq] at h
        refine ⟨h.1.1, ?_⟩; rw [if_neg he]; exact ⟨h.1.2, h.2.2⟩
    · rename_i hx
      rw [hx]
      split at h
      · rename_i ho
        simp only [ho]
        split at h
        · rename_i he
          simp only [Cnd.holds, decide_eq_true_eq] at h
          refine ⟨h.1, ?_⟩; rw [if_pos he]; exact h.2.2
        · rename_i he
          simp only [Cnd.holds, Bool.and_eq_true, decide_eq_true_eq] at h
          refine ⟨h.1.1, ?_⟩; rw [if_neg he]; exact ⟨h.1.2, h.2.2⟩
      · exact h.elim
    · rename_i hx
      rw [hx]
      split at h
      · rename_i ho
        simp only [ho]
        split at h
        · rename_i he
          simp only [Cnd.holds, Bool.and_eq_true, decide_eq_true_eq, opt] at h
          refine ⟨h.1.1, h.2.1, h.1.2, ?_⟩; rw [if_pos he]; exact h.2.2
        · rename_i he
          simp only [Cnd.holds, Bool.and_eq_true, decide_eq_true_eq, opt] at h
          refine ⟨h.1.1.1, h.2.1, h.1.1.2, ?_⟩; rw [if_neg he]; exact ⟨h.1.2, h.2.2⟩
      · exact h.elim
    · exact h.elim
  case fadr =>
    split at h
    · rename_i hx; rw [hx]; exact h.2.2
    · rename_i hx; rw [hx]; exact h.2.2
    · rename_i hx; rw [hx]; exact h.2.2
    · exact h.elim
  case idx =>
    split at h
    · rename_i hi
      rw [hi]
      split at h
      · rename_i hx
        simp only [Cnd.holds, decide_eq_true_eq, opt] at h
        simp only [hx]; exact ⟨h.1, h.2.1.1, h.2.1.2, h.2.2⟩
      · rename_i hx
        simp only [hx]
        split at h
        · rename_i ho
          simp only [Cnd.holds, decide_eq_true_eq, opt] at h
          simp only [ho]; exact ⟨h.1, h.2.1.1, h.2.1.2, h.2.2⟩
        · exact h.elim
      · exact h.elim
    · exact h.elim
  case len =>
    split at h
    · rename_i hx; rw [hx]; exact h.2.2
    · rename_i hx; rw [hx]; exact h.2.2
    · rename_i hx
      rw [hx]
      split at h
      · rename_i ho; simp only [ho]; exact h.2.2
      · exact h.elim
    · exact h.elim
  case lenS =>
    split at h
    · rename_i hx; rw [hx]; exact h.2.2
    · exact h.elim
  case ext =>
    split at h
    · rename_i hx
      rw [hx]
      split at h
      · rename_i ho; simp only [ho]; exact h.2.2
      · exact h.elim
    · exact h.elim
  case box =>
    simp only [Cnd.holds, Bool.and_eq_true, decide_eq_true_eq] at h
    exact ⟨h.1.1.1, h.1.1.2, h.1.2, h.2.2⟩
  case alloc => exact ⟨h.1, h.2.2⟩
  all_goals exact h.elim

theorem Cnd.mono {P : Program} {G : List (Nat × PV)} {det : Bool} {K K' : AV → List (Nat × Option Ob) → Prop} (hk : ∀ c u, K c u → K' c u) {x : Cnd} (h : x.holds P G det K) : x.holds P G det K' := by
  cases x <;> simp only [Cnd.holds] at h ⊢
  case val => exact ⟨h.1, h.2.1, hk _ _ h.2.2⟩
  case upd => exact ⟨h.1, h.2.1, hk _ _ h.2.2⟩
  case ite => exact ⟨fun e => hk _ _ (h.1 e), fun e => hk _ _ (h.2 e)⟩
  case call =>
    obtain ⟨h0, R, h1, h2, h3⟩ := h
    exact ⟨h0, R, h1, h2, fun r hr => ⟨(h3 r hr).1, hk _ _ (h3 r hr).2⟩⟩

/-- As 'AOps', by what each operation comes to. -/
def ROps (P : Program) (G : List (Nat × PV)) : List IOpr → St → (St → Prop) → Prop
  | [], s, K => K s
  | o :: r, s, K => match o.g with
    | none => (res G s (o.d.getD 0) o.op).holds P G false (fun c u => ROps P G r ((s.upd u).putD o.d c) K)
    | some (t, want) => match s.get t with
      | .p true (.v (.bool b)) =>
        (b = want → (res G (s.put t (.p true (.v (.bool want)))) (o.d.getD 0) o.op).holds P G false (fun c u => ROps P G r (((s.put t (.p true (.v (.bool want)))).upd u).putD o.d c) K)) ∧
        (b = !want → ROps P G r ((s.put t (.p true (.v (.bool !want)))).putD o.d (.p true (.v undef))) K)
      | .p true (.v (.tuple _)) => ROps P G r (s.putD o.d (.p true (.v undef))) K
      | _ => False

theorem res_AOp {P : Program} {G : List (Nat × PV)} {s : St} {d : Nat} {op : IOp} {K : AV → St → Prop} (h : (res G s d op).holds P G false (fun c u => K c (s.upd u))) : AOp P G false nB s d K op := by
  have := res_ok h
  unfold AOp
  split
  · rename_i hw; rw [hw] at this; exact this
  · rename_i hw; rw [hw] at this; exact this

theorem ROps.ok {P : Program} {G : List (Nat × PV)} {K : St → Prop} : ∀ (l : List IOpr) (s : St), ROps P G l s K → AOps P G l s K
  | [], s, h => h
  | o :: r, s, h => by
    simp only [ROps] at h
    simp only [AOps]
    split at h
    · rename_i hg
      simp only [hg]
      exact res_AOp (K := fun c s' => AOps P G r (s'.putD o.d c) K) (Cnd.mono (fun c u hc => ROps.ok r _ hc) h)
    · rename_i t want hg
      simp only [hg]
      split at h
      · rename_i b hb
        simp only [hb]
        exact ⟨fun e => res_AOp (K := fun c s' => AOps P G r (s'.putD o.d c) K) (Cnd.mono (fun c u hc => ROps.ok r _ hc) (h.1 e)), fun e => ROps.ok r _ (h.2 e)⟩
      · rename_i vs hb
        simp only [hb]
        exact ROps.ok r _ h
      · exact h.elim

/-- As 'AOpsD', by what each operation comes to. -/
def ROpsD (P : Program) (G : List (Nat × PV)) (bits : List Nat) (allocs : List (Nat × Nat)) : Nat → List IOpr → List (Nat × List Nat × List Nat) → St → (St → Prop) → Prop
  | _, [], _, s, K => K s
  | k, o :: r, acc, s, K => match o.g with
    | none => (res G s (o.d.getD 0) o.op).holds P G true (fun c u => touchB bits acc k (u.map Prod.fst) (o.op.rd G s) = true ∧ apartB bits allocs k c u = true ∧
        ROpsD P G bits allocs (k + 1) r ((k, u.map Prod.fst, o.op.rd G s) :: acc) ((s.upd u).putD o.d c) K)
    | some (t, want) => match s.get t with
      | .p true (.v (.bool b)) =>
        (b = want → (res G (s.put t (.p true (.v (.bool want)))) (o.d.getD 0) o.op).holds P G true (fun c u => touchB bits acc k (u.map Prod.fst) (o.op.rd G (s.put t (.p true (.v (.bool want))))) = true ∧ apartB bits allocs k c u = true ∧
          ROpsD P G bits allocs (k + 1) r ((k, u.map Prod.fst, o.op.rd G (s.put t (.p true (.v (.bool want))))) :: acc) (((s.put t (.p true (.v (.bool want)))).upd u).putD o.d c) K)) ∧
        (b = !want → ROpsD P G bits allocs (k + 1) r ((k, [], []) :: acc) ((s.put t (.p true (.v (.bool !want)))).putD o.d (.p true (.v undef))) K)
      | .p true (.v (.tuple _)) => ROpsD P G bits allocs (k + 1) r ((k, [], []) :: acc) (s.putD o.d (.p true (.v undef))) K
      | _ => False

theorem res_ADet {P : Program} {G : List (Nat × PV)} {s : St} {d : Nat} {op : IOp} {K : AV → List (Nat × Option Ob) → Prop} (h : (res G s d op).holds P G true K) : ADet P G s d K op := by
  have := res_ok h
  unfold ADet
  split
  · rename_i hw; rw [hw] at this; exact this
  · rename_i hw; rw [hw] at this; exact this

theorem ROpsD.ok {P : Program} {G : List (Nat × PV)} {bits : List Nat} {allocs : List (Nat × Nat)} {K : St → Prop} :
    ∀ (l : List IOpr) (k : Nat) (acc : List (Nat × List Nat × List Nat)) (s : St), ROpsD P G bits allocs k l acc s K → AOpsD P G bits allocs k l acc s K
  | [], k, acc, s, h => h
  | o :: r, k, acc, s, h => by
    simp only [ROpsD] at h
    simp only [AOpsD]
    split at h
    · rename_i hg
      simp only [hg]
      refine res_ADet (Cnd.mono ?_ h)
      exact fun c u hc => ⟨hc.1, hc.2.1, ROpsD.ok r _ _ _ hc.2.2⟩
    · rename_i t want hg
      simp only [hg]
      split at h
      · rename_i b hb
        simp only [hb]
        refine ⟨fun e => res_ADet (Cnd.mono ?_ (h.1 e)), fun e => ROpsD.ok r _ _ _ (h.2 e)⟩
        exact fun c u hc => ⟨hc.1, hc.2.1, ROpsD.ok r _ _ _ hc.2.2⟩
      · rename_i vs hb
        simp only [hb]
        exact ROpsD.ok r _ _ _ h
      · exact h.elim
end Go.Fw
