/- One check for a function, and what the walk needs; with no condition. -/
import Derived.Test.YtkhdnhdikooncaaFw8
namespace Go.Fw
open Go
set_option linter.unusedVariables false
set_option linter.unusedSimpArgs false

abbrev tt (n : Nat) : Operand := .tmp n
abbrev ci (n : Int) : Operand := .const (.int .i64 n)
abbrev cb (b : Bool) : Operand := .const (.bool b)
abbrev o (d : Nat) (op : IOp) : IOpr := ⟨some d, none, op⟩
abbrev og (d : Nat) (t : Nat) (b : Bool) (op : IOp) : IOpr := ⟨some d, some (t, b), op⟩
abbrev on (op : IOp) : IOpr := ⟨none, none, op⟩

def keepF (keep l : List Nat) : List Nat := l.filter fun t => !keep.contains t

def chk (P : Program) (f n : Nat) (keep : List Nat) : Option (Ir × List RI) :=
  match P.funcs[f]? with
  | none => none
  | some fn =>
    if fn.name == "runtime.NumGoroutine" then none else
    if n ≤ fn.ntmps then
      match fn.body with
      | none => none
      | some c => match comp P fn.ntmps (keepF keep) c, fn.results.toList.mapM (resI P) with
        | some ir, some rl => some (ir, rl)
        | _, _ => none
    else none

theorem PCall.mk {P : Program} {G : List (Nat × PV)} {f : FuncId} {args : List AV} {R : AV → Prop} {keep : List Nat} {ir : Ir} {rl : List RI}
    (hc : chk P f args.length keep = some (ir, rl)) (h : SWI P G ir ⟨argEnv 0 args, []⟩ (Post rl R)) : PCall P G f args R := by
  unfold chk at hc
  split at hc
  · cases hc
  · rename_i fn hf
    split at hc
    · cases hc
    · rename_i hname
      split at hc
      · rename_i hn
        split at hc
        · cases hc
        · rename_i c hb
          split at hc
          · rename_i ir' rl' h1 h2
            simp only [Option.some.injEq, Prod.mk.injEq] at hc
            obtain ⟨rfl, rfl⟩ := hc
            exact PCall.of hf (by simpa using hname) hb h1 h2 hn h
          · cases hc
      · cases hc

abbrev AI (n : Int) : AV := .p true (.v (.int .i64 n))
abbrev AB (b : Bool) : AV := .p true (.v (.bool b))

/-- Contracts with one result. -/
def PRet (P : Program) (G : List (Nat × PV)) (f : FuncId) (args : List AV) (r : AV) : Prop := PCall P G f args (fun x => x = r)

theorem ACall.ret {P : Program} {G : List (Nat × PV)} {det : Bool} {f : FuncId} {args : List AV} {l : Bool} {K : AV → Prop} {r : AV} (h : PRet P G f args r)
    (hs : (AV.closeds args && (!l || r.fresh)) = true) (hK : K r) : ACall P G det f args l K := by
  simp only [Bool.and_eq_true] at hs
  exact ⟨hs.1, _, h, fun _ => ⟨r, rfl, fun _ h => h⟩, fun x hx => by subst hx; exact ⟨hs.2, hK⟩⟩


/-- What is still to be done. -/
inductive Item where
  | ir (x : Ir)
  | ops (l : List IOpr)
  | opsD (bits : List Nat) (allocs : List (Nat × Nat)) (k : Nat) (l : List IOpr) (acc : List (Nat × List Nat × List Nat))
  | drop (l : List Nat)
  | bend (id : Nat)
  | lend (R : St → Prop)

def KQ (P : Program) (G : List (Nat × PV)) (Q : Exit → St → Prop) : List Item → Exit → St → Prop
  | [], e, s => Q e s
  | .ir x :: k, e, s => match e with
    | .normal => SWI P G x s (KQ P G Q k)
    | e => KQ P G Q k e s
  | .ops l :: k, e, s => match e with
    | .normal => ROps P G l s (KQ P G Q k .normal)
    | e => KQ P G Q k e s
  | .opsD bits allocs n l acc :: k, e, s => match e with
    | .normal => ROpsD P G bits allocs n l acc s (KQ P G Q k .normal)
    | e => KQ P G Q k e s
  | .drop l :: k, e, s => match e with
    | .normal => KQ P G Q k .normal (s.drop l)
    | e => KQ P G Q k e s
  | .bend id :: k, e, s => match e with
    | .exit j => if j = id then KQ P G Q k .normal s else KQ P G Q k (.exit j) s
    | e => KQ P G Q k e s
  | .lend R :: k, e, s => match e with
    | .normal => R s
    | e => KQ P G Q k e s

/-- To be shown: the items done from the state s on, Q holds. -/
def M (P : Program) (G : List (Nat × PV)) (Q : Exit → St → Prop) (k : List Item) (s : St) : Prop := KQ P G Q k .normal s

/-- A loop, behind which the items are to be done. -/
def MLoop (P : Program) (G : List (Nat × PV)) (Q : Exit → St → Prop) (b : Ir) (k : List Item) (s : St) : Prop :=
  LoopWp (fun s Q => SWI P G b s Q) s (KQ P G Q k)

/-- What one step comes to. -/
inductive Sp where
  | fail
  | fin (s : St)
  | lend (R : St → Prop) (s : St)
  | loop (b : Ir) (k : List Item) (s : St)
  | go (b : Bool) (p : Option Prop) (k : List Item) (s : St)
  | split (b : Bool) (b1 : Bool) (k1 : List Item) (s1 : St) (b2 : Bool) (k2 : List Item) (s2 : St)
  | call (det : Bool) (f : FuncId) (args : List AV) (l : Bool) (chk : AV → Bool) (d : Option Nat) (k : List Item) (s : St)

def Sp.holds (P : Program) (G : List (Nat × PV)) (rl : List RI) (R : AV → Prop) : Sp → Prop
  | .fail => False
  | .fin s => ResOk rl s R
  | .lend I s => I s
  | .loop b k s => MLoop P G (Post rl R) b k s
  | .go b p k s => b = true ∧ opt p ∧ M P G (Post rl R) k s
  | .split b b1 k1 s1 b2 k2 s2 => (b = true → b1 = true ∧ M P G (Post rl R) k1 s1) ∧ (b = false → b2 = true ∧ M P G (Post rl R) k2 s2)
  | .call det f args l chk d k s => ACall P G det f args l (fun c => chk c = true ∧ M P G (Post rl R) k (s.putD d c))

def popExit (j : Nat) : List Item → Option (List Item)
  | [] => none
  | .bend id :: k => if j = id then some k else popExit j k
  | _ :: k => popExit j k

def cndN (d : Option Nat) (k : List Item) (s : St) : Cnd → Sp
  | .fail => .fail
  | .val b p c => .go b p k (s.putD d c)
  | .upd b p c u => .go b p k ((s.upd u).putD d c)
  | .ite b c e => .split b true k (s.putD d c) true k (s.putD d e)
  | .call f args l => .call false f args l (fun _ => true) d k s

def cndD (bits : List Nat) (allocs : List (Nat × Nat)) (n : Nat) (acc : List (Nat × List Nat × List Nat)) (rd : List Nat) (d : Option Nat) (r : List IOpr) (k : List Item) (s : St) : Cnd → Sp
  | .fail => .fail
  | .val b p c => .go (b && touchB bits acc n [] rd && apartB bits allocs n c []) p (.opsD bits allocs (n + 1) r ((n, [], rd) :: acc) :: k) (s.putD d c)
  | .upd b p c u => .go (b && touchB bits acc n (u.map Prod.fst) rd && apartB bits allocs n c u) p (.opsD bits allocs (n + 1) r ((n, u.map Prod.fst, rd) :: acc) :: k) ((s.upd u).putD d c)
  | .ite b c e => .split b (touchB bits acc n [] rd && apartB bits allocs n c []) (.opsD bits allocs (n + 1) r ((n, [], rd) :: acc) :: k) (s.putD d c)
      (touchB bits acc n [] rd && apartB bits allocs n e []) (.opsD bits allocs (n + 1) r ((n, [], rd) :: acc) :: k) (s.putD d e)
  | .call f args l => .call true f args l (fun c => touchB bits acc n [] rd && apartB bits allocs n c []) d (.opsD bits allocs (n + 1) r ((n, [], rd) :: acc) :: k) s

def step (G : List (Nat × PV)) : List Item → St → Sp
  | [], s => .fin s
  | .ir x :: k, s => match x with
    | .skip => .go true none k s
    | .reg d l => .go true none (.ops l :: .drop d :: k) s
    | .dreg d bits allocs l => .go (allocs.all fun x => s.noidB x.2) none (.opsD bits allocs 0 l [] :: .drop d :: k) s
    | .seq a b => .go true none (.ir a :: .ir b :: k) s
    | .cond c x y => match opd G s c with
      | .p _ (.v (.bool b)) => .split b true (.ir x :: k) s true (.ir y :: k) s
      | _ => .fail
    | .block id b => .go true none (.ir b :: .bend id :: k) s
    | .loop b => .loop b k s
    | .exit id => match popExit id k with
      | some k' => .go true none k' s
      | none => .fail
    | .ret => .fin s
  | .ops [] :: k, s => .go true none k s
  | .ops (⟨d, none, op⟩ :: r) :: k, s => cndN d (.ops r :: k) s (res G s (d.getD 0) op)
  | .ops (⟨d, some (t, want), op⟩ :: r) :: k, s => match s.get t with
    | .p true (.v (.bool b)) => .split b true (match want with | true => .ops (⟨d, none, op⟩ :: r) :: k | false => .ops r :: k)
          (match want with | true => s.put t (.p true (.v (.bool true))) | false => (s.put t (.p true (.v (.bool true)))).putD d (.p true (.v undef)))
        true (match want with | true => .ops r :: k | false => .ops (⟨d, none, op⟩ :: r) :: k)
          (match want with | true => (s.put t (.p true (.v (.bool false)))).putD d (.p true (.v undef)) | false => s.put t (.p true (.v (.bool false))))
    | .p true (.v (.tuple _)) => .go true none (.ops r :: k) (s.putD d (.p true (.v undef)))
    | _ => .fail
  | .opsD _ _ _ [] _ :: k, s => .go true none k s
  | .opsD bits allocs n (⟨d, none, op⟩ :: r) acc :: k, s => cndD bits allocs n acc (op.rd G s) d r k s (res G s (d.getD 0) op)
  | .opsD bits allocs n (⟨d, some (t, want), op⟩ :: r) acc :: k, s => match s.get t with
    | .p true (.v (.bool b)) => .split b true (match want with | true => .opsD bits allocs n (⟨d, none, op⟩ :: r) acc :: k | false => .opsD bits allocs (n + 1) r ((n, [], []) :: acc) :: k)
          (match want with | true => s.put t (.p true (.v (.bool true))) | false => (s.put t (.p true (.v (.bool true)))).putD d (.p true (.v undef)))
        true (match want with | true => .opsD bits allocs (n + 1) r ((n, [], []) :: acc) :: k | false => .opsD bits allocs n (⟨d, none, op⟩ :: r) acc :: k)
          (match want with | true => (s.put t (.p true (.v (.bool false)))).putD d (.p true (.v undef)) | false => s.put t (.p true (.v (.bool false))))
    | .p true (.v (.tuple _)) => .go true none (.opsD bits allocs (n + 1) r ((n, [], []) :: acc) :: k) (s.putD d (.p true (.v undef)))
    | _ => .fail
  | .drop l :: k, s => .go true none k (s.drop l)
  | .bend _ :: k, s => .go true none k s
  | .lend R :: _, s => .lend R s

section
variable {P : Program} {G : List (Nat × PV)} {rl : List RI} {R : AV → Prop}

theorem popExit_ok {Q : Exit → St → Prop} {j : Nat} : ∀ {k k' : List Item} {s : St}, popExit j k = some k' → KQ P G Q k' .normal s → KQ P G Q k (.exit j) s
  | [], _, _, h, _ => by cases h
  | .bend id :: k, k', s, h, hk => by
    simp only [popExit] at h
    simp only [KQ]
    split at h
    · rename_i e; cases h; rw [if_pos e]; exact hk
    · rename_i e; rw [if_neg e]; exact popExit_ok h hk
  | .ir _ :: k, k', s, h, hk => popExit_ok (k := k) h hk
  | .ops _ :: k, k', s, h, hk => popExit_ok (k := k) h hk
  | .opsD _ _ _ _ _ :: k, k', s, h, hk => popExit_ok (k := k) h hk
  | .drop _ :: k, k', s, h, hk => popExit_ok (k := k) h hk
  | .lend _ :: k, k', s, h, hk => popExit_ok (k := k) h hk

theorem KQ_ret {Q : Exit → St → Prop} {s : St} (h : Q .ret s) : ∀ (k : List Item), KQ P G Q k .ret s
  | [] => h
  | .bend _ :: k => KQ_ret h k
  | .ir _ :: k => KQ_ret h k
  | .ops _ :: k => KQ_ret h k
  | .opsD _ _ _ _ _ :: k => KQ_ret h k
  | .drop _ :: k => KQ_ret h k
  | .lend _ :: k => KQ_ret h k

theorem cndN_ok {d : Option Nat} {r : List IOpr} {k : List Item} {s : St} {c : Cnd} (h : (cndN d (.ops r :: k) s c).holds P G rl R) :
    c.holds P G false (fun x u => ROps P G r ((s.upd u).putD d x) (KQ P G (Post rl R) k .normal)) := by
  cases c <;> simp only [cndN, Sp.holds, Cnd.holds] at h ⊢
  case val => exact h
  case upd => exact h
  case ite => exact ⟨fun e => (h.1 e).2, fun e => (h.2 e).2⟩
  case call =>
    obtain ⟨h0, R', h1, h2, h3⟩ := h
    exact ⟨h0, R', h1, h2, fun x hx => ⟨(h3 x hx).1, (h3 x hx).2.2⟩⟩

theorem cndD_ok {bits : List Nat} {allocs : List (Nat × Nat)} {n : Nat} {acc : List (Nat × List Nat × List Nat)} {rd : List Nat} {d : Option Nat} {r : List IOpr} {k : List Item} {s : St} {c : Cnd}
    (h : (cndD bits allocs n acc rd d r k s c).holds P G rl R) :
    c.holds P G true (fun c u => touchB bits acc n (u.map Prod.fst) rd = true ∧ apartB bits allocs n c u = true ∧
        ROpsD P G bits allocs (n + 1) r ((n, u.map Prod.fst, rd) :: acc) ((s.upd u).putD d c) (KQ P G (Post rl R) k .normal)) := by
  cases c <;> simp only [cndD, Sp.holds, Cnd.holds, Bool.and_eq_true] at h ⊢
  case val => exact ⟨h.1.1.1, h.2.1, h.1.1.2, h.1.2, h.2.2⟩
  case upd => exact ⟨h.1.1.1, h.2.1, h.1.1.2, h.1.2, h.2.2⟩
  case ite => exact ⟨fun e => ⟨(h.1 e).1.1, (h.1 e).1.2, (h.1 e).2⟩, fun e => ⟨(h.2 e).1.1, (h.2 e).1.2, (h.2 e).2⟩⟩
  case call =>
    obtain ⟨h0, R', h1, h2, h3⟩ := h
    exact ⟨h0, R', h1, h2, fun x hx => ⟨(h3 x hx).1, (h3 x hx).2.1.1, (h3 x hx).2.1.2, (h3 x hx).2.2⟩⟩

theorem step_ok : ∀ (k : List Item) (s : St), (step G k s).holds P G rl R → M P G (Post rl R) k s
  | [], s, h => h
  | .ir x :: k, s, h => by
    cases x with
    | skip => exact h.2.2
    | reg d l => exact h.2.2
    | dreg d bits allocs l => exact ⟨h.1, h.2.2⟩
    | seq a b =>
      have : (fun e s' => match e with | .normal => SWI P G b s' (KQ P G (Post rl R) k) | e => KQ P G (Post rl R) k e s') = KQ P G (Post rl R) (.ir b :: k) := by
        funext e s'; cases e <;> rfl
      exact (congrArg (SWI P G a s) this).mpr h.2.2
    | cond c x y =>
      simp only [step] at h
      show SWI P G (.cond c x y) s _
      simp only [SWI]
      split at h
      · rename_i fr b hb
        simp only [hb]
        exact ⟨fun e => (h.1 e).2, fun e => (h.2 e).2⟩
      · exact h.elim
    | block id b =>
      have : (fun e s' => match e with | .exit j => if j = id then KQ P G (Post rl R) k .normal s' else KQ P G (Post rl R) k (.exit j) s' | e => KQ P G (Post rl R) k e s') = KQ P G (Post rl R) (.bend id :: k) := by
        funext e s'; cases e <;> rfl
      exact (congrArg (SWI P G b s) this).mpr h.2.2
    | loop b => exact h
    | exit id =>
      simp only [step] at h
      split at h
      · rename_i k' hk; exact popExit_ok hk h.2.2
      · exact h.elim
    | ret => exact KQ_ret (Q := Post rl R) h k
  | .ops [] :: k, s, h => h.2.2
  | .ops (⟨d, none, op⟩ :: r) :: k, s, h => cndN_ok h
  | .ops (⟨d, some (t, want), op⟩ :: r) :: k, s, h => by
    simp only [step] at h
    show ROps P G _ s _
    simp only [ROps]
    split at h
    · rename_i b hb
      simp only [hb]
      cases want
      · exact ⟨fun e => (h.2 e).2, fun e => (h.1 e).2⟩
      · exact ⟨fun e => (h.1 e).2, fun e => (h.2 e).2⟩
    · rename_i vs hb
      simp only [hb]
      exact h.2.2
    · exact h.elim
  | .opsD _ _ _ [] _ :: k, s, h => h.2.2
  | .opsD bits allocs n (⟨d, none, op⟩ :: r) acc :: k, s, h => cndD_ok h
  | .opsD bits allocs n (⟨d, some (t, want), op⟩ :: r) acc :: k, s, h => by
    simp only [step] at h
    show ROpsD P G _ _ _ _ _ s _
    simp only [ROpsD]
    split at h
    · rename_i b hb
      simp only [hb]
      cases want
      · exact ⟨fun e => (h.2 e).2, fun e => (h.1 e).2⟩
      · exact ⟨fun e => (h.1 e).2, fun e => (h.2 e).2⟩
    · rename_i vs hb
      simp only [hb]
      exact h.2.2
    · exact h.elim
  | .drop l :: k, s, h => h.2.2
  | .bend _ :: k, s, h => h.2.2
  | .lend I :: k, s, h => h
end

/-- Which way to go, and what calls return. -/
inductive Or : Type 1 where
  | nil
  | lit (k : Or)
  | split (a b : Or)
  | call (r : AV) (k : Or)
  | callE (α : Type) (φ : α → Prop) (r : α → AV) (k : α → Or)

/-- What is to be shown. -/
inductive VC : Type 1 where
  | fail
  | done (c : AV)
  | need (p : Prop) (v : VC)
  | split (b : Bool) (t f : VC)
  | call (f : FuncId) (args : List AV) (r : AV) (v : VC)
  | callE (α : Type) (f : FuncId) (args : List AV) (φ : α → Prop) (r : α → AV) (v : α → VC)
  | lend (R : St → Prop) (s : St)
  | loop (b : Ir) (k : List Item) (s : St)

def VC.holds (P : Program) (G : List (Nat × PV)) (rl : List RI) (R : AV → Prop) : VC → Prop
  | .fail => False
  | .done c => ∃ d, d.closed = true ∧ AV.Le c d ∧ R d
  | .need p v => p ∧ v.holds P G rl R
  | .split b t f => (b = true → t.holds P G rl R) ∧ (b = false → f.holds P G rl R)
  | .call f args r v => PRet P G f args r ∧ v.holds P G rl R
  | .callE α f args φ r v => PCall P G f args (fun c => ∃ x, φ x ∧ c = r x) ∧ ∀ x, φ x → (v x).holds P G rl R
  | .lend I s => I s
  | .loop b k s => MLoop P G (Post rl R) b k s

def evS (rl : List RI) (ih : Or → List Item → St → VC) (or : Or) : Sp → VC
  | .fail => .fail
  | .fin s => match resOf rl s with
    | some c => match c.closed with
      | true => .done c
      | false => .fail
    | none => .fail
  | .lend I s => .lend I s
  | .loop b k s => .loop b k s
  | .go b p k s => match b with
    | true => match p with
      | none => ih or k s
      | some p => .need p (ih or k s)
    | false => .fail
  | .split b b1 k1 s1 b2 k2 s2 => match or with
    | .lit o => match b with
      | true => match b1 with
        | true => ih o k1 s1
        | false => .fail
      | false => match b2 with
        | true => ih o k2 s2
        | false => .fail
    | .split o1 o2 => .split b (match b1 with | true => ih o1 k1 s1 | false => .fail) (match b2 with | true => ih o2 k2 s2 | false => .fail)
    | _ => .fail
  | .call det f args l chk d k s => match or with
    | .call r o => match AV.closeds args && (!l || r.fresh) && chk r with
      | true => .call f args r (ih o k (s.putD d r))
      | false => .fail
    | .callE α φ r o => match AV.closeds args && !det with
      | true => .callE α f args φ r (fun x => match (!l || (r x).fresh) && chk (r x) with | true => ih (o x) k (s.putD d (r x)) | false => .fail)
      | false => .fail
    | _ => .fail

def ev (G : List (Nat × PV)) (rl : List RI) (n : Nat) : Or → List Item → St → VC :=
  Nat.rec (fun _ _ _ => .fail) (fun _ ih or k s => evS rl ih or (step G k s)) n

section
variable {P : Program} {G : List (Nat × PV)} {rl : List RI} {R : AV → Prop}

theorem ev_ok : ∀ (n : Nat) (or : Or) (k : List Item) (s : St), (ev G rl n or k s).holds P G rl R → M P G (Post rl R) k s
  | 0, or, k, s, h => h.elim
  | n + 1, or, k, s, h => by
    refine step_ok k s ?_
    have h : VC.holds P G rl R (evS rl (ev G rl n) or (step G k s)) := h
    cases hs : step G k s with
    | fail => rw [hs] at h; exact h
    | fin s' =>
      rw [hs] at h
      simp only [evS] at h
      simp only [Sp.holds, ResOk]
      cases hr : resOf rl s' with
      | none => simp only [hr] at h; exact h
      | some c =>
        simp only [hr] at h
        cases hc : c.closed with
        | true => simp only [hc] at h; exact ⟨hc, h⟩
        | false => simp only [hc] at h; exact h.elim
    | lend I s' => rw [hs] at h; exact h
    | loop b k' s' => rw [hs] at h; exact h
    | go b p k' s' =>
      rw [hs] at h
      cases b with
      | false => exact h.elim
      | true => cases p with
        | none => exact ⟨rfl, trivial, ev_ok n _ _ _ h⟩
        | some p => exact ⟨rfl, h.1, ev_ok n _ _ _ h.2⟩
    | split b b1 k1 s1 b2 k2 s2 =>
      rw [hs] at h
      cases or with
      | lit o =>
        cases b with
        | true => cases b1 with
          | true => exact And.intro (fun _ => ⟨rfl, ev_ok n _ _ _ h⟩) (fun e => nomatch e)
          | false => exact h.elim
        | false => cases b2 with
          | true => exact And.intro (fun e => nomatch e) (fun _ => ⟨rfl, ev_ok n _ _ _ h⟩)
          | false => exact h.elim
      | split o1 o2 =>
        refine ⟨fun e => ?_, fun e => ?_⟩
        · have := h.1 e
          cases b1 with
          | true => exact ⟨rfl, ev_ok n _ _ _ this⟩
          | false => exact this.elim
        · have := h.2 e
          cases b2 with
          | true => exact ⟨rfl, ev_ok n _ _ _ this⟩
          | false => exact this.elim
      | _ => exact h.elim
    | call det f args l chk d k' s' =>
      rw [hs] at h
      cases or with
      | call r o =>
        simp only [evS] at h
        cases hc : AV.closeds args && (!l || r.fresh) && chk r with
        | false => simp only [hc] at h; exact h.elim
        | true =>
          simp only [hc] at h
          simp only [Bool.and_eq_true] at hc
          exact ⟨hc.1.1, _, h.1, fun _ => ⟨r, rfl, fun _ e => e⟩, fun x e => by subst e; exact ⟨hc.1.2, hc.2, ev_ok n _ _ _ h.2⟩⟩
      | callE α φ r o =>
        simp only [evS] at h
        cases hc : AV.closeds args && !det with
        | false => simp only [hc] at h; exact h.elim
        | true =>
          simp only [hc] at h
          simp only [Bool.and_eq_true, Bool.not_eq_true'] at hc
          have hdet : det = true → ∃ r0, (∃ x, φ x ∧ r0 = r x) ∧ ∀ c, (∃ x, φ x ∧ c = r x) → c = r0 := fun e => by rw [hc.2] at e; cases e
          refine ⟨hc.1, _, h.1, hdet, ?_⟩
          rintro _ ⟨x, hx, rfl⟩
          have h2 := h.2 x hx
          cases hb : (!l || (r x).fresh) && chk (r x) with
          | false => simp only [hb] at h2; exact h2.elim
          | true =>
            simp only [hb] at h2
            simp only [Bool.and_eq_true] at hb
            exact ⟨hb.1, hb.2, ev_ok n _ _ _ h2⟩
      | _ => exact h.elim

/-- A round's end: the relation again, and less to do. -/
def Again {σ : Type} (st : σ → St) (inv : σ → Prop) (μ : σ → Nat) (x : σ) (s' : St) : Prop := ∃ x', inv x' ∧ μ x' < μ x ∧ ∃ ρ nw, StLe s' (st x') ρ nw

/-- A loop by its relation: 'st' gives the state at a round's head. -/
theorem MLoop.mk {Q : Exit → St → Prop} {b : Ir} {k : List Item} {s : St} {σ : Type} (st : σ → St) (inv : σ → Prop) (μ : σ → Nat) (x0 : σ) (h0 : inv x0) (hs : ∃ ρ nw, StLe s (st x0) ρ nw)
    (hr : ∀ x, inv x → M P G Q (.ir b :: .lend (Again st inv μ x) :: k) (st x)) : MLoop P G Q b k s :=
  ⟨σ, st, inv, μ, x0, h0, hs, fun x hx => by
    have : LoopQ st inv μ x (KQ P G Q k) = KQ P G Q (.lend (Again st inv μ x) :: k) := by
      funext e s'; cases e <;> rfl
    rw [this]
    exact hr x hx⟩

theorem PCall.ev {f : FuncId} {args : List AV} {keep : List Nat} {ir : Ir} {n : Nat} {or : Or}
    (hc : chk P f args.length keep = some (ir, rl)) (h : (ev G rl n or [.ir ir] ⟨argEnv 0 args, []⟩).holds P G rl R) : PCall P G f args R :=
  PCall.mk hc (by
    have e : KQ P G (Post rl R) [] = Post rl R := rfl
    have := ev_ok _ _ _ _ h
    show SWI P G ir _ _
    rw [← e]
    exact this)
end
end Go.Fw
