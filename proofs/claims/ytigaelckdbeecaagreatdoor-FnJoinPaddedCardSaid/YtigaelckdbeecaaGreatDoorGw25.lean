/- One check for a function, and what the walk needs; with no condition. -/
import Derived.Test.YtigaelckdbeecaaGreatDoorGw22
namespace Go.Gw
open Go
set_option linter.unusedVariables false
set_option linter.unusedSimpArgs false
abbrev tt (n : Nat) : Operand := .tmp n
abbrev ci (n : Int) : Operand := .const (.int .i64 n)
abbrev cb (b : Bool) : Operand := .const (.bool b)
abbrev o (d : Nat) (op : IOp) : IOpr := ⟨some d, none, op⟩
abbrev og (d : Nat) (t : Nat) (b : Bool) (op : IOp) : IOpr := ⟨some d, some (t, b), op⟩
abbrev on (op : IOp) : IOpr := ⟨none, none, op⟩
def keepF (keep l : List Nat) : List Nat := l.filter fun t => !keep.contains t
def chk (P : Program) (f n : Nat) (keep : List Nat) : Option (Ir × List RI) :=
  match P.funcs[f]? with
  | none => none
  | some fn =>
    if fn.name == "runtime.NumGoroutine" then none else
    if n ≤ fn.ntmps then
      match fn.body with
      | none => none
      | some c => match comp P fn.ntmps (keepF keep) c, fn.results.toList.mapM (resI P) with
        | some ir, some rl => some (ir, rl)
        | _, _ => none
    else none
theorem PCall.mk {P : Program} {G : List (Nat × PV)} {f : FuncId} {args : List AV} {H : List (Nat × Ob)} {R : AV → List (Nat × Ob) → Prop} {keep : List Nat} {ir : Ir} {rl : List RI}
    (hc : chk P f args.length keep = some (ir, rl)) (hh : noHoles H = true) (h : ∃ s', Wk (start args H) s' ∧ SWI P G ir s' (Post rl H R)) : PCall P G f args H R := by
  unfold chk at hc
  split at hc
  · cases hc
  · rename_i fn hf
    split at hc
    · cases hc
    · rename_i hname
      split at hc
      · rename_i hn
        split at hc
        · cases hc
        · rename_i c hb
          split at hc
          · rename_i ir' rl' h1 h2
            simp only [Option.some.injEq, Prod.mk.injEq] at hc
            obtain ⟨rfl, rfl⟩ := hc
            exact PCall.of hf (by simpa using hname) hb h1 h2 hn hh h
          · cases hc
      · cases hc
abbrev AI (n : Int) : AV := .p true (.v (.int .i64 n))
abbrev AB (b : Bool) : AV := .p true (.v (.bool b))
abbrev PI (n : Int) : PV := .v (.int .i64 n)
def PObj (P : Program) (G : List (Nat × PV)) (f : FuncId) (args : List AV) (H : List (Nat × Ob)) (r : AV) (H' : List (Nat × Ob)) : Prop := PCall P G f args H (fun x h => x = r ∧ h = H')
def PRet (P : Program) (G : List (Nat × PV)) (f : FuncId) (args : List AV) (r : AV) : Prop := PObj P G f args [] r []
def PSome (P : Program) (G : List (Nat × PV)) (f : FuncId) (args : List AV) (H : List (Nat × Ob)) (α : Type) (φ : α → Prop) (r : α → AV) (H' : α → List (Nat × Ob)) : Prop :=
  PCall P G f args H (fun x h => ∃ y, φ y ∧ x = r y ∧ h = H' y)
theorem PObj.imp {P : Program} {G : List (Nat × PV)} {f : FuncId} {args : List AV} {H : List (Nat × Ob)} {R R' : AV → List (Nat × Ob) → Prop} (h : PCall P G f args H R) (hR : ∀ r H', R r H' → R' r H') : PCall P G f args H R' :=
  ⟨h.1, fun w Z0 ι ow vs h1 h2 h3 h4 h5 h6 => (h.2 w Z0 ι ow vs h1 h2 h3 h4 h5 h6).mono fun e w' ⟨x, r, H', ι', ow', h7, h8, h9⟩ => ⟨x, r, H', ι', ow', h7, hR _ _ h8, h9⟩⟩
inductive Item where
  | ir (x : Ir)
  | ops (l : List IOpr)
  | opsD (bits : List Nat) (allocs : List (Nat × Nat)) (k : Nat) (l : List IOpr) (acc : List (Nat × List Nat × List Nat))
  | drop (l : List Nat)
  | bend (id : Nat)
  | lend (R : St → Prop)
def KQ (P : Program) (G : List (Nat × PV)) (Q : Exit → St → Prop) : List Item → Exit → St → Prop
  | [], e, s => Q e s
  | .ir x :: k, e, s => match e with
    | .normal => ∃ s', Wk s s' ∧ SWI P G x s' (KQ P G Q k)
    | e => KQ P G Q k e s
  | .ops l :: k, e, s => match e with
    | .normal => AOps P G l s (KQ P G Q k .normal)
    | e => KQ P G Q k e s
  | .opsD bits allocs n l acc :: k, e, s => match e with
    | .normal => AOpsD P G bits allocs n l acc s (KQ P G Q k .normal)
    | e => KQ P G Q k e s
  | .drop l :: k, e, s => match e with
    | .normal => KQ P G Q k .normal (s.tidy l)
    | e => KQ P G Q k e s
  | .bend id :: k, e, s => match e with
    | .exit j => if j = id then KQ P G Q k .normal s else KQ P G Q k (.exit j) s
    | e => KQ P G Q k e s
  | .lend R :: k, e, s => match e with
    | .normal => R s
    | e => KQ P G Q k e s
def M (P : Program) (G : List (Nat × PV)) (Q : Exit → St → Prop) (k : List Item) (s : St) : Prop := KQ P G Q k .normal s
theorem M.wk {P : Program} {G : List (Nat × PV)} {Q : Exit → St → Prop} {x : Ir} {k : List Item} {s s' : St} (h : Wk s s') (hm : M P G Q (.ir x :: k) s') : M P G Q (.ir x :: k) s := by
  obtain ⟨s'', h1, h2⟩ := hm
  exact ⟨s'', h.trans h1, h2⟩
def MLoop (P : Program) (G : List (Nat × PV)) (Q : Exit → St → Prop) (b : Ir) (k : List Item) (s : St) : Prop :=
  LoopWp (fun s Q => ∃ s', Wk s s' ∧ SWI P G b s' Q) s (KQ P G Q k)
inductive Sp where
  | fail
  | fin (s : St)
  | lend (R : St → Prop) (s : St)
  | loop (b : Ir) (k : List Item) (s : St)
  | go (b : Bool) (p : Option Prop) (k : List Item) (s : St)
  | split (b : Bool) (b1 : Bool) (k1 : List Item) (s1 : St) (b2 : Bool) (k2 : List Item) (s2 : St)
  | either (p : Prop) (k : List Item) (s1 s2 : St)
  | call (det : Bool) (f : FuncId) (args : List AV) (n : Nat) (d : Option Nat) (chk : AV → Upd → Bool) (k : Upd → List Item) (s : St)
def Sp.holds (P : Program) (G : List (Nat × PV)) (rl : List RI) (H0 : List (Nat × Ob)) (R : AV → List (Nat × Ob) → Prop) : Sp → Prop
  | .fail => False
  | .fin s => ResOk rl H0 s R
  | .lend I s => I s
  | .loop b k s => MLoop P G (Post rl H0 R) b k s
  | .go b p k s => b = true ∧ opt p ∧ M P G (Post rl H0 R) k s
  | .split b b1 k1 s1 b2 k2 s2 => (b = true → b1 = true ∧ M P G (Post rl H0 R) k1 s1) ∧ (b = false → b2 = true ∧ M P G (Post rl H0 R) k2 s2)
  | .either p k s1 s2 => (p → M P G (Post rl H0 R) k s1) ∧ M P G (Post rl H0 R) k s2
  | .call det f args n d chk k s => ACall P G det s.obj n f args (fun c u => chk c u = true ∧ M P G (Post rl H0 R) (k u) ((s.upd u).putD d c))
def popExit (j : Nat) : List Item → Option (List Item)
  | [] => none
  | .bend id :: k => if j = id then some k else popExit j k
  | _ :: k => popExit j k
def cndN (d : Option Nat) (k : List Item) (s : St) : Cnd → Sp
  | .fail => .fail
  | .val b p c u => .go b p k ((s.upd u).putD d c)
  | .ite b c e => .split b true k (s.putD d c) true k (s.putD d e)
  | .either p c e => .either p k (s.putD d c) (s.putD d e)
  | .call f args => .call false f args (d.getD 0) d (fun _ _ => true) (fun _ => k) s
def cndD (bits : List Nat) (allocs : List (Nat × Nat)) (n : Nat) (acc : List (Nat × List Nat × List Nat)) (rd : List Nat) (d : Option Nat) (r : List IOpr) (k : List Item) (s : St) : Cnd → Sp
  | .fail => .fail
  | .val b p c u => .go (b && touchB bits acc n (u.map Prod.fst) rd && apartB bits allocs n c u) p (.opsD bits allocs (n + 1) r ((n, u.map Prod.fst, rd) :: acc) :: k) ((s.upd u).putD d c)
  | .ite b c e => .split b (touchB bits acc n [] rd && apartB bits allocs n c []) (.opsD bits allocs (n + 1) r ((n, [], rd) :: acc) :: k) (s.putD d c)
      (touchB bits acc n [] rd && apartB bits allocs n e []) (.opsD bits allocs (n + 1) r ((n, [], rd) :: acc) :: k) (s.putD d e)
  | .either p c e => .fail
  | .call f args => .call true f args (d.getD 0) d (fun c u => touchB bits acc n (u.map Prod.fst) rd && apartB bits allocs n c u) (fun u => .opsD bits allocs (n + 1) r ((n, u.map Prod.fst, rd) :: acc) :: k) s
def step (G : List (Nat × PV)) : List Item → St → Sp
  | [], s => .fin s
  | .ir x :: k, s => match x with
    | .skip => .go true none k s
    | .reg d l => .go true none (.ops l :: .drop d :: k) s
    | .dreg d bits allocs l => .go (allocs.all fun x => s.noidB x.2) none (.opsD bits allocs 0 l [] :: .drop d :: k) s
    | .seq a b => .go true none (.ir a :: .ir b :: k) s
    | .cond c x y => match opd G s c with
      | .p _ (.v (.bool b)) => .split b true (.ir x :: k) s true (.ir y :: k) s
      | _ => .fail
    | .block id b => .go true none (.ir b :: .bend id :: k) s
    | .loop b => .loop b k s
    | .exit id => match popExit id k with
      | some k' => .go true none k' s
      | none => .fail
    | .ret => .fin s
  | .ops [] :: k, s => .go true none k s
  | .ops (⟨d, none, op⟩ :: r) :: k, s => match freshB s (op.fresh (d.getD 0)) with
    | true => cndN d (.ops r :: k) s (res s.obj (d.getD 0) (op.opds.map (opd G s)) op)
    | false => .fail
  | .ops (⟨d, some (t, want), op⟩ :: r) :: k, s => match s.get t with
    | .p true (.v (.bool b)) => .split b true (match want with | true => .ops (⟨d, none, op⟩ :: r) :: k | false => .ops r :: k)
          (match want with | true => s.put t (.p true (.v (.bool true))) | false => (s.put t (.p true (.v (.bool true)))).putD d (.p true (.v undef)))
        true (match want with | true => .ops r :: k | false => .ops (⟨d, none, op⟩ :: r) :: k)
          (match want with | true => (s.put t (.p true (.v (.bool false)))).putD d (.p true (.v undef)) | false => s.put t (.p true (.v (.bool false))))
    | .p true (.v (.tuple _)) => .go true none (.ops r :: k) (s.putD d (.p true (.v undef)))
    | _ => .fail
  | .opsD _ _ _ [] _ :: k, s => .go true none k s
  | .opsD bits allocs n (⟨d, none, op⟩ :: r) acc :: k, s => match freshB s (op.fresh (d.getD 0)) with
    | true => cndD bits allocs n acc (op.rd G s) d r k s (res s.obj (d.getD 0) (op.opds.map (opd G s)) op)
    | false => .fail
  | .opsD bits allocs n (⟨d, some (t, want), op⟩ :: r) acc :: k, s => match s.get t with
    | .p true (.v (.bool b)) => .split b true (match want with | true => .opsD bits allocs n (⟨d, none, op⟩ :: r) acc :: k | false => .opsD bits allocs (n + 1) r ((n, [], []) :: acc) :: k)
          (match want with | true => s.put t (.p true (.v (.bool true))) | false => (s.put t (.p true (.v (.bool true)))).putD d (.p true (.v undef)))
        true (match want with | true => .opsD bits allocs (n + 1) r ((n, [], []) :: acc) :: k | false => .opsD bits allocs n (⟨d, none, op⟩ :: r) acc :: k)
          (match want with | true => (s.put t (.p true (.v (.bool false)))).putD d (.p true (.v undef)) | false => s.put t (.p true (.v (.bool false))))
    | .p true (.v (.tuple _)) => .go true none (.opsD bits allocs (n + 1) r ((n, [], []) :: acc) :: k) (s.putD d (.p true (.v undef)))
    | _ => .fail
  | .drop l :: k, s => .go true none k (s.tidy l)
  | .bend _ :: k, s => .go true none k s
  | .lend R :: _, s => .lend R s
section
variable {P : Program} {G : List (Nat × PV)} {rl : List RI} {H0 : List (Nat × Ob)} {R : AV → List (Nat × Ob) → Prop}
theorem popExit_ok {Q : Exit → St → Prop} {j : Nat} : ∀ {k k' : List Item} {s : St}, popExit j k = some k' → KQ P G Q k' .normal s → KQ P G Q k (.exit j) s
  | [], _, _, h, _ => by cases h
  | .bend id :: k, k', s, h, hk => by
    simp only [popExit] at h
    simp only [KQ]
    split at h
    · rename_i e; cases h; rw [if_pos e]; exact hk
    · rename_i e; rw [if_neg e]; exact popExit_ok h hk
  | .ir _ :: k, k', s, h, hk => popExit_ok (k := k) h hk
  | .ops _ :: k, k', s, h, hk => popExit_ok (k := k) h hk
  | .opsD _ _ _ _ _ :: k, k', s, h, hk => popExit_ok (k := k) h hk
  | .drop _ :: k, k', s, h, hk => popExit_ok (k := k) h hk
  | .lend _ :: k, k', s, h, hk => popExit_ok (k := k) h hk
theorem KQ_ret {Q : Exit → St → Prop} {s : St} (h : Q .ret s) : ∀ (k : List Item), KQ P G Q k .ret s
  | [] => h
  | .bend _ :: k => KQ_ret h k
  | .ir _ :: k => KQ_ret h k
  | .ops _ :: k => KQ_ret h k
  | .opsD _ _ _ _ _ :: k => KQ_ret h k
  | .drop _ :: k => KQ_ret h k
  | .lend _ :: k => KQ_ret h k
theorem cndN_ok {d : Option Nat} {r : List IOpr} {k : List Item} {s : St} {c : Cnd} (h : (cndN d (.ops r :: k) s c).holds P G rl H0 R) :
    c.holds P G s.obj (d.getD 0) false (fun x u => AOps P G r ((s.upd u).putD d x) (KQ P G (Post rl H0 R) k .normal)) := by
  cases c <;> simp only [cndN, Sp.holds, Cnd.holds] at h ⊢
  case val => exact h
  case ite => exact ⟨fun e => (h.1 e).2, fun e => (h.2 e).2⟩
  case either => exact ⟨trivial, h.1, h.2⟩
  case call =>
    obtain ⟨ps, cargs, H, h1, h2, h3, h4, R', h5, h6, h7⟩ := h
    exact ⟨ps, cargs, H, h1, h2, h3, h4, R', h5, h6, fun r H' hr => ⟨(h7 r H' hr).1, (h7 r H' hr).2.2⟩⟩
theorem cndD_ok {bits : List Nat} {allocs : List (Nat × Nat)} {n : Nat} {acc : List (Nat × List Nat × List Nat)} {rd : List Nat} {d : Option Nat} {r : List IOpr} {k : List Item} {s : St} {c : Cnd}
    (h : (cndD bits allocs n acc rd d r k s c).holds P G rl H0 R) :
    c.holds P G s.obj (d.getD 0) true (fun c u => touchB bits acc n (u.map Prod.fst) rd = true ∧ apartB bits allocs n c u = true ∧
        AOpsD P G bits allocs (n + 1) r ((n, u.map Prod.fst, rd) :: acc) ((s.upd u).putD d c) (KQ P G (Post rl H0 R) k .normal)) := by
  cases c <;> simp only [cndD, Sp.holds, Cnd.holds, Bool.and_eq_true] at h ⊢
  case val => exact ⟨h.1.1.1, h.2.1, h.1.1.2, h.1.2, h.2.2⟩
  case ite => exact ⟨fun e => ⟨(h.1 e).1.1, (h.1 e).1.2, (h.1 e).2⟩, fun e => ⟨(h.2 e).1.1, (h.2 e).1.2, (h.2 e).2⟩⟩
  case call =>
    obtain ⟨ps, cargs, H, h1, h2, h3, h4, R', h5, h6, h7⟩ := h
    exact ⟨ps, cargs, H, h1, h2, h3, h4, R', h5, h6, fun r H' hr => ⟨(h7 r H' hr).1, (h7 r H' hr).2.1.1, (h7 r H' hr).2.1.2, (h7 r H' hr).2.2⟩⟩
theorem step_ok : ∀ (k : List Item) (s : St), (step G k s).holds P G rl H0 R → M P G (Post rl H0 R) k s
  | [], s, h => h
  | .ir x :: k, s, h => by
    cases x with
    | skip => exact ⟨s, .refl s, h.2.2⟩
    | reg d l => exact ⟨s, .refl s, h.2.2⟩
    | dreg d bits allocs l => exact ⟨s, .refl s, h.1, h.2.2⟩
    | seq a b =>
      have : (fun e s' => match e with | .normal => ∃ s'', Wk s' s'' ∧ SWI P G b s'' (KQ P G (Post rl H0 R) k) | e => KQ P G (Post rl H0 R) k e s') = KQ P G (Post rl H0 R) (.ir b :: k) := by
        funext e s'; cases e <;> rfl
      obtain ⟨s', hw, h3⟩ := h.2.2
      exact ⟨s', hw, (congrArg (SWI P G a s') this).mpr h3⟩
    | cond c x y =>
      refine ⟨s, .refl s, ?_⟩
      simp only [step] at h
      simp only [SWI]
      split at h
      · rename_i fr b hb
        simp only [hb]
        exact ⟨fun e => (h.1 e).2, fun e => (h.2 e).2⟩
      · exact h.elim
    | block id b =>
      have : (fun e s' => match e with | .exit j => if j = id then KQ P G (Post rl H0 R) k .normal s' else KQ P G (Post rl H0 R) k (.exit j) s' | e => KQ P G (Post rl H0 R) k e s') = KQ P G (Post rl H0 R) (.bend id :: k) := by
        funext e s'; cases e <;> rfl
      obtain ⟨s', hw, h3⟩ := h.2.2
      exact ⟨s', hw, (congrArg (SWI P G b s') this).mpr h3⟩
    | loop b => exact ⟨s, .refl s, h⟩
    | exit id =>
      simp only [step] at h
      split at h
      · rename_i k' hk; exact ⟨s, .refl s, popExit_ok hk h.2.2⟩
      · exact h.elim
    | ret => exact ⟨s, .refl s, KQ_ret (Q := Post rl H0 R) h k⟩
  | .ops [] :: k, s, h => h.2.2
  | .ops (⟨d, none, op⟩ :: r) :: k, s, h => by
    simp only [step] at h
    split at h
    · rename_i hf; exact ⟨hf, cndN_ok h⟩
    · exact h.elim
  | .ops (⟨d, some (t, want), op⟩ :: r) :: k, s, h => by
    simp only [step] at h
    show AOps P G _ s _
    simp only [AOps]
    split at h
    · rename_i b hb
      simp only [hb]
      cases want
      · exact ⟨fun e => by
          have := (h.2 e).2
          have h2 : M P G (Post rl H0 R) (.ops (⟨d, none, op⟩ :: r) :: k) (s.put t (.p true (.v (.bool false)))) := this
          exact h2, fun e => (h.1 e).2⟩
      · exact ⟨fun e => (h.1 e).2, fun e => (h.2 e).2⟩
    · rename_i vs hb
      simp only [hb]
      exact h.2.2
    · exact h.elim
  | .opsD _ _ _ [] _ :: k, s, h => h.2.2
  | .opsD bits allocs n (⟨d, none, op⟩ :: r) acc :: k, s, h => by
    simp only [step] at h
    split at h
    · rename_i hf; exact ⟨hf, cndD_ok h⟩
    · exact h.elim
  | .opsD bits allocs n (⟨d, some (t, want), op⟩ :: r) acc :: k, s, h => by
    simp only [step] at h
    show AOpsD P G _ _ _ _ _ s _
    simp only [AOpsD]
    split at h
    · rename_i b hb
      simp only [hb]
      cases want
      · exact ⟨fun e => (h.2 e).2, fun e => (h.1 e).2⟩
      · exact ⟨fun e => (h.1 e).2, fun e => (h.2 e).2⟩
    · rename_i vs hb
      simp only [hb]
      exact h.2.2
    · exact h.elim
  | .drop l :: k, s, h => h.2.2
  | .bend _ :: k, s, h => h.2.2
  | .lend I :: k, s, h => h
end
inductive Or : Type 1 where
  | nil
  | no
  | stop (n : Nat)
  | lit (k : Or)
  | split (a b : Or)
  | call (ps : List Nat) (r : AV) (H' : List (Nat × Ob)) (k : Or)
  | callE (ps : List Nat) (α : Type) (φ : α → Prop) (r : α → AV) (H' : α → List (Nat × Ob)) (k : α → Or)
inductive VC : Type 1 where
  | fail
  | doneP (c : AV)
  | done (s : St)
  | need (p : Prop) (v : VC)
  | split (b : Bool) (t f : VC)
  | either (p : Prop) (t f : VC)
  | call (f : FuncId) (args : List AV) (H : List (Nat × Ob)) (r : AV) (H' : List (Nat × Ob)) (v : VC)
  | callE (α : Type) (f : FuncId) (args : List AV) (H : List (Nat × Ob)) (φ : α → Prop) (r : α → AV) (H' : α → List (Nat × Ob)) (v : α → VC)
  | lend (R : St → Prop) (s : St)
  | loop (b : Ir) (k : List Item) (s : St)
  | stop (k : List Item) (s : St)
def VC.holds (P : Program) (G : List (Nat × PV)) (rl : List RI) (H0 : List (Nat × Ob)) (R : AV → List (Nat × Ob) → Prop) : VC → Prop
  | .fail => False
  | .doneP c => R c []
  | .done s => ResOk rl H0 s R
  | .need p v => p ∧ v.holds P G rl H0 R
  | .split b t f => (b = true → t.holds P G rl H0 R) ∧ (b = false → f.holds P G rl H0 R)
  | .either p t f => (p → t.holds P G rl H0 R) ∧ f.holds P G rl H0 R
  | .call f args H r H' v => PObj P G f args H r H' ∧ v.holds P G rl H0 R
  | .callE α f args H φ r H' v => PSome P G f args H α φ r H' ∧ ∀ x, φ x → (v x).holds P G rl H0 R
  | .lend I s => I s
  | .loop b k s => MLoop P G (Post rl H0 R) b k s
  | .stop k s => M P G (Post rl H0 R) k s
mutual
def AV.plain : AV → Option AV
  | .p _ c => match c with
    | .v (.slice _ _ _) => none
    | .v x => some (.p true (.v x))
    | _ => none
  | .ag cs => match AV.plains cs with
    | some l => some (.ag l)
    | none => none
  | .tp cs => match AV.plains cs with
    | some l => some (.tp l)
    | none => none
  | _ => none
def AV.plains : List AV → Option (List AV)
  | [] => some []
  | c :: cs => match AV.plain c, AV.plains cs with
    | some x, some l => some (x :: l)
    | _, _ => none
end
mutual
theorem plain_le {s : St} {ρ : Nat → Nat} {nw : Nat → Bool} {kept : Nat → Prop} : ∀ {c d : AV}, c.plain = some d → AvLe s ρ nw kept c d
  | .p fr c, d, h => by
    simp only [AV.plain] at h
    split at h
    · cases h
    · cases h; exact .sc _ _ _
    · cases h
  | .ag cs, d, h => by
    simp only [AV.plain] at h
    split at h
    · rename_i l hl; cases h; exact .ag _ _ (plains_le (s := s) (ρ := ρ) (nw := nw) (kept := kept) hl).1 (plains_le hl).2
    · cases h
  | .tp cs, d, h => by
    simp only [AV.plain] at h
    split at h
    · rename_i l hl; cases h; exact .tp _ _ (plains_le (s := s) (ρ := ρ) (nw := nw) (kept := kept) hl).1 (plains_le hl).2
    · cases h
  | .own _, _, h => by simp [AV.plain] at h
  | .adr _ _, _, h => by simp [AV.plain] at h
  | .elt _ _ _ _, _, h => by simp [AV.plain] at h
  | .vw _ _ _, _, h => by simp [AV.plain] at h
  | .cl _ _ _, _, h => by simp [AV.plain] at h
theorem plains_le {s : St} {ρ : Nat → Nat} {nw : Nat → Bool} {kept : Nat → Prop} : ∀ {cs ds : List AV}, AV.plains cs = some ds → cs.length = ds.length ∧ ∀ (j : Nat) (c d : AV), cs[j]? = some c → ds[j]? = some d → AvLe s ρ nw kept c d
  | [], ds, h => by simp [AV.plains] at h; subst h; exact ⟨rfl, fun j c d h => by simp at h⟩
  | c :: cs, ds, h => by
    simp only [AV.plains] at h
    split at h
    · rename_i x l hx hl
      cases h
      refine ⟨by simp [(plains_le (s := s) (ρ := ρ) (nw := nw) (kept := kept) hl).1], fun j a b ha hb => ?_⟩
      cases j with
      | zero => simp at ha hb; subst ha; subst hb; exact plain_le hx
      | succ j => exact (plains_le hl).2 j a b (by simpa using ha) (by simpa using hb)
    · cases h
end
def notNew (ps : List Nat) (d : Nat) : Bool := ps.all fun i => !((List.range 8).map (nm d)).contains i
def evS (rl : List RI) (H0 : List (Nat × Ob)) (ih : Or → List Item → St → VC) (or : Or) : Sp → VC
  | .fail => .fail
  | .fin s => match resOf rl s with
    | some c => match H0 with
      | [] => match c.plain with
        | some d => .doneP d
        | none => .done s
      | _ => .done s
    | none => .fail
  | .lend I s => .lend I s
  | .loop b k s => .loop b k s
  | .go b p k s => match b with
    | true => match p with
      | none => ih or k s
      | some p => .need p (ih or k s)
    | false => .fail
  | .split b b1 k1 s1 b2 k2 s2 => match or with
    | .lit o => match b with
      | true => match b1 with
        | true => ih o k1 s1
        | false => .fail
      | false => match b2 with
        | true => ih o k2 s2
        | false => .fail
    | .split o1 o2 => .split b (match b1 with | true => ih o1 k1 s1 | false => .fail) (match b2 with | true => ih o2 k2 s2 | false => .fail)
    | _ => .fail
  | .either p k s1 s2 => match or with
    | .split o1 o2 => .either p (ih o1 k s1) (ih o2 k s2)
    | _ => .fail
  | .call det f vs n d chk k s => match or with
    | .call ps r H' o => match AV.args s.obj ps vs, handed s.obj ps 0 ps with
      | some cargs, some H => match nodupB ps && notNew ps n && (!det || flatB s.obj ps vs) && retOk ps n (lentB s.obj ps vs) r H' && chk (r.ren (nameR ps n)) (backU ps n H') with
        | true => .call f cargs H r H' (ih o (k (backU ps n H')) ((s.upd (backU ps n H')).putD d (r.ren (nameR ps n))))
        | false => .fail
      | _, _ => .fail
    | .callE ps α φ r H' o => match AV.args s.obj ps vs, handed s.obj ps 0 ps with
      | some cargs, some H => match nodupB ps && notNew ps n && !det with
        | true => .callE α f cargs H φ r H' (fun x => match retOk ps n (lentB s.obj ps vs) (r x) (H' x) && chk ((r x).ren (nameR ps n)) (backU ps n (H' x)) with
          | true => ih (o x) (k (backU ps n (H' x))) ((s.upd (backU ps n (H' x))).putD d ((r x).ren (nameR ps n)))
          | false => .fail)
        | false => .fail
      | _, _ => .fail
    | _ => .fail
def ev1 (G : List (Nat × PV)) (rl : List RI) (H0 : List (Nat × Ob)) (ih : Or → List Item → St → VC) (or : Or) (k : List Item) (s : St) : VC :=
  match or with
  | .no => .fail
  | .stop n => match n with
    | 0 => .stop k s
    | n + 1 => evS rl H0 (fun _ k s => ih (.stop n) k s) .nil (step G k s)
  | or => evS rl H0 ih or (step G k s)
def ev (G : List (Nat × PV)) (rl : List RI) (H0 : List (Nat × Ob)) (n : Nat) : Or → List Item → St → VC :=
  Nat.rec (fun _ _ _ => .fail) (fun _ ih or k s => ev1 G rl H0 ih or k s) n
section
variable {P : Program} {G : List (Nat × PV)} {rl : List RI} {H0 : List (Nat × Ob)} {R : AV → List (Nat × Ob) → Prop}
theorem evS_ok {ih : Or → List Item → St → VC} (hih : ∀ or k s, (ih or k s).holds P G rl H0 R → M P G (Post rl H0 R) k s) (or : Or) (sp : Sp) (h : (evS rl H0 ih or sp).holds P G rl H0 R) : sp.holds P G rl H0 R := by
  cases sp with
  | fail => exact h
  | fin s' =>
    skip
    simp only [evS] at h
    simp only [Sp.holds]
    cases hr : resOf rl s' with
    | none => simp only [hr] at h; exact h.elim
    | some c =>
      simp only [hr] at h
      split at h
      · split at h
        · rename_i d hd
          exact ⟨s', c, .refl s', hr, d, [], Wr.of (ρ := id) (nw := fun _ => false) (plain_le hd) ⟨fun j o' h => by simp [look] at h, fun j j' h => by simp [look] at h⟩ (fun i _ h => by simp [look] at h), h⟩
        · exact h
      · exact h
  | lend I s' => exact h
  | loop b k' s' => exact h
  | go b p k' s' =>
    skip
    cases b with
    | false => exact h.elim
    | true => cases p with
      | none => exact ⟨rfl, trivial, hih _ _ _ h⟩
      | some p => exact ⟨rfl, h.1, hih _ _ _ h.2⟩
  | split b b1 k1 s1 b2 k2 s2 =>
    skip
    cases or with
    | lit o =>
      cases b with
      | true => cases b1 with
        | true => exact And.intro (fun _ => ⟨rfl, hih _ _ _ h⟩) (fun e => nomatch e)
        | false => exact h.elim
      | false => cases b2 with
        | true => exact And.intro (fun e => nomatch e) (fun _ => ⟨rfl, hih _ _ _ h⟩)
        | false => exact h.elim
    | split o1 o2 =>
      refine ⟨fun e => ?_, fun e => ?_⟩
      · have := h.1 e
        cases b1 with
        | true => exact ⟨rfl, hih _ _ _ this⟩
        | false => exact this.elim
      · have := h.2 e
        cases b2 with
        | true => exact ⟨rfl, hih _ _ _ this⟩
        | false => exact this.elim
    | _ => exact h.elim
  | either p k' s1 s2 =>
    skip
    cases or with
    | split o1 o2 => exact ⟨fun e => hih _ _ _ (h.1 e), hih _ _ _ h.2⟩
    | _ => exact h.elim
  | call det f vs m d chk k' s' =>
    skip
    cases or with
    | call ps r H' o =>
      simp only [evS] at h
      split at h
      · rename_i cargs H hca hH
        split at h
        · rename_i hc
          simp only [Bool.and_eq_true, Bool.or_eq_true, Bool.not_eq_true'] at hc
          obtain ⟨⟨⟨⟨h1, h2⟩, h3⟩, h4⟩, h5⟩ := hc
          refine ⟨ps, cargs, H, h1, h2, hca, hH, _, h.1, fun hd => ⟨?_, r, H', ⟨rfl, rfl⟩, fun _ _ e => e⟩, fun x h' e => ?_⟩
          · rcases h3 with h3 | h3
            · rw [hd] at h3; cases h3
            · exact h3
          · obtain ⟨rfl, rfl⟩ := e
            exact ⟨h4, h5, hih _ _ _ h.2⟩
        · exact h.elim
      · exact h.elim
    | callE ps α φ r H' o =>
      simp only [evS] at h
      split at h
      · rename_i cargs H hca hH
        split at h
        · rename_i hc
          simp only [Bool.and_eq_true, Bool.not_eq_true'] at hc
          obtain ⟨⟨h1, h2⟩, h3⟩ := hc
          refine ⟨ps, cargs, H, h1, h2, hca, hH, _, h.1, fun hd => (by rw [h3] at hd; cases hd), ?_⟩
          rintro _ _ ⟨y, hy, rfl, rfl⟩
          have h6 := h.2 y hy
          simp only [] at h6
          split at h6
          · rename_i hb
            simp only [Bool.and_eq_true] at hb
            exact ⟨hb.1, hb.2, hih _ _ _ h6⟩
          · exact h6.elim
        · exact h.elim
      · exact h.elim
    | _ => exact h.elim
theorem ev_ok : ∀ (n : Nat) (or : Or) (k : List Item) (s : St), (ev G rl H0 n or k s).holds P G rl H0 R → M P G (Post rl H0 R) k s
  | 0, or, k, s, h => h.elim
  | n + 1, or, k, s, h => by
    have h : VC.holds P G rl H0 R (ev1 G rl H0 (ev G rl H0 n) or k s) := h
    cases or with
    | no => exact h.elim
    | stop m =>
      cases m with
      | zero => exact h
      | succ m => exact step_ok k s (evS_ok (ih := fun _ k s => ev G rl H0 n (.stop m) k s) (fun _ k s h => ev_ok n (.stop m) k s h) .nil _ h)
    | nil => exact step_ok k s (evS_ok (ev_ok n) _ _ h)
    | lit k => exact step_ok _ s (evS_ok (ev_ok n) _ _ h)
    | split a b => exact step_ok k s (evS_ok (ev_ok n) _ _ h)
    | call a b c d => exact step_ok k s (evS_ok (ev_ok n) _ _ h)
    | callE a b c d e f => exact step_ok k s (evS_ok (ev_ok n) _ _ h)
def Again {σ : Type} (st : σ → St) (inv : σ → Prop) (μ : σ → Nat) (x : σ) (s' : St) : Prop := ∃ x', inv x' ∧ μ x' < μ x ∧ Wk s' (st x')
theorem MLoop.mk {Q : Exit → St → Prop} {b : Ir} {k : List Item} {s : St} {σ : Type} (st : σ → St) (inv : σ → Prop) (μ : σ → Nat) (x0 : σ) (h0 : inv x0) (hs : Wk s (st x0))
    (hr : ∀ x, inv x → M P G Q (.ir b :: .lend (Again st inv μ x) :: k) (st x)) : MLoop P G Q b k s :=
  ⟨σ, st, inv, μ, x0, h0, hs, fun x hx => by
    have : LoopQ st inv μ x (KQ P G Q k) = KQ P G Q (.lend (Again st inv μ x) :: k) := by
      funext e s'; cases e <;> rfl
    rw [this]
    exact hr x hx⟩
theorem PCall.ev {f : FuncId} {args : List AV} {H : List (Nat × Ob)} {keep : List Nat} {ir : Ir} {n : Nat} {or : Or}
    (hc : chk P f args.length keep = some (ir, rl)) (hh : noHoles H = true) (h : (ev G rl H n or [.ir ir] (start args H)).holds P G rl H R) : PCall P G f args H R :=
  PCall.mk hc hh (by
    have e : KQ P G (Post rl H R) [] = Post rl H R := rfl
    have := ev_ok _ _ _ _ h
    obtain ⟨s', h1, h2⟩ := this
    rw [e] at h2
    exact ⟨s', h1, h2⟩)
end
end Go.Gw
