/- A network of comparisons (Batcher's, by merging) sorts; with no condition. -/
namespace Go.Gw
set_option linter.unusedSimpArgs false
set_option linter.unusedVariables false
def cF (n p d s i : Nat) : List (Nat × Nat) :=
  if h : i + d < n then (if i / p % 2 = s then [(i, i + d)] else []) ++ cF n p d s (i + 1) else []
termination_by n - i
def qL (n p q : Nat) : List (Nat × Nat) :=
  if h : p < q then cF n p (q - p) 1 0 ++ qL n p (q / 2) else []
termination_by q
decreasing_by omega
def pL (n t p : Nat) : List (Nat × Nat) :=
  if h : 0 < p then cF n p p 0 0 ++ (qL n p t ++ pL n t (p / 2)) else []
termination_by p
decreasing_by omega
def topN (n t : Nat) : Nat := if h : 2 * t < n ∧ 0 < t then topN n (2 * t) else t
termination_by n - t
decreasing_by omega
def netL (n : Nat) : List (Nat × Nat) := pL n (topN n 1) (topN n 1)
theorem cF_in {n p d s i : Nat} (h : i + d < n) (hs : i / p % 2 = s) : cF n p d s i = (i, i + d) :: cF n p d s (i + 1) := by
  rw [cF]; simp [h, hs]
theorem cF_out {n p d s i : Nat} (hs : ¬ i / p % 2 = s) : cF n p d s i = cF n p d s (i + 1) := by
  rw [cF]
  split
  · simp [hs]
  · rename_i h; rw [cF]; simp [show ¬ i + 1 + d < n by omega]
theorem cF_end {n p d s i : Nat} (h : ¬ i + d < n) : cF n p d s i = [] := by
  rw [cF]; simp [h]
theorem qL_in {n p q : Nat} (h : p < q) : qL n p q = cF n p (q - p) 1 0 ++ qL n p (q / 2) := by
  rw [qL]; simp [h]
theorem qL_end {n p q : Nat} (h : ¬ p < q) : qL n p q = [] := by
  rw [qL]; simp [h]
theorem pL_in {n t p : Nat} (h : 0 < p) : pL n t p = cF n p p 0 0 ++ (qL n p t ++ pL n t (p / 2)) := by
  rw [pL]; simp [h]
theorem pL_end {n t : Nat} : pL n t 0 = [] := by
  rw [pL]; simp
theorem topN_in {n t : Nat} (h : 2 * t < n) (h0 : 0 < t) : topN n t = topN n (2 * t) := by
  rw [topN]; simp [h, h0]
theorem topN_end {n t : Nat} (h : ¬ 2 * t < n) : topN n t = t := by
  rw [topN]; simp [h]
theorem topN_pow (n : Nat) : ∀ k : Nat, ∃ j, topN n (2 ^ k) = 2 ^ j ∧ k ≤ j := by
  intro k
  generalize hd : n - 2 ^ k = d
  induction d using Nat.strongRecOn generalizing k with
  | ind d ih =>
    by_cases h : 2 * 2 ^ k < n
    · have h0 : 0 < 2 ^ k := Nat.two_pow_pos k
      rw [topN_in h h0]
      have e : 2 * 2 ^ k = 2 ^ (k + 1) := by rw [Nat.pow_succ]; omega
      rw [e]
      obtain ⟨j, h1, h2⟩ := ih (n - 2 ^ (k + 1)) (by omega) (k + 1) rfl
      exact ⟨j, h1, by omega⟩
    · exact ⟨k, topN_end h, Nat.le_refl _⟩
theorem topN_ge (n : Nat) : ∀ t, 0 < t → n ≤ 2 * topN n t := by
  intro t ht
  generalize hd : n - t = d
  induction d using Nat.strongRecOn generalizing t with
  | ind d ih =>
    by_cases h : 2 * t < n
    · rw [topN_in h ht]
      exact ih (n - 2 * t) (by omega) (2 * t) (by omega) rfl
    · rw [topN_end h]; omega
theorem topN_lt (n : Nat) : ∀ t, 0 < t → t < n ∨ t = 1 → topN n t < n ∨ topN n t = 1 := by
  intro t ht h1
  generalize hd : n - t = d
  induction d using Nat.strongRecOn generalizing t with
  | ind d ih =>
    by_cases h : 2 * t < n
    · rw [topN_in h ht]
      exact ih (n - 2 * t) (by omega) (2 * t) (by omega) (.inl h) rfl
    · rw [topN_end h]; exact h1
theorem cF_len (n p d s : Nat) : ∀ i, (cF n p d s i).length ≤ n - i := by
  intro i
  generalize hd : n - i = k
  induction k using Nat.strongRecOn generalizing i with
  | ind k ih =>
    by_cases h : i + d < n
    · have := ih (n - (i + 1)) (by omega) (i + 1) rfl
      by_cases hs : i / p % 2 = s
      · rw [cF_in h hs]; simp; omega
      · rw [cF_out hs]; omega
    · rw [cF_end h]; simp
theorem qL_len (n p : Nat) : ∀ q, (qL n p q).length ≤ n * q := by
  intro q
  induction q using Nat.strongRecOn with
  | ind q ih =>
    by_cases h : p < q
    · rw [qL_in h, List.length_append]
      have h1 := ih (q / 2) (by omega)
      have h2 := cF_len n p (q - p) 1 0
      have h3 : n * (q / 2) + n ≤ n * q := by
        have : n * (q / 2) + n = n * (q / 2 + 1) := by rw [Nat.mul_add]; simp
        rw [this]
        by_cases h4 : q = 1
        · subst h4; simp
        · exact Nat.mul_le_mul_left n (by omega)
      omega
    · rw [qL_end h]; simp
theorem pL_len (n t : Nat) : ∀ p, (pL n t p).length ≤ (n + n * t) * p := by
  intro p
  induction p using Nat.strongRecOn with
  | ind p ih =>
    by_cases h : 0 < p
    · rw [pL_in h, List.length_append, List.length_append]
      have h1 := ih (p / 2) (by omega)
      have h2 := cF_len n p p 0 0
      have h3 := qL_len n p t
      have h4 : (n + n * t) * (p / 2) + (n + n * t) ≤ (n + n * t) * p := by
        have : (n + n * t) * (p / 2) + (n + n * t) = (n + n * t) * (p / 2 + 1) := by rw [Nat.mul_add]; simp
        rw [this]
        exact Nat.mul_le_mul_left _ (by omega)
      omega
    · obtain rfl : p = 0 := by omega
      rw [pL_end]; simp
theorem netL_len {n : Nat} (h : n ≤ 256) : (netL n).length ≤ 16777216 := by
  have h1 := pL_len n (topN n 1) (topN n 1)
  have h2 := topN_lt n 1 (by omega) (.inr rfl)
  have h3 : topN n 1 ≤ 256 := by omega
  have h4 : (n + n * topN n 1) * topN n 1 ≤ (256 + 256 * 255) * 256 := by
    by_cases h5 : n = 0
    · subst h5; simp
    · refine Nat.mul_le_mul (Nat.add_le_add h (Nat.mul_le_mul h ?_)) h3
      omega
  unfold netL
  omega
theorem cF_mem {n p d s : Nat} {x : Nat × Nat} : ∀ {i : Nat}, x ∈ cF n p d s i → x.1 / p % 2 = s ∧ x.2 = x.1 + d ∧ x.2 < n := by
  intro i
  generalize hd : n - i = k
  induction k using Nat.strongRecOn generalizing i with
  | ind k ih =>
    intro hx
    by_cases h : i + d < n
    · by_cases hs : i / p % 2 = s
      · rw [cF_in h hs] at hx
        rcases List.mem_cons.1 hx with e | hx
        · subst e; exact ⟨hs, rfl, h⟩
        · exact ih (n - (i + 1)) (by omega) rfl hx
      · rw [cF_out hs] at hx
        exact ih (n - (i + 1)) (by omega) rfl hx
    · rw [cF_end h] at hx; simp at hx
theorem qL_mem {n p : Nat} {x : Nat × Nat} : ∀ {q : Nat}, x ∈ qL n p q → x.1 < x.2 ∧ x.2 < n := by
  intro q
  induction q using Nat.strongRecOn with
  | ind q ih =>
    intro hx
    by_cases h : p < q
    · rw [qL_in h] at hx
      rcases List.mem_append.1 hx with hx | hx
      · have := cF_mem hx; omega
      · exact ih (q / 2) (by omega) hx
    · rw [qL_end h] at hx; simp at hx
theorem pL_mem {n t : Nat} {x : Nat × Nat} : ∀ {p : Nat}, x ∈ pL n t p → x.1 < x.2 ∧ x.2 < n := by
  intro p
  induction p using Nat.strongRecOn with
  | ind p ih =>
    intro hx
    by_cases h : 0 < p
    · rw [pL_in h] at hx
      rcases List.mem_append.1 hx with hx | hx
      · have := cF_mem hx; omega
      · rcases List.mem_append.1 hx with hx | hx
        · exact qL_mem hx
        · exact ih (p / 2) (by omega) hx
    · obtain rfl : p = 0 := by omega
      rw [pL_end] at hx; simp at hx
theorem netL_mem {n : Nat} {x : Nat × Nat} (h : x ∈ netL n) : x.1 < x.2 ∧ x.2 < n := pL_mem h
def stB (z : Nat → Bool) (x : Nat × Nat) : Nat → Bool := fun i => if i = x.1 then z x.1 && z x.2 else if i = x.2 then z x.1 || z x.2 else z i
def runB (z : Nat → Bool) (l : List (Nat × Nat)) : Nat → Bool := l.foldl stB z
theorem runB_app (z : Nat → Bool) (l m : List (Nat × Nat)) : runB z (l ++ m) = runB (runB z l) m := by simp [runB, List.foldl_append]
def lay (n p d s : Nat) (z : Nat → Bool) (i : Nat) : Bool :=
  if i / p % 2 = s then (if i + d < n then z i && z (i + d) else z i) else (if i < n ∧ d ≤ i then z (i - d) || z i else z i)
def layK (n p d s k : Nat) (z : Nat → Bool) (i : Nat) : Bool :=
  if i / p % 2 = s then (if i + d < n ∧ k ≤ i then z i && z (i + d) else z i) else (if i < n ∧ d ≤ i ∧ k ≤ i - d then z (i - d) || z i else z i)
theorem run_lay {n p d s : Nat} (hs : s < 2) (hd : ∀ x, (x + d) / p % 2 = 1 - x / p % 2) : ∀ k (z : Nat → Bool) i, runB z (cF n p d s k) i = layK n p d s k z i := by
  intro k
  generalize hm : n - k = m
  induction m using Nat.strongRecOn generalizing k with
  | ind m ih =>
    intro z i
    have hpar : ∀ x, x / p % 2 < 2 := fun x => Nat.mod_lt _ (by omega)
    by_cases h : k + d < n
    · by_cases hk : k / p % 2 = s
      · rw [cF_in h hk]
        show runB (stB z (k, k + d)) (cF n p d s (k + 1)) i = _
        rw [ih (n - (k + 1)) (by omega) (k + 1) rfl]
        have hkd := hd k
        have hp := hpar k
        simp only [layK, stB]
        by_cases hi : i / p % 2 = s
        · have hid := hd i
          have e1 : ¬ i = k + d := fun e => by rw [e] at hi; omega
          have e2 : ¬ i + d = k := fun e => by rw [e] at hid; omega
          by_cases e3 : i = k
          · subst e3
            have hd0 : ¬ d = 0 := by omega
            simp [hi, h, hd0]
            try (intro _ h8 _; exact .inl h8)
          · have e4 : ¬ i + d = k + d := by omega
            have e5 : (k + 1 ≤ i) = (k ≤ i) := by rw [eq_iff_iff]; omega
            simp only [hi, if_true, e3, e1, e2, e4, if_false, e5]
        · simp only [hi, if_false]
          have e1 : ¬ i = k := fun e => hi (by rw [e]; exact hk)
          by_cases e3 : i = k + d
          · subst e3
            have e4 : ¬ (k + d < n ∧ d ≤ k + d ∧ k + 1 ≤ k + d - d) := by omega
            have e5 : k + d < n ∧ d ≤ k + d ∧ k ≤ k + d - d := by omega
            rw [if_neg e4, if_pos e5, if_neg e1, if_pos rfl, Nat.add_sub_cancel]
          · rw [if_neg e1, if_neg e3]
            by_cases hdi : d ≤ i
            · have e6 : (i - d) / p % 2 = s := by
                have := hd (i - d)
                rw [Nat.sub_add_cancel hdi] at this
                have := hpar (i - d)
                have := hpar i
                omega
              have e7 : ¬ i - d = k := by omega
              have e8 : ¬ i - d = k + d := fun e => by rw [e] at e6; omega
              have e9 : (k + 1 ≤ i - d) = (k ≤ i - d) := by rw [eq_iff_iff]; omega
              simp only [e7, e8, if_false, e9]
            · simp [hdi]
      · rw [cF_out hk]
        rw [ih (n - (k + 1)) (by omega) (k + 1) rfl]
        simp only [layK]
        by_cases hi : i / p % 2 = s
        · have e3 : ¬ i = k := fun e => hk (by rw [← e]; exact hi)
          have e5 : (k + 1 ≤ i) = (k ≤ i) := by rw [eq_iff_iff]; omega
          simp only [hi, if_true, e5]
        · simp only [hi, if_false]
          by_cases hdi : d ≤ i
          · have e6 : (i - d) / p % 2 = s := by
              have := hd (i - d)
              rw [Nat.sub_add_cancel hdi] at this
              have := hpar (i - d)
              have := hpar i
              omega
            have e7 : ¬ i - d = k := fun e => hk (by rw [← e]; exact e6)
            have e9 : (k + 1 ≤ i - d) = (k ≤ i - d) := by rw [eq_iff_iff]; omega
            simp only [e9]
          · simp [hdi]
    · rw [cF_end h]
      simp only [runB, List.foldl_nil, layK]
      by_cases hi : i / p % 2 = s
      · rw [if_pos hi, if_neg (by omega)]
      · rw [if_neg hi, if_neg (by omega)]
theorem run_lay0 {n p d s : Nat} (hs : s < 2) (hd : ∀ x, (x + d) / p % 2 = 1 - x / p % 2) (z : Nat → Bool) (i : Nat) : runB z (cF n p d s 0) i = lay n p d s z i := by
  rw [run_lay hs hd]; simp only [layK, lay, Nat.zero_le, and_true]
def Cls (n m : Nat) (z : Nat → Bool) (Z : Nat → Nat) : Prop := ∀ r i, r < m → (r + m * i < n → (z (r + m * i) = false ↔ i < Z r)) ∧ (i < Z r → r + m * i < n)
theorem par_even {p r i : Nat} (hr : r < p) : (r + 2 * p * i) / p % 2 = 0 := by
  have : r + 2 * p * i = r + p * (2 * i) := by rw [Nat.mul_comm 2 p, Nat.mul_assoc]
  rw [this, Nat.add_mul_div_left _ _ (by omega), Nat.div_eq_of_lt hr]
  omega
theorem par_odd {p r i : Nat} (hr : r < p) : (r + p + 2 * p * i) / p % 2 = 1 := by
  have : r + p + 2 * p * i = r + p * (2 * i + 1) := by rw [Nat.mul_add, Nat.mul_comm 2 p, Nat.mul_assoc, Nat.mul_one]; omega
  rw [this, Nat.add_mul_div_left _ _ (by omega), Nat.div_eq_of_lt hr]
  omega
theorem par_add {p : Nat} (hp : 0 < p) (k : Nat) (x : Nat) : (x + p * (2 * k + 1)) / p % 2 = 1 - x / p % 2 := by
  rw [Nat.add_mul_div_left _ _ hp]; omega
theorem lay_first {n p : Nat} {z : Nat → Bool} {Z : Nat → Nat} (hp : 0 < p) (h : Cls n (2 * p) z Z) :
    Cls n (2 * p) (lay n p p 0 z) (fun r => if r < p then max (Z r) (Z (r + p)) else min (Z (r - p)) (Z r)) := by
  intro r i hr
  by_cases hrp : r < p
  · obtain ⟨a1, a2⟩ := h r i hr
    obtain ⟨b1, b2⟩ := h (r + p) i (by omega)
    simp only [hrp, if_true, lay, par_even hrp]
    have e : r + 2 * p * i + p = r + p + 2 * p * i := by omega
    refine ⟨fun hn => ?_, fun hi => ?_⟩
    · split
      · rename_i h1
        rw [e] at h1 ⊢
        rw [Bool.and_eq_false_iff, a1 hn, b1 h1]
        omega
      · rename_i h1
        rw [a1 hn]
        rw [e] at h1
        have : ¬ i < Z (r + p) := fun h2 => h1 (b2 h2)
        omega
    · by_cases h1 : i < Z r
      · exact a2 h1
      · have := b2 (by omega); omega
  · obtain ⟨q, rfl⟩ : ∃ q, r = q + p := ⟨r - p, by omega⟩
    have hq : q < p := by omega
    obtain ⟨a1, a2⟩ := h q i (by omega)
    obtain ⟨b1, b2⟩ := h (q + p) i hr
    have e1 : q + p - p = q := by omega
    simp only [hrp, if_false, e1, lay, par_odd hq]
    refine ⟨fun hn => ?_, fun hi => b2 (by omega)⟩
    rw [if_neg (by omega), if_pos ⟨hn, by omega⟩]
    have e : q + p + 2 * p * i - p = q + 2 * p * i := by omega
    rw [e, Bool.or_eq_false_iff, a1 (by omega), b1 hn]
    omega
theorem lay_next {n p g : Nat} {z : Nat → Bool} {Z : Nat → Nat} (hp : 0 < p) (h : Cls n (2 * p) z Z) (hg : 0 < g) :
    Cls n (2 * p) (lay n p (2 * p * g - p) 1 z) (fun r => if r < p then min (Z r) (Z (r + p) + g) else max (Z r) (Z (r - p) - g)) := by
  have hpg : p ≤ 2 * p * g := Nat.le_trans (by omega) (Nat.le_mul_of_pos_right (2 * p) hg)
  intro r i hr
  by_cases hrp : r < p
  · obtain ⟨a1, a2⟩ := h r i hr
    simp only [hrp, if_true, lay, par_even hrp]
    rw [if_neg (by omega)]
    refine ⟨fun hn => ?_, fun hi => a2 (by omega)⟩
    by_cases hgi : g ≤ i
    · have hm : 2 * p * g ≤ 2 * p * i := Nat.mul_le_mul_left _ hgi
      have e : r + 2 * p * i - (2 * p * g - p) = r + p + 2 * p * (i - g) := by rw [Nat.mul_sub]; omega
      obtain ⟨b1, b2⟩ := h (r + p) (i - g) (by omega)
      rw [if_pos ⟨hn, by omega⟩, e, Bool.or_eq_false_iff, a1 hn, b1 (by omega)]
      omega
    · have hm : 2 * p * (i + 1) ≤ 2 * p * g := Nat.mul_le_mul_left _ (by omega)
      rw [Nat.mul_add, Nat.mul_one] at hm
      rw [if_neg (by omega), a1 hn]
      omega
  · obtain ⟨q, rfl⟩ : ∃ q, r = q + p := ⟨r - p, by omega⟩
    have hq : q < p := by omega
    obtain ⟨b1, b2⟩ := h (q + p) i hr
    obtain ⟨a1, a2⟩ := h q (i + g) (by omega)
    have e1 : q + p - p = q := by omega
    simp only [hrp, if_false, e1, lay, par_odd hq, if_true]
    have e : q + p + 2 * p * i + (2 * p * g - p) = q + 2 * p * (i + g) := by rw [Nat.mul_add]; omega
    rw [e]
    refine ⟨fun hn => ?_, fun hi => ?_⟩
    · split
      · rename_i h1
        rw [Bool.and_eq_false_iff, a1 h1, b1 hn]
        omega
      · rename_i h1
        rw [b1 hn]
        have : ¬ i + g < Z q := fun h2 => h1 (a2 h2)
        omega
    · by_cases h1 : i < Z (q + p)
      · exact b2 h1
      · have := a2 (by omega)
        rw [Nat.mul_add] at this
        omega
theorem run_q {n p : Nat} (hp : 0 < p) : ∀ (k : Nat) (z : Nat → Bool) (Z : Nat → Nat), Cls n (2 * p) z Z → (∀ r, r < p → Z (r + p) ≤ Z r ∧ Z r ≤ Z (r + p) + 2 ^ k) →
    ∃ Z', Cls n (2 * p) (runB z (qL n p (p * 2 ^ k))) Z' ∧ ∀ r, r < p → Z' (r + p) ≤ Z' r ∧ Z' r ≤ Z' (r + p) + 1 := by
  intro k
  induction k with
  | zero =>
    intro z Z h hb
    rw [qL_end (by simp)]
    exact ⟨Z, h, by simpa using hb⟩
  | succ k ih =>
    intro z Z h hb
    have h2 := Nat.two_pow_pos k
    have e : p * 2 ^ (k + 1) = 2 * p * 2 ^ k := by rw [Nat.pow_succ, Nat.mul_comm 2 p, Nat.mul_assoc, Nat.mul_comm 2]
    have e2 : 2 * p * 2 ^ k / 2 = p * 2 ^ k := by rw [Nat.mul_assoc, Nat.mul_div_cancel_left _ (by omega)]
    have hlt : p < 2 * p * 2 ^ k := by
      have := Nat.mul_le_mul_left (2 * p) h2
      omega
    rw [e, qL_in hlt, runB_app, e2]
    have e3 : runB z (cF n p (2 * p * 2 ^ k - p) 1 0) = lay n p (2 * p * 2 ^ k - p) 1 z := by
      funext i
      refine run_lay0 (by omega) (fun x => ?_) z i
      have : 2 * p * 2 ^ k - p = p * (2 * (2 ^ k - 1) + 1) := by
        rw [Nat.mul_add, Nat.mul_one, Nat.mul_sub, Nat.mul_sub, ← Nat.mul_assoc, Nat.mul_comm p 2]
        have := Nat.mul_le_mul_left (2 * p) h2
        omega
      rw [this]
      exact par_add hp _ x
    rw [e3]
    refine ih _ _ (lay_next hp h h2) fun r hr => ?_
    obtain ⟨h3, h4⟩ := hb r hr
    have e4 : r + p - p = r := by omega
    have e5 : 2 ^ (k + 1) = 2 ^ k + 2 ^ k := by rw [Nat.pow_succ]; omega
    simp only [hr, if_true, show ¬ r + p < p by omega, if_false, e4]
    omega
theorem cls_join {n p : Nat} {z : Nat → Bool} {Z : Nat → Nat} (hp : 0 < p) (h : Cls n (2 * p) z Z) (hb : ∀ r, r < p → Z (r + p) ≤ Z r ∧ Z r ≤ Z (r + p) + 1) : Cls n p z (fun r => Z r + Z (r + p)) := by
  intro r j hr
  obtain ⟨h1, h2⟩ := hb r hr
  simp only []
  rcases Nat.mod_two_eq_zero_or_one j with h3 | h3
  · obtain ⟨i, rfl⟩ : ∃ i, j = 2 * i := ⟨j / 2, by omega⟩
    have e : r + p * (2 * i) = r + 2 * p * i := by rw [Nat.mul_comm 2 p, Nat.mul_assoc]
    obtain ⟨a1, a2⟩ := h r i (by omega)
    rw [e]
    refine ⟨fun hn => ?_, fun hi => a2 (by omega)⟩
    rw [a1 hn]; omega
  · obtain ⟨i, rfl⟩ : ∃ i, j = 2 * i + 1 := ⟨j / 2, by omega⟩
    have e : r + p * (2 * i + 1) = r + p + 2 * p * i := by rw [Nat.mul_add, Nat.mul_comm 2 p, Nat.mul_assoc, Nat.mul_one]; omega
    obtain ⟨a1, a2⟩ := h (r + p) i (by omega)
    rw [e]
    refine ⟨fun hn => ?_, fun hi => a2 (by omega)⟩
    rw [a1 hn]; omega
theorem net_round {n : Nat} (t : Nat) (ht : n ≤ 2 * 2 ^ t) (k : Nat) (z : Nat → Bool) (Z : Nat → Nat) (hk : k ≤ t) (h : Cls n (2 * 2 ^ k) z Z) : ∃ Z', Cls n (2 ^ k) (runB z (cF n (2 ^ k) (2 ^ k) 0 0 ++ qL n (2 ^ k) (2 ^ t))) Z' := by
  have hp := Nat.two_pow_pos k
  rw [runB_app]
  have e3 : runB z (cF n (2 ^ k) (2 ^ k) 0 0) = lay n (2 ^ k) (2 ^ k) 0 z := by
    funext i
    refine run_lay0 (by omega) (fun x => ?_) z i
    have := par_add hp 0 x
    simpa using this
  rw [e3]
  have e4 : 2 ^ t = 2 ^ k * 2 ^ (t - k) := by rw [← Nat.pow_add]; congr 1; omega
  have hb : ∀ r, r < 2 ^ k → (fun r => if r < 2 ^ k then max (Z r) (Z (r + 2 ^ k)) else min (Z (r - 2 ^ k)) (Z r)) (r + 2 ^ k) ≤ (fun r => if r < 2 ^ k then max (Z r) (Z (r + 2 ^ k)) else min (Z (r - 2 ^ k)) (Z r)) r ∧ (fun r => if r < 2 ^ k then max (Z r) (Z (r + 2 ^ k)) else min (Z (r - 2 ^ k)) (Z r)) r ≤ (fun r => if r < 2 ^ k then max (Z r) (Z (r + 2 ^ k)) else min (Z (r - 2 ^ k)) (Z r)) (r + 2 ^ k) + 2 ^ (t - k) := by
    intro r hr
    have e5 : r + 2 ^ k - 2 ^ k = r := by omega
    simp only [hr, if_true, show ¬ r + 2 ^ k < 2 ^ k by omega, if_false, e5]
    refine ⟨by omega, ?_⟩
    -- at most so many places
    have most : ∀ s, s < 2 * 2 ^ k → Z s ≤ 2 ^ (t - k) := fun s hs => by
      rcases Nat.lt_or_ge (2 ^ (t - k)) (Z s) with h5 | h5
      · have h6 := (h s (2 ^ (t - k)) hs).2 h5
        rw [Nat.mul_assoc, ← e4] at h6
        omega
      · exact h5
    have := most r (by omega)
    have := most (r + 2 ^ k) (by omega)
    omega
  obtain ⟨Z', h1, h2⟩ := run_q hp (t - k) _ _ (lay_first hp h) hb
  rw [← e4] at h1
  exact ⟨_, cls_join hp h1 h2⟩
theorem run_p {n : Nat} (t : Nat) (ht : n ≤ 2 * 2 ^ t) : ∀ (k : Nat) (z : Nat → Bool) (Z : Nat → Nat), k ≤ t → Cls n (2 * 2 ^ k) z Z → ∃ Z', Cls n 1 (runB z (pL n (2 ^ t) (2 ^ k))) Z' := by
  intro k
  induction k with
  | zero =>
    intro z Z hk h
    have key := net_round t ht 0 z Z hk h
    obtain ⟨Z', h1⟩ := key
    rw [pL_in (by simp), show (2 ^ 0 / 2 : Nat) = 0 by decide, pL_end, List.append_nil]
    exact ⟨Z', h1⟩
  | succ k ih =>
    intro z Z hk h
    obtain ⟨Z', h1⟩ := net_round t ht (k + 1) z Z hk h
    rw [pL_in (Nat.two_pow_pos _), ← List.append_assoc, runB_app]
    have e : 2 ^ (k + 1) / 2 = 2 ^ k := by rw [Nat.pow_succ]; omega
    rw [e]
    refine ih _ Z' (by omega) ?_
    rw [show 2 * 2 ^ k = 2 ^ (k + 1) by rw [Nat.pow_succ]; omega]
    exact h1
theorem net_bool {n : Nat} (z : Nat → Bool) {i j : Nat} (hij : i < j) (hj : j < n) (hz : runB z (netL n) i = true) : runB z (netL n) j = true := by
  obtain ⟨t, h1, _⟩ := topN_pow n 0
  have h2 := topN_ge n 1 (by omega)
  rw [Nat.pow_zero] at h1
  rw [h1] at h2
  unfold netL at hz ⊢
  rw [h1] at hz ⊢
  have h0 : Cls n (2 * 2 ^ t) z (fun r => if r < n ∧ z r = false then 1 else 0) := by
    intro r i hr
    simp only []
    by_cases hi : i = 0
    · subst hi
      simp only [Nat.mul_zero, Nat.add_zero]
      refine ⟨fun hn => ?_, fun h => ?_⟩
      · by_cases e : z r = false
        · simp [hn, e]
        · simp [e]
      · split at h
        · rename_i h3; exact h3.1
        · omega
    · have := Nat.mul_le_mul_left (2 * 2 ^ t) (show 1 ≤ i by omega)
      refine ⟨fun hn => by omega, fun h => ?_⟩
      split at h <;> omega
  obtain ⟨Z, h3⟩ := run_p t h2 t z _ (Nat.le_refl _) h0
  have ai := (h3 0 i (by omega)).1
  have aj := (h3 0 j (by omega)).1
  simp only [Nat.one_mul, Nat.zero_add] at ai aj
  have ai := ai (by omega)
  have aj := aj hj
  rcases Bool.eq_false_or_eq_true (runB z (pL n (2 ^ t) (2 ^ t)) j) with h4 | h4
  · exact h4
  · have h5 := aj.1 h4
    have := ai.2 (by omega)
    rw [this] at hz
    cases hz
end Go.Gw
