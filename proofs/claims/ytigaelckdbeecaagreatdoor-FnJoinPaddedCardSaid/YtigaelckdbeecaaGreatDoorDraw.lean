/- Bytes read one by one; with no condition. -/
import Derived.Test.YtigaelckdbeecaaGreatDoorInts
import Derived.KernelRfl
namespace Go.Gw
open Go Go.Proofs
set_option linter.unusedSimpArgs false
set_option linter.unusedVariables false
set_option maxRecDepth 100000
def ir15 : Ir := (.seq (.reg [] [o 2 (.mov (.const (.pointer none)))]) (.seq (.seq (.reg [3, 4] [om 3 0, o 4 (.len (tt 3)), o 5 (.bin .gtr (tt 4) (ci 2000))]) (.cond (tt 5) (.reg [6, 7] [om 6 0, o 7 (.slc 1 (tt 6) none (some (ci 2000))), om 0 7]) .skip)) (.seq (.reg [8, 9, 10] [om 8 0, o 9 (.build [(.slice none 0 0), (.int .i64 0)] [(0, 1, (tt 8))]), o 10 (.box 2 (tt 9)), om 2 10]) .ret)))
def keep15 : List Nat := [0, 2, 5]
def res15 : List RI := [.tmp 2]
theorem chk15 : chk Tryz.prog 15 1 keep15 = some (ir15, res15) := by kernel_rfl
def ir17 : Ir := (.seq (.reg [] [o 4 (.mov (ci 0))]) (.seq (.reg [7, 8, 9, 10, 11, 12, 13, 14] [om 7 0, om 8 0, o 9 (.nilck (tt 8)), oa 10 1 9, ol 11 10, o 12 (.bin .add (tt 11) (ci 1)), o 13 (.nilck (tt 7)), oa 14 1 13, on (.store 1 (tt 14) (tt 12))]) (.seq (.seq (.reg [15, 16, 17, 18, 19, 20, 21, 22, 23] [om 15 1, o 16 (.bin .lss (tt 15) (ci 1)), om 17 16, og 18 17 false (.mov (tt 0)), og 19 17 false (.nilck (tt 18)), og 20 17 false (.fadr 0 (tt 19)), og 21 17 false (.load false 1 (tt 20)), og 22 17 false (.len (tt 21)), og 23 17 false (.bin .eql (tt 22) (ci 0)), o 24 (.pick (tt 17) (cb true) (tt 23))]) (.cond (tt 24) (.seq (.reg [] [o 4 (.mov (ci 0))]) .ret) .skip)) (.seq (.reg [25, 26, 27, 28, 29] [om 25 0, o 26 (.nilck (tt 25)), oa 27 1 26, ol 28 27, o 29 (.bin .sub (tt 28) (ci 1)), om 5 29]) (.seq (.seq (.reg [30, 31, 32, 33, 34, 35] [om 30 5, om 31 0, o 32 (.nilck (tt 31)), oa 33 0 32, ol 34 33, o 35 (.len (tt 34)), ob .lss 36 30 35]) (.cond (tt 36) (.seq (.reg [37, 38, 39, 40, 41, 42, 43, 44, 45, 46] [om 37 0, o 38 (.nilck (tt 37)), oa 39 0 38, ol 40 39, om 41 5, ox 42 40 41, ol 43 42, o 44 (.conv .i64 (tt 43)), om 45 1, ob .rem 46 44 45, om 4 46]) .ret) .skip)) (.seq (.dreg [47, 48, 49, 50, 51, 52, 53, 54, 55, 56, 57, 58, 59, 60, 61, 62, 63, 64, 65, 66, 67, 68, 69, 70, 71, 72, 73, 74, 75, 76, 77, 78, 79, 80, 81, 82, 83, 84, 85, 86, 87, 88, 89, 90, 91] [0, 1, 3, 7, 0, 0, 32, 96, 224, 480, 1008, 2047, 4095, 8191, 16383, 0, 32768, 98304, 229376, 0, 524288, 1572864, 0, 4194304, 12582912, 29360128, 62914560, 133693440, 268402688, 536838144, 1073709056, 2147450880, 4294967295, 0, 8589934592, 34359738367, 0, 0, 137438953472, 412316860416, 962072674304, 2061584302080, 4329327034368, 8727373545472, 17592186044415, 35184372088831] [(3, 1050), (8, 1055), (12, 1059), (18, 1065), (25, 1072), (29, 1076), (40, 1087)] [om 47 0, o 48 (.nilck (tt 47)), oa 49 0 48, ol 50 49, om 51 5, om 52 0, o 53 (.nilck (tt 52)), oa 54 0 53, ol 55 54, o 56 (.len (tt 55)), ob .rem 57 51 56, ox 58 50 57, ol 59 58, o 60 (.conv .i64 (tt 59)), o 61 (.bin .mul (tt 60) (ci 131)), om 62 0, o 63 (.nilck (tt 62)), oa 64 0 63, ol 65 64, om 66 5, o 67 (.bin .mul (tt 66) (ci 7)), o 68 (.bin .add (tt 67) (ci 3)), om 69 0, o 70 (.nilck (tt 69)), oa 71 0 70, ol 72 71, o 73 (.len (tt 72)), ob .rem 74 68 73, ox 75 65 74, ol 76 75, o 77 (.conv .i64 (tt 76)), o 78 (.bin .mul (tt 77) (ci 1117)), ob .add 79 61 78, om 80 5, o 81 (.bin .mul (tt 80) (ci 29)), ob .add 82 79 81, om 83 5, om 84 0, o 85 (.nilck (tt 84)), oa 86 0 85, ol 87 86, o 88 (.len (tt 87)), ob .quo 89 83 88, o 90 (.bin .mul (tt 89) (ci 53)), ob .add 91 82 90, om 6 91]) (.seq (.reg [92, 93, 94, 95] [om 92 6, om 93 6, o 94 (.bin .quo (tt 93) (ci 64)), ob .xor 95 92 94, om 6 95]) (.seq (.reg [96, 97, 98] [om 96 6, om 97 1, ob .rem 98 96 97, om 4 98]) .ret))))))))
def keep17 : List Nat := [0, 1, 4, 5, 6, 24, 36]
def res17 : List RI := [.tmp 4]
theorem chk17 : chk Tryz.prog 17 2 keep17 = some (ir17, res17) := by kernel_rfl
def ir53 : Ir := (.seq (.reg [] [o 4 (.mov (cb false))]) (.seq (.reg [5, 6, 7, 8, 9, 10, 11, 12, 13, 14] [om 5 1, o 6 (.bin .gtr (tt 5) (ci 0)), om 7 6, og 8 7 true (.mov (tt 0)), og 9 7 true (.mov (tt 1)), og 10 7 true (.call 17 [(tt 8), (tt 9)]), og 11 7 true (.mov (tt 1)), og 12 7 true (.bin .sub (tt 11) (ci 1)), og 13 7 true (.bin .eql (tt 10) (tt 12)), o 14 (.pick (tt 7) (tt 13) (cb false)), om 4 14]) .ret))
def keep53 : List Nat := [0, 1, 4]
def res53 : List RI := [.tmp 4]
theorem chk53 : chk Tryz.prog 53 2 keep53 = some (ir53, res53) := by kernel_rfl
abbrev PB (f : Nat → Int) : Nat → Nat → PV := fun i _ => .v (.int .u8 (f i))
abbrev RD (nn : Bool) (n : Nat) (f : Nat → Int) (p : Nat) : Ob := .box [.p false (.sl nn 1 n (PB f)), AI p]
theorem ev_open : ∀ (nn : Bool) (n : Nat) (f : Nat → Int), ev G0 res15 [] 3000 (Or.nil.split Or.nil) [.ir ir15] (start [SL nn 1 n (PB f)] []) = VC.split (decide (2000 < (↑n : Int))) (VC.need ((0 : Int) ≤ 0 ∧ (0 : Int) ≤ 2000 ∧ 2000 ≤ (↑n : Int)) (VC.done (St.mk [(0, SL nn 1 2000 fun i j => PB f (i + Int.toNat 0) j), (2, .adr 10 0), (5, AB (decide (2000 < (↑n : Int))))] [(10, .box [SL nn 1 2000 fun i j => PB f (i + Int.toNat 0) j, AI 0])]))) (VC.done (St.mk [(0, SL nn 1 n (PB f)), (2, .adr 10 0), (5, AB (decide (2000 < (↑n : Int))))] [(10, .box [SL nn 1 n (PB f), AI 0])])) := by intros; kernel_rfl
theorem ev_pick : ∀ (nn : Bool) (n : Nat) (f : Nat → Int) (p : Nat) (m : Int), ev G0 res17 [(0, RD nn n f p)] 3000 (Or.nil.lit.lit.lit.lit.lit.lit.lit.split (Or.nil.split (Or.nil.split Or.nil)).lit.lit.lit.lit.lit.lit) [.ir ir17] (start [.adr 0 0, AI m] [(0, RD nn n f p)]) = VC.split (decide (m < 1)) (VC.done (St.mk [(0, .adr 100000 0), (1, AI m), (4, AI 0), (24, AB true)] [(100000, .box [SL nn 1 n (PB f), AI (IntKind.i64.wrap ((↑p : Int) + 1))])])) (VC.split ((↑n : Int) == 0) (VC.done (St.mk [(0, .adr 100000 0), (1, AI m), (4, AI 0), (24, AB ((↑n : Int) == 0))] [(100000, .box [SL nn 1 n (PB f), AI (IntKind.i64.wrap ((↑p : Int) + 1))])])) (VC.split (decide (IntKind.i64.wrap (IntKind.i64.wrap ((↑p : Int) + 1) - 1) < (↑n : Int))) (VC.need (0 ≤ IntKind.i64.wrap (IntKind.i64.wrap ((↑p : Int) + 1) - 1) ∧ (IntKind.i64.wrap (IntKind.i64.wrap ((↑p : Int) + 1) - 1)).toNat < n) (VC.need (m ≠ 0) (VC.done (St.mk [(0, .adr 100000 0), (1, AI m), (4, AI ((IntKind.i64.wrap (f (IntKind.i64.wrap (IntKind.i64.wrap ((↑p : Int) + 1) - 1)).toNat)).tmod m)), (24, AB ((↑n : Int) == 0)), (5, AI (IntKind.i64.wrap (IntKind.i64.wrap ((↑p : Int) + 1) - 1))), (36, AB (decide (IntKind.i64.wrap (IntKind.i64.wrap ((↑p : Int) + 1) - 1) < (↑n : Int))))] [(100000, .box [SL nn 1 n (PB f), AI (IntKind.i64.wrap ((↑p : Int) + 1))])])))) (VC.need ((↑n : Int) ≠ 0) (VC.need (0 ≤ (IntKind.i64.wrap (IntKind.i64.wrap ((↑p : Int) + 1) - 1)).tmod (↑n : Int) ∧ ((IntKind.i64.wrap (IntKind.i64.wrap ((↑p : Int) + 1) - 1)).tmod (↑n : Int)).toNat < n) (VC.need ((↑n : Int) ≠ 0) (VC.need (0 ≤ (IntKind.i64.wrap (IntKind.i64.wrap (IntKind.i64.wrap (IntKind.i64.wrap ((↑p : Int) + 1) - 1) * 7) + 3)).tmod (↑n : Int) ∧ ((IntKind.i64.wrap (IntKind.i64.wrap (IntKind.i64.wrap (IntKind.i64.wrap ((↑p : Int) + 1) - 1) * 7) + 3)).tmod (↑n : Int)).toNat < n) (VC.need ((↑n : Int) ≠ 0) (VC.need ((64 : Int) ≠ 0) (VC.need (m ≠ 0) (VC.done (St.mk [(0, .adr 100000 0), (1, AI m), (4, AI ((IntKind.i64.wrap (↑(BitVec.ofInt IntKind.i64.bits (IntKind.i64.wrap (IntKind.i64.wrap (IntKind.i64.wrap (IntKind.i64.wrap (IntKind.i64.wrap (f ((IntKind.i64.wrap (IntKind.i64.wrap ((↑p : Int) + 1) - 1)).tmod (↑n : Int)).toNat) * 131) + IntKind.i64.wrap (IntKind.i64.wrap (f ((IntKind.i64.wrap (IntKind.i64.wrap (IntKind.i64.wrap (IntKind.i64.wrap ((↑p : Int) + 1) - 1) * 7) + 3)).tmod (↑n : Int)).toNat) * 1117)) + IntKind.i64.wrap (IntKind.i64.wrap (IntKind.i64.wrap ((↑p : Int) + 1) - 1) * 29)) + IntKind.i64.wrap (IntKind.i64.wrap ((IntKind.i64.wrap (IntKind.i64.wrap ((↑p : Int) + 1) - 1)).tdiv (↑n : Int)) * 53))) ^^^ BitVec.ofInt IntKind.i64.bits (IntKind.i64.wrap ((IntKind.i64.wrap (IntKind.i64.wrap (IntKind.i64.wrap (IntKind.i64.wrap (IntKind.i64.wrap (f ((IntKind.i64.wrap (IntKind.i64.wrap ((↑p : Int) + 1) - 1)).tmod (↑n : Int)).toNat) * 131) + IntKind.i64.wrap (IntKind.i64.wrap (f ((IntKind.i64.wrap (IntKind.i64.wrap (IntKind.i64.wrap (IntKind.i64.wrap ((↑p : Int) + 1) - 1) * 7) + 3)).tmod (↑n : Int)).toNat) * 1117)) + IntKind.i64.wrap (IntKind.i64.wrap (IntKind.i64.wrap ((↑p : Int) + 1) - 1) * 29)) + IntKind.i64.wrap (IntKind.i64.wrap ((IntKind.i64.wrap (IntKind.i64.wrap ((↑p : Int) + 1) - 1)).tdiv (↑n : Int)) * 53))).tdiv 64))).toNat : Int)).tmod m)), (24, AB ((↑n : Int) == 0)), (5, AI (IntKind.i64.wrap (IntKind.i64.wrap ((↑p : Int) + 1) - 1))), (36, AB (decide (IntKind.i64.wrap (IntKind.i64.wrap ((↑p : Int) + 1) - 1) < (↑n : Int)))), (6, AI (IntKind.i64.wrap (↑(BitVec.ofInt IntKind.i64.bits (IntKind.i64.wrap (IntKind.i64.wrap (IntKind.i64.wrap (IntKind.i64.wrap (IntKind.i64.wrap (f ((IntKind.i64.wrap (IntKind.i64.wrap ((↑p : Int) + 1) - 1)).tmod (↑n : Int)).toNat) * 131) + IntKind.i64.wrap (IntKind.i64.wrap (f ((IntKind.i64.wrap (IntKind.i64.wrap (IntKind.i64.wrap (IntKind.i64.wrap ((↑p : Int) + 1) - 1) * 7) + 3)).tmod (↑n : Int)).toNat) * 1117)) + IntKind.i64.wrap (IntKind.i64.wrap (IntKind.i64.wrap ((↑p : Int) + 1) - 1) * 29)) + IntKind.i64.wrap (IntKind.i64.wrap ((IntKind.i64.wrap (IntKind.i64.wrap ((↑p : Int) + 1) - 1)).tdiv (↑n : Int)) * 53))) ^^^ BitVec.ofInt IntKind.i64.bits (IntKind.i64.wrap ((IntKind.i64.wrap (IntKind.i64.wrap (IntKind.i64.wrap (IntKind.i64.wrap (IntKind.i64.wrap (f ((IntKind.i64.wrap (IntKind.i64.wrap ((↑p : Int) + 1) - 1)).tmod (↑n : Int)).toNat) * 131) + IntKind.i64.wrap (IntKind.i64.wrap (f ((IntKind.i64.wrap (IntKind.i64.wrap (IntKind.i64.wrap (IntKind.i64.wrap ((↑p : Int) + 1) - 1) * 7) + 3)).tmod (↑n : Int)).toNat) * 1117)) + IntKind.i64.wrap (IntKind.i64.wrap (IntKind.i64.wrap ((↑p : Int) + 1) - 1) * 29)) + IntKind.i64.wrap (IntKind.i64.wrap ((IntKind.i64.wrap (IntKind.i64.wrap ((↑p : Int) + 1) - 1)).tdiv (↑n : Int)) * 53))).tdiv 64))).toNat : Int)))] [(100000, .box [SL nn 1 n (PB f), AI (IntKind.i64.wrap ((↑p : Int) + 1))])]))))))))))) := by intros; kernel_rfl
def Bytes (f : Nat → Int) : Prop := ∀ i, 0 ≤ f i ∧ f i ≤ 255
def dv (p n : Nat) : Nat := p / n
theorem dv_le (p n : Nat) : dv p n ≤ p := Nat.div_le_self _ _
def mixX (n : Nat) (f : Nat → Int) (p : Nat) : Int := f (p % n) * 131 + f ((p * 7 + 3) % n) * 1117 + (p : Int) * 29 + (dv p n : Int) * 53
def xorI (x y : Int) : Int := IntKind.i64.wrap ((BitVec.ofInt IntKind.i64.bits x ^^^ BitVec.ofInt IntKind.i64.bits y).toNat : Int)
def pickV (n : Nat) (f : Nat → Int) (p : Nat) (m : Int) : Int := if m < 1 then 0 else if n = 0 then 0 else if p < n then (f p).tmod m else (xorI (mixX n f p) ((mixX n f p).tdiv 64)).tmod m
theorem xor_nonneg {x y : Int} (hx : 0 ≤ x) (hx2 : x < 9223372036854775808) (hy : 0 ≤ y) (hy2 : y < 9223372036854775808) : 0 ≤ xorI x y := by
  unfold xorI
  have hb : IntKind.i64.bits = 64 := rfl
  have e : ∀ {z : Int}, 0 ≤ z → z < 9223372036854775808 → (BitVec.ofInt IntKind.i64.bits z).toNat = z.toNat := by
    intro z h1 h2
    rw [hb, BitVec.toNat_ofInt]
    have : ((2 ^ 64 : Nat) : Int) = 18446744073709551616 := by decide
    rw [this]
    omega
  rw [BitVec.toNat_xor, e hx hx2, e hy hy2]
  have h1 : x.toNat ^^^ y.toNat < 2 ^ 63 := Nat.xor_lt_two_pow (n := 63) (by omega) (by omega)
  have h3 : IntKind.i64.wrap ((x.toNat ^^^ y.toNat : Nat) : Int) = ((x.toNat ^^^ y.toNat : Nat) : Int) := wrap_in (by omega) (by omega)
  rw [h3]
  omega
theorem tmod_rng {a m : Int} (ha : 0 ≤ a) (hm : 0 < m) : 0 ≤ a.tmod m ∧ a.tmod m < m := ⟨Int.tmod_nonneg _ ha, Int.tmod_lt_of_pos _ hm⟩
theorem mixX_rng {n : Nat} {f : Nat → Int} {p : Nat} (hb : Bytes f) (hp : p ≤ 1000000000) : 0 ≤ mixX n f p ∧ mixX n f p ≤ 1000000000000 := by
  have h1 := hb (p % n)
  have h2 := hb ((p * 7 + 3) % n)
  have h3 := dv_le p n
  unfold mixX
  omega
theorem pick_rng {n : Nat} {f : Nat → Int} {p : Nat} {m : Int} (hb : Bytes f) (hp : p ≤ 1000000000) (hm : 1 ≤ m) : 0 ≤ pickV n f p m ∧ pickV n f p m < m := by
  unfold pickV
  split
  · omega
  · split
    · omega
    · split
      · exact tmod_rng (hb p).1 (by omega)
      · have hx := mixX_rng (n := n) hb hp
        refine tmod_rng (xor_nonneg hx.1 (by omega) (Int.tdiv_nonneg hx.1 (by decide)) ?_) (by omega)
        rw [Int.tdiv_eq_ediv_of_nonneg hx.1]
        omega
theorem c_pick (nn : Bool) (n : Nat) (f : Nat → Int) (p : Nat) (m : Int) (hb : Bytes f) (hp : p ≤ 1000000000) : PObj Tryz.prog G0 17 [.adr 0 0, AI m] [(0, RD nn n f p)] (AI (pickV n f p m)) [(0, RD nn n f (p + 1))] := by
  refine PObj.by chk17 rfl (ev_pick nn n f p m) ?_
  have w1 : IntKind.i64.wrap ((p : Int) + 1) = ((p + 1 : Nat) : Int) := wrap_in (by omega) (by omega)
  have w2 : IntKind.i64.wrap (((p + 1 : Nat) : Int) - 1) = (p : Int) := (wrap_in (by omega) (by omega)).trans (by omega)
  simp only [w1, w2]
  have t1 : (p : Int).tmod (n : Int) = ((p % n : Nat) : Int) := (Int.ofNat_tmod p n).symm
  have w3 : IntKind.i64.wrap ((p : Int) * 7) = ((p * 7 : Nat) : Int) := (wrap_in (by omega) (by omega)).trans (by omega)
  have w4 : IntKind.i64.wrap (((p * 7 : Nat) : Int) + 3) = ((p * 7 + 3 : Nat) : Int) := (wrap_in (by omega) (by omega)).trans (by omega)
  have t2 : ((p * 7 + 3 : Nat) : Int).tmod (n : Int) = (((p * 7 + 3) % n : Nat) : Int) := (Int.ofNat_tmod _ n).symm
  have t3 : (p : Int).tdiv (n : Int) = (dv p n : Int) := (Int.ofNat_tdiv p n).symm
  simp only [t1, w3, w4, t2, t3, Int.toNat_natCast]
  have h1 := hb (p % n)
  have h2 := hb ((p * 7 + 3) % n)
  have h3 := dv_le p n
  have w5 : ∀ i, IntKind.i64.wrap (f i) = f i := fun i => by have := hb i; exact wrap_in (by omega) (by omega)
  have w6 : IntKind.i64.wrap (f (p % n) * 131) = f (p % n) * 131 := wrap_in (by omega) (by omega)
  have w7 : IntKind.i64.wrap (f ((p * 7 + 3) % n) * 1117) = f ((p * 7 + 3) % n) * 1117 := wrap_in (by omega) (by omega)
  have w8 : IntKind.i64.wrap (f (p % n) * 131 + f ((p * 7 + 3) % n) * 1117) = f (p % n) * 131 + f ((p * 7 + 3) % n) * 1117 := wrap_in (by omega) (by omega)
  have w9 : IntKind.i64.wrap ((p : Int) * 29) = (p : Int) * 29 := wrap_in (by omega) (by omega)
  have w10 : IntKind.i64.wrap (f (p % n) * 131 + f ((p * 7 + 3) % n) * 1117 + (p : Int) * 29) = f (p % n) * 131 + f ((p * 7 + 3) % n) * 1117 + (p : Int) * 29 := wrap_in (by omega) (by omega)
  have w11 : IntKind.i64.wrap (dv p n : Int) = (dv p n : Int) := wrap_in (by omega) (by omega)
  have w12 : IntKind.i64.wrap ((dv p n : Int) * 53) = (dv p n : Int) * 53 := wrap_in (by omega) (by omega)
  have w13 : IntKind.i64.wrap (f (p % n) * 131 + f ((p * 7 + 3) % n) * 1117 + (p : Int) * 29 + (dv p n : Int) * 53) = mixX n f p := wrap_in (by omega) (by omega)
  have hx := mixX_rng (n := n) hb hp
  have w14 : IntKind.i64.wrap ((mixX n f p).tdiv 64) = (mixX n f p).tdiv 64 := by
    rw [Int.tdiv_eq_ediv_of_nonneg hx.1]
    exact wrap_in (by omega) (by omega)
  simp only [w5, w6, w7, w8, w9, w10, w11, w12, w13, w14]
  have fin : ∀ (e : List (Nat × AV)) (v : Int), look e 4 = some (AI v) → v = pickV n f p m → ResOk res17 [(0, RD nn n f p)] ⟨e, [(100000, RD nn n f (p + 1))]⟩ (fun x h => x = AI (pickV n f p m) ∧ h = [(0, RD nn n f (p + 1))]) := by
    intro e v he hv
    subst hv
    refine ResOk.mk [] [(0, 100000)] [] _ _ ?_ ⟨rfl, rfl⟩
    simp [doneC, resOf, resAV, tup, pinR, leA, res17, he, hbs]
  simp only [vcA]
  refine ⟨fun h4 => fin _ _ rfl ?_, fun h4 => ⟨fun h5 => fin _ _ rfl ?_, fun h5 => ⟨fun h6 => ⟨by omega, by omega, fin _ _ rfl ?_⟩, fun h6 => ?_⟩⟩⟩
  · simp [pickV, h4]
  · have : n = 0 := by simpa using h5
    simp [pickV, h4, this]
  · have : n ≠ 0 := by simpa using h5
    simp [pickV, h4, this, show p < n by omega]
  · have hn0 : n ≠ 0 := by simpa using h5
    have hl1 : p % n < n := Nat.mod_lt _ (by omega)
    have hl2 : (p * 7 + 3) % n < n := Nat.mod_lt _ (by omega)
    refine ⟨by omega, ⟨by omega, hl1⟩, by omega, ⟨by omega, hl2⟩, by omega, by omega, by omega, fin _ _ rfl ?_⟩
    simp [pickV, h4, hn0, show ¬ p < n by omega, xorI]
theorem ev_odd : ∀ (nn : Bool) (n : Nat) (f : Nat → Int) (p : Nat) (m : Int), ev G0 res53 [(0, RD nn n f p)] 3000 ((Or.call [100000] (AI (pickV n f p m)) [(0, RD nn n f (p + 1))] Or.nil.lit.lit.lit.lit).lit.lit.split Or.nil.lit.lit.lit.lit.lit.lit) [.ir ir53] (start [.adr 0 0, AI m] [(0, RD nn n f p)]) = VC.split (decide (0 < m)) (VC.call 17 [.adr 0 0, AI m] [(0, .box [SL nn 1 n (PB f), AI ↑p])] (AI (pickV n f p m)) [(0, RD nn n f (p + 1))] (VC.done (St.mk [(0, .adr 100000 0), (1, AI m), (4, AB (pickV n f p m == IntKind.i64.wrap (m - 1)))] [(100000, .box [SL nn 1 n (PB f), AI (↑(p + 1) : Int)])]))) (VC.done (St.mk [(0, .adr 100000 0), (1, AI m), (4, AB false)] [(100000, .box [SL nn 1 n (PB f), AI ↑p])])) := by intros; kernel_rfl
def oddV (n : Nat) (f : Nat → Int) (p : Nat) (m : Int) : Bool := decide (0 < m) && (pickV n f p m == IntKind.i64.wrap (m - 1))
def oddP (p : Nat) (m : Int) : Nat := if 0 < m then p + 1 else p
theorem oddP_le (p : Nat) (m : Int) : oddP p m ≤ p + 1 := by unfold oddP; split <;> omega
theorem c_odd (nn : Bool) (n : Nat) (f : Nat → Int) (p : Nat) (m : Int) (hb : Bytes f) (hp : p ≤ 1000000000) : PObj Tryz.prog G0 53 [.adr 0 0, AI m] [(0, RD nn n f p)] (AB (oddV n f p m)) [(0, RD nn n f (oddP p m))] := by
  refine PObj.by chk53 rfl (ev_odd nn n f p m) ?_
  simp only [vcA]
  refine ⟨fun h => ⟨c_pick _ _ _ _ _ hb hp, ?_⟩, fun h => ?_⟩
  · refine ResOk.mk [] [(0, 100000)] [] _ _ ?_ ⟨rfl, rfl⟩
    simp [doneC, resOf, resAV, tup, pinR, leA, res53, hbs, oddV, oddP, h]
  · refine ResOk.mk [] [(0, 100000)] [] _ _ ?_ ⟨rfl, rfl⟩
    simp [doneC, resOf, resAV, tup, pinR, leA, res53, hbs, oddV, oddP, h]
def openN (n : Nat) : Nat := if 2000 < n then 2000 else n
theorem c_open (nn : Bool) (n : Nat) (f : Nat → Int) : PObj Tryz.prog G0 15 [.p false (.sl nn 1 n (PB f))] [] (.adr 0 0) [(0, RD nn (openN n) f 0)] := by
  refine PObj.by chk15 rfl (ev_open nn n f) ?_
  simp only [vcA]
  refine ⟨fun h => ⟨by omega, ?_⟩, fun h => ?_⟩
  · have e : openN n = 2000 := by unfold openN; rw [if_pos (by omega)]
    rw [e]
    refine ResOk.mk [] [(0, 10)] [] _ _ ?_ ⟨rfl, rfl⟩
    simp [doneC, resOf, resAV, tup, pinR, leA, res15]
  · have e : openN n = n := by unfold openN; rw [if_neg (by omega)]
    rw [e]
    refine ResOk.mk [] [(0, 10)] [] _ _ ?_ ⟨rfl, rfl⟩
    simp [doneC, resOf, resAV, tup, pinR, leA, res15]
theorem ResOk.at {rl : List RI} {H0 : List (Nat × Ob)} {s : St} {R : AV → List (Nat × Ob) → Prop} {c : AV} (ρ : List (Nat × Nat)) (nw : List Nat) (H' : List (Nat × Ob)) (hc : resOf rl s = some c) (hd : doneC rl H0 s ρ nw c H') (hR : R c H') : ResOk rl H0 s R :=
  ResOk.mk [] ρ nw c H' (by simpa [St.lowers] using hd) hR
theorem litI_of {l : List Int} {p : Int → Prop} (h : ∀ x, x ∈ l → p x) {i : Nat} (hi : i < l.length) : p (litI l i) := by
  unfold litI
  rw [List.getD_eq_getElem?_getD, List.getElem?_eq_getElem hi, Option.getD_some]
  exact h _ (List.getElem_mem hi)
theorem lit_rng {l : List Int} {lo hi : Int} (h : (l.all fun x => decide (lo ≤ x) && decide (x ≤ hi)) = true) {i : Nat} (hl : i < l.length) : lo ≤ litI l i ∧ litI l i ≤ hi :=
  litI_of (p := fun x => lo ≤ x ∧ x ≤ hi) (fun x hx => by
    have := List.all_eq_true.1 h x hx
    simpa using this) hl
theorem leaves_bytes : leaves Tryz.prog 12 22 = some [.sl [.int .u8]] := by kernel_rfl
theorem args_bytes {ts : List TypeId} {xs : List AV} (h : Args Tryz.prog (22 :: ts) xs) : ∃ nn n f c cs, Bytes f ∧ Args Tryz.prog ts cs ∧ xs = c :: cs ∧ AV.leP c (.p false (.sl nn 1 n (PB f))) := by
  cases h with
  | cons t ts ls l cs hl hlen hfit h =>
    rw [leaves_bytes] at hl
    cases hl
    match l, hlen with
    | [c0], _ =>
      obtain ⟨nn, n, g, h1, hn, hg⟩ := fit_sl (hfit 0 _ rfl)
      simp only [List.getD_cons_zero] at h1
      subst h1
      have key : ∀ i, i < n → ∃ m : Int, g i 0 = .v (.int .u8 m) ∧ 0 ≤ m ∧ m ≤ 255 := fun i hi => by
        obtain ⟨m, h2, h3⟩ := fit_int (hg i 0 _ hi rfl)
        refine ⟨m, h2, ?_⟩
        have h4 : IntKind.u8.min = 0 := rfl
        have h5 : IntKind.u8.max = 255 := rfl
        simp only [Lit.wf, Bool.and_eq_true, decide_eq_true_eq, h4, h5] at h3
        omega
      let f : Nat → Int := fun i => if hh : i < n then (key i hh).choose else 0
      refine ⟨nn, n, f, _, cs, fun i => ?_, h, rfl, ?_⟩
      · simp only [f]
        split
        · rename_i hh; exact (key i hh).choose_spec.2
        · omega
      · unfold argOf
        rw [Tryz.underlying22]
        refine ⟨fun h => (by cases h), fun h => h, rfl, rfl, fun i j hi hj => ?_⟩
        obtain rfl : j = 0 := by simp only [List.length_cons, List.length_nil] at hj; omega
        have e1 : f i = (key i hi).choose := dif_pos hi
        have e2 : g i 0 = .v (.int .u8 (f i)) := by rw [e1]; exact (key i hi).choose_spec.1
        rw [e2]
        exact .refl _
end Go.Gw
