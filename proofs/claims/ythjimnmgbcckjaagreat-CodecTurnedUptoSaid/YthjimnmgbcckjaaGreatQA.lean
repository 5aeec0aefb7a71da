/- Parts of this proof, one behind the other: Base, Flt, Mem, Mv, QTail, Math, Bits, Wide. -/
import Derived.WalkKit
import Derived.WalkSpells
import Derived.WalkLawsBesides
import Derived.Deep.QuietTactic
import Derived.BigQuiet
import Derived.Lib.Hide
import Derived.Laws.CopyOwn
import Derived.Maps.AppendAt
import Derived.Deep.RegionHeld3
import Derived.StillTail
import Derived.Test.YthjimnmgbcckjaaGreatProg
import Derived.Shelf.Small.Bits
import Derived.Shelf.Strconv.Itoa0
import Derived.Shelf.Bits.Mul64
import Derived.Laws.ResultCell
import Derived.Laws.StructEq
import Derived.ChangeKeysEq
namespace Go.Inc
open Go.RowKit

/-- The byte at a place of a string. -/
def bt (b : ByteArray) (i : Nat) : Nat := (b.data.toList.getD i 0).toNat
theorem bt_lt (b : ByteArray) (i : Nat) : bt b i < 256 := by unfold bt; exact UInt8.toNat_lt _
theorem bt_get (b : ByteArray) (i : Nat) (h : i < b.size) : ((b[i]'h).toNat : Int) = (bt b i : Nat) := by
  unfold bt
  have h' : i < b.data.toList.length := by simpa using h
  rw [List.getD_eq_getElem?_getD, List.getElem?_eq_getElem h']
  rfl

theorem run_idx_str {P : Program} (t : TypeId) (ht : P.underlying t = some .string) (b : ByteArray) (k : IntKind) (i : Int) (j : Nat) (h0 : i = j) (h1 : j < b.size) (w : World) :
    (Instr.index t (.string b) (.int k i)).run P w = .ok (.int .u8 (bt b j : Nat)) w := by
  subst h0
  rw [run_index_string w t b k j ht, dif_pos ⟨by omega, by omega⟩]
  rw [← bt_get b j h1]; rfl

theorem wrap_u64 (n : Int) : IntKind.u64.wrap n = n % 18446744073709551616 := by simp [IntKind.wrap, IntKind.bits, IntKind.signed]
theorem wrap_u64_in (n : Int) (h0 : 0 ≤ n) (h1 : n < 18446744073709551616) : IntKind.u64.wrap n = n := by rw [wrap_u64]; omega
theorem wrap_i64_in (n : Int) (h0 : -9223372036854775808 ≤ n) (h1 : n ≤ 9223372036854775807) : IntKind.i64.wrap n = n := by rw [IntKind.wrap_i64]; omega
theorem wraps_u64 (n : Int) (h₀ : 0 ≤ n) (h₁ : n < 2 ^ 64) : IntKind.u64.wrap n = n := wrap_u64_in n h₀ (by omega)

/-- 'n << 8 | c' while n has room: one digit more. -/
theorem or_byte (n c : Nat) (hn : n < 72057594037927936) (hc : c < 256) : bits .or .u64 ((n : Int) * 256) c = ((n * 256 + c : Nat) : Int) := by
  rw [bits_join .u64 64 (by decide) wraps_u64 8 ((n : Int) * 256) c (by omega) (by omega) (by omega) (by omega) (by omega) (by omega)]
  omega

/-- The number of k bytes from a place on, the highest first. -/
def be (b : ByteArray) (a : Nat) : Nat → Nat
  | 0 => 0
  | k + 1 => be b a k * 256 + bt b (a + k)
theorem be_lt (b : ByteArray) (a k : Nat) : be b a k < 256 ^ k := by
  induction k with
  | zero => simp [be]
  | succ k ih => have := bt_lt b (a + k); simp only [be, Nat.pow_succ]; omega
theorem bt_wrap (b : ByteArray) (i : Nat) : IntKind.u64.wrap (bt b i : Int) = (bt b i : Int) := wrap_u64_in _ (by omega) (by have := bt_lt b i; omega)

theorem run_shr_u64 {P : Program} (t : TypeId) (x : Nat) (k : IntKind) (i : Int) (j : Nat) (hi : i = j) (hj : j ≤ 64) (w : World) :
    (binOp .shr t (.int .u64 x) (.int k i)).run P w = .ok (.int .u64 (x / 2 ^ j : Nat)) w := by
  subst hi
  have h1 : min j 64 = j := by omega
  have h2 : ¬ ((j : Int) < 0) := by omega
  simp only [binOp, Op.shift, h2, if_false, Int.toNat_natCast, IntKind.bits, h1, Sem.run_pure, Result.ok.injEq, Value.int.injEq, true_and, and_true]
  rw [Int.fdiv_eq_ediv_of_nonneg _ (by have := Int.pow_pos (n := 2) (m := j) (by decide); omega)]
  simp

/-- A function of the program's own text: a call of it enters its body. -/
def Enters (P : Program) (f : FuncId) : Prop := ∀ args w, (callFunc f args).run P w = .ok (.enter f args) w
theorem enters_of {P : Program} {f : FuncId} {fn : Func} {c : Code} (hf : P.funcs[f]? = some fn) (hname : (fn.name == "runtime.NumGoroutine") = false) (hb : fn.body = some c) : Enters P f :=
  fun args w => by
    have hn : ¬ fn.name = "runtime.NumGoroutine" := by simpa using hname
    simp [callFunc, hf, hn, hb]

/-- Eight bytes read at a place: the number, the error, where the reader is then. -/
def rd8 (b : ByteArray) (a : Nat) (may : Nat → Bool) : Nat × Int × Nat :=
  if b.size < a + 8 then (0, 100, a) else if may (be b a 8) = true then (be b a 8, 0, a + 8) else (0, 101, a)

def pk8 (b : ByteArray) (a : Nat) : Nat × Int := if b.size < a + 8 then (0, 100) else (be b a 8, 0)

/-- A byte read at a place. -/
def rd1 (b : ByteArray) (a most : Nat) : Nat × Int × Nat :=
  if b.size = a then (0, 100, a) else if bt b a > most then (0, 101, a) else (bt b a, 0, a + 1)

/-- The bytes from a place on begin with these. -/
def wordAt (b : ByteArray) (a : Nat) (wd : List UInt8) : Bool := (b.data.toList.drop a).take wd.length == wd
def rdW (b : ByteArray) (a : Nat) (wd : List UInt8) : Int × Nat :=
  if b.size - a < wd.length then (100, a) else if wordAt b a wd = true then (0, a + wd.length) else (101, a)
theorem ba_toList (b : ByteArray) : b.toList = b.data.toList := ByteArray.toList_eq b
theorem ba_extract (b : ByteArray) (i j : Nat) : (b.extract i j).data.toList = (b.data.toList.take j).drop i := by
  rw [ByteArray.data_extract, Array.toList_extract, List.extract_eq_drop_take']
theorem wordAt_eq (b : ByteArray) (a : Nat) (wd : List UInt8) :
    (((b.extract a b.size).extract 0 (ByteArray.mk wd.toArray).size).toList == (ByteArray.mk wd.toArray).toList) = wordAt b a wd := by
  have hs : (ByteArray.mk wd.toArray).size = wd.length := by simp [ByteArray.size]
  rw [hs, ba_toList, ba_toList, ba_extract, ba_extract]
  unfold wordAt
  have : List.take b.size b.data.toList = b.data.toList := List.take_of_length_le (by simp)
  rw [this]
  simp

/-- A quiet callee inside a region that draws; the second pair: behind an earlier draw. -/
theorem quiet_a {P : Program} {f : FuncId} {args : Array Value} {w : World} {k : Nat} {v : Value}
    (h : Calls P f args (w.drewN k) fun e w' => e = .returned v ∧ ∃ n, w' = (w.drewN k).drewN n) : Calls P f args (w.drewN k) fun e w'' => e = .returned v ∧ ∃ m, w'' = w.drewN m :=
  h.mono fun _ _ ⟨he, m, hm⟩ => ⟨he, k + m, by rw [hm, World.drewN_drewN]⟩
theorem quiet_a_same {P : Program} {f : FuncId} {args : Array Value} {w : World} {k : Nat} {v : Value}
    (h : Calls P f args (w.drewN k) fun e w' => e = .returned v ∧ w.drewN k = w') : Calls P f args (w.drewN k) fun e w'' => e = .returned v ∧ ∃ m, w'' = w.drewN m :=
  h.mono fun _ _ ⟨he, hm⟩ => ⟨he, k, hm.symm⟩
theorem quiet_b {P : Program} {f : FuncId} {args : Array Value} {w : World} {n k : Nat} {v : Value}
    (h : Calls P f args (w.drewN (n + k)) fun e w' => e = .returned v ∧ ∃ m, w' = (w.drewN (n + k)).drewN m) : Calls P f args (w.drewN (n + k)) fun e w'' => e = .returned v ∧ ∃ m, w'' = w.drewN (n + m) :=
  h.mono fun _ _ ⟨he, m, hm⟩ => ⟨he, k + m, by rw [hm, World.drewN_drewN, Nat.add_assoc]⟩
theorem quiet_b_same {P : Program} {f : FuncId} {args : Array Value} {w : World} {n k : Nat} {v : Value}
    (h : Calls P f args (w.drewN (n + k)) fun e w' => e = .returned v ∧ w.drewN (n + k) = w') : Calls P f args (w.drewN (n + k)) fun e w'' => e = .returned v ∧ ∃ m, w'' = w.drewN (n + m) :=
  h.mono fun _ _ ⟨he, hm⟩ => ⟨he, k, hm.symm⟩

theorem word_step {b : ByteArray} {a k : Nat} {wd : List UInt8} (hk : k < wd.length) (hb : a + wd.length ≤ b.size) (h : (b.data.toList.drop a).take k = wd.take k) (he : bt b (a + k) = bt ⟨wd.toArray⟩ k) :
    (b.data.toList.drop a).take (k + 1) = wd.take (k + 1) := by
  have h1 : k < (b.data.toList.drop a).length := by simp; omega
  rw [List.take_succ_eq_append_getElem h1, List.take_succ_eq_append_getElem hk, h]
  have h2 : a + k < b.data.toList.length := by simp; omega
  unfold bt at he
  simp only [List.getD_eq_getElem?_getD, List.getElem?_eq_getElem h2, List.getElem?_eq_getElem hk, Option.getD_some] at he
  rw [List.getElem_drop, UInt8.toNat_inj.1 he]
theorem word_no {b : ByteArray} {a k : Nat} {wd : List UInt8} (hk : k < wd.length) (hb : a + wd.length ≤ b.size) (he : bt b (a + k) ≠ bt ⟨wd.toArray⟩ k) : wordAt b a wd = false := by
  unfold wordAt
  rw [beq_eq_false_iff_ne]
  intro h
  apply he
  have h2 : a + k < b.data.toList.length := by simp; omega
  unfold bt
  simp only [List.getD_eq_getElem?_getD, List.getElem?_eq_getElem h2, List.getElem?_eq_getElem hk, Option.getD_some]
  have := congrArg (fun l => l[k]?) h
  simp only [List.getElem?_take, if_pos hk, List.getElem?_drop, List.getElem?_eq_getElem h2, List.getElem?_eq_getElem hk, Option.some.injEq] at this
  rw [this]
theorem word_yes {b : ByteArray} {a : Nat} {wd : List UInt8} (h : (b.data.toList.drop a).take wd.length = wd.take wd.length) : wordAt b a wd = true := by
  unfold wordAt
  rw [h]; simp

/-- The eight bytes of a number, the highest first. -/
def be8 (x : Nat) : List UInt8 := (List.range 8).map fun i => UInt8.ofNat (x / 256 ^ (7 - i))
theorem be8_u8 (x i : Nat) : (((x / 256 ^ i : Nat) : Int) % 256) = ((UInt8.ofNat (x / 256 ^ i)).toNat : Nat) := by
  rw [UInt8.toNat_ofNat']; omega
theorem pow_256 (i : Nat) : 2 ^ (8 * i) = 256 ^ i := by rw [Nat.pow_mul]
theorem be8_length (x : Nat) : (be8 x).length = 8 := by simp [be8]
theorem be8_get (x i : Nat) (h : i < 8) : (be8 x)[i]? = some (UInt8.ofNat (x / 256 ^ (7 - i))) := by simp [be8, h]

theorem bt_app (pre l post : List UInt8) (i : Nat) (h : i < l.length) : bt ⟨(pre ++ l ++ post).toArray⟩ (pre.length + i) = (l[i]'h).toNat := by
  unfold bt
  simp only [List.getD_eq_getElem?_getD]
  rw [List.getElem?_append_left (by simp; omega), List.getElem?_append_right (by omega), show pre.length + i - pre.length = i by omega, List.getElem?_eq_getElem h]
  rfl
theorem be8_at (x i : Nat) (h : i < 8) : ((be8 x)[i]'(by rw [be8_length]; exact h)).toNat = x / 256 ^ (7 - i) % 256 := by
  have := be8_get x i h
  rw [List.getElem?_eq_getElem (by rw [be8_length]; exact h)] at this
  rw [Option.some.inj this, UInt8.toNat_ofNat']
/-- What was laid down is read. -/
theorem be_be8 (pre post : List UInt8) (x : Nat) (hx : x < 18446744073709551616) : be ⟨(pre ++ be8 x ++ post).toArray⟩ pre.length 8 = x := by
  have hb : ∀ i, i < 8 → bt ⟨(pre ++ be8 x ++ post).toArray⟩ (pre.length + i) = x / 256 ^ (7 - i) % 256 := fun i hi => by
    rw [bt_app pre (be8 x) post i (by rw [be8_length]; exact hi), be8_at x i hi]
  simp only [be, hb 0 (by omega), hb 1 (by omega), hb 2 (by omega), hb 3 (by omega), hb 4 (by omega), hb 5 (by omega), hb 6 (by omega), hb 7 (by omega)]
  omega

theorem bt_take (l : List UInt8) (c i : Nat) (h : i < c) : bt ⟨(l.take c).toArray⟩ i = bt ⟨l.toArray⟩ i := by
  unfold bt
  simp only [List.getD_eq_getElem?_getD]
  rw [List.getElem?_take, if_pos h]
theorem be_take (l : List UInt8) (c a k : Nat) (h : a + k ≤ c) : be ⟨(l.take c).toArray⟩ a k = be ⟨l.toArray⟩ a k := by
  induction k with
  | zero => rfl
  | succ k ih => simp only [be]; rw [ih (by omega), bt_take l c _ (by omega)]

end Go.Inc
namespace Go.Inc
open Go.RowKit

/-- The rung of infinity of a float64. -/
def infR : Nat := 9218868437227405312
theorem infRung_double : Ieee.double.infRung = infR := by decide +kernel
theorem signW_double : Ieee.double.signWeight = 9223372036854775808 := by decide +kernel
theorem binade_double : Ieee.double.binade = 4503599627370496 := by decide +kernel
theorem least_double : Ieee.double.leastPlace = -1074 := by decide +kernel
/-- A finite float's bits. -/
def fin (x : Nat) : Bool := decide (x % 9223372036854775808 < infR)

theorem read_fin (x : Nat) (h : fin x = true) : ∃ m p, Ieee.double.read x = .number (x / 9223372036854775808 % 2 == 1) m p ∧ m < 9007199254740992 ∧ p ≤ 971 ∧ -1074 ≤ p := by
  unfold fin at h
  have h := of_decide_eq_true h
  unfold Ieee.Format.read
  simp only [infRung_double, signW_double, binade_double, least_double]
  by_cases h1 : x % 9223372036854775808 < 4503599627370496
  · rw [if_pos h1]
    exact ⟨_, _, rfl, by omega, by omega, by omega⟩
  · rw [if_neg h1, if_pos h]
    unfold infR at h
    exact ⟨_, _, rfl, by omega, by omega, by omega⟩

theorem read_inf (x : Nat) (h : x % 9223372036854775808 = infR) : Ieee.double.read x = .infinity (x / 9223372036854775808 % 2 == 1) := by
  unfold Ieee.Format.read
  simp only [infRung_double, signW_double, binade_double, least_double]
  rw [if_neg (by unfold infR at h; omega), if_neg (by omega), if_pos h]

theorem read_nan (x : Nat) (h : infR < x % 9223372036854775808) : ∃ n f, Ieee.double.read x = .nan n f := by
  unfold Ieee.Format.read
  simp only [infRung_double, signW_double, binade_double, least_double]
  rw [if_neg (by unfold infR at h; omega), if_neg (by omega), if_neg (by omega)]
  exact ⟨_, _, rfl⟩

theorem order_self (x : Nat) : (Ieee.double.order x x == some .eq) = decide (x % 9223372036854775808 ≤ infR) := by
  unfold Ieee.Format.order
  rcases Nat.lt_trichotomy (x % 9223372036854775808) infR with h | h | h
  · obtain ⟨m, p, hr, _⟩ := read_fin x (by unfold fin; exact decide_eq_true h)
    rw [hr]
    simp [Ieee.Datum.order]
    omega
  · rw [read_inf x h]
    simp [Ieee.Datum.order]
    omega
  · obtain ⟨n, f, hr⟩ := read_nan x h
    rw [hr]
    simp [Ieee.Datum.order]
    omega

theorem order_nan_left (x y : Nat) (h : infR < x % 9223372036854775808) : Ieee.double.order x y = none := by
  obtain ⟨n, f, hr⟩ := read_nan x h
  unfold Ieee.Format.order
  rw [hr]; rfl

theorem sub_self_fin (x : Nat) (h : fin x = true) : Ieee.double.sub x x = some 0 := by
  obtain ⟨m, p, hr, _⟩ := read_fin x h
  unfold Ieee.Format.sub
  rw [hr]
  have ht : Ieee.signed (x / 9223372036854775808 % 2 == 1) m (p - min p p).toNat + Ieee.signed (!(x / 9223372036854775808 % 2 == 1)) m (p - min p p).toNat = 0 := by
    unfold Ieee.signed
    cases (x / 9223372036854775808 % 2 == 1) <;> simp <;> omega
  simp only [Ieee.Datum.opposite, Ieee.Datum.sum, ht, Option.map_some, Ieee.Format.write, if_true]
  cases (x / 9223372036854775808 % 2 == 1) <;> rfl

theorem sub_self_not (x : Nat) (h : fin x = false) : Ieee.double.sub x x = none := by
  unfold fin at h
  have h := of_decide_eq_false h
  unfold Ieee.Format.sub
  rcases Nat.lt_trichotomy (x % 9223372036854775808) infR with h1 | h1 | h1
  · omega
  · rw [read_inf x h1]
    cases (x / 9223372036854775808 % 2 == 1) <;> rfl
  · obtain ⟨n, f, hr⟩ := read_nan x h1
    rw [hr]; rfl

/-- Of a magnitude: it is above the greatest float just if it is infinite. -/
theorem gt_max (y : Nat) (h : y < 9223372036854775808) (hn : y ≤ infR) : (Ieee.double.order y 9218868437227405311 == some .gt) = decide (y = infR) := by
  have hm : Ieee.double.read 9218868437227405311 = .number false 9007199254740991 971 := by decide +kernel
  unfold Ieee.Format.order
  rw [hm]
  have hy : y % 9223372036854775808 = y := Nat.mod_eq_of_lt h
  rcases Nat.lt_or_ge y infR with h1 | h1
  · obtain ⟨m, p, hr, h2, h3, h4⟩ := read_fin y (by unfold fin; rw [hy]; exact decide_eq_true h1)
    rw [hr]
    have hz : (y / 9223372036854775808 % 2 == 1) = false := by rw [Nat.div_eq_of_lt h]; rfl
    rw [hz]
    have hne : ¬ y = infR := by omega
    simp only [hne, decide_false, Ieee.Datum.order]
    have hmin : min p 971 = p := by omega
    rw [hmin]
    have hle : Ieee.signed false m (p - p).toNat ≤ Ieee.signed false 9007199254740991 (971 - p).toNat := by
      have h1 : (p - p).toNat = 0 := by omega
      rw [h1]
      simp only [Ieee.signed, Bool.false_eq_true, if_false, Nat.shiftLeft_eq, Nat.pow_zero, Nat.mul_one]
      have : 1 ≤ 2 ^ (971 - p).toNat := Nat.one_le_two_pow
      have : 9007199254740991 * 1 ≤ 9007199254740991 * 2 ^ (971 - p).toNat := Nat.mul_le_mul_left _ this
      omega
    have hc : compare (Ieee.signed false m (p - p).toNat) (Ieee.signed false 9007199254740991 (971 - p).toNat) ≠ .gt := by
      intro hc
      have := Int.compare_eq_gt.1 hc
      omega
    simpa using hc
  · obtain rfl : y = infR := by omega
    rw [read_inf infR (by decide +kernel)]
    decide +kernel

theorem andNot_sign (x : Nat) (h : x < 18446744073709551616) : bits .andNot .u64 (x : Int) 9223372036854775808 = ((x % 9223372036854775808 : Nat) : Int) := by
  have hb : ~~~(BitVec.ofInt 64 9223372036854775808) = BitVec.ofNat 64 (2 ^ 63 - 1) := by decide +kernel
  have ha : BitVec.ofInt 64 (x : Int) = BitVec.ofNat 64 x := BitVec.ofInt_natCast ..
  show IntKind.u64.wrap ((BitVec.ofInt 64 (x : Int) &&& ~~~(BitVec.ofInt 64 9223372036854775808)).toNat : Int) = _
  rw [hb, ha, BitVec.toNat_and, BitVec.toNat_ofNat, BitVec.toNat_ofNat, Nat.mod_eq_of_lt (a := x) (by omega), Nat.mod_eq_of_lt (a := 2 ^ 63 - 1) (by decide), Nat.and_two_pow_sub_one_eq_mod]
  exact wrap_u64_in _ (by omega) (by omega)

theorem and_2047 (x : Nat) (h : x < 18446744073709551616) : bits .and .u64 ((x : Int) / 4503599627370496) 2047 = (x : Int) / 4503599627370496 % 2048 := by
  have := bits_mask .u64 64 (by decide) wraps_u64 11 (by decide) ((x : Int) / 4503599627370496) (by omega) (by omega)
  rw [show ((2 : Int) ^ 11 - 1) = 2047 from rfl] at this
  rw [this]
  omega
theorem fin_exp (x : Nat) : fin x = !decide (x / 4503599627370496 % 2048 = 2047) := by
  unfold fin infR
  by_cases h1 : x / 4503599627370496 % 2048 = 2047
  · rw [decide_eq_true h1, decide_eq_false (by omega)]; rfl
  · rw [decide_eq_false h1, decide_eq_true (by omega)]; rfl

/-- The NaN that a run draws for 'x - x', x not finite. -/
def nanv (w : World) (x : Nat) : Nat := (Question.nanBits .f64 x x).cut (w.tape w.drawn (.nanBits .f64 x x))
theorem nanv_nan (w : World) (x : Nat) : infR < nanv w x % 9223372036854775808 := by
  have key : ∀ t : Nat, infR < ((t % 2) * 9223372036854775808 + 9218868437227405312 + 1 + (t / 2) % 4503599627370495) % 9223372036854775808 := by
    intro t
    unfold infR
    have h := Nat.mod_lt (t / 2) (show 0 < 4503599627370495 by decide)
    rcases Nat.mod_two_eq_zero_or_one t with h2 | h2 <;> rw [h2] <;> omega
  exact key _
theorem run_sub_fin {P : Program} (t : TypeId) (x : Nat) (h : fin x = true) (w : World) : (binOp .sub t (.float .f64 x) (.float .f64 x)).run P w = .ok (.float .f64 0) w := by
  have := sub_self_fin x h
  simp [binOp, Op.floatArith, FloatKind.format, this]
theorem run_sub_not {P : Program} (t : TypeId) (x : Nat) (h : fin x = false) (w : World) : (binOp .sub t (.float .f64 x) (.float .f64 x)).run P w = .ok (.float .f64 (nanv w x)) w.drew := by
  have := sub_self_not x h
  simp [binOp, Op.floatArith, FloatKind.format, this]
  rw [if_neg (by simp [Question.forced])]; rfl
theorem nan_ne_zero (x : Nat) (h : infR < x % 9223372036854775808) : (FloatKind.f64.format.order x 0 != some .eq) = true := by
  show (Ieee.double.order x 0 != some .eq) = true
  rw [order_nan_left x 0 h]; rfl
theorem zero_eq_zero : (FloatKind.f64.format.order 0 0 != some .eq) = false := by decide +kernel

end Go.Inc
namespace Go.Inc
open Go.RowKit

/-- What was there is as it was. -/
def Fr (w w' : World) : Prop := Below w.heap.size w w'
theorem Fr.refl (w : World) : Fr w w := Below.refl _ _
theorem Fr.trans {a b c : World} (h : Fr a b) (k : Fr b c) : Fr a c := Below.trans h (Below.mono k h.size)
theorem Fr.drewN {a b : World} (h : Fr a b) (n : Nat) : Fr a (b.drewN n) := h.trans ⟨rfl, rfl, rfl, Nat.le_refl _, fun _ _ => rfl⟩
theorem Fr.drew {a b : World} (h : Fr a b) : Fr a b.drew := Below.drew h
theorem Fr.alloc {a b : World} (h : Fr a b) (o : Obj) : Fr a (b.alloc o) := Below.alloc h h.size o
theorem Fr.set {a b : World} (h : Fr a b) {p : Addr} (hp : a.heap.size ≤ p.block) (u : Value) : Fr a (b.setCell p u) := Below.setCell h hp u
theorem Fr.size {a b : World} (h : Fr a b) : a.heap.size ≤ b.heap.size := Below.size h
theorem Fr.blk {a b : World} (h : Fr a b) {g : Nat} {o : Obj} (hg : a.heap[g]? = some o) : b.heap[g]? = some o :=
  (Below.block h g (Array.getElem?_eq_some_iff.1 hg).1).trans hg
theorem Fr.cell {a b : World} (h : Fr a b) {p : Addr} {v : Value} (hc : a.cell? p = some v) : b.cell? p = some v :=
  (Below.cell h (World.block_lt_of_cell? a p hc)).trans hc
theorem Fr.grown {a b c : World} (h : Fr a b) {row : Option Nat} (hg : b.grownBy c row) (hr : ∀ k, row = some k → a.heap.size ≤ k) : Fr a c := Below.grown h hg h.size hr
theorem fr_drewN (w : World) (n : Nat) : Fr w (w.drewN n) := (Fr.refl w).drewN n
/-- A row of cells as an array (a word that simp leaves alone). -/
def arr (l : List Value) : Array Value := l.toArray
theorem arr_size (l : List Value) : (arr l).size = l.length := by simp [arr]
theorem arr_toList (l : List Value) : (arr l).toList = l := by simp [arr]
theorem arr_get (l : List Value) (i : Nat) : (arr l)[i]? = l[i]? := by simp [arr]
theorem arr_set (l : List Value) (i : Nat) (v : Value) : (arr l).setIfInBounds i v = arr (l.set i v) := by simp [arr]
/-- Block g is this row of cells. -/
def Blk (w : World) (g : Nat) (cs : List Value) (e : TypeId) : Prop := w.heap[g]? = some (.cells (arr cs) e (0, 0))
theorem Blk.new (w : World) (cs : List Value) (e : TypeId) : Blk (w.alloc (.cells (arr cs) e)) w.heap.size cs e := heap_alloc_new w _
theorem Blk.lt {w : World} {g : Nat} {cs : List Value} {e : TypeId} (h : Blk w g cs e) : g < w.heap.size := (Array.getElem?_eq_some_iff.1 h).1
theorem Blk.cell {w : World} {g : Nat} {cs : List Value} {e : TypeId} (h : Blk w g cs e) (o : Nat) (v : Value) (hv : cs[o]? = some v) : w.cell? ⟨g, o, none⟩ = some v := by
  unfold Blk at h
  simp [World.cell?, h, arr_get, hv]
theorem Blk.frozen {w : World} {g : Nat} {cs : List Value} {e : TypeId} (h : Blk w g cs e) (o : Nat) : w.frozen? ⟨g, o, none⟩ = false := by
  unfold Blk at h
  simp [World.frozen?, h]
theorem Blk.set {w : World} {g : Nat} {cs : List Value} {e : TypeId} (h : Blk w g cs e) (o : Nat) (v : Value) : Blk (w.setCell ⟨g, o, none⟩ v) g (cs.set o v) e := by
  unfold Blk at *
  rw [← arr_set]
  simp [World.setCell, Array.getElem?_modify, h]
theorem Blk.far {w : World} {g : Nat} {cs : List Value} {e : TypeId} (h : Blk w g cs e) {p : Addr} (hp : p.block ≠ g) (v : Value) : Blk (w.setCell p v) g cs e :=
  (Below.heap_setCell _ _ _ _ (fun e => hp e.symm)).trans h
theorem Blk.fr {w w' : World} {g : Nat} {cs : List Value} {e : TypeId} (h : Blk w g cs e) (hf : Fr w w') : Blk w' g cs e := hf.blk h
theorem Blk.grown {w w' : World} {g : Nat} {cs : List Value} {e : TypeId} (h : Blk w g cs e) {row : Option Nat} (hg : w.grownBy w' row) (hne : some g ≠ row) : Blk w' g cs e := (hg.block g h.lt hne).trans h
theorem Blk.drewN {w : World} {g : Nat} {cs : List Value} {e : TypeId} (h : Blk w g cs e) (n : Nat) : Blk (w.drewN n) g cs e := h
theorem Blk.alloc {w : World} {g : Nat} {cs : List Value} {e : TypeId} (h : Blk w g cs e) (o : Obj) : Blk (w.alloc o) g cs e := h.fr ((Fr.refl w).alloc o)
theorem blk_new (w : World) (o : Obj) : (w.alloc o).heap[w.heap.size]? = some o := heap_alloc_new w o
theorem blk_lt {w : World} {g : Nat} {o : Obj} (h : w.heap[g]? = some o) : g < w.heap.size := (Array.getElem?_eq_some_iff.1 h).1
theorem blk_cell {w : World} {g : Nat} {cs : Array Value} {e : TypeId} {fr : Nat × Nat} (h : w.heap[g]? = some (.cells cs e fr)) (o : Nat) : w.cell? ⟨g, o, none⟩ = cs[o]? := by
  simp [World.cell?, h]
theorem blk_frozen {w : World} {g : Nat} {cs : Array Value} {e : TypeId} (h : w.heap[g]? = some (.cells cs e (0, 0))) (o : Nat) : w.frozen? ⟨g, o, none⟩ = false := by
  simp [World.frozen?, h]
theorem blk_set {w : World} {g : Nat} {cs : Array Value} {e : TypeId} {fr : Nat × Nat} (h : w.heap[g]? = some (.cells cs e fr)) (o : Nat) (v : Value) :
    (w.setCell ⟨g, o, none⟩ v).heap[g]? = some (.cells (cs.setIfInBounds o v) e fr) := by
  simp [World.setCell, Array.getElem?_modify, h]
theorem blk_set_ne {w : World} {g : Nat} {ob : Obj} (h : w.heap[g]? = some ob) {p : Addr} (hp : p.block ≠ g) (v : Value) : (w.setCell p v).heap[g]? = some ob := by
  rw [Below.heap_setCell _ _ _ _ (fun e => hp e.symm)]; exact h

theorem add_plain (b o j : Nat) : (⟨b, o, none⟩ : Addr).add j = ⟨b, o + j, none⟩ := by unfold Addr.add; split <;> simp_all

/-! ### rows that are read -/
/-- From this address on these cells stand. -/
def RdC (w : World) (A : Option Addr) (cs : List Value) : Prop := cs = [] ∨ ∃ b off, A = some ⟨b, off, none⟩ ∧ ∀ j u, cs[j]? = some u → w.cell? ⟨b, off + j, none⟩ = some u
theorem RdC.nil (w : World) (A : Option Addr) : RdC w A [] := .inl rfl
theorem RdC.fr {w w' : World} {A : Option Addr} {cs : List Value} (h : RdC w A cs) (hf : Fr w w') : RdC w' A cs := by
  rcases h with h | ⟨b, off, hA, h⟩
  · exact .inl h
  · exact .inr ⟨b, off, hA, fun j u hu => hf.cell (h j u hu)⟩
theorem RdC.at {w : World} {A : Option Addr} {cs : List Value} (h : RdC w A cs) (hne : 0 < cs.length) : ∃ b off, A = some ⟨b, off, none⟩ ∧ ∀ j u, cs[j]? = some u → w.cell? ⟨b, off + j, none⟩ = some u := by
  rcases h with h | h
  · simp [h] at hne
  · exact h
theorem RdC.of_blk {w : World} {g : Nat} {cs : Array Value} {e : TypeId} {fr : Nat × Nat} (h : w.heap[g]? = some (.cells cs e fr)) : RdC w (some ⟨g, 0, none⟩) cs.toList := by
  refine .inr ⟨g, 0, rfl, fun j u hu => ?_⟩
  rw [Nat.zero_add, blk_cell h]
  simpa using hu
theorem RdC.take {w : World} {A : Option Addr} {cs : List Value} (h : RdC w A cs) (n : Nat) : RdC w A (cs.take n) := by
  rcases h with h | ⟨b, off, hA, h⟩
  · exact .inl (by simp [h])
  · refine .inr ⟨b, off, hA, fun j u hu => h j u ?_⟩
    rw [List.getElem?_take] at hu
    split at hu
    · exact hu
    · cases hu
theorem RdC.drop {w : World} {b off : Nat} {cs : List Value} (h : RdC w (some ⟨b, off, none⟩) cs) (n : Nat) : RdC w (some ⟨b, off + n, none⟩) (cs.drop n) := by
  rcases h with h | ⟨b', off', hA, h⟩
  · exact .inl (by simp [h])
  · injection hA with hA
    injection hA with h1 h2
    subst h1; subst h2
    refine .inr ⟨b, off + n, rfl, fun j u hu => ?_⟩
    rw [List.getElem?_drop] at hu
    rw [Nat.add_assoc]
    exact h _ _ hu
theorem RdC.of_own {w : World} {base : Nat} {e : TypeId} {size n : Nat} {A : Option Addr} {c : Nat} {xs : List Value} (h : w.ownsRow base e size (.slice A n c) n xs) : RdC w A xs := by
  rcases h.2 with ⟨h1, h2⟩ | ⟨g, cap, cur, h1, _, hh, _, _, _, ht⟩
  · have := h.1
    rw [h2] at this
    exact .inl (List.eq_nil_of_length_eq_zero (by simpa using this))
  · injection h1 with h1 _ _
    subst h1
    have := (RdC.of_blk hh).take (n * size)
    rwa [ht] at this

theorem RdC.blk {w : World} {g : Nat} {cs : List Value} {e : TypeId} (h : Blk w g cs e) : RdC w (some ⟨g, 0, none⟩) cs := by
  have := RdC.of_blk h
  rwa [arr_toList] at this
theorem RdC.get {w : World} {b off : Nat} {cs : List Value} (h : RdC w (some ⟨b, off, none⟩) cs) (j : Nat) (v : Value) (hv : cs[j]? = some v) : w.cell? ⟨b, off + j, none⟩ = some v := by
  rcases h with h | ⟨b', off', hA, h⟩
  · simp [h] at hv
  · injection hA with hA
    injection hA with h1 h2
    subst h1; subst h2
    exact h j v hv

theorem get_rep {α : Type} (l : List α) (n : Nat) (z : α) (j : Nat) (h1 : l.length ≤ j) (h2 : j < l.length + n) : (l ++ List.replicate n z)[j]? = some z := by
  rw [List.getElem?_append_right h1, List.getElem?_replicate, if_pos (by omega)]
theorem set_rep {α : Type} (l : List α) (n : Nat) (z v : α) (j : Nat) (h1 : l.length = j) : (l ++ List.replicate (n + 1) z).set j v = (l ++ [v]) ++ List.replicate n z := by
  subst h1
  rw [List.set_append_right _ _ (Nat.le_refl _), Nat.sub_self, List.replicate_succ, List.set_cons_zero]
  simp

theorem RdC.grown {w w' : World} {A : Option Addr} {cs : List Value} (h : RdC w A cs) {row : Option Nat} (hg : w.grownBy w' row) (hne : A.map (·.block) ≠ row) : RdC w' A cs := by
  rcases h with h | ⟨b, off, hA, h⟩
  · exact .inl h
  · refine .inr ⟨b, off, hA, fun j u hu => ?_⟩
    subst hA
    exact hg.cell (h j u hu) hne
theorem RdC.far {w : World} {A : Option Addr} {cs : List Value} (h : RdC w A cs) {p : Addr} (hp : A.map (·.block) ≠ some p.block) (v : Value) : RdC (w.setCell p v) A cs := by
  rcases h with h | ⟨b, off, hA, h⟩
  · exact .inl h
  · refine .inr ⟨b, off, hA, fun j u hu => ?_⟩
    subst hA
    rw [World.cell?_of_block (w := w) (Below.heap_setCell _ _ _ _ (fun e => hp (by simp at e; simp [e])))]
    exact h j u hu

theorem flat_len {α β : Type} (f : α → List β) (sz : Nat) (hsz : ∀ x, (f x).length = sz) (xs : List α) : (xs.flatMap f).length = xs.length * sz := by
  induction xs with
  | nil => simp
  | cons x xs ih => rw [List.flatMap_cons, List.length_append, ih, hsz, List.length_cons, Nat.add_mul]; omega
theorem get_flat {α β : Type} (f : α → List β) (sz : Nat) (hsz : ∀ x, (f x).length = sz) : ∀ (xs : List α) (i : Nat) (x : α) (j : Nat), xs[i]? = some x → j < sz → (xs.flatMap f)[i * sz + j]? = (f x)[j]?
  | [], _, _, _, h, _ => by simp at h
  | y :: ys, 0, x, j, h, hj => by
    simp at h; subst h
    rw [List.flatMap_cons, Nat.zero_mul, Nat.zero_add, List.getElem?_append_left (by rw [hsz]; exact hj)]
  | y :: ys, i + 1, x, j, h, hj => by
    rw [List.flatMap_cons, List.getElem?_append_right (by rw [hsz, Nat.add_mul]; omega), hsz, Nat.add_mul, show i * sz + 1 * sz + j - sz = i * sz + j by omega]
    exact get_flat f sz hsz ys i x j (by simpa using h) hj

/-- A byte as a cell. -/
def bv (c : UInt8) : Value := .int .u8 c.toNat
/-- A string of bytes. -/
def bstr (l : List UInt8) : ByteArray := ⟨l.toArray⟩
theorem bstr_size (l : List UInt8) : (bstr l).size = l.length := by simp [bstr, ByteArray.size]
theorem bstr_data (l : List UInt8) : (bstr l).data.toList = l := by simp [bstr]
theorem bstr_of (b : ByteArray) : bstr b.data.toList = b := by simp [bstr]
theorem bstr_toList (l : List UInt8) : (bstr l).toList = l := ByteArray.toList_mk l
theorem bstr_inj {a b : List UInt8} (h : bstr a = bstr b) : a = b := by rw [← bstr_data a, h, bstr_data]

theorem bv_at (b : ByteArray) (a k : Nat) (h : a + k < b.size) : ((b.data.toList.drop a).map bv)[k]? = some (.int .u8 (bt b (a + k) : Nat)) := by
  have h' : a + k < b.data.toList.length := by simpa using h
  rw [List.getElem?_map, List.getElem?_drop, List.getElem?_eq_getElem h', Option.map_some]
  unfold bv bt
  rw [List.getD_eq_getElem?_getD, List.getElem?_eq_getElem h']
  rfl

section
variable {P : Program}

theorem run_str (src e dst : TypeId) (hs : P.underlying src = some (.slice e)) (he : P.underlying e = some (.int .u8)) (hd : P.underlying dst = some .string)
    (w : World) (A : Option Addr) (n c : Nat) (bs : List UInt8) (hn : n = bs.length) (h : RdC w A (bs.map bv)) :
    (convert src dst (.slice A n c)).run P w = .ok (.string (bstr bs)) w := by
  subst hn
  have hstr : strOfNums (bs.map fun b : UInt8 => (b.toNat : Int)) = bstr bs := by
    unfold strOfNums bstr
    congr 2
    rw [List.map_map]
    conv => rhs; rw [← List.map_id bs]
    apply List.map_congr_left
    intro b _
    simp
  rcases bs with _ | ⟨b0, bs⟩
  · rcases A with _ | a
    · rw [run_convert_bytes_nil w src e hs he _ c dst hd]; rfl
    · show (convert src dst (.slice (some a) 0 c)).run P w = _
      rw [run_convert_bytes_string w src dst e _ 0 c hs he hd]
      have hl : (loadCells a 0).run P w = .ok #[] w := by simpa using run_loadCells_list (P := P) w a [] (by simp)
      have := run_bytesToString (P := P) w a 0 c [] (by simpa using hl)
      rw [this]; rfl
  · obtain ⟨b, off, rfl, hc⟩ := h.at (by simp)
    rw [run_convert_bytes_arg w src e hs he b off _ c ((b0 :: bs).map fun b : UInt8 => (b.toNat : Int)) (by simp) (fun i hi => ?_) dst hd, hstr]
    have hi' : i < (b0 :: bs).length := hi
    refine hc i _ ?_
    rw [List.getElem?_map, List.getElem?_eq_getElem hi', List.getD_eq_getElem?_getD, List.getElem?_map, List.getElem?_eq_getElem hi']
    rfl

/-- The block of a slice's array. -/
def ablk (A : Option Addr) : Option Nat := A.map (·.block)

/-- 'xs[l:]' of a slice: the address behind an unknown name. -/
theorem run_cut_l (t e : TypeId) (size : Nat) (ht : P.underlying t = some (.slice e)) (hs : (P.info? e).map (·.size) = some size)
    (A : Option Addr) (n c l : Nat) (i : Int) (hi : i = l) (hl : l ≤ n) (hn : n ≤ c) (k : IntKind) :
    ∃ A', (∀ w, (Instr.slice t (.slice A n c) (some (.int k i)) none none).run P w = .ok (.slice A' (n - l) (c - l)) w) ∧ ablk A' = ablk A ∧
      ∀ w cs, cs.length = n * size → RdC w A cs → RdC w A' (cs.drop (l * size)) := by
  subst hi
  obtain ⟨i0, hi0, hsz⟩ := Option.map_eq_some_iff.1 hs
  refine ⟨if c = l then A else A.map (·.add (l * size)), fun w => ?_, ?_, fun w cs hlen h => ?_⟩
  · simp [Instr.slice, run_underlying ht, Instr.sliceBounds, run_sliceBound, sizeOf, typeInfo, hi0, hsz, hl]
  · unfold ablk
    split
    · rfl
    · cases A with
      | none => rfl
      | some a => simp only [Option.map_some, Addr.add]; split <;> rfl
  · split
    · rename_i hc
      have : n ≤ l := by omega
      have h2 : n * size ≤ l * size := Nat.mul_le_mul_right _ this
      exact .inl (List.drop_eq_nil_of_le (by omega))
    · rcases A with _ | a
      · rcases h with h | ⟨b, off, hA, _⟩
        · exact .inl (by simp [h])
        · cases hA
      · rcases h with h | ⟨b, off, hA, h⟩
        · exact .inl (by simp [h])
        · injection hA with hA
          subst hA
          simp only [Option.map_some, add_plain]
          exact (show RdC w (some ⟨b, off, none⟩) cs from .inr ⟨b, off, rfl, h⟩).drop _

/-- 'xs[:h]'. -/
theorem run_cut_h (t e : TypeId) (size : Nat) (ht : P.underlying t = some (.slice e)) (hs : (P.info? e).map (·.size) = some size)
    (A : Option Addr) (n c h : Nat) (i : Int) (hi : i = h) (hh : h ≤ c) (k : IntKind) :
    ∃ A', (∀ w, (Instr.slice t (.slice A n c) none (some (.int k i)) none).run P w = .ok (.slice A' h c) w) ∧ ablk A' = ablk A ∧ ∀ w cs, RdC w A cs → RdC w A' cs := by
  subst hi
  obtain ⟨i0, hi0, _⟩ := Option.map_eq_some_iff.1 hs
  refine ⟨if c = 0 then A else A.map (·.add (0 * size)), fun w => ?_, ?_, fun w cs h => ?_⟩
  · simp [Instr.slice, run_underlying ht, Instr.sliceBounds, run_sliceBound, sizeOf, typeInfo, hi0, hh]
  · unfold ablk
    split
    · rfl
    · cases A with
      | none => rfl
      | some a => simp [Addr.add]
  · split
    · exact h
    · cases A with
      | none => exact h
      | some a => simpa [Addr.add] using h

/-- 'xs[l:h]'. -/
theorem run_cut_lh (t e : TypeId) (size : Nat) (ht : P.underlying t = some (.slice e)) (hs : (P.info? e).map (·.size) = some size)
    (A : Option Addr) (n c l h : Nat) (i j : Int) (hi : i = l) (hj : j = h) (hl : l ≤ h) (hh : h ≤ c) (k k' : IntKind) :
    ∃ A', (∀ w, (Instr.slice t (.slice A n c) (some (.int k i)) (some (.int k' j)) none).run P w = .ok (.slice A' (h - l) (c - l)) w) ∧ ablk A' = ablk A ∧
      ∀ w cs, cs.length = n * size → h ≤ n → RdC w A cs → RdC w A' ((cs.take (h * size)).drop (l * size)) := by
  subst hi; subst hj
  obtain ⟨i0, hi0, hsz⟩ := Option.map_eq_some_iff.1 hs
  refine ⟨if c = l then A else A.map (·.add (l * size)), fun w => ?_, ?_, fun w cs hlen hhn hrd => ?_⟩
  · simp [Instr.slice, run_underlying ht, Instr.sliceBounds, run_sliceBound, sizeOf, typeInfo, hi0, hsz, hl, hh]
  · unfold ablk
    split
    · rfl
    · cases A with
      | none => rfl
      | some a => simp only [Option.map_some, Addr.add]; split <;> rfl
  · split
    · rename_i hc
      refine .inl (List.drop_eq_nil_of_le ?_)
      have : h * size ≤ l * size := Nat.mul_le_mul_right _ (by omega)
      rw [List.length_take]; omega
    · rcases A with _ | a
      · rcases hrd with h | ⟨b, off, hA, _⟩
        · exact .inl (by simp [h])
        · cases hA
      · rcases hrd with h | ⟨b, off, hA, h⟩
        · exact .inl (by simp [h])
        · injection hA with hA
          subst hA
          simp only [Option.map_some, add_plain]
          exact ((show RdC w (some ⟨b, off, none⟩) cs from .inr ⟨b, off, rfl, h⟩).take _).drop _

/-- make([]T, n) of one-cell elements. -/
theorem run_mk1 (t e : TypeId) (z : Value) (bytes : Nat) (ht : P.underlying t = some (.slice e)) (hinfo : (P.info? e).map (fun i => (i.zero, i.size, i.bytes)) = some (some z, 1, bytes)) (hz : z.cells = #[z])
    (w : World) (i : Int) (n : Nat) (hi : i = n) (hb : bytes * n ≤ 281474976710656) (h63 : n ≤ 9223372036854775807) :
    (Instr.makeSlice t (.int .i64 i) (.int .i64 i)).run P w = .ok (.slice (some ⟨w.heap.size, 0, none⟩) n n) (w.alloc (.cells (arr (List.replicate n z)) e)) := by
  subst hi
  obtain ⟨i0, hi, hzz⟩ := Option.map_eq_some_iff.1 hinfo
  simp only [Prod.mk.injEq] at hzz
  obtain ⟨hz0, hz1, hz2⟩ := hzz
  have hb' : (i0.bytes : Int) * (n : Int) ≤ 281474976710656 := by
    rw [hz2, ← Int.natCast_mul]; omega
  have hr := run_make (P := P) w t e i0 z ht hi hz0 .i64 .i64 n n (by omega) (Int.le_refl _) hb' (by omega)
  simp only [Int.toNat_natCast, hz1, hz, Nat.mul_one] at hr
  rw [hr]
  congr 3
  have := toList_madeCells_one z n
  rw [arr, ← this]

/-- copy(dst, src), dst the head of a block: what it reads is written over the head. -/
theorem run_copy1 (dT sT ty e : TypeId) (hu : P.underlying dT = some (.slice e)) (hs : (P.info? e).map (·.size) = some 1)
    (w : World) (g dLen dCap : Nat) (A : Option Addr) (n c : Nat) (cs cur : List Value) (hn : n = cs.length) (hle : n ≤ dLen) (hcur : cs.length ≤ cur.length) (hg : Blk w g cur e) (h : RdC w A cs) (h1 : ∀ v ∈ cs, v.oneCell' = true) :
    ∃ w', (Builtin.copy_ #[dT, sT] ty #[.slice (some ⟨g, 0, none⟩) dLen dCap, .slice A n c]).run P w = .ok (goInt n) w' ∧ Blk w' g (cs ++ cur.drop cs.length) e ∧ w.grownBy w' (some g) ∧ w'.heap.size = w.heap.size := by
  subst hn
  rcases Nat.eq_zero_or_pos cs.length with h0 | h0
  · obtain rfl := List.eq_nil_of_length_eq_zero h0
    refine ⟨w, run_copy_none w dT sT ty e _ _ _ _ _ _ hu hs (by simp), by simpa using hg, World.grownBy.refl _ _, rfl⟩
  · obtain ⟨b, off, rfl, hc⟩ := h.at h0
    have hr := run_copy_cells (P := P) w dT sT ty e g 0 dLen dCap ⟨b, off, none⟩ cs.length c cs hu hs (Nat.min_eq_left hle).symm (fun j u hj => by rw [add_plain]; exact hc j u hj)
      (fun j hj => by rw [Nat.zero_add, hg.cell j cur[j] (List.getElem?_eq_getElem (by omega))]; rfl) (fun j _ => hg.frozen _) h1
    refine ⟨_, hr, ?_, ?_, ?_⟩
    · have : ∀ (vs : List Value) (o : Nat) (w : World) (cur : List Value), Blk w g cur e → o + vs.length ≤ cur.length →
          Blk (w.setCells g o vs) g (cur.take o ++ vs ++ cur.drop (o + vs.length)) e := by
        intro vs
        induction vs with
        | nil => intro o w cur hg _; simpa [World.setCells] using hg
        | cons v vs ih =>
          intro o w cur hg hl
          simp only [List.length_cons] at hl
          have := ih (o + 1) _ _ (hg.set o v) (by simp; omega)
          rw [World.setCells]
          have ho : o < cur.length := by omega
          have e1 : (cur.set o v).take (o + 1) ++ vs ++ (cur.set o v).drop (o + 1 + vs.length) = cur.take o ++ v :: vs ++ cur.drop (o + (v :: vs).length) := by
            have e2 : (List.take o cur ++ [cur[o]]).set o v = List.take o cur ++ [v] := by
              rw [List.set_append_right _ _ (by simp; omega)]
              have : o - (List.take o cur).length = 0 := by rw [List.length_take]; omega
              rw [this]; rfl
            rw [List.take_set, List.drop_set, if_pos (by omega), List.take_succ_eq_append_getElem ho, e2, List.length_cons, show o + (vs.length + 1) = o + 1 + vs.length by omega]
            simp
          rwa [e1] at this
      have := this cs 0 w cur hg (by omega)
      simpa using this
    · have : ∀ (vs : List Value) (o : Nat) (w : World), w.grownBy (w.setCells g o vs) (some g) := by
        intro vs
        induction vs with
        | nil => intro o w; exact World.grownBy.refl _ _
        | cons v vs ih =>
          intro o w
          have h1 : w.grownBy (w.setCell ⟨g, o, none⟩ v) (some g) := ⟨rfl, rfl, rfl, by simp [World.setCell], fun k hk hne => Below.heap_setCell w ⟨g, o, none⟩ v k (fun e => hne (by rw [e]))⟩
          exact World.grownBy.trans h1 (ih (o + 1) _)
      exact this cs 0 w
    · have : ∀ (vs : List Value) (o : Nat) (w : World), (w.setCells g o vs).heap.size = w.heap.size := by
        intro vs
        induction vs with
        | nil => intro o w; rfl
        | cons v vs ih => intro o w; rw [World.setCells, ih]; simp [World.setCell]
      exact this cs 0 w

/-- A slice of the call's own: elements of 'size' cells each, in a block from base on. -/
def Own (w : World) (base : Nat) (e : TypeId) (size : Nat) (A : Option Addr) (n c : Nat) (xs : List Value) : Prop := w.ownsRow base e size (.slice A n c) n xs
theorem Own.nil (w : World) (base : Nat) (e : TypeId) (size : Nat) : Own w base e size none 0 0 [] := World.ownsRow_nil w base e size
theorem Own.len {w : World} {base : Nat} {e : TypeId} {size : Nat} {A : Option Addr} {n c : Nat} {xs : List Value} (h : Own w base e size A n c xs) : xs.length = n * size := h.1
theorem Own.rd {w : World} {base : Nat} {e : TypeId} {size : Nat} {A : Option Addr} {n c : Nat} {xs : List Value} (h : Own w base e size A n c xs) : RdC w A xs := RdC.of_own h
theorem Own.lt {w : World} {base : Nat} {e : TypeId} {size : Nat} {A : Option Addr} {n c : Nat} {xs : List Value} (h : Own w base e size A n c xs) (k : Nat) (hk : ablk A = some k) : base ≤ k ∧ k < w.heap.size := by
  cases A with
  | none => cases hk
  | some a => exact World.ownsRow.lt h k (by simpa [ablk, Value.ownBlock] using hk)
theorem ownBlock_slice (A : Option Addr) (n c : Nat) : (Value.slice A n c).ownBlock = ablk A := by cases A <;> rfl
theorem Own.grown {w w' : World} {base : Nat} {e : TypeId} {size : Nat} {A : Option Addr} {n c : Nat} {xs : List Value} (h : Own w base e size A n c xs) {row : Option Nat} (hg : w.grownBy w' row) (hne : ablk A = none ∨ ablk A ≠ row) : Own w' base e size A n c xs :=
  World.ownsRow.kept h hg (by rw [ownBlock_slice]; exact hne)
theorem Own.fr {w w' : World} {base : Nat} {e : TypeId} {size : Nat} {A : Option Addr} {n c : Nat} {xs : List Value} (h : Own w base e size A n c xs) (hf : Fr w w') : Own w' base e size A n c xs :=
  h.grown (row := none) ⟨hf.os, hf.tape, hf.output, hf.size, fun i hi _ => hf.block i hi⟩ (by cases ablk A <;> simp)
theorem Own.mono {w : World} {base base' : Nat} {e : TypeId} {size : Nat} {A : Option Addr} {n c : Nat} {xs : List Value} (h : Own w base e size A n c xs) (hb : base' ≤ base) : Own w base' e size A n c xs := by
  obtain ⟨h1, h2⟩ := h
  refine ⟨h1, ?_⟩
  rcases h2 with h2 | ⟨g, cap, cur, r1, r2, r⟩
  · exact .inl h2
  · exact .inr ⟨g, cap, cur, r1, Nat.le_trans hb r2, r⟩
theorem Own.of_blk {w : World} {base g : Nat} {e : TypeId} {size n : Nat} {xs : List Value} (h : Blk w g xs e) (hb : base ≤ g) (hl : xs.length = n * size) (hm : n ≤ 9223372036854775807) : Own w base e size (some ⟨g, 0, none⟩) n n xs :=
  ⟨hl, .inr ⟨g, n, arr xs, rfl, hb, h, Nat.le_refl _, by simpa [maxLen] using hm, by rw [arr_size, hl], by rw [arr_toList, ← hl, List.take_length]⟩⟩

theorem run_app (t ty e : TypeId) (z : Value) (size bytes : Nat) (ht : P.underlying t = some (.slice e)) (hinfo : (P.info? e).map (fun i => (i.zero, i.size, i.bytes)) = some (some z, size, bytes)) (hz : z.cells.size = size) (hsz : 0 < size) (hby : 0 < bytes)
    (base : Nat) (w : World) (A : Option Addr) (n c : Nat) (xs : List Value) (hown : Own w base e size A n c xs) (B : Option Addr) (m c' : Nat) (ys : List Value) (hys : ys.length = m * size) (h : RdC w B ys) (h1 : ∀ u ∈ ys, u.oneCell' = true)
    (hl : (n + m) * bytes ≤ 140737488355328) (hbase : base ≤ w.heap.size) :
    ∃ A' c'' w', (Builtin.append_ #[t, t] ty #[.slice A n c, .slice B m c']).run P w = .ok (.slice A' (n + m) c'') w' ∧ Own w' base e size A' (n + m) c'' (xs ++ ys) ∧ w.grownBy w' (ablk A) ∧ (ablk A' = ablk A ∨ ablk A' = some w.heap.size) := by
  obtain ⟨i0, hi, hzz⟩ := Option.map_eq_some_iff.1 hinfo
  simp only [Prod.mk.injEq] at hzz
  obtain ⟨hz0, hz1, hz2⟩ := hzz
  have hlen : n + m ≤ 140737488355328 := Nat.le_trans (Nat.le_mul_of_pos_right _ hby) hl
  rcases Nat.eq_zero_or_pos m with h0 | h0
  · subst h0
    obtain rfl : ys = [] := List.eq_nil_of_length_eq_zero (by simpa using hys)
    refine ⟨A, c, w, ?_, by simpa using hown, World.grownBy.refl _ _, .inl rfl⟩
    have hl0 : ∀ (x : Addr), (loadCells x 0).run P w = .ok #[] w := fun x => by simpa using run_loadCells_list (P := P) w x [] (by simp)
    have hnc : n ≤ c := by
      rcases hown.2 with ⟨h1, h2⟩ | ⟨g, cap, cur, h1, _, _, h2, _⟩
      · omega
      · injection h1 with _ _ h1; omega
    cases B <;> cases A <;> simp [Builtin.append_, run_underlying ht, sizeOf, typeInfo, hi, Builtin.lenOf, Builtin.firstCells, hnc, storeCells, hl0]
  · obtain ⟨b, off, rfl, hc⟩ := h.at (by rw [hys]; exact Nat.mul_pos h0 hsz)
    obtain ⟨v', w', hr, h2, h3, _, h5⟩ := run_append_own_at (P := P) w base t ty e i0 z size bytes ht hi hz0 hz1 hz2 hz hsz (.slice A n c) n xs hown ⟨b, off, none⟩ m c' ys hys (fun j u hu => by rw [add_plain]; exact hc j u hu) h1 (by simp only [maxLen]; omega) hl hbase
    rcases h2.2 with ⟨_, h6⟩ | ⟨g, cap, cur, rfl, r⟩
    · omega
    · refine ⟨_, _, w', hr, h2, by rw [← ownBlock_slice A n c]; exact h3, ?_⟩
      rw [← ownBlock_slice A n c]
      exact h5

theorem bv_one (l : List UInt8) : ∀ v ∈ l.map bv, v.oneCell' = true := by simp [bv, Value.oneCell']
theorem fr_of_grown {w0 w w' : World} {g : Nat} (h : Fr w0 w) (hg : w.grownBy w' (some g)) (hb : w0.heap.size ≤ g) : Fr w0 w' :=
  h.grown hg (fun k hk => by injection hk with hk; omega)

/-! ### the same at the walk's own goal -/
/-- A goal that the walk does not open. -/
def Gate (p : Prop) : Prop := p
theorem gate {p : Prop} (h : Gate p) : p := h

section
variable {ops : Array Oper} {rest : List Oper} {o : Oper} {a : Act} {Q : Exit → Act → World → Prop}

/-- append(s, x...), s a slice of the call's own. -/
theorem gate_app (hgd : o.guard = none) (s x : Operand) (t : TypeId) (ho : o.op = .call { callee := .builtin .append, args := #[s, x], argTypes := #[t, t] }) (e : TypeId) (z : Value) (size bytes : Nat) (ht : P.underlying t = some (.slice e))
    (hinfo : (P.info? e).map (fun i => (i.zero, i.size, i.bytes)) = some (some z, size, bytes)) (hz : z.cells.size = size) (hsz : 0 < size) (hby : 0 < bytes)
    (base : Nat) {w : World} (A : Option Addr) (n c : Nat) (xs : List Value) (B : Option Addr) (m c' : Nat) (ys : List Value) (hs : a.eval s = .slice A n c) (hx : a.eval x = .slice B m c') (hown : Own w base e size A n c xs) (hys : ys.length = m * size) (hrd : RdC w B ys) (h1 : ∀ u ∈ ys, u.oneCell' = true)
    (hl : (n + m) * bytes ≤ 140737488355328) (hbase : base ≤ w.heap.size)
    (h : ∀ A' c'' w', Hid (Own w' base e size A' (n + m) c'' (xs ++ ys)) → Hid (w.grownBy w' (ablk A)) → Hid (ablk A' = ablk A ∨ ablk A' = some w.heap.size) → wpList P ops Q rest (a.put o.dst (.slice A' (n + m) c'')) w') :
    Gate (wpList P ops Q (o :: rest) a w) := by
  obtain ⟨A', c'', w', hr, h2, h3, h4⟩ := run_app (P := P) t o.type e z size bytes ht hinfo hz hsz hby base w A n c xs hown B m c' ys hys hrd h1 hl hbase
  refine wpList_plain hgd fun K hK => ?_
  unfold Oper.wp execOp
  simp only [ho, resolve, invoke, builtin, Sem.run_bind, Sem.run_pure, Result.andThen_ok, List.map_toArray, List.map_cons, List.map_nil, hs, hx, hr]
  exact hK _ _ (h A' c'' w' h2 h3 h4)
end

end
end Go.Inc
namespace Go.Inc
open Go.RowKit

/-- What was there is as it was, but for the blocks of S. -/
structure Mv (S : Nat → Prop) (w w' : World) : Prop where
  os : w'.os = w.os
  tape : w'.tape = w.tape
  output : w'.output = w.output
  size : w.heap.size ≤ w'.heap.size
  block : ∀ k, k < w.heap.size → ¬ S k → w'.heap[k]? = w.heap[k]?
/-- One block. -/
def one1 (g : Nat) : Nat → Prop := fun k => k = g
/-- No block. -/
def none0 : Nat → Prop := fun _ => False

section
variable {S T : Nat → Prop} {a b c : World}
theorem Mv.refl (S : Nat → Prop) (w : World) : Mv S w w := ⟨rfl, rfl, rfl, Nat.le_refl _, fun _ _ _ => rfl⟩
theorem Mv.trans (h : Mv S a b) (k : Mv T b c) (hT : ∀ i, T i → S i ∨ a.heap.size ≤ i) : Mv S a c :=
  ⟨k.os.trans h.os, k.tape.trans h.tape, k.output.trans h.output, Nat.le_trans h.size k.size, fun i hi hs =>
    (k.block i (Nat.lt_of_lt_of_le hi h.size) (fun ht => by rcases hT i ht with h1 | h1; exact hs h1; omega)).trans (h.block i hi hs)⟩
theorem Mv.trans' (h : Mv S a b) (k : Mv S b c) : Mv S a c := h.trans k (fun _ h => .inl h)
theorem Mv.mono (h : Mv S a b) (hT : ∀ i, S i → T i ∨ a.heap.size ≤ i) : Mv T a b :=
  ⟨h.os, h.tape, h.output, h.size, fun i hi hs => h.block i hi (fun h1 => by rcases hT i h1 with h2 | h2; exact hs h2; omega)⟩
theorem Mv.of_fr (h : Fr a b) : Mv S a b := ⟨h.os, h.tape, h.output, h.size, fun i hi _ => Below.block h i hi⟩
theorem Mv.of_grown {row : Option Nat} (h : a.grownBy b row) (hr : ∀ k, row = some k → S k ∨ a.heap.size ≤ k) : Mv S a b :=
  ⟨h.os, h.tape, h.output, h.size, fun i hi hs => h.block i hi (fun e => by rcases hr i e.symm with h1 | h1; exact hs h1; omega)⟩
/-- Nothing of the old world is in the set: then it is as it was. -/
theorem Fr.mv {w : World} (h : Fr w a) (k : Mv S a b) (hS : ∀ i, S i → w.heap.size ≤ i) : Fr w b :=
  ⟨k.os.trans (Below.os h), k.tape.trans (Below.tape h), k.output.trans (Below.output h), Nat.le_trans h.size k.size, fun i hi =>
    (k.block i (Nat.lt_of_lt_of_le hi h.size) (fun hs => by have := hS i hs; omega)).trans (Below.block h i hi)⟩
theorem Mv.fr (h : Mv S a b) (hS : ∀ i, S i → a.heap.size ≤ i) : Fr a b := (Fr.refl a).mv h hS
theorem Mv.fr0 (h : Mv none0 a b) : Fr a b := h.fr (fun _ h => h.elim)
theorem Mv.drewN (h : Mv S a b) (n : Nat) : Mv S a (b.drewN n) := h.trans' (Mv.of_fr (fr_drewN b n))
theorem Mv.alloc (h : Mv S a b) (o : Obj) : Mv S a (b.alloc o) := h.trans' (Mv.of_fr ((Fr.refl b).alloc o))
theorem Mv.set (h : Mv S a b) {p : Addr} (hp : S p.block ∨ a.heap.size ≤ p.block) (u : Value) : Mv S a (b.setCell p u) :=
  h.trans (T := one1 p.block) ⟨rfl, rfl, rfl, by simp [World.setCell], fun k _ hk => Below.heap_setCell _ _ _ _ (fun e => hk e)⟩ (fun i hi => by rw [show i = p.block from hi]; exact hp)
theorem Mv.grown {row : Option Nat} (h : Mv S a b) (hg : b.grownBy c row) (hr : ∀ k, row = some k → S k ∨ a.heap.size ≤ k) : Mv S a c :=
  h.trans (T := fun k => row = some k) (Mv.of_grown hg (fun _ h => .inl h)) (fun i hi => hr i hi)
theorem Mv.then (h : Mv S a b) (k : Fr b c) : Mv S a c := h.trans' (Mv.of_fr k)
theorem Mv.drew (h : Mv S a b) : Mv S a b.drew := h.then ((Fr.refl b).drew)
theorem Mv.blk (h : Mv S a b) {g : Nat} {o : Obj} (hg : a.heap[g]? = some o) (hs : ¬ S g) : b.heap[g]? = some o :=
  (h.block g (Array.getElem?_eq_some_iff.1 hg).1 hs).trans hg
theorem Mv.cell (h : Mv S a b) {p : Addr} {v : Value} (hc : a.cell? p = some v) (hs : ¬ S p.block) : b.cell? p = some v := by
  rw [World.cell?_of_block (h.block p.block (World.block_lt_of_cell? a p hc) hs)]; exact hc
theorem RdC.mv {A : Option Addr} {cs : List Value} (h : RdC a A cs) (k : Mv S a b) (hs : ∀ g, ablk A = some g → ¬ S g) : RdC b A cs := by
  rcases h with h | ⟨g, off, hA, h⟩
  · exact .inl h
  · subst hA
    exact .inr ⟨g, off, rfl, fun j u hu => k.cell (h j u hu) (hs g rfl)⟩
theorem Own.mv {base : Nat} {e : TypeId} {size : Nat} {A : Option Addr} {n cp : Nat} {xs : List Value} (h : Own a base e size A n cp xs) (k : Mv S a b) (hs : ∀ g, ablk A = some g → ¬ S g) : Own b base e size A n cp xs := by
  obtain ⟨h1, h2⟩ := h
  refine ⟨h1, ?_⟩
  rcases h2 with h2 | ⟨g, cap, cur, r1, r2, r3, r⟩
  · exact .inl h2
  · injection r1 with r1 r1' r1''
    subst r1; subst r1''
    exact .inr ⟨g, _, cur, rfl, r2, k.blk r3 (hs g rfl), r⟩
theorem Blk.mv {g : Nat} {cs : List Value} {e : TypeId} (h : Blk a g cs e) (k : Mv S a b) (hs : ¬ S g) : Blk b g cs e := k.blk h hs
theorem Own.base {base base' : Nat} {e : TypeId} {size : Nat} {A : Option Addr} {n cp : Nat} {xs : List Value} (h : Own a base e size A n cp xs) (hb : ∀ g, ablk A = some g → base' ≤ g) : Own a base' e size A n cp xs := by
  obtain ⟨h1, h2⟩ := h
  refine ⟨h1, ?_⟩
  rcases h2 with h2 | ⟨g, cap, cur, r1, r2, r⟩
  · exact .inl h2
  · injection r1 with r1 r1' r1''
    subst r1; subst r1''
    exact .inr ⟨g, _, cur, rfl, hb g rfl, r⟩
end

section
variable {P : Program} {ops : Array Oper} {o : Oper} {a : Act} {Q : Exit → Act → World → Prop} {K : Act → World → Prop}
/-- append(s, x...) at a step of a region that draws its order (for go_region_held3's third argument). -/
theorem step_app (hgd : o.guard = none) (s x : Operand) (t : TypeId) (ho : o.op = .call { callee := .builtin .append, args := #[s, x], argTypes := #[t, t] }) (e : TypeId) (z : Value) (size bytes : Nat) (ht : P.underlying t = some (.slice e))
    (hinfo : (P.info? e).map (fun i => (i.zero, i.size, i.bytes)) = some (some z, size, bytes)) (hz : z.cells.size = size) (hsz : 0 < size) (hby : 0 < bytes)
    (base : Nat) {w : World} (A : Option Addr) (n c : Nat) (xs : List Value) (B : Option Addr) (m c' : Nat) (ys : List Value) (hs : a.eval s = .slice A n c) (hx : a.eval x = .slice B m c') (hown : Own w base e size A n c xs) (hys : ys.length = m * size) (hrd : RdC w B ys) (h1 : ∀ u ∈ ys, u.oneCell' = true)
    (hl : (n + m) * bytes ≤ 140737488355328) (hbase : base ≤ w.heap.size)
    (h : ∀ A' c'' w', Hid (Own w' base e size A' (n + m) c'' (xs ++ ys)) → Hid (w.grownBy w' (ablk A)) → Hid (ablk A' = ablk A ∨ ablk A' = some w.heap.size) → K (a.put o.dst (.slice A' (n + m) c'')) w') :
    if Region.wanted o (yielded ops a.tmps) = true then Oper.wp P o a w K Q else K (a.put o.dst undef) w := by
  obtain ⟨A', c'', w', hr, h2, h3, h4⟩ := run_app (P := P) t o.type e z size bytes ht hinfo hz hsz hby base w A n c xs hown B m c' ys hys hrd h1 hl hbase
  have hw : Region.wanted o (yielded ops a.tmps) = true := by simp [Region.wanted, hgd]
  rw [if_pos hw]
  unfold Oper.wp execOp
  simp only [ho, resolve, invoke, builtin, Sem.run_bind, Sem.run_pure, Result.andThen_ok, List.map_toArray, List.map_cons, List.map_nil, hs, hx, hr]
  exact h A' c'' w' h2 h3 h4
end
end Go.Inc
namespace Go.Inc
open Go

section
variable {P : Program} {ops : Array Oper} {md : Region.Mode} {C : World → Prop}

def wpAnyLQ (P : Program) (md : Region.Mode) (ops : Array Oper) (C : World → Prop) (n : Nat) (L : Array Bool → Act → Prop) : Nat → Array Bool → Act → Prop
  | 0, listed, a => L listed a
  | f + 1, listed, a =>
    Region.ready md ops listed ≠ [] ∧ ∀ i ∈ Region.ready md ops listed, i < n ∧ qOp P ops C i (wpAnyLQ P md ops C n L f (listed.setIfInBounds i true)) a

theorem wpAny_of_headQ {n g : Nat} {L : Array Bool → Act → Prop} {Q' : Exit → Act → World → Prop} (hL : ∀ listed a w, C w → L listed a → wpAny P md ops Q' g listed a w) :
    ∀ (f : Nat) (listed : Array Bool) (a : Act) (w : World), C w → wpAnyLQ P md ops C n L f listed a → wpAny P md ops Q' (f + g) listed a w
  | 0, listed, a, w, hw, h => by rw [Nat.zero_add]; exact hL _ _ _ hw h
  | f + 1, listed, a, w, hw, h => by
    rw [show f + 1 + g = (f + g) + 1 by omega]
    exact ⟨fun h0 => absurd h0 h.1, fun i hi => wpOp_of_qOp hw (fun a' w' hw' h' => wpAny_of_headQ hL f _ a' w' hw' h') (h.2 i hi).2⟩

theorem wpAnyLQ_first {n i : Nat} {oi : Oper} {v : Value} {L : Array Bool → Act → Prop} (hi : ops[i]? = some oi) (hsel : ∀ (j : Nat) (o : Oper) cs b, ops[j]? = some o → o.op ≠ .select cs b)
    (hs : Region.sinkB md ops n = true) (hc : Region.chainB md ops n = true) (hn : n < ops.size) (hin : i < n)
    (hdone : ∀ listed a, L listed a → ∀ j ∈ Region.ready md ops listed, n ≤ j) :
    ∀ (f : Nat) (listed : Array Bool) (a : Act), HeadInv md ops n listed →
      (∀ j oj, ops[j]? = some oj → j ≠ i → listed.getD j true = false → (∀ e ∈ oj.after, Region.binds md e = true → e.on ≠ i) → oi.apart ops oj = true) →
      i ∈ Region.ready md ops listed → YieldsIn P ops C oi v a →
      wpAnyLQ P md ops C n L f (listed.setIfInBounds i true) (a.put oi.dst v) → wpAnyLQ P md ops C n L (f + 1) listed a := by
  intro f
  induction f with
  | zero =>
    intro listed a inv _ hr hy H
    have hun := (mem_ready.1 hr).1
    refine ⟨fun h => (by rw [h] at hr; cases hr), fun j hj => ?_⟩
    have hjn : j < n := by
      rcases Nat.lt_or_ge j n with h | h
      · exact h
      · exact absurd hj (tail_waits hs hc hn inv _ i rfl hin hun j h)
    refine ⟨hjn, ?_⟩
    by_cases hji : j = i
    · subst hji; exact hy.qOp hi H
    · have := hdone _ _ H j (ready_mono hj hji)
      omega
  | succ f ih =>
    intro listed a inv hfree hr hy H
    have hun := (mem_ready.1 hr).1
    refine ⟨fun h => (by rw [h] at hr; cases hr), fun j hj => ?_⟩
    have hjn : j < n := by
      rcases Nat.lt_or_ge j n with h | h
      · exact h
      · exact absurd hj (tail_waits hs hc hn inv _ i rfl hin hun j h)
    refine ⟨hjn, ?_⟩
    by_cases hji : j = i
    · subst hji; exact hy.qOp hi H
    · have h1 := (H.2 j (ready_mono hj hji)).2
      obtain ⟨hjun, oj, hoj, hall⟩ := mem_ready.1 hj
      have hnot : ∀ e ∈ oj.after, Region.binds md e = true → e.on ≠ i := fun e he hb heq => by
        have h1 := hall e he hb
        rw [heq, getD_both hun] at h1
        cases h1
      have h2 := qOp_put hoj (hfree j oj hoj hji hjun hnot) (fun cs b => hsel i oi cs b hi) (fun cs b => hsel j oj cs b hoj) hy h1
      have hfree' : ∀ k ok, ops[k]? = some ok → k ≠ i → (listed.setIfInBounds j true).getD k true = false →
          (∀ e ∈ ok.after, Region.binds md e = true → e.on ≠ i) → oi.apart ops ok = true := fun k ok hk hki hun hno => by
        refine hfree k ok hk hki ?_ hno
        by_cases hjk : j = k
        · subst hjk; exact hjun
        · rw [getD_set_ne true hjk] at hun; exact hun
      refine qOp_mono (fun a' h3 => ih (listed.setIfInBounds j true) a' (inv.set hj hjn) hfree' (ready_mono hr (Ne.symm hji)) h3.1 ?_) h2
      rw [Array.setIfInBounds_comm _ _ hji]
      exact h3.2

theorem wpAnyLQ_lex {n g : Nat} {Lq : Act → Prop} (hsel : Region.noSelect ops = true) (hs : Region.sinkB md ops n = true) (hc : Region.chainB md ops n = true) (hn : n < ops.size) :
    ∀ (l : List Oper) (k : Nat) (listed : Array Bool) (a : Act), (∀ j, j < l.length → l[j]? = ops[k + j]?) → k + l.length = n → HeadInv md ops n listed →
    Region.lexHead md ops g l.length k listed = true → wpQuiet P ops C Lq l a →
    wpAnyLQ P md ops C n (fun listed' a' => Region.seqB md ops g n listed' = true ∧ Lq a') l.length listed a
  | [], k, listed, a, _, hk, _, hB, h => by
    have : k = n := by simpa using hk
    subst this
    exact ⟨by simpa [Region.lexHead] using hB, h⟩
  | o :: l, k, listed, a, hl, hk, inv, hB, h => by
    have h0 : ops[k]? = some o := by simpa using (hl 0 (by simp)).symm
    simp only [List.length_cons, Region.lexHead, Bool.and_eq_true] at hB
    obtain ⟨⟨hr, hf⟩, hB'⟩ := hB
    have hkn : k < n := by simp only [List.length_cons] at hk; omega
    have hr' : k ∈ Region.ready md ops listed := by simpa using hr
    have hst : qOp P ops C k (wpQuiet P ops C Lq l) a := by unfold qOp; simp only [h0]; exact h
    obtain ⟨v, hy, hK⟩ := yieldsIn_of_qOp h0 hst
    exact wpAnyLQ_first h0 (Region.noSelect_spec hsel) hs hc hn hkn (fun listed' a' hL => seqB_ready hL.1) l.length listed a inv (Region.free_spec h0 hf) hr' hy
      (wpAnyLQ_lex hsel hs hc hn l (k + 1) _ _ (fun j hj => by have := hl (j + 1) (by simp; omega); simpa [Nat.add_assoc, Nat.add_comm 1 j] using this) (by simp only [List.length_cons] at hk; omega) (inv.set hr' hkn) hB' hK)

/-- QUIET OPERATIONS AHEAD OF A TAIL IN ONE FORCED ORDER. -/
theorem wp_region_quiet_tail {id : Nat} {Q : Exit → Act → World → Prop} {a : Act} {w : World} {l : List Oper} (n : Nat) (hm : P.follows .mixedOrders = true) (hB : Region.lexTailB .any l.toArray n = true)
    (h : wpQuiet P l.toArray (fun w' => ∃ n, w' = w.drewN n) (fun a' => ∀ w', (∃ n, w' = w.drewN n) → wpList P l.toArray Q (l.drop n) a' w') (l.take n) a) : (Code.region id l.toArray true).wp P Q a w := by
  simp only [Region.lexTailB, Bool.and_eq_true, decide_eq_true_eq] at hB
  obtain ⟨⟨⟨⟨hsel, hn⟩, hs⟩, hc⟩, hlex⟩ := hB
  have hn' : n < l.length := by simpa using hn
  have htl : (l.take n).length = n := by simp; omega
  have hdl : (l.drop n).length = l.toArray.size - n := by simp
  have inv0 : HeadInv .any l.toArray n (Array.replicate l.toArray.size false) :=
    ⟨by simp, fun j oj _ hl => (by rw [getD_replicate_false] at hl; cases hl), fun t _ ht => getD_in (by simpa using ht) (getD_replicate_false _ _)⟩
  have H := wpAnyLQ_lex (md := .any) (g := l.toArray.size - n) hsel hs hc hn (l.take n) 0 _ a (fun j hj => by
    have hj' : j < n := by rw [htl] at hj; exact hj
    simp [hj']) (by simpa using htl) inv0 (by rw [htl]; exact hlex) h
  refine wp_region_any hm ?_
  have := wpAny_of_headQ (Q' := Q) (g := l.toArray.size - n) (fun listed a' w' hw' hL => by
    have := wpAny_of_seq (md := .any) (Q' := Q) (l.drop n) n listed a' w' (fun j => by simp [List.getElem?_drop]) (by rw [hdl]; exact hL.1) (hL.2 w' hw')
    rwa [hdl] at this) _ _ _ _ (show ∃ n, ({ w with drawn := w.drawn + 1 } : World) = w.drewN n from ⟨1, rfl⟩) H
  rw [htl, show n + (l.toArray.size - n) = l.toArray.size by omega] at this
  exact this
/-! ### the same, where one operation at the end hangs on nothing and is taken first -/
def chainM (md : Region.Mode) (ops : Array Oper) (n m : Nat) : Bool :=
  (List.range m).all fun t => decide (t ≤ n) || Region.waitsFor md ops t (t - 1)
structure HeadM (md : Region.Mode) (ops : Array Oper) (n m : Nat) (listed : Array Bool) : Prop where
  size : listed.size = ops.size
  closed : ∀ j oj, ops[j]? = some oj → listed.getD j false = true → ∀ e ∈ oj.after, Region.binds md e = true → listed.getD e.on false = true
  tail : ∀ t, n ≤ t → t < m → listed.getD t true = false
  done : ∀ t, m ≤ t → t < ops.size → listed.getD t true = true

theorem HeadM.set {n m i : Nat} {listed : Array Bool} (inv : HeadM md ops n m listed) (hi : i ∈ Region.ready md ops listed) (hin : i < n) (hnm : n ≤ m) : HeadM md ops n m (listed.setIfInBounds i true) := by
  obtain ⟨_, oi, hoi, hall⟩ := mem_ready.1 hi
  refine ⟨by simp [inv.size], fun j oj hj hl e he hb => ?_, fun t ht ht' => by rw [getD_set_ne true (by omega)]; exact inv.tail t ht ht', fun t ht ht' => by rw [getD_set_ne true (by omega)]; exact inv.done t ht ht'⟩
  by_cases hij : i = j
  · subst hij
    have : oj = oi := Option.some.inj (hj.symm.trans hoi)
    subst this
    exact getD_set_true (hall e he hb)
  · rw [getD_set_ne false hij] at hl
    exact getD_set_true (inv.closed j oj hj hl e he hb)

theorem tail_waitsM {n m : Nat} {listed : Array Bool} (hs : Region.sinkB md ops n = true) (hc : chainM md ops n m = true) (hn : n < m) (_hm : m ≤ ops.size) (inv : HeadM md ops n m listed) :
    ∀ (d i : Nat), n - i = d → i < n → listed.getD i true = false → ∀ t, n ≤ t → t ∉ Region.ready md ops listed := by
  intro d
  induction d using Nat.strongRecOn with
  | _ d ih =>
    intro i hd hi hun t ht hr
    obtain ⟨hunt, ot, hot, hall⟩ := mem_ready.1 hr
    have htsz : t < ops.size := (Array.getElem?_eq_some_iff.1 hot).1
    have htlt : t < m := by
      rcases Nat.lt_or_ge t m with h | h
      · exact h
      · rw [inv.done t h htsz] at hunt; cases hunt
    by_cases htn : t = n
    · subst htn
      have h1 := List.all_eq_true.1 hs i (List.mem_range.2 hi)
      obtain ⟨j, hj, hj2⟩ := List.any_eq_true.1 h1
      simp only [Bool.and_eq_true, decide_eq_true_eq] at hj2
      obtain ⟨oj, hoj, e, he, hb, hon⟩ := Region.waitsFor_spec hj2.2
      have hjle : j ≤ t := by have := List.mem_range.1 hj; omega
      by_cases hjt : j = t
      · subst hjt
        have : oj = ot := Option.some.inj (hoj.symm.trans hot)
        subst this
        have h2 := hall e he hb
        rw [hon, getD_both hun] at h2
        cases h2
      · cases hl : listed.getD j false with
        | true =>
          have h2 := inv.closed j oj hoj hl e he hb
          rw [hon, getD_both hun] at h2
          cases h2
        | false =>
          have hjs : j < listed.size := by rw [inv.size]; omega
          exact ih (t - j) (by omega) j rfl (by omega) (getD_in hjs hl) t (Nat.le_refl _) hr
    · have h1 := List.all_eq_true.1 hc t (List.mem_range.2 htlt)
      simp only [Bool.or_eq_true, decide_eq_true_eq] at h1
      rcases h1 with h1 | h1
      · omega
      · obtain ⟨o', ho', e, he, hb, hon⟩ := Region.waitsFor_spec h1
        have : o' = ot := Option.some.inj (ho'.symm.trans hot)
        subst this
        have h2 := hall e he hb
        rw [hon, getD_both (inv.tail (t - 1) (by omega) (by omega))] at h2
        cases h2

theorem wpAnyLQ_firstM {n m i : Nat} {oi : Oper} {v : Value} {L : Array Bool → Act → Prop} (hi : ops[i]? = some oi) (hsel : ∀ (j : Nat) (o : Oper) cs b, ops[j]? = some o → o.op ≠ .select cs b)
    (hs : Region.sinkB md ops n = true) (hc : chainM md ops n m = true) (hn : n < m) (hm : m ≤ ops.size) (hin : i < n)
    (hdone : ∀ listed a, L listed a → ∀ j ∈ Region.ready md ops listed, n ≤ j) :
    ∀ (f : Nat) (listed : Array Bool) (a : Act), HeadM md ops n m listed →
      (∀ j oj, ops[j]? = some oj → j ≠ i → listed.getD j true = false → (∀ e ∈ oj.after, Region.binds md e = true → e.on ≠ i) → oi.apart ops oj = true) →
      i ∈ Region.ready md ops listed → YieldsIn P ops C oi v a →
      wpAnyLQ P md ops C n L f (listed.setIfInBounds i true) (a.put oi.dst v) → wpAnyLQ P md ops C n L (f + 1) listed a := by
  intro f
  induction f with
  | zero =>
    intro listed a inv _ hr hy H
    have hun := (mem_ready.1 hr).1
    refine ⟨fun h => (by rw [h] at hr; cases hr), fun j hj => ?_⟩
    have hjn : j < n := by
      rcases Nat.lt_or_ge j n with h | h
      · exact h
      · exact absurd hj (tail_waitsM hs hc hn hm inv _ i rfl hin hun j h)
    refine ⟨hjn, ?_⟩
    by_cases hji : j = i
    · subst hji; exact hy.qOp hi H
    · have := hdone _ _ H j (ready_mono hj hji)
      omega
  | succ f ih =>
    intro listed a inv hfree hr hy H
    have hun := (mem_ready.1 hr).1
    refine ⟨fun h => (by rw [h] at hr; cases hr), fun j hj => ?_⟩
    have hjn : j < n := by
      rcases Nat.lt_or_ge j n with h | h
      · exact h
      · exact absurd hj (tail_waitsM hs hc hn hm inv _ i rfl hin hun j h)
    refine ⟨hjn, ?_⟩
    by_cases hji : j = i
    · subst hji; exact hy.qOp hi H
    · have h1 := (H.2 j (ready_mono hj hji)).2
      obtain ⟨hjun, oj, hoj, hall⟩ := mem_ready.1 hj
      have hnot : ∀ e ∈ oj.after, Region.binds md e = true → e.on ≠ i := fun e he hb heq => by
        have h1 := hall e he hb
        rw [heq, getD_both hun] at h1
        cases h1
      have h2 := qOp_put hoj (hfree j oj hoj hji hjun hnot) (fun cs b => hsel i oi cs b hi) (fun cs b => hsel j oj cs b hoj) hy h1
      have hfree' : ∀ k ok, ops[k]? = some ok → k ≠ i → (listed.setIfInBounds j true).getD k true = false →
          (∀ e ∈ ok.after, Region.binds md e = true → e.on ≠ i) → oi.apart ops ok = true := fun k ok hk hki hun hno => by
        refine hfree k ok hk hki ?_ hno
        by_cases hjk : j = k
        · subst hjk; exact hjun
        · rw [getD_set_ne true hjk] at hun; exact hun
      refine qOp_mono (fun a' h3 => ih (listed.setIfInBounds j true) a' (inv.set hj hjn (Nat.le_of_lt hn)) hfree' (ready_mono hr (Ne.symm hji)) h3.1 ?_) h2
      rw [Array.setIfInBounds_comm _ _ hji]
      exact h3.2

theorem wpAnyLQ_lexM {n m g : Nat} {Lq : Act → Prop} (hsel : Region.noSelect ops = true) (hs : Region.sinkB md ops n = true) (hc : chainM md ops n m = true) (hn : n < m) (hm : m ≤ ops.size) :
    ∀ (l : List Oper) (k : Nat) (listed : Array Bool) (a : Act), (∀ j, j < l.length → l[j]? = ops[k + j]?) → k + l.length = n → HeadM md ops n m listed →
    Region.lexHead md ops g l.length k listed = true → wpQuiet P ops C Lq l a →
    wpAnyLQ P md ops C n (fun listed' a' => Region.seqB md ops g n listed' = true ∧ Lq a') l.length listed a
  | [], k, listed, a, _, hk, _, hB, h => by
    have : k = n := by simpa using hk
    subst this
    exact ⟨by simpa [Region.lexHead] using hB, h⟩
  | o :: l, k, listed, a, hl, hk, inv, hB, h => by
    have h0 : ops[k]? = some o := by simpa using (hl 0 (by simp)).symm
    simp only [List.length_cons, Region.lexHead, Bool.and_eq_true] at hB
    obtain ⟨⟨hr, hf⟩, hB'⟩ := hB
    have hkn : k < n := by simp only [List.length_cons] at hk; omega
    have hr' : k ∈ Region.ready md ops listed := by simpa using hr
    have hst : qOp P ops C k (wpQuiet P ops C Lq l) a := by unfold qOp; simp only [h0]; exact h
    obtain ⟨v, hy, hK⟩ := yieldsIn_of_qOp h0 hst
    exact wpAnyLQ_firstM h0 (Region.noSelect_spec hsel) hs hc hn hm hkn (fun listed' a' hL => seqB_ready hL.1) l.length listed a inv (Region.free_spec h0 hf) hr' hy
      (wpAnyLQ_lexM hsel hs hc hn hm l (k + 1) _ _ (fun j hj => by have := hl (j + 1) (by simp; omega); simpa [Nat.add_assoc, Nat.add_comm 1 j] using this) (by simp only [List.length_cons] at hk; omega) (inv.set hr' hkn (Nat.le_of_lt hn)) hB' hK)

theorem wpAny_of_seqM {Q' : Exit → Act → World → Prop} : ∀ (l : List Oper) (k : Nat) (listed : Array Bool) (a : Act) (w : World), (∀ j, j < l.length → l[j]? = ops[k + j]?) →
    Region.seqB md ops l.length k listed = true → wpList P ops Q' l a w → wpAny P md ops Q' l.length listed a w
  | [], _, _, _, _, _, hB, h => ⟨by simpa [Region.seqB] using hB, h⟩
  | o :: l, k, listed, a, w, hl, hB, h => by
    have h0 : ops[k]? = some o := by simpa using (hl 0 (by simp)).symm
    simp only [List.length_cons, Region.seqB, Bool.and_eq_true, decide_eq_true_eq] at hB
    refine ⟨fun h1 => (by rw [hB.1] at h1; cases h1), fun i hi => ?_⟩
    rw [hB.1] at hi
    have hik : i = k := by simpa using hi
    subst hik
    have hw : wpOp P ops Q' i (wpList P ops Q' l) a w := by unfold wpOp; simp only [h0]; exact h
    exact wpOp_mono (fun a' w' h' => wpAny_of_seqM l (i + 1) _ a' w' (fun j hj => by have := hl (j + 1) (by simp; omega); simpa [Nat.add_assoc, Nat.add_comm 1 j] using this) hB.2 h') hw

/-- All that is asked of the region, as one Bool: the last operation may come first. -/
def tailM (ops : Array Oper) (n : Nat) : Bool :=
  Region.noSelect ops && decide (n + 1 < ops.size) && Region.sinkB .any ops n && chainM .any ops n (ops.size - 1) &&
    Region.free .any ops (Array.replicate ops.size false) (ops.size - 1) && (Region.ready .any ops (Array.replicate ops.size false)).contains (ops.size - 1) &&
    Region.lexHead .any ops (ops.size - 1 - n) n 0 ((Array.replicate ops.size false).setIfInBounds (ops.size - 1) true) && (match ops[ops.size - 1]? with | some o => o.after.isEmpty | none => false)

/-- QUIET OPERATIONS AHEAD OF A TAIL IN ONE FORCED ORDER; the last operation of the text hangs on nothing. -/
theorem wp_region_quiet_tail1 {id : Nat} {Q : Exit → Act → World → Prop} {a : Act} {w : World} {l : List Oper} (n : Nat) (om : Oper) (v : Value) (hm : P.follows .mixedOrders = true) (hB : tailM l.toArray n = true)
    (hi : l[l.length - 1]? = some om) (hQ : ∀ c a w, Q (.panic c) (a.put om.dst v) w → Q (.panic c) a w) (hy : Yields P l.toArray om v a)
    (h : wpQuiet P l.toArray (fun w' => ∃ n, w' = w.drewN n) (fun a' => ∀ w', (∃ n, w' = w.drewN n) → wpList P l.toArray Q ((l.take (l.length - 1)).drop n) a' w') (l.take n) (a.put om.dst v)) : (Code.region id l.toArray true).wp P Q a w := by
  simp only [tailM, Bool.and_eq_true, decide_eq_true_eq] at hB
  obtain ⟨⟨⟨⟨⟨⟨⟨hsel, hn⟩, hs⟩, hc⟩, hfr⟩, hrd⟩, hlex⟩, hemp⟩ := hB
  have hsz : l.toArray.size = l.length := by simp
  rw [hsz] at hn hc hfr hrd hlex hemp
  have hi' : l.toArray[l.length - 1]? = some om := by simpa using hi
  rw [hi'] at hemp
  have htl : (l.take n).length = n := by simp; omega
  have hdl : ((l.take (l.length - 1)).drop n).length = l.length - 1 - n := by simp
  obtain ⟨L0, hL0⟩ : ∃ L0, L0 = (Array.replicate l.length false).setIfInBounds (l.length - 1) true := ⟨_, rfl⟩
  have inv0 : HeadM .any l.toArray n (l.length - 1) L0 := by
    subst hL0
    refine ⟨by simp, fun j oj hj hl => ?_, fun t ht ht' => ?_, fun t ht ht' => ?_⟩
    · by_cases hjm : l.length - 1 = j
      · subst hjm
        have : oj = om := Option.some.inj (hj.symm.trans hi')
        subst this
        intro e he
        have : oj.after = #[] := by simpa using hemp
        rw [this] at he; simp at he
      · rw [getD_set_ne false hjm, getD_replicate_false] at hl; cases hl
    · rw [getD_set_ne true (by omega)]
      exact getD_in (by simp; omega) (getD_replicate_false _ _)
    · have : t = l.length - 1 := by rw [hsz] at ht'; omega
      subst this
      simp
  have H := wpAnyLQ_lexM (md := .any) (g := l.length - 1 - n) hsel hs hc (by omega) (by rw [hsz]; omega) (l.take n) 0 L0 _ (fun j hj => by
    have hj' : j < n := by rw [htl] at hj; exact hj
    simp [hj']) (by simpa using htl) inv0 (by rw [htl, hL0]; exact hlex) h
  refine wp_region_any hm ?_
  have H2 := wpAny_of_headQ (Q' := Q) (g := l.length - 1 - n) (fun listed a' w' hw' hL => by
    have := wpAny_of_seqM (md := .any) (Q' := Q) ((l.take (l.length - 1)).drop n) n listed a' w' (fun j hj => by
      rw [hdl] at hj
      simp [List.getElem?_drop, show n + j < l.length - 1 by omega]) (by rw [hdl]; exact hL.1) (hL.2 w' hw')
    rwa [hdl] at this) _ _ _ _ (show ∃ n, ({ w with drawn := w.drawn + 1 } : World) = w.drewN n from ⟨1, rfl⟩) H
  rw [htl, show n + (l.length - 1 - n) = l.length - 1 by omega, hL0] at H2
  have H3 := wpAny_take (fuel := l.length - 1) hi' hsel (by rw [← hsz] at hfr ⊢; rw [hsz]; simpa using hfr) (by simpa using hrd) hQ hy H2
  rw [show l.length - 1 + 1 = l.toArray.size by rw [hsz]; omega] at H3
  simpa using H3
end
end Go.Inc
namespace Go.Proofs.YthjimnmgbcckjaaGreat
set_option maxRecDepth 100000
open Go.RowKit Go.Inc

theorem tobits_run (x : Nat) (w : World) : (callFunc 35 #[.float .f64 x]).run Tryz.prog w = .ok (.value (.int .u64 x)) w := by kernel_rfl
theorem frombits_run (n : Int) (w : World) : (callFunc 64 #[.int .u64 n]).run Tryz.prog w = .ok (.value (.float .f64 n.toNat)) w := by kernel_rfl

theorem isNaN_calls (x : Nat) (w : World) : Calls Tryz.prog 105 #[.float .f64 x] w fun e w' => e = .returned (.bool (!decide (x % 9223372036854775808 ≤ infR))) ∧ w = w' := by
  have ho := order_self x
  have HO := Lib.hid ho; clear ho
  go_enter Tryz.func105, Tryz.ntmps105
  go_wp2
  go_ret
  refine ⟨?_, rfl⟩
  rw [← HO.out]; rfl

theorem abs_calls (x : Nat) (hx : x < 18446744073709551616) (w : World) : Calls Tryz.prog 124 #[.float .f64 x] w fun e w' => e = .returned (.float .f64 (x % 9223372036854775808)) ∧ w = w' := by
  have ho := andNot_sign x hx
  have hn : ((x % 9223372036854775808 : Nat) : Int).toNat = x % 9223372036854775808 := Int.toNat_natCast _
  have h1 := tobits_run
  have h2 := frombits_run
  go_enter Tryz.func124, Tryz.ntmps124
  go_wp2
  go_ret
  exact ⟨rfl, rfl⟩

theorem isInf_calls (x : Nat) (hx : x < 18446744073709551616) (hn : x % 9223372036854775808 ≤ infR) (w : World) :
    Calls Tryz.prog 106 #[.float .f64 x, .int .i64 0] w fun e w' => e = .returned (.bool (decide (x % 9223372036854775808 = infR))) ∧ w = w' := by
  have ho := gt_max (x % 9223372036854775808) (by omega) hn
  have HO := Lib.hid ho; clear ho
  go_enter Tryz.func106, Tryz.ntmps106
  go_wp2_with (go_at_call 124; refine (abs_calls x hx _).mono ?_; rintro e w' ⟨rfl, rfl⟩)
  go_ret
  refine ⟨?_, rfl⟩
  rw [← HO.out]; rfl

end Go.Proofs.YthjimnmgbcckjaaGreat
namespace Go.Proofs
open Go.Shelf
def Tryz.lays134_ren : Go.Shelf.Ren := ⟨fun | 134 => 145 | 129 => 162 | n => n, fun | 53 => 50 | 3 => 3 | 4 => 4 | 46 => 139 | 5 => 5 | 9 => 9 | n => n, fun | n => n⟩
theorem Tryz.lays134 : Go.Proofs.Lays.n134 Tryz.prog Tryz.lays134_ren := {
  mixed := by kernel_rfl
  f129 := Tryz.func162.trans (congrArg some (by kernel_rfl))
  f134 := Tryz.func145.trans (congrArg some (by kernel_rfl))
  t3 := Tryz.underlying3
  a3 := Tryz.isAgg3
  z3 := Tryz.sizeOf3
  v3 := Tryz.zeroValue3
  t4 := Tryz.underlying4
  a4 := Tryz.isAgg4
  z4 := Tryz.sizeOf4
  v4 := Tryz.zeroValue4
  t5 := Tryz.underlying5
  a5 := Tryz.isAgg5
  z5 := Tryz.sizeOf5
  v5 := Tryz.zeroValue5
  t9 := Tryz.underlying9
  a9 := Tryz.isAgg9
  z9 := Tryz.sizeOf9
  v9 := Tryz.zeroValue9
  t46 := Tryz.underlying139
  a46 := Tryz.isAgg139
  z46 := Tryz.sizeOf139
  v46 := Tryz.zeroValue139
  t53 := Tryz.underlying50
  a53 := Tryz.isAgg50
  z53 := Tryz.sizeOf50
  v53 := Tryz.zeroValue50 }
theorem Tryz.bits_LeadingZeros64 (x : Int) (w : World) (h0 : 0 ≤ x) (h1 : x ≤ 18446744073709551615) :
    Calls Tryz.prog 145 #[.int .u64 x] w fun e w' => e = .returned (.int .i64 (64 - (Lib.bitLen x.toNat : Int))) ∧ w' = w := Any.bits_LeadingZeros64 Tryz.lays134 x w h0 h1
def Tryz.lays129_ren : Go.Shelf.Ren := ⟨fun | 129 => 162 | n => n, fun | 53 => 50 | 3 => 3 | 4 => 4 | 46 => 139 | 5 => 5 | 9 => 9 | n => n, fun | n => n⟩
theorem Tryz.lays129 : Go.Proofs.Lays.n129 Tryz.prog Tryz.lays129_ren := {
  mixed := by kernel_rfl
  f129 := Tryz.func162.trans (congrArg some (by kernel_rfl))
  t3 := Tryz.underlying3
  a3 := Tryz.isAgg3
  z3 := Tryz.sizeOf3
  v3 := Tryz.zeroValue3
  t4 := Tryz.underlying4
  a4 := Tryz.isAgg4
  z4 := Tryz.sizeOf4
  v4 := Tryz.zeroValue4
  t5 := Tryz.underlying5
  a5 := Tryz.isAgg5
  z5 := Tryz.sizeOf5
  v5 := Tryz.zeroValue5
  t9 := Tryz.underlying9
  a9 := Tryz.isAgg9
  z9 := Tryz.sizeOf9
  v9 := Tryz.zeroValue9
  t46 := Tryz.underlying139
  a46 := Tryz.isAgg139
  z46 := Tryz.sizeOf139
  v46 := Tryz.zeroValue139
  t53 := Tryz.underlying50
  a53 := Tryz.isAgg50
  z53 := Tryz.sizeOf50
  v53 := Tryz.zeroValue50 }
theorem Tryz.bits_Len64 (x : Int) (w : World) (h0 : 0 ≤ x) (h1 : x ≤ 18446744073709551615) :
    Calls Tryz.prog 162 #[.int .u64 x] w fun e w' => e = .returned (.int .i64 (Lib.bitLen x.toNat)) ∧ w' = w := Any.bits_Len64 Tryz.lays129 x w h0 h1
def Tryz.lays264_ren : Go.Shelf.Ren := ⟨fun | 264 => 161 | n => n, fun | 53 => 50 | 46 => 139 | n => n, fun | n => n⟩
theorem Tryz.lays264 : Go.Proofs.Lays.n264 Tryz.prog Tryz.lays264_ren := {
  mixed := by kernel_rfl
  f264 := Tryz.func161.trans (congrArg some (by kernel_rfl))
  t46 := Tryz.underlying139
  a46 := Tryz.isAgg139
  z46 := Tryz.sizeOf139
  v46 := Tryz.zeroValue139
  t53 := Tryz.underlying50
  a53 := Tryz.isAgg50
  z53 := Tryz.sizeOf50
  v53 := Tryz.zeroValue50 }
open Go.RowKit Go.Lib in
theorem Tryz.bits_Mul64 (x y : Nat) (hx : x < 18446744073709551616) (hy : y < 18446744073709551616) (w : World) :
    Calls Tryz.prog 161 #[.int .u64 x, .int .u64 y] w fun e w' => e = .returned (.tuple #[.int .u64 ((x * y / 18446744073709551616 : Nat) : Int), .int .u64 ((x * y % 18446744073709551616 : Nat) : Int)]) ∧ w' = w := Any.bits_Mul64 Tryz.lays264 x y hx hy w
end Go.Proofs
namespace Go.Inc
/-- The sign. -/
def sg (x : Int) : Int := if x < 0 then -1 else if x = 0 then 0 else 1
theorem sg_neg {x : Int} (h : x < 0) : sg x = -1 := by unfold sg; rw [if_pos h]
theorem sg_zero {x : Int} (h : x = 0) : sg x = 0 := by unfold sg; rw [if_neg (by omega), if_pos h]
theorem sg_pos {x : Int} (h : 0 < x) : sg x = 1 := by unfold sg; rw [if_neg (by omega), if_neg (by omega)]
theorem mul_up {a b A B : Int} (ha : 0 ≤ a) (hb : 0 ≤ b) (h1 : a ≤ A) (h2 : b ≤ B) : a * b ≤ A * B := by
  have h3 : a * b ≤ A * b := Int.mul_le_mul_of_nonneg_right h1 hb
  have h4 : A * b ≤ A * B := Int.mul_le_mul_of_nonneg_left h2 (by omega)
  omega
theorem hi_up {a b : Int} (ha : 0 ≤ a) (h1 : a ≤ 9223372036854775807) (hb : 0 ≤ b) (h2 : b < 18446744073709551616) : 0 ≤ a * b ∧ a * b / 18446744073709551616 ≤ 9223372036854775807 := by
  have h3 := mul_up ha hb h1 (show b ≤ 18446744073709551615 by omega)
  have h4 := Int.mul_nonneg ha hb
  omega
theorem hi_dn {a b : Int} (ha : a < 0) (h1 : -9223372036854775808 ≤ a) (hb : 0 ≤ b) (h2 : b < 18446744073709551616) : -9223372036854775808 ≤ a * b / 18446744073709551616 ∧ a * b / 18446744073709551616 ≤ 0 ∧ a * b ≤ 0 := by
  have h3 := mul_up (a := -a) (A := 9223372036854775808) (by omega) hb (by omega) (show b ≤ 18446744073709551615 by omega)
  have h4 := Int.mul_nonneg (show 0 ≤ -a by omega) hb
  have h5 : -a * b = -(a * b) := Int.neg_mul a b
  rw [h5] at h3 h4
  omega
end Go.Inc
namespace Go.Proofs.YthjimnmgbcckjaaGreat
set_option maxRecDepth 100000
open Go.RowKit Go.Inc

theorem mul64_calls (x y : Int) (hx : 0 ≤ x ∧ x < 18446744073709551616) (hy : 0 ≤ y ∧ y < 18446744073709551616) (w : World) :
    Calls Tryz.prog 161 #[.int .u64 x, .int .u64 y] w fun e w' => e = .returned (.tuple #[.int .u64 (x * y / 18446744073709551616), .int .u64 (x * y % 18446744073709551616)]) ∧ w' = w := by
  obtain ⟨a, rfl⟩ := Int.eq_ofNat_of_zero_le hx.1
  obtain ⟨b, rfl⟩ := Int.eq_ofNat_of_zero_le hy.1
  refine (Tryz.bits_Mul64 a b (by omega) (by omega) w).mono ?_
  rintro e w' ⟨rfl, rfl⟩
  exact ⟨by simp, rfl⟩

theorem times_calls (a b : Int) (ha : -9223372036854775808 ≤ a ∧ a ≤ 9223372036854775807) (hb : 0 ≤ b ∧ b < 18446744073709551616) (w : World) :
    Calls Tryz.prog 159 #[.int .i64 a, .int .u64 b] w fun e w' => e = .returned (.agg #[.int .i64 (a * b / 18446744073709551616), .int .u64 (a * b % 18446744073709551616)]) ∧ Fr w w' := by
  obtain ⟨a1, a2⟩ := ha
  rcases Int.lt_or_le a 0 with h0 | h0
  · have hw1 : IntKind.u64.wrap a = a + 18446744073709551616 := by rw [wrap_u64]; omega
    have hdn := Lib.hid (hi_dn h0 a1 hb.1 hb.2)
    have e1 : Hid ((a + 18446744073709551616) * b = a * b + b * 18446744073709551616) := by rw [Hid, Int.add_mul]; omega
    have e2 : (a + 18446744073709551616) * b / 18446744073709551616 = a * b / 18446744073709551616 + b := by rw [e1.out, Int.add_mul_ediv_right _ _ (by decide)]
    have e3 : (a + 18446744073709551616) * b % 18446744073709551616 = a * b % 18446744073709551616 := by rw [e1.out, Int.add_mul_emod_self_right]
    obtain ⟨H, hH⟩ : ∃ H, H = a * b / 18446744073709551616 := ⟨_, rfl⟩
    obtain ⟨L, hL⟩ : ∃ L, L = a * b % 18446744073709551616 := ⟨_, rfl⟩
    rw [← hH] at e2 hdn
    rw [← hL] at e3
    have e6 : wrap64 (IntKind.u64.wrap H) = H := by
      have := hdn.out
      rw [wrap_u64]; unfold wrap64; omega
    have HH := Lib.hid hH
    have HL := Lib.hid hL
    have hd : a < 0 := h0
    clear hH hL hdn e1
    go_enter Tryz.func159, Tryz.ntmps159
    go_wp2_with fail
    refine (mul64_calls (a + 18446744073709551616) b (by omega) hb _).mono ?_
    rintro e w' ⟨rfl, rfl⟩
    go_wp2_with fail
    exact bodyPost_ret (results_cell_row rfl _ _ w.heap.size _ _ (0, 0) _ rfl (heap_alloc_new _ _) Tryz.underlying209 rfl (by kernel_rfl)) rfl ⟨by rw [HH.out, HL.out], (Fr.refl w).alloc _⟩
  · have hw1 : IntKind.u64.wrap a = a := wrap_u64_in _ h0 (by omega)
    have hup := hi_up h0 a2 hb.1 hb.2
    have hw2 : IntKind.i64.wrap (a * b / 18446744073709551616) = a * b / 18446744073709551616 := wrap_i64_in _ (by omega) (by omega)
    have hd : decide (a < 0) = false := decide_eq_false (by omega)
    clear hup
    go_enter Tryz.func159, Tryz.ntmps159
    go_wp2_with fail
    refine (mul64_calls a b (by omega) hb _).mono ?_
    rintro e w' ⟨rfl, rfl⟩
    go_wp2_with fail
    exact bodyPost_ret (results_cell_row rfl _ _ w.heap.size _ _ (0, 0) _ rfl (heap_alloc_new _ _) Tryz.underlying209 rfl (by kernel_rfl)) rfl ⟨rfl, (Fr.refl w).alloc _⟩

theorem nan_i (x : Int) (w : World) : Calls Tryz.prog 179 #[.int .i64 x] w fun e w' => e = .returned (.bool false) ∧ w' = w := by
  have h : (x != x) = false := by simp
  go_enter Tryz.func179, Tryz.ntmps179
  go_wp2
  go_ret
  exact ⟨by simp, rfl⟩
theorem nan_u (x : Int) (w : World) : Calls Tryz.prog 180 #[.int .u64 x] w fun e w' => e = .returned (.bool false) ∧ w' = w := by
  have h : (x != x) = false := by simp
  go_enter Tryz.func180, Tryz.ntmps180
  go_wp2
  go_ret
  exact ⟨by simp, rfl⟩
theorem cmp_i (x y : Int) (w : World) : Calls Tryz.prog 173 #[.int .i64 x, .int .i64 y] w fun e w' => e = .returned (.int .i64 (sg (x - y))) ∧ w' = w := by
  rcases Int.lt_trichotomy x y with h | h | h
  · have hs := Lib.hid (sg_neg (show x - y < 0 by omega))
    go_enter Tryz.func173, Tryz.ntmps173
    go_wp2_with (first | (go_at_call 179; refine (nan_i _ _).mono ?_; rintro e w' ⟨rfl, rfl⟩))
    go_ret
    exact ⟨by rw [hs.out]; rfl, rfl⟩
  · subst h
    have hs := Lib.hid (sg_zero (show x - x = 0 by omega))
    have h1 : decide (x < x) = false := by simp
    have h2 : decide (x > x) = false := by simp
    go_enter Tryz.func173, Tryz.ntmps173
    go_wp2_with (first | (go_at_call 179; refine (nan_i _ _).mono ?_; rintro e w' ⟨rfl, rfl⟩))
    go_ret
    exact ⟨by rw [hs.out]; rfl, rfl⟩
  · have hs := Lib.hid (sg_pos (show 0 < x - y by omega))
    have h1 : decide (x < y) = false := by simp; omega
    have h2 : decide (x > y) = true := by simpa using h
    go_enter Tryz.func173, Tryz.ntmps173
    go_wp2_with (first | (go_at_call 179; refine (nan_i _ _).mono ?_; rintro e w' ⟨rfl, rfl⟩))
    go_ret
    exact ⟨by rw [hs.out]; rfl, rfl⟩
theorem cmp_u (x y : Int) (w : World) : Calls Tryz.prog 174 #[.int .u64 x, .int .u64 y] w fun e w' => e = .returned (.int .i64 (sg (x - y))) ∧ w' = w := by
  rcases Int.lt_trichotomy x y with h | h | h
  · have hs := Lib.hid (sg_neg (show x - y < 0 by omega))
    go_enter Tryz.func174, Tryz.ntmps174
    go_wp2_with (first | (go_at_call 180; refine (nan_u _ _).mono ?_; rintro e w' ⟨rfl, rfl⟩))
    go_ret
    exact ⟨by rw [hs.out]; rfl, rfl⟩
  · subst h
    have hs := Lib.hid (sg_zero (show x - x = 0 by omega))
    have h1 : decide (x < x) = false := by simp
    have h2 : decide (x > x) = false := by simp
    go_enter Tryz.func174, Tryz.ntmps174
    go_wp2_with (first | (go_at_call 180; refine (nan_u _ _).mono ?_; rintro e w' ⟨rfl, rfl⟩))
    go_ret
    exact ⟨by rw [hs.out]; rfl, rfl⟩
  · have hs := Lib.hid (sg_pos (show 0 < x - y by omega))
    have h1 : decide (x < y) = false := by simp; omega
    have h2 : decide (x > y) = true := by simpa using h
    go_enter Tryz.func174, Tryz.ntmps174
    go_wp2_with (first | (go_at_call 180; refine (nan_u _ _).mono ?_; rintro e w' ⟨rfl, rfl⟩))
    go_ret
    exact ⟨by rw [hs.out]; rfl, rfl⟩
theorem eqf_step {P : Program} {w : World} {d : Nat} {xs ys : Array Value} {f : Field} {fs : List Field} {a b : Value} {r s : Bool} (hn : f.name ≠ "_") (ha : (part f.type xs f.offset).run P w = .ok a w) (hb : (part f.type ys f.offset).run P w = .ok b w)
    (he : (Op.equalIn d f.type a b).run P w = .ok r w) (hr : (Op.eqFields d xs ys fs).run P w = .ok s w) : (Op.eqFields d xs ys (f :: fs)).run P w = .ok (r && s) w := by
  rw [Op.eqFields]
  simp only [if_pos hn, Sem.run_bind, ha, hb, he, Result.andThen_ok]
  cases r
  · simp
  · simpa using hr
theorem eqf_nil {P : Program} {w : World} {d : Nat} {xs ys : Array Value} : (Op.eqFields d xs ys []).run P w = .ok true w := by simp [Op.eqFields]
theorem fields_of {P : Program} {t : TypeId} {fs : Array Field} (hu : P.underlying t = some (.struct fs)) : P.fieldsOf t = fs := by simp [Program.fieldsOf, hu]
theorem wide_eql (W : World) (a b c e : Int) : (binOp .eql 209 (.agg #[.int .i64 a, .int .u64 b]) (.agg #[.int .i64 c, .int .u64 e])).run Tryz.prog W = .ok (.bool (a == c && b == e)) W := by
  have h1 : ∀ x y : Int, (Op.equalIn 9999 2 (.int .i64 x) (.int .i64 y)).run Tryz.prog W = .ok (x == y) W := fun x y => run_equalIn_int W 9998 _ _ _ x y Tryz.underlying2
  have h1' : ∀ x y : Int, (Op.equalIn 9999 50 (.int .u64 x) (.int .u64 y)).run Tryz.prog W = .ok (x == y) W := fun x y => run_equalIn_int W 9998 _ _ _ x y Tryz.underlying50
  have hk : Tryz.prog.plainKey 2 = true := by kernel_rfl
  have hk' : Tryz.prog.plainKey 50 = true := by kernel_rfl
  have h2 : (Op.eqFields 9999 #[.int .i64 a, .int .u64 b] #[.int .i64 c, .int .u64 e] (Tryz.prog.fieldsOf 209).toList).run Tryz.prog W = .ok (a == c && (b == e && true)) W := by
    rw [fields_of Tryz.underlying209]
    exact eqf_step (by decide) (run_part_plain W hk rfl) (run_part_plain W hk rfl) (h1 _ _) (eqf_step (by decide) (run_part_plain W hk' rfl) (run_part_plain W hk' rfl) (h1' _ _) eqf_nil)
  rw [run_eql_struct, run_equalIn_struct W 9999 209 _ _ (by kernel_rfl) (by kernel_rfl), h2]
  simp [Result.andThen]
/-- The sign of the difference of two numbers of 128 bits. -/
theorem wcmp_calls (a b c d : Int) (hb : 0 ≤ b ∧ b < 18446744073709551616) (hd : 0 ≤ d ∧ d < 18446744073709551616) (w : World) :
    Calls Tryz.prog 158 #[.agg #[.int .i64 a, .int .u64 b], .agg #[.int .i64 c, .int .u64 d]] w fun e w' => e = .returned (.int .i64 (sg ((a * 18446744073709551616 + b) - (c * 18446744073709551616 + d)))) ∧ Fr w w' := by
  have hf := Lib.hid (((Fr.refl w).alloc (.cells #[.int .i64 a, .int .u64 b] 209)).alloc (.cells #[.int .i64 c, .int .u64 d] 209))
  have heq := wide_eql
  by_cases h1 : a = c
  · subst h1
    by_cases h2 : b = d
    · subst h2
      have hs := Lib.hid (sg_zero (show (a * 18446744073709551616 + b) - (a * 18446744073709551616 + b) = 0 by omega))
      have k : (a == a && b == b) = true := by simp
      go_enter Tryz.func158, Tryz.ntmps158
      go_wp2_with fail
      go_ret
      exact ⟨by rw [hs.out]; rfl, hf.out⟩
    · have k : (b == d) = false := by simpa using h2
      have hs : Hid (sg ((a * 18446744073709551616 + b) - (a * 18446744073709551616 + d)) = sg (b - d)) := by rw [Hid]; congr 1; omega
      have k2 : (a != a) = false := by simp
      clear h2
      go_enter Tryz.func158, Tryz.ntmps158
      go_wp2_with fail
      refine (cmp_u b d _).mono ?_
      rintro e w' ⟨rfl, rfl⟩
      go_wp2_with fail
      go_ret
      exact ⟨by rw [hs.out]; rfl, hf.out⟩
  · have k : (a == c) = false := by simpa using h1
    have k2 : (a != c) = true := by simpa using h1
    have hs : Hid (sg ((a * 18446744073709551616 + b) - (c * 18446744073709551616 + d)) = sg (a - c)) := by
      rcases Int.lt_or_gt_of_ne h1 with h | h
      · rw [Hid, sg_neg (by omega), sg_neg (by omega)]
      · rw [Hid, sg_pos (by omega), sg_pos (by omega)]
    clear h1
    go_enter Tryz.func158, Tryz.ntmps158
    go_wp2_with fail
    refine (cmp_i a c _).mono ?_
    rintro e w' ⟨rfl, rfl⟩
    go_wp2_with fail
    go_ret
    exact ⟨by rw [hs.out]; rfl, hf.out⟩
end Go.Proofs.YthjimnmgbcckjaaGreat
