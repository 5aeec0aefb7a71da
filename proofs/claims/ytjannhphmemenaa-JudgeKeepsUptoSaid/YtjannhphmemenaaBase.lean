import Derived.WalkKit
import Derived.WalkSpells
import Derived.WalkLawsBesides
import Derived.Deep.QuietTactic
import Derived.BigQuiet
import Derived.Lib.Hide
namespace Go.Inc
open Go.RowKit

/-- The byte at a place of a string. -/
def bt (b : ByteArray) (i : Nat) : Nat := (b.data.toList.getD i 0).toNat
theorem bt_lt (b : ByteArray) (i : Nat) : bt b i < 256 := by unfold bt; exact UInt8.toNat_lt _
theorem bt_get (b : ByteArray) (i : Nat) (h : i < b.size) : ((b[i]'h).toNat : Int) = (bt b i : Nat) := by
  unfold bt
  have h' : i < b.data.toList.length := by simpa using h
  rw [List.getD_eq_getElem?_getD, List.getElem?_eq_getElem h']
  rfl

theorem run_idx_str {P : Program} (t : TypeId) (ht : P.underlying t = some .string) (b : ByteArray) (k : IntKind) (i : Int) (j : Nat) (h0 : i = j) (h1 : j < b.size) (w : World) :
    (Instr.index t (.string b) (.int k i)).run P w = .ok (.int .u8 (bt b j : Nat)) w := by
  subst h0
  rw [run_index_string w t b k j ht, dif_pos ⟨by omega, by omega⟩]
  rw [← bt_get b j h1]; rfl

theorem wrap_u64 (n : Int) : IntKind.u64.wrap n = n % 18446744073709551616 := by simp [IntKind.wrap, IntKind.bits, IntKind.signed]
theorem wrap_u64_in (n : Int) (h0 : 0 ≤ n) (h1 : n < 18446744073709551616) : IntKind.u64.wrap n = n := by rw [wrap_u64]; omega
theorem wrap_i64_in (n : Int) (h0 : -9223372036854775808 ≤ n) (h1 : n ≤ 9223372036854775807) : IntKind.i64.wrap n = n := by rw [IntKind.wrap_i64]; omega
theorem wraps_u64 (n : Int) (h₀ : 0 ≤ n) (h₁ : n < 2 ^ 64) : IntKind.u64.wrap n = n := wrap_u64_in n h₀ (by omega)

/-- 'n << 8 | c' while n has room: one digit more. -/
theorem or_byte (n c : Nat) (hn : n < 72057594037927936) (hc : c < 256) : bits .or .u64 ((n : Int) * 256) c = ((n * 256 + c : Nat) : Int) := by
  rw [bits_join .u64 64 (by decide) wraps_u64 8 ((n : Int) * 256) c (by omega) (by omega) (by omega) (by omega) (by omega) (by omega)]
  omega

/-- The number of k bytes from a place on, the highest first. -/
def be (b : ByteArray) (a : Nat) : Nat → Nat
  | 0 => 0
  | k + 1 => be b a k * 256 + bt b (a + k)
theorem be_lt (b : ByteArray) (a k : Nat) : be b a k < 256 ^ k := by
  induction k with
  | zero => simp [be]
  | succ k ih => have := bt_lt b (a + k); simp only [be, Nat.pow_succ]; omega
theorem bt_wrap (b : ByteArray) (i : Nat) : IntKind.u64.wrap (bt b i : Int) = (bt b i : Int) := wrap_u64_in _ (by omega) (by have := bt_lt b i; omega)

theorem run_shr_u64 {P : Program} (t : TypeId) (x : Nat) (k : IntKind) (i : Int) (j : Nat) (hi : i = j) (hj : j ≤ 64) (w : World) :
    (binOp .shr t (.int .u64 x) (.int k i)).run P w = .ok (.int .u64 (x / 2 ^ j : Nat)) w := by
  subst hi
  have h1 : min j 64 = j := by omega
  have h2 : ¬ ((j : Int) < 0) := by omega
  simp only [binOp, Op.shift, h2, if_false, Int.toNat_natCast, IntKind.bits, h1, Sem.run_pure, Result.ok.injEq, Value.int.injEq, true_and, and_true]
  rw [Int.fdiv_eq_ediv_of_nonneg _ (by have := Int.pow_pos (n := 2) (m := j) (by decide); omega)]
  simp

/-- A function of the program's own text: a call of it enters its body. -/
def Enters (P : Program) (f : FuncId) : Prop := ∀ args w, (callFunc f args).run P w = .ok (.enter f args) w
theorem enters_of {P : Program} {f : FuncId} {fn : Func} {c : Code} (hf : P.funcs[f]? = some fn) (hname : (fn.name == "runtime.NumGoroutine") = false) (hb : fn.body = some c) : Enters P f :=
  fun args w => by
    have hn : ¬ fn.name = "runtime.NumGoroutine" := by simpa using hname
    simp [callFunc, hf, hn, hb]

/-- Eight bytes read at a place: the number, the error, where the reader is then. -/
def rd8 (b : ByteArray) (a : Nat) (may : Nat → Bool) : Nat × Int × Nat :=
  if b.size < a + 8 then (0, 100, a) else if may (be b a 8) = true then (be b a 8, 0, a + 8) else (0, 101, a)

def pk8 (b : ByteArray) (a : Nat) : Nat × Int := if b.size < a + 8 then (0, 100) else (be b a 8, 0)

/-- A byte read at a place. -/
def rd1 (b : ByteArray) (a most : Nat) : Nat × Int × Nat :=
  if b.size = a then (0, 100, a) else if bt b a > most then (0, 101, a) else (bt b a, 0, a + 1)

/-- The bytes from a place on begin with these. -/
def wordAt (b : ByteArray) (a : Nat) (wd : List UInt8) : Bool := (b.data.toList.drop a).take wd.length == wd
def rdW (b : ByteArray) (a : Nat) (wd : List UInt8) : Int × Nat :=
  if b.size - a < wd.length then (100, a) else if wordAt b a wd = true then (0, a + wd.length) else (101, a)
theorem ba_toList (b : ByteArray) : b.toList = b.data.toList := ByteArray.toList_eq b
theorem ba_extract (b : ByteArray) (i j : Nat) : (b.extract i j).data.toList = (b.data.toList.take j).drop i := by
  rw [ByteArray.data_extract, Array.toList_extract, List.extract_eq_drop_take']
theorem wordAt_eq (b : ByteArray) (a : Nat) (wd : List UInt8) :
    (((b.extract a b.size).extract 0 (ByteArray.mk wd.toArray).size).toList == (ByteArray.mk wd.toArray).toList) = wordAt b a wd := by
  have hs : (ByteArray.mk wd.toArray).size = wd.length := by simp [ByteArray.size]
  rw [hs, ba_toList, ba_toList, ba_extract, ba_extract]
  unfold wordAt
  have : List.take b.size b.data.toList = b.data.toList := List.take_of_length_le (by simp)
  rw [this]
  simp

/-- A quiet callee inside a region that draws; the second pair: behind an earlier draw. -/
theorem quiet_a {P : Program} {f : FuncId} {args : Array Value} {w : World} {k : Nat} {v : Value}
    (h : Calls P f args (w.drewN k) fun e w' => e = .returned v ∧ ∃ n, w' = (w.drewN k).drewN n) : Calls P f args (w.drewN k) fun e w'' => e = .returned v ∧ ∃ m, w'' = w.drewN m :=
  h.mono fun _ _ ⟨he, m, hm⟩ => ⟨he, k + m, by rw [hm, World.drewN_drewN]⟩
theorem quiet_a_same {P : Program} {f : FuncId} {args : Array Value} {w : World} {k : Nat} {v : Value}
    (h : Calls P f args (w.drewN k) fun e w' => e = .returned v ∧ w.drewN k = w') : Calls P f args (w.drewN k) fun e w'' => e = .returned v ∧ ∃ m, w'' = w.drewN m :=
  h.mono fun _ _ ⟨he, hm⟩ => ⟨he, k, hm.symm⟩
theorem quiet_b {P : Program} {f : FuncId} {args : Array Value} {w : World} {n k : Nat} {v : Value}
    (h : Calls P f args (w.drewN (n + k)) fun e w' => e = .returned v ∧ ∃ m, w' = (w.drewN (n + k)).drewN m) : Calls P f args (w.drewN (n + k)) fun e w'' => e = .returned v ∧ ∃ m, w'' = w.drewN (n + m) :=
  h.mono fun _ _ ⟨he, m, hm⟩ => ⟨he, k + m, by rw [hm, World.drewN_drewN, Nat.add_assoc]⟩
theorem quiet_b_same {P : Program} {f : FuncId} {args : Array Value} {w : World} {n k : Nat} {v : Value}
    (h : Calls P f args (w.drewN (n + k)) fun e w' => e = .returned v ∧ w.drewN (n + k) = w') : Calls P f args (w.drewN (n + k)) fun e w'' => e = .returned v ∧ ∃ m, w'' = w.drewN (n + m) :=
  h.mono fun _ _ ⟨he, hm⟩ => ⟨he, k, hm.symm⟩

theorem word_step {b : ByteArray} {a k : Nat} {wd : List UInt8} (hk : k < wd.length) (hb : a + wd.length ≤ b.size) (h : (b.data.toList.drop a).take k = wd.take k) (he : bt b (a + k) = bt ⟨wd.toArray⟩ k) :
    (b.data.toList.drop a).take (k + 1) = wd.take (k + 1) := by
  have h1 : k < (b.data.toList.drop a).length := by simp; omega
  rw [List.take_succ_eq_append_getElem h1, List.take_succ_eq_append_getElem hk, h]
  have h2 : a + k < b.data.toList.length := by simp; omega
  unfold bt at he
  simp only [List.getD_eq_getElem?_getD, List.getElem?_eq_getElem h2, List.getElem?_eq_getElem hk, Option.getD_some] at he
  rw [List.getElem_drop, UInt8.toNat_inj.1 he]
theorem word_no {b : ByteArray} {a k : Nat} {wd : List UInt8} (hk : k < wd.length) (hb : a + wd.length ≤ b.size) (he : bt b (a + k) ≠ bt ⟨wd.toArray⟩ k) : wordAt b a wd = false := by
  unfold wordAt
  rw [beq_eq_false_iff_ne]
  intro h
  apply he
  have h2 : a + k < b.data.toList.length := by simp; omega
  unfold bt
  simp only [List.getD_eq_getElem?_getD, List.getElem?_eq_getElem h2, List.getElem?_eq_getElem hk, Option.getD_some]
  have := congrArg (fun l => l[k]?) h
  simp only [List.getElem?_take, if_pos hk, List.getElem?_drop, List.getElem?_eq_getElem h2, List.getElem?_eq_getElem hk, Option.some.injEq] at this
  rw [this]
theorem word_yes {b : ByteArray} {a : Nat} {wd : List UInt8} (h : (b.data.toList.drop a).take wd.length = wd.take wd.length) : wordAt b a wd = true := by
  unfold wordAt
  rw [h]; simp

/-- The eight bytes of a number, the highest first. -/
def be8 (x : Nat) : List UInt8 := (List.range 8).map fun i => UInt8.ofNat (x / 256 ^ (7 - i))
theorem be8_u8 (x i : Nat) : (((x / 256 ^ i : Nat) : Int) % 256) = ((UInt8.ofNat (x / 256 ^ i)).toNat : Nat) := by
  rw [UInt8.toNat_ofNat']; omega
theorem pow_256 (i : Nat) : 2 ^ (8 * i) = 256 ^ i := by rw [Nat.pow_mul]
theorem be8_length (x : Nat) : (be8 x).length = 8 := by simp [be8]
theorem be8_get (x i : Nat) (h : i < 8) : (be8 x)[i]? = some (UInt8.ofNat (x / 256 ^ (7 - i))) := by simp [be8, h]

theorem bt_app (pre l post : List UInt8) (i : Nat) (h : i < l.length) : bt ⟨(pre ++ l ++ post).toArray⟩ (pre.length + i) = (l[i]'h).toNat := by
  unfold bt
  simp only [List.getD_eq_getElem?_getD]
  rw [List.getElem?_append_left (by simp; omega), List.getElem?_append_right (by omega), show pre.length + i - pre.length = i by omega, List.getElem?_eq_getElem h]
  rfl
theorem be8_at (x i : Nat) (h : i < 8) : ((be8 x)[i]'(by rw [be8_length]; exact h)).toNat = x / 256 ^ (7 - i) % 256 := by
  have := be8_get x i h
  rw [List.getElem?_eq_getElem (by rw [be8_length]; exact h)] at this
  rw [Option.some.inj this, UInt8.toNat_ofNat']
/-- What was laid down is read. -/
theorem be_be8 (pre post : List UInt8) (x : Nat) (hx : x < 18446744073709551616) : be ⟨(pre ++ be8 x ++ post).toArray⟩ pre.length 8 = x := by
  have hb : ∀ i, i < 8 → bt ⟨(pre ++ be8 x ++ post).toArray⟩ (pre.length + i) = x / 256 ^ (7 - i) % 256 := fun i hi => by
    rw [bt_app pre (be8 x) post i (by rw [be8_length]; exact hi), be8_at x i hi]
  simp only [be, hb 0 (by omega), hb 1 (by omega), hb 2 (by omega), hb 3 (by omega), hb 4 (by omega), hb 5 (by omega), hb 6 (by omega), hb 7 (by omega)]
  omega

theorem bt_take (l : List UInt8) (c i : Nat) (h : i < c) : bt ⟨(l.take c).toArray⟩ i = bt ⟨l.toArray⟩ i := by
  unfold bt
  simp only [List.getD_eq_getElem?_getD]
  rw [List.getElem?_take, if_pos h]
theorem be_take (l : List UInt8) (c a k : Nat) (h : a + k ≤ c) : be ⟨(l.take c).toArray⟩ a k = be ⟨l.toArray⟩ a k := by
  induction k with
  | zero => rfl
  | succ k ih => simp only [be]; rw [ih (by omega), bt_take l c _ (by omega)]

end Go.Inc
