/- The walks of the sort of []uint64: bits.Len, medians (turned from the kit's walks at []int). -/
import Derived.Test.YtjannhphmemenaaSrtA
import Derived.Sort.WalkD2
import Derived.Sort.Walk7
import Derived.Sort.Walk11
import Derived.Lib.BitFns
import Derived.Lib.Tables
import Derived.Lib.Strings
import Derived.Lib.Slices
import Derived.Lib.Small
import Derived.Lib.Walk
namespace Go.Proofs.Ytjannhphmemenaa
set_option maxRecDepth 100000
open Go.RowKit Go.Sort

theorem len8_run (q : Int) (h0 : 0 ≤ q) (h1 : q ≤ 255) (W : World) :
    (Instr.index 9 (.string Lib.len8tab) (.int .u8 q)).run Try.prog W = .ok (.int .u8 (Lib.bitLen q.toNat : Nat)) W := by
  rw [← Lib.len8_of q h0 h1]
  exact Lib.run_index_len8tab _ _ _ _ (by kernel_rfl) h0 h1

set_option maxHeartbeats 4000000 in
theorem So_bits_Len64 (x : Int) (w : World) (h0 : 0 ≤ x) (h1 : x ≤ 18446744073709551615) :
    Calls Try.prog 42 #[.int .u64 x] w fun e w' => e = .returned (.int .i64 (Lib.bitLen x.toNat)) ∧ w' = w := by
  by_cases a : 4294967296 ≤ x
  · by_cases b : 65536 ≤ x / 4294967296
    · by_cases c : 256 ≤ x / 4294967296 / 65536
      · have hix := len8_run (x / 4294967296 / 65536 / 256) (by omega) (by omega)
        have l := Lib.bitLen_le8' (x / 4294967296 / 65536 / 256) (by omega) (by omega)
        have e : Lib.bitLen x.toNat = 56 + Lib.bitLen (x / 4294967296 / 65536 / 256).toNat := by
          rw [Lib.bitLen_shift56 x.toNat (by omega) (by omega)]; congr 2; omega
        rw [e]
        clear e
        generalize Lib.bitLen (x / 4294967296 / 65536 / 256).toNat = L at hix l ⊢
        go_enter Try.func42, Try.ntmps42
        go_wp2
        go_ret
        exact ⟨by simp, rfl⟩
      · have hix := len8_run (x / 4294967296 / 65536) (by omega) (by omega)
        have l := Lib.bitLen_le8' (x / 4294967296 / 65536) (by omega) (by omega)
        have e : Lib.bitLen x.toNat = 48 + Lib.bitLen (x / 4294967296 / 65536).toNat := by
          rw [Lib.bitLen_shift48 x.toNat (by omega) (by omega)]; congr 2; omega
        rw [e]
        clear e
        generalize Lib.bitLen (x / 4294967296 / 65536).toNat = L at hix l ⊢
        go_enter Try.func42, Try.ntmps42
        go_wp2
        go_ret
        exact ⟨by simp, rfl⟩
    · by_cases c : 256 ≤ x / 4294967296
      · have hix := len8_run (x / 4294967296 / 256) (by omega) (by omega)
        have l := Lib.bitLen_le8' (x / 4294967296 / 256) (by omega) (by omega)
        have e : Lib.bitLen x.toNat = 40 + Lib.bitLen (x / 4294967296 / 256).toNat := by
          rw [Lib.bitLen_shift40 x.toNat (by omega) (by omega)]; congr 2; omega
        rw [e]
        clear e
        generalize Lib.bitLen (x / 4294967296 / 256).toNat = L at hix l ⊢
        go_enter Try.func42, Try.ntmps42
        go_wp2
        go_ret
        exact ⟨by simp, rfl⟩
      · have hix := len8_run (x / 4294967296) (by omega) (by omega)
        have l := Lib.bitLen_le8' (x / 4294967296) (by omega) (by omega)
        have e : Lib.bitLen x.toNat = 32 + Lib.bitLen (x / 4294967296).toNat := by
          rw [Lib.bitLen_shift32 x.toNat (by omega) (by omega)]; congr 2; omega
        rw [e]
        clear e
        generalize Lib.bitLen (x / 4294967296).toNat = L at hix l ⊢
        go_enter Try.func42, Try.ntmps42
        go_wp2
        go_ret
        exact ⟨by simp, rfl⟩
  · by_cases b : 65536 ≤ x
    · by_cases c : 256 ≤ x / 65536
      · have hix := len8_run (x / 65536 / 256) (by omega) (by omega)
        have l := Lib.bitLen_le8' (x / 65536 / 256) (by omega) (by omega)
        have e : Lib.bitLen x.toNat = 24 + Lib.bitLen (x / 65536 / 256).toNat := by
          rw [Lib.bitLen_shift24 x.toNat (by omega) (by omega)]; congr 2; omega
        rw [e]
        clear e
        generalize Lib.bitLen (x / 65536 / 256).toNat = L at hix l ⊢
        go_enter Try.func42, Try.ntmps42
        go_wp2
        go_ret
        exact ⟨by simp, rfl⟩
      · have hix := len8_run (x / 65536) (by omega) (by omega)
        have l := Lib.bitLen_le8' (x / 65536) (by omega) (by omega)
        have e : Lib.bitLen x.toNat = 16 + Lib.bitLen (x / 65536).toNat := by
          rw [Lib.bitLen_shift16 x.toNat (by omega) (by omega)]; congr 2; omega
        rw [e]
        clear e
        generalize Lib.bitLen (x / 65536).toNat = L at hix l ⊢
        go_enter Try.func42, Try.ntmps42
        go_wp2
        go_ret
        exact ⟨by simp, rfl⟩
    · by_cases c : 256 ≤ x
      · have hix := len8_run (x / 256) (by omega) (by omega)
        have l := Lib.bitLen_le8' (x / 256) (by omega) (by omega)
        have e : Lib.bitLen x.toNat = 8 + Lib.bitLen (x / 256).toNat := by
          rw [Lib.bitLen_shift8 x.toNat (by omega) (by omega)]; congr 2; omega
        rw [e]
        clear e
        generalize Lib.bitLen (x / 256).toNat = L at hix l ⊢
        go_enter Try.func42, Try.ntmps42
        go_wp2
        go_ret
        exact ⟨by simp, rfl⟩
      · have hix := len8_run (x) (by omega) (by omega)
        have l := Lib.bitLen_le8' (x) (by omega) (by omega)
        have e : Lib.bitLen x.toNat = 0 + Lib.bitLen (x).toNat := by
          omega
        rw [e]
        clear e
        generalize Lib.bitLen (x).toNat = L at hix l ⊢
        go_enter Try.func42, Try.ntmps42
        go_wp2
        go_ret
        exact ⟨by simp, rfl⟩

theorem So_bits_Len (x : Int) (w : World) (h0 : 0 ≤ x) (h1 : x ≤ 18446744073709551615) :
    Calls Try.prog 30 #[.int .u64 x] w fun e w' => e = .returned (.int .i64 (Lib.bitLen x.toNat)) ∧ w' = w := by
  go_enter Try.func30, Try.ntmps30
  go_wp2_with (go_at_call 42; refine (So_bits_Len64 x _ h0 h1).mono ?_; rintro e w' ⟨rfl, rfl⟩)
  go_ret
  exact ⟨rfl, rfl⟩

theorem holds_asideU {w : World} {blk off sb so n t : Nat} {d : Array Int} (h : Holds (Value.int .u64) w blk off d) (hne : sb ≠ blk) : Holds (Value.int .u64) (putRow (Value.int .i64) (Sort.ahead w n) sb so (one t)) blk off d := fun j hj =>
  ⟨by rw [cell?_putRow_other _ _ _ _ _ _ (Or.inl (Ne.symm hne))]; exact (h j hj).1, by rw [frozen?_putRow]; exact (h j hj).2⟩

theorem counter_growU {T : TypeId} (w : World) (N S : Nat) : ∃ os, putRow (Value.int .i64) (Sort.ahead (w.alloc (.cells #[.int .i64 0] T)) N) w.heap.size 0 (one S) = grow (Sort.ahead w N) os := by
  rw [alloc_eq_grow, ahead_grow]
  obtain ⟨os, _, h⟩ := putRow_grow_new (Value.int .i64) (Sort.ahead w N) #[.cells #[.int .i64 0] T] w.heap.size 0 (one S) (Nat.le_refl _)
  exact ⟨os, h⟩

set_option maxHeartbeats 1000000 in
theorem So_order2_u (d : Array Int) (len : Nat) (hlen : d.size = len) (blk off cap a b sb so s : Nat) (w : World) (hH : Holds (Value.int .u64) w blk off d) (ha : a < d.size) (hb : b < d.size)
    (hS : Holds (Value.int .i64) w sb so (one s)) (hs : s < 2 ^ 62) :
    Calls Try.prog 49 #[.slice (some ⟨blk, off, none⟩) len cap, .int .i64 a, .int .i64 b, .pointer (some ⟨sb, so, none⟩)] w fun e w' =>
      e = .returned (.tuple #[.int .i64 (order2 ltInt d a b s).1, .int .i64 (order2 ltInt d a b s).2.1]) ∧ ∃ n, w' = putRow (Value.int .i64) (Sort.ahead w n) sb so (one (order2 ltInt d a b s).2.2) := by
  subst hlen
  replace hs : s < 4611686018427387904 := by omega
  have ca := (hH a ha).1
  have cb := (hH b hb).1
  obtain ⟨cs, fs⟩ := one_cell hS
  have ea : d[a]! = d[a] := getElem!_pos d a ha
  have eb : d[b]! = d[b] := getElem!_pos d b hb
  go_enter Try.func49, Try.ntmps49
  go_wp2
  go_region_with (go_at_call 31; refine (So_cmp_Less_u _ _ _).mono ?_; rintro e w' ⟨rfl, rfl⟩)
  all_goals (try go_wp2)
  all_goals first
    | (have hlt : ltInt d[b] d[a] = true := by assumption
       have e2 : order2 ltInt d a b s = (b, a, s + 1) := by simp [order2, ea, eb, hlt]
       go_ret2
       rw [e2]
       refine ⟨rfl, 1, ?_⟩
       rw [putRow_ahead, ← one_set hS (s + 1)]
       simp [drew_eq_ahead])
    | (have hlt : ltInt d[b] d[a] = false := by assumption
       have e2 : order2 ltInt d a b s = (a, b, s) := by simp [order2, ea, eb, hlt]
       go_ret2
       rw [e2]
       refine ⟨rfl, 1, ?_⟩
       rw [putRow_ahead, putRow_self _ _ _ _ _ hS]
       rfl)

set_option maxHeartbeats 1000000 in
set_option maxRecDepth 100000 in
theorem So_median_u (d : Array Int) (len : Nat) (hlen : d.size = len) (blk off cap a b c sb so s : Nat) (w : World) (hH : Holds (Value.int .u64) w blk off d) (ha : a < d.size) (hb : b < d.size) (hc : c < d.size) (hne : sb ≠ blk)
    (hS : Holds (Value.int .i64) w sb so (one s)) (hs : s + 3 < 2 ^ 62) :
    Calls Try.prog 48 #[.slice (some ⟨blk, off, none⟩) len cap, .int .i64 a, .int .i64 b, .int .i64 c, .pointer (some ⟨sb, so, none⟩)] w fun e w' =>
      e = .returned (.int .i64 (median ltInt d a b c s).1) ∧ ∃ n, w' = putRow (Value.int .i64) (Sort.ahead w n) sb so (one (median ltInt d a b c s).2) := by
  subst hlen
  have l1 := order2_lt d s ha hb
  have s1 := order2_swaps d a b s
  have l2 := order2_lt d (order2 ltInt d a b s).2.2 l1.2 hc
  have s2 := order2_swaps d (order2 ltInt d a b s).2.1 c (order2 ltInt d a b s).2.2
  go_enter Try.func48, Try.ntmps48
  go_wp2_with (go_at_call_of 49 (Value.int .i64 (b : Int)); refine (So_order2_u d _ rfl blk off cap a b sb so s w hH ha hb hS (by omega)).mono ?_; rintro e w' ⟨rfl, n1, rfl⟩)
  go_wp2_with (go_at_call_of 49 (Value.int .i64 (c : Int)); refine (So_order2_u d _ rfl blk off cap (order2 ltInt d a b s).2.1 c sb so (order2 ltInt d a b s).2.2 _ (holds_asideU hH hne) l1.2 hc (holds_one hS) (by omega)).mono ?_; rintro e w' ⟨rfl, n2, rfl⟩)
  go_wp2_with (go_at_call_of 49 (Value.int .i64 ((order2 ltInt d a b s).1 : Int)); refine (So_order2_u d _ rfl blk off cap (order2 ltInt d a b s).1 (order2 ltInt d (order2 ltInt d a b s).2.1 c (order2 ltInt d a b s).2.2).1 sb so (order2 ltInt d (order2 ltInt d a b s).2.1 c (order2 ltInt d a b s).2.2).2.2 _
    (holds_asideU (holds_asideU hH hne) hne) l1.1 l2.1 (holds_one (holds_one hS)) (by omega)).mono ?_; rintro e w' ⟨rfl, n3, rfl⟩)
  go_ret
  refine ⟨rfl, n1 + (n2 + n3), ?_⟩
  rw [one_one, one_one]
  rfl

set_option maxHeartbeats 1000000 in
set_option maxRecDepth 100000 in
theorem So_medianAdjacent_u (d : Array Int) (len : Nat) (hlen : d.size = len) (blk off cap a sb so s : Nat) (w : World) (hH : Holds (Value.int .u64) w blk off d) (ha0 : 1 ≤ a) (ha : a + 1 < d.size) (hsz : d.size < 2 ^ 62) (hne : sb ≠ blk)
    (hS : Holds (Value.int .i64) w sb so (one s)) (hs : s + 3 < 2 ^ 62) :
    Calls Try.prog 47 #[.slice (some ⟨blk, off, none⟩) len cap, .int .i64 a, .pointer (some ⟨sb, so, none⟩)] w fun e w' =>
      e = .returned (.int .i64 (medianAdjacent ltInt d a s).1) ∧ ∃ n, w' = putRow (Value.int .i64) (Sort.ahead w n) sb so (one (medianAdjacent ltInt d a s).2) := by
  subst hlen
  replace hsz : d.size < 4611686018427387904 := by omega
  go_enter Try.func47, Try.ntmps47
  go_wp2_with (go_at_call 48; rw [show ((a : Int) - 1) = ((a - 1 : Nat) : Int) by omega, show ((a : Int) + 1) = ((a + 1 : Nat) : Int) by omega]; refine (So_median_u d _ rfl blk off cap (a - 1) a (a + 1) sb so s w hH (by omega) (by omega) ha hne hS hs).mono ?_; rintro e w' ⟨rfl, n1, rfl⟩)
  go_ret
  exact ⟨rfl, n1, rfl⟩

theorem So_xorshift_Next (rb ro X : Nat) (hX : X < 18446744073709551616) (w : World) (hc : w.cell? ⟨rb, ro, none⟩ = some (.int .u64 X)) (hf : w.frozen? ⟨rb, ro, none⟩ = false) :
    Calls Try.prog 46 #[.pointer (some ⟨rb, ro, none⟩)] w fun e w' => e = .returned (.int .u64 (xorNextN X : Nat)) ∧ w' = (w.setCell ⟨rb, ro, none⟩ (.int .u64 (xorNextN X : Nat))).drewN 3 := by
  obtain ⟨A, hA⟩ : ∃ A : Nat, A = X ^^^ (X * 8192 % 18446744073709551616) := ⟨_, rfl⟩
  obtain ⟨B, hB⟩ : ∃ B : Nat, B = A ^^^ (A / 128) := ⟨_, rfl⟩
  obtain ⟨C, hC⟩ : ∃ C : Nat, C = B ^^^ (B * 131072 % 18446744073709551616) := ⟨_, rfl⟩
  have lA : A < 18446744073709551616 := by rw [hA]; exact Nat.xor_lt_two_pow (n := 64) (by omega) (by omega)
  have lB : B < 18446744073709551616 := by rw [hB]; exact Nat.xor_lt_two_pow (n := 64) (by omega) (by omega)
  have e1 : bits .xor .u64 (X : Int) (IntKind.u64.wrap ((X : Int) * 8192)) = (A : Int) := by
    rw [IntKind.wrap_u64, show ((X : Int) * 8192 % 18446744073709551616) = ((X * 8192 % 18446744073709551616 : Nat) : Int) by omega, bits_xor_u64_nat _ _ hX (by omega), hA]
  have e2 : bits .xor .u64 (A : Int) ((A : Int) / 128) = (B : Int) := by
    rw [show ((A : Int) / 128) = ((A / 128 : Nat) : Int) by omega, bits_xor_u64_nat _ _ lA (by omega), hB]
  have e3 : bits .xor .u64 (B : Int) (IntKind.u64.wrap ((B : Int) * 131072)) = (C : Int) := by
    rw [IntKind.wrap_u64, show ((B : Int) * 131072 % 18446744073709551616) = ((B * 131072 % 18446744073709551616 : Nat) : Int) by omega, bits_xor_u64_nat _ _ lB (by omega), hC]
  have hv : xorNextN X = C := by unfold xorNextN; simp only []; rw [← hA, ← hB, ← hC]
  rw [hv]
  clear hA hB hC hv
  have hss : ∀ v v', (w.setCell ⟨rb, ro, none⟩ v).setCell ⟨rb, ro, none⟩ v' = w.setCell ⟨rb, ro, none⟩ v' := setCell_setCell w rb ro
  go_enter Try.func46, Try.ntmps46
  go_wp2
  go_region
  all_goals go_wp2
  all_goals go_region
  all_goals go_wp2
  all_goals go_region
  all_goals go_wp2
  go_ret
  exact ⟨rfl, rfl⟩

theorem So_nextPowerOfTwo (n : Nat) (hn : n < 4611686018427387904) (w : World) :
    Calls Try.prog 45 #[.int .i64 n] w fun e w' => e = .returned (.int .u64 ((1 <<< bitsLen n : Nat) : Int)) ∧ w' = w := by
  have hLen : ∀ w, Calls Try.prog 30 #[.int .u64 (n : Int)] w fun e w' => e = .returned (.int .i64 (bitsLen n : Nat)) ∧ w' = w := fun w => by
    have h := So_bits_Len (n : Int) w (by omega) (by omega)
    rwa [Int.toNat_natCast, bitLen_eq _ (by omega)] at h
  have hk : bitsLen n ≤ 62 := (bitsLen_le_iff n 62).2 (by omega)
  have hp := wrap_two_pow (bitsLen n) hk
  go_enter Try.func45, Try.ntmps45
  go_wp2_with (first | (go_at_call 30; refine (hLen _).mono ?_; rintro e w' ⟨rfl, rfl⟩))
  go_ret
  exact ⟨rfl, rfl⟩

end Go.Proofs.Ytjannhphmemenaa
