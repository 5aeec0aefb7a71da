/- The walks of octets.Put and PutFloat. -/
import Derived.Test.YtadconkhilnkoaaProg
import Derived.Test.YtadconkhilnkoaaMem
import Derived.Test.YtadconkhilnkoaaFlt
namespace Go.Proofs.Ytadconkhilnkoaa
open Go.RowKit Go.Inc

theorem info_u8 : (Try.prog.info? 5).map (fun i => (i.zero, i.size, i.bytes)) = some (some (.int .u8 0), 1, 1) := by kernel_rfl
theorem size_u8 : (Try.prog.info? 5).map (·.size) = some 1 := by kernel_rfl

/-- Put: a new block with the bytes and the number's eight. -/
def PutPost (bs : List UInt8) (x : Nat) (w : World) (e : Ending) (w' : World) : Prop :=
  ∃ g, e = .returned (.slice (some ⟨g, 0, none⟩) (bs.length + 8) (bs.length + 8)) ∧ Blk w' g ((bs ++ be8 x).map bv) 5 ∧ w.heap.size ≤ g ∧ Fr w w'

set_option maxHeartbeats 1000000 in
theorem put_calls (A : Option Addr) (n c : Nat) (bs : List UInt8) (x : Nat) (w : World) (hx : x < 18446744073709551616) (hn : n = bs.length) (hb : bs.length ≤ 281474976710648) (h : RdC w A (bs.map bv)) :
    Calls Try.prog 10 #[.slice A n c, .int .u64 x] w (PutPost bs x w) := by
  subst hn
  have H := Lib.hid h; clear h
  have hmk := fun W => run_mk1 (P := Try.prog) 22 5 (.int .u8 0) 1 Try.underlying22 info_u8 rfl W ((bs.length : Int) + 8) (bs.length + 8) (by omega) (by omega) (by omega)
  have HX := Lib.hid hx; clear hx
  go_enter Try.func10, Try.ntmps10
  go_wp2
  obtain ⟨w1, hr, hblk, hgr, hsz⟩ := run_copy1 (P := Try.prog) 22 22 3 5 Try.underlying22 size_u8 (w.alloc (.cells (arr (List.replicate (bs.length + 8) (.int .u8 0))) 5)) w.heap.size (bs.length + 8) (bs.length + 8) A bs.length c (bs.map bv) _ (by simp) (by omega) (by simp) (Blk.new w _ _) (H.out.fr ((Fr.refl w).alloc _)) (by simp [bv, Value.oneCell'])
  have hfr : Fr w w1 := ((Fr.refl w).alloc _).grown hgr (by simp)
  have hb0 : Blk w1 w.heap.size (((bs ++ (be8 x).take 0).map bv) ++ List.replicate (8 - 0) (.int .u8 0)) 5 := by
    simpa [List.drop_replicate] using hblk
  clear hblk hgr hsz
  rw [hr]
  clear hr
  have HF := Lib.hid hfr; have HB := Lib.hid hb0
  clear hfr hb0
  go_wp2
  go_loopw [14] (fun i wr => ∃ k : Nat, k ≤ 8 ∧ i = .int .i64 k ∧ Hid (Blk wr w.heap.size (((bs ++ (be8 x).take k).map bv) ++ List.replicate (8 - k) (.int .u8 0)) 5) ∧ Hid (Fr w wr)) (fun i _ => 8 - (intOf i).toNat)
  case atStart => exact ⟨0, by omega, rfl, HB, HF⟩
  case round =>
    obtain ⟨k, hk, rfl, hb1, hf1⟩ := hrel
    by_cases hk8 : k < 8
    · have e2 := be8_u8 x (7 - k)
      rw [← pow_256] at e2
      have e3 := IntKind.wrap_u8 ((x / 2 ^ (8 * (7 - k)) : Nat) : Int)
      have e4 := hb1.out.frozen (bs.length + k)
      have e5 := hb1.out.cell (bs.length + k) (.int .u8 0) (get_rep _ _ _ _ (by simp [be8_length]; omega) (by simp [be8_length]; omega))
      have e6 : Value.int .u8 ((x : Int) / 2 ^ (56 - 8 * k) % 256) = bv (UInt8.ofNat (x / 2 ^ (8 * (7 - k)))) := by
        unfold bv
        rw [show ((UInt8.ofNat (x / 2 ^ (8 * (7 - k)))).toNat : Int) = (((UInt8.ofNat (x / 2 ^ (8 * (7 - k)))).toNat : Nat) : Int) from rfl, ← e2, show 8 * (7 - k) = 56 - 8 * k by omega]
        simp
      have e7 := hb1.out.set (bs.length + k) (bv (UInt8.ofNat (x / 2 ^ (8 * (7 - k)))))
      have e8 : (be8 x).take (k + 1) = (be8 x).take k ++ [UInt8.ofNat (x / 2 ^ (8 * (7 - k)))] := by
        rw [List.take_succ_eq_append_getElem (by rw [be8_length]; exact hk8)]
        have := be8_get x k hk8
        rw [List.getElem?_eq_getElem (by rw [be8_length]; exact hk8)] at this
        rw [Option.some.inj this, pow_256]
      rw [show 8 - k = (8 - (k + 1)) + 1 by omega, set_rep _ _ _ _ _ (by simp [be8_length]; omega)] at e7
      have E8 := Lib.hid e8
      have E7 := Lib.hid e7
      have E6 := Lib.hid e6
      clear e6 e7 e8 e2 e3
      go_wp2
      rw [E6.out]
      refine ⟨⟨k + 1, by omega, by go_num, ?_, Lib.hid (Fr.set hf1.out (Nat.le_refl _) _)⟩, by simp [intOf]; omega⟩
      refine Lib.hid ?_
      rw [E8.out]
      simpa using E7.out
    · obtain rfl : k = 8 := by omega
      go_wp2
      go_ret
      refine ⟨w.heap.size, rfl, ?_, Nat.le_refl _, hf1.out⟩
      have := hb1.out
      rw [List.take_of_length_le (by rw [be8_length]; omega)] at this
      simpa using this

theorem tobits_run (x : Nat) (w : World) : (callFunc 19 #[.float .f64 x]).run Try.prog w = .ok (.value (.int .u64 x)) w := by kernel_rfl
theorem frombits_run (n : Int) (w : World) : (callFunc 8 #[.int .u64 n]).run Try.prog w = .ok (.value (.float .f64 n.toNat)) w := by kernel_rfl

theorem putFloat_calls (A : Option Addr) (n c : Nat) (bs : List UInt8) (x : Nat) (w : World) (hx : x < 18446744073709551616) (hn : n = bs.length) (hb : bs.length ≤ 281474976710648) (h : RdC w A (bs.map bv)) :
    Calls Try.prog 11 #[.slice A n c, .float .f64 x] w (PutPost bs x w) := by
  have h1 := tobits_run
  have H := Lib.hid h; clear h
  have HX := Lib.hid hx; clear hx
  have HN := Lib.hid hn; clear hn
  go_enter Try.func11, Try.ntmps11
  go_wp2_with (go_at_call 10; refine (put_calls A n c bs x _ HX.out HN.out hb H.out).mono ?_; rintro e w' ⟨g, rfl, hq⟩)
  go_ret
  exact ⟨g, rfl, hq⟩

end Go.Proofs.Ytadconkhilnkoaa
