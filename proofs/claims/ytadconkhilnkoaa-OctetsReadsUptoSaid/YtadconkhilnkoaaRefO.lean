/- The walks of the reference of layer 10. -/
import Derived.Test.YtadconkhilnkoaaLaw10
namespace Go.Proofs.Ytadconkhilnkoaa
open Go.RowKit Go.Inc

/-- What the reference's Put answers: bytes of its own. -/
def RPutPost (bs : List UInt8) (x : Nat) (w : World) (e : Ending) (w' : World) : Prop :=
  ∃ A c, e = .returned (.slice A (bs.length + 8) c) ∧ Own w' w.heap.size 5 1 A (bs.length + 8) c ((bs ++ be8 x).map bv) ∧ Fr w w'

set_option maxHeartbeats 1000000 in
theorem rput_calls (A : Option Addr) (n c : Nat) (bs : List UInt8) (x : Nat) (w : World) (hn : n = bs.length) (hb : bs.length ≤ 140737488355320) (h : RdC w A (bs.map bv)) :
    Calls Try.prog 14 #[.slice A n c, .int .u64 x] w (RPutPost bs x w) := by
  subst hn
  have H := Lib.hid h; clear h
  go_enter Try.func14, Try.ntmps14
  go_wp2_with (at_builtin; refine gate ?_)
  refine gate_app rfl _ _ 22 rfl 5 (.int .u8 0) 1 1 Try.underlying22 info_u8 rfl (by omega) (by omega) w.heap.size (some ⟨w.heap.size, 0, none⟩) 0 0 [] A bs.length c (bs.map bv) rfl rfl
    (Own.of_blk (Blk.new w [] _) (Nat.le_refl _) rfl (by omega)) (by simp) (H.out.fr ((Fr.refl w).alloc _)) (bv_one bs) (by omega) (by simp) ?_
  intro A1 c1 w1 hown hgr hat
  simp only [Nat.zero_add, List.nil_append] at hown
  have hfr : Hid (Fr w w1) := ((Fr.refl w).alloc _).grown hgr.out (by simp [ablk])
  clear hgr hat
  go_wp2
  go_loopw [5, 6] (fun v i wr => ∃ (k : Nat) (A1 : Option Addr) (c1 : Nat), k ≤ 8 ∧ i = .int .i64 (7 - (k : Int)) ∧ v = .slice A1 (bs.length + k) c1 ∧ Hid (Own wr w.heap.size 5 1 A1 (bs.length + k) c1 ((bs ++ (be8 x).take k).map bv)) ∧ Hid (Fr w wr)) (fun _ i _ => (intOf i + 1).toNat)
  case atStart => exact ⟨0, A1, c1, by omega, rfl, rfl, by simpa using hown, hfr⟩
  case round =>
    obtain ⟨k, A1, c1, hk, rfl, rfl, hown, hfr⟩ := hrel
    by_cases hk8 : k < 8
    · have e2 := be8_u8 x (7 - k)
      rw [← pow_256] at e2
      have e6 : Value.int .u8 ((x : Int) / 2 ^ (8 * (7 - k)) % 256) = bv (UInt8.ofNat (x / 2 ^ (8 * (7 - k)))) := by
        unfold bv
        rw [show ((UInt8.ofNat (x / 2 ^ (8 * (7 - k)))).toNat : Int) = (((UInt8.ofNat (x / 2 ^ (8 * (7 - k)))).toNat : Nat) : Int) from rfl, ← e2]
        simp
      have e8 : (be8 x).take (k + 1) = (be8 x).take k ++ [UInt8.ofNat (x / 2 ^ (8 * (7 - k)))] := by
        rw [List.take_succ_eq_append_getElem (by rw [be8_length]; exact hk8)]
        have := be8_get x k hk8
        rw [List.getElem?_eq_getElem (by rw [be8_length]; exact hk8)] at this
        rw [Option.some.inj this, pow_256]
      have E8 := Lib.hid e8
      have E6 := Lib.hid e6
      clear e6 e8 e2
      go_wp2_with (at_builtin; refine gate ?_)
      rw [E6.out]
      refine gate_app rfl _ _ 22 rfl 5 (.int .u8 0) 1 1 Try.underlying22 info_u8 rfl (by omega) (by omega) w.heap.size A1 (bs.length + k) c1 _ (some ⟨wr.heap.size, 0, none⟩) 1 1 [bv (UInt8.ofNat (x / 2 ^ (8 * (7 - k))))] rfl rfl
        (hown.out.fr ((Fr.refl wr).alloc _)) rfl (RdC.blk (Blk.new wr _ _)) (bv_one [_]) (by omega) (by have := hfr.out.size; simp; omega) ?_
      intro A2 c2 w2 hown2 hgr hat
      have hfr2 : Hid (Fr w w2) := (hfr.out.alloc _).grown hgr.out (fun g hg => (hown.out.lt g hg).1)
      have hown3 : Hid (Own w2 w.heap.size 5 1 A2 (bs.length + (k + 1)) c2 ((bs ++ (be8 x).take (k + 1)).map bv)) := by
        refine Lib.hid ?_
        rw [E8.out]
        have := hown2.out
        simpa [Nat.add_assoc] using this
      clear hown2 hgr hat
      go_wp2
      refine ⟨⟨k + 1, A2, c2, by omega, ?_, rfl, hown3, hfr2⟩, by simp [intOf]; omega⟩
      go_num
    · obtain rfl : k = 8 := by omega
      go_wp2
      go_ret
      refine ⟨A1, c1, rfl, ?_, hfr.out⟩
      have := hown.out
      rwa [List.take_of_length_le (by rw [be8_length]; omega)] at this

theorem rputFloat_calls (A : Option Addr) (n c : Nat) (bs : List UInt8) (x : Nat) (w : World) (hn : n = bs.length) (hb : bs.length ≤ 140737488355320) (h : RdC w A (bs.map bv)) :
    Calls Try.prog 15 #[.slice A n c, .float .f64 x] w (RPutPost bs x w) := by
  have h1 := tobits_run
  have H := Lib.hid h; clear h
  have HN := Lib.hid hn; clear hn
  go_enter Try.func15, Try.ntmps15
  go_wp2_with (go_at_call 14; refine (rput_calls A n c bs x _ HN.out hb H.out).mono ?_; rintro e w' ⟨A1, c1, rfl, hq⟩)
  go_ret
  exact ⟨A1, c1, rfl, hq⟩

/-- Block g is the reference's reader of these bytes, so far read. -/
def IsRR (w : World) (B0 g : Nat) (b : ByteArray) (a : Nat) : Prop :=
  a ≤ b.size ∧ ∃ A c, Blk w g [.slice A (b.size - a) c] 66 ∧ b.size - a ≤ c ∧ RdC w A ((b.data.toList.drop a).map bv) ∧ ∀ k, ablk A = some k → B0 ≤ k ∧ k ≠ g
theorem IsRR.le {w : World} {B0 g : Nat} {b : ByteArray} {a : Nat} (h : IsRR w B0 g b a) : a ≤ b.size := h.1
theorem IsRR.grown {w w' : World} {B0 g : Nat} {b : ByteArray} {a : Nat} (h : IsRR w B0 g b a) (hf : Fr w w') : IsRR w' B0 g b a := by
  obtain ⟨h0, A, c, h1, h2, h3, h4⟩ := h
  exact ⟨h0, A, c, h1.fr hf, h2, h3.fr hf, h4⟩
theorem IsRR.lt {w : World} {B0 g : Nat} {b : ByteArray} {a : Nat} (h : IsRR w B0 g b a) : g < w.heap.size := by
  obtain ⟨h0, A, c, h1, _⟩ := h
  exact h1.lt

theorem rnew_calls (A : Option Addr) (n c : Nat) (bs : List UInt8) (w : World) (hn : n = bs.length) (hb : bs.length ≤ 140737488355320) (h : RdC w A (bs.map bv)) :
    Calls Try.prog 22 #[.slice A n c] w fun e w' => ∃ g, e = .returned (.pointer (some ⟨g, 0, none⟩)) ∧ IsRR w' w.heap.size g (bstr bs) 0 ∧ w.heap.size ≤ g ∧ Fr w w' := by
  subst hn
  have H := Lib.hid h; clear h
  go_enter Try.func22, Try.ntmps22
  go_wp2_with (at_builtin; refine gate ?_)
  refine gate_app rfl _ _ 22 rfl 5 (.int .u8 0) 1 1 Try.underlying22 info_u8 rfl (by omega) (by omega) w.heap.size (some ⟨w.heap.size, 0, none⟩) 0 0 [] A bs.length c (bs.map bv) rfl rfl
    (Own.of_blk (Blk.new w [] _) (Nat.le_refl _) rfl (by omega)) (by simp) (H.out.fr ((Fr.refl w).alloc _)) (bv_one bs) (by omega) (by simp) ?_
  intro A1 c1 w1 hown hgr hat
  simp only [Nat.zero_add, List.nil_append] at hown
  have hfr : Hid (Fr w w1) := ((Fr.refl w).alloc _).grown hgr.out (by simp [ablk])
  clear hgr hat
  go_wp2
  go_ret
  refine ⟨w1.heap.size, rfl, ⟨by simp, A1, c1, ?_, ?_, ?_, ?_⟩, hfr.out.size, hfr.out.alloc _⟩
  · rw [bstr_size]
    exact Blk.new w1 [.slice A1 bs.length c1] _
  · rw [bstr_size]
    rcases hown.out.2 with ⟨h1, h2⟩ | ⟨g, cap, cur, h1, _, _, h2, _⟩
    · omega
    · injection h1 with _ _ h1; omega
  · rw [bstr_data]
    exact hown.out.rd.fr ((Fr.refl w1).alloc _)
  · intro k hk
    have := hown.out.lt _ hk
    exact ⟨this.1, by omega⟩

theorem rleft_calls (B0 g : Nat) (b : ByteArray) (a : Nat) (w : World) (h : IsRR w B0 g b a) :
    Calls Try.prog 31 #[.pointer (some ⟨g, 0, none⟩)] w fun e w' => e = .returned (.int .i64 (b.size - a)) ∧ w = w' := by
  obtain ⟨h0, A, c, h1, _⟩ := h
  have hc := h1.cell 0 _ rfl
  clear h1
  have hs : ((b.size - a : Nat) : Int) = (b.size : Int) - a := by omega
  go_enter Try.func31, Try.ntmps31
  go_wp2
  go_ret
  exact ⟨rfl, rfl⟩

/-- Another block was written. -/
theorem IsRR.other {w w' : World} {B0 g : Nat} {b : ByteArray} {a : Nat} (h : IsRR w B0 g b a) {g' : Nat} (hg : w.grownBy w' (some g')) (hne : g' ≠ g) (hlt : g' < B0) : IsRR w' B0 g b a := by
  obtain ⟨h0, A, c, h1, h2, h3, h4⟩ := h
  refine ⟨h0, A, c, h1.grown hg (by intro e; injection e with e; exact hne e.symm), h2, h3.grown hg ?_, h4⟩
  intro hk
  have := (h4 _ hk).1
  omega

/-- 'r.B = r.B[l:]'. -/
theorem IsRR.cut {w : World} {B0 g : Nat} {b : ByteArray} {a : Nat} (h : IsRR w B0 g b a) (l : Nat) (i : Int) (hi : i = l) (hl : a + l ≤ b.size) :
    ∃ A c A', w.cell? ⟨g, 0, none⟩ = some (.slice A (b.size - a) c) ∧ w.frozen? ⟨g, 0, none⟩ = false ∧ (∀ W, (Instr.slice 22 (.slice A (b.size - a) c) (some (.int .i64 i)) none none).run Try.prog W = .ok (.slice A' (b.size - a - l) (c - l)) W) ∧
      IsRR (w.setCell ⟨g, 0, none⟩ (.slice A' (b.size - a - l) (c - l))) B0 g b (a + l) ∧ RdC w A ((b.data.toList.drop a).map bv) := by
  obtain ⟨h0, A, c, h1, h2, h3, h4⟩ := h
  obtain ⟨A', hrun, hA, hrd⟩ := run_cut_l (P := Try.prog) 22 5 1 Try.underlying22 size_u8 A (b.size - a) c l i hi (by omega) h2 .i64
  refine ⟨A, c, A', h1.cell 0 _ rfl, h1.frozen 0, hrun, ⟨hl, A', c - l, ?_, by omega, ?_, ?_⟩, h3⟩
  · have := h1.set 0 (.slice A' (b.size - a - l) (c - l))
    rwa [show b.size - (a + l) = b.size - a - l by omega]
  · have := hrd w _ (by simp) h3
    rw [Nat.mul_one, ← List.map_drop, List.drop_drop] at this
    refine RdC.far this ?_ _
    rw [← ablk, hA]
    intro hk
    exact (h4 _ hk).2 rfl
  · rw [hA]; exact h4

set_option maxHeartbeats 400000 in
theorem peek_calls (B0 g : Nat) (b : ByteArray) (a : Nat) (w : World) (h : IsRR w B0 g b a) :
    Calls Try.prog 38 #[.pointer (some ⟨g, 0, none⟩)] w fun e w' => e = .returned (.tuple #[.int .u64 (pk8 b a).1, .int .i64 (pk8 b a).2]) ∧ w = w' := by
  obtain ⟨h0, A, c, h1, h2, h3, _⟩ := h
  have hc := h1.cell 0 _ rfl
  clear h1
  by_cases hlt : b.size < a + 8
  · have hp : pk8 b a = (0, 100) := by simp [pk8, hlt]
    have HP := Lib.hid hp; clear hp
    have hs : ((b.size - a : Nat) : Int) < 8 := by omega
    go_enter Try.func38, Try.ntmps38
    go_wp2
    go_ret2
    rw [HP.out]
    exact ⟨rfl, rfl⟩
  · have hp : pk8 b a = (be b a 8, 0) := by simp [pk8, hlt]
    have HP := Lib.hid hp; clear hp
    have hs : ¬ ((b.size - a : Nat) : Int) < 8 := by omega
    obtain ⟨bk, off, rfl, hcell⟩ := h3.at (by simp; omega)
    have HC := Lib.hid hcell; clear hcell h3
    go_enter Try.func38, Try.ntmps38
    go_wp2
    go_loop [4, 5] (fun v i => ∃ k : Nat, k ≤ 8 ∧ i = .int .i64 k ∧ v = .int .u64 (be b a k)) (fun _ i => 8 - (intOf i).toNat)
    case atStart => exact ⟨0, by omega, rfl, rfl⟩
    case round =>
      obtain ⟨k, hk, rfl, rfl⟩ := hrel
      by_cases hk8 : k < 8
      · have hx := HC.out k (.int .u8 (bt b (a + k) : Nat)) (bv_at b a k (by omega))
        have hi1 : (k : Int) < ((b.size - a : Nat) : Int) := by omega
        have hlt7 := be_lt b a k
        have hp : 256 ^ k ≤ 256 ^ 7 := Nat.pow_le_pow_right (by omega) (by omega)
        have e5 : IntKind.u64.wrap ((be b a k : Int) * 256) = (be b a k : Int) * 256 := wrap_u64_in _ (by omega) (by omega)
        have e6 := or_byte (be b a k) (bt b (a + k)) (by omega) (bt_lt _ _)
        have e7 := bt_wrap b (a + k)
        clear hlt7 hp
        go_wp2
        refine ⟨⟨k + 1, by omega, by go_num, ?_⟩, by simp [intOf]; omega⟩
        simp only [be]; go_num
      · obtain rfl : k = 8 := by omega
        go_wp2
        go_ret2
        rw [HP.out]
        exact ⟨rfl, rfl⟩

/-- What a call of the reference's reader that reads eight bytes does. -/
def RRPost (B0 g : Nat) (b : ByteArray) (a : Nat) (may : Nat → Bool) (val : Nat → Value) (w : World) (e : Ending) (w' : World) : Prop :=
  e = .returned (.tuple #[val (rd8 b a may).1, .int .i64 (rd8 b a may).2.1]) ∧ IsRR w' B0 g b (rd8 b a may).2.2 ∧ w.grownBy w' (some g)

set_option maxHeartbeats 400000 in
theorem rnumber_calls (B0 g : Nat) (b : ByteArray) (a : Nat) (w : World) (h : IsRR w B0 g b a) :
    Calls Try.prog 24 #[.pointer (some ⟨g, 0, none⟩)] w (RRPost B0 g b a (fun _ => true) (fun n => .int .u64 n) w) := by
  have H := Lib.hid h; clear h
  by_cases hlt : b.size < a + 8
  · have hp : rd8 b a (fun _ => true) = (0, 100, a) := by simp [rd8, hlt]
    have hk : pk8 b a = (0, 100) := by simp [pk8, hlt]
    have HP := Lib.hid hp; clear hp
    have hpk := fun W hr => peek_calls B0 g b a W hr
    rw [hk] at hpk
    have HK := Lib.hid hpk; clear hpk hk
    go_enter Try.func24, Try.ntmps24
    go_wp2_with (go_at_call 38; refine (HK.out _ H.out).mono ?_; rintro e w' ⟨rfl, rfl⟩)
    go_ret2
    unfold RRPost
    rw [HP.out]
    exact ⟨rfl, H.out, World.grownBy.refl _ _⟩
  · have hp : rd8 b a (fun _ => true) = (be b a 8, 0, a + 8) := by simp [rd8, hlt]
    have hk : pk8 b a = (be b a 8, 0) := by simp [pk8, hlt]
    have HP := Lib.hid hp; clear hp
    have hpk := fun W hr => peek_calls B0 g b a W hr
    rw [hk] at hpk
    have HK := Lib.hid hpk; clear hpk hk
    obtain ⟨A, c, A', hc, hf, hrun, hR, _⟩ := H.out.cut 8 8 rfl (by omega)
    have HR := Lib.hid hR; clear hR
    go_enter Try.func24, Try.ntmps24
    go_wp2_with (go_at_call 38; refine (HK.out _ H.out).mono ?_; rintro e w' ⟨rfl, rfl⟩)
    go_ret2
    unfold RRPost
    rw [HP.out]
    exact ⟨rfl, HR.out, grownBy_set _ _ _ _⟩

set_option maxHeartbeats 1000000 in
theorem rcount_calls (B0 g : Nat) (b : ByteArray) (a : Nat) (most : Int) (hm : -9223372036854775808 ≤ most ∧ most ≤ 9223372036854775807) (w : World) (h : IsRR w B0 g b a) :
    Calls Try.prog 25 #[.pointer (some ⟨g, 0, none⟩), .int .i64 most] w (RRPost B0 g b a (mayCount most) (fun n => .int .i64 n) w) := by
  have H := Lib.hid h; clear h
  by_cases hlt : b.size < a + 8
  · have hp : rd8 b a (mayCount most) = (0, 100, a) := by simp [rd8, hlt]
    have hk : pk8 b a = (0, 100) := by simp [pk8, hlt]
    have HP := Lib.hid hp; clear hp
    have hpk := fun W hr => peek_calls B0 g b a W hr
    rw [hk] at hpk
    have HK := Lib.hid hpk; clear hpk hk
    go_enter Try.func25, Try.ntmps25
    go_wp2_with (go_at_call 38; refine (HK.out _ H.out).mono ?_; rintro e w' ⟨rfl, rfl⟩)
    go_ret2
    unfold RRPost
    rw [HP.out]
    exact ⟨rfl, H.out, World.grownBy.refl _ _⟩
  · have hk : pk8 b a = (be b a 8, 0) := by simp [pk8, hlt]
    have hpk := fun W hr => peek_calls B0 g b a W hr
    rw [hk] at hpk
    have HK := Lib.hid hpk; clear hpk hk
    have hb8 := be_lt b a 8
    by_cases h0 : most < 0
    · have hp : rd8 b a (mayCount most) = (0, 101, a) := by
        have : ¬ (0 ≤ most) := by omega
        simp [rd8, hlt, mayCount, this]
      have HP := Lib.hid hp; clear hp
      have hd : decide (most < 0) = true := decide_eq_true h0
      go_enter Try.func25, Try.ntmps25
      go_wp2_with (go_at_call 38; refine (HK.out _ H.out).mono ?_; rintro e w' ⟨rfl, rfl⟩)
      go_ret2
      unfold RRPost
      rw [HP.out]
      exact ⟨rfl, H.out, World.grownBy.refl _ _⟩
    · have hd : decide (most < 0) = false := decide_eq_false h0
      have e1 : IntKind.u64.wrap most = most := wrap_u64_in _ (by omega) (by omega)
      by_cases h1 : (be b a 8 : Int) > most
      · have hp : rd8 b a (mayCount most) = (0, 101, a) := by
          have : ¬ ((be b a 8 : Int) ≤ most) := by omega
          simp [rd8, hlt, mayCount, this]
        have HP := Lib.hid hp; clear hp
        have hd2 : decide (most < (be b a 8 : Int)) = true := decide_eq_true h1
        go_enter Try.func25, Try.ntmps25
        go_wp2_with (go_at_call 38; refine (HK.out _ H.out).mono ?_; rintro e w' ⟨rfl, rfl⟩)
        go_ret2
        unfold RRPost
        rw [HP.out]
        exact ⟨rfl, H.out, World.grownBy.refl _ _⟩
      · have hp : rd8 b a (mayCount most) = (be b a 8, 0, a + 8) := by
          have h2 : ((be b a 8 : Int) ≤ most) := by omega
          have h3 : 0 ≤ most := by omega
          simp [rd8, hlt, mayCount, h2, h3]
        have HP := Lib.hid hp; clear hp
        have hd2 : decide (most < (be b a 8 : Int)) = false := decide_eq_false h1
        have e2 : IntKind.i64.wrap (be b a 8 : Int) = (be b a 8 : Int) := wrap_i64_in _ (by omega) (by omega)
        obtain ⟨A, c, A', hc, hf, hrun, hR, _⟩ := H.out.cut 8 8 rfl (by omega)
        have HR := Lib.hid hR; clear hR
        go_enter Try.func25, Try.ntmps25
        go_wp2_with (go_at_call 38; refine (HK.out _ H.out).mono ?_; rintro e w' ⟨rfl, rfl⟩)
        go_ret2
        unfold RRPost
        rw [HP.out]
        exact ⟨rfl, HR.out, grownBy_set _ _ _ _⟩

set_option maxHeartbeats 1000000 in
theorem rfloat_calls (B0 g : Nat) (b : ByteArray) (a : Nat) (w : World) (h : IsRR w B0 g b a) :
    Calls Try.prog 26 #[.pointer (some ⟨g, 0, none⟩)] w (RRPost B0 g b a fin (fun n => .float .f64 n) w) := by
  have H := Lib.hid h; clear h
  have hfb := frombits_run
  by_cases hlt : b.size < a + 8
  · have hp : rd8 b a fin = (0, 100, a) := by simp [rd8, hlt]
    have hk : pk8 b a = (0, 100) := by simp [pk8, hlt]
    have HP := Lib.hid hp; clear hp
    have hpk := fun W hr => peek_calls B0 g b a W hr
    rw [hk] at hpk
    have HK := Lib.hid hpk; clear hpk hk
    go_enter Try.func26, Try.ntmps26
    go_wp2_with (go_at_call 38; refine (HK.out _ H.out).mono ?_; rintro e w' ⟨rfl, rfl⟩)
    go_ret2
    unfold RRPost
    rw [HP.out]
    exact ⟨rfl, H.out, World.grownBy.refl _ _⟩
  · have hk : pk8 b a = (be b a 8, 0) := by simp [pk8, hlt]
    have hpk := fun W hr => peek_calls B0 g b a W hr
    rw [hk] at hpk
    have HK := Lib.hid hpk; clear hpk hk
    have hb8 := be_lt b a 8
    have hand := and_2047 (be b a 8) (by omega)
    have hfin := fin_exp (be b a 8)
    by_cases h1 : be b a 8 / 4503599627370496 % 2048 = 2047
    · have hp : rd8 b a fin = (0, 101, a) := by simp [rd8, hlt, hfin, h1]
      have HP := Lib.hid hp; clear hp hfin
      have hd2 : ((be b a 8 : Int) / 4503599627370496 % 2048 == 2047) = true := beq_iff_eq.2 (by omega)
      have H1 := Lib.hid h1; clear h1
      go_enter Try.func26, Try.ntmps26
      go_wp2_with (go_at_call 38; refine (HK.out _ H.out).mono ?_; rintro e w' ⟨rfl, rfl⟩)
      go_ret2
      unfold RRPost
      rw [HP.out]
      exact ⟨rfl, H.out, World.grownBy.refl _ _⟩
    · have hp : rd8 b a fin = (be b a 8, 0, a + 8) := by simp [rd8, hlt, hfin, h1]
      have HP := Lib.hid hp; clear hp hfin
      have hd2 : ((be b a 8 : Int) / 4503599627370496 % 2048 == 2047) = false := beq_eq_false_iff_ne.2 (by omega)
      have H1 := Lib.hid h1; clear h1
      obtain ⟨A, c, A', hc, hf, hrun, hR, _⟩ := H.out.cut 8 8 rfl (by omega)
      have HR := Lib.hid hR; clear hR
      go_enter Try.func26, Try.ntmps26
      go_wp2_with (go_at_call 38; refine (HK.out _ H.out).mono ?_; rintro e w' ⟨rfl, rfl⟩)
      go_ret2
      unfold RRPost
      rw [HP.out]
      exact ⟨rfl, HR.out, grownBy_set _ _ _ _⟩

set_option maxHeartbeats 1000000 in
theorem rbyte_calls (B0 g : Nat) (b : ByteArray) (a most : Nat) (w : World) (h : IsRR w B0 g b a) :
    Calls Try.prog 28 #[.pointer (some ⟨g, 0, none⟩), .int .u8 most] w fun e w' =>
      e = .returned (.tuple #[.int .u8 (rd1 b a most).1, .int .i64 (rd1 b a most).2.1]) ∧ IsRR w' B0 g b (rd1 b a most).2.2 ∧ w.grownBy w' (some g) := by
  have H := Lib.hid h; clear h
  have hle := H.out.le
  by_cases hlt : b.size = a
  · have hp : rd1 b a most = (0, 100, a) := by simp [rd1, hlt]
    have HP := Lib.hid hp; clear hp
    obtain ⟨A, c, A', hc, _⟩ := H.out.cut 0 0 rfl (by omega)
    have hd : (((b.size - a : Nat) : Int) == 0) = true := beq_iff_eq.2 (by omega)
    have HL := Lib.hid hlt; clear hlt
    go_enter Try.func28, Try.ntmps28
    go_wp2
    go_ret2
    rw [HP.out]
    exact ⟨rfl, H.out, World.grownBy.refl _ _⟩
  · have hd : (((b.size - a : Nat) : Int) == 0) = false := beq_eq_false_iff_ne.2 (by omega)
    obtain ⟨A, c, A', hc, hf, hrun, hR, hrd⟩ := H.out.cut 1 1 rfl (by omega)
    have HR := Lib.hid hR; clear hR
    obtain ⟨bk, off, rfl, hcell⟩ := hrd.at (by simp; omega)
    have hx := hcell 0 _ (bv_at b a 0 (by omega))
    simp only [Nat.add_zero] at hx
    have hi1 : (0 : Int) < ((b.size - a : Nat) : Int) := by omega
    have hi2 : 0 < b.size - a := by omega
    clear hcell hrd
    by_cases hgt : bt b a > most
    · have hp : rd1 b a most = (0, 101, a) := by simp [rd1, hlt, hgt]
      have HP := Lib.hid hp; clear hp
      have hd2 : decide ((most : Int) < (bt b a : Int)) = true := decide_eq_true (by omega)
      have hd3 : decide (most < bt b a) = true := decide_eq_true hgt
      have HG := Lib.hid hgt; clear hgt hlt
      go_enter Try.func28, Try.ntmps28
      go_wp2
      go_ret2
      rw [HP.out]
      exact ⟨rfl, H.out, World.grownBy.refl _ _⟩
    · have hp : rd1 b a most = (bt b a, 0, a + 1) := by simp [rd1, hlt, hgt]
      have HP := Lib.hid hp; clear hp
      have hd2 : decide ((most : Int) < (bt b a : Int)) = false := decide_eq_false (by omega)
      have hd3 : decide (most < bt b a) = false := decide_eq_false hgt
      have HG := Lib.hid hgt; clear hgt hlt
      go_enter Try.func28, Try.ntmps28
      go_wp2
      go_ret2
      rw [HP.out]
      exact ⟨rfl, HR.out, grownBy_set _ _ _ _⟩

set_option maxHeartbeats 1000000 in
theorem rword_calls (B0 g : Nat) (b : ByteArray) (a : Nat) (wd : List UInt8) (w : World) (h : IsRR w B0 g b a) (hb : b.size ≤ maxLen) :
    Calls Try.prog 30 #[.pointer (some ⟨g, 0, none⟩), .string (bstr wd)] w fun e w' =>
      e = .returned (.int .i64 (rdW b a wd).1) ∧ IsRR w' B0 g b (rdW b a wd).2 ∧ w.grownBy w' (some g) := by
  have H := Lib.hid h; clear h
  have hle := H.out.le
  have hsz := bstr_size wd
  unfold maxLen at hb
  by_cases hlt : b.size - a < wd.length
  · have hp : rdW b a wd = (100, a) := by simp [rdW, hlt]
    have HP := Lib.hid hp; clear hp
    obtain ⟨A, c, A', hc, _⟩ := H.out.cut 0 0 rfl (by omega)
    have hd : decide (((b.size - a : Nat) : Int) < (wd.length : Int)) = true := decide_eq_true (by omega)
    have hd2 : decide ((b.size - a : Nat) < wd.length) = true := decide_eq_true (by omega)
    go_enter Try.func30, Try.ntmps30
    go_wp2
    go_ret
    rw [HP.out]
    exact ⟨rfl, H.out, World.grownBy.refl _ _⟩
  · have hd : decide (((b.size - a : Nat) : Int) < (wd.length : Int)) = false := decide_eq_false (by omega)
    have hd2 : decide ((b.size - a : Nat) < wd.length) = false := decide_eq_false (by omega)
    obtain ⟨A, c, A', hc, hf, hrun, hR, hrd⟩ := H.out.cut wd.length (wd.length : Int) rfl (by omega)
    have HR := Lib.hid hR; clear hR
    have HRD := Lib.hid hrd; clear hrd
    go_enter Try.func30, Try.ntmps30
    go_wp2
    go_loopw [5] (fun i wr => ∃ k m : Nat, k ≤ wd.length ∧ i = .int .i64 k ∧ wr = w.drewN m ∧ Hid ((b.data.toList.drop a).take k = wd.take k)) (fun i _ => wd.length - (intOf i).toNat)
    case atStart => exact ⟨0, 0, by omega, rfl, rfl, Lib.hid (by simp)⟩
    case round =>
      obtain ⟨k, m, hk, rfl, rfl, HM⟩ := hrel
      by_cases hk8 : k < wd.length
      · obtain ⟨bk, off, hA, hcell⟩ := HRD.out.at (by simp; omega)
        have hx := hcell k _ (bv_at b a k (by omega))
        have hix := fun W => run_idx_str (P := Try.prog) 9 Try.underlying9 (bstr wd) .i64 (k : Int) k rfl (by rw [hsz]; exact hk8) W
        have hi1 : (k : Int) < ((b.size - a : Nat) : Int) := by omega
        have hi2 : k < b.size - a := by omega
        clear hcell
        subst hA
        by_cases he : bt b (a + k) = bt (bstr wd) k
        · have HN := Lib.hid (word_step hk8 (by omega) HM.out he)
          have hne : (((bt b (a + k) : Nat) : Int) != ((bt (bstr wd) k : Nat) : Int)) = false := by rw [he]; simp
          have HE := Lib.hid he; clear he
          go_wp2
          go_quiet (fail)
          go_wp2
          exact ⟨⟨k + 1, m + nq, by omega, by go_num, rfl, HN⟩, by simp [intOf]; omega⟩
        · have HN := Lib.hid (word_no hk8 (by omega) he)
          have hne : (((bt b (a + k) : Nat) : Int) != ((bt (bstr wd) k : Nat) : Int)) = true := by rw [bne_iff_ne]; omega
          have HE := Lib.hid he; clear he
          have hp : rdW b a wd = (101, a) := by simp [rdW, hlt, HN.out]
          have HP := Lib.hid hp; clear hp
          go_wp2
          go_quiet (fail)
          go_wp2
          go_ret
          rw [HP.out]
          exact ⟨rfl, (H.out.grown ((fr_drewN _ _).drewN _)), (grownBy_drewN _ _ _).trans (grownBy_drewN _ _ _)⟩
      · obtain rfl : k = wd.length := by omega
        have hp : rdW b a wd = (0, a + wd.length) := by simp [rdW, hlt, word_yes HM.out]
        have HP := Lib.hid hp; clear hp
        go_wp2
        go_ret
        rw [HP.out]
        exact ⟨rfl, HR.out.grown (fr_drewN _ m), (grownBy_set w g 0 _).trans (grownBy_drewN _ m _)⟩

end Go.Proofs.Ytadconkhilnkoaa
