/- Parts of this proof, one behind the other: RefP, RgC, RgD, RgE. -/
import Derived.Test.YthjimnmgbcckjaaGreatQK
import Derived.Test.YthjimnmgbcckjaaGreatQA
import Derived.Test.YthjimnmgbcckjaaGreatQL
import Derived.Test.YthjimnmgbcckjaaGreatQP
namespace Go.Proofs.YthjimnmgbcckjaaGreat
set_option maxRecDepth 100000
open Go.RowKit Go.Inc

/-- What the reference's Put answers: bytes of its own. -/
def RPutPost (bs : List UInt8) (x : Nat) (w : World) (e : Ending) (w' : World) : Prop :=
  ∃ A c, e = .returned (.slice A (bs.length + 8) c) ∧ Own w' w.heap.size 5 1 A (bs.length + 8) c ((bs ++ be8 x).map bv) ∧ Fr w w'

set_option maxHeartbeats 1000000 in
theorem rput_calls (A : Option Addr) (n c : Nat) (bs : List UInt8) (x : Nat) (w : World) (hn : n = bs.length) (hb : bs.length ≤ 140737488355320) (h : RdC w A (bs.map bv)) :
    Calls Tryz.prog 33 #[.slice A n c, .int .u64 x] w (RPutPost bs x w) := by
  subst hn
  have H := Lib.hid h; clear h
  go_enter Tryz.func33, Tryz.ntmps33
  go_wp2_with (at_builtin; refine gate ?_)
  refine gate_app rfl _ _ 31 rfl 5 (.int .u8 0) 1 1 Tryz.underlying31 info_u8 rfl (by omega) (by omega) w.heap.size (some ⟨w.heap.size, 0, none⟩) 0 0 [] A bs.length c (bs.map bv) rfl rfl
    (Own.of_blk (Blk.new w [] _) (Nat.le_refl _) rfl (by omega)) (by simp) (H.out.fr ((Fr.refl w).alloc _)) (bv_one bs) (by omega) (by simp) ?_
  intro A1 c1 w1 hown hgr hat
  simp only [Nat.zero_add, List.nil_append] at hown
  have hfr : Hid (Fr w w1) := ((Fr.refl w).alloc _).grown hgr.out (by simp [ablk])
  clear hgr hat
  go_wp2
  go_loopw [5, 6] (fun v i wr => ∃ (k : Nat) (A1 : Option Addr) (c1 : Nat), k ≤ 8 ∧ i = .int .i64 (7 - (k : Int)) ∧ v = .slice A1 (bs.length + k) c1 ∧ Hid (Own wr w.heap.size 5 1 A1 (bs.length + k) c1 ((bs ++ (be8 x).take k).map bv)) ∧ Hid (Fr w wr)) (fun _ i _ => (intOf i + 1).toNat)
  case atStart => exact ⟨0, A1, c1, by omega, rfl, rfl, by simpa using hown, hfr⟩
  case round =>
    obtain ⟨k, A1, c1, hk, rfl, rfl, hown, hfr⟩ := hrel
    by_cases hk8 : k < 8
    · have e2 := be8_u8 x (7 - k)
      rw [← pow_256] at e2
      have e6 : Value.int .u8 ((x : Int) / 2 ^ (8 * (7 - k)) % 256) = bv (UInt8.ofNat (x / 2 ^ (8 * (7 - k)))) := by
        unfold bv
        rw [show ((UInt8.ofNat (x / 2 ^ (8 * (7 - k)))).toNat : Int) = (((UInt8.ofNat (x / 2 ^ (8 * (7 - k)))).toNat : Nat) : Int) from rfl, ← e2]
        simp
      have e8 : (be8 x).take (k + 1) = (be8 x).take k ++ [UInt8.ofNat (x / 2 ^ (8 * (7 - k)))] := by
        rw [List.take_succ_eq_append_getElem (by rw [be8_length]; exact hk8)]
        have := be8_get x k hk8
        rw [List.getElem?_eq_getElem (by rw [be8_length]; exact hk8)] at this
        rw [Option.some.inj this, pow_256]
      have E8 := Lib.hid e8
      have E6 := Lib.hid e6
      clear e6 e8 e2
      go_wp2_with (at_builtin; refine gate ?_)
      rw [E6.out]
      refine gate_app rfl _ _ 31 rfl 5 (.int .u8 0) 1 1 Tryz.underlying31 info_u8 rfl (by omega) (by omega) w.heap.size A1 (bs.length + k) c1 _ (some ⟨wr.heap.size, 0, none⟩) 1 1 [bv (UInt8.ofNat (x / 2 ^ (8 * (7 - k))))] rfl rfl
        (hown.out.fr ((Fr.refl wr).alloc _)) rfl (RdC.blk (Blk.new wr _ _)) (bv_one [_]) (by omega) (by have := hfr.out.size; simp; omega) ?_
      intro A2 c2 w2 hown2 hgr hat
      have hfr2 : Hid (Fr w w2) := (hfr.out.alloc _).grown hgr.out (fun g hg => (hown.out.lt g hg).1)
      have hown3 : Hid (Own w2 w.heap.size 5 1 A2 (bs.length + (k + 1)) c2 ((bs ++ (be8 x).take (k + 1)).map bv)) := by
        refine Lib.hid ?_
        rw [E8.out]
        have := hown2.out
        simpa [Nat.add_assoc] using this
      clear hown2 hgr hat
      go_wp2
      refine ⟨⟨k + 1, A2, c2, by omega, ?_, rfl, hown3, hfr2⟩, by simp [intOf]; omega⟩
      go_num
    · obtain rfl : k = 8 := by omega
      go_wp2
      go_ret
      refine ⟨A1, c1, rfl, ?_, hfr.out⟩
      have := hown.out
      rwa [List.take_of_length_le (by rw [be8_length]; omega)] at this

/-- Block g is the reference's reader of these bytes, so far read. -/
def IsRP (w : World) (B0 : Nat → Prop) (g : Nat) (b : ByteArray) (a : Nat) : Prop :=
  a ≤ b.size ∧ ∃ A c, Blk w g [.slice A (b.size - a) c] 138 ∧ b.size - a ≤ c ∧ RdC w A ((b.data.toList.drop a).map bv) ∧ ∀ k, ablk A = some k → B0 k ∧ k ≠ g
theorem IsRP.le {w : World} {B0 : Nat → Prop} {g : Nat} {b : ByteArray} {a : Nat} (h : IsRP w B0 g b a) : a ≤ b.size := h.1
theorem IsRP.grown {w w' : World} {B0 : Nat → Prop} {g : Nat} {b : ByteArray} {a : Nat} (h : IsRP w B0 g b a) (hf : Fr w w') : IsRP w' B0 g b a := by
  obtain ⟨h0, A, c, h1, h2, h3, h4⟩ := h
  exact ⟨h0, A, c, h1.fr hf, h2, h3.fr hf, h4⟩
theorem IsRP.lt {w : World} {B0 : Nat → Prop} {g : Nat} {b : ByteArray} {a : Nat} (h : IsRP w B0 g b a) : g < w.heap.size := by
  obtain ⟨h0, A, c, h1, _⟩ := h
  exact h1.lt

theorem oRNewP_calls (A : Option Addr) (n c : Nat) (bs : List UInt8) (w : World) (hn : n = bs.length) (hb : bs.length ≤ 140737488355320) (h : RdC w A (bs.map bv)) :
    Calls Tryz.prog 49 #[.slice A n c] w fun e w' => ∃ g, e = .returned (.pointer (some ⟨g, 0, none⟩)) ∧ IsRP w' (fun k => w.heap.size ≤ k ∧ k < g) g (bstr bs) 0 ∧ w.heap.size ≤ g ∧ Fr w w' := by
  subst hn
  have H := Lib.hid h; clear h
  go_enter Tryz.func49, Tryz.ntmps49
  go_wp2_with (at_builtin; refine gate ?_)
  refine gate_app rfl _ _ 31 rfl 5 (.int .u8 0) 1 1 Tryz.underlying31 info_u8 rfl (by omega) (by omega) w.heap.size (some ⟨w.heap.size, 0, none⟩) 0 0 [] A bs.length c (bs.map bv) rfl rfl
    (Own.of_blk (Blk.new w [] _) (Nat.le_refl _) rfl (by omega)) (by simp) (H.out.fr ((Fr.refl w).alloc _)) (bv_one bs) (by omega) (by simp) ?_
  intro A1 c1 w1 hown hgr hat
  simp only [Nat.zero_add, List.nil_append] at hown
  have hfr : Hid (Fr w w1) := ((Fr.refl w).alloc _).grown hgr.out (by simp [ablk])
  clear hgr hat
  go_wp2
  go_ret
  refine ⟨w1.heap.size, rfl, ⟨by simp, A1, c1, ?_, ?_, ?_, ?_⟩, hfr.out.size, hfr.out.alloc _⟩
  · rw [bstr_size]
    exact Blk.new w1 [.slice A1 bs.length c1] _
  · rw [bstr_size]
    rcases hown.out.2 with ⟨h1, h2⟩ | ⟨g, cap, cur, h1, _, _, h2, _⟩
    · omega
    · injection h1 with _ _ h1; omega
  · rw [bstr_data]
    exact hown.out.rd.fr ((Fr.refl w1).alloc _)
  · intro k hk
    have := hown.out.lt _ hk
    exact ⟨⟨this.1, this.2⟩, by omega⟩

theorem rleftP_calls (B0 : Nat → Prop) (g : Nat) (b : ByteArray) (a : Nat) (w : World) (h : IsRP w B0 g b a) :
    Calls Tryz.prog 54 #[.pointer (some ⟨g, 0, none⟩)] w fun e w' => e = .returned (.int .i64 (b.size - a)) ∧ w = w' := by
  obtain ⟨h0, A, c, h1, _⟩ := h
  have hc := h1.cell 0 _ rfl
  clear h1
  have hs : ((b.size - a : Nat) : Int) = (b.size : Int) - a := by omega
  go_enter Tryz.func54, Tryz.ntmps54
  go_wp2
  go_ret
  exact ⟨rfl, rfl⟩

/-- Another block was written. -/
theorem IsRP.other {w w' : World} {B0 : Nat → Prop} {g : Nat} {b : ByteArray} {a : Nat} (h : IsRP w B0 g b a) {g' : Nat} (hg : w.grownBy w' (some g')) (hne : g' ≠ g) (hlt : ¬ B0 g') : IsRP w' B0 g b a := by
  obtain ⟨h0, A, c, h1, h2, h3, h4⟩ := h
  refine ⟨h0, A, c, h1.grown hg (by intro e; injection e with e; exact hne e.symm), h2, h3.grown hg ?_, h4⟩
  intro hk
  exact hlt (h4 _ hk).1

/-- 'r.B = r.B[l:]'. -/
theorem IsRP.cut {w : World} {B0 : Nat → Prop} {g : Nat} {b : ByteArray} {a : Nat} (h : IsRP w B0 g b a) (l : Nat) (i : Int) (hi : i = l) (hl : a + l ≤ b.size) :
    ∃ A c A', w.cell? ⟨g, 0, none⟩ = some (.slice A (b.size - a) c) ∧ w.frozen? ⟨g, 0, none⟩ = false ∧ (∀ W, (Instr.slice 31 (.slice A (b.size - a) c) (some (.int .i64 i)) none none).run Tryz.prog W = .ok (.slice A' (b.size - a - l) (c - l)) W) ∧
      IsRP (w.setCell ⟨g, 0, none⟩ (.slice A' (b.size - a - l) (c - l))) B0 g b (a + l) ∧ RdC w A ((b.data.toList.drop a).map bv) := by
  obtain ⟨h0, A, c, h1, h2, h3, h4⟩ := h
  obtain ⟨A', hrun, hA, hrd⟩ := run_cut_l (P := Tryz.prog) 31 5 1 Tryz.underlying31 size_u8 A (b.size - a) c l i hi (by omega) h2 .i64
  refine ⟨A, c, A', h1.cell 0 _ rfl, h1.frozen 0, hrun, ⟨hl, A', c - l, ?_, by omega, ?_, ?_⟩, h3⟩
  · have := h1.set 0 (.slice A' (b.size - a - l) (c - l))
    rwa [show b.size - (a + l) = b.size - a - l by omega]
  · have := hrd w _ (by simp) h3
    rw [Nat.mul_one, ← List.map_drop, List.drop_drop] at this
    refine RdC.far this ?_ _
    rw [← ablk, hA]
    intro hk
    exact (h4 _ hk).2 rfl
  · rw [hA]; exact h4

set_option maxHeartbeats 400000 in
theorem peekP_calls (B0 : Nat → Prop) (g : Nat) (b : ByteArray) (a : Nat) (w : World) (h : IsRP w B0 g b a) :
    Calls Tryz.prog 80 #[.pointer (some ⟨g, 0, none⟩)] w fun e w' => e = .returned (.tuple #[.int .u64 (pk8 b a).1, .int .i64 (pk8 b a).2]) ∧ w = w' := by
  obtain ⟨h0, A, c, h1, h2, h3, _⟩ := h
  have hc := h1.cell 0 _ rfl
  clear h1
  by_cases hlt : b.size < a + 8
  · have hp : pk8 b a = (0, 100) := by simp [pk8, hlt]
    have HP := Lib.hid hp; clear hp
    have hs : ((b.size - a : Nat) : Int) < 8 := by omega
    go_enter Tryz.func80, Tryz.ntmps80
    go_wp2
    go_ret2
    rw [HP.out]
    exact ⟨rfl, rfl⟩
  · have hp : pk8 b a = (be b a 8, 0) := by simp [pk8, hlt]
    have HP := Lib.hid hp; clear hp
    have hs : ¬ ((b.size - a : Nat) : Int) < 8 := by omega
    obtain ⟨bk, off, rfl, hcell⟩ := h3.at (by simp; omega)
    have HC := Lib.hid hcell; clear hcell h3
    go_enter Tryz.func80, Tryz.ntmps80
    go_wp2
    go_loop [4, 5] (fun v i => ∃ k : Nat, k ≤ 8 ∧ i = .int .i64 k ∧ v = .int .u64 (be b a k)) (fun _ i => 8 - (intOf i).toNat)
    case atStart => exact ⟨0, by omega, rfl, rfl⟩
    case round =>
      obtain ⟨k, hk, rfl, rfl⟩ := hrel
      by_cases hk8 : k < 8
      · have hx := HC.out k (.int .u8 (bt b (a + k) : Nat)) (bv_at b a k (by omega))
        have hi1 : (k : Int) < ((b.size - a : Nat) : Int) := by omega
        have hlt7 := be_lt b a k
        have hp : 256 ^ k ≤ 256 ^ 7 := Nat.pow_le_pow_right (by omega) (by omega)
        have e5 : IntKind.u64.wrap ((be b a k : Int) * 256) = (be b a k : Int) * 256 := wrap_u64_in _ (by omega) (by omega)
        have e6 := or_byte (be b a k) (bt b (a + k)) (by omega) (bt_lt _ _)
        have e7 := bt_wrap b (a + k)
        clear hlt7 hp
        go_wp2
        refine ⟨⟨k + 1, by omega, by go_num, ?_⟩, by simp [intOf]; omega⟩
        simp only [be]; go_num
      · obtain rfl : k = 8 := by omega
        go_wp2
        go_ret2
        rw [HP.out]
        exact ⟨rfl, rfl⟩

/-- What a call of the reference's reader that reads eight bytes does. -/
def RPPost (B0 : Nat → Prop) (g : Nat) (b : ByteArray) (a : Nat) (may : Nat → Bool) (val : Nat → Value) (w : World) (e : Ending) (w' : World) : Prop :=
  e = .returned (.tuple #[val (rd8 b a may).1, .int .i64 (rd8 b a may).2.1]) ∧ IsRP w' B0 g b (rd8 b a may).2.2 ∧ w.grownBy w' (some g)

set_option maxHeartbeats 400000 in
theorem rnumberP_calls (B0 : Nat → Prop) (g : Nat) (b : ByteArray) (a : Nat) (w : World) (h : IsRP w B0 g b a) :
    Calls Tryz.prog 81 #[.pointer (some ⟨g, 0, none⟩)] w (RPPost B0 g b a (fun _ => true) (fun n => .int .u64 n) w) := by
  have H := Lib.hid h; clear h
  by_cases hlt : b.size < a + 8
  · have hp : rd8 b a (fun _ => true) = (0, 100, a) := by simp [rd8, hlt]
    have hk : pk8 b a = (0, 100) := by simp [pk8, hlt]
    have HP := Lib.hid hp; clear hp
    have hpk := fun W hr => peekP_calls B0 g b a W hr
    rw [hk] at hpk
    have HK := Lib.hid hpk; clear hpk hk
    go_enter Tryz.func81, Tryz.ntmps81
    go_wp2_with (go_at_call 80; refine (HK.out _ H.out).mono ?_; rintro e w' ⟨rfl, rfl⟩)
    go_ret2
    unfold RPPost
    rw [HP.out]
    exact ⟨rfl, H.out, World.grownBy.refl _ _⟩
  · have hp : rd8 b a (fun _ => true) = (be b a 8, 0, a + 8) := by simp [rd8, hlt]
    have hk : pk8 b a = (be b a 8, 0) := by simp [pk8, hlt]
    have HP := Lib.hid hp; clear hp
    have hpk := fun W hr => peekP_calls B0 g b a W hr
    rw [hk] at hpk
    have HK := Lib.hid hpk; clear hpk hk
    obtain ⟨A, c, A', hc, hf, hrun, hR, _⟩ := H.out.cut 8 8 rfl (by omega)
    have HR := Lib.hid hR; clear hR
    go_enter Tryz.func81, Tryz.ntmps81
    go_wp2_with (go_at_call 80; refine (HK.out _ H.out).mono ?_; rintro e w' ⟨rfl, rfl⟩)
    go_ret2
    unfold RPPost
    rw [HP.out]
    exact ⟨rfl, HR.out, grownBy_set _ _ _ _⟩

set_option maxHeartbeats 1000000 in
theorem rcountP_calls (B0 : Nat → Prop) (g : Nat) (b : ByteArray) (a : Nat) (most : Int) (hm : -9223372036854775808 ≤ most ∧ most ≤ 9223372036854775807) (w : World) (h : IsRP w B0 g b a) :
    Calls Tryz.prog 51 #[.pointer (some ⟨g, 0, none⟩), .int .i64 most] w (RPPost B0 g b a (mayCount most) (fun n => .int .i64 n) w) := by
  have H := Lib.hid h; clear h
  by_cases hlt : b.size < a + 8
  · have hp : rd8 b a (mayCount most) = (0, 100, a) := by simp [rd8, hlt]
    have hk : pk8 b a = (0, 100) := by simp [pk8, hlt]
    have HP := Lib.hid hp; clear hp
    have hpk := fun W hr => peekP_calls B0 g b a W hr
    rw [hk] at hpk
    have HK := Lib.hid hpk; clear hpk hk
    go_enter Tryz.func51, Tryz.ntmps51
    go_wp2_with (go_at_call 80; refine (HK.out _ H.out).mono ?_; rintro e w' ⟨rfl, rfl⟩)
    go_ret2
    unfold RPPost
    rw [HP.out]
    exact ⟨rfl, H.out, World.grownBy.refl _ _⟩
  · have hk : pk8 b a = (be b a 8, 0) := by simp [pk8, hlt]
    have hpk := fun W hr => peekP_calls B0 g b a W hr
    rw [hk] at hpk
    have HK := Lib.hid hpk; clear hpk hk
    have hb8 := be_lt b a 8
    by_cases h0 : most < 0
    · have hp : rd8 b a (mayCount most) = (0, 101, a) := by
        have : ¬ (0 ≤ most) := by omega
        simp [rd8, hlt, mayCount, this]
      have HP := Lib.hid hp; clear hp
      have hd : decide (most < 0) = true := decide_eq_true h0
      go_enter Tryz.func51, Tryz.ntmps51
      go_wp2_with (go_at_call 80; refine (HK.out _ H.out).mono ?_; rintro e w' ⟨rfl, rfl⟩)
      go_ret2
      unfold RPPost
      rw [HP.out]
      exact ⟨rfl, H.out, World.grownBy.refl _ _⟩
    · have hd : decide (most < 0) = false := decide_eq_false h0
      have e1 : IntKind.u64.wrap most = most := wrap_u64_in _ (by omega) (by omega)
      by_cases h1 : (be b a 8 : Int) > most
      · have hp : rd8 b a (mayCount most) = (0, 101, a) := by
          have : ¬ ((be b a 8 : Int) ≤ most) := by omega
          simp [rd8, hlt, mayCount, this]
        have HP := Lib.hid hp; clear hp
        have hd2 : decide (most < (be b a 8 : Int)) = true := decide_eq_true h1
        go_enter Tryz.func51, Tryz.ntmps51
        go_wp2_with (go_at_call 80; refine (HK.out _ H.out).mono ?_; rintro e w' ⟨rfl, rfl⟩)
        go_ret2
        unfold RPPost
        rw [HP.out]
        exact ⟨rfl, H.out, World.grownBy.refl _ _⟩
      · have hp : rd8 b a (mayCount most) = (be b a 8, 0, a + 8) := by
          have h2 : ((be b a 8 : Int) ≤ most) := by omega
          have h3 : 0 ≤ most := by omega
          simp [rd8, hlt, mayCount, h2, h3]
        have HP := Lib.hid hp; clear hp
        have hd2 : decide (most < (be b a 8 : Int)) = false := decide_eq_false h1
        have e2 : IntKind.i64.wrap (be b a 8 : Int) = (be b a 8 : Int) := wrap_i64_in _ (by omega) (by omega)
        obtain ⟨A, c, A', hc, hf, hrun, hR, _⟩ := H.out.cut 8 8 rfl (by omega)
        have HR := Lib.hid hR; clear hR
        go_enter Tryz.func51, Tryz.ntmps51
        go_wp2_with (go_at_call 80; refine (HK.out _ H.out).mono ?_; rintro e w' ⟨rfl, rfl⟩)
        go_ret2
        unfold RPPost
        rw [HP.out]
        exact ⟨rfl, HR.out, grownBy_set _ _ _ _⟩

set_option maxHeartbeats 1000000 in
theorem rfloatP_calls (B0 : Nat → Prop) (g : Nat) (b : ByteArray) (a : Nat) (w : World) (h : IsRP w B0 g b a) :
    Calls Tryz.prog 53 #[.pointer (some ⟨g, 0, none⟩)] w (RPPost B0 g b a fin (fun n => .float .f64 n) w) := by
  have H := Lib.hid h; clear h
  have hfb := frombits_run
  by_cases hlt : b.size < a + 8
  · have hp : rd8 b a fin = (0, 100, a) := by simp [rd8, hlt]
    have hk : pk8 b a = (0, 100) := by simp [pk8, hlt]
    have HP := Lib.hid hp; clear hp
    have hpk := fun W hr => peekP_calls B0 g b a W hr
    rw [hk] at hpk
    have HK := Lib.hid hpk; clear hpk hk
    go_enter Tryz.func53, Tryz.ntmps53
    go_wp2_with (go_at_call 80; refine (HK.out _ H.out).mono ?_; rintro e w' ⟨rfl, rfl⟩)
    go_ret2
    unfold RPPost
    rw [HP.out]
    exact ⟨rfl, H.out, World.grownBy.refl _ _⟩
  · have hk : pk8 b a = (be b a 8, 0) := by simp [pk8, hlt]
    have hpk := fun W hr => peekP_calls B0 g b a W hr
    rw [hk] at hpk
    have HK := Lib.hid hpk; clear hpk hk
    have hb8 := be_lt b a 8
    have hand := and_2047 (be b a 8) (by omega)
    have hfin := fin_exp (be b a 8)
    by_cases h1 : be b a 8 / 4503599627370496 % 2048 = 2047
    · have hp : rd8 b a fin = (0, 101, a) := by simp [rd8, hlt, hfin, h1]
      have HP := Lib.hid hp; clear hp hfin
      have hd2 : ((be b a 8 : Int) / 4503599627370496 % 2048 == 2047) = true := beq_iff_eq.2 (by omega)
      have H1 := Lib.hid h1; clear h1
      go_enter Tryz.func53, Tryz.ntmps53
      go_wp2_with (go_at_call 80; refine (HK.out _ H.out).mono ?_; rintro e w' ⟨rfl, rfl⟩)
      go_ret2
      unfold RPPost
      rw [HP.out]
      exact ⟨rfl, H.out, World.grownBy.refl _ _⟩
    · have hp : rd8 b a fin = (be b a 8, 0, a + 8) := by simp [rd8, hlt, hfin, h1]
      have HP := Lib.hid hp; clear hp hfin
      have hd2 : ((be b a 8 : Int) / 4503599627370496 % 2048 == 2047) = false := beq_eq_false_iff_ne.2 (by omega)
      have H1 := Lib.hid h1; clear h1
      obtain ⟨A, c, A', hc, hf, hrun, hR, _⟩ := H.out.cut 8 8 rfl (by omega)
      have HR := Lib.hid hR; clear hR
      go_enter Tryz.func53, Tryz.ntmps53
      go_wp2_with (go_at_call 80; refine (HK.out _ H.out).mono ?_; rintro e w' ⟨rfl, rfl⟩)
      go_ret2
      unfold RPPost
      rw [HP.out]
      exact ⟨rfl, HR.out, grownBy_set _ _ _ _⟩

set_option maxHeartbeats 1000000 in
theorem rbyteP_calls (B0 : Nat → Prop) (g : Nat) (b : ByteArray) (a most : Nat) (w : World) (h : IsRP w B0 g b a) :
    Calls Tryz.prog 82 #[.pointer (some ⟨g, 0, none⟩), .int .u8 most] w fun e w' =>
      e = .returned (.tuple #[.int .u8 (rd1 b a most).1, .int .i64 (rd1 b a most).2.1]) ∧ IsRP w' B0 g b (rd1 b a most).2.2 ∧ w.grownBy w' (some g) := by
  have H := Lib.hid h; clear h
  have hle := H.out.le
  by_cases hlt : b.size = a
  · have hp : rd1 b a most = (0, 100, a) := by simp [rd1, hlt]
    have HP := Lib.hid hp; clear hp
    obtain ⟨A, c, A', hc, _⟩ := H.out.cut 0 0 rfl (by omega)
    have hd : (((b.size - a : Nat) : Int) == 0) = true := beq_iff_eq.2 (by omega)
    have HL := Lib.hid hlt; clear hlt
    go_enter Tryz.func82, Tryz.ntmps82
    go_wp2
    go_ret2
    rw [HP.out]
    exact ⟨rfl, H.out, World.grownBy.refl _ _⟩
  · have hd : (((b.size - a : Nat) : Int) == 0) = false := beq_eq_false_iff_ne.2 (by omega)
    obtain ⟨A, c, A', hc, hf, hrun, hR, hrd⟩ := H.out.cut 1 1 rfl (by omega)
    have HR := Lib.hid hR; clear hR
    obtain ⟨bk, off, rfl, hcell⟩ := hrd.at (by simp; omega)
    have hx := hcell 0 _ (bv_at b a 0 (by omega))
    simp only [Nat.add_zero] at hx
    have hi1 : (0 : Int) < ((b.size - a : Nat) : Int) := by omega
    have hi2 : 0 < b.size - a := by omega
    clear hcell hrd
    by_cases hgt : bt b a > most
    · have hp : rd1 b a most = (0, 101, a) := by simp [rd1, hlt, hgt]
      have HP := Lib.hid hp; clear hp
      have hd2 : decide ((most : Int) < (bt b a : Int)) = true := decide_eq_true (by omega)
      have hd3 : decide (most < bt b a) = true := decide_eq_true hgt
      have HG := Lib.hid hgt; clear hgt hlt
      go_enter Tryz.func82, Tryz.ntmps82
      go_wp2
      go_ret2
      rw [HP.out]
      exact ⟨rfl, H.out, World.grownBy.refl _ _⟩
    · have hp : rd1 b a most = (bt b a, 0, a + 1) := by simp [rd1, hlt, hgt]
      have HP := Lib.hid hp; clear hp
      have hd2 : decide ((most : Int) < (bt b a : Int)) = false := decide_eq_false (by omega)
      have hd3 : decide (most < bt b a) = false := decide_eq_false hgt
      have HG := Lib.hid hgt; clear hgt hlt
      go_enter Tryz.func82, Tryz.ntmps82
      go_wp2
      go_ret2
      rw [HP.out]
      exact ⟨rfl, HR.out, grownBy_set _ _ _ _⟩

set_option maxHeartbeats 1000000 in
theorem rwordP_calls (B0 : Nat → Prop) (g : Nat) (b : ByteArray) (a : Nat) (wd : List UInt8) (w : World) (h : IsRP w B0 g b a) (hb : b.size ≤ maxLen) :
    Calls Tryz.prog 50 #[.pointer (some ⟨g, 0, none⟩), .string (bstr wd)] w fun e w' =>
      e = .returned (.int .i64 (rdW b a wd).1) ∧ IsRP w' B0 g b (rdW b a wd).2 ∧ w.grownBy w' (some g) := by
  have H := Lib.hid h; clear h
  have hle := H.out.le
  have hsz := bstr_size wd
  unfold maxLen at hb
  by_cases hlt : b.size - a < wd.length
  · have hp : rdW b a wd = (100, a) := by simp [rdW, hlt]
    have HP := Lib.hid hp; clear hp
    obtain ⟨A, c, A', hc, _⟩ := H.out.cut 0 0 rfl (by omega)
    have hd : decide (((b.size - a : Nat) : Int) < (wd.length : Int)) = true := decide_eq_true (by omega)
    have hd2 : decide ((b.size - a : Nat) < wd.length) = true := decide_eq_true (by omega)
    go_enter Tryz.func50, Tryz.ntmps50
    go_wp2
    go_ret
    rw [HP.out]
    exact ⟨rfl, H.out, World.grownBy.refl _ _⟩
  · have hd : decide (((b.size - a : Nat) : Int) < (wd.length : Int)) = false := decide_eq_false (by omega)
    have hd2 : decide ((b.size - a : Nat) < wd.length) = false := decide_eq_false (by omega)
    obtain ⟨A, c, A', hc, hf, hrun, hR, hrd⟩ := H.out.cut wd.length (wd.length : Int) rfl (by omega)
    have HR := Lib.hid hR; clear hR
    have HRD := Lib.hid hrd; clear hrd
    go_enter Tryz.func50, Tryz.ntmps50
    go_wp2
    go_loopw [5] (fun i wr => ∃ k m : Nat, k ≤ wd.length ∧ i = .int .i64 k ∧ wr = w.drewN m ∧ Hid ((b.data.toList.drop a).take k = wd.take k)) (fun i _ => wd.length - (intOf i).toNat)
    case atStart => exact ⟨0, 0, by omega, rfl, rfl, Lib.hid (by simp)⟩
    case round =>
      obtain ⟨k, m, hk, rfl, rfl, HM⟩ := hrel
      by_cases hk8 : k < wd.length
      · obtain ⟨bk, off, hA, hcell⟩ := HRD.out.at (by simp; omega)
        have hx := hcell k _ (bv_at b a k (by omega))
        have hix := fun W => run_idx_str (P := Tryz.prog) 9 Tryz.underlying9 (bstr wd) .i64 (k : Int) k rfl (by rw [hsz]; exact hk8) W
        have hi1 : (k : Int) < ((b.size - a : Nat) : Int) := by omega
        have hi2 : k < b.size - a := by omega
        clear hcell
        subst hA
        by_cases he : bt b (a + k) = bt (bstr wd) k
        · have HN := Lib.hid (word_step hk8 (by omega) HM.out he)
          have hne : (((bt b (a + k) : Nat) : Int) != ((bt (bstr wd) k : Nat) : Int)) = false := by rw [he]; simp
          have HE := Lib.hid he; clear he
          go_wp2
          go_quiet (fail)
          go_wp2
          exact ⟨⟨k + 1, m + nq, by omega, by go_num, rfl, HN⟩, by simp [intOf]; omega⟩
        · have HN := Lib.hid (word_no hk8 (by omega) he)
          have hne : (((bt b (a + k) : Nat) : Int) != ((bt (bstr wd) k : Nat) : Int)) = true := by rw [bne_iff_ne]; omega
          have HE := Lib.hid he; clear he
          have hp : rdW b a wd = (101, a) := by simp [rdW, hlt, HN.out]
          have HP := Lib.hid hp; clear hp
          go_wp2
          go_quiet (fail)
          go_wp2
          go_ret
          rw [HP.out]
          exact ⟨rfl, (H.out.grown ((fr_drewN _ _).drewN _)), (grownBy_drewN _ _ _).trans (grownBy_drewN _ _ _)⟩
      · obtain rfl : k = wd.length := by omega
        have hp : rdW b a wd = (0, a + wd.length) := by simp [rdW, hlt, word_yes HM.out]
        have HP := Lib.hid hp; clear hp
        go_wp2
        go_ret
        rw [HP.out]
        exact ⟨rfl, HR.out.grown (fr_drewN _ m), (grownBy_set w g 0 _).trans (grownBy_drewN _ m _)⟩

end Go.Proofs.YthjimnmgbcckjaaGreat
namespace Go.Proofs.YthjimnmgbcckjaaGreat
open Go.RowKit Go.Inc Go.Run

/-- What came of a reading. -/
def Rd (o : Option (Nat × Nat)) (x a' : Nat) (v : Int) : Prop := (v = 0 ∧ o = some (x, a')) ∨ (v ≠ 0 ∧ o = none)
theorem rnum_any (B0 : Nat → Prop) (g : Nat) (b : ByteArray) (a : Nat) (w : World) (h : IsRP w B0 g b a) :
    Calls Tryz.prog 81 #[.pointer (some ⟨g, 0, none⟩)] w fun e w' => ∃ (x a' : Nat) (v : Int), e = .returned (.tuple #[.int .u64 (x : Nat), .int .i64 v]) ∧ IsRP w' B0 g b a' ∧ Mv (one1 g) w w' ∧ Rd (numAt b a) x a' v := by
  refine (rnumberP_calls B0 g b a w h).mono ?_
  rintro e w' ⟨he, hR, hG⟩
  refine ⟨_, _, _, he, hR, mv_grown hG, ?_⟩
  unfold numAt
  by_cases hc : b.size < a + 8
  · exact .inr ⟨(rd8_none (.inl hc)).2, by rw [if_pos hc]⟩
  · rw [rd8_some (fun h9 => hc (h9.resolve_right (by decide)))]
    exact .inl ⟨rfl, by rw [if_neg hc]⟩
theorem rcnt_any (B0 : Nat → Prop) (g : Nat) (b : ByteArray) (a m : Nat) (hm : m ≤ 9223372036854775807) (w : World) (h : IsRP w B0 g b a) :
    Calls Tryz.prog 51 #[.pointer (some ⟨g, 0, none⟩), .int .i64 (m : Nat)] w fun e w' => ∃ (x a' : Nat) (v : Int), e = .returned (.tuple #[.int .i64 (x : Nat), .int .i64 v]) ∧ IsRP w' B0 g b a' ∧ Mv (one1 g) w w' ∧ Rd (cntAt b a m) x a' v := by
  refine (rcountP_calls B0 g b a (m : Nat) (by omega) w h).mono ?_
  rintro e w' ⟨he, hR, hG⟩
  refine ⟨_, _, _, he, hR, mv_grown hG, ?_⟩
  unfold cntAt
  by_cases hc : b.size < a + 8 ∨ m < be b a 8
  · exact .inr ⟨(rd8_none (hc.imp_right mayCount_no.2)).2, by rw [if_pos hc]⟩
  · rw [rd8_some (fun h9 => hc (h9.imp_right mayCount_no.1))]
    exact .inl ⟨rfl, by rw [if_neg hc]⟩
theorem rflt_any (B0 : Nat → Prop) (g : Nat) (b : ByteArray) (a : Nat) (w : World) (h : IsRP w B0 g b a) :
    Calls Tryz.prog 53 #[.pointer (some ⟨g, 0, none⟩)] w fun e w' => ∃ (x a' : Nat) (v : Int), e = .returned (.tuple #[.float .f64 x, .int .i64 v]) ∧ IsRP w' B0 g b a' ∧ Mv (one1 g) w w' ∧ Rd (fltAt b a) x a' v := by
  refine (rfloatP_calls B0 g b a w h).mono ?_
  rintro e w' ⟨he, hR, hG⟩
  refine ⟨_, _, _, he, hR, mv_grown hG, ?_⟩
  unfold fltAt
  by_cases hc : b.size < a + 8 ∨ Go.Inc.fin (be b a 8) = false
  · exact .inr ⟨(rd8_none hc).2, by rw [if_pos hc]⟩
  · rw [rd8_some hc]
    exact .inl ⟨rfl, by rw [if_neg hc]⟩
theorem rbyt_any (B0 : Nat → Prop) (g : Nat) (b : ByteArray) (a : Nat) (w : World) (h : IsRP w B0 g b a) :
    Calls Tryz.prog 82 #[.pointer (some ⟨g, 0, none⟩), .int .u8 1] w fun e w' => ∃ (x a' : Nat) (v : Int), e = .returned (.tuple #[.int .u8 (x : Nat), .int .i64 v]) ∧ IsRP w' B0 g b a' ∧ Mv (one1 g) w w' ∧ Rd (bytAt b a) x a' v := by
  refine (rbyteP_calls B0 g b a 1 w h).mono ?_
  rintro e w' ⟨he, hR, hG⟩
  refine ⟨_, _, _, he, hR, mv_grown hG, ?_⟩
  unfold bytAt rd1
  by_cases h1 : b.size = a
  · rw [if_pos h1, if_pos (.inl h1)]
    exact .inr ⟨show (100 : Int) ≠ 0 by decide, rfl⟩
  · by_cases h2 : bt b a > 1
    · rw [if_neg h1, if_pos h2, if_pos (.inr h2)]
      exact .inr ⟨show (101 : Int) ≠ 0 by decide, rfl⟩
    · rw [if_neg h1, if_neg h2, if_neg (by omega)]
      exact .inl ⟨rfl, rfl⟩
theorem IsRP.mvx {w w' : World} {B0 : Nat → Prop} {g : Nat} {b : ByteArray} {a : Nat} {T : Nat → Prop} (h : IsRP w B0 g b a) (hm : Mv T w w') (hT : ∀ k, B0 k ∨ k = g → ¬ T k) : IsRP w' B0 g b a := by
  obtain ⟨h0, A, c, h1, h2, h3, h4⟩ := h
  exact ⟨h0, A, c, h1.mv hm (hT g (.inr rfl)), h2, h3.mv hm (fun k hk => hT k (.inl (h4 k hk).1)), h4⟩
end Go.Proofs.YthjimnmgbcckjaaGreat
namespace Go.Proofs.YthjimnmgbcckjaaGreat
set_option maxRecDepth 100000
open Go.RowKit Go.Inc Go.Run

/-- What the reference's Read comes to. -/
def ReadPost (B0 : Nat → Prop) (g : Nat) (b : ByteArray) (base : Nat) (w : World) (o : Option (List Ent × Nat)) (e : Ending) (w' : World) : Prop :=
  Mv (one1 g) w w' ∧ match o with
  | none => e = .returned (.tuple #[.slice none 0 0, .bool false])
  | some (l, a') => ∃ A' c', e = .returned (.tuple #[.slice A' l.length c', .bool true]) ∧ Own w' base 52 3 A' l.length c' (l.flatMap encells) ∧ IsRP w' B0 g b a'
theorem read_no {B0 : Nat → Prop} {g : Nat} {b : ByteArray} {base : Nat} {w w' : World} {o : Option (List Ent × Nat)} (h : Hid (o = none)) (hm : Mv (one1 g) w w') : ReadPost B0 g b base w o (.returned (.tuple #[.slice none 0 0, .bool false])) w' := by
  unfold ReadPost
  rw [h.out]
  exact ⟨hm, rfl⟩
theorem read_yes {B0 : Nat → Prop} {g : Nat} {b : ByteArray} {base : Nat} {w w' : World} {o : Option (List Ent × Nat)} {l : List Ent} {a' n : Nat} {A' : Option Addr} {c' : Nat} (h : Hid (o = some (l, a'))) (hm : Mv (one1 g) w w') (hl : Hid (l.length = n)) (ho : Hid (Own w' base 52 3 A' n c' (l.flatMap encells))) (hR : IsRP w' B0 g b a') :
    ReadPost B0 g b base w o (.returned (.tuple #[.slice A' n c', .bool true])) w' := by
  unfold ReadPost
  rw [h.out]
  exact ⟨hm, A', c', by rw [hl.out], by rw [hl.out]; exact ho.out, hR⟩
theorem entAt_no {b : ByteArray} {a : Nat} (h : numAt b a = none) : entAt b a = none := by unfold entAt; rw [h]
theorem entAt_no1 {b : ByteArray} {a k a1 : Nat} (h : numAt b a = some (k, a1)) (h1 : bytAt b a1 = none) : entAt b a = none := by unfold entAt; rw [h]; dsimp only; rw [h1]
theorem entAt_gone {b : ByteArray} {a k a1 a2 : Nat} (h : numAt b a = some (k, a1)) (h1 : bytAt b a1 = some (1, a2)) : entAt b a = some (⟨k, 0, true⟩, a2) := by unfold entAt; rw [h]; dsimp only; rw [h1]; rfl
theorem entAt_no2 {b : ByteArray} {a k a1 a2 : Nat} (h : numAt b a = some (k, a1)) (h1 : bytAt b a1 = some (0, a2)) (h2 : numAt b a2 = none) : entAt b a = none := by
  unfold entAt; rw [h]; dsimp only; rw [h1]; dsimp only; rw [if_neg (by decide), h2]
theorem entAt_live {b : ByteArray} {a k a1 a2 v a3 : Nat} (h : numAt b a = some (k, a1)) (h1 : bytAt b a1 = some (0, a2)) (h2 : numAt b a2 = some (v, a3)) : entAt b a = some (⟨k, v, false⟩, a3) := by
  unfold entAt; rw [h]; dsimp only; rw [h1]; dsimp only; rw [if_neg (by decide), h2]

set_option maxHeartbeats 8000000 in
theorem r12Read_calls (B0 : Nat → Prop) (g : Nat) (b : ByteArray) (a : Nat) (w : World) (h : IsRP w B0 g b a) (hB : ∀ k, B0 k → k < g) (_hb : b.size ≤ 2147483648) :
    Calls Tryz.prog 52 #[.pointer (some ⟨g, 0, none⟩)] w (ReadPost B0 g b w.heap.size w (entsOf b a)) := by
  have HGW : Hid (g < w.heap.size) := h.lt
  have HBB := Lib.hid hB
  have hale := h.le
  have NUM := Lib.hid (fun a' w' (h : IsRP w' B0 g b a') => rnum_any B0 g b a' w' h)
  have BYT := Lib.hid (fun a' w' (h : IsRP w' B0 g b a') => rbyt_any B0 g b a' w' h)
  have CNT := Lib.hid (rcnt_any B0 g b a 4294967296 (by decide) w h)
  clear h hB
  obtain ⟨O, hO⟩ : ∃ O, entsOf b a = O := ⟨_, rfl⟩
  have HOO : Hid (O = match cntAt b a 4294967296 with
    | none => none
    | some (n, a1) => entsAt b n a1) := by rw [Hid, ← hO] <;> rfl
  rw [hO]
  clear hO
  go_enter Tryz.func52, Tryz.ntmps52
  go_wp2_with fail
  refine CNT.out.mono ?_
  rintro _ w2 ⟨n, a1, v, rfl, hR, hm, hor⟩
  rcases hor with ⟨rfl, ho⟩ | ⟨hv, ho⟩
  rotate_left
  · have g1 : (v != 0) = true := by simpa using hv
    have HNO : Hid (O = none) := by rw [Hid, HOO.out, ho]
    have HM := Lib.hid hm
    clear hv hR ho hm
    go_wp2_with fail
    go_ret2
    exact read_no HNO HM.out
  obtain ⟨p1, p2, p3⟩ := cntAt_some ho
  have HO1 : Hid (O = entsAt b n a1) := by rw [Hid, HOO.out, ho]
  have HR2 := Lib.hid hR
  have HM2 := Lib.hid hm
  clear ho hR hm
  go_wp2_with fail
  go_loopw [6, 7] (fun v6 v7 wr => ∃ (i ai : Nat) (Al : Option Addr) (cl : Nat) (l : List Ent), v6 = .slice Al i cl ∧ v7 = .int .i64 i ∧ i ≤ n ∧ Hid (l.length = i) ∧ 9 * i ≤ ai ∧ ai ≤ b.size ∧ Hid (Own wr w.heap.size 52 3 Al i cl (l.flatMap encells)) ∧ Hid (IsRP wr B0 g b ai) ∧ Hid (Mv (one1 g) w wr) ∧
    Hid (O = match entsAt b (n - i) ai with | none => none | some (l', a') => some (l ++ l', a'))) (fun _ v7 _ => n - (intOf v7).toNat)
  case atStart => exact ⟨0, a1, none, 0, [], rfl, rfl, by omega, rfl, by omega, p2, Own.nil _ _ _ _, HR2.out, HM2.out, by
    rw [Hid, Nat.sub_zero, HO1.out]
    cases entsAt b n a1 with
    | none => rfl
    | some p => rfl⟩
  case round =>
    obtain ⟨i, ai, Al, cl, l, rfl, rfl, hin, hll, h9i, haib, hown, hR, hmv, heq⟩ := hrel
    rcases Nat.lt_or_ge i n with hlt | hge
    · have d1 : decide (i < n) = true := decide_eq_true hlt
      have d2 : (i : Int) < (n : Int) := by omega
      have wi : IntKind.i64.wrap ((i : Int) + 1) = (i : Int) + 1 := wrap_i64_in _ (by omega) (by omega)
      have HEQ := Lib.hid (ents_step hlt heq.out)
      clear heq
      go_wp2_with fail
      refine (NUM.out ai wr hR.out).mono ?_
      rintro _ w4 ⟨k, q1, vk, rfl, hR4, hm4, hk⟩
      have HM4 : Hid (Mv (one1 g) wr w4) := hm4
      have HR4 := Lib.hid hR4
      have HK := Lib.hid hk
      clear hm4 hR4 hk
      go_wp2_with fail
      refine (BYT.out q1 w4 HR4.out).mono ?_
      rintro _ w5 ⟨gb, q2, vb, rfl, hR5, hm5, hbt⟩
      have HM5 : Hid (Mv (one1 g) wr w5) := HM4.out.trans' hm5
      have HR5 := Lib.hid hR5
      have HBT := Lib.hid hbt
      have hq1 := HR4.out.le
      clear hm5 hR5 hbt
      rcases HK.out with ⟨rfl, hk⟩ | ⟨hv, hk⟩
      rotate_left
      · have HNO : Hid (O = none) := by rw [Hid, HEQ.out, entAt_no hk]
        have g1 : (vk != 0) = true := by simpa using hv
        clear hv hk
        go_wp2_with fail
        go_ret2
        exact read_no HNO (hmv.out.trans' HM5.out)
      obtain ⟨k1, k2, k3⟩ := numAt_some hk
      rcases HBT.out with ⟨rfl, hbt⟩ | ⟨hv, hbt⟩
      rotate_left
      · have HNO : Hid (O = none) := by rw [Hid, HEQ.out, entAt_no1 hk hbt]
        have g1 : (vb != 0) = true := by simpa using hv
        clear hv hk hbt
        go_wp2_with fail
        go_ret2
        exact read_no HNO (hmv.out.trans' HM5.out)
      obtain ⟨b1, b2, b3⟩ := bytAt_some k2 hbt
      have HK' := Lib.hid hk
      have HGS : Hid (g < w5.heap.size ∧ w.heap.size ≤ w5.heap.size ∧ wr.heap.size ≤ w5.heap.size) := ⟨HR5.out.lt, by have := hmv.out.size; have := HM5.out.size; omega, HM5.out.size⟩
      clear hk HK HBT
      rcases Nat.eq_zero_or_pos gb with rfl | hg1
      · have HB0 := Lib.hid hbt
        have he5 := heap_alloc_new w5 (.cells #[.int .u64 (k : Nat), .int .u64 0, .bool false] 52)
        have HE5 := Lib.hid he5
        have HR6 : Hid (IsRP (w5.alloc (.cells #[.int .u64 (k : Nat), .int .u64 0, .bool false] 52)) B0 g b q2) := HR5.out.grown ((Fr.refl w5).alloc _)
        have HM6 : Hid (Mv (one1 g) wr (w5.alloc (.cells #[.int .u64 (k : Nat), .int .u64 0, .bool false] 52))) := HM5.out.then ((Fr.refl w5).alloc _)
        clear hbt he5
        go_wp2_with fail
        obtain ⟨w6, hw6⟩ : ∃ w6, w6 = w5.alloc (.cells #[.int .u64 (k : Nat), .int .u64 0, .bool false] 52) := ⟨_, rfl⟩
        obtain ⟨ge, hge⟩ : ∃ ge, ge = w5.heap.size := ⟨_, rfl⟩
        rw [← hw6, ← hge] at HE5
        rw [← hw6] at HR6 HM6 ⊢
        rw [← hge] at HGS ⊢
        clear hw6 hge
        refine (NUM.out q2 w6 HR6.out).mono ?_
        rintro _ w8 ⟨v, q3, vv, rfl, hR8, hm8, hvv⟩
        have HM8 : Hid (Mv (one1 g) wr w8) := HM6.out.trans' hm8
        have HR8 := Lib.hid hR8
        have HE8 : Hid (w8.heap[ge]? = some (.cells #[.int .u64 (k : Nat), .int .u64 0, .bool false] 52 (0, 0))) := hm8.blk HE5.out (fun h => by have := HGS.out.1; have : ge = g := h; omega)
        clear hm8 hR8
        rcases hvv with ⟨rfl, hvv⟩ | ⟨hv, hvv⟩
        rotate_left
        · have HNO : Hid (O = none) := by rw [Hid, HEQ.out, entAt_no2 HK'.out HB0.out hvv]
          have g1 : (vv != 0) = true := by simpa using hv
          clear hv hvv
          go_wp2_with fail
          go_ret2
          exact read_no HNO (hmv.out.trans' HM8.out)
        obtain ⟨v1, v2, v3⟩ := numAt_some hvv
        have HNX : Hid (O = match entsAt b (n - (i + 1)) q3 with | none => none | some (l', a') => some ((l ++ [⟨k, v, false⟩]) ++ l', a')) := by rw [Hid, HEQ.out, entAt_live HK'.out HB0.out hvv] <;> rfl
        have z2 := blk_frozen HE8.out 1
        obtain ⟨r0, r1, r2⟩ := cells3 HE8.out
        have hms : Mv (one1 ge) w8 (w8.setCell ⟨ge, 1, none⟩ (.int .u64 (v : Nat))) := (Mv.refl (one1 ge) w8).set (p := ⟨ge, 1, none⟩) (.inl rfl) _
        obtain ⟨wq, hwq⟩ : ∃ wq, wq = w8.setCell ⟨ge, 1, none⟩ (.int .u64 (v : Nat)) := ⟨_, rfl⟩
        have HMQ0 : Hid (Mv (one1 g) wr wq) := by rw [hwq]; exact HM8.out.set (p := ⟨ge, 1, none⟩) (.inr HGS.out.2.2) _
        have HRQ : Hid (IsRP wq B0 g b q3) := by rw [hwq]; exact HR8.out.mvx hms (fun k hk h => by have := HGS.out.1; have : k = ge := h; rcases hk with hk | hk; (have := HBB.out k hk; omega); omega)
        have HEQQ : Hid ((w8.setCell ⟨ge, 1, none⟩ (.int .u64 (v : Nat))).heap[ge]? = some (.cells #[.int .u64 (k : Nat), .int .u64 (v : Nat), .bool false] 52 (0, 0))) := blk_set HE8.out 1 (.int .u64 (v : Nat))
        obtain ⟨s0, s1, s2⟩ := cells3 HEQQ.out
        clear hvv hms
        go_wp2_with (at_builtin; refine gate ?_)
        rw [← hwq] at HEQQ ⊢
        have HOWNQ : Hid (Own wq w.heap.size 52 3 Al i cl (l.flatMap encells)) := hown.out.mv HMQ0.out (fun k hk h => by have h9 := (hown.out.lt k hk).1; have := HGW.out; have : k = g := h; omega)
        have HMQ : Hid (Mv (one1 g) w wq) := hmv.out.trans' HMQ0.out
        have HSQ : Hid (w.heap.size ≤ wq.heap.size) := HMQ.out.size
        have HSE : Hid (wq.heap.size = w8.heap.size) := by rw [hwq]; simp [Hid, World.setCell]
        clear hwq
        refine gate_app rfl _ _ 22 rfl 52 (.agg #[.int .u64 0, .int .u64 0, .bool false]) 3 24 Tryz.underlying22 info_ent rfl (by omega) (by omega) w.heap.size Al i cl (l.flatMap encells) (some ⟨w8.heap.size, 0, none⟩) 1 1 ([(⟨k, v, false⟩ : Ent)].flatMap encells) (by rfl) (by rfl)
          (HOWNQ.out.fr ((Fr.refl wq).alloc _)) rfl (by rw [← HSE.out]; exact RdC.of_blk (heap_alloc_new wq _)) (ent_one [(⟨k, v, false⟩ : Ent)]) (by omega) (by have := HSQ.out; simp; omega) ?_
        intro A6 c6 w9 hown6 hgr6 hat6
        have hm9 : Hid (Mv (fun k => ablk Al = some k) wq w9) := ((Mv.of_fr ((Fr.refl wq).alloc _)).grown hgr6.out (fun j hj => .inl hj))
        have HM9 : Hid (Mv (one1 g) w w9) := HMQ.out.trans hm9.out (fun k hk => .inr (HOWNQ.out.lt k hk).1)
        have HR9 : Hid (IsRP w9 B0 g b q3) := HRQ.out.mvx hm9.out (fun k hk h => by have := (HOWNQ.out.lt _ h).1; have := HGW.out; rcases hk with hk | hk; (have := HBB.out k hk; omega); omega)
        have HOWN9 := hown6
        clear hown6 hgr6 hat6 hm9
        go_wp2_with fail
        exact ⟨⟨i + 1, q3, A6, c6, l ++ [(⟨k, v, false⟩ : Ent)], rfl, rfl, by omega, by rw [Hid, List.length_append, hll.out] <;> rfl, by omega, by omega, by rw [Hid, List.flatMap_append]; exact HOWN9.out, HR9.out, HM9.out, HNX.out⟩, by simp only [intOf]; omega⟩
      · obtain rfl : gb = 1 := by omega
        have HNX : Hid (O = match entsAt b (n - (i + 1)) q2 with | none => none | some (l', a') => some ((l ++ [⟨k, 0, true⟩]) ++ l', a')) := by rw [Hid, HEQ.out, entAt_gone HK'.out hbt] <;> rfl
        have he5 := heap_alloc_new w5 (.cells #[.int .u64 (k : Nat), .int .u64 0, .bool true] 52)
        obtain ⟨s0, s1, s2⟩ := cells3 he5
        obtain ⟨wq, hwq⟩ : ∃ wq, wq = w5.alloc (.cells #[.int .u64 (k : Nat), .int .u64 0, .bool true] 52) := ⟨_, rfl⟩
        have HMQ0 : Hid (Mv (one1 g) wr wq) := by rw [hwq]; exact HM5.out.then ((Fr.refl w5).alloc _)
        have HRQ : Hid (IsRP wq B0 g b q2) := by rw [hwq]; exact HR5.out.grown ((Fr.refl w5).alloc _)
        clear hbt he5
        go_wp2_with (at_builtin; refine gate ?_)
        rw [← hwq]
        have HOWNQ : Hid (Own wq w.heap.size 52 3 Al i cl (l.flatMap encells)) := hown.out.mv HMQ0.out (fun k hk h => by have h9 := (hown.out.lt k hk).1; have := HGW.out; have : k = g := h; omega)
        have HMQ : Hid (Mv (one1 g) w wq) := hmv.out.trans' HMQ0.out
        have HSQ : Hid (w.heap.size ≤ wq.heap.size) := HMQ.out.size
        have HSE : Hid (wq.heap.size = w5.heap.size + 1) := by rw [hwq]; simp [Hid]
        clear hwq
        refine gate_app rfl _ _ 22 rfl 52 (.agg #[.int .u64 0, .int .u64 0, .bool false]) 3 24 Tryz.underlying22 info_ent rfl (by omega) (by omega) w.heap.size Al i cl (l.flatMap encells) (some ⟨w5.heap.size + 1, 0, none⟩) 1 1 ([(⟨k, 0, true⟩ : Ent)].flatMap encells) (by rfl) (by rfl)
          (HOWNQ.out.fr ((Fr.refl wq).alloc _)) rfl (by rw [← HSE.out]; exact RdC.of_blk (heap_alloc_new wq _)) (ent_one [(⟨k, 0, true⟩ : Ent)]) (by omega) (by have := HSQ.out; simp; omega) ?_
        intro A6 c6 w9 hown6 hgr6 hat6
        have hm9 : Hid (Mv (fun k => ablk Al = some k) wq w9) := ((Mv.of_fr ((Fr.refl wq).alloc _)).grown hgr6.out (fun j hj => .inl hj))
        have HM9 : Hid (Mv (one1 g) w w9) := HMQ.out.trans hm9.out (fun k hk => .inr (HOWNQ.out.lt k hk).1)
        have HR9 : Hid (IsRP w9 B0 g b q2) := HRQ.out.mvx hm9.out (fun k hk h => by have := (HOWNQ.out.lt _ h).1; have := HGW.out; rcases hk with hk | hk; (have := HBB.out k hk; omega); omega)
        have HOWN9 := hown6
        clear hown6 hgr6 hat6 hm9
        go_wp2_with fail
        exact ⟨⟨i + 1, q2, A6, c6, l ++ [(⟨k, 0, true⟩ : Ent)], rfl, rfl, by omega, by rw [Hid, List.length_append, hll.out] <;> rfl, by omega, by omega, by rw [Hid, List.flatMap_append]; exact HOWN9.out, HR9.out, HM9.out, HNX.out⟩, by simp only [intOf]; omega⟩
    · obtain rfl : i = n := by omega
      have d1 : decide (i < i) = false := by simp
      have HFIN : Hid (O = some (l, ai)) := by
        have h9 := heq.out
        rw [Nat.sub_self] at h9
        rw [Hid, h9]
        unfold entsAt
        simp
      clear heq
      go_wp2_with fail
      go_ret2
      exact read_yes HFIN hmv.out hll hown hR.out
end Go.Proofs.YthjimnmgbcckjaaGreat
namespace Go.Proofs.YthjimnmgbcckjaaGreat
set_option maxRecDepth 100000
open Go.RowKit Go.Inc Go.Run
attribute [local go_sem] run_store_float

/-- What comes of the reference's Get. -/
def RGetOut (b : ByteArray) (w : World) (e : Ending) (w' : World) : Prop :=
  Fr w w' ∧ match getB b with
  | none => e = .returned (.tuple #[.pointer none, .int .i64 120])
  | some (eps, E, Ss) => ∃ x base, e = .returned (.tuple #[.pointer (some ⟨x, 0, none⟩), .int .i64 0]) ∧ w.heap.size ≤ base ∧ IsRef w' x base (eps : Nat) E Ss
theorem chk3_zero {E : List Ent} (h : Chk3 E 0) : EntsV E 0 := by
  rcases h with ⟨_, h⟩ | ⟨i, _, _, _, _, h⟩ | ⟨i, _, _, _, _, h⟩
  · refine .ok h.rise (fun e he => ?_)
    obtain ⟨j, hj, rfl⟩ := List.mem_iff_getElem.1 he
    exact h.2 j hj hj
  · exact absurd h (by decide)
  · exact absurd h (by decide)
theorem rOut_no {b : ByteArray} {w w' : World} (h : Hid (getB b = none)) (hf : Fr w w') : RGetOut b w (.returned (.tuple #[.pointer none, .int .i64 120])) w' := by
  unfold RGetOut
  rw [h.out]
  exact ⟨hf, rfl⟩
theorem rOut_yes {b : ByteArray} {w w' : World} {eps : Nat} {E : List Ent} {Ss : List (List Seg)} {x base : Nat} (h : Hid (getB b = some (eps, E, Ss))) (hf : Fr w w') (hb : w.heap.size ≤ base) (hx : IsRef w' x base (eps : Nat) E Ss) : RGetOut b w (.returned (.tuple #[.pointer (some ⟨x, 0, none⟩), .int .i64 0])) w' := by
  unfold RGetOut
  rw [h.out]
  exact ⟨hf, x, base, rfl, hb, hx⟩
theorem segAt_no1 {b : ByteArray} {a : Nat} (h : cntAt b a 4294967296 = none) : segAt b a = none := by unfold segAt; rw [h]
theorem segAt_no2 {b : ByteArray} {a t a1 : Nat} (h : cntAt b a 4294967296 = some (t, a1)) (h1 : fltAt b a1 = none) : segAt b a = none := by unfold segAt; rw [h]; dsimp only; rw [h1]
theorem segAt_no3 {b : ByteArray} {a t a1 s a2 : Nat} (h : cntAt b a 4294967296 = some (t, a1)) (h1 : fltAt b a1 = some (s, a2)) (h2 : fltAt b a2 = none) : segAt b a = none := by unfold segAt; rw [h]; dsimp only; rw [h1]; dsimp only; rw [h2]
theorem segAt_yes {b : ByteArray} {a t a1 s a2 i a3 : Nat} (h : cntAt b a 4294967296 = some (t, a1)) (h1 : fltAt b a1 = some (s, a2)) (h2 : fltAt b a2 = some (i, a3)) : segAt b a = some ((t, s, i), a3) := by unfold segAt; rw [h]; dsimp only; rw [h1]; dsimp only; rw [h2]
/-- The row's loop in the whole: X is what all bytes say. -/
theorem row_in {b : ByteArray} {K : List Int} {m i f a : Nat} {S : List Seg} {α : Type} {X : Option α} {F : List Seg → Nat → Option α} (hi : i < m) (h : X = match rowAt' b K (m - i) f a with | none => none | some (S', a') => F (S ++ S') a') :
    X = match segAt b a with | none => none | some ((t, s, n), ap) => if f < K.length then (match rowAt' b K (m - (i + 1)) t ap with | none => none | some (S', a') => F ((S ++ [(⟨ky K f, s, n, f, t⟩ : Seg)]) ++ S') a') else none := by
  rw [h, show m - i = (m - (i + 1)) + 1 by omega, rowAt_succ]
  cases segAt b a with
  | none => rfl
  | some q =>
    obtain ⟨⟨t, s, n⟩, ap⟩ := q
    dsimp only
    by_cases hf : f < K.length
    · rw [if_pos hf, if_pos hf]
      cases rowAt' b K (m - (i + 1)) t ap with
      | none => rfl
      | some q => simp
    · rw [if_neg hf, if_neg hf]

set_option maxHeartbeats 32000000 in
theorem r12Get_calls (A : Option Addr) (n c : Nat) (bs : List UInt8) (hn : n = bs.length) (hb : bs.length ≤ 2147483648) (w : World) (hr : RdC w A (bs.map bv)) :
    Calls Tryz.prog 18 #[.slice A n c] w (RGetOut (bstr bs) w) := by
  obtain ⟨b, hbb⟩ : ∃ b, bstr bs = b := ⟨_, rfl⟩
  have hbs : b.size ≤ 2147483648 := by rw [← hbb, bstr_size]; exact hb
  have hbm : b.size ≤ maxLen := by unfold maxLen; omega
  have NEW : Hid (Calls Tryz.prog 49 #[.slice A n c] w fun e w'' => ∃ g, e = .returned (.pointer (some ⟨g, 0, none⟩)) ∧ IsRP w'' (fun k => w.heap.size ≤ k ∧ k < g) g b 0 ∧ w.heap.size ≤ g ∧ Fr w w'') := by rw [← hbb]; exact oRNewP_calls A n c bs w hn (by omega) hr
  rw [hbb]
  have HBM := Lib.hid hbm
  clear hbb hr hn hb hbm
  go_enter Tryz.func18, Tryz.ntmps18
  go_wp2_with fail
  refine NEW.out.mono ?_
  rintro _ w1 ⟨g, rfl, hR, hg, hf1⟩
  obtain ⟨B0, hB0⟩ : ∃ B0, B0 = fun k => w.heap.size ≤ k ∧ k < g := ⟨_, rfl⟩
  rw [← hB0] at hR
  have HB0 : Hid (∀ k, B0 k → k < g) := fun k hk => by rw [hB0] at hk; exact hk.2
  have HG : Hid (w.heap.size ≤ g) := hg
  have HR1 := Lib.hid hR
  have HF1 := Lib.hid hf1
  clear hB0 hR hf1 hg NEW
  have CNT := Lib.hid (fun a' (m : Nat) (hm : m ≤ 9223372036854775807) w' (h : IsRP w' B0 g b a') => rcnt_any B0 g b a' m hm w' h)
  have FLT := Lib.hid (fun a' w' (h : IsRP w' B0 g b a') => rflt_any B0 g b a' w' h)
  have WD := rwordP_calls B0 g b 0 incW w1 HR1.out HBM.out
  obtain ⟨V, hV⟩ : ∃ V, (rdW b 0 incW).1 = V := ⟨_, rfl⟩
  rw [hV] at WD
  have WD := Lib.hid WD
  have FRM : Hid (∀ wa wb, Fr w wa → Mv (one1 g) wa wb → Fr w wb) := fun wa wb h hm => h.mv hm (fun k hk => by have := HG.out; have : k = g := hk; omega)
  go_wp2_with fail
  refine WD.out.mono ?_
  rintro _ w2 ⟨rfl, hR, hgr⟩
  have HF2 : Hid (Fr w w2) := FRM.out _ _ HF1.out (mv_grown hgr)
  have HR2 := Lib.hid hR
  clear hR hgr WD HR1 HF1
  by_cases hV0 : V = 0
  rotate_left
  · have HNO : Hid (getB b = none) := getB_none (by unfold decB; rw [if_pos (by rw [hV]; exact hV0)])
    have g1 : (V != 0) = true := by simpa using hV0
    clear hV hV0
    go_wp2_with fail
    go_ret2
    exact rOut_no HNO (HF2.out)
  subst hV0
  obtain ⟨hp4, hl4⟩ := rdW_yes hV
  rw [hp4] at HR2
  have HD := Lib.hid (decB_head hV)
  have hl4 : 4 ≤ b.size := hl4
  clear hV hp4
  go_wp2_with fail
  refine (CNT.out 4 64 (by decide) w2 HR2.out).mono ?_
  rintro _ w3 ⟨eps, a1, v, rfl, hR, hm, hor⟩
  have HF3 : Hid (Fr w w3) := FRM.out _ _ HF2.out hm
  have HR3 := Lib.hid hR
  clear hR hm HR2 HF2
  rcases hor with ⟨rfl, ho⟩ | ⟨hv, ho⟩
  rotate_left
  · have HNO : Hid (getB b = none) := getB_none (by rw [HD.out, ho])
    have g1 : (v != 0) = true := by simpa using hv
    clear hv ho
    go_wp2_with fail
    go_ret2
    exact rOut_no HNO (HF3.out)
  obtain ⟨p1, p2, p3⟩ := cntAt_some ho
  have HD2 : Hid (decB incW b = match entsOf b a1 with
    | none => none
    | some (E, a2) => match cntAt b a2 4294967296 with
      | none => none
      | some (h, a3) => match levsAt b (keysE E) h a3 with
        | none => none
        | some (Ss, a4) => if b.size = a4 then some (eps, E, Ss) else none) := by rw [Hid, HD.out, ho] <;> rfl
  clear ho HD
  by_cases heps : eps < 2
  · have HNO : Hid (getB b = none) := by
      rw [Hid]
      cases hd : decB incW b with
      | none => exact getB_none hd
      | some x =>
        obtain ⟨e', E', S'⟩ := x
        have he : e' = eps := by
          have h9 := HD2.out
          rw [hd] at h9
          clear HD2
          revert h9
          cases entsOf b a1 with
          | none => intro h9; cases h9
          | some x =>
            obtain ⟨E1, a2⟩ := x
            dsimp only
            cases cntAt b a2 4294967296 with
            | none => intro h9; cases h9
            | some x =>
              obtain ⟨h1, a3⟩ := x
              dsimp only
              cases levsAt b (keysE E1) h1 a3 with
              | none => intro h9; cases h9
              | some x =>
                obtain ⟨S1, a4⟩ := x
                dsimp only
                intro h9
                split at h9
                · injection h9 with h9; injection h9 with h9 _
                · cases h9
        exact getB_no hd (fun h9 => by omega)
    have g1 : decide (eps < 2) = true := decide_eq_true heps
    have g1i : decide ((eps : Int) < 2) = true := decide_eq_true (by omega)
    clear heps
    go_wp2_with fail
    go_ret2
    exact rOut_no HNO (HF3.out)
  have g1 : decide (eps < 2) = false := decide_eq_false heps
  have g1i : decide ((eps : Int) < 2) = false := decide_eq_false (by omega)
  have EN := r12Read_calls B0 g b a1 w3 HR3.out HB0.out hbs
  go_wp2_with fail
  rcases hk2 : entsOf b a1 with _ | ⟨E, a2⟩
  · have HNO : Hid (getB b = none) := getB_none (by rw [HD2.out, hk2])
    rw [hk2] at EN
    clear hk2
    refine EN.mono ?_
    rintro _ w4 ⟨hm, rfl⟩
    have HF4 : Hid (Fr w w4) := FRM.out _ _ HF3.out hm
    clear hm EN
    go_wp2_with fail
    go_ret2
    exact rOut_no HNO (HF4.out)
  obtain ⟨q1, q2, q3, q4⟩ := entsOf_some hk2
  rw [hk2] at EN
  have HD3 : Hid (decB incW b = match cntAt b a2 4294967296 with
      | none => none
      | some (h, a3) => match levsAt b (keysE E) h a3 with
        | none => none
        | some (Ss, a4) => if b.size = a4 then some (eps, E, Ss) else none) := by rw [Hid, HD2.out, hk2]
  have HEO := Lib.hid q4
  clear hk2 HD2 q1 q4
  refine EN.mono ?_
  rintro _ w4 ⟨hm, A', c', rfl, hown, hR⟩
  obtain ⟨n, hn⟩ : ∃ n, E.length = n := ⟨_, rfl⟩
  rw [hn] at hown q3 ⊢
  have HN := Lib.hid hn
  have HF4 : Hid (Fr w w4) := FRM.out _ _ HF3.out hm
  have HR4 := Lib.hid hR
  have HG3 : Hid (g < w3.heap.size) := HR3.out.lt
  have HOE4 : Hid (Own w4 (g + 1) 52 3 A' n c' (E.flatMap encells)) := hown.mono HG3.out
  clear hm hR hown hn EN HR3 HF3
  go_wp2_with fail
  refine (CNT.out a2 4294967296 (by decide) w4 HR4.out).mono ?_
  rintro _ w5 ⟨h, a3, v, rfl, hR, hm, hor⟩
  have HF5 : Hid (Fr w w5) := FRM.out _ _ HF4.out hm
  have HR5 := Lib.hid hR
  have HOE5 : Hid (Own w5 (g + 1) 52 3 A' n c' (E.flatMap encells)) := HOE4.out.mv hm (fun k hk h => by have := (HOE4.out.lt k hk).1; have : k = g := h; omega)
  clear hR hm HR4 HF4 HOE4
  rcases hor with ⟨rfl, ho⟩ | ⟨hv, ho⟩
  rotate_left
  · have HNO : Hid (getB b = none) := getB_none (by rw [HD3.out, ho])
    have g1 : (v != 0) = true := by simpa using hv
    clear hv ho
    go_wp2_with fail
    go_ret2
    exact rOut_no HNO (HF5.out)
  obtain ⟨r1, r2, r3⟩ := cntAt_some ho
  have HD4 : Hid (decB incW b = match levsAt b (keysE E) h a3 with
    | none => none
    | some (Ss, a4) => if b.size = a4 then some (eps, E, Ss) else none) := by rw [Hid, HD3.out, ho]
  clear ho HD3
  go_wp2_with fail
  go_loopw [10, 11] (fun v10 v11 wr => ∃ (i : Nat) (Ak : Option Addr) (ck : Nat), v10 = .slice Ak i ck ∧ v11 = .int .i64 i ∧ i ≤ n ∧ Hid (Own wr w5.heap.size 50 1 Ak i ck (((keysE E).take i).map uv)) ∧ Hid (Fr w5 wr)) (fun _ v11 _ => n - (intOf v11).toNat)
  case atStart => exact ⟨0, none, 0, rfl, rfl, by omega, Own.nil _ _ _ _, Fr.refl _⟩
  case round =>
    obtain ⟨i, Ak, ck, rfl, rfl, hin, hok, hff⟩ := hrel
    rcases Nat.lt_or_ge i n with hlt | hge
    · have d1 : decide (i < n) = true := decide_eq_true hlt
      have d2 : (i : Int) < (n : Int) := by omega
      have wi : IntKind.i64.wrap ((i : Int) + 1) = (i : Int) + 1 := wrap_i64_in _ (by omega) (by omega)
      have hiS : i < E.length := by have := HN.out; omega
      obtain ⟨bb, off, hA, hc⟩ := rdc_ent (HOE5.out.rd.fr hff.out) (by omega)
      subst hA
      obtain ⟨y0, y1, y2⟩ := hc i hiS
      obtain ⟨s, hs⟩ : ∃ s, E[i] = s := ⟨_, rfl⟩
      rw [hs] at y0 y1 y2
      have HTK : Hid (((keysE E).take (i + 1)).map uv = ((keysE E).take i).map uv ++ [.int .u64 s.key]) := by
        rw [Hid, List.take_add_one]
        unfold keysE
        simp [hiS, hs, uv]
      clear hc hs
      go_wp2_with (at_builtin; refine gate ?_)
      refine gate_app rfl _ _ 57 rfl 50 (.int .u64 0) 1 8 Tryz.underlying57 info_u64r rfl (by omega) (by omega) w5.heap.size Ak i ck (((keysE E).take i).map uv) (some ⟨wr.heap.size, 0, none⟩) 1 1 [.int .u64 s.key] (by rfl) (by rfl)
        (hok.out.fr ((Fr.refl wr).alloc _)) rfl (RdC.blk (Blk.new wr _ _)) (by intro u hu; simp at hu; subst hu; rfl) (by omega) (by have := hff.out.size; simp; omega) ?_
      intro A6 c6 w9 hown6 hgr6 hat6
      have HF9 : Hid (Fr w5 w9) := (hff.out.alloc _).grown hgr6.out (fun k hk => (hok.out.lt k hk).1)
      have HOWN9 := hown6
      clear hown6 hgr6 hat6
      go_wp2_with fail
      exact ⟨⟨i + 1, A6, c6, rfl, rfl, by omega, by rw [Hid, HTK.out]; exact HOWN9.out, HF9.out⟩, by simp only [intOf]; omega⟩
    · obtain rfl : i = n := by omega
      have d1 : decide (i < i) = false := by simp
      have HOK : Hid (Own wr (g + 1) 50 1 Ak i ck ((keysE E).map uv)) := by
        have h9 := hok.out
        rw [List.take_of_length_le (by rw [keysE_len, HN.out]; exact Nat.le_refl _)] at h9
        exact h9.mono (by have := HR5.out.lt; omega)
      have HR6 : Hid (IsRP wr B0 g b a3) := HR5.out.grown hff.out
      have HF6 : Hid (Fr w wr) := HF5.out.trans hff.out
      have HOE6 : Hid (Own wr (g + 1) 52 3 A' i c' (E.flatMap encells)) := HOE5.out.fr hff.out
      obtain ⟨w6, hw6⟩ : ∃ w6, w6 = wr := ⟨_, rfl⟩
      subst hw6
      clear hok hff HR5 HF5 HOE5
      go_wp2_with fail
      go_loopw [10, 12, 13] (fun v10 v12 v13 wr => ∃ (j : Nat) (K : List Int) (aj : Nat) (Ak : Option Addr) (nk ck : Nat) (Au : Option Addr) (cu : Nat) (us : List Value) (Ss : List (List Seg)), v10 = .slice Ak nk ck ∧ v12 = .slice Au j cu ∧ v13 = .int .i64 j ∧ j ≤ h ∧ nk ≤ 268435456 ∧ aj ≤ b.size ∧ 8 * j ≤ aj ∧ Hid (nk = K.length) ∧ Hid (KeysOk K) ∧
        Hid (Own wr (g + 1) 50 1 Ak nk ck (K.map uv)) ∧ Hid (Ss.length = j) ∧ Hid (∀ S ∈ Ss, S.length ≤ 268435456 ∧ ∀ s ∈ S, SegFit s) ∧ Hid (Own wr (g + 1) 62 1 Au j cu us) ∧ Hid (RowsO wr (g + 1) us Ss) ∧ Hid (IsRP wr B0 g b aj) ∧ Hid (Fr w wr) ∧ Hid (Own wr (g + 1) 52 3 A' i c' (E.flatMap encells)) ∧
        Hid (decB incW b = match levsAt b K (h - j) aj with | none => none | some (S', a') => if b.size = a' then some (eps, E, Ss ++ S') else none)) (fun _ _ v13 _ => h - (intOf v13).toNat)
      case atStart => exact ⟨0, keysE E, a3, Ak, i, ck, none, 0, [], [], rfl, rfl, rfl, by omega, by omega, r2, by omega, by rw [Hid, keysE_len, HN.out], keysE_ok HEO.out, HOK.out, rfl, fun S hS => by simp at hS, Own.nil _ _ _ _, trivial, HR6.out, HF6.out, HOE6.out, by rw [Hid, HD4.out] <;> rfl⟩
      case round =>
        obtain ⟨j, K, aj, Ak, nk, ck, Au, cu, us, Ss, rfl, rfl, rfl, hjh, hnk, haj, h8j, hnK, hKo, hok, hSl, hSf, hou, hrs, hR, hF, hoe, hD⟩ := hrel
        obtain ⟨wo, hwo⟩ : ∃ wo, wo = wr := ⟨_, rfl⟩
        subst hwo
        have HGO : Hid (g < wo.heap.size) := hR.out.lt
        rcases Nat.lt_or_ge j h with hlt | hge
        · have e1 : decide (j < h) = true := decide_eq_true hlt
          have e2 : (j : Int) < (h : Int) := by omega
          have wi : IntKind.i64.wrap ((j : Int) + 1) = (j : Int) + 1 := wrap_i64_in _ (by omega) (by omega)
          have HD5 := Lib.hid (levs_step hlt hD.out)
          clear hD
          go_wp2_with fail
          refine (CNT.out aj 4294967296 (by decide) wo hR.out).mono ?_
          rintro _ w7 ⟨m, b1, v, rfl, hR7, hm7, hor⟩
          have HR7 := Lib.hid hR7
          have HM7 : Hid (Mv (one1 g) wo w7) := hm7
          clear hR7 hm7
          rcases hor with ⟨rfl, ho⟩ | ⟨hv, ho⟩
          rotate_left
          · have HNO : Hid (getB b = none) := getB_none (by rw [HD5.out]; unfold rowOf; rw [ho])
            have g1 : (v != 0) = true := by simpa using hv
            clear hv ho
            go_wp2_with fail
            go_ret2
            exact rOut_no HNO (FRM.out _ _ hF.out HM7.out)
          obtain ⟨s1, s2, s3⟩ := cntAt_some ho
          have HD6 : Hid (decB incW b = match rowAt' b K m 0 b1 with
            | none => none
            | some (S, a2) => match levsAt b (firstsOf S) (h - (j + 1)) a2 with | none => none | some (S', a') => if b.size = a' then some (eps, E, (Ss ++ [S]) ++ S') else none) := by rw [Hid, HD5.out]; unfold rowOf; rw [ho] <;> rfl
          obtain ⟨F, hF9⟩ : ∃ F : List Seg → Nat → Option (Nat × List Ent × List (List Seg)), F = fun S a2 => match levsAt b (firstsOf S) (h - (j + 1)) a2 with | none => none | some (S', a') => if b.size = a' then some (eps, E, (Ss ++ [S]) ++ S') else none := ⟨_, rfl⟩
          have HFF := Lib.hid hF9
          have HD7 : Hid (decB incW b = match rowAt' b K m 0 b1 with | none => none | some (S, a2) => F S a2) := by rw [Hid, HD6.out, hF9]
          clear ho HD5 HD6 hF9
          have HZ : Hid (g < w7.heap.size) := HR7.out.lt
          go_wp2_with fail
          go_loopw [16, 17, 18, 19] (fun v16 v17 v18 v19 wr => ∃ (i2 ai f : Nat) (Ar : Option Addr) (cr : Nat) (A2 : Option Addr) (c2 : Nat) (S : List Seg), v16 = .slice Ar i2 cr ∧ v17 = .slice A2 i2 c2 ∧ v18 = .int .i64 f ∧ v19 = .int .i64 i2 ∧ i2 ≤ m ∧ f ≤ 4294967296 ∧ b1 + 24 * i2 ≤ ai ∧ ai ≤ b.size ∧ Hid (S.length = i2) ∧ Hid (∀ s ∈ S, SegFit s) ∧
            Hid (Own wr w7.heap.size 65 5 Ar i2 cr (S.flatMap sgcells)) ∧ Hid (Own wr w7.heap.size 50 1 A2 i2 c2 ((firstsOf S).map uv)) ∧ Hid (IsRP wr B0 g b ai) ∧ Hid (Mv (one1 g) w7 wr) ∧ Hid (decB incW b = match rowAt' b K (m - i2) f ai with | none => none | some (S', a') => F (S ++ S') a')) (fun _ _ _ v19 _ => m - (intOf v19).toNat)
          case atStart => exact ⟨0, b1, 0, none, 0, none, 0, [], rfl, rfl, rfl, rfl, by omega, by omega, by omega, s2, rfl, fun s hs => by simp at hs, Own.nil _ _ _ _, Own.nil _ _ _ _, HR7.out, Mv.refl _ _, by rw [Hid, HD7.out] <;> rfl⟩
          case round =>
            obtain ⟨i2, ai, f, Ar, cr, A2, c2, S, rfl, rfl, rfl, rfl, hin2, hf32, h24, hai, hll, hsf, hor, ho2, hR8, hM8, hD8⟩ := hrel
            obtain ⟨wz, hwz⟩ : ∃ wz, wz = wr := ⟨_, rfl⟩
            subst hwz
            rcases Nat.lt_or_ge i2 m with hlt2 | hge2
            · have e5 : decide (i2 < m) = true := decide_eq_true hlt2
              have e6 : (i2 : Int) < (m : Int) := by omega
              have wi2 : IntKind.i64.wrap ((i2 : Int) + 1) = (i2 : Int) + 1 := wrap_i64_in _ (by omega) (by omega)
              have HD9 := Lib.hid (row_in hlt2 hD8.out)
              clear hD8
              go_wp2_with fail
              refine (CNT.out ai 4294967296 (by decide) wz hR8.out).mono ?_
              rintro _ wa ⟨t, q1, v1, rfl, hRa, hma, ho1⟩
              have HRa := Lib.hid hRa
              have HZA : Hid (Mv (one1 g) wz wa) := hma
              have HMa : Hid (Mv (one1 g) w7 wa) := hM8.out.trans' hma
              have HO1 := Lib.hid ho1
              clear hRa hma ho1
              go_wp2_with fail
              refine (FLT.out q1 wa HRa.out).mono ?_
              rintro _ wb ⟨sl, q2', v2, rfl, hRb, hmb, ho2'⟩
              have HRb := Lib.hid hRb
              have HZB : Hid (Mv (one1 g) wz wb) := HZA.out.trans' hmb
              have HMb : Hid (Mv (one1 g) w7 wb) := HMa.out.trans' hmb
              have HO2 := Lib.hid ho2'
              clear hRb hmb ho2'
              go_wp2_with fail
              refine (FLT.out q2' wb HRb.out).mono ?_
              rintro _ wc ⟨ic, q3', v3, rfl, hRc, hmc, ho3⟩
              have HRc := Lib.hid hRc
              have HMc : Hid (Mv (one1 g) w7 wc) := HMb.out.trans' hmc
              have HO3 := Lib.hid ho3
              have hmac : Hid (Mv (one1 g) wz wc) := HZB.out.trans' hmc
              clear hRc hmc ho3
              rcases HO1.out with ⟨rfl, p1⟩ | ⟨hv, p1⟩
              rotate_left
              · have HNO : Hid (getB b = none) := getB_none (by rw [HD9.out, segAt_no1 p1])
                have g1 : (v1 != 0) = true := by simpa using hv
                clear hv p1 HO1 HO2 HO3
                go_wp2_with fail
                go_ret2
                exact rOut_no HNO (FRM.out _ _ (FRM.out _ _ hF.out HM7.out) HMc.out)
              obtain ⟨k1, k2, k3⟩ := cntAt_some p1
              rcases HO2.out with ⟨rfl, p2⟩ | ⟨hv, p2⟩
              rotate_left
              · have HNO : Hid (getB b = none) := getB_none (by rw [HD9.out, segAt_no2 p1 p2])
                have g1 : (v2 != 0) = true := by simpa using hv
                clear hv p1 p2 HO1 HO2 HO3
                go_wp2_with fail
                go_ret2
                exact rOut_no HNO (FRM.out _ _ (FRM.out _ _ hF.out HM7.out) HMc.out)
              rcases HO3.out with ⟨rfl, p3⟩ | ⟨hv, p3⟩
              rotate_left
              · have HNO : Hid (getB b = none) := getB_none (by rw [HD9.out, segAt_no3 p1 p2 p3])
                have g1 : (v3 != 0) = true := by simpa using hv
                clear hv p1 p2 p3 HO1 HO2 HO3
                go_wp2_with fail
                go_ret2
                exact rOut_no HNO (FRM.out _ _ (FRM.out _ _ hF.out HM7.out) HMc.out)
              have hsa := segAt_yes p1 p2 p3
              obtain ⟨z1, z2, z3, z4, z5⟩ := segAt_some hsa
              by_cases hfk : f < nk
              rotate_left
              · have HNO : Hid (getB b = none) := getB_none (by rw [HD9.out, hsa]; dsimp only; rw [if_neg (by have := hnK.out; omega)])
                have g1 : decide (f ≥ nk) = true := decide_eq_true (by omega)
                have g2 : decide ((f : Int) ≥ (nk : Int)) = true := decide_eq_true (by omega)
                clear p1 p2 p3 hsa HO1 HO2 HO3 hfk
                go_wp2_with fail
                go_ret2
                exact rOut_no HNO (FRM.out _ _ (FRM.out _ _ hF.out HM7.out) HMc.out)
              have hfK : f < K.length := by have := hnK.out; omega
              have g1 : decide (f ≥ nk) = false := decide_eq_false (by omega)
              have g2 : decide ((f : Int) ≥ (nk : Int)) = false := decide_eq_false (by omega)
              have g3 : (f : Int) < (nk : Int) := by omega
              obtain ⟨kk, hkk⟩ : ∃ kk, ky K f = kk := ⟨_, rfl⟩
              have HDN : Hid (decB incW b = match rowAt' b K (m - (i2 + 1)) t q3' with | none => none | some (S', a') => F ((S ++ [(⟨kk, sl, ic, f, t⟩ : Seg)]) ++ S') a') := by rw [Hid, HD9.out, hsa]; dsimp only; rw [if_pos hfK, hkk]
              have HKR : Hid (0 ≤ kk ∧ kk < 18446744073709551616) := by rw [← hkk]; exact hKo.out.ky hfK
              have HOA : Hid (∀ w', Mv (one1 g) w7 w' → RdC w' Ak (K.map uv)) := fun w' h9 => (hok.out.rd.mv HM7.out (fun k hk h => by have := (hok.out.lt k hk).1; have : k = g := h; omega)).mv h9 (fun k hk h => by have := (hok.out.lt k hk).1; have : k = g := h; omega)
              obtain ⟨bk, ok, hA9, hck⟩ := rdc_ky (HOA.out wc HMc.out) (by omega)
              subst hA9
              have y9 := hck f hfK
              rw [hkk] at y9
              have HCK := Lib.hid hkk
              clear p1 p2 p3 hsa HO1 HO2 HO3 hfk hck hkk HD9
              go_wp2_with (at_builtin; refine gate ?_)
              have HORc : Hid (Own wc w7.heap.size 65 5 Ar i2 cr (S.flatMap sgcells)) := hor.out.mv hmac.out (fun k hk h => by have := (hor.out.lt k hk).1; have := HZ.out; have : k = g := h; omega)
              have HO2c : Hid (Own wc w7.heap.size 50 1 A2 i2 c2 ((firstsOf S).map uv)) := ho2.out.mv hmac.out (fun k hk h => by have := (ho2.out.lt k hk).1; have := HZ.out; have : k = g := h; omega)
              have HSC : Hid (w7.heap.size ≤ wc.heap.size) := HMc.out.size
              refine gate_app rfl _ _ 62 rfl 65 (.agg #[.int .u64 0, .float .f64 0, .float .f64 0, .int .i64 0, .int .i64 0]) 5 40 Tryz.underlying62 info_seg rfl (by omega) (by omega) w7.heap.size Ar i2 cr (S.flatMap sgcells) (some ⟨wc.heap.size, 0, none⟩) 1 1 ([(⟨kk, sl, ic, f, t⟩ : Seg)].flatMap sgcells) (by rfl) (by rfl)
                (HORc.out.fr ((Fr.refl wc).alloc _)) rfl (RdC.blk (Blk.new wc _ _)) (seg_one [(⟨kk, sl, ic, f, t⟩ : Seg)]) (by omega) (by have := HSC.out; simp; omega) ?_
              intro A8 c8 w8 hown8 hgr8 hat8
              have hm8 : Hid (Mv (fun k => ablk Ar = some k) wc w8) := ((Mv.of_fr ((Fr.refl wc).alloc _)).grown hgr8.out (fun j hj => .inl hj))
              have HM8' : Hid (Mv (one1 g) w7 w8) := HMc.out.trans hm8.out (fun k hk => .inr (HORc.out.lt k hk).1)
              have HR8' : Hid (IsRP w8 B0 g b q3') := HRc.out.mvx hm8.out (fun k hk h => by have := (HORc.out.lt _ h).1; have := HZ.out; rcases hk with hk | hk; (have := HB0.out k hk; omega); omega)
              have HO28 : Hid (Own w8 w7.heap.size 50 1 A2 i2 c2 ((firstsOf S).map uv)) := HO2c.out.mv hm8.out (fun k hk h => by
                obtain ⟨cs, h9⟩ := own_ty HO2c.out hk
                exact own_not_blk0 HORc.out (by decide) k h h9)
              have HOR8 := hown8
              obtain ⟨bk2, ok2, hA92, hck2⟩ := rdc_ky (HOA.out w8 HM8'.out) (by omega)
              injection hA92 with hA92
              injection hA92 with hbk2 hok2
              subst hbk2; subst hok2
              have y8 := hck2 f hfK
              rw [HCK.out] at y8
              clear hown8 hgr8 hat8 HORc HO2c hm8 hck2 y9
              go_wp2_with (at_builtin; refine gate ?_)
              have HS8 : Hid (w7.heap.size ≤ w8.heap.size) := HM8'.out.size
              refine gate_app rfl _ _ 57 rfl 50 (.int .u64 0) 1 8 Tryz.underlying57 info_u64r rfl (by omega) (by omega) w7.heap.size A2 i2 c2 ((firstsOf S).map uv) (some ⟨w8.heap.size, 0, none⟩) 1 1 [.int .u64 kk] (by rfl) (by rfl)
                (HO28.out.fr ((Fr.refl w8).alloc _)) rfl (RdC.blk (Blk.new w8 _ _)) (by intro u hu; simp at hu; subst hu; rfl) (by omega) (by have := HS8.out; simp; omega) ?_
              intro A9 c9 w9 hown9 hgr9 hat9
              have hm9 : Hid (Mv (fun k => ablk A2 = some k) w8 w9) := ((Mv.of_fr ((Fr.refl w8).alloc _)).grown hgr9.out (fun j hj => .inl hj))
              have HM9 : Hid (Mv (one1 g) w7 w9) := HM8'.out.trans hm9.out (fun k hk => .inr (HO28.out.lt k hk).1)
              have HR9 : Hid (IsRP w9 B0 g b q3') := HR8'.out.mvx hm9.out (fun k hk h => by have := (HO28.out.lt _ h).1; have := HZ.out; rcases hk with hk | hk; (have := HB0.out k hk; omega); omega)
              have HOR9 : Hid (Own w9 w7.heap.size 65 5 A8 (i2 + 1) c8 ((S ++ [(⟨kk, sl, ic, f, t⟩ : Seg)]).flatMap sgcells)) := by
                have h9 := HOR8.out.mv hm9.out (fun k hk h => by
                  obtain ⟨cs, h9⟩ := own_ty HOR8.out hk
                  exact own_not_blk0 HO28.out (by decide) k h h9)
                rw [Hid, List.flatMap_append]
                exact h9
              have HO29 : Hid (Own w9 w7.heap.size 50 1 A9 (i2 + 1) c9 ((firstsOf (S ++ [(⟨kk, sl, ic, f, t⟩ : Seg)])).map uv)) := by
                have h9 := hown9.out
                rw [Hid]
                simpa [firstsOf, uv] using h9
              clear hown9 hgr9 hat9 hm9 HOR8 HO28 y8
              go_wp2_with fail
              exact ⟨⟨i2 + 1, q3', t, A8, c8, A9, c9, S ++ [(⟨kk, sl, ic, f, t⟩ : Seg)], rfl, rfl, rfl, rfl, by omega, z3, by omega, by omega, by rw [Hid, List.length_append, hll.out] <;> rfl, by
                intro s hs
                rcases List.mem_append.1 hs with hs | hs
                · exact hsf.out s hs
                · rw [List.mem_singleton.1 hs]; exact ⟨⟨z4, z5⟩, HKR.out⟩, HOR9.out, HO29.out, HR9.out, HM9.out, HDN.out⟩, by simp only [intOf]; omega⟩
            · obtain rfl : i2 = m := by omega
              have e5 : decide (i2 < i2) = false := by simp
              have HDD : Hid (decB incW b = match levsAt b (firstsOf S) (h - (j + 1)) ai with | none => none | some (S', a') => if b.size = a' then some (eps, E, (Ss ++ [S]) ++ S') else none) := by
                have h9 := hD8.out
                rw [Nat.sub_self] at h9
                unfold rowAt' at h9
                dsimp only at h9
                rw [List.append_nil, HFF.out] at h9
                exact h9
              have HMZ : Hid (Mv (one1 g) wo wz) := HM7.out.trans' hM8.out
              have HGZ : Hid (g < w7.heap.size) := HZ
              have HORz : Hid (Own wz (g + 1) 65 5 Ar i2 cr (S.flatMap sgcells)) := hor.out.mono HGZ.out
              have HO2z : Hid (Own wz (g + 1) 50 1 A2 i2 c2 ((firstsOf S).map uv)) := ho2.out.mono HGZ.out
              have HOUz : Hid (Own wz (g + 1) 62 1 Au j cu us) := hou.out.mv HMZ.out (fun k hk h => by have := (hou.out.lt k hk).1; have : k = g := h; omega)
              have HOEz : Hid (Own wz (g + 1) 52 3 A' i c' (E.flatMap encells)) := hoe.out.mv HMZ.out (fun k hk h => by have := (hoe.out.lt k hk).1; have : k = g := h; omega)
              have HRSz : Hid (RowsO wz (g + 1) us Ss) := hrs.out.mv HMZ.out (fun k h hb _ _ _ => by have : k = g := h; omega)
              have HFz : Hid (Fr w wz) := FRM.out _ _ hF.out HMZ.out
              have HSf : Hid (∀ T ∈ Ss ++ [S], T.length ≤ 268435456 ∧ ∀ s ∈ T, SegFit s) := by
                intro T hT
                rcases List.mem_append.1 hT with hT | hT
                · exact hSf.out T hT
                · rw [List.mem_singleton.1 hT]; exact ⟨by rw [hll.out]; omega, hsf.out⟩
              have HRz := hR8
              clear hD8 hor ho2 hR8 hM8 hou hoe hrs hok
              go_wp2_with (at_builtin; refine gate ?_)
              have hszz : g < wz.heap.size := HRz.out.lt
              refine gate_app rfl _ _ 39 rfl 62 (.slice none 0 0) 1 24 Tryz.underlying39 info_row rfl (by omega) (by omega) (g + 1) Au j cu us (some ⟨wz.heap.size, 0, none⟩) 1 1 [.slice Ar i2 cr] (by rfl) (by rfl)
                (HOUz.out.fr ((Fr.refl wz).alloc _)) rfl (RdC.blk (Blk.new wz _ _)) (by intro u hu; simp at hu; subst hu; rfl) (by omega) (by simp; omega) ?_
              intro A8 c8 w8 hown8 hgr8 hat8
              have hm8 : Hid (Mv (fun k => ablk Au = some k) wz w8) := ((Mv.of_fr ((Fr.refl wz).alloc _)).grown hgr8.out (fun j hj => .inl hj))
              have HGW : Hid (w.heap.size ≤ g) := HG
              have HF8 : Hid (Fr w w8) := HFz.out.mv hm8.out (fun k hk => by have := (HOUz.out.lt k hk).1; have := HGW.out; omega)
              have HR8 : Hid (IsRP w8 B0 g b ai) := HRz.out.mvx hm8.out (fun k hk h => by have := (HOUz.out.lt _ h).1; rcases hk with hk | hk; (have := HB0.out k hk; omega); omega)
              have HO8 : Hid (Own w8 (g + 1) 65 5 Ar i2 cr (S.flatMap sgcells)) := HORz.out.mv hm8.out (fun k hk h => by
                obtain ⟨cs, h9⟩ := own_ty HORz.out hk
                exact own_not_blk0 HOUz.out (by decide) k h h9)
              have HO28 : Hid (Own w8 (g + 1) 50 1 A2 i2 c2 ((firstsOf S).map uv)) := HO2z.out.mv hm8.out (fun k hk h => by
                obtain ⟨cs, h9⟩ := own_ty HO2z.out hk
                exact own_not_blk0 HOUz.out (by decide) k h h9)
              have HOE8 : Hid (Own w8 (g + 1) 52 3 A' i c' (E.flatMap encells)) := HOEz.out.mv hm8.out (fun k hk h => by
                obtain ⟨cs, h9⟩ := own_ty HOEz.out hk
                exact own_not_blk0 HOUz.out (by decide) k h h9)
              have HRS8 : Hid (RowsO w8 (g + 1) (us ++ [.slice Ar i2 cr]) (Ss ++ [S])) := by
                have h1 := HRSz.out.mv hm8.out (fun k h _ cs fr he => own_not_blk0 HOUz.out (by decide) k h he)
                have h2 := h1.snoc (S := S) (A := Ar) (c := cr) (by rw [hll.out]; exact HO8.out)
                rw [hll.out] at h2
                exact h2
              have HOU8 := hown8
              clear hown8 hgr8 hat8 HOUz HOEz HRSz HORz HO2z hm8
              go_wp2_with fail
              exact ⟨⟨j + 1, firstsOf S, ai, A2, i2, c2, A8, c8, us ++ [Value.slice Ar i2 cr], Ss ++ [S], rfl, rfl, rfl, by omega, by omega, by omega, by omega, by rw [Hid, ← hll.out]; simp [firstsOf], firsts_ok hsf.out, HO28.out, by rw [Hid, List.length_append, hSl.out] <;> rfl, HSf.out, HOU8.out, HRS8.out, HR8.out, HF8.out, HOE8.out, HDD.out⟩, by simp only [intOf]; omega⟩
        · obtain rfl : j = h := by omega
          have e1 : decide (j < j) = false := by simp
          have HFIN : Hid (decB incW b = if b.size = aj then some (eps, E, Ss) else none) := by
            have h9 := hD.out
            rw [Nat.sub_self] at h9
            unfold levsAt at h9
            dsimp only at h9
            rw [List.append_nil] at h9
            exact h9
          have LF := Lib.hid (rleftP_calls B0 g b aj wo hR.out)
          clear hD
          go_wp2_with fail
          refine LF.out.mono ?_
          rintro _ w7 ⟨rfl, rfl⟩
          by_cases hs : b.size = aj
          rotate_left
          · have HNO : Hid (getB b = none) := getB_none (by rw [HFIN.out, if_neg hs])
            have g1 : ((b.size : Int) - (aj : Int) != 0) = true := by rw [bne_iff_ne]; omega
            clear hs LF
            go_wp2_with fail
            go_ret2
            exact rOut_no HNO hF.out
          have g1 : ((b.size : Int) - (aj : Int) != 0) = false := by rw [bne_eq_false_iff_eq]; omega
          have HFN : Hid (decB incW b = some (eps, E, Ss)) := by rw [Hid, HFIN.out, if_pos hs]
          have OFC := Lib.hid (r11of_calls E A' i c' eps Au j cu us Ss HN.out.symm (by omega) HEO.out hSl.out.symm (by omega) hSf.out wo hoe.out.rd hou.out.rd hrs.out.toR)
          have HGW : Hid (w.heap.size ≤ wo.heap.size) := hF.out.size
          clear hs HFIN LF
          go_wp2_with fail
          refine OFC.out.mono ?_
          rintro _ w8 ⟨hf8, hor⟩
          have HF8 : Hid (Fr w w8) := hF.out.trans hf8
          clear hf8
          rcases hor with ⟨h1, rfl⟩ | ⟨h1, v, hv, h2, rfl⟩ | ⟨h1, h2, hv, rfl⟩ | ⟨h1, h2, h3, x, rfl, hx⟩
          · have HNO : Hid (getB b = none) := getB_no HFN.out (fun h9 => h1 ⟨by omega, by omega⟩)
            clear h1
            go_wp2_with fail
            go_ret2
            exact rOut_no HNO HF8.out
          · have HNO : Hid (getB b = none) := getB_no HFN.out (fun h9 => hv (chk3_eq h9.2.1 h2).symm)
            have g3 : (v != 0) = true := by simpa using hv
            clear h1 h2 hv
            go_wp2_with fail
            go_ret2
            exact rOut_no HNO HF8.out
          · have HNO : Hid (getB b = none) := getB_no HFN.out (fun h9 => hv h9.2.2)
            obtain ⟨V, hV⟩ : ∃ V, checkV (eps : Nat) (keysE E) Ss = V := ⟨_, rfl⟩
            rw [hV] at hv ⊢
            have g3 : (V != 0) = true := by simpa using hv
            clear h1 h2 hv hV
            go_wp2_with fail
            go_ret2
            exact rOut_no HNO HF8.out
          · have HYES : Hid (getB b = some (eps, E, Ss)) := getB_yes HFN.out ⟨⟨by have := h1.1; omega, by have := h1.2; omega⟩, chk3_zero h2, h3⟩
            have HX := Lib.hid hx
            clear h1 h2 h3 hx
            go_wp2_with fail
            go_ret2
            exact rOut_yes HYES HF8.out HGW.out HX.out
end Go.Proofs.YthjimnmgbcckjaaGreat
