/- The walks of package octets' reader (Left, next, Number, Count, Float, Word, Byte, New). -/
import Derived.Test.YtadconkhilnkoaaProg
import Derived.Test.YtadconkhilnkoaaBase
namespace Go.Proofs.Ytadconkhilnkoaa
open Go.RowKit Go.Inc

/-- Block g is an octets.Reader of these bytes, so far read. -/
def IsR (w : World) (g : Nat) (b : ByteArray) (a : Nat) : Prop := w.heap[g]? = some (.cells #[.string b, .int .i64 a] 60 (0, 0))

section
variable {w w' : World} {g : Nat} {b : ByteArray} {a : Nat}
theorem IsR.c0 (h : IsR w g b a) : w.cell? ⟨g, 0, none⟩ = some (.string b) := by
  unfold IsR at h; simp [World.cell?, h]
theorem IsR.c1 (h : IsR w g b a) : w.cell? ⟨g, 1, none⟩ = some (.int .i64 a) := by
  unfold IsR at h; simp [World.cell?, h]
theorem IsR.f (h : IsR w g b a) (o : Nat) : w.frozen? ⟨g, o, none⟩ = false := by
  unfold IsR at h; simp [World.frozen?, h]
theorem IsR.lt (h : IsR w g b a) : g < w.heap.size := (Array.getElem?_eq_some_iff.1 h).1
theorem IsR.drewN (h : IsR w g b a) (n : Nat) : IsR (w.drewN n) g b a := h
theorem IsR.below (h : IsR w g b a) (hb : Below w.heap.size w w') : IsR w' g b a := (hb.block g h.lt).trans h
theorem IsR.grown (h : IsR w g b a) {row : Option Nat} (hg : w.grownBy w' row) (hne : some g ≠ row) : IsR w' g b a := (hg.block g h.lt hne).trans h
theorem IsR.set (h : IsR w g b a) (a' : Nat) : IsR (w.setCell ⟨g, 1, none⟩ (.int .i64 a')) g b a' := by
  unfold IsR at *
  simp [World.setCell, Array.getElem?_modify, h]
end

theorem IsR.setI {w : World} {g : Nat} {b : ByteArray} {a : Nat} (h : IsR w g b a) (a' : Nat) (v : Int) (hv : v = a') : IsR (w.setCell ⟨g, 1, none⟩ (.int .i64 v)) g b a' := by
  subst hv; exact h.set a'

theorem left_calls (g : Nat) (b : ByteArray) (a : Nat) (w : World) (h : IsR w g b a) (h1 : a ≤ b.size) (hb : b.size ≤ maxLen) :
    Calls Try.prog 17 #[.pointer (some ⟨g, 0, none⟩)] w fun e w' => e = .returned (.int .i64 (b.size - a)) ∧ ∃ n, w' = w.drewN n := by
  unfold maxLen at hb
  have hc0 := h.c0
  have hc1 := h.c1
  clear h
  go_enter Try.func17, Try.ntmps17
  go_wp2
  go_quiet (fail)
  go_wp2
  go_ret
  exact ⟨rfl, _, rfl⟩

/-- What 'next' does with a reader. -/
def NextPost (g : Nat) (b : ByteArray) (a : Nat) (may : Nat → Bool) (w : World) (e : Ending) (w' : World) : Prop :=
  if b.size < a + 8 then e = .returned (.tuple #[.int .u64 0, .int .i64 100]) ∧ ∃ n, w' = w.drewN n
  else if may (be b a 8) = false then e = .returned (.tuple #[.int .u64 0, .int .i64 101]) ∧ ∃ n, w' = w.drewN n
  else e = .returned (.tuple #[.int .u64 (be b a 8), .int .i64 0]) ∧ ∃ n, w' = (w.setCell ⟨g, 1, none⟩ (.int .i64 (a + 8 : Nat))).drewN n

section
variable {w : World} {g : Nat} {b : ByteArray} {a : Nat} {may : Nat → Bool}
theorem NextPost.short (h : b.size < a + 8) (n : Nat) : NextPost g b a may w (.returned (.tuple #[.int .u64 0, .int .i64 100])) (w.drewN n) := by
  unfold NextPost; rw [if_pos h]; exact ⟨rfl, n, rfl⟩
theorem NextPost.form (h : ¬ b.size < a + 8) (hm : may (be b a 8) = false) (n : Nat) : NextPost g b a may w (.returned (.tuple #[.int .u64 0, .int .i64 101])) (w.drewN n) := by
  unfold NextPost; rw [if_neg h, if_pos hm]; exact ⟨rfl, n, rfl⟩
theorem NextPost.read (h : ¬ b.size < a + 8) (hm : may (be b a 8) = true) (n : Nat) :
    NextPost g b a may w (.returned (.tuple #[.int .u64 (be b a 8), .int .i64 0])) ((w.setCell ⟨g, 1, none⟩ (.int .i64 (a + 8 : Nat))).drewN n) := by
  unfold NextPost; rw [if_neg h, if_neg (by simp [hm])]; exact ⟨rfl, n, rfl⟩
end

set_option maxHeartbeats 400000 in
theorem next_calls (g : Nat) (b : ByteArray) (a : Nat) (w : World) (f : FuncId) (cap : Array Value) (may : Nat → Bool)
    (hE : Enters Try.prog f) (hmay : ∀ (n k : Nat), n < 18446744073709551616 → Calls Try.prog f (#[.int .u64 n] ++ cap) (w.drewN k) fun e w' => e = .returned (.bool (may n)) ∧ w.drewN k = w')
    (h : IsR w g b a) (h1 : a ≤ b.size) (hb : b.size ≤ maxLen) :
    Calls Try.prog 32 #[.pointer (some ⟨g, 0, none⟩), .func (.func f) #[] cap] w (NextPost g b a may w) := by
  have H := Lib.hid h; clear h
  have HM := Lib.hid hmay; clear hmay
  unfold maxLen at hb
  by_cases hlt : b.size < a + 8
  · go_enter Try.func32, Try.ntmps32
    go_wp2_with (go_at_call 17; refine (left_calls g b a _ H.out h1 hb).mono ?_; rintro e w' ⟨rfl, n, rfl⟩)
    go_ret2
    exact NextPost.short hlt _
  · go_enter Try.func32, Try.ntmps32
    go_wp2_with (go_at_call 17; refine (left_calls g b a _ H.out h1 hb).mono ?_; rintro e w' ⟨rfl, n, rfl⟩)
    go_loopw [6, 11] (fun v i wr => ∃ k m : Nat, k ≤ 8 ∧ i = .int .i64 k ∧ v = .int .u64 (be b a k) ∧ wr = w.drewN m) (fun _ i _ => 8 - (intOf i).toNat)
    case atStart => exact ⟨0, n, by omega, rfl, rfl, rfl⟩
    case round =>
      obtain ⟨k, m, hk, rfl, rfl, rfl⟩ := hrel
      by_cases hk8 : k < 8
      · have hc0 := H.out.c0
        have hc1 := H.out.c1
        have e1 : IntKind.i64.wrap ((a : Int) + (k : Int)) = (a : Int) + (k : Int) := IntWalk.i64_in _ (by omega)
        have e2 := fun W => run_idx_str (P := Try.prog) 9 Try.underlying9 b .i64 ((a : Int) + (k : Int)) (a + k) (by omega) (by omega) W
        have hlt7 := be_lt b a k
        have hp : 256 ^ k ≤ 256 ^ 7 := Nat.pow_le_pow_right (by omega) (by omega)
        have e5 : IntKind.u64.wrap ((be b a k : Int) * 256) = (be b a k : Int) * 256 := wrap_u64_in _ (by omega) (by omega)
        have e6 := or_byte (be b a k) (bt b (a + k)) (by omega) (bt_lt _ _)
        have e7 := bt_wrap b (a + k)
        clear hlt7 hp
        go_wp2
        go_quiet (fail)
        go_wp2
        refine ⟨⟨k + 1, m + nq, by omega, by go_num, ?_, rfl⟩, by simp [intOf]; omega⟩
        simp only [be]; go_num
      · go_wp2
        obtain rfl : k = 8 := by omega
        have hlt8 := be_lt b a 8
        rw [hE, Oper.upon_enter]
        refine (HM.out (be b a 8) m (by omega)).mono ?_
        rintro e w' ⟨rfl, rfl⟩
        cases hm : may (be b a 8)
        · have HMM := Lib.hid hm; clear hm
          go_wp2
          go_ret2
          exact NextPost.form hlt HMM.out _
        · have HMM := Lib.hid hm; clear hm
          have hc0 := H.out.c0
          have hc1 := H.out.c1
          have hf1 := H.out.f 1
          go_wp2
          go_ret2
          exact NextPost.read hlt HMM.out _

end Go.Proofs.Ytadconkhilnkoaa
