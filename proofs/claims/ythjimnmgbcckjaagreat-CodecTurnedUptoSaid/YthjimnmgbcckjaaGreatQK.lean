/- Parts of this proof, one behind the other: OctR, OctP, OctS. -/
import Derived.Test.YthjimnmgbcckjaaGreatProg
import Derived.Test.YthjimnmgbcckjaaGreatQA
namespace Go.Proofs.YthjimnmgbcckjaaGreat
set_option maxRecDepth 100000
open Go.RowKit Go.Inc

/-- Block g is an octets.Reader of these bytes, so far read. -/
def IsR (w : World) (g : Nat) (b : ByteArray) (a : Nat) : Prop := w.heap[g]? = some (.cells #[.string b, .int .i64 a] 125 (0, 0))

section
variable {w w' : World} {g : Nat} {b : ByteArray} {a : Nat}
theorem IsR.c0 (h : IsR w g b a) : w.cell? ⟨g, 0, none⟩ = some (.string b) := by
  unfold IsR at h; simp [World.cell?, h]
theorem IsR.c1 (h : IsR w g b a) : w.cell? ⟨g, 1, none⟩ = some (.int .i64 a) := by
  unfold IsR at h; simp [World.cell?, h]
theorem IsR.f (h : IsR w g b a) (o : Nat) : w.frozen? ⟨g, o, none⟩ = false := by
  unfold IsR at h; simp [World.frozen?, h]
theorem IsR.lt (h : IsR w g b a) : g < w.heap.size := (Array.getElem?_eq_some_iff.1 h).1
theorem IsR.drewN (h : IsR w g b a) (n : Nat) : IsR (w.drewN n) g b a := h
theorem IsR.below (h : IsR w g b a) (hb : Below w.heap.size w w') : IsR w' g b a := (hb.block g h.lt).trans h
theorem IsR.grown (h : IsR w g b a) {row : Option Nat} (hg : w.grownBy w' row) (hne : some g ≠ row) : IsR w' g b a := (hg.block g h.lt hne).trans h
theorem IsR.set (h : IsR w g b a) (a' : Nat) : IsR (w.setCell ⟨g, 1, none⟩ (.int .i64 a')) g b a' := by
  unfold IsR at *
  simp [World.setCell, Array.getElem?_modify, h]
end

theorem IsR.setI {w : World} {g : Nat} {b : ByteArray} {a : Nat} (h : IsR w g b a) (a' : Nat) (v : Int) (hv : v = a') : IsR (w.setCell ⟨g, 1, none⟩ (.int .i64 v)) g b a' := by
  subst hv; exact h.set a'

theorem left_calls (g : Nat) (b : ByteArray) (a : Nat) (w : World) (h : IsR w g b a) (h1 : a ≤ b.size) (hb : b.size ≤ maxLen) :
    Calls Tryz.prog 44 #[.pointer (some ⟨g, 0, none⟩)] w fun e w' => e = .returned (.int .i64 (b.size - a)) ∧ ∃ n, w' = w.drewN n := by
  unfold maxLen at hb
  have hc0 := h.c0
  have hc1 := h.c1
  clear h
  go_enter Tryz.func44, Tryz.ntmps44
  go_wp2
  go_quiet (fail)
  go_wp2
  go_ret
  exact ⟨rfl, _, rfl⟩

/-- What 'next' does with a reader. -/
def NextPost (g : Nat) (b : ByteArray) (a : Nat) (may : Nat → Bool) (w : World) (e : Ending) (w' : World) : Prop :=
  if b.size < a + 8 then e = .returned (.tuple #[.int .u64 0, .int .i64 100]) ∧ ∃ n, w' = w.drewN n
  else if may (be b a 8) = false then e = .returned (.tuple #[.int .u64 0, .int .i64 101]) ∧ ∃ n, w' = w.drewN n
  else e = .returned (.tuple #[.int .u64 (be b a 8), .int .i64 0]) ∧ ∃ n, w' = (w.setCell ⟨g, 1, none⟩ (.int .i64 (a + 8 : Nat))).drewN n

section
variable {w : World} {g : Nat} {b : ByteArray} {a : Nat} {may : Nat → Bool}
theorem NextPost.short (h : b.size < a + 8) (n : Nat) : NextPost g b a may w (.returned (.tuple #[.int .u64 0, .int .i64 100])) (w.drewN n) := by
  unfold NextPost; rw [if_pos h]; exact ⟨rfl, n, rfl⟩
theorem NextPost.form (h : ¬ b.size < a + 8) (hm : may (be b a 8) = false) (n : Nat) : NextPost g b a may w (.returned (.tuple #[.int .u64 0, .int .i64 101])) (w.drewN n) := by
  unfold NextPost; rw [if_neg h, if_pos hm]; exact ⟨rfl, n, rfl⟩
theorem NextPost.read (h : ¬ b.size < a + 8) (hm : may (be b a 8) = true) (n : Nat) :
    NextPost g b a may w (.returned (.tuple #[.int .u64 (be b a 8), .int .i64 0])) ((w.setCell ⟨g, 1, none⟩ (.int .i64 (a + 8 : Nat))).drewN n) := by
  unfold NextPost; rw [if_neg h, if_neg (by simp [hm])]; exact ⟨rfl, n, rfl⟩
end

set_option maxHeartbeats 400000 in
theorem next_calls (g : Nat) (b : ByteArray) (a : Nat) (w : World) (f : FuncId) (cap : Array Value) (may : Nat → Bool)
    (hE : Enters Tryz.prog f) (hmay : ∀ (n k : Nat), n < 18446744073709551616 → Calls Tryz.prog f (#[.int .u64 n] ++ cap) (w.drewN k) fun e w' => e = .returned (.bool (may n)) ∧ w.drewN k = w')
    (h : IsR w g b a) (h1 : a ≤ b.size) (hb : b.size ≤ maxLen) :
    Calls Tryz.prog 71 #[.pointer (some ⟨g, 0, none⟩), .func (.func f) #[] cap] w (NextPost g b a may w) := by
  have H := Lib.hid h; clear h
  have HM := Lib.hid hmay; clear hmay
  unfold maxLen at hb
  by_cases hlt : b.size < a + 8
  · go_enter Tryz.func71, Tryz.ntmps71
    go_wp2_with (go_at_call 44; refine (left_calls g b a _ H.out h1 hb).mono ?_; rintro e w' ⟨rfl, n, rfl⟩)
    go_ret2
    exact NextPost.short hlt _
  · go_enter Tryz.func71, Tryz.ntmps71
    go_wp2_with (go_at_call 44; refine (left_calls g b a _ H.out h1 hb).mono ?_; rintro e w' ⟨rfl, n, rfl⟩)
    go_loopw [6, 11] (fun v i wr => ∃ k m : Nat, k ≤ 8 ∧ i = .int .i64 k ∧ v = .int .u64 (be b a k) ∧ wr = w.drewN m) (fun _ i _ => 8 - (intOf i).toNat)
    case atStart => exact ⟨0, n, by omega, rfl, rfl, rfl⟩
    case round =>
      obtain ⟨k, m, hk, rfl, rfl, rfl⟩ := hrel
      by_cases hk8 : k < 8
      · have hc0 := H.out.c0
        have hc1 := H.out.c1
        have e1 : IntKind.i64.wrap ((a : Int) + (k : Int)) = (a : Int) + (k : Int) := IntWalk.i64_in _ (by omega)
        have e2 := fun W => run_idx_str (P := Tryz.prog) 9 Tryz.underlying9 b .i64 ((a : Int) + (k : Int)) (a + k) (by omega) (by omega) W
        have hlt7 := be_lt b a k
        have hp : 256 ^ k ≤ 256 ^ 7 := Nat.pow_le_pow_right (by omega) (by omega)
        have e5 : IntKind.u64.wrap ((be b a k : Int) * 256) = (be b a k : Int) * 256 := wrap_u64_in _ (by omega) (by omega)
        have e6 := or_byte (be b a k) (bt b (a + k)) (by omega) (bt_lt _ _)
        have e7 := bt_wrap b (a + k)
        clear hlt7 hp
        go_wp2
        go_quiet (fail)
        go_wp2
        refine ⟨⟨k + 1, m + nq, by omega, by go_num, ?_, rfl⟩, by simp [intOf]; omega⟩
        simp only [be]; go_num
      · go_wp2
        obtain rfl : k = 8 := by omega
        have hlt8 := be_lt b a 8
        rw [hE, Oper.upon_enter]
        refine (HM.out (be b a 8) m (by omega)).mono ?_
        rintro e w' ⟨rfl, rfl⟩
        cases hm : may (be b a 8)
        · have HMM := Lib.hid hm; clear hm
          go_wp2
          go_ret2
          exact NextPost.form hlt HMM.out _
        · have HMM := Lib.hid hm; clear hm
          have hc0 := H.out.c0
          have hc1 := H.out.c1
          have hf1 := H.out.f 1
          go_wp2
          go_ret2
          exact NextPost.read hlt HMM.out _

end Go.Proofs.YthjimnmgbcckjaaGreat
namespace Go.Proofs.YthjimnmgbcckjaaGreat
set_option maxRecDepth 100000
open Go.RowKit Go.Inc

theorem info_u8 : (Tryz.prog.info? 5).map (fun i => (i.zero, i.size, i.bytes)) = some (some (.int .u8 0), 1, 1) := by kernel_rfl
theorem size_u8 : (Tryz.prog.info? 5).map (·.size) = some 1 := by kernel_rfl

/-- Put: a new block with the bytes and the number's eight. -/
def PutPost (bs : List UInt8) (x : Nat) (w : World) (e : Ending) (w' : World) : Prop :=
  ∃ g, e = .returned (.slice (some ⟨g, 0, none⟩) (bs.length + 8) (bs.length + 8)) ∧ Blk w' g ((bs ++ be8 x).map bv) 5 ∧ w.heap.size ≤ g ∧ Fr w w'

set_option maxHeartbeats 1000000 in
theorem put_calls (A : Option Addr) (n c : Nat) (bs : List UInt8) (x : Nat) (w : World) (hx : x < 18446744073709551616) (hn : n = bs.length) (hb : bs.length ≤ 281474976710648) (h : RdC w A (bs.map bv)) :
    Calls Tryz.prog 30 #[.slice A n c, .int .u64 x] w (PutPost bs x w) := by
  subst hn
  have H := Lib.hid h; clear h
  have hmk := fun W => run_mk1 (P := Tryz.prog) 31 5 (.int .u8 0) 1 Tryz.underlying31 info_u8 rfl W ((bs.length : Int) + 8) (bs.length + 8) (by omega) (by omega) (by omega)
  have HX := Lib.hid hx; clear hx
  go_enter Tryz.func30, Tryz.ntmps30
  go_wp2
  obtain ⟨w1, hr, hblk, hgr, hsz⟩ := run_copy1 (P := Tryz.prog) 31 31 3 5 Tryz.underlying31 size_u8 (w.alloc (.cells (arr (List.replicate (bs.length + 8) (.int .u8 0))) 5)) w.heap.size (bs.length + 8) (bs.length + 8) A bs.length c (bs.map bv) _ (by simp) (by omega) (by simp) (Blk.new w _ _) (H.out.fr ((Fr.refl w).alloc _)) (by simp [bv, Value.oneCell'])
  have hfr : Fr w w1 := ((Fr.refl w).alloc _).grown hgr (by simp)
  have hb0 : Blk w1 w.heap.size (((bs ++ (be8 x).take 0).map bv) ++ List.replicate (8 - 0) (.int .u8 0)) 5 := by
    simpa [List.drop_replicate] using hblk
  clear hblk hgr hsz
  rw [hr]
  clear hr
  have HF := Lib.hid hfr; have HB := Lib.hid hb0
  clear hfr hb0
  go_wp2
  go_loopw [14] (fun i wr => ∃ k : Nat, k ≤ 8 ∧ i = .int .i64 k ∧ Hid (Blk wr w.heap.size (((bs ++ (be8 x).take k).map bv) ++ List.replicate (8 - k) (.int .u8 0)) 5) ∧ Hid (Fr w wr)) (fun i _ => 8 - (intOf i).toNat)
  case atStart => exact ⟨0, by omega, rfl, HB, HF⟩
  case round =>
    obtain ⟨k, hk, rfl, hb1, hf1⟩ := hrel
    by_cases hk8 : k < 8
    · have e2 := be8_u8 x (7 - k)
      rw [← pow_256] at e2
      have e3 := IntKind.wrap_u8 ((x / 2 ^ (8 * (7 - k)) : Nat) : Int)
      have e4 := hb1.out.frozen (bs.length + k)
      have e5 := hb1.out.cell (bs.length + k) (.int .u8 0) (get_rep _ _ _ _ (by simp [be8_length]; omega) (by simp [be8_length]; omega))
      have e6 : Value.int .u8 ((x : Int) / 2 ^ (56 - 8 * k) % 256) = bv (UInt8.ofNat (x / 2 ^ (8 * (7 - k)))) := by
        unfold bv
        rw [show ((UInt8.ofNat (x / 2 ^ (8 * (7 - k)))).toNat : Int) = (((UInt8.ofNat (x / 2 ^ (8 * (7 - k)))).toNat : Nat) : Int) from rfl, ← e2, show 8 * (7 - k) = 56 - 8 * k by omega]
        simp
      have e7 := hb1.out.set (bs.length + k) (bv (UInt8.ofNat (x / 2 ^ (8 * (7 - k)))))
      have e8 : (be8 x).take (k + 1) = (be8 x).take k ++ [UInt8.ofNat (x / 2 ^ (8 * (7 - k)))] := by
        rw [List.take_succ_eq_append_getElem (by rw [be8_length]; exact hk8)]
        have := be8_get x k hk8
        rw [List.getElem?_eq_getElem (by rw [be8_length]; exact hk8)] at this
        rw [Option.some.inj this, pow_256]
      rw [show 8 - k = (8 - (k + 1)) + 1 by omega, set_rep _ _ _ _ _ (by simp [be8_length]; omega)] at e7
      have E8 := Lib.hid e8
      have E7 := Lib.hid e7
      have E6 := Lib.hid e6
      clear e6 e7 e8 e2 e3
      go_wp2
      rw [E6.out]
      refine ⟨⟨k + 1, by omega, by go_num, ?_, Lib.hid (Fr.set hf1.out (Nat.le_refl _) _)⟩, by simp [intOf]; omega⟩
      refine Lib.hid ?_
      rw [E8.out]
      simpa using E7.out
    · obtain rfl : k = 8 := by omega
      go_wp2
      go_ret
      refine ⟨w.heap.size, rfl, ?_, Nat.le_refl _, hf1.out⟩
      have := hb1.out
      rw [List.take_of_length_le (by rw [be8_length]; omega)] at this
      simpa using this

theorem putFloat_calls (A : Option Addr) (n c : Nat) (bs : List UInt8) (x : Nat) (w : World) (hx : x < 18446744073709551616) (hn : n = bs.length) (hb : bs.length ≤ 281474976710648) (h : RdC w A (bs.map bv)) :
    Calls Tryz.prog 32 #[.slice A n c, .float .f64 x] w (PutPost bs x w) := by
  have h1 := tobits_run
  have H := Lib.hid h; clear h
  have HX := Lib.hid hx; clear hx
  have HN := Lib.hid hn; clear hn
  go_enter Tryz.func32, Tryz.ntmps32
  go_wp2_with (go_at_call 30; refine (put_calls A n c bs x _ HX.out HN.out hb H.out).mono ?_; rintro e w' ⟨g, rfl, hq⟩)
  go_ret
  exact ⟨g, rfl, hq⟩

end Go.Proofs.YthjimnmgbcckjaaGreat
namespace Go.Proofs.YthjimnmgbcckjaaGreat
set_option maxRecDepth 100000
open Go.RowKit Go.Inc

theorem same_any (w : World) (k : Nat) : w.drewN k = w.drewN k := rfl

/-! ### the callbacks -/
theorem num1_enters : Enters Tryz.prog 103 := enters_of Tryz.func103 rfl rfl
theorem num1_calls (n k : Nat) (w : World) : Calls Tryz.prog 103 (#[.int .u64 n] ++ #[]) (w.drewN k) fun e w' => e = .returned (.bool ((fun _ : Nat => true) n)) ∧ w.drewN k = w' := by
  show Calls Tryz.prog 103 #[.int .u64 n] _ _
  go_enter Tryz.func103, Tryz.ntmps103
  go_wp2
  go_ret
  exact ⟨rfl, rfl⟩

theorem cnt1_enters : Enters Tryz.prog 72 := enters_of Tryz.func72 rfl rfl
/-- What Count lets by. -/
def mayCount (most : Int) (n : Nat) : Bool := decide (0 ≤ most) && decide ((n : Int) ≤ most)
set_option maxHeartbeats 400000 in
theorem cnt1_calls (most : Int) (hm : -9223372036854775808 ≤ most ∧ most ≤ 9223372036854775807) (c n k : Nat) (w : World) (hc : w.cell? ⟨c, 0, none⟩ = some (.int .i64 most)) :
    Calls Tryz.prog 72 (#[.int .u64 n] ++ #[.pointer (some ⟨c, 0, none⟩)]) (w.drewN k) fun e w' => e = .returned (.bool (mayCount most n)) ∧ w.drewN k = w' := by
  show Calls Tryz.prog 72 #[.int .u64 n, .pointer (some ⟨c, 0, none⟩)] _ _
  by_cases h0 : 0 ≤ most
  · have e1 : IntKind.u64.wrap most = most := wrap_u64_in _ h0 (by omega)
    have hd : decide (0 ≤ most) = true := decide_eq_true h0
    have hpost : mayCount most n = decide ((n : Int) ≤ most) := by simp [mayCount, h0]
    have HP := Lib.hid hpost; clear hpost
    go_enter Tryz.func72, Tryz.ntmps72
    go_wp2
    go_ret
    refine ⟨?_, rfl⟩
    rw [HP.out]; first | rfl | simp
  · have hd : decide (0 ≤ most) = false := decide_eq_false h0
    have hpost : mayCount most n = false := by simp [mayCount, h0]
    have HP := Lib.hid hpost; clear hpost
    go_enter Tryz.func72, Tryz.ntmps72
    go_wp2
    go_ret
    refine ⟨?_, rfl⟩
    rw [HP.out]; first | rfl | simp

/-! ### the callback of Float -/
theorem flt1_enters : Enters Tryz.prog 104 := enters_of Tryz.func104 rfl rfl
theorem flt1_calls (n k : Nat) (hx : n < 18446744073709551616) (w : World) : Calls Tryz.prog 104 (#[.int .u64 n] ++ #[]) (w.drewN k) fun e w' => e = .returned (.bool (fin n)) ∧ w.drewN k = w' := by
  show Calls Tryz.prog 104 #[.int .u64 n] _ _
  have h2 := frombits_run
  have hpost : fin n = decide (n % 9223372036854775808 < infR) := rfl
  have HP := Lib.hid hpost; clear hpost
  by_cases hnan : n % 9223372036854775808 ≤ infR
  · have hd : decide (n % 9223372036854775808 ≤ infR) = true := decide_eq_true hnan
    have HN := Lib.hid hnan; clear hnan
    by_cases hinf : n % 9223372036854775808 = infR
    · have hd2 : decide (n % 9223372036854775808 = infR) = true := decide_eq_true hinf
      have HI := Lib.hid hinf; clear hinf
      go_enter Tryz.func104, Tryz.ntmps104
      go_wp2_with (first | (go_at_call 105; refine (isNaN_calls n _).mono ?_; rintro e w' ⟨rfl, rfl⟩) | (go_at_call 106; refine (isInf_calls n hx HN.out _).mono ?_; rintro e w' ⟨rfl, rfl⟩))
      go_ret
      refine ⟨?_, rfl⟩
      rw [HP.out, decide_eq_false (by rw [HI.out]; omega)]; rfl
    · have hd2 : decide (n % 9223372036854775808 = infR) = false := decide_eq_false hinf
      have HI := Lib.hid hinf; clear hinf
      go_enter Tryz.func104, Tryz.ntmps104
      go_wp2_with (first | (go_at_call 105; refine (isNaN_calls n _).mono ?_; rintro e w' ⟨rfl, rfl⟩) | (go_at_call 106; refine (isInf_calls n hx HN.out _).mono ?_; rintro e w' ⟨rfl, rfl⟩))
      go_ret
      refine ⟨?_, rfl⟩
      have := HN.out; have := HI.out
      rw [HP.out, decide_eq_true (by omega)]; rfl
  · have hd : decide (n % 9223372036854775808 ≤ infR) = false := decide_eq_false hnan
    have HN := Lib.hid hnan; clear hnan
    go_enter Tryz.func104, Tryz.ntmps104
    go_wp2_with (go_at_call 105; refine (isNaN_calls n _).mono ?_; rintro e w' ⟨rfl, rfl⟩)
    go_ret
    refine ⟨?_, rfl⟩
    have := HN.out
    rw [HP.out, decide_eq_false (by omega)]; rfl

/-! ### the reader's calls -/
theorem octNew_calls (A : Option Addr) (n c : Nat) (bs : List UInt8) (w : World) (hn : n = bs.length) (h : RdC w A (bs.map bv)) :
    Calls Tryz.prog 37 #[.slice A n c] w fun e w' => ∃ g, e = .returned (.pointer (some ⟨g, 0, none⟩)) ∧ IsR w' g (bstr bs) 0 ∧ w.heap.size ≤ g ∧ Fr w w' := by
  have h1 := run_str (P := Tryz.prog) 31 5 9 Tryz.underlying31 Tryz.underlying5 Tryz.underlying9 w A n c bs hn h
  clear h
  have HN := Lib.hid hn; clear hn
  go_enter Tryz.func37, Tryz.ntmps37
  go_wp2
  go_ret
  exact ⟨w.heap.size, rfl, blk_new w _, Nat.le_refl _, (Fr.refl w).alloc _⟩

/-- What a call that reads eight bytes does: its result, and where the reader is then. -/
def RdPost (g : Nat) (b : ByteArray) (a : Nat) (may : Nat → Bool) (val : Nat → Value) (w : World) (e : Ending) (w' : World) : Prop :=
  e = .returned (.tuple #[val (rd8 b a may).1, .int .i64 (rd8 b a may).2.1]) ∧ IsR w' g b (rd8 b a may).2.2 ∧ w.grownBy w' (some g)

theorem grownBy_drewN (w : World) (n : Nat) (row : Option Nat) : w.grownBy (w.drewN n) row := ⟨rfl, rfl, rfl, Nat.le_refl _, fun _ _ _ => rfl⟩
theorem grownBy_set (w : World) (g o : Nat) (v : Value) : w.grownBy (w.setCell ⟨g, o, none⟩ v) (some g) :=
  ⟨rfl, rfl, rfl, by simp [World.setCell], fun k _ hne => Below.heap_setCell w ⟨g, o, none⟩ v k (fun e => hne (by rw [e]))⟩

theorem next_rd (g : Nat) (b : ByteArray) (a : Nat) (w : World) (f : FuncId) (cap : Array Value) (may : Nat → Bool)
    (hE : Enters Tryz.prog f) (hmay : ∀ (n k : Nat), n < 18446744073709551616 → Calls Tryz.prog f (#[.int .u64 n] ++ cap) (w.drewN k) fun e w' => e = .returned (.bool (may n)) ∧ w.drewN k = w')
    (h : IsR w g b a) (h1 : a ≤ b.size) (hb : b.size ≤ maxLen) :
    Calls Tryz.prog 71 #[.pointer (some ⟨g, 0, none⟩), .func (.func f) #[] cap] w (RdPost g b a may (fun n => .int .u64 n) w) := by
  refine (next_calls g b a w f cap may hE hmay h h1 hb).mono fun e w' hp => ?_
  unfold NextPost at hp
  unfold RdPost rd8
  by_cases h1 : b.size < a + 8
  · rw [if_pos h1] at hp ⊢
    obtain ⟨rfl, n, rfl⟩ := hp
    exact ⟨rfl, h.drewN n, grownBy_drewN _ _ _⟩
  · rw [if_neg h1] at hp ⊢
    cases hm : may (be b a 8)
    · rw [if_pos hm] at hp
      rw [if_neg (by simp)]
      obtain ⟨rfl, n, rfl⟩ := hp
      exact ⟨rfl, h.drewN n, grownBy_drewN _ _ _⟩
    · rw [if_neg (by simp [hm])] at hp
      rw [if_pos rfl]
      obtain ⟨rfl, n, rfl⟩ := hp
      exact ⟨rfl, (h.set (a + 8)).drewN n, (grownBy_set _ _ _ _).trans (grownBy_drewN _ _ _)⟩

set_option maxHeartbeats 400000 in
theorem number_calls (g : Nat) (b : ByteArray) (a : Nat) (w : World) (h : IsR w g b a) (h1 : a ≤ b.size) (hb : b.size ≤ maxLen) :
    Calls Tryz.prog 74 #[.pointer (some ⟨g, 0, none⟩)] w (RdPost g b a (fun _ => true) (fun n => .int .u64 n) w) := by
  have H := Lib.hid h; clear h
  go_enter Tryz.func74, Tryz.ntmps74
  go_wp2_with fail
  refine (next_rd g b a _ _ #[] (fun _ => true) num1_enters (fun n k _ => num1_calls n k _) H.out h1 hb).mono ?_
  rintro e w' ⟨rfl, hR, hG⟩
  go_wp2
  go_ret2
  exact ⟨rfl, hR, hG⟩

theorem count_calls (g : Nat) (b : ByteArray) (a : Nat) (most : Int) (hm : -9223372036854775808 ≤ most ∧ most ≤ 9223372036854775807) (w : World) (h : IsR w g b a) (h1 : a ≤ b.size) (hb : b.size ≤ maxLen) :
    Calls Tryz.prog 41 #[.pointer (some ⟨g, 0, none⟩), .int .i64 most] w (RdPost g b a (mayCount most) (fun n => .int .i64 n) w) := by
  have H := Lib.hid h; clear h
  have hv : IntKind.i64.wrap ((rd8 b a (mayCount most)).1 : Int) = ((rd8 b a (mayCount most)).1 : Int) := by
    refine wrap_i64_in _ (by omega) ?_
    unfold rd8 mayCount
    split
    · simp
    · split
      · rename_i h2; simp at h2; omega
      · simp
  have hc : (w.alloc (.cells #[.int .i64 most] 3)).cell? ⟨w.heap.size, 0, none⟩ = some (.int .i64 most) := by simp
  have HC := Lib.hid hc; clear hc
  go_enter Tryz.func41, Tryz.ntmps41
  go_wp2_with fail
  refine (next_rd g b a _ _ #[.pointer (some ⟨w.heap.size, 0, none⟩)] (mayCount most) cnt1_enters (fun n k _ => cnt1_calls most hm w.heap.size n k _ HC.out) (H.out.below ((Fr.refl w).alloc _)) h1 hb).mono ?_
  rintro e w' ⟨rfl, hR, hG⟩
  go_wp2
  go_ret2
  exact ⟨rfl, hR, (World.grownBy_alloc w _ _).trans hG⟩

theorem float_calls (g : Nat) (b : ByteArray) (a : Nat) (w : World) (h : IsR w g b a) (h1 : a ≤ b.size) (hb : b.size ≤ maxLen) :
    Calls Tryz.prog 78 #[.pointer (some ⟨g, 0, none⟩)] w (RdPost g b a fin (fun n => .float .f64 n) w) := by
  have H := Lib.hid h; clear h
  have h2 := frombits_run
  go_enter Tryz.func78, Tryz.ntmps78
  go_wp2_with fail
  refine (next_rd g b a _ _ #[] fin flt1_enters (fun n k hn => flt1_calls n k hn _) H.out h1 hb).mono ?_
  rintro e w' ⟨rfl, hR, hG⟩
  go_wp2
  go_ret2
  exact ⟨rfl, hR, hG⟩

/-! ### Byte -/
set_option maxHeartbeats 400000 in
theorem byte_calls (g : Nat) (b : ByteArray) (a most : Nat) (w : World) (h : IsR w g b a) (h1 : a ≤ b.size) (hb : b.size ≤ maxLen) :
    Calls Tryz.prog 76 #[.pointer (some ⟨g, 0, none⟩), .int .u8 most] w fun e w' =>
      e = .returned (.tuple #[.int .u8 (rd1 b a most).1, .int .i64 (rd1 b a most).2.1]) ∧ IsR w' g b (rd1 b a most).2.2 ∧ w.grownBy w' (some g) := by
  have H := Lib.hid h; clear h
  unfold maxLen at hb
  by_cases hlt : b.size = a
  · have hp : rd1 b a most = (0, 100, a) := by simp [rd1, hlt]
    have HP := Lib.hid hp; clear hp
    have hd : ((b.size : Int) - (a : Int) == 0) = true := beq_iff_eq.2 (by omega)
    have HL := Lib.hid hlt; clear hlt
    go_enter Tryz.func76, Tryz.ntmps76
    go_wp2_with (go_at_call 44; refine (left_calls g b a _ H.out h1 hb).mono ?_; rintro e w' ⟨rfl, n, rfl⟩)
    go_ret2
    rw [HP.out]
    exact ⟨rfl, H.out.drewN _, grownBy_drewN _ _ _⟩
  · have hd : ((b.size : Int) - (a : Int) == 0) = false := beq_eq_false_iff_ne.2 (by omega)
    have hi := fun W => run_idx_str (P := Tryz.prog) 9 Tryz.underlying9 b .i64 (a : Int) a rfl (by omega) W
    have hs1 : IntKind.i64.wrap ((a : Int) + 1) = (a : Int) + 1 := IntWalk.i64_in _ (by omega)
    have hs2 : IntKind.i64.wrap ((a : Int) + 1 - 1) = (a : Int) := by rw [IntWalk.i64_in _ (by omega)]; omega
    have hc0 := H.out.c0
    have hc1 := H.out.c1
    have hf1 := H.out.f 1
    by_cases hgt : bt b a > most
    · have hp : rd1 b a most = (0, 101, a) := by simp [rd1, hlt, hgt]
      have HP := Lib.hid hp; clear hp
      have hd2 : decide ((most : Int) < (bt b a : Int)) = true := decide_eq_true (by omega)
      have hd3 : decide (most < bt b a) = true := decide_eq_true hgt
      have HG := Lib.hid hgt; clear hgt
      go_enter Tryz.func76, Tryz.ntmps76
      go_wp2_with (go_at_call 44; refine (left_calls g b a _ H.out h1 hb).mono ?_; rintro e w' ⟨rfl, n, rfl⟩)
      go_quiet (fail)
      go_wp2
      go_ret2
      rw [HP.out]
      exact ⟨rfl, (H.out.drewN _).drewN _, (grownBy_drewN _ _ _).trans (grownBy_drewN _ _ _)⟩
    · have hp : rd1 b a most = (bt b a, 0, a + 1) := by simp [rd1, hlt, hgt]
      have HP := Lib.hid hp; clear hp
      have hd2 : decide ((most : Int) < (bt b a : Int)) = false := decide_eq_false (by omega)
      have hd3 : decide (most < bt b a) = false := decide_eq_false hgt
      have HG := Lib.hid hgt; clear hgt
      go_enter Tryz.func76, Tryz.ntmps76
      go_wp2_with (go_at_call 44; refine (left_calls g b a _ H.out h1 hb).mono ?_; rintro e w' ⟨rfl, n, rfl⟩)
      go_quiet (fail)
      go_wp2
      go_quiet (fail)
      go_wp2
      go_ret2
      rw [HP.out]
      exact ⟨rfl, ((H.out.drewN _).setI (a + 1) _ (by omega)).drewN _, ((grownBy_drewN _ _ _).trans (grownBy_set _ _ _ _)).trans (grownBy_drewN _ _ _)⟩

/-! ### Word -/
theorem lHasPrefix_calls (x y : ByteArray) (hy : y.size ≤ x.size) (w : World) :
    Calls Tryz.prog 102 #[.string x, .string y] w fun e w' => e = .returned (.bool ((x.extract 0 y.size).toList == y.toList)) ∧ w = w' := by
  have h1 : (0 : Int) ≤ (y.size : Int) := by omega
  have h2 : (y.size : Int) ≤ (x.size : Int) := by omega
  go_enter Tryz.func102, Tryz.ntmps102
  go_wp2
  go_ret
  exact ⟨rfl, rfl⟩
theorem hasPrefix_calls (x y : ByteArray) (hy : y.size ≤ x.size) (w : World) :
    Calls Tryz.prog 70 #[.string x, .string y] w fun e w' => e = .returned (.bool ((x.extract 0 y.size).toList == y.toList)) ∧ w = w' := by
  go_enter Tryz.func70, Tryz.ntmps70
  go_wp2_with (go_at_call 102; refine (lHasPrefix_calls x y hy _).mono ?_; rintro e w' ⟨rfl, rfl⟩)
  go_ret
  exact ⟨rfl, rfl⟩

set_option maxHeartbeats 400000 in
theorem word_calls (g : Nat) (b : ByteArray) (a : Nat) (wd : List UInt8) (w : World) (h : IsR w g b a) (h1 : a ≤ b.size) (hb : b.size ≤ maxLen) (hwd : wd.length ≤ maxLen) :
    Calls Tryz.prog 39 #[.pointer (some ⟨g, 0, none⟩), .string (bstr wd)] w fun e w' =>
      e = .returned (.int .i64 (rdW b a wd).1) ∧ IsR w' g b (rdW b a wd).2 ∧ w.grownBy w' (some g) := by
  have H := Lib.hid h; clear h
  have hsz := bstr_size wd
  unfold maxLen at hb hwd
  by_cases hlt : b.size - a < wd.length
  · have hp : rdW b a wd = (100, a) := by simp [rdW]; omega
    have HP := Lib.hid hp; clear hp
    have hd : decide ((b.size : Int) - (a : Int) < (wd.length : Int)) = true := decide_eq_true (by omega)
    go_enter Tryz.func39, Tryz.ntmps39
    go_wp2_with (go_at_call 44; refine (left_calls g b a _ H.out h1 hb).mono ?_; rintro e w' ⟨rfl, n, rfl⟩)
    go_ret
    rw [HP.out]
    exact ⟨rfl, H.out.drewN _, grownBy_drewN _ _ _⟩
  · have hd : decide ((b.size : Int) - (a : Int) < (wd.length : Int)) = false := decide_eq_false (by omega)
    have hc0 := H.out.c0
    have hc1 := H.out.c1
    have hf1 := H.out.f 1
    have h3 : (0 : Int) ≤ (a : Int) := by omega
    have h4 : (a : Int) ≤ (b.size : Int) := by omega
    have hsl := fun W => run_slice_string_l (P := Tryz.prog) W 9 b Tryz.underlying9 .i64 (a : Int) h3 h4
    rw [Int.toNat_natCast] at hsl
    have hxs : (b.extract a b.size).size = b.size - a := by simp [ByteArray.size_extract]
    have hcall := fun W => hasPrefix_calls (b.extract a b.size) (bstr wd) (by rw [hxs, hsz]; omega) W
    have hbool : (((b.extract a b.size).extract 0 (bstr wd).size).toList == (bstr wd).toList) = wordAt b a wd := wordAt_eq b a wd
    rw [hbool] at hcall
    have HC := Lib.hid hcall
    clear hbool hcall hxs
    cases hw : wordAt b a wd
    · have hp : rdW b a wd = (101, a) := by simp [rdW, hw]; omega
      have HP := Lib.hid hp; clear hp
      rw [hw] at HC
      clear hw
      go_enter Tryz.func39, Tryz.ntmps39
      go_wp2_with (go_at_call 44; refine (left_calls g b a _ H.out h1 hb).mono ?_; rintro e w' ⟨rfl, n, rfl⟩)
      go_quiet ((go_at_call 70; exact quiet_b_same (HC.out _)))
      go_wp2
      go_ret
      rw [HP.out]
      exact ⟨rfl, (H.out.drewN _).drewN _, (grownBy_drewN _ _ _).trans (grownBy_drewN _ _ _)⟩
    · have hp : rdW b a wd = (0, a + wd.length) := by simp [rdW, hw]; omega
      have HP := Lib.hid hp; clear hp
      rw [hw] at HC
      clear hw
      go_enter Tryz.func39, Tryz.ntmps39
      go_wp2_with (go_at_call 44; refine (left_calls g b a _ H.out h1 hb).mono ?_; rintro e w' ⟨rfl, n, rfl⟩)
      go_quiet ((go_at_call 70; exact quiet_b_same (HC.out _)))
      go_wp2
      go_ret
      rw [HP.out]
      exact ⟨rfl, ((H.out.drewN _).setI (a + wd.length) _ (by omega)), ((grownBy_drewN _ _ _).trans (grownBy_set _ _ _ _))⟩

end Go.Proofs.YthjimnmgbcckjaaGreat
