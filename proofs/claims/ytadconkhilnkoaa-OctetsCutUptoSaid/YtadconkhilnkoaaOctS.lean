/- The walks of package octets' reader: New, Number, Count, Float, Byte, Word; math.IsNaN, IsInf, Abs. -/
import Derived.Test.YtadconkhilnkoaaOctR
import Derived.Test.YtadconkhilnkoaaOctP
namespace Go.Proofs.Ytadconkhilnkoaa
open Go.RowKit Go.Inc

theorem same_any (w : World) (k : Nat) : w.drewN k = w.drewN k := rfl

/-! ### the callbacks -/
theorem num1_enters : Enters Try.prog 36 := enters_of Try.func36 rfl rfl
theorem num1_calls (n k : Nat) (w : World) : Calls Try.prog 36 (#[.int .u64 n] ++ #[]) (w.drewN k) fun e w' => e = .returned (.bool ((fun _ : Nat => true) n)) ∧ w.drewN k = w' := by
  show Calls Try.prog 36 #[.int .u64 n] _ _
  go_enter Try.func36, Try.ntmps36
  go_wp2
  go_ret
  exact ⟨rfl, rfl⟩

theorem cnt1_enters : Enters Try.prog 37 := enters_of Try.func37 rfl rfl
/-- What Count lets by. -/
def mayCount (most : Int) (n : Nat) : Bool := decide (0 ≤ most) && decide ((n : Int) ≤ most)
set_option maxHeartbeats 400000 in
theorem cnt1_calls (most : Int) (hm : -9223372036854775808 ≤ most ∧ most ≤ 9223372036854775807) (c n k : Nat) (w : World) (hc : w.cell? ⟨c, 0, none⟩ = some (.int .i64 most)) :
    Calls Try.prog 37 (#[.int .u64 n] ++ #[.pointer (some ⟨c, 0, none⟩)]) (w.drewN k) fun e w' => e = .returned (.bool (mayCount most n)) ∧ w.drewN k = w' := by
  show Calls Try.prog 37 #[.int .u64 n, .pointer (some ⟨c, 0, none⟩)] _ _
  by_cases h0 : 0 ≤ most
  · have e1 : IntKind.u64.wrap most = most := wrap_u64_in _ h0 (by omega)
    have hd : decide (0 ≤ most) = true := decide_eq_true h0
    have hpost : mayCount most n = decide ((n : Int) ≤ most) := by simp [mayCount, h0]
    have HP := Lib.hid hpost; clear hpost
    go_enter Try.func37, Try.ntmps37
    go_wp2
    go_ret
    refine ⟨?_, rfl⟩
    rw [HP.out]; first | rfl | simp
  · have hd : decide (0 ≤ most) = false := decide_eq_false h0
    have hpost : mayCount most n = false := by simp [mayCount, h0]
    have HP := Lib.hid hpost; clear hpost
    go_enter Try.func37, Try.ntmps37
    go_wp2
    go_ret
    refine ⟨?_, rfl⟩
    rw [HP.out]; first | rfl | simp

/-! ### math -/
theorem isNaN_calls (x : Nat) (w : World) : Calls Try.prog 34 #[.float .f64 x] w fun e w' => e = .returned (.bool (!decide (x % 9223372036854775808 ≤ infR))) ∧ w = w' := by
  have ho := order_self x
  have HO := Lib.hid ho; clear ho
  go_enter Try.func34, Try.ntmps34
  go_wp2
  go_ret
  refine ⟨?_, rfl⟩
  rw [← HO.out]; rfl

theorem abs_calls (x : Nat) (hx : x < 18446744073709551616) (w : World) : Calls Try.prog 40 #[.float .f64 x] w fun e w' => e = .returned (.float .f64 (x % 9223372036854775808)) ∧ w = w' := by
  have ho := andNot_sign x hx
  have hn : ((x % 9223372036854775808 : Nat) : Int).toNat = x % 9223372036854775808 := Int.toNat_natCast _
  have h1 := tobits_run
  have h2 := frombits_run
  go_enter Try.func40, Try.ntmps40
  go_wp2
  go_ret
  exact ⟨rfl, rfl⟩

theorem isInf_calls (x : Nat) (hx : x < 18446744073709551616) (hn : x % 9223372036854775808 ≤ infR) (w : World) :
    Calls Try.prog 35 #[.float .f64 x, .int .i64 0] w fun e w' => e = .returned (.bool (decide (x % 9223372036854775808 = infR))) ∧ w = w' := by
  have ho := gt_max (x % 9223372036854775808) (by omega) hn
  have HO := Lib.hid ho; clear ho
  go_enter Try.func35, Try.ntmps35
  go_wp2_with (go_at_call 40; refine (abs_calls x hx _).mono ?_; rintro e w' ⟨rfl, rfl⟩)
  go_ret
  refine ⟨?_, rfl⟩
  rw [← HO.out]; rfl

/-! ### the callback of Float -/
theorem flt1_enters : Enters Try.prog 33 := enters_of Try.func33 rfl rfl
theorem flt1_calls (n k : Nat) (hx : n < 18446744073709551616) (w : World) : Calls Try.prog 33 (#[.int .u64 n] ++ #[]) (w.drewN k) fun e w' => e = .returned (.bool (fin n)) ∧ w.drewN k = w' := by
  show Calls Try.prog 33 #[.int .u64 n] _ _
  have h2 := frombits_run
  have hpost : fin n = decide (n % 9223372036854775808 < infR) := rfl
  have HP := Lib.hid hpost; clear hpost
  by_cases hnan : n % 9223372036854775808 ≤ infR
  · have hd : decide (n % 9223372036854775808 ≤ infR) = true := decide_eq_true hnan
    have HN := Lib.hid hnan; clear hnan
    by_cases hinf : n % 9223372036854775808 = infR
    · have hd2 : decide (n % 9223372036854775808 = infR) = true := decide_eq_true hinf
      have HI := Lib.hid hinf; clear hinf
      go_enter Try.func33, Try.ntmps33
      go_wp2_with (first | (go_at_call 34; refine (isNaN_calls n _).mono ?_; rintro e w' ⟨rfl, rfl⟩) | (go_at_call 35; refine (isInf_calls n hx HN.out _).mono ?_; rintro e w' ⟨rfl, rfl⟩))
      go_ret
      refine ⟨?_, rfl⟩
      rw [HP.out, decide_eq_false (by rw [HI.out]; omega)]; rfl
    · have hd2 : decide (n % 9223372036854775808 = infR) = false := decide_eq_false hinf
      have HI := Lib.hid hinf; clear hinf
      go_enter Try.func33, Try.ntmps33
      go_wp2_with (first | (go_at_call 34; refine (isNaN_calls n _).mono ?_; rintro e w' ⟨rfl, rfl⟩) | (go_at_call 35; refine (isInf_calls n hx HN.out _).mono ?_; rintro e w' ⟨rfl, rfl⟩))
      go_ret
      refine ⟨?_, rfl⟩
      have := HN.out; have := HI.out
      rw [HP.out, decide_eq_true (by omega)]; rfl
  · have hd : decide (n % 9223372036854775808 ≤ infR) = false := decide_eq_false hnan
    have HN := Lib.hid hnan; clear hnan
    go_enter Try.func33, Try.ntmps33
    go_wp2_with (go_at_call 34; refine (isNaN_calls n _).mono ?_; rintro e w' ⟨rfl, rfl⟩)
    go_ret
    refine ⟨?_, rfl⟩
    have := HN.out
    rw [HP.out, decide_eq_false (by omega)]; rfl

/-! ### the reader's calls -/
theorem octNew_calls (A : Option Addr) (n c : Nat) (bs : List UInt8) (w : World) (hn : n = bs.length) (h : RdC w A (bs.map bv)) :
    Calls Try.prog 16 #[.slice A n c] w fun e w' => ∃ g, e = .returned (.pointer (some ⟨g, 0, none⟩)) ∧ IsR w' g (bstr bs) 0 ∧ w.heap.size ≤ g ∧ Fr w w' := by
  have h1 := run_str (P := Try.prog) 22 5 9 Try.underlying22 Try.underlying5 Try.underlying9 w A n c bs hn h
  clear h
  have HN := Lib.hid hn; clear hn
  go_enter Try.func16, Try.ntmps16
  go_wp2
  go_ret
  exact ⟨w.heap.size, rfl, blk_new w _, Nat.le_refl _, (Fr.refl w).alloc _⟩

/-- What a call that reads eight bytes does: its result, and where the reader is then. -/
def RdPost (g : Nat) (b : ByteArray) (a : Nat) (may : Nat → Bool) (val : Nat → Value) (w : World) (e : Ending) (w' : World) : Prop :=
  e = .returned (.tuple #[val (rd8 b a may).1, .int .i64 (rd8 b a may).2.1]) ∧ IsR w' g b (rd8 b a may).2.2 ∧ w.grownBy w' (some g)

theorem grownBy_drewN (w : World) (n : Nat) (row : Option Nat) : w.grownBy (w.drewN n) row := ⟨rfl, rfl, rfl, Nat.le_refl _, fun _ _ _ => rfl⟩
theorem grownBy_set (w : World) (g o : Nat) (v : Value) : w.grownBy (w.setCell ⟨g, o, none⟩ v) (some g) :=
  ⟨rfl, rfl, rfl, by simp [World.setCell], fun k _ hne => Below.heap_setCell w ⟨g, o, none⟩ v k (fun e => hne (by rw [e]))⟩

theorem next_rd (g : Nat) (b : ByteArray) (a : Nat) (w : World) (f : FuncId) (cap : Array Value) (may : Nat → Bool)
    (hE : Enters Try.prog f) (hmay : ∀ (n k : Nat), n < 18446744073709551616 → Calls Try.prog f (#[.int .u64 n] ++ cap) (w.drewN k) fun e w' => e = .returned (.bool (may n)) ∧ w.drewN k = w')
    (h : IsR w g b a) (h1 : a ≤ b.size) (hb : b.size ≤ maxLen) :
    Calls Try.prog 32 #[.pointer (some ⟨g, 0, none⟩), .func (.func f) #[] cap] w (RdPost g b a may (fun n => .int .u64 n) w) := by
  refine (next_calls g b a w f cap may hE hmay h h1 hb).mono fun e w' hp => ?_
  unfold NextPost at hp
  unfold RdPost rd8
  by_cases h1 : b.size < a + 8
  · rw [if_pos h1] at hp ⊢
    obtain ⟨rfl, n, rfl⟩ := hp
    exact ⟨rfl, h.drewN n, grownBy_drewN _ _ _⟩
  · rw [if_neg h1] at hp ⊢
    cases hm : may (be b a 8)
    · rw [if_pos hm] at hp
      rw [if_neg (by simp)]
      obtain ⟨rfl, n, rfl⟩ := hp
      exact ⟨rfl, h.drewN n, grownBy_drewN _ _ _⟩
    · rw [if_neg (by simp [hm])] at hp
      rw [if_pos rfl]
      obtain ⟨rfl, n, rfl⟩ := hp
      exact ⟨rfl, (h.set (a + 8)).drewN n, (grownBy_set _ _ _ _).trans (grownBy_drewN _ _ _)⟩

set_option maxHeartbeats 400000 in
theorem number_calls (g : Nat) (b : ByteArray) (a : Nat) (w : World) (h : IsR w g b a) (h1 : a ≤ b.size) (hb : b.size ≤ maxLen) :
    Calls Try.prog 20 #[.pointer (some ⟨g, 0, none⟩)] w (RdPost g b a (fun _ => true) (fun n => .int .u64 n) w) := by
  have H := Lib.hid h; clear h
  go_enter Try.func20, Try.ntmps20
  go_wp2_with fail
  refine (next_rd g b a _ _ #[] (fun _ => true) num1_enters (fun n k _ => num1_calls n k _) H.out h1 hb).mono ?_
  rintro e w' ⟨rfl, hR, hG⟩
  go_wp2
  go_ret2
  exact ⟨rfl, hR, hG⟩

theorem count_calls (g : Nat) (b : ByteArray) (a : Nat) (most : Int) (hm : -9223372036854775808 ≤ most ∧ most ≤ 9223372036854775807) (w : World) (h : IsR w g b a) (h1 : a ≤ b.size) (hb : b.size ≤ maxLen) :
    Calls Try.prog 21 #[.pointer (some ⟨g, 0, none⟩), .int .i64 most] w (RdPost g b a (mayCount most) (fun n => .int .i64 n) w) := by
  have H := Lib.hid h; clear h
  have hv : IntKind.i64.wrap ((rd8 b a (mayCount most)).1 : Int) = ((rd8 b a (mayCount most)).1 : Int) := by
    refine wrap_i64_in _ (by omega) ?_
    unfold rd8 mayCount
    split
    · simp
    · split
      · rename_i h2; simp at h2; omega
      · simp
  have hc : (w.alloc (.cells #[.int .i64 most] 3)).cell? ⟨w.heap.size, 0, none⟩ = some (.int .i64 most) := by simp
  have HC := Lib.hid hc; clear hc
  go_enter Try.func21, Try.ntmps21
  go_wp2_with fail
  refine (next_rd g b a _ _ #[.pointer (some ⟨w.heap.size, 0, none⟩)] (mayCount most) cnt1_enters (fun n k _ => cnt1_calls most hm w.heap.size n k _ HC.out) (H.out.below ((Fr.refl w).alloc _)) h1 hb).mono ?_
  rintro e w' ⟨rfl, hR, hG⟩
  go_wp2
  go_ret2
  exact ⟨rfl, hR, (World.grownBy_alloc w _ _).trans hG⟩

theorem float_calls (g : Nat) (b : ByteArray) (a : Nat) (w : World) (h : IsR w g b a) (h1 : a ≤ b.size) (hb : b.size ≤ maxLen) :
    Calls Try.prog 18 #[.pointer (some ⟨g, 0, none⟩)] w (RdPost g b a fin (fun n => .float .f64 n) w) := by
  have H := Lib.hid h; clear h
  have h2 := frombits_run
  go_enter Try.func18, Try.ntmps18
  go_wp2_with fail
  refine (next_rd g b a _ _ #[] fin flt1_enters (fun n k hn => flt1_calls n k hn _) H.out h1 hb).mono ?_
  rintro e w' ⟨rfl, hR, hG⟩
  go_wp2
  go_ret2
  exact ⟨rfl, hR, hG⟩

/-! ### Byte -/
set_option maxHeartbeats 400000 in
theorem byte_calls (g : Nat) (b : ByteArray) (a most : Nat) (w : World) (h : IsR w g b a) (h1 : a ≤ b.size) (hb : b.size ≤ maxLen) :
    Calls Try.prog 27 #[.pointer (some ⟨g, 0, none⟩), .int .u8 most] w fun e w' =>
      e = .returned (.tuple #[.int .u8 (rd1 b a most).1, .int .i64 (rd1 b a most).2.1]) ∧ IsR w' g b (rd1 b a most).2.2 ∧ w.grownBy w' (some g) := by
  have H := Lib.hid h; clear h
  unfold maxLen at hb
  by_cases hlt : b.size = a
  · have hp : rd1 b a most = (0, 100, a) := by simp [rd1, hlt]
    have HP := Lib.hid hp; clear hp
    have hd : ((b.size : Int) - (a : Int) == 0) = true := beq_iff_eq.2 (by omega)
    have HL := Lib.hid hlt; clear hlt
    go_enter Try.func27, Try.ntmps27
    go_wp2_with (go_at_call 17; refine (left_calls g b a _ H.out h1 hb).mono ?_; rintro e w' ⟨rfl, n, rfl⟩)
    go_ret2
    rw [HP.out]
    exact ⟨rfl, H.out.drewN _, grownBy_drewN _ _ _⟩
  · have hd : ((b.size : Int) - (a : Int) == 0) = false := beq_eq_false_iff_ne.2 (by omega)
    have hi := fun W => run_idx_str (P := Try.prog) 9 Try.underlying9 b .i64 (a : Int) a rfl (by omega) W
    have hs1 : IntKind.i64.wrap ((a : Int) + 1) = (a : Int) + 1 := IntWalk.i64_in _ (by omega)
    have hs2 : IntKind.i64.wrap ((a : Int) + 1 - 1) = (a : Int) := by rw [IntWalk.i64_in _ (by omega)]; omega
    have hc0 := H.out.c0
    have hc1 := H.out.c1
    have hf1 := H.out.f 1
    by_cases hgt : bt b a > most
    · have hp : rd1 b a most = (0, 101, a) := by simp [rd1, hlt, hgt]
      have HP := Lib.hid hp; clear hp
      have hd2 : decide ((most : Int) < (bt b a : Int)) = true := decide_eq_true (by omega)
      have hd3 : decide (most < bt b a) = true := decide_eq_true hgt
      have HG := Lib.hid hgt; clear hgt
      go_enter Try.func27, Try.ntmps27
      go_wp2_with (go_at_call 17; refine (left_calls g b a _ H.out h1 hb).mono ?_; rintro e w' ⟨rfl, n, rfl⟩)
      go_quiet (fail)
      go_wp2
      go_ret2
      rw [HP.out]
      exact ⟨rfl, (H.out.drewN _).drewN _, (grownBy_drewN _ _ _).trans (grownBy_drewN _ _ _)⟩
    · have hp : rd1 b a most = (bt b a, 0, a + 1) := by simp [rd1, hlt, hgt]
      have HP := Lib.hid hp; clear hp
      have hd2 : decide ((most : Int) < (bt b a : Int)) = false := decide_eq_false (by omega)
      have hd3 : decide (most < bt b a) = false := decide_eq_false hgt
      have HG := Lib.hid hgt; clear hgt
      go_enter Try.func27, Try.ntmps27
      go_wp2_with (go_at_call 17; refine (left_calls g b a _ H.out h1 hb).mono ?_; rintro e w' ⟨rfl, n, rfl⟩)
      go_quiet (fail)
      go_wp2
      go_quiet (fail)
      go_wp2
      go_ret2
      rw [HP.out]
      exact ⟨rfl, ((H.out.drewN _).setI (a + 1) _ (by omega)).drewN _, ((grownBy_drewN _ _ _).trans (grownBy_set _ _ _ _)).trans (grownBy_drewN _ _ _)⟩

/-! ### Word -/
theorem lHasPrefix_calls (x y : ByteArray) (hy : y.size ≤ x.size) (w : World) :
    Calls Try.prog 41 #[.string x, .string y] w fun e w' => e = .returned (.bool ((x.extract 0 y.size).toList == y.toList)) ∧ w = w' := by
  have h1 : (0 : Int) ≤ (y.size : Int) := by omega
  have h2 : (y.size : Int) ≤ (x.size : Int) := by omega
  go_enter Try.func41, Try.ntmps41
  go_wp2
  go_ret
  exact ⟨rfl, rfl⟩
theorem hasPrefix_calls (x y : ByteArray) (hy : y.size ≤ x.size) (w : World) :
    Calls Try.prog 39 #[.string x, .string y] w fun e w' => e = .returned (.bool ((x.extract 0 y.size).toList == y.toList)) ∧ w = w' := by
  go_enter Try.func39, Try.ntmps39
  go_wp2_with (go_at_call 41; refine (lHasPrefix_calls x y hy _).mono ?_; rintro e w' ⟨rfl, rfl⟩)
  go_ret
  exact ⟨rfl, rfl⟩

set_option maxHeartbeats 400000 in
theorem word_calls (g : Nat) (b : ByteArray) (a : Nat) (wd : List UInt8) (w : World) (h : IsR w g b a) (h1 : a ≤ b.size) (hb : b.size ≤ maxLen) (hwd : wd.length ≤ maxLen) :
    Calls Try.prog 29 #[.pointer (some ⟨g, 0, none⟩), .string (bstr wd)] w fun e w' =>
      e = .returned (.int .i64 (rdW b a wd).1) ∧ IsR w' g b (rdW b a wd).2 ∧ w.grownBy w' (some g) := by
  have H := Lib.hid h; clear h
  have hsz := bstr_size wd
  unfold maxLen at hb hwd
  by_cases hlt : b.size - a < wd.length
  · have hp : rdW b a wd = (100, a) := by simp [rdW]; omega
    have HP := Lib.hid hp; clear hp
    have hd : decide ((b.size : Int) - (a : Int) < (wd.length : Int)) = true := decide_eq_true (by omega)
    go_enter Try.func29, Try.ntmps29
    go_wp2_with (go_at_call 17; refine (left_calls g b a _ H.out h1 hb).mono ?_; rintro e w' ⟨rfl, n, rfl⟩)
    go_ret
    rw [HP.out]
    exact ⟨rfl, H.out.drewN _, grownBy_drewN _ _ _⟩
  · have hd : decide ((b.size : Int) - (a : Int) < (wd.length : Int)) = false := decide_eq_false (by omega)
    have hc0 := H.out.c0
    have hc1 := H.out.c1
    have hf1 := H.out.f 1
    have h3 : (0 : Int) ≤ (a : Int) := by omega
    have h4 : (a : Int) ≤ (b.size : Int) := by omega
    have hsl := fun W => run_slice_string_l (P := Try.prog) W 9 b Try.underlying9 .i64 (a : Int) h3 h4
    rw [Int.toNat_natCast] at hsl
    have hxs : (b.extract a b.size).size = b.size - a := by simp [ByteArray.size_extract]
    have hcall := fun W => hasPrefix_calls (b.extract a b.size) (bstr wd) (by rw [hxs, hsz]; omega) W
    have hbool : (((b.extract a b.size).extract 0 (bstr wd).size).toList == (bstr wd).toList) = wordAt b a wd := wordAt_eq b a wd
    rw [hbool] at hcall
    have HC := Lib.hid hcall
    clear hbool hcall hxs
    cases hw : wordAt b a wd
    · have hp : rdW b a wd = (101, a) := by simp [rdW, hw]; omega
      have HP := Lib.hid hp; clear hp
      rw [hw] at HC
      clear hw
      go_enter Try.func29, Try.ntmps29
      go_wp2_with (go_at_call 17; refine (left_calls g b a _ H.out h1 hb).mono ?_; rintro e w' ⟨rfl, n, rfl⟩)
      go_quiet ((go_at_call 39; exact quiet_b_same (HC.out _)))
      go_wp2
      go_ret
      rw [HP.out]
      exact ⟨rfl, (H.out.drewN _).drewN _, (grownBy_drewN _ _ _).trans (grownBy_drewN _ _ _)⟩
    · have hp : rdW b a wd = (0, a + wd.length) := by simp [rdW, hw]; omega
      have HP := Lib.hid hp; clear hp
      rw [hw] at HC
      clear hw
      go_enter Try.func29, Try.ntmps29
      go_wp2_with (go_at_call 17; refine (left_calls g b a _ H.out h1 hb).mono ?_; rintro e w' ⟨rfl, n, rfl⟩)
      go_quiet ((go_at_call 39; exact quiet_b_same (HC.out _)))
      go_wp2
      go_ret
      rw [HP.out]
      exact ⟨rfl, ((H.out.drewN _).setI (a + wd.length) _ (by omega)), ((grownBy_drewN _ _ _).trans (grownBy_set _ _ _ _))⟩

end Go.Proofs.Ytadconkhilnkoaa
