/- The walks of the law's own small functions (shown, lent, kept, same, kind) of layer 10. -/
import Derived.Test.YtadconkhilnkoaaOctS
namespace Go.Proofs.Ytadconkhilnkoaa
open Go.RowKit Go.Inc

theorem bv_one (l : List UInt8) : ∀ v ∈ l.map bv, v.oneCell' = true := by simp [bv, Value.oneCell']
theorem fr_of_grown {w0 w w' : World} {g : Nat} (h : Fr w0 w) (hg : w.grownBy w' (some g)) (hb : w0.heap.size ≤ g) : Fr w0 w' :=
  h.grown hg (fun k hk => by injection hk with hk; omega)

set_option maxHeartbeats 1000000 in
theorem shown_calls (w : World) : Calls Try.prog 7 #[] w fun e w' => e = .returned (.bool true) ∧ Fr w w' := by
  have hb1 : be8 258 = [0, 0, 0, 0, 0, 0, 1, 2] := by decide +kernel
  have hb2 : rdW (bstr ([97, 98] ++ be8 258)) 0 [97, 98] = (0, 2) := by decide +kernel
  have hb3 : rd8 (bstr ([97, 98] ++ be8 258)) 2 (fun _ => true) = (258, 0, 10) := by decide +kernel
  have hb4 : (bstr ([97, 98] ++ be8 258)).size = 10 := by decide +kernel
  have H2 := Lib.hid hb2; have H3 := Lib.hid hb3; have H4 := Lib.hid hb4; have H1 := Lib.hid hb1
  clear hb1 hb2 hb3 hb4
  go_enter Try.func7, Try.ntmps7
  go_wp2_with (go_at_call 10; refine gate ?_)
  refine (put_calls (some ⟨w.heap.size, 0, none⟩) 2 2 [97, 98] 258 _ (by omega) rfl (by simp) (RdC.blk (Blk.new w [bv 97, bv 98] _))).mono ?_
  rintro e w1 ⟨g, rfl, hblk, hg, hf1⟩
  have hf1 : Hid (Fr w w1) := ((Fr.refl w).alloc _).trans hf1
  have HB := Lib.hid hblk
  have hg : Hid (w.heap.size ≤ g) := by simp at hg; exact Nat.le_of_succ_le hg
  have hc0 := hblk.cell 0 (.int .u8 97) (by rw [H1.out]; rfl)
  have hc8 := hblk.cell 8 (.int .u8 1) (by rw [H1.out]; rfl)
  have hc9 := hblk.cell 9 (.int .u8 2) (by rw [H1.out]; rfl)
  clear hblk
  go_wp2_with fail
  refine (octNew_calls (some ⟨g, 0, none⟩) 10 10 ([97, 98] ++ be8 258) w1 (by rw [H1.out]; rfl) (RdC.blk HB.out)).mono ?_
  rintro e w2 ⟨r, rfl, hr, hrg, hf2⟩
  have hc0 := hf2.cell hc0
  have hc8 := hf2.cell hc8
  have hc9 := hf2.cell hc9
  have hf2 : Hid (Fr w w2) := hf1.out.trans hf2
  have HR := Lib.hid hr
  have hrg : Hid (w.heap.size ≤ r) := Nat.le_trans hf1.out.size hrg
  clear hr
  go_wp2_with fail
  have hw := word_calls r (bstr ([97, 98] ++ be8 258)) 0 [97, 98] w2 HR.out (by omega) (by rw [H4.out]; decide +kernel) (by decide +kernel)
  rw [H2.out] at hw
  refine hw.mono ?_
  clear hw
  rintro e w3 ⟨rfl, hr, hg3⟩
  have HR3 := Lib.hid hr
  have hf3 : Hid (Fr w w3) := fr_of_grown hf2.out hg3 hrg.out
  clear hr hg3 HR hc0 hc8 hc9
  go_wp2_with fail
  have hw := number_calls r (bstr ([97, 98] ++ be8 258)) 2 w3 HR3.out (by rw [H4.out]; omega) (by rw [H4.out]; decide +kernel)
  unfold RdPost at hw
  rw [H3.out] at hw
  refine hw.mono ?_
  clear hw
  rintro e w4 ⟨rfl, hr, hg4⟩
  have HR4 := Lib.hid hr
  have hf4 : Hid (Fr w w4) := fr_of_grown hf3.out hg4 hrg.out
  clear hr hg4 HR3
  have hl := left_calls r (bstr ([97, 98] ++ be8 258)) 10 w4 HR4.out (by rw [H4.out]; omega) (by rw [H4.out]; decide +kernel)
  rw [H4.out] at hl
  have HL := Lib.hid hl
  clear hl
  go_wp2_with (go_at_call 17; refine (HL.out).mono ?_; rintro e w' ⟨rfl, n, rfl⟩)
  go_ret
  exact ⟨rfl, hf4.out.drewN _⟩

/-- The bytes with nine marks behind. -/
def marked (bs : List UInt8) : List Value := bs.map bv ++ List.replicate 9 (bv 77)
theorem marked_length (bs : List UInt8) : (marked bs).length = bs.length + 9 := by simp [marked]
theorem marked_lo (bs : List UInt8) (k : Nat) (h : k < bs.length) : (marked bs)[k]? = some (bv (bs[k]'h)) := by
  unfold marked
  rw [List.getElem?_append_left (by simpa using h), List.getElem?_map, List.getElem?_eq_getElem h, Option.map_some]
theorem marked_hi (bs : List UInt8) (k : Nat) (h : bs.length ≤ k) (h2 : k < bs.length + 9) : (marked bs)[k]? = some (bv 77) := by
  unfold marked
  exact get_rep _ _ _ _ (by simpa using h) (by simpa using h2)

set_option maxHeartbeats 1000000 in
theorem lent_calls (A : Option Addr) (n c : Nat) (bs : List UInt8) (w : World) (hn : n = bs.length) (hb : bs.length ≤ 281474976710640) (h : RdC w A (bs.map bv)) :
    Calls Try.prog 9 #[.slice A n c] w fun e w' => ∃ g, e = .returned (.slice (some ⟨g, 0, none⟩) bs.length (bs.length + 9)) ∧ Blk w' g (marked bs) 5 ∧ w.heap.size ≤ g ∧ Fr w w' := by
  subst hn
  have H := Lib.hid h; clear h
  have hmk := fun W => run_mk1 (P := Try.prog) 22 5 (.int .u8 0) 1 Try.underlying22 info_u8 rfl W ((bs.length : Int) + 9) (bs.length + 9) (by omega) (by omega) (by omega)
  go_enter Try.func9, Try.ntmps9
  go_wp2
  obtain ⟨w1, hr, hblk, hgr, hsz⟩ := run_copy1 (P := Try.prog) 22 22 3 5 Try.underlying22 size_u8 (w.alloc (.cells (arr (List.replicate (bs.length + 9) (.int .u8 0))) 5)) w.heap.size (bs.length + 9) (bs.length + 9) A bs.length c (bs.map bv) _ (by simp) (by omega) (by simp) (Blk.new w _ _) (H.out.fr ((Fr.refl w).alloc _)) (bv_one bs)
  have hfr : Hid (Fr w w1) := ((Fr.refl w).alloc _).grown hgr (by simp)
  have hb0 : Hid (Blk w1 w.heap.size ((bs.map bv ++ List.replicate 0 (bv 77)) ++ List.replicate (9 - 0) (.int .u8 0)) 5) := by
    refine Lib.hid ?_
    simpa [List.drop_replicate] using hblk
  clear hblk hgr hsz
  rw [hr]
  clear hr
  go_wp2
  go_loopw [4] (fun i wr => ∃ k : Nat, k ≤ 9 ∧ i = .int .i64 ((bs.length + k : Nat) : Int) ∧ Hid (Blk wr w.heap.size ((bs.map bv ++ List.replicate k (bv 77)) ++ List.replicate (9 - k) (.int .u8 0)) 5) ∧ Hid (Fr w wr)) (fun i _ => bs.length + 9 - (intOf i).toNat)
  case atStart => exact ⟨0, by omega, rfl, hb0, hfr⟩
  case round =>
    obtain ⟨k, hk, rfl, hb1, hf1⟩ := hrel
    by_cases hk8 : k < 9
    · have e4 := hb1.out.frozen (bs.length + k)
      have e5 := hb1.out.cell (bs.length + k) (.int .u8 0) (get_rep _ _ _ _ (by simp) (by simp; omega))
      have e7 := hb1.out.set (bs.length + k) (bv 77)
      rw [show 9 - k = (9 - (k + 1)) + 1 by omega, set_rep _ _ _ _ _ (by simp)] at e7
      have E7 := Lib.hid e7
      clear e7
      go_wp2
      refine ⟨⟨k + 1, by omega, by go_num, ?_, Lib.hid (Fr.set hf1.out (Nat.le_refl _) _)⟩, by simp [intOf]; omega⟩
      refine Lib.hid ?_
      have := E7.out
      simp only [List.replicate_succ', bv] at this ⊢
      simpa [bv] using this
    · obtain rfl : k = 9 := by omega
      go_wp2
      go_ret
      exact ⟨w.heap.size, rfl, by simpa [marked] using hb1.out, Nat.le_refl _, hf1.out⟩

theorem same_calls (A B : Option Addr) (n c m d : Nat) (xs bs : List UInt8) (w : World) (hn : n = xs.length) (hm : m = bs.length) (h : RdC w A (xs.map bv)) (h2 : RdC w B (bs.map bv)) :
    Calls Try.prog 13 #[.slice A n c, .slice B m d] w fun e w' => e = .returned (.bool (xs == bs)) ∧ w = w' := by
  have e1 := run_str (P := Try.prog) 22 5 9 Try.underlying22 Try.underlying5 Try.underlying9 w A n c xs hn h
  have e2 := run_str (P := Try.prog) 22 5 9 Try.underlying22 Try.underlying5 Try.underlying9 w B m d bs hm h2
  have e3 := bstr_toList xs
  have e4 := bstr_toList bs
  have HN := Lib.hid hn; have HM := Lib.hid hm
  clear h h2 hn hm
  go_enter Try.func13, Try.ntmps13
  go_wp2
  go_ret
  exact ⟨rfl, rfl⟩

set_option maxHeartbeats 1000000 in
theorem kept_calls (g : Nat) (B : Option Addr) (n d : Nat) (bs : List UInt8) (w : World) (hn : n = bs.length) (hb : bs.length ≤ 281474976710640) (h : Blk w g (marked bs) 5) (h2 : RdC w B (bs.map bv)) :
    Calls Try.prog 12 #[.slice (some ⟨g, 0, none⟩) n (n + 9), .slice B n d] w fun e w' => e = .returned (.bool true) ∧ ∃ k, w' = w.drewN k := by
  subst hn
  have H := Lib.hid h; have H2 := Lib.hid h2
  clear h h2
  go_enter Try.func12, Try.ntmps12
  go_wp2
  go_loopw [5] (fun i wr => ∃ k m : Nat, k ≤ bs.length + 9 ∧ i = .int .i64 k ∧ wr = w.drewN m) (fun i _ => bs.length + 9 - (intOf i).toNat)
  case atStart => exact ⟨0, 0, by omega, rfl, rfl⟩
  case round =>
    obtain ⟨k, m, hk, rfl, rfl⟩ := hrel
    by_cases hk9 : k < bs.length + 9
    · by_cases hk8 : k < bs.length
      · have hx := H.out.cell k _ (marked_lo bs k hk8)
        obtain ⟨bk, off, rfl, hcell⟩ := H2.out.at (by simp; omega)
        have hy := hcell k (bv (bs[k]'hk8)) (by rw [List.getElem?_map, List.getElem?_eq_getElem hk8, Option.map_some])
        unfold bv at hx hy
        have hd1 : decide ((k : Int) < (bs.length : Int)) = true := decide_eq_true (by omega)
        have hd2 : decide ((bs.length : Int) ≤ (k : Int)) = false := decide_eq_false (by omega)
        have hd3 : decide (k < bs.length) = true := decide_eq_true (by omega)
        have hd4 : decide (bs.length ≤ k) = false := decide_eq_false (by omega)
        have hi : (k : Int) < (bs.length : Int) + 9 := by omega
        have hj : (k : Int) < (bs.length : Int) := by omega
        clear hcell
        go_wp2
        go_quiet (fail)
        go_wp2
        exact ⟨⟨k + 1, m + nq, by omega, by go_num, rfl⟩, by simp [intOf]; omega⟩
      · have hx := H.out.cell k _ (marked_hi bs k (by omega) (by omega))
        unfold bv at hx
        have hd1 : decide ((k : Int) < (bs.length : Int)) = false := decide_eq_false (by omega)
        have hd2 : decide ((bs.length : Int) ≤ (k : Int)) = true := decide_eq_true (by omega)
        have hd3 : decide (k < bs.length) = false := decide_eq_false (by omega)
        have hd4 : decide (bs.length ≤ k) = true := decide_eq_true (by omega)
        have hi : (k : Int) < (bs.length : Int) + 9 := by omega
        go_wp2
        go_quiet (fail)
        go_wp2
        exact ⟨⟨k + 1, m + nq, by omega, by go_num, rfl⟩, by simp [intOf]; omega⟩
    · go_wp2
      go_ret
      exact ⟨rfl, _, rfl⟩

/-- The kind of a call: what kind() answers. -/
def kindOf (n : Int) : Int := (if n < 0 then -(n + 1) else n) % 6
theorem kindOf_range (n : Int) : 0 ≤ kindOf n ∧ kindOf n < 6 := by unfold kindOf; split <;> omega
theorem kind_calls (n : Int) (hn : -9223372036854775808 ≤ n ∧ n ≤ 9223372036854775807) (w : World) :
    Calls Try.prog 23 #[.int .i64 n] w fun e w' => e = .returned (.int .i64 (kindOf n)) ∧ w = w' := by
  by_cases h : n < 0
  · have hk : kindOf n = (-(n + 1)) % 6 := by unfold kindOf; rw [if_pos h]
    have HK := Lib.hid hk; clear hk
    go_enter Try.func23, Try.ntmps23
    go_wp2
    go_ret
    rw [HK.out]
    have h2 : -((n + 1).tmod 6) = (-(n + 1)) % 6 := by rw [← Int.neg_tmod, Int.tmod_eq_emod_of_nonneg (by omega)]
    refine ⟨?_, rfl⟩
    rw [← h2]; rfl
  · have hk : kindOf n = n % 6 := by unfold kindOf; rw [if_neg h]
    have HK := Lib.hid hk; clear hk
    go_enter Try.func23, Try.ntmps23
    go_wp2
    go_ret
    rw [HK.out]
    exact ⟨rfl, rfl⟩

end Go.Proofs.Ytadconkhilnkoaa
