/- The walk of the law OctetsCut. -/
import Derived.Test.YtadconkhilnkoaaBack
namespace Go.Proofs.Ytadconkhilnkoaa
open Go.RowKit Go.Inc

theorem cut_rd8 (l : List Nat) (c i : Nat) (hi : 8 * (i + 1) ≤ c) (hc : c ≤ 8 * l.length) (h : i < l.length) (hx : l[i] < 18446744073709551616) :
    rd8 (bstr ((encN l).take c)) (8 * i) (fun _ => true) = (l[i], 0, 8 * (i + 1)) := by
  unfold rd8
  rw [if_neg (by rw [bstr_size, List.length_take, encN_length]; omega), if_pos rfl]
  unfold bstr
  rw [be_take _ _ _ _ (by omega)]
  have := encN_be l i h hx
  unfold bstr at this
  rw [this]; rfl
theorem cut_end (l : List Nat) (c a : Nat) (ha : c < a + 8) (may : Nat → Bool) : rd8 (bstr ((encN l).take c)) a may = (0, 100, a) := by
  unfold rd8
  rw [if_pos (by rw [bstr_size, List.length_take, encN_length]; omega)]

def u64v (n : Nat) : Value := .int .u64 n

set_option maxRecDepth 100000 in
set_option maxHeartbeats 4000000 in
theorem cut_calls (A : Option Addr) (n c : Nat) (xs : List Nat) (cut : Int) (w : World) (hn : n = xs.length) (hb : xs.length ≤ 1048576) (hcut : -9223372036854775808 ≤ cut ∧ cut ≤ 9223372036854775807) (hx : ∀ x ∈ xs, x < 18446744073709551616) (h : RdC w A (xs.map u64v)) :
    Calls Try.prog 5 #[.slice A n c, .int .i64 cut] w fun e w' => e = .returned (.bool true) ∧ Fr w w' := by
  subst hn
  have H := Lib.hid h; clear h
  have HX := Lib.hid hx; clear hx
  obtain ⟨cut2, hcut2⟩ : ∃ c2 : Int, c2 = if cut < 0 then -(cut + 1) else cut := ⟨_, rfl⟩
  obtain ⟨q, hq⟩ : ∃ q : Nat, cut2 % (8 * (xs.length : Int) + 1) = (q : Int) := ⟨(cut2 % (8 * (xs.length : Int) + 1)).toNat, by have := Int.emod_nonneg cut2 (show 8 * (xs.length : Int) + 1 ≠ 0 by omega); omega⟩
  have hq2 : q ≤ 8 * xs.length := by have := Int.emod_lt_of_pos cut2 (show 0 < 8 * (xs.length : Int) + 1 by omega); omega
  have hc0 : 0 ≤ cut2 ∧ cut2 ≤ 9223372036854775807 := by rw [hcut2]; split <;> omega
  have hcut2 := Lib.hid hcut2
  have hdiv : (q : Int) / 8 = ((q / 8 : Nat) : Int) := by omega
  have hdivN := Lib.hid hdiv
  clear hdiv
  go_enter Try.func5, Try.ntmps5
  go_wp2_with fail
  refine (shown_calls w).mono ?_
  rintro e w1 ⟨rfl, hf⟩
  have hf := Lib.hid hf
  go_wp2
  go_loopw [6, 7] (fun v i wr => ∃ (k : Nat) (B : Option Addr) (cb : Nat), k ≤ xs.length ∧ i = .int .i64 k ∧ v = .slice B (8 * k) cb ∧ Hid (8 * k ≤ cb) ∧ Hid (RdC wr B ((encN (xs.take k)).map bv)) ∧ Hid (Fr w wr)) (fun _ i _ => xs.length - (intOf i).toNat)
  case atStart => exact ⟨0, none, 0, by omega, rfl, rfl, Nat.le_refl _, .inl rfl, hf⟩
  case round =>
    obtain ⟨k, B, cb, hk, rfl, rfl, hcb, hrd, hf⟩ := hrel
    by_cases hk8 : k < xs.length
    · obtain ⟨bk, off, rfl, hcell⟩ := H.out.at (by simp; omega)
      have hx0 : w1.cell? ⟨bk, off + k, none⟩ = some (u64v xs[k]) → True := fun _ => trivial
      clear hx0
      have hx0 := hf.out.cell (hcell k (u64v xs[k]) (by rw [List.getElem?_map, List.getElem?_eq_getElem hk8]; rfl))
      unfold u64v at hx0
      have hN := HX.out xs[k] (List.getElem_mem hk8)
      have hsn : Hid (encN (xs.take (k + 1)) = encN (xs.take k) ++ be8 xs[k]) := by
        refine Lib.hid ?_
        rw [List.take_succ_eq_append_getElem hk8, encN_snoc]
      have hlk : Hid (8 * k = (encN (xs.take k)).length) := by
        refine Lib.hid ?_
        rw [encN_length, List.length_take]; omega
      generalize xs[k] = N at *
      clear hcell
      go_wp2_with fail
      refine (put_calls B (8 * k) cb (encN (xs.take k)) N _ hN hlk.out (by rw [← hlk.out]; omega) hrd.out).mono ?_
      rintro e w2 ⟨g2, rfl, hb2, hg2, hf2⟩
      have hrd2 : Hid (RdC w2 (some ⟨g2, 0, none⟩) ((encN (xs.take (k + 1))).map bv)) := by
        refine Lib.hid ?_
        rw [hsn.out]
        exact RdC.blk hb2
      have hlen2 : (encN (xs.take k)).length + 8 = 8 * (k + 1) := by rw [← hlk.out]; omega
      rw [hlen2]
      have hf := Lib.hid (Fr.trans hf.out hf2)
      clear hb2 hlen2
      go_wp2
      exact ⟨⟨k + 1, _, _, by omega, by go_num, rfl, Lib.hid (Nat.le_refl _), hrd2, hf⟩, by simp [intOf]; omega⟩
    · obtain rfl : k = xs.length := by omega
      have hall : xs.take xs.length = xs := List.take_of_length_le (Nat.le_refl _)
      rw [hall] at hrd
      clear hall
      obtain ⟨B2, hrun, _, hrdB⟩ := run_cut_h (P := Try.prog) 22 5 1 Try.underlying22 size_u8 B (8 * xs.length) cb q (q : Int) rfl (by have := hcb.out; omega) .i64
      have hrd2 : Hid (RdC wr B2 (((encN xs).take q).map bv)) := by
        refine Lib.hid ?_
        rw [List.map_take]
        exact (hrdB wr _ hrd.out).take q
      clear hrdB
      have hlen : Hid (q = ((encN xs).take q).length) := by
        refine Lib.hid ?_
        rw [List.length_take, encN_length]; omega
      by_cases hneg : cut < 0
      · have e1 : Hid (cut2 = -(cut + 1)) := Lib.hid (by rw [hcut2.out, if_pos hneg])
        rw [e1.out] at hq
        have hq : -(cut + 1).tmod (8 * (xs.length : Int) + 1) = (q : Int) := by
          rw [← Int.neg_tmod, Int.tmod_eq_emod_of_nonneg (by omega)]; exact hq
        go_wp2_with fail
        refine (octNew_calls B2 q cb ((encN xs).take q) wr hlen.out hrd2.out).mono ?_
        rintro e w2 ⟨r, rfl, hr, hrg, hf2⟩
        have hrg : Hid (w.heap.size ≤ r) := Nat.le_trans hf.out.size hrg
        have hf := Lib.hid (Fr.trans hf.out hf2)
        have hr := Lib.hid hr
        have hsz : Hid ((bstr ((encN xs).take q)).size = q) := Lib.hid (by rw [bstr_size, ← hlen.out])
        have hmx : Hid ((bstr ((encN xs).take q)).size ≤ maxLen) := Lib.hid (by rw [hsz.out]; unfold maxLen; omega)
        clear hf2 hrd hrd2 hq hrun
        go_wp2
        go_loopw [9] (fun i wr => ∃ (k : Nat), k ≤ q / 8 ∧ i = .int .i64 k ∧ Hid (IsR wr r (bstr ((encN xs).take q)) (8 * k)) ∧ Hid (Fr w wr)) (fun i _ => q / 8 - (intOf i).toNat)
        case atStart => exact ⟨0, by omega, rfl, hr, hf⟩
        case round =>
          obtain ⟨k, hk, rfl, hr, hf⟩ := hrel
          by_cases hk8 : k < q / 8
          · have hkx : k < xs.length := by omega
            obtain ⟨bk, off, rfl, hcell⟩ := H.out.at (by simp; omega)
            have hx0 := hcell k (u64v xs[k]) (by rw [List.getElem?_map, List.getElem?_eq_getElem hkx]; rfl)
            unfold u64v at hx0
            have hN := HX.out xs[k] (List.getElem_mem hkx)
            have hnum := fun W h => number_calls r (bstr ((encN xs).take q)) (8 * k) W h (by rw [hsz.out]; omega) hmx.out
            unfold RdPost at hnum
            rw [cut_rd8 xs q k (by omega) hq2 hkx hN] at hnum
            have hnum := Lib.hid hnum
            have hx0 := Lib.hid hx0
            have hk9 : (k : Int) < (q : Int) / 8 := by omega
            generalize xs[k] = N at *
            clear hcell
            go_wp2_with fail
            refine (hnum.out _ hr.out).mono ?_
            rintro e w3 ⟨rfl, hr3, hg3⟩
            have hr3 := Lib.hid hr3
            have hf := Lib.hid (fr_of_grown hf.out hg3 hrg.out)
            have hy1 := hf.out.cell hx0.out
            clear hg3
            go_wp2
            exact ⟨⟨k + 1, by omega, by go_num, hr3, hf⟩, by simp [intOf]; omega⟩
          · obtain rfl : k = q / 8 := by omega
            have hk9 : ¬ ((q / 8 : Nat) : Int) < (q : Int) / 8 := by omega
            have hend := fun may => cut_end xs q (8 * (q / 8)) (by omega) may
            have hnum := fun W h => number_calls r (bstr ((encN xs).take q)) (8 * (q / 8)) W h (by rw [hsz.out]; omega) hmx.out
            unfold RdPost at hnum
            rw [hend] at hnum
            have hnum := Lib.hid hnum
            have hflo := fun W h => float_calls r (bstr ((encN xs).take q)) (8 * (q / 8)) W h (by rw [hsz.out]; omega) hmx.out
            unfold RdPost at hflo
            rw [hend] at hflo
            have hflo := Lib.hid hflo
            have hcnt := fun W h => count_calls r (bstr ((encN xs).take q)) (8 * (q / 8)) 5 (by omega) W h (by rw [hsz.out]; omega) hmx.out
            unfold RdPost at hcnt
            rw [hend] at hcnt
            have hcnt := Lib.hid hcnt
            have hleft := fun W (h : IsR W r (bstr ((encN xs).take q)) (8 * (q / 8))) => left_calls r (bstr ((encN xs).take q)) (8 * (q / 8)) W h (by rw [hsz.out]; omega) hmx.out
            rw [show (((bstr ((encN xs).take q)).size : Int) - ((8 * (q / 8) : Nat) : Int)) = (q : Int) % 8 by rw [hsz.out]; omega] at hleft
            have hleft := Lib.hid hleft
            clear hend
            go_wp2_with fail
            refine (hnum.out _ hr.out).mono ?_
            rintro e w3 ⟨rfl, hr3, hg3⟩
            have hr3 := Lib.hid hr3
            have hf := Lib.hid (fr_of_grown hf.out hg3 hrg.out)
            clear hg3
            go_wp2_with fail
            refine (hflo.out _ hr3.out).mono ?_
            rintro e w4 ⟨rfl, hr4, hg4⟩
            have hr4 := Lib.hid hr4
            have hf := Lib.hid (fr_of_grown hf.out hg4 hrg.out)
            clear hg4
            go_wp2_with fail
            refine (hcnt.out _ hr4.out).mono ?_
            rintro e w5 ⟨rfl, hr5, hg5⟩
            have hr5 := Lib.hid hr5
            have hf := Lib.hid (fr_of_grown hf.out hg5 hrg.out)
            clear hg5
            go_wp2_with fail
            refine (hleft.out _ hr5.out).mono ?_
            rintro e w6 ⟨rfl, m6, rfl⟩
            go_wp2
            go_ret
            exact ⟨rfl, hf.out.drewN _⟩
      · have e1 : Hid (cut2 = cut) := Lib.hid (by rw [hcut2.out, if_neg hneg])
        rw [e1.out] at hq
        go_wp2_with fail
        refine (octNew_calls B2 q cb ((encN xs).take q) wr hlen.out hrd2.out).mono ?_
        rintro e w2 ⟨r, rfl, hr, hrg, hf2⟩
        have hrg : Hid (w.heap.size ≤ r) := Nat.le_trans hf.out.size hrg
        have hf := Lib.hid (Fr.trans hf.out hf2)
        have hr := Lib.hid hr
        have hsz : Hid ((bstr ((encN xs).take q)).size = q) := Lib.hid (by rw [bstr_size, ← hlen.out])
        have hmx : Hid ((bstr ((encN xs).take q)).size ≤ maxLen) := Lib.hid (by rw [hsz.out]; unfold maxLen; omega)
        clear hf2 hrd hrd2 hq hrun
        go_wp2
        go_loopw [9] (fun i wr => ∃ (k : Nat), k ≤ q / 8 ∧ i = .int .i64 k ∧ Hid (IsR wr r (bstr ((encN xs).take q)) (8 * k)) ∧ Hid (Fr w wr)) (fun i _ => q / 8 - (intOf i).toNat)
        case atStart => exact ⟨0, by omega, rfl, hr, hf⟩
        case round =>
          obtain ⟨k, hk, rfl, hr, hf⟩ := hrel
          by_cases hk8 : k < q / 8
          · have hkx : k < xs.length := by omega
            obtain ⟨bk, off, rfl, hcell⟩ := H.out.at (by simp; omega)
            have hx0 := hcell k (u64v xs[k]) (by rw [List.getElem?_map, List.getElem?_eq_getElem hkx]; rfl)
            unfold u64v at hx0
            have hN := HX.out xs[k] (List.getElem_mem hkx)
            have hnum := fun W h => number_calls r (bstr ((encN xs).take q)) (8 * k) W h (by rw [hsz.out]; omega) hmx.out
            unfold RdPost at hnum
            rw [cut_rd8 xs q k (by omega) hq2 hkx hN] at hnum
            have hnum := Lib.hid hnum
            have hx0 := Lib.hid hx0
            have hk9 : (k : Int) < (q : Int) / 8 := by omega
            generalize xs[k] = N at *
            clear hcell
            go_wp2_with fail
            refine (hnum.out _ hr.out).mono ?_
            rintro e w3 ⟨rfl, hr3, hg3⟩
            have hr3 := Lib.hid hr3
            have hf := Lib.hid (fr_of_grown hf.out hg3 hrg.out)
            have hy1 := hf.out.cell hx0.out
            clear hg3
            go_wp2
            exact ⟨⟨k + 1, by omega, by go_num, hr3, hf⟩, by simp [intOf]; omega⟩
          · obtain rfl : k = q / 8 := by omega
            have hk9 : ¬ ((q / 8 : Nat) : Int) < (q : Int) / 8 := by omega
            have hend := fun may => cut_end xs q (8 * (q / 8)) (by omega) may
            have hnum := fun W h => number_calls r (bstr ((encN xs).take q)) (8 * (q / 8)) W h (by rw [hsz.out]; omega) hmx.out
            unfold RdPost at hnum
            rw [hend] at hnum
            have hnum := Lib.hid hnum
            have hflo := fun W h => float_calls r (bstr ((encN xs).take q)) (8 * (q / 8)) W h (by rw [hsz.out]; omega) hmx.out
            unfold RdPost at hflo
            rw [hend] at hflo
            have hflo := Lib.hid hflo
            have hcnt := fun W h => count_calls r (bstr ((encN xs).take q)) (8 * (q / 8)) 5 (by omega) W h (by rw [hsz.out]; omega) hmx.out
            unfold RdPost at hcnt
            rw [hend] at hcnt
            have hcnt := Lib.hid hcnt
            have hleft := fun W (h : IsR W r (bstr ((encN xs).take q)) (8 * (q / 8))) => left_calls r (bstr ((encN xs).take q)) (8 * (q / 8)) W h (by rw [hsz.out]; omega) hmx.out
            rw [show (((bstr ((encN xs).take q)).size : Int) - ((8 * (q / 8) : Nat) : Int)) = (q : Int) % 8 by rw [hsz.out]; omega] at hleft
            have hleft := Lib.hid hleft
            clear hend
            go_wp2_with fail
            refine (hnum.out _ hr.out).mono ?_
            rintro e w3 ⟨rfl, hr3, hg3⟩
            have hr3 := Lib.hid hr3
            have hf := Lib.hid (fr_of_grown hf.out hg3 hrg.out)
            clear hg3
            go_wp2_with fail
            refine (hflo.out _ hr3.out).mono ?_
            rintro e w4 ⟨rfl, hr4, hg4⟩
            have hr4 := Lib.hid hr4
            have hf := Lib.hid (fr_of_grown hf.out hg4 hrg.out)
            clear hg4
            go_wp2_with fail
            refine (hcnt.out _ hr4.out).mono ?_
            rintro e w5 ⟨rfl, hr5, hg5⟩
            have hr5 := Lib.hid hr5
            have hf := Lib.hid (fr_of_grown hf.out hg5 hrg.out)
            clear hg5
            go_wp2_with fail
            refine (hleft.out _ hr5.out).mono ?_
            rintro e w6 ⟨rfl, m6, rfl⟩
            go_wp2
            go_ret
            exact ⟨rfl, hf.out.drewN _⟩

end Go.Proofs.Ytadconkhilnkoaa
