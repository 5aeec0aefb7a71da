/- The walk of the law OctetsBack. -/
import Derived.Test.YtadconkhilnkoaaLaw10
namespace Go.Proofs.Ytadconkhilnkoaa
open Go.RowKit Go.Inc

/-- An item: its kind, and its number. -/
structure Item10 where
  kind : Int
  n : Nat
def Item10.cells (x : Item10) : List Value := [.int .i64 x.kind, .int .u64 x.n]
def encN (l : List Nat) : List UInt8 := l.flatMap be8
theorem encN_length (l : List Nat) : (encN l).length = 8 * l.length := by
  unfold encN
  induction l with
  | nil => rfl
  | cons x l ih => rw [List.flatMap_cons, List.length_append, ih, be8_length, List.length_cons]; omega
theorem encN_snoc (l : List Nat) (x : Nat) : encN (l ++ [x]) = encN l ++ be8 x := by simp [encN]
theorem encN_split (l : List Nat) (i : Nat) (h : i < l.length) : encN l = encN (l.take i) ++ be8 l[i] ++ encN (l.drop (i + 1)) := by
  have h1 : l = l.take i ++ l[i] :: l.drop (i + 1) := by rw [← List.drop_eq_getElem_cons h, List.take_append_drop]
  have h2 := congrArg encN h1
  rw [h2]
  unfold encN
  rw [List.flatMap_append, List.flatMap_cons, List.append_assoc]
theorem encN_be (l : List Nat) (i : Nat) (h : i < l.length) (hx : l[i] < 18446744073709551616) : be (bstr (encN l)) (8 * i) 8 = l[i] := by
  have h1 : (encN (l.take i)).length = 8 * i := by rw [encN_length, List.length_take]; omega
  have := be_be8 (encN (l.take i)) (encN (l.drop (i + 1))) l[i] hx
  rw [← encN_split l i h, h1] at this
  exact this
theorem encN_rd8 (l : List Nat) (i : Nat) (h : i < l.length) (hx : l[i] < 18446744073709551616) (may : Nat → Bool) :
    rd8 (bstr (encN l)) (8 * i) may = if may l[i] = true then (l[i], 0, 8 * (i + 1)) else (0, 101, 8 * i) := by
  unfold rd8
  rw [if_neg (by rw [bstr_size, encN_length]; omega), encN_be l i h hx]
  rfl
theorem encN_end (l : List Nat) (may : Nat → Bool) : rd8 (bstr (encN l)) (8 * l.length) may = (0, 100, 8 * l.length) := by
  unfold rd8
  rw [if_pos (by rw [bstr_size, encN_length]; omega)]

def ns10 (xs : List Item10) : List Nat := xs.map (·.n)
theorem ns10_length (xs : List Item10) : (ns10 xs).length = xs.length := by simp [ns10]
theorem ns10_get (xs : List Item10) (i : Nat) (h : i < xs.length) : (ns10 xs)[i]'(by rw [ns10_length]; exact h) = xs[i].n := by simp [ns10]
theorem ns10_snoc (xs : List Item10) (i : Nat) (h : i < xs.length) : encN ((ns10 xs).take (i + 1)) = encN ((ns10 xs).take i) ++ be8 xs[i].n := by
  rw [List.take_succ_eq_append_getElem (by rw [ns10_length]; exact h), encN_snoc, ns10_get xs i h]
theorem ns10_rd8 (xs : List Item10) (i : Nat) (h : i < xs.length) (hx : xs[i].n < 18446744073709551616) (may : Nat → Bool) :
    rd8 (bstr (encN (ns10 xs))) (8 * i) may = if may xs[i].n = true then (xs[i].n, 0, 8 * (i + 1)) else (0, 101, 8 * i) := by
  have := encN_rd8 (ns10 xs) i (by rw [ns10_length]; exact h) (by rw [ns10_get xs i h]; exact hx) may
  rwa [ns10_get xs i h] at this

/-- Kinds of items: even; odd with a finite float; odd with another one. -/
inductive Way10 (kd : Int) (N : Nat) : Prop
  | even (h : kd.tmod 2 = 0)
  | fin (h : kd.tmod 2 ≠ 0) (hf : Inc.fin N = true)
  | non (h : kd.tmod 2 ≠ 0) (hf : Inc.fin N = false)
theorem way10 (kd : Int) (N : Nat) : Way10 kd N := by
  by_cases h : kd.tmod 2 = 0
  · exact .even h
  · cases hf : Inc.fin N
    · exact .non h hf
    · exact .fin h hf

set_option maxRecDepth 100000 in
set_option maxHeartbeats 4000000 in
theorem back_calls (A : Option Addr) (n c : Nat) (xs : List Item10) (w : World) (hn : n = xs.length) (hb : xs.length ≤ 1048576) (hx : ∀ x ∈ xs, x.n < 18446744073709551616 ∧ -9223372036854775808 ≤ x.kind ∧ x.kind ≤ 9223372036854775807) (h : RdC w A (xs.flatMap Item10.cells)) :
    Calls Try.prog 4 #[.slice A n c] w fun e w' => e = .returned (.bool true) ∧ Fr w w' := by
  subst hn
  have H := Lib.hid h; clear h
  have HX := Lib.hid hx; clear hx
  have hfb := frombits_run
  have htb := tobits_run
  go_enter Try.func4, Try.ntmps4
  go_wp2_with fail
  refine (shown_calls w).mono ?_
  rintro e w1 ⟨rfl, hf⟩
  have hf := Lib.hid hf
  go_wp2
  go_loopw [4, 5] (fun v i wr => ∃ (k : Nat) (B : Option Addr) (cb : Nat), k ≤ xs.length ∧ i = .int .i64 k ∧ v = .slice B (8 * k) cb ∧ Hid (RdC wr B ((encN ((ns10 xs).take k)).map bv)) ∧ Hid (Fr w wr)) (fun _ i _ => xs.length - (intOf i).toNat)
  case atStart => exact ⟨0, none, 0, by omega, rfl, rfl, .inl rfl, hf⟩
  case round =>
    obtain ⟨k, B, cb, hk, rfl, rfl, hrd, hf⟩ := hrel
    by_cases hk8 : k < xs.length
    · obtain ⟨bk, off, rfl, hcell⟩ := H.out.at (by rw [flat_len Item10.cells 2 (fun _ => rfl)]; omega)
      have hx0 : wr.cell? ⟨bk, off + k * 2, none⟩ = _ := hf.out.cell (hcell (k * 2 + 0) _ (by rw [get_flat Item10.cells 2 (fun _ => rfl) xs k _ 0 (List.getElem?_eq_getElem hk8) (by omega)]; rfl))
      have hx1 : wr.cell? ⟨bk, off + k * 2 + 1, none⟩ = _ := hf.out.cell (hcell (k * 2 + 1) _ (by rw [get_flat Item10.cells 2 (fun _ => rfl) xs k _ 1 (List.getElem?_eq_getElem hk8) (by omega)]; rfl))
      have hN := HX.out xs[k] (List.getElem_mem hk8)
      have hsn := Lib.hid (ns10_snoc xs k hk8)
      have hlk : Hid (8 * k = (encN ((ns10 xs).take k)).length) := by
        have := ns10_length xs
        refine Lib.hid ?_
        rw [encN_length, List.length_take]; omega
      generalize xs[k].kind = kd at *
      generalize xs[k].n = N at *
      clear hcell
      obtain ⟨hN1, hN2, hN3⟩ := hN
      rcases way10 kd N with h | ⟨h, hfin⟩ | ⟨h, hfin⟩
      · have hd : (kd.tmod 2 == 0) = true := beq_iff_eq.2 h
        have hw := Lib.hid h; clear h
        go_wp2_with fail
        refine (put_calls B (8 * k) cb (encN ((ns10 xs).take k)) N _ hN1 hlk.out (by rw [← hlk.out]; omega) hrd.out).mono ?_
        rintro e w2 ⟨g2, rfl, hb2, hg2, hf2⟩
        have hrd2 : Hid (RdC w2 (some ⟨g2, 0, none⟩) ((encN ((ns10 xs).take (k + 1))).map bv)) := by
          refine Lib.hid ?_
          rw [hsn.out]
          exact RdC.blk hb2
        have hlen2 : (encN ((ns10 xs).take k)).length + 8 = 8 * (k + 1) := by rw [← hlk.out]; omega
        rw [hlen2]
        have hf := Lib.hid (Fr.trans hf.out hf2)
        clear hb2 hlen2
        go_wp2
        exact ⟨⟨k + 1, _, _, by omega, by go_num, rfl, hrd2, hf⟩, by simp [intOf]; omega⟩
      · have hd : (kd.tmod 2 == 0) = false := beq_eq_false_iff_ne.2 h
        have hw := Lib.hid h; clear h
        have hsub := fun W => run_sub_fin (P := Try.prog) 25 N hfin W
        have hz := zero_eq_zero
        have hfin := Lib.hid hfin
        go_wp2_with fail
        refine (putFloat_calls B (8 * k) cb (encN ((ns10 xs).take k)) N _ hN1 hlk.out (by rw [← hlk.out]; omega) hrd.out).mono ?_
        rintro e w2 ⟨g2, rfl, hb2, hg2, hf2⟩
        have hrd2 : Hid (RdC w2 (some ⟨g2, 0, none⟩) ((encN ((ns10 xs).take (k + 1))).map bv)) := by
          refine Lib.hid ?_
          rw [hsn.out]
          exact RdC.blk hb2
        have hlen2 : (encN ((ns10 xs).take k)).length + 8 = 8 * (k + 1) := by rw [← hlk.out]; omega
        rw [hlen2]
        have hf := Lib.hid (Fr.trans hf.out hf2)
        clear hb2 hlen2
        go_wp2
        exact ⟨⟨k + 1, _, _, by omega, by go_num, rfl, hrd2, hf⟩, by simp [intOf]; omega⟩
      · have hd : (kd.tmod 2 == 0) = false := beq_eq_false_iff_ne.2 h
        have hw := Lib.hid h; clear h
        have hsub := fun W => run_sub_not (P := Try.prog) 25 N hfin W
        have hz := fun W => nan_ne_zero (nanv W N) (nanv_nan W N)
        have hfin := Lib.hid hfin
        go_wp2_with fail
        refine (put_calls B (8 * k) cb (encN ((ns10 xs).take k)) N _ hN1 hlk.out (by rw [← hlk.out]; omega) (hrd.out.fr ((Fr.refl wr).drew))).mono ?_
        rintro e w2 ⟨g2, rfl, hb2, hg2, hf2⟩
        have hrd2 : Hid (RdC w2 (some ⟨g2, 0, none⟩) ((encN ((ns10 xs).take (k + 1))).map bv)) := by
          refine Lib.hid ?_
          rw [hsn.out]
          exact RdC.blk hb2
        have hlen2 : (encN ((ns10 xs).take k)).length + 8 = 8 * (k + 1) := by rw [← hlk.out]; omega
        rw [hlen2]
        have hf := Lib.hid (Fr.trans hf.out (((Fr.refl wr).drew).trans hf2))
        clear hb2 hlen2
        go_wp2
        exact ⟨⟨k + 1, _, _, by omega, by go_num, rfl, hrd2, hf⟩, by simp [intOf]; omega⟩
    · obtain rfl : k = xs.length := by omega
      have hall : (ns10 xs).take xs.length = ns10 xs := List.take_of_length_le (by rw [ns10_length]; omega)
      rw [hall] at hrd
      have hlen : Hid (8 * xs.length = (encN (ns10 xs)).length) := by
        have := ns10_length xs
        refine Lib.hid ?_
        rw [encN_length]; omega
      clear hall
      go_wp2_with fail
      refine (octNew_calls B (8 * xs.length) cb (encN (ns10 xs)) wr hlen.out hrd.out).mono ?_
      rintro e w2 ⟨r, rfl, hr, hrg, hf2⟩
      have hrg : Hid (w.heap.size ≤ r) := Nat.le_trans hf.out.size hrg
      have hf := Lib.hid (Fr.trans hf.out hf2)
      have hr := Lib.hid hr
      have hsz : Hid ((bstr (encN (ns10 xs))).size = 8 * xs.length) := Lib.hid (by rw [bstr_size, hlen.out])
      have hmx : Hid ((bstr (encN (ns10 xs))).size ≤ maxLen) := Lib.hid (by rw [hsz.out]; unfold maxLen; omega)
      clear hf2 hrd
      go_wp2
      go_loopw [8] (fun i wr => ∃ (k : Nat), k ≤ xs.length ∧ i = .int .i64 k ∧ Hid (IsR wr r (bstr (encN (ns10 xs))) (8 * k)) ∧ Hid (Fr w wr)) (fun i _ => xs.length - (intOf i).toNat)
      case atStart => exact ⟨0, by omega, rfl, hr, hf⟩
      case round =>
        obtain ⟨k, hk, rfl, hr, hf⟩ := hrel
        have hleft := fun W (h : IsR W r (bstr (encN (ns10 xs))) (8 * k)) => left_calls r (bstr (encN (ns10 xs))) (8 * k) W h (by rw [hsz.out]; omega) hmx.out
        rw [show (((bstr (encN (ns10 xs))).size : Int) - ((8 * k : Nat) : Int)) = 8 * ((xs.length : Int) - (k : Int)) by rw [hsz.out]; omega] at hleft
        have hleft := Lib.hid hleft
        by_cases hk8 : k < xs.length
        · obtain ⟨bk, off, rfl, hcell⟩ := H.out.at (by rw [flat_len Item10.cells 2 (fun _ => rfl)]; omega)
          have hx0 : w.cell? ⟨bk, off + k * 2, none⟩ = _ := (hcell (k * 2 + 0) _ (by rw [get_flat Item10.cells 2 (fun _ => rfl) xs k _ 0 (List.getElem?_eq_getElem hk8) (by omega)]; rfl))
          have hx1 : w.cell? ⟨bk, off + k * 2 + 1, none⟩ = _ := (hcell (k * 2 + 1) _ (by rw [get_flat Item10.cells 2 (fun _ => rfl) xs k _ 1 (List.getElem?_eq_getElem hk8) (by omega)]; rfl))
          have hN := HX.out xs[k] (List.getElem_mem hk8)
          have hrd8 := fun may => ns10_rd8 xs k hk8 hN.1 may
          generalize xs[k].kind = kd at *
          generalize xs[k].n = N at *
          have hrd8 := Lib.hid hrd8
          have hx0 := Lib.hid hx0
          have hx1 := Lib.hid hx1
          have hy0 := hf.out.cell hx0.out
          have hy1 := hf.out.cell hx1.out
          clear hcell
          obtain ⟨hN1, hN2, hN3⟩ := hN
          have hnum := fun W h => number_calls r (bstr (encN (ns10 xs))) (8 * k) W h (by rw [hsz.out]; omega) hmx.out
          unfold RdPost at hnum
          rw [hrd8.out] at hnum
          simp only [if_true] at hnum
          have hnum := Lib.hid hnum
          have hflo := fun W h => float_calls r (bstr (encN (ns10 xs))) (8 * k) W h (by rw [hsz.out]; omega) hmx.out
          unfold RdPost at hflo
          rw [hrd8.out] at hflo
          rcases way10 kd N with h | ⟨h, hfin⟩ | ⟨h, hfin⟩
          · have hd : (kd.tmod 2 != 0) = false := by rw [h]; rfl
            have hw := Lib.hid h; clear h hflo
            go_wp2_with fail
            refine (hleft.out _ hr.out).mono ?_
            rintro e w2 ⟨rfl, m2, rfl⟩
            go_wp2_with fail
            refine (hnum.out _ (hr.out.drewN _)).mono ?_
            rintro e w3 ⟨rfl, hr3, hg3⟩
            have hr3 := Lib.hid hr3
            have hf := Lib.hid (fr_of_grown (hf.out.drewN _) hg3 hrg.out)
            have hy1 := hf.out.cell hx1.out
            clear hg3
            go_wp2
            exact ⟨⟨k + 1, by omega, by go_num, hr3, hf⟩, by simp [intOf]; omega⟩
          · have hd : (kd.tmod 2 != 0) = true := by rw [bne_iff_ne]; exact h
            have hw := Lib.hid h; clear h
            have hsub := fun W => run_sub_fin (P := Try.prog) 25 N hfin W
            have hz := zero_eq_zero
            rw [hfin] at hflo
            simp only [if_true] at hflo
            have hflo := Lib.hid hflo
            have hfin := Lib.hid hfin
            go_wp2_with fail
            refine (hleft.out _ hr.out).mono ?_
            rintro e w2 ⟨rfl, m2, rfl⟩
            go_wp2_with fail
            refine (hflo.out _ (hr.out.drewN _)).mono ?_
            rintro e w3 ⟨rfl, hr3, hg3⟩
            have hr3 := Lib.hid hr3
            have hf := Lib.hid (fr_of_grown (hf.out.drewN _) hg3 hrg.out)
            have hy1 := hf.out.cell hx1.out
            clear hg3
            go_wp2
            go_quiet (fail)
            go_wp2
            exact ⟨⟨k + 1, by omega, by go_num, Lib.hid (hr3.out.drewN _), Lib.hid (hf.out.drewN _)⟩, by simp [intOf]; omega⟩
          · have hd : (kd.tmod 2 != 0) = true := by rw [bne_iff_ne]; exact h
            have hw := Lib.hid h; clear h
            have hsub := fun W => run_sub_not (P := Try.prog) 25 N hfin W
            have hz := fun W => nan_ne_zero (nanv W N) (nanv_nan W N)
            have hz0 := zero_eq_zero
            rw [hfin] at hflo
            simp only [Bool.false_eq_true, if_false] at hflo
            have hflo := Lib.hid hflo
            have hfin := Lib.hid hfin
            go_wp2_with fail
            refine (hleft.out _ hr.out).mono ?_
            rintro e w2 ⟨rfl, m2, rfl⟩
            go_wp2_with fail
            refine (hflo.out _ (hr.out.drewN _)).mono ?_
            rintro e w3 ⟨rfl, hr3, hg3⟩
            have hr3 := Lib.hid hr3
            have hf := Lib.hid (fr_of_grown (hf.out.drewN _) hg3 hrg.out)
            clear hg3
            go_wp2_with fail
            refine (hleft.out _ (hr3.out.drewN 1)).mono ?_
            rintro e w4 ⟨rfl, m4, rfl⟩
            go_wp2_with fail
            refine (hnum.out _ (hr3.out.drewN _)).mono ?_
            rintro e w5 ⟨rfl, hr5, hg5⟩
            have hr5 := Lib.hid hr5
            have hf := Lib.hid (fr_of_grown (hf.out.drewN _) hg5 hrg.out)
            have hy1 := hf.out.cell hx1.out
            clear hg5
            go_wp2
            exact ⟨⟨k + 1, by omega, by go_num, hr5, hf⟩, by simp [intOf]; omega⟩
        · obtain rfl : k = xs.length := by omega
          have hnum := fun W h => number_calls r (bstr (encN (ns10 xs))) (8 * xs.length) W h (by rw [hsz.out]; omega) hmx.out
          unfold RdPost at hnum
          have hend := encN_end (ns10 xs) (fun _ => true)
          rw [ns10_length] at hend
          rw [hend] at hnum
          have hnum := Lib.hid hnum
          rw [show 8 * ((xs.length : Int) - (xs.length : Int)) = 0 by omega] at hleft
          clear hend
          go_wp2_with fail
          refine (hnum.out _ hr.out).mono ?_
          rintro e w3 ⟨rfl, hr3, hg3⟩
          have hr3 := Lib.hid hr3
          have hf := Lib.hid (fr_of_grown hf.out hg3 hrg.out)
          clear hg3
          go_wp2_with fail
          refine (hleft.out _ hr3.out).mono ?_
          rintro e w2 ⟨rfl, m2, rfl⟩
          go_wp2
          go_ret
          exact ⟨rfl, hf.out.drewN _⟩

end Go.Proofs.Ytadconkhilnkoaa
