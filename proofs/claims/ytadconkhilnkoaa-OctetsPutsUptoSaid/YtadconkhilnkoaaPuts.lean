/- The walk of the law OctetsPuts. -/
import Derived.Test.YtadconkhilnkoaaRefO
namespace Go.Proofs.Ytadconkhilnkoaa
open Go.RowKit Go.Inc

set_option maxHeartbeats 4000000 in
theorem puts_calls (A : Option Addr) (n c : Nat) (bs : List UInt8) (x bits : Nat) (w : World) (hx : x < 18446744073709551616) (hbits : bits < 18446744073709551616) (hn : n = bs.length) (hb : bs.length ≤ 1048576) (h : RdC w A (bs.map bv)) :
    Calls Try.prog 3 #[.slice A n c, .int .u64 x, .int .u64 bits] w fun e w' => e = .returned (.bool true) ∧ Fr w w' := by
  subst hn
  have H := Lib.hid h; clear h
  have HX := Lib.hid hx; have HY := Lib.hid hbits
  clear hx hbits
  have hfb := frombits_run
  have hord := order_self bits
  obtain ⟨nan, hnan⟩ : ∃ nan, nan = !decide (bits % 9223372036854775808 ≤ infR) := ⟨_, rfl⟩
  have hne : (FloatKind.f64.format.order bits bits != some .eq) = nan := by rw [hnan, ← hord]; rfl
  clear hord hnan
  go_enter Try.func3, Try.ntmps3
  go_wp2_with fail
  refine (shown_calls w).mono ?_
  rintro e w1 ⟨rfl, hf⟩
  have hf := Lib.hid hf
  go_wp2_with fail
  refine (lent_calls A bs.length c bs w1 rfl (by omega) (H.out.fr hf.out)).mono ?_
  rintro e w2 ⟨ga, rfl, hba, hga, hf2⟩
  have hba := Lib.hid hba
  have hga : Hid (w.heap.size ≤ ga) := Nat.le_trans hf.out.size hga
  have hf := Lib.hid (hf.out.trans hf2)
  clear hf2
  go_wp2_with fail
  have hrda : Hid (RdC w2 (some ⟨ga, 0, none⟩) (bs.map bv)) := by
    have := (RdC.blk hba.out).take bs.length
    have e : (marked bs).take bs.length = bs.map bv := by unfold marked; rw [List.take_left' (by simp)]
    rwa [e] at this
  refine (put_calls (some ⟨ga, 0, none⟩) bs.length (bs.length + 9) bs x w2 HX.out rfl (by omega) hrda.out).mono ?_
  rintro e w3 ⟨gx, rfl, hbx, hgx, hf3⟩
  have hbx := Lib.hid hbx
  have hgxa : Hid (ga < gx) := Nat.lt_of_lt_of_le hba.out.lt hgx
  have hba := Lib.hid (hba.out.fr hf3)
  have hrda := Lib.hid (hrda.out.fr hf3)
  have hgx1 : Hid (w.heap.size ≤ gx) := Nat.le_trans hf.out.size hgx
  have hf := Lib.hid (hf.out.trans hf3)
  clear hf3 hgx
  go_wp2_with fail
  refine (putFloat_calls (some ⟨ga, 0, none⟩) bs.length (bs.length + 9) bs bits w3 HY.out rfl (by omega) hrda.out).mono ?_
  rintro e w4 ⟨gy, rfl, hby, hgy, hf4⟩
  have hby := Lib.hid hby
  have hgxy : Hid (gx < gy) := Nat.lt_of_lt_of_le hbx.out.lt hgy
  have hbx := Lib.hid (hbx.out.fr hf4)
  have hba := Lib.hid (hba.out.fr hf4)
  have hgy1 : Hid (w.heap.size ≤ gy) := Nat.le_trans hf.out.size hgy
  have hf := Lib.hid (hf.out.trans hf4)
  clear hf4 hgy hrda
  go_wp2_with fail
  refine (kept_calls ga A bs.length c bs w4 rfl (by omega) hba.out (H.out.fr hf.out)).mono ?_
  rintro e w5 ⟨rfl, m5, rfl⟩
  have hf := Lib.hid (hf.out.drewN m5)
  have hbx := Lib.hid (hbx.out.drewN m5)
  have hby := Lib.hid (hby.out.drewN m5)
  have hba := Lib.hid (hba.out.drewN m5)
  generalize w4.drewN m5 = w5 at *
  go_wp2_with fail
  refine (rput_calls A bs.length c bs x w5 rfl (by omega) (H.out.fr hf.out)).mono ?_
  rintro e w6 ⟨A6, c6, rfl, ho6, hf6⟩
  have hrd6 := Lib.hid ho6.rd
  have hbx := Lib.hid (hbx.out.fr hf6)
  have hba := Lib.hid (hba.out.fr hf6)
  have hby := Lib.hid (hby.out.fr hf6)
  have hf := Lib.hid (hf.out.trans hf6)
  clear hf6 ho6
  go_wp2_with fail
  have hl8 : Hid (bs.length + 8 = (bs ++ be8 x).length) := by simp [be8_length, Hid]
  have hl9 : Hid (bs.length + 8 = (bs ++ be8 bits).length) := by simp [be8_length, Hid]
  have hsame := same_calls (some ⟨gx, 0, none⟩) A6 (bs.length + 8) (bs.length + 8) (bs.length + 8) c6 (bs ++ be8 x) (bs ++ be8 x) w6 hl8.out hl8.out (RdC.blk hbx.out) hrd6.out
  rw [beq_self_eq_true] at hsame
  refine hsame.mono ?_
  clear hsame
  rintro e w' ⟨rfl, rfl⟩
  clear hrd6
  cases nan
  · go_wp2_with fail
    refine (rputFloat_calls A bs.length c bs bits w6 rfl (by omega) (H.out.fr hf.out)).mono ?_
    rintro e w7 ⟨A7, c7, rfl, ho7, hf7⟩
    have hrd7 := Lib.hid ho7.rd
    have hbx := Lib.hid (hbx.out.fr hf7)
    have hba := Lib.hid (hba.out.fr hf7)
    have hby := Lib.hid (hby.out.fr hf7)
    have hf := Lib.hid (hf.out.trans hf7)
    clear hf7 ho7
    go_wp2_with fail
    have hsame := same_calls (some ⟨gy, 0, none⟩) A7 (bs.length + 8) (bs.length + 8) (bs.length + 8) c7 (bs ++ be8 bits) (bs ++ be8 bits) w7 hl9.out hl9.out (RdC.blk hby.out) hrd7.out
    rw [beq_self_eq_true] at hsame
    refine hsame.mono ?_
    clear hsame
    rintro e w' ⟨rfl, rfl⟩
    clear hrd7
    go_wp2
    go_loopw [15] (fun i wr => ∃ (k : Nat) (cs : List Value), k ≤ bs.length + 8 ∧ i = .int .i64 k ∧ Hid (cs.length = bs.length + 8) ∧ Hid (Blk wr gx cs 5) ∧ Hid (Blk wr gy ((bs ++ be8 bits).map bv) 5) ∧ Hid (Blk wr ga (marked bs) 5) ∧ Hid (Fr w wr)) (fun i _ => bs.length + 8 - (intOf i).toNat)
    case atStart => exact ⟨0, _, by omega, rfl, Lib.hid (by simp [be8_length]), hbx, hby, hba, hf⟩
    case round =>
      obtain ⟨k, cs, hk, rfl, hlen, hbx, hby, hba, hf⟩ := hrel
      by_cases hk8 : k < bs.length + 8
      · have e4 := hbx.out.frozen k
        obtain ⟨v, hv⟩ : ∃ v, cs[k]? = some v := ⟨_, List.getElem?_eq_getElem (by rw [hlen.out]; exact hk8)⟩
        have e5 := hbx.out.cell k v hv
        have hi : (k : Int) < (bs.length : Int) + 8 := by omega
        clear hv
        go_wp2
        refine ⟨⟨k + 1, cs.set k (.int .u8 5), by omega, by go_num, ?_, Lib.hid (hbx.out.set k _), Lib.hid (hby.out.far (Nat.ne_of_lt hgxy.out) _), Lib.hid (hba.out.far (Nat.ne_of_gt hgxa.out) _), Lib.hid (Fr.set hf.out hgx1.out _)⟩, by simp [intOf]; omega⟩
        exact Lib.hid (by rw [List.length_set]; exact hlen.out)
      · have hown := Lib.hid (Own.of_blk (base := w.heap.size) (size := 1) (n := bs.length + 8) hbx.out hgx1.out (by rw [hlen.out]; omega) (by omega))
        go_wp2_with (at_builtin; refine gate ?_)
        refine gate_app rfl _ _ 22 rfl 5 (.int .u8 0) 1 1 Try.underlying22 info_u8 rfl (by omega) (by omega) w.heap.size (some ⟨gx, 0, none⟩) (bs.length + 8) (bs.length + 8) cs (some ⟨wr.heap.size, 0, none⟩) 3 3 [bv 1, bv 2, bv 3] (by rfl) (by rfl)
          (hown.out.fr ((Fr.refl wr).alloc _)) rfl (RdC.blk (Blk.new wr _ _)) (bv_one [_, _, _]) (by omega) (by have := hf.out.size; simp; omega) ?_
        intro A7 c7 w7 hown7 hgr hat
        have hg7 : Hid (wr.grownBy w7 (some gx)) := (World.grownBy_alloc wr _ _).trans hgr.out
        have hby := Lib.hid (hby.out.grown hg7.out (by intro e; injection e with e; have := hgxy.out; omega))
        have hba := Lib.hid (hba.out.grown hg7.out (by intro e; injection e with e; have := hgxa.out; omega))
        have hf := Lib.hid (fr_of_grown hf.out hg7.out hgx1.out)
        clear hown7 hgr hat hg7 hown hbx
        go_wp2_with fail
        refine (kept_calls ga A bs.length c bs w7 rfl (by omega) hba.out (H.out.fr hf.out)).mono ?_
        rintro e w8 ⟨rfl, m8, rfl⟩
        have hf := Lib.hid (hf.out.drewN m8)
        have hby := Lib.hid (hby.out.fr (fr_drewN _ m8))
        clear hba
        generalize w7.drewN m8 = w8 at *
        go_wp2_with fail
        refine (rputFloat_calls A bs.length c bs bits w8 rfl (by omega) (H.out.fr hf.out)).mono ?_
        rintro e w9 ⟨A9, c9, rfl, ho9, hf9⟩
        have hrd9 := Lib.hid ho9.rd
        have hby := Lib.hid (hby.out.fr hf9)
        have hf := Lib.hid (hf.out.trans hf9)
        clear hf9 ho9
        go_wp2_with fail
        have hsame := same_calls (some ⟨gy, 0, none⟩) A9 (bs.length + 8) (bs.length + 8) (bs.length + 8) c9 (bs ++ be8 bits) (bs ++ be8 bits) w9 hl9.out hl9.out (RdC.blk hby.out) hrd9.out
        rw [beq_self_eq_true] at hsame
        refine hsame.mono ?_
        clear hsame
        rintro e w' ⟨rfl, rfl⟩
        have hfin : ((bs.length : Int) + 8 + 3 == (bs.length : Int) + 11) = true := beq_iff_eq.2 (by omega)
        go_wp2
        go_ret
        exact ⟨rfl, hf.out⟩
  · go_wp2
    go_loopw [15] (fun i wr => ∃ (k : Nat) (cs : List Value), k ≤ bs.length + 8 ∧ i = .int .i64 k ∧ Hid (cs.length = bs.length + 8) ∧ Hid (Blk wr gx cs 5) ∧ Hid (Blk wr gy ((bs ++ be8 bits).map bv) 5) ∧ Hid (Blk wr ga (marked bs) 5) ∧ Hid (Fr w wr)) (fun i _ => bs.length + 8 - (intOf i).toNat)
    case atStart => exact ⟨0, _, by omega, rfl, Lib.hid (by simp [be8_length]), hbx, hby, hba, hf⟩
    case round =>
      obtain ⟨k, cs, hk, rfl, hlen, hbx, hby, hba, hf⟩ := hrel
      by_cases hk8 : k < bs.length + 8
      · have e4 := hbx.out.frozen k
        obtain ⟨v, hv⟩ : ∃ v, cs[k]? = some v := ⟨_, List.getElem?_eq_getElem (by rw [hlen.out]; exact hk8)⟩
        have e5 := hbx.out.cell k v hv
        have hi : (k : Int) < (bs.length : Int) + 8 := by omega
        clear hv
        go_wp2
        refine ⟨⟨k + 1, cs.set k (.int .u8 5), by omega, by go_num, ?_, Lib.hid (hbx.out.set k _), Lib.hid (hby.out.far (Nat.ne_of_lt hgxy.out) _), Lib.hid (hba.out.far (Nat.ne_of_gt hgxa.out) _), Lib.hid (Fr.set hf.out hgx1.out _)⟩, by simp [intOf]; omega⟩
        exact Lib.hid (by rw [List.length_set]; exact hlen.out)
      · have hown := Lib.hid (Own.of_blk (base := w.heap.size) (size := 1) (n := bs.length + 8) hbx.out hgx1.out (by rw [hlen.out]; omega) (by omega))
        go_wp2_with (at_builtin; refine gate ?_)
        refine gate_app rfl _ _ 22 rfl 5 (.int .u8 0) 1 1 Try.underlying22 info_u8 rfl (by omega) (by omega) w.heap.size (some ⟨gx, 0, none⟩) (bs.length + 8) (bs.length + 8) cs (some ⟨wr.heap.size, 0, none⟩) 3 3 [bv 1, bv 2, bv 3] (by rfl) (by rfl)
          (hown.out.fr ((Fr.refl wr).alloc _)) rfl (RdC.blk (Blk.new wr _ _)) (bv_one [_, _, _]) (by omega) (by have := hf.out.size; simp; omega) ?_
        intro A7 c7 w7 hown7 hgr hat
        have hg7 : Hid (wr.grownBy w7 (some gx)) := (World.grownBy_alloc wr _ _).trans hgr.out
        have hby := Lib.hid (hby.out.grown hg7.out (by intro e; injection e with e; have := hgxy.out; omega))
        have hba := Lib.hid (hba.out.grown hg7.out (by intro e; injection e with e; have := hgxa.out; omega))
        have hf := Lib.hid (fr_of_grown hf.out hg7.out hgx1.out)
        clear hown7 hgr hat hg7 hown hbx
        go_wp2_with fail
        refine (kept_calls ga A bs.length c bs w7 rfl (by omega) hba.out (H.out.fr hf.out)).mono ?_
        rintro e w8 ⟨rfl, m8, rfl⟩
        have hf := Lib.hid (hf.out.drewN m8)
        have hby := Lib.hid (hby.out.fr (fr_drewN _ m8))
        clear hba
        generalize w7.drewN m8 = w8 at *
        have hfin : ((bs.length : Int) + 8 + 3 == (bs.length : Int) + 11) = true := beq_iff_eq.2 (by omega)
        go_wp2
        go_ret
        exact ⟨rfl, hf.out⟩

end Go.Proofs.Ytadconkhilnkoaa
