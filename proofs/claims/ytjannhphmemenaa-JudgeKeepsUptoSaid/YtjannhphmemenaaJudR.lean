/- The walks of the judge: a range of pairs; the pairs. -/
import Derived.Test.YtjannhphmemenaaJudF
namespace Go.Proofs.Ytjannhphmemenaa
set_option maxRecDepth 100000
open Go.RowKit Go.Inc Go.Jud Go.Maps Go.Sort

theorem info_pair : (Try.prog.info? 55).map (fun i => (i.zero, i.size, i.bytes)) = some (some (.agg #[.int .u64 0, .int .u64 0]), 2, 16) := by kernel_rfl
theorem look_eq {w : World} {b n : Nat} {D : DataW Unit} {p : Pr} (hp : U p.1) (hown : w.ownsMap Try.prog 31 rdE b n D) (hat : ∀ z, D.atKey (.int .u64 p.1) z = .lit (.int .u64 p.2)) :
    (Instr.lookup 63 (.map (some b)) (.int .u64 p.1) false).run Try.prog w = .ok (.int .u64 p.2) w := by
  obtain ⟨cv, h1, h2, _⟩ := hown.lookup_int lawK Try.underlying63 Try.underlying31 (zeroE _) (keyU hp)
  rw [hat] at h2
  have : p.2 = cv := by simpa using h2
  rw [h1, this]
theorem look_J {w : World} {g b : Nat} {most : Int} {L : List Pr} (h : IsJ w g b most L) {p : Pr} (hp : p ∈ L) : (Instr.lookup 63 (.map (some b)) (.int .u64 p.1) false).run Try.prog w = .ok (.int .u64 p.2) w := by
  obtain ⟨-, hI, D, hown, -, -, hat⟩ := h.2.2
  exact look_eq (hI p hp).1 hown (hat p hp)
theorem info_sz_u64 : (Try.prog.info? 31).map (·.size) = some 1 := by kernel_rfl
theorem takeWhile_split (f : Pr → Bool) (l : List Pr) (i : Nat) (h1 : ∀ t (_ : t < i) p, l[t]? = some p → f p = true) (h2 : ∀ p, l[i]? = some p → f p = false) : l.takeWhile f = l.take i := by
  induction l generalizing i with
  | nil => simp
  | cons x l ih =>
    cases i with
    | zero => have := h2 x (by simp); simp [this]
    | succ i =>
      have h0 := h1 0 (by omega) x (by simp)
      rw [List.takeWhile_cons, h0]
      simp only [if_true, List.take_succ_cons]
      rw [ih i (fun t ht p hp => h1 (t + 1) (by omega) p (by simpa using hp)) (fun p hp => h2 p (by simpa using hp))]

set_option maxHeartbeats 1000000 in
theorem jordered_range (g b : Nat) (most : Int) (L : List Pr) (k v : Int) (w : World) (hJ : IsJ w g b most L) (hL : L.length ≤ 1073741824) :
    Calls Try.prog 26 #[.pointer (some ⟨g, 0, none⟩), .agg #[.int .i64 7, .int .u64 k, .int .u64 v]] w fun e w' =>
      ∃ A c, e = .returned (.agg #[.int .i64 0, .bool false, .int .u64 0, .int .u64 0, .int .i64 0, .slice A (span L k v).length c]) ∧ Own w' w.heap.size 55 2 A (span L k v).length c ((span L k v).flatMap pcells) ∧ Fr w w' := by
  have HJ := Lib.hid hJ
  have hU := Lib.hid hJ.2.2.1
  have hlt := hJ.lt
  have hrl := rk_le L k
  clear hJ
  go_enter Try.func26, Try.ntmps26
  go_wp2_with fail
  refine (jkeys_calls g b most L _ (HJ.out.fr (fr2 w _ _)) (by omega)).mono ?_
  rintro e w1 ⟨A, c, rfl, ho, hf⟩
  have ha := hf.blk (alloc2_snd w _ _)
  have HO := Lib.hid (hf.blk (alloc2_fst w _ _))
  obtain ⟨o0, o1, o2⟩ := op_cells HO.out
  have hr := Lib.hid ho.rd
  have hcap : L.length ≤ c := by
    rcases ho.2 with ⟨h, h'⟩ | ⟨_, _, _, h, _, _, h2, _⟩
    · omega
    · injection h with _ _ h; omega
  have hff := Lib.hid ((fr2 w _ _).trans hf)
  have HA := Lib.hid ha
  clear hf ho ha
  go_wp2_with fail
  refine (bsearch_calls A L.length c L k w1 rfl hU.out (by omega) hr.out).mono ?_
  rintro e w2 ⟨rfl, rfl⟩
  obtain ⟨A2, hcut, -, hrd2⟩ := run_cut_l (P := Try.prog) 69 31 1 Try.underlying69 info_sz_u64 A L.length c (rk L k) (rk L k : Int) rfl hrl hcap .i64
  have hrd3 : Hid (RdC w2 A2 (((L.map (·.1)).map (Value.int .u64)).drop (rk L k))) := by
    have := hrd2 w2 _ (by simp) hr.out
    rwa [Nat.mul_one] at this
  clear hrd2 hr
  obtain ⟨R, hR⟩ : ∃ R, R = L.drop (rk L k) := ⟨_, rfl⟩
  have hRL : Hid (∀ p ∈ R, p ∈ L) := fun p hp => List.mem_of_mem_drop (hR ▸ hp)
  have hM : L.length - rk L k = R.length := by rw [hR]; simp
  have hRm : R.length ≤ 1073741824 := by omega
  have hsp : Hid (span L k v = R.takeWhile (fun p => decide (p.1 ≤ v))) := by rw [Hid, hR]; rfl
  have hrd4 : Hid (RdC w2 A2 ((R.map (·.1)).map (Value.int .u64))) := by
    have := hrd3.out
    rw [← List.map_drop, ← List.map_drop, ← hR] at this
    exact this
  clear hR hrd3 hrl
  have hs2 : Hid (w.heap.size + 2 ≤ w2.heap.size) := (Array.getElem?_eq_some_iff.1 HA.out).1
  go_wp2_with fail
  go_loopw [8, 34] (fun vl vi wr => ∃ (i : Nat) (A3 : Option Addr) (c3 : Nat), vi = .int .i64 i ∧ i ≤ R.length ∧ vl = .slice A3 i c3 ∧ Hid (Own wr w2.heap.size 55 2 A3 i c3 ((R.take i).flatMap pcells)) ∧ Hid (Fr w2 wr) ∧
      Hid (∀ t (_ : t < i) p, R[t]? = some p → decide (p.1 ≤ v) = true)) (fun _ vi _ => R.length - (intOf vi).toNat)
  case atStart => exact ⟨0, none, 0, rfl, by omega, rfl, Own.nil _ _ _ _, Fr.refl _, fun t ht => by omega⟩
  case round =>
    obtain ⟨i, A3, c3, rfl, hi, rfl, ho, hfr, hall⟩ := hrel
    have ha := hfr.out.blk HA.out
    obtain ⟨o0, o1, o2⟩ := op_cells (hfr.out.blk HO.out)
    obtain ⟨a0, a1, a2, a3, a4, a5, f0, f1, f2, f3, f4, f5⟩ := ans_cells ha
    have hc1 := (HJ.out.fr (hff.out.trans hfr.out)).c1
    have HA1 := Lib.hid ha
    clear ha
    have fin : (∀ p, R[i]? = some p → decide (p.1 ≤ v) = false) → Hid (span L k v = R.take i) := fun h => by
      show _ = _
      rw [hsp.out]
      exact takeWhile_split _ R i (fun t ht p hp => hall.out t ht p hp) h
    have FIN := Lib.hid fin
    clear fin
    by_cases hlt : i < R.length
    · obtain ⟨p, hp⟩ : ∃ p, R[i]? = some p := ⟨_, List.getElem?_eq_getElem hlt⟩
      have hlk := look_J (HJ.out.fr (hff.out.trans hfr.out)) (hRL.out p (List.mem_of_getElem? hp))
      obtain ⟨bA, oA, rfl, hcA⟩ := hrd4.out.at (by simp; omega)
      have hck : wr.cell? ⟨bA, oA + i, none⟩ = some (.int .u64 p.1) := hfr.out.cell (hcA _ _ (by simp [hp]))
      have HP := Lib.hid hp
      clear hcA hp
      by_cases hv : p.1 ≤ v
      · have hvz : decide (p.1 > v) = false := decide_eq_false (by omega)
        go_wp2_with (at_builtin; refine gate ?_)
        refine gate_app rfl _ _ 42 rfl 55 (.agg #[.int .u64 0, .int .u64 0]) 2 16 Try.underlying42 info_pair rfl (by omega) (by omega) w2.heap.size A3 i c3 _ (some ⟨wr.heap.size, 0, none⟩) 1 1 (pcells p) (by rfl) (by rfl)
          (ho.out.fr ((Fr.refl wr).alloc _)) rfl (RdC.blk (Blk.new wr _ _)) (by simpa using pcells_one [p]) (by omega) (by have := hfr.out.size; simp; omega) ?_
        intro A4 c4 w4 hown hgr hat
        have hf4 : Hid (Fr w2 w4) := (hfr.out.alloc _).grown hgr.out (fun g hg => (ho.out.lt g hg).1)
        have ho4 : Hid (Own w4 w2.heap.size 55 2 A4 (i + 1) c4 ((R.take (i + 1)).flatMap pcells)) := by
          have e : R.take (i + 1) = R.take i ++ [p] := by
            rw [List.take_add_one, HP.out]; rfl
          show Own _ _ _ _ _ _ _ _
          rw [e, List.flatMap_append]
          simpa using hown.out
        have hall4 : Hid (∀ t (_ : t < i + 1) q, R[t]? = some q → decide (q.1 ≤ v) = true) := fun t ht q hq => by
          rcases Nat.lt_or_ge t i with h | h
          · exact hall.out t h q hq
          · have : t = i := by omega
            subst this
            have e := HP.out
            rw [hq] at e
            injection e with e
            subst e; exact decide_eq_true hv
        clear hown hgr hat ho hfr hall hv
        go_wp2_with fail
        refine ⟨⟨i + 1, A4, c4, by simp, by omega, rfl, ho4, hf4, hall4⟩, by simp [intOf]; omega⟩
      · have hvz : decide (p.1 > v) = true := decide_eq_true (by omega)
        have hT := FIN.out (fun q hq => by
          have e := HP.out
          rw [hq] at e
          injection e with e
          subst e; exact decide_eq_false hv)
        go_wp2_with fail
        have hlen : (span L k v).length = i := by rw [hT.out]; simp; omega
        refine bodyPost_ret (results_cell_row rfl _ _ (w.heap.size + 1) _ _ (0, 0) _ rfl (set6_heap HA1.out _ _ _ _ _ _) Try.underlying44 rfl (by kernel_rfl)) rfl ⟨A3, c3, by rw [hlen], ?_, set6_fr (hff.out.trans hfr.out) (by omega) _ _ _ _ _ _⟩
        rw [hlen, hT.out]
        have hlt3 := ho.out.lt
        exact (set6_own ho.out (fun e => by have := (hlt3 _ e).1; have := hs2.out; omega) _ _ _ _ _ _).mono (by have := hs2.out; omega)
    · have hT := FIN.out (fun q hq => by rw [List.getElem?_eq_none (by omega)] at hq; cases hq)
      have hlen : Hid ((span L k v).length = i) := by rw [Hid, hT.out]; simp; omega
      obtain rfl : i = R.length := by omega
      go_wp2_with fail
      refine bodyPost_ret (results_cell_row rfl _ _ (w.heap.size + 1) _ _ (0, 0) _ rfl (set6_heap HA1.out _ _ _ _ _ _) Try.underlying44 rfl (by kernel_rfl)) rfl ⟨A3, c3, by rw [hlen.out], ?_, set6_fr (hff.out.trans hfr.out) (by omega) _ _ _ _ _ _⟩
      rw [hlen.out, hT.out]
      have hlt3 := ho.out.lt
      exact (set6_own ho.out (fun e => by have := (hlt3 _ e).1; have := hs2.out; omega) _ _ _ _ _ _).mono (by have := hs2.out; omega)

end Go.Proofs.Ytjannhphmemenaa
