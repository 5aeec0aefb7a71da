/- The walks of the judge: floor and ceil (printed by genjud.py). -/
import Derived.Test.YtjannhphmemenaaJudD
namespace Go.Proofs.Ytjannhphmemenaa
set_option maxRecDepth 100000
open Go.RowKit Go.Inc Go.Jud Go.Maps Go.Sort

set_option maxHeartbeats 1000000 in
theorem jceil_in (g b : Nat) (most : Int) (L : List Pr) (k v : Int) (w : World) (hJ : IsJ w g b most L) (hL : L.length ≤ 1099511627776) (hi : rk L k < L.length) :
    Calls Try.prog 26 #[.pointer (some ⟨g, 0, none⟩), .agg #[.int .i64 5, .int .u64 k, .int .u64 v]] w fun e w' => e = .returned (ansVal (pairAt L (rk L k : Int)) none 0) ∧ Fr w w' := by
  have HJ := Lib.hid hJ
  have hU := Lib.hid hJ.2.2.1
  have hlt := hJ.lt
  have hrl := rk_le L k
  clear hJ
  go_enter Try.func26, Try.ntmps26
  go_wp2_with fail
  refine (jkeys_calls g b most L _ (HJ.out.fr (fr2 w _ _)) hL).mono ?_
  rintro e w1 ⟨A, c, rfl, ho, hf⟩
  have ha := hf.blk (alloc2_snd w _ _)
  obtain ⟨o0, o1, o2⟩ := op_cells (hf.blk (alloc2_fst w _ _))
  obtain ⟨a0, a1, a2, a3, a4, a5, f0, f1, f2, f3, f4, f5⟩ := ans_cells ha
  have hr := Lib.hid ho.rd
  have hff := Lib.hid ((fr2 w _ _).trans hf)
  have HA := Lib.hid ha
  clear hf ho ha
  go_wp2_with fail
  refine (bsearch_calls A L.length c L k w1 rfl hU.out hL hr.out).mono ?_
  rintro e w2 ⟨rfl, rfl⟩
  obtain ⟨bA, oA, rfl, hcA⟩ := hr.out.at (by simp; omega)
  obtain ⟨p, hp⟩ : ∃ p, L[(rk L k)]? = some p := ⟨_, List.getElem?_eq_getElem (by omega)⟩
  have hck : w2.cell? ⟨bA, oA + (rk L k), none⟩ = some (.int .u64 p.1) := hcA _ _ (by simp [hp])
  obtain ⟨-, hI, D, hown, hsz, hhas, hat⟩ := (HJ.out.fr hff.out).2.2
  have hlk : (Instr.lookup 63 (.map (some b)) (.int .u64 p.1) false).run Try.prog w2.drew = .ok (.int .u64 p.2) w2.drew := by
    obtain ⟨cv, h1, h2, _⟩ := (owns_heap (w' := w2.drew) rfl hown).lookup_int lawK Try.underlying63 Try.underlying31 (zeroE _) (keyU (hI p (List.mem_of_getElem? hp)).1)
    rw [hat p (List.mem_of_getElem? hp)] at h2
    have : p.2 = cv := by simpa using h2
    rw [h1, this]
  have hc1 := (HJ.out.fr hff.out).c1
  have hpa : Hid (ansVal (pairAt L (rk L k : Int)) none 0 = .agg #[.int .i64 0, .bool true, .int .u64 p.1, .int .u64 p.2, .int .i64 0, .slice none 0 0]) := by
    show _ = _
    have : pairAt L (rk L k : Int) = ⟨0, true, p.1, p.2, 0, []⟩ := by
      unfold pairAt
      rw [if_pos (by omega), show ((rk L k : Int) : Int).toNat = (rk L k) by omega, hp]
    rw [this]; rfl
  have hneq : ((rk L k : Int) == (L.length : Int)) = false := by simp; omega
  have hnn : decide ((rk L k : Int) < 0) = false := by simp
  clear hI hsz hhas hat hcA hown
  go_wp2_with fail
  go_region
  go_wp2_with fail
  exact bodyPost_ret (results_cell_row rfl _ _ (w.heap.size + 1) _ _ (0, 0) _ rfl (set6_heap_drew HA.out _ _ _ _ _ _) Try.underlying44 rfl (by kernel_rfl)) rfl ⟨by rw [hpa.out], (set6_fr hff.out (by omega) _ _ _ _ _ _).drew⟩

set_option maxHeartbeats 1000000 in
theorem jceil_out (g b : Nat) (most : Int) (L : List Pr) (k v : Int) (w : World) (hJ : IsJ w g b most L) (hL : L.length ≤ 1099511627776) (hi : L.length ≤ rk L k) :
    Calls Try.prog 26 #[.pointer (some ⟨g, 0, none⟩), .agg #[.int .i64 5, .int .u64 k, .int .u64 v]] w fun e w' => e = .returned (ansVal (pairAt L (rk L k : Int)) none 0) ∧ Fr w w' := by
  have HJ := Lib.hid hJ
  have hU := Lib.hid hJ.2.2.1
  have hlt := hJ.lt
  have hrl := rk_le L k
  clear hJ
  go_enter Try.func26, Try.ntmps26
  go_wp2_with fail
  refine (jkeys_calls g b most L _ (HJ.out.fr (fr2 w _ _)) hL).mono ?_
  rintro e w1 ⟨A, c, rfl, ho, hf⟩
  have ha := hf.blk (alloc2_snd w _ _)
  obtain ⟨o0, o1, o2⟩ := op_cells (hf.blk (alloc2_fst w _ _))
  obtain ⟨a0, a1, a2, a3, a4, a5, f0, f1, f2, f3, f4, f5⟩ := ans_cells ha
  have hr := Lib.hid ho.rd
  have hff := Lib.hid ((fr2 w _ _).trans hf)
  have HA := Lib.hid ha
  clear hf ho ha
  go_wp2_with fail
  refine (bsearch_calls A L.length c L k w1 rfl hU.out hL hr.out).mono ?_
  rintro e w2 ⟨rfl, rfl⟩
  have hpa : Hid (ansVal (pairAt L (rk L k : Int)) none 0 = .agg #[.int .i64 0, .bool false, .int .u64 0, .int .u64 0, .int .i64 0, .slice none 0 0]) := by
    show _ = _
    have : pairAt L (rk L k : Int) = ans0 := by
      unfold pairAt
      rw [if_neg (by omega)]
    rw [this]; rfl
  have hneq : ((rk L k : Int) == (L.length : Int)) = true := by simp; omega
  have hnn : decide ((rk L k : Int) < 0) = false := by simp
  go_wp2_with fail
  exact bodyPost_ret (results_cell_row rfl _ _ (w.heap.size + 1) _ _ (0, 0) _ rfl (set6_heap HA.out _ _ _ _ _ _) Try.underlying44 rfl (by kernel_rfl)) rfl ⟨by rw [hpa.out], set6_fr hff.out (by omega) _ _ _ _ _ _⟩

set_option maxHeartbeats 1000000 in
theorem jfloor_is (g b : Nat) (most : Int) (L : List Pr) (k v : Int) (w : World) (hJ : IsJ w g b most L) (hL : L.length ≤ 1099511627776) (hi : isAt L k = true) :
    Calls Try.prog 26 #[.pointer (some ⟨g, 0, none⟩), .agg #[.int .i64 4, .int .u64 k, .int .u64 v]] w fun e w' => e = .returned (ansVal (pairAt L (rk L k : Int)) none 0) ∧ Fr w w' := by
  have HJ := Lib.hid hJ
  have hU := Lib.hid hJ.2.2.1
  have hlt := hJ.lt
  have hrl := rk_le L k
  clear hJ
  go_enter Try.func26, Try.ntmps26
  go_wp2_with fail
  refine (jkeys_calls g b most L _ (HJ.out.fr (fr2 w _ _)) hL).mono ?_
  rintro e w1 ⟨A, c, rfl, ho, hf⟩
  have ha := hf.blk (alloc2_snd w _ _)
  obtain ⟨o0, o1, o2⟩ := op_cells (hf.blk (alloc2_fst w _ _))
  obtain ⟨a0, a1, a2, a3, a4, a5, f0, f1, f2, f3, f4, f5⟩ := ans_cells ha
  have hr := Lib.hid ho.rd
  have hff := Lib.hid ((fr2 w _ _).trans hf)
  have HA := Lib.hid ha
  clear hf ho ha
  go_wp2_with fail
  refine (bsearch_calls A L.length c L k w1 rfl hU.out hL hr.out).mono ?_
  rintro e w2 ⟨rfl, rfl⟩
  have hlr := isAt_lt hi
  obtain ⟨bA, oA, rfl, hcA⟩ := hr.out.at (by simp; omega)
  obtain ⟨p, hp⟩ : ∃ p, L[(rk L k)]? = some p := ⟨_, List.getElem?_eq_getElem (by omega)⟩
  have hck : w2.cell? ⟨bA, oA + (rk L k), none⟩ = some (.int .u64 p.1) := hcA _ _ (by simp [hp])
  obtain ⟨-, hI, D, hown, hsz, hhas, hat⟩ := (HJ.out.fr hff.out).2.2
  have hlk : (Instr.lookup 63 (.map (some b)) (.int .u64 p.1) false).run Try.prog w2.drew = .ok (.int .u64 p.2) w2.drew := by
    obtain ⟨cv, h1, h2, _⟩ := (owns_heap (w' := w2.drew) rfl hown).lookup_int lawK Try.underlying63 Try.underlying31 (zeroE _) (keyU (hI p (List.mem_of_getElem? hp)).1)
    rw [hat p (List.mem_of_getElem? hp)] at h2
    have : p.2 = cv := by simpa using h2
    rw [h1, this]
  have hc1 := (HJ.out.fr hff.out).c1
  have hpa : Hid (ansVal (pairAt L (rk L k : Int)) none 0 = .agg #[.int .i64 0, .bool true, .int .u64 p.1, .int .u64 p.2, .int .i64 0, .slice none 0 0]) := by
    show _ = _
    have : pairAt L (rk L k : Int) = ⟨0, true, p.1, p.2, 0, []⟩ := by
      unfold pairAt
      rw [if_pos (by omega), show ((rk L k : Int) : Int).toNat = (rk L k) by omega, hp]
    rw [this]; rfl
  have hneq : ((rk L k : Int) == (L.length : Int)) = false := by simp; omega
  have hnn : decide ((rk L k : Int) < 0) = false := by simp
  clear hI hsz hhas hat hcA hown
  go_wp2_with fail
  go_region
  go_wp2_with fail
  exact bodyPost_ret (results_cell_row rfl _ _ (w.heap.size + 1) _ _ (0, 0) _ rfl (set6_heap_drew HA.out _ _ _ _ _ _) Try.underlying44 rfl (by kernel_rfl)) rfl ⟨by rw [hpa.out], (set6_fr hff.out (by omega) _ _ _ _ _ _).drew⟩

set_option maxHeartbeats 1000000 in
theorem jfloor_in (g b : Nat) (most : Int) (L : List Pr) (k v : Int) (w : World) (hJ : IsJ w g b most L) (hL : L.length ≤ 1099511627776) (hi : isAt L k = false) (hi2 : 0 < rk L k) :
    Calls Try.prog 26 #[.pointer (some ⟨g, 0, none⟩), .agg #[.int .i64 4, .int .u64 k, .int .u64 v]] w fun e w' => e = .returned (ansVal (pairAt L ((rk L k : Int) - 1)) none 0) ∧ Fr w w' := by
  have HJ := Lib.hid hJ
  have hU := Lib.hid hJ.2.2.1
  have hlt := hJ.lt
  have hrl := rk_le L k
  clear hJ
  go_enter Try.func26, Try.ntmps26
  go_wp2_with fail
  refine (jkeys_calls g b most L _ (HJ.out.fr (fr2 w _ _)) hL).mono ?_
  rintro e w1 ⟨A, c, rfl, ho, hf⟩
  have ha := hf.blk (alloc2_snd w _ _)
  obtain ⟨o0, o1, o2⟩ := op_cells (hf.blk (alloc2_fst w _ _))
  obtain ⟨a0, a1, a2, a3, a4, a5, f0, f1, f2, f3, f4, f5⟩ := ans_cells ha
  have hr := Lib.hid ho.rd
  have hff := Lib.hid ((fr2 w _ _).trans hf)
  have HA := Lib.hid ha
  clear hf ho ha
  go_wp2_with fail
  refine (bsearch_calls A L.length c L k w1 rfl hU.out hL hr.out).mono ?_
  rintro e w2 ⟨rfl, rfl⟩
  obtain ⟨m, hm⟩ : ∃ m : Nat, (rk L k : Int) - 1 = (m : Int) := ⟨rk L k - 1, by omega⟩
  obtain ⟨bA, oA, rfl, hcA⟩ := hr.out.at (by simp; omega)
  obtain ⟨p, hp⟩ : ∃ p, L[m]? = some p := ⟨_, List.getElem?_eq_getElem (by omega)⟩
  have hck : w2.cell? ⟨bA, oA + m, none⟩ = some (.int .u64 p.1) := hcA _ _ (by simp [hp])
  obtain ⟨-, hI, D, hown, hsz, hhas, hat⟩ := (HJ.out.fr hff.out).2.2
  have hlk : (Instr.lookup 63 (.map (some b)) (.int .u64 p.1) false).run Try.prog w2.drew = .ok (.int .u64 p.2) w2.drew := by
    obtain ⟨cv, h1, h2, _⟩ := (owns_heap (w' := w2.drew) rfl hown).lookup_int lawK Try.underlying63 Try.underlying31 (zeroE _) (keyU (hI p (List.mem_of_getElem? hp)).1)
    rw [hat p (List.mem_of_getElem? hp)] at h2
    have : p.2 = cv := by simpa using h2
    rw [h1, this]
  have hc1 := (HJ.out.fr hff.out).c1
  have hpa : Hid (ansVal (pairAt L ((rk L k : Int) - 1)) none 0 = .agg #[.int .i64 0, .bool true, .int .u64 p.1, .int .u64 p.2, .int .i64 0, .slice none 0 0]) := by
    show _ = _
    have : pairAt L ((rk L k : Int) - 1) = ⟨0, true, p.1, p.2, 0, []⟩ := by
      unfold pairAt
      rw [if_pos (by omega), show (((rk L k : Int) - 1) : Int).toNat = m by omega, hp]
    rw [this]; rfl
  have hneq : ((m : Int) == (L.length : Int)) = false := by simp; omega
  have hnn : decide ((m : Int) < 0) = false := by simp
  clear hI hsz hhas hat hcA hown
  go_wp2_with fail
  go_region
  go_wp2_with fail
  exact bodyPost_ret (results_cell_row rfl _ _ (w.heap.size + 1) _ _ (0, 0) _ rfl (set6_heap_drew HA.out _ _ _ _ _ _) Try.underlying44 rfl (by kernel_rfl)) rfl ⟨by rw [hpa.out], (set6_fr hff.out (by omega) _ _ _ _ _ _).drew⟩

set_option maxHeartbeats 1000000 in
theorem jfloor_out (g b : Nat) (most : Int) (L : List Pr) (k v : Int) (w : World) (hJ : IsJ w g b most L) (hL : L.length ≤ 1099511627776) (hi : isAt L k = false) (hi2 : rk L k = 0) :
    Calls Try.prog 26 #[.pointer (some ⟨g, 0, none⟩), .agg #[.int .i64 4, .int .u64 k, .int .u64 v]] w fun e w' => e = .returned (ansVal (pairAt L ((rk L k : Int) - 1)) none 0) ∧ Fr w w' := by
  have HJ := Lib.hid hJ
  have hU := Lib.hid hJ.2.2.1
  have hlt := hJ.lt
  have hrl := rk_le L k
  clear hJ
  go_enter Try.func26, Try.ntmps26
  go_wp2_with fail
  refine (jkeys_calls g b most L _ (HJ.out.fr (fr2 w _ _)) hL).mono ?_
  rintro e w1 ⟨A, c, rfl, ho, hf⟩
  have ha := hf.blk (alloc2_snd w _ _)
  obtain ⟨o0, o1, o2⟩ := op_cells (hf.blk (alloc2_fst w _ _))
  obtain ⟨a0, a1, a2, a3, a4, a5, f0, f1, f2, f3, f4, f5⟩ := ans_cells ha
  have hr := Lib.hid ho.rd
  have hff := Lib.hid ((fr2 w _ _).trans hf)
  have HA := Lib.hid ha
  clear hf ho ha
  go_wp2_with fail
  refine (bsearch_calls A L.length c L k w1 rfl hU.out hL hr.out).mono ?_
  rintro e w2 ⟨rfl, rfl⟩
  have hpa : Hid (ansVal (pairAt L ((rk L k : Int) - 1)) none 0 = .agg #[.int .i64 0, .bool false, .int .u64 0, .int .u64 0, .int .i64 0, .slice none 0 0]) := by
    show _ = _
    have : pairAt L ((rk L k : Int) - 1) = ans0 := by
      unfold pairAt
      rw [if_neg (by omega)]
    rw [this]; rfl
  have hnn : decide ((rk L k : Int) - 1 < 0) = true := decide_eq_true (by omega)
  have hz : (rk L k : Int) = 0 := by omega
  go_wp2_with fail
  exact bodyPost_ret (results_cell_row rfl _ _ (w.heap.size + 1) _ _ (0, 0) _ rfl (set6_heap HA.out _ _ _ _ _ _) Try.underlying44 rfl (by kernel_rfl)) rfl ⟨by rw [hpa.out], set6_fr hff.out (by omega) _ _ _ _ _ _⟩

end Go.Proofs.Ytjannhphmemenaa
