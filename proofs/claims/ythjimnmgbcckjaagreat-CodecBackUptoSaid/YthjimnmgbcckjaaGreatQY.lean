/- Parts of this proof, one behind the other: CdX. -/
import Derived.Test.YthjimnmgbcckjaaGreatQW
namespace Go.Proofs.YthjimnmgbcckjaaGreat
set_option maxRecDepth 100000
open Go.RowKit Go.Inc Go.Run
attribute [local go_sem] run_store_float

set_option maxHeartbeats 2000000 in
theorem cdSame_calls (s : Seg) (w : World) : Calls Tryz.prog 48 #[segVal s, segVal s] w fun e w' => e = .returned (.bool true) ∧ Fr w w' := by
  obtain ⟨sf, sl, it, fn, un⟩ := s
  unfold segVal
  dsimp only
  have HF := Lib.hid (((Fr.refl w).alloc (.cells #[.int .u64 sf, .float .f64 sl, .float .f64 it, .int .i64 fn, .int .i64 un] 65)).alloc (.cells #[.int .u64 sf, .float .f64 sl, .float .f64 it, .int .i64 fn, .int .i64 un] 65))
  have h1 := tobits_run
  go_enter Tryz.func48, Tryz.ntmps48
  go_wp2_with fail
  go_quiet (fail)
  go_wp2_with fail
  go_ret
  exact ⟨rfl, HF.out.drewN _⟩

theorem rows_at12 {w : World} {A : Option Addr} {vs : List Value} {Ss : List (List Seg)} (hv : RdC w A vs) (hr : RowsR w vs Ss) {i : Nat} {S : List Seg} (hi : Ss[i]? = some S) : ∃ b off As cs, A = some ⟨b, off, none⟩ ∧ w.cell? ⟨b, off + i, none⟩ = some (.slice As S.length cs) ∧ RdC w As (S.flatMap sgcells) := by
  obtain ⟨As, cs, hvs, _, hrs⟩ := hr.at hi
  obtain ⟨b, off, hA, hc⟩ := hv.at (by
    have := (List.getElem?_eq_some_iff.1 hvs).1
    omega)
  exact ⟨b, off, As, cs, hA, hc i _ hvs, hrs⟩

set_option maxHeartbeats 8000000 in
theorem cdAlike_calls (r p : Nat) (eps : Int) (E : List Ent) (Ss : List (List Seg)) (Al : Option Addr) (n cl : Nat) (Av : Option Addr) (N cv : Nat) (vs : List Value) (hn : n = E.length) (hN : N = Ss.length) (hl : n ≤ 268435456) (hNl : N ≤ 268435456) (hS : ∀ S ∈ Ss, S.length ≤ 268435456) (w : World) (h : RunR w r p eps E Ss) (hr : RdC w Al (E.flatMap encells)) (hrv : RdC w Av vs) (hrows : RowsR w vs Ss) :
    Calls Tryz.prog 16 #[.pointer (some ⟨r, 0, none⟩), .slice Al n cl, .int .i64 eps, .slice Av N cv] w fun e w' => e = .returned (.bool true) ∧ Fr w w' := by
  have x0 := h.ptr
  have EPS := Lib.hid (fun w' (hf : Fr w w') => peps_calls p eps (keysE E) Ss w' (h.pile.fr hf))
  have LST := Lib.hid (rlist_calls r p eps E Ss (by omega) w.heap.size w (Nat.le_refl _) h)
  have LEV := Lib.hid (fun w' (hf : Fr w w') => rlevels_calls r p eps E Ss (by omega) hS w'.heap.size w' (Nat.le_refl _) (h.fr hf))
  rw [← hn] at LST
  rw [← hN] at LEV
  have HP : Hid (∀ w', Fr w w' → w'.cell? ⟨r, 0, none⟩ = some (.pointer (some ⟨p, 0, none⟩))) := fun w' hf => hf.cell x0
  have HN := Lib.hid hn
  have HNN := Lib.hid hN
  have HS := Lib.hid hS
  have HRL0 := Lib.hid hr
  have HRV0 := Lib.hid hrv
  have HWV0 := Lib.hid hrows
  have g0 : ((n : Int) != (n : Int)) = false := by simp
  have g00 : ((N : Int) != (N : Int)) = false := by simp
  have g01 : (eps != eps) = false := by simp
  have he := ent_neq
  have he2 : ∀ x : Ent, eqE x x = true := fun x => eqE_iff.2 rfl
  clear h hn hN hS hr hrv hrows x0
  go_enter Tryz.func16, Tryz.ntmps16
  go_wp2_with fail
  refine LST.out.mono ?_
  rintro _ w2 ⟨A2, c2, rfl, ho2, hf2⟩
  have HRA2 : Hid (RdC w2 A2 (E.flatMap encells)) := ho2.rd
  have HF2 : Hid (Fr w w2) := hf2
  clear ho2 hf2
  go_wp2_with fail
  refine (LEV.out w2 HF2.out).mono ?_
  rintro _ w3 ⟨gl, us, rfl, hgl, hbl, hul, hrs, hf3⟩
  have HF3 : Hid (Fr w w3) := HF2.out.trans hf3
  have HRA : Hid (RdC w3 A2 (E.flatMap encells)) := HRA2.out.fr hf3
  have HRL : Hid (RdC w3 Al (E.flatMap encells)) := HRL0.out.fr HF3.out
  have HRU : Hid (RdC w3 (some ⟨gl, 0, none⟩) us) := RdC.blk hbl
  have HWU : Hid (RowsR w3 us Ss) := hrs.toR
  have HRV : Hid (RdC w3 Av vs) := HRV0.out.fr HF3.out
  have HWV : Hid (RowsR w3 vs Ss) := HWV0.out.fr HF3.out
  have x0 := HP.out w3 HF3.out
  have EP3 := Lib.hid (EPS.out w3 HF3.out)
  obtain ⟨AU2, hAU2⟩ : ∃ A : Option Addr, A = some ⟨gl, 0, none⟩ := ⟨_, rfl⟩
  rw [← hAU2] at HRU ⊢
  clear hgl hbl hul hrs hf3 hAU2
  go_wp2_with fail
  refine EP3.out.mono ?_
  rintro _ w4 ⟨rfl, rfl⟩
  go_wp2_with fail
  go_loopw [11] (fun v wr => ∃ i : Nat, v = .int .i64 i ∧ i ≤ n ∧ Hid (Fr w4 wr)) (fun v _ => n - (intOf v).toNat)
  case atStart => exact ⟨0, rfl, by omega, Fr.refl _⟩
  case round =>
    obtain ⟨i, rfl, hin, hf⟩ := hrel
    rcases Nat.lt_or_ge i n with hlt | hge
    · have g1 : decide (i < n) = true := decide_eq_true hlt
      have g1' : (i : Int) < (n : Int) := by omega
      have hiE : i < E.length := by have := HN.out; omega
      obtain ⟨b, off, hA, hc⟩ := rdc_ent (HRA.out.fr hf.out) (by omega)
      obtain ⟨b', off', hA', hc'⟩ := rdc_ent (HRL.out.fr hf.out) (by omega)
      subst hA hA'
      obtain ⟨y0, y1, y2⟩ := hc i hiE
      obtain ⟨z0, z1, z2⟩ := hc' i hiE
      obtain ⟨x, hx⟩ : ∃ x, E[i] = x := ⟨_, rfl⟩
      rw [hx] at y0 y1 y2 z0 z1 z2
      have hxx := he2 x
      have wi : IntKind.i64.wrap ((i : Int) + 1) = (i : Int) + 1 := wrap_i64_in _ (by omega) (by omega)
      obtain ⟨k, v, g⟩ := x
      clear hc hc' hx hiE he2
      dsimp only at y0 y1 y2 z0 z1 z2
      go_wp2_with fail
      go_quiet (fail)
      go_wp2_with fail
      exact ⟨⟨i + 1, rfl, by omega, hf.out.drewN _⟩, by simp only [intOf]; omega⟩
    · obtain rfl : i = n := by omega
      have g1 : decide (i < i) = false := by simp
      have HF5 : Hid (Fr w4 wr) := hf.out
      obtain ⟨w5, hw5⟩ : ∃ w5, w5 = wr := ⟨_, rfl⟩
      subst hw5
      clear hf
      go_wp2_with fail
      go_loopw [12] (fun v wr => ∃ i : Nat, v = .int .i64 i ∧ i ≤ N ∧ Hid (Fr w4 wr)) (fun v _ => N - (intOf v).toNat)
      case atStart => exact ⟨0, rfl, by omega, HF5.out⟩
      case round =>
        obtain ⟨j, rfl, hin, hf⟩ := hrel
        obtain ⟨wo, hwo⟩ : ∃ wo, wo = wr := ⟨_, rfl⟩
        subst hwo
        rcases Nat.lt_or_ge j N with hlt | hge
        · have g1 : decide (j < N) = true := decide_eq_true hlt
          have g1' : (j : Int) < (N : Int) := by omega
          have hiE : j < Ss.length := by have := HNN.out; omega
          obtain ⟨S, hS⟩ : ∃ S, Ss[j]? = some S := ⟨_, List.getElem?_eq_getElem hiE⟩
          have hSl := HS.out S (List.mem_of_getElem? hS)
          obtain ⟨b, off, As, cs, hA, hc, hrs⟩ := rows_at12 (HRU.out.fr hf.out) (HWU.out.fr hf.out) hS
          obtain ⟨b', off', As', cs', hA', hc', hrs'⟩ := rows_at12 (HRV.out.fr hf.out) (HWV.out.fr hf.out) hS
          subst hA hA'
          obtain ⟨m, hm⟩ : ∃ m, S.length = m := ⟨_, rfl⟩
          rw [hm] at hc hc' hSl
          have HM := Lib.hid hm
          have HRS := Lib.hid hrs
          have HRS' := Lib.hid hrs'
          have HC : Hid (∀ w', Fr wo w' → w'.cell? ⟨b, off + j, none⟩ = some (.slice As m cs) ∧ w'.cell? ⟨b', off' + j, none⟩ = some (.slice As' m cs')) := fun w' h => ⟨h.cell hc, h.cell hc'⟩
          have wi : IntKind.i64.wrap ((j : Int) + 1) = (j : Int) + 1 := wrap_i64_in _ (by omega) (by omega)
          have gm : ((m : Int) != (m : Int)) = false := by simp
          clear hm hS hrs hrs' hiE
          go_wp2_with fail
          go_quiet (fail)
          clear hc hc'
          go_wp2_with fail
          go_loopw [13] (fun v wr => ∃ k : Nat, v = .int .i64 k ∧ k ≤ m ∧ Hid (Fr wo wr)) (fun v _ => m - (intOf v).toNat)
          case atStart => exact ⟨0, rfl, by omega, (Fr.refl _).drewN _⟩
          case round =>
            obtain ⟨k, rfl, hkm, hfi⟩ := hrel
            obtain ⟨hc, hc'⟩ := HC.out _ hfi.out
            rcases Nat.lt_or_ge k m with hk | hk
            · have k1 : decide (k < m) = true := decide_eq_true hk
              have k1' : (k : Int) < (m : Int) := by omega
              have k0 : (0 : Int) ≤ (k : Int) := by omega
              have i0 : (0 : Int) ≤ (j : Int) := by omega
              have hkS : k < S.length := by have := HM.out; omega
              have wk : IntKind.i64.wrap ((k : Int) + 1) = (k : Int) + 1 := wrap_i64_in _ (by omega) (by omega)
              obtain ⟨bs, os, hAs, hcs⟩ := rdc_seg (HRS.out.fr hfi.out) (by omega)
              obtain ⟨bs', os', hAs', hcs'⟩ := rdc_seg (HRS'.out.fr hfi.out) (by omega)
              subst hAs hAs'
              obtain ⟨y0, y1, y2, y3, y4⟩ := hcs k hkS
              obtain ⟨z0, z1, z2, z3, z4⟩ := hcs' k hkS
              obtain ⟨s, hs⟩ : ∃ s, S[k] = s := ⟨_, rfl⟩
              rw [hs] at y0 y1 y2 y3 y4 z0 z1 z2 z3 z4
              obtain ⟨sf, sl, it, fn, un⟩ := s
              dsimp only at y0 y1 y2 y3 y4 z0 z1 z2 z3 z4
              have SS := fun w => cdSame_calls ⟨sf, sl, it, fn, un⟩ w
              unfold segVal at SS
              dsimp only at SS
              clear hcs hcs' hs
              have HCC : Hid (∀ w', Fr wr w' → (w'.cell? ⟨b, off + j, none⟩ = some (.slice (some ⟨bs, os, none⟩) m cs) ∧ w'.cell? ⟨b', off' + j, none⟩ = some (.slice (some ⟨bs', os', none⟩) m cs')) ∧
                (w'.cell? ⟨bs, os + k * 5, none⟩ = some (.int .u64 sf) ∧ w'.cell? ⟨bs, os + k * 5 + 1, none⟩ = some (.float .f64 sl) ∧ w'.cell? ⟨bs, os + k * 5 + 2, none⟩ = some (.float .f64 it) ∧ w'.cell? ⟨bs, os + k * 5 + 3, none⟩ = some (.int .i64 fn) ∧ w'.cell? ⟨bs, os + k * 5 + 4, none⟩ = some (.int .i64 un)) ∧
                (w'.cell? ⟨bs', os' + k * 5, none⟩ = some (.int .u64 sf) ∧ w'.cell? ⟨bs', os' + k * 5 + 1, none⟩ = some (.float .f64 sl) ∧ w'.cell? ⟨bs', os' + k * 5 + 2, none⟩ = some (.float .f64 it) ∧ w'.cell? ⟨bs', os' + k * 5 + 3, none⟩ = some (.int .i64 fn) ∧ w'.cell? ⟨bs', os' + k * 5 + 4, none⟩ = some (.int .i64 un))) :=
                fun w' h => ⟨⟨h.cell hc, h.cell hc'⟩, ⟨h.cell y0, h.cell y1, h.cell y2, h.cell y3, h.cell y4⟩, h.cell z0, h.cell z1, h.cell z2, h.cell z3, h.cell z4⟩
              go_wp2_with fail
              go_region_held3 (fun w' => (w'.cell? ⟨b, off + j, none⟩ = some (.slice (some ⟨bs, os, none⟩) m cs) ∧ w'.cell? ⟨b', off' + j, none⟩ = some (.slice (some ⟨bs', os', none⟩) m cs')) ∧
                (w'.cell? ⟨bs, os + k * 5, none⟩ = some (.int .u64 sf) ∧ w'.cell? ⟨bs, os + k * 5 + 1, none⟩ = some (.float .f64 sl) ∧ w'.cell? ⟨bs, os + k * 5 + 2, none⟩ = some (.float .f64 it) ∧ w'.cell? ⟨bs, os + k * 5 + 3, none⟩ = some (.int .i64 fn) ∧ w'.cell? ⟨bs, os + k * 5 + 4, none⟩ = some (.int .i64 un)) ∧
                (w'.cell? ⟨bs', os' + k * 5, none⟩ = some (.int .u64 sf) ∧ w'.cell? ⟨bs', os' + k * 5 + 1, none⟩ = some (.float .f64 sl) ∧ w'.cell? ⟨bs', os' + k * 5 + 2, none⟩ = some (.float .f64 it) ∧ w'.cell? ⟨bs', os' + k * 5 + 3, none⟩ = some (.int .i64 fn) ∧ w'.cell? ⟨bs', os' + k * 5 + 4, none⟩ = some (.int .i64 un)))
                (first | exact HCC.out _ hfa.out | exact HCC.out _ (Fr.refl _) | exact HCC.out _ (Fr.refl _).drew)
                (first | (go_at_call 48; refine (SS _).mono ?_; rintro e wq ⟨rfl, hqq⟩; have hfa : Hid (Fr wr wq) := (Fr.refl wr).drew.trans hqq))
              go_wp2_with fail
              exact ⟨⟨k + 1, rfl, by omega, hfi.out.trans hfa.out⟩, by simp only [intOf]; omega⟩
            · obtain rfl : k = m := by omega
              have k1 : decide (k < k) = false := by simp
              go_wp2_with fail
              exact ⟨⟨j + 1, rfl, by omega, hf.out.trans hfi.out⟩, by simp only [intOf]; omega⟩
        · obtain rfl : j = N := by omega
          have g1 : decide (j < j) = false := by simp
          go_wp2_with fail
          go_ret
          exact ⟨rfl, HF3.out.trans hf.out⟩
end Go.Proofs.YthjimnmgbcckjaaGreat
