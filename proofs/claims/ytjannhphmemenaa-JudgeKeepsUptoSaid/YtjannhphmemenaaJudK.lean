/- The walks of the judge: New, keys, the search. -/
import Derived.Test.YtjannhphmemenaaJudM
namespace Go.Proofs.Ytjannhphmemenaa
set_option maxRecDepth 100000
open Go.RowKit Go.Inc Go.Jud Go.Maps Go.Sort

theorem jnew_no (most : Int) (w : World) (hr : -9223372036854775808 ≤ most ∧ most ≤ 9223372036854775807) (h : most < 1 ∨ 4294967296 < most) :
    Calls Try.prog 11 #[.int .i64 most] w fun e w' => e = .returned (.tuple #[.pointer none, .int .i64 1]) ∧ w' = w := by
  rcases h with h | h
  · go_enter Try.func11, Try.ntmps11
    go_wp2
    go_ret2
    exact ⟨rfl, rfl⟩
  · have h1 : decide (most < 1) = false := decide_eq_false (by omega)
    go_enter Try.func11, Try.ntmps11
    go_wp2
    go_ret2
    exact ⟨rfl, rfl⟩
theorem jnew_yes (most : Int) (w : World) (h : 1 ≤ most) (h2 : most ≤ 4294967296) :
    Calls Try.prog 11 #[.int .i64 most] w fun e w' => ∃ g b, e = .returned (.tuple #[.pointer (some ⟨g, 0, none⟩), .int .i64 0]) ∧ w.heap.size ≤ g ∧ w.heap.size ≤ b ∧ IsJ w' g b most [] ∧ Fr w w' := by
  have h3 : decide (most < 1) = false := decide_eq_false (by omega)
  have h4 : decide (most > 4294967296) = false := decide_eq_false (by omega)
  have hmm := @run_makeMap Try.prog
  have hfr : Hid (Fr w (w.alloc (.map #[] 0))) := (Fr.refl w).alloc _
  have hm : Hid (IsM (w.alloc (.map #[] 0)) w.heap.size []) := isM_made (World.ownsMap_made _ _ _ _)
  go_enter Try.func11, Try.ntmps11
  go_wp2
  go_ret2
  refine ⟨w.heap.size + 1, w.heap.size, ?_, by omega, Nat.le_refl _, ⟨by omega, ?_, ?_⟩, ?_⟩
  · simp
  · have := heap_alloc_new (w.alloc (.map #[] 0)) (.cells #[.int .i64 most, .map (some w.heap.size)] 65)
    simpa using this
  · exact hm.out.mv (S := none0) (Mv.of_fr ((Fr.refl _).alloc _)) (fun h => h)
  · exact hfr.out.alloc _

set_option maxHeartbeats 1000000 in
theorem jkeys_calls (g b : Nat) (most : Int) (L : List Pr) (w : World) (hJ : IsJ w g b most L) (hL : L.length ≤ 1099511627776) :
    Calls Try.prog 25 #[.pointer (some ⟨g, 0, none⟩)] w fun e w' => ∃ A c, e = .returned (.slice A L.length c) ∧ Own w' w.heap.size 31 1 A L.length c ((L.map (·.1)).map (Value.int .u64)) ∧ Fr w w' := by
  have c1 := hJ.c1
  obtain ⟨hU, hI, D, hown, hsz, hhas, hat⟩ := hJ.2.2
  have hmk := fun W => run_mk0 (P := Try.prog) 69 31 (.int .u64 0) 8 Try.underlying69 info_u64 rfl W (Maps.size D) L.length (by rw [hsz]) (by omega) (by omega)
  have hlt := hJ.lt
  have HJ := Lib.hid hJ
  have HU := Lib.hid hU
  have HH := Lib.hid hhas
  have HZ := Lib.hid hsz
  have HB : Hid (b < w.heap.size) := hlt.2
  clear hJ hU hI hhas hat hsz hlt
  have c1a := ((Fr.refl w).alloc (.cells (arr (List.replicate L.length (.int .u64 0))) 31)).cell c1
  have hfa : Hid (Fr w (w.alloc (.cells (arr (List.replicate L.length (.int .u64 0))) 31))) := (Fr.refl w).alloc _
  have hoa : Hid (Own (w.alloc (.cells (arr (List.replicate L.length (.int .u64 0))) 31)) w.heap.size 31 1 (some ⟨w.heap.size, 0, none⟩) 0 L.length []) := own_mk0 w 31 (.int .u64 0) L.length (by omega)
  go_enter Try.func25, Try.ntmps25
  go_wp2_with (first
    | (at_len; refine wpList_len_own _ rfl _ 63 rfl 31 31 Try.underlying63 rdE b L.length D rfl hown ?_)
    | (at_range; refine wpList_range_own _ rfl _ 63 rfl 31 31 lawK Try.underlying63 rdE b L.length D rfl (hown.alloc _) ?_; intro w0 hrg0 hg0 hs0))
  go_frame
  simp only [World.size_alloc] at hrg0 ⊢
  have hf0 : Hid (Fr w w0) := hfa.out.grown hg0 (by simp)
  have ho0 : Hid (Own w0 w.heap.size 31 1 (some ⟨w.heap.size, 0, none⟩) 0 L.length []) := hoa.out.grown hg0 (by simp [ablk])
  clear hg0 hs0 hmk c1a hfa hoa
  go_loopw [3] (fun v wr => ∃ (A : Option Addr) (c : Nat) (ss : List Int) (left : Lit → Bool) (cnt : Nat), v = .slice A ss.length c ∧ Hid (A ≠ none) ∧ Hid (ablk A ≠ some (w.heap.size + 1)) ∧ Hid (Own wr w.heap.size 31 1 A ss.length c (ss.map (Value.int .u64))) ∧ Hid (Fr w wr) ∧
      Hid (wr.ranges Try.prog 31 rdE b (w.heap.size + 1) L.length D left cnt) ∧ Hid (Coll D left ss) ∧ Hid (ss.length + cnt ≤ L.length)) (fun _ wr => wr.rangeLeft b (w.heap.size + 1))
  case atStart => exact ⟨_, L.length, [], _, _, rfl, (by simp [Hid]), (by simp [Hid, ablk]), ho0, hf0, hrg0, coll_start D, by rw [Hid, HZ.out]; simp⟩
  case round =>
    obtain ⟨A, c, ss, left, cnt, rfl, hA, hA2, ho, hf, hrg, hC, hcn⟩ := hrel
    go_wp2_with (at_next; refine gate ?_)
    unfold Gate
    refine wpList_next_ranges_ii _ rfl _ rfl 31 31 .u64 .u64 lawK Try.underlying31 Try.underlying31 b (w.heap.size + 1) L.length D left cnt rfl hrg.out ?_ ?_
    · intro _ hl0
      have hp := Lib.hid (coll_end hC.out hl0 HU.out HH.out)
      obtain ⟨g1, rfl⟩ : ∃ g1, A = some ⟨g1, 0, none⟩ := by
        rcases ho.out.2 with ⟨h, _⟩ | ⟨g1, _, _, h, _⟩
        · injection h with h; exact absurd h hA.out
        · injection h with h; exact ⟨g1, h⟩
      have hlt := ho.out.lt g1 rfl
      have hlen : ss.length = L.length := by simpa using hp.out.length_eq
      have hs := sortU_calls g1 0 c ss wr (holds_of_own ho.out) hlt.2 (by omega)
      rw [sort_rising hp.out (up_keys HU.out), hlen] at hs
      have HS := Lib.hid hs
      have hl2 := hlt.2
      have HLT := Lib.hid hlt.1
      have HLEN := Lib.hid hlen
      rw [hlen]
      clear hs hp hl0 hrg hC hcn hlt hlen
      go_wp2_with (go_at_call 27; refine HS.out.mono ?_; rintro e w' ⟨rfl, m, os, rfl⟩)
      go_ret
      refine ⟨_, c, rfl, ?_, ?_⟩
      · have := own_sorted (m := m) (os := os) (ts := L.map (·.1)) (by simp [HLEN.out]) ho.out
        rwa [HLEN.out] at this
      · exact hf.out.grown (mv_sorted _) (fun k hk => by injection hk with hk; subst hk; exact HLT.out)
    · intro x cv w1 cnt1 hwx hwc hlx hat hrg1 hlt hg1 hs1 hen
      have hf1 : Hid (Fr w w1) := hf.out.grown hg1 (fun k hk => by injection hk with hk; omega)
      have ho1 : Hid (Own w1 w.heap.size 31 1 A ss.length c (ss.map (Value.int .u64))) := ho.out.grown hg1 (by
        cases hb : ablk A with
        | none => exact .inl rfl
        | some k => refine .inr fun e => hA2.out (by rw [hb]; exact e))
      have hC1 := Lib.hid (coll_step hC.out hlx hat)
      have hrl : Hid (w.heap.size + 1 < w1.heap.size) := hrg1.lt
      have hb1 : Hid (ss.length + 1 ≤ L.length) := by have := hcn.out; show _ ≤ _; omega
      have hbb : ss.length ≤ 1099511627776 := by have := hcn.out; omega
      have hcn1 : Hid (ss.length + 1 + cnt1 ≤ L.length) := by have := hcn.out; show _ ≤ _; omega
      have hm1 : Hid (w1.rangeLeft b (w.heap.size + 1) < wr.rangeLeft b (w.heap.size + 1)) := by
        show _ < _
        rw [hrg1.left_eq, hrg.out.left_eq]; exact hlt
      have HRG := Lib.hid hrg1
      have HLX := Lib.hid hlx
      clear hat hlx hrg1 hlt hg1 hs1 hwx hwc hcn hC hrg ho hf
      go_wp2_with (at_builtin; refine gate ?_)
      refine gate_app rfl _ _ 69 rfl 31 (.int .u64 0) 1 8 Try.underlying69 info_u64 rfl (by omega) (by omega) w.heap.size A ss.length c (ss.map (Value.int .u64)) (some ⟨w1.heap.size, 0, none⟩) 1 1 [.int .u64 x] (by rfl) (by rfl)
        (ho1.out.fr ((Fr.refl w1).alloc _)) rfl (RdC.blk (Blk.new w1 _ _)) (u_one [x]) (by omega) (by have := hrl.out; simp; omega) ?_
      intro A2 c2 w2 hown2 hgr hat
      have hf2 : Hid (Fr w w2) := (hf1.out.alloc _).grown hgr.out (fun g hg => (ho1.out.lt g hg).1)
      have hrg2 : Hid (w2.ranges Try.prog 31 rdE b (w.heap.size + 1) L.length D (fun z => left z && !z.sameKey (.int .u64 x)) cnt1) :=
        (HRG.out.alloc _).kept hgr.out (fun e => by have := (ho1.out.lt b e.symm).1; have := HB.out; omega) (fun e => hA2.out e.symm)
      have hA3 : Hid (A2 ≠ none) := fun e => by
        subst e
        rcases hown2.out.2 with ⟨_, h⟩ | ⟨_, _, _, h, _⟩
        · omega
        · cases h
      have hA4 : Hid (ablk A2 ≠ some (w.heap.size + 1)) := by
        rcases hat.out with h | h
        · rw [Hid, h]; exact hA2.out
        · rw [Hid, h]
          have := hrl.out
          simp; omega
      have ho2 : Hid (Own w2 w.heap.size 31 1 A2 (ss ++ [x]).length c2 ((ss ++ [x]).map (Value.int .u64))) := by show Own _ _ _ _ _ _ _ _; simpa using hown2.out
      have hm2 : Hid (w2.rangeLeft b (w.heap.size + 1) < wr.rangeLeft b (w.heap.size + 1)) := by
        have := hm1.out
        show _ < _
        rw [hrg2.out.left_eq]
        rwa [HRG.out.left_eq] at this
      clear hown2 hgr hat
      go_wp2
      refine ⟨⟨A2, c2, ss ++ [x], _, cnt1, ?_, hA3, hA4, ho2, hf2, hrg2, hC1, ?_⟩, ?_⟩
      · simp
      · have := hcn1.out; simpa [Hid] using this
      · exact hm2.out

/-! ### the search -/
theorem snan_calls (x : Int) (w : World) : Calls Try.prog 32 #[.int .u64 x] w fun e w' => e = .returned (.bool false) ∧ w' = w := by
  go_enter Try.func32, Try.ntmps32
  go_wp2
  go_ret
  exact ⟨by simp, rfl⟩

set_option maxHeartbeats 1000000 in
theorem bsearch_calls (A : Option Addr) (n c : Nat) (L : List Pr) (k : Int) (w : World) (hn : n = L.length) (hU : Up L) (hL : L.length ≤ 1099511627776) (h : RdC w A ((L.map (·.1)).map (Value.int .u64))) :
    Calls Try.prog 28 #[.slice A n c, .int .u64 k] w fun e w' => e = .returned (.tuple #[.int .i64 (rk L k : Nat), .bool (isAt L k)]) ∧ w' = w := by
  subst hn
  rcases L with _ | ⟨p0, L0⟩
  · go_enter Try.func28, Try.ntmps28
    go_wp2
    go_loopw [7, 8] (fun i j wr => i = .int .i64 0 ∧ j = .int .i64 0 ∧ wr = w) (fun _ _ _ => 0)
    case atStart => exact ⟨rfl, rfl, rfl⟩
    case round =>
      obtain ⟨rfl, rfl, rfl⟩ := hrel
      go_wp2
      go_ret2
      exact ⟨rfl, rfl⟩
  · obtain ⟨b, off, rfl, hc⟩ := h.at (by simp)
    obtain ⟨L, hLe⟩ : ∃ L, L = p0 :: L0 := ⟨_, rfl⟩
    rw [← hLe] at hc hU hL ⊢
    have hne : 0 < L.length := by rw [hLe]; simp
    clear hLe h
    obtain ⟨G, hG⟩ : ∃ G : Nat → Int, ∀ t (ht : t < L.length), G t = (L[t]).1 := ⟨fun t => (L.getD t (0, 0)).1, fun t ht => by simp [ht]⟩
    have hcw : ∀ t, t < L.length → w.cell? ⟨b, off + t, none⟩ = some (.int .u64 (G t)) := fun t ht => hc t _ (by simp [ht, hG])
    have HG := Lib.hid hG
    have HU := Lib.hid hU
    clear hc hG hU
    go_enter Try.func28, Try.ntmps28
    go_wp2
    go_loopw [7, 8] (fun vi vj wr => ∃ (i j : Nat), vi = .int .i64 i ∧ vj = .int .i64 j ∧ i ≤ j ∧ j ≤ L.length ∧ Hid (∀ t, t < i → G t < k) ∧ Hid (∀ t, j ≤ t → t < L.length → k ≤ G t) ∧ wr = w) (fun vi vj _ => (intOf vj).toNat - (intOf vi).toNat)
    case atStart => exact ⟨0, L.length, rfl, rfl, by omega, by omega, fun t ht => by omega, fun t h1 h2 => by omega, rfl⟩
    case round =>
      obtain ⟨i, j, rfl, rfl, hij, hj, hlo, hhi, rfl⟩ := hrel
      by_cases hlt : i < j
      · obtain ⟨m, hm⟩ : ∃ m, m = (i + j) / 2 := ⟨_, rfl⟩
        have hm1 : ((i : Int) + (j : Int)) / 2 = (m : Int) := by omega
        have hmi : i ≤ m := by omega
        have hmj : m < j := by omega
        have hml : m < L.length := by omega
        have hcm := hcw m hml
        have HM : Hid (m < L.length) := hml
        clear hm
        have hlm : Hid (ltInt (G m) k = true → ∀ t, t < m + 1 → G t < k) := fun h t ht => by
          have h1 : G m < k := by simpa [ltInt] using h
          rcases Nat.lt_or_ge t m with h2 | h2
          · have := List.pairwise_iff_getElem.1 HU.out t m (by omega) (by omega) h2
            rw [← HG.out, ← HG.out] at this
            omega
          · have : t = m := by omega
            subst this; exact h1
        have hgm : Hid (ltInt (G m) k = false → ∀ t, m ≤ t → t < L.length → k ≤ G t) := fun h t h1 h2 => by
          have h1' : k ≤ G m := by simpa [ltInt] using h
          rcases Nat.lt_or_ge m t with h3 | h3
          · have := List.pairwise_iff_getElem.1 HU.out m t (by omega) (by omega) h3
            rw [← HG.out, ← HG.out] at this
            omega
          · have : t = m := by omega
            subst this; exact h1'
        go_wp2_with (go_at_call 31; refine (So_cmp_Less_u _ _ _).mono ?_; rintro e w' ⟨rfl, rfl⟩)
        · have hl : ltInt (G m) k = true := by assumption
          refine ⟨⟨m + 1, j, by simp, rfl, by omega, hj, hlm.out hl, hhi, trivial⟩, by simp [intOf]; omega⟩
        · have hl : ltInt (G m) k = false := by assumption
          refine ⟨⟨i, m, rfl, rfl, by omega, by omega, hlo, hgm.out hl, trivial⟩, by simp [intOf]; omega⟩
      · obtain rfl : i = j := by omega
        have hrk : Hid (rk L k = i) := rk_unique (by omega) (fun t p ht hp => by
            obtain ⟨ht', rfl⟩ := List.getElem?_eq_some_iff.1 hp
            rw [← HG.out]; exact hlo.out t ht) (fun p hp => by
            obtain ⟨ht', rfl⟩ := List.getElem?_eq_some_iff.1 hp
            rw [← HG.out]; exact hhi.out i (Nat.le_refl _) ht')
        have hat : Hid (isAt L k = (decide (i < L.length) && (G i == k))) := by
          show _ = _
          unfold isAt
          rw [hrk.out]
          rcases Nat.lt_or_ge i L.length with h | h
          · rw [List.getElem?_eq_getElem h, HG.out i h]; simp [h]
          · rw [List.getElem?_eq_none h]; simp [show ¬ i < L.length by omega]
        clear hlo hhi
        rcases Nat.lt_or_ge i L.length with h | h
        · have hci := hcw i h
          have hcz : ((i : Int) < (L.length : Int)) := by omega
          have e1 : Hid (decide (i < L.length) = true) := decide_eq_true h
          cases hgk : (G i == k)
          · have e2 : Hid ((G i == k) = false) := hgk
            go_wp2_with (go_at_call 32; refine (snan_calls _ _).mono ?_; rintro e w' ⟨rfl, rfl⟩)
            go_ret2
            exact ⟨by rw [hrk.out, hat.out, e1.out, e2.out]; rfl, rfl⟩
          · have e2 : Hid ((G i == k) = true) := hgk
            go_wp2_with (go_at_call 32; refine (snan_calls _ _).mono ?_; rintro e w' ⟨rfl, rfl⟩)
            go_ret2
            exact ⟨by rw [hrk.out, hat.out, e1.out, e2.out]; rfl, rfl⟩
        · have hcz : decide ((i : Int) < (L.length : Int)) = false := decide_eq_false (by omega)
          have e1 : Hid (decide (i < L.length) = false) := decide_eq_false (by omega)
          go_wp2
          go_ret2
          exact ⟨by rw [hrk.out, hat.out, e1.out]; rfl, rfl⟩

end Go.Proofs.Ytjannhphmemenaa
