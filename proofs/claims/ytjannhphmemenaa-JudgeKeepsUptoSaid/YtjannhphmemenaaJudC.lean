/- The walks of the lists that are compared (printed by gencmp.py). -/
import Derived.Test.YtjannhphmemenaaJudE
namespace Go.Proofs.Ytjannhphmemenaa
set_option maxRecDepth 100000
open Go.RowKit Go.Inc Go.Jud Go.Maps Go.Sort

set_option maxHeartbeats 1000000 in
theorem psame_calls (A B : Option Addr) (n c m c' : Nat) (l1 l2 : List Pr) (w : World) (hn : n = l1.length) (hm : m = l2.length) (hL : l1.length ≤ 1099511627776) (h1 : RdC w A (l1.flatMap pcells)) (h2 : RdC w B (l2.flatMap pcells)) :
    Calls Try.prog 24 #[.slice A n c, .slice B m c'] w fun e w' => e = .returned (.bool (decide (l1 = l2))) ∧ ∃ k, w' = w.drewN k := by
  subst hn; subst hm
  by_cases hl : l1.length = l2.length
  · rcases Nat.eq_zero_or_pos l1.length with h0 | h0
    · have e1 : decide (l1 = l2) = true := by
        obtain rfl := List.eq_nil_of_length_eq_zero h0
        obtain rfl := List.eq_nil_of_length_eq_zero (hl.symm.trans h0)
        rfl
      rw [e1]
      rw [← hl, h0]
      go_enter Try.func24, Try.ntmps24
      go_wp2
      go_loopw [5] (fun i wr => i = .int .i64 0 ∧ wr = w) (fun _ _ => 0)
      case atStart => exact ⟨rfl, rfl⟩
      case round =>
        obtain ⟨rfl, rfl⟩ := hrel
        go_wp2
        go_ret
        exact ⟨rfl, 0, rfl⟩
    · obtain ⟨b1, o1, rfl, hc1⟩ := pairs_cells h1 h0
      obtain ⟨b2, o2, rfl, hc2⟩ := pairs_cells h2 (by omega)
      clear h1 h2
      obtain ⟨K1, hK1⟩ : ∃ K : Nat → Int, ∀ t, K t = (l1.getD t (0, 0)).1 := ⟨_, fun _ => rfl⟩
      obtain ⟨V1, hV1⟩ : ∃ K : Nat → Int, ∀ t, K t = (l1.getD t (0, 0)).2 := ⟨_, fun _ => rfl⟩
      obtain ⟨K2, hK2⟩ : ∃ K : Nat → Int, ∀ t, K t = (l2.getD t (0, 0)).1 := ⟨_, fun _ => rfl⟩
      obtain ⟨V2, hV2⟩ : ∃ K : Nat → Int, ∀ t, K t = (l2.getD t (0, 0)).2 := ⟨_, fun _ => rfl⟩
      simp only [← hK1, ← hV1, ← hK2, ← hV2] at hc1 hc2
      have HE : Hid (∀ t, (K1 t = K2 t ∧ V1 t = V2 t) ↔ l1.getD t (0, 0) = l2.getD t (0, 0)) := fun t => by
        rw [hK1, hK2, hV1, hV2]; exact Prod.ext_iff.symm
      clear hK1 hK2 hV1 hV2
      rw [← hl]
      have HL := Lib.hid hl
      rw [← hl] at hc2
      clear hl
      have hneq := pair_neq
      go_enter Try.func24, Try.ntmps24
      go_wp2
      go_loopw [5] (fun vi wr => ∃ i q : Nat, vi = .int .i64 i ∧ i ≤ l1.length ∧ Hid (∀ t, t < i → l1.getD t (0, 0) = l2.getD t (0, 0)) ∧ Hid (wr = w.drewN q)) (fun vi _ => l1.length - (intOf vi).toNat)
      case atStart => exact ⟨0, 0, rfl, by omega, fun t ht => by omega, rfl⟩
      case round =>
        obtain ⟨i, q, rfl, hi, hs, hw⟩ := hrel
        by_cases hlt : i < l1.length
        · have a1 : wr.cell? ⟨b1, o1 + i * 2, none⟩ = some (.int .u64 (K1 i)) := by rw [hw.out]; exact (hc1 i hlt).1
          have a2 : wr.cell? ⟨b1, o1 + i * 2 + 1, none⟩ = some (.int .u64 (V1 i)) := by rw [hw.out]; exact (hc1 i hlt).2
          have a3 : wr.cell? ⟨b2, o2 + i * 2, none⟩ = some (.int .u64 (K2 i)) := by rw [hw.out]; exact (hc2 i hlt).1
          have a4 : wr.cell? ⟨b2, o2 + i * 2 + 1, none⟩ = some (.int .u64 (V2 i)) := by rw [hw.out]; exact (hc2 i hlt).2
          clear hc1 hc2
          cases hb : (K1 i == K2 i && V1 i == V2 i)
          · have hbv : Hid (l1 ≠ l2) := fun e => by
              have := (HE.out i).2 (by rw [e])
              rw [this.1, this.2] at hb
              simp at hb
            go_wp2_with fail
            go_quiet (fail)
            go_wp2_with fail
            go_ret
            refine ⟨?_, q + nq, by rw [hw.out, World.drewN_drewN]⟩
            rw [decide_eq_false hbv.out]; rfl
          · have hbv : Hid (l1.getD i (0, 0) = l2.getD i (0, 0)) := (HE.out i).1 (by simpa using hb)
            go_wp2_with fail
            go_quiet (fail)
            go_wp2_with fail
            refine ⟨⟨i + 1, q + nq, by simp, by omega, fun t ht => ?_, ?_⟩, by simp [intOf]; omega⟩
            · rcases Nat.lt_or_ge t i with h | h
              · exact hs.out t h
              · have : t = i := by omega
                subst this; exact hbv.out
            · show _ = _
              rw [hw.out, World.drewN_drewN]
        · have hii : i = l1.length := by omega
          have hee : Hid (l1 = l2) := by
            have HS := hs.out
            subst hii
            exact List.ext_getElem HL.out fun t h1 h2 => by
              have := HS t h1
              simpa [h1, h2] using this
          clear hs hc1 hc2
          go_wp2_with fail
          go_ret
          refine ⟨?_, q, hw.out⟩
          rw [decide_eq_true hee.out]; rfl
  · have e1 : decide (l1 = l2) = false := decide_eq_false fun e => hl (by rw [e])
    rw [e1]
    have hlz : ((l1.length : Int) == (l2.length : Int)) = false := by simp; omega
    have hlz2 : ((l1.length : Int) != (l2.length : Int)) = true := by simp; omega
    clear h1 h2 hl
    go_enter Try.func24, Try.ntmps24
    go_wp2
    go_ret
    exact ⟨rfl, 0, rfl⟩

set_option maxHeartbeats 1000000 in
theorem lsame_calls (A B : Option Addr) (n c m c' : Nat) (l1 l2 : List Pr) (w : World) (hn : n = l1.length) (hm : m = l2.length) (hL : l1.length ≤ 1099511627776) (h1 : RdC w A (l1.flatMap pcells)) (h2 : RdC w B (l2.flatMap pcells)) :
    Calls Try.prog 18 #[.slice A n c, .slice B m c'] w fun e w' => e = .returned (.bool (decide (l1 = l2))) ∧ ∃ k, w' = w.drewN k := by
  subst hn; subst hm
  by_cases hl : l1.length = l2.length
  · rcases Nat.eq_zero_or_pos l1.length with h0 | h0
    · have e1 : decide (l1 = l2) = true := by
        obtain rfl := List.eq_nil_of_length_eq_zero h0
        obtain rfl := List.eq_nil_of_length_eq_zero (hl.symm.trans h0)
        rfl
      rw [e1]
      rw [← hl, h0]
      go_enter Try.func18, Try.ntmps18
      go_wp2
      go_loopw [5] (fun i wr => i = .int .i64 0 ∧ wr = w) (fun _ _ => 0)
      case atStart => exact ⟨rfl, rfl⟩
      case round =>
        obtain ⟨rfl, rfl⟩ := hrel
        go_wp2
        go_ret
        exact ⟨rfl, 0, rfl⟩
    · obtain ⟨b1, o1, rfl, hc1⟩ := pairs_cells h1 h0
      obtain ⟨b2, o2, rfl, hc2⟩ := pairs_cells h2 (by omega)
      clear h1 h2
      obtain ⟨K1, hK1⟩ : ∃ K : Nat → Int, ∀ t, K t = (l1.getD t (0, 0)).1 := ⟨_, fun _ => rfl⟩
      obtain ⟨V1, hV1⟩ : ∃ K : Nat → Int, ∀ t, K t = (l1.getD t (0, 0)).2 := ⟨_, fun _ => rfl⟩
      obtain ⟨K2, hK2⟩ : ∃ K : Nat → Int, ∀ t, K t = (l2.getD t (0, 0)).1 := ⟨_, fun _ => rfl⟩
      obtain ⟨V2, hV2⟩ : ∃ K : Nat → Int, ∀ t, K t = (l2.getD t (0, 0)).2 := ⟨_, fun _ => rfl⟩
      simp only [← hK1, ← hV1, ← hK2, ← hV2] at hc1 hc2
      have HE : Hid (∀ t, (K1 t = K2 t ∧ V1 t = V2 t) ↔ l1.getD t (0, 0) = l2.getD t (0, 0)) := fun t => by
        rw [hK1, hK2, hV1, hV2]; exact Prod.ext_iff.symm
      clear hK1 hK2 hV1 hV2
      rw [← hl]
      have HL := Lib.hid hl
      rw [← hl] at hc2
      clear hl
      have hneq := pair_neq
      go_enter Try.func18, Try.ntmps18
      go_wp2
      go_loopw [5] (fun vi wr => ∃ i q : Nat, vi = .int .i64 i ∧ i ≤ l1.length ∧ Hid (∀ t, t < i → l1.getD t (0, 0) = l2.getD t (0, 0)) ∧ Hid (wr = w.drewN q)) (fun vi _ => l1.length - (intOf vi).toNat)
      case atStart => exact ⟨0, 0, rfl, by omega, fun t ht => by omega, rfl⟩
      case round =>
        obtain ⟨i, q, rfl, hi, hs, hw⟩ := hrel
        by_cases hlt : i < l1.length
        · have a1 : wr.cell? ⟨b1, o1 + i * 2, none⟩ = some (.int .u64 (K1 i)) := by rw [hw.out]; exact (hc1 i hlt).1
          have a2 : wr.cell? ⟨b1, o1 + i * 2 + 1, none⟩ = some (.int .u64 (V1 i)) := by rw [hw.out]; exact (hc1 i hlt).2
          have a3 : wr.cell? ⟨b2, o2 + i * 2, none⟩ = some (.int .u64 (K2 i)) := by rw [hw.out]; exact (hc2 i hlt).1
          have a4 : wr.cell? ⟨b2, o2 + i * 2 + 1, none⟩ = some (.int .u64 (V2 i)) := by rw [hw.out]; exact (hc2 i hlt).2
          clear hc1 hc2
          cases hb : (K1 i == K2 i && V1 i == V2 i)
          · have hbv : Hid (l1 ≠ l2) := fun e => by
              have := (HE.out i).2 (by rw [e])
              rw [this.1, this.2] at hb
              simp at hb
            go_wp2_with fail
            go_quiet (fail)
            go_wp2_with fail
            go_ret
            refine ⟨?_, q + nq, by rw [hw.out, World.drewN_drewN]⟩
            rw [decide_eq_false hbv.out]; rfl
          · have hbv : Hid (l1.getD i (0, 0) = l2.getD i (0, 0)) := (HE.out i).1 (by simpa using hb)
            go_wp2_with fail
            go_quiet (fail)
            go_wp2_with fail
            refine ⟨⟨i + 1, q + nq, by simp, by omega, fun t ht => ?_, ?_⟩, by simp [intOf]; omega⟩
            · rcases Nat.lt_or_ge t i with h | h
              · exact hs.out t h
              · have : t = i := by omega
                subst this; exact hbv.out
            · show _ = _
              rw [hw.out, World.drewN_drewN]
        · have hii : i = l1.length := by omega
          have hee : Hid (l1 = l2) := by
            have HS := hs.out
            subst hii
            exact List.ext_getElem HL.out fun t h1 h2 => by
              have := HS t h1
              simpa [h1, h2] using this
          clear hs hc1 hc2
          go_wp2_with fail
          go_ret
          refine ⟨?_, q, hw.out⟩
          rw [decide_eq_true hee.out]; rfl
  · have e1 : decide (l1 = l2) = false := decide_eq_false fun e => hl (by rw [e])
    rw [e1]
    have hlz : ((l1.length : Int) == (l2.length : Int)) = false := by simp; omega
    have hlz2 : ((l1.length : Int) != (l2.length : Int)) = true := by simp; omega
    clear h1 h2 hl
    go_enter Try.func18, Try.ntmps18
    go_wp2
    go_ret
    exact ⟨rfl, 0, rfl⟩


theorem nums_cells {w : World} {A : Option Addr} {l : List Int} (h : RdC w A (l.map (Value.int .i64))) (hne : 0 < l.length) : ∃ b off, A = some ⟨b, off, none⟩ ∧
    (∀ t, t < l.length → w.cell? ⟨b, off + t, none⟩ = some (.int .i64 (l.getD t 0))) := by
  obtain ⟨b, off, rfl, hc⟩ := h.at (by simpa using hne)
  exact ⟨b, off, rfl, fun t ht => hc t _ (by simp [ht])⟩
set_option maxHeartbeats 1000000 in
theorem lnums_calls (A B : Option Addr) (n c m c' : Nat) (l1 l2 : List Int) (w : World) (hn : n = l1.length) (hm : m = l2.length) (hL : l1.length ≤ 1099511627776) (h1 : RdC w A (l1.map (Value.int .i64))) (h2 : RdC w B (l2.map (Value.int .i64))) :
    Calls Try.prog 17 #[.slice A n c, .slice B m c'] w fun e w' => e = .returned (.bool (decide (l1 = l2))) ∧ ∃ k, w' = w.drewN k := by
  subst hn; subst hm
  by_cases hl : l1.length = l2.length
  · rcases Nat.eq_zero_or_pos l1.length with h0 | h0
    · have e1 : decide (l1 = l2) = true := by
        obtain rfl := List.eq_nil_of_length_eq_zero h0
        obtain rfl := List.eq_nil_of_length_eq_zero (hl.symm.trans h0)
        rfl
      rw [e1]
      rw [← hl, h0]
      go_enter Try.func17, Try.ntmps17
      go_wp2
      go_loopw [5] (fun i wr => i = .int .i64 0 ∧ wr = w) (fun _ _ => 0)
      case atStart => exact ⟨rfl, rfl⟩
      case round =>
        obtain ⟨rfl, rfl⟩ := hrel
        go_wp2
        go_ret
        exact ⟨rfl, 0, rfl⟩
    · obtain ⟨b1, o1, rfl, hc1⟩ := nums_cells h1 h0
      obtain ⟨b2, o2, rfl, hc2⟩ := nums_cells h2 (by omega)
      clear h1 h2
      obtain ⟨K1, hK1⟩ : ∃ K : Nat → Int, ∀ t, K t = l1.getD t 0 := ⟨_, fun _ => rfl⟩
      obtain ⟨K2, hK2⟩ : ∃ K : Nat → Int, ∀ t, K t = l2.getD t 0 := ⟨_, fun _ => rfl⟩
      simp only [← hK1, ← hK2] at hc1 hc2
      have HE : Hid (∀ t, (K1 t = K2 t) ↔ l1.getD t 0 = l2.getD t 0) := fun t => by
        rw [hK1, hK2]
      clear hK1 hK2
      rw [← hl]
      have HL := Lib.hid hl
      rw [← hl] at hc2
      clear hl
      go_enter Try.func17, Try.ntmps17
      go_wp2
      go_loopw [5] (fun vi wr => ∃ i q : Nat, vi = .int .i64 i ∧ i ≤ l1.length ∧ Hid (∀ t, t < i → l1.getD t 0 = l2.getD t 0) ∧ Hid (wr = w.drewN q)) (fun vi _ => l1.length - (intOf vi).toNat)
      case atStart => exact ⟨0, 0, rfl, by omega, fun t ht => by omega, rfl⟩
      case round =>
        obtain ⟨i, q, rfl, hi, hs, hw⟩ := hrel
        by_cases hlt : i < l1.length
        · have a1 : wr.cell? ⟨b1, o1 + i, none⟩ = some (.int .i64 (K1 i)) := by rw [hw.out]; exact hc1 i hlt
          have a3 : wr.cell? ⟨b2, o2 + i, none⟩ = some (.int .i64 (K2 i)) := by rw [hw.out]; exact hc2 i hlt
          clear hc1 hc2
          cases hb : (K1 i == K2 i)
          · have hbv : Hid (l1 ≠ l2) := fun e => by
              have := (HE.out i).2 (by rw [e])
              rw [this] at hb
              simp at hb
            have hb2 : (K1 i != K2 i) = true := by simp only [bne, hb]; rfl
            go_wp2_with fail
            go_quiet (fail)
            go_wp2_with fail
            go_ret
            refine ⟨?_, q + nq, by rw [hw.out, World.drewN_drewN]⟩
            rw [decide_eq_false hbv.out]; rfl
          · have hbv : Hid (l1.getD i 0 = l2.getD i 0) := (HE.out i).1 (by simpa using hb)
            have hb2 : (K1 i != K2 i) = false := by simp only [bne, hb]; rfl
            go_wp2_with fail
            go_quiet (fail)
            go_wp2_with fail
            refine ⟨⟨i + 1, q + nq, by simp, by omega, fun t ht => ?_, ?_⟩, by simp [intOf]; omega⟩
            · rcases Nat.lt_or_ge t i with h | h
              · exact hs.out t h
              · have : t = i := by omega
                subst this; exact hbv.out
            · show _ = _
              rw [hw.out, World.drewN_drewN]
        · have hii : i = l1.length := by omega
          have hee : Hid (l1 = l2) := by
            have HS := hs.out
            subst hii
            exact List.ext_getElem HL.out fun t h1 h2 => by
              have := HS t h1
              simpa [h1, h2] using this
          clear hs hc1 hc2
          go_wp2_with fail
          go_ret
          refine ⟨?_, q, hw.out⟩
          rw [decide_eq_true hee.out]; rfl
  · have e1 : decide (l1 = l2) = false := decide_eq_false fun e => hl (by rw [e])
    rw [e1]
    have hlz : ((l1.length : Int) == (l2.length : Int)) = false := by simp; omega
    have hlz2 : ((l1.length : Int) != (l2.length : Int)) = true := by simp; omega
    clear h1 h2 hl
    go_enter Try.func17, Try.ntmps17
    go_wp2
    go_ret
    exact ⟨rfl, 0, rfl⟩

def fcells (p : Pr) : List Value := [.int .i64 p.1, .int .i64 p.2]
theorem fcells_len (p : Pr) : (fcells p).length = 2 := rfl
theorem fcells_one (l : List Pr) : ∀ v ∈ l.flatMap fcells, v.oneCell' = true := by
  intro v hv
  obtain ⟨p, _, hp⟩ := List.mem_flatMap.1 hv
  simp [fcells] at hp
  rcases hp with rfl | rfl <;> rfl
theorem faults_cells {w : World} {A : Option Addr} {l : List Pr} (h : RdC w A (l.flatMap fcells)) (hne : 0 < l.length) : ∃ b off, A = some ⟨b, off, none⟩ ∧
    (∀ t, t < l.length → w.cell? ⟨b, off + t * 2, none⟩ = some (.int .i64 (l.getD t (0, 0)).1) ∧ w.cell? ⟨b, off + t * 2 + 1, none⟩ = some (.int .i64 (l.getD t (0, 0)).2)) := by
  obtain ⟨b, off, rfl, hc⟩ := h.at (by rw [flat_len fcells 2 fcells_len]; omega)
  refine ⟨b, off, rfl, fun t ht => ?_⟩
  have h0 : l[t]? = some (l.getD t (0, 0)) := by simp [ht]
  have a := hc (t * 2) (.int .i64 (l.getD t (0, 0)).1) (by have := get_flat fcells 2 fcells_len l t _ 0 h0 (by omega); rw [Nat.add_zero] at this; rw [this]; rfl)
  have c := hc (t * 2 + 1) (.int .i64 (l.getD t (0, 0)).2) (by have := get_flat fcells 2 fcells_len l t _ 1 h0 (by omega); rw [this]; rfl)
  exact ⟨a, by rw [Nat.add_assoc]; exact c⟩

theorem fault_neq (W : World) (a b c e : Int) : (binOp .neq 61 (.agg #[.int .i64 a, .int .i64 b]) (.agg #[.int .i64 c, .int .i64 e])).run Try.prog W = .ok (.bool (!(a == c && b == e))) W := by
  have h1 : ∀ x y : Int, (Op.equalIn 9999 3 (.int .i64 x) (.int .i64 y)).run Try.prog W = .ok (x == y) W := fun x y => run_equalIn_int W 9998 _ _ _ x y Try.underlying3
  have hk : Try.prog.plainKey 3 = true := by kernel_rfl
  have p0 : ∀ (xs : Array Value) (off : Nat) (v : Value), xs[off]? = some v → (part 3 xs off).run Try.prog W = .ok v W := fun xs off v hv => run_part_plain W hk hv
  have h2 : (Op.eqFields 9999 #[.int .i64 a, .int .i64 b] #[.int .i64 c, .int .i64 e] (Try.prog.fieldsOf 61).toList).run Try.prog W = .ok (a == c && (b == e && true)) W := by
    rw [fieldsOf_of Try.underlying61]
    exact eqf_step (by decide) (p0 _ 0 _ rfl) (p0 _ 0 _ rfl) (h1 _ _) (eqf_step (by decide) (p0 _ 1 _ rfl) (p0 _ 1 _ rfl) (h1 _ _) eqf_nil)
  rw [run_neq_struct, run_equalIn_struct W 9999 61 _ _ (by kernel_rfl) (by kernel_rfl), h2]
  simp [Result.andThen]

set_option maxHeartbeats 1000000 in
theorem lfaults_calls (A B : Option Addr) (n c m c' : Nat) (l1 l2 : List Pr) (w : World) (hn : n = l1.length) (hm : m = l2.length) (hL : l1.length ≤ 1099511627776) (h1 : RdC w A (l1.flatMap fcells)) (h2 : RdC w B (l2.flatMap fcells)) :
    Calls Try.prog 10 #[.slice A n c, .slice B m c'] w fun e w' => e = .returned (.bool (decide (l1 = l2))) ∧ ∃ k, w' = w.drewN k := by
  subst hn; subst hm
  by_cases hl : l1.length = l2.length
  · rcases Nat.eq_zero_or_pos l1.length with h0 | h0
    · have e1 : decide (l1 = l2) = true := by
        obtain rfl := List.eq_nil_of_length_eq_zero h0
        obtain rfl := List.eq_nil_of_length_eq_zero (hl.symm.trans h0)
        rfl
      rw [e1]
      rw [← hl, h0]
      go_enter Try.func10, Try.ntmps10
      go_wp2
      go_loopw [5] (fun i wr => i = .int .i64 0 ∧ wr = w) (fun _ _ => 0)
      case atStart => exact ⟨rfl, rfl⟩
      case round =>
        obtain ⟨rfl, rfl⟩ := hrel
        go_wp2
        go_ret
        exact ⟨rfl, 0, rfl⟩
    · obtain ⟨b1, o1, rfl, hc1⟩ := faults_cells h1 h0
      obtain ⟨b2, o2, rfl, hc2⟩ := faults_cells h2 (by omega)
      clear h1 h2
      obtain ⟨K1, hK1⟩ : ∃ K : Nat → Int, ∀ t, K t = (l1.getD t (0, 0)).1 := ⟨_, fun _ => rfl⟩
      obtain ⟨V1, hV1⟩ : ∃ K : Nat → Int, ∀ t, K t = (l1.getD t (0, 0)).2 := ⟨_, fun _ => rfl⟩
      obtain ⟨K2, hK2⟩ : ∃ K : Nat → Int, ∀ t, K t = (l2.getD t (0, 0)).1 := ⟨_, fun _ => rfl⟩
      obtain ⟨V2, hV2⟩ : ∃ K : Nat → Int, ∀ t, K t = (l2.getD t (0, 0)).2 := ⟨_, fun _ => rfl⟩
      simp only [← hK1, ← hV1, ← hK2, ← hV2] at hc1 hc2
      have HE : Hid (∀ t, (K1 t = K2 t ∧ V1 t = V2 t) ↔ l1.getD t (0, 0) = l2.getD t (0, 0)) := fun t => by
        rw [hK1, hK2, hV1, hV2]; exact Prod.ext_iff.symm
      clear hK1 hK2 hV1 hV2
      rw [← hl]
      have HL := Lib.hid hl
      rw [← hl] at hc2
      clear hl
      have hneq := fault_neq
      go_enter Try.func10, Try.ntmps10
      go_wp2
      go_loopw [5] (fun vi wr => ∃ i q : Nat, vi = .int .i64 i ∧ i ≤ l1.length ∧ Hid (∀ t, t < i → l1.getD t (0, 0) = l2.getD t (0, 0)) ∧ Hid (wr = w.drewN q)) (fun vi _ => l1.length - (intOf vi).toNat)
      case atStart => exact ⟨0, 0, rfl, by omega, fun t ht => by omega, rfl⟩
      case round =>
        obtain ⟨i, q, rfl, hi, hs, hw⟩ := hrel
        by_cases hlt : i < l1.length
        · have a1 : wr.cell? ⟨b1, o1 + i * 2, none⟩ = some (.int .i64 (K1 i)) := by rw [hw.out]; exact (hc1 i hlt).1
          have a2 : wr.cell? ⟨b1, o1 + i * 2 + 1, none⟩ = some (.int .i64 (V1 i)) := by rw [hw.out]; exact (hc1 i hlt).2
          have a3 : wr.cell? ⟨b2, o2 + i * 2, none⟩ = some (.int .i64 (K2 i)) := by rw [hw.out]; exact (hc2 i hlt).1
          have a4 : wr.cell? ⟨b2, o2 + i * 2 + 1, none⟩ = some (.int .i64 (V2 i)) := by rw [hw.out]; exact (hc2 i hlt).2
          clear hc1 hc2
          cases hb : (K1 i == K2 i && V1 i == V2 i)
          · have hbv : Hid (l1 ≠ l2) := fun e => by
              have := (HE.out i).2 (by rw [e])
              rw [this.1, this.2] at hb
              simp at hb
            go_wp2_with fail
            go_quiet (fail)
            go_wp2_with fail
            go_ret
            refine ⟨?_, q + nq, by rw [hw.out, World.drewN_drewN]⟩
            rw [decide_eq_false hbv.out]; rfl
          · have hbv : Hid (l1.getD i (0, 0) = l2.getD i (0, 0)) := (HE.out i).1 (by simpa using hb)
            go_wp2_with fail
            go_quiet (fail)
            go_wp2_with fail
            refine ⟨⟨i + 1, q + nq, by simp, by omega, fun t ht => ?_, ?_⟩, by simp [intOf]; omega⟩
            · rcases Nat.lt_or_ge t i with h | h
              · exact hs.out t h
              · have : t = i := by omega
                subst this; exact hbv.out
            · show _ = _
              rw [hw.out, World.drewN_drewN]
        · have hii : i = l1.length := by omega
          have hee : Hid (l1 = l2) := by
            have HS := hs.out
            subst hii
            exact List.ext_getElem HL.out fun t h1 h2 => by
              have := HS t h1
              simpa [h1, h2] using this
          clear hs hc1 hc2
          go_wp2_with fail
          go_ret
          refine ⟨?_, q, hw.out⟩
          rw [decide_eq_true hee.out]; rfl
  · have e1 : decide (l1 = l2) = false := decide_eq_false fun e => hl (by rw [e])
    rw [e1]
    have hlz : ((l1.length : Int) == (l2.length : Int)) = false := by simp; omega
    have hlz2 : ((l1.length : Int) != (l2.length : Int)) = true := by simp; omega
    clear h1 h2 hl
    go_enter Try.func10, Try.ntmps10
    go_wp2
    go_ret
    exact ⟨rfl, 0, rfl⟩

end Go.Proofs.Ytjannhphmemenaa
