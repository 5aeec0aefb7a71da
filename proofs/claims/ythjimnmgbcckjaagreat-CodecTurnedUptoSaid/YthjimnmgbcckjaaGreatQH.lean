/- Parts of this proof, one behind the other: Ent, Ent2, Pile, Run, Run2, Probe. -/
import Derived.Deep.RegionWith
import Derived.Lib.SliceRun
import Derived.Test.YthjimnmgbcckjaaGreatQG
namespace Go.Run
/-- An entry. -/
structure Ent where
  key : Int
  val : Int
  gone : Bool
/-- A tombstone with a value. -/
def badE (e : Ent) : Bool := e.gone && decide (e.val ≠ 0)
def keysE (l : List Ent) : List Int := l.map (·.key)
def EntOk (e : Ent) : Prop := (0 ≤ e.key ∧ e.key < 18446744073709551616) ∧ (0 ≤ e.val ∧ e.val < 18446744073709551616)
/-- What is wrong with entries. -/
inductive EntsV (l : List Ent) : Int → Prop
  | ok : Rise (keysE l) → (∀ e ∈ l, badE e = false) → EntsV l 0
  | order : ¬ Rise (keysE l) → (∀ e ∈ l, badE e = false) → EntsV l 30
  | gone (b : Nat) (h : b < l.length) : badE l[b] = true → (∀ i (hi : i < l.length), i < b → badE l[i] = false) → Rise (keysE (l.take (b + 1))) → EntsV l 31
  | goneOrder (b : Nat) (h : b < l.length) : badE l[b] = true → (∀ i (hi : i < l.length), i < b → badE l[i] = false) → ¬ Rise (keysE (l.take (b + 1))) → EntsV l 30
end Go.Run
namespace Go.Proofs.YthjimnmgbcckjaaGreat
set_option maxRecDepth 100000
open Go.RowKit Go.Inc Go.Run

def encells (e : Ent) : List Value := [.int .u64 e.key, .int .u64 e.val, .bool e.gone]
theorem encells_len (e : Ent) : (encells e).length = 3 := rfl
theorem rdc_ent {w : World} {A : Option Addr} {S : List Ent} (h : RdC w A (S.flatMap encells)) (hne : 0 < S.length) : ∃ b off, A = some ⟨b, off, none⟩ ∧ ∀ i (hi : i < S.length), w.cell? ⟨b, off + i * 3, none⟩ = some (.int .u64 S[i].key) ∧ w.cell? ⟨b, off + i * 3 + 1, none⟩ = some (.int .u64 S[i].val) ∧ w.cell? ⟨b, off + i * 3 + 2, none⟩ = some (.bool S[i].gone) := by
  obtain ⟨b, off, hA, hc⟩ := h.at (by rw [flat_len encells 3 encells_len]; omega)
  refine ⟨b, off, hA, fun i hi => ?_⟩
  have hg := fun j (hj : j < 3) => get_flat encells 3 encells_len S i S[i] j (by simp [hi]) hj
  refine ⟨?_, ?_, ?_⟩
  · have := hc (i * 3 + 0) _ (by rw [hg 0 (by decide)]; rfl); rw [Nat.add_zero] at this; exact this
  · have := hc (i * 3 + 1) _ (by rw [hg 1 (by decide)]; rfl); rw [← Nat.add_assoc] at this; exact this
  · have := hc (i * 3 + 2) _ (by rw [hg 2 (by decide)]; rfl); rw [← Nat.add_assoc] at this; exact this

theorem keyOf_calls (k v : Int) (g : Bool) (w : World) : Calls Tryz.prog 90 #[.agg #[.int .u64 k, .int .u64 v, .bool g]] w fun e w' => e = .returned (.int .u64 k) ∧ Fr w w' := by
  have hb := heap_alloc_new w (.cells #[.int .u64 k, .int .u64 v, .bool g] 52)
  obtain ⟨x0, x1, x2⟩ := cells3 hb
  have HF := Lib.hid ((Fr.refl w).alloc (.cells #[.int .u64 k, .int .u64 v, .bool g] 52))
  clear hb
  go_enter Tryz.func90, Tryz.ntmps90
  go_wp2_with fail
  go_ret
  exact ⟨rfl, HF.out⟩
theorem kbad_calls (k v : Int) (g : Bool) (w : World) : Calls Tryz.prog 88 #[.agg #[.int .u64 k, .int .u64 v, .bool g]] w fun e w' => e = .returned (.bool (badE ⟨k, v, g⟩)) ∧ Fr w w' := by
  have hb := heap_alloc_new w (.cells #[.int .u64 k, .int .u64 v, .bool g] 52)
  obtain ⟨x0, x1, x2⟩ := cells3 hb
  have HF := Lib.hid ((Fr.refl w).alloc (.cells #[.int .u64 k, .int .u64 v, .bool g] 52))
  clear hb
  cases g
  · go_enter Tryz.func88, Tryz.ntmps88
    go_wp2_with fail
    go_ret
    exact ⟨rfl, HF.out⟩
  · by_cases hv : v = 0
    · have e1 : (v != 0) = false := by simp [hv]
      have hp : Hid (badE ⟨k, v, true⟩ = false) := by rw [Hid]; simp [badE, hv]
      clear hv
      go_enter Tryz.func88, Tryz.ntmps88
      go_wp2_with fail
      go_ret
      exact ⟨by rw [hp.out]; rfl, HF.out⟩
    · have e1 : (v != 0) = true := by simp [hv]
      have hp : Hid (badE ⟨k, v, true⟩ = true) := by rw [Hid]; simp [badE, hv]
      clear hv
      go_enter Tryz.func88, Tryz.ntmps88
      go_wp2_with fail
      go_ret
      exact ⟨by rw [hp.out]; rfl, HF.out⟩

set_option maxHeartbeats 2000000 in
theorem kidx_calls (S : List Ent) (A : Option Addr) (n c : Nat) (hn : n = S.length) (hl : n ≤ 4294967296) (w : World) (hr : RdC w A (S.flatMap encells)) :
    Calls Tryz.prog 87 #[.slice A n c, .func (.func 88) #[] #[]] w fun r w' => (((∀ e ∈ S, badE e = false) ∧ r = .returned (.int .i64 (-1))) ∨ ∃ (b : Nat) (h : b < S.length), badE S[b] = true ∧ (∀ i (hi : i < S.length), i < b → badE S[i] = false) ∧ r = .returned (.int .i64 (b : Nat))) ∧ Fr w w' := by
  have HR := Lib.hid hr
  have HN := Lib.hid hn
  clear hr hn
  go_enter Tryz.func87, Tryz.ntmps87
  go_wp2_with fail
  go_loopw [8] (fun v wr => ∃ i : Nat, v = .int .i64 i ∧ i ≤ n ∧ Hid (∀ k (hk : k < S.length), k < i → badE S[k] = false) ∧ Hid (Fr w wr)) (fun v _ => n - (intOf v).toNat)
  case atStart => exact ⟨0, rfl, by omega, fun k hk h => by omega, Fr.refl _⟩
  case round =>
    obtain ⟨i, rfl, hin, hb, hf⟩ := hrel
    rcases Nat.lt_or_ge i n with hlt | hge
    · have g1 : decide (i < n) = true := decide_eq_true hlt
      have g0 : (i : Int) < (n : Int) := by omega
      have hiS : i < S.length := by have := HN.out; omega
      obtain ⟨b, off, hA, hc⟩ := rdc_ent (HR.out.fr hf.out) (by omega)
      subst hA
      obtain ⟨x0, x1, x2⟩ := hc i hiS
      obtain ⟨s, hs⟩ : ∃ s, S[i] = s := ⟨_, rfl⟩
      rw [hs] at x0 x1 x2
      have HS := Lib.hid hs
      have wi : IntKind.i64.wrap ((i : Int) + 1) = (i : Int) + 1 := wrap_i64_in _ (by omega) (by omega)
      clear hc hs
      go_wp2_with fail
      refine (kbad_calls _ _ _ _).mono ?_
      rintro e w2 ⟨rfl, hf2⟩
      have HF2 := Lib.hid hf2
      clear hf2
      cases hbd : badE s
      · have HBD := Lib.hid hbd
        clear hbd
        go_wp2_with fail
        refine ⟨⟨i + 1, rfl, by omega, ?_, hf.out.trans HF2.out⟩, by simp only [intOf]; omega⟩
        intro k hk hki
        rcases Nat.lt_or_ge k i with h | h
        · exact hb.out k hk h
        · obtain rfl : k = i := by omega
          rw [HS.out]; exact HBD.out
      · have HBD := Lib.hid hbd
        clear hbd
        go_wp2_with fail
        go_ret
        exact ⟨.inr ⟨i, hiS, by rw [HS.out]; exact HBD.out, hb.out, rfl⟩, hf.out.trans HF2.out⟩
    · obtain rfl : i = n := by omega
      have g1 : decide (i < i) = false := by simp
      have hall : Hid (∀ e ∈ S, badE e = false) := by
        intro e he
        obtain ⟨k, hk, rfl⟩ := List.mem_iff_getElem.1 he
        exact hb.out k hk (by have := HN.out; omega)
      go_wp2_with fail
      go_ret
      exact ⟨.inl ⟨hall.out, rfl⟩, hf.out⟩
theorem keysE_ky {S : List Ent} {i : Nat} (h : i < S.length) : ky (keysE S) i = S[i].key := by
  unfold keysE ky
  simp [h]
theorem keysE_len (S : List Ent) : (keysE S).length = S.length := by unfold keysE; simp

set_option maxHeartbeats 4000000 in
theorem rises_e (S : List Ent) (A : Option Addr) (n c : Nat) (hn : n = S.length) (hl : n ≤ 4294967296) (w : World) (hr : RdC w A (S.flatMap encells)) :
    Calls Tryz.prog 89 #[.slice A n c, .func (.func 90) #[] #[]] w fun e w' => e = .returned (.bool (decide (Rise (keysE S)))) ∧ Fr w w' := by
  have HR := Lib.hid hr
  have HN := Lib.hid hn
  clear hr hn
  go_enter Tryz.func89, Tryz.ntmps89
  go_wp2_with fail
  go_loopw [8] (fun v wr => ∃ i : Nat, v = .int .i64 i ∧ i ≤ n ∧ Hid (stepUp (keysE S) i) ∧ Hid (Fr w wr)) (fun v _ => n - (intOf v).toNat)
  case atStart => exact ⟨0, rfl, by omega, fun j h0 hj => by omega, Fr.refl _⟩
  case round =>
    obtain ⟨i, rfl, hin, hs, hf⟩ := hrel
    rcases Nat.lt_or_ge i n with hlt | hge
    · have d1 : decide (i < n) = true := decide_eq_true hlt
      have d0 : (i : Int) < (n : Int) := by omega
      have hw1 : IntKind.i64.wrap ((i : Int) + 1) = (i : Int) + 1 := wrap_i64_in _ (by omega) (by omega)
      have hiS : i < S.length := by have := HN.out; omega
      obtain ⟨b, off, hA, hc⟩ := rdc_ent (HR.out.fr hf.out) (by omega)
      subst hA
      by_cases h0 : i = 0
      · subst h0
        go_wp2_with fail
        go_quiet (fail)
        go_wp2_with fail
        exact ⟨⟨1, rfl, by omega, fun j h0 hj => by omega, hf.out.drewN _⟩, by simp only [intOf]; omega⟩
      · have d2 : decide ((i : Int) > 0) = true := decide_eq_true (by omega)
        have d3 : (0 : Int) < (i : Int) := by omega
        obtain ⟨m, rfl⟩ : ∃ m, i = m + 1 := ⟨i - 1, by omega⟩
        have hw2 : IntKind.i64.wrap (((m + 1 : Nat) : Int) - 1) = (m : Int) := by rw [wrap_i64_in _ (by omega) (by omega)]; omega
        have z1 : (m : Int) < (n : Int) := by omega
        have z2 : (m : Int) + 1 < (n : Int) := by omega
        have hw3 : IntKind.i64.wrap ((m : Int) + 1 - 1) = (m : Int) := by rw [wrap_i64_in _ (by omega) (by omega)]; omega
        have hw4 : IntKind.i64.wrap (m : Int) = (m : Int) := wrap_i64_in _ (by omega) (by omega)
        have z3 : (0 : Int) ≤ (m : Int) := by omega
        have z4 : (0 : Int) ≤ (m : Int) + 1 := by omega
        have z5 : (m : Int) ≤ (n : Int) := by omega
        obtain ⟨a0, a1, a2⟩ := hc (m + 1) hiS
        obtain ⟨e0, e1, e2⟩ := hc m (by omega)
        obtain ⟨p, hp⟩ : ∃ p, S[m + 1] = p := ⟨_, rfl⟩
        obtain ⟨q, hq⟩ : ∃ q, S[m]'(by omega) = q := ⟨_, rfl⟩
        rw [hp] at a0 a1 a2
        rw [hq] at e0 e1 e2
        have HX : Hid (ky (keysE S) (m + 1) = p.key) := by rw [Hid, keysE_ky hiS, hp]
        have HY : Hid (ky (keysE S) m = q.key) := by rw [Hid, keysE_ky (by omega), hq]
        obtain ⟨x, hx⟩ : ∃ x, p.key = x := ⟨_, rfl⟩
        obtain ⟨y, hy⟩ : ∃ y, q.key = y := ⟨_, rfl⟩
        rw [hx] at HX a0
        rw [hy] at HY e0
        have HCC : Hid (∀ w', Fr wr w' → (w'.cell? ⟨b, off + (m + 1) * 3, none⟩ = some (.int .u64 x) ∧ w'.cell? ⟨b, off + (m + 1) * 3 + 1, none⟩ = some (.int .u64 p.val) ∧ w'.cell? ⟨b, off + (m + 1) * 3 + 2, none⟩ = some (.bool p.gone)) ∧ (w'.cell? ⟨b, off + m * 3, none⟩ = some (.int .u64 y) ∧ w'.cell? ⟨b, off + m * 3 + 1, none⟩ = some (.int .u64 q.val) ∧ w'.cell? ⟨b, off + m * 3 + 2, none⟩ = some (.bool q.gone))) :=
          fun w' h => ⟨⟨h.cell a0, h.cell a1, h.cell a2⟩, h.cell e0, h.cell e1, h.cell e2⟩
        clear hc hp hq hx hy
        by_cases hxy : x ≤ y
        · have d4 : decide (x ≤ y) = true := decide_eq_true hxy
          have hfin : Hid (decide (Rise (keysE S)) = false) := decide_eq_false (fun h => by
            have := rise_lt h (show m < m + 1 by omega) (by rw [keysE_len]; exact hiS)
            rw [HX.out, HY.out] at this; omega)
          go_wp2_with fail
          go_region_held3 (fun w' => (w'.cell? ⟨b, off + (m + 1) * 3, none⟩ = some (.int .u64 x) ∧ w'.cell? ⟨b, off + (m + 1) * 3 + 1, none⟩ = some (.int .u64 p.val) ∧ w'.cell? ⟨b, off + (m + 1) * 3 + 2, none⟩ = some (.bool p.gone)) ∧ (w'.cell? ⟨b, off + m * 3, none⟩ = some (.int .u64 y) ∧ w'.cell? ⟨b, off + m * 3 + 1, none⟩ = some (.int .u64 q.val) ∧ w'.cell? ⟨b, off + m * 3 + 2, none⟩ = some (.bool q.gone)))
            (first | exact HCC.out _ hfb.out | exact HCC.out _ hfa.out | exact HCC.out _ (Fr.refl _) | exact HCC.out _ (Fr.refl _).drew)
            (first | (go_at_call 90; refine (keyOf_calls _ _ _ _).mono ?_; rintro e wq ⟨rfl, hqq⟩; first | (have hfb : Hid (Fr wr wq) := hfa.out.trans hqq) | (have hfa : Hid (Fr wr wq) := (Fr.refl wr).drew.trans hqq)))
          go_wp2_with fail
          go_ret
          exact ⟨by rw [hfin.out]; rfl, hf.out.trans hfb.out⟩
        · have d4 : decide (x ≤ y) = false := decide_eq_false hxy
          have hup : Hid (stepUp (keysE S) (m + 1 + 1)) := by
            intro j h0 hj
            rcases Nat.lt_or_ge j (m + 1) with h1 | h1
            · exact hs.out j h0 h1
            · obtain rfl : j = m + 1 := by omega
              rw [HX.out, Nat.add_sub_cancel, HY.out]; omega
          go_wp2_with fail
          go_region_held3 (fun w' => (w'.cell? ⟨b, off + (m + 1) * 3, none⟩ = some (.int .u64 x) ∧ w'.cell? ⟨b, off + (m + 1) * 3 + 1, none⟩ = some (.int .u64 p.val) ∧ w'.cell? ⟨b, off + (m + 1) * 3 + 2, none⟩ = some (.bool p.gone)) ∧ (w'.cell? ⟨b, off + m * 3, none⟩ = some (.int .u64 y) ∧ w'.cell? ⟨b, off + m * 3 + 1, none⟩ = some (.int .u64 q.val) ∧ w'.cell? ⟨b, off + m * 3 + 2, none⟩ = some (.bool q.gone)))
            (first | exact HCC.out _ hfb.out | exact HCC.out _ hfa.out | exact HCC.out _ (Fr.refl _) | exact HCC.out _ (Fr.refl _).drew)
            (first | (go_at_call 90; refine (keyOf_calls _ _ _ _).mono ?_; rintro e wq ⟨rfl, hqq⟩; first | (have hfb : Hid (Fr wr wq) := hfa.out.trans hqq) | (have hfa : Hid (Fr wr wq) := (Fr.refl wr).drew.trans hqq)))
          go_wp2_with fail
          exact ⟨⟨m + 1 + 1, rfl, by omega, hup, hf.out.trans hfb.out⟩, by simp only [intOf]; omega⟩
    · obtain rfl : i = n := by omega
      have hfin : Hid (decide (Rise (keysE S)) = true) := decide_eq_true ((rise_iff _).2 (by rw [keysE_len, ← HN.out]; exact hs.out))
      have d1 : decide (i < i) = false := by simp
      go_wp2_with fail
      go_ret
      exact ⟨by rw [hfin.out]; rfl, hf.out⟩
end Go.Proofs.YthjimnmgbcckjaaGreat
namespace Go.Proofs.YthjimnmgbcckjaaGreat
set_option maxRecDepth 100000
open Go.RowKit Go.Inc Go.Run

theorem info_sz_ent : (Tryz.prog.info? 52).map (·.size) = some 3 := by kernel_rfl
set_option maxHeartbeats 4000000 in
theorem kcheck_calls (S : List Ent) (A : Option Addr) (n c : Nat) (hn : n = S.length) (hc : n ≤ c) (hl : n ≤ 4294967296) (w : World) (hr : RdC w A (S.flatMap encells)) :
    Calls Tryz.prog 61 #[.slice A n c] w fun e w' => ∃ v, e = .returned (.int .i64 v) ∧ EntsV S v ∧ Fr w w' := by
  have HI := Lib.hid (kidx_calls S A n c hn hl w hr)
  have HR := Lib.hid hr
  have HN := Lib.hid hn
  clear hr hn
  go_enter Tryz.func61, Tryz.ntmps61
  go_wp2_with fail
  refine HI.out.mono ?_
  rintro r w2 ⟨hor, hf2⟩
  have HF2 := Lib.hid hf2
  clear hf2
  rcases hor with ⟨hall, rfl⟩ | ⟨b, hb, hbad, hbef, rfl⟩
  · obtain ⟨A', hA', _, hA'r⟩ := run_cut_h (P := Tryz.prog) 22 52 3 Tryz.underlying22 info_sz_ent A n c n (n : Int) rfl hc .i64
    have HRR := Lib.hid (rises_e S A' n c HN.out hl w2 (hA'r w2 _ (HR.out.fr HF2.out)))
    have HALL := Lib.hid hall
    clear hall hA'r
    by_cases hR : Rise (keysE S)
    · have dR : decide (Rise (keysE S)) = true := decide_eq_true hR
      rw [dR] at HRR
      have hv : Hid (EntsV S 0) := .ok hR HALL.out
      clear hR dR
      go_wp2_with fail
      refine HRR.out.mono ?_
      rintro r w3 ⟨rfl, hf3⟩
      go_wp2_with fail
      go_ret
      exact ⟨0, rfl, hv.out, HF2.out.trans hf3⟩
    · have dR : decide (Rise (keysE S)) = false := decide_eq_false hR
      rw [dR] at HRR
      have hv : Hid (EntsV S 30) := .order hR HALL.out
      clear hR dR
      go_wp2_with fail
      refine HRR.out.mono ?_
      rintro r w3 ⟨rfl, hf3⟩
      go_wp2_with fail
      go_ret
      exact ⟨30, rfl, hv.out, HF2.out.trans hf3⟩
  · have hbn : b < n := by have := HN.out; omega
    obtain ⟨A', hA', _, hA'r⟩ := run_cut_h (P := Tryz.prog) 22 52 3 Tryz.underlying22 info_sz_ent A n c (b + 1) ((b : Int) + 1) (by omega) (by omega) .i64
    have hrt : RdC w2 A' ((S.take (b + 1)).flatMap encells) := by
      have h1 := (hA'r w2 _ (HR.out.fr HF2.out)).take ((b + 1) * 3)
      have h2 : (S.flatMap encells).take ((b + 1) * 3) = (S.take (b + 1)).flatMap encells := by
        have h3 : ((S.take (b + 1)).flatMap encells).length = (b + 1) * 3 := by rw [flat_len encells 3 encells_len, List.length_take]; congr 1; omega
        conv => lhs; rw [← List.take_append_drop (b + 1) S, List.flatMap_append, ← h3, List.take_left']
      rw [h2] at h1
      exact h1
    have HRR := Lib.hid (rises_e (S.take (b + 1)) A' (b + 1) c (by rw [List.length_take]; omega) (by omega) w2 hrt)
    have HB := Lib.hid (And.intro hbad hbef)
    have w1 : IntKind.i64.wrap ((b : Int) + 1) = (b : Int) + 1 := wrap_i64_in _ (by omega) (by omega)
    have g1 : decide ((b : Int) ≥ 0) = true := decide_eq_true (by omega)
    have g2 : (0 : Int) ≤ (b : Int) := by omega
    clear hbad hbef hrt hA'r
    by_cases hR : Rise (keysE (S.take (b + 1)))
    · have dR : decide (Rise (keysE (S.take (b + 1)))) = true := decide_eq_true hR
      rw [dR] at HRR
      have hv : Hid (EntsV S 31) := .gone b hb HB.out.1 HB.out.2 hR
      clear hR dR
      go_wp2_with fail
      refine HRR.out.mono ?_
      rintro r w3 ⟨rfl, hf3⟩
      go_wp2_with fail
      go_ret
      exact ⟨31, rfl, hv.out, HF2.out.trans hf3⟩
    · have dR : decide (Rise (keysE (S.take (b + 1)))) = false := decide_eq_false hR
      rw [dR] at HRR
      have hv : Hid (EntsV S 30) := .goneOrder b hb HB.out.1 HB.out.2 hR
      clear hR dR
      go_wp2_with fail
      refine HRR.out.mono ?_
      rintro r w3 ⟨rfl, hf3⟩
      go_wp2_with fail
      go_ret
      exact ⟨30, rfl, hv.out, HF2.out.trans hf3⟩

set_option maxHeartbeats 2000000 in
theorem kof_calls (S : List Ent) (A : Option Addr) (n c : Nat) (hn : n = S.length) (hl : S.length ≤ 4294967296) (w : World) (hr : RdC w A (S.flatMap encells)) :
    Calls Tryz.prog 63 #[.slice A n c] w fun e w' => ∃ g, e = .returned (.slice (some ⟨g, 0, none⟩) n n) ∧ Blk w' g ((keysE S).map uv) 50 ∧ w.heap.size ≤ g ∧ Fr w w' := by
  have hmk := fun W => run_mk1 (P := Tryz.prog) 57 50 (.int .u64 0) 8 Tryz.underlying57 info_u64r rfl W (n : Int) n rfl (by omega) (by omega)
  have HR := Lib.hid hr
  have HN := Lib.hid hn
  have hln : n ≤ 4294967296 := by omega
  clear hr hn hl
  go_enter Tryz.func63, Tryz.ntmps63
  go_wp2_with fail
  obtain ⟨g, hg⟩ : ∃ g, g = w.heap.size := ⟨_, rfl⟩
  obtain ⟨w1, hw1⟩ : ∃ w1, w1 = w.alloc (.cells (arr (List.replicate n (.int .u64 0))) 50) := ⟨_, rfl⟩
  have hb1 : Hid (Blk w1 g (List.replicate n (.int .u64 0)) 50) := by rw [hw1, hg]; exact Blk.new w _ _
  have hf1 : Hid (Fr w w1) := by rw [hw1]; exact (Fr.refl w).alloc _
  rw [← hw1, ← hg]
  have HG : Hid (w.heap.size = g) := hg.symm
  clear hw1 hg hmk
  go_loopw [11] (fun v wr => ∃ i : Nat, v = .int .i64 i ∧ i ≤ n ∧ Hid (Blk wr g (((keysE S).take i).map uv ++ List.replicate (n - i) (.int .u64 0)) 50) ∧ Hid (Mv (one1 g) w1 wr)) (fun v _ => n - (intOf v).toNat)
  case atStart => exact ⟨0, rfl, by omega, by rw [Hid]; simpa using hb1.out, Mv.refl _ _⟩
  case round =>
    obtain ⟨i, rfl, hin, hb, hmv⟩ := hrel
    rcases Nat.lt_or_ge i n with hlt | hge
    · have g1 : decide (i < n) = true := decide_eq_true hlt
      have g0 : (i : Int) < (n : Int) := by omega
      have hfr : Hid (Fr w wr) := (hf1.out).mv hmv.out (fun k hk => by rw [show k = g from hk, HG.out]; exact Nat.le_refl _)
      obtain ⟨b, off, hA, hc⟩ := rdc_ent (HR.out.fr hfr.out) (by have := HN.out; omega)
      subst hA
      have hiS : i < S.length := by have := HN.out; omega
      obtain ⟨x0, x1, x2⟩ := hc i hiS
      obtain ⟨s, hs⟩ : ∃ s, S[i] = s := ⟨_, rfl⟩
      rw [hs] at x0 x1 x2
      have HS := Lib.hid hs
      have hlen : (((keysE S).take i).map uv).length = i := by
        rw [List.length_map, List.length_take, keysE_len]; omega
      have f0c := hb.out.cell i (.int .u64 0) (by
        rw [List.getElem?_append_right (by omega), hlen, Nat.sub_self]
        obtain ⟨k, hk⟩ : ∃ k, n - i = k + 1 := ⟨n - i - 1, by omega⟩
        rw [hk]; rfl)
      have wi : IntKind.i64.wrap ((i : Int) + 1) = (i : Int) + 1 := wrap_i64_in _ (by omega) (by omega)
      have hba := heap_alloc_new wr (.cells #[.int .u64 s.key, .int .u64 s.val, .bool s.gone] 52)
      obtain ⟨y0, y1, y2⟩ := cells3 hba
      have a0 : (wr.alloc (.cells #[.int .u64 s.key, .int .u64 s.val, .bool s.gone] 52)).cell? ⟨g, i, none⟩ = some (.int .u64 0) := ((Fr.refl wr).alloc _).cell f0c
      have a1 : (wr.alloc (.cells #[.int .u64 s.key, .int .u64 s.val, .bool s.gone] 52)).frozen? ⟨g, i, none⟩ = false := (hb.out.alloc _).frozen i
      have HLEN := Lib.hid hlen
      have hgw := hb.out.lt
      clear hc hs hlen f0c hba
      go_wp2_with fail
      refine ⟨⟨i + 1, rfl, by omega, ?_, (hmv.out.set (p := ⟨g, i, none⟩) (.inl rfl) _).alloc _⟩, by simp only [intOf]; omega⟩
      have h1 := (hb.out.set i (.int .u64 s.key)).alloc (.cells #[.int .u64 s.key, .int .u64 s.val, .bool s.gone] 52)
      obtain ⟨k, hk⟩ : ∃ k, n - i = k + 1 := ⟨n - i - 1, by omega⟩
      rw [hk, set_rep _ k _ _ i HLEN.out] at h1
      have e1 : n - (i + 1) = k := by omega
      have e2 : ((keysE S).take (i + 1)).map uv = ((keysE S).take i).map uv ++ [.int .u64 s.key] := by
        rw [List.take_add_one]
        unfold keysE
        simp [hiS, HS.out, uv]
      rw [Hid, e1, e2]
      exact h1
    · obtain rfl : i = n := by omega
      have g1 : decide (i < i) = false := by simp
      go_wp2_with fail
      go_ret
      refine ⟨g, rfl, ?_, by rw [HG.out]; exact Nat.le_refl _, (hf1.out).mv hmv.out (fun k hk => by rw [show k = g from hk, HG.out]; exact Nat.le_refl _)⟩
      have h1 := hb.out
      rw [Nat.sub_self, List.replicate_zero, List.append_nil, List.take_of_length_le (by rw [keysE_len]; have := HN.out; omega)] at h1
      exact h1
end Go.Proofs.YthjimnmgbcckjaaGreat
namespace Go.Proofs.YthjimnmgbcckjaaGreat
set_option maxRecDepth 100000
open Go.RowKit Go.Inc Go.Run

/-- Slices of segments of the call's own. -/
def RowsO (w : World) (base : Nat) : List Value → List (List Seg) → Prop
  | [], [] => True
  | v :: vs, S :: Ss => (∃ A c, v = .slice A S.length c ∧ Own w base 65 5 A S.length c (S.flatMap sgcells)) ∧ RowsO w base vs Ss
  | _, _ => False
theorem RowsO.mv {T : Nat → Prop} {w w' : World} {base : Nat} : ∀ {vs : List Value} {Ss : List (List Seg)}, RowsO w base vs Ss → Mv T w w' → (∀ k, T k → base ≤ k → ∀ cs fr, w.heap[k]? ≠ some (.cells cs 65 fr)) → RowsO w' base vs Ss
  | [], [], _, _, _ => trivial
  | v :: vs, S :: Ss, h, hm, hT => by
    obtain ⟨⟨A, c, h1, h2⟩, h4⟩ := h
    refine ⟨⟨A, c, h1, h2.mv hm (fun k hk ht => ?_)⟩, RowsO.mv h4 hm hT⟩
    obtain ⟨cs, h5⟩ := own_ty h2 hk
    exact hT k ht (h2.lt k hk).1 cs _ h5
  | [], _ :: _, h, _, _ => h.elim
  | _ :: _, [], h, _, _ => h.elim
theorem RowsO.fr {w w' : World} {base : Nat} {vs : List Value} {Ss : List (List Seg)} (h : RowsO w base vs Ss) (hf : Fr w w') : RowsO w' base vs Ss := h.mv (T := none0) (Mv.of_fr hf) (fun _k h => h.elim)
theorem RowsO.snoc {w : World} {base : Nat} : ∀ {vs : List Value} {Ss : List (List Seg)} {A : Option Addr} {c : Nat} {S : List Seg}, RowsO w base vs Ss → Own w base 65 5 A S.length c (S.flatMap sgcells) → RowsO w base (vs ++ [.slice A S.length c]) (Ss ++ [S])
  | [], [], A, c, _S, _, h1 => ⟨⟨A, c, rfl, h1⟩, trivial⟩
  | _v :: _vs, _T :: _Ss, _A, _c, _S, h, h1 => ⟨h.1, RowsO.snoc h.2 h1⟩
  | [], _ :: _, _, _, _, h, _ => h.elim
  | _ :: _, [], _, _, _, h, _ => h.elim
theorem own_le {w : World} {base : Nat} {e : TypeId} {size : Nat} {A : Option Addr} {n c : Nat} {xs : List Value} (h : Own w base e size A n c xs) : n ≤ c := by
  rcases h.2 with ⟨h1, h2⟩ | ⟨_, _, _, h1, _, _, h2, _⟩
  · omega
  · injection h1 with _ _ h1; omega
theorem RowsO.toR {w : World} {base : Nat} : ∀ {vs : List Value} {Ss : List (List Seg)}, RowsO w base vs Ss → RowsR w vs Ss
  | [], [], _ => trivial
  | v :: vs, S :: Ss, h => by
    obtain ⟨⟨A, c, h1, h2⟩, h4⟩ := h
    exact ⟨⟨A, c, h1, own_le h2, h2.rd⟩, RowsO.toR h4⟩
  | [], _ :: _, h => h.elim
  | _ :: _, [], h => h.elim
theorem own_not_blk0 {w : World} {base : Nat} {e : TypeId} {size : Nat} {A : Option Addr} {n c : Nat} {xs : List Value} (h : Own w base e size A n c xs) {t : TypeId} (he : e ≠ t) : ∀ k, ablk A = some k → ∀ {cs fr}, w.heap[k]? = some (.cells cs t fr) → False := by
  intro k hk cs fr hb
  obtain ⟨cs', h1⟩ := own_ty h hk
  rw [hb] at h1
  injection h1 with h1
  injection h1 with _ h2 _
  exact he h2.symm
/-- A pile in memory: its blocks are from base on. -/
def IsPile (w : World) (p base : Nat) (eps : Int) (K : List Int) (Ss : List (List Seg)) : Prop :=
  ∃ (Ak : Option Addr) (ck : Nat) (Al : Option Addr) (cl : Nat) (vs : List Value), base ≤ p ∧ w.heap[p]? = some (.cells #[.int .i64 eps, .slice Ak K.length ck, .slice Al Ss.length cl] 99 (0, 0)) ∧
    Own w base 50 1 Ak K.length ck (K.map uv) ∧ Own w base 62 1 Al Ss.length cl vs ∧ RowsO w base vs Ss
theorem seg_one (S : List Seg) : ∀ u ∈ S.flatMap sgcells, u.oneCell' = true := by
  intro u hu
  obtain ⟨s, _, hu⟩ := List.mem_flatMap.1 hu
  simp only [sgcells, List.mem_cons, List.not_mem_nil, or_false] at hu
  rcases hu with rfl | rfl | rfl | rfl | rfl <;> rfl
theorem uv_one (L : List Int) : ∀ u ∈ L.map uv, u.oneCell' = true := by
  intro u hu
  obtain ⟨x, _, rfl⟩ := List.mem_map.1 hu
  rfl

set_option maxHeartbeats 4000000 in
theorem pof_calls (L : List Int) (A : Option Addr) (n c : Nat) (eps : Int) (Av : Option Addr) (N cv : Nat) (vs : List Value) (Ss : List (List Seg)) (hn : n = L.length) (hc : n ≤ c) (hl : L.length ≤ 268435456) (hK : KeysOk L) (hN : N = Ss.length) (hNl : N ≤ 268435456)
    (hS : ∀ S ∈ Ss, S.length ≤ 268435456 ∧ ∀ s ∈ S, SegFit s) (heps : -9223372036854775808 ≤ eps ∧ eps ≤ 9223372036854775807) (w : World) (hr : RdC w A (L.map uv)) (hrv : RdC w Av vs) (hrows : RowsR w vs Ss) :
    Calls Tryz.prog 65 #[.slice A n c, .int .i64 eps, .slice Av N cv] w fun e w' => Fr w w' ∧ ((checkV eps L Ss ≠ 0 ∧ e = .returned (.tuple #[.pointer none, .int .i64 (checkV eps L Ss)])) ∨ (checkV eps L Ss = 0 ∧ ∃ p, e = .returned (.tuple #[.pointer (some ⟨p, 0, none⟩), .int .i64 0]) ∧ IsPile w' p w.heap.size eps L Ss)) := by
  have CK := Lib.hid (check_calls L A n c eps Av N cv vs Ss hn hc (by omega) hK hN (by omega) (fun S hS' => ⟨by have := (hS S hS').1; omega, (hS S hS').2⟩) heps w hr hrv hrows)
  obtain ⟨V, hV⟩ : ∃ V, checkV eps L Ss = V := ⟨_, rfl⟩
  rw [hV] at CK ⊢
  have HR := Lib.hid hr
  have HN := Lib.hid hn
  have HNV := Lib.hid hN
  have HS := Lib.hid hS
  have HRV := Lib.hid hrv
  have HROWS := Lib.hid hrows
  have hln : n ≤ 268435456 := by omega
  clear hr hn hK hN hS hrv hrows hc hl heps hV
  by_cases hv : V = 0
  · subst hv
    go_enter Tryz.func65, Tryz.ntmps65
    go_wp2_with fail
    refine CK.out.mono ?_
    rintro r w2 ⟨rfl, hf2⟩
    have HF2 := Lib.hid hf2
    clear hf2
    go_wp2_with (at_builtin; refine gate ?_)
    have HBW : Hid (w.heap.size ≤ w2.heap.size) := HF2.out.size
    refine gate_app rfl _ _ 57 rfl 50 (.int .u64 0) 1 8 Tryz.underlying57 info_u64r rfl (by omega) (by omega) w.heap.size (some ⟨w2.heap.size, 0, none⟩) 0 0 [] A n c (L.map uv) (by rfl) (by rfl)
      (Own.of_blk (Blk.new w2 [] _) HBW.out rfl (by omega)) (by rw [List.length_map, Nat.mul_one]; exact HN.out.symm) (HR.out.fr (HF2.out.alloc _)) (uv_one L) (by omega) (by have := HBW.out; simp; omega) ?_
    intro A3 c3 w3 hown3 hgr hat
    have HM3 : Hid (Mv (fun k => k = w2.heap.size) w2 w3) := ((Mv.of_fr ((Fr.refl w2).alloc _)).grown hgr.out (fun k hk => .inl (by simp [ablk] at hk; exact hk.symm)))
    have HF3 : Hid (Fr w w3) := HF2.out.mv HM3.out (fun k hk => by rw [show k = w2.heap.size from hk]; exact HBW.out)
    have HOWN3 : Hid (Own w3 w.heap.size 50 1 A3 n c3 (L.map uv)) := by
      have := hown3.out; rw [Nat.zero_add, List.nil_append] at this; exact this
    rw [Nat.zero_add]
    clear hown3 hgr hat
    go_wp2_with fail
    obtain ⟨p, hp⟩ : ∃ p, p = w3.heap.size := ⟨_, rfl⟩
    obtain ⟨w4, hw4⟩ : ∃ w4, w4 = w3.alloc (.cells #[.int .i64 eps, .slice A3 n c3, .slice none 0 0] 99) := ⟨_, rfl⟩
    have HB4 : Hid (w4.heap[p]? = some (.cells #[.int .i64 eps, .slice A3 n c3, .slice none 0 0] 99 (0, 0))) := by rw [hw4, hp]; exact heap_alloc_new w3 _
    have HF4 : Hid (Fr w3 w4) := by rw [hw4]; exact (Fr.refl w3).alloc _
    have HP : Hid (w.heap.size ≤ p ∧ p < w4.heap.size) := ⟨by rw [hp]; exact HF3.out.size, blk_lt HB4.out⟩
    have HPA : Hid (∀ k, ablk A3 = some k → k ≠ p) := fun k hk => by have := (HOWN3.out.lt k hk).2; omega
    rw [← hw4, ← hp]
    clear hw4 hp
    go_loopw [27] (fun v wr => ∃ (i : Nat) (Al : Option Addr) (cl : Nat) (us : List Value), v = .int .i64 i ∧ i ≤ N ∧ Hid (wr.heap[p]? = some (.cells #[.int .i64 eps, .slice A3 n c3, .slice Al i cl] 99 (0, 0))) ∧ Hid (Own wr w.heap.size 50 1 A3 n c3 (L.map uv)) ∧ Hid (Own wr w.heap.size 62 1 Al i cl us) ∧ Hid (RowsO wr w.heap.size us (Ss.take i)) ∧ Hid (Fr w wr)) (fun v _ => N - (intOf v).toNat)
    case atStart => exact ⟨0, none, 0, [], rfl, by omega, HB4.out, HOWN3.out.fr HF4.out, Own.nil _ _ _ _, trivial, HF3.out.trans HF4.out⟩
    case round =>
      obtain ⟨i, Al, cl, us, rfl, hin, hb, hok, hol, hrs, hf⟩ := hrel
      rcases Nat.lt_or_ge i N with hlt | hge
      · have d1 : decide (i < N) = true := decide_eq_true hlt
        have d0 : (i : Int) < (N : Int) := by omega
        have hiS : i < Ss.length := by have := HNV.out; omega
        obtain ⟨S, hS⟩ : ∃ S, Ss[i] = S := ⟨_, rfl⟩
        have hSi : Ss[i]? = some S := by rw [List.getElem?_eq_getElem hiS, hS]
        obtain ⟨As, cs, hvs, hcs, hrs0⟩ := HROWS.out.at hSi
        obtain ⟨bv, ov, hAv, hcv⟩ := (HRV.out.fr hf.out).at (by have := HROWS.out.len; omega)
        subst hAv
        have x0 := hcv i _ hvs
        have hSm := (HS.out S (by rw [← hS]; exact List.getElem_mem hiS)).1
        obtain ⟨M, hM⟩ : ∃ M, S.length = M := ⟨_, rfl⟩
        rw [hM] at x0 hcs hSm
        have HM := Lib.hid hM
        have HRS0 := Lib.hid hrs0
        have HSI := Lib.hid hSi
        have wi : IntKind.i64.wrap ((i : Int) + 1) = (i : Int) + 1 := wrap_i64_in _ (by omega) (by omega)
        obtain ⟨y0, y1, y2⟩ := cells3 hb.out
        have HBWR : Hid (w.heap.size ≤ wr.heap.size) := hf.out.size
        clear hcv hvs hS hSi hrs0 hM
        go_wp2_with fail
        have y2a := ((Fr.refl wr).alloc (.cells #[] 65)).cell y2
        have hpn : Hid (p < wr.heap.size) := blk_lt hb.out
        go_region_law (first
          | (refine step_app rfl (.tmp 36) (.tmp 37) 62 rfl 65 (.agg #[.int .u64 0, .float .f64 0, .float .f64 0, .int .i64 0, .int .i64 0]) 5 40 Tryz.underlying62 info_seg rfl (by omega) (by omega) w.heap.size (some ⟨wr.heap.size, 0, none⟩) 0 0 [] As M cs (S.flatMap sgcells) ?_ ?_
              (Own.of_blk (Blk.new wr.drew [] _) HBWR.out rfl (by omega)) (by rw [flat_len sgcells 5 sgcells_len, HM.out]) (HRS0.out.fr (hf.out.drew.alloc _)) (seg_one S) (by omega) (by have := HBWR.out; simp; omega) ?_
             exact rfl
             exact rfl
             intro A6 c6 w6 hown6 hgr6 hat6
             have hm6 : Hid (Mv (fun k => k = wr.heap.size) wr w6) := (((Mv.of_fr ((Fr.refl wr).drew)).alloc _).grown hgr6.out (fun j hj => .inl (by simp [ablk] at hj; exact hj.symm)))
             have hb6 : Hid (w6.heap[p]? = some (.cells #[.int .i64 eps, .slice A3 n c3, .slice Al i cl] 99 (0, 0))) := hm6.out.blk hb.out (fun h => by have := hpn.out; omega)
             obtain ⟨q0, q1, q2⟩ := cells3 hb6.out
             have q2a := ((Fr.refl w6).alloc (.cells #[.slice A6 M c6] 62)).cell q2
             rw [Nat.zero_add])
          | (refine step_app rfl (.tmp 35) (.tmp 39) 39 rfl 62 (.slice none 0 0) 1 24 Tryz.underlying39 info_row rfl (by omega) (by omega) w.heap.size Al i cl us (some ⟨w6.heap.size, 0, none⟩) 1 1 [.slice A6 M c6] ?_ ?_
              (((hol.out.mv hm6.out (fun k hk h => by have := (hol.out.lt k hk).2; omega))).fr ((Fr.refl w6).alloc _)) rfl (RdC.blk (Blk.new w6 _ _)) (by intro u hu; simp at hu; subst hu; rfl) (by omega) (by have := HBWR.out; have := hm6.out.size; simp; omega) ?_
             exact rfl
             exact rfl
             intro A8 c8 w8 hown8 hgr8 hat8
             have hm8 : Hid (Mv (fun k => ablk Al = some k) w6 w8) := ((Mv.of_fr ((Fr.refl w6).alloc _)).grown hgr8.out (fun j hj => .inl hj))
             have hb8 : Hid (w8.heap[p]? = some (.cells #[.int .i64 eps, .slice A3 n c3, .slice Al i cl] 99 (0, 0))) := hm8.out.blk hb6.out (fun h => own_not_blk0 (hol.out.mv hm6.out (fun k hk h => by have := (hol.out.lt k hk).2; omega)) (by decide) p h hb6.out)
             obtain ⟨r0, r1, r2⟩ := cells3 hb8.out
             have r3 := blk_frozen hb8.out 2))
        all_goals (go_wp2_with fail)
        all_goals
          have hol6 := hol.out.mv hm6.out (fun k hk h => by have := (hol.out.lt k hk).2; omega)
          have hok6 := hok.out.mv hm6.out (fun k hk h => by have := (hok.out.lt k hk).2; omega)
          have hrs6 := hrs.out.mv hm6.out (fun k h _ cs fr he => by have h9 := blk_lt he; rw [show k = wr.heap.size from h] at h9; omega)
          have how6 : Own w6 w.heap.size 65 5 A6 M c6 (S.flatMap sgcells) := by
            have h9 := hown6.out
            rw [Nat.zero_add, List.nil_append] at h9; exact h9
          have hok8 := hok6.mv hm8.out (fun k hk h => by
            obtain ⟨cs, h9⟩ := own_ty hok6 hk
            exact own_not_blk0 hol6 (by decide) k h h9)
          have hrs8 := hrs6.mv hm8.out (fun k h _ cs fr he => own_not_blk0 hol6 (by decide) k h he)
          have how8 := how6.mv hm8.out (fun k hk h => by
            obtain ⟨cs, h9⟩ := own_ty how6 hk
            exact own_not_blk0 hol6 (by decide) k h h9)
          have hms : Mv (one1 p) w8 (w8.setCell ⟨p, 2, none⟩ (.slice A8 (i + 1) c8)) := (Mv.refl (one1 p) w8).set (p := ⟨p, 2, none⟩) (.inl rfl) _
          have hrsn := (hrs8.snoc (S := S) (by rw [HM.out]; exact how8)).mv hms (fun k h _ cs fr he => by
            rw [show k = p from h, hb8.out] at he
            injection he with he; injection he with _ h9 _
            revert h9; decide)
          rw [HM.out] at hrsn
          refine ⟨⟨i + 1, A8, c8, us ++ [.slice A6 M c6], rfl, by omega, ?_, ?_, ?_, ?_, ?_⟩, by simp only [intOf]; omega⟩
          · exact blk_set hb8.out 2 _
          · exact hok8.mv hms (fun k hk h => own_not_blk0 hok8 (t := 99) (by decide) p (by rw [← show k = p from h]; exact hk) hb8.out)
          · exact hown8.out.mv hms (fun k hk h => own_not_blk0 hown8.out (t := 99) (by decide) p (by rw [← show k = p from h]; exact hk) hb8.out)
          · have e9 : Ss.take (i + 1) = Ss.take i ++ [S] := by rw [List.take_add_one, HSI.out]; rfl
            rw [Hid, e9]; exact hrsn
          · exact ((hf.out.mv hm6.out (fun k hk => by rw [show k = wr.heap.size from hk]; exact HBWR.out)).mv hm8.out (fun k hk => (hol6.lt k hk).1)).mv hms (fun k hk => by rw [show k = p from hk]; exact HP.out.1)
      · obtain rfl : i = N := by omega
        have d1 : decide (i < i) = false := by simp
        have ht : Hid (Ss.take i = Ss) := List.take_of_length_le (by have := HNV.out; omega)
        go_wp2_with fail
        go_ret2
        refine ⟨hf.out, .inr ⟨trivial, p, rfl, A3, c3, Al, cl, us, HP.out.1, ?_, ?_, ?_, ?_⟩⟩
        · rw [← HN.out, ← HNV.out]; exact hb.out
        · rw [← HN.out]; exact hok.out
        · rw [← HNV.out]; exact hol.out
        · have := hrs.out; rw [ht.out] at this; exact this
  · have g1 : (V != 0) = true := by simpa using hv
    go_enter Tryz.func65, Tryz.ntmps65
    go_wp2_with fail
    refine CK.out.mono ?_
    rintro r w2 ⟨rfl, hf2⟩
    go_wp2_with fail
    go_ret2
    exact ⟨hf2, .inl ⟨hv, rfl⟩⟩
end Go.Proofs.YthjimnmgbcckjaaGreat
namespace Go.Proofs.YthjimnmgbcckjaaGreat
set_option maxRecDepth 100000
open Go.RowKit Go.Inc Go.Run

theorem ent_one (S : List Ent) : ∀ u ∈ S.flatMap encells, u.oneCell' = true := by
  intro u hu
  obtain ⟨s, _, hu⟩ := List.mem_flatMap.1 hu
  simp only [encells, List.mem_cons, List.not_mem_nil, or_false] at hu
  rcases hu with rfl | rfl | rfl <;> rfl
theorem info_ent : (Tryz.prog.info? 52).map (fun i => (i.zero, i.size, i.bytes)) = some (some (.agg #[.int .u64 0, .int .u64 0, .bool false]), 3, 24) := by kernel_rfl

set_option maxHeartbeats 1000000 in
theorem clE_calls (S : List Ent) (A : Option Addr) (n c : Nat) (hn : n = S.length) (hl : n ≤ 268435456) (base : Nat) (w : World) (hb : base ≤ w.heap.size) (hr : RdC w A (S.flatMap encells)) :
    Calls Tryz.prog 46 #[.slice A n c] w fun e w' => ∃ A' c', e = .returned (.slice A' n c') ∧ Own w' base 52 3 A' n c' (S.flatMap encells) ∧ Fr w w' := by
  have qT : ∀ (w : World) (a : Option Addr) (n c n' c' : Nat), (binOp .eql 22 (.slice a n c) (.slice none n' c')).run Tryz.prog w = .ok (.bool a.isNone) w := fun w a n c n' c' => Lib.run_eql_slice_nil w _ _ a n c n' c' Tryz.underlying22
  have HR := Lib.hid hr
  have HN := Lib.hid hn
  clear hr hn
  cases A with
  | none =>
    have hS : S = [] := by
      rcases HR.out with h | ⟨b, off, h, _⟩
      · cases S with
        | nil => rfl
        | cons s S => simp [encells] at h
      · cases h
    subst hS
    obtain rfl : n = 0 := HN.out
    go_enter Tryz.func46, Tryz.ntmps46
    go_wp2_with fail
    go_ret
    exact ⟨none, 0, rfl, Own.nil _ _ _ _, Fr.refl _⟩
  | some a =>
    have hns : (some a : Option Addr).isNone = false := rfl
    go_enter Tryz.func46, Tryz.ntmps46
    go_wp2_with (at_builtin; refine gate ?_)
    refine gate_app rfl _ _ 22 rfl 52 (.agg #[.int .u64 0, .int .u64 0, .bool false]) 3 24 Tryz.underlying22 info_ent rfl (by omega) (by omega) base (some ⟨w.heap.size, 0, none⟩) 0 0 [] (some a) n c (S.flatMap encells) (by rfl) (by rfl)
      (Own.of_blk (Blk.new w [] _) hb rfl (by omega)) (by rw [flat_len encells 3 encells_len, HN.out]) (HR.out.fr ((Fr.refl w).alloc _)) (ent_one S) (by omega) (by simp; omega) ?_
    intro A3 c3 w3 hown3 hgr hat
    have HM3 : Hid (Mv (fun k => k = w.heap.size) w w3) := ((Mv.of_fr ((Fr.refl w).alloc _)).grown hgr.out (fun k hk => .inl (by simp [ablk] at hk; exact hk.symm)))
    have HF3 : Hid (Fr w w3) := HM3.out.fr (fun k hk => by rw [show k = w.heap.size from hk]; exact Nat.le_refl _)
    have HOWN3 : Hid (Own w3 base 52 3 A3 n c3 (S.flatMap encells)) := by
      have := hown3.out; rw [Nat.zero_add, List.nil_append] at this; exact this
    rw [Nat.zero_add]
    clear hown3 hgr hat
    go_wp2_with fail
    go_ret
    exact ⟨A3, c3, rfl, HOWN3.out, HF3.out⟩
set_option maxHeartbeats 1000000 in
theorem clS_calls (S : List Seg) (A : Option Addr) (n c : Nat) (hn : n = S.length) (hl : n ≤ 268435456) (base : Nat) (w : World) (hb : base ≤ w.heap.size) (hr : RdC w A (S.flatMap sgcells)) :
    Calls Tryz.prog 79 #[.slice A n c] w fun e w' => ∃ A' c', e = .returned (.slice A' n c') ∧ Own w' base 65 5 A' n c' (S.flatMap sgcells) ∧ Fr w w' := by
  have qT : ∀ (w : World) (a : Option Addr) (n c n' c' : Nat), (binOp .eql 62 (.slice a n c) (.slice none n' c')).run Tryz.prog w = .ok (.bool a.isNone) w := fun w a n c n' c' => Lib.run_eql_slice_nil w _ _ a n c n' c' Tryz.underlying62
  have HR := Lib.hid hr
  have HN := Lib.hid hn
  clear hr hn
  cases A with
  | none =>
    have hS : S = [] := by
      rcases HR.out with h | ⟨b, off, h, _⟩
      · cases S with
        | nil => rfl
        | cons s S => simp [sgcells] at h
      · cases h
    subst hS
    obtain rfl : n = 0 := HN.out
    go_enter Tryz.func79, Tryz.ntmps79
    go_wp2_with fail
    go_ret
    exact ⟨none, 0, rfl, Own.nil _ _ _ _, Fr.refl _⟩
  | some a =>
    have hns : (some a : Option Addr).isNone = false := rfl
    go_enter Tryz.func79, Tryz.ntmps79
    go_wp2_with (at_builtin; refine gate ?_)
    refine gate_app rfl _ _ 62 rfl 65 (.agg #[.int .u64 0, .float .f64 0, .float .f64 0, .int .i64 0, .int .i64 0]) 5 40 Tryz.underlying62 info_seg rfl (by omega) (by omega) base (some ⟨w.heap.size, 0, none⟩) 0 0 [] (some a) n c (S.flatMap sgcells) (by rfl) (by rfl)
      (Own.of_blk (Blk.new w [] _) hb rfl (by omega)) (by rw [flat_len sgcells 5 sgcells_len, HN.out]) (HR.out.fr ((Fr.refl w).alloc _)) (seg_one S) (by omega) (by simp; omega) ?_
    intro A3 c3 w3 hown3 hgr hat
    have HM3 : Hid (Mv (fun k => k = w.heap.size) w w3) := ((Mv.of_fr ((Fr.refl w).alloc _)).grown hgr.out (fun k hk => .inl (by simp [ablk] at hk; exact hk.symm)))
    have HF3 : Hid (Fr w w3) := HM3.out.fr (fun k hk => by rw [show k = w.heap.size from hk]; exact Nat.le_refl _)
    have HOWN3 : Hid (Own w3 base 65 5 A3 n c3 (S.flatMap sgcells)) := by
      have := hown3.out; rw [Nat.zero_add, List.nil_append] at this; exact this
    rw [Nat.zero_add]
    clear hown3 hgr hat
    go_wp2_with fail
    go_ret
    exact ⟨A3, c3, rfl, HOWN3.out, HF3.out⟩

set_option maxHeartbeats 2000000 in
theorem copied_calls (Av : Option Addr) (N cv : Nat) (vs : List Value) (Ss : List (List Seg)) (hN : N = Ss.length) (hNl : N ≤ 268435456) (hS : ∀ S ∈ Ss, S.length ≤ 268435456) (base : Nat) (w : World) (hb : base ≤ w.heap.size) (hrv : RdC w Av vs) (hrows : RowsR w vs Ss) :
    Calls Tryz.prog 47 #[.slice Av N cv] w fun e w' => ∃ g us, e = .returned (.slice (some ⟨g, 0, none⟩) N N) ∧ base ≤ g ∧ Blk w' g us 62 ∧ us.length = N ∧ RowsO w' base us Ss ∧ Fr w w' := by
  have hmk := fun W => run_mk1 (P := Tryz.prog) 39 62 (.slice none 0 0) 24 Tryz.underlying39 info_row rfl W (N : Int) N rfl (by omega) (by omega)
  have HNV := Lib.hid hN
  have HS := Lib.hid hS
  have HRV := Lib.hid hrv
  have HROWS := Lib.hid hrows
  have HB := Lib.hid hb
  clear hN hS hrv hrows hb
  go_enter Tryz.func47, Tryz.ntmps47
  go_wp2_with fail
  obtain ⟨g, hg⟩ : ∃ g, g = w.heap.size := ⟨_, rfl⟩
  obtain ⟨w1, hw1⟩ : ∃ w1, w1 = w.alloc (.cells (arr (List.replicate N (.slice none 0 0))) 62) := ⟨_, rfl⟩
  have hb1 : Hid (Blk w1 g (List.replicate N (.slice none 0 0)) 62) := by rw [hw1, hg]; exact Blk.new w _ _
  have hf1 : Hid (Fr w w1) := by rw [hw1]; exact (Fr.refl w).alloc _
  rw [← hw1, ← hg]
  have HG : Hid (w.heap.size = g) := hg.symm
  clear hw1 hg hmk
  go_loopw [11] (fun v wr => ∃ (i : Nat) (us : List Value), v = .int .i64 i ∧ i ≤ N ∧ Hid (us.length = i) ∧ Hid (Blk wr g (us ++ List.replicate (N - i) (.slice none 0 0)) 62) ∧ Hid (RowsO wr base us (Ss.take i)) ∧ Hid (Fr w wr)) (fun v _ => N - (intOf v).toNat)
  case atStart => exact ⟨0, [], rfl, by omega, rfl, by rw [Hid]; simpa using hb1.out, trivial, hf1.out⟩
  case round =>
    obtain ⟨i, us, rfl, hin, hul, hbk, hrs, hf⟩ := hrel
    rcases Nat.lt_or_ge i N with hlt | hge
    · have d1 : decide (i < N) = true := decide_eq_true hlt
      have d0 : (i : Int) < (N : Int) := by omega
      have hiS : i < Ss.length := by have := HNV.out; omega
      obtain ⟨S, hS⟩ : ∃ S, Ss[i] = S := ⟨_, rfl⟩
      have hSi : Ss[i]? = some S := by rw [List.getElem?_eq_getElem hiS, hS]
      obtain ⟨As, cs, hvs, hcs, hrs0⟩ := HROWS.out.at hSi
      obtain ⟨bv, ov, hAv, hcv⟩ := (HRV.out.fr hf.out).at (by have := HROWS.out.len; omega)
      subst hAv
      have x0 := hcv i _ hvs
      have hSm := HS.out S (by rw [← hS]; exact List.getElem_mem hiS)
      obtain ⟨M, hM⟩ : ∃ M, S.length = M := ⟨_, rfl⟩
      rw [hM] at x0 hcs hSm
      have HM := Lib.hid hM
      have HSI := Lib.hid hSi
      have CL := Lib.hid (clS_calls S As M cs hM.symm hSm base wr (Nat.le_trans HB.out hf.out.size) (hrs0.fr hf.out))
      have wi : IntKind.i64.wrap ((i : Int) + 1) = (i : Int) + 1 := wrap_i64_in _ (by omega) (by omega)
      clear hcv hvs hS hSi hrs0 hM
      go_wp2_with fail
      refine CL.out.mono ?_
      rintro e w2 ⟨A3, c3, rfl, hown, hf2⟩
      have HOWN := Lib.hid hown
      have HF2 := Lib.hid hf2
      have hbk2 := hbk.out.fr hf2
      have z0 := hbk2.frozen i
      have z1 := hbk2.cell i (.slice none 0 0) (by
        rw [List.getElem?_append_right (by rw [hul.out]; exact Nat.le_refl _), hul.out, Nat.sub_self]
        obtain ⟨k, hk⟩ : ∃ k, N - i = k + 1 := ⟨N - i - 1, by omega⟩
        rw [hk]; rfl)
      have HBK2 := Lib.hid hbk2
      clear hown hf2 hbk2
      go_wp2_with fail
      have hms : Mv (one1 g) w2 (w2.setCell ⟨g, i, none⟩ (.slice A3 M c3)) := (Mv.refl (one1 g) w2).set (p := ⟨g, i, none⟩) (.inl rfl) _
      have hrsn := ((hrs.out.fr HF2.out).snoc (S := S) (by rw [HM.out]; exact HOWN.out)).mv hms (fun k h _ cs fr he => by
        have h9 := HBK2.out
        unfold Blk at h9
        rw [show k = g from h, h9] at he
        injection he with he; injection he with _ h9 _
        revert h9; decide)
      rw [HM.out] at hrsn
      refine ⟨⟨i + 1, us ++ [.slice A3 M c3], rfl, by omega, by rw [Hid, List.length_append, hul.out]; rfl, ?_, ?_, ?_⟩, by simp only [intOf]; omega⟩
      · have h1 := HBK2.out.set i (.slice A3 M c3)
        obtain ⟨k, hk⟩ : ∃ k, N - i = k + 1 := ⟨N - i - 1, by omega⟩
        rw [hk, set_rep us k _ _ i hul.out] at h1
        rw [Hid, show N - (i + 1) = k by omega]
        exact h1
      · have e9 : Ss.take (i + 1) = Ss.take i ++ [S] := by rw [List.take_add_one, HSI.out]; rfl
        rw [Hid, e9]; exact hrsn
      · exact (hf.out.trans HF2.out).mv hms (fun k hk => by rw [show k = g from hk, HG.out]; exact Nat.le_refl _)
    · obtain rfl : i = N := by omega
      have d1 : decide (i < i) = false := by simp
      have ht : Hid (Ss.take i = Ss) := List.take_of_length_le (by have := HNV.out; omega)
      go_wp2_with fail
      go_ret
      refine ⟨g, us, rfl, by rw [← HG.out]; exact HB.out, ?_, hul.out, ?_, hf.out⟩
      · have h1 := hbk.out
        rw [Nat.sub_self, List.replicate_zero, List.append_nil] at h1
        exact h1
      · have := hrs.out; rw [ht.out] at this; exact this
end Go.Proofs.YthjimnmgbcckjaaGreat
namespace Go.Proofs.YthjimnmgbcckjaaGreat
set_option maxRecDepth 100000
open Go.RowKit Go.Inc Go.Run

/-- A run in memory: its blocks are from base on. -/
def IsRun (w : World) (r base : Nat) (eps : Int) (E : List Ent) (Ss : List (List Seg)) : Prop :=
  ∃ (p : Nat) (Ae : Option Addr) (ce : Nat) (Al : Option Addr) (cl : Nat) (vs : List Value), base ≤ r ∧ w.heap[r]? = some (.cells #[.pointer (some ⟨p, 0, none⟩), .slice Ae E.length ce, .slice Al Ss.length cl] 45 (0, 0)) ∧
    IsPile w p base eps (keysE E) Ss ∧ Own w base 52 3 Ae E.length ce (E.flatMap encells) ∧ Own w base 62 1 Al Ss.length cl vs ∧ RowsO w base vs Ss
theorem IsPile.fr {w w' : World} {p base : Nat} {eps : Int} {K : List Int} {Ss : List (List Seg)} (h : IsPile w p base eps K Ss) (hf : Fr w w') : IsPile w' p base eps K Ss := by
  obtain ⟨Ak, ck, Al, cl, vs, h1, h2, h3, h4, h5⟩ := h
  exact ⟨Ak, ck, Al, cl, vs, h1, hf.blk h2, h3.fr hf, h4.fr hf, h5.fr hf⟩
theorem IsRun.fr {w w' : World} {r base : Nat} {eps : Int} {E : List Ent} {Ss : List (List Seg)} (h : IsRun w r base eps E Ss) (hf : Fr w w') : IsRun w' r base eps E Ss := by
  obtain ⟨p, Ae, ce, Al, cl, vs, h1, h2, h3, h4, h5, h6⟩ := h
  exact ⟨p, Ae, ce, Al, cl, vs, h1, hf.blk h2, h3.fr hf, h4.fr hf, h5.fr hf, h6.fr hf⟩
theorem keysE_ok {E : List Ent} (h : ∀ e ∈ E, EntOk e) : KeysOk (keysE E) := by
  intro k hk
  obtain ⟨e, he, rfl⟩ := List.mem_map.1 hk
  exact (h e he).1

theorem rowsO_mono {w : World} {base base' : Nat} (hb : base' ≤ base) : ∀ {vs : List Value} {Ss : List (List Seg)}, RowsO w base vs Ss → RowsO w base' vs Ss
  | [], [], _ => trivial
  | v :: vs, S :: Ss, h => by
    obtain ⟨⟨A, c, h1, h2⟩, h4⟩ := h
    exact ⟨⟨A, c, h1, h2.mono hb⟩, rowsO_mono hb h4⟩
  | [], _ :: _, h => h.elim
  | _ :: _, [], h => h.elim
set_option maxHeartbeats 4000000 in
theorem rof_calls (E : List Ent) (A : Option Addr) (n c : Nat) (eps : Int) (Av : Option Addr) (N cv : Nat) (vs : List Value) (Ss : List (List Seg)) (hn : n = E.length) (hc : n ≤ c) (hl : n ≤ 268435456) (hE : ∀ e ∈ E, EntOk e) (hN : N = Ss.length) (hNl : N ≤ 268435456)
    (hS : ∀ S ∈ Ss, S.length ≤ 268435456 ∧ ∀ s ∈ S, SegFit s) (heps : 2 ≤ eps ∧ eps ≤ 64) (w : World) (hr : RdC w A (E.flatMap encells)) (hrv : RdC w Av vs) (hrows : RowsR w vs Ss) :
    Calls Tryz.prog 27 #[.slice A n c, .int .i64 eps, .slice Av N cv] w fun e w' => Fr w w' ∧ ((∃ v, v ≠ 0 ∧ EntsV E v ∧ e = .returned (.tuple #[.pointer none, .int .i64 v])) ∨ (EntsV E 0 ∧ checkV eps (keysE E) Ss ≠ 0 ∧ e = .returned (.tuple #[.pointer none, .int .i64 (checkV eps (keysE E) Ss)])) ∨
      (EntsV E 0 ∧ checkV eps (keysE E) Ss = 0 ∧ ∃ r, e = .returned (.tuple #[.pointer (some ⟨r, 0, none⟩), .int .i64 0]) ∧ IsRun w' r w.heap.size eps E Ss)) := by
  have KC := Lib.hid (kcheck_calls E A n c hn hc (by omega) w hr)
  have HR := Lib.hid hr
  have HN := Lib.hid hn
  have HE := Lib.hid hE
  have HNV := Lib.hid hN
  have HS := Lib.hid hS
  have HRV := Lib.hid hrv
  have HROWS := Lib.hid hrows
  have HEP := Lib.hid heps
  have d1 : decide (eps < 2) = false := decide_eq_false (by omega)
  have d2 : decide (eps > 64) = false := decide_eq_false (by omega)
  obtain ⟨V, hV⟩ : ∃ V, checkV eps (keysE E) Ss = V := ⟨_, rfl⟩
  rw [hV]
  have HVV := Lib.hid hV
  clear hr hn hE hN hS hrv hrows heps hc hV
  go_enter Tryz.func27, Tryz.ntmps27
  go_wp2_with fail
  refine KC.out.mono ?_
  rintro e w2 ⟨v, rfl, hv, hf2⟩
  have HF2 := Lib.hid hf2
  clear hf2
  by_cases hv0 : v = 0
  · subst hv0
    have HV := Lib.hid hv
    clear hv
    have KO := Lib.hid (kof_calls E A n c HN.out (by have := HN.out; omega) w2 (HR.out.fr HF2.out))
    go_wp2_with fail
    refine KO.out.mono ?_
    rintro e w3 ⟨g, rfl, hg, hgs, hf3⟩
    have HG := Lib.hid hg
    have HF3 : Hid (Fr w w3) := HF2.out.trans hf3
    clear hg hgs hf3
    have PO := Lib.hid (pof_calls (keysE E) (some ⟨g, 0, none⟩) n n eps Av N cv vs Ss (by rw [keysE_len]; exact HN.out) (Nat.le_refl _) (by rw [keysE_len]; have := HN.out; omega) (keysE_ok HE.out) HNV.out hNl HS.out (by have := HEP.out; omega) w3 (RdC.blk HG.out) (HRV.out.fr HF3.out) (HROWS.out.fr HF3.out))
    rw [HVV.out] at PO
    go_wp2_with fail
    refine PO.out.mono ?_
    rintro e w4 ⟨hf4, hor⟩
    have HF4 : Hid (Fr w w4) := HF3.out.trans hf4
    rcases hor with ⟨hne, rfl⟩ | ⟨he0, p, rfl, hp⟩
    · have g1 : (V != 0) = true := by simpa using hne
      go_wp2_with fail
      go_ret2
      exact ⟨HF4.out, .inr (.inl ⟨HV.out, hne, rfl⟩)⟩
    · have HP := Lib.hid hp
      have HB3 : Hid (w.heap.size ≤ w3.heap.size) := HF3.out.size
      have CE := Lib.hid (clE_calls E A n c HN.out hl w.heap.size w4 HF4.out.size (HR.out.fr HF4.out))
      clear hp hf4
      go_wp2_with fail
      refine CE.out.mono ?_
      rintro e w5 ⟨A5, c5, rfl, hown5, hf5⟩
      have HOWN5 := Lib.hid hown5
      have HF5 : Hid (Fr w w5) := HF4.out.trans hf5
      have HF45 := Lib.hid hf5
      clear hown5 hf5
      have CP := Lib.hid (copied_calls Av N cv vs Ss HNV.out hNl (fun S hS => (HS.out S hS).1) w.heap.size w5 HF5.out.size (HRV.out.fr HF5.out) (HROWS.out.fr HF5.out))
      go_wp2_with fail
      refine CP.out.mono ?_
      rintro e w6 ⟨g6, us, rfl, hg6, hb6, hu6, hr6, hf6⟩
      have HALL := Lib.hid (And.intro hg6 (And.intro hb6 (And.intro hu6 (And.intro hr6 hf6))))
      clear hg6 hb6 hu6 hr6 hf6
      go_wp2_with fail
      go_ret2
      obtain ⟨hg6, hb6, hu6, hr6, hf6⟩ := HALL.out
      have hfa : Fr w6 (w6.alloc (.cells #[.pointer (some ⟨p, 0, none⟩), .slice A5 n c5, .slice (some ⟨g6, 0, none⟩) N N] 45)) := (Fr.refl w6).alloc _
      refine ⟨(HF5.out.trans hf6).trans hfa, .inr (.inr ⟨HV.out, he0, w6.heap.size, rfl, p, A5, c5, some ⟨g6, 0, none⟩, N, us, (HF5.out.trans hf6).size, ?_, ?_, ?_, ?_, hr6.fr hfa⟩)⟩
      · rw [← HN.out, ← HNV.out]; exact heap_alloc_new w6 _
      · obtain ⟨Ak, ck, Al, cl, vs', h1, h2, h3, h4, h5⟩ := HP.out
        have hff := (HF45.out.trans hf6).trans hfa
        exact ⟨Ak, ck, Al, cl, vs', Nat.le_trans HB3.out h1, hff.blk h2, (h3.mono HB3.out).fr hff, (h4.mono HB3.out).fr hff, rowsO_mono HB3.out (h5.fr hff)⟩
      · rw [← HN.out]; exact (HOWN5.out.fr hf6).fr hfa
      · rw [← HNV.out]; exact (Own.of_blk hb6 hg6 (by rw [hu6]; omega) (by omega)).fr hfa
  · have g1 : (v != 0) = true := by simpa using hv0
    have HV := Lib.hid hv
    clear hv
    go_wp2_with fail
    go_ret2
    exact ⟨HF2.out, .inl ⟨v, hv0, HV.out, rfl⟩⟩
theorem entsV_zero {E : List Ent} (h : EntsV E 0) : Rise (keysE E) ∧ ∀ e ∈ E, badE e = false := by
  cases h with
  | ok h1 h2 => exact ⟨h1, h2⟩

set_option maxHeartbeats 4000000 in
theorem rnew_calls (E : List Ent) (A : Option Addr) (n c : Nat) (e0 : Nat) (hn : n = E.length) (hc : n ≤ c) (hl : n ≤ 268435456) (hE : ∀ e ∈ E, EntOk e) (heps : 2 ≤ e0 ∧ e0 ≤ 64) (w : World) (hr : RdC w A (E.flatMap encells)) :
    Calls Tryz.prog 23 #[.slice A n c, .int .i64 (e0 : Nat)] w fun e w' => Fr w w' ∧ ((∃ v, v ≠ 0 ∧ EntsV E v ∧ e = .returned (.tuple #[.pointer none, .int .i64 v])) ∨
      (EntsV E 0 ∧ ∃ (r : Nat) (Ss : List (List Seg)), e = .returned (.tuple #[.pointer (some ⟨r, 0, none⟩), .int .i64 0]) ∧ LevelsOf ((e0 : Int) - 1) (keysE E) Ss ∧ IsRun w' r w.heap.size (e0 : Int) E Ss)) := by
  have KC := Lib.hid (kcheck_calls E A n c hn hc (by omega) w hr)
  have HR := Lib.hid hr
  have HN := Lib.hid hn
  have HE := Lib.hid hE
  have HEP := Lib.hid heps
  have HCC := Lib.hid hc
  have d1 : decide (e0 < 2) = false := decide_eq_false (by omega)
  have d2 : decide (64 < e0) = false := decide_eq_false (by omega)
  have d1i : decide ((e0 : Int) < 2) = false := decide_eq_false (by omega)
  have d2i : decide ((e0 : Int) > 64) = false := decide_eq_false (by omega)
  clear hr hn hE heps hc
  go_enter Tryz.func23, Tryz.ntmps23
  go_wp2_with fail
  refine KC.out.mono ?_
  rintro e w2 ⟨v, rfl, hv, hf2⟩
  have HF2 := Lib.hid hf2
  clear hf2
  by_cases hv0 : v = 0
  · subst hv0
    have HV := Lib.hid hv
    clear hv
    have KO := Lib.hid (kof_calls E A n c HN.out (by have := HN.out; omega) w2 (HR.out.fr HF2.out))
    go_wp2_with fail
    refine KO.out.mono ?_
    rintro e w3 ⟨g, rfl, hg, hgs, hf3⟩
    have HG := Lib.hid hg
    have HF3 : Hid (Fr w w3) := HF2.out.trans hf3
    clear hg hgs hf3
    have BU := Lib.hid (build_calls (keysE E) (some ⟨g, 0, none⟩) n n (e0 : Int) (by rw [keysE_len]; exact HN.out) (Nat.le_refl _) (by rw [keysE_len]; have := HN.out; omega) (by have := HEP.out; omega) (entsV_zero HV.out).1 (keysE_ok HE.out) w3 (RdC.blk HG.out))
    go_wp2_with fail
    refine BU.out.mono ?_
    rintro e w4 ⟨A4, c4, vs, Ss, rfl, hlv, hown, hrows, hf4⟩
    have HLV := Lib.hid hlv
    have HF4 : Hid (Fr w w4) := HF3.out.trans hf4
    have hfit := levels_fit HEP.out (entsV_zero HV.out).1 (keysE_ok HE.out) (by rw [keysE_len]; have := HN.out; omega) hlv
    have hchk := levels_check HEP.out (entsV_zero HV.out).1 (keysE_ok HE.out) (by rw [keysE_len]; have := HN.out; omega) hlv
    have hhigh := levels_high HEP.out.1 (entsV_zero HV.out).1 (keysE_ok HE.out) hlv
    have hhl := maxH_le HEP.out.1 (keysE E).length
    rw [keysE_len] at hhigh hhl
    have RO := Lib.hid (rof_calls E A n c (e0 : Int) A4 Ss.length c4 vs Ss HN.out HCC.out hl HE.out rfl (by have := HN.out; omega) (fun S hS => ⟨by have := (hfit S hS).1; rw [keysE_len] at this; have := HN.out; omega, (hfit S hS).2⟩) (by have := HEP.out; omega) w4 (HR.out.fr HF4.out) hown.rd hrows.toR)
    rw [hchk] at RO
    clear hlv hown hrows hf4 hfit hchk hhigh hhl
    go_wp2_with fail
    refine RO.out.mono ?_
    rintro e w5 ⟨hf5, hor⟩
    rcases hor with ⟨v, hv, hvE, rfl⟩ | ⟨_, h, _⟩ | ⟨hV, _, r, rfl, hrun⟩
    · exfalso
      obtain ⟨z1, z2⟩ := entsV_zero HV.out
      cases hvE with
      | ok _ _ => exact hv rfl
      | order h _ => exact h z1
      | gone b h hb _ _ => rw [z2 _ (List.getElem_mem h)] at hb; cases hb
      | goneOrder b h hb _ _ => rw [z2 _ (List.getElem_mem h)] at hb; cases hb
    · exact absurd rfl h
    · have HRUN := Lib.hid hrun
      have HB4 : Hid (w.heap.size ≤ w4.heap.size) := HF4.out.size
      clear hrun
      go_wp2_with fail
      go_ret2
      refine ⟨HF4.out.trans hf5, .inr ⟨HV.out, r, Ss, rfl, HLV.out, ?_⟩⟩
      obtain ⟨p, Ae, ce, Al, cl, vs', h1, h2, h3, h4, h5, h6⟩ := HRUN.out
      obtain ⟨Ak, ck, Ap, cp, vp, q1, q2, q3, q4, q5⟩ := h3
      exact ⟨p, Ae, ce, Al, cl, vs', Nat.le_trans HB4.out h1, h2, ⟨Ak, ck, Ap, cp, vp, Nat.le_trans HB4.out q1, q2, q3.mono HB4.out, q4.mono HB4.out, rowsO_mono HB4.out q5⟩, h4.mono HB4.out, h5.mono HB4.out, rowsO_mono HB4.out h6⟩
  · have g1 : (v != 0) = true := by simpa using hv0
    have HV := Lib.hid hv
    clear hv
    go_wp2_with fail
    go_ret2
    exact ⟨HF2.out, .inl ⟨v, hv0, HV.out, rfl⟩⟩
end Go.Proofs.YthjimnmgbcckjaaGreat
namespace Go.Proofs.YthjimnmgbcckjaaGreat
set_option maxRecDepth 100000
open Go.RowKit Go.Inc Go.Run
attribute [local go_sem] run_store_float

def rowAt (Ss : List (List Seg)) (l : Int) : List Seg := Ss.getD (l - 1).toNat []
def sizeV (K : List Int) (Ss : List (List Seg)) (l : Int) : Int := if l < 0 ∨ (Ss.length : Int) < l then 0 else if l = 0 then K.length else (rowAt Ss l).length
def keyV (K : List Int) (Ss : List (List Seg)) (l s : Int) : Int := if s < 0 ∨ sizeV K Ss l ≤ s then 0 else if l = 0 then ky K s.toNat else ((rowAt Ss l).getD s.toNat seg0).first
def segV (K : List Int) (Ss : List (List Seg)) (l s : Int) : Seg := if l < 1 ∨ s < 0 ∨ sizeV K Ss l ≤ s then seg0 else (rowAt Ss l).getD s.toNat seg0
/-- A pile, as it is read. -/
structure PileR (w : World) (p : Nat) (eps : Int) (K : List Int) (Ss : List (List Seg)) : Prop where
  cells : ∃ (Ak : Option Addr) (ck : Nat) (Al : Option Addr) (cl : Nat) (vs : List Value), (w.cell? ⟨p, 0, none⟩ = some (.int .i64 eps) ∧ w.cell? ⟨p, 1, none⟩ = some (.slice Ak K.length ck) ∧ w.cell? ⟨p, 2, none⟩ = some (.slice Al Ss.length cl)) ∧ RdC w Ak (K.map uv) ∧ RdC w Al vs ∧ RowsR w vs Ss
theorem IsPile.toR {w : World} {p base : Nat} {eps : Int} {K : List Int} {Ss : List (List Seg)} (h : IsPile w p base eps K Ss) : PileR w p eps K Ss := by
  obtain ⟨Ak, ck, Al, cl, vs, h1, h2, h3, h4, h5⟩ := h
  exact ⟨Ak, ck, Al, cl, vs, cells3 h2, h3.rd, h4.rd, h5.toR⟩
theorem PileR.fr {w w' : World} {p : Nat} {eps : Int} {K : List Int} {Ss : List (List Seg)} (h : PileR w p eps K Ss) (hf : Fr w w') : PileR w' p eps K Ss := by
  obtain ⟨Ak, ck, Al, cl, vs, ⟨h1, h2, h3⟩, h4, h5, h6⟩ := h.cells
  exact ⟨Ak, ck, Al, cl, vs, ⟨hf.cell h1, hf.cell h2, hf.cell h3⟩, h4.fr hf, h5.fr hf, RowsR.fr hf h6⟩

theorem peps_calls (p : Nat) (eps : Int) (K : List Int) (Ss : List (List Seg)) (w : World) (h : PileR w p eps K Ss) : Calls Tryz.prog 17 #[.pointer (some ⟨p, 0, none⟩)] w fun e w' => e = .returned (.int .i64 eps) ∧ w' = w := by
  obtain ⟨Ak, ck, Al, cl, vs, ⟨h1, h2, h3⟩, _⟩ := h.cells
  clear h
  go_enter Tryz.func17, Tryz.ntmps17
  go_wp2_with fail
  go_ret
  exact ⟨rfl, rfl⟩
theorem pheight_calls (p : Nat) (eps : Int) (K : List Int) (Ss : List (List Seg)) (w : World) (h : PileR w p eps K Ss) : Calls Tryz.prog 199 #[.pointer (some ⟨p, 0, none⟩)] w fun e w' => e = .returned (.int .i64 (Ss.length : Nat)) ∧ w' = w := by
  obtain ⟨Ak, ck, Al, cl, vs, ⟨h1, h2, h3⟩, _⟩ := h.cells
  clear h
  obtain ⟨N, hN⟩ : ∃ N, Ss.length = N := ⟨_, rfl⟩
  rw [hN] at h3 ⊢
  go_enter Tryz.func199, Tryz.ntmps199
  go_wp2_with fail
  go_ret
  exact ⟨rfl, rfl⟩

set_option maxHeartbeats 1000000 in
theorem psize_calls (p : Nat) (eps : Int) (K : List Int) (Ss : List (List Seg)) (l : Int) (hl : -9223372036854775808 ≤ l ∧ l ≤ 9223372036854775807) (w : World) (h : PileR w p eps K Ss) : Calls Tryz.prog 202 #[.pointer (some ⟨p, 0, none⟩), .int .i64 l] w fun e w' => e = .returned (.int .i64 (sizeV K Ss l)) ∧ w' = w := by
  obtain ⟨Ak, ck, Al, cl, vs, ⟨h1, h2, h3⟩, h4, h5, h6⟩ := h.cells
  obtain ⟨N, hN⟩ : ∃ N, Ss.length = N := ⟨_, rfl⟩
  obtain ⟨M, hM⟩ : ∃ M, K.length = M := ⟨_, rfl⟩
  have HR5 := Lib.hid h5
  have HR6 := Lib.hid h6
  rw [hN] at h3
  rw [hM] at h2
  clear h h4 h5 h6
  by_cases c1 : l < 0
  · have d1 : decide (l < 0) = true := decide_eq_true c1
    have hp : Hid (sizeV K Ss l = 0) := by rw [Hid]; unfold sizeV; rw [if_pos (.inl c1)]
    clear hN hM
    go_enter Tryz.func202, Tryz.ntmps202
    go_wp2_with fail
    go_ret
    exact ⟨by rw [hp.out]; rfl, rfl⟩
  · have d1 : decide (l < 0) = false := decide_eq_false c1
    by_cases c2 : (N : Int) < l
    · have d2 : decide (l > (N : Int)) = true := decide_eq_true c2
      have hp : Hid (sizeV K Ss l = 0) := by rw [Hid]; unfold sizeV; rw [if_pos (.inr (by rw [hN]; exact c2))]
      clear hN hM
      go_enter Tryz.func202, Tryz.ntmps202
      go_wp2_with fail
      go_ret
      exact ⟨by rw [hp.out]; rfl, rfl⟩
    · have d2 : decide (l > (N : Int)) = false := decide_eq_false c2
      by_cases c3 : l = 0
      · subst c3
        have hp : Hid (sizeV K Ss 0 = M) := by rw [Hid]; unfold sizeV; rw [if_neg (by rw [hN]; omega), if_pos rfl, hM]
        clear hN hM
        go_enter Tryz.func202, Tryz.ntmps202
        go_wp2_with fail
        go_ret
        exact ⟨by rw [hp.out]; rfl, rfl⟩
      · have d3 : (l == 0) = false := by rw [beq_eq_false_iff_ne]; exact c3
        obtain ⟨k, rfl⟩ : ∃ k : Nat, l = (k : Int) + 1 := ⟨(l - 1).toNat, by omega⟩
        have hkS : k < Ss.length := by omega
        obtain ⟨S, hS⟩ : ∃ S, Ss[k] = S := ⟨_, rfl⟩
        have hSk : Ss[k]? = some S := by rw [List.getElem?_eq_getElem hkS, hS]
        obtain ⟨As, cs, hvs, hcs, hrs⟩ := HR6.out.at hSk
        obtain ⟨bv, ov, hAv, hcv⟩ := HR5.out.at (by have := HR6.out.len; omega)
        subst hAv
        have x0 := hcv k _ hvs
        have hp : Hid (sizeV K Ss ((k : Int) + 1) = (S.length : Nat)) := by
          rw [Hid]; unfold sizeV rowAt
          rw [if_neg (by rw [hN]; omega), if_neg (by omega), Int.add_sub_cancel, Int.toNat_natCast, List.getD_eq_getElem?_getD, hSk]
          rfl
        obtain ⟨Q, hQ⟩ : ∃ Q, S.length = Q := ⟨_, rfl⟩
        rw [hQ] at x0 hp
        have w1 : IntKind.i64.wrap ((k : Int) + 1 - 1) = (k : Int) := by rw [wrap_i64_in _ (by omega) (by omega)]; omega
        have w2 : IntKind.i64.wrap (k : Int) = (k : Int) := wrap_i64_in _ (by omega) (by omega)
        have g0 : (k : Int) < (N : Int) := by omega
        clear hN hM hcv hvs hSk hS hrs hQ
        go_enter Tryz.func202, Tryz.ntmps202
        go_wp2_with fail
        go_ret
        exact ⟨by rw [hp.out]; rfl, rfl⟩
end Go.Proofs.YthjimnmgbcckjaaGreat
