/- RunPlaces holds: for every input whose bulk is at most 1048576 the law returns true and its arguments read as before. -/
import Derived.Test.YtelpbbkmkighfaaQJ
import Derived.Test.YtelpbbkmkighfaaQK
namespace Go.Proofs.Ytelpbbkmkighfaa
set_option maxRecDepth 100000
open Go.RowKit Go.Inc Go.Run
attribute [local go_sem] run_store_float

theorem rank_mono {L : List Int} (hR : Rise L) {p q : Int} {m n : Nat} (hm : IsRank L p m) (hn : IsRank L q n) (h : p ≤ q) : m ≤ n := by
  rcases Nat.lt_or_ge n m with h1 | h1
  · have := hm.bel n h1; have := hn.abo n (Nat.le_refl _) (by have := hm.le; omega); omega
  · exact h1
theorem rank_next {L : List Int} (hR : Rise L) {q : Int} {m n : Nat} (hn : IsRank L q n) (hm : IsRank L (q + 1) m) : m = if n < L.length ∧ ky L n = q then n + 1 else n := by
  have h0 := rank_mono hR hn hm (by omega)
  split
  · rename_i h
    have h1 : n < m := by
      rcases Nat.lt_or_ge n m with h1 | h1
      · exact h1
      · have := hm.abo n h1 h.1; omega
    rcases Nat.lt_or_ge (n + 1) m with h2 | h2
    · have := hm.bel (n + 1) h2
      have := rise_lt hR (show n < n + 1 by omega) (by have := hm.le; omega)
      omega
    · omega
  · rename_i h
    rcases Nat.lt_or_ge n m with h1 | h1
    · have h2 := hm.bel n h1
      have h3 := hn.abo n (Nat.le_refl _) (by have := hm.le; omega)
      exact absurd ⟨by have := hm.le; omega, by omega⟩ h
    · omega
theorem rank_at {L : List Int} (hR : Rise L) {i : Nat} (hi : i < L.length) : IsRank L (ky L i) i :=
  ⟨by omega, fun j hj => rise_lt hR hj hi, fun j hj hl => by
    rcases Nat.lt_or_ge i j with h | h
    · exact Int.le_of_lt (rise_lt hR h hl)
    · obtain rfl : i = j := by omega
      exact Int.le_refl _⟩

set_option maxHeartbeats 4000000 in
theorem runPlaces_calls (E : List Ent) (A : Option Addr) (n c : Nat) (eps q p : Int) (hn : n = E.length) (hc : n ≤ c) (hl : n ≤ 268435456) (hE : ∀ e ∈ E, EntOk e) (hq : 0 ≤ q ∧ q < 18446744073709551616) (hp : 0 ≤ p ∧ p < 18446744073709551616) (w : World) (hr : RdC w A (E.flatMap encells)) :
    Calls Try.prog 3 #[.slice A n c, .int .i64 eps, .int .u64 q, .int .u64 p] w fun e w' => e = .returned (.bool true) ∧ Fr w w' := by
  have HR := Lib.hid hr
  have HN := Lib.hid hn
  have HE := Lib.hid hE
  have NW : Hid (∀ w', Fr w w' → Calls Try.prog 6 #[.slice A n c, .int .i64 eps] w' (NewOut E eps w')) := fun w' h => rnew_any E A n c eps hn hc hl hE w' (hr.fr h)
  have CK : Hid (∀ w', Fr w w' → Calls Try.prog 7 #[.slice A n c] w' fun e w'' => ∃ v, e = .returned (.int .i64 v) ∧ Chk3 E v ∧ Fr w' w'') := fun w' h => r3check_calls E A n c hn hl w' (hr.fr h)
  clear hr hn hE hc
  go_enter Try.func3, Try.ntmps3
  go_wp2_with fail
  refine (shown11_calls w).mono ?_
  rintro _ w1 ⟨rfl, hf1⟩
  have HF1 := Lib.hid hf1
  clear hf1
  go_wp2_with fail
  refine (NW.out w1 HF1.out).mono ?_
  rintro e2 w2 ⟨hf2, hor⟩
  have HF2 : Hid (Fr w w2) := HF1.out.trans hf2
  clear hf2
  rcases hor with ⟨v, hv, hvE, rfl⟩ | ⟨he, r, p0, Ss, rfl, _, hb⟩
  · have HV := Lib.hid (And.intro hv hvE)
    clear hv hvE
    go_wp2_with fail
    refine (CK.out w2 HF2.out).mono ?_
    rintro _ w3 ⟨v3, rfl, h3, hf3⟩
    have HF3 : Hid (Fr w w3) := HF2.out.trans hf3
    have H3 := Lib.hid h3
    clear h3 hf3
    by_cases hv3 : v3 = 0
    · subst hv3
      have hbad : eps < 2 ∨ 64 < eps := by
        obtain ⟨h1, h2⟩ := HV.out
        rcases h2 with ⟨h2, _⟩ | ⟨_, h2⟩
        · exact h2
        · exact absurd (chk3_eq h2 H3.out) h1
      by_cases h1 : eps < 2
      · have d1 : decide (eps < 2) = true := decide_eq_true h1
        clear hbad h1
        go_wp2_with fail
        go_ret
        exact ⟨rfl, HF3.out⟩
      · have d1 : decide (eps < 2) = false := decide_eq_false h1
        have d2 : decide (eps > 64) = true := decide_eq_true (by omega)
        clear hbad h1
        go_wp2_with fail
        go_ret
        exact ⟨rfl, HF3.out⟩
    · have d0 : (v3 != 0) = true := by simpa using hv3
      clear hv3
      go_wp2_with fail
      go_ret
      exact ⟨rfl, HF3.out⟩
  · have HB : Hid (∀ w', Fr w2 w' → Built w' r p0 eps E Ss) := fun w' h => hb.fr h
    have HRI : Hid (Rise (keysE E)) := hb.ok.rise
    have HKO : Hid (KeysOk (keysE E)) := hb.ok.keys
    clear hb he
    have RAT : Hid (∀ (i : Int) w', -9223372036854775808 ≤ i ∧ i ≤ 9223372036854775807 → Fr w2 w' → Calls Try.prog 8 #[.pointer (some ⟨r, 0, none⟩), .int .i64 i] w' fun e w'' => Fr w' w'' ∧ e = .returned (.tuple #[entV (atV E i).1, .int .i64 (atV E i).2])) :=
      fun i w' hi h => rat_calls r p0 eps E Ss i hi (by have := HN.out; omega) w' (HB.out w' h).run
    have RGE : Hid (∀ (k : Int) w', 0 ≤ k ∧ k < 18446744073709551616 → Fr w2 w' → Calls Try.prog 9 #[.pointer (some ⟨r, 0, none⟩), .int .u64 k] w' fun e w'' => Fr w' w'' ∧ ∃ n : Nat, IsRank (keysE E) k n ∧ e = .returned (.tuple #[entV (getV E n (decide (n < (keysE E).length ∧ ky (keysE E) n = k))), .bool (decide (n < (keysE E).length ∧ ky (keysE E) n = k))])) :=
      fun k w' hk h => rget_calls r p0 eps E Ss k w' (HB.out w' h).run (HB.out w' h).ok hk
    have RRK : Hid (∀ (k : Int) w', 0 ≤ k ∧ k < 18446744073709551616 → Fr w2 w' → Calls Try.prog 10 #[.pointer (some ⟨r, 0, none⟩), .int .u64 k] w' fun e w'' => Fr w' w'' ∧ ∃ n : Nat, IsRank (keysE E) k n ∧ e = .returned (.int .i64 n)) :=
      fun k w' hk h => rrank_calls r p0 eps E Ss k w' (HB.out w' h).run (HB.out w' h).ok hk
    go_wp2_with fail
    go_loopw [12] (fun v12 wr => ∃ i : Nat, v12 = .int .i64 i ∧ i ≤ n ∧ Hid (Fr w2 wr)) (fun v12 _ => n - (intOf v12).toNat)
    case atStart => exact ⟨0, rfl, by omega, Fr.refl _⟩
    case round =>
      obtain ⟨i, rfl, hin, hf⟩ := hrel
      rcases Nat.lt_or_ge i n with hlt | hge
      · have g1 : decide (i < n) = true := decide_eq_true hlt
        have g1' : (i : Int) < (n : Int) := by omega
        have g0' : (0 : Int) ≤ (i : Int) := by omega
        have hiE : i < E.length := by have := HN.out; omega
        obtain ⟨x, hx⟩ : ∃ x, E[i] = x := ⟨_, rfl⟩
        have hxk : ky (keysE E) i = x.key := by unfold keysE ky; simp [hiE, hx]
        have hxo := HE.out x (by rw [← hx]; exact List.getElem_mem hiE)
        obtain ⟨xk, xv, xg⟩ := x
        have R1 : Hid (∀ w', Fr w2 w' → Calls Try.prog 8 #[.pointer (some ⟨r, 0, none⟩), .int .i64 (i : Nat)] w' fun e w'' => Fr w' w'' ∧ e = .returned (.tuple #[.agg #[.int .u64 xk, .int .u64 xv, .bool xg], .int .i64 0])) :=
          fun w' h => (RAT.out i w' (by omega) h).mono fun _ _ ⟨h1, h2⟩ => ⟨h1, by
            rw [h2]
            have : atV E (i : Nat) = (⟨xk, xv, xg⟩, 0) := by unfold atV; rw [if_pos (by omega), Int.toNat_natCast, List.getD_eq_getElem?_getD, List.getElem?_eq_getElem hiE, hx]; rfl
            rw [this]; rfl⟩
        have R2 : Hid (∀ w', Fr w2 w' → Calls Try.prog 9 #[.pointer (some ⟨r, 0, none⟩), .int .u64 xk] w' fun e w'' => Fr w' w'' ∧ e = .returned (.tuple #[.agg #[.int .u64 xk, .int .u64 xv, .bool xg], .bool true])) :=
          fun w' h => (RGE.out xk w' hxo.1 h).mono fun _ _ ⟨h1, m, h2, h3⟩ => ⟨h1, by
            have hrk := rank_at HRI.out (i := i) (by rw [keysE_len]; exact hiE)
            rw [hxk] at hrk
            obtain rfl := h2.unique hrk
            rw [decide_eq_true (show m < (keysE E).length ∧ ky (keysE E) m = xk from ⟨by rw [keysE_len]; exact hiE, hxk⟩)] at h3
            rw [h3]
            have : getV E m true = ⟨xk, xv, xg⟩ := by unfold getV; rw [if_pos rfl, List.getD_eq_getElem?_getD, List.getElem?_eq_getElem hiE, hx]; rfl
            rw [this]; rfl⟩
        have R3 : Hid (∀ w', Fr w2 w' → Calls Try.prog 10 #[.pointer (some ⟨r, 0, none⟩), .int .u64 xk] w' fun e w'' => Fr w' w'' ∧ e = .returned (.int .i64 (i : Nat))) :=
          fun w' h => (RRK.out xk w' hxo.1 h).mono fun _ _ ⟨h1, m, h2, h3⟩ => ⟨h1, by
            have hrk := rank_at HRI.out (i := i) (by rw [keysE_len]; exact hiE)
            rw [hxk] at hrk
            obtain rfl := h2.unique hrk
            exact h3⟩
        have RD : Hid (∃ b off, A = some ⟨b, off, none⟩ ∧ ∀ w', Fr w w' → w'.cell? ⟨b, off + i * 3, none⟩ = some (.int .u64 xk) ∧ w'.cell? ⟨b, off + i * 3 + 1, none⟩ = some (.int .u64 xv) ∧ w'.cell? ⟨b, off + i * 3 + 2, none⟩ = some (.bool xg)) := by
          obtain ⟨b, off, hA, hc⟩ := rdc_ent HR.out (by omega)
          obtain ⟨h1, h2, h3⟩ := hc i hiE
          rw [hx] at h1 h2 h3
          exact ⟨b, off, hA, fun w' h => ⟨h.cell h1, h.cell h2, h.cell h3⟩⟩
        obtain ⟨b, off, hA, hrd⟩ := RD.out
        subst hA
        have HRD : Hid (∀ w', Fr w w' → w'.cell? ⟨b, off + i * 3, none⟩ = some (.int .u64 xk) ∧ w'.cell? ⟨b, off + i * 3 + 1, none⟩ = some (.int .u64 xv) ∧ w'.cell? ⟨b, off + i * 3 + 2, none⟩ = some (.bool xg)) := hrd
        have wi : IntKind.i64.wrap ((i : Int) + 1) = (i : Int) + 1 := wrap_i64_in _ (by omega) (by omega)
        clear hx hxk hxo hrd RD hiE
        go_wp2_with fail
        refine (R1.out wr hf.out).mono ?_
        rintro _ w3 ⟨hf3, rfl⟩
        have HF3 : Hid (Fr w2 w3) := hf.out.trans hf3
        have HB3 := Lib.hid (heap_alloc_new w3 (.cells #[.int .u64 xk, .int .u64 xv, .bool xg] 31))
        obtain ⟨x0, x1, x2⟩ := HRD.out (w3.alloc (.cells #[.int .u64 xk, .int .u64 xv, .bool xg] 31)) (HF2.out.trans (HF3.out.alloc _))
        clear hf3
        go_wp2_with fail
        refine (R2.out _ (HF3.out.alloc _)).mono ?_
        rintro _ w4 ⟨hf4, rfl⟩
        have HF4 : Hid (Fr w2 w4) := (HF3.out.alloc _).trans hf4
        have HB4 := Lib.hid (hf4.blk HB3.out)
        clear hf4 x0 x1 x2
        go_wp2_with fail
        obtain ⟨g3, hg3⟩ : ∃ g3, g3 = w3.heap.size := ⟨_, rfl⟩
        obtain ⟨g4, hg4⟩ : ∃ g4, g4 = w4.heap.size := ⟨_, rfl⟩
        have HB5 := Lib.hid (((Fr.refl w4).alloc (.cells #[.int .u64 xk, .int .u64 xv, .bool xg] 31)).blk HB4.out)
        have HC5 := Lib.hid (heap_alloc_new w4 (.cells #[.int .u64 xk, .int .u64 xv, .bool xg] 31))
        obtain ⟨w5, hw5⟩ : ∃ w5, w5 = w4.alloc (.cells #[.int .u64 xk, .int .u64 xv, .bool xg] 31) := ⟨_, rfl⟩
        have HF5 : Hid (Fr w2 w5) := by rw [hw5]; exact HF4.out.alloc _
        rw [← hw5] at HB5 HC5 ⊢
        rw [← hg3] at HB5 ⊢
        rw [← hg4] at HC5 ⊢
        clear hg3 hg4 hw5 HB3 HB4
        obtain ⟨x0, x1, x2⟩ := HRD.out w5 (HF2.out.trans HF5.out)
        obtain ⟨y0, y1, y2⟩ := cells3 HB5.out
        obtain ⟨z0, z1, z2⟩ := cells3 HC5.out
        have he := ent_neq
        have hee : eqE ⟨xk, xv, xg⟩ ⟨xk, xv, xg⟩ = true := eqE_iff.2 rfl
        have HALL : Hid (∀ w', Fr w5 w' → (w'.cell? ⟨b, off + i * 3, none⟩ = some (.int .u64 xk) ∧ w'.cell? ⟨b, off + i * 3 + 1, none⟩ = some (.int .u64 xv) ∧ w'.cell? ⟨b, off + i * 3 + 2, none⟩ = some (.bool xg)) ∧
            (w'.cell? ⟨g3, 0, none⟩ = some (.int .u64 xk) ∧ w'.cell? ⟨g3, 1, none⟩ = some (.int .u64 xv) ∧ w'.cell? ⟨g3, 2, none⟩ = some (.bool xg)) ∧ (w'.cell? ⟨g4, 0, none⟩ = some (.int .u64 xk) ∧ w'.cell? ⟨g4, 1, none⟩ = some (.int .u64 xv) ∧ w'.cell? ⟨g4, 2, none⟩ = some (.bool xg))) :=
          fun w' h => ⟨⟨h.cell x0, h.cell x1, h.cell x2⟩, ⟨h.cell y0, h.cell y1, h.cell y2⟩, h.cell z0, h.cell z1, h.cell z2⟩
        go_region_held3 (fun w' => (w'.cell? ⟨b, off + i * 3, none⟩ = some (.int .u64 xk) ∧ w'.cell? ⟨b, off + i * 3 + 1, none⟩ = some (.int .u64 xv) ∧ w'.cell? ⟨b, off + i * 3 + 2, none⟩ = some (.bool xg)) ∧
            (w'.cell? ⟨g3, 0, none⟩ = some (.int .u64 xk) ∧ w'.cell? ⟨g3, 1, none⟩ = some (.int .u64 xv) ∧ w'.cell? ⟨g3, 2, none⟩ = some (.bool xg)) ∧ (w'.cell? ⟨g4, 0, none⟩ = some (.int .u64 xk) ∧ w'.cell? ⟨g4, 1, none⟩ = some (.int .u64 xv) ∧ w'.cell? ⟨g4, 2, none⟩ = some (.bool xg)))
          (first | exact HALL.out _ hfa.out | exact HALL.out _ (Fr.refl _) | exact HALL.out _ (Fr.refl _).drew)
          (first | (go_at_call 10; refine (R3.out _ HF5.out.drew).mono ?_; rintro e wq ⟨hqq, rfl⟩; have hfa : Hid (Fr w5 wq) := (Fr.refl w5).drew.trans hqq))
        go_wp2_with fail
        exact ⟨⟨i + 1, rfl, by omega, HF5.out.trans hfa.out⟩, by simp only [intOf]; omega⟩
      · obtain rfl : i = n := by omega
        have g1 : decide (i < i) = false := by simp
        go_wp2_with fail
        refine (RRK.out q wr hq hf.out).mono ?_
        rintro _ w3 ⟨hf3, m, hm, rfl⟩
        have HF3 : Hid (Fr w2 w3) := hf.out.trans hf3
        have HM := Lib.hid hm
        clear hm hf3
        go_wp2_with fail
        refine (RGE.out q w3 hq HF3.out).mono ?_
        rintro e4 w4 ⟨hf4, m', hm', he4⟩
        obtain rfl := hm'.unique HM.out
        have HF4 : Hid (Fr w2 w4) := HF3.out.trans hf4
        obtain ⟨bb, hbb⟩ : ∃ bb, decide (m' < (keysE E).length ∧ ky (keysE E) m' = q) = bb := ⟨_, rfl⟩
        rw [hbb] at he4
        obtain ⟨x, hx⟩ : ∃ x, getV E m' bb = x := ⟨_, rfl⟩
        rw [hx] at he4
        have HBB := Lib.hid hbb
        have hmE : m' ≤ i := by have := HM.out.le; rw [keysE_len] at this; have := HN.out; omega
        have hxq : bb = true → x.key = q := by
          intro h
          rw [h] at hbb hx
          have h2 := of_decide_eq_true hbb
          have hlt : m' < E.length := by rw [← keysE_len]; exact h2.1
          rw [← hx, ← h2.2]
          unfold getV keysE ky
          simp [hlt]
        have hx0 : bb = false → x = ent0 := by
          intro h
          rw [h] at hx
          rw [← hx]; rfl
        have HX := Lib.hid (And.intro hxq hx0)
        clear hm' hf4 hbb hx hxq hx0
        subst he4
        obtain ⟨xk, xv, xg⟩ := x
        unfold entV
        dsimp only
        have HB5 := Lib.hid (heap_alloc_new w4 (.cells #[.int .u64 xk, .int .u64 xv, .bool xg] 31))
        have d1 : decide ((m' : Int) < 0) = false := decide_eq_false (by omega)
        have d2 : decide (i < m') = false := decide_eq_false (by omega)
        have he := ent_neq
        have HF5 : Hid (Fr w2 (w4.alloc (.cells #[.int .u64 xk, .int .u64 xv, .bool xg] 31))) := HF4.out.alloc _
        have FIN : Hid (∀ m2 : Nat, IsRank (keysE E) p m2 → (q < p ∨ m2 ≤ m') ∧ (p < q ∨ m' ≤ m2)) := fun m2 h2 => by
          rcases Int.lt_trichotomy p q with h | h | h
          · exact ⟨.inr (rank_mono HRI.out h2 HM.out (by omega)), .inl h⟩
          · exact ⟨.inr (rank_mono HRI.out h2 HM.out (by omega)), .inr (rank_mono HRI.out HM.out h2 (by omega))⟩
          · exact ⟨.inl h, .inr (rank_mono HRI.out HM.out h2 (by omega))⟩
        have NEX : Hid (∀ m2 : Nat, IsRank (keysE E) (q + 1) m2 → m2 = if bb = true then m' + 1 else m') := fun m2 h2 => by
          rw [rank_next HRI.out HM.out h2, ← HBB.out]
          simp only [decide_eq_true_eq]
        have wm : IntKind.i64.wrap ((m' : Int) + 1) = (m' : Int) + 1 := wrap_i64_in _ (by omega) (by omega)
        by_cases hmax : q < 18446744073709551615
        · have d3 : decide (q < 18446744073709551615) = true := decide_eq_true hmax
          have wq : IntKind.u64.wrap (q + 1) = q + 1 := wrap_u64_in _ (by omega) (by omega)
          have RN : Hid (∀ w', Fr w2 w' → Calls Try.prog 10 #[.pointer (some ⟨r, 0, none⟩), .int .u64 (q + 1)] w' fun e w'' => Fr w' w'' ∧ e = .returned (.int .i64 (if bb = true then (m' : Int) + 1 else m'))) :=
            fun w' h => (RRK.out (q + 1) w' (by omega) h).mono fun _ _ ⟨h1, m2, h2, h3⟩ => ⟨h1, by rw [h3, NEX.out m2 h2]; split <;> simp⟩
          clear NEX
          cases bb with
          | true =>
            obtain rfl : xk = q := HX.out.1 rfl
            have RN' : Hid (∀ w', Fr w2 w' → Calls Try.prog 10 #[.pointer (some ⟨r, 0, none⟩), .int .u64 (xk + 1)] w' fun e w'' => Fr w' w'' ∧ e = .returned (.int .i64 ((m' : Int) + 1))) := RN.out
            go_wp2_with fail
            refine (RN'.out _ HF5.out).mono ?_
            rintro _ w6 ⟨hf6, rfl⟩
            have HF6 : Hid (Fr w2 w6) := HF5.out.trans hf6
            clear hf6
            go_wp2_with fail
            refine (RRK.out p w6 hp HF6.out).mono ?_
            rintro _ wz ⟨hfz, m2, hm2, rfl⟩
            have HFZ : Hid (Fr w2 wz) := HF6.out.trans hfz
            obtain ⟨c1, c2⟩ := FIN.out m2 hm2
            clear hm2 hfz
            rcases Int.lt_trichotomy p xk with h | h | h
            · have k1 : decide (p > xk) = false := decide_eq_false (by omega)
              have k2 : decide (p < xk) = true := decide_eq_true h
              have k3 : decide (m2 ≤ m') = true := decide_eq_true (by omega)
              clear c1 c2
              go_wp2_with fail
              go_ret
              exact ⟨rfl, HF2.out.trans HFZ.out⟩
            · have k1 : decide (p > xk) = false := decide_eq_false (by omega)
              have k2 : decide (p < xk) = false := decide_eq_false (by omega)
              have k3 : decide (m2 ≤ m') = true := decide_eq_true (by omega)
              have k4 : decide (m' ≤ m2) = true := decide_eq_true (by omega)
              clear c1 c2 h
              go_wp2_with fail
              go_ret
              exact ⟨rfl, HF2.out.trans HFZ.out⟩
            · have k1 : decide (p > xk) = true := decide_eq_true (by omega)
              have k2 : decide (p < xk) = false := decide_eq_false (by omega)
              have k4 : decide (m' ≤ m2) = true := decide_eq_true (by omega)
              clear c1 c2
              go_wp2_with fail
              go_ret
              exact ⟨rfl, HF2.out.trans HFZ.out⟩
          | false =>
            obtain ⟨rfl, rfl, rfl⟩ : xk = 0 ∧ xv = 0 ∧ xg = false := by
              have := HX.out.2 rfl
              unfold ent0 at this
              simpa using this
            have e0 : eqE ⟨0, 0, false⟩ ⟨0, 0, false⟩ = true := rfl
            have RN' : Hid (∀ w', Fr w2 w' → Calls Try.prog 10 #[.pointer (some ⟨r, 0, none⟩), .int .u64 (q + 1)] w' fun e w'' => Fr w' w'' ∧ e = .returned (.int .i64 (m' : Int))) := RN.out
            have e1 : ((m' : Int) == (m' : Int) + 1) = false := beq_eq_false_iff_ne.2 (by omega)
            go_wp2_with fail
            refine (RN'.out _ HF5.out).mono ?_
            rintro _ w6 ⟨hf6, rfl⟩
            have HF6 : Hid (Fr w2 w6) := HF5.out.trans hf6
            clear hf6
            go_wp2_with fail
            refine (RN'.out w6 HF6.out).mono ?_
            rintro _ w7 ⟨hf7, rfl⟩
            have HF7 : Hid (Fr w2 w7) := HF6.out.trans hf7
            clear hf7
            go_wp2_with fail
            refine (RRK.out p w7 hp HF7.out).mono ?_
            rintro _ wz ⟨hfz, m2, hm2, rfl⟩
            have HFZ : Hid (Fr w2 wz) := HF7.out.trans hfz
            obtain ⟨c1, c2⟩ := FIN.out m2 hm2
            clear hm2 hfz
            rcases Int.lt_trichotomy p q with h | h | h
            · have k1 : decide (p > q) = false := decide_eq_false (by omega)
              have k2 : decide (p < q) = true := decide_eq_true h
              have k3 : decide (m2 ≤ m') = true := decide_eq_true (by omega)
              clear c1 c2
              go_wp2_with fail
              go_ret
              exact ⟨rfl, HF2.out.trans HFZ.out⟩
            · have k1 : decide (p > q) = false := decide_eq_false (by omega)
              have k2 : decide (p < q) = false := decide_eq_false (by omega)
              have k3 : decide (m2 ≤ m') = true := decide_eq_true (by omega)
              have k4 : decide (m' ≤ m2) = true := decide_eq_true (by omega)
              clear c1 c2 h
              go_wp2_with fail
              go_ret
              exact ⟨rfl, HF2.out.trans HFZ.out⟩
            · have k1 : decide (p > q) = true := decide_eq_true (by omega)
              have k2 : decide (p < q) = false := decide_eq_false (by omega)
              have k4 : decide (m' ≤ m2) = true := decide_eq_true (by omega)
              clear c1 c2
              go_wp2_with fail
              go_ret
              exact ⟨rfl, HF2.out.trans HFZ.out⟩
        · have d3 : decide (q < 18446744073709551615) = false := decide_eq_false hmax
          clear NEX
          cases bb with
          | true =>
            obtain rfl : xk = q := HX.out.1 rfl
            go_wp2_with fail
            refine (RRK.out p _ hp HF5.out).mono ?_
            rintro _ wz ⟨hfz, m2, hm2, rfl⟩
            have HFZ : Hid (Fr w2 wz) := HF5.out.trans hfz
            obtain ⟨c1, c2⟩ := FIN.out m2 hm2
            clear hm2 hfz
            rcases Int.lt_trichotomy p xk with h | h | h
            · have k1 : decide (p > xk) = false := decide_eq_false (by omega)
              have k2 : decide (p < xk) = true := decide_eq_true h
              have k3 : decide (m2 ≤ m') = true := decide_eq_true (by omega)
              clear c1 c2
              go_wp2_with fail
              go_ret
              exact ⟨rfl, HF2.out.trans HFZ.out⟩
            · have k1 : decide (p > xk) = false := decide_eq_false (by omega)
              have k2 : decide (p < xk) = false := decide_eq_false (by omega)
              have k3 : decide (m2 ≤ m') = true := decide_eq_true (by omega)
              have k4 : decide (m' ≤ m2) = true := decide_eq_true (by omega)
              clear c1 c2 h
              go_wp2_with fail
              go_ret
              exact ⟨rfl, HF2.out.trans HFZ.out⟩
            · have k1 : decide (p > xk) = true := decide_eq_true (by omega)
              have k2 : decide (p < xk) = false := decide_eq_false (by omega)
              have k4 : decide (m' ≤ m2) = true := decide_eq_true (by omega)
              clear c1 c2
              go_wp2_with fail
              go_ret
              exact ⟨rfl, HF2.out.trans HFZ.out⟩
          | false =>
            obtain ⟨rfl, rfl, rfl⟩ : xk = 0 ∧ xv = 0 ∧ xg = false := by
              have := HX.out.2 rfl
              unfold ent0 at this
              simpa using this
            have e0 : eqE ⟨0, 0, false⟩ ⟨0, 0, false⟩ = true := rfl
            go_wp2_with fail
            refine (RRK.out p _ hp HF5.out).mono ?_
            rintro _ wz ⟨hfz, m2, hm2, rfl⟩
            have HFZ : Hid (Fr w2 wz) := HF5.out.trans hfz
            obtain ⟨c1, c2⟩ := FIN.out m2 hm2
            clear hm2 hfz
            rcases Int.lt_trichotomy p q with h | h | h
            · have k1 : decide (p > q) = false := decide_eq_false (by omega)
              have k2 : decide (p < q) = true := decide_eq_true h
              have k3 : decide (m2 ≤ m') = true := decide_eq_true (by omega)
              clear c1 c2
              go_wp2_with fail
              go_ret
              exact ⟨rfl, HF2.out.trans HFZ.out⟩
            · have k1 : decide (p > q) = false := decide_eq_false (by omega)
              have k2 : decide (p < q) = false := decide_eq_false (by omega)
              have k3 : decide (m2 ≤ m') = true := decide_eq_true (by omega)
              have k4 : decide (m' ≤ m2) = true := decide_eq_true (by omega)
              clear c1 c2 h
              go_wp2_with fail
              go_ret
              exact ⟨rfl, HF2.out.trans HFZ.out⟩
            · have k1 : decide (p > q) = true := decide_eq_true (by omega)
              have k2 : decide (p < q) = false := decide_eq_false (by omega)
              have k4 : decide (m' ≤ m2) = true := decide_eq_true (by omega)
              clear c1 c2
              go_wp2_with fail
              go_ret
              exact ⟨rfl, HF2.out.trans HFZ.out⟩
end Go.Proofs.Ytelpbbkmkighfaa
namespace Go.Proofs.Ytelpbbkmkighfaa.rowPlaces
open Go.ChangeShapes Go.WideShapes Go.ChangeAt Go.RowKit Go.Inc

open Go.Run

set_option maxRecDepth 100000 in
theorem contract (H : Type) (enc : TypeId × Value → H) (W : World) (base : Nat) (args : Array Value) (ds gs : List (DataW H)) (before : List MemPlace)
    (hval : ∀ (j : Nat) t v, Try.f3.params[j]? = some t → args[j]? = some v → Value.okWide Try.prog W .any base t v)
    (hW : DataW.Whole enc Try.prog Try.f3.params.toList Rows.runPlacesSpec.vars false W args.toList ds gs before) (hk : Rows.uptoSmall H (ds ++ gs) = true) :
    Calls Try.prog 3 args W fun e W' => ∃ v, e = .returned v ∧ Rows.runPlacesSpec.post enc Try.prog Try.f3 false true false false W args v W' := by
  have hW' := hW
  obtain ⟨p, q, hA0, hV, rfl, hfz, hnd⟩ := hW
  have hA : DataW.TrodAll enc Try.prog W 0 (fun _ => true) true Try.f3.params.toList args.toList ds p := hA0
  rw [Try.params3] at hA hval
  obtain ⟨v0, vs0, d0, ds0, p0, q0, hargs, rfl, rfl, h0, r0⟩ := trodAll_cons hA
  obtain ⟨v1, vs1, d1, ds1, p1, q1, rfl, rfl, rfl, h1, r1⟩ := trodAll_cons r0
  obtain ⟨v2, vs2, d2, ds2, p2, q2, rfl, rfl, rfl, h2, r2⟩ := trodAll_cons r1
  obtain ⟨v3, vs3, d3, ds3, p3, q3, rfl, rfl, rfl, h3, r3⟩ := trodAll_cons r2
  obtain ⟨rfl, rfl, rfl⟩ := trodAll_nil r3
  obtain rfl : args = #[v0, v1, v2, v3] := by cases args; simp_all
  obtain ⟨rfl, rfl⟩ := trodVars_none hV
  have hk2 := bulk_small hk
  simp only [List.append_nil, Rows.uptoBulkAll] at hk2
  obtain ⟨a0, len0, cap0, rfl⟩ := okWide_slice Try.underlying22 (hval 0 22 v0 rfl rfl)
  obtain ⟨fuel0, hf0⟩ := h0
  obtain ⟨A0, n0, c0, xs0, hcs0, hn0, hc0, hm0, hrd0, hd0⟩ := open_rows encells (fun x _ => EntOk x) Try.underlying22 rfl (by decide) (fun _ => rfl) (el_ent) hf0
  simp [Value.cells] at hcs0
  obtain ⟨rfl, rfl, rfl⟩ := hcs0
  have hl0 : xs0.length + 1 ≤ Rows.uptoBulk d0 := bulk_rows hd0
  obtain ⟨x1, rfl, rfl, rfl, w1⟩ := open_int Try.underlying3 (hval 1 3 v1 rfl rfl) h1
  have b1 : -9223372036854775808 ≤ x1 ∧ x1 ≤ 9223372036854775807 := by simpa [Lit.wf, IntKind.min, IntKind.max, IntKind.signed, IntKind.bits] using w1
  obtain ⟨x2, rfl, rfl, rfl, w2⟩ := open_int Try.underlying23 (hval 2 23 v2 rfl rfl) h2
  have b2 : 0 ≤ x2 ∧ x2 ≤ 18446744073709551615 := by simpa [Lit.wf, IntKind.min, IntKind.max, IntKind.signed, IntKind.bits] using w2
  obtain ⟨x2, rfl⟩ := Int.eq_ofNat_of_zero_le b2.1
  obtain ⟨x3, rfl, rfl, rfl, w3⟩ := open_int Try.underlying23 (hval 3 23 v3 rfl rfl) h3
  have b3 : 0 ≤ x3 ∧ x3 ≤ 18446744073709551615 := by simpa [Lit.wf, IntKind.min, IntKind.max, IntKind.signed, IntKind.bits] using w3
  obtain ⟨x3, rfl⟩ := Int.eq_ofNat_of_zero_le b3.1
  have hE0 : ∀ e ∈ xs0, EntOk e := fun y hy => by
    obtain ⟨d', h1, _⟩ := bulk_elem hd0 y hy
    exact h1
  refine (runPlaces_calls xs0 a0 len0 cap0 x1 x2 x3 hn0 (by omega) (by omega) hE0 (by omega) (by omega) W hrd0).mono fun e W' ⟨he, hg⟩ => ?_
  subst he
  exact ⟨_, rfl, law_post laidOut rfl 4 rfl Try.underlying4 (fun ds h => by
    match ds, h with
    | [_, _, _, _], _ => rfl) (by kernel_rfl) hW' hg⟩

set_option maxRecDepth 100000 in
theorem lifted (os : Os) (started : os.Started) (H : Type) (enc : TypeId × Value → H) (F : Stop.Interp) :
    ReturnsInHanded {} Try.checked os 3 .any ((Rows.OpenSpec.upto Rows.runPlacesSpec).pre6 enc Try.prog Try.f3 Rows.runPlacesUptoRow.domain false) (((Rows.OpenSpec.upto Rows.runPlacesSpec).at F).post enc Try.prog Try.f3 false true false false) := by
  refine returnsInHanded_of_cond (C := Try.checked) (s := Rows.OpenSpec.upto Rows.runPlacesSpec) (k := Rows.uptoSmall) rfl own started (by kernel_rfl) Try.func3
    (OpenSpec.witness (enc := enc) (C := Try.checked) (s := Rows.OpenSpec.upto Rows.runPlacesSpec) (k := Rows.uptoSmall) rfl false ⟨#[], #[.slice none 0 0, .int .i64 0, .int .u64 0, .int .u64 0], []⟩ 8 (by kernel_rfl) (by kernel_rfl) (by kernel_rfl)
      (x := ([.nil, .lit (.int .i64 0), .lit (.int .u64 0), .lit (.int .u64 0)], [], [])) (by kernel_rfl) rfl (by kernel_rfl)) ?_
  intro W base args ds gs before hval hW _ hk _
  exact contract H enc W base args ds gs before hval hW hk

theorem proved : Rows.RunPlacesUptoSaid :=
  OpenClaim.holds_of_cond 3 Try.f3 rfl rfl rfl rfl rfl rfl rfl ⟨rfl, rfl, rfl, rfl, rfl⟩ rfl rfl rfl rfl rfl (by kernel_rfl) Try.func3 (by kernel_rfl)
    (of_decide_eq_true (by kernel_rfl)) (by unfold Func.isWrapper; first | (rw [if_pos (by decide +kernel)]; kernel_rfl) | (rw [if_neg (by decide +kernel)]; exact ⟨rfl, rfl⟩))
    (fun os started H enc _ F => lifted os started H enc F)

end Go.Proofs.Ytelpbbkmkighfaa.rowPlaces
#print axioms Go.Proofs.Ytelpbbkmkighfaa.rowPlaces.proved
