/- Parts of this proof, one behind the other: Alk, Cop2. -/
import Derived.Deep.RegionHeld3
import Derived.Test.YtelpbbkmkighfaaGreatQV
import Derived.Test.YtelpbbkmkighfaaGreatQJ
namespace Go.Proofs.YtelpbbkmkighfaaGreat
set_option maxRecDepth 100000
open Go.RowKit Go.Inc Go.Run
attribute [local go_sem] run_store_float

set_option maxHeartbeats 16000000 in
theorem alike_calls (r p x : Nat) (eps : Int) (E : List Ent) (Ss : List (List Seg)) (hl : E.length ≤ 268435456) (hN : Ss.length ≤ 268435456) (hS : ∀ S ∈ Ss, S.length ≤ 268435456) (w : World)
    (hb : RunR w r p eps E Ss) (hx : RefR w x eps E Ss) :
    Calls Tryz.prog 12 #[.pointer (some ⟨r, 0, none⟩), .pointer (some ⟨x, 0, none⟩)] w fun e w' => e = .returned (.bool true) ∧ Fr w w' := by
  obtain ⟨n, hn⟩ : ∃ n, E.length = n := ⟨_, rfl⟩
  obtain ⟨N, hNn⟩ : ∃ n, Ss.length = n := ⟨_, rfl⟩
  obtain ⟨Ae, ce, h1, h2⟩ := hx.ents
  obtain ⟨Al, cl, vs, h3, h4, h5⟩ := hx.levels
  rw [hn] at h1
  rw [hNn] at h3
  have LEN : Hid (∀ w', Fr w w' → Calls Tryz.prog 23 #[.pointer (some ⟨r, 0, none⟩)] w' fun e w'' => e = .returned (.int .i64 (n : Nat)) ∧ Fr w' w'') := fun w' h => (rlen_calls r p eps E Ss w' (hb.fr h)).mono fun _ _ ⟨h1, h2⟩ => ⟨by rw [hn] at h1; exact h1, by rw [h2]; exact Fr.refl _⟩
  have EPS : Hid (∀ w', Fr w w' → Calls Tryz.prog 40 #[.pointer (some ⟨p, 0, none⟩)] w' fun e w'' => e = .returned (.int .i64 eps) ∧ Fr w' w'') := fun w' h => (peps_calls p eps (keysE E) Ss w' (hb.fr h).pile).mono fun _ _ ⟨h1, h2⟩ => ⟨h1, by rw [h2]; exact Fr.refl _⟩
  have HGT : Hid (∀ w', Fr w w' → Calls Tryz.prog 24 #[.pointer (some ⟨p, 0, none⟩)] w' fun e w'' => e = .returned (.int .i64 (N : Nat)) ∧ Fr w' w'') := fun w' h => (pheight_calls p eps (keysE E) Ss w' (hb.fr h).pile).mono fun _ _ ⟨h1, h2⟩ => ⟨by rw [hNn] at h1; exact h1, by rw [h2]; exact Fr.refl _⟩
  have LST : Hid (∀ w', Fr w w' → Calls Tryz.prog 13 #[.pointer (some ⟨r, 0, none⟩)] w' fun e w'' => ∃ A' c', e = .returned (.slice A' n c') ∧ RdC w'' A' (E.flatMap encells) ∧ Fr w' w'') := fun w' h =>
    (rlist_calls r p eps E Ss hl w.heap.size w' h.size (hb.fr h)).mono fun _ _ ⟨A', c', h1, h2, h3⟩ => ⟨A', c', by rw [← hn]; exact h1, h2.rd, h3⟩
  have LEV : Hid (∀ w', Fr w w' → Calls Tryz.prog 14 #[.pointer (some ⟨r, 0, none⟩)] w' fun e w'' => ∃ g us, e = .returned (.slice (some ⟨g, 0, none⟩) N N) ∧ (RdC w'' (some ⟨g, 0, none⟩) us ∧ RowsR w'' us Ss) ∧ Fr w' w'') := fun w' h =>
    (rlevels_calls r p eps E Ss hN hS w.heap.size w' h.size (hb.fr h)).mono fun _ _ ⟨g, us, h1, _, h3, _, h5, h6⟩ => ⟨g, us, by rw [← hNn]; exact h1, ⟨RdC.blk h3, h5.toR⟩, h6⟩
  have SLI : Hid (∀ w' A' c', Fr w w' → RdC w' A' (E.flatMap encells) → Calls Tryz.prog 11 #[.slice A' n c', .slice Ae n ce] w' fun e w'' => e = .returned (.bool true) ∧ Fr w' w'') := fun w' A' c' h h' => samelist_calls E A' n c' Ae ce hn.symm (by omega) w' h' (h2.fr h)
  have SLV : Hid (∀ w' g us, Fr w w' → RdC w' (some ⟨g, 0, none⟩) us → RowsR w' us Ss → Calls Tryz.prog 41 #[.slice (some ⟨g, 0, none⟩) N N, .slice Al N cl] w' fun e w'' => e = .returned (.bool true) ∧ Fr w' w'') := fun w' g us h h' h'' => samelevels_calls Ss (some ⟨g, 0, none⟩) N N Al cl us vs hNn.symm (by omega) hS w' h' (h4.fr h) h'' (RowsR.fr h h5)
  have SZR : Hid (∀ (l : Int) w', -9223372036854775808 ≤ l ∧ l ≤ 9223372036854775807 → Fr w w' → Calls Tryz.prog 25 #[.pointer (some ⟨p, 0, none⟩), .int .i64 l] w' fun e w'' => e = .returned (.int .i64 (sizeV (keysE E) Ss l)) ∧ w'' = w') := fun l w' hl h => psize_calls p eps (keysE E) Ss l hl w' (hb.fr h).pile
  have SZX : Hid (∀ (l : Int) w', -9223372036854775808 ≤ l ∧ l ≤ 9223372036854775807 → Fr w w' → Calls Tryz.prog 36 #[.pointer (some ⟨x, 0, none⟩), .int .i64 l] w' fun e w'' => e = .returned (.int .i64 (sizeV (keysE E) Ss l)) ∧ w'' = w') := fun l w' hl h => r11size_calls x eps E Ss l hl w' (hx.fr h)
  have HALL : Hid (∀ w', Fr w w' → w'.cell? ⟨r, 0, none⟩ = some (.pointer (some ⟨p, 0, none⟩)) ∧ w'.cell? ⟨x, 0, none⟩ = some (.slice Ae n ce) ∧ w'.cell? ⟨x, 1, none⟩ = some (.int .i64 eps) ∧ w'.cell? ⟨x, 2, none⟩ = some (.slice Al N cl)) := fun w' h => ⟨h.cell hb.ptr, h.cell h1, h.cell hx.epsc, h.cell h3⟩
  have hNB : N ≤ 268435456 := by omega
  have e1 : ((n : Int) != (n : Int)) = false := by simp
  have e2 : ((N : Int) != (N : Int)) = false := by simp
  have e3 : (eps != eps) = false := by simp
  clear hb hx h1 h2 h3 h4 h5 hn hNn hl hN hS
  obtain ⟨k0, k1, k2, k3⟩ := HALL.out w (Fr.refl _)
  go_enter Tryz.func12, Tryz.ntmps12
  go_wp2_with fail
  go_region_held3 (fun w' => w'.cell? ⟨r, 0, none⟩ = some (.pointer (some ⟨p, 0, none⟩)) ∧ w'.cell? ⟨x, 0, none⟩ = some (.slice Ae n ce) ∧ w'.cell? ⟨x, 1, none⟩ = some (.int .i64 eps) ∧ w'.cell? ⟨x, 2, none⟩ = some (.slice Al N cl))
    (first | (refine HALL.out _ ?_; repeat (first | exact hfg | exact hff | exact hfe | exact hfd | exact hfc | exact hfb | exact hfa | exact Fr.refl _ | refine Fr.drew ?_)))
    (first
      | (go_at_call 23; refine (LEN.out _ (by (repeat (first | exact Fr.refl _ | refine Fr.drew ?_)))).mono ?_; rintro e wa ⟨rfl, qq⟩; have hfa : Fr w wa := Fr.trans (by (repeat (first | exact Fr.refl _ | refine Fr.drew ?_))) qq)
      | (go_at_call 40; refine (EPS.out _ (by (repeat (first | exact hfa | refine Fr.drew ?_)))).mono ?_; rintro e wb ⟨rfl, qq⟩; have hfb : Fr w wb := Fr.trans (by (repeat (first | exact hfa | refine Fr.drew ?_))) qq)
      | (go_at_call 24; refine (HGT.out _ (by (repeat (first | exact hfb | refine Fr.drew ?_)))).mono ?_; rintro e wd ⟨rfl, qq⟩; have hfc : Fr w wd := Fr.trans (by (repeat (first | exact hfb | refine Fr.drew ?_))) qq)
      | (go_at_call 13; refine (LST.out _ (by (repeat (first | exact hfc | refine Fr.drew ?_)))).mono ?_; rintro e we ⟨A', c', rfl, hrd, qq⟩; have hfd : Fr w we := Fr.trans (by (repeat (first | exact hfc | refine Fr.drew ?_))) qq)
      | (go_at_call 11; refine (SLI.out _ _ _ hfd hrd).mono ?_; rintro e wf ⟨rfl, qq⟩; have hfe : Fr w wf := hfd.trans qq)
      | (go_at_call 14; refine (LEV.out _ (by (repeat (first | exact hfe | refine Fr.drew ?_)))).mono ?_; rintro e wg ⟨g, us, rfl, hrv, qq⟩; have hff : Fr w wg := Fr.trans (by (repeat (first | exact hfe | refine Fr.drew ?_))) qq)
      | (go_at_call 41; refine (SLV.out _ _ _ hff hrv.1 hrv.2).mono ?_; rintro e wh ⟨rfl, qq⟩; have hfg : Fr w wh := hff.trans qq))
  have HF7 := Lib.hid hfg
  have HA7 : Hid (∀ w', Fr wh w' → w'.cell? ⟨r, 0, none⟩ = some (.pointer (some ⟨p, 0, none⟩)) ∧ w'.cell? ⟨x, 0, none⟩ = some (.slice Ae n ce) ∧ w'.cell? ⟨x, 1, none⟩ = some (.int .i64 eps) ∧ w'.cell? ⟨x, 2, none⟩ = some (.slice Al N cl)) := fun w' h => HALL.out w' (HF7.out.trans h)
  obtain ⟨w7, hw7⟩ : ∃ w7, w7 = wh := ⟨_, rfl⟩
  subst hw7
  clear hfa hfb hfc hfd hfe hff hfg hrd hrv qq
  clear k0 k1 k2 k3
  obtain ⟨k0, k1, k2, k3⟩ := HA7.out w7 (Fr.refl _)
  go_wp2_with fail
  go_loopw [5] (fun v wr => ∃ i : Int, v = .int .i64 i ∧ -1 ≤ i ∧ i ≤ (N : Int) + 2 ∧ wr = w7) (fun v _ => ((N : Int) + 3 - intOf v).toNat)
  case atStart => exact ⟨-1, rfl, by omega, by omega, rfl⟩
  case round =>
    obtain ⟨i, rfl, hi1, hi2, hww⟩ := hrel
    obtain rfl : w7 = wr := hww.symm
    have wN : IntKind.i64.wrap ((N : Int) + 1) = (N : Int) + 1 := wrap_i64_in _ (by omega) (by omega)
    by_cases hle : i ≤ (N : Int) + 1
    · have g1 : decide (i ≤ (N : Int) + 1) = true := decide_eq_true hle
      have wi : IntKind.i64.wrap (i + 1) = i + 1 := wrap_i64_in _ (by omega) (by omega)
      have S1 := Lib.hid (SZR.out i w7 (by omega) HF7.out)
      have S2 := Lib.hid (SZX.out i w7 (by omega) HF7.out)
      obtain ⟨z, hz⟩ : ∃ z, sizeV (keysE E) Ss i = z := ⟨_, rfl⟩
      rw [hz] at S1 S2
      have e4 : (z != z) = false := by simp
      clear hz
      go_wp2_with fail
      refine S1.out.mono ?_
      rintro _ _ ⟨rfl, rfl⟩
      go_wp2_with fail
      refine S2.out.mono ?_
      rintro _ _ ⟨rfl, rfl⟩
      go_wp2_with fail
      exact ⟨⟨i + 1, rfl, by omega, by omega, trivial⟩, by simp only [intOf]; omega⟩
    · have g1 : decide (i ≤ (N : Int) + 1) = false := decide_eq_false hle
      go_wp2_with fail
      go_ret
      exact ⟨rfl, HF7.out⟩
end Go.Proofs.YtelpbbkmkighfaaGreat
namespace Go.Proofs.YtelpbbkmkighfaaGreat
set_option maxRecDepth 100000
open Go.RowKit Go.Inc Go.Run

def sblk : Value → Option Nat
  | .slice A _ _ => ablk A
  | _ => none
/-- Of two slices the first one's block lies ahead. -/
def Dis (u v : Value) : Prop := ∀ k k', sblk u = some k → sblk v = some k' → k < k'
theorem Own.set {w : World} {base : Nat} {e : TypeId} {size : Nat} {A : Option Addr} {n c : Nat} {xs : List Value} (h : Own w base e size A n c xs) (b o : Nat) (v : Value) : ∃ xs', Own (w.setCell ⟨b, o, none⟩ v) base e size A n c xs' := by
  obtain ⟨h1, h2⟩ := h
  rcases h2 with h2 | ⟨g, cap, cur, r1, r2, r3, r4, r5, r6, r7⟩
  · exact ⟨xs, h1, .inl h2⟩
  · by_cases hg : b = g
    · subst hg
      have hcap : n * size ≤ cap * size := Nat.mul_le_mul_right _ r4
      refine ⟨(cur.setIfInBounds o v).toList.take (n * size), ?_, .inr ⟨b, cap, _, r1, r2, blk_set r3 o v, r4, r5, by rw [Array.size_setIfInBounds]; exact r6, rfl⟩⟩
      rw [List.length_take, Array.length_toList, Array.size_setIfInBounds, r6]
      omega
    · exact ⟨xs, h1, .inr ⟨g, cap, cur, r1, r2, blk_set_ne r3 (by simpa using hg) v, r4, r5, r6, r7⟩⟩
theorem own_some {w : World} {base : Nat} {e : TypeId} {size : Nat} {A : Option Addr} {n c : Nat} {xs : List Value} (h : Own w base e size A n c xs) (h0 : 0 < n) : ∃ b, A = some ⟨b, 0, none⟩ := by
  rcases h.2 with ⟨_, h2⟩ | ⟨g, cap, cur, r1, _⟩
  · omega
  · injection r1 with r1
    exact ⟨g, r1⟩
theorem own_cells {w : World} {base : Nat} {e : TypeId} {size b n c : Nat} {xs : List Value} (h : Own w base e size (some ⟨b, 0, none⟩) n c xs) (k : Nat) (hk : k < n * size) : (∃ u, w.cell? ⟨b, k, none⟩ = some u) ∧ w.frozen? ⟨b, k, none⟩ = false := by
  obtain ⟨cs, h2⟩ := own_ty h (k := b) rfl
  refine ⟨?_, blk_frozen h2 k⟩
  have hl := h.len
  refine ⟨xs[k]'(by omega), ?_⟩
  have h3 := h.rd.get k (xs[k]'(by omega)) (List.getElem?_eq_getElem _)
  rwa [Nat.zero_add] at h3
theorem RowsO.mvs {T : Nat → Prop} {w w' : World} {base : Nat} : ∀ {vs : List Value} {Ss : List (List Seg)}, RowsO w base vs Ss → Mv T w w' → (∀ v ∈ vs, ∀ k, sblk v = some k → ¬ T k) → RowsO w' base vs Ss
  | [], [], _, _, _ => trivial
  | v :: vs, S :: Ss, h, hm, hT => by
    obtain ⟨⟨A, c, h1, h2⟩, h4⟩ := h
    exact ⟨⟨A, c, h1, h2.mv hm (fun k hk => hT v (List.mem_cons_self ..) k (by rw [h1]; exact hk))⟩, RowsO.mvs h4 hm (fun v hv => hT v (List.mem_cons_of_mem _ hv))⟩
  | [], _ :: _, h, _, _ => h.elim
  | _ :: _, [], h, _, _ => h.elim
theorem rowsO_lt {w : World} {base : Nat} : ∀ {vs : List Value} {Ss : List (List Seg)}, RowsO w base vs Ss → ∀ v ∈ vs, ∀ k, sblk v = some k → base ≤ k
  | [], [], _, v, hv, _, _ => by simp at hv
  | v :: vs, S :: Ss, h, u, hu, k, hk => by
    obtain ⟨⟨A, c, h1, h2⟩, h4⟩ := h
    rcases List.mem_cons.1 hu with rfl | hu
    · rw [h1] at hk; exact (h2.lt k hk).1
    · exact rowsO_lt h4 u hu k hk
  | [], _ :: _, h, _, _, _, _ => h.elim
  | _ :: _, [], h, _, _, _, _ => h.elim
theorem IsPile.low {T : Nat → Prop} {w w' : World} {p base : Nat} {eps : Int} {K : List Int} {Ss : List (List Seg)} (h : IsPile w p base eps K Ss) (hm : Mv T w w') (hT : ∀ k, T k → k < base) : IsPile w' p base eps K Ss := by
  obtain ⟨Ak, ck, Al, cl, vs, h1, h2, h3, h4, h5⟩ := h
  exact ⟨Ak, ck, Al, cl, vs, h1, hm.blk h2 (fun h => by have := hT _ h; omega), h3.mv hm (fun k hk h => by have := hT _ h; have := (h3.lt k hk).1; omega), h4.mv hm (fun k hk h => by have := hT _ h; have := (h4.lt k hk).1; omega), h5.mvs hm (fun v hv k hk h => by have := hT _ h; have := rowsO_lt h5 v hv k hk; omega)⟩
theorem IsRun.low {T : Nat → Prop} {w w' : World} {r base : Nat} {eps : Int} {E : List Ent} {Ss : List (List Seg)} (h : IsRun w r base eps E Ss) (hm : Mv T w w') (hT : ∀ k, T k → k < base) : IsRun w' r base eps E Ss := by
  obtain ⟨p, Ae, ce, Al, cl, vs, h1, h2, h3, h4, h5, h6⟩ := h
  exact ⟨p, Ae, ce, Al, cl, vs, h1, hm.blk h2 (fun h => by have := hT _ h; omega), h3.low hm hT, h4.mv hm (fun k hk h => by have := hT _ h; have := (h4.lt k hk).1; omega), h5.mv hm (fun k hk h => by have := hT _ h; have := (h5.lt k hk).1; omega), h6.mvs hm (fun v hv k hk h => by have := hT _ h; have := rowsO_lt h6 v hv k hk; omega)⟩
theorem IsRef.low {T : Nat → Prop} {w w' : World} {x base : Nat} {eps : Int} {E : List Ent} {Ss : List (List Seg)} (h : IsRef w x base eps E Ss) (hm : Mv T w w') (hT : ∀ k, T k → k < base) : IsRef w' x base eps E Ss := by
  obtain ⟨Ae, ce, Al, cl, vs, h1, h2, h4, h5, h6⟩ := h
  exact ⟨Ae, ce, Al, cl, vs, h1, hm.blk h2 (fun h => by have := hT _ h; omega), h4.mv hm (fun k hk h => by have := hT _ h; have := (h4.lt k hk).1; omega), h5.mv hm (fun k hk h => by have := hT _ h; have := (h5.lt k hk).1; omega), h6.mvs hm (fun v hv k hk h => by have := hT _ h; have := rowsO_lt h6 v hv k hk; omega)⟩
/-- What comes of run.New, with where it stands. -/
def NewOutI (E : List Ent) (eps : Int) (w : World) (e : Ending) (w' : World) : Prop :=
  Fr w w' ∧ ((∃ v, v ≠ 0 ∧ ((eps < 2 ∨ 64 < eps) ∧ v = 1 ∨ (2 ≤ eps ∧ eps ≤ 64) ∧ EntsV E v) ∧ e = .returned (.tuple #[.pointer none, .int .i64 v])) ∨
    ((2 ≤ eps ∧ eps ≤ 64) ∧ EntsV E 0 ∧ ∃ r Ss, e = .returned (.tuple #[.pointer (some ⟨r, 0, none⟩), .int .i64 0]) ∧ LevelsOf (eps - 1) (keysE E) Ss ∧ IsRun w' r w.heap.size eps E Ss))
theorem rnewI_any (E : List Ent) (A : Option Addr) (n c : Nat) (eps : Int) (hn : n = E.length) (hc : n ≤ c) (hl : n ≤ 268435456) (hE : ∀ e ∈ E, EntOk e) (w : World) (hr : RdC w A (E.flatMap encells)) :
    Calls Tryz.prog 8 #[.slice A n c, .int .i64 eps] w (NewOutI E eps w) := by
  by_cases he : 2 ≤ eps ∧ eps ≤ 64
  · obtain ⟨e0, rfl⟩ : ∃ e0 : Nat, eps = e0 := ⟨eps.toNat, by omega⟩
    refine (rnew_calls E A n c e0 hn hc hl hE (by omega) w hr).mono fun e w' ⟨hf, hor⟩ => ⟨hf, ?_⟩
    rcases hor with ⟨v, h1, h2, h3⟩ | ⟨h1, r, Ss, h2, h3, h4⟩
    · exact .inl ⟨v, h1, .inr ⟨he, h2⟩, h3⟩
    · exact .inr ⟨he, h1, r, Ss, h2, h3, h4⟩
  · refine (rnew_arg A n c eps (by omega) w).mono fun e w' ⟨h1, h2⟩ => ?_
    subst h2
    exact ⟨Fr.refl _, .inl ⟨1, by decide, .inl ⟨by omega, rfl⟩, h1⟩⟩

set_option maxHeartbeats 2000000 in
theorem copied2_calls (Av : Option Addr) (N cv : Nat) (vs : List Value) (Ss : List (List Seg)) (hN : N = Ss.length) (hNl : N ≤ 268435456) (hS : ∀ S ∈ Ss, S.length ≤ 268435456) (base : Nat) (w : World) (hb : base ≤ w.heap.size) (hrv : RdC w Av vs) (hrows : RowsR w vs Ss) :
    Calls Tryz.prog 43 #[.slice Av N cv] w fun e w' => ∃ g us, e = .returned (.slice (some ⟨g, 0, none⟩) N N) ∧ base ≤ g ∧ Blk w' g us 44 ∧ us.length = N ∧ RowsO w' base us Ss ∧ us.Pairwise Dis ∧ Fr w w' := by
  have hmk := fun W => run_mk1 (P := Tryz.prog) 42 44 (.slice none 0 0) 24 Tryz.underlying42 info_row rfl W (N : Int) N rfl (by omega) (by omega)
  have HNV := Lib.hid hN
  have HS := Lib.hid hS
  have HRV := Lib.hid hrv
  have HROWS := Lib.hid hrows
  have HB := Lib.hid hb
  clear hN hS hrv hrows hb
  go_enter Tryz.func43, Tryz.ntmps43
  go_wp2_with fail
  obtain ⟨g, hg⟩ : ∃ g, g = w.heap.size := ⟨_, rfl⟩
  obtain ⟨w1, hw1⟩ : ∃ w1, w1 = w.alloc (.cells (arr (List.replicate N (.slice none 0 0))) 44) := ⟨_, rfl⟩
  have hb1 : Hid (Blk w1 g (List.replicate N (.slice none 0 0)) 44) := by rw [hw1, hg]; exact Blk.new w _ _
  have hf1 : Hid (Fr w w1) := by rw [hw1]; exact (Fr.refl w).alloc _
  rw [← hw1, ← hg]
  have HG : Hid (w.heap.size = g) := hg.symm
  clear hw1 hg hmk
  go_loopw [11] (fun v wr => ∃ (i : Nat) (us : List Value), v = .int .i64 i ∧ i ≤ N ∧ Hid (us.length = i) ∧ Hid (Blk wr g (us ++ List.replicate (N - i) (.slice none 0 0)) 44) ∧ Hid (RowsO wr base us (Ss.take i)) ∧ Hid (us.Pairwise Dis) ∧ Hid (∀ u ∈ us, ∀ k, sblk u = some k → k < wr.heap.size) ∧ Hid (Fr w wr)) (fun v _ => N - (intOf v).toNat)
  case atStart => exact ⟨0, [], rfl, by omega, rfl, by rw [Hid]; simpa using hb1.out, trivial, List.Pairwise.nil, fun u hu => by simp at hu, hf1.out⟩
  case round =>
    obtain ⟨i, us, rfl, hin, hul, hbk, hrs, hpw, hlt9, hf⟩ := hrel
    rcases Nat.lt_or_ge i N with hlt | hge
    · have d1 : decide (i < N) = true := decide_eq_true hlt
      have d0 : (i : Int) < (N : Int) := by omega
      have hiS : i < Ss.length := by have := HNV.out; omega
      obtain ⟨S, hS⟩ : ∃ S, Ss[i] = S := ⟨_, rfl⟩
      have hSi : Ss[i]? = some S := by rw [List.getElem?_eq_getElem hiS, hS]
      obtain ⟨As, cs, hvs, hcs, hrs0⟩ := HROWS.out.at hSi
      obtain ⟨bv, ov, hAv, hcv⟩ := (HRV.out.fr hf.out).at (by have := HROWS.out.len; omega)
      subst hAv
      have x0 := hcv i _ hvs
      have hSm := HS.out S (by rw [← hS]; exact List.getElem_mem hiS)
      obtain ⟨M, hM⟩ : ∃ M, S.length = M := ⟨_, rfl⟩
      rw [hM] at x0 hcs hSm
      have HM := Lib.hid hM
      have HSI := Lib.hid hSi
      have CL := Lib.hid (clS_calls S As M cs hM.symm hSm wr.heap.size wr (Nat.le_refl _) (hrs0.fr hf.out))
      have wi : IntKind.i64.wrap ((i : Int) + 1) = (i : Int) + 1 := wrap_i64_in _ (by omega) (by omega)
      clear hcv hvs hS hSi hrs0 hM
      go_wp2_with fail
      refine CL.out.mono ?_
      rintro e w2 ⟨A3, c3, rfl, hown, hf2⟩
      have HOWN := Lib.hid hown
      have HF2 := Lib.hid hf2
      have hbk2 := hbk.out.fr hf2
      have z0 := hbk2.frozen i
      have z1 := hbk2.cell i (.slice none 0 0) (by
        rw [List.getElem?_append_right (by rw [hul.out]; exact Nat.le_refl _), hul.out, Nat.sub_self]
        obtain ⟨k, hk⟩ : ∃ k, N - i = k + 1 := ⟨N - i - 1, by omega⟩
        rw [hk]; rfl)
      have HBK2 := Lib.hid hbk2
      clear hown hf2 hbk2
      go_wp2_with fail
      have hms : Mv (one1 g) w2 (w2.setCell ⟨g, i, none⟩ (.slice A3 M c3)) := (Mv.refl (one1 g) w2).set (p := ⟨g, i, none⟩) (.inl rfl) _
      have hrsn := ((hrs.out.fr HF2.out).snoc (S := S) (by rw [HM.out]; exact HOWN.out.mono (Nat.le_trans HB.out hf.out.size))).mv hms (fun k h _ cs fr he => by
        have h9 := HBK2.out
        unfold Blk at h9
        rw [show k = g from h, h9] at he
        injection he with he; injection he with _ h9 _
        revert h9; decide)
      rw [HM.out] at hrsn
      refine ⟨⟨i + 1, us ++ [.slice A3 M c3], rfl, by omega, by rw [Hid, List.length_append, hul.out]; rfl, ?_, ?_, ?_, ?_, ?_⟩, by simp only [intOf]; omega⟩
      · have h1 := HBK2.out.set i (.slice A3 M c3)
        obtain ⟨k, hk⟩ : ∃ k, N - i = k + 1 := ⟨N - i - 1, by omega⟩
        rw [hk, set_rep us k _ _ i hul.out] at h1
        rw [Hid, show N - (i + 1) = k by omega]
        exact h1
      · have e9 : Ss.take (i + 1) = Ss.take i ++ [S] := by rw [List.take_add_one, HSI.out]; rfl
        rw [Hid, e9]; exact hrsn
      · refine List.pairwise_append.2 ⟨hpw.out, List.pairwise_singleton _ _, fun u hu v hv k k' hk hk' => ?_⟩
        obtain rfl : v = .slice A3 M c3 := by simpa using hv
        have h1 := hlt9.out u hu k hk
        have h2 := (HOWN.out.lt k' hk').1
        omega
      · intro u hu k hk
        have hsz : (w2.setCell ⟨g, i, none⟩ (.slice A3 M c3)).heap.size = w2.heap.size := by simp [World.setCell]
        have hs2 := HF2.out.size
        rw [hsz]
        rcases List.mem_append.1 hu with hu | hu
        · have := hlt9.out u hu k hk; omega
        · obtain rfl : u = .slice A3 M c3 := by simpa using hu
          exact (HOWN.out.lt k hk).2
      · exact (hf.out.trans HF2.out).mv hms (fun k hk => by rw [show k = g from hk, HG.out]; exact Nat.le_refl _)
    · obtain rfl : i = N := by omega
      have d1 : decide (i < i) = false := by simp
      have ht : Hid (Ss.take i = Ss) := List.take_of_length_le (by have := HNV.out; omega)
      go_wp2_with fail
      go_ret
      refine ⟨g, us, rfl, by rw [← HG.out]; exact HB.out, ?_, hul.out, ?_, hpw.out, hf.out⟩
      · have h1 := hbk.out
        rw [Nat.sub_self, List.replicate_zero, List.append_nil] at h1
        exact h1
      · have := hrs.out; rw [ht.out] at this; exact this
theorem rlevels2_calls (r p : Nat) (eps : Int) (E : List Ent) (Ss : List (List Seg)) (hN : Ss.length ≤ 268435456) (hS : ∀ S ∈ Ss, S.length ≤ 268435456) (base : Nat) (w : World) (hb : base ≤ w.heap.size) (h : RunR w r p eps E Ss) : Calls Tryz.prog 14 #[.pointer (some ⟨r, 0, none⟩)] w fun e w' => ∃ g us, e = .returned (.slice (some ⟨g, 0, none⟩) Ss.length Ss.length) ∧ base ≤ g ∧ Blk w' g us 44 ∧ us.length = Ss.length ∧ RowsO w' base us Ss ∧ us.Pairwise Dis ∧ Fr w w' := by
  obtain ⟨Al, cl, vs, h1, h2, h3⟩ := h.levels
  have CL := Lib.hid (copied2_calls Al Ss.length cl vs Ss rfl hN hS base w hb h2 h3)
  obtain ⟨N, hN'⟩ : ∃ N, Ss.length = N := ⟨_, rfl⟩
  rw [hN'] at h1 CL ⊢
  clear h h2 h3 hN' hN hS
  go_enter Tryz.func14, Tryz.ntmps14
  go_wp2_with fail
  refine CL.out.mono ?_
  rintro _ w2 ⟨g, us, rfl, h4, h5, h6, h7, h8, hf⟩
  have HO := Lib.hid (And.intro h4 (And.intro h5 (And.intro h6 (And.intro h7 (And.intro h8 hf)))))
  clear h4 h5 h6 h7 h8 hf
  go_wp2_with fail
  go_ret
  exact ⟨g, us, rfl, HO.out⟩
end Go.Proofs.YtelpbbkmkighfaaGreat
