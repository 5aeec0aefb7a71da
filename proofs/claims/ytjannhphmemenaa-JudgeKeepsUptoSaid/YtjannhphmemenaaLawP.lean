/- The law JudgePlays. -/
import Derived.Test.YtjannhphmemenaaLawF
namespace Go.Proofs.Ytjannhphmemenaa
set_option maxRecDepth 100000
open Go.RowKit Go.Inc Go.Jud Go.Maps Go.Sort

/-- An operation and an answer in memory. -/
structure SeenC where (o : OpV) (x : AnsC)
def scells (s : SeenC) : List Value := ocells s.o ++ acells s.x
theorem scells_len (s : SeenC) : (scells s).length = 9 := rfl
theorem seen_at {w : World} {b s : Nat} {x : SeenC} (h : ∀ j v, (scells x)[j]? = some v → w.cell? ⟨b, s + j, none⟩ = some v) :
    w.cell? ⟨b, s, none⟩ = some (.int .i64 x.o.kind) ∧ w.cell? ⟨b, s + 1, none⟩ = some (.int .u64 x.o.key) ∧ w.cell? ⟨b, s + 2, none⟩ = some (.int .u64 x.o.val) ∧
    w.cell? ⟨b, s + 3, none⟩ = some (.int .i64 x.x.a.code) ∧ w.cell? ⟨b, s + 4, none⟩ = some (.bool x.x.a.is) ∧ w.cell? ⟨b, s + 5, none⟩ = some (.int .u64 x.x.a.key) ∧ w.cell? ⟨b, s + 6, none⟩ = some (.int .u64 x.x.a.val) ∧
    w.cell? ⟨b, s + 7, none⟩ = some (.int .i64 x.x.a.num) ∧ w.cell? ⟨b, s + 8, none⟩ = some (.slice x.x.B x.x.a.list.length x.x.c) ∧ w.cell? ⟨b, s + 3 + 5, none⟩ = some (.slice x.x.B x.x.a.list.length x.x.c) :=
  ⟨h 0 _ rfl, h 1 _ rfl, h 2 _ rfl, h 3 _ rfl, h 4 _ rfl, h 5 _ rfl, h 6 _ rfl, h 7 _ rfl, h 8 _ rfl, h 8 _ rfl⟩
/-- The cells of a slice of the call's own, to be written. -/
theorem own_at {w : World} {base gA : Nat} {e : TypeId} {size n c : Nat} {xs : List Value} (h : Own w base e size (some ⟨gA, 0, none⟩) n c xs) {j : Nat} (hj : j < n * size) :
    ∃ v, w.cell? ⟨gA, j, none⟩ = some v ∧ w.frozen? ⟨gA, j, none⟩ = false := by
  obtain ⟨h1, h2⟩ := h
  rcases h2 with ⟨h2, _⟩ | ⟨g, cap, cur, r1, r2, r3, r4, r5, r6, r7⟩
  · cases h2
  · injection r1 with q1 q2 q3
    injection q1 with q1
    injection q1 with q1
    subst q1; subst q3
    have hlt : j < cur.size := by
      have := congrArg List.length r7
      rw [List.length_take, h1] at this
      simp at this
      omega
    exact ⟨cur[j], by rw [blk_cell r3]; simp [hlt], blk_frozen r3 _⟩
theorem own_addr {w : World} {base : Nat} {e : TypeId} {size n c : Nat} {A : Option Addr} {xs : List Value} (h : Own w base e size A n c xs) (hn : 0 < n) : ∃ gA, A = some ⟨gA, 0, none⟩ := by
  obtain ⟨h1, h2⟩ := h
  rcases h2 with ⟨h2, h3⟩ | ⟨g, cap, cur, r1, _⟩
  · omega
  · injection r1 with q1 q2 q3
    exact ⟨g, q1⟩
theorem own_set2 {w : World} {base gA : Nat} {e : TypeId} {size n c : Nat} {xs : List Value} (h : Own w base e size (some ⟨gA, 0, none⟩) n c xs) (i j : Nat) (u v : Value) :
    ∃ ys, Own ((w.setCell ⟨gA, i, none⟩ u).setCell ⟨gA, j, none⟩ v) base e size (some ⟨gA, 0, none⟩) n c ys := ⟨_, own_set (own_set h i u) j v⟩

set_option maxHeartbeats 8000000 in
theorem judgePlays_calls (most : Int) (xs : List SeenC) (X : Option Addr) (n c : Nat) (w : World) (hr : -9223372036854775808 ≤ most ∧ most ≤ 9223372036854775807) (hn : n = xs.length) (hxs : xs.length ≤ 1073741822)
    (hX : RdC w X (xs.flatMap scells)) (hA : ∀ s ∈ xs, AnsOk w s.x ∧ s.x.a.list.length ≤ 1073741824) (hU : ∀ s ∈ xs, U s.o.key ∧ U s.o.val) :
    Calls Try.prog 5 #[.int .i64 most, .slice X n c] w fun e w' => e = .returned (.bool true) ∧ Fr w w' := by
  subst hn
  have HX := Lib.hid hX
  have HA := Lib.hid hA
  have HU := Lib.hid hU
  clear hX hA hU
  by_cases hv : 1 ≤ most ∧ most ≤ 4294967296
  · obtain ⟨Li, hLi⟩ : ∃ Li : Nat → List Pr, ∀ i, Li i = runs most [] ((xs.map (·.o)).take i) := ⟨_, fun _ => rfl⟩
    have hL0 : Hid (Li 0 = []) := by rw [Hid, hLi]; rfl
    have hLl : Hid (∀ i, (Li i).length ≤ i) := fun i => by rw [hLi]; exact Nat.le_trans (runs_len _ _ _) (by rw [List.length_take]; simp; omega)
    have hLS : Hid (∀ (i : Nat) (s : SeenC), xs[i]? = some s → Li (i + 1) = (does most (Li i) s.o).2) := fun i s h1 => by rw [hLi, hLi]; exact runs_take (by rw [List.getElem?_map, h1]; rfl)
    clear hLi
    go_enter Try.func5, Try.ntmps5
    go_wp2_with fail
    refine (shown23_calls w).mono ?_
    rintro e w1 ⟨rfl, hf1⟩
    have HF1 := Lib.hid hf1
    clear hf1
    go_wp2_with fail
    refine (jnew_yes most w1 hv.1 hv.2).mono ?_
    rintro e w2 ⟨g, b, rfl, hg, hb, hJ, hf2⟩
    have HJ2 := Lib.hid hJ
    have HF2 := Lib.hid hf2
    clear hJ hf2
    go_wp2_with fail
    refine (pnew_yes most w2 hv.1 hv.2).mono ?_
    rintro e w3 ⟨gp, rfl, hgp, hP, hf3⟩
    have hjl := HJ2.out.lt
    have hg0 : w.heap.size ≤ g := Nat.le_trans HF1.out.size hg
    have hb0 : w.heap.size ≤ b := Nat.le_trans HF1.out.size hb
    have hgp0 : w.heap.size ≤ gp := Nat.le_trans (Nat.le_trans HF1.out.size HF2.out.size) hgp
    have hgb : Hid (gp ≠ b ∧ gp ≠ g ∧ w.heap.size ≤ g ∧ w.heap.size ≤ b ∧ w.heap.size ≤ gp) := by rw [Hid]; omega
    have HJ3 := Lib.hid (HJ2.out.fr hf3)
    have HP3 := Lib.hid hP
    have HF3 : Hid (Fr w w3) := (HF1.out.trans HF2.out).trans hf3
    clear hP hf3 hv hr hg hb hgp hjl hg0 hb0 hgp0
    go_wp2_with fail
    go_loopw [10] (fun vi wr => ∃ (i : Nat) (PA : Option Addr) (cp : Nat), vi = .int .i64 i ∧ i ≤ xs.length ∧ Hid (IsJ wr g b most (Li i)) ∧ Hid (IsP wr gp PA cp most (Li i)) ∧ Hid (∀ k, ablk PA = some k → w.heap.size ≤ k ∧ k ≠ g ∧ k ≠ b) ∧ Hid (Fr w wr)) (fun vi _ => xs.length - (intOf vi).toNat)
    case atStart => exact ⟨0, none, 0, rfl, by omega, by rw [Hid, hL0.out]; exact HJ3.out, by rw [Hid, hL0.out]; exact HP3.out, fun k hk => by simp [ablk] at hk, HF3.out⟩
    case round =>
      obtain ⟨i, PA, cp, rfl, hi, hJr, hPr, hDr, hfr⟩ := hrel
      have hLb := hLl.out i
      by_cases hlt : i < xs.length
      · obtain ⟨gT, hgT⟩ : ∃ gT, wr.heap.size = gT := ⟨_, rfl⟩
        obtain ⟨s, hsi⟩ : ∃ s, xs[i]? = some s := ⟨_, List.getElem?_eq_getElem hlt⟩
        have hOK := Lib.hid (HA.out s (List.mem_of_getElem? hsi))
        have huk := Lib.hid (HU.out s (List.mem_of_getElem? hsi))
        obtain ⟨bx, ox, hX, hcx⟩ := rows_at scells 9 scells_len (by omega) HX.out (by omega)
        subst hX
        have HC : Hid (∀ w', Fr w w' → _) := fun w' hf => seen_at (w := w') (fun j v hv => hf.cell (hcx i s hsi j v hv))
        obtain ⟨z0, z1, z2, z3, z4, z5, z6, z7, z8, z9⟩ := HC.out wr hfr.out
        have hL1 := Lib.hid (hLS.out i s hsi)
        have hzo : (i : Int) < (xs.length : Int) := by omega
        have hzn : decide (i < xs.length) = true := decide_eq_true hlt
        have hll := hOK.out.2
        clear hcx hsi
        have za := fun o o' => (HC.out ((wr.alloc o).alloc o') ((hfr.out.alloc o).alloc o')).2.2.2.2.2.2.2.2.2
        go_wp2_with (at_builtin; refine gate ?_)
        clear za
        obtain ⟨w4, hw4⟩ : ∃ w4, w4 = wr.alloc (.cells #[.int .i64 s.x.a.code, .bool s.x.a.is, .int .u64 s.x.a.key, .int .u64 s.x.a.val, .int .i64 s.x.a.num, .slice s.x.B s.x.a.list.length s.x.c] 44) := ⟨_, rfl⟩
        have hf4 := (Fr.refl wr).alloc (.cells #[.int .i64 s.x.a.code, .bool s.x.a.is, .int .u64 s.x.a.key, .int .u64 s.x.a.val, .int .i64 s.x.a.num, .slice s.x.B s.x.a.list.length s.x.c] 44)
        have hb4 := heap_alloc_new wr (.cells #[.int .i64 s.x.a.code, .bool s.x.a.is, .int .u64 s.x.a.key, .int .u64 s.x.a.val, .int .i64 s.x.a.num, .slice s.x.B s.x.a.list.length s.x.c] 44)
        have hs4 : w4.heap.size = wr.heap.size + 1 := by rw [hw4]; simp
        rw [← hw4] at hf4 hb4 ⊢
        rw [hgT] at hb4 hs4
        clear hw4
        have HF4 := Lib.hid hf4
        have HB4 := Lib.hid hb4
        have HS4 := Lib.hid hs4
        clear hf4 hb4 hs4
        have hbn : Blk (w4.alloc (.cells (arr []) 55)) (gT + 1) [] 55 := by have := Blk.new w4 [] 55; rwa [HS4.out] at this
        refine gate_app rfl _ _ 42 rfl 55 (.agg #[.int .u64 0, .int .u64 0]) 2 16 Try.underlying42 info_pair rfl (by omega) (by omega) w4.heap.size (some ⟨gT + 1, 0, none⟩) 0 0 [] s.x.B s.x.a.list.length s.x.c (s.x.a.list.flatMap pcells) (by rfl) (by rfl)
          (Own.of_blk hbn (by rw [HS4.out]; exact Nat.le_refl _) rfl (by omega)) (flat_len pcells 2 pcells_len _) ((hOK.out.1.1.fr (hfr.out.trans HF4.out)).fr ((Fr.refl w4).alloc _)) (pcells_one _) (by omega) (by simp) ?_
        intro A5 c5 w5 hown5 hgr5 hat5
        have hf5 : Hid (Fr w4 w5) := ((Fr.refl w4).alloc _).grown hgr5.out (fun k hk => by have := HS4.out; simp [ablk] at hk; omega)
        have ho5 : Hid (Own w5 w4.heap.size 55 2 A5 s.x.a.list.length c5 (s.x.a.list.flatMap pcells)) := by simpa [Hid] using hown5.out
        clear hown5 hgr5 hat5
        rw [Nat.zero_add]
        have HB5 := Lib.hid (hf5.out.blk HB4.out)
        have u5 := (ans_cells HB5.out).2.2.2.2.2.1
        have v5 := (ans_cells HB5.out).2.2.2.2.2.2.2.2.2.2.2
        clear z0 z1 z2 z3 z4 z5 z6 z7 z8 z9
        go_wp2_with fail
        obtain ⟨w6, hw6⟩ : ∃ w6, w6 = w5.setCell ⟨gT, 5, none⟩ (.slice A5 s.x.a.list.length c5) := ⟨_, rfl⟩
        have hb6 : Hid (w6.heap[gT]? = some (.cells #[.int .i64 s.x.a.code, .bool s.x.a.is, .int .u64 s.x.a.key, .int .u64 s.x.a.val, .int .i64 s.x.a.num, .slice A5 s.x.a.list.length c5] 44)) := by
          have := blk_set HB5.out 5 (.slice A5 s.x.a.list.length c5)
          rw [hw6]; simpa [Hid] using this
        have hA5 : Hid (∀ k, ablk A5 = some k → gT < k) := fun k hk => by have := (ho5.out.lt k hk).1; have := HS4.out; omega
        have ho6 : Hid (Own w6 w4.heap.size 55 2 A5 s.x.a.list.length c5 (s.x.a.list.flatMap pcells)) := by
          rw [hw6]; exact ho5.out.mv (S := one1 gT) ((Mv.refl _ _).set (p := ⟨gT, 5, none⟩) (.inl (show one1 gT gT from rfl)) _) (fun k hk e => by have h1 : k = gT := e; have := hA5.out k hk; omega)
        have hf6 : Hid (Fr wr w6) := by rw [hw6]; exact (HF4.out.trans hf5.out).set (p := ⟨gT, 5, none⟩) (by rw [hgT]; exact Nat.le_refl _) _
        rw [← hw6]
        clear hw6 u5 v5 HB5 HB4
        have hjlt := Lib.hid hJr.out.lt
        have hplt := Lib.hid hPr.out.lt
        have hpA := Lib.hid hPr.out.ltA
        obtain ⟨z0, z1, z2, z3, z4, z5, z6, z7, z8, z9⟩ := HC.out w6 (hfr.out.trans hf6.out)
        obtain ⟨y0, y1, y2, y3, y4, y5, -, -, -, -, -, -⟩ := ans_cells hb6.out
        refine wp_region_quiet_tail 7 (by kernel_rfl) (by kernel_rfl) ?_
        try simp only [List.take_succ_cons, List.take_zero, List.drop_succ_cons, List.drop_zero]
        try go_frame
        repeat (quiet_step (fail))
        refine wpQuiet_nil ?_
        intro _ hw'
        obtain ⟨q, rfl⟩ := hw'
        obtain ⟨w7, hw7⟩ : ∃ w7, w7 = w6.drewN q := ⟨_, rfl⟩
        rw [← hw7]
        have hf7 : Hid (Fr w6 w7) := by rw [hw7]; exact fr_drewN _ _
        clear hw7 z0 z1 z2 z3 z4 z5 z6 z7 z8 z9 y0 y1 y2 y3 y4 y5
        go_wp2_with fail
        refine (jsee_calls g b most (Li i) s.o s.x.a A5 _ c5 w7 (hJr.out.fr (hf6.out.trans hf7.out)) huk.out.1 huk.out.2 (by omega) rfl (by omega) (ho6.out.rd.fr hf7.out) (fun _ e => by have := hA5.out b e; have := hjlt.out; omega)).mono ?_
        rintro e w8 ⟨RX, cX, rfl, hoX, hm8, hJ8⟩
        have HF8 : Hid (Fr w w8) := ((Mv.of_fr (S := none0) ((hfr.out.trans hf6.out).trans hf7.out)).trans hm8 (fun k h => .inr (by rw [show k = b from h]; exact hgb.out.2.2.2.1))).fr0
        have HP8 : Hid (IsP w8 gp PA cp most (Li i)) := (hPr.out.fr (hf6.out.trans hf7.out)).mv hm8 (fun e => hgb.out.1 e) (fun k hk e => (hDr.out k hk).2.2 e)
        have HT8 := Lib.hid (hm8.blk (hf7.out.blk hb6.out) (fun e => by have h1 : gT = b := e; have := hjlt.out.2; omega))
        have HO8 : Hid (Own w8 w4.heap.size 55 2 A5 s.x.a.list.length c5 (s.x.a.list.flatMap pcells)) := (ho6.out.fr hf7.out).mv hm8 (fun k hk e => by have h1 : k = b := e; have := hA5.out k hk; have := hjlt.out.2; omega)
        have HJ8 : Hid (IsJ w8 g b most (Li (i + 1))) := by rw [Hid, hL1.out]; exact hJ8
        have HX8 := Lib.hid hoX.rd
        have hXb : Hid (∀ k, ablk RX = some k → gT < k) := fun k hk => by have h1 := (hoX.lt k hk).1; have h2 := hf6.out.size; have h3 := hf7.out.size; have h4 : gT < w6.heap.size := (Array.getElem?_eq_some_iff.1 hb6.out).1; omega
        have h7s : Hid (gT ≤ w7.heap.size) := by have h2 := hf6.out.size; have h3 := hf7.out.size; rw [Hid]; omega
        have h78 := Lib.hid hm8.size
        clear hoX hm8 hJ8 hb6 ho6
        obtain ⟨z0, z1, z2, z3, z4, z5, z6, z7, z8, z9⟩ := HC.out w8 HF8.out
        go_wp2_with fail
        refine wp_region_quiet_tail 11 (by kernel_rfl) (by kernel_rfl) ?_
        try simp only [List.take_succ_cons, List.take_zero, List.drop_succ_cons, List.drop_zero]
        try go_frame
        repeat (quiet_step (fail))
        refine wpQuiet_nil ?_
        intro _ hw'
        obtain ⟨q, rfl⟩ := hw'
        obtain ⟨w9, hw9⟩ : ∃ w9, w9 = w8.drewN q := ⟨_, rfl⟩
        rw [← hw9]
        have hf9 : Hid (Fr w8 w9) := by rw [hw9]; exact fr_drewN _ _
        clear hw9 z0 z1 z2 z3 z4 z5 z6 z7 z8 z9
        go_wp2_with fail
        refine (psee_calls gp cp PA most (Li i) s.o s.x.a s.x.B _ s.x.c w9 (HP8.out.fr hf9.out) huk.out.1 huk.out.2 (by omega) rfl (by omega) (hOK.out.1.1.fr (HF8.out.trans hf9.out)) (fun hne k hk e => by have := hOK.out.1.1.lt (pcells_ne hne) hk; exact Or.elim e (fun e => by have := hgb.out.2.2.2.2; omega) (fun e => by have := (hDr.out k e).1; omega))).mono ?_
        rintro e w10 ⟨RY, cY, rfl, hoY, PA10, cp10, hP10, hA10, hm10⟩
        have HF10 : Hid (Fr w w10) := ((Mv.of_fr (S := none0) (HF8.out.trans hf9.out)).trans hm10 (fun k h => .inr (Or.elim h (fun h => by rw [show k = gp from h]; exact hgb.out.2.2.2.2) (fun h => (hDr.out k h).1)))).fr0
        have HJ10 : Hid (IsJ w10 g b most (Li (i + 1))) := (HJ8.out.fr hf9.out).mv hm10 (fun e => Or.elim e (fun e => hgb.out.2.1 e.symm) (fun e => (hDr.out g e).2.1 rfl)) (fun e => Or.elim e (fun e => hgb.out.1 e.symm) (fun e => (hDr.out b e).2.2 rfl))
        have hns : ∀ k, gT ≤ k → ¬ pset gp PA k := fun k hk e => Or.elim e (fun e => by have h1 : k = gp := e; have := hplt.out; omega) (fun e => by have := hpA.out k e; omega)
        have HT10 := Lib.hid (hm10.blk (hf9.out.blk HT8.out) (hns gT (Nat.le_refl _)))
        have HO10 : Hid (Own w10 w4.heap.size 55 2 A5 s.x.a.list.length c5 (s.x.a.list.flatMap pcells)) := (HO8.out.fr hf9.out).mv hm10 (fun k hk => hns k (Nat.le_of_lt (hA5.out k hk)))
        have HX10 := Lib.hid ((HX8.out.fr hf9.out).mv hm10 (fun k hk => hns k (Nat.le_of_lt (hXb.out k hk))))
        have HP10 : Hid (IsP w10 gp PA10 cp10 most (Li (i + 1))) := by rw [Hid, hL1.out]; exact hP10
        have HY10 := Lib.hid hoY.rd
        have hD10 : Hid (∀ k, ablk PA10 = some k → w.heap.size ≤ k ∧ k ≠ g ∧ k ≠ b ∧ ablk A5 ≠ some k) := fun k hk => by
          have h9 := hf9.out.size
          have h7 := h7s.out
          have h8 := h78.out
          have h0 := hfr.out.size
          have hjl := hjlt.out
          rcases hA10 with h | h
          · have h1 := hDr.out k (by rw [← h]; exact hk)
            have h2 := hpA.out k (by rw [← h]; exact hk)
            exact ⟨h1.1, h1.2.1, h1.2.2, fun e => by have := hA5.out k e; omega⟩
          · have h1 := h k hk
            exact ⟨by omega, by omega, by omega, fun e => by have := (HO8.out.lt k e).2; omega⟩
        clear hns hoY hA10 hm10 hP10 HJ8 HO8 HT8 HP8 HX8
        generalize hR : rules s.x.a (does most (Li i) s.o).1 = R at HX10 HY10
        have hRl : R.length ≤ 1099511627776 := by rw [← hR]; exact Nat.le_trans (rules_len _ _) (by omega)
        clear hR
        have HE1 : Hid (∀ k, Calls Try.prog 17 #[.slice RX R.length cX, .slice RY R.length cY] (w10.drewN k) fun e w' => e = .returned (.bool true) ∧ ∃ q, w' = (w10.drewN k).drewN q) := fun k =>
          (lnums_calls RX RY _ cX _ cY R R _ rfl rfl hRl (HX10.out.fr (fr_drewN _ _)) (HY10.out.fr (fr_drewN _ _))).mono (by rintro e w' ⟨rfl, h⟩; exact ⟨by rw [decide_eq_true rfl], h⟩)
        have HE2 : Hid (∀ k, Calls Try.prog 18 #[.slice A5 s.x.a.list.length c5, .slice s.x.B s.x.a.list.length s.x.c] (w10.drewN k) fun e w' => e = .returned (.bool true) ∧ ∃ q, w' = (w10.drewN k).drewN q) := fun k =>
          (lsame_calls A5 s.x.B _ c5 _ s.x.c s.x.a.list s.x.a.list _ rfl rfl (by omega) (HO10.out.rd.fr (fr_drewN _ _)) (hOK.out.1.1.fr (HF10.out.trans (fr_drewN _ _)))).mono (by rintro e w' ⟨rfl, h⟩; exact ⟨by rw [decide_eq_true rfl], h⟩)
        obtain ⟨z0, z1, z2, z3, z4, z5, z6, z7, z8, z9⟩ := HC.out w10 HF10.out
        obtain ⟨y0, y1, y2, y3, y4, y5, -, -, -, -, -, -⟩ := ans_cells HT10.out
        go_wp2_with fail
        go_quiet (first | (go_at_call 17; exact Calls.quiet_of (HE1.out _)) | (go_at_call 18; exact Calls.quiet_of (HE2.out _)))
        obtain ⟨w11, hw11⟩ : ∃ w11, w11 = w10.drewN nq := ⟨_, rfl⟩
        rw [← hw11]
        have hf11 : Hid (Fr w10 w11) := by rw [hw11]; exact fr_drewN _ _
        clear hw11 z0 z1 z2 z3 z4 z5 z6 z7 z8 z9 y0 y1 y2 y3 y4 y5 HE1 HE2 HX10 HY10
        have HT11 := Lib.hid (ans_cells (hf11.out.blk HT10.out)).2.2.2.2.2.1
        have HO11 := Lib.hid (HO10.out.fr hf11.out)
        go_wp2_with fail
        go_loopw [14] (fun vk wi => ∃ (k : Nat) (ys : List Value), vk = .int .i64 k ∧ k ≤ s.x.a.list.length ∧ Hid (Own wi w4.heap.size 55 2 A5 s.x.a.list.length c5 ys) ∧ Hid (Mv (fun j => ablk A5 = some j) w11 wi)) (fun vk _ => s.x.a.list.length - (intOf vk).toNat)
        case atStart => exact ⟨0, _, rfl, by omega, HO11, Mv.refl _ _⟩
        case round =>
          obtain ⟨k, ys, rfl, hk, hok, hmk⟩ := hrel
          have y5 := hmk.out.cell HT11.out (fun e => by have := hA5.out gT e; omega)
          by_cases hkl : k < s.x.a.list.length
          · obtain ⟨gA, rfl⟩ := own_addr hok.out (by omega)
            obtain ⟨v0, c0, f0⟩ := own_at hok.out (j := k * 2) (by omega)
            obtain ⟨v1, c1, f1⟩ := own_at hok.out (j := k * 2 + 1) (by omega)
            obtain ⟨ys2, hys2⟩ := own_set2 hok.out (k * 2) (k * 2 + 1) (.int .u64 9) (.int .u64 9)
            have HYS := Lib.hid hys2
            have hkz : (k : Int) < (s.x.a.list.length : Int) := by omega
            have hkn : decide (k < s.x.a.list.length) = true := decide_eq_true hkl
            clear hys2
            go_wp2_with fail
            exact ⟨⟨k + 1, ys2, by simp, by omega, HYS, (hmk.out.set (p := ⟨gA, k * 2, none⟩) (.inl rfl) _).set (p := ⟨gA, k * 2 + 1, none⟩) (.inl rfl) _⟩, by simp [intOf]; omega⟩
          · obtain rfl : k = s.x.a.list.length := by omega
            have HJ12 : Hid (IsJ wr g b most (Li (i + 1))) := (HJ10.out.fr hf11.out).mv hmk.out (fun e => by have := hA5.out g e; have := hjlt.out; omega) (fun e => by have := hA5.out b e; have := hjlt.out; omega)
            have HP12 : Hid (IsP wr gp PA10 cp10 most (Li (i + 1))) := (HP10.out.fr hf11.out).mv hmk.out (fun e => by have := hA5.out gp e; have := hplt.out; omega) (fun j hj e => (hD10.out j hj).2.2.2 e)
            have HF12 : Hid (Fr w wr) := ((Mv.of_fr (S := none0) (HF10.out.trans hf11.out)).trans hmk.out (fun j h => .inr (by have := hA5.out j h; have := hfr.out.size; omega))).fr0
            have hLb1 := hLl.out (i + 1)
            clear hmk hok HO11 HT11
            go_wp2_with fail
            refine (jpairs_calls g b most (Li (i + 1)) wr HJ12.out (by omega)).mono ?_
            rintro e w13 ⟨Q, cQ, rfl, hoQ, hf13⟩
            have HJ13 := Lib.hid (HJ12.out.fr hf13)
            have HP13 := Lib.hid (HP12.out.fr hf13)
            have HF13 : Hid (Fr w w13) := HF12.out.trans hf13
            have hQb : Hid (∀ j, ablk Q = some j → wr.heap.size ≤ j) := fun j hj => (hoQ.lt j hj).1
            have HQ := Lib.hid hoQ
            have hl12 := Lib.hid HJ12.out.lt
            have hp12 := Lib.hid HP12.out.lt
            have hpA12 := Lib.hid HP12.out.ltA
            have hsw := Lib.hid HF12.out.size
            have c1 := HP13.out.c1
            clear hoQ hf13 HJ12 HP12 HF12
            go_wp2_with fail
            refine (lsame_calls Q PA10 _ cQ _ cp10 (Li (i + 1)) (Li (i + 1)) w13 rfl rfl (by omega) HQ.out.rd HP13.out.own.rd).mono ?_
            rintro e w14 ⟨rfl, q, hw14⟩
            have hdd : decide (Li (i + 1) = Li (i + 1)) = true := decide_eq_true rfl
            rw [hdd]
            have hf14 : Hid (Fr w13 w14) := by rw [hw14]; exact fr_drewN _ _
            have HQ14 := Lib.hid (HQ.out.fr hf14.out)
            clear hw14 c1 HQ hdd
            go_wp2_with fail
            go_loopw [16] (fun vk wi => ∃ (k : Nat) (ys : List Value), vk = .int .i64 k ∧ k ≤ (Li (i + 1)).length ∧ Hid (∃ bq, Own wi bq 55 2 Q (Li (i + 1)).length cQ ys) ∧ Hid (Mv (fun j => ablk Q = some j) w14 wi)) (fun vk _ => (Li (i + 1)).length - (intOf vk).toNat)
            case atStart => exact ⟨0, _, rfl, by omega, ⟨_, HQ14.out⟩, Mv.refl _ _⟩
            case round =>
              obtain ⟨k, ys, rfl, hk, hok, hmk⟩ := hrel
              by_cases hkl : k < (Li (i + 1)).length
              · obtain ⟨bq, hok⟩ := hok.out
                obtain ⟨gA, rfl⟩ := own_addr hok (by omega)
                obtain ⟨v0, c0, f0⟩ := own_at hok (j := k * 2) (by omega)
                obtain ⟨v1, c1, f1⟩ := own_at hok (j := k * 2 + 1) (by omega)
                obtain ⟨ys2, hys2⟩ := own_set2 hok (k * 2) (k * 2 + 1) (.int .u64 8) (.int .u64 8)
                have HYS := Lib.hid hys2
                have hkz : (k : Int) < ((Li (i + 1)).length : Int) := by omega
                have hkn : decide (k < (Li (i + 1)).length) = true := decide_eq_true hkl
                clear hys2 hok
                go_wp2_with fail
                exact ⟨⟨k + 1, ys2, by simp, by omega, ⟨_, HYS.out⟩, (hmk.out.set (p := ⟨gA, k * 2, none⟩) (.inl rfl) _).set (p := ⟨gA, k * 2 + 1, none⟩) (.inl rfl) _⟩, by simp [intOf]; omega⟩
              · have HJ15 : Hid (IsJ wr g b most (Li (i + 1))) := (HJ13.out.fr hf14.out).mv hmk.out (fun e => by have := hQb.out g e; have := hl12.out; omega) (fun e => by have := hQb.out b e; have := hl12.out; omega)
                have HP15 : Hid (IsP wr gp PA10 cp10 most (Li (i + 1))) := (HP13.out.fr hf14.out).mv hmk.out (fun e => by have := hQb.out gp e; have := hp12.out; omega) (fun j hj e => by have := hQb.out j e; have := hpA12.out j hj; omega)
                have HF15 : Hid (Fr w wr) := ((Mv.of_fr (S := none0) (HF13.out.trans hf14.out)).trans hmk.out (fun j h => .inr (by have := hQb.out j h; have := hsw.out; omega))).fr0
                have hkn : decide (k < (Li (i + 1)).length) = false := decide_eq_false hkl
                clear hmk hok
                go_wp2_with fail
                exact ⟨⟨i + 1, PA10, cp10, by simp, by omega, HJ15, HP15, fun j hj => ⟨(hD10.out j hj).1, (hD10.out j hj).2.1, (hD10.out j hj).2.2.1⟩, HF15⟩, by simp [intOf]; omega⟩
      · obtain rfl : i = xs.length := by omega
        have c1 := hPr.out.c1
        have hlz : decide (xs.length < xs.length) = false := by simp
        go_wp2_with fail
        go_region_held3 (fun w' => w'.cell? ⟨gp, 1, none⟩ = some (.slice PA (Li xs.length).length cp)) (first | exact c1 | exact hfq.out.cell c1 | exact (hfq.out.trans (fr_drewN _ _)).cell c1)
          (first
            | (go_at_call 19; refine (jpairs_calls g b most (Li xs.length) _ (hJr.out.fr ((Fr.refl wr).drew)) (by omega)).mono ?_; rintro e wq ⟨Q, cQ, rfl, hoQ, hfq0⟩; have hfq : Hid (Fr wr wq) := ((Fr.refl wr).drew).trans hfq0)
            | (go_at_call 18; refine (lsame_calls Q PA _ cQ _ cp (Li xs.length) (Li xs.length) wq rfl rfl (by omega) hoQ.rd (hPr.out.own.rd.fr hfq.out)).mono ?_; rintro e wz ⟨rfl, qz, rfl⟩))
        go_wp2_with fail
        go_ret
        exact ⟨rfl, (hfr.out.trans hfq.out).drewN qz⟩
  · have hv2 : most < 1 ∨ 4294967296 < most := by omega
    clear hv
    go_enter Try.func5, Try.ntmps5
    go_wp2_with fail
    refine (shown23_calls w).mono ?_
    rintro e w1 ⟨rfl, hf1⟩
    have HF1 := Lib.hid hf1
    clear hf1
    go_wp2_with fail
    refine (jnew_no most w1 hr hv2).mono ?_
    rintro e w2 ⟨rfl, rfl⟩
    go_wp2_with fail
    refine (pnew_no most w2 hr hv2).mono ?_
    rintro e w3 ⟨rfl, rfl⟩
    go_wp2_with fail
    go_ret
    exact ⟨rfl, HF1.out⟩
end Go.Proofs.Ytjannhphmemenaa
