/- Parts of this proof, one behind the other: Ans. -/
import Derived.Deep.RegionHeld3
import Derived.Test.YtelpbbkmkighfaaGreatQV
import Derived.Test.YtelpbbkmkighfaaGreatQJ
namespace Go.Proofs.YtelpbbkmkighfaaGreat
set_option maxRecDepth 100000
open Go.RowKit Go.Inc Go.Run
attribute [local go_sem] run_store_float

set_option maxHeartbeats 16000000 in
theorem answers_calls (r p x : Nat) (eps : Int) (E : List Ent) (Ss : List (List Seg)) (q lv sl : Int) (hq : 0 ≤ q ∧ q < 18446744073709551616) (hlv : -9223372036854775808 ≤ lv ∧ lv ≤ 9223372036854775807) (hsl : -9223372036854775808 ≤ sl ∧ sl ≤ 9223372036854775807) (hl : E.length ≤ 268435456) (w : World)
    (hb : Built w r p eps E Ss) (hx : RefR w x eps E Ss) :
    Calls Tryz.prog 10 #[.pointer (some ⟨r, 0, none⟩), .pointer (some ⟨x, 0, none⟩), .agg #[.int .u64 q, .int .i64 lv, .int .i64 sl]] w fun e w' => e = .returned (.bool true) ∧ Fr w w' := by
  have hR := hb.ok.rise
  obtain ⟨N, hN⟩ := rank_ex hR q
  have hBnd : E.length ≤ 268435456 ∧ ∀ S ∈ Ss, S.length ≤ 4294967296 := ⟨hl, fun S hS => by have := hb.small.2 S hS; omega⟩
  have hBnd' : (keysE E).length ≤ 4294967296 ∧ ∀ S ∈ Ss, S.length ≤ 4294967296 := ⟨by rw [keysE_len]; omega, hBnd.2⟩
  obtain ⟨B, hB⟩ : ∃ B, decide (N < (keysE E).length ∧ ky (keysE E) N = q) = B := ⟨_, rfl⟩
  obtain ⟨G, hG⟩ : ∃ G, getV E N B = G := ⟨_, rfl⟩
  obtain ⟨T, hT⟩ : ∃ T, (atV E sl).1 = T := ⟨_, rfl⟩
  obtain ⟨C, hC⟩ : ∃ C, (atV E sl).2 = C := ⟨_, rfl⟩
  obtain ⟨sg, hsg⟩ : ∃ sg, segV (keysE E) Ss lv sl = sg := ⟨_, rfl⟩
  obtain ⟨z, hz⟩ : ∃ z, sizeV (keysE E) Ss lv = z := ⟨_, rfl⟩
  obtain ⟨kk, hkk⟩ : ∃ k, keyV (keysE E) Ss lv sl = k := ⟨_, rfl⟩
  have C20 : Hid (∀ w', Fr w w' → Calls Tryz.prog 20 #[.pointer (some ⟨r, 0, none⟩), .int .u64 q] w' fun e w'' => e = .returned (.tuple #[entV G, .bool B]) ∧ Fr w' w'') := fun w' h => (rget_calls r p eps E Ss q w' (hb.fr h).run hb.ok hq).mono fun _ _ ⟨h1, m, h2, h3⟩ => ⟨by
    obtain rfl := h2.unique hN
    rw [hB, hG] at h3; exact h3, h1⟩
  have C33 : Hid (∀ w', Fr w w' → Calls Tryz.prog 33 #[.pointer (some ⟨x, 0, none⟩), .int .u64 q] w' fun e w'' => e = .returned (.tuple #[entV G, .bool B]) ∧ Fr w' w'') := fun w' h => (r11get_calls x eps E Ss q hl hR w' (hx.fr h) N hN).mono fun _ _ ⟨h1, h3⟩ => ⟨by
    rw [hB, hG] at h3; exact h3, h1⟩
  have C21 : Hid (∀ w', Fr w w' → Calls Tryz.prog 21 #[.pointer (some ⟨r, 0, none⟩), .int .i64 sl] w' fun e w'' => e = .returned (.tuple #[entV T, .int .i64 C]) ∧ Fr w' w'') := fun w' h => (rat_calls r p eps E Ss sl hsl (by omega) w' (hb.fr h).run).mono fun _ _ ⟨h1, h3⟩ => ⟨by
    rw [hT, hC] at h3; exact h3, h1⟩
  have C34 : Hid (∀ w', Fr w w' → Calls Tryz.prog 34 #[.pointer (some ⟨x, 0, none⟩), .int .i64 sl] w' fun e w'' => e = .returned (.tuple #[entV T, .int .i64 C]) ∧ Fr w' w'') := fun w' h => (r11at_calls x eps E Ss sl hsl (by omega) w' (hx.fr h)).mono fun _ _ ⟨h1, h3⟩ => ⟨by
    rw [hT, hC] at h3; exact h3, h1⟩
  have C22 : Hid (∀ w', Fr w w' → Calls Tryz.prog 22 #[.pointer (some ⟨p, 0, none⟩), .int .i64 lv, .int .i64 sl] w' fun e w'' => e = .returned (segVal sg) ∧ Fr w' w'') := fun w' h => (pseg_calls p eps (keysE E) Ss lv sl hlv hsl w' (hb.fr h).run.pile hBnd').mono fun _ _ h3 => by rw [hsg] at h3; exact h3
  have C39 : Hid (∀ w', Fr w w' → Calls Tryz.prog 39 #[.pointer (some ⟨x, 0, none⟩), .int .i64 lv, .int .i64 sl] w' fun e w'' => e = .returned (segVal sg) ∧ Fr w' w'') := fun w' h => (r11seg_calls x eps E Ss lv sl hlv hsl w' (hx.fr h) hBnd).mono fun _ _ h3 => by rw [hsg] at h3; exact h3
  have C26 : Hid (∀ w', Fr w w' → Calls Tryz.prog 26 #[.pointer (some ⟨r, 0, none⟩), .int .u64 q] w' fun e w'' => e = .returned (.int .i64 N) ∧ Fr w' w'') := fun w' h => (rrank_calls r p eps E Ss q w' (hb.fr h).run hb.ok hq).mono fun _ _ ⟨h1, m, h2, h3⟩ => ⟨by
    obtain rfl := h2.unique hN
    exact h3, h1⟩
  have C35 : Hid (∀ w', Fr w w' → Calls Tryz.prog 35 #[.pointer (some ⟨x, 0, none⟩), .int .u64 q] w' fun e w'' => e = .returned (.int .i64 N) ∧ Fr w' w'') := fun w' h => (r11rank_calls x eps E Ss q hl w' (hx.fr h) N hN).mono fun _ _ ⟨h1, h3⟩ => ⟨h1, by rw [h3]; exact Fr.refl _⟩
  have C25 : Hid (∀ w', Fr w w' → Calls Tryz.prog 25 #[.pointer (some ⟨p, 0, none⟩), .int .i64 lv] w' fun e w'' => e = .returned (.int .i64 z) ∧ Fr w' w'') := fun w' h => (psize_calls p eps (keysE E) Ss lv hlv w' (hb.fr h).run.pile).mono fun _ _ ⟨h1, h3⟩ => ⟨by rw [hz] at h1; exact h1, by rw [h3]; exact Fr.refl _⟩
  have C36 : Hid (∀ w', Fr w w' → Calls Tryz.prog 36 #[.pointer (some ⟨x, 0, none⟩), .int .i64 lv] w' fun e w'' => e = .returned (.int .i64 z) ∧ Fr w' w'') := fun w' h => (r11size_calls x eps E Ss lv hlv w' (hx.fr h)).mono fun _ _ ⟨h1, h3⟩ => ⟨by rw [hz] at h1; exact h1, by rw [h3]; exact Fr.refl _⟩
  have C27 : Hid (∀ w', Fr w w' → Calls Tryz.prog 27 #[.pointer (some ⟨p, 0, none⟩), .int .i64 lv, .int .i64 sl] w' fun e w'' => e = .returned (.int .u64 kk) ∧ Fr w' w'') := fun w' h => (pkey_calls p eps (keysE E) Ss lv sl hlv hsl w' (hb.fr h).run.pile hBnd').mono fun _ _ ⟨h1, h3⟩ => ⟨by rw [hkk] at h1; exact h1, by rw [h3]; exact Fr.refl _⟩
  have C37 : Hid (∀ w', Fr w w' → Calls Tryz.prog 37 #[.pointer (some ⟨x, 0, none⟩), .int .i64 lv, .int .i64 sl] w' fun e w'' => e = .returned (.int .u64 kk) ∧ Fr w' w'') := fun w' h => (r11key_calls x eps E Ss lv sl hlv hsl w' (hx.fr h) hBnd).mono fun _ _ ⟨h1, h3⟩ => ⟨by rw [hkk] at h1; exact h1, by rw [h3]; exact Fr.refl _⟩
  have C38 := Lib.hid (sameseg_calls sg)
  have HPT : Hid (∀ w', Fr w w' → w'.cell? ⟨r, 0, none⟩ = some (.pointer (some ⟨p, 0, none⟩))) := fun w' h => (hb.fr h).run.ptr
  clear hb hx hR hN hBnd hBnd' hB hG hT hC hsg hz hkk
  obtain ⟨gk, gv, gg⟩ := G
  obtain ⟨tk, tv, tg⟩ := T
  unfold entV at C20 C33 C21 C34
  dsimp only at C20 C33 C21 C34
  unfold segVal at C22 C39 C38
  obtain ⟨sf, sl', it, fr, up⟩ := sg
  dsimp only at C22 C39 C38
  have hb5 := Lib.hid (heap_alloc_new w (.cells #[.int .u64 q, .int .i64 lv, .int .i64 sl] 35))
  have hf5 := Lib.hid ((Fr.refl w).alloc (.cells #[.int .u64 q, .int .i64 lv, .int .i64 sl] 35))
  obtain ⟨a0, a1, a2⟩ := cells3 hb5.out
  go_enter Tryz.func10, Tryz.ntmps10
  go_wp2_with fail
  obtain ⟨w0, hw0⟩ : ∃ w0, w0 = w.alloc (.cells #[.int .u64 q, .int .i64 lv, .int .i64 sl] 35) := ⟨_, rfl⟩
  rw [← hw0] at hb5 hf5 a0 a1 a2 ⊢
  clear hw0
  refine (C20.out w0 hf5.out).mono ?_
  rintro _ wa7 ⟨rfl, qq⟩
  obtain ⟨g7, hg⟩ : ∃ g, g = wa7.heap.size := ⟨_, rfl⟩
  have hbn := heap_alloc_new wa7 (.cells #[.int .u64 gk, .int .u64 gv, .bool gg] 38)
  rw [← hg] at hbn
  have HF7 : Hid (Fr w0 (wa7.alloc (.cells #[.int .u64 gk, .int .u64 gv, .bool gg] 38))) := Fr.alloc qq _
  clear a0 a1 a2
  obtain ⟨a0, a1, a2⟩ := cells3 (HF7.out.blk hb5.out)
  have HB7 := Lib.hid hbn
  clear hbn qq
  go_wp2_with fail
  rw [← hg]
  clear hg
  obtain ⟨wb7, hw⟩ : ∃ w2, w2 = wa7.alloc (.cells #[.int .u64 gk, .int .u64 gv, .bool gg] 38) := ⟨_, rfl⟩
  rw [← hw] at HF7 a0 a1 a2 HB7 ⊢
  clear hw
  refine (C33.out wb7 (hf5.out.trans HF7.out)).mono ?_
  rintro _ wa9 ⟨rfl, qq⟩
  obtain ⟨g9, hg⟩ : ∃ g, g = wa9.heap.size := ⟨_, rfl⟩
  have hbn := heap_alloc_new wa9 (.cells #[.int .u64 gk, .int .u64 gv, .bool gg] 38)
  rw [← hg] at hbn
  have HF9 : Hid (Fr w0 (wa9.alloc (.cells #[.int .u64 gk, .int .u64 gv, .bool gg] 38))) := Fr.alloc (HF7.out.trans qq) _
  clear a0 a1 a2
  obtain ⟨a0, a1, a2⟩ := cells3 (HF9.out.blk hb5.out)
  have HB9 := Lib.hid hbn
  have HB7 := Lib.hid ((qq.alloc (.cells #[.int .u64 gk, .int .u64 gv, .bool gg] 38)).blk HB7.out)
  clear hbn qq
  go_wp2_with fail
  rw [← hg]
  clear hg
  obtain ⟨wb9, hw⟩ : ∃ w2, w2 = wa9.alloc (.cells #[.int .u64 gk, .int .u64 gv, .bool gg] 38) := ⟨_, rfl⟩
  rw [← hw] at HF9 a0 a1 a2 HB7 HB9 ⊢
  clear hw
  refine (C21.out wb9 (hf5.out.trans HF9.out)).mono ?_
  rintro _ wa11 ⟨rfl, qq⟩
  obtain ⟨g11, hg⟩ : ∃ g, g = wa11.heap.size := ⟨_, rfl⟩
  have hbn := heap_alloc_new wa11 (.cells #[.int .u64 tk, .int .u64 tv, .bool tg] 38)
  rw [← hg] at hbn
  have HF11 : Hid (Fr w0 (wa11.alloc (.cells #[.int .u64 tk, .int .u64 tv, .bool tg] 38))) := Fr.alloc (HF9.out.trans qq) _
  clear a0 a1 a2
  obtain ⟨a0, a1, a2⟩ := cells3 (HF11.out.blk hb5.out)
  have HB11 := Lib.hid hbn
  have HB7 := Lib.hid ((qq.alloc (.cells #[.int .u64 tk, .int .u64 tv, .bool tg] 38)).blk HB7.out)
  have HB9 := Lib.hid ((qq.alloc (.cells #[.int .u64 tk, .int .u64 tv, .bool tg] 38)).blk HB9.out)
  clear hbn qq
  go_wp2_with fail
  rw [← hg]
  clear hg
  obtain ⟨wb11, hw⟩ : ∃ w2, w2 = wa11.alloc (.cells #[.int .u64 tk, .int .u64 tv, .bool tg] 38) := ⟨_, rfl⟩
  rw [← hw] at HF11 a0 a1 a2 HB7 HB9 HB11 ⊢
  clear hw
  refine (C34.out wb11 (hf5.out.trans HF11.out)).mono ?_
  rintro _ wa13 ⟨rfl, qq⟩
  obtain ⟨g13, hg⟩ : ∃ g, g = wa13.heap.size := ⟨_, rfl⟩
  have hbn := heap_alloc_new wa13 (.cells #[.int .u64 tk, .int .u64 tv, .bool tg] 38)
  rw [← hg] at hbn
  have HF13 : Hid (Fr w0 (wa13.alloc (.cells #[.int .u64 tk, .int .u64 tv, .bool tg] 38))) := Fr.alloc (HF11.out.trans qq) _
  clear a0 a1 a2
  obtain ⟨a0, a1, a2⟩ := cells3 (HF13.out.blk hb5.out)
  have HB13 := Lib.hid hbn
  have HB7 := Lib.hid ((qq.alloc (.cells #[.int .u64 tk, .int .u64 tv, .bool tg] 38)).blk HB7.out)
  have HB9 := Lib.hid ((qq.alloc (.cells #[.int .u64 tk, .int .u64 tv, .bool tg] 38)).blk HB9.out)
  have HB11 := Lib.hid ((qq.alloc (.cells #[.int .u64 tk, .int .u64 tv, .bool tg] 38)).blk HB11.out)
  clear hbn qq
  go_wp2_with fail
  rw [← hg]
  clear hg
  obtain ⟨wb13, hw⟩ : ∃ w2, w2 = wa13.alloc (.cells #[.int .u64 tk, .int .u64 tv, .bool tg] 38) := ⟨_, rfl⟩
  rw [← hw] at HF13 a0 a1 a2 HB7 HB9 HB11 HB13 ⊢
  clear hw
  obtain ⟨w5, hw⟩ : ∃ w5, w5 = wb13 := ⟨_, rfl⟩
  rw [← hw] at HF13 HB7 HB9 HB11 HB13 ⊢
  clear hw a0 a1 a2
  have HALL : Hid (∀ w', Fr w5 w' → (w'.cell? ⟨w.heap.size, 0, none⟩ = some (.int .u64 q) ∧ w'.cell? ⟨w.heap.size, 1, none⟩ = some (.int .i64 lv) ∧ w'.cell? ⟨w.heap.size, 2, none⟩ = some (.int .i64 sl)) ∧ (w'.cell? ⟨g7, 0, none⟩ = some (.int .u64 gk) ∧ w'.cell? ⟨g7, 1, none⟩ = some (.int .u64 gv) ∧ w'.cell? ⟨g7, 2, none⟩ = some (.bool gg)) ∧ (w'.cell? ⟨g9, 0, none⟩ = some (.int .u64 gk) ∧ w'.cell? ⟨g9, 1, none⟩ = some (.int .u64 gv) ∧ w'.cell? ⟨g9, 2, none⟩ = some (.bool gg)) ∧ (w'.cell? ⟨g11, 0, none⟩ = some (.int .u64 tk) ∧ w'.cell? ⟨g11, 1, none⟩ = some (.int .u64 tv) ∧ w'.cell? ⟨g11, 2, none⟩ = some (.bool tg)) ∧ (w'.cell? ⟨g13, 0, none⟩ = some (.int .u64 tk) ∧ w'.cell? ⟨g13, 1, none⟩ = some (.int .u64 tv) ∧ w'.cell? ⟨g13, 2, none⟩ = some (.bool tg)) ∧ w'.cell? ⟨r, 0, none⟩ = some (.pointer (some ⟨p, 0, none⟩))) :=
    fun w' h => ⟨cells3 ((HF13.out.trans h).blk hb5.out), cells3 (h.blk HB7.out), cells3 (h.blk HB9.out), cells3 (h.blk HB11.out), cells3 (h.blk HB13.out), HPT.out w' ((hf5.out.trans HF13.out).trans h)⟩
  have HFW : Hid (Fr w w5) := hf5.out.trans HF13.out
  obtain ⟨⟨a0, a1, a2⟩, ⟨b0, b1, b2⟩, ⟨c0, c1, c2⟩, ⟨d0, d1, d2⟩, ⟨e0, e1, e2⟩, f0⟩ := HALL.out w5 (Fr.refl _)
  have he := ent_eql
  have hee : eqE ⟨gk, gv, gg⟩ ⟨gk, gv, gg⟩ = true := eqE_iff.2 rfl
  have hee2 : eqE ⟨tk, tv, tg⟩ ⟨tk, tv, tg⟩ = true := eqE_iff.2 rfl
  have hbb : (B == B) = true := by simp
  have hcc : (C == C) = true := by simp
  have hnn : ((N : Int) == (N : Int)) = true := by simp
  have hzz : (z == z) = true := by simp
  have hkk : (kk == kk) = true := by simp
  go_cut [15] (fun v15 wx => ∃ g15, v15 = .pointer (some ⟨g15, 0, none⟩) ∧ Hid (wx.heap[g15]? = some (.cells #[.int .u64 sf, .float .f64 sl', .float .f64 it, .int .i64 fr, .int .i64 up] 47 (0, 0))) ∧ Hid (Fr w5 wx))
  case first =>
    go_region_held3 (fun w' => (w'.cell? ⟨w.heap.size, 0, none⟩ = some (.int .u64 q) ∧ w'.cell? ⟨w.heap.size, 1, none⟩ = some (.int .i64 lv) ∧ w'.cell? ⟨w.heap.size, 2, none⟩ = some (.int .i64 sl)) ∧ (w'.cell? ⟨g7, 0, none⟩ = some (.int .u64 gk) ∧ w'.cell? ⟨g7, 1, none⟩ = some (.int .u64 gv) ∧ w'.cell? ⟨g7, 2, none⟩ = some (.bool gg)) ∧ (w'.cell? ⟨g9, 0, none⟩ = some (.int .u64 gk) ∧ w'.cell? ⟨g9, 1, none⟩ = some (.int .u64 gv) ∧ w'.cell? ⟨g9, 2, none⟩ = some (.bool gg)) ∧ (w'.cell? ⟨g11, 0, none⟩ = some (.int .u64 tk) ∧ w'.cell? ⟨g11, 1, none⟩ = some (.int .u64 tv) ∧ w'.cell? ⟨g11, 2, none⟩ = some (.bool tg)) ∧ (w'.cell? ⟨g13, 0, none⟩ = some (.int .u64 tk) ∧ w'.cell? ⟨g13, 1, none⟩ = some (.int .u64 tv) ∧ w'.cell? ⟨g13, 2, none⟩ = some (.bool tg)) ∧ w'.cell? ⟨r, 0, none⟩ = some (.pointer (some ⟨p, 0, none⟩)))
      (first | (refine HALL.out _ ?_; repeat (first | exact hfa | exact Fr.refl _ | refine Fr.alloc ?_ _ | refine Fr.drew ?_ | (refine Fr.set ?_ (by first | exact Nat.le_refl _ | exact hfa.size) _))))
      (first
        | (go_at_call 22; refine (C22.out _ (HFW.out.trans ((Fr.refl w5).drew))).mono ?_; rintro e wa ⟨rfl, qa⟩; have hfa : Fr w5 wa := ((Fr.refl w5).drew).trans qa; have hl := heap_alloc_new wa (.cells #[.int .u64 0, .float .f64 0, .float .f64 0, .int .i64 0, .int .i64 0] 47); obtain ⟨y0, y1, y2, y3, y4⟩ := cells5 hl; have z0 := blk_frozen hl 0; have z1 := blk_frozen hl 1; have z2 := blk_frozen hl 2; have z3 := blk_frozen hl 3; have z4 := blk_frozen hl 4)
        | (go_at_call 22; refine (C22.out _ (HFW.out.trans ((Fr.refl w5).alloc _).drew)).mono ?_; rintro e wa ⟨rfl, qa⟩; have hfa : Fr w5 wa := ((Fr.refl w5).alloc _).drew.trans qa; have hl := qa.blk (heap_alloc_new w5 (.cells #[.int .u64 0, .float .f64 0, .float .f64 0, .int .i64 0, .int .i64 0] 47)); obtain ⟨y0, y1, y2, y3, y4⟩ := cells5 hl; have z0 := blk_frozen hl 0; have z1 := blk_frozen hl 1; have z2 := blk_frozen hl 2; have z3 := blk_frozen hl 3; have z4 := blk_frozen hl 4)
        )
    all_goals (go_wp2_with fail)
    all_goals go_meet
    · exact ⟨wa.heap.size, rfl, heap_alloc_new wa _, hfa.alloc _⟩
    · exact ⟨w5.heap.size, rfl, blk_set (blk_set (blk_set (blk_set (blk_set hl 0 _) 1 _) 2 _) 3 _) 4 _, ((((hfa.set (p := ⟨w5.heap.size, 0, none⟩) (Nat.le_refl _) _).set (p := ⟨w5.heap.size, 1, none⟩) (Nat.le_refl _) _).set (p := ⟨w5.heap.size, 2, none⟩) (Nat.le_refl _) _).set (p := ⟨w5.heap.size, 3, none⟩) (Nat.le_refl _) _).set (p := ⟨w5.heap.size, 4, none⟩) (Nat.le_refl _) _⟩
  case rest =>
  obtain ⟨g15, rfl, HB15, HF15⟩ := hcut
  obtain ⟨w6, hw6⟩ : ∃ w6, w6 = wc := ⟨_, rfl⟩
  subst hw6
  have HFX : Hid (Fr w w6) := HFW.out.trans HF15.out
  have HAL6 : Hid (∀ w', Fr w6 w' → ((w'.cell? ⟨w.heap.size, 0, none⟩ = some (.int .u64 q) ∧ w'.cell? ⟨w.heap.size, 1, none⟩ = some (.int .i64 lv) ∧ w'.cell? ⟨w.heap.size, 2, none⟩ = some (.int .i64 sl)) ∧ (w'.cell? ⟨g7, 0, none⟩ = some (.int .u64 gk) ∧ w'.cell? ⟨g7, 1, none⟩ = some (.int .u64 gv) ∧ w'.cell? ⟨g7, 2, none⟩ = some (.bool gg)) ∧ (w'.cell? ⟨g9, 0, none⟩ = some (.int .u64 gk) ∧ w'.cell? ⟨g9, 1, none⟩ = some (.int .u64 gv) ∧ w'.cell? ⟨g9, 2, none⟩ = some (.bool gg)) ∧ (w'.cell? ⟨g11, 0, none⟩ = some (.int .u64 tk) ∧ w'.cell? ⟨g11, 1, none⟩ = some (.int .u64 tv) ∧ w'.cell? ⟨g11, 2, none⟩ = some (.bool tg)) ∧ (w'.cell? ⟨g13, 0, none⟩ = some (.int .u64 tk) ∧ w'.cell? ⟨g13, 1, none⟩ = some (.int .u64 tv) ∧ w'.cell? ⟨g13, 2, none⟩ = some (.bool tg)) ∧ w'.cell? ⟨r, 0, none⟩ = some (.pointer (some ⟨p, 0, none⟩))) ∧ (w'.cell? ⟨g15, 0, none⟩ = some (.int .u64 sf) ∧ w'.cell? ⟨g15, 1, none⟩ = some (.float .f64 sl') ∧ w'.cell? ⟨g15, 2, none⟩ = some (.float .f64 it) ∧ w'.cell? ⟨g15, 3, none⟩ = some (.int .i64 fr) ∧ w'.cell? ⟨g15, 4, none⟩ = some (.int .i64 up))) :=
    fun w' h => ⟨HALL.out w' (HF15.out.trans h), cells5 (h.blk HB15.out)⟩
  clear a0 a1 a2 b0 b1 b2 c0 c1 c2 d0 d1 d2 e0 e1 e2 f0
  obtain ⟨⟨⟨a0, a1, a2⟩, ⟨b0, b1, b2⟩, ⟨c0, c1, c2⟩, ⟨d0, d1, d2⟩, ⟨e0, e1, e2⟩, f0⟩, s0, s1, s2, s3, s4⟩ := HAL6.out w6 (Fr.refl _)
  go_wp2_with fail
  simp only [List.append]
  go_region_held3 (fun w' => ((w'.cell? ⟨w.heap.size, 0, none⟩ = some (.int .u64 q) ∧ w'.cell? ⟨w.heap.size, 1, none⟩ = some (.int .i64 lv) ∧ w'.cell? ⟨w.heap.size, 2, none⟩ = some (.int .i64 sl)) ∧ (w'.cell? ⟨g7, 0, none⟩ = some (.int .u64 gk) ∧ w'.cell? ⟨g7, 1, none⟩ = some (.int .u64 gv) ∧ w'.cell? ⟨g7, 2, none⟩ = some (.bool gg)) ∧ (w'.cell? ⟨g9, 0, none⟩ = some (.int .u64 gk) ∧ w'.cell? ⟨g9, 1, none⟩ = some (.int .u64 gv) ∧ w'.cell? ⟨g9, 2, none⟩ = some (.bool gg)) ∧ (w'.cell? ⟨g11, 0, none⟩ = some (.int .u64 tk) ∧ w'.cell? ⟨g11, 1, none⟩ = some (.int .u64 tv) ∧ w'.cell? ⟨g11, 2, none⟩ = some (.bool tg)) ∧ (w'.cell? ⟨g13, 0, none⟩ = some (.int .u64 tk) ∧ w'.cell? ⟨g13, 1, none⟩ = some (.int .u64 tv) ∧ w'.cell? ⟨g13, 2, none⟩ = some (.bool tg)) ∧ w'.cell? ⟨r, 0, none⟩ = some (.pointer (some ⟨p, 0, none⟩))) ∧ (w'.cell? ⟨g15, 0, none⟩ = some (.int .u64 sf) ∧ w'.cell? ⟨g15, 1, none⟩ = some (.float .f64 sl') ∧ w'.cell? ⟨g15, 2, none⟩ = some (.float .f64 it) ∧ w'.cell? ⟨g15, 3, none⟩ = some (.int .i64 fr) ∧ w'.cell? ⟨g15, 4, none⟩ = some (.int .i64 up)))
    (first | (refine HAL6.out _ ?_; repeat (first | exact hfh | exact hfg | exact hff | exact hfe | exact hfd | exact hfc | exact hfb | exact hfa | exact Fr.refl _ | refine Fr.drew ?_)))
    (first
      | (go_at_call 26; refine (C26.out _ (HFX.out.trans (by (repeat (first |  exact Fr.refl _ | refine Fr.drew ?_))))).mono ?_; rintro e wa ⟨rfl, qq⟩; have hfa : Fr w6 wa := Fr.trans (by (repeat (first |  exact Fr.refl _ | refine Fr.drew ?_))) qq)
      | (go_at_call 35; refine (C35.out _ (HFX.out.trans (by (repeat (first | exact hfa |  exact Fr.refl _ | refine Fr.drew ?_))))).mono ?_; rintro e wb ⟨rfl, qq⟩; have hfb : Fr w6 wb := Fr.trans (by (repeat (first | exact hfa |  exact Fr.refl _ | refine Fr.drew ?_))) qq)
      | (go_at_call 25; refine (C25.out _ (HFX.out.trans (by (repeat (first | exact hfb | exact hfa |  exact Fr.refl _ | refine Fr.drew ?_))))).mono ?_; rintro e wc ⟨rfl, qq⟩; have hfc : Fr w6 wc := Fr.trans (by (repeat (first | exact hfb | exact hfa |  exact Fr.refl _ | refine Fr.drew ?_))) qq)
      | (go_at_call 36; refine (C36.out _ (HFX.out.trans (by (repeat (first | exact hfc | exact hfb | exact hfa |  exact Fr.refl _ | refine Fr.drew ?_))))).mono ?_; rintro e wd ⟨rfl, qq⟩; have hfd : Fr w6 wd := Fr.trans (by (repeat (first | exact hfc | exact hfb | exact hfa |  exact Fr.refl _ | refine Fr.drew ?_))) qq)
      | (go_at_call 27; refine (C27.out _ (HFX.out.trans (by (repeat (first | exact hfd | exact hfc | exact hfb | exact hfa |  exact Fr.refl _ | refine Fr.drew ?_))))).mono ?_; rintro e we ⟨rfl, qq⟩; have hfe : Fr w6 we := Fr.trans (by (repeat (first | exact hfd | exact hfc | exact hfb | exact hfa |  exact Fr.refl _ | refine Fr.drew ?_))) qq)
      | (go_at_call 37; refine (C37.out _ (HFX.out.trans (by (repeat (first | exact hfe | exact hfd | exact hfc | exact hfb | exact hfa |  exact Fr.refl _ | refine Fr.drew ?_))))).mono ?_; rintro e wf ⟨rfl, qq⟩; have hff : Fr w6 wf := Fr.trans (by (repeat (first | exact hfe | exact hfd | exact hfc | exact hfb | exact hfa |  exact Fr.refl _ | refine Fr.drew ?_))) qq)
      | (go_at_call 39; refine (C39.out _ (HFX.out.trans (by (repeat (first | exact hff | exact hfe | exact hfd | exact hfc | exact hfb | exact hfa |  exact Fr.refl _ | refine Fr.drew ?_))))).mono ?_; rintro e wg ⟨rfl, qq⟩; have hfg : Fr w6 wg := Fr.trans (by (repeat (first | exact hff | exact hfe | exact hfd | exact hfc | exact hfb | exact hfa |  exact Fr.refl _ | refine Fr.drew ?_))) qq)
      | (go_at_call 38; refine (C38.out _).mono ?_; rintro e wh ⟨rfl, qq⟩; have hfh : Fr w6 wh := Fr.trans (by (repeat (first | exact hfg | exact hff | refine Fr.drew ?_))) qq))
  go_wp2_with fail
  go_ret
  exact ⟨rfl, HFX.out.trans hfh⟩
end Go.Proofs.YtelpbbkmkighfaaGreat
