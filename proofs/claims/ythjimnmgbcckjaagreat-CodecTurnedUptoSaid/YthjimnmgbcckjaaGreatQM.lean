/- Parts of this proof, one behind the other: CdS. -/
import Derived.Deep.RegionHeld3
import Derived.Great.Frames
import Derived.Test.YthjimnmgbcckjaaGreatQL
namespace Go.Proofs.YthjimnmgbcckjaaGreat
set_option maxRecDepth 100000
open Go.RowKit Go.Inc Go.Run
attribute [local go_sem] run_store_float

def rowOf (b : ByteArray) (K : List Int) (a : Nat) : Option (List Seg × Nat) :=
  match cntAt b a 4294967296 with
  | none => none
  | some (m, a1) => rowAt' b K m 0 a1
/-- What reading a row comes to. -/
def RowPost (g : Nat) (b : ByteArray) (base : Nat) (w : World) (o : Option (List Seg × Nat)) (e : Ending) (w' : World) : Prop :=
  Mv (one1 g) w w' ∧ match o with
  | none => Broke e
  | some (S, a') => ∃ A' c' A2 c2, e = .returned (.tuple #[.slice A' S.length c', .slice A2 S.length c2]) ∧ Own w' base 65 5 A' S.length c' (S.flatMap sgcells) ∧ Own w' base 50 1 A2 S.length c2 ((firstsOf S).map uv) ∧ IsR w' g b a'
theorem isR_set {w : World} {g g' : Nat} {b : ByteArray} {a : Nat} (h : IsR w g b a) (hne : g' ≠ g) (o : Nat) (v : Value) : IsR (w.setCell ⟨g', o, none⟩ v) g b a := blk_set_ne h (by simpa using hne) v
theorem rowAt_succ (b : ByteArray) (K : List Int) (n f a : Nat) : rowAt' b K (n + 1) f a = match segAt b a with | none => none | some ((t, s, i), a1) => if f < K.length then (match rowAt' b K n t a1 with | none => none | some (S, a2) => some (⟨ky K f, s, i, f, t⟩ :: S, a2)) else none := rfl
theorem row_step {b : ByteArray} {K : List Int} {m i f a : Nat} {S : List Seg} {X : Option (List Seg × Nat)} (hi : i < m) (h : X = match rowAt' b K (m - i) f a with | none => none | some (S', a') => some (S ++ S', a')) :
    X = match segAt b a with | none => none | some ((t, s, n), ap) => if f < K.length then (match rowAt' b K (m - (i + 1)) t ap with | none => none | some (S', a') => some ((S ++ [(⟨ky K f, s, n, f, t⟩ : Seg)]) ++ S', a')) else none := by
  rw [h, show m - i = (m - (i + 1)) + 1 by omega, rowAt_succ]
  cases segAt b a with
  | none => rfl
  | some q =>
    obtain ⟨⟨t, s, n⟩, ap⟩ := q
    dsimp only
    by_cases hf : f < K.length
    · rw [if_pos hf, if_pos hf]
      cases rowAt' b K (m - (i + 1)) t ap with
      | none => rfl
      | some q => simp
    · rw [if_neg hf, if_neg hf]

theorem segfin_alloc {g : Nat} {b : ByteArray} {q : Nat} {wo wd : World} (hm : Mv (one1 g) wo wd) (hR : IsR wd g b q) (cs : Array Value) {e : TypeId} :
    Hid (wo.heap.size ≤ wd.heap.size ∧ wd.heap.size < (wd.alloc (.cells cs e)).heap.size) ∧ Hid ((wd.alloc (.cells cs e)).heap[wd.heap.size]? = some (.cells cs e (0, 0))) ∧ Hid (IsR (wd.alloc (.cells cs e)) g b q) ∧ Hid (Mv (one1 g) wo (wd.alloc (.cells cs e))) :=
  ⟨⟨hm.size, blk_lt (heap_alloc_new wd (.cells cs e))⟩, heap_alloc_new wd (.cells cs e), isR_fr hR ((Fr.refl _).alloc _), Mv.then hm ((Fr.refl _).alloc _)⟩
theorem segfin_set {g : Nat} {b : ByteArray} {q n : Nat} {wo wd : World} {c0 c1 c2 c3 c4 : Value} {e : TypeId} {fr : Nat × Nat} (hn : wd.heap[n]? = some (.cells #[c0, c1, c2, c3, c4] e fr)) (hlo : wo.heap.size ≤ n) (hg : g < wo.heap.size) (hm : Mv (one1 g) wo wd) (hR : IsR wd g b q) (v0 v1 v2 v3 v4 : Value) :
    Hid (wo.heap.size ≤ n ∧ n < (((((wd.setCell ⟨n, 0, none⟩ v0).setCell ⟨n, 1, none⟩ v1).setCell ⟨n, 2, none⟩ v2).setCell ⟨n, 3, none⟩ v3).setCell ⟨n, 4, none⟩ v4).heap.size) ∧ Hid ((((((wd.setCell ⟨n, 0, none⟩ v0).setCell ⟨n, 1, none⟩ v1).setCell ⟨n, 2, none⟩ v2).setCell ⟨n, 3, none⟩ v3).setCell ⟨n, 4, none⟩ v4).heap[n]? = some (.cells #[v0, v1, v2, v3, v4] e fr)) ∧
    Hid (IsR (((((wd.setCell ⟨n, 0, none⟩ v0).setCell ⟨n, 1, none⟩ v1).setCell ⟨n, 2, none⟩ v2).setCell ⟨n, 3, none⟩ v3).setCell ⟨n, 4, none⟩ v4) g b q) ∧ Hid (Mv (one1 g) wo (((((wd.setCell ⟨n, 0, none⟩ v0).setCell ⟨n, 1, none⟩ v1).setCell ⟨n, 2, none⟩ v2).setCell ⟨n, 3, none⟩ v3).setCell ⟨n, 4, none⟩ v4)) := by
  have h5 : (((((wd.setCell ⟨n, 0, none⟩ v0).setCell ⟨n, 1, none⟩ v1).setCell ⟨n, 2, none⟩ v2).setCell ⟨n, 3, none⟩ v3).setCell ⟨n, 4, none⟩ v4).heap[n]? = some (.cells #[v0, v1, v2, v3, v4] e fr) := blk_set (blk_set (blk_set (blk_set (blk_set hn 0 v0) 1 v1) 2 v2) 3 v3) 4 v4
  have hne : n ≠ g := by omega
  exact ⟨⟨hlo, blk_lt h5⟩, h5, isR_set (isR_set (isR_set (isR_set (isR_set hR hne _ _) hne _ _) hne _ _) hne _ _) hne _ _, Mv.set (Mv.set (Mv.set (Mv.set (Mv.set hm (.inr hlo) _) (.inr hlo) _) (.inr hlo) _) (.inr hlo) _) (.inr hlo) _⟩
set_option maxHeartbeats 16000000 in
theorem cdRow_calls (g : Nat) (b : ByteArray) (a : Nat) (K : List Int) (Ak : Option Addr) (nk ck : Nat) (hk : nk = K.length) (hnk : nk ≤ 268435456) (hKo : KeysOk K) (w : World) (h : IsR w g b a) (h1 : a ≤ b.size) (hb : b.size ≤ 2147483648) (hr : RdC w Ak (K.map uv)) (hAk : ∀ k, ablk Ak = some k → k ≠ g) :
    Calls Tryz.prog 43 #[.agg #[.pointer (some ⟨g, 0, none⟩)], .slice Ak nk ck] w (RowPost g b w.heap.size w (rowOf b K a)) := by
  have HGW : Hid (g < w.heap.size) := isR_lt h
  have hbm : b.size ≤ maxLen := by unfold maxLen; omega
  have h1b := heap_alloc_new w (.cells #[.pointer (some ⟨g, 0, none⟩)] 86)
  have HH := Lib.hid (h.below ((Fr.refl w).alloc (.cells #[.pointer (some ⟨g, 0, none⟩)] 86)))
  have HB := Lib.hid h1b
  have HM := Lib.hid hbm
  have HR := Lib.hid hr
  have HAK := Lib.hid hAk
  have HK := Lib.hid hk
  have HKO := Lib.hid hKo
  have x0 := cells1 h1b
  clear h h1b hr hAk hk hKo
  unfold rowOf
  rcases hc : cntAt b a 4294967296 with _ | ⟨n, a1⟩
  · have CN := Lib.hid (cnt_none g b a 4294967296 (by decide) _ HH.out h1 hbm hc)
    have HF := Lib.hid ((Fr.refl w).alloc (.cells #[.pointer (some ⟨g, 0, none⟩)] 86))
    clear hc
    go_enter Tryz.func43, Tryz.ntmps43
    go_wp2_with fail
    refine CN.out.mono ?_
    rintro _ w2 ⟨v, hv, rfl, hm⟩
    have HM2 : Hid (Mv (one1 g) w w2) := (Mv.of_fr HF.out).trans' hm
    clear hm
    go_wp2_with fail
    refine (cdMustI_no 0 v hv w2).mono ?_
    rintro _ w3 ⟨rfl, rfl⟩
    go_wp2_with fail
    exact ⟨rfl, HM2.out, rfl⟩
  · obtain ⟨p1, p2, p3⟩ := cntAt_some hc
    have CN := Lib.hid (cnt_some g b a 4294967296 (by decide) _ HH.out h1 hbm n a1 hc)
    have HF := Lib.hid ((Fr.refl w).alloc (.cells #[.pointer (some ⟨g, 0, none⟩)] 86))
    clear hc
    dsimp only
    go_enter Tryz.func43, Tryz.ntmps43
    go_wp2_with fail
    refine CN.out.mono ?_
    rintro _ w2 ⟨rfl, hR, hm⟩
    have HM2 : Hid (Mv (one1 g) w w2) := (Mv.of_fr HF.out).trans' hm
    have HBR2 : Hid (w2.heap[w.heap.size]? = some (.cells #[.pointer (some ⟨g, 0, none⟩)] 86 (0, 0))) := hm.blk HB.out (fun h => by have := HGW.out; have : w.heap.size = g := h; omega)
    have HR2 := Lib.hid hR
    clear hm hR x0
    go_wp2_with fail
    refine (cdMustI_ok n w2).mono ?_
    rintro _ w3 ⟨rfl, rfl⟩
    go_wp2_with fail
    go_loopw [7, 8, 9, 18] (fun v7 v8 v9 v18 wr => ∃ (i ai f : Nat) (Al : Option Addr) (cl : Nat) (A2 : Option Addr) (c2 : Nat) (S : List Seg), v7 = .slice Al i cl ∧ v8 = .slice A2 i c2 ∧ v9 = .int .i64 f ∧ v18 = .int .i64 i ∧ i ≤ n ∧ f ≤ 4294967296 ∧ Hid (S.length = i) ∧ 24 * i ≤ ai ∧ ai ≤ b.size ∧ Hid (Own wr (w.heap.size + 1) 65 5 Al i cl (S.flatMap sgcells)) ∧ Hid (Own wr (w.heap.size + 1) 50 1 A2 i c2 ((firstsOf S).map uv)) ∧ Hid (IsR wr g b ai) ∧ Hid (wr.heap[w.heap.size]? = some (.cells #[.pointer (some ⟨g, 0, none⟩)] 86 (0, 0))) ∧ Hid (Mv (one1 g) w wr) ∧
      Hid (w.heap.size + 1 ≤ wr.heap.size) ∧ Hid (rowAt' b K n 0 a1 = match rowAt' b K (n - i) f ai with | none => none | some (S', a') => some (S ++ S', a'))) (fun _ _ _ v18 _ => n - (intOf v18).toNat)
    case atStart => exact ⟨0, a1, 0, none, 0, none, 0, [], rfl, rfl, rfl, rfl, by omega, by omega, rfl, by omega, p2, Own.nil _ _ _ _, Own.nil _ _ _ _, HR2.out, HBR2.out, HM2.out, (Array.getElem?_eq_some_iff.1 HBR2.out).1, by
      rw [Hid, Nat.sub_zero]
      cases rowAt' b K n 0 a1 with
      | none => rfl
      | some p => rfl⟩
    case round =>
      obtain ⟨i, ai, f, Al, cl, A2, c2, S, rfl, rfl, rfl, rfl, hin, hf32, hll, h9i, haib, hown, hown2, hR, hbr, hmv, hsz, heq⟩ := hrel
      obtain ⟨wo, hwo⟩ : ∃ wo, wo = wr := ⟨_, rfl⟩
      subst hwo
      have x0 := cells1 hbr.out
      rcases Nat.lt_or_ge i n with hlt | hge
      · have d1 : decide (i < n) = true := decide_eq_true hlt
        have d2 : (i : Int) < (n : Int) := by omega
        have wi : IntKind.i64.wrap ((i : Int) + 1) = (i : Int) + 1 := wrap_i64_in _ (by omega) (by omega)
        have HEQ := Lib.hid (row_step hlt heq.out)
        have HALL : Hid (∀ w', Mv (one1 g) wo w' → w'.cell? ⟨w.heap.size, 0, none⟩ = some (.pointer (some ⟨g, 0, none⟩))) := fun w' h => cells1 (h.blk hbr.out (fun h => by have := HGW.out; have : w.heap.size = g := h; omega))
        clear heq
        rcases hk : segAt b ai with _ | ⟨⟨t, s, m⟩, q3⟩
        · have HNO : Hid (rowAt' b K n 0 a1 = none) := by rw [Hid, HEQ.out, hk]
          clear HEQ
          rcases e1 : cntAt b ai 4294967296 with _ | ⟨t, q1⟩
          · have CN : Hid (∀ w', IsR w' g b ai → Calls Tryz.prog 41 #[.pointer (some ⟨g, 0, none⟩), .int .i64 4294967296] w' fun e w'' => ∃ v, v ≠ 0 ∧ e = .returned (.tuple #[.int .i64 0, .int .i64 v]) ∧ Mv (one1 g) w' w'') := fun w' h => cnt_none g b ai 4294967296 (by decide) w' h haib HM.out e1
            clear e1 hk
            go_wp2_with fail
            have hRo := hR.out
            refine Code.wp_mono (Q := fun e a9 w9 => e = Exit.panic [{ v := brokenV, recovered := false }] ∧ a9.defers = [] ∧ Mv (one1 g) wo w9) ?_ ?_
            · rintro _ a9 w9 ⟨rfl, hd9, hm9⟩
              exact ⟨hd9, hmv.out.trans' hm9, by rw [HNO.out]; rfl⟩
            refine wp_region_held_drew (S := fun w' => w'.cell? ⟨w.heap.size, 0, none⟩ = some (.pointer (some ⟨g, 0, none⟩))) (by kernel_rfl) (HALL.out _ (Mv.drew (Mv.refl _ _))) (fun hHeld => ?_)
            refine wpAnyH_take (i := 0) (v := ?v100) (by rfl) (by kernel_rfl) (by kernel_rfl) (by kernel_rfl) (fun _ a8 _ h => ⟨h.1, by have h9 := h.2.1; rw [Act.defers_put'] at h9; exact h9, h.2.2⟩) (Or.inl ⟨by rfl, ?y100⟩) (by assumption) ?z100
            case y100 =>
              intro w hSw
              go_simp
              try with_reducible rfl
            case' z100 => try go_frame
            refine wpAnyH_take (i := 1) (v := ?v201) (by rfl) (by kernel_rfl) (by kernel_rfl) (by kernel_rfl) (fun _ a8 _ h => ⟨h.1, by have h9 := h.2.1; rw [Act.defers_put'] at h9; exact h9, h.2.2⟩) (Or.inl ⟨by rfl, ?y201⟩) (by assumption) ?z201
            case y201 =>
              intro w hSw
              go_simp
              try with_reducible rfl
            case' z201 => try go_frame
            refine wpAnyH_take (i := 2) (v := ?v302) (by rfl) (by kernel_rfl) (by kernel_rfl) (by kernel_rfl) (fun _ a8 _ h => ⟨h.1, by have h9 := h.2.1; rw [Act.defers_put'] at h9; exact h9, h.2.2⟩) (Or.inl ⟨by rfl, ?y302⟩) (by assumption) ?z302
            case y302 =>
              intro w hSw
              go_simp
              try with_reducible rfl
            case' z302 => try go_frame
            refine wpAnyH_take (i := 7) (v := ?v407) (by rfl) (by kernel_rfl) (by kernel_rfl) (by kernel_rfl) (fun _ a8 _ h => ⟨h.1, by have h9 := h.2.1; rw [Act.defers_put'] at h9; exact h9, h.2.2⟩) (Or.inl ⟨by rfl, ?y407⟩) (by assumption) ?z407
            case y407 =>
              intro w hSw
              go_simp
              try with_reducible rfl
            case' z407 => try go_frame
            refine wpAnyH_take (i := 8) (v := ?v508) (by rfl) (by kernel_rfl) (by kernel_rfl) (by kernel_rfl) (fun _ a8 _ h => ⟨h.1, by have h9 := h.2.1; rw [Act.defers_put'] at h9; exact h9, h.2.2⟩) (Or.inl ⟨by rfl, ?y508⟩) (by assumption) ?z508
            case y508 =>
              intro w hSw
              go_simp
              try with_reducible rfl
            case' z508 => try go_frame
            refine wpAnyH_take (i := 13) (v := ?v613) (by rfl) (by kernel_rfl) (by kernel_rfl) (by kernel_rfl) (fun _ a8 _ h => ⟨h.1, by have h9 := h.2.1; rw [Act.defers_put'] at h9; exact h9, h.2.2⟩) (Or.inl ⟨by rfl, ?y613⟩) (by assumption) ?z613
            case y613 =>
              intro w hSw
              go_simp
              try with_reducible rfl
            case' z613 => try go_frame
            refine wpAnyH_take (i := 14) (v := ?v714) (by rfl) (by kernel_rfl) (by kernel_rfl) (by kernel_rfl) (fun _ a8 _ h => ⟨h.1, by have h9 := h.2.1; rw [Act.defers_put'] at h9; exact h9, h.2.2⟩) (Or.inl ⟨by rfl, ?y714⟩) (by assumption) ?z714
            case y714 =>
              intro w hSw
              go_simp
              try with_reducible rfl
            case' z714 => try go_frame
            refine wpAnyH_ready (rs := [3, 20]) (by kernel_rfl) (by simp) ?_
            refine AllReadyH.cons (by rfl) (fun K9 hK9 => ?_) ?_
            · go_simp
              refine (CN.out _ (by first | with_reducible exact hRo | with_reducible exact isR_fr hRo ((Fr.refl _).drew) | with_reducible exact isR_fr hRo (((Fr.refl _).alloc _).drew) | with_reducible exact isR_fr hRo (((Fr.refl _).drew).alloc _) | with_reducible exact isR_fr hRo ((Fr.refl _).alloc _))).mono ?_
              rintro e wa ⟨v, hv, rfl, qq⟩
              have HV := Lib.hid hv
              have hma : Mv (one1 g) wo wa := Mv.trans' (by (repeat (first | with_reducible exact Mv.refl _ _ | with_reducible refine Mv.then ?_ ((Fr.refl _).alloc _) | with_reducible refine Mv.drew ?_))) qq
              clear hv
              dsimp only
              refine hK9.out _ _ (HALL.out _ (by (repeat (first | with_reducible exact hma | with_reducible exact Mv.refl _ _ | with_reducible refine Mv.then ?_ ((Fr.refl _).alloc _) | with_reducible refine Mv.drew ?_)))) (fun hHeld => ?_)
              try go_frame
              refine wpAnyH_take (i := 4) (v := ?v804) (by rfl) (by kernel_rfl) (by kernel_rfl) (by kernel_rfl) (fun _ a8 _ h => ⟨h.1, by have h9 := h.2.1; rw [Act.defers_put'] at h9; exact h9, h.2.2⟩) (Or.inl ⟨by rfl, ?y804⟩) (by assumption) ?z804
              case y804 =>
                intro w hSw
                go_simp
                try with_reducible rfl
              case' z804 => try go_frame
              refine wpAnyH_take (i := 5) (v := ?v905) (by rfl) (by kernel_rfl) (by kernel_rfl) (by kernel_rfl) (fun _ a8 _ h => ⟨h.1, by have h9 := h.2.1; rw [Act.defers_put'] at h9; exact h9, h.2.2⟩) (Or.inl ⟨by rfl, ?y905⟩) (by assumption) ?z905
              case y905 =>
                intro w hSw
                go_simp
                try with_reducible rfl
              case' z905 => try go_frame
              refine wpAnyH_ready (rs := [6, 20]) (by kernel_rfl) (by simp) ?_
              refine AllReadyH.cons (by rfl) (fun K9 hK9 => ?_) ?_
              · go_simp
                refine (cdMustI_no 0 v HV.out _).mono ?_
                rintro e wz ⟨rfl, rfl⟩
                first | refine ⟨rfl, rfl, ?_⟩ | refine ⟨rfl, ?_⟩
                (repeat (first | with_reducible exact hma | with_reducible exact Mv.refl _ _ | with_reducible refine Mv.then ?_ ((Fr.refl _).alloc _) | with_reducible refine Mv.drew ?_))
              refine AllReadyH.cons (by rfl) (fun K9 hK9 => ?_) ?_
              · go_simp
                refine hK9.out _ _ (HALL.out _ (by (repeat (first | with_reducible exact hma | with_reducible exact Mv.refl _ _ | with_reducible refine Mv.then ?_ ((Fr.refl _).alloc _) | with_reducible refine Mv.drew ?_)))) (fun hHeld => ?_)
                try go_frame
                refine wpAnyH_ready (rs := [6]) (by kernel_rfl) (by simp) ?_
                refine AllReadyH.cons (by rfl) (fun K9 hK9 => ?_) ?_
                · go_simp
                  refine (cdMustI_no 0 v HV.out _).mono ?_
                  rintro e wz ⟨rfl, rfl⟩
                  first | refine ⟨rfl, rfl, ?_⟩ | refine ⟨rfl, ?_⟩
                  (repeat (first | with_reducible exact hma | with_reducible exact Mv.refl _ _ | with_reducible refine Mv.then ?_ ((Fr.refl _).alloc _) | with_reducible refine Mv.drew ?_))
                exact AllReadyH.nil
              exact AllReadyH.nil
            refine AllReadyH.cons (by rfl) (fun K9 hK9 => ?_) ?_
            · go_simp
              refine hK9.out _ _ (HALL.out _ (by (repeat (first | with_reducible exact Mv.refl _ _ | with_reducible refine Mv.then ?_ ((Fr.refl _).alloc _) | with_reducible refine Mv.drew ?_)))) (fun hHeld => ?_)
              try go_frame
              refine wpAnyH_ready (rs := [3]) (by kernel_rfl) (by simp) ?_
              refine AllReadyH.cons (by rfl) (fun K9 hK9 => ?_) ?_
              · go_simp
                refine (CN.out _ (by first | with_reducible exact hRo | with_reducible exact isR_fr hRo ((Fr.refl _).drew) | with_reducible exact isR_fr hRo (((Fr.refl _).alloc _).drew) | with_reducible exact isR_fr hRo (((Fr.refl _).drew).alloc _) | with_reducible exact isR_fr hRo ((Fr.refl _).alloc _))).mono ?_
                rintro e wa ⟨v, hv, rfl, qq⟩
                have HV := Lib.hid hv
                have hma : Mv (one1 g) wo wa := Mv.trans' (by (repeat (first | with_reducible exact Mv.refl _ _ | with_reducible refine Mv.then ?_ ((Fr.refl _).alloc _) | with_reducible refine Mv.drew ?_))) qq
                clear hv
                dsimp only
                refine hK9.out _ _ (HALL.out _ (by (repeat (first | with_reducible exact hma | with_reducible exact Mv.refl _ _ | with_reducible refine Mv.then ?_ ((Fr.refl _).alloc _) | with_reducible refine Mv.drew ?_)))) (fun hHeld => ?_)
                try go_frame
                refine wpAnyH_take (i := 4) (v := ?v1004) (by rfl) (by kernel_rfl) (by kernel_rfl) (by kernel_rfl) (fun _ a8 _ h => ⟨h.1, by have h9 := h.2.1; rw [Act.defers_put'] at h9; exact h9, h.2.2⟩) (Or.inl ⟨by rfl, ?y1004⟩) (by assumption) ?z1004
                case y1004 =>
                  intro w hSw
                  go_simp
                  try with_reducible rfl
                case' z1004 => try go_frame
                refine wpAnyH_take (i := 5) (v := ?v1105) (by rfl) (by kernel_rfl) (by kernel_rfl) (by kernel_rfl) (fun _ a8 _ h => ⟨h.1, by have h9 := h.2.1; rw [Act.defers_put'] at h9; exact h9, h.2.2⟩) (Or.inl ⟨by rfl, ?y1105⟩) (by assumption) ?z1105
                case y1105 =>
                  intro w hSw
                  go_simp
                  try with_reducible rfl
                case' z1105 => try go_frame
                refine wpAnyH_ready (rs := [6]) (by kernel_rfl) (by simp) ?_
                refine AllReadyH.cons (by rfl) (fun K9 hK9 => ?_) ?_
                · go_simp
                  refine (cdMustI_no 0 v HV.out _).mono ?_
                  rintro e wz ⟨rfl, rfl⟩
                  first | refine ⟨rfl, rfl, ?_⟩ | refine ⟨rfl, ?_⟩
                  (repeat (first | with_reducible exact hma | with_reducible exact Mv.refl _ _ | with_reducible refine Mv.then ?_ ((Fr.refl _).alloc _) | with_reducible refine Mv.drew ?_))
                exact AllReadyH.nil
              exact AllReadyH.nil
            exact AllReadyH.nil
          rcases e2 : fltAt b q1 with _ | ⟨s, q2⟩
          · have l1 := cntAt_some e1
            have C1 : Hid (∀ w', IsR w' g b ai → Calls Tryz.prog 41 #[.pointer (some ⟨g, 0, none⟩), .int .i64 4294967296] w' fun e w'' => e = .returned (.tuple #[.int .i64 (t : Nat), .int .i64 0]) ∧ IsR w'' g b q1 ∧ Mv (one1 g) w' w'') := fun w' h => cnt_some g b ai 4294967296 (by decide) w' h haib HM.out t q1 e1
            have CN : Hid (∀ w', IsR w' g b q1 → Calls Tryz.prog 78 #[.pointer (some ⟨g, 0, none⟩)] w' fun e w'' => ∃ v, v ≠ 0 ∧ e = .returned (.tuple #[.float .f64 0, .int .i64 v]) ∧ Mv (one1 g) w' w'') := fun w' h => flt_none g b q1 w' h l1.2.1 HM.out e2
            clear e1 e2 hk l1
            go_wp2_with fail
            have hRo := hR.out
            refine Code.wp_mono (Q := fun e a9 w9 => e = Exit.panic [{ v := brokenV, recovered := false }] ∧ a9.defers = [] ∧ Mv (one1 g) wo w9) ?_ ?_
            · rintro _ a9 w9 ⟨rfl, hd9, hm9⟩
              exact ⟨hd9, hmv.out.trans' hm9, by rw [HNO.out]; rfl⟩
            refine wp_region_held_drew (S := fun w' => w'.cell? ⟨w.heap.size, 0, none⟩ = some (.pointer (some ⟨g, 0, none⟩))) (by kernel_rfl) (HALL.out _ (Mv.drew (Mv.refl _ _))) (fun hHeld => ?_)
            refine wpAnyH_take (i := 0) (v := ?v1200) (by rfl) (by kernel_rfl) (by kernel_rfl) (by kernel_rfl) (fun _ a8 _ h => ⟨h.1, by have h9 := h.2.1; rw [Act.defers_put'] at h9; exact h9, h.2.2⟩) (Or.inl ⟨by rfl, ?y1200⟩) (by assumption) ?z1200
            case y1200 =>
              intro w hSw
              go_simp
              try with_reducible rfl
            case' z1200 => try go_frame
            refine wpAnyH_take (i := 1) (v := ?v1301) (by rfl) (by kernel_rfl) (by kernel_rfl) (by kernel_rfl) (fun _ a8 _ h => ⟨h.1, by have h9 := h.2.1; rw [Act.defers_put'] at h9; exact h9, h.2.2⟩) (Or.inl ⟨by rfl, ?y1301⟩) (by assumption) ?z1301
            case y1301 =>
              intro w hSw
              go_simp
              try with_reducible rfl
            case' z1301 => try go_frame
            refine wpAnyH_take (i := 2) (v := ?v1402) (by rfl) (by kernel_rfl) (by kernel_rfl) (by kernel_rfl) (fun _ a8 _ h => ⟨h.1, by have h9 := h.2.1; rw [Act.defers_put'] at h9; exact h9, h.2.2⟩) (Or.inl ⟨by rfl, ?y1402⟩) (by assumption) ?z1402
            case y1402 =>
              intro w hSw
              go_simp
              try with_reducible rfl
            case' z1402 => try go_frame
            refine wpAnyH_take (i := 7) (v := ?v1507) (by rfl) (by kernel_rfl) (by kernel_rfl) (by kernel_rfl) (fun _ a8 _ h => ⟨h.1, by have h9 := h.2.1; rw [Act.defers_put'] at h9; exact h9, h.2.2⟩) (Or.inl ⟨by rfl, ?y1507⟩) (by assumption) ?z1507
            case y1507 =>
              intro w hSw
              go_simp
              try with_reducible rfl
            case' z1507 => try go_frame
            refine wpAnyH_take (i := 8) (v := ?v1608) (by rfl) (by kernel_rfl) (by kernel_rfl) (by kernel_rfl) (fun _ a8 _ h => ⟨h.1, by have h9 := h.2.1; rw [Act.defers_put'] at h9; exact h9, h.2.2⟩) (Or.inl ⟨by rfl, ?y1608⟩) (by assumption) ?z1608
            case y1608 =>
              intro w hSw
              go_simp
              try with_reducible rfl
            case' z1608 => try go_frame
            refine wpAnyH_take (i := 13) (v := ?v1713) (by rfl) (by kernel_rfl) (by kernel_rfl) (by kernel_rfl) (fun _ a8 _ h => ⟨h.1, by have h9 := h.2.1; rw [Act.defers_put'] at h9; exact h9, h.2.2⟩) (Or.inl ⟨by rfl, ?y1713⟩) (by assumption) ?z1713
            case y1713 =>
              intro w hSw
              go_simp
              try with_reducible rfl
            case' z1713 => try go_frame
            refine wpAnyH_take (i := 14) (v := ?v1814) (by rfl) (by kernel_rfl) (by kernel_rfl) (by kernel_rfl) (fun _ a8 _ h => ⟨h.1, by have h9 := h.2.1; rw [Act.defers_put'] at h9; exact h9, h.2.2⟩) (Or.inl ⟨by rfl, ?y1814⟩) (by assumption) ?z1814
            case y1814 =>
              intro w hSw
              go_simp
              try with_reducible rfl
            case' z1814 => try go_frame
            refine wpAnyH_ready (rs := [3, 20]) (by kernel_rfl) (by simp) ?_
            refine AllReadyH.cons (by rfl) (fun K9 hK9 => ?_) ?_
            · go_simp
              refine (C1.out _ (by first | with_reducible exact hRo | with_reducible exact isR_fr hRo ((Fr.refl _).drew) | with_reducible exact isR_fr hRo (((Fr.refl _).alloc _).drew) | with_reducible exact isR_fr hRo (((Fr.refl _).drew).alloc _) | with_reducible exact isR_fr hRo ((Fr.refl _).alloc _))).mono ?_
              rintro e wa ⟨rfl, hRa, qq⟩
              have hma : Mv (one1 g) wo wa := Mv.trans' (by (repeat (first | with_reducible exact Mv.refl _ _ | with_reducible refine Mv.then ?_ ((Fr.refl _).alloc _) | with_reducible refine Mv.drew ?_))) qq
              dsimp only
              refine hK9.out _ _ (HALL.out _ (by (repeat (first | with_reducible exact hma | with_reducible exact Mv.refl _ _ | with_reducible refine Mv.then ?_ ((Fr.refl _).alloc _) | with_reducible refine Mv.drew ?_)))) (fun hHeld => ?_)
              try go_frame
              refine wpAnyH_take (i := 4) (v := ?v1904) (by rfl) (by kernel_rfl) (by kernel_rfl) (by kernel_rfl) (fun _ a8 _ h => ⟨h.1, by have h9 := h.2.1; rw [Act.defers_put'] at h9; exact h9, h.2.2⟩) (Or.inl ⟨by rfl, ?y1904⟩) (by assumption) ?z1904
              case y1904 =>
                intro w hSw
                go_simp
                try with_reducible rfl
              case' z1904 => try go_frame
              refine wpAnyH_take (i := 5) (v := ?v2005) (by rfl) (by kernel_rfl) (by kernel_rfl) (by kernel_rfl) (fun _ a8 _ h => ⟨h.1, by have h9 := h.2.1; rw [Act.defers_put'] at h9; exact h9, h.2.2⟩) (Or.inl ⟨by rfl, ?y2005⟩) (by assumption) ?z2005
              case y2005 =>
                intro w hSw
                go_simp
                try with_reducible rfl
              case' z2005 => try go_frame
              refine wpAnyH_ready (rs := [6, 20]) (by kernel_rfl) (by simp) ?_
              refine AllReadyH.cons (by rfl) (fun K9 hK9 => ?_) ?_
              · go_simp
                refine (cdMustI_ok t _).mono ?_
                rintro e wz ⟨rfl, rfl⟩
                dsimp only
                refine hK9.out _ _ (HALL.out _ (by (repeat (first | with_reducible exact hma | with_reducible exact Mv.refl _ _ | with_reducible refine Mv.then ?_ ((Fr.refl _).alloc _) | with_reducible refine Mv.drew ?_)))) (fun hHeld => ?_)
                try go_frame
                refine wpAnyH_ready (rs := [9, 20]) (by kernel_rfl) (by simp) ?_
                refine AllReadyH.cons (by rfl) (fun K9 hK9 => ?_) ?_
                · go_simp
                  refine (CN.out _ (by first | with_reducible exact hRa | with_reducible exact isR_fr hRa ((Fr.refl _).drew) | with_reducible exact isR_fr hRa (((Fr.refl _).alloc _).drew) | with_reducible exact isR_fr hRa (((Fr.refl _).drew).alloc _) | with_reducible exact isR_fr hRa ((Fr.refl _).alloc _))).mono ?_
                  rintro e wb ⟨v, hv, rfl, qq⟩
                  have HV := Lib.hid hv
                  have hmb : Mv (one1 g) wo wb := Mv.trans' (by (repeat (first | with_reducible exact hma | with_reducible exact Mv.refl _ _ | with_reducible refine Mv.then ?_ ((Fr.refl _).alloc _) | with_reducible refine Mv.drew ?_))) qq
                  clear hv
                  dsimp only
                  refine hK9.out _ _ (HALL.out _ (by (repeat (first | with_reducible exact hmb | with_reducible exact hma | with_reducible exact Mv.refl _ _ | with_reducible refine Mv.then ?_ ((Fr.refl _).alloc _) | with_reducible refine Mv.drew ?_)))) (fun hHeld => ?_)
                  try go_frame
                  refine wpAnyH_take (i := 10) (v := ?v2110) (by rfl) (by kernel_rfl) (by kernel_rfl) (by kernel_rfl) (fun _ a8 _ h => ⟨h.1, by have h9 := h.2.1; rw [Act.defers_put'] at h9; exact h9, h.2.2⟩) (Or.inl ⟨by rfl, ?y2110⟩) (by assumption) ?z2110
                  case y2110 =>
                    intro w hSw
                    go_simp
                    try with_reducible rfl
                  case' z2110 => try go_frame
                  refine wpAnyH_take (i := 11) (v := ?v2211) (by rfl) (by kernel_rfl) (by kernel_rfl) (by kernel_rfl) (fun _ a8 _ h => ⟨h.1, by have h9 := h.2.1; rw [Act.defers_put'] at h9; exact h9, h.2.2⟩) (Or.inl ⟨by rfl, ?y2211⟩) (by assumption) ?z2211
                  case y2211 =>
                    intro w hSw
                    go_simp
                    try with_reducible rfl
                  case' z2211 => try go_frame
                  refine wpAnyH_ready (rs := [12, 20]) (by kernel_rfl) (by simp) ?_
                  refine AllReadyH.cons (by rfl) (fun K9 hK9 => ?_) ?_
                  · go_simp
                    refine (cdMustF_no 0 v HV.out _).mono ?_
                    rintro e wz ⟨rfl, rfl⟩
                    first | refine ⟨rfl, rfl, ?_⟩ | refine ⟨rfl, ?_⟩
                    (repeat (first | with_reducible exact hmb | with_reducible exact hma | with_reducible exact Mv.refl _ _ | with_reducible refine Mv.then ?_ ((Fr.refl _).alloc _) | with_reducible refine Mv.drew ?_))
                  refine AllReadyH.cons (by rfl) (fun K9 hK9 => ?_) ?_
                  · go_simp
                    refine hK9.out _ _ (HALL.out _ (by (repeat (first | with_reducible exact hmb | with_reducible exact hma | with_reducible exact Mv.refl _ _ | with_reducible refine Mv.then ?_ ((Fr.refl _).alloc _) | with_reducible refine Mv.drew ?_)))) (fun hHeld => ?_)
                    try go_frame
                    refine wpAnyH_ready (rs := [12]) (by kernel_rfl) (by simp) ?_
                    refine AllReadyH.cons (by rfl) (fun K9 hK9 => ?_) ?_
                    · go_simp
                      refine (cdMustF_no 0 v HV.out _).mono ?_
                      rintro e wz ⟨rfl, rfl⟩
                      first | refine ⟨rfl, rfl, ?_⟩ | refine ⟨rfl, ?_⟩
                      (repeat (first | with_reducible exact hmb | with_reducible exact hma | with_reducible exact Mv.refl _ _ | with_reducible refine Mv.then ?_ ((Fr.refl _).alloc _) | with_reducible refine Mv.drew ?_))
                    exact AllReadyH.nil
                  exact AllReadyH.nil
                refine AllReadyH.cons (by rfl) (fun K9 hK9 => ?_) ?_
                · go_simp
                  refine hK9.out _ _ (HALL.out _ (by (repeat (first | with_reducible exact hma | with_reducible exact Mv.refl _ _ | with_reducible refine Mv.then ?_ ((Fr.refl _).alloc _) | with_reducible refine Mv.drew ?_)))) (fun hHeld => ?_)
                  try go_frame
                  refine wpAnyH_ready (rs := [9]) (by kernel_rfl) (by simp) ?_
                  refine AllReadyH.cons (by rfl) (fun K9 hK9 => ?_) ?_
                  · go_simp
                    refine (CN.out _ (by first | with_reducible exact hRa | with_reducible exact isR_fr hRa ((Fr.refl _).drew) | with_reducible exact isR_fr hRa (((Fr.refl _).alloc _).drew) | with_reducible exact isR_fr hRa (((Fr.refl _).drew).alloc _) | with_reducible exact isR_fr hRa ((Fr.refl _).alloc _))).mono ?_
                    rintro e wb ⟨v, hv, rfl, qq⟩
                    have HV := Lib.hid hv
                    have hmb : Mv (one1 g) wo wb := Mv.trans' (by (repeat (first | with_reducible exact hma | with_reducible exact Mv.refl _ _ | with_reducible refine Mv.then ?_ ((Fr.refl _).alloc _) | with_reducible refine Mv.drew ?_))) qq
                    clear hv
                    dsimp only
                    refine hK9.out _ _ (HALL.out _ (by (repeat (first | with_reducible exact hmb | with_reducible exact hma | with_reducible exact Mv.refl _ _ | with_reducible refine Mv.then ?_ ((Fr.refl _).alloc _) | with_reducible refine Mv.drew ?_)))) (fun hHeld => ?_)
                    try go_frame
                    refine wpAnyH_take (i := 10) (v := ?v2310) (by rfl) (by kernel_rfl) (by kernel_rfl) (by kernel_rfl) (fun _ a8 _ h => ⟨h.1, by have h9 := h.2.1; rw [Act.defers_put'] at h9; exact h9, h.2.2⟩) (Or.inl ⟨by rfl, ?y2310⟩) (by assumption) ?z2310
                    case y2310 =>
                      intro w hSw
                      go_simp
                      try with_reducible rfl
                    case' z2310 => try go_frame
                    refine wpAnyH_take (i := 11) (v := ?v2411) (by rfl) (by kernel_rfl) (by kernel_rfl) (by kernel_rfl) (fun _ a8 _ h => ⟨h.1, by have h9 := h.2.1; rw [Act.defers_put'] at h9; exact h9, h.2.2⟩) (Or.inl ⟨by rfl, ?y2411⟩) (by assumption) ?z2411
                    case y2411 =>
                      intro w hSw
                      go_simp
                      try with_reducible rfl
                    case' z2411 => try go_frame
                    refine wpAnyH_ready (rs := [12]) (by kernel_rfl) (by simp) ?_
                    refine AllReadyH.cons (by rfl) (fun K9 hK9 => ?_) ?_
                    · go_simp
                      refine (cdMustF_no 0 v HV.out _).mono ?_
                      rintro e wz ⟨rfl, rfl⟩
                      first | refine ⟨rfl, rfl, ?_⟩ | refine ⟨rfl, ?_⟩
                      (repeat (first | with_reducible exact hmb | with_reducible exact hma | with_reducible exact Mv.refl _ _ | with_reducible refine Mv.then ?_ ((Fr.refl _).alloc _) | with_reducible refine Mv.drew ?_))
                    exact AllReadyH.nil
                  exact AllReadyH.nil
                exact AllReadyH.nil
              refine AllReadyH.cons (by rfl) (fun K9 hK9 => ?_) ?_
              · go_simp
                refine hK9.out _ _ (HALL.out _ (by (repeat (first | with_reducible exact hma | with_reducible exact Mv.refl _ _ | with_reducible refine Mv.then ?_ ((Fr.refl _).alloc _) | with_reducible refine Mv.drew ?_)))) (fun hHeld => ?_)
                try go_frame
                refine wpAnyH_ready (rs := [6]) (by kernel_rfl) (by simp) ?_
                refine AllReadyH.cons (by rfl) (fun K9 hK9 => ?_) ?_
                · go_simp
                  refine (cdMustI_ok t _).mono ?_
                  rintro e wz ⟨rfl, rfl⟩
                  dsimp only
                  refine hK9.out _ _ (HALL.out _ (by (repeat (first | with_reducible exact hma | with_reducible exact Mv.refl _ _ | with_reducible refine Mv.then ?_ ((Fr.refl _).alloc _) | with_reducible refine Mv.drew ?_)))) (fun hHeld => ?_)
                  try go_frame
                  refine wpAnyH_ready (rs := [9]) (by kernel_rfl) (by simp) ?_
                  refine AllReadyH.cons (by rfl) (fun K9 hK9 => ?_) ?_
                  · go_simp
                    refine (CN.out _ (by first | with_reducible exact hRa | with_reducible exact isR_fr hRa ((Fr.refl _).drew) | with_reducible exact isR_fr hRa (((Fr.refl _).alloc _).drew) | with_reducible exact isR_fr hRa (((Fr.refl _).drew).alloc _) | with_reducible exact isR_fr hRa ((Fr.refl _).alloc _))).mono ?_
                    rintro e wb ⟨v, hv, rfl, qq⟩
                    have HV := Lib.hid hv
                    have hmb : Mv (one1 g) wo wb := Mv.trans' (by (repeat (first | with_reducible exact hma | with_reducible exact Mv.refl _ _ | with_reducible refine Mv.then ?_ ((Fr.refl _).alloc _) | with_reducible refine Mv.drew ?_))) qq
                    clear hv
                    dsimp only
                    refine hK9.out _ _ (HALL.out _ (by (repeat (first | with_reducible exact hmb | with_reducible exact hma | with_reducible exact Mv.refl _ _ | with_reducible refine Mv.then ?_ ((Fr.refl _).alloc _) | with_reducible refine Mv.drew ?_)))) (fun hHeld => ?_)
                    try go_frame
                    refine wpAnyH_take (i := 10) (v := ?v2510) (by rfl) (by kernel_rfl) (by kernel_rfl) (by kernel_rfl) (fun _ a8 _ h => ⟨h.1, by have h9 := h.2.1; rw [Act.defers_put'] at h9; exact h9, h.2.2⟩) (Or.inl ⟨by rfl, ?y2510⟩) (by assumption) ?z2510
                    case y2510 =>
                      intro w hSw
                      go_simp
                      try with_reducible rfl
                    case' z2510 => try go_frame
                    refine wpAnyH_take (i := 11) (v := ?v2611) (by rfl) (by kernel_rfl) (by kernel_rfl) (by kernel_rfl) (fun _ a8 _ h => ⟨h.1, by have h9 := h.2.1; rw [Act.defers_put'] at h9; exact h9, h.2.2⟩) (Or.inl ⟨by rfl, ?y2611⟩) (by assumption) ?z2611
                    case y2611 =>
                      intro w hSw
                      go_simp
                      try with_reducible rfl
                    case' z2611 => try go_frame
                    refine wpAnyH_ready (rs := [12]) (by kernel_rfl) (by simp) ?_
                    refine AllReadyH.cons (by rfl) (fun K9 hK9 => ?_) ?_
                    · go_simp
                      refine (cdMustF_no 0 v HV.out _).mono ?_
                      rintro e wz ⟨rfl, rfl⟩
                      first | refine ⟨rfl, rfl, ?_⟩ | refine ⟨rfl, ?_⟩
                      (repeat (first | with_reducible exact hmb | with_reducible exact hma | with_reducible exact Mv.refl _ _ | with_reducible refine Mv.then ?_ ((Fr.refl _).alloc _) | with_reducible refine Mv.drew ?_))
                    exact AllReadyH.nil
                  exact AllReadyH.nil
                exact AllReadyH.nil
              exact AllReadyH.nil
            refine AllReadyH.cons (by rfl) (fun K9 hK9 => ?_) ?_
            · go_simp
              refine hK9.out _ _ (HALL.out _ (by (repeat (first | with_reducible exact Mv.refl _ _ | with_reducible refine Mv.then ?_ ((Fr.refl _).alloc _) | with_reducible refine Mv.drew ?_)))) (fun hHeld => ?_)
              try go_frame
              refine wpAnyH_ready (rs := [3]) (by kernel_rfl) (by simp) ?_
              refine AllReadyH.cons (by rfl) (fun K9 hK9 => ?_) ?_
              · go_simp
                refine (C1.out _ (by first | with_reducible exact hRo | with_reducible exact isR_fr hRo ((Fr.refl _).drew) | with_reducible exact isR_fr hRo (((Fr.refl _).alloc _).drew) | with_reducible exact isR_fr hRo (((Fr.refl _).drew).alloc _) | with_reducible exact isR_fr hRo ((Fr.refl _).alloc _))).mono ?_
                rintro e wa ⟨rfl, hRa, qq⟩
                have hma : Mv (one1 g) wo wa := Mv.trans' (by (repeat (first | with_reducible exact Mv.refl _ _ | with_reducible refine Mv.then ?_ ((Fr.refl _).alloc _) | with_reducible refine Mv.drew ?_))) qq
                dsimp only
                refine hK9.out _ _ (HALL.out _ (by (repeat (first | with_reducible exact hma | with_reducible exact Mv.refl _ _ | with_reducible refine Mv.then ?_ ((Fr.refl _).alloc _) | with_reducible refine Mv.drew ?_)))) (fun hHeld => ?_)
                try go_frame
                refine wpAnyH_take (i := 4) (v := ?v2704) (by rfl) (by kernel_rfl) (by kernel_rfl) (by kernel_rfl) (fun _ a8 _ h => ⟨h.1, by have h9 := h.2.1; rw [Act.defers_put'] at h9; exact h9, h.2.2⟩) (Or.inl ⟨by rfl, ?y2704⟩) (by assumption) ?z2704
                case y2704 =>
                  intro w hSw
                  go_simp
                  try with_reducible rfl
                case' z2704 => try go_frame
                refine wpAnyH_take (i := 5) (v := ?v2805) (by rfl) (by kernel_rfl) (by kernel_rfl) (by kernel_rfl) (fun _ a8 _ h => ⟨h.1, by have h9 := h.2.1; rw [Act.defers_put'] at h9; exact h9, h.2.2⟩) (Or.inl ⟨by rfl, ?y2805⟩) (by assumption) ?z2805
                case y2805 =>
                  intro w hSw
                  go_simp
                  try with_reducible rfl
                case' z2805 => try go_frame
                refine wpAnyH_ready (rs := [6]) (by kernel_rfl) (by simp) ?_
                refine AllReadyH.cons (by rfl) (fun K9 hK9 => ?_) ?_
                · go_simp
                  refine (cdMustI_ok t _).mono ?_
                  rintro e wz ⟨rfl, rfl⟩
                  dsimp only
                  refine hK9.out _ _ (HALL.out _ (by (repeat (first | with_reducible exact hma | with_reducible exact Mv.refl _ _ | with_reducible refine Mv.then ?_ ((Fr.refl _).alloc _) | with_reducible refine Mv.drew ?_)))) (fun hHeld => ?_)
                  try go_frame
                  refine wpAnyH_ready (rs := [9]) (by kernel_rfl) (by simp) ?_
                  refine AllReadyH.cons (by rfl) (fun K9 hK9 => ?_) ?_
                  · go_simp
                    refine (CN.out _ (by first | with_reducible exact hRa | with_reducible exact isR_fr hRa ((Fr.refl _).drew) | with_reducible exact isR_fr hRa (((Fr.refl _).alloc _).drew) | with_reducible exact isR_fr hRa (((Fr.refl _).drew).alloc _) | with_reducible exact isR_fr hRa ((Fr.refl _).alloc _))).mono ?_
                    rintro e wb ⟨v, hv, rfl, qq⟩
                    have HV := Lib.hid hv
                    have hmb : Mv (one1 g) wo wb := Mv.trans' (by (repeat (first | with_reducible exact hma | with_reducible exact Mv.refl _ _ | with_reducible refine Mv.then ?_ ((Fr.refl _).alloc _) | with_reducible refine Mv.drew ?_))) qq
                    clear hv
                    dsimp only
                    refine hK9.out _ _ (HALL.out _ (by (repeat (first | with_reducible exact hmb | with_reducible exact hma | with_reducible exact Mv.refl _ _ | with_reducible refine Mv.then ?_ ((Fr.refl _).alloc _) | with_reducible refine Mv.drew ?_)))) (fun hHeld => ?_)
                    try go_frame
                    refine wpAnyH_take (i := 10) (v := ?v2910) (by rfl) (by kernel_rfl) (by kernel_rfl) (by kernel_rfl) (fun _ a8 _ h => ⟨h.1, by have h9 := h.2.1; rw [Act.defers_put'] at h9; exact h9, h.2.2⟩) (Or.inl ⟨by rfl, ?y2910⟩) (by assumption) ?z2910
                    case y2910 =>
                      intro w hSw
                      go_simp
                      try with_reducible rfl
                    case' z2910 => try go_frame
                    refine wpAnyH_take (i := 11) (v := ?v3011) (by rfl) (by kernel_rfl) (by kernel_rfl) (by kernel_rfl) (fun _ a8 _ h => ⟨h.1, by have h9 := h.2.1; rw [Act.defers_put'] at h9; exact h9, h.2.2⟩) (Or.inl ⟨by rfl, ?y3011⟩) (by assumption) ?z3011
                    case y3011 =>
                      intro w hSw
                      go_simp
                      try with_reducible rfl
                    case' z3011 => try go_frame
                    refine wpAnyH_ready (rs := [12]) (by kernel_rfl) (by simp) ?_
                    refine AllReadyH.cons (by rfl) (fun K9 hK9 => ?_) ?_
                    · go_simp
                      refine (cdMustF_no 0 v HV.out _).mono ?_
                      rintro e wz ⟨rfl, rfl⟩
                      first | refine ⟨rfl, rfl, ?_⟩ | refine ⟨rfl, ?_⟩
                      (repeat (first | with_reducible exact hmb | with_reducible exact hma | with_reducible exact Mv.refl _ _ | with_reducible refine Mv.then ?_ ((Fr.refl _).alloc _) | with_reducible refine Mv.drew ?_))
                    exact AllReadyH.nil
                  exact AllReadyH.nil
                exact AllReadyH.nil
              exact AllReadyH.nil
            exact AllReadyH.nil
          rcases e3 : fltAt b q2 with _ | ⟨m, q3⟩
          · have l1 := cntAt_some e1
            have l2 := fltAt_some e2
            have C1 : Hid (∀ w', IsR w' g b ai → Calls Tryz.prog 41 #[.pointer (some ⟨g, 0, none⟩), .int .i64 4294967296] w' fun e w'' => e = .returned (.tuple #[.int .i64 (t : Nat), .int .i64 0]) ∧ IsR w'' g b q1 ∧ Mv (one1 g) w' w'') := fun w' h => cnt_some g b ai 4294967296 (by decide) w' h haib HM.out t q1 e1
            have C2 : Hid (∀ w', IsR w' g b q1 → Calls Tryz.prog 78 #[.pointer (some ⟨g, 0, none⟩)] w' fun e w'' => e = .returned (.tuple #[.float .f64 s, .int .i64 0]) ∧ IsR w'' g b q2 ∧ Mv (one1 g) w' w'') := fun w' h => flt_some g b q1 w' h l1.2.1 HM.out s q2 e2
            have CN : Hid (∀ w', IsR w' g b q2 → Calls Tryz.prog 78 #[.pointer (some ⟨g, 0, none⟩)] w' fun e w'' => ∃ v, v ≠ 0 ∧ e = .returned (.tuple #[.float .f64 0, .int .i64 v]) ∧ Mv (one1 g) w' w'') := fun w' h => flt_none g b q2 w' h l2.2.1 HM.out e3
            clear e1 e2 e3 hk l1 l2
            go_wp2_with fail
            have hRo := hR.out
            refine Code.wp_mono (Q := fun e a9 w9 => e = Exit.panic [{ v := brokenV, recovered := false }] ∧ a9.defers = [] ∧ Mv (one1 g) wo w9) ?_ ?_
            · rintro _ a9 w9 ⟨rfl, hd9, hm9⟩
              exact ⟨hd9, hmv.out.trans' hm9, by rw [HNO.out]; rfl⟩
            refine wp_region_held_drew (S := fun w' => w'.cell? ⟨w.heap.size, 0, none⟩ = some (.pointer (some ⟨g, 0, none⟩))) (by kernel_rfl) (HALL.out _ (Mv.drew (Mv.refl _ _))) (fun hHeld => ?_)
            refine wpAnyH_take (i := 0) (v := ?v3100) (by rfl) (by kernel_rfl) (by kernel_rfl) (by kernel_rfl) (fun _ a8 _ h => ⟨h.1, by have h9 := h.2.1; rw [Act.defers_put'] at h9; exact h9, h.2.2⟩) (Or.inl ⟨by rfl, ?y3100⟩) (by assumption) ?z3100
            case y3100 =>
              intro w hSw
              go_simp
              try with_reducible rfl
            case' z3100 => try go_frame
            refine wpAnyH_take (i := 1) (v := ?v3201) (by rfl) (by kernel_rfl) (by kernel_rfl) (by kernel_rfl) (fun _ a8 _ h => ⟨h.1, by have h9 := h.2.1; rw [Act.defers_put'] at h9; exact h9, h.2.2⟩) (Or.inl ⟨by rfl, ?y3201⟩) (by assumption) ?z3201
            case y3201 =>
              intro w hSw
              go_simp
              try with_reducible rfl
            case' z3201 => try go_frame
            refine wpAnyH_take (i := 2) (v := ?v3302) (by rfl) (by kernel_rfl) (by kernel_rfl) (by kernel_rfl) (fun _ a8 _ h => ⟨h.1, by have h9 := h.2.1; rw [Act.defers_put'] at h9; exact h9, h.2.2⟩) (Or.inl ⟨by rfl, ?y3302⟩) (by assumption) ?z3302
            case y3302 =>
              intro w hSw
              go_simp
              try with_reducible rfl
            case' z3302 => try go_frame
            refine wpAnyH_take (i := 7) (v := ?v3407) (by rfl) (by kernel_rfl) (by kernel_rfl) (by kernel_rfl) (fun _ a8 _ h => ⟨h.1, by have h9 := h.2.1; rw [Act.defers_put'] at h9; exact h9, h.2.2⟩) (Or.inl ⟨by rfl, ?y3407⟩) (by assumption) ?z3407
            case y3407 =>
              intro w hSw
              go_simp
              try with_reducible rfl
            case' z3407 => try go_frame
            refine wpAnyH_take (i := 8) (v := ?v3508) (by rfl) (by kernel_rfl) (by kernel_rfl) (by kernel_rfl) (fun _ a8 _ h => ⟨h.1, by have h9 := h.2.1; rw [Act.defers_put'] at h9; exact h9, h.2.2⟩) (Or.inl ⟨by rfl, ?y3508⟩) (by assumption) ?z3508
            case y3508 =>
              intro w hSw
              go_simp
              try with_reducible rfl
            case' z3508 => try go_frame
            refine wpAnyH_take (i := 13) (v := ?v3613) (by rfl) (by kernel_rfl) (by kernel_rfl) (by kernel_rfl) (fun _ a8 _ h => ⟨h.1, by have h9 := h.2.1; rw [Act.defers_put'] at h9; exact h9, h.2.2⟩) (Or.inl ⟨by rfl, ?y3613⟩) (by assumption) ?z3613
            case y3613 =>
              intro w hSw
              go_simp
              try with_reducible rfl
            case' z3613 => try go_frame
            refine wpAnyH_take (i := 14) (v := ?v3714) (by rfl) (by kernel_rfl) (by kernel_rfl) (by kernel_rfl) (fun _ a8 _ h => ⟨h.1, by have h9 := h.2.1; rw [Act.defers_put'] at h9; exact h9, h.2.2⟩) (Or.inl ⟨by rfl, ?y3714⟩) (by assumption) ?z3714
            case y3714 =>
              intro w hSw
              go_simp
              try with_reducible rfl
            case' z3714 => try go_frame
            refine wpAnyH_ready (rs := [3, 20]) (by kernel_rfl) (by simp) ?_
            refine AllReadyH.cons (by rfl) (fun K9 hK9 => ?_) ?_
            · go_simp
              refine (C1.out _ (by first | with_reducible exact hRo | with_reducible exact isR_fr hRo ((Fr.refl _).drew) | with_reducible exact isR_fr hRo (((Fr.refl _).alloc _).drew) | with_reducible exact isR_fr hRo (((Fr.refl _).drew).alloc _) | with_reducible exact isR_fr hRo ((Fr.refl _).alloc _))).mono ?_
              rintro e wa ⟨rfl, hRa, qq⟩
              have hma : Mv (one1 g) wo wa := Mv.trans' (by (repeat (first | with_reducible exact Mv.refl _ _ | with_reducible refine Mv.then ?_ ((Fr.refl _).alloc _) | with_reducible refine Mv.drew ?_))) qq
              dsimp only
              refine hK9.out _ _ (HALL.out _ (by (repeat (first | with_reducible exact hma | with_reducible exact Mv.refl _ _ | with_reducible refine Mv.then ?_ ((Fr.refl _).alloc _) | with_reducible refine Mv.drew ?_)))) (fun hHeld => ?_)
              try go_frame
              refine wpAnyH_take (i := 4) (v := ?v3804) (by rfl) (by kernel_rfl) (by kernel_rfl) (by kernel_rfl) (fun _ a8 _ h => ⟨h.1, by have h9 := h.2.1; rw [Act.defers_put'] at h9; exact h9, h.2.2⟩) (Or.inl ⟨by rfl, ?y3804⟩) (by assumption) ?z3804
              case y3804 =>
                intro w hSw
                go_simp
                try with_reducible rfl
              case' z3804 => try go_frame
              refine wpAnyH_take (i := 5) (v := ?v3905) (by rfl) (by kernel_rfl) (by kernel_rfl) (by kernel_rfl) (fun _ a8 _ h => ⟨h.1, by have h9 := h.2.1; rw [Act.defers_put'] at h9; exact h9, h.2.2⟩) (Or.inl ⟨by rfl, ?y3905⟩) (by assumption) ?z3905
              case y3905 =>
                intro w hSw
                go_simp
                try with_reducible rfl
              case' z3905 => try go_frame
              refine wpAnyH_ready (rs := [6, 20]) (by kernel_rfl) (by simp) ?_
              refine AllReadyH.cons (by rfl) (fun K9 hK9 => ?_) ?_
              · go_simp
                refine (cdMustI_ok t _).mono ?_
                rintro e wz ⟨rfl, rfl⟩
                dsimp only
                refine hK9.out _ _ (HALL.out _ (by (repeat (first | with_reducible exact hma | with_reducible exact Mv.refl _ _ | with_reducible refine Mv.then ?_ ((Fr.refl _).alloc _) | with_reducible refine Mv.drew ?_)))) (fun hHeld => ?_)
                try go_frame
                refine wpAnyH_ready (rs := [9, 20]) (by kernel_rfl) (by simp) ?_
                refine AllReadyH.cons (by rfl) (fun K9 hK9 => ?_) ?_
                · go_simp
                  refine (C2.out _ (by first | with_reducible exact hRa | with_reducible exact isR_fr hRa ((Fr.refl _).drew) | with_reducible exact isR_fr hRa (((Fr.refl _).alloc _).drew) | with_reducible exact isR_fr hRa (((Fr.refl _).drew).alloc _) | with_reducible exact isR_fr hRa ((Fr.refl _).alloc _))).mono ?_
                  rintro e wb ⟨rfl, hRb, qq⟩
                  have hmb : Mv (one1 g) wo wb := Mv.trans' (by (repeat (first | with_reducible exact hma | with_reducible exact Mv.refl _ _ | with_reducible refine Mv.then ?_ ((Fr.refl _).alloc _) | with_reducible refine Mv.drew ?_))) qq
                  dsimp only
                  refine hK9.out _ _ (HALL.out _ (by (repeat (first | with_reducible exact hmb | with_reducible exact hma | with_reducible exact Mv.refl _ _ | with_reducible refine Mv.then ?_ ((Fr.refl _).alloc _) | with_reducible refine Mv.drew ?_)))) (fun hHeld => ?_)
                  try go_frame
                  refine wpAnyH_take (i := 10) (v := ?v4010) (by rfl) (by kernel_rfl) (by kernel_rfl) (by kernel_rfl) (fun _ a8 _ h => ⟨h.1, by have h9 := h.2.1; rw [Act.defers_put'] at h9; exact h9, h.2.2⟩) (Or.inl ⟨by rfl, ?y4010⟩) (by assumption) ?z4010
                  case y4010 =>
                    intro w hSw
                    go_simp
                    try with_reducible rfl
                  case' z4010 => try go_frame
                  refine wpAnyH_take (i := 11) (v := ?v4111) (by rfl) (by kernel_rfl) (by kernel_rfl) (by kernel_rfl) (fun _ a8 _ h => ⟨h.1, by have h9 := h.2.1; rw [Act.defers_put'] at h9; exact h9, h.2.2⟩) (Or.inl ⟨by rfl, ?y4111⟩) (by assumption) ?z4111
                  case y4111 =>
                    intro w hSw
                    go_simp
                    try with_reducible rfl
                  case' z4111 => try go_frame
                  refine wpAnyH_ready (rs := [12, 20]) (by kernel_rfl) (by simp) ?_
                  refine AllReadyH.cons (by rfl) (fun K9 hK9 => ?_) ?_
                  · go_simp
                    refine (cdMustF_ok s _).mono ?_
                    rintro e wz ⟨rfl, rfl⟩
                    dsimp only
                    refine hK9.out _ _ (HALL.out _ (by (repeat (first | with_reducible exact hmb | with_reducible exact hma | with_reducible exact Mv.refl _ _ | with_reducible refine Mv.then ?_ ((Fr.refl _).alloc _) | with_reducible refine Mv.drew ?_)))) (fun hHeld => ?_)
                    try go_frame
                    refine wpAnyH_ready (rs := [15, 20]) (by kernel_rfl) (by simp) ?_
                    refine AllReadyH.cons (by rfl) (fun K9 hK9 => ?_) ?_
                    · go_simp
                      refine (CN.out _ (by first | with_reducible exact hRb | with_reducible exact isR_fr hRb ((Fr.refl _).drew) | with_reducible exact isR_fr hRb (((Fr.refl _).alloc _).drew) | with_reducible exact isR_fr hRb (((Fr.refl _).drew).alloc _) | with_reducible exact isR_fr hRb ((Fr.refl _).alloc _))).mono ?_
                      rintro e wd ⟨v, hv, rfl, qq⟩
                      have HV := Lib.hid hv
                      have hmd : Mv (one1 g) wo wd := Mv.trans' (by (repeat (first | with_reducible exact hmb | with_reducible exact hma | with_reducible exact Mv.refl _ _ | with_reducible refine Mv.then ?_ ((Fr.refl _).alloc _) | with_reducible refine Mv.drew ?_))) qq
                      clear hv
                      dsimp only
                      refine hK9.out _ _ (HALL.out _ (by (repeat (first | with_reducible exact hmd | with_reducible exact hmb | with_reducible exact hma | with_reducible exact Mv.refl _ _ | with_reducible refine Mv.then ?_ ((Fr.refl _).alloc _) | with_reducible refine Mv.drew ?_)))) (fun hHeld => ?_)
                      try go_frame
                      refine wpAnyH_take (i := 16) (v := ?v4216) (by rfl) (by kernel_rfl) (by kernel_rfl) (by kernel_rfl) (fun _ a8 _ h => ⟨h.1, by have h9 := h.2.1; rw [Act.defers_put'] at h9; exact h9, h.2.2⟩) (Or.inl ⟨by rfl, ?y4216⟩) (by assumption) ?z4216
                      case y4216 =>
                        intro w hSw
                        go_simp
                        try with_reducible rfl
                      case' z4216 => try go_frame
                      refine wpAnyH_take (i := 17) (v := ?v4317) (by rfl) (by kernel_rfl) (by kernel_rfl) (by kernel_rfl) (fun _ a8 _ h => ⟨h.1, by have h9 := h.2.1; rw [Act.defers_put'] at h9; exact h9, h.2.2⟩) (Or.inl ⟨by rfl, ?y4317⟩) (by assumption) ?z4317
                      case y4317 =>
                        intro w hSw
                        go_simp
                        try with_reducible rfl
                      case' z4317 => try go_frame
                      refine wpAnyH_ready (rs := [18, 20]) (by kernel_rfl) (by simp) ?_
                      refine AllReadyH.cons (by rfl) (fun K9 hK9 => ?_) ?_
                      · go_simp
                        refine (cdMustF_no 0 v HV.out _).mono ?_
                        rintro e wz ⟨rfl, rfl⟩
                        first | refine ⟨rfl, rfl, ?_⟩ | refine ⟨rfl, ?_⟩
                        (repeat (first | with_reducible exact hmd | with_reducible exact hmb | with_reducible exact hma | with_reducible exact Mv.refl _ _ | with_reducible refine Mv.then ?_ ((Fr.refl _).alloc _) | with_reducible refine Mv.drew ?_))
                      refine AllReadyH.cons (by rfl) (fun K9 hK9 => ?_) ?_
                      · go_simp
                        refine hK9.out _ _ (HALL.out _ (by (repeat (first | with_reducible exact hmd | with_reducible exact hmb | with_reducible exact hma | with_reducible exact Mv.refl _ _ | with_reducible refine Mv.then ?_ ((Fr.refl _).alloc _) | with_reducible refine Mv.drew ?_)))) (fun hHeld => ?_)
                        try go_frame
                        refine wpAnyH_ready (rs := [18]) (by kernel_rfl) (by simp) ?_
                        refine AllReadyH.cons (by rfl) (fun K9 hK9 => ?_) ?_
                        · go_simp
                          refine (cdMustF_no 0 v HV.out _).mono ?_
                          rintro e wz ⟨rfl, rfl⟩
                          first | refine ⟨rfl, rfl, ?_⟩ | refine ⟨rfl, ?_⟩
                          (repeat (first | with_reducible exact hmd | with_reducible exact hmb | with_reducible exact hma | with_reducible exact Mv.refl _ _ | with_reducible refine Mv.then ?_ ((Fr.refl _).alloc _) | with_reducible refine Mv.drew ?_))
                        exact AllReadyH.nil
                      exact AllReadyH.nil
                    refine AllReadyH.cons (by rfl) (fun K9 hK9 => ?_) ?_
                    · go_simp
                      refine hK9.out _ _ (HALL.out _ (by (repeat (first | with_reducible exact hmb | with_reducible exact hma | with_reducible exact Mv.refl _ _ | with_reducible refine Mv.then ?_ ((Fr.refl _).alloc _) | with_reducible refine Mv.drew ?_)))) (fun hHeld => ?_)
                      try go_frame
                      refine wpAnyH_ready (rs := [15]) (by kernel_rfl) (by simp) ?_
                      refine AllReadyH.cons (by rfl) (fun K9 hK9 => ?_) ?_
                      · go_simp
                        refine (CN.out _ (by first | with_reducible exact hRb | with_reducible exact isR_fr hRb ((Fr.refl _).drew) | with_reducible exact isR_fr hRb (((Fr.refl _).alloc _).drew) | with_reducible exact isR_fr hRb (((Fr.refl _).drew).alloc _) | with_reducible exact isR_fr hRb ((Fr.refl _).alloc _))).mono ?_
                        rintro e wd ⟨v, hv, rfl, qq⟩
                        have HV := Lib.hid hv
                        have hmd : Mv (one1 g) wo wd := Mv.trans' (by (repeat (first | with_reducible exact hmb | with_reducible exact hma | with_reducible exact Mv.refl _ _ | with_reducible refine Mv.then ?_ ((Fr.refl _).alloc _) | with_reducible refine Mv.drew ?_))) qq
                        clear hv
                        dsimp only
                        refine hK9.out _ _ (HALL.out _ (by (repeat (first | with_reducible exact hmd | with_reducible exact hmb | with_reducible exact hma | with_reducible exact Mv.refl _ _ | with_reducible refine Mv.then ?_ ((Fr.refl _).alloc _) | with_reducible refine Mv.drew ?_)))) (fun hHeld => ?_)
                        try go_frame
                        refine wpAnyH_take (i := 16) (v := ?v4416) (by rfl) (by kernel_rfl) (by kernel_rfl) (by kernel_rfl) (fun _ a8 _ h => ⟨h.1, by have h9 := h.2.1; rw [Act.defers_put'] at h9; exact h9, h.2.2⟩) (Or.inl ⟨by rfl, ?y4416⟩) (by assumption) ?z4416
                        case y4416 =>
                          intro w hSw
                          go_simp
                          try with_reducible rfl
                        case' z4416 => try go_frame
                        refine wpAnyH_take (i := 17) (v := ?v4517) (by rfl) (by kernel_rfl) (by kernel_rfl) (by kernel_rfl) (fun _ a8 _ h => ⟨h.1, by have h9 := h.2.1; rw [Act.defers_put'] at h9; exact h9, h.2.2⟩) (Or.inl ⟨by rfl, ?y4517⟩) (by assumption) ?z4517
                        case y4517 =>
                          intro w hSw
                          go_simp
                          try with_reducible rfl
                        case' z4517 => try go_frame
                        refine wpAnyH_ready (rs := [18]) (by kernel_rfl) (by simp) ?_
                        refine AllReadyH.cons (by rfl) (fun K9 hK9 => ?_) ?_
                        · go_simp
                          refine (cdMustF_no 0 v HV.out _).mono ?_
                          rintro e wz ⟨rfl, rfl⟩
                          first | refine ⟨rfl, rfl, ?_⟩ | refine ⟨rfl, ?_⟩
                          (repeat (first | with_reducible exact hmd | with_reducible exact hmb | with_reducible exact hma | with_reducible exact Mv.refl _ _ | with_reducible refine Mv.then ?_ ((Fr.refl _).alloc _) | with_reducible refine Mv.drew ?_))
                        exact AllReadyH.nil
                      exact AllReadyH.nil
                    exact AllReadyH.nil
                  refine AllReadyH.cons (by rfl) (fun K9 hK9 => ?_) ?_
                  · go_simp
                    refine hK9.out _ _ (HALL.out _ (by (repeat (first | with_reducible exact hmb | with_reducible exact hma | with_reducible exact Mv.refl _ _ | with_reducible refine Mv.then ?_ ((Fr.refl _).alloc _) | with_reducible refine Mv.drew ?_)))) (fun hHeld => ?_)
                    try go_frame
                    refine wpAnyH_ready (rs := [12]) (by kernel_rfl) (by simp) ?_
                    refine AllReadyH.cons (by rfl) (fun K9 hK9 => ?_) ?_
                    · go_simp
                      refine (cdMustF_ok s _).mono ?_
                      rintro e wz ⟨rfl, rfl⟩
                      dsimp only
                      refine hK9.out _ _ (HALL.out _ (by (repeat (first | with_reducible exact hmb | with_reducible exact hma | with_reducible exact Mv.refl _ _ | with_reducible refine Mv.then ?_ ((Fr.refl _).alloc _) | with_reducible refine Mv.drew ?_)))) (fun hHeld => ?_)
                      try go_frame
                      refine wpAnyH_ready (rs := [15]) (by kernel_rfl) (by simp) ?_
                      refine AllReadyH.cons (by rfl) (fun K9 hK9 => ?_) ?_
                      · go_simp
                        refine (CN.out _ (by first | with_reducible exact hRb | with_reducible exact isR_fr hRb ((Fr.refl _).drew) | with_reducible exact isR_fr hRb (((Fr.refl _).alloc _).drew) | with_reducible exact isR_fr hRb (((Fr.refl _).drew).alloc _) | with_reducible exact isR_fr hRb ((Fr.refl _).alloc _))).mono ?_
                        rintro e wd ⟨v, hv, rfl, qq⟩
                        have HV := Lib.hid hv
                        have hmd : Mv (one1 g) wo wd := Mv.trans' (by (repeat (first | with_reducible exact hmb | with_reducible exact hma | with_reducible exact Mv.refl _ _ | with_reducible refine Mv.then ?_ ((Fr.refl _).alloc _) | with_reducible refine Mv.drew ?_))) qq
                        clear hv
                        dsimp only
                        refine hK9.out _ _ (HALL.out _ (by (repeat (first | with_reducible exact hmd | with_reducible exact hmb | with_reducible exact hma | with_reducible exact Mv.refl _ _ | with_reducible refine Mv.then ?_ ((Fr.refl _).alloc _) | with_reducible refine Mv.drew ?_)))) (fun hHeld => ?_)
                        try go_frame
                        refine wpAnyH_take (i := 16) (v := ?v4616) (by rfl) (by kernel_rfl) (by kernel_rfl) (by kernel_rfl) (fun _ a8 _ h => ⟨h.1, by have h9 := h.2.1; rw [Act.defers_put'] at h9; exact h9, h.2.2⟩) (Or.inl ⟨by rfl, ?y4616⟩) (by assumption) ?z4616
                        case y4616 =>
                          intro w hSw
                          go_simp
                          try with_reducible rfl
                        case' z4616 => try go_frame
                        refine wpAnyH_take (i := 17) (v := ?v4717) (by rfl) (by kernel_rfl) (by kernel_rfl) (by kernel_rfl) (fun _ a8 _ h => ⟨h.1, by have h9 := h.2.1; rw [Act.defers_put'] at h9; exact h9, h.2.2⟩) (Or.inl ⟨by rfl, ?y4717⟩) (by assumption) ?z4717
                        case y4717 =>
                          intro w hSw
                          go_simp
                          try with_reducible rfl
                        case' z4717 => try go_frame
                        refine wpAnyH_ready (rs := [18]) (by kernel_rfl) (by simp) ?_
                        refine AllReadyH.cons (by rfl) (fun K9 hK9 => ?_) ?_
                        · go_simp
                          refine (cdMustF_no 0 v HV.out _).mono ?_
                          rintro e wz ⟨rfl, rfl⟩
                          first | refine ⟨rfl, rfl, ?_⟩ | refine ⟨rfl, ?_⟩
                          (repeat (first | with_reducible exact hmd | with_reducible exact hmb | with_reducible exact hma | with_reducible exact Mv.refl _ _ | with_reducible refine Mv.then ?_ ((Fr.refl _).alloc _) | with_reducible refine Mv.drew ?_))
                        exact AllReadyH.nil
                      exact AllReadyH.nil
                    exact AllReadyH.nil
                  exact AllReadyH.nil
                refine AllReadyH.cons (by rfl) (fun K9 hK9 => ?_) ?_
                · go_simp
                  refine hK9.out _ _ (HALL.out _ (by (repeat (first | with_reducible exact hma | with_reducible exact Mv.refl _ _ | with_reducible refine Mv.then ?_ ((Fr.refl _).alloc _) | with_reducible refine Mv.drew ?_)))) (fun hHeld => ?_)
                  try go_frame
                  refine wpAnyH_ready (rs := [9]) (by kernel_rfl) (by simp) ?_
                  refine AllReadyH.cons (by rfl) (fun K9 hK9 => ?_) ?_
                  · go_simp
                    refine (C2.out _ (by first | with_reducible exact hRa | with_reducible exact isR_fr hRa ((Fr.refl _).drew) | with_reducible exact isR_fr hRa (((Fr.refl _).alloc _).drew) | with_reducible exact isR_fr hRa (((Fr.refl _).drew).alloc _) | with_reducible exact isR_fr hRa ((Fr.refl _).alloc _))).mono ?_
                    rintro e wb ⟨rfl, hRb, qq⟩
                    have hmb : Mv (one1 g) wo wb := Mv.trans' (by (repeat (first | with_reducible exact hma | with_reducible exact Mv.refl _ _ | with_reducible refine Mv.then ?_ ((Fr.refl _).alloc _) | with_reducible refine Mv.drew ?_))) qq
                    dsimp only
                    refine hK9.out _ _ (HALL.out _ (by (repeat (first | with_reducible exact hmb | with_reducible exact hma | with_reducible exact Mv.refl _ _ | with_reducible refine Mv.then ?_ ((Fr.refl _).alloc _) | with_reducible refine Mv.drew ?_)))) (fun hHeld => ?_)
                    try go_frame
                    refine wpAnyH_take (i := 10) (v := ?v4810) (by rfl) (by kernel_rfl) (by kernel_rfl) (by kernel_rfl) (fun _ a8 _ h => ⟨h.1, by have h9 := h.2.1; rw [Act.defers_put'] at h9; exact h9, h.2.2⟩) (Or.inl ⟨by rfl, ?y4810⟩) (by assumption) ?z4810
                    case y4810 =>
                      intro w hSw
                      go_simp
                      try with_reducible rfl
                    case' z4810 => try go_frame
                    refine wpAnyH_take (i := 11) (v := ?v4911) (by rfl) (by kernel_rfl) (by kernel_rfl) (by kernel_rfl) (fun _ a8 _ h => ⟨h.1, by have h9 := h.2.1; rw [Act.defers_put'] at h9; exact h9, h.2.2⟩) (Or.inl ⟨by rfl, ?y4911⟩) (by assumption) ?z4911
                    case y4911 =>
                      intro w hSw
                      go_simp
                      try with_reducible rfl
                    case' z4911 => try go_frame
                    refine wpAnyH_ready (rs := [12]) (by kernel_rfl) (by simp) ?_
                    refine AllReadyH.cons (by rfl) (fun K9 hK9 => ?_) ?_
                    · go_simp
                      refine (cdMustF_ok s _).mono ?_
                      rintro e wz ⟨rfl, rfl⟩
                      dsimp only
                      refine hK9.out _ _ (HALL.out _ (by (repeat (first | with_reducible exact hmb | with_reducible exact hma | with_reducible exact Mv.refl _ _ | with_reducible refine Mv.then ?_ ((Fr.refl _).alloc _) | with_reducible refine Mv.drew ?_)))) (fun hHeld => ?_)
                      try go_frame
                      refine wpAnyH_ready (rs := [15]) (by kernel_rfl) (by simp) ?_
                      refine AllReadyH.cons (by rfl) (fun K9 hK9 => ?_) ?_
                      · go_simp
                        refine (CN.out _ (by first | with_reducible exact hRb | with_reducible exact isR_fr hRb ((Fr.refl _).drew) | with_reducible exact isR_fr hRb (((Fr.refl _).alloc _).drew) | with_reducible exact isR_fr hRb (((Fr.refl _).drew).alloc _) | with_reducible exact isR_fr hRb ((Fr.refl _).alloc _))).mono ?_
                        rintro e wd ⟨v, hv, rfl, qq⟩
                        have HV := Lib.hid hv
                        have hmd : Mv (one1 g) wo wd := Mv.trans' (by (repeat (first | with_reducible exact hmb | with_reducible exact hma | with_reducible exact Mv.refl _ _ | with_reducible refine Mv.then ?_ ((Fr.refl _).alloc _) | with_reducible refine Mv.drew ?_))) qq
                        clear hv
                        dsimp only
                        refine hK9.out _ _ (HALL.out _ (by (repeat (first | with_reducible exact hmd | with_reducible exact hmb | with_reducible exact hma | with_reducible exact Mv.refl _ _ | with_reducible refine Mv.then ?_ ((Fr.refl _).alloc _) | with_reducible refine Mv.drew ?_)))) (fun hHeld => ?_)
                        try go_frame
                        refine wpAnyH_take (i := 16) (v := ?v5016) (by rfl) (by kernel_rfl) (by kernel_rfl) (by kernel_rfl) (fun _ a8 _ h => ⟨h.1, by have h9 := h.2.1; rw [Act.defers_put'] at h9; exact h9, h.2.2⟩) (Or.inl ⟨by rfl, ?y5016⟩) (by assumption) ?z5016
                        case y5016 =>
                          intro w hSw
                          go_simp
                          try with_reducible rfl
                        case' z5016 => try go_frame
                        refine wpAnyH_take (i := 17) (v := ?v5117) (by rfl) (by kernel_rfl) (by kernel_rfl) (by kernel_rfl) (fun _ a8 _ h => ⟨h.1, by have h9 := h.2.1; rw [Act.defers_put'] at h9; exact h9, h.2.2⟩) (Or.inl ⟨by rfl, ?y5117⟩) (by assumption) ?z5117
                        case y5117 =>
                          intro w hSw
                          go_simp
                          try with_reducible rfl
                        case' z5117 => try go_frame
                        refine wpAnyH_ready (rs := [18]) (by kernel_rfl) (by simp) ?_
                        refine AllReadyH.cons (by rfl) (fun K9 hK9 => ?_) ?_
                        · go_simp
                          refine (cdMustF_no 0 v HV.out _).mono ?_
                          rintro e wz ⟨rfl, rfl⟩
                          first | refine ⟨rfl, rfl, ?_⟩ | refine ⟨rfl, ?_⟩
                          (repeat (first | with_reducible exact hmd | with_reducible exact hmb | with_reducible exact hma | with_reducible exact Mv.refl _ _ | with_reducible refine Mv.then ?_ ((Fr.refl _).alloc _) | with_reducible refine Mv.drew ?_))
                        exact AllReadyH.nil
                      exact AllReadyH.nil
                    exact AllReadyH.nil
                  exact AllReadyH.nil
                exact AllReadyH.nil
              refine AllReadyH.cons (by rfl) (fun K9 hK9 => ?_) ?_
              · go_simp
                refine hK9.out _ _ (HALL.out _ (by (repeat (first | with_reducible exact hma | with_reducible exact Mv.refl _ _ | with_reducible refine Mv.then ?_ ((Fr.refl _).alloc _) | with_reducible refine Mv.drew ?_)))) (fun hHeld => ?_)
                try go_frame
                refine wpAnyH_ready (rs := [6]) (by kernel_rfl) (by simp) ?_
                refine AllReadyH.cons (by rfl) (fun K9 hK9 => ?_) ?_
                · go_simp
                  refine (cdMustI_ok t _).mono ?_
                  rintro e wz ⟨rfl, rfl⟩
                  dsimp only
                  refine hK9.out _ _ (HALL.out _ (by (repeat (first | with_reducible exact hma | with_reducible exact Mv.refl _ _ | with_reducible refine Mv.then ?_ ((Fr.refl _).alloc _) | with_reducible refine Mv.drew ?_)))) (fun hHeld => ?_)
                  try go_frame
                  refine wpAnyH_ready (rs := [9]) (by kernel_rfl) (by simp) ?_
                  refine AllReadyH.cons (by rfl) (fun K9 hK9 => ?_) ?_
                  · go_simp
                    refine (C2.out _ (by first | with_reducible exact hRa | with_reducible exact isR_fr hRa ((Fr.refl _).drew) | with_reducible exact isR_fr hRa (((Fr.refl _).alloc _).drew) | with_reducible exact isR_fr hRa (((Fr.refl _).drew).alloc _) | with_reducible exact isR_fr hRa ((Fr.refl _).alloc _))).mono ?_
                    rintro e wb ⟨rfl, hRb, qq⟩
                    have hmb : Mv (one1 g) wo wb := Mv.trans' (by (repeat (first | with_reducible exact hma | with_reducible exact Mv.refl _ _ | with_reducible refine Mv.then ?_ ((Fr.refl _).alloc _) | with_reducible refine Mv.drew ?_))) qq
                    dsimp only
                    refine hK9.out _ _ (HALL.out _ (by (repeat (first | with_reducible exact hmb | with_reducible exact hma | with_reducible exact Mv.refl _ _ | with_reducible refine Mv.then ?_ ((Fr.refl _).alloc _) | with_reducible refine Mv.drew ?_)))) (fun hHeld => ?_)
                    try go_frame
                    refine wpAnyH_take (i := 10) (v := ?v5210) (by rfl) (by kernel_rfl) (by kernel_rfl) (by kernel_rfl) (fun _ a8 _ h => ⟨h.1, by have h9 := h.2.1; rw [Act.defers_put'] at h9; exact h9, h.2.2⟩) (Or.inl ⟨by rfl, ?y5210⟩) (by assumption) ?z5210
                    case y5210 =>
                      intro w hSw
                      go_simp
                      try with_reducible rfl
                    case' z5210 => try go_frame
                    refine wpAnyH_take (i := 11) (v := ?v5311) (by rfl) (by kernel_rfl) (by kernel_rfl) (by kernel_rfl) (fun _ a8 _ h => ⟨h.1, by have h9 := h.2.1; rw [Act.defers_put'] at h9; exact h9, h.2.2⟩) (Or.inl ⟨by rfl, ?y5311⟩) (by assumption) ?z5311
                    case y5311 =>
                      intro w hSw
                      go_simp
                      try with_reducible rfl
                    case' z5311 => try go_frame
                    refine wpAnyH_ready (rs := [12]) (by kernel_rfl) (by simp) ?_
                    refine AllReadyH.cons (by rfl) (fun K9 hK9 => ?_) ?_
                    · go_simp
                      refine (cdMustF_ok s _).mono ?_
                      rintro e wz ⟨rfl, rfl⟩
                      dsimp only
                      refine hK9.out _ _ (HALL.out _ (by (repeat (first | with_reducible exact hmb | with_reducible exact hma | with_reducible exact Mv.refl _ _ | with_reducible refine Mv.then ?_ ((Fr.refl _).alloc _) | with_reducible refine Mv.drew ?_)))) (fun hHeld => ?_)
                      try go_frame
                      refine wpAnyH_ready (rs := [15]) (by kernel_rfl) (by simp) ?_
                      refine AllReadyH.cons (by rfl) (fun K9 hK9 => ?_) ?_
                      · go_simp
                        refine (CN.out _ (by first | with_reducible exact hRb | with_reducible exact isR_fr hRb ((Fr.refl _).drew) | with_reducible exact isR_fr hRb (((Fr.refl _).alloc _).drew) | with_reducible exact isR_fr hRb (((Fr.refl _).drew).alloc _) | with_reducible exact isR_fr hRb ((Fr.refl _).alloc _))).mono ?_
                        rintro e wd ⟨v, hv, rfl, qq⟩
                        have HV := Lib.hid hv
                        have hmd : Mv (one1 g) wo wd := Mv.trans' (by (repeat (first | with_reducible exact hmb | with_reducible exact hma | with_reducible exact Mv.refl _ _ | with_reducible refine Mv.then ?_ ((Fr.refl _).alloc _) | with_reducible refine Mv.drew ?_))) qq
                        clear hv
                        dsimp only
                        refine hK9.out _ _ (HALL.out _ (by (repeat (first | with_reducible exact hmd | with_reducible exact hmb | with_reducible exact hma | with_reducible exact Mv.refl _ _ | with_reducible refine Mv.then ?_ ((Fr.refl _).alloc _) | with_reducible refine Mv.drew ?_)))) (fun hHeld => ?_)
                        try go_frame
                        refine wpAnyH_take (i := 16) (v := ?v5416) (by rfl) (by kernel_rfl) (by kernel_rfl) (by kernel_rfl) (fun _ a8 _ h => ⟨h.1, by have h9 := h.2.1; rw [Act.defers_put'] at h9; exact h9, h.2.2⟩) (Or.inl ⟨by rfl, ?y5416⟩) (by assumption) ?z5416
                        case y5416 =>
                          intro w hSw
                          go_simp
                          try with_reducible rfl
                        case' z5416 => try go_frame
                        refine wpAnyH_take (i := 17) (v := ?v5517) (by rfl) (by kernel_rfl) (by kernel_rfl) (by kernel_rfl) (fun _ a8 _ h => ⟨h.1, by have h9 := h.2.1; rw [Act.defers_put'] at h9; exact h9, h.2.2⟩) (Or.inl ⟨by rfl, ?y5517⟩) (by assumption) ?z5517
                        case y5517 =>
                          intro w hSw
                          go_simp
                          try with_reducible rfl
                        case' z5517 => try go_frame
                        refine wpAnyH_ready (rs := [18]) (by kernel_rfl) (by simp) ?_
                        refine AllReadyH.cons (by rfl) (fun K9 hK9 => ?_) ?_
                        · go_simp
                          refine (cdMustF_no 0 v HV.out _).mono ?_
                          rintro e wz ⟨rfl, rfl⟩
                          first | refine ⟨rfl, rfl, ?_⟩ | refine ⟨rfl, ?_⟩
                          (repeat (first | with_reducible exact hmd | with_reducible exact hmb | with_reducible exact hma | with_reducible exact Mv.refl _ _ | with_reducible refine Mv.then ?_ ((Fr.refl _).alloc _) | with_reducible refine Mv.drew ?_))
                        exact AllReadyH.nil
                      exact AllReadyH.nil
                    exact AllReadyH.nil
                  exact AllReadyH.nil
                exact AllReadyH.nil
              exact AllReadyH.nil
            refine AllReadyH.cons (by rfl) (fun K9 hK9 => ?_) ?_
            · go_simp
              refine hK9.out _ _ (HALL.out _ (by (repeat (first | with_reducible exact Mv.refl _ _ | with_reducible refine Mv.then ?_ ((Fr.refl _).alloc _) | with_reducible refine Mv.drew ?_)))) (fun hHeld => ?_)
              try go_frame
              refine wpAnyH_ready (rs := [3]) (by kernel_rfl) (by simp) ?_
              refine AllReadyH.cons (by rfl) (fun K9 hK9 => ?_) ?_
              · go_simp
                refine (C1.out _ (by first | with_reducible exact hRo | with_reducible exact isR_fr hRo ((Fr.refl _).drew) | with_reducible exact isR_fr hRo (((Fr.refl _).alloc _).drew) | with_reducible exact isR_fr hRo (((Fr.refl _).drew).alloc _) | with_reducible exact isR_fr hRo ((Fr.refl _).alloc _))).mono ?_
                rintro e wa ⟨rfl, hRa, qq⟩
                have hma : Mv (one1 g) wo wa := Mv.trans' (by (repeat (first | with_reducible exact Mv.refl _ _ | with_reducible refine Mv.then ?_ ((Fr.refl _).alloc _) | with_reducible refine Mv.drew ?_))) qq
                dsimp only
                refine hK9.out _ _ (HALL.out _ (by (repeat (first | with_reducible exact hma | with_reducible exact Mv.refl _ _ | with_reducible refine Mv.then ?_ ((Fr.refl _).alloc _) | with_reducible refine Mv.drew ?_)))) (fun hHeld => ?_)
                try go_frame
                refine wpAnyH_take (i := 4) (v := ?v5604) (by rfl) (by kernel_rfl) (by kernel_rfl) (by kernel_rfl) (fun _ a8 _ h => ⟨h.1, by have h9 := h.2.1; rw [Act.defers_put'] at h9; exact h9, h.2.2⟩) (Or.inl ⟨by rfl, ?y5604⟩) (by assumption) ?z5604
                case y5604 =>
                  intro w hSw
                  go_simp
                  try with_reducible rfl
                case' z5604 => try go_frame
                refine wpAnyH_take (i := 5) (v := ?v5705) (by rfl) (by kernel_rfl) (by kernel_rfl) (by kernel_rfl) (fun _ a8 _ h => ⟨h.1, by have h9 := h.2.1; rw [Act.defers_put'] at h9; exact h9, h.2.2⟩) (Or.inl ⟨by rfl, ?y5705⟩) (by assumption) ?z5705
                case y5705 =>
                  intro w hSw
                  go_simp
                  try with_reducible rfl
                case' z5705 => try go_frame
                refine wpAnyH_ready (rs := [6]) (by kernel_rfl) (by simp) ?_
                refine AllReadyH.cons (by rfl) (fun K9 hK9 => ?_) ?_
                · go_simp
                  refine (cdMustI_ok t _).mono ?_
                  rintro e wz ⟨rfl, rfl⟩
                  dsimp only
                  refine hK9.out _ _ (HALL.out _ (by (repeat (first | with_reducible exact hma | with_reducible exact Mv.refl _ _ | with_reducible refine Mv.then ?_ ((Fr.refl _).alloc _) | with_reducible refine Mv.drew ?_)))) (fun hHeld => ?_)
                  try go_frame
                  refine wpAnyH_ready (rs := [9]) (by kernel_rfl) (by simp) ?_
                  refine AllReadyH.cons (by rfl) (fun K9 hK9 => ?_) ?_
                  · go_simp
                    refine (C2.out _ (by first | with_reducible exact hRa | with_reducible exact isR_fr hRa ((Fr.refl _).drew) | with_reducible exact isR_fr hRa (((Fr.refl _).alloc _).drew) | with_reducible exact isR_fr hRa (((Fr.refl _).drew).alloc _) | with_reducible exact isR_fr hRa ((Fr.refl _).alloc _))).mono ?_
                    rintro e wb ⟨rfl, hRb, qq⟩
                    have hmb : Mv (one1 g) wo wb := Mv.trans' (by (repeat (first | with_reducible exact hma | with_reducible exact Mv.refl _ _ | with_reducible refine Mv.then ?_ ((Fr.refl _).alloc _) | with_reducible refine Mv.drew ?_))) qq
                    dsimp only
                    refine hK9.out _ _ (HALL.out _ (by (repeat (first | with_reducible exact hmb | with_reducible exact hma | with_reducible exact Mv.refl _ _ | with_reducible refine Mv.then ?_ ((Fr.refl _).alloc _) | with_reducible refine Mv.drew ?_)))) (fun hHeld => ?_)
                    try go_frame
                    refine wpAnyH_take (i := 10) (v := ?v5810) (by rfl) (by kernel_rfl) (by kernel_rfl) (by kernel_rfl) (fun _ a8 _ h => ⟨h.1, by have h9 := h.2.1; rw [Act.defers_put'] at h9; exact h9, h.2.2⟩) (Or.inl ⟨by rfl, ?y5810⟩) (by assumption) ?z5810
                    case y5810 =>
                      intro w hSw
                      go_simp
                      try with_reducible rfl
                    case' z5810 => try go_frame
                    refine wpAnyH_take (i := 11) (v := ?v5911) (by rfl) (by kernel_rfl) (by kernel_rfl) (by kernel_rfl) (fun _ a8 _ h => ⟨h.1, by have h9 := h.2.1; rw [Act.defers_put'] at h9; exact h9, h.2.2⟩) (Or.inl ⟨by rfl, ?y5911⟩) (by assumption) ?z5911
                    case y5911 =>
                      intro w hSw
                      go_simp
                      try with_reducible rfl
                    case' z5911 => try go_frame
                    refine wpAnyH_ready (rs := [12]) (by kernel_rfl) (by simp) ?_
                    refine AllReadyH.cons (by rfl) (fun K9 hK9 => ?_) ?_
                    · go_simp
                      refine (cdMustF_ok s _).mono ?_
                      rintro e wz ⟨rfl, rfl⟩
                      dsimp only
                      refine hK9.out _ _ (HALL.out _ (by (repeat (first | with_reducible exact hmb | with_reducible exact hma | with_reducible exact Mv.refl _ _ | with_reducible refine Mv.then ?_ ((Fr.refl _).alloc _) | with_reducible refine Mv.drew ?_)))) (fun hHeld => ?_)
                      try go_frame
                      refine wpAnyH_ready (rs := [15]) (by kernel_rfl) (by simp) ?_
                      refine AllReadyH.cons (by rfl) (fun K9 hK9 => ?_) ?_
                      · go_simp
                        refine (CN.out _ (by first | with_reducible exact hRb | with_reducible exact isR_fr hRb ((Fr.refl _).drew) | with_reducible exact isR_fr hRb (((Fr.refl _).alloc _).drew) | with_reducible exact isR_fr hRb (((Fr.refl _).drew).alloc _) | with_reducible exact isR_fr hRb ((Fr.refl _).alloc _))).mono ?_
                        rintro e wd ⟨v, hv, rfl, qq⟩
                        have HV := Lib.hid hv
                        have hmd : Mv (one1 g) wo wd := Mv.trans' (by (repeat (first | with_reducible exact hmb | with_reducible exact hma | with_reducible exact Mv.refl _ _ | with_reducible refine Mv.then ?_ ((Fr.refl _).alloc _) | with_reducible refine Mv.drew ?_))) qq
                        clear hv
                        dsimp only
                        refine hK9.out _ _ (HALL.out _ (by (repeat (first | with_reducible exact hmd | with_reducible exact hmb | with_reducible exact hma | with_reducible exact Mv.refl _ _ | with_reducible refine Mv.then ?_ ((Fr.refl _).alloc _) | with_reducible refine Mv.drew ?_)))) (fun hHeld => ?_)
                        try go_frame
                        refine wpAnyH_take (i := 16) (v := ?v6016) (by rfl) (by kernel_rfl) (by kernel_rfl) (by kernel_rfl) (fun _ a8 _ h => ⟨h.1, by have h9 := h.2.1; rw [Act.defers_put'] at h9; exact h9, h.2.2⟩) (Or.inl ⟨by rfl, ?y6016⟩) (by assumption) ?z6016
                        case y6016 =>
                          intro w hSw
                          go_simp
                          try with_reducible rfl
                        case' z6016 => try go_frame
                        refine wpAnyH_take (i := 17) (v := ?v6117) (by rfl) (by kernel_rfl) (by kernel_rfl) (by kernel_rfl) (fun _ a8 _ h => ⟨h.1, by have h9 := h.2.1; rw [Act.defers_put'] at h9; exact h9, h.2.2⟩) (Or.inl ⟨by rfl, ?y6117⟩) (by assumption) ?z6117
                        case y6117 =>
                          intro w hSw
                          go_simp
                          try with_reducible rfl
                        case' z6117 => try go_frame
                        refine wpAnyH_ready (rs := [18]) (by kernel_rfl) (by simp) ?_
                        refine AllReadyH.cons (by rfl) (fun K9 hK9 => ?_) ?_
                        · go_simp
                          refine (cdMustF_no 0 v HV.out _).mono ?_
                          rintro e wz ⟨rfl, rfl⟩
                          first | refine ⟨rfl, rfl, ?_⟩ | refine ⟨rfl, ?_⟩
                          (repeat (first | with_reducible exact hmd | with_reducible exact hmb | with_reducible exact hma | with_reducible exact Mv.refl _ _ | with_reducible refine Mv.then ?_ ((Fr.refl _).alloc _) | with_reducible refine Mv.drew ?_))
                        exact AllReadyH.nil
                      exact AllReadyH.nil
                    exact AllReadyH.nil
                  exact AllReadyH.nil
                exact AllReadyH.nil
              exact AllReadyH.nil
            exact AllReadyH.nil
          exfalso
          unfold segAt at hk
          rw [e1] at hk
          dsimp only at hk
          rw [e2] at hk
          dsimp only at hk
          rw [e3] at hk
          cases hk
        · have HSG := Lib.hid hk
          obtain ⟨z1, z2, z3, z4, z5⟩ := segAt_some hk
          have HPARTS : Hid (∃ q1 q2, cntAt b ai 4294967296 = some (t, q1) ∧ fltAt b q1 = some (s, q2) ∧ fltAt b q2 = some (m, q3)) := by
            unfold segAt at hk
            split at hk
            · cases hk
            · rename_i t1 a1' e1
              split at hk
              · cases hk
              · rename_i s1 a2' e2
                split at hk
                · cases hk
                · rename_i i1 a3' e3
                  injection hk with hk; injection hk with hk1 hk2
                  injection hk1 with hk1 hk3; injection hk3 with hk3 hk4
                  subst hk1; subst hk2; subst hk3; subst hk4
                  exact ⟨a1', a2', e1, e2, e3⟩
          obtain ⟨q1, q2, e1, e2, e3⟩ := HPARTS.out
          have l1 := cntAt_some e1
          have l2 := fltAt_some e2
          have l3 := fltAt_some e3
          have C1 : Hid (∀ w', IsR w' g b ai → Calls Tryz.prog 41 #[.pointer (some ⟨g, 0, none⟩), .int .i64 4294967296] w' fun e w'' => e = .returned (.tuple #[.int .i64 (t : Nat), .int .i64 0]) ∧ IsR w'' g b q1 ∧ Mv (one1 g) w' w'') := fun w' h => cnt_some g b ai 4294967296 (by decide) w' h haib HM.out t q1 e1
          have C2 : Hid (∀ w', IsR w' g b q1 → Calls Tryz.prog 78 #[.pointer (some ⟨g, 0, none⟩)] w' fun e w'' => e = .returned (.tuple #[.float .f64 s, .int .i64 0]) ∧ IsR w'' g b q2 ∧ Mv (one1 g) w' w'') := fun w' h => flt_some g b q1 w' h l1.2.1 HM.out s q2 e2
          have C3 : Hid (∀ w', IsR w' g b q2 → Calls Tryz.prog 78 #[.pointer (some ⟨g, 0, none⟩)] w' fun e w'' => e = .returned (.tuple #[.float .f64 m, .int .i64 0]) ∧ IsR w'' g b q3 ∧ Mv (one1 g) w' w'') := fun w' h => flt_some g b q2 w' h l2.2.1 HM.out m q3 e3
          clear e1 e2 e3 l1 l2 l3 hk
          go_wp2_with fail
          go_cut [10] (fun v10 wx => ∃ g10, v10 = .pointer (some ⟨g10, 0, none⟩) ∧ Hid (wo.heap.size ≤ g10 ∧ g10 < wx.heap.size) ∧ Hid (wx.heap[g10]? = some (.cells #[.int .u64 0, .float .f64 s, .float .f64 m, .int .i64 f, .int .i64 t] 65 (0, 0))) ∧ Hid (IsR wx g b q3) ∧ Hid (Mv (one1 g) wo wx))
          case first =>
            have hRo := hR.out
            have HGO : Hid (g < wo.heap.size) := isR_lt hRo
            go_region_held3 (fun w' => w'.cell? ⟨w.heap.size, 0, none⟩ = some (.pointer (some ⟨g, 0, none⟩)))
              (first | (refine HALL.out _ ?_; repeat (first | with_reducible exact hmd | with_reducible exact hmb | with_reducible exact hma | with_reducible exact Mv.refl _ _ | (with_reducible refine Mv.set ?_ (.inr (by first | exact Nat.le_refl _ | exact hma.size | exact hmb.size | exact hmd.size)) _) | with_reducible refine Mv.then ?_ ((Fr.refl _).alloc _) | with_reducible refine Mv.drew ?_)))
              (first
                | (go_at_call 41; refine (C1.out _ (by first | with_reducible exact hRo | with_reducible exact isR_fr hRo ((Fr.refl _).drew) | with_reducible exact isR_fr hRo (((Fr.refl _).alloc _).drew))).mono ?_; rintro e wa ⟨rfl, hRa, qq⟩; have hma : Mv (one1 g) wo wa := Mv.trans' (by (repeat (first | with_reducible exact hmd | with_reducible exact hmb | with_reducible exact hma | with_reducible exact Mv.refl _ _ | (with_reducible refine Mv.set ?_ (.inr (by first | exact Nat.le_refl _ | exact hma.size | exact hmb.size | exact hmd.size)) _) | with_reducible refine Mv.then ?_ ((Fr.refl _).alloc _) | with_reducible refine Mv.drew ?_))) qq; try (have hn := qq.blk (heap_alloc_new wo (.cells #[.int .u64 0, .float .f64 0, .float .f64 0, .int .i64 0, .int .i64 0] 65)) (by intro h; have h9 : _ = g := h; have := HGO.out; first | omega | (have := hma.size; omega) | (have := hmb.size; omega) | (have := hmd.size; omega)); obtain ⟨y0, y1, y2, y3, y4⟩ := cells5 hn; have zy0 := blk_frozen hn 0; have zy1 := blk_frozen hn 1; have zy2 := blk_frozen hn 2; have zy3 := blk_frozen hn 3; have zy4 := blk_frozen hn 4))
                | (go_at_call 40; refine (cdMustI_ok t _).mono ?_; rintro e wz ⟨rfl, rfl⟩)
                | (go_at_call 78; have _h := hRb; refine (C3.out _ (by first | with_reducible exact hRb | with_reducible exact isR_fr hRb ((Fr.refl _).alloc _))).mono ?_; rintro e wd ⟨rfl, hRd, qq⟩; have hmd : Mv (one1 g) wo wd := Mv.trans' (by (repeat (first | with_reducible exact hmd | with_reducible exact hmb | with_reducible exact hma | with_reducible exact Mv.refl _ _ | (with_reducible refine Mv.set ?_ (.inr (by first | exact Nat.le_refl _ | exact hma.size | exact hmb.size | exact hmd.size)) _) | with_reducible refine Mv.then ?_ ((Fr.refl _).alloc _) | with_reducible refine Mv.drew ?_))) qq; have hl := heap_alloc_new wd (.cells #[.int .u64 0, .float .f64 0, .float .f64 0, .int .i64 0, .int .i64 0] 65); obtain ⟨l0, l1, l2, l3, l4⟩ := cells5 hl; have zl0 := blk_frozen hl 0; have zl1 := blk_frozen hl 1; have zl2 := blk_frozen hl 2; have zl3 := blk_frozen hl 3; have zl4 := blk_frozen hl 4; try (first
                    | (have hq : Mv (one1 g) wb _ := (by with_reducible exact qq); try (have hn := hq.blk hn (by intro h; have h9 : _ = g := h; have := HGO.out; first | omega | (have := hma.size; omega) | (have := hmb.size; omega) | (have := hmd.size; omega)); obtain ⟨y0, y1, y2, y3, y4⟩ := cells5 hn; have zy0 := blk_frozen hn 0; have zy1 := blk_frozen hn 1; have zy2 := blk_frozen hn 2; have zy3 := blk_frozen hn 3; have zy4 := blk_frozen hn 4))
                    | (have hn := qq.blk (heap_alloc_new wb (.cells #[.int .u64 0, .float .f64 0, .float .f64 0, .int .i64 0, .int .i64 0] 65)) (by intro h; have h9 : _ = g := h; have := HGO.out; first | omega | (have := hma.size; omega) | (have := hmb.size; omega) | (have := hmd.size; omega)); obtain ⟨y0, y1, y2, y3, y4⟩ := cells5 hn; have zy0 := blk_frozen hn 0; have zy1 := blk_frozen hn 1; have zy2 := blk_frozen hn 2; have zy3 := blk_frozen hn 3; have zy4 := blk_frozen hn 4)))
                | (go_at_call 78; refine (C2.out _ (by first | with_reducible exact hRa | with_reducible exact isR_fr hRa ((Fr.refl _).alloc _))).mono ?_; rintro e wb ⟨rfl, hRb, qq⟩; have hmb : Mv (one1 g) wo wb := Mv.trans' (by (repeat (first | with_reducible exact hmd | with_reducible exact hmb | with_reducible exact hma | with_reducible exact Mv.refl _ _ | (with_reducible refine Mv.set ?_ (.inr (by first | exact Nat.le_refl _ | exact hma.size | exact hmb.size | exact hmd.size)) _) | with_reducible refine Mv.then ?_ ((Fr.refl _).alloc _) | with_reducible refine Mv.drew ?_))) qq; try (first
                    | (have hq : Mv (one1 g) wa _ := (by with_reducible exact qq); try (have hn := hq.blk hn (by intro h; have h9 : _ = g := h; have := HGO.out; first | omega | (have := hma.size; omega) | (have := hmb.size; omega) | (have := hmd.size; omega)); obtain ⟨y0, y1, y2, y3, y4⟩ := cells5 hn; have zy0 := blk_frozen hn 0; have zy1 := blk_frozen hn 1; have zy2 := blk_frozen hn 2; have zy3 := blk_frozen hn 3; have zy4 := blk_frozen hn 4))
                    | (have hn := qq.blk (heap_alloc_new wa (.cells #[.int .u64 0, .float .f64 0, .float .f64 0, .int .i64 0, .int .i64 0] 65)) (by intro h; have h9 : _ = g := h; have := HGO.out; first | omega | (have := hma.size; omega) | (have := hmb.size; omega) | (have := hmd.size; omega)); obtain ⟨y0, y1, y2, y3, y4⟩ := cells5 hn; have zy0 := blk_frozen hn 0; have zy1 := blk_frozen hn 1; have zy2 := blk_frozen hn 2; have zy3 := blk_frozen hn 3; have zy4 := blk_frozen hn 4)))
                | (go_at_call 77; have _h := hRd; refine (cdMustF_ok m _).mono ?_; rintro e wz ⟨rfl, rfl⟩)
                | (go_at_call 77; refine (cdMustF_ok s _).mono ?_; rintro e wz ⟨rfl, rfl⟩))
            all_goals (go_wp2_with fail)
            all_goals go_meet
            all_goals (refine ⟨_, rfl, ?_⟩)
            all_goals first
              | with_reducible exact segfin_alloc hmd hRd _
              | with_reducible exact segfin_set hn (Nat.le_refl _) HGO.out hmd hRd _ _ _ _ _
              | with_reducible exact segfin_set hn hma.size HGO.out hmd hRd _ _ _ _ _
              | with_reducible exact segfin_set hn hmb.size HGO.out hmd hRd _ _ _ _ _
          case rest =>
          obtain ⟨g10, rfl, hg10, hB10, hR10, hM10⟩ := hcut
          obtain ⟨w6, hw6⟩ : ∃ w6, w6 = wc := ⟨_, rfl⟩
          subst hw6
          have x6 := HALL.out w6 hM10.out
          by_cases hf : f < nk
          · have HF1 : Hid (decide ((f : Int) < (nk : Int)) = true) := decide_eq_true (by omega)
            have d3 : decide (f < nk) = true := decide_eq_true hf
            have d4 : (f : Int) < (nk : Int) := by omega
            have hfK : f < K.length := by have := HK.out; omega
            obtain ⟨bk, ok, hA9, hck⟩ := rdc_ky (HR.out.mv (hmv.out.trans' hM10.out) (fun k hk h => HAK.out k hk h)) (by omega)
            subst hA9
            have y9 := hck f hfK
            obtain ⟨kk, hkk⟩ : ∃ kk, ky K f = kk := ⟨_, rfl⟩
            rw [hkk] at y9
            have HKK := Lib.hid hkk
            have z9 := blk_frozen hB10.out 0
            obtain ⟨c0, c1, c2', c3, c4⟩ := cells5 hB10.out
            have HNX : Hid (rowAt' b K n 0 a1 = match rowAt' b K (n - (i + 1)) t q3 with | none => none | some (S', a') => some ((S ++ [(⟨kk, s, m, f, t⟩ : Seg)]) ++ S', a')) := by rw [Hid, HEQ.out, HSG.out]; dsimp only; rw [if_pos hfK, hkk]
            clear hck hkk
            go_wp2_with fail
            refine (cdSure_ok w6).mono ?_
            rintro _ w7 ⟨rfl, rfl⟩
            have HGO2 : Hid (g < wo.heap.size) := isR_lt hR.out
            have HNE : Hid (g10 ≠ g) := by have := HGO2.out; have := hg10.out.1; rw [Hid]; omega
            obtain ⟨wq, hwq⟩ : ∃ wq, wq = w6.setCell ⟨g10, 0, none⟩ (.int .u64 kk) := ⟨_, rfl⟩
            have HMQ0 : Hid (Mv (one1 g) wo wq) := by rw [hwq]; exact hM10.out.set (p := ⟨g10, 0, none⟩) (.inr hg10.out.1) _
            have HRQ : Hid (IsR wq g b q3) := by rw [hwq]; exact isR_set hR10.out HNE.out 0 _
            have HEQQ : Hid ((w6.setCell ⟨g10, 0, none⟩ (.int .u64 kk)).heap[g10]? = some (.cells #[.int .u64 kk, .float .f64 s, .float .f64 m, .int .i64 f, .int .i64 t] 65 (0, 0))) := blk_set hB10.out 0 (.int .u64 kk)
            obtain ⟨s0, s1, s2, s3, s4⟩ := cells5 HEQQ.out
            go_wp2_with (at_builtin; refine gate ?_)
            rw [← hwq] at HEQQ ⊢
            have HOWNQ : Hid (Own wq (w.heap.size + 1) 65 5 Al i cl (S.flatMap sgcells)) := hown.out.mv HMQ0.out (fun k hk h => by have h9 := (hown.out.lt k hk).1; have := HGW.out; have : k = g := h; omega)
            have HOW2Q : Hid (Own wq (w.heap.size + 1) 50 1 A2 i c2 ((firstsOf S).map uv)) := hown2.out.mv HMQ0.out (fun k hk h => by have h9 := (hown2.out.lt k hk).1; have := HGW.out; have : k = g := h; omega)
            have HMQ : Hid (Mv (one1 g) w wq) := hmv.out.trans' HMQ0.out
            have HBRQ : Hid (wq.heap[w.heap.size]? = some (.cells #[.pointer (some ⟨g, 0, none⟩)] 86 (0, 0))) := HMQ0.out.blk hbr.out (fun h => by have := HGW.out; have : w.heap.size = g := h; omega)
            have HSQ : Hid (w.heap.size + 1 ≤ wq.heap.size) := by have := hsz.out; have := HMQ0.out.size; rw [Hid]; omega
            have HSE : Hid (wq.heap.size = w6.heap.size) := by rw [hwq]; simp [Hid, World.setCell]
            clear hwq s0 s1 s2 s3 s4 z9
            refine gate_app rfl _ _ 62 rfl 65 (.agg #[.int .u64 0, .float .f64 0, .float .f64 0, .int .i64 0, .int .i64 0]) 5 40 Tryz.underlying62 info_seg rfl (by omega) (by omega) (w.heap.size + 1) Al i cl (S.flatMap sgcells) (some ⟨w6.heap.size, 0, none⟩) 1 1 ([(⟨kk, s, m, f, t⟩ : Seg)].flatMap sgcells) (by rfl) (by rfl)
              (HOWNQ.out.fr ((Fr.refl wq).alloc _)) rfl (by rw [← HSE.out]; exact RdC.of_blk (heap_alloc_new wq _)) (seg_one [(⟨kk, s, m, f, t⟩ : Seg)]) (by omega) (by have := HSQ.out; simp; omega) ?_
            intro A6 c6 w9 hown6 hgr6 hat6
            have hm9 : Hid (Mv (fun k => ablk Al = some k) wq w9) := ((Mv.of_fr ((Fr.refl wq).alloc _)).grown hgr6.out (fun j hj => .inl hj))
            have HM9 : Hid (Mv (one1 g) w w9) := HMQ.out.trans hm9.out (fun k hk => .inr (by have := (HOWNQ.out.lt k hk).1; omega))
            have HBR9 : Hid (w9.heap[w.heap.size]? = some (.cells #[.pointer (some ⟨g, 0, none⟩)] 86 (0, 0))) := hm9.out.blk HBRQ.out (fun h => by have := (HOWNQ.out.lt _ h).1; omega)
            have HR9 : Hid (IsR w9 g b q3) := isR_mv HRQ.out hm9.out (fun h => by have := (HOWNQ.out.lt _ h).1; have := HGW.out; omega)
            have HS9 : Hid (w.heap.size + 1 ≤ w9.heap.size) := by have := HSQ.out; have := hm9.out.size; rw [Hid]; omega
            have HE9 : Hid (w9.heap[g10]? = some (.cells #[.int .u64 kk, .float .f64 s, .float .f64 m, .int .i64 f, .int .i64 t] 65 (0, 0))) := hm9.out.blk HEQQ.out (fun h => by have := (hown.out.lt _ h).2; have := hg10.out.1; omega)
            have HOW29 : Hid (Own w9 (w.heap.size + 1) 50 1 A2 i c2 ((firstsOf S).map uv)) := HOW2Q.out.mv hm9.out (fun k hk h => by obtain ⟨cs9, h9⟩ := own_ty HOW2Q.out hk; exact own_not_blk0 HOWNQ.out (by decide) k h h9)
            have HOWN9 := hown6
            obtain ⟨s0, s1, s2, s3, s4⟩ := cells5 HE9.out
            clear hown6 hgr6 hat6 hm9
            go_wp2_with (at_builtin; refine gate ?_)
            refine gate_app rfl _ _ 57 rfl 50 (.int .u64 0) 1 8 Tryz.underlying57 info_u64r rfl (by omega) (by omega) (w.heap.size + 1) A2 i c2 ((firstsOf S).map uv) (some ⟨w9.heap.size, 0, none⟩) 1 1 ([kk].map uv) (by rfl) (by rfl)
              (HOW29.out.fr ((Fr.refl w9).alloc _)) rfl (RdC.of_blk (heap_alloc_new w9 _)) (uv_one [kk]) (by omega) (by have := HS9.out; simp; omega) ?_
            intro A7 c7 w11 hown7 hgr7 hat7
            have hm11 : Hid (Mv (fun k => ablk A2 = some k) w9 w11) := ((Mv.of_fr ((Fr.refl w9).alloc _)).grown hgr7.out (fun j hj => .inl hj))
            have HM11 : Hid (Mv (one1 g) w w11) := HM9.out.trans hm11.out (fun k hk => .inr (by have := (HOW29.out.lt k hk).1; omega))
            have HBR11 : Hid (w11.heap[w.heap.size]? = some (.cells #[.pointer (some ⟨g, 0, none⟩)] 86 (0, 0))) := hm11.out.blk HBR9.out (fun h => by have := (HOW29.out.lt _ h).1; omega)
            have HR11 : Hid (IsR w11 g b q3) := isR_mv HR9.out hm11.out (fun h => by have := (HOW29.out.lt _ h).1; have := HGW.out; omega)
            have HS11 : Hid (w.heap.size + 1 ≤ w11.heap.size) := by have := HS9.out; have := hm11.out.size; rw [Hid]; omega
            have HE11 : Hid (w11.heap[g10]? = some (.cells #[.int .u64 kk, .float .f64 s, .float .f64 m, .int .i64 f, .int .i64 t] 65 (0, 0))) := hm11.out.blk HE9.out (fun h => own_not_blk0 HOW29.out (by decide) g10 h HE9.out)
            have HOW11 : Hid (Own w11 (w.heap.size + 1) 65 5 A6 (i + 1) c6 (S.flatMap sgcells ++ [(⟨kk, s, m, f, t⟩ : Seg)].flatMap sgcells)) := HOWN9.out.mv hm11.out (fun k hk h => by obtain ⟨cs9, h9⟩ := own_ty HOWN9.out hk; exact own_not_blk0 HOW29.out (by decide) k h h9)
            have HOW12 := hown7
            obtain ⟨t0, t1, t2, t3, t4⟩ := cells5 HE11.out
            clear hown7 hgr7 hat7 hm11 s0 s1 s2 s3 s4
            go_wp2_with fail
            exact ⟨⟨i + 1, q3, t, A6, c6, A7, c7, S ++ [(⟨kk, s, m, f, t⟩ : Seg)], rfl, rfl, rfl, rfl, by omega, by omega, by rw [Hid, List.length_append, hll.out]; rfl, by omega, by omega, by rw [Hid, List.flatMap_append]; exact HOW11.out, by rw [Hid, firstsOf, List.map_append, List.map_append]; exact HOW12.out, HR11.out, HBR11.out, HM11.out, HS11.out, HNX.out⟩, by simp only [intOf]; omega⟩
          · have d3 : decide (f < nk) = false := decide_eq_false hf
            have HNO : Hid (rowAt' b K n 0 a1 = none) := by rw [Hid, HEQ.out, HSG.out]; dsimp only; rw [if_neg (by have := HK.out; omega)]
            have HM6 : Hid (Mv (one1 g) w w6) := hmv.out.trans' hM10.out
            go_wp2_with fail
            refine (cdSure_no w6).mono ?_
            rintro _ w7 ⟨rfl, rfl⟩
            go_wp2_with fail
            exact ⟨rfl, HM6.out, by rw [HNO.out]; rfl⟩
      · obtain rfl : i = n := by omega
        have d1 : decide (i < i) = false := by simp
        have HFIN : Hid (rowAt' b K i 0 a1 = some (S, ai)) := by
          have h9 := heq.out
          rw [Nat.sub_self] at h9
          rw [Hid, h9]
          unfold rowAt'
          simp
        clear heq
        go_wp2_with fail
        go_ret2
        refine ⟨hmv.out, ?_⟩
        rw [HFIN.out]
        exact ⟨Al, cl, A2, c2, by rw [hll.out]; rfl, by rw [hll.out]; exact hown.out.mono (by omega), by rw [hll.out]; exact hown2.out.mono (by omega), hR.out⟩
end Go.Proofs.YthjimnmgbcckjaaGreat
