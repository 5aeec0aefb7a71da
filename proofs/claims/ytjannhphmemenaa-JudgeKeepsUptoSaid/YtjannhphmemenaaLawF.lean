/- The law JudgeFinds. -/
import Derived.Test.YtjannhphmemenaaJudU
namespace Go.Jud
theorem u0 : U 0 := ⟨by decide, by decide⟩
theorem pair_ans {L : List Pr} (h : InU L) (n : Int) : (pairAt L n).code = 0 ∧ (pairAt L n).num = 0 ∧ U (pairAt L n).key ∧ U (pairAt L n).val ∧ (pairAt L n).list = [] := by
  unfold pairAt
  split
  · split
    · rename_i p hp
      have := h p (List.mem_of_getElem? hp)
      exact ⟨rfl, rfl, this.1, this.2, rfl⟩
    · exact ⟨rfl, rfl, u0, u0, rfl⟩
  · exact ⟨rfl, rfl, u0, u0, rfl⟩
theorem val_in {L : List Pr} (h : InU L) (k : Int) : U (valAt L k) := by
  unfold valAt
  split
  · rename_i p hp
    split
    · exact (h p (List.mem_of_getElem? hp)).2
    · exact u0
  · exact u0
/-- The bounds of an answer. -/
theorem does_ans {most : Int} {L : List Pr} (h : InU L) (o : OpV) : 0 ≤ (does most L o).1.code ∧ (does most L o).1.code ≤ 1000 ∧ 0 ≤ (does most L o).1.num ∧ (does most L o).1.num ≤ L.length ∧ U (does most L o).1.key ∧ U (does most L o).1.val ∧ InU (does most L o).1.list ∧ (does most L o).1.list.length ≤ L.length := by
  have hz : InU [] := fun p hp => by cases hp
  have hrk := rk_le L o.key
  unfold does
  by_cases k1 : o.kind = 1
  · rw [if_pos k1]
    repeat' split
    all_goals exact ⟨by simp [ans0], by simp [ans0], by simp [ans0], by simp [ans0], u0, u0, hz, by simp [ans0]⟩
  · rw [if_neg k1]
    by_cases k2 : o.kind = 2
    · rw [if_pos k2]; exact ⟨by simp [ans0], by simp [ans0], by simp [ans0], by simp [ans0], u0, u0, hz, by simp [ans0]⟩
    · rw [if_neg k2]
      by_cases k3 : o.kind = 3
      · rw [if_pos k3]; exact ⟨by simp [ans0], by simp [ans0], by simp [ans0], by simp [ans0], u0, val_in h _, hz, by simp [ans0]⟩
      · rw [if_neg k3]
        by_cases k4 : o.kind = 4
        · rw [if_pos k4]
          obtain ⟨a, b, c, d, e⟩ := pair_ans h (if isAt L o.key then rk L o.key else (rk L o.key : Int) - 1)
          exact ⟨by rw [a]; decide, by rw [a]; decide, by rw [b]; decide, by rw [b]; omega, c, d, by rw [e]; exact hz, by rw [e]; simp⟩
        · rw [if_neg k4]
          by_cases k5 : o.kind = 5
          · rw [if_pos k5]
            obtain ⟨a, b, c, d, e⟩ := pair_ans h (rk L o.key)
            exact ⟨by rw [a]; decide, by rw [a]; decide, by rw [b]; decide, by rw [b]; omega, c, d, by rw [e]; exact hz, by rw [e]; simp⟩
          · rw [if_neg k5]
            by_cases k6 : o.kind = 6
            · rw [if_pos k6]; exact ⟨by simp [ans0], by simp [ans0], by simp, by simpa using hrk, u0, u0, hz, by simp [ans0]⟩
            · rw [if_neg k6]
              by_cases k7 : o.kind = 7
              · rw [if_pos k7]
                have hsub : ∀ p ∈ span L o.key o.val, p ∈ L := fun p hp => List.mem_of_mem_drop ((List.takeWhile_sublist _).mem hp)
                refine ⟨by simp [ans0], by simp [ans0], by simp [ans0], by simp [ans0], u0, u0, fun p hp => h p (hsub p hp), ?_⟩
                have h1 := (List.takeWhile_sublist (l := L.drop (rk L o.key)) (fun p => decide (p.1 ≤ o.val))).length_le
                have h2 : (L.drop (rk L o.key)).length ≤ L.length := by simp
                exact Nat.le_trans h1 h2
              · rw [if_neg k7]; exact ⟨by simp [ans0], by simp [ans0], by simp [ans0], by simp [ans0], u0, u0, hz, by simp [ans0]⟩
theorem in_runs {most : Int} : ∀ (os : List OpV) {L : List Pr}, (∀ o ∈ os, U o.key ∧ U o.val) → Up L → InU L → InU (runs most L os)
  | [], _, _, _, h => h
  | o :: os, L, hU, hu, h => in_runs os (fun o ho => hU o (by simp [ho])) (up_does hu o) (in_does hu h o (hU o (by simp)).1 (hU o (by simp)).2)
end Go.Jud
namespace Go.Proofs.Ytjannhphmemenaa
set_option maxRecDepth 100000
open Go.RowKit Go.Inc Go.Jud Go.Maps Go.Sort

theorem far_pa {w0 w5 : World} {PA PA6 : Option Addr} {g b : Nat} (hD : ∀ k, ablk PA = some k → w0.heap.size ≤ k ∧ k ≠ g ∧ k ≠ b) (h : ablk PA6 = ablk PA ∨ ∀ k, ablk PA6 = some k → w5.heap.size ≤ k) (hf : w0.heap.size ≤ w5.heap.size) (hg : g < w5.heap.size) (hb : b < w5.heap.size) :
    ∀ k, ablk PA6 = some k → w0.heap.size ≤ k ∧ k ≠ g ∧ k ≠ b := fun k hk => by
  rcases h with h | h
  · exact hD k (by rw [← h]; exact hk)
  · have h1 := h k hk; exact ⟨by omega, by omega, by omega⟩
set_option maxHeartbeats 4000000 in
theorem judgeFinds_calls (most : Int) (os : List OpV) (O : Option Addr) (n c : Nat) (o : OpV) (rule z : Int) (w : World) (hr : -9223372036854775808 ≤ most ∧ most ≤ 9223372036854775807) (hn : n = os.length) (hos : os.length ≤ 1073741823)
    (hO : RdC w O (os.flatMap ocells)) (hU : ∀ o ∈ os, U o.key ∧ U o.val) (hoU : U o.key ∧ U o.val) (hz : U z) :
    Calls Try.prog 4 #[.int .i64 most, .slice O n c, opVal o, .int .i64 rule, .int .u64 z] w fun e w' => e = .returned (.bool true) ∧ Fr w w' := by
  subst hn
  have HO := Lib.hid hO
  have HU := Lib.hid hU
  have HOU := Lib.hid hoU
  have HZ := Lib.hid hz
  clear hO hU hoU hz
  unfold opVal
  by_cases hv : 1 ≤ most ∧ most ≤ 4294967296
  · obtain ⟨Li, hLi⟩ : ∃ Li : Nat → List Pr, ∀ i, Li i = runs most [] (os.take i) := ⟨_, fun _ => rfl⟩
    have hL0 : Hid (Li 0 = []) := by rw [Hid, hLi]; rfl
    have hLl : Hid (∀ i, (Li i).length ≤ i) := fun i => by rw [hLi]; exact Nat.le_trans (runs_len _ _ _) (by rw [List.length_take]; simp; omega)
    have hLS : Hid (∀ (i : Nat) (o : OpV), os[i]? = some o → Li (i + 1) = (does most (Li i) o).2) := fun i o h1 => by rw [hLi, hLi]; exact runs_take h1
    clear hLi
    go_enter Try.func4, Try.ntmps4
    go_wp2_with fail
    obtain ⟨w0, hw0⟩ : ∃ w0, w0 = w.alloc (.cells #[.int .i64 o.kind, .int .u64 o.key, .int .u64 o.val] 33) := ⟨_, rfl⟩
    have hb0 := heap_alloc_new w (.cells #[.int .i64 o.kind, .int .u64 o.key, .int .u64 o.val] 33)
    have hf0 := (Fr.refl w).alloc (.cells #[.int .i64 o.kind, .int .u64 o.key, .int .u64 o.val] 33)
    rw [← hw0] at hb0 hf0 ⊢
    clear hw0
    have HB := Lib.hid hb0
    have HF0 := Lib.hid hf0
    clear hb0 hf0
    refine (shown23_calls w0).mono ?_
    rintro e w1 ⟨rfl, hf1⟩
    have HF1 := Lib.hid hf1
    clear hf1
    go_wp2_with fail
    refine (jnew_yes most w1 hv.1 hv.2).mono ?_
    rintro e w2 ⟨g, b, rfl, hg, hb, hJ, hf2⟩
    have HJ2 := Lib.hid hJ
    have HF2 := Lib.hid hf2
    clear hJ hf2
    go_wp2_with fail
    refine (pnew_yes most w2 hv.1 hv.2).mono ?_
    rintro e w3 ⟨gp, rfl, hgp, hP, hf3⟩
    have hjl := HJ2.out.lt
    have hg0 : w0.heap.size ≤ g := Nat.le_trans HF1.out.size hg
    have hb0 : w0.heap.size ≤ b := Nat.le_trans HF1.out.size hb
    have hgp0 : w0.heap.size ≤ gp := Nat.le_trans (Nat.le_trans HF1.out.size HF2.out.size) hgp
    have hgb : gp ≠ b ∧ gp ≠ g := by omega
    have HJ3 := Lib.hid (HJ2.out.fr hf3)
    have HP3 := Lib.hid hP
    have HF3 : Hid (Fr w0 w3) := (HF1.out.trans HF2.out).trans hf3
    clear hP hf3 hv hr hg hb hgp hjl
    go_wp2_with fail
    go_loopw [16] (fun vi wr => ∃ (i : Nat) (PA : Option Addr) (cp : Nat), vi = .int .i64 i ∧ i ≤ os.length ∧ Hid (IsJ wr g b most (Li i)) ∧ Hid (IsP wr gp PA cp most (Li i)) ∧ Hid (∀ k, ablk PA = some k → w0.heap.size ≤ k ∧ k ≠ g ∧ k ≠ b) ∧ Hid (Fr w0 wr)) (fun vi _ => os.length - (intOf vi).toNat)
    case atStart => exact ⟨0, none, 0, rfl, by omega, by rw [Hid, hL0.out]; exact HJ3.out, by rw [Hid, hL0.out]; exact HP3.out, fun k hk => by simp [ablk] at hk, HF3.out⟩
    case round =>
      obtain ⟨i, PA, cp, rfl, hi, hJr, hPr, hDr, hfr⟩ := hrel
      have hLb := hLl.out i
      have hgb' := Lib.hid hgb
      have hg0' := Lib.hid hg0
      have hb0' := Lib.hid hb0
      have hgp0' := Lib.hid hgp0
      clear hgb hg0 hb0 hgp0
      by_cases hlt : i < os.length
      · obtain ⟨p, hpi⟩ : ∃ p, os[i]? = some p := ⟨_, List.getElem?_eq_getElem hlt⟩
        have hUK := HU.out p (List.mem_of_getElem? hpi)
        obtain ⟨bo, oo, hO, hco⟩ := rows_at ocells 3 ocells_len (by omega) HO.out (by omega)
        subst hO
        have HC : Hid (∀ w', Fr w0 w' → _) := fun w' hf => op_at (w := w') (fun j v hv => (HF0.out.trans hf).cell (hco i p hpi j v hv))
        have hL1 := Lib.hid (hLS.out i p hpi)
        have huk := Lib.hid hUK
        have hzo : (i : Int) < (os.length : Int) := by omega
        have hzn : decide (i < os.length) = true := decide_eq_true hlt
        clear hco hpi hUK
        go_wp2_with fail
        have hjlt := Lib.hid hJr.out.lt
        have hda := does_ans (most := most) hPr.out.inU p
        have hdl : (does most (Li i) p).1.list.length ≤ 1099511627776 := by have := hda.2.2.2.2.2.2.2; omega
        clear hda
        go_region_held3 (fun w' => w'.cell? ⟨bo, oo + i * 3, none⟩ = some (.int .i64 p.kind) ∧ w'.cell? ⟨bo, oo + i * 3 + 1, none⟩ = some (.int .u64 p.key) ∧ w'.cell? ⟨bo, oo + i * 3 + 2, none⟩ = some (.int .u64 p.val))
          (first | exact HC.out _ hfr.out.drew | exact HC.out _ hf6.out | exact HC.out _ HF7.out)
          (first
            | (go_at_call 14; refine (pdo_calls gp cp PA most (Li i) p _ (hPr.out.fr ((Fr.refl wr).drew)) (by omega) huk.out.1 huk.out.2).mono ?_
               rintro e w6 ⟨⟨Bd, cd, rfl, hod⟩, PA6, cp6, hP6, hA6, hm6⟩
               have hJ6 : Hid (IsJ w6 g b most (Li i)) := (hJr.out.fr ((Fr.refl wr).drew)).mv hm6 (fun e => Or.elim e (fun e => hgb'.out.2 e.symm) (fun e => (hDr.out g e).2.1 rfl)) (fun e => Or.elim e (fun e => hgb'.out.1 e.symm) (fun e => (hDr.out b e).2.2 rfl))
               have hf6 : Hid (Fr w0 w6) := ((Mv.of_fr (S := none0) hfr.out.drew).trans hm6 (fun k h => .inr (Or.elim h (fun h => by rw [show k = gp from h]; exact hgp0'.out) (fun h => (hDr.out k h).1)))).fr0
               have hD6 : Hid (∀ k, ablk PA6 = some k → w0.heap.size ≤ k ∧ k ≠ g ∧ k ≠ b) := far_pa hDr.out hA6 hfr.out.drew.size hjlt.out.1 hjlt.out.2
               have hrdd := Lib.hid hod.rd
               have hbd : Hid (∀ k, ablk Bd = some k → k ≠ b) := fun k hk => by have h1 : wr.heap.size ≤ k := (hod.lt k hk).1; have := hjlt.out.2; omega
               have HP6 := Lib.hid hP6
               clear hod hA6 hm6 hP6)
            | (go_at_call 13; refine (jsee_calls g b most (Li i) p (does most (Li i) p).1 Bd _ cd w6 hJ6.out huk.out.1 huk.out.2 (by omega) rfl hdl hrdd.out (fun _ e => hbd.out b e rfl)).mono ?_
               rintro e w7 ⟨XA, cx, rfl, -, hm7, hJ7⟩
               rw [rules_same]
               have HJ7 : Hid (IsJ w7 g b most (Li (i + 1))) := by rw [Hid, hL1.out]; exact hJ7
               have HP7 : Hid (IsP w7 gp PA6 cp6 most (Li (i + 1))) := by rw [Hid, hL1.out]; exact HP6.out.mv hm7 (fun e => hgb'.out.1 e) (fun k hk e => (hD6.out k hk).2.2 e)
               have HF7 : Hid (Fr w0 w7) := ((Mv.of_fr (S := none0) hf6.out).trans hm7 (fun k h => .inr (by rw [show k = b from h]; exact hb0'.out))).fr0
               clear hJ7 hm7))
        clear hJ6 HP6 hf6
        go_wp2_with fail
        exact ⟨⟨i + 1, PA6, cp6, by simp, by omega, HJ7, HP7, hD6, HF7⟩, by simp [intOf]; omega⟩
      · obtain rfl : i = os.length := by omega
        have hda := Lib.hid (does_ans (most := most) hPr.out.inU o)
        have hdl := hda.out.2.2.2.2.2.2.2
        have hlz : decide (os.length < os.length) = false := by simp
        obtain ⟨o0, o1, o2⟩ := op_cells (hfr.out.blk HB.out)
        have hjlt := hJr.out.lt
        go_wp2_with fail
        refine (pdo_calls gp cp PA most (Li os.length) o wr hPr.out (by omega) HOU.out.1 HOU.out.2).mono ?_
        rintro e w5 ⟨⟨Bd, cd, rfl, hod⟩, PA5, cp5, hP5, hA5, hm5⟩
        generalize hD : (does most (Li os.length) o).1 = D at hod hda hdl
        have hJ5 : Hid (IsJ w5 g b most (Li os.length)) := hJr.out.mv hm5 (fun e => Or.elim e (fun e => hgb'.out.2 e.symm) (fun e => (hDr.out g e).2.1 rfl)) (fun e => Or.elim e (fun e => hgb'.out.1 e.symm) (fun e => (hDr.out b e).2.2 rfl))
        have hf5 : Hid (Fr w0 w5) := ((Mv.of_fr (S := none0) hfr.out).trans hm5 (fun k h => .inr (Or.elim h (fun h => by rw [show k = gp from h]; exact hgp0'.out) (fun h => (hDr.out k h).1)))).fr0
        have hbl : Hid (b < w5.heap.size) := hJ5.out.lt.2
        have hrdd := Lib.hid hod.rd
        have HD := Lib.hid hD
        clear hod hA5 hm5 hP5 hD o0 o1 o2 hjlt
        go_wp2_with fail
        refine (turned_calls D Bd _ cd rule z w5 rfl hrdd.out (by omega) HZ.out hda.out.2.2.2.2.1 hda.out.2.2.2.2.2.1 ⟨hda.out.1, hda.out.2.1⟩ ⟨hda.out.2.2.1, by have := hda.out.2.2.2.1; omega⟩).mono ?_
        rintro e w6 ⟨TA, ct, rfl, hrt, hTA, hf6⟩
        have hok1 : Hid ((turnV D rule z).2 = true → rules (turnV D rule z).1 D = [rule]) := fun h => turn_rule h HZ.out hda.out.2.2.2.2.1 hda.out.2.2.2.2.2.1 hda.out.2.2.2.2.2.2.1
        have hok2 : Hid ((turnV D rule z).2 = false → rules (turnV D rule z).1 D = []) := fun h => by rw [turn_not h]; exact rules_same D
        have hlt : Hid ((turnV D rule z).1.list.length ≤ D.list.length + 1) := turn_len D rule z
        generalize hT : (turnV D rule z).1 = T at hrt hok1 hok2 hlt
        generalize hK : (turnV D rule z).2 = ok at hok1 hok2
        have hJ6 := Lib.hid (hJ5.out.fr hf6)
        have hF6 : Hid (Fr w0 w6) := hf5.out.trans hf6
        have HRT := Lib.hid hrt
        have HTA := Lib.hid hTA
        clear hT hK hf6 hrt hTA
        obtain ⟨o0, o1, o2⟩ := op_cells (((Fr.refl w6).alloc (.cells #[.int .i64 T.code, .bool T.is, .int .u64 T.key, .int .u64 T.val, .int .i64 T.num, .slice TA T.list.length ct] 44)).blk (hF6.out.blk HB.out))
        unfold ansVal
        go_wp2_with fail
        obtain ⟨w7, hw7⟩ : ∃ w7, w7 = w6.alloc (.cells #[.int .i64 T.code, .bool T.is, .int .u64 T.key, .int .u64 T.val, .int .i64 T.num, .slice TA T.list.length ct] 44) := ⟨_, rfl⟩
        have hf7 := (Fr.refl w6).alloc (.cells #[.int .i64 T.code, .bool T.is, .int .u64 T.key, .int .u64 T.val, .int .i64 T.num, .slice TA T.list.length ct] 44)
        have hb7 := heap_alloc_new w6 (.cells #[.int .i64 T.code, .bool T.is, .int .u64 T.key, .int .u64 T.val, .int .i64 T.num, .slice TA T.list.length ct] 44)
        rw [← hw7] at hf7 hb7 ⊢
        clear hw7
        refine (jsee_calls g b most (Li os.length) o T TA _ ct w7 (hJ6.out.fr hf7) HOU.out.1 HOU.out.2 (by omega) rfl (by have := hlt.out; omega) (HRT.out.fr hf7) (fun _ e => by have := HTA.out b e; have := hbl.out; omega)).mono ?_
        rintro e w8 ⟨XA, cx, rfl, hox, hm8, -⟩
        have HF8 : Hid (Fr w0 w8) := ((Mv.of_fr (S := none0) (hF6.out.trans hf7)).trans hm8 (fun k h => .inr (by rw [show k = b from h]; exact hb0'.out))).fr0
        rw [HD.out] at hox ⊢
        clear hm8 hf7 hb7
        cases ok
        · rw [hok2.out rfl] at hox ⊢
          clear hox
          go_wp2_with fail
          go_ret
          exact ⟨rfl, HF0.out.trans HF8.out⟩
        · rw [hok1.out rfl] at hox ⊢
          obtain ⟨bX, oX, rfl, hcX⟩ := hox.rd.at (by simp)
          have x0 : w8.cell? ⟨bX, oX, none⟩ = some (.int .i64 rule) := hcX 0 _ rfl
          clear hox hcX
          go_wp2_with fail
          go_ret
          exact ⟨rfl, HF0.out.trans HF8.out⟩
  · have hv2 : most < 1 ∨ 4294967296 < most := by omega
    clear hv
    go_enter Try.func4, Try.ntmps4
    go_wp2_with fail
    obtain ⟨w0, hw0⟩ : ∃ w0, w0 = w.alloc (.cells #[.int .i64 o.kind, .int .u64 o.key, .int .u64 o.val] 33) := ⟨_, rfl⟩
    have hf0 := (Fr.refl w).alloc (.cells #[.int .i64 o.kind, .int .u64 o.key, .int .u64 o.val] 33)
    rw [← hw0] at hf0 ⊢
    clear hw0
    have HF0 := Lib.hid hf0
    clear hf0
    refine (shown23_calls w0).mono ?_
    rintro e w1 ⟨rfl, hf1⟩
    have HF1 := Lib.hid hf1
    clear hf1
    go_wp2_with fail
    refine (jnew_no most w1 hr hv2).mono ?_
    rintro e w2 ⟨rfl, rfl⟩
    go_wp2_with fail
    refine (pnew_no most w2 hr hv2).mono ?_
    rintro e w3 ⟨rfl, rfl⟩
    go_wp2_with fail
    go_ret
    exact ⟨rfl, HF0.out.trans HF1.out⟩
end Go.Proofs.Ytjannhphmemenaa
