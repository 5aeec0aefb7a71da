/- The law JudgeKeeps. -/
import Derived.Test.YtjannhphmemenaaJudG
import Derived.Deep.DeepCutAuto
namespace Go.Proofs.Ytjannhphmemenaa
set_option maxRecDepth 100000
open Go.RowKit Go.Inc Go.Jud Go.Maps Go.Sort

theorem info_op : (Try.prog.info? 33).map (fun i => (i.zero, i.size, i.bytes)) = some (some (.agg #[.int .i64 0, .int .u64 0, .int .u64 0]), 3, 24) := by kernel_rfl
theorem info_answer : (Try.prog.info? 44).map (fun i => (i.zero, i.size, i.bytes)) = some (some (.agg #[.int .i64 0, .bool false, .int .u64 0, .int .u64 0, .int .i64 0, .slice none 0 0]), 6, 64) := by kernel_rfl
theorem ocells_one (o : OpV) : ∀ v ∈ ocells o, v.oneCell' = true := by
  intro v hv; simp [ocells] at hv; rcases hv with rfl | rfl | rfl <;> rfl
theorem acells_one (x : AnsC) : ∀ v ∈ acells x, v.oneCell' = true := by
  intro v hv; simp [acells] at hv; rcases hv with rfl | rfl | rfl | rfl | rfl | rfl <;> rfl
theorem info_sz_op : (Try.prog.info? 33).map (·.size) = some 3 := by kernel_rfl
theorem info_sz_answer : (Try.prog.info? 44).map (·.size) = some 6 := by kernel_rfl
theorem info_sz_fault : (Try.prog.info? 61).map (·.size) = some 2 := by kernel_rfl
theorem flat_snoc {α : Type} (f : α → List Value) {l : List α} {i : Nat} {x : α} (h : l[i]? = some x) : (l.take (i + 1)).flatMap f = (l.take i).flatMap f ++ f x := by
  rw [List.take_add_one, h]; simp

theorem flat_takeG {α : Type} (f : α → List Value) (sz : Nat) (hsz : ∀ x, (f x).length = sz) (L : List α) {n : Nat} (h : n ≤ L.length) : (L.flatMap f).take (n * sz) = (L.take n).flatMap f := by
  have e : L.flatMap f = (L.take n).flatMap f ++ (L.drop n).flatMap f := by rw [← List.flatMap_append, List.take_append_drop]
  have hl : ((L.take n).flatMap f).length = n * sz := by rw [flat_len f sz hsz, List.length_take, Nat.min_eq_left h]
  rw [e, List.take_append_of_le_length (by omega), List.take_of_length_le (by omega)]
set_option maxHeartbeats 8000000 in
theorem judgeKeeps_calls (most : Int) (xs : List SeenC) (X : Option Addr) (n c : Nat) (z : Int) (w : World) (hr : -9223372036854775808 ≤ most ∧ most ≤ 9223372036854775807) (hn : n = xs.length) (hxs : xs.length ≤ 1073741822)
    (hz : -9223372036854775808 ≤ z ∧ z ≤ 9223372036854775807)
    (hX : RdC w X (xs.flatMap scells)) (hA : ∀ s ∈ xs, AnsOk w s.x) (hU : ∀ s ∈ xs, U s.o.key ∧ U s.o.val) :
    Calls Try.prog 6 #[.int .i64 most, .slice X n c, .int .i64 z] w fun e w' => e = .returned (.bool true) ∧ Fr w w' := by
  subst hn
  have HX := Lib.hid hX
  have HA := Lib.hid hA
  have HU := Lib.hid hU
  clear hX hA hU
  by_cases hv : 1 ≤ most ∧ most ≤ 4294967296
  · obtain ⟨Li, hLi⟩ : ∃ Li : Nat → List Pr, ∀ i, Li i = runs most [] ((xs.map (·.o)).take i) := ⟨_, fun _ => rfl⟩
    have hL0 : Hid (Li 0 = []) := by rw [Hid, hLi]; rfl
    have hLl : Hid (∀ i, (Li i).length ≤ i) := fun i => by rw [hLi]; exact Nat.le_trans (runs_len _ _ _) (by rw [List.length_take]; simp; omega)
    have hLS : Hid (∀ (i : Nat) (s : SeenC), xs[i]? = some s → Li (i + 1) = (does most (Li i) s.o).2) := fun i s h1 => by rw [hLi, hLi]; exact runs_take (by rw [List.getElem?_map, h1]; rfl)
    have hLU : Hid (∀ i, Up (Li i)) := fun i => by rw [hLi]; exact up_runs _ List.Pairwise.nil
    have hLM : Hid (∀ i, ((Li i).length : Int) ≤ most) := fun i => by rw [hLi]; exact most_runs _ (by simp; omega)
    have hMo : Hid (1 ≤ most ∧ most ≤ 4294967296) := hv
    clear hLi
    go_enter Try.func6, Try.ntmps6
    go_wp2_with fail
    refine (shown23_calls w).mono ?_
    rintro e w1 ⟨rfl, hf1⟩
    have HF1 := Lib.hid hf1
    clear hf1
    go_wp2_with fail
    refine (jnew_yes most w1 hv.1 hv.2).mono ?_
    rintro e w2 ⟨g, b, rfl, hg, hb, hJ, hf2⟩
    have HJ2 := Lib.hid hJ
    have HF2 : Hid (Fr w w2) := HF1.out.trans hf2
    have hgb : Hid (w.heap.size ≤ g ∧ w.heap.size ≤ b) := ⟨Nat.le_trans HF1.out.size hg, Nat.le_trans HF1.out.size hb⟩
    have hl2 := hJ.lt
    have hw2 : Hid (w.heap.size ≤ w2.heap.size) := HF2.out.size
    clear hJ hf2 hv hr hg hb
    go_wp2_with fail
    obtain ⟨w3, hw3⟩ : ∃ w3, w3 = ((w2.alloc (.cells #[] 33)).alloc (.cells #[] 44)).alloc (.cells #[] 55) := ⟨_, rfl⟩
    have ho3 : Hid (Own w3 w2.heap.size 33 3 (some ⟨w2.heap.size, 0, none⟩) 0 0 []) := by
      rw [hw3]; exact ((Own.of_blk (n := 0) (xs := []) (Blk.new w2 [] _) (Nat.le_refl _) rfl (by omega)).fr ((Fr.refl _).alloc _)).fr ((Fr.refl _).alloc _)
    have ha3 : Hid (Own w3 w2.heap.size 44 6 (some ⟨w2.heap.size + 1, 0, none⟩) 0 0 []) := by
      have := (Own.of_blk (base := w2.heap.size) (n := 0) (xs := []) (size := 6) (Blk.new (w2.alloc (.cells #[] 33)) [] 44) (by simp) rfl (by omega)).fr ((Fr.refl _).alloc (.cells #[] 55))
      rw [World.size_alloc] at this
      rw [hw3]; exact this
    have hf3 : Hid (Fr w2 w3) := by rw [hw3]; exact ((((Fr.refl w2).alloc _).alloc _).alloc _)
    rw [← hw3]
    clear hw3
    go_loopw [10, 11, 12, 13] (fun v10 v11 v12 vi wr => ∃ (i : Nat) (Ao Aa Aw : Option Addr) (co ca cw : Nat), vi = .int .i64 i ∧ i ≤ xs.length ∧ v10 = .slice Ao i co ∧ v11 = .slice Aa i ca ∧ v12 = .slice Aw (Li i).length cw ∧
      Hid (Own wr w2.heap.size 33 3 Ao i co ((xs.take i).flatMap (fun s => ocells s.o))) ∧ Hid (Own wr w2.heap.size 44 6 Aa i ca ((xs.take i).flatMap (fun s => acells s.x))) ∧ Hid (RdC wr Aw ((Li i).flatMap pcells)) ∧
      Hid (IsJ wr g b most (Li i)) ∧ Hid (∀ k, ablk Ao = some k → ablk Aa ≠ some k) ∧ Hid (∀ k, ablk Aw = some k → w2.heap.size ≤ k ∧ ablk Aa ≠ some k ∧ ablk Ao ≠ some k) ∧ Hid (w2.heap.size ≤ wr.heap.size) ∧ Hid (Fr w wr)) (fun _ _ _ vi _ => xs.length - (intOf vi).toNat)
    case atStart =>
      exact ⟨0, some ⟨w2.heap.size, 0, none⟩, some ⟨w2.heap.size + 1, 0, none⟩, some ⟨w2.heap.size + 2, 0, none⟩, 0, 0, 0, rfl, by omega, rfl, rfl, by rw [hL0.out]; rfl, ho3, ha3, by rw [Hid, hL0.out]; exact .inl rfl, by rw [Hid, hL0.out]; exact HJ2.out.fr hf3.out,
        fun k hk e => by simp [ablk] at hk e; omega, fun k hk => ⟨by simp [ablk] at hk; omega, fun e => by simp [ablk] at hk e; omega, fun e => by simp [ablk] at hk e; omega⟩, hf3.out.size, HF2.out.trans hf3.out⟩
    case round =>
      obtain ⟨i, Ao, Aa, Aw, co, ca, cw, rfl, hi, rfl, rfl, rfl, ho, ha, hw, hJr, hoa, hwd, h2r, hfr⟩ := hrel
      have hLb := hLl.out i
      by_cases hlt : i < xs.length
      · obtain ⟨s, hsi⟩ : ∃ s, xs[i]? = some s := ⟨_, List.getElem?_eq_getElem hlt⟩
        have hOK := Lib.hid (HA.out s (List.mem_of_getElem? hsi))
        have huk := Lib.hid (HU.out s (List.mem_of_getElem? hsi))
        obtain ⟨bx, ox, hX, hcx⟩ := rows_at scells 9 scells_len (by omega) HX.out (by omega)
        subst hX
        have HC : Hid (∀ w', Fr w w' → _) := fun w' hf => seen_at (w := w') (fun j v hv => hf.cell (hcx i s hsi j v hv))
        obtain ⟨z0, z1, z2, z3, z4, z5, z6, z7, z8, z9⟩ := HC.out wr hfr.out
        have hL1 := Lib.hid (hLS.out i s hsi)
        have hS1 : Hid ((xs.take (i + 1)).flatMap (fun s => ocells s.o) = (xs.take i).flatMap (fun s => ocells s.o) ++ ocells s.o) := flat_snoc (fun s : SeenC => ocells s.o) hsi
        have hS2 : Hid ((xs.take (i + 1)).flatMap (fun s => acells s.x) = (xs.take i).flatMap (fun s => acells s.x) ++ acells s.x) := flat_snoc (fun s : SeenC => acells s.x) hsi
        have hzo : (i : Int) < (xs.length : Int) := by omega
        have hzn : decide (i < xs.length) = true := decide_eq_true hlt
        have hll := hOK.out.2
        have HL2 := Lib.hid hl2
        clear hcx hsi hl2
        go_wp2_with fail
        refine wp_region_quiet_tail 11 (by kernel_rfl) (by kernel_rfl) ?_
        try simp only [List.take_succ_cons, List.take_zero, List.drop_succ_cons, List.drop_zero]
        try go_frame
        repeat (quiet_step (fail))
        refine wpQuiet_nil ?_
        intro _ hw'
        obtain ⟨q, rfl⟩ := hw'
        obtain ⟨w5, hw5⟩ : ∃ w5, w5 = wr.drewN q := ⟨_, rfl⟩
        rw [← hw5]
        have hf5 : Hid (Fr wr w5) := by rw [hw5]; exact fr_drewN _ _
        clear hw5 z0 z1 z2 z3 z4 z5 z6 z7 z8
        go_wp2_with fail
        refine (jsee_calls g b most (Li i) s.o s.x.a s.x.B _ s.x.c w5 (hJr.out.fr hf5.out) huk.out.1 huk.out.2 (by omega) rfl hll (hOK.out.1.fr (hfr.out.trans hf5.out)) (fun hne e => by have := hOK.out.1.lt (pcells_ne hne) e; have := hgb.out.2; omega)).mono ?_
        rintro e w6 ⟨RX, cX, rfl, -, hm6, hJ6⟩
        have HF6 : Hid (Fr w w6) := ((Mv.of_fr (S := none0) (hfr.out.trans hf5.out)).trans hm6 (fun k h => .inr (by rw [show k = b from h]; exact hgb.out.2))).fr0
        have HJ6 : Hid (IsJ w6 g b most (Li (i + 1))) := by rw [Hid, hL1.out]; exact hJ6
        have ho6 := Lib.hid ((ho.out.fr hf5.out).mv hm6 (fun k hk e => by have h1 : k = b := e; have := (ho.out.lt k hk).1; have := HL2.out.2; omega))
        have ha6 := Lib.hid ((ha.out.fr hf5.out).mv hm6 (fun k hk e => by have h1 : k = b := e; have := (ha.out.lt k hk).1; have := HL2.out.2; omega))
        have hw6 := Lib.hid ((hw.out.fr hf5.out).mv hm6 (fun k hk e => by have h1 : k = b := e; have := (hwd.out k hk).1; have := HL2.out.2; omega))
        have hLb1 := hLl.out (i + 1)
        have hj26 : Hid (w2.heap.size ≤ w6.heap.size) := Nat.le_trans h2r.out (Nat.le_trans hf5.out.size hm6.size)
        clear hm6 hJ6 ho ha hw hJr
        go_wp2_with fail
        refine (jpairs_calls g b most (Li (i + 1)) w6 HJ6.out (by omega)).mono ?_
        rintro e w7 ⟨Q, cQ, rfl, hoQ, hf7⟩
        have HF7 : Hid (Fr w w7) := HF6.out.trans hf7
        have HJ7 := Lib.hid (HJ6.out.fr hf7)
        have hqa : Hid (∀ k, ablk Q = some k → w6.heap.size ≤ k ∧ k < w7.heap.size) := fun k hk => hoQ.lt k hk
        have hol : Hid (∀ k, ablk Ao = some k → k < w6.heap.size) := fun k hk => (ho6.out.lt k hk).2
        have hal : Hid (∀ k, ablk Aa = some k → k < w6.heap.size) := fun k hk => (ha6.out.lt k hk).2
        have h26 : Hid (w2.heap.size ≤ w7.heap.size) := by have := hj26.out; have := hf7.size; rw [Hid]; omega
        have hqb : Hid (∀ k, ablk Q = some k → w2.heap.size ≤ k) := fun k hk => by have := (hqa.out k hk).1; have := hj26.out; omega
        have ho7 := Lib.hid (ho6.out.fr hf7)
        have ha7 := Lib.hid (ha6.out.fr hf7)
        have hw7 := Lib.hid (hw6.out.fr hf7)
        have hQ7 := Lib.hid hoQ.rd
        have hmost : Hid (((Li (i + 1)).length : Int) ≤ most) := hLM.out (i + 1)
        have hg1 : decide (most < ((Li (i + 1)).length : Int)) = false := decide_eq_false (by have := hmost.out; omega)
        have hg2 : decide (((Li (i + 1)).length : Int) > most) = false := hg1
        obtain ⟨z0, z1, z2, z3, z4, z5, z6, z7, z8, z9⟩ := HC.out w7 HF7.out
        clear hoQ hf7 HJ6 ho6 ha6
        go_upto_region 15 with fail
        go_cut [98] (fun st wx => st = .bool false ∧ Hid (Fr w7 wx))
        case first =>
          by_cases k1 : s.o.kind = 1
          · have e1 : (s.o.kind == 1) = true := by simp [k1]
            have e2 : (s.o.kind != 1) = false := by simp [k1]
            clear k1
            go_wp2_with fail
            go_meet
            exact ⟨rfl, Fr.refl _⟩
          · have e1 : (s.o.kind == 1) = false := by simp [k1]
            have e2 : (s.o.kind != 1) = true := by simp [k1]
            by_cases k2 : s.o.kind = 2
            · have e3 : (s.o.kind == 2) = true := by simp [k2]
              have e4 : (s.o.kind != 2) = false := by simp [k2]
              clear k1 k2
              go_wp2_with fail
              go_meet
              exact ⟨rfl, Fr.refl _⟩
            · have e3 : (s.o.kind == 2) = false := by simp [k2]
              have e4 : (s.o.kind != 2) = true := by simp [k2]
              have hsm : Hid (Li (i + 1) = Li i) := by rw [Hid, hL1.out]; exact same_does s.o k1 k2
              clear k1 k2
              go_wp2_with fail
              refine (lsame_calls Q Aw _ cQ _ cw (Li (i + 1)) (Li i) w7 rfl rfl (by omega) hQ7.out hw7.out).mono ?_
              rintro e w8 ⟨rfl, q, rfl⟩
              have hdd : decide (Li (i + 1) = Li i) = true := decide_eq_true hsm.out
              rw [hdd]
              go_wp2_with fail
              go_meet
              exact ⟨rfl, fr_drewN _ _⟩
        case rest =>
          obtain ⟨rfl, hf8⟩ := hcut
          have HF8 : Hid (Fr w wc) := HF7.out.trans hf8.out
          have ho8 := Lib.hid (ho7.out.fr hf8.out)
          have ha8 := Lib.hid (ha7.out.fr hf8.out)
          have hQ8 := Lib.hid (hQ7.out.fr hf8.out)
          have HJ8 := Lib.hid (HJ7.out.fr hf8.out)
          have h78 := Lib.hid hf8.out.size
          clear z0 z1 z2 z3 z4 z5 z6 z7 z8 z9 hg1 hg2 hmost
          go_wp2_with fail
          go_loopw [15] (fun vk wi => ∃ k : Nat, vk = .int .i64 k ∧ 1 ≤ k ∧ Hid (k ≤ (Li (i + 1)).length ∨ k = 1) ∧ Hid (Fr wc wi)) (fun vk _ => (Li (i + 1)).length - (intOf vk).toNat)
          case atStart => exact ⟨1, rfl, by omega, .inr rfl, Fr.refl _⟩
          case round =>
            obtain ⟨k, rfl, hk1, hk2, hfk⟩ := hrel
            by_cases hkl : k < (Li (i + 1)).length
            · obtain ⟨bq, oq, hq, hcq⟩ := pairs_cells (hQ8.out.fr hfk.out) (by omega)
              subst hq
              obtain ⟨k', rfl⟩ : ∃ k', k = k' + 1 := ⟨k - 1, by omega⟩
              have c1 := (hcq k' (by omega)).1
              have c2 := (hcq (k' + 1) hkl).1
              have hup := up_get (hLU.out (i + 1)) (Nat.lt_succ_self k') (getD_some (show k' < (Li (i + 1)).length by omega)) (getD_some hkl)
              obtain ⟨K1, hK1⟩ : ∃ K : Int, K = ((Li (i + 1)).getD k' (0, 0)).1 := ⟨_, rfl⟩
              obtain ⟨K2, hK2⟩ : ∃ K : Int, K = ((Li (i + 1)).getD (k' + 1) (0, 0)).1 := ⟨_, rfl⟩
              rw [← hK1] at c1 hup
              rw [← hK2] at c2 hup
              have hge : decide (K1 ≥ K2) = false := decide_eq_false (by omega)
              have hge2 : decide (K2 ≤ K1) = false := hge
              have hw1 : IntKind.i64.wrap (k' : Int) = (k' : Int) := wrap_i64_in _ (by omega) (by omega)
              have hkz : (k' : Int) + 1 < ((Li (i + 1)).length : Int) := by omega
              have hkz2 : (k' : Int) < ((Li (i + 1)).length : Int) := by omega
              have hkn : decide (k' + 1 < (Li (i + 1)).length) = true := decide_eq_true hkl
              clear hcq hK1 hK2 hup
              go_wp2_with fail
              go_quiet (fail)
              go_wp2_with fail
              exact ⟨⟨k' + 1 + 1, by simp, by omega, .inl (by omega), hfk.out.trans (fr_drewN _ _)⟩, by simp [intOf]; omega⟩
            · have hkn : decide (k < (Li (i + 1)).length) = false := decide_eq_false hkl
              have HF9 : Hid (Fr w wr) := HF8.out.trans hfk.out
              have ho9 := Lib.hid (ho8.out.fr hfk.out)
              have ha9 := Lib.hid (ha8.out.fr hfk.out)
              have hQ9 := Lib.hid (hQ8.out.fr hfk.out)
              have HJ9 := Lib.hid (HJ8.out.fr hfk.out)
              have h79 : Hid (w7.heap.size ≤ wr.heap.size) := Nat.le_trans h78.out hfk.out.size
              have h29 : Hid (w2.heap.size ≤ wr.heap.size) := Nat.le_trans h26.out h79.out
              obtain ⟨z0, z1, z2, z3, z4, z5, z6, z7, z8, z9⟩ := HC.out wr HF9.out
              go_wp2_with (at_builtin; refine gate ?_)
              refine gate_app rfl _ _ 22 rfl 33 (.agg #[.int .i64 0, .int .u64 0, .int .u64 0]) 3 24 Try.underlying22 info_op rfl (by omega) (by omega) w2.heap.size Ao i co _ (some ⟨wr.heap.size, 0, none⟩) 1 1 (ocells s.o) (by rfl) (by rfl)
                (ho9.out.fr ((Fr.refl wr).alloc _)) rfl (RdC.blk (Blk.new wr _ _)) (ocells_one _) (by omega) (by have := h29.out; simp; omega) ?_
              intro Ao2 co2 w10 hown hgr hat
              have m10 : Mv (fun k => ablk Ao = some k) wr w10 := ((Mv.refl _ wr).alloc _).grown hgr.out (fun k hk => .inl hk)
              have ha10 := Lib.hid (ha9.out.mv m10 (fun k hk e => hoa.out k e hk))
              have hQ10 := Lib.hid (hQ9.out.mv m10 (fun k hk e => by have h1 := (hqa.out k hk).1; have h2 := hol.out k e; omega))
              have HJ10 := Lib.hid (HJ9.out.mv m10 (fun e => by have := (ho9.out.lt g e).1; have := HL2.out; omega) (fun e => by have := (ho9.out.lt b e).1; have := HL2.out; omega))
              have HF10 : Hid (Fr w w10) := (HF9.out.alloc _).grown hgr.out (fun k hk => by have := (ho9.out.lt k hk).1; have := hw2.out; omega)
              have ho10 : Hid (Own w10 w2.heap.size 33 3 Ao2 (i + 1) co2 ((xs.take (i + 1)).flatMap (fun s => ocells s.o))) := by rw [Hid, hS1.out]; exact hown.out
              have hoa10 : Hid (∀ k, ablk Ao2 = some k → ablk Aa ≠ some k) := fun k hk e => by
                rcases hat.out with h | h
                · exact hoa.out k (by rw [← h]; exact hk) e
                · rw [hk, World.size_alloc] at h
                  have h1 := Option.some.inj h
                  have h2 := (ha9.out.lt k e).2
                  omega
              have hqo10 : Hid (∀ k, ablk Q = some k → ablk Ao2 ≠ some k) := fun k hk e => by
                have h3 := hqa.out k hk
                rcases hat.out with h | h
                · have h4 := hol.out k (by rw [← h]; exact e); omega
                · rw [e, World.size_alloc] at h
                  have h1 := Option.some.inj h
                  have h2 := h79.out
                  omega
              have h910 := Lib.hid m10.size
              clear m10 hown hgr hat z0 z1 z2 z3 z4 z5 z6 z7 z8 z9
              obtain ⟨z0, z1, z2, z3, z4, z5, z6, z7, z8, z9⟩ := HC.out w10 HF10.out
              go_wp2_with (at_builtin; refine gate ?_)
              refine gate_app rfl _ _ 23 rfl 44 (.agg #[.int .i64 0, .bool false, .int .u64 0, .int .u64 0, .int .i64 0, .slice none 0 0]) 6 64 Try.underlying23 info_answer rfl (by omega) (by omega) w2.heap.size Aa i ca _ (some ⟨w10.heap.size, 0, none⟩) 1 1 (acells s.x) (by rfl) (by rfl)
                (ha10.out.fr ((Fr.refl w10).alloc _)) rfl (RdC.blk (Blk.new w10 _ _)) (acells_one _) (by omega) (by have := h29.out; have := h910.out; simp; omega) ?_
              intro Aa2 ca2 w11 hown hgr hat
              have m11 : Mv (fun k => ablk Aa = some k) w10 w11 := ((Mv.refl _ w10).alloc _).grown hgr.out (fun k hk => .inl hk)
              have ho11 := Lib.hid (ho10.out.mv m11 (fun k hk e => hoa10.out k hk e))
              have hQ11 := Lib.hid (hQ10.out.mv m11 (fun k hk e => by have h1 := (hqa.out k hk).1; have h2 := hal.out k e; omega))
              have HJ11 := Lib.hid (HJ10.out.mv m11 (fun e => by have := (ha10.out.lt g e).1; have := HL2.out; omega) (fun e => by have := (ha10.out.lt b e).1; have := HL2.out; omega))
              have HF11 : Hid (Fr w w11) := (HF10.out.alloc _).grown hgr.out (fun k hk => by have := (ha10.out.lt k hk).1; have := hw2.out; omega)
              have ha11 : Hid (Own w11 w2.heap.size 44 6 Aa2 (i + 1) ca2 ((xs.take (i + 1)).flatMap (fun s => acells s.x))) := by rw [Hid, hS2.out]; exact hown.out
              have hoa11 : Hid (∀ k, ablk Ao2 = some k → ablk Aa2 ≠ some k) := fun k hk e => by
                rcases hat.out with h | h
                · exact hoa10.out k hk (by rw [← h]; exact e)
                · rw [e, World.size_alloc] at h
                  have h1 := Option.some.inj h
                  have h2 := (ho10.out.lt k hk).2
                  omega
              have hwd11 : Hid (∀ k, ablk Q = some k → w2.heap.size ≤ k ∧ ablk Aa2 ≠ some k ∧ ablk Ao2 ≠ some k) := fun k hk => by
                have h3 := hqa.out k hk
                refine ⟨by have := h26.out; have := hqb.out k hk; omega, fun e => ?_, hqo10.out k hk⟩
                rcases hat.out with h | h
                · have h4 := hal.out k (by rw [← h]; exact e); omega
                · rw [e, World.size_alloc] at h
                  have h1 := Option.some.inj h
                  have h2 := h79.out
                  have h5 := h910.out
                  omega
              have h1011 := Lib.hid m11.size
              clear m11 hown hgr hat z0 z1 z2 z3 z4 z5 z6 z7 z8 z9
              go_wp2_with fail
              exact ⟨⟨i + 1, Ao2, Aa2, Q, co2, ca2, cQ, by simp, by omega, rfl, rfl, rfl, ho11, ha11, hQ11, HJ11, hoa11, hwd11, by have := h29.out; have := h910.out; have := h1011.out; rw [Hid]; omega, HF11⟩, by simp [intOf]; omega⟩
      · obtain rfl : i = xs.length := by omega
        have hzl : decide (xs.length < xs.length) = false := by simp
        go_upto_if 135 with fail
        go_cut [2] (fun s2 wx => ∃ t : Nat, s2 = .int .i64 t ∧ t ≤ 9223372036854775807 ∧ Hid (Fr wr wx))
        case first =>
          by_cases hz0 : z < 0
          · have d1 : decide (z < 0) = true := decide_eq_true hz0
            have wz1 : IntKind.i64.wrap (z + 1) = z + 1 := wrap_i64_in _ (by omega) (by omega)
            have wz2 : IntKind.i64.wrap (-(z + 1)) = -(z + 1) := wrap_i64_in _ (by omega) (by omega)
            have HT : Hid (-(z + 1) = ((-(z + 1)).toNat : Int) ∧ (-(z + 1)).toNat ≤ 9223372036854775807) := by rw [Hid]; omega
            go_wp2_with fail
            go_meet
            exact ⟨(-(z + 1)).toNat, by rw [← HT.out.1], HT.out.2, Fr.refl _⟩
          · have d1 : decide (z < 0) = false := decide_eq_false hz0
            have d2 : 0 ≤ z := by omega
            have HT : Hid (z = (z.toNat : Int) ∧ z.toNat ≤ 9223372036854775807) := by rw [Hid]; omega
            go_wp2_with fail
            go_meet
            exact ⟨z.toNat, by rw [← HT.out.1], HT.out.2, Fr.refl _⟩
        case rest =>
          obtain ⟨t, rfl, htl, hfc⟩ := hcut
          obtain ⟨k, hk⟩ : ∃ k, k = t % (xs.length + 1) := ⟨_, rfl⟩
          have hkl : k ≤ xs.length := by have := Nat.mod_lt t (show 0 < xs.length + 1 by omega); rw [← hk] at this; omega
          have hke : (t : Int) % ((xs.length : Int) + 1) = (k : Int) := by rw [hk]; simp
          have hkm : Int.tmod (t : Int) ((xs.length : Int) + 1) = (k : Int) := by rw [Int.tmod_eq_emod_of_nonneg (by omega)]; exact hke
          have hnz : ¬ ((xs.length : Int) + 1 = 0) := by omega
          have hwn : IntKind.i64.wrap ((xs.length : Int) + 1) = (xs.length : Int) + 1 := wrap_i64_in _ (by omega) (by omega)
          have hwk : IntKind.i64.wrap (k : Int) = (k : Int) := wrap_i64_in _ (by omega) (by omega)
          have hAO : Hid (RdC wc Ao ((xs.map (·.o)).flatMap ocells)) := by
            have := (ho.out.fr hfc.out).rd
            rw [List.take_length] at this
            rw [Hid, List.flatMap_map]; exact this
          have hAA : Hid (RdC wc Aa ((xs.map (·.x)).flatMap acells)) := by
            have := (ha.out.fr hfc.out).rd
            rw [List.take_length] at this
            rw [Hid, List.flatMap_map]; exact this
          have hcO := own_cap ho.out
          have hcA := own_cap ha.out
          have HFc : Hid (Fr w wc) := hfr.out.trans hfc.out
          have HOS : Hid (∀ o ∈ xs.map (·.o), U o.key ∧ U o.val) := fun o ho => by
            obtain ⟨s, hs, rfl⟩ := List.mem_map.1 ho
            exact HU.out s hs
          have HAS : Hid (∀ x ∈ xs.map (·.x), AnsOk w x) := fun x hx => by
            obtain ⟨s, hs, rfl⟩ := List.mem_map.1 hx
            exact HA.out s hs
          have hlen : (xs.map (·.o)).length = ((xs.map (·.x)).map (·.a)).length := by simp
          obtain ⟨R, hbeg, hRk⟩ := fl_beg most (xs.map (·.o)) ((xs.map (·.x)).map (·.a)) k hlen
          have hmin : min k (xs.map (·.o)).length = k := by simp; omega
          rw [hmin] at hRk
          have HR1 : Hid (allR most (xs.map (·.o)) ((xs.map (·.x)).map (·.a)) = (fl most [] (xs.map (·.o)) ((xs.map (·.x)).map (·.a)) 0, 0)) := by rw [Hid, allR, if_pos hMo.out, allF_same hlen]
          have HR2 : Hid (allR most ((xs.map (·.o)).take k) (((xs.map (·.x)).take k).map (·.a)) = (fl most [] ((xs.map (·.o)).take k) (((xs.map (·.x)).map (·.a)).take k) 0, 0)) := by
            rw [Hid, allR, if_pos hMo.out, allF_same (by simp), List.map_take]
          have hfl := fl_len most (xs.map (·.o)) ((xs.map (·.x)).map (·.a)) [] 0
          rw [List.length_map] at hfl
          obtain ⟨FA, hFA⟩ : ∃ FA, FA = fl most [] (xs.map (·.o)) ((xs.map (·.x)).map (·.a)) 0 := ⟨_, rfl⟩
          obtain ⟨FS, hFS⟩ : ∃ FS, FS = fl most [] ((xs.map (·.o)).take k) (((xs.map (·.x)).map (·.a)).take k) 0 := ⟨_, rfl⟩
          rw [← hFA] at HR1 hbeg hfl
          rw [← hFS] at HR2 hbeg
          have HB := Lib.hid hbeg
          have HRK := Lib.hid hRk
          have hsl : FS.length ≤ FA.length := by rw [hbeg]; simp
          clear hFA hFS hbeg hRk hmin hke hk ho ha hw hlen
          go_wp2_with fail
          refine (jall_calls most (xs.map (·.o)) (xs.map (·.x)) Ao Aa _ co _ ca wc (by have := hMo.out; omega) (by simp) (by simp) (by simp; omega) (by simp; omega) hAO.out hAA.out (fun x hx => ⟨(HAS.out x hx).1.fr HFc.out, (HAS.out x hx).2⟩) HOS.out).mono ?_
          rintro e w20 ⟨F, cF, rfl, hoF, hf20⟩
          rw [HR1.out] at hoF ⊢
          have HF20 : Hid (Fr w w20) := HFc.out.trans hf20
          have HOF := Lib.hid hoF
          have hAO2 := Lib.hid (hAO.out.fr hf20)
          have hAA2 := Lib.hid (hAA.out.fr hf20)
          clear hoF hf20 hAO hAA
          obtain ⟨Ao2, hcutO, -, hrO⟩ := run_cut_h (P := Try.prog) 22 33 3 Try.underlying22 info_sz_op Ao xs.length co k (k : Int) rfl (by omega) .i64
          obtain ⟨Aa2, hcutA, -, hrA⟩ := run_cut_h (P := Try.prog) 23 44 6 Try.underlying23 info_sz_answer Aa xs.length ca k (k : Int) rfl (by omega) .i64
          have RO : Hid (∀ w', Fr w20 w' → RdC w' Ao2 (((xs.map (·.o)).take k).flatMap ocells)) := fun w' hf => by
            have := hrO w' _ ((hAO2.out.fr hf).take (k * 3))
            rwa [flat_takeG ocells 3 ocells_len _ (by simp; omega)] at this
          have RA : Hid (∀ w', Fr w20 w' → RdC w' Aa2 (((xs.map (·.x)).take k).flatMap acells)) := fun w' hf => by
            have := hrA w' _ ((hAA2.out.fr hf).take (k * 6))
            rwa [flat_takeG acells 6 acells_len _ (by simp; omega)] at this
          clear hrO hrA
          go_wp2_with fail
          go_region_with (first
            | (go_at_call 8; refine (jall_calls most ((xs.map (·.o)).take k) ((xs.map (·.x)).take k) Ao2 Aa2 k co k ca _ (by have := hMo.out; omega) (by simp; omega) (by simp; omega) (by simp; omega) (by simp; omega) (RO.out _ ((Fr.refl w20).drew)) (RA.out _ ((Fr.refl w20).drew)) (fun x hx => ⟨(HAS.out x (List.mem_of_mem_take hx)).1.fr (HF20.out.drew), (HAS.out x (List.mem_of_mem_take hx)).2⟩) (fun o ho => HOS.out o (List.mem_of_mem_take ho))).mono ?_
               rintro e w21 ⟨S, cS, rfl, hoS, hf21⟩
               rw [HR2.out] at hoS ⊢))
          have HF21 : Hid (Fr w w21) := HF20.out.trans (((Fr.refl w20).drew).trans hf21)
          have HOS2 := Lib.hid hoS
          have HOF2 := Lib.hid (HOF.out.fr (((Fr.refl w20).drew).trans hf21))
          clear hoS hf21 HOF
          obtain ⟨F2, hcutF, -, hrF⟩ := run_cut_h (P := Try.prog) 25 61 2 Try.underlying25 info_sz_fault F FA.length cF FS.length (FS.length : Int) rfl (by have := own_cap HOF2.out; omega) .i64
          have RF : Hid (RdC w21 F2 (FS.flatMap fcells)) := by
            have := hrF w21 _ (HOF2.out.rd.take (FS.length * 2))
            rwa [flat_takeG fcells 2 fcells_len _ hsl, show FA.take FS.length = FS by rw [HB.out]; simp] at this
          have hg1 : decide ((FS.length : Int) > (FA.length : Int)) = false := decide_eq_false (by omega)
          have hg2 : decide ((FA.length : Int) < (FS.length : Int)) = false := hg1
          have hg3 : decide (FA.length < FS.length) = false := decide_eq_false (by omega)
          clear hrF
          go_wp2_with fail
          refine (lfaults_calls S F2 _ cS _ cF FS FS w21 rfl rfl (by omega) HOS2.out.rd RF.out).mono ?_
          rintro e w22 ⟨rfl, q, hw22⟩
          have hdd : decide (FS = FS) = true := decide_eq_true rfl
          rw [hdd]
          have hf22 : Hid (Fr w21 w22) := by rw [hw22]; exact fr_drewN _ _
          clear hw22 hdd hg1 hg2 hg3
          by_cases heq : FS.length = FA.length
          · have q1 : ((FS.length : Int) == (FA.length : Int)) = true := by simp [heq]
            clear heq
            go_wp2_with fail
            go_ret
            exact ⟨rfl, HF21.out.trans hf22.out⟩
          · have q1 : ((FS.length : Int) == (FA.length : Int)) = false := beq_eq_false_iff_ne.2 (by omega)
            have hslt : FS.length < FA.length := by omega
            obtain ⟨bF, oF, hFb, hcF⟩ := faults_cells (HOF2.out.rd.fr hf22.out) (by omega)
            subst hFb
            have hc0 := (hcF FS.length hslt).1
            obtain ⟨p, hp⟩ : ∃ p : Pr, p = FA.getD FS.length (0, 0) := ⟨_, rfl⟩
            rw [← hp] at hc0
            have hpR : p ∈ R := by
              have h1 : FA[FS.length]? = some p := by rw [hp]; simp [hslt]
              rw [HB.out, List.getElem?_append_right (Nat.le_refl _)] at h1
              exact List.mem_of_getElem? h1
            have hpk : decide (p.1 ≥ (k : Int)) = true := decide_eq_true (HRK.out p hpR)
            have hpk2 : decide ((k : Int) ≤ p.1) = true := hpk
            have hsz : (FS.length : Int) < (FA.length : Int) := by omega
            clear hcF hp heq hpR
            go_wp2_with fail
            go_ret
            exact ⟨rfl, HF21.out.trans hf22.out⟩
  · have hv2 : most < 1 ∨ 4294967296 < most := by omega
    clear hv
    rcases hv2 with hv2 | hv2
    · have d1 : decide (most < 1) = true := decide_eq_true hv2
      go_enter Try.func6, Try.ntmps6
      go_wp2_with fail
      refine (shown23_calls w).mono ?_
      rintro e w1 ⟨rfl, hf1⟩
      have HF1 := Lib.hid hf1
      clear hf1
      go_wp2_with fail
      refine (jnew_no most w1 hr (.inl hv2)).mono ?_
      rintro e w2 ⟨rfl, rfl⟩
      go_wp2_with fail
      go_ret
      exact ⟨rfl, HF1.out⟩
    · have d1 : decide (most < 1) = false := decide_eq_false (by omega)
      have d2 : decide (most > 4294967296) = true := decide_eq_true (by omega)
      have d3 : decide (4294967296 < most) = true := d2
      go_enter Try.func6, Try.ntmps6
      go_wp2_with fail
      refine (shown23_calls w).mono ?_
      rintro e w1 ⟨rfl, hf1⟩
      have HF1 := Lib.hid hf1
      clear hf1
      go_wp2_with fail
      refine (jnew_no most w1 hr (.inr hv2)).mono ?_
      rintro e w2 ⟨rfl, rfl⟩
      go_wp2_with fail
      go_ret
      exact ⟨rfl, HF1.out⟩
end Go.Proofs.Ytjannhphmemenaa
