/- Parts of this proof, one behind the other: RgP. -/
import Derived.Test.YthjimnmgbcckjaaGreatQQ
import Derived.Test.YthjimnmgbcckjaaGreatQR
import Derived.Test.YthjimnmgbcckjaaGreatQO
namespace Go.Proofs.YthjimnmgbcckjaaGreat
set_option maxRecDepth 100000
open Go.RowKit Go.Inc Go.Run
attribute [local go_sem] run_store_float

theorem rput_made (A : Option Addr) (n c : Nat) (bs : List UInt8) (x : Nat) (w : World) (hn : n = bs.length) (hb : bs.length ≤ 140737488355320) (h : RdC w A (bs.map bv)) :
    Calls Tryz.prog 33 #[.slice A n c, .int .u64 (x : Nat)] w (Made w w.heap.size (bs ++ be8 x)) := by
  refine (rput_calls A n c bs x w hn hb h).mono ?_
  rintro e w' ⟨A', c', rfl, ho, hf⟩
  have hl : (bs ++ be8 x).length = bs.length + 8 := by rw [List.length_append, be8_length]
  exact ⟨A', c', by rw [hl], by rw [hl]; exact ho, hf⟩

set_option maxHeartbeats 8000000 in
theorem r12Entries_calls (A : Option Addr) (n c : Nat) (bs : List UInt8) (Al : Option Addr) (nl cl : Nat) (E : List Ent) (w : World) (hE : ∀ e ∈ E, EntOk e) (hn : n = bs.length) (hnl : nl = E.length) (hel : nl ≤ 268435456) (hb : bs.length + (encEs E).length ≤ 70368744177664) (h : RdC w A (bs.map bv)) (hr : RdC w Al (E.flatMap encells)) :
    Calls Tryz.prog 34 #[.slice A n c, .slice Al nl cl] w (Made w w.heap.size (bs ++ encEs E)) := by
  have PUT := Lib.hid rput_made
  have hlE : (encEs E).length = 8 + (E.flatMap encE).length := by unfold encEs; rw [List.length_append, be8_length]
  obtain ⟨H2, hH2⟩ : ∃ H2, H2 = bs ++ be8 nl := ⟨_, rfl⟩
  have hall : bs ++ encEs E = H2 ++ E.flatMap encE := by rw [hH2]; unfold encEs; rw [hnl, List.append_assoc]
  have hl2 : H2.length + (E.flatMap encE).length ≤ 70368744177664 := by rw [hH2, List.length_append, be8_length]; omega
  have P1 := PUT.out A n c bs nl w hn (by omega) h
  rw [← hH2] at P1
  rw [hall]
  have P1 := Lib.hid P1
  have HL2 := Lib.hid hl2
  have HN := Lib.hid hnl
  have HR := Lib.hid hr
  have HEM := Lib.hid hE
  have wn : IntKind.u64.wrap (nl : Int) = (nl : Int) := wrap_u64_in _ (by omega) (by omega)
  clear h hn hnl hr hb hH2 hall hl2 hlE hE
  go_enter Tryz.func34, Tryz.ntmps34
  go_wp2_with fail
  refine P1.out.mono ?_
  rintro _ w2 ⟨A2, c2, rfl, ho, hf⟩
  have HO := Lib.hid ho
  have HF2 := Lib.hid hf
  clear ho hf P1
  go_wp2_with fail
  go_loopw [0, 5] (fun v0 v5 wr => ∃ (i : Nat) (A : Option Addr) (c : Nat) (bs : List UInt8), v0 = .slice A bs.length c ∧ v5 = .int .i64 i ∧ i ≤ nl ∧ Hid (bs = H2 ++ (E.take i).flatMap encE) ∧ Hid (Own wr w.heap.size 5 1 A bs.length c (bs.map bv)) ∧ Hid (Fr w wr)) (fun _ v5 _ => nl - (intOf v5).toNat)
  case atStart => exact ⟨0, A2, c2, H2, rfl, rfl, by omega, by rw [Hid]; simp, HO.out, HF2.out⟩
  case round =>
    obtain ⟨i, A, c, bs, rfl, rfl, hin, hbs, hown, hf⟩ := hrel
    rcases Nat.lt_or_ge i nl with hlt | hge
    · have d1 : decide (i < nl) = true := decide_eq_true hlt
      have d2 : (i : Int) < (nl : Int) := by omega
      have wi : IntKind.i64.wrap ((i : Int) + 1) = (i : Int) + 1 := wrap_i64_in _ (by omega) (by omega)
      have hiE : i < E.length := by have := HN.out; omega
      have HCC : Hid (∃ bb off, Al = some ⟨bb, off, none⟩ ∧ ∀ w', Fr w w' → w'.cell? ⟨bb, off + i * 3, none⟩ = some (.int .u64 E[i].key) ∧ w'.cell? ⟨bb, off + i * 3 + 1, none⟩ = some (.int .u64 E[i].val) ∧ w'.cell? ⟨bb, off + i * 3 + 2, none⟩ = some (.bool E[i].gone)) := by
        obtain ⟨bb, off, hA, hcc⟩ := rdc_ent HR.out (by omega)
        obtain ⟨q0, q1, q2⟩ := hcc i hiE
        exact ⟨bb, off, hA, fun w' h => ⟨h.cell q0, h.cell q1, h.cell q2⟩⟩
      obtain ⟨bb, off, hA, hcc⟩ := HCC.out
      obtain ⟨s, hs⟩ : ∃ s, E[i] = s := ⟨_, rfl⟩
      rw [hs] at hcc
      have hsi : E[i]? = some s := by rw [List.getElem?_eq_getElem hiE, hs]
      have HSI := Lib.hid hsi
      obtain ⟨⟨m1, m2⟩, m3, m4⟩ := HEM.out s (List.mem_of_getElem? hsi)
      have hLen : bs.length + (encE s).length ≤ 70368744177664 := by
        have h1 := flat_one_le encE hsi
        have := HL2.out
        rw [hbs.out, List.length_append]
        omega
      obtain ⟨key, val, gone⟩ := s
      obtain ⟨k, hk⟩ := Int.eq_ofNat_of_zero_le m1
      obtain ⟨v, hv⟩ := Int.eq_ofNat_of_zero_le m3
      have hk' : key = (k : Int) := hk
      have hv' : val = (v : Int) := hv
      subst hk'; subst hv'
      dsimp only at hcc
      have HC := Lib.hid hcc
      subst hA
      obtain ⟨y0, y1, y2⟩ := HC.out wr hf.out
      have HLN : Hid (bs.length + (encE ⟨k, v, gone⟩).length ≤ 70368744177664) := hLen
      have P2 := PUT.out A bs.length c bs k wr rfl (by omega) hown.out.rd
      obtain ⟨bs1, hb1⟩ : ∃ bs1, bs1 = bs ++ be8 k := ⟨_, rfl⟩
      rw [← hb1] at P2
      have P2 := Lib.hid P2
      have HB1 := Lib.hid hb1
      have HW : Hid (w.heap.size ≤ wr.heap.size) := hf.out.size
      clear hcc hs hsi hLen HCC m1 m2 m3 m4 hk hv hb1
      go_wp2_with fail
      refine P2.out.mono ?_
      rintro _ w4 ⟨A4, c4, rfl, ho4, hf4⟩
      have HO4 : Hid (Own w4 w.heap.size 5 1 A4 bs1.length c4 (bs1.map bv)) := ho4.mono HW.out
      have HF4 : Hid (Fr w w4) := hf.out.trans hf4
      clear ho4 hf4 P2 y0 y1 y2
      obtain ⟨y0, y1, y2⟩ := HC.out w4 HF4.out
      cases gone with
      | true =>
        have HL9 : Hid (bs1.length + 1 ≤ 70368744177664) := by have := HLN.out; rw [encE_len] at this; rw [Hid, HB1.out, List.length_append, be8_length]; simp at this; omega
        have HEN : Hid (bs1 ++ [1] = H2 ++ (E.take (i + 1)).flatMap encE) := by rw [Hid, flat_snoc encE HSI.out, HB1.out, hbs.out]; simp [encE, List.append_assoc]
        go_wp2_with (at_builtin; refine gate ?_)
        refine gate_app rfl _ _ 31 rfl 5 (.int .u8 0) 1 1 Tryz.underlying31 info_u8 rfl (by omega) (by omega) w.heap.size A4 bs1.length c4 (bs1.map bv) (some ⟨w4.heap.size, 0, none⟩) 1 1 [bv 1] (by rfl) (by rfl)
          (HO4.out.fr ((Fr.refl w4).alloc _)) rfl (RdC.blk (Blk.new w4 _ _)) (bv_one [1]) (by have := HL9.out; omega) (by have := HF4.out.size; simp; omega) ?_
        intro A6 c6 w9 hown6 hgr6 hat6
        have HF9 : Hid (Fr w w9) := (HF4.out.alloc _).grown hgr6.out (fun k hk => (HO4.out.lt k hk).1)
        obtain ⟨bs2, hb2⟩ : ∃ bs2, bs2 = bs1 ++ [1] := ⟨_, rfl⟩
        have HB2 : Hid (bs1.length + 1 = bs2.length) := by rw [Hid, hb2]; simp
        have HO9 : Hid (Own w9 w.heap.size 5 1 A6 bs2.length c6 (bs2.map bv)) := by rw [Hid, ← HB2.out, hb2]; simpa using hown6.out
        rw [← hb2] at HEN
        rw [HB2.out]
        clear hown6 hgr6 hat6 hb2 y0 y1 y2
        go_wp2_with fail
        exact ⟨⟨i + 1, A6, c6, bs2, rfl, rfl, by omega, HEN.out, HO9.out, HF9.out⟩, by simp only [intOf]; omega⟩
      | false =>
        have HL9 : Hid (bs1.length + 9 ≤ 70368744177664) := by have := HLN.out; rw [encE_len] at this; rw [Hid, HB1.out, List.length_append, be8_length]; simp at this; omega
        have HEN : Hid ((bs1 ++ [0]) ++ be8 v = H2 ++ (E.take (i + 1)).flatMap encE) := by rw [Hid, flat_snoc encE HSI.out, HB1.out, hbs.out]; simp [encE, List.append_assoc]
        go_wp2_with (at_builtin; refine gate ?_)
        refine gate_app rfl _ _ 31 rfl 5 (.int .u8 0) 1 1 Tryz.underlying31 info_u8 rfl (by omega) (by omega) w.heap.size A4 bs1.length c4 (bs1.map bv) (some ⟨w4.heap.size, 0, none⟩) 1 1 [bv 0] (by rfl) (by rfl)
          (HO4.out.fr ((Fr.refl w4).alloc _)) rfl (RdC.blk (Blk.new w4 _ _)) (bv_one [0]) (by have := HL9.out; omega) (by have := HF4.out.size; simp; omega) ?_
        intro A6 c6 w9 hown6 hgr6 hat6
        have HF9 : Hid (Fr w w9) := (HF4.out.alloc _).grown hgr6.out (fun k hk => (HO4.out.lt k hk).1)
        obtain ⟨bs2, hb2⟩ : ∃ bs2, bs2 = bs1 ++ [0] := ⟨_, rfl⟩
        have HB2 : Hid (bs1.length + 1 = bs2.length) := by rw [Hid, hb2]; simp
        have HO9 : Hid (Own w9 w.heap.size 5 1 A6 bs2.length c6 (bs2.map bv)) := by rw [Hid, ← HB2.out, hb2]; simpa using hown6.out
        rw [← hb2] at HEN
        rw [HB2.out]
        have P5 := PUT.out A6 bs2.length c6 bs2 v w9 rfl (by have := HL9.out; have := HB2.out; omega) HO9.out.rd
        obtain ⟨bs3, hb3⟩ : ∃ bs3, bs3 = bs2 ++ be8 v := ⟨_, rfl⟩
        rw [← hb3] at P5 HEN
        have P5 := Lib.hid P5
        clear hown6 hgr6 hat6 hb2 hb3 y0 y1 y2
        obtain ⟨y0, y1, y2⟩ := HC.out w9 HF9.out
        go_wp2_with fail
        refine P5.out.mono ?_
        rintro _ w10 ⟨A10, c10, rfl, ho10, hf10⟩
        have HO10 : Hid (Own w10 w.heap.size 5 1 A10 bs3.length c10 (bs3.map bv)) := ho10.mono HF9.out.size
        have HF10 : Hid (Fr w w10) := HF9.out.trans hf10
        clear ho10 hf10 y0 y1 y2
        go_wp2_with fail
        exact ⟨⟨i + 1, A10, c10, bs3, rfl, rfl, by omega, HEN.out, HO10.out, HF10.out⟩, by simp only [intOf]; omega⟩
    · obtain rfl : i = nl := by omega
      have d1 : decide (i < i) = false := by simp
      have HBS : Hid (bs = H2 ++ E.flatMap encE) := by rw [Hid, hbs.out, List.take_of_length_le (by rw [HN.out]; exact Nat.le_refl _)]
      go_wp2_with fail
      go_ret
      exact ⟨A, c, by rw [← HBS.out]; rfl, by rw [← HBS.out]; exact hown.out, hf.out⟩

set_option maxHeartbeats 16000000 in
theorem r12Put_calls (x base : Nat) (eps : Nat) (E : List Ent) (Ss : List (List Seg)) (w : World) (h : IsRef w x base (eps : Nat) E Ss) (hc : Codes eps E Ss) (hl : E.length ≤ 268435456) (hN : Ss.length ≤ 268435456) (hsz : (encB incW eps E Ss).length ≤ 70368744177664) :
    Calls Tryz.prog 12 #[.pointer (some ⟨x, 0, none⟩)] w (Made w w.heap.size (encB incW eps E Ss)) := by
  have heps : eps ≤ 64 := hc.eps
  obtain ⟨Ae, ce, Al, cl, vs, hbx, hx, hoe, hol, hrows⟩ := h
  have HCX : Hid (∀ w', Fr w w' → w'.cell? ⟨x, 0, none⟩ = some (.slice Ae E.length ce) ∧ w'.cell? ⟨x, 1, none⟩ = some (.int .i64 (eps : Nat)) ∧ w'.cell? ⟨x, 2, none⟩ = some (.slice Al Ss.length cl)) := fun w' hf => cells3 (hf.blk hx)
  have PUT := Lib.hid rput_made
  have htb := tobits_run
  obtain ⟨H1, hH1⟩ : ∃ H1, H1 = incW ++ be8 eps := ⟨_, rfl⟩
  obtain ⟨H2, hH2⟩ : ∃ H2, H2 = H1 ++ encEs E := ⟨_, rfl⟩
  obtain ⟨H3, hH3⟩ : ∃ H3, H3 = H2 ++ be8 Ss.length := ⟨_, rfl⟩
  have hall : encB incW eps E Ss = H3 ++ Ss.flatMap encRow := by rw [hH3, hH2, hH1]; unfold encB encLs; simp only [List.append_assoc]
  obtain ⟨B, hB⟩ : ∃ B, encB incW eps E Ss = B := ⟨_, rfl⟩
  rw [hB] at hall hsz ⊢
  have hl1 : H1.length = 12 := by rw [hH1]; rfl
  have hl2 : H2.length = 12 + (encEs E).length := by rw [hH2, List.length_append, hl1]
  have hl3 : H3.length = 20 + (encEs E).length := by rw [hH3, List.length_append, hl2, be8_length]; omega
  have hlB : B.length = H3.length + (Ss.flatMap encRow).length := by rw [hall, List.length_append]
  have ENT : Hid (∀ w' A c, Fr w w' → RdC w' A (H1.map bv) → Calls Tryz.prog 34 #[.slice A H1.length c, .slice Ae E.length ce] w' (Made w' w'.heap.size H2)) := fun w' A c hf hr => by
    rw [hH2]; exact r12Entries_calls A H1.length c H1 Ae E.length ce E w' (fun e he => (hc.ents e he).1) rfl rfl hl (by omega) hr (hoe.rd.fr hf)
  obtain ⟨n, hn⟩ : ∃ n, E.length = n := ⟨_, rfl⟩
  obtain ⟨N, hNN⟩ : ∃ N, Ss.length = N := ⟨_, rfl⟩
  rw [hn] at HCX ENT
  rw [hNN] at hN hH3 HCX
  have HL3 := Lib.hid hl3
  have HL2 := Lib.hid hl2
  have HLB := Lib.hid hlB
  have HSZ := Lib.hid hsz
  have HNN := Lib.hid hNN
  have HH1 := Lib.hid hH1
  have HH3 := Lib.hid hH3
  have HALL := Lib.hid hall
  have HLM := Lib.hid (levC_mem hc.levs)
  have HVS : Hid (RdC w Al vs) := hol.rd
  have HROWS : Hid (RowsR w vs Ss) := hrows.toR
  have we : IntKind.u64.wrap (eps : Int) = (eps : Int) := wrap_u64_in _ (by omega) (by omega)
  have wN : IntKind.u64.wrap (N : Int) = (N : Int) := wrap_u64_in _ (by omega) (by omega)
  have hcv := Lib.run_convert_bytes_const (P := Tryz.prog) w 31 5 #[.int .u8 73, .int .u8 78, .int .u8 67, .int .u8 49] 4 4 Tryz.underlying31 Tryz.underlying5
  obtain ⟨w1, hw1⟩ : ∃ w1, w1 = w.alloc (.cells #[.int .u8 73, .int .u8 78, .int .u8 67, .int .u8 49] 5 (4, 5)) := ⟨_, rfl⟩
  have HF1 : Hid (Fr w w1) := by rw [hw1]; exact (Fr.refl w).alloc _
  have HRD1 : Hid (RdC w1 (some ⟨w.heap.size, 0, none⟩) (incW.map bv)) := by rw [hw1]; exact RdC.of_blk (heap_alloc_new w (.cells #[.int .u8 73, .int .u8 78, .int .u8 67, .int .u8 49] 5 (4, 5)))
  rw [show (.cells #[.int .u8 73, .int .u8 78, .int .u8 67, .int .u8 49] 5 ((#[.int .u8 73, .int .u8 78, .int .u8 67, .int .u8 49] : Array Value).size, (#[.int .u8 73, .int .u8 78, .int .u8 67, .int .u8 49] : Array Value).size + 1) : Obj) = .cells #[.int .u8 73, .int .u8 78, .int .u8 67, .int .u8 49] 5 (4, 5) from rfl, ← hw1] at hcv
  obtain ⟨x0, x1, x2⟩ := HCX.out w1 HF1.out
  have P1 := PUT.out (some ⟨w.heap.size, 0, none⟩) 4 4 incW eps w1 rfl (by decide) HRD1.out
  rw [← HH1.out] at P1
  have P1 := Lib.hid P1
  clear hc hB hn hNN hH1 hH2 hH3 hall hl1 hl2 hl3 hlB hsz hx hbx hoe hol hrows hw1
  go_enter Tryz.func12, Tryz.ntmps12
  go_wp2_with fail
  refine P1.out.mono ?_
  rintro _ w3 ⟨A3, c3, rfl, ho3, hf3⟩
  have HO3 := Lib.hid ho3
  have HF3 : Hid (Fr w w3) := HF1.out.trans hf3
  clear ho3 hf3 P1 HRD1 x0 x1 x2 hcv
  obtain ⟨x0, x1, x2⟩ := HCX.out w3 HF3.out
  go_wp2_with fail
  refine (ENT.out w3 A3 c3 HF3.out HO3.out.rd).mono ?_
  rintro _ w4 ⟨A4, c4, rfl, ho4, hf4⟩
  have HO4 := Lib.hid ho4
  have HF4 : Hid (Fr w w4) := HF3.out.trans hf4
  clear ho4 hf4 HO3 x0 x1 x2
  obtain ⟨x0, x1, x2⟩ := HCX.out w4 HF4.out
  go_wp2_with fail
  have P2 := PUT.out A4 H2.length c4 H2 N w4 rfl (by have := HL3.out; have := HLB.out; have := HSZ.out; have := HL2.out; omega) HO4.out.rd
  rw [← HH3.out] at P2
  refine P2.mono ?_
  rintro _ w9 ⟨A9, c9, rfl, ho9, hf9⟩
  have HO9 := Lib.hid ho9
  have HF9 : Hid (Fr w w9) := HF4.out.trans hf9
  have HFW8 : Hid (w.heap.size ≤ w4.heap.size) := HF4.out.size
  clear ho9 hf9 P2 HO4 x0 x1 x2 HF3 HF4
  go_wp2_with fail
  go_loopw [3, 4] (fun v3 v4 wr => ∃ (j : Nat) (A : Option Addr) (c : Nat) (bs : List UInt8), v3 = .slice A bs.length c ∧ v4 = .int .i64 j ∧ j ≤ N ∧ Hid (bs = H3 ++ (Ss.take j).flatMap encRow) ∧ Hid (Own wr w.heap.size 5 1 A bs.length c (bs.map bv)) ∧ Hid (Fr w wr)) (fun _ v4 _ => N - (intOf v4).toNat)
  case atStart => exact ⟨0, A9, c9, H3, rfl, rfl, by omega, by rw [Hid]; simp, HO9.out.mono HFW8.out, HF9.out⟩
  case round =>
    obtain ⟨j, A, c, bs, rfl, rfl, hjn, hbs, hown, hf⟩ := hrel
    obtain ⟨x0, x1, x2⟩ := HCX.out wr hf.out
    rcases Nat.lt_or_ge j N with hlt | hge
    · have d1 : decide (j < N) = true := decide_eq_true hlt
      have d2 : (j : Int) < (N : Int) := by omega
      have wi : IntKind.i64.wrap ((j : Int) + 1) = (j : Int) + 1 := wrap_i64_in _ (by omega) (by omega)
      have hjS : j < Ss.length := by have := HNN.out; omega
      obtain ⟨S, hS⟩ : ∃ S, Ss[j] = S := ⟨_, rfl⟩
      have hSi : Ss[j]? = some S := by rw [List.getElem?_eq_getElem hjS, hS]
      obtain ⟨As, cs, hvs, hcs, hrs0⟩ := HROWS.out.at hSi
      obtain ⟨bl, ol, hAl, hcl⟩ := HVS.out.at (by have := HROWS.out.len; omega)
      have y0 := hcl j _ hvs
      obtain ⟨M, hM⟩ : ∃ M, S.length = M := ⟨_, rfl⟩
      rw [hM] at y0 hcs
      have HY0 : Hid (∀ w', Fr w w' → w'.cell? ⟨bl, ol + j, none⟩ = some (.slice As M cs)) := fun w' h => h.cell y0
      subst hAl
      have HM := Lib.hid hM
      have HSI := Lib.hid hSi
      have hMl : M ≤ 4294967296 := by rw [← hM]; exact (HLM.out S (List.mem_of_getElem? hSi)).1
      have HSM := Lib.hid (HLM.out S (List.mem_of_getElem? hSi)).2
      have HRS := Lib.hid hrs0
      have wM : IntKind.u64.wrap (M : Int) = (M : Int) := wrap_u64_in _ (by omega) (by omega)
      have hLen : bs.length + (encRow S).length ≤ 70368744177664 := by
        have h1 := flat_one_le encRow hSi
        have := HLB.out; have := HSZ.out
        rw [hbs.out, List.length_append]
        omega
      have HLN : Hid (bs.length + 8 + (S.flatMap encS).length ≤ 70368744177664) := by
        rw [Hid]
        have h9 : (encRow S).length = 8 + (S.flatMap encS).length := by unfold encRow; rw [List.length_append, be8_length]
        omega
      obtain ⟨bs1, hb1⟩ : ∃ bs1, bs1 = bs ++ be8 M := ⟨_, rfl⟩
      have P4 := PUT.out A bs.length c bs M wr rfl (by have := HLN.out; omega) hown.out.rd
      rw [← hb1] at P4
      have HB1 := Lib.hid hb1
      have P4 := Lib.hid P4
      have HFW9 : Hid (w.heap.size ≤ wr.heap.size) := hf.out.size
      clear hvs hrs0 hS hSi hM hLen hb1 hcl y0
      have y0 := HY0.out wr hf.out
      go_wp2_with fail
      refine P4.out.mono ?_
      rintro _ w10 ⟨A10, c10, rfl, ho10, hf10⟩
      have HO10 : Hid (Own w10 w.heap.size 5 1 A10 bs1.length c10 (bs1.map bv)) := ho10.mono HFW9.out
      have HF10 : Hid (Fr w w10) := hf.out.trans hf10
      clear ho10 hf10 P4 x0 x1 x2 y0
      go_wp2_with fail
      go_loopw [3, 5] (fun v3 v5 wr => ∃ (k : Nat) (A : Option Addr) (c : Nat) (bs : List UInt8), v3 = .slice A bs.length c ∧ v5 = .int .i64 k ∧ k ≤ M ∧ Hid (bs = bs1 ++ (S.take k).flatMap encS) ∧ Hid (Own wr w.heap.size 5 1 A bs.length c (bs.map bv)) ∧ Hid (Fr w wr)) (fun _ v5 _ => M - (intOf v5).toNat)
      case atStart => exact ⟨0, A10, c10, bs1, rfl, rfl, by omega, by rw [Hid]; simp, HO10.out, HF10.out⟩
      case round =>
        obtain ⟨k, A, c, bs2, rfl, rfl, hkn, hbs2, hown2, hf2⟩ := hrel
        obtain ⟨wo, hwo⟩ : ∃ wo, wo = wr := ⟨_, rfl⟩
        subst hwo
        obtain ⟨x0, x1, x2⟩ := HCX.out wo hf2.out
        have x9 := HY0.out wo hf2.out
        rcases Nat.lt_or_ge k M with hlt2 | hge2
        · have d3 : decide (k < M) = true := decide_eq_true hlt2
          have d4 : (k : Int) < (M : Int) := by omega
          have wi2 : IntKind.i64.wrap ((k : Int) + 1) = (k : Int) + 1 := wrap_i64_in _ (by omega) (by omega)
          have hkS : k < S.length := by have := HM.out; omega
          obtain ⟨bb, off, hA, hcc⟩ := rdc_seg (HRS.out.fr hf2.out) (by omega)
          obtain ⟨y0, y1, y2, y3, y4⟩ := hcc k hkS
          obtain ⟨s, hs⟩ : ∃ s, S[k] = s := ⟨_, rfl⟩
          rw [hs] at y0 y1 y2 y3 y4
          have hsi : S[k]? = some s := by rw [List.getElem?_eq_getElem hkS, hs]
          have hmem := HSM.out s (List.mem_of_getElem? hsi)
          obtain ⟨first, slope, inter, frm, upto⟩ := s
          obtain ⟨⟨m1, m2⟩, m3, m4⟩ := hmem
          obtain ⟨t, ht⟩ := Int.eq_ofNat_of_zero_le m1
          have ht' : upto = (t : Int) := ht
          subst ht'
          have m2' : t ≤ 4294967296 := by have : (t : Int) ≤ 4294967296 := m2; omega
          have wt : IntKind.u64.wrap (t : Int) = (t : Int) := wrap_u64_in _ (by omega) (by omega)
          dsimp only at y0 y1 y2 y3 y4 m3 m4
          subst hA
          have hba := heap_alloc_new wo (.cells #[.int .u64 first, .float .f64 slope, .float .f64 inter, .int .i64 frm, .int .i64 (t : Nat)] 65)
          obtain ⟨z0, z1, z2, z3, z4⟩ := cells5 hba
          have HLK : Hid (bs2.length + 24 ≤ 70368744177664) := by
            have h1 := flat_one_le encS hsi
            rw [encS_len] at h1
            have := HLN.out
            rw [Hid, hbs2.out, List.length_append, HB1.out, List.length_append, be8_length]
            omega
          have HEN : Hid (((bs2 ++ be8 t) ++ be8 slope) ++ be8 inter = bs1 ++ (S.take (k + 1)).flatMap encS) := by
            rw [Hid, flat_snoc encS hsi, hbs2.out]
            simp [encS, List.append_assoc]
          obtain ⟨w11, hw11⟩ : ∃ w11, w11 = wo.alloc (.cells #[.int .u64 first, .float .f64 slope, .float .f64 inter, .int .i64 frm, .int .i64 (t : Nat)] 65) := ⟨_, rfl⟩
          have HF11 : Hid (Fr w w11) := by rw [hw11]; exact hf2.out.alloc _
          have HOW11 : Hid (Own w11 w.heap.size 5 1 A bs2.length c (bs2.map bv)) := by rw [hw11]; exact hown2.out.fr ((Fr.refl _).alloc _)
          obtain ⟨gs, hgs⟩ : ∃ gs, gs = wo.heap.size := ⟨_, rfl⟩
          have HCE : Hid (∀ w', Fr w11 w' → w'.cell? ⟨gs, 1, none⟩ = some (.float .f64 slope) ∧ w'.cell? ⟨gs, 2, none⟩ = some (.float .f64 inter) ∧ w'.cell? ⟨gs, 4, none⟩ = some (.int .i64 (t : Nat))) := fun w' h => by rw [hgs]; rw [hw11] at h; exact ⟨h.cell z1, h.cell z2, h.cell z4⟩
          have Q1 := PUT.out A bs2.length c bs2 t w11 rfl (by have := HLK.out; omega) HOW11.out.rd
          obtain ⟨bs3, hb3⟩ : ∃ bs3, bs3 = bs2 ++ be8 t := ⟨_, rfl⟩
          rw [← hb3] at Q1 HEN
          have hl3' : bs3.length ≤ 70368744177664 := by rw [hb3, List.length_append, be8_length]; have := HLK.out; omega
          have Q2 : Hid (∀ w' A c, RdC w' A (bs3.map bv) → Calls Tryz.prog 33 #[.slice A bs3.length c, .int .u64 (slope : Nat)] w' (Made w' w'.heap.size (bs3 ++ be8 slope))) := fun w' A c h => PUT.out A bs3.length c bs3 slope w' rfl (by omega) h
          obtain ⟨bs4, hb4⟩ : ∃ bs4, bs4 = bs3 ++ be8 slope := ⟨_, rfl⟩
          rw [← hb4] at Q2 HEN
          have hl4' : bs4.length ≤ 70368744177672 := by rw [hb4, List.length_append, be8_length]; omega
          have Q3 : Hid (∀ w' A c, RdC w' A (bs4.map bv) → Calls Tryz.prog 33 #[.slice A bs4.length c, .int .u64 (inter : Nat)] w' (Made w' w'.heap.size (bs4 ++ be8 inter))) := fun w' A c h => PUT.out A bs4.length c bs4 inter w' rfl (by omega) h
          obtain ⟨bs5, hb5⟩ : ∃ bs5, bs5 = bs4 ++ be8 inter := ⟨_, rfl⟩
          rw [← hb5] at Q3 HEN
          have Q1 := Lib.hid Q1
          clear hcc hs hsi hba hb3 hb4 hb5 hl3' hl4' hown2 hf2
          go_wp2_with fail
          rw [← hw11]
          rw [← hgs]
          clear z0 z1 z2 z3 z4 y0 y1 y2 y3 y4 hw11 hgs x0 x1 x2 x9
          refine Q1.out.mono ?_
          rintro _ wa ⟨Aa, ca, rfl, hoa, hfa⟩
          have HOA := Lib.hid hoa
          have HFA : Hid (Fr w11 wa) := hfa
          clear hoa hfa
          obtain ⟨z1, z2, z4⟩ := HCE.out wa HFA.out
          go_wp2_with fail
          refine (Q2.out wa Aa ca HOA.out.rd).mono ?_
          rintro _ wb ⟨Ab, cb, rfl, hob, hfb⟩
          have HOB := Lib.hid hob
          have HFB : Hid (Fr w11 wb) := HFA.out.trans hfb
          clear hob hfb z1 z2 z4
          obtain ⟨z1, z2, z4⟩ := HCE.out wb HFB.out
          go_wp2_with fail
          refine (Q3.out wb Ab cb HOB.out.rd).mono ?_
          rintro _ wc ⟨Ac, cc, rfl, hoc, hfc⟩
          have HOC : Hid (Own wc w.heap.size 5 1 Ac bs5.length cc (bs5.map bv)) := hoc.mono (HF11.out.trans HFB.out).size
          have HFC : Hid (Fr w wc) := (HF11.out.trans HFB.out).trans hfc
          clear hoc hfc z1 z2 z4
          go_wp2_with fail
          exact ⟨⟨k + 1, Ac, cc, bs5, rfl, rfl, by omega, HEN.out, HOC.out, HFC.out⟩, by simp only [intOf]; omega⟩
        · obtain rfl : k = M := by omega
          have d3 : decide (k < k) = false := by simp
          have HEN : Hid (bs2 = H3 ++ (Ss.take (j + 1)).flatMap encRow) := by
            rw [Hid, hbs2.out, List.take_of_length_le (by rw [HM.out]; exact Nat.le_refl _), HB1.out, hbs.out, flat_snoc encRow HSI.out]
            unfold encRow
            rw [HM.out]
            simp only [List.append_assoc]
          have HFF := hf2
          have HOO := hown2
          clear hbs2 hown2 hf2
          go_wp2_with fail
          exact ⟨⟨j + 1, A, c, bs2, rfl, rfl, by omega, HEN.out, HOO.out, HFF.out⟩, by simp only [intOf]; omega⟩
    · obtain rfl : j = N := by omega
      have d1 : decide (j < j) = false := by simp
      have HEN : Hid (bs = B) := by rw [Hid, hbs.out, List.take_of_length_le (by rw [HNN.out]; exact Nat.le_refl _), HALL.out]
      have HOO := hown
      clear hbs hown
      go_wp2_with fail
      go_ret
      rw [HEN.out] at HOO
      exact ⟨A, c, by rw [HEN.out]; rfl, HOO.out, hf.out⟩
end Go.Proofs.YthjimnmgbcckjaaGreat
