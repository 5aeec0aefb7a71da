/- Parts of this proof, one behind the other: CdP, CdQ. -/
import Derived.Deep.RegionHeld3
import Derived.Deep.RegionLaw
import Derived.Lib.SlBytesConst
import Derived.Test.YthjimnmgbcckjaaGreatQL
import Derived.Test.YthjimnmgbcckjaaGreatQK
import Derived.Test.YthjimnmgbcckjaaGreatQI
namespace Go.Proofs.YthjimnmgbcckjaaGreat
set_option maxRecDepth 100000
open Go.RowKit Go.Inc Go.Run
attribute [local go_sem] run_store_float

/-- Bytes that a call has made. -/
def Made (w : World) (base : Nat) (bs : List UInt8) (e : Ending) (w' : World) : Prop :=
  ∃ A c, e = .returned (.slice A bs.length c) ∧ Own w' base 5 1 A bs.length c (bs.map bv) ∧ Fr w w'
theorem put_made (A : Option Addr) (n c : Nat) (bs : List UInt8) (x : Nat) (w : World) (hx : x < 18446744073709551616) (hn : n = bs.length) (hb : bs.length ≤ 140737488355320) (h : RdC w A (bs.map bv)) :
    Calls Tryz.prog 30 #[.slice A n c, .int .u64 (x : Nat)] w (Made w w.heap.size (bs ++ be8 x)) := by
  refine (put_calls A n c bs x w hx hn (by omega) h).mono ?_
  rintro e w' ⟨g, rfl, hb', hg, hf⟩
  have hl : (bs ++ be8 x).length = bs.length + 8 := by rw [List.length_append, be8_length]
  exact ⟨some ⟨g, 0, none⟩, bs.length + 8, by rw [hl], by rw [hl]; exact Own.of_blk hb' hg (by rw [List.length_map, hl]; omega) (by omega), hf⟩
theorem putFloat_made (A : Option Addr) (n c : Nat) (bs : List UInt8) (x : Nat) (w : World) (hx : x < 18446744073709551616) (hn : n = bs.length) (hb : bs.length ≤ 140737488355320) (h : RdC w A (bs.map bv)) :
    Calls Tryz.prog 32 #[.slice A n c, .float .f64 x] w (Made w w.heap.size (bs ++ be8 x)) := by
  refine (putFloat_calls A n c bs x w hx hn (by omega) h).mono ?_
  rintro e w' ⟨g, rfl, hb', hg, hf⟩
  have hl : (bs ++ be8 x).length = bs.length + 8 := by rw [List.length_append, be8_length]
  exact ⟨some ⟨g, 0, none⟩, bs.length + 8, by rw [hl], by rw [hl]; exact Own.of_blk hb' hg (by rw [List.length_map, hl]; omega) (by omega), hf⟩

set_option maxHeartbeats 4000000 in
theorem cdEntry_calls (A : Option Addr) (n c : Nat) (bs : List UInt8) (e : Ent) (w : World) (he : EntOk e) (hn : n = bs.length) (hb : bs.length ≤ 70368744177664) (h : RdC w A (bs.map bv)) :
    Calls Tryz.prog 31 #[.slice A n c, entV e] w (Made w w.heap.size (bs ++ encE e)) := by
  obtain ⟨key, val, gone⟩ := e
  obtain ⟨⟨h1, h2⟩, h3, h4⟩ := he
  obtain ⟨k, rfl⟩ := Int.eq_ofNat_of_zero_le h1
  obtain ⟨v, rfl⟩ := Int.eq_ofNat_of_zero_le h3
  have hk : k < 18446744073709551616 := by have : (k : Int) < 18446744073709551616 := h2; omega
  have hv : v < 18446744073709551616 := by have : (v : Int) < 18446744073709551616 := h4; omega
  have P1 := Lib.hid (put_made A n c bs k (w.alloc (.cells #[.int .u64 (k : Nat), .int .u64 (v : Nat), .bool gone] 52)) hk hn (by omega) (h.fr ((Fr.refl w).alloc _)))
  obtain ⟨bs1, hb1⟩ : ∃ bs1, bs1 = bs ++ be8 k := ⟨_, rfl⟩
  rw [← hb1] at P1
  have hl1 : bs1.length ≤ 70368744177672 := by rw [hb1, List.length_append, be8_length]; omega
  have HB := Lib.hid (heap_alloc_new w (.cells #[.int .u64 (k : Nat), .int .u64 (v : Nat), .bool gone] 52))
  have HF := Lib.hid ((Fr.refl w).alloc (.cells #[.int .u64 (k : Nat), .int .u64 (v : Nat), .bool gone] 52))
  obtain ⟨x0, x1, x2⟩ := cells3 HB.out
  clear h h1 h2 h3 h4 hn hb
  cases gone with
  | true =>
    have HE : Hid (bs ++ encE ⟨k, v, true⟩ = bs1 ++ [1]) := by rw [Hid, hb1, List.append_assoc]; rfl
    rw [HE.out]
    clear hb1
    unfold entV
    go_enter Tryz.func31, Tryz.ntmps31
    go_wp2_with fail
    refine P1.out.mono ?_
    rintro _ w2 ⟨A2, c2, rfl, ho, hf⟩
    have HF2 : Hid (Fr w w2) := HF.out.trans hf
    have HO : Hid (Own w2 w.heap.size 5 1 A2 bs1.length c2 (bs1.map bv)) := ho.mono (by simp)
    obtain ⟨y0, y1, y2⟩ := cells3 (hf.blk HB.out)
    clear ho hf x0 x1 x2
    go_wp2_with (at_builtin; refine gate ?_)
    refine gate_app rfl _ _ 31 rfl 5 (.int .u8 0) 1 1 Tryz.underlying31 info_u8 rfl (by omega) (by omega) w.heap.size A2 bs1.length c2 (bs1.map bv) (some ⟨w2.heap.size, 0, none⟩) 1 1 [bv 1] (by rfl) (by rfl)
      (HO.out.fr ((Fr.refl w2).alloc _)) rfl (RdC.blk (Blk.new w2 _ _)) (bv_one [1]) (by omega) (by have := HF2.out.size; simp; omega) ?_
    intro A6 c6 w9 hown6 hgr6 hat6
    have HF9 : Hid (Fr w w9) := (HF2.out.alloc _).grown hgr6.out (fun k hk => (HO.out.lt k hk).1)
    have HOWN9 := hown6
    clear hown6 hgr6 hat6
    go_wp2_with fail
    go_ret
    exact ⟨A6, c6, by simp, by simpa using HOWN9.out, HF9.out⟩
  | false =>
    have HE : Hid (bs ++ encE ⟨k, v, false⟩ = (bs1 ++ [0]) ++ be8 v) := by rw [Hid, hb1, List.append_assoc, List.append_assoc]; rfl
    rw [HE.out]
    clear hb1
    unfold entV
    go_enter Tryz.func31, Tryz.ntmps31
    go_wp2_with fail
    refine P1.out.mono ?_
    rintro _ w2 ⟨A2, c2, rfl, ho, hf⟩
    have HF2 : Hid (Fr w w2) := HF.out.trans hf
    have HO : Hid (Own w2 (w.heap.size + 1) 5 1 A2 bs1.length c2 (bs1.map bv)) := ho.mono (by simp)
    have HSZ : Hid (w.heap.size + 1 ≤ w2.heap.size) := by have := hf.size; rw [Hid]; simpa using this
    have HB2 := Lib.hid (hf.blk HB.out)
    obtain ⟨y0, y1, y2⟩ := cells3 HB2.out
    have y1a := ((Fr.refl w2).alloc (.cells #[.int .u8 0] 5)).cell y1
    clear ho hf x0 x1 x2
    go_wp2_with fail
    go_region_law (first
      | (refine step_app rfl (.tmp 14) (.tmp 15) 31 rfl 5 (.int .u8 0) 1 1 Tryz.underlying31 info_u8 rfl (by omega) (by omega) (w.heap.size + 1) A2 bs1.length c2 (bs1.map bv) (some ⟨w2.heap.size, 0, none⟩) 1 1 [bv 0] ?_ ?_
          (HO.out.fr (((Fr.refl w2).drew).alloc _)) rfl (RdC.blk (Blk.new w2.drew _ _)) (bv_one [0]) (by omega) (by have := HSZ.out; simp; omega) ?_; exact rfl; exact rfl; intro A6 c6 w6 hown6 hgr6 hat6; have hf6 : Hid (Fr w w6) := ((HF2.out.drew).alloc _).grown hgr6.out (fun k hk => Nat.le_of_succ_le (HO.out.lt k hk).1); have hc6 : Hid (w6.heap[w.heap.size]? = some (.cells #[.int .u64 (k : Nat), .int .u64 (v : Nat), .bool false] 52 (0, 0))) := ((((Mv.of_fr ((Fr.refl w2).drew)).alloc _).grown hgr6.out (fun j hj => .inl hj) : Mv (fun k => ablk A2 = some k) w2 w6)).blk HB2.out (fun h => by have := (HO.out.lt _ h).1; omega); obtain ⟨z0, z1, z2⟩ := cells3 hc6.out)
      | (go_simp; go_at_call 30; refine (put_made A6 (bs1.length + 1) c6 (bs1 ++ [0]) v w6 hv (by simp) (by simp; omega) (by simpa using hown6.out.rd)).mono ?_; rintro _ w7 ⟨A7, c7, rfl, ho7, hf7⟩))
    all_goals (go_wp2_with fail)
    all_goals go_ret
    all_goals exact ⟨A7, c7, by simp [be8_length]; rfl, ho7.mono hf6.out.size, hf6.out.trans hf7⟩
end Go.Proofs.YthjimnmgbcckjaaGreat
namespace Go.Proofs.YthjimnmgbcckjaaGreat
set_option maxRecDepth 100000
open Go.RowKit Go.Inc Go.Run
attribute [local go_sem] run_store_float

theorem flat_take_le {α β : Type} (f : α → List β) (l : List α) (i : Nat) : ((l.take i).flatMap f).length ≤ (l.flatMap f).length := by
  have h : l.flatMap f = (l.take i).flatMap f ++ (l.drop i).flatMap f := by rw [← List.flatMap_append, List.take_append_drop]
  rw [h, List.length_append]; omega
theorem flat_snoc {α β : Type} (f : α → List β) {l : List α} {i : Nat} {x : α} (h : l[i]? = some x) : (l.take (i + 1)).flatMap f = (l.take i).flatMap f ++ f x := by
  rw [List.take_add_one, h]; simp
theorem flat_one_le {α β : Type} (f : α → List β) {l : List α} {i : Nat} {x : α} (h : l[i]? = some x) : ((l.take i).flatMap f).length + (f x).length ≤ (l.flatMap f).length := by
  have := flat_take_le f l (i + 1)
  rw [flat_snoc f h, List.length_append] at this
  exact this
theorem chain_mem {K : List Int} : ∀ {S : List Seg} {f : Nat}, ChainS K f S → ∀ s ∈ S, (0 ≤ s.upto ∧ s.upto ≤ 4294967296) ∧ s.slope < 18446744073709551616 ∧ s.inter < 18446744073709551616
  | [], _, _, s, hs => by simp at hs
  | x :: S, f, h, s, hs => by
    obtain ⟨⟨_, _, _, h4, h5⟩, ⟨_, h6⟩, ⟨_, h7⟩, h8⟩ := h
    rcases List.mem_cons.1 hs with rfl | hs
    · exact ⟨⟨h4, h5⟩, h6, h7⟩
    · exact chain_mem h8 s hs
theorem levC_mem : ∀ {Ss : List (List Seg)} {K : List Int}, LevC K Ss → ∀ S ∈ Ss, S.length ≤ 4294967296 ∧ ∀ s ∈ S, (0 ≤ s.upto ∧ s.upto ≤ 4294967296) ∧ s.slope < 18446744073709551616 ∧ s.inter < 18446744073709551616
  | [], _, _, S, hS => by simp at hS
  | X :: Ss, K, h, S, hS => by
    obtain ⟨h1, h2, h3⟩ := h
    rcases List.mem_cons.1 hS with rfl | hS
    · exact ⟨h1, chain_mem h2⟩
    · exact levC_mem h3 S hS

set_option maxHeartbeats 16000000 in
theorem cdPut_calls (r p : Nat) (eps : Nat) (E : List Ent) (Ss : List (List Seg)) (w : World) (h : RunR w r p (eps : Nat) E Ss) (hc : Codes eps E Ss) (hl : E.length ≤ 268435456) (hN : Ss.length ≤ 268435456) (hS : ∀ S ∈ Ss, S.length ≤ 268435456) (hsz : (encB incW eps E Ss).length ≤ 70368744177664) :
    Calls Tryz.prog 11 #[.pointer (some ⟨r, 0, none⟩)] w (Made w w.heap.size (encB incW eps E Ss)) := by
  have heps : eps ≤ 64 := hc.eps
  have HC := Lib.hid hc
  have x0 := h.ptr
  have EPS := Lib.hid (fun w' (hf : Fr w w') => peps_calls p (eps : Nat) (keysE E) Ss w' (h.pile.fr hf))
  have LST := Lib.hid (fun w' (hf : Fr w w') => rlist_calls r p (eps : Nat) E Ss hl w'.heap.size w' (Nat.le_refl _) (h.fr hf))
  have LEV := Lib.hid (fun w' (hf : Fr w w') => rlevels_calls r p (eps : Nat) E Ss hN hS w'.heap.size w' (Nat.le_refl _) (h.fr hf))
  have PUT := Lib.hid put_made
  have PUTF := Lib.hid putFloat_made
  have ENT := Lib.hid cdEntry_calls
  obtain ⟨H1, hH1⟩ : ∃ H1, H1 = incW ++ be8 eps := ⟨_, rfl⟩
  obtain ⟨H2, hH2⟩ : ∃ H2, H2 = H1 ++ be8 E.length := ⟨_, rfl⟩
  obtain ⟨H3, hH3⟩ : ∃ H3, H3 = (H2 ++ E.flatMap encE) ++ be8 Ss.length := ⟨_, rfl⟩
  have hall : encB incW eps E Ss = H3 ++ Ss.flatMap encRow := by rw [hH3, hH2, hH1]; unfold encB encEs encLs; simp only [List.append_assoc]
  obtain ⟨B, hB⟩ : ∃ B, encB incW eps E Ss = B := ⟨_, rfl⟩
  rw [hB] at hall hsz ⊢
  obtain ⟨n, hn⟩ : ∃ n, E.length = n := ⟨_, rfl⟩
  obtain ⟨N, hNN⟩ : ∃ N, Ss.length = N := ⟨_, rfl⟩
  rw [hn] at hl hH2 LST
  rw [hNN] at hN hH3 LEV
  have hl1 : H1.length = 12 := by rw [hH1]; rfl
  have hl2 : H2.length = 20 := by rw [hH2, List.length_append, hl1, be8_length]
  have hl3 : H3.length = 28 + (E.flatMap encE).length := by rw [hH3, List.length_append, List.length_append, hl2, be8_length]; omega
  have hlB : B.length = H3.length + (Ss.flatMap encRow).length := by rw [hall, List.length_append]
  have HL1 := Lib.hid hl1
  have HL2 := Lib.hid hl2
  have HL3 := Lib.hid hl3
  have HLB := Lib.hid hlB
  have HSZ := Lib.hid hsz
  have HN := Lib.hid hn
  have HNN := Lib.hid hNN
  have HH1 := Lib.hid hH1
  have HH2 := Lib.hid hH2
  have HH3 := Lib.hid hH3
  have HALL := Lib.hid hall
  have HSS := Lib.hid hS
  have we : IntKind.u64.wrap (eps : Int) = (eps : Int) := wrap_u64_in _ (by omega) (by omega)
  have wn : IntKind.u64.wrap (n : Int) = (n : Int) := wrap_u64_in _ (by omega) (by omega)
  have wN : IntKind.u64.wrap (N : Int) = (N : Int) := wrap_u64_in _ (by omega) (by omega)
  have x0a := ((Fr.refl w).alloc (.cells #[.int .u8 73, .int .u8 78, .int .u8 67, .int .u8 49] 5 (4, 5))).cell x0
  have HLM := Lib.hid (levC_mem hc.levs)
  have HEM := Lib.hid hc.ents
  clear h hc hB hn hNN hH1 hH2 hH3 hall hS x0 hl1 hl2 hl3 hlB hsz
  have hcv := Lib.run_convert_bytes_const (P := Tryz.prog) w 31 5 #[.int .u8 73, .int .u8 78, .int .u8 67, .int .u8 49] 4 4 Tryz.underlying31 Tryz.underlying5
  go_enter Tryz.func11, Tryz.ntmps11
  go_wp2_with fail
  obtain ⟨w1, hw1⟩ : ∃ w1, w1 = w.alloc (.cells #[.int .u8 73, .int .u8 78, .int .u8 67, .int .u8 49] 5 (4, 5)) := ⟨_, rfl⟩
  have HF1 : Hid (Fr w w1) := by rw [hw1]; exact (Fr.refl w).alloc _
  have HRD1 : Hid (RdC w1 (some ⟨w.heap.size, 0, none⟩) (incW.map bv)) := by rw [hw1]; exact RdC.of_blk (heap_alloc_new w (.cells #[.int .u8 73, .int .u8 78, .int .u8 67, .int .u8 49] 5 (4, 5)))
  rw [← hw1]
  clear hw1 hcv x0a
  refine (EPS.out w1 HF1.out).mono ?_
  rintro _ w2 ⟨rfl, rfl⟩
  go_wp2_with fail
  have P1 := PUT.out (some ⟨w.heap.size, 0, none⟩) 4 4 incW eps w2 (by omega) rfl (by decide) HRD1.out
  rw [← HH1.out] at P1
  refine P1.mono ?_
  rintro _ w3 ⟨A3, c3, rfl, ho3, hf3⟩
  have HO3 := Lib.hid ho3
  have HF3 : Hid (Fr w w3) := HF1.out.trans hf3
  clear ho3 hf3 P1 HRD1
  go_wp2_with fail
  refine (LST.out w3 HF3.out).mono ?_
  rintro _ w4 ⟨Al, cl, rfl, ho4, hf4⟩
  have HOL := Lib.hid ho4
  have HF4 : Hid (Fr w w4) := HF3.out.trans hf4
  have HRD4 : Hid (RdC w4 A3 (H1.map bv)) := HO3.out.rd.fr hf4
  clear ho4 hf4 HO3 HF3
  go_wp2_with fail
  have P2 := PUT.out A3 H1.length c3 H1 n w4 (by omega) rfl (by have := HL1.out; omega) HRD4.out
  rw [← HH2.out] at P2
  refine P2.mono ?_
  rintro _ w5 ⟨A5, c5, rfl, ho5, hf5⟩
  have HO5 := Lib.hid ho5
  have HF5 : Hid (Fr w w5) := HF4.out.trans hf5
  have HOL5 : Hid (RdC w5 Al (E.flatMap encells)) := HOL.out.rd.fr hf5
  clear ho5 hf5 P2 HRD4 HOL HF4
  go_wp2_with fail
  go_loopw [3, 30] (fun v3 v30 wr => ∃ (i : Nat) (A : Option Addr) (c : Nat) (bs : List UInt8), v3 = .slice A bs.length c ∧ v30 = .int .i64 i ∧ i ≤ n ∧ Hid (bs = H2 ++ (E.take i).flatMap encE) ∧ Hid (RdC wr A (bs.map bv)) ∧ Hid (Fr w5 wr)) (fun _ v30 _ => n - (intOf v30).toNat)
  case atStart => exact ⟨0, A5, c5, H2, rfl, rfl, by omega, by rw [Hid]; simp, HO5.out.rd, Fr.refl _⟩
  case round =>
    obtain ⟨i, A, c, bs, rfl, rfl, hin, hbs, hrd, hf⟩ := hrel
    rcases Nat.lt_or_ge i n with hlt | hge
    · have d1 : decide (i < n) = true := decide_eq_true hlt
      have d2 : (i : Int) < (n : Int) := by omega
      have wi : IntKind.i64.wrap ((i : Int) + 1) = (i : Int) + 1 := wrap_i64_in _ (by omega) (by omega)
      have hiE : i < E.length := by have := HN.out; omega
      obtain ⟨bb, off, hA, hcc⟩ := rdc_ent (HOL5.out.fr hf.out) (by omega)
      obtain ⟨y0, y1, y2⟩ := hcc i hiE
      obtain ⟨s, hs⟩ : ∃ s, E[i] = s := ⟨_, rfl⟩
      rw [hs] at y0 y1 y2
      have hsi : E[i]? = some s := by rw [List.getElem?_eq_getElem hiE, hs]
      have HSI := Lib.hid hsi
      have HEO : Hid (EntOk s) := (HEM.out s (List.mem_of_getElem? hsi)).1
      have hLen : bs.length + (encE s).length ≤ 70368744177664 := by
        have h1 := flat_one_le encE hsi
        have := HL3.out; have := HLB.out; have := HSZ.out; have := HL2.out
        rw [hbs.out, List.length_append]
        omega
      have HLN : Hid (bs.length ≤ 70368744177664) := by rw [Hid]; omega
      have hba := heap_alloc_new wr (.cells #[.int .u64 s.key, .int .u64 s.val, .bool s.gone] 52)
      obtain ⟨z0, z1, z2⟩ := cells3 hba
      subst hA
      have EN := Lib.hid (ENT.out A bs.length c bs s (wr.alloc (.cells #[.int .u64 s.key, .int .u64 s.val, .bool s.gone] 52)) HEO.out rfl HLN.out (hrd.out.fr ((Fr.refl wr).alloc _)))
      clear hcc hs hsi hba hLen
      go_wp2_with fail
      refine EN.out.mono ?_
      rintro _ w7 ⟨A7, c7, rfl, ho7, hf7⟩
      obtain ⟨bs7, hb7⟩ : ∃ bs7, bs7 = bs ++ encE s := ⟨_, rfl⟩
      rw [← hb7] at ho7 ⊢
      have HB7 : Hid (bs7 = H2 ++ (E.take (i + 1)).flatMap encE) := by rw [Hid, hb7, flat_snoc encE HSI.out, hbs.out, List.append_assoc]
      have HO7 := Lib.hid ho7
      have HF7 : Hid (Fr w5 w7) := (hf.out.alloc _).trans hf7
      clear hb7 ho7 hf7 EN z0 z1 z2
      go_wp2_with fail
      exact ⟨⟨i + 1, A7, c7, bs7, rfl, rfl, by omega, HB7.out, HO7.out.rd, HF7.out⟩, by simp only [intOf]; omega⟩
    · obtain rfl : i = n := by omega
      have d1 : decide (i < i) = false := by simp
      have HBS : Hid (bs = H2 ++ E.flatMap encE) := by rw [Hid, hbs.out, List.take_of_length_le (by rw [HN.out]; exact Nat.le_refl _)]
      have HF6 : Hid (Fr w wr) := HF5.out.trans hf.out
      obtain ⟨w6, hw6⟩ : ∃ w6, w6 = wr := ⟨_, rfl⟩
      subst hw6
      have HRD6 := hrd
      clear hbs hrd hf
      go_wp2_with fail
      refine (LEV.out w6 HF6.out).mono ?_
      rintro _ w8 ⟨gl, us, rfl, hgl, hbl, hul, hrows, hf8⟩
      have HBL := Lib.hid hbl
      have HROWS := Lib.hid hrows.toR
      have HUL := Lib.hid hul
      have HF8 : Hid (Fr w w8) := HF6.out.trans hf8
      have HRD8 : Hid (RdC w8 A (bs.map bv)) := HRD6.out.fr hf8
      clear hgl hbl hul hrows hf8 HRD6 HF6
      go_wp2_with fail
      have P3 := PUT.out A bs.length c bs N w8 (by omega) rfl (by have := HL3.out; have := HLB.out; have := HSZ.out; have := HL2.out; rw [HBS.out, List.length_append]; omega) HRD8.out
      rw [HBS.out, ← HH3.out, ← HBS.out] at P3
      refine P3.mono ?_
      rintro _ w9 ⟨A9, c9, rfl, ho9, hf9⟩
      have HO9 := Lib.hid ho9
      have HFW8 : Hid (w.heap.size ≤ w8.heap.size) := HF8.out.size
      have HFW9 : Hid (w.heap.size ≤ w9.heap.size) := (HF8.out.trans hf9).size
      have HF9 : Hid (Fr w w9) := HF8.out.trans hf9
      have HBL9 : Hid (Blk w9 gl us 62) := HBL.out.fr hf9
      have HROWS9 : Hid (RowsR w9 us Ss) := HROWS.out.fr hf9
      clear ho9 hf9 P3 HRD8 HBL HROWS HF8
      go_wp2_with fail
      go_loopw [3, 47] (fun v3 v47 wr => ∃ (j : Nat) (A : Option Addr) (c : Nat) (bs : List UInt8), v3 = .slice A bs.length c ∧ v47 = .int .i64 j ∧ j ≤ N ∧ Hid (bs = H3 ++ (Ss.take j).flatMap encRow) ∧ Hid (Own wr w.heap.size 5 1 A bs.length c (bs.map bv)) ∧ Hid (Fr w9 wr)) (fun _ v47 _ => N - (intOf v47).toNat)
      case atStart => exact ⟨0, A9, c9, H3, rfl, rfl, by omega, by rw [Hid]; simp, HO9.out.mono HFW8.out, Fr.refl _⟩
      case round =>
        obtain ⟨j, A, c, bs, rfl, rfl, hjn, hbs, hown, hf⟩ := hrel
        rcases Nat.lt_or_ge j N with hlt | hge
        · have d1 : decide (j < N) = true := decide_eq_true hlt
          have d2 : (j : Int) < (N : Int) := by omega
          have wi : IntKind.i64.wrap ((j : Int) + 1) = (j : Int) + 1 := wrap_i64_in _ (by omega) (by omega)
          have hjS : j < Ss.length := by have := HNN.out; omega
          obtain ⟨S, hS⟩ : ∃ S, Ss[j] = S := ⟨_, rfl⟩
          have hSi : Ss[j]? = some S := by rw [List.getElem?_eq_getElem hjS, hS]
          obtain ⟨As, cs, hvs, hcs, hrs0⟩ := HROWS9.out.at hSi
          have x0 := (HBL9.out.fr hf.out).cell j _ hvs
          obtain ⟨M, hM⟩ : ∃ M, S.length = M := ⟨_, rfl⟩
          rw [hM] at x0 hcs
          have HM := Lib.hid hM
          have HSI := Lib.hid hSi
          have hMl : M ≤ 4294967296 := by rw [← hM]; exact (HLM.out S (List.mem_of_getElem? hSi)).1
          have HSM := Lib.hid (HLM.out S (List.mem_of_getElem? hSi)).2
          have HRS := Lib.hid hrs0
          have wM : IntKind.u64.wrap (M : Int) = (M : Int) := wrap_u64_in _ (by omega) (by omega)
          have hLen : bs.length + (encRow S).length ≤ 70368744177664 := by
            have h1 := flat_one_le encRow hSi
            have := HLB.out; have := HSZ.out
            rw [hbs.out, List.length_append]
            omega
          have HLN : Hid (bs.length + 8 + (S.flatMap encS).length ≤ 70368744177664) := by
            rw [Hid]
            have h9 : (encRow S).length = 8 + (S.flatMap encS).length := by unfold encRow; rw [List.length_append, be8_length]
            omega
          obtain ⟨bs1, hb1⟩ : ∃ bs1, bs1 = bs ++ be8 M := ⟨_, rfl⟩
          have P4 := PUT.out A bs.length c bs M wr (by omega) rfl (by have := HLN.out; omega) hown.out.rd
          rw [← hb1] at P4
          have HB1 := Lib.hid hb1
          have P4 := Lib.hid P4
          clear hvs hrs0 hS hSi hM hLen hb1
          go_wp2_with fail
          refine P4.out.mono ?_
          rintro _ w10 ⟨A10, c10, rfl, ho10, hf10⟩
          have HO10 : Hid (Own w10 w.heap.size 5 1 A10 bs1.length c10 (bs1.map bv)) := ho10.mono (Nat.le_trans HFW9.out hf.out.size)
          have HF10 : Hid (Fr w9 w10) := hf.out.trans hf10
          have HRS10 : Hid (RdC w10 As (S.flatMap sgcells)) := HRS.out.fr HF10.out
          have HFW10 : Hid (w.heap.size ≤ w10.heap.size) := by have := HFW9.out; have := HF10.out.size; rw [Hid]; omega
          clear ho10 hf10 P4
          go_wp2_with fail
          go_loopw [3, 58] (fun v3 v58 wr => ∃ (k : Nat) (A : Option Addr) (c : Nat) (bs : List UInt8), v3 = .slice A bs.length c ∧ v58 = .int .i64 k ∧ k ≤ M ∧ Hid (bs = bs1 ++ (S.take k).flatMap encS) ∧ Hid (Own wr w.heap.size 5 1 A bs.length c (bs.map bv)) ∧ Hid (Fr w10 wr)) (fun _ v58 _ => M - (intOf v58).toNat)
          case atStart => exact ⟨0, A10, c10, bs1, rfl, rfl, by omega, by rw [Hid]; simp, HO10.out, Fr.refl _⟩
          case round =>
            obtain ⟨k, A, c, bs2, rfl, rfl, hkn, hbs2, hown2, hf2⟩ := hrel
            obtain ⟨wo, hwo⟩ : ∃ wo, wo = wr := ⟨_, rfl⟩
            subst hwo
            rcases Nat.lt_or_ge k M with hlt2 | hge2
            · have d3 : decide (k < M) = true := decide_eq_true hlt2
              have d4 : (k : Int) < (M : Int) := by omega
              have wi2 : IntKind.i64.wrap ((k : Int) + 1) = (k : Int) + 1 := wrap_i64_in _ (by omega) (by omega)
              have hkS : k < S.length := by have := HM.out; omega
              obtain ⟨bb, off, hA, hcc⟩ := rdc_seg (HRS10.out.fr hf2.out) (by omega)
              obtain ⟨y0, y1, y2, y3, y4⟩ := hcc k hkS
              obtain ⟨s, hs⟩ : ∃ s, S[k] = s := ⟨_, rfl⟩
              rw [hs] at y0 y1 y2 y3 y4
              have hsi : S[k]? = some s := by rw [List.getElem?_eq_getElem hkS, hs]
              have HSK := Lib.hid hsi
              have hmem := HSM.out s (List.mem_of_getElem? hsi)
              obtain ⟨first, slope, inter, frm, upto⟩ := s
              obtain ⟨⟨m1, m2⟩, m3, m4⟩ := hmem
              obtain ⟨t, ht⟩ := Int.eq_ofNat_of_zero_le m1
              have ht' : upto = (t : Int) := ht
              subst ht'
              have m2' : t ≤ 4294967296 := by have : (t : Int) ≤ 4294967296 := m2; omega
              have wt : IntKind.u64.wrap (t : Int) = (t : Int) := wrap_u64_in _ (by omega) (by omega)
              dsimp only at y0 y1 y2 y3 y4 m3 m4
              subst hA
              have hba := heap_alloc_new wo (.cells #[.int .u64 first, .float .f64 slope, .float .f64 inter, .int .i64 frm, .int .i64 (t : Nat)] 65)
              obtain ⟨z0, z1, z2, z3, z4⟩ := cells5 hba
              have HLK : Hid (bs2.length + 24 ≤ 70368744177664) := by
                have h1 := flat_one_le encS hsi
                rw [encS_len] at h1
                have := HLN.out
                rw [Hid, hbs2.out, List.length_append, HB1.out, List.length_append, be8_length]
                omega
              have HEN : Hid (((bs2 ++ be8 t) ++ be8 slope) ++ be8 inter = bs1 ++ (S.take (k + 1)).flatMap encS) := by
                rw [Hid, flat_snoc encS hsi, hbs2.out]
                simp [encS, List.append_assoc]
              obtain ⟨w11, hw11⟩ : ∃ w11, w11 = wo.alloc (.cells #[.int .u64 first, .float .f64 slope, .float .f64 inter, .int .i64 frm, .int .i64 (t : Nat)] 65) := ⟨_, rfl⟩
              have HF11 : Hid (Fr w10 w11) := by rw [hw11]; exact hf2.out.alloc _
              have HOW11 : Hid (Own w11 w.heap.size 5 1 A bs2.length c (bs2.map bv)) := by rw [hw11]; exact hown2.out.fr ((Fr.refl _).alloc _)
              obtain ⟨gs, hgs⟩ : ∃ gs, gs = wo.heap.size := ⟨_, rfl⟩
              have HCE : Hid (∀ w', Fr w11 w' → w'.cell? ⟨gs, 1, none⟩ = some (.float .f64 slope) ∧ w'.cell? ⟨gs, 2, none⟩ = some (.float .f64 inter) ∧ w'.cell? ⟨gs, 4, none⟩ = some (.int .i64 (t : Nat))) := fun w' h => by rw [hgs]; rw [hw11] at h; exact ⟨h.cell z1, h.cell z2, h.cell z4⟩
              have Q1 : Hid (∀ w', Fr w11 w' → Calls Tryz.prog 30 #[.slice A bs2.length c, .int .u64 (t : Nat)] w' (Made w' w'.heap.size (bs2 ++ be8 t))) := fun w' h => PUT.out A bs2.length c bs2 t w' (by omega) rfl (by have := HLK.out; omega) (HOW11.out.rd.fr h)
              obtain ⟨bs3, hb3⟩ : ∃ bs3, bs3 = bs2 ++ be8 t := ⟨_, rfl⟩
              rw [← hb3] at Q1 HEN
              have hl3' : bs3.length ≤ 70368744177664 := by rw [hb3, List.length_append, be8_length]; have := HLK.out; omega
              have Q2 : Hid (∀ w' A c, RdC w' A (bs3.map bv) → Calls Tryz.prog 32 #[.slice A bs3.length c, .float .f64 slope] w' (Made w' w'.heap.size (bs3 ++ be8 slope))) := fun w' A c h => PUTF.out A bs3.length c bs3 slope w' m3 rfl (by omega) h
              obtain ⟨bs4, hb4⟩ : ∃ bs4, bs4 = bs3 ++ be8 slope := ⟨_, rfl⟩
              rw [← hb4] at Q2 HEN
              have hl4' : bs4.length ≤ 70368744177672 := by rw [hb4, List.length_append, be8_length]; omega
              have Q3 : Hid (∀ w' A c, RdC w' A (bs4.map bv) → Calls Tryz.prog 32 #[.slice A bs4.length c, .float .f64 inter] w' (Made w' w'.heap.size (bs4 ++ be8 inter))) := fun w' A c h => PUTF.out A bs4.length c bs4 inter w' m4 rfl (by omega) h
              obtain ⟨bs5, hb5⟩ : ∃ bs5, bs5 = bs4 ++ be8 inter := ⟨_, rfl⟩
              rw [← hb5] at Q3 HEN
              clear hcc hs hsi hba hb3 hb4 hb5 hl3' hl4' hown2 hf2
              go_wp2_with fail
              rw [← hw11, ← hgs]
              clear z0 z1 z2 z3 z4 y0 y1 y2 y3 y4 hw11 hgs
              obtain ⟨z1, z2, z4⟩ := HCE.out w11 (Fr.refl _)
              go_region_held3 (fun w' => w'.cell? ⟨gs, 1, none⟩ = some (.float .f64 slope) ∧ w'.cell? ⟨gs, 2, none⟩ = some (.float .f64 inter) ∧ w'.cell? ⟨gs, 4, none⟩ = some (.int .i64 (t : Nat)))
                (first | (refine HCE.out _ ?_; repeat (first | exact hfc | exact hfb | exact hfa | exact Fr.refl _ | refine Fr.drew ?_)))
                (first
                  | (go_at_call 30; refine (Q1.out _ (by (repeat (first | exact Fr.refl _ | refine Fr.drew ?_)))).mono ?_; rintro e wa ⟨Aa, ca, rfl, hoa, qq⟩; have hfa : Fr w11 wa := Fr.trans (by (repeat (first | exact Fr.refl _ | refine Fr.drew ?_))) qq)
                  | (go_at_call 32; refine (Q3.out _ Ab cb (by first | exact hob.rd | exact hob.rd.fr ((Fr.refl _).drew))).mono ?_; rintro e wc ⟨Ac, cc, rfl, hoc, qq⟩; have hfc : Fr w11 wc := Fr.trans (by (repeat (first | exact hfb | refine Fr.drew ?_))) qq)
                  | (go_at_call 32; refine (Q2.out _ Aa ca (by first | exact hoa.rd | exact hoa.rd.fr ((Fr.refl _).drew))).mono ?_; rintro e wb ⟨Ab, cb, rfl, hob, qq⟩; have hfb : Fr w11 wb := Fr.trans (by (repeat (first | exact hfa | refine Fr.drew ?_))) qq))
              have HFW11 : Hid (w.heap.size ≤ wb.heap.size) := by have := HFW10.out; have := HF11.out.size; have := hfb.size; rw [Hid]; omega
              have HOC : Hid (Own wc w.heap.size 5 1 Ac bs5.length cc (bs5.map bv)) := hoc.mono HFW11.out
              have HFC : Hid (Fr w10 wc) := HF11.out.trans hfc
              clear hoa hob hoc hfa hfb hfc qq
              go_wp2_with fail
              exact ⟨⟨k + 1, Ac, cc, bs5, rfl, rfl, by omega, HEN.out, HOC.out, HFC.out⟩, by simp only [intOf]; omega⟩
            · obtain rfl : k = M := by omega
              have d3 : decide (k < k) = false := by simp
              have HEN : Hid (bs2 = H3 ++ (Ss.take (j + 1)).flatMap encRow) := by
                rw [Hid, hbs2.out, List.take_of_length_le (by rw [HM.out]; exact Nat.le_refl _), HB1.out, hbs.out, flat_snoc encRow HSI.out]
                unfold encRow
                rw [HM.out]
                simp only [List.append_assoc]
              have HFF : Hid (Fr w9 wo) := HF10.out.trans hf2.out
              have HOO := hown2
              clear hbs2 hown2 hf2
              go_wp2_with fail
              exact ⟨⟨j + 1, A, c, bs2, rfl, rfl, by omega, HEN.out, HOO.out, HFF.out⟩, by simp only [intOf]; omega⟩
        · obtain rfl : j = N := by omega
          have d1 : decide (j < j) = false := by simp
          have HEN : Hid (bs = B) := by rw [Hid, hbs.out, List.take_of_length_le (by rw [HNN.out]; exact Nat.le_refl _), HALL.out]
          have HFF : Hid (Fr w wr) := HF9.out.trans hf.out
          have HOO := hown
          clear hbs hown hf
          go_wp2_with fail
          go_ret
          rw [HEN.out] at HOO
          exact ⟨A, c, by rw [HEN.out]; rfl, HOO.out, HFF.out⟩
end Go.Proofs.YthjimnmgbcckjaaGreat
