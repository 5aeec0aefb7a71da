/- CodecTurned holds: for every input whose bulk is at most 1048576 the law returns true and its arguments read as before. -/
import Derived.Deep.RegionHeld3
import Derived.Deep.DeepCutAuto
import Derived.StillTail
import Derived.Test.YthjimnmgbcckjaaGreatQW
import Derived.Test.YthjimnmgbcckjaaGreatQX
namespace Go.Proofs.YthjimnmgbcckjaaGreat
set_option maxRecDepth 100000
open Go.RowKit Go.Inc Go.Run
attribute [local go_sem] run_store_float

theorem put_back12 {w : World} {r base : Nat} {bs : List UInt8} {eps : Nat} {E : List Ent} {Ss : List (List Seg)} (hg : getB (bstr bs) = some (eps, E, Ss)) (hb : bs.length ≤ 2147483648) (h : IsRun w r base (eps : Nat) E Ss) :
    Calls Tryz.prog 11 #[.pointer (some ⟨r, 0, none⟩)] w (Made w w.heap.size bs) := by
  obtain ⟨hc, hbs, he, hV, hk⟩ := getB_back hg
  obtain ⟨s1, s2, s3⟩ := enc_small (eps := eps) (E := E) (Ss := Ss)
  rw [← hbs] at s1 s2 s3
  obtain ⟨p, hp⟩ := h.toR
  rw [hbs] at hb ⊢
  exact cdPut_calls r p eps E Ss w hp hc (by rw [hbs] at s1; omega) (by rw [hbs] at s2; omega) (fun S hS => by have := s3 S hS; rw [hbs] at this; omega) (by omega)
theorem rank_at12 {L : List Int} (hR : Rise L) {i : Nat} (hi : i < L.length) : IsRank L (ky L i) i :=
  ⟨by omega, fun j hj => rise_lt hR hj hi, fun j hj hl => by
    rcases Nat.lt_or_ge i j with h | h
    · exact Int.le_of_lt (rise_lt hR h hl)
    · obtain rfl : i = j := by omega
      exact Int.le_refl _⟩
theorem byte_of (z : Int) (h : 0 ≤ z ∧ z ≤ 255) : ∃ c : UInt8, Value.int .u8 z = bv c := ⟨UInt8.ofNat z.toNat, by
  unfold bv
  rw [UInt8.toNat_ofNat']
  congr 1
  omega⟩
theorem rdc_set1 {w : World} {b : Nat} {cs : Array Value} {e : TypeId} {xs : List Value} (h : w.heap[b]? = some (.cells cs e (0, 0))) (hr : RdC w (some ⟨b, 0, none⟩) xs) (q : Nat) (hq : q < xs.length) (v : Value) : RdC (w.setCell ⟨b, q, none⟩ v) (some ⟨b, 0, none⟩) (xs.set q v) := by
  refine .inr ⟨b, 0, rfl, fun j u hj => ?_⟩
  have hcell : ∀ j u, xs[j]? = some u → cs[j]? = some u := fun j u hu => by
    have := hr.get j u hu
    rw [blk_cell h, Nat.zero_add] at this
    exact this
  have hqc : q < cs.size := by
    have := hcell q _ (List.getElem?_eq_getElem hq)
    exact (Array.getElem?_eq_some_iff.1 this).1
  rw [blk_cell (blk_set h q v), Nat.zero_add, Array.getElem?_setIfInBounds]
  rw [List.getElem?_set] at hj
  by_cases hjq : q = j
  · subst hjq
    rw [if_pos rfl] at hj ⊢
    rw [if_pos hq] at hj
    rw [if_pos hqc]
    exact hj
  · rw [if_neg hjq] at hj ⊢
    exact hcell j u hj

set_option maxHeartbeats 8000000 in
theorem codecTurned_calls (m : MadeC) (at1 bit1 : Int) (hat : -9223372036854775808 ≤ at1 ∧ at1 ≤ 9223372036854775807) (hbit : -9223372036854775808 ≤ bit1 ∧ bit1 ≤ 9223372036854775807) (w : World) (hm : m.Ok w) : Calls Tryz.prog 7 #[m.val, .int .i64 at1, .int .i64 bit1] w fun e w' => e = .returned (.bool true) ∧ Fr w w' := by
  have BOTH := Lib.hid (fun w' (hf : Fr w w') => cdBoth_calls m w' (hm.fr hf))
  obtain ⟨E, hE⟩ : ∃ E, m.E = E := ⟨_, rfl⟩
  rw [hE] at BOTH
  obtain ⟨A, n, c, eps, own, AU, N, cU, E', Ss, vs⟩ := m
  have HV : Hid ((⟨A, n, c, eps, own, AU, N, cU, E', Ss, vs⟩ : MadeC).val = .agg #[.slice A n c, .int .i64 eps, .bool own, .slice AU N cU]) := rfl
  rw [HV.out] at BOTH ⊢
  have hba := heap_alloc_new w (.cells #[.slice A n c, .int .i64 eps, .bool own, .slice AU N cU] 25)
  obtain ⟨w1, hw1⟩ : ∃ w1, w1 = w.alloc (.cells #[.slice A n c, .int .i64 eps, .bool own, .slice AU N cU] 25) := ⟨_, rfl⟩
  have HF1 : Hid (Fr w w1) := by rw [hw1]; exact (Fr.refl w).alloc _
  rw [← hw1] at hba
  have HX : Hid (∀ w', Fr w1 w' → w'.cell? ⟨w.heap.size, 0, none⟩ = some (.slice A n c) ∧ w'.cell? ⟨w.heap.size, 1, none⟩ = some (.int .i64 eps) ∧ w'.cell? ⟨w.heap.size, 2, none⟩ = some (.bool own) ∧ w'.cell? ⟨w.heap.size, 3, none⟩ = some (.slice AU N cU)) := fun w' h => cells4 (h.blk hba)
  clear hm hba HV hE
  go_enter Tryz.func7, Tryz.ntmps7
  go_wp2_with fail
  rw [← hw1]
  clear hw1
  refine (shown12_calls w1).mono ?_
  rintro _ w2 ⟨rfl, hf2⟩
  have HF2 : Hid (Fr w w2) := HF1.out.trans hf2
  obtain ⟨x0, x1, x2, x3⟩ := HX.out w2 hf2
  clear hf2
  go_wp2_with fail
  refine (BOTH.out w2 HF2.out).mono ?_
  rintro _ w3 ⟨hf3, hor⟩
  have HF3 : Hid (Fr w w3) := HF2.out.trans hf3
  clear hf3 x0 x1 x2 x3
  rcases hor with rfl | ⟨x, y, p, base, e0, Ss', rfl, hx, hy, hg⟩
  · go_wp2_with fail
    go_ret
    exact ⟨rfl, HF3.out⟩
  have PUT : Hid (Calls Tryz.prog 11 #[.pointer (some ⟨x, 0, none⟩)] w3 (Made w3 w3.heap.size (encB incW e0 E Ss'))) := put_good hg hx
  have hps := enc_pos (eps := e0) (E := E) (Ss := Ss')
  have hszs : (encB incW e0 E Ss').length ≤ 1073741824 := good_small hg
  obtain ⟨B, hB⟩ : ∃ B, encB incW e0 E Ss' = B := ⟨_, rfl⟩
  rw [hB] at PUT hps hszs
  obtain ⟨L, hL⟩ : ∃ L, B.length = L := ⟨_, rfl⟩
  have PUT2 : Hid (Calls Tryz.prog 11 #[.pointer (some ⟨x, 0, none⟩)] w3 fun e w'' => ∃ A c, e = .returned (.slice A L c) ∧ Own w'' w3.heap.size 5 1 A L c (B.map bv) ∧ Fr w3 w'') := by have := PUT.out; unfold Made at this; rw [hL] at this; exact this
  rw [hL] at hps hszs
  have HLB := Lib.hid hL
  obtain ⟨a2, ha2⟩ : ∃ c2 : Int, c2 = if at1 < 0 then -(at1 + 1) else at1 := ⟨_, rfl⟩
  obtain ⟨b2, hb2⟩ : ∃ c2 : Int, c2 = if bit1 < 0 then -(bit1 + 1) else bit1 := ⟨_, rfl⟩
  have ha0 : 0 ≤ a2 ∧ a2 ≤ 9223372036854775807 := by rw [ha2]; split <;> omega
  have hb0 : 0 ≤ b2 ∧ b2 ≤ 9223372036854775807 := by rw [hb2]; split <;> omega
  obtain ⟨q, hq⟩ : ∃ q : Nat, a2.tmod (L : Int) = (q : Int) := ⟨(a2 % (L : Int)).toNat, by rw [Int.tmod_eq_emod_of_nonneg ha0.1]; have := Int.emod_nonneg a2 (show (L : Int) ≠ 0 by omega); omega⟩
  have hqL : q < L := by
    rw [Int.tmod_eq_emod_of_nonneg ha0.1] at hq
    have := Int.emod_lt_of_pos a2 (show 0 < (L : Int) by omega); omega
  obtain ⟨kb, hkb⟩ : ∃ q : Nat, b2.tmod 8 = (q : Int) := ⟨(b2 % 8).toNat, by rw [Int.tmod_eq_emod_of_nonneg hb0.1]; omega⟩
  have hk8 : kb < 8 := by
    rw [Int.tmod_eq_emod_of_nonneg hb0.1] at hkb
    omega
  have HA2 := Lib.hid ha2
  have HB2 := Lib.hid hb2
  have HQ := Lib.hid hq
  have HKB := Lib.hid hkb
  clear hx hy hg hB hL PUT ha2 hb2 hq hkb
  have hL0 : ((L : Int) == 0) = false := by rw [beq_eq_false_iff_ne]; omega
  have hLn : ¬ ((L : Int) = 0) := by omega
  go_wp2_with fail
  refine PUT2.out.mono ?_
  rintro _ w4 ⟨A4, c4, rfl, ho4, hf4⟩
  have HO4 := Lib.hid ho4
  have HF4 : Hid (Fr w w4) := HF3.out.trans hf4
  have HF34 := Lib.hid hf4
  have hLc := own_le ho4
  clear ho4 hf4
  go_upto_if 40 with fail
  go_cut [1] (fun v1 wx => v1 = .int .i64 a2 ∧ w4 = wx)
  case first =>
    by_cases hneg : at1 < 0
    · have d1 : decide (at1 < 0) = true := decide_eq_true hneg
      have w1' : IntKind.i64.wrap (at1 + 1) = at1 + 1 := wrap_i64_in _ (by omega) (by omega)
      have w2' : IntKind.i64.wrap (-(at1 + 1)) = -(at1 + 1) := wrap_i64_in _ (by omega) (by omega)
      go_wp2_with fail
      go_meet
      exact ⟨by rw [HA2.out, if_pos hneg], rfl⟩
    · have d1 : decide (at1 < 0) = false := decide_eq_false hneg
      have HNG := Lib.hid hneg
      go_wp2_with fail
      go_meet
      exact ⟨by rw [HA2.out, if_neg (by omega)], rfl⟩
  case rest =>
  obtain ⟨rfl, hwc⟩ := hcut
  subst hwc
  go_upto_if 45 with fail
  go_cut [2] (fun v2 wx => v2 = .int .i64 b2 ∧ w4 = wx)
  case first =>
    by_cases hneg : bit1 < 0
    · have d1 : decide (bit1 < 0) = true := decide_eq_true hneg
      have w1' : IntKind.i64.wrap (bit1 + 1) = bit1 + 1 := wrap_i64_in _ (by omega) (by omega)
      have w2' : IntKind.i64.wrap (-(bit1 + 1)) = -(bit1 + 1) := wrap_i64_in _ (by omega) (by omega)
      go_wp2_with fail
      go_meet
      exact ⟨by rw [HB2.out, if_pos hneg], rfl⟩
    · have d1 : decide (bit1 < 0) = false := decide_eq_false hneg
      have HNG := Lib.hid hneg
      go_wp2_with fail
      go_meet
      exact ⟨by rw [HB2.out, if_neg (by omega)], rfl⟩
  case rest =>
  obtain ⟨rfl, hwc⟩ := hcut
  subst hwc
  go_upto_region 14 with fail
  obtain ⟨bb, hbb⟩ := own_some HO4.out (by omega)
  subst hbb
  obtain ⟨cs4, hcs4⟩ := own_ty HO4.out (k := bb) rfl
  have hzq := blk_frozen hcs4 q
  obtain ⟨xq, hxq⟩ : ∃ xq, B[q]? = some xq := ⟨_, List.getElem?_eq_getElem (by rw [HLB.out]; exact hqL)⟩
  have hcq : w4.cell? ⟨bb, q, none⟩ = some (.int .u8 xq.toNat) := by
    have h9 := HO4.out.rd.get q (bv xq) (by rw [List.getElem?_map, hxq]; rfl)
    rw [Nat.zero_add] at h9
    exact h9
  have hcq0 := Lib.hid hcq
  have hqe := HQ.out
  have hke := HKB.out
  have hql : (q : Int) < (L : Int) := by omega
  have hql0 : (0 : Int) ≤ (q : Int) := by omega
  have HCS4 := Lib.hid hcs4
  have hLN : ¬ (L = 0) := by omega
  clear hcs4 hxq
  refine wp_region_quiet_tail 12 (by kernel_rfl) (by kernel_rfl) ?_
  try simp only [List.take_succ_cons, List.take_zero, List.drop_succ_cons, List.drop_zero]
  try go_frame
  repeat (quiet_step (fail))
  refine wpQuiet_nil ?_
  intro _ hw'
  obtain ⟨nd, rfl⟩ := hw'
  obtain ⟨w5, hw5⟩ : ∃ w5, w5 = w4.drewN nd := ⟨_, rfl⟩
  rw [← hw5]
  have HF45 : Hid (Fr w4 w5) := by rw [hw5]; exact fr_drewN _ _
  clear hw5 hcq hzq
  have HCS5 := Lib.hid (HF45.out.blk HCS4.out)
  have hzq := blk_frozen HCS5.out q
  have hcq2 := HF45.out.cell hcq0.out
  obtain ⟨z8, hz8⟩ := byte_of (bits .xor .u8 (xq.toNat : Nat) (2 ^ kb % 256)) ⟨(bits_within .xor .u8 _ _).1, (bits_within .xor .u8 _ _).2⟩
  obtain ⟨bs, hbs⟩ : ∃ bs, bs = B.set q z8 := ⟨_, rfl⟩
  have hbl : bs.length = L := by rw [hbs, List.length_set]; exact HLB.out
  obtain ⟨w6, hw6⟩ : ∃ w6, w6 = w5.setCell ⟨bb, q, none⟩ (.int .u8 (bits .xor .u8 (xq.toNat : Nat) (2 ^ kb % 256))) := ⟨_, rfl⟩
  have HRD : Hid (RdC w6 (some ⟨bb, 0, none⟩) (bs.map bv)) := by
    rw [hw6, hz8, hbs, Hid, List.map_set]
    exact rdc_set1 HCS5.out (HO4.out.rd.fr HF45.out) q (by rw [List.length_map, HLB.out]; exact hqL) _
  have HF6 : Hid (Fr w w6) := by
    rw [hw6]; exact (HF4.out.trans HF45.out).set (p := ⟨bb, q, none⟩) (Nat.le_trans HF3.out.size (HO4.out.lt bb rfl).1) _
  have HBL := Lib.hid hbl
  clear hbs hbl hz8
  cases hgb : getB (bstr bs) with
  | none =>
    have GN := Lib.hid (get_none (some ⟨bb, 0, none⟩) L c4 bs HBL.out.symm (by have := HBL.out; omega) w6 HRD.out hgb)
    clear hgb
    go_wp2_with fail
    rw [← hw6]
    clear hw6
    refine GN.out.mono ?_
    rintro _ w7 ⟨hf7, rfl⟩
    have HF7 : Hid (Fr w w7) := HF6.out.trans hf7
    clear hf7
    go_wp2_with fail
    go_ret
    exact ⟨rfl, HF7.out⟩
  | some X =>
    obtain ⟨eps', E2, S2⟩ := X
    have GS := Lib.hid (get_some (some ⟨bb, 0, none⟩) L c4 bs HBL.out.symm (by have := HBL.out; omega) w6 HRD.out hgb)
    have PB : Hid (∀ w' r base, IsRun w' r base (eps' : Nat) E2 S2 → Calls Tryz.prog 11 #[.pointer (some ⟨r, 0, none⟩)] w' (Made w' w'.heap.size bs)) := fun w' r base h => put_back12 hgb (by have := HBL.out; omega) h
    have PB2 : Hid (∀ w' r base, IsRun w' r base (eps' : Nat) E2 S2 → Calls Tryz.prog 11 #[.pointer (some ⟨r, 0, none⟩)] w' fun e w'' => ∃ A c, e = .returned (.slice A L c) ∧ Own w'' w'.heap.size 5 1 A L c (bs.map bv) ∧ Fr w' w'') := fun w' r base h => by have := PB.out w' r base h; unfold Made at this; rw [HBL.out] at this; exact this
    obtain ⟨hcd, hbe, hep, hV, hck⟩ := getB_back hgb
    obtain ⟨s1, s2, s3⟩ := enc_small (eps := eps') (E := E2) (Ss := S2)
    rw [← hbe, HBL.out] at s1 s2 s3
    have TK : Hid (∀ w' r base, IsRun w' r base (eps' : Nat) E2 S2 → ∃ p, Taken w' r p (eps' : Nat) E2 S2) := fun w' r base h => taken_of h (fun e he => (hcd.ents e he).1) (by omega) hcd.fit hV hck
    have HE2 := Lib.hid (fun e he => (hcd.ents e he).1)
    have HSTR : Hid (∀ w' A' c', RdC w' A' (bs.map bv) → (convert 31 9 (.slice A' L c')).run Tryz.prog w' = .ok (.string (bstr bs)) w') := fun w' A' c' h => run_str (P := Tryz.prog) 31 5 9 Tryz.underlying31 Tryz.underlying5 Tryz.underlying9 w' A' L c' bs HBL.out.symm h
    obtain ⟨n2, hn2⟩ : ∃ n2, E2.length = n2 := ⟨_, rfl⟩
    rw [hn2] at s1
    have HN2 := Lib.hid hn2
    clear hgb hcd hbe hep hV hck s2 s3 hn2 PB
    go_wp2_with fail
    rw [← hw6]
    clear hw6
    refine GS.out.mono ?_
    rintro _ w7 ⟨hf7, z, bz, rfl, hbz, hz⟩
    have HF7 : Hid (Fr w w7) := HF6.out.trans hf7
    have HRD7 : Hid (RdC w7 (some ⟨bb, 0, none⟩) (bs.map bv)) := HRD.out.fr hf7
    have HZ := Lib.hid hz
    obtain ⟨pz, hT⟩ := TK.out w7 z bz hz
    have HT := Lib.hid hT
    clear hf7 hbz hz hT
    go_wp2_with fail
    refine (PB2.out w7 z bz HZ.out).mono ?_
    rintro _ w8 ⟨A8, c8, rfl, ho8, hf8⟩
    have HF78 : Hid (Fr w7 w8) := hf8
    have e1 := HSTR.out w8 A8 c8 ho8.rd
    have e2 := HSTR.out w8 (some ⟨bb, 0, none⟩) c4 (HRD7.out.fr hf8)
    clear ho8 hf8
    go_wp2_with fail
    clear e1 e2
    have LST := rlist_calls z pz (eps' : Nat) E2 S2 (by have := HN2.out; omega) w8.heap.size w8 (Nat.le_refl _) (HT.out.run.fr HF78.out)
    rw [HN2.out] at LST
    refine LST.mono ?_
    rintro _ w9 ⟨A9, c9, rfl, ho9, hf9⟩
    have HR9 : Hid (RdC w9 A9 (E2.flatMap encells)) := ho9.rd
    have HF79 : Hid (Fr w7 w9) := HF78.out.trans hf9
    clear ho9 hf9 LST
    go_wp2_with fail
    go_loopw [16] (fun v wr => ∃ i : Nat, v = .int .i64 i ∧ i ≤ n2 ∧ Hid (Fr w9 wr)) (fun v _ => n2 - (intOf v).toNat)
    case atStart => exact ⟨0, rfl, by omega, Fr.refl _⟩
    case round =>
      obtain ⟨i, rfl, hin, hf⟩ := hrel
      rcases Nat.lt_or_ge i n2 with hlt | hge
      · have g1 : decide (i < n2) = true := decide_eq_true hlt
        have g1' : (i : Int) < (n2 : Int) := by omega
        have hiE : i < E2.length := by have := HN2.out; omega
        have wi : IntKind.i64.wrap ((i : Int) + 1) = (i : Int) + 1 := wrap_i64_in _ (by omega) (by omega)
        obtain ⟨xe, hxe⟩ : ∃ xe, E2[i] = xe := ⟨_, rfl⟩
        have hxk : ky (keysE E2) i = xe.key := by unfold keysE ky; simp [hiE, hxe]
        have hxo := HE2.out xe (by rw [← hxe]; exact List.getElem_mem hiE)
        have hrk := rank_at12 HT.out.ok.rise (i := i) (by rw [keysE_len]; exact hiE)
        rw [hxk] at hrk
        have HRK := Lib.hid hrk
        have HXK := Lib.hid hxk
        obtain ⟨b, off, hA, hcc⟩ := rdc_ent HR9.out (by omega)
        obtain ⟨q0, q1, q2⟩ := hcc i hiE
        rw [hxe] at q0 q1 q2
        obtain ⟨xk, xv, xg⟩ := xe
        have HIE := Lib.hid hiE
        have HXE : Hid (E2[i]? = some ⟨xk, xv, xg⟩) := by rw [Hid, List.getElem?_eq_getElem hiE, hxe]
        have R2 : Hid (∀ w', Fr w7 w' → Calls Tryz.prog 19 #[.pointer (some ⟨z, 0, none⟩), .int .u64 xk] w' fun e w'' => Fr w' w'' ∧ e = .returned (.tuple #[.agg #[.int .u64 xk, .int .u64 xv, .bool xg], .bool true])) :=
          fun w' h => (rget_calls z pz (eps' : Nat) E2 S2 xk w' (HT.out.run.fr h) HT.out.ok hxo.1).mono fun _ _ ⟨h1, mm, h2, h3⟩ => ⟨h1, by
            obtain rfl := h2.unique HRK.out
            rw [decide_eq_true (show mm < (keysE E2).length ∧ ky (keysE E2) mm = xk from ⟨by rw [keysE_len]; exact HIE.out, HXK.out⟩)] at h3
            rw [h3]
            have : getV E2 mm true = ⟨xk, xv, xg⟩ := by unfold getV; rw [if_pos rfl, List.getD_eq_getElem?_getD, HXE.out]; rfl
            rw [this]; rfl⟩
        have R3 : Hid (∀ w', Fr w7 w' → Calls Tryz.prog 20 #[.pointer (some ⟨z, 0, none⟩), .int .u64 xk] w' fun e w'' => Fr w' w'' ∧ e = .returned (.int .i64 (i : Nat))) :=
          fun w' h => (rrank_calls z pz (eps' : Nat) E2 S2 xk w' (HT.out.run.fr h) HT.out.ok hxo.1).mono fun _ _ ⟨h1, mm, h2, h3⟩ => ⟨h1, by
            obtain rfl := h2.unique HRK.out
            exact h3⟩
        subst hA
        have HRD9 : Hid (∀ w', Fr w9 w' → w'.cell? ⟨b, off + i * 3, none⟩ = some (.int .u64 xk) ∧ w'.cell? ⟨b, off + i * 3 + 1, none⟩ = some (.int .u64 xv) ∧ w'.cell? ⟨b, off + i * 3 + 2, none⟩ = some (.bool xg)) := fun w' h => ⟨h.cell q0, h.cell q1, h.cell q2⟩
        clear hcc q0 q1 q2 hxe hxk hxo hrk hiE
        obtain ⟨x0, x1, x2⟩ := HRD9.out wr hf.out
        have HF7r : Hid (Fr w7 wr) := HF79.out.trans hf.out
        go_wp2_with fail
        refine (R2.out wr HF7r.out).mono ?_
        rintro _ w10 ⟨hf10, rfl⟩
        have HF10 : Hid (Fr wr w10) := hf10
        have HC5 := Lib.hid (heap_alloc_new w10 (.cells #[.int .u64 xk, .int .u64 xv, .bool xg] 52))
        clear hf10 x0 x1 x2
        go_wp2_with fail
        obtain ⟨g4, hg4⟩ : ∃ g4, g4 = w10.heap.size := ⟨_, rfl⟩
        obtain ⟨w11, hw11⟩ : ∃ w11, w11 = w10.alloc (.cells #[.int .u64 xk, .int .u64 xv, .bool xg] 52) := ⟨_, rfl⟩
        have HF11 : Hid (Fr wr w11) := by rw [hw11]; exact HF10.out.alloc _
        rw [← hw11] at HC5 ⊢
        rw [← hg4] at HC5 ⊢
        clear hg4 hw11
        obtain ⟨x0, x1, x2⟩ := HRD9.out w11 (hf.out.trans HF11.out)
        obtain ⟨z0, z1, z2⟩ := cells3 HC5.out
        have he := ent_neq
        have hee : eqE ⟨xk, xv, xg⟩ ⟨xk, xv, xg⟩ = true := eqE_iff.2 rfl
        have HALL : Hid (∀ w', Fr w11 w' → (w'.cell? ⟨b, off + i * 3, none⟩ = some (.int .u64 xk) ∧ w'.cell? ⟨b, off + i * 3 + 1, none⟩ = some (.int .u64 xv) ∧ w'.cell? ⟨b, off + i * 3 + 2, none⟩ = some (.bool xg)) ∧
            (w'.cell? ⟨g4, 0, none⟩ = some (.int .u64 xk) ∧ w'.cell? ⟨g4, 1, none⟩ = some (.int .u64 xv) ∧ w'.cell? ⟨g4, 2, none⟩ = some (.bool xg))) :=
          fun w' h => ⟨⟨h.cell x0, h.cell x1, h.cell x2⟩, h.cell z0, h.cell z1, h.cell z2⟩
        go_region_held3 (fun w' => (w'.cell? ⟨b, off + i * 3, none⟩ = some (.int .u64 xk) ∧ w'.cell? ⟨b, off + i * 3 + 1, none⟩ = some (.int .u64 xv) ∧ w'.cell? ⟨b, off + i * 3 + 2, none⟩ = some (.bool xg)) ∧
            (w'.cell? ⟨g4, 0, none⟩ = some (.int .u64 xk) ∧ w'.cell? ⟨g4, 1, none⟩ = some (.int .u64 xv) ∧ w'.cell? ⟨g4, 2, none⟩ = some (.bool xg)))
          (first | exact HALL.out _ hfa.out | exact HALL.out _ (Fr.refl _) | exact HALL.out _ (Fr.refl _).drew)
          (first | (go_at_call 20; refine (R3.out _ (HF7r.out.trans HF11.out.drew)).mono ?_; rintro e wq ⟨hqq, rfl⟩; have hfa : Hid (Fr w11 wq) := (Fr.refl w11).drew.trans hqq))
        go_wp2_with fail
        exact ⟨⟨i + 1, rfl, by omega, hf.out.trans (HF11.out.trans hfa.out)⟩, by simp only [intOf]; omega⟩
      · obtain rfl : i = n2 := by omega
        have g1 : decide (i < i) = false := by simp
        go_wp2_with fail
        go_ret
        exact ⟨rfl, HF7.out.trans (HF79.out.trans hf.out)⟩
end Go.Proofs.YthjimnmgbcckjaaGreat
namespace Go.Proofs.YthjimnmgbcckjaaGreat.rowCTurned
open Go.ChangeShapes Go.WideShapes Go.ChangeAt Go.RowKit Go.Inc

open Go.Run
open Go.Proofs.YthjimnmgbcckjaaGreat
set_option maxHeartbeats 1000000 in
set_option maxRecDepth 100000 in
theorem contract (H : Type) (enc : TypeId × Value → H) (W : World) (base : Nat) (args : Array Value) (ds gs : List (DataW H)) (before : List MemPlace)
    (hval : ∀ (j : Nat) t v, Tryz.f7.params[j]? = some t → args[j]? = some v → Value.okWide Tryz.prog W .any base t v)
    (hW : DataW.Whole enc Tryz.prog Tryz.f7.params.toList Rows.codecTurnedSpec.vars false W args.toList ds gs before) (hk : Rows.uptoSmall H (ds ++ gs) = true) :
    Calls Tryz.prog 7 args W fun e W' => ∃ v, e = .returned v ∧ Rows.codecTurnedSpec.post enc Tryz.prog Tryz.f7 false true false false W args v W' := by
  have hW' := hW
  obtain ⟨p, q, hA0, hV, rfl, hfz, hnd⟩ := hW
  have hA : DataW.TrodAll enc Tryz.prog W 0 (fun _ => true) true Tryz.f7.params.toList args.toList ds p := hA0
  rw [Tryz.params7] at hA hval
  obtain ⟨v0, vs0, d0, ds0, p0, q0, hargs, rfl, rfl, h0, r0⟩ := trodAll_cons hA
  obtain ⟨v1, vs1, d1, ds1, p1, q1, rfl, rfl, rfl, h1, r1⟩ := trodAll_cons r0
  obtain ⟨v2, vs2, d2, ds2, p2, q2, rfl, rfl, rfl, h2, r2⟩ := trodAll_cons r1
  obtain ⟨rfl, rfl, rfl⟩ := trodAll_nil r2
  obtain rfl : args = #[v0, v1, v2] := by cases args; simp_all
  obtain ⟨rfl, rfl⟩ := trodVars_none hV
  have hk2 := bulk_small hk
  simp only [List.append_nil, Rows.uptoBulkAll] at hk2
  obtain ⟨cs0, rfl, hcz0⟩ := okWide_struct Tryz.underlying25 (hval 0 25 v0 rfl rfl)
  obtain ⟨fuel0, hf0⟩ := h0
  obtain ⟨m0, hm0, hok0⟩ := open_made fuel0 _ _ _ hf0 (by omega)
  have hv0 : Value.agg cs0 = m0.val := by
    obtain ⟨l0⟩ := cs0
    simp [Value.cells] at hm0
    rw [hm0]
    rfl
  rw [hv0] at hW' ⊢
  obtain ⟨x1, rfl, rfl, rfl, w1⟩ := open_int Tryz.underlying3 (hval 1 3 v1 rfl rfl) h1
  have b1 : -9223372036854775808 ≤ x1 ∧ x1 ≤ 9223372036854775807 := by simpa [Lit.wf, IntKind.min, IntKind.max, IntKind.signed, IntKind.bits] using w1
  obtain ⟨x2, rfl, rfl, rfl, w2⟩ := open_int Tryz.underlying3 (hval 2 3 v2 rfl rfl) h2
  have b2 : -9223372036854775808 ≤ x2 ∧ x2 ≤ 9223372036854775807 := by simpa [Lit.wf, IntKind.min, IntKind.max, IntKind.signed, IntKind.bits] using w2

  refine (codecTurned_calls m0 x1 x2 b1 b2 W hok0).mono fun e W' ⟨he, hg⟩ => ?_
  subst he
  exact ⟨_, rfl, law_post laidOut rfl 4 rfl Tryz.underlying4 (fun ds h => by
    match ds, h with
    | [_, _, _], _ => rfl) (by kernel_rfl) hW' hg⟩

set_option maxRecDepth 100000 in
theorem lifted (os : Os) (started : os.Started) (H : Type) (enc : TypeId × Value → H) (F : Stop.Interp) :
    ReturnsInHanded {} Tryz.checked os 7 .any ((Rows.OpenSpec.upto Rows.codecTurnedSpec).pre6 enc Tryz.prog Tryz.f7 Rows.codecTurnedUptoRow.domain false) (((Rows.OpenSpec.upto Rows.codecTurnedSpec).at F).post enc Tryz.prog Tryz.f7 false true false false) := by
  refine returnsInHanded_of_cond (C := Tryz.checked) (s := Rows.OpenSpec.upto Rows.codecTurnedSpec) (k := Rows.uptoSmall) rfl own started (by kernel_rfl) Tryz.func7
    (OpenSpec.witness (enc := enc) (C := Tryz.checked) (s := Rows.OpenSpec.upto Rows.codecTurnedSpec) (k := Rows.uptoSmall) rfl false ⟨#[], #[.agg #[.slice none 0 0, .int .i64 0, .bool false, .slice none 0 0], .int .i64 0, .int .i64 0], []⟩ 8 (by kernel_rfl) (by kernel_rfl) (by kernel_rfl)
      (x := ([.agg [.nil, .lit (.int .i64 0), .lit (.bool false), .nil], .lit (.int .i64 0), .lit (.int .i64 0)], [], [])) (by kernel_rfl) rfl (by kernel_rfl)) ?_
  intro W base args ds gs before hval hW _ hk _
  exact contract H enc W base args ds gs before hval hW hk

theorem proved : Rows.CodecTurnedUptoSaid :=
  OpenClaim.holds_of_cond 7 Tryz.f7 rfl rfl rfl rfl rfl rfl rfl ⟨rfl, rfl, rfl, rfl, rfl⟩ rfl rfl rfl rfl rfl (by kernel_rfl) Tryz.func7 (by kernel_rfl)
    (of_decide_eq_true (by kernel_rfl)) (by unfold Func.isWrapper; first | (rw [if_pos (by decide +kernel)]; kernel_rfl) | (rw [if_neg (by decide +kernel)]; exact ⟨rfl, rfl⟩))
    (fun os started H enc _ F => lifted os started H enc F)

end Go.Proofs.YthjimnmgbcckjaaGreat.rowCTurned
#print axioms Go.Proofs.YthjimnmgbcckjaaGreat.rowCTurned.proved
