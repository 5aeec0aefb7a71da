/- Parts of this proof, one behind the other: RunM, Vis, LookR, DescR, Path. -/
import Derived.Test.YtelpbbkmkighfaaGreatQJ
import Derived.Test.YtelpbbkmkighfaaGreatQI
namespace Go.Proofs.YtelpbbkmkighfaaGreat
open Go.RowKit Go.Inc Go.Run
theorem size_pile : (Tryz.prog.info? 61).map (·.size) = some 1 := by kernel_rfl
theorem und_pile : Tryz.prog.underlying 61 = some (.pointer 92) := by kernel_rfl
/-- A method that a run has from its pile. -/
theorem meth_of (name : String) (f : Nat) (hinfo : (Tryz.prog.info? 25).map (fun i => (i.methods.find? (·.name == name)).map (fun m => (m.path, m.func))) = some (some (#[⟨63, 0, true⟩], some (f, true))))
    (r p : Nat) (N : Nat) (w : World) (h : w.cell? ⟨r, 0, none⟩ = some (.pointer (some ⟨p, 0, none⟩))) : (method (N + 1) 25 (.pointer (some ⟨r, 0, none⟩)) name).run Tryz.prog w = .ok (f, .pointer (some ⟨p, 0, none⟩)) w := by
  obtain ⟨I, hI, hm⟩ := Option.map_eq_some_iff.1 hinfo
  obtain ⟨m, hm1, hm⟩ := Option.map_eq_some_iff.1 hm
  simp only [Prod.mk.injEq] at hm
  obtain ⟨hp, hf⟩ := hm
  obtain ⟨J, hJ, hs⟩ := Option.map_eq_some_iff.1 size_pile
  unfold method
  simp [typeInfo, hI, hm1, hp, hf, follow, Place.get, asAddr, fieldPlace, receiverAt, hJ, hs, sizeOf, go_sem]
  have hu := fun w => run_underlying (w := w) und_pile
  simp [h]
theorem m_eps (r p : Nat) (w : World) (h : w.cell? ⟨r, 0, none⟩ = some (.pointer (some ⟨p, 0, none⟩))) (N : Nat) : (method (N + 1) 25 (.pointer (some ⟨r, 0, none⟩)) "Eps").run Tryz.prog w = .ok (40, .pointer (some ⟨p, 0, none⟩)) w := meth_of "Eps" _ (by kernel_rfl) r p N w h
theorem m_height (r p : Nat) (w : World) (h : w.cell? ⟨r, 0, none⟩ = some (.pointer (some ⟨p, 0, none⟩))) (N : Nat) : (method (N + 1) 25 (.pointer (some ⟨r, 0, none⟩)) "Height").run Tryz.prog w = .ok (24, .pointer (some ⟨p, 0, none⟩)) w := meth_of "Height" _ (by kernel_rfl) r p N w h
theorem m_size (r p : Nat) (w : World) (h : w.cell? ⟨r, 0, none⟩ = some (.pointer (some ⟨p, 0, none⟩))) (N : Nat) : (method (N + 1) 25 (.pointer (some ⟨r, 0, none⟩)) "Size").run Tryz.prog w = .ok (25, .pointer (some ⟨p, 0, none⟩)) w := meth_of "Size" _ (by kernel_rfl) r p N w h
theorem m_key (r p : Nat) (w : World) (h : w.cell? ⟨r, 0, none⟩ = some (.pointer (some ⟨p, 0, none⟩))) (N : Nat) : (method (N + 1) 25 (.pointer (some ⟨r, 0, none⟩)) "Key").run Tryz.prog w = .ok (27, .pointer (some ⟨p, 0, none⟩)) w := meth_of "Key" _ (by kernel_rfl) r p N w h
theorem m_segment (r p : Nat) (w : World) (h : w.cell? ⟨r, 0, none⟩ = some (.pointer (some ⟨p, 0, none⟩))) (N : Nat) : (method (N + 1) 25 (.pointer (some ⟨r, 0, none⟩)) "Segment").run Tryz.prog w = .ok (22, .pointer (some ⟨p, 0, none⟩)) w := meth_of "Segment" _ (by kernel_rfl) r p N w h
end Go.Proofs.YtelpbbkmkighfaaGreat
namespace Go.Run
/-- A visit. -/
structure Vis where
  lev : Int
  slot : Int
  guess : Int
  lo : Int
  hi : Int
  rank : Int
end Go.Run
namespace Go.Proofs.YtelpbbkmkighfaaGreat
open Go.RowKit Go.Inc Go.Run
def vcells (v : Vis) : List Value := [.int .i64 v.lev, .int .i64 v.slot, .int .i64 v.guess, .int .i64 v.lo, .int .i64 v.hi, .int .i64 v.rank]
def visVal (v : Vis) : Value := .agg #[.int .i64 v.lev, .int .i64 v.slot, .int .i64 v.guess, .int .i64 v.lo, .int .i64 v.hi, .int .i64 v.rank]
theorem vcells_len (v : Vis) : (vcells v).length = 6 := rfl
/-- The visit of a level is right. -/
def VisOk (eps : Int) (K : List Int) (Ss : List (List Seg)) (k : Int) (l : Nat) (v : Vis) (b : Bool) : Prop :=
  ∃ (a r : Nat) (s : Seg), (Ss.getD l [])[a]? = some s ∧ v = ⟨l, a, guessV s k, max s.frm (guessV s k - eps - 1), min s.upto (guessV s k + eps + 1), r⟩ ∧ IsRank (lvK K Ss l) k r ∧
    b = decide (r < (lvK K Ss l).length ∧ ky (lvK K Ss l) r = k) ∧ Window (lvK K Ss l) k eps s r
/-- Where a descent stands. -/
structure DownG (K : List Int) (Ss : List (List Seg)) (k : Int) (w0 : World) (L : Nat → Prop) (J I : Nat → World → Prop) (w : World) (j at_ : Nat) : Prop where
  mv : Mv L w0 w
  hj : J j w
  hi : I j w
  cov : 0 < j → Cover (lvK K Ss j) k at_
end Go.Proofs.YtelpbbkmkighfaaGreat
namespace Go.Proofs.YtelpbbkmkighfaaGreat
set_option maxRecDepth 100000
open Go.RowKit Go.Inc Go.Run


theorem lookR_calls (r0 p : Nat) (eps : Int) (K : List Int) (Ss : List (List Seg)) (l : Int) (lo hi up r : Nat) (k : Int) (hl : -9223372036854775808 ≤ l ∧ l ≤ 9223372036854775807) (hlo : lo ≤ r) (hrh : r ≤ hi) (hh : hi ≤ 4294967296) (_hu : up ≤ 4294967296)
    (hbel : ∀ i : Nat, lo ≤ i → i < r → keyV K Ss l i < k) (habo : ∀ i : Nat, r ≤ i → i < hi → k ≤ keyV K Ss l i) (w : World) (h : PileR w p eps K Ss) (hcell : w.cell? ⟨r0, 0, none⟩ = some (.pointer (some ⟨p, 0, none⟩)))
    (hB : K.length ≤ 4294967296 ∧ ∀ S ∈ Ss, S.length ≤ 4294967296) :
    Calls Tryz.prog 83 #[.pointer (some ⟨r0, 0, none⟩), .int .i64 l, .int .i64 lo, .int .i64 hi, .int .i64 up, .int .u64 k] w fun e w' => e = .returned (.tuple #[.int .i64 (r : Nat), .bool (decide ((r < hi ∨ r < up) ∧ keyV K Ss l r = k))]) ∧ w' = w := by
  have PK : Hid (∀ i : Nat, i ≤ 4294967296 → Calls Tryz.prog 27 #[.pointer (some ⟨p, 0, none⟩), .int .i64 l, .int .i64 (i : Nat)] w fun e w' => e = .returned (.int .u64 (keyV K Ss l i)) ∧ w' = w) := fun i hi => pkey_calls p eps K Ss l i hl (by omega) w h hB
  have HBE := Lib.hid hbel
  have HAB := Lib.hid habo
  obtain ⟨kv, hkv⟩ : ∃ kv : Nat → Int, ∀ i : Nat, keyV K Ss l i = kv i := ⟨fun i => keyV K Ss l i, fun _ => rfl⟩
  simp only [hkv] at PK HBE HAB ⊢
  clear h hB hbel habo hl hkv
  obtain ⟨w0, hw0⟩ : ∃ w0, w0 = w := ⟨_, rfl⟩
  have hm := m_key r0 p w hcell
  clear hcell
  go_enter Tryz.func83, Tryz.ntmps83
  go_wp2_with fail
  go_loopw [2, 3, 14, 15] (fun v2 v3 v14 v15 wr => ∃ (a b : Nat) (kn : Bool) (kk : Int), v2 = .int .i64 a ∧ v3 = .int .i64 b ∧ v14 = .bool kn ∧ v15 = .int .u64 kk ∧ lo ≤ a ∧ a ≤ r ∧ r ≤ b ∧ b ≤ hi ∧ Hid (kn = decide (b < hi)) ∧ Hid (b < hi → kk = kv b) ∧ wr = w) (fun v2 v3 _ _ _ => (intOf v3).toNat - (intOf v2).toNat)
  case atStart => exact ⟨lo, hi, false, 0, rfl, rfl, rfl, rfl, by omega, by omega, by omega, by omega, by rw [Hid]; simp, fun h => absurd h (by omega), rfl⟩
  case round =>
    obtain ⟨a, b, kn, kk, rfl, rfl, rfl, rfl, hla, har, hrb, hbh, hkn, hkk, rfl⟩ := hrel
    rcases Nat.lt_or_ge a b with hlt | hge
    · have g1 : decide (a < b) = true := decide_eq_true hlt
      obtain ⟨m, hm⟩ : ∃ m, m = (a + b) / 2 := ⟨_, rfl⟩
      have wa : IntKind.i64.wrap ((a : Int) + (b : Int)) = (a : Int) + (b : Int) := wrap_i64_in _ (by omega) (by omega)
      have wq : IntKind.i64.wrap (Int.tdiv ((a : Int) + (b : Int)) 2) = (m : Int) := by
        rw [Int.tdiv_eq_ediv_of_nonneg (by omega), wrap_i64_in _ (by omega) (by omega)]; omega
      have hma : a ≤ m := by omega
      have hmb : m < b := by omega
      have wm : IntKind.i64.wrap ((m : Int) + 1) = (m : Int) + 1 := wrap_i64_in _ (by omega) (by omega)
      have HM := Lib.hid hm
      clear hm
      go_wp2_with fail

      refine (PK.out m (by omega)).mono ?_
      rintro _ w2 ⟨rfl, rfl⟩
      by_cases hc : kv m < k
      · have d2 : decide (kv m < k) = true := decide_eq_true hc
        go_wp2_with fail
        refine ⟨⟨m + 1, b, kn, kk, rfl, rfl, rfl, rfl, by omega, ?_, hrb, hbh, hkn.out, hkk.out, trivial⟩, by simp only [intOf]; omega⟩
        rcases Nat.lt_or_ge m r with h | h
        · exact h
        · exact absurd (HAB.out m h (by omega)) (by omega)
      · have d2 : decide (kv m < k) = false := decide_eq_false hc
        go_wp2_with fail
        refine ⟨⟨a, m, true, kv m, rfl, rfl, rfl, rfl, hla, har, ?_, by omega, ?_, fun _ => rfl, trivial⟩, by simp only [intOf]; omega⟩
        · rcases Nat.lt_or_ge m r with h | h
          · exact absurd (HBE.out m (by omega) h) (by omega)
          · exact h
        · exact (decide_eq_true (by omega)).symm
    · obtain rfl : a = r := by omega
      obtain rfl : a = b := by omega
      have g1 : decide (a < a) = false := by simp
      by_cases hk : a < hi
      · obtain rfl : kn = true := by rw [hkn.out]; exact decide_eq_true hk
        obtain rfl : kk = kv a := hkk.out hk
        have hp : Hid (decide ((a < hi ∨ a < up) ∧ kv a = k) = (kv a == k)) := by
          rw [Hid]
          by_cases h : kv a = k
          · rw [decide_eq_true ⟨.inl hk, h⟩]; simp [h]
          · rw [decide_eq_false (fun q => h q.2)]; simp [h]
        clear hkk hkn hk
        go_wp2_with fail
        refine bodyPost_ret (results_tmp2 rfl _ _ _) rfl ?_
        exact ⟨by rw [hp.out]; rfl, rfl⟩
      · obtain rfl : kn = false := by rw [hkn.out]; exact decide_eq_false hk
        by_cases hup : a < up
        · have d3 : decide (a < up) = true := decide_eq_true hup
          have hp : Hid (decide ((a < hi ∨ a < up) ∧ kv a = k) = (kv a == k)) := by
            rw [Hid]
            by_cases h : kv a = k
            · rw [decide_eq_true ⟨.inr hup, h⟩]; simp [h]
            · rw [decide_eq_false (fun q => h q.2)]; simp [h]
          clear hkk hkn hk
          go_wp2_with fail
          refine (PK.out a (by omega)).mono ?_
          rintro _ w2 ⟨rfl, rfl⟩
          go_wp2_with fail
          refine bodyPost_ret (results_tmp2 rfl _ _ _) rfl ?_
          exact ⟨by rw [hp.out]; rfl, rfl⟩
        · have d3 : decide (a < up) = false := decide_eq_false hup
          have hp : Hid (decide ((a < hi ∨ a < up) ∧ kv a = k) = false) := by
            rw [Hid]
            exact decide_eq_false (fun q => q.1.elim (fun h => hk h) (fun h => hup h))
          clear hkk hkn hk
          go_wp2_with fail
          refine bodyPost_ret (results_tmp2 rfl _ _ _) rfl ?_
          exact ⟨by rw [hp.out]; rfl, rfl⟩
end Go.Proofs.YtelpbbkmkighfaaGreat
namespace Go.Proofs.YtelpbbkmkighfaaGreat
set_option maxRecDepth 100000
open Go.RowKit Go.Inc Go.Run
attribute [local go_sem] run_store_float
set_option maxHeartbeats 8000000 in
theorem descR_calls (r0 p : Nat) (eps : Int) (K : List Int) (Ss : List (List Seg)) (k : Int) (g5 : Nat) (w0 w : World) (L : Nat → Prop) (J I : Nat → World → Prop)
    (hE : ∀ w j, Mv L w0 w → J j w → Calls Tryz.prog 40 #[.pointer (some ⟨p, 0, none⟩)] w fun e w' => e = .returned (.int .i64 eps) ∧ w' = w)
    (hH : ∀ w j, Mv L w0 w → J j w → Calls Tryz.prog 24 #[.pointer (some ⟨p, 0, none⟩)] w fun e w' => e = .returned (.int .i64 (Ss.length : Nat)) ∧ w' = w)
    (hSg : ∀ w j (l a : Nat), l ≤ 4294967296 → a ≤ 4294967296 → Mv L w0 w → J j w → Calls Tryz.prog 22 #[.pointer (some ⟨p, 0, none⟩), .int .i64 ((l : Int) + 1), .int .i64 (a : Nat)] w fun e w' => e = .returned (segVal (segV K Ss ((l : Int) + 1) a)) ∧ Fr w w')
    (hLk : ∀ w (l lo hi up r : Nat), Mv L w0 w → J (l + 1) w → l < Ss.length → lo ≤ r → r ≤ hi → hi ≤ 4294967296 → up ≤ 4294967296 → (hi : Int) ≤ lo + (2 * eps + 2) → (∀ i : Nat, lo ≤ i → i < r → keyV K Ss l i < k) → (∀ i : Nat, r ≤ i → i < hi → k ≤ keyV K Ss l i) →
      Calls Tryz.prog 83 #[.pointer (some ⟨r0, 0, none⟩), .int .i64 (l : Nat), .int .i64 lo, .int .i64 hi, .int .i64 up, .int .u64 k] w fun e w' => e = .returned (.tuple #[.int .i64 (r : Nat), .bool (decide ((r < hi ∨ r < up) ∧ keyV K Ss l r = k))]) ∧ Mv L w w' ∧ J l w')
    (hJf : ∀ j w w' S, Mv L w0 w → J j w → Mv S w w' → (∀ k, S k → w0.heap.size ≤ k) → J j w')
    (hIf : ∀ j w w', Mv L w0 w → I j w → Mv L w w' → I j w')
    (hLb : ∀ k, L k → k < w0.heap.size)
    (hC : ∀ (l : Nat) wr v b, I (l + 1) wr → Mv L w0 wr → VisOk eps K Ss k l v b → ∃ S : Nat → Prop, (∀ k, S k → w0.heap.size ≤ k ∧ k < wr.heap.size) ∧ ∀ w, Mv L wr w → Calls Tryz.prog 65 #[visVal v, .bool b, .pointer (some ⟨g5, 0, none⟩)] w fun e w' => e = .returned (.tuple #[]) ∧ I l w' ∧ Mv S w w')
    (hP : ∀ w j, Mv L w0 w → J j w → w.cell? ⟨r0, 0, none⟩ = some (.pointer (some ⟨p, 0, none⟩)))
    (h0 : Mv L w0 w) (hJ0 : J Ss.length w) (hI0 : I Ss.length w)
    (hT : Tower eps K Ss) (he : 2 ≤ eps ∧ eps ≤ 64) (hB : K.length ≤ 4294967296 ∧ ∀ S ∈ Ss, S.length ≤ 4294967296) (hl : Ss.length ≤ 4294967296) (hk : 0 ≤ k ∧ k < 18446744073709551616) :
    Calls Tryz.prog 64 #[.pointer (some ⟨r0, 0, none⟩), .int .u64 k, .func (.func 65) #[] #[.pointer (some ⟨g5, 0, none⟩)]] w fun e w' => e = .returned (.tuple #[]) ∧ ∃ a_, DownG K Ss k w0 L J I w' 0 a_ := by
  have HT := Lib.hid hT
  have HB := Lib.hid hB
  have H0 := Lib.hid (And.intro h0 (And.intro hJ0 hI0))
  have HSG := Lib.hid hSg
  have HLK := Lib.hid hLk
  have HJF := Lib.hid hJf
  have HIF := Lib.hid hIf
  have HLB := Lib.hid hLb
  have HCC := Lib.hid hC
  have HPT := Lib.hid hP
  have HEE := Lib.hid hE
  clear hT hB h0 hJ0 hI0 hSg hLk hJf hIf hLb hC hP hE
  obtain ⟨N, hN⟩ : ∃ N, Ss.length = N := ⟨_, rfl⟩
  have HN := Lib.hid hN
  rw [hN] at hH hl
  have HHH := Lib.hid hH
  have wh : IntKind.i64.wrap ((N : Int) - 1) = (N : Int) - 1 := wrap_i64_in _ (by omega) (by omega)
  clear hN hH
  have m1 := m_eps r0 p w (HPT.out w _ H0.out.1 H0.out.2.1)
  go_enter Tryz.func64, Tryz.ntmps64
  go_wp2_with fail
  refine (HEE.out w N H0.out.1 (by have := H0.out.2.1; rw [HN.out] at this; exact this)).mono ?_
  rintro _ w1 ⟨rfl, hw1⟩
  subst hw1
  clear m1
  have m2 := m_height r0 p w1 (HPT.out w1 _ H0.out.1 H0.out.2.1)
  go_wp2_with fail
  refine (HHH.out w1 N H0.out.1 (by have := H0.out.2.1; rw [HN.out] at this; exact this)).mono ?_
  rintro _ w2 ⟨rfl, hw2⟩
  subst hw2
  clear m2
  go_wp2_with fail
  go_loopw [6, 8] (fun v6 v8 wr => ∃ (j a : Nat) (lv : Int), v6 = .int .i64 a ∧ v8 = .int .i64 lv ∧ lv = (j : Int) - 1 ∧ j ≤ N ∧ Hid (DownG K Ss k w0 L J I wr j a)) (fun _ v8 _ => (intOf v8 + 1).toNat)
  case atStart =>
    refine ⟨N, 0, _, rfl, rfl, rfl, by omega, ?_⟩
    obtain ⟨q1, q2, q3⟩ := H0.out
    rw [HN.out] at q2 q3
    refine ⟨q1, q2, q3, fun h => ?_⟩
    obtain ⟨l, rfl⟩ : ∃ l, N = l + 1 := ⟨N - 1, by omega⟩
    have hl := HT.out l (by have := HN.out; omega)
    have h1 := hl.2.2.2.2.2 (by rw [HN.out])
    have h2 : lvK K Ss (l + 1) = firstsOf (Ss[l]'(by have := HN.out; omega)) := by
      show firstsOf (Ss.getD l []) = _
      rw [List.getD_eq_getElem?_getD, List.getElem?_eq_getElem]; rfl
    rw [h2]
    exact ⟨by rw [firsts_len]; omega, .inl rfl, fun h => by rw [firsts_len] at h; omega⟩
  case round =>
    obtain ⟨j, a, lv, rfl, rfl, rfl, hj, hd⟩ := hrel
    rcases Nat.eq_zero_or_pos j with rfl | hpos
    · go_wp2_with fail
      go_end0
      exact ⟨rfl, a, hd.out⟩
    · obtain ⟨l, rfl⟩ : ∃ l, j = l + 1 := ⟨j - 1, by omega⟩
      rw [show ((l + 1 : Nat) : Int) - 1 = (l : Int) by omega]
      have wl : IntKind.i64.wrap ((l : Int) + 1) = (l : Int) + 1 := wrap_i64_in _ (by omega) (by omega)
      have hlN : l < Ss.length := by have := HN.out; omega
      obtain ⟨S, hS⟩ : ∃ S, Ss[l] = S := ⟨_, rfl⟩
      have hSm : S ∈ Ss := by rw [← hS]; exact List.getElem_mem hlN
      obtain ⟨t1, t2, t3, t4, t5, t6⟩ := HT.out l hlN
      rw [hS] at t5 t6
      have hlv : lvK K Ss (l + 1) = firstsOf S := by
        show firstsOf (Ss.getD l []) = _
        rw [List.getD_eq_getElem?_getD, List.getElem?_eq_getElem hlN, ← hS]; rfl
      have hcov := hd.out.cov (by omega)
      rw [hlv] at hcov
      have haS : a < S.length := by have := hcov.lt; rw [firsts_len] at this; exact this
      obtain ⟨r, hr⟩ := rank_ex t1 k
      have hw := window he t1 t5 hcov hr haS
      obtain ⟨s, hs⟩ : ∃ s, S[a] = s := ⟨_, rfl⟩
      rw [hs] at hw
      have hrow : rowAt Ss ((l : Int) + 1) = S := by
        unfold rowAt
        rw [Int.add_sub_cancel, Int.toNat_natCast, List.getD_eq_getElem?_getD, List.getElem?_eq_getElem hlN, ← hS]; rfl
      have hsv : segV K Ss ((l : Int) + 1) (a : Int) = s := by rw [segV_row hlN hrow haS, hs]
      have HVIS : Hid ((Ss.getD l [])[a]? = some s) := by
        rw [Hid, List.getD_eq_getElem?_getD, List.getElem?_eq_getElem hlN, Option.getD_some, hS, List.getElem?_eq_getElem haS, hs]
      have HSEG : Hid (∀ w', Mv L w0 w' → J (l + 1) w' → Calls Tryz.prog 22 #[.pointer (some ⟨p, 0, none⟩), .int .i64 ((l : Int) + 1), .int .i64 (a : Nat)] w' fun e w'' => e = .returned (segVal s) ∧ Fr w' w'') := by
        intro w' h h'
        have h1 := HSG.out w' (l + 1) l a (by omega) (by have := HB.out.2 S hSm; omega) h h'
        rw [hsv] at h1
        exact h1
      have HW := Lib.hid hw
      have HRK := Lib.hid hr
      have HLV := Lib.hid hlv
      have HGU : Hid (∀ w', Calls Tryz.prog 81 #[segVal s, .int .u64 k] w' fun e w'' => e = .returned (.int .i64 (guessV s k)) ∧ Fr w' w'') := fun w' => guess_calls s k hw.fit hw.ok hk w'
      have HLEN := Lib.hid t3
      have HAS := Lib.hid haS
      have HSL := Lib.hid (HB.out.2 S hSm)
      have HLOOK : Hid (∀ (lo hi up : Nat) w', Mv L w0 w' → J (l + 1) w' → max s.frm (guessV s k - eps - 1) = (lo : Int) → min s.upto (guessV s k + eps + 1) = (hi : Int) → s.upto = (up : Int) →
          Calls Tryz.prog 83 #[.pointer (some ⟨r0, 0, none⟩), .int .i64 (l : Nat), .int .i64 lo, .int .i64 hi, .int .i64 up, .int .u64 k] w' fun e w'' => e = .returned (.tuple #[.int .i64 (r : Nat), .bool (decide (r < (lvK K Ss l).length ∧ ky (lvK K Ss l) r = k))]) ∧ Mv L w' w'' ∧ J l w'') := by
        intro lo hi up w' hfw hjw e1 e2 e3
        have hlen := hw.len
        have h1 := hw.lo
        have h2 := hw.hi
        have kv : ∀ i : Nat, i < (lvK K Ss l).length → keyV K Ss (l : Int) (i : Int) = ky (lvK K Ss l) i := fun i hi => keyV_lvK (by omega) hi
        have h5 := HLK.out w' l lo hi up r hfw hjw hlN (by omega) (by omega) (by omega) (by omega) (by omega) (fun i _ hi => by rw [kv i (by have := hr.le; omega)]; exact hr.bel i hi) (fun i hi hi' => by rw [kv i (by omega)]; exact hr.abo i hi (by omega))
        have h6 : decide ((r < hi ∨ r < up) ∧ keyV K Ss (l : Int) (r : Nat) = k) = decide (r < (lvK K Ss l).length ∧ ky (lvK K Ss l) r = k) := by
          have h7 := hw.ex
          rw [e2, e3] at h7
          rw [← h7]
          by_cases h8 : r < hi ∨ r < up
          · rw [kv r (by omega)]
            congr 1
            simp only [Int.ofNat_lt]
          · rw [decide_eq_false (fun q => h8 q.1), decide_eq_false (fun q => h8 (by have := q.1; omega))]
        rw [h6] at h5
        exact h5
      obtain ⟨sf, sl, it, fn, un⟩ := s
      unfold segVal at HSEG HGU
      dsimp only at HSEG HGU
      clear t1 t2 t3 t4 t5 t6 hlv hcov haS hr hw hs hrow hsv hS hSm
      obtain ⟨g, hg⟩ : ∃ g, guessV ⟨sf, sl, it, fn, un⟩ k = g := ⟨_, rfl⟩
      rw [hg] at HGU
      have HG := Lib.hid hg
      have HD := hd
      clear hg hlN hd
      have m3 := m_segment r0 p wr (HPT.out wr _ HD.out.mv HD.out.hj)
      go_wp2_with fail
      refine (HSEG.out wr HD.out.mv HD.out.hj).mono ?_
      rintro _ w3 ⟨rfl, hf3⟩
      have HF3 : Hid (Fr wr w3) := hf3
      clear hf3
      clear m3
      have hb9 := heap_alloc_new w3 (.cells #[.int .u64 sf, .float .f64 sl, .float .f64 it, .int .i64 fn, .int .i64 un] 47)
      obtain ⟨x0, x1, x2, x3, x4⟩ := cells5 hb9
      have HB9 := Lib.hid hb9
      clear hb9
      go_wp2_with fail
      obtain ⟨w4, hw4⟩ : ∃ w4, w4 = w3.alloc (.cells #[.int .u64 sf, .float .f64 sl, .float .f64 it, .int .i64 fn, .int .i64 un] 47) := ⟨_, rfl⟩
      have HF4 : Hid (Fr wr w4) := by rw [hw4]; exact HF3.out.alloc _
      obtain ⟨b9, hb9⟩ : ∃ b9, b9 = w3.heap.size := ⟨_, rfl⟩
      have H9 : Hid (wr.heap.size ≤ b9) := by rw [hb9]; exact HF3.out.size
      rw [← hw4, ← hb9] at HB9 ⊢
      clear hw4 hb9 x0 x1 x2 x3 x4
      refine (HGU.out w4).mono ?_
      rintro _ w5 ⟨rfl, hf5⟩
      have HF5 : Hid (Fr wr w5) := HF4.out.trans hf5
      have HB9' : Hid (w5.heap[b9]? = some (.cells #[.int .u64 sf, .float .f64 sl, .float .f64 it, .int .i64 fn, .int .i64 un] 47)) := hf5.blk HB9.out
      clear hf5 HB9
      have hbx := heap_alloc_new w5 (.cells #[.int .i64 (l : Int), .int .i64 (a : Int), .int .i64 g, .int .i64 0, .int .i64 0, .int .i64 0] 86)
      obtain ⟨w6, hw6⟩ : ∃ w6, w6 = w5.alloc (.cells #[.int .i64 (l : Int), .int .i64 (a : Int), .int .i64 g, .int .i64 0, .int .i64 0, .int .i64 0] 86) := ⟨_, rfl⟩
      have HF6 : Hid (Fr wr w6) := by rw [hw6]; exact HF5.out.alloc _
      have HB6 : Hid (w6.heap[b9]? = some (.cells #[.int .u64 sf, .float .f64 sl, .float .f64 it, .int .i64 fn, .int .i64 un] 47)) := by rw [hw6]; exact ((Fr.refl w5).alloc _).blk HB9'.out
      rw [← hw6] at hbx
      have HBX := Lib.hid hbx
      have HW6 := Lib.hid hw6
      clear hw6
      have hgi := guess_in HW.out.ok k
      rw [HG.out] at hgi
      have hf0 := HW.out.frm
      have hun := HW.out.len
      have hle := HLEN.out
      dsimp only at hgi hf0 hun
      have q1 : IntKind.i64.wrap (g - eps) = g - eps := wrap_i64_in _ (by omega) (by omega)
      have q2 : IntKind.i64.wrap (g - eps - 1) = g - eps - 1 := wrap_i64_in _ (by omega) (by omega)
      have q3 : IntKind.i64.wrap (g + eps) = g + eps := wrap_i64_in _ (by omega) (by omega)
      have q4 : IntKind.i64.wrap (g + eps + 1) = g + eps + 1 := wrap_i64_in _ (by omega) (by omega)
      have HGI := Lib.hid (And.intro hgi (And.intro hf0 (And.intro hun hle)))
      clear hbx hgi hf0 hun hle
      go_wp2_with fail
      rw [← HW6.out]
      obtain ⟨x0, x1, x2, x3, x4⟩ := cells5 HB6.out
      obtain ⟨bx, hbx⟩ : ∃ bx, bx = w5.heap.size := ⟨_, rfl⟩
      rw [← hbx] at HBX ⊢
      have HX : Hid (w5.heap.size ≤ bx) := by rw [Hid]; omega
      clear hbx
      have y2 : w6.cell? ⟨bx, 2, none⟩ = some (.int .i64 g) := blk_cell HBX.out 2
      have y3 : w6.cell? ⟨bx, 3, none⟩ = some (.int .i64 0) := blk_cell HBX.out 3
      have y4 : w6.cell? ⟨bx, 4, none⟩ = some (.int .i64 0) := blk_cell HBX.out 4
      have z3 := blk_frozen HBX.out 3
      have z4 := blk_frozen HBX.out 4
      have hbb : bx ≠ b9 := by
        have h1 := (Array.getElem?_eq_some_iff.1 HB9'.out).1
        have := HX.out
        omega
      go_region_held3 (fun w' => w'.cell? ⟨b9, 3, none⟩ = some (.int .i64 fn) ∧ w'.cell? ⟨b9, 4, none⟩ = some (.int .i64 un) ∧ w'.cell? ⟨bx, 2, none⟩ = some (.int .i64 g))
        (first | exact ⟨x3, x4, y2⟩ | exact ⟨blk_cell (drew_blk2 (blk_set_ne HB6.out (p := ⟨bx, 3, none⟩) hbb _)) 3, blk_cell (drew_blk2 (blk_set_ne HB6.out (p := ⟨bx, 3, none⟩) hbb _)) 4, blk_cell (drew_blk2 (blk_set HBX.out 3 _)) 2⟩ | exact ⟨blk_cell (drew_blk2 (blk_set_ne (blk_set_ne HB6.out (p := ⟨bx, 3, none⟩) hbb _) (p := ⟨bx, 4, none⟩) hbb _)) 3, blk_cell (drew_blk2 (blk_set_ne (blk_set_ne HB6.out (p := ⟨bx, 3, none⟩) hbb _) (p := ⟨bx, 4, none⟩) hbb _)) 4, blk_cell (drew_blk2 (blk_set (blk_set HBX.out 3 _) 4 _)) 2⟩)
        (first | fail "no")
      all_goals
        have hx : wr.heap.size ≤ bx := Nat.le_trans HF5.out.size HX.out
        obtain ⟨lo, hlo⟩ : ∃ lo : Nat, max fn (g - eps - 1) = (lo : Int) := ⟨(max fn (g - eps - 1)).toNat, by have := HGI.out.2.1; omega⟩
        obtain ⟨hi, hhi⟩ : ∃ hi : Nat, min un (g + eps + 1) = (hi : Int) := ⟨(min un (g + eps + 1)).toNat, by have := HGI.out.1; have := HGI.out.2.1; omega⟩
        obtain ⟨up, hup⟩ : ∃ up : Nat, un = (up : Int) := ⟨un.toNat, by have := HGI.out.1; have := HGI.out.2.1; omega⟩
        rw [hlo, hhi]
        obtain ⟨w7, hw7⟩ : ∃ w7, w7 = ((w6.setCell ⟨bx, 3, none⟩ (.int .i64 (lo : Int))).setCell ⟨bx, 4, none⟩ (.int .i64 (hi : Int))).drew := ⟨_, rfl⟩
        have HB7 : Hid (w7.heap[b9]? = some (.cells #[.int .u64 sf, .float .f64 sl, .float .f64 it, .int .i64 fn, .int .i64 un] 47)) := by rw [hw7]; exact drew_blk2 (blk_set_ne (blk_set_ne HB6.out (p := ⟨bx, 3, none⟩) hbb _) (p := ⟨bx, 4, none⟩) hbb _)
        have HBX7 : Hid (w7.heap[bx]? = some (.cells #[.int .i64 (l : Int), .int .i64 (a : Int), .int .i64 g, .int .i64 (lo : Int), .int .i64 (hi : Int), .int .i64 0] 86)) := by rw [hw7]; exact drew_blk2 (blk_set (blk_set HBX.out 3 _) 4 _)
        have HF7 : Hid (Fr wr w7) := by rw [hw7]; exact ((HF6.out.set (p := ⟨bx, 3, none⟩) hx _).set (p := ⟨bx, 4, none⟩) hx _).drew
        rw [← hw7]
        have HLO := Lib.hid hlo
        have HHI := Lib.hid hhi
        have HUP := Lib.hid hup
        clear hw7 hlo hhi hup x0 x1 x2 x3 x4 y2 y3 y4 z3 z4
        obtain ⟨x0, x1, x2, x3, x4⟩ := cells5 HB7.out
        have y3 : w7.cell? ⟨bx, 3, none⟩ = some (.int .i64 (lo : Int)) := blk_cell HBX7.out 3
        have y4 : w7.cell? ⟨bx, 4, none⟩ = some (.int .i64 (hi : Int)) := blk_cell HBX7.out 4
        go_wp2_with fail
        refine (show Calls Tryz.prog 83 #[.pointer (some ⟨r0, 0, none⟩), .int .i64 (l : Nat), .int .i64 lo, .int .i64 hi, .int .i64 un, .int .u64 k] w7 _ by rw [HUP.out]; exact HLOOK.out lo hi up w7 (HD.out.mv.then HF7.out) (HJF.out (l + 1) wr w7 none0 HD.out.mv HD.out.hj (Mv.of_fr HF7.out) (fun _ h => h.elim)) (by rw [HG.out]; exact HLO.out) (by rw [HG.out]; exact HHI.out) HUP.out).mono ?_
        rintro _ w8 ⟨rfl, hm8, hj8⟩
        obtain ⟨exx, hexx⟩ : ∃ exx, decide (r < (lvK K Ss l).length ∧ ky (lvK K Ss l) r = k) = exx := ⟨_, rfl⟩
        rw [hexx]
        have hLb9 : ¬ L b9 := fun h => by have := HLB.out _ h; have := HD.out.mv.size; have := H9.out; omega
        have hLbx : ¬ L bx := fun h => by have := HLB.out _ h; have := HD.out.mv.size; omega
        have HB8 : Hid (w8.heap[b9]? = some (.cells #[.int .u64 sf, .float .f64 sl, .float .f64 it, .int .i64 fn, .int .i64 un] 47)) := hm8.blk HB7.out hLb9
        have HBX8 : Hid (w8.heap[bx]? = some (.cells #[.int .i64 (l : Int), .int .i64 (a : Int), .int .i64 g, .int .i64 (lo : Int), .int .i64 (hi : Int), .int .i64 0] 86)) := hm8.blk HBX7.out hLbx
        have HM8 : Hid (Mv L wr w8) := (Mv.of_fr HF7.out).trans' hm8
        have HJ8 := Lib.hid hj8
        clear hm8 hj8 y3 y4 x0 x1 x2 x3 x4 hLb9 hLbx
        obtain ⟨w9, hw9⟩ : ∃ w9, w9 = w8.setCell ⟨bx, 5, none⟩ (.int .i64 (r : Nat)) := ⟨_, rfl⟩
        have hb9' := blk_set HBX8.out 5 (.int .i64 (r : Nat))
        have HBX9 : Hid (w9.heap[bx]? = some (.cells #[.int .i64 (l : Int), .int .i64 (a : Int), .int .i64 g, .int .i64 (lo : Int), .int .i64 (hi : Int), .int .i64 (r : Nat)] 86)) := by rw [hw9]; exact hb9'
        have HB9'' : Hid (w9.heap[b9]? = some (.cells #[.int .u64 sf, .float .f64 sl, .float .f64 it, .int .i64 fn, .int .i64 un] 47)) := by rw [hw9]; exact blk_set_ne HB8.out (p := ⟨bx, 5, none⟩) hbb _
        have HM9 : Hid (Mv L wr w9) := by rw [hw9]; exact HM8.out.set (p := ⟨bx, 5, none⟩) (.inr hx) _
        have HJ9 : Hid (J l w9) := by
          rw [hw9]
          refine HJF.out l w8 _ (one1 bx) (HD.out.mv.trans' HM8.out) HJ8.out ((Mv.refl (one1 bx) w8).set (p := ⟨bx, 5, none⟩) (.inl rfl) _) (fun i hi => ?_)
          rw [show i = bx from hi]
          exact Nat.le_trans HD.out.mv.size hx
        have HVOK : Hid (VisOk eps K Ss k l ⟨l, a, g, lo, hi, r⟩ exx) := by
          refine ⟨a, r, ⟨sf, sl, it, fn, un⟩, HVIS.out, ?_, HRK.out, hexx.symm, HW.out⟩
          simp only [HG.out, HLO.out, HHI.out]
        obtain ⟨SS, hss, hcc⟩ := HCC.out l wr _ exx HD.out.hi HD.out.mv HVOK.out
        have HFI : Hid (Calls Tryz.prog 65 #[.agg #[.int .i64 (l : Int), .int .i64 (a : Int), .int .i64 g, .int .i64 (lo : Int), .int .i64 (hi : Int), .int .i64 (r : Nat)], .bool exx, .pointer (some ⟨g5, 0, none⟩)] w9 fun e w' => e = .returned (.tuple #[]) ∧ I l w' ∧ Mv SS w9 w') := hcc w9 HM9.out
        have HSS := Lib.hid hss
        have HW9 := Lib.hid hw9
        have HEX := Lib.hid hexx
        have y5 : w8.cell? ⟨bx, 5, none⟩ = some (.int .i64 0) := blk_cell HBX8.out 5
        have z5 := blk_frozen HBX8.out 5
        rw [hw9] at HBX9
        have c0 : (w8.setCell ⟨bx, 5, none⟩ (.int .i64 (r : Nat))).cell? ⟨bx, 0, none⟩ = some (.int .i64 (l : Int)) := blk_cell HBX9.out 0
        have c1 : (w8.setCell ⟨bx, 5, none⟩ (.int .i64 (r : Nat))).cell? ⟨bx, 1, none⟩ = some (.int .i64 (a : Int)) := blk_cell HBX9.out 1
        have c2 : (w8.setCell ⟨bx, 5, none⟩ (.int .i64 (r : Nat))).cell? ⟨bx, 2, none⟩ = some (.int .i64 g) := blk_cell HBX9.out 2
        have c3 : (w8.setCell ⟨bx, 5, none⟩ (.int .i64 (r : Nat))).cell? ⟨bx, 3, none⟩ = some (.int .i64 (lo : Int)) := blk_cell HBX9.out 3
        have c4 : (w8.setCell ⟨bx, 5, none⟩ (.int .i64 (r : Nat))).cell? ⟨bx, 4, none⟩ = some (.int .i64 (hi : Int)) := blk_cell HBX9.out 4
        have c5 : (w8.setCell ⟨bx, 5, none⟩ (.int .i64 (r : Nat))).cell? ⟨bx, 5, none⟩ = some (.int .i64 (r : Nat)) := blk_cell HBX9.out 5
        clear hb9' hw9 hexx hss hcc
        go_wp2_with fail
        rw [← HW9.out]
        refine HFI.out.mono ?_
        rintro _ w10 ⟨rfl, hi10, hm10⟩
        have HI10 := Lib.hid hi10
        have HB10 : Hid (w10.heap[b9]? = some (.cells #[.int .u64 sf, .float .f64 sl, .float .f64 it, .int .i64 fn, .int .i64 un] 47)) := hm10.blk HB9''.out (fun h => by have := (HSS.out _ h).2; have := H9.out; omega)
        have HM10 : Hid (Mv L w0 w10) := (HD.out.mv.trans' HM9.out).trans hm10 (fun i hi => .inr (HSS.out i hi).1)
        have HJ10 : Hid (J l w10) := HJF.out l w9 w10 SS (HD.out.mv.trans' HM9.out) HJ9.out hm10 (fun i hi => (HSS.out i hi).1)
        clear hi10 hm10 y5 z5 c0 c1 c2 c3 c4 c5
        obtain ⟨x0, x1, x2, x3, x4⟩ := cells5 HB10.out
        have hrl : r ≤ 4294967296 := by have := HRK.out.le; have := HLEN.out; omega
        have wr1 : IntKind.i64.wrap ((r : Int) - 1) = (r : Int) - 1 := wrap_i64_in _ (by omega) (by omega)
        have hf0 : 0 ≤ fn := HGI.out.2.1
        obtain ⟨b, hb⟩ : ∃ b : Nat, max ((r : Int) - 1) fn = (b : Int) := ⟨(max ((r : Int) - 1) fn).toNat, by omega⟩
        have HBB := Lib.hid hb
        clear hb
        have HDN : Hid (∀ at_, (0 < l → Cover (lvK K Ss l) k at_) → DownG K Ss k w0 L J I w10 l at_) := fun at_ hat => ⟨HM10.out, HJ10.out, HI10.out, hat⟩
        cases exx with
        | true =>
          go_wp2_with fail
          have hx := of_decide_eq_true HEX.out
          exact ⟨⟨l, r, _, rfl, rfl, rfl, by omega, HDN.out r (fun _ => HW.out.next1 hx.1 hx.2)⟩, by simp only [intOf]; omega⟩
        | false =>
          go_wp2_with fail
          have hx := of_decide_eq_false HEX.out
          have h9 := HW.out.next2 hx
          have e9 : (max ((r : Int) - 1) fn).toNat = b := by rw [HBB.out]; exact Int.toNat_natCast b
          dsimp only at h9
          rw [e9] at h9
          exact ⟨⟨l, b, _, by rw [HBB.out], rfl, rfl, by omega, HDN.out b (fun _ => h9)⟩, by simp only [intOf]; omega⟩
end Go.Proofs.YtelpbbkmkighfaaGreat
namespace Go.Proofs.YtelpbbkmkighfaaGreat
set_option maxRecDepth 100000
open Go.RowKit Go.Inc Go.Run
attribute [local go_sem] run_store_float

theorem info_vis : (Tryz.prog.info? 86).map (fun i => (i.zero, i.size, i.bytes)) = some (some (.agg #[.int .i64 0, .int .i64 0, .int .i64 0, .int .i64 0, .int .i64 0, .int .i64 0]), 6, 48) := by kernel_rfl
def pathS (g5 : Nat) (A : Option Addr) : Nat → Prop := fun k => k = g5 ∨ ablk A = some k
set_option maxHeartbeats 1000000 in
theorem path1_calls (v : Vis) (b : Bool) (g5 base : Nat) (A : Option Addr) (n c : Nat) (V : List Vis) (hn : n = V.length) (hl : n ≤ 4294967296) (w : World) (hb : base ≤ g5) (hg : w.heap[g5]? = some (.cells #[.slice A n c] 83)) (ho : Own w base 86 6 A n c (V.flatMap vcells)) :
    Calls Tryz.prog 65 #[visVal v, .bool b, .pointer (some ⟨g5, 0, none⟩)] w fun e w' => e = .returned (.tuple #[]) ∧ (∃ A' c', w'.heap[g5]? = some (.cells #[.slice A' (n + 1) c'] 83) ∧ Own w' base 86 6 A' (n + 1) c' ((V ++ [v]).flatMap vcells)) ∧ Mv (pathS g5 A) w w' := by
  obtain ⟨v0, v1, v2, v3, v4, v5⟩ := v
  unfold visVal
  dsimp only
  have hg5 := blk_lt hg
  have hbs : base ≤ w.heap.size := by omega
  have hb1 := heap_alloc_new w (.cells #[.int .i64 v0, .int .i64 v1, .int .i64 v2, .int .i64 v3, .int .i64 v4, .int .i64 v5] 86)
  have hf1 := (Fr.refl w).alloc (.cells #[.int .i64 v0, .int .i64 v1, .int .i64 v2, .int .i64 v3, .int .i64 v4, .int .i64 v5] 86)
  have hgn : ablk A ≠ some g5 := fun h => own_not_blk0 ho (t := 83) (by decide) g5 h hg
  have y5 := cells1 (hf1.blk hg)
  have y0 : (w.alloc (.cells #[.int .i64 v0, .int .i64 v1, .int .i64 v2, .int .i64 v3, .int .i64 v4, .int .i64 v5] 86)).cell? ⟨w.heap.size, 0, none⟩ = some (.int .i64 v0) := blk_cell hb1 0
  have y1 : (w.alloc (.cells #[.int .i64 v0, .int .i64 v1, .int .i64 v2, .int .i64 v3, .int .i64 v4, .int .i64 v5] 86)).cell? ⟨w.heap.size, 1, none⟩ = some (.int .i64 v1) := blk_cell hb1 1
  have y2 : (w.alloc (.cells #[.int .i64 v0, .int .i64 v1, .int .i64 v2, .int .i64 v3, .int .i64 v4, .int .i64 v5] 86)).cell? ⟨w.heap.size, 2, none⟩ = some (.int .i64 v2) := blk_cell hb1 2
  have y3 : (w.alloc (.cells #[.int .i64 v0, .int .i64 v1, .int .i64 v2, .int .i64 v3, .int .i64 v4, .int .i64 v5] 86)).cell? ⟨w.heap.size, 3, none⟩ = some (.int .i64 v3) := blk_cell hb1 3
  have y4 : (w.alloc (.cells #[.int .i64 v0, .int .i64 v1, .int .i64 v2, .int .i64 v3, .int .i64 v4, .int .i64 v5] 86)).cell? ⟨w.heap.size, 4, none⟩ = some (.int .i64 v4) := blk_cell hb1 4
  have y6 : (w.alloc (.cells #[.int .i64 v0, .int .i64 v1, .int .i64 v2, .int .i64 v3, .int .i64 v4, .int .i64 v5] 86)).cell? ⟨w.heap.size, 5, none⟩ = some (.int .i64 v5) := blk_cell hb1 5
  have HG := Lib.hid hg
  have HO := Lib.hid ho
  have HN := Lib.hid hn
  have HGN := Lib.hid hgn
  have HBS := Lib.hid (And.intro hbs (And.intro hb hg5))
  clear hg ho hn hb1 hf1 hgn hbs hb hg5
  go_enter Tryz.func65, Tryz.ntmps65
  go_wp2_with (at_builtin; refine gate ?_)
  refine gate_app rfl _ _ 83 rfl 86 (.agg #[.int .i64 0, .int .i64 0, .int .i64 0, .int .i64 0, .int .i64 0, .int .i64 0]) 6 48 Tryz.underlying83 info_vis rfl (by omega) (by omega) base A n c (V.flatMap vcells) (some ⟨w.heap.size + 1, 0, none⟩) 1 1 [.int .i64 v0, .int .i64 v1, .int .i64 v2, .int .i64 v3, .int .i64 v4, .int .i64 v5] (by rfl) (by rfl)
    (HO.out.fr (((Fr.refl w).alloc _).alloc _)) rfl (RdC.of_blk (heap_alloc2_new w _ _)) (by intro u hu; simp at hu; rcases hu with rfl | rfl | rfl | rfl | rfl | rfl <;> rfl) (by omega) (by have := HBS.out; simp; omega) ?_
  intro A3 c3 w3 hown3 hgr hat
  have HM3 : Hid (Mv (fun k => ablk A = some k) w w3) := (Mv.of_fr (((Fr.refl w).alloc _).alloc _)).grown hgr.out (fun k hk => .inl hk)
  have HG3 := Lib.hid (HM3.out.blk HG.out HGN.out)
  have z5 := cells1 HG3.out
  have f5 := blk_frozen HG3.out 0
  clear hgr hat y0 y1 y2 y3 y4 y5 y6
  go_wp2_with fail
  go_end0
  refine ⟨rfl, ⟨A3, c3, blk_set HG3.out 0 _, ?_⟩, (HM3.out.mono (fun i hi => .inl (.inr hi))).set (p := ⟨g5, 0, none⟩) (.inl (.inl rfl)) _⟩
  have h1 := hown3.out
  have h2 : (V ++ [(⟨v0, v1, v2, v3, v4, v5⟩ : Vis)]).flatMap vcells = V.flatMap vcells ++ [.int .i64 v0, .int .i64 v1, .int .i64 v2, .int .i64 v3, .int .i64 v4, .int .i64 v5] := by
    rw [List.flatMap_append]; rfl
  rw [h2]
  exact h1.mv ((Mv.refl (one1 g5) w3).set (p := ⟨g5, 0, none⟩) (.inl rfl) _) (fun k hk h => own_not_blk0 h1 (t := 83) (by decide) g5 (by rw [← show k = g5 from h]; exact hk) HG3.out)

/-- The visits so far. -/
def PathI (g5 base N : Nat) (eps : Int) (K : List Int) (Ss : List (List Seg)) (k : Int) (j : Nat) (w : World) : Prop :=
  ∃ (A : Option Addr) (c : Nat) (V : List Vis), w.heap[g5]? = some (.cells #[.slice A V.length c] 83) ∧ Own w base 86 6 A V.length c (V.flatMap vcells) ∧ V.length + j = N ∧ ∀ i (h : i < V.length), ∃ b, VisOk eps K Ss k (N - 1 - i) V[i] b
theorem path_step {g5 base N : Nat} {eps : Int} {K : List Int} {Ss : List (List Seg)} {k : Int} {l : Nat} {wr : World} {v : Vis} {b : Bool} (hb : base ≤ g5) (hN : N ≤ 4294967296) (h : PathI g5 base N eps K Ss k (l + 1) wr) (hv : VisOk eps K Ss k l v b) :
    ∃ S : Nat → Prop, (∀ k, S k → base ≤ k ∧ k < wr.heap.size) ∧ ∀ w, Mv none0 wr w → Calls Tryz.prog 65 #[visVal v, .bool b, .pointer (some ⟨g5, 0, none⟩)] w fun e w' => e = .returned (.tuple #[]) ∧ PathI g5 base N eps K Ss k l w' ∧ Mv S w w' := by
  obtain ⟨A, c, V, h1, h2, h3, h4⟩ := h
  refine ⟨pathS g5 A, fun i hi => ?_, fun w hm => ?_⟩
  · rcases hi with rfl | hi
    · exact ⟨hb, blk_lt h1⟩
    · exact h2.lt i hi
  · have hf := hm.fr0
    refine (path1_calls v b g5 base A V.length c V rfl (by omega) w hb (hf.blk h1) (h2.fr hf)).mono ?_
    rintro e w' ⟨he, ⟨A', c', g1, g2⟩, g3⟩
    refine ⟨he, ⟨A', c', V ++ [v], ?_, ?_, by simp; omega, fun i hi => ?_⟩, g3⟩
    · simpa using g1
    · simpa using g2
    · rcases Nat.lt_or_ge i V.length with h5 | h5
      · rw [List.getElem_append_left h5]; exact h4 i h5
      · have hi' : i = V.length := by simp at hi; omega
        subst hi'
        rw [List.getElem_append_right (Nat.le_refl _)]
        simp only [Nat.sub_self, List.getElem_cons_zero]
        rw [show N - 1 - V.length = l by omega]
        exact ⟨b, hv⟩
set_option maxHeartbeats 1000000 in
theorem path_calls (r0 p : Nat) (eps : Int) (K : List Int) (Ss : List (List Seg)) (k : Int) (w : World) (hP : PileR w p eps K Ss) (hcell : w.cell? ⟨r0, 0, none⟩ = some (.pointer (some ⟨p, 0, none⟩))) (hO : RunOk eps K Ss) (hk : 0 ≤ k ∧ k < 18446744073709551616) :
    Calls Tryz.prog 45 #[.pointer (some ⟨r0, 0, none⟩), .int .u64 k] w fun e w' => ∃ (A : Option Addr) (c : Nat) (V : List Vis), e = .returned (.slice A V.length c) ∧ RdC w' A (V.flatMap vcells) ∧ V.length = Ss.length ∧ (∀ i (h : i < V.length), ∃ b, VisOk eps K Ss k (Ss.length - 1 - i) V[i] b) ∧ Fr w w' := by
  obtain ⟨hT, he, hz, hl⟩ := hO.tower
  have hmf : ∀ (fn : Fn) (first cap : Array Value) (w : World), (Instr.makeFunc fn first cap).run Tryz.prog w = .ok (.func fn first cap) w := fun _ _ _ _ => rfl
  have hB : K.length ≤ 4294967296 ∧ ∀ S ∈ Ss, S.length ≤ 4294967296 := ⟨hO.len, fun S hS => (hO.rows S hS).1⟩
  have HPL : ∀ w', Mv none0 w w' → PileR w' p eps K Ss ∧ w'.cell? ⟨r0, 0, none⟩ = some (.pointer (some ⟨p, 0, none⟩)) := fun w' h => ⟨hP.fr h.fr0, h.fr0.cell hcell⟩
  have hg := heap_alloc_new w (.cells #[.slice none 0 0] 83)
  have y5 : (w.alloc (.cells #[.slice none 0 0] 83)).cell? ⟨w.heap.size, 0, none⟩ = some (.slice none 0 0) := cells1 hg
  have DS := Lib.hid (descR_calls r0 p eps K Ss k w.heap.size w (w.alloc (.cells #[.slice none 0 0] 83)) none0 (fun _ _ => True) (PathI w.heap.size w.heap.size Ss.length eps K Ss k)
    (fun w' _ h _ => peps_calls p eps K Ss w' (HPL w' h).1) (fun w' _ h _ => pheight_calls p eps K Ss w' (HPL w' h).1)
    (fun w' _ l a hl ha h _ => pseg_calls p eps K Ss ((l : Int) + 1) (a : Nat) (by omega) (by omega) w' (HPL w' h).1 hB)
    (fun w' l lo hi up r h _ hl2 h1 h2 h3 h4 _ h5 h6 => (lookR_calls r0 p eps K Ss (l : Nat) lo hi up r k (by omega) h1 h2 h3 h4 h5 h6 w' (HPL w' h).1 (HPL w' h).2 hB).mono fun e w'' ⟨q1, q2⟩ => ⟨q1, by rw [q2]; exact Mv.refl _ _, trivial⟩)
    (fun _ _ _ _ _ _ _ _ => trivial)
    (fun j w' w'' _ h hm => by
      obtain ⟨A, c, V, h1, h2, h3, h4⟩ := h
      exact ⟨A, c, V, hm.fr0.blk h1, h2.fr hm.fr0, h3, h4⟩)
    (fun _ h => h.elim)
    (fun l wr v b h _ hv => path_step (Nat.le_refl _) hl h hv)
    (fun w' _ h _ => (HPL w' h).2)
    (Mv.of_fr ((Fr.refl w).alloc _)) trivial
    ⟨none, 0, [], hg, Own.nil _ _ _ _, by simp, fun i h => by simp at h⟩
    hT he hB hl hk)
  have HK := Lib.hid hl
  clear hP hcell hO hT he hz hl hB HPL hg
  go_enter Tryz.func45, Tryz.ntmps45
  go_wp2_with fail
  refine DS.out.mono ?_
  rintro _ w2 ⟨rfl, at_, hd⟩
  obtain ⟨A, c, V, h1, h2, h3, h4⟩ := hd.hi
  have HF := Lib.hid hd.mv.fr0
  have H2 := Lib.hid h2
  have H34 := Lib.hid (And.intro h3 h4)
  have z5 := cells1 h1
  obtain ⟨M, hM⟩ : ∃ M, V.length = M := ⟨_, rfl⟩
  rw [hM] at z5
  have HM := Lib.hid hM
  clear hd h1 h2 h3 h4 y5 hM
  go_wp2_with fail
  go_ret
  exact ⟨A, c, V, by rw [HM.out]; rfl, H2.out.rd, by have := H34.out.1; omega, H34.out.2, HF.out⟩
end Go.Proofs.YtelpbbkmkighfaaGreat
