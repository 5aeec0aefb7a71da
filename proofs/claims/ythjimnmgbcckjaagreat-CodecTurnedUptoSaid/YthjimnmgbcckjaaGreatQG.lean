/- Parts of this proof, one behind the other: LvChk, LvOk. -/
import Derived.Test.YthjimnmgbcckjaaGreatQF
namespace Go.Proofs.YthjimnmgbcckjaaGreat
set_option maxRecDepth 100000
open Go.RowKit Go.Inc Go.Run
attribute [local go_sem] run_store_float

/-- Rows of segments, as they are read. -/
def RowsR (w : World) : List Value → List (List Seg) → Prop
  | [], [] => True
  | v :: vs, S :: Ss => (∃ A c, v = .slice A S.length c ∧ S.length ≤ c ∧ RdC w A (S.flatMap sgcells)) ∧ RowsR w vs Ss
  | _, _ => False
theorem RowsR.fr {w w' : World} (hf : Fr w w') : ∀ {vs : List Value} {Ss : List (List Seg)}, RowsR w vs Ss → RowsR w' vs Ss
  | [], [], _ => trivial
  | v :: vs, S :: Ss, h => by
    obtain ⟨⟨A, c, h1, h2, h3⟩, h4⟩ := h
    exact ⟨⟨A, c, h1, h2, h3.fr hf⟩, RowsR.fr hf h4⟩
  | [], _ :: _, h => h.elim
  | _ :: _, [], h => h.elim
theorem RowsR.len {w : World} : ∀ {vs : List Value} {Ss : List (List Seg)}, RowsR w vs Ss → vs.length = Ss.length
  | [], [], _ => rfl
  | v :: vs, S :: Ss, h => by simp [RowsR.len h.2]
  | [], _ :: _, h => h.elim
  | _ :: _, [], h => h.elim
theorem RowsB.toR {w : World} {base : Nat} : ∀ {vs : List Value} {Ss : List (List Seg)}, RowsB w base vs Ss → RowsR w vs Ss
  | [], [], _ => trivial
  | v :: vs, S :: Ss, h => by
    obtain ⟨⟨g, h1, h2, h3⟩, h4⟩ := h
    exact ⟨⟨_, _, h1, Nat.le_refl _, RdC.blk h3⟩, RowsB.toR h4⟩
  | [], _ :: _, h => h.elim
  | _ :: _, [], h => h.elim
theorem RowsR.at {w : World} : ∀ {vs : List Value} {Ss : List (List Seg)} {i : Nat} {S : List Seg}, RowsR w vs Ss → Ss[i]? = some S → ∃ A c, vs[i]? = some (.slice A S.length c) ∧ S.length ≤ c ∧ RdC w A (S.flatMap sgcells)
  | [], [], _, _, _, hi => by simp at hi
  | v :: vs, T :: Ss, 0, S, h, hi => by
    obtain ⟨⟨A, c, h1, h2, h3⟩, h4⟩ := h
    simp at hi; subst hi
    exact ⟨A, c, by simp [h1], h2, h3⟩
  | v :: vs, T :: Ss, i + 1, S, h, hi => by
    obtain ⟨A, c, h1, h2, h3⟩ := RowsR.at h.2 (i := i) (by simpa using hi)
    exact ⟨A, c, by simpa using h1, h2, h3⟩
  | [], _ :: _, _, _, h, _ => h.elim
  | _ :: _, [], _, _, h, _ => h.elim

/-- A segment's predictions are within eps of their places. -/
def offOk (eps : Int) (below : List Int) (s : Seg) : Prop := ∀ i : Nat, i < (s.upto - s.frm).toNat → -eps ≤ guessV s (ky below (s.frm.toNat + i)) - s.frm - i ∧ guessV s (ky below (s.frm.toNat + i)) - s.frm - i ≤ eps
open Classical in
/-- What is wrong with the segments of a level. -/
noncomputable def segsV (eps : Int) (below : List Int) : List Seg → Int
  | [] => 0
  | s :: S => if chk s ≠ 0 then chk s else if s.first ≠ ky below s.frm.toNat then 83 else if offOk eps below s then segsV eps below S else 85
/-- What is wrong with levels. -/
noncomputable def levelsV (eps : Int) (z : Bool) : List Int → List (List Seg) → Int
  | below, [] => if z = true ∨ below.length = 1 then 0 else 84
  | below, S :: Ss => if tilesOk S 0 below.length = false then 82 else if segsV eps below S ≠ 0 then segsV eps below S else levelsV eps z (firstsOf S) Ss
noncomputable def checkV (eps : Int) (L : List Int) (Ss : List (List Seg)) : Int :=
  if ¬ (2 ≤ eps ∧ eps ≤ 64) then 1 else if ¬ Rise L then 80 else if ¬ (Ss.length ≤ maxH eps.toNat 4294967296 ∧ (Ss.length = 0 ↔ L.length = 0)) then 81 else levelsV eps (Ss.length == 0) L Ss

theorem cells1 {w : World} {g : Nat} {x : Value} {e : TypeId} (h : w.heap[g]? = some (.cells #[x] e (0, 0))) : w.cell? ⟨g, 0, none⟩ = some x := by rw [blk_cell h]; rfl
theorem tiles_at : ∀ {S : List Seg} {at' n : Int}, tilesOk S at' n = true → 0 ≤ at' → ∀ i (hi : i < S.length), at' ≤ S[i].frm ∧ S[i].frm < S[i].upto ∧ S[i].upto ≤ n
  | [], at', n, _, _, i, hi => by simp at hi
  | s :: S, at', n, h, h0, i, hi => by
    unfold tilesOk at h
    simp only [Bool.and_eq_true, decide_eq_true_eq] at h
    obtain ⟨⟨h1, h2, h3⟩, h4⟩ := h
    cases i with
    | zero => exact ⟨by show at' ≤ s.frm; omega, by show s.frm < s.upto; omega, h3⟩
    | succ i =>
      obtain ⟨a1, a2, a3⟩ := tiles_at h4 (by omega) i (by simpa using hi)
      exact ⟨by show at' ≤ (S[i]'(by simpa using hi)).frm; omega, a2, a3⟩
theorem tiles_first {K : List Int} (hR : Rise K) (hK : KeysOk K) : ∀ {S : List Seg} {at' n : Int}, tilesOk S at' n = true → 0 ≤ at' → n = K.length → (∀ i (hi : i < S.length), S[i].first = ky K S[i].frm.toNat) → Rise (firstsOf S) ∧ KeysOk (firstsOf S) ∧ ∀ x ∈ firstsOf S, at' < n ∧ ky K at'.toNat ≤ x
  | [], at', n, _, _, _, _ => ⟨List.Pairwise.nil, fun x hx => by simp [firstsOf] at hx, fun x hx => by simp [firstsOf] at hx⟩
  | s :: S, at', n, h, h0, hn, hf => by
    have hT := h
    unfold tilesOk at h
    simp only [Bool.and_eq_true, decide_eq_true_eq] at h
    obtain ⟨⟨h1, h2, h3⟩, h4⟩ := h
    obtain ⟨r1, r2, r3⟩ := tiles_first hR hK h4 (by omega) hn (fun i hi => hf (i + 1) (by simpa using hi))
    have hs : s.first = ky K at'.toNat := by have := hf 0 (by simp); rw [← h1]; exact this
    have hat : at'.toNat < K.length := by omega
    have hlt : ∀ y ∈ firstsOf S, ky K at'.toNat < y := by
      intro y hy
      obtain ⟨h5, h6⟩ := r3 y hy
      have := rise_lt hR (show at'.toNat < s.upto.toNat by omega) (by omega)
      omega
    refine ⟨List.pairwise_cons.2 ⟨fun y hy => by show s.first < y; rw [hs]; exact hlt y hy, r1⟩, fun y hy => ?_, fun y hy => ⟨by omega, ?_⟩⟩
    · rcases List.mem_cons.1 hy with rfl | hy
      · show 0 ≤ s.first ∧ s.first < 18446744073709551616; rw [hs]; exact hK.ky hat
      · exact r2 y hy
    · rcases List.mem_cons.1 hy with rfl | hy
      · show ky K at'.toNat ≤ s.first; rw [hs]; exact Int.le_refl _
      · exact Int.le_of_lt (hlt y hy)

set_option maxHeartbeats 1000000 in
theorem door_wrong (tmps : Array Value) (g : Nat) (w0 w : World) (x code V : Int) (h6 : tmps.getD 6 undef = .pointer (some ⟨g, 0, none⟩)) (hb : w.heap[g]? = some (.cells #[.int .i64 x] 35 (0, 0))) (hf : Fr w0 w) (hg : w0.heap.size ≤ g) (hV : V = code) :
    bodyPostD Tryz.prog Tryz.f94 (fun e w' => e = .returned (.int .i64 V) ∧ Fr w0 w') (Exit.panic [{ v := wrongV code, recovered := false }]) { tmps := tmps, defers := [{ target := Target.fn (Fn.func 115) #[.pointer (some ⟨g, 0, none⟩)], args := #[] }] } w := by
  subst hV
  refine leaves_cons (f := 115) (args := #[.pointer (some ⟨g, 0, none⟩)]) (by simp) (by simp [go_sem]) ?_
  refine (catch_wrong g V x [] w hb).mono ?_
  rintro e u' w'' ⟨rfl, rfl, hc, hm⟩
  have hf2 : Fr w0 w'' := hf.mv hm (fun k hk => by rw [show k = g from hk]; exact hg)
  have hcell : w''.cell? ⟨g, 0, none⟩ = some (.int .i64 V) := by rw [blk_cell hc]; rfl
  have h6' : tmps[6]?.getD undef = .pointer (some ⟨g, 0, none⟩) := by simpa using h6
  simp [Leaves, settle, results, Tryz.results94, go_sem, h6', hcell]
  exact hf2
set_option maxHeartbeats 1000000 in
theorem door_ok (tmps : Array Value) (g : Nat) (w0 w : World) (V : Int) (h6 : tmps.getD 6 undef = .pointer (some ⟨g, 0, none⟩)) (hb : w.heap[g]? = some (.cells #[.int .i64 V] 35 (0, 0))) (hf : Fr w0 w) :
    bodyPostD Tryz.prog Tryz.f94 (fun e w' => e = .returned (.int .i64 V) ∧ Fr w0 w') Exit.ret { tmps := tmps, defers := [{ target := Target.fn (Fn.func 115) #[.pointer (some ⟨g, 0, none⟩)], args := #[] }] } w := by
  refine leaves_cons (f := 115) (args := #[.pointer (some ⟨g, 0, none⟩)]) (by simp) (by simp [go_sem]) ?_
  refine (catch_idle ⟨g, 0, none⟩ w).mono ?_
  rintro e u' w'' ⟨rfl, rfl, rfl⟩
  have hcell : w''.cell? ⟨g, 0, none⟩ = some (.int .i64 V) := by rw [blk_cell hb]; rfl
  have h6' : tmps[6]?.getD undef = .pointer (some ⟨g, 0, none⟩) := by simpa using h6
  simp [Leaves, settle, results, Tryz.results94, go_sem, h6', hcell]
  exact hf

set_option maxHeartbeats 4000000 in
theorem check_calls (L : List Int) (A : Option Addr) (n c : Nat) (eps : Int) (Av : Option Addr) (N cv : Nat) (vs : List Value) (Ss : List (List Seg)) (hn : n = L.length) (hc : n ≤ c) (hl : L.length < 4294967296) (hK : KeysOk L) (hN : N = Ss.length) (hNl : N < 4294967296)
    (hS : ∀ S ∈ Ss, S.length < 4294967296 ∧ ∀ s ∈ S, SegFit s) (heps : -9223372036854775808 ≤ eps ∧ eps ≤ 9223372036854775807) (w : World) (hr : RdC w A (L.map uv)) (hrv : RdC w Av vs) (hrows : RowsR w vs Ss) :
    Calls Tryz.prog 94 #[.slice A n c, .int .i64 eps, .slice Av N cv] w fun e w' => e = .returned (.int .i64 (checkV eps L Ss)) ∧ Fr w w' := by
  have hmf : ∀ (fn : Fn) (first cap : Array Value) (w : World), (Instr.makeFunc fn first cap).run Tryz.prog w = .ok (.func fn first cap) w := fun _ _ _ _ => rfl
  have HR := Lib.hid hr
  have HN := Lib.hid hn
  have HK := Lib.hid hK
  have HNV := Lib.hid hN
  have HS := Lib.hid hS
  have HRV := Lib.hid hrv
  have HROWS := Lib.hid hrows
  have hln : n < 4294967296 := by omega
  have HCC := Lib.hid hc
  have HEP := Lib.hid heps
  clear hr hn hK hN hS hrv hrows hc hl heps
  by_cases h1 : 2 ≤ eps
  · have d1 : decide (eps ≥ 2) = true := decide_eq_true h1
    by_cases h2 : eps ≤ 64
    · have d2 : decide (eps ≤ 64) = true := decide_eq_true h2
      obtain ⟨e, rfl⟩ := Int.eq_ofNat_of_zero_le (show 0 ≤ eps by omega)
      have heN : 2 ≤ e ∧ e ≤ 64 := by omega
      have RIS := Lib.hid (fun w' (hf : Fr w w') => rising_calls L A n c HN.out (by have := HN.out; omega) w' (HR.out.fr hf))
      have HCV : Hid (checkV (e : Int) L Ss = if ¬ Rise L then 80 else if ¬ (Ss.length ≤ maxH e 4294967296 ∧ (Ss.length = 0 ↔ L.length = 0)) then 81 else levelsV (e : Int) (Ss.length == 0) L Ss) := by
        rw [Hid]; unfold checkV; rw [if_neg (fun h => h ⟨h1, h2⟩), Int.toNat_natCast]
      obtain ⟨w1, hw1⟩ : ∃ w1, w1 = w.alloc (.cells #[.int .i64 0] 35) := ⟨_, rfl⟩
      have HB1 : Hid (w1.heap[w.heap.size]? = some (.cells #[.int .i64 0] 35 (0, 0))) := by rw [hw1]; exact heap_alloc_new w _
      have HF1 : Hid (Fr w w1) := by rw [hw1]; exact (Fr.refl w).alloc _
      -- the door, given up
      have DW : Hid (∀ (tmps : Array Value) (w' : World) (code V : Int), tmps.getD 6 undef = .pointer (some ⟨w.heap.size, 0, none⟩) → Fr w1 w' → V = code →
          bodyPostD Tryz.prog Tryz.f94 (fun e w' => e = .returned (.int .i64 V) ∧ Fr w w') (Exit.panic [{ v := wrongV code, recovered := false }]) { tmps := tmps, defers := [{ target := Target.fn (Fn.func 115) #[.pointer (some ⟨w.heap.size, 0, none⟩)], args := #[] }] } w') :=
        fun tmps w' code V h6 hf hV => door_wrong tmps w.heap.size w w' 0 code V h6 (hf.blk HB1.out) (HF1.out.trans hf) (Nat.le_refl _) hV
      obtain ⟨V, hV⟩ : ∃ V, checkV (e : Int) L Ss = V := ⟨_, rfl⟩
      rw [hV] at HCV ⊢
      have MY := Lib.hid must_ok
      have MN := Lib.hid must_no
      by_cases hR : Rise L
      · have dR : decide (Rise L) = true := decide_eq_true hR
        obtain ⟨H, hH⟩ : ∃ H, maxH e 4294967296 = H := ⟨_, rfl⟩
        have MX := Lib.hid (maxh_calls e heN 4294967296 (by decide))
        rw [hH] at MX HCV
        have HRI := Lib.hid hR
        rw [if_neg (fun h => h hR)] at HCV
        clear hV hR hH
        go_enter_defers Tryz.func94, Tryz.ntmps94
        go_wp2_with fail
        refine (MY.out 1 _).mono ?_
        rintro r w2 ⟨rfl, rfl⟩
        go_wp2_with fail
        rw [← hw1]
        refine (RIS.out w1 HF1.out).mono ?_
        rintro r w3 ⟨rfl, hf3⟩
        have HF3 := Lib.hid hf3
        rw [dR]
        clear hf3 dR hw1
        go_wp2_with fail
        refine (MY.out 80 _).mono ?_
        rintro r w2 ⟨rfl, rfl⟩
        go_wp2_with fail
        refine (MX.out _).mono ?_
        rintro r w2 ⟨rfl, rfl⟩
        by_cases c1 : N ≤ H
        · have e1 : decide (N ≤ H) = true := decide_eq_true c1
          have e1i : decide ((N : Int) ≤ (H : Int)) = true := decide_eq_true (by omega)
          by_cases c2 : (N = 0 ↔ n = 0)
          · have e2 : (((N : Int) == 0) == ((n : Int) == 0)) = true := by
              by_cases hz : N = 0
              · have := c2.1 hz; rw [hz, this]; rfl
              · have : ¬ n = 0 := fun h => hz (c2.2 h)
                have a1 : ((N : Int) == 0) = false := by rw [beq_eq_false_iff_ne]; omega
                have a2 : ((n : Int) == 0) = false := by rw [beq_eq_false_iff_ne]; omega
                rw [a1, a2]; rfl
            have HV2 : Hid (V = levelsV (e : Int) (Ss.length == 0) L Ss) := by
              rw [Hid, HCV.out, if_neg (fun h => h ⟨by have := HNV.out; omega, by rw [← HNV.out, ← HN.out]; exact c2⟩)]
            have hz0 : Hid ((Ss.length == 0) = (N == 0)) := by rw [Hid, HNV.out]
            clear HCV
            go_wp2_with fail
            refine (MY.out 81 _).mono ?_
            rintro r w2 ⟨rfl, rfl⟩
            go_wp2_with fail
            go_loopw [7, 44] (fun vb v wr => ∃ (j : Nat) (K : List Int) (Ab : Option Addr) (nb cb : Nat), vb = .slice Ab nb cb ∧ v = .int .i64 j ∧ j ≤ N ∧ Hid (nb = K.length) ∧ nb ≤ cb ∧ nb < 4294967296 ∧ Hid (Rise K) ∧ Hid (KeysOk K) ∧ Hid (RdC wr Ab (K.map uv)) ∧ Hid (V = levelsV (e : Int) (Ss.length == 0) K (Ss.drop j)) ∧ Hid (Fr w1 wr)) (fun _ v _ => N - (intOf v).toNat)
            case atStart => exact ⟨0, L, A, n, c, rfl, rfl, by omega, HN.out, HCC.out, hln, HRI.out, HK.out, HR.out.fr (HF1.out.trans HF3.out), by rw [Hid, List.drop_zero]; exact HV2.out, HF3.out⟩
            case round =>
              obtain ⟨j, K, Ab, nb, cb, rfl, rfl, hjN, hnb, hnc, hnl, hKr, hKk, hKrd, hVj, hfj⟩ := hrel
              rcases Nat.lt_or_ge j N with hlt | hge
              · have g1 : decide (j < N) = true := decide_eq_true hlt
                have g0 : (j : Int) < (N : Int) := by omega
                have hjS : j < Ss.length := by have := HNV.out; omega
                obtain ⟨S, hS⟩ : ∃ S, Ss[j] = S := ⟨_, rfl⟩
                have hSj : Ss[j]? = some S := by rw [List.getElem?_eq_getElem hjS, hS]
                obtain ⟨As, cs, hvs, hcs, hrs⟩ := HROWS.out.at hSj
                obtain ⟨bv, ov, hAv, hcv⟩ := (HRV.out.fr (HF1.out.trans hfj.out)).at (by have := HROWS.out.len; have := HNV.out; omega)
                subst hAv
                have x0 := hcv j _ hvs
                have hVj2 := hVj.out
                rw [List.drop_eq_getElem_cons hjS, hS] at hVj2
                have HVJ : Hid (V = if tilesOk S 0 (K.length : Int) = false then 82 else if segsV (e : Int) K S ≠ 0 then segsV (e : Int) K S else levelsV (e : Int) (Ss.length == 0) (firstsOf S) (Ss.drop (j + 1))) := hVj2
                have hSok := HS.out S (by rw [← hS]; exact List.getElem_mem hjS)
                obtain ⟨M, hM⟩ : ∃ M, S.length = M := ⟨_, rfl⟩
                rw [hM] at x0 hcs hSok
                have hMb : M < 4294967296 := hSok.1
                have HSOK := Lib.hid hSok.2
                have HM := Lib.hid hM
                have TI := Lib.hid (fun w' (hf : Fr w w') => tiles_calls S As M cs (nb : Int) hM.symm (by omega) (by omega) w' (hrs.fr hf))
                have HRS := Lib.hid hrs
                have wi : IntKind.i64.wrap ((j : Int) + 1) = (j : Int) + 1 := wrap_i64_in _ (by omega) (by omega)
                have HHCS := Lib.hid hcs
                clear hcv hvs hSj hS hVj2 hVj hSok hM hrs hcs
                go_wp2_with fail
                refine (TI.out _ (HF1.out.trans hfj.out)).mono ?_
                rintro r w4 ⟨hgv, hf4⟩
                have HF4 : Hid (Fr w1 w4) := hfj.out.trans hf4
                have HKRD4 : Hid (RdC w4 Ab (K.map uv)) := hKrd.out.fr hf4
                rcases hgv with ⟨ht, rfl⟩ | ⟨ht, rfl⟩
                · have HT : Hid (tilesOk S 0 (nb : Int) = true) := ht
                  have HV4 : Hid (V = if segsV (e : Int) K S ≠ 0 then segsV (e : Int) K S else levelsV (e : Int) (Ss.length == 0) (firstsOf S) (Ss.drop (j + 1))) := by
                    rw [Hid, HVJ.out, ← hnb.out, HT.out]; rfl
                  clear HVJ ht hf4
                  go_wp2_with fail
                  go_loopw [54] (fun v wr => ∃ i : Nat, v = .int .i64 i ∧ i ≤ M ∧ Hid (segsV (e : Int) K S = segsV (e : Int) K (S.drop i)) ∧ Hid (∀ k (hk : k < S.length), k < i → S[k].first = ky K S[k].frm.toNat) ∧ Hid (RdC wr Ab (K.map uv)) ∧ Hid (Fr w1 wr)) (fun v _ => M - (intOf v).toNat)
                  case atStart => exact ⟨0, rfl, by omega, by rw [Hid, List.drop_zero], fun k hk h => by omega, HKRD4.out, HF4.out⟩
                  case round =>
                    obtain ⟨i, rfl, hiM, hsv, hfi, hkr5, hf5⟩ := hrel
                    rcases Nat.lt_or_ge i M with hlt2 | hge2
                    · have g2 : decide (i < M) = true := decide_eq_true hlt2
                      have g02 : (i : Int) < (M : Int) := by omega
                      have hiS : i < S.length := by have := HM.out; omega
                      obtain ⟨ba, oa, hAa, hca⟩ := rdc_seg (HRS.out.fr (HF1.out.trans hf5.out)) (by omega)
                      subst hAa
                      obtain ⟨x0, x1, x2, x3, x4⟩ := hca i hiS
                      have hta := tiles_at HT.out (Int.le_refl 0) i hiS
                      obtain ⟨s, hs⟩ : ∃ s, S[i] = s := ⟨_, rfl⟩
                      have hsfit := HSOK.out s (by rw [← hs]; exact List.getElem_mem hiS)
                      have hsv2 := hsv.out
                      rw [List.drop_eq_getElem_cons hiS, hs] at hsv2
                      rw [hs] at x0 x1 x2 x3 x4 hta
                      have HSI := Lib.hid hs
                      obtain ⟨sf, sl, it, fr, up⟩ := s
                      dsimp only at x0 x1 x2 x3 x4 hta
                      obtain ⟨fn, rfl⟩ := Int.eq_ofNat_of_zero_le hta.1
                      obtain ⟨un, rfl⟩ := Int.eq_ofNat_of_zero_le (show 0 ≤ up by omega)
                      have hfu : fn < un := by omega
                      have hun : un ≤ nb := by omega
                      have HSV : Hid (segsV (e : Int) K S = segsV (e : Int) K (⟨sf, sl, it, fn, un⟩ :: S.drop (i + 1))) := hsv2
                      have HSF := Lib.hid hsfit
                      have wi2 : IntKind.i64.wrap ((i : Int) + 1) = (i : Int) + 1 := wrap_i64_in _ (by omega) (by omega)
                      have hba := heap_alloc_new wr (.cells #[.int .u64 sf, .float .f64 sl, .float .f64 it, .int .i64 (fn : Int), .int .i64 (un : Int)] 65)
                      have HBA := Lib.hid hba
                      obtain ⟨y0, y1, y2, y3, y4⟩ := cells5 hba
                      obtain ⟨w5, hw5⟩ : ∃ w5, w5 = wr.alloc (.cells #[.int .u64 sf, .float .f64 sl, .float .f64 it, .int .i64 (fn : Int), .int .i64 (un : Int)] 65) := ⟨_, rfl⟩
                      have HF5 : Hid (Fr w1 w5) := by rw [hw5]; exact hf5.out.alloc _
                      have HKR5 : Hid (RdC w5 Ab (K.map uv)) := by rw [hw5]; exact hkr5.out.fr ((Fr.refl _).alloc _)
                      obtain ⟨C, hC⟩ : ∃ C, chk ⟨sf, sl, it, fn, un⟩ = C := ⟨_, rfl⟩
                      have MC := Lib.hid (mcheck_calls ⟨sf, sl, it, fn, un⟩ hsfit.1)
                      rw [hC] at MC
                      unfold segVal at MC
                      dsimp only at MC
                      have HC := Lib.hid hC
                      obtain ⟨bx, hbx⟩ : ∃ bx, bx = wr.heap.size := ⟨_, rfl⟩
                      clear hca hta hsv2 hsv hsfit hba hs hC
                      go_wp2_with fail
                      rw [← hw5, ← hbx]
                      rw [← hw5, ← hbx] at HBA
                      refine (MC.out w5).mono ?_
                      rintro r w6 ⟨rfl, hf6⟩
                      have HF6 : Hid (Fr w1 w6) := HF5.out.trans hf6
                      have HKR6 : Hid (RdC w6 Ab (K.map uv)) := HKR5.out.fr hf6
                      have HB6 := Lib.hid (hf6.blk HBA.out)
                      clear hf6 y0 y1 y2 y3 y4 x0 x1 x2 x3 x4 hw5 hbx
                      obtain ⟨y0, y1, y2, y3, y4⟩ := cells5 HB6.out
                      by_cases hc0 : C = 0
                      · subst hc0
                        have HOK : Hid (SegOk ⟨sf, sl, it, fn, un⟩) := chk_ok.1 HC.out
                        go_wp2_with fail
                        refine (MY.out 0 _).mono ?_
                        rintro r w2 ⟨rfl, rfl⟩
                        obtain ⟨bk, ok, hAk, hck⟩ := rdc_ky HKR6.out (by have := hnb.out; omega)
                        subst hAk
                        have z0 := hck fn (by have := hnb.out; omega)
                        obtain ⟨kf, hkf⟩ : ∃ kf, ky K fn = kf := ⟨_, rfl⟩
                        rw [hkf] at z0
                        have HKF := Lib.hid hkf
                        have gf : (fn : Int) < (nb : Int) := by omega
                        clear hck hkf
                        go_wp2_with fail
                        refine wp_region_quiet_tail 8 (by kernel_rfl) (by kernel_rfl) ?_
                        try simp only [List.take_succ_cons, List.take_zero, List.drop_succ_cons, List.drop_zero]
                        try go_frame
                        repeat (quiet_step (fail))
                        refine wpQuiet_nil ?_
                        intro w7 hw'
                        obtain ⟨q, hw7⟩ := hw'
                        have HF7 : Hid (Fr w1 w7) := by rw [hw7]; exact HF6.out.drewN _
                        have HB7 : Hid (w7.heap[bx]? = some (.cells #[.int .u64 sf, .float .f64 sl, .float .f64 it, .int .i64 (fn : Int), .int .i64 (un : Int)] 65 (0, 0))) := by rw [hw7]; exact HB6.out
                        have HKR7 : Hid (RdC w7 (some ⟨bk, ok, none⟩) (K.map uv)) := by rw [hw7]; exact HKR6.out.fr (fr_drewN _ _)
                        clear hw7 y0 y1 y2 y3 y4 z0
                        obtain ⟨y0, y1, y2, y3, y4⟩ := cells5 HB7.out
                        by_cases hk0 : sf = kf
                        · subst hk0
                          have e4 : (sf == sf) = true := by rw [beq_iff_eq]
                          have HOFFY : Hid (offOk (e : Int) K ⟨sf, sl, it, fn, un⟩ → segsV (e : Int) K S = segsV (e : Int) K (S.drop (i + 1))) := by
                            intro h
                            rw [HSV.out]
                            conv => lhs; unfold segsV
                            rw [if_neg (fun h => h HC.out), if_neg (fun h => h (by show sf = ky K (fn : Int).toNat; rw [Int.toNat_natCast, HKF.out])), if_pos h]
                          have HOFFN : Hid (¬ offOk (e : Int) K ⟨sf, sl, it, fn, un⟩ → segsV (e : Int) K S = 85) := by
                            intro h
                            rw [HSV.out]
                            conv => lhs; unfold segsV
                            rw [if_neg (fun h => h HC.out), if_neg (fun h => h (by show sf = ky K (fn : Int).toNat; rw [Int.toNat_natCast, HKF.out])), if_neg h]
                          obtain ⟨A3, hA3, _, hA3r⟩ := run_cut_lh (P := Tryz.prog) 57 50 1 Tryz.underlying57 (by kernel_rfl) (some ⟨bk, ok, none⟩) nb cb fn un (fn : Int) (un : Int) rfl rfl (by omega) (by omega) .i64 .i64
                          have hsl := seg_len (L := K) (s := fn) (t := un) (by omega) (by have := hnb.out; omega)
                          have MOF : Hid (∀ w', Fr w7 w' → Calls Tryz.prog 119 #[.agg #[.int .u64 sf, .float .f64 sl, .float .f64 it, .int .i64 (fn : Int), .int .i64 (un : Int)], .slice A3 (un - fn) (cb - fn)] w' fun r w'' => ∃ x, r = .returned (.tuple #[.int .i64 x, .int .i64 0]) ∧ IsOff ⟨sf, sl, it, fn, un⟩ (seg K fn un) (un - fn) x ∧ Fr w' w'') := by
                            intro w' hf
                            refine moff_calls ⟨sf, sl, it, fn, un⟩ (seg K fn un) A3 (un - fn) (cb - fn) HSF.out HOK.out hsl.symm (seg_rise hKr.out _ _) (seg_ok hKk.out _ _) (by show (un : Int) - fn = _; omega) ?_ w' ?_
                            · show ky (seg K fn un) 0 = sf
                              rw [seg_ky (by omega)]; exact HKF.out
                            · have h1 := hA3r w' (K.map uv) (by rw [List.length_map, Nat.mul_one]; exact hnb.out.symm) hun (HKR7.out.fr hf)
                              rw [Nat.mul_one, Nat.mul_one, List.drop_take, ← seg_map] at h1
                              exact h1
                          have HCC7 : Hid (∀ w', Fr w7 w' → w'.cell? ⟨bx, 0, none⟩ = some (.int .u64 sf) ∧ w'.cell? ⟨bx, 1, none⟩ = some (.float .f64 sl) ∧ w'.cell? ⟨bx, 2, none⟩ = some (.float .f64 it) ∧ w'.cell? ⟨bx, 3, none⟩ = some (.int .i64 (fn : Int)) ∧ w'.cell? ⟨bx, 4, none⟩ = some (.int .i64 (un : Int))) :=
                            fun w' hf => cells5 (hf.blk HB7.out)
                          clear hA3r hsl
                          go_wp2_with fail
                          refine (MY.out 83 _).mono ?_
                          rintro r w2 ⟨rfl, rfl⟩
                          go_wp2_with fail
                          go_region_held3 (fun w' => w'.cell? ⟨bx, 0, none⟩ = some (.int .u64 sf) ∧ w'.cell? ⟨bx, 1, none⟩ = some (.float .f64 sl) ∧ w'.cell? ⟨bx, 2, none⟩ = some (.float .f64 it) ∧ w'.cell? ⟨bx, 3, none⟩ = some (.int .i64 (fn : Int)) ∧ w'.cell? ⟨bx, 4, none⟩ = some (.int .i64 (un : Int)))
                            (first | exact HCC7.out _ (Fr.refl _) | exact HCC7.out _ (Fr.refl _).drew | exact HCC7.out _ hfb.out)
                            (first | (go_at_call 119; refine (MOF.out _ (Fr.refl _).drew).mono ?_; rintro r wb ⟨x, rfl, hx, hqb⟩; have hfb : Hid (Fr w7 wb) := (Fr.refl w7).drew.trans hqb))
                          have HX : Hid (x ≤ (e : Int) ↔ offOk (e : Int) K ⟨sf, sl, it, fn, un⟩) := by
                            rw [Hid, hx.iff (by omega)]
                            unfold offOk
                            dsimp only
                            have e5 : ((un : Int) - (fn : Int)).toNat = un - fn := by omega
                            rw [e5, Int.toNat_natCast]
                            constructor
                            · intro h k hk
                              have := h k hk
                              rw [seg_ky hk] at this
                              exact this
                            · intro h k hk
                              rw [seg_ky hk]
                              exact h k hk
                          by_cases hxe : x ≤ (e : Int)
                          · have e6 : decide (x ≤ (e : Int)) = true := decide_eq_true hxe
                            have HSV2 : Hid (segsV (e : Int) K S = segsV (e : Int) K (S.drop (i + 1))) := by
                              exact HOFFY.out (HX.out.1 hxe)
                            have HFI2 : Hid (∀ k (hk : k < S.length), k < i + 1 → S[k].first = ky K S[k].frm.toNat) := by
                              intro k hk hki
                              rcases Nat.lt_or_ge k i with h | h
                              · exact hfi.out k hk h
                              · obtain rfl : k = i := by omega
                                rw [HSI.out]
                                show sf = ky K (fn : Int).toNat
                                rw [Int.toNat_natCast, HKF.out]
                            clear hx HSV hxe
                            go_wp2_with fail
                            refine (MY.out 85 _).mono ?_
                            rintro r w2 ⟨rfl, rfl⟩
                            go_wp2_with fail
                            exact ⟨⟨i + 1, rfl, by omega, HSV2.out, HFI2.out, HKR7.out.fr hfb.out, HF7.out.trans hfb.out⟩, by simp only [intOf]; omega⟩
                          · have e6 : decide (x ≤ (e : Int)) = false := decide_eq_false hxe
                            have hV85 : Hid (V = 85) := by
                              have h1 : segsV (e : Int) K S = 85 := HOFFN.out (fun h => hxe (HX.out.2 h))
                              rw [Hid, HV4.out, h1, if_pos (by decide)]
                            clear hx
                            go_wp2_with fail
                            refine (MN.out 85 _).mono ?_
                            rintro r w2 ⟨rfl, rfl⟩
                            go_wp2_with fail
                            exact DW.out _ _ 85 V rfl (HF7.out.trans hfb.out) hV85.out
                        · have e4 : (sf == kf) = false := by rw [beq_eq_false_iff_ne]; exact hk0
                          have hV83 : Hid (V = 83) := by
                            have h1 : segsV (e : Int) K S = 83 := by
                              rw [HSV.out]
                              conv => lhs; unfold segsV
                              rw [if_neg (fun h => h HC.out), if_pos (fun h => hk0 (by
                                have h2 : sf = ky K (fn : Int).toNat := h
                                rw [Int.toNat_natCast, HKF.out] at h2; exact h2))]
                            rw [Hid, HV4.out, h1, if_pos (by decide)]
                          go_wp2_with fail
                          refine (MN.out 83 _).mono ?_
                          rintro r w2 ⟨rfl, rfl⟩
                          go_wp2_with fail
                          exact DW.out _ _ 83 V rfl HF7.out hV83.out
                      · have e3 : (C == 0) = false := by rw [beq_eq_false_iff_ne]; exact hc0
                        have hVC : Hid (V = C) := by
                          have h1 : segsV (e : Int) K S = C := by rw [HSV.out]; unfold segsV; rw [HC.out, if_pos hc0]
                          rw [Hid, HV4.out, h1, if_pos hc0]
                        go_wp2_with fail
                        refine (MN.out C _).mono ?_
                        rintro r w2 ⟨rfl, rfl⟩
                        go_wp2_with fail
                        exact DW.out _ _ C V rfl HF6.out hVC.out
                    · obtain rfl : i = M := by omega
                      have g2 : decide (i < i) = false := by simp
                      have hsv0 : segsV (e : Int) K S = 0 := by
                        rw [hsv.out, List.drop_of_length_le (by rw [HM.out]; exact Nat.le_refl _)]; rfl
                      have HV5 : Hid (V = levelsV (e : Int) (Ss.length == 0) (firstsOf S) (Ss.drop (j + 1))) := by
                        rw [Hid, HV4.out, hsv0, if_neg (by decide)]
                      have htf := tiles_first hKr.out hKk.out HT.out (Int.le_refl 0) (by rw [hnb.out]) (fun k hk => hfi.out k hk (by have := HM.out; omega))
                      have HTF := Lib.hid htf
                      have FI := Lib.hid (firsts_calls S As i cs HM.out.symm (by have := HM.out; omega) _ (HRS.out.fr (HF1.out.trans hf5.out)))
                      clear htf hsv0 hsv hfi
                      go_wp2_with fail
                      refine FI.out.mono ?_
                      rintro r w6 ⟨g6, rfl, hb6, hg6, hf6⟩
                      have HB6 := Lib.hid hb6
                      have HF6 := Lib.hid hf6
                      clear hb6 hg6 hf6
                      go_wp2_with fail
                      exact ⟨⟨j + 1, firstsOf S, some ⟨g6, 0, none⟩, i, i, rfl, rfl, by omega, by rw [Hid]; unfold firstsOf; rw [List.length_map]; exact HM.out.symm, Nat.le_refl _, by omega, HTF.out.1, HTF.out.2.1, RdC.blk HB6.out, HV5.out, hf5.out.trans HF6.out⟩, by simp only [intOf]; omega⟩
                · have hV82 : Hid (V = 82) := by rw [Hid, HVJ.out, ← hnb.out, if_pos ht]
                  clear HVJ ht
                  go_wp2_with fail
                  exact DW.out _ _ 82 V rfl HF4.out hV82.out
              · obtain rfl : j = N := by omega
                have g1 : decide (j < j) = false := by simp
                have hVe : V = if (Ss.length == 0) = true ∨ K.length = 1 then 0 else 84 := by
                  have := hVj.out
                  rw [List.drop_of_length_le (by rw [← HNV.out]; exact Nat.le_refl _)] at this
                  exact this
                have HVE := Lib.hid hVe
                clear hVe hVj
                by_cases c3 : j = 0 ∨ nb = 1
                · have hV0 : Hid (V = 0) := by
                    rw [Hid, HVE.out, if_pos]
                    rcases c3 with h | h
                    · left; rw [hz0.out, h]; rfl
                    · right; rw [← hnb.out]; exact h
                  by_cases hj0 : j = 0
                  · have e5 : ((j : Int) == 0) = true := by rw [hj0]; rfl
                    have HBX := Lib.hid (hfj.out.blk HB1.out)
                    have t0 := blk_frozen HBX.out 0
                    have t1 : _ := cells1 HBX.out
                    clear c3
                    go_wp2_with fail
                    refine (MY.out 84 _).mono ?_
                    rintro r w2 ⟨rfl, rfl⟩
                    go_wp2_with fail
                    rw [hV0.out]
                    exact door_ok _ w.heap.size w _ 0 rfl (blk_set HBX.out 0 _) ((HF1.out.trans hfj.out).set (p := ⟨w.heap.size, 0, none⟩) (Nat.le_refl _) _)
                  · have e5 : ((j : Int) == 0) = false := by rw [beq_eq_false_iff_ne]; omega
                    have hn1 : nb = 1 := by omega
                    have e6 : ((nb : Int) == 1) = true := by rw [hn1]; rfl
                    have HBX := Lib.hid (hfj.out.blk HB1.out)
                    have t0 := blk_frozen HBX.out 0
                    have t1 : _ := cells1 HBX.out
                    clear c3
                    go_wp2_with fail
                    refine (MY.out 84 _).mono ?_
                    rintro r w2 ⟨rfl, rfl⟩
                    go_wp2_with fail
                    rw [hV0.out]
                    exact door_ok _ w.heap.size w _ 0 rfl (blk_set HBX.out 0 _) ((HF1.out.trans hfj.out).set (p := ⟨w.heap.size, 0, none⟩) (Nat.le_refl _) _)
                · have hV84 : Hid (V = 84) := by
                    rw [Hid, HVE.out, if_neg]
                    intro h
                    rcases h with h | h
                    · rw [hz0.out] at h
                      exact c3 (.inl (by simpa using h))
                    · exact c3 (.inr (by rw [hnb.out]; exact h))
                  have e5 : ((j : Int) == 0) = false := by rw [beq_eq_false_iff_ne]; omega
                  have e6 : ((nb : Int) == 1) = false := by rw [beq_eq_false_iff_ne]; omega
                  clear c3
                  go_wp2_with fail
                  refine (MN.out 84 _).mono ?_
                  rintro r w2 ⟨rfl, rfl⟩
                  go_wp2_with fail
                  exact DW.out _ _ 84 V rfl hfj.out hV84.out
          · have e2 : (((N : Int) == 0) == ((n : Int) == 0)) = false := by
              by_cases hz : N = 0
              · have h3 : ¬ n = 0 := fun h => c2 ⟨fun _ => h, fun _ => hz⟩
                have a1 : ((N : Int) == 0) = true := by rw [hz]; rfl
                have a2 : ((n : Int) == 0) = false := by rw [beq_eq_false_iff_ne]; omega
                rw [a1, a2]; rfl
              · have h3 : n = 0 := Decidable.by_contra (fun h => c2 ⟨fun h2 => absurd h2 hz, fun h2 => absurd h2 h⟩)
                have a1 : ((N : Int) == 0) = false := by rw [beq_eq_false_iff_ne]; omega
                have a2 : ((n : Int) == 0) = true := by rw [h3]; rfl
                rw [a1, a2]; rfl
            have hV81 : Hid (V = 81) := by
              rw [Hid, HCV.out, if_pos (fun h => c2 (by rw [HNV.out, HN.out]; exact h.2))]
            clear HCV c2
            go_wp2_with fail
            refine (MN.out 81 _).mono ?_
            rintro r w2 ⟨rfl, rfl⟩
            go_wp2_with fail
            exact DW.out _ _ 81 V rfl HF3.out hV81.out
        · have e1 : decide (N ≤ H) = false := decide_eq_false c1
          have e1i : decide ((N : Int) ≤ (H : Int)) = false := decide_eq_false (by omega)
          have hV81 : Hid (V = 81) := by
            rw [Hid, HCV.out, if_pos (fun h => c1 (by rw [HNV.out]; exact h.1))]
          clear HCV c1
          go_wp2_with fail
          refine (MN.out 81 _).mono ?_
          rintro r w2 ⟨rfl, rfl⟩
          go_wp2_with fail
          exact DW.out _ _ 81 V rfl HF3.out hV81.out
      · have dR : decide (Rise L) = false := decide_eq_false hR
        have hV80 : V = 80 := by rw [HCV.out, if_pos hR]
        subst hV80
        go_enter_defers Tryz.func94, Tryz.ntmps94
        go_wp2_with fail
        refine (MY.out 1 _).mono ?_
        rintro r w2 ⟨rfl, rfl⟩
        go_wp2_with fail
        rw [← hw1]
        refine (RIS.out w1 HF1.out).mono ?_
        rintro r w3 ⟨rfl, hf3⟩
        rw [dR]
        go_wp2_with fail
        refine (MN.out 80 _).mono ?_
        rintro r w2 ⟨rfl, rfl⟩
        go_wp2_with fail
        exact DW.out _ _ 80 80 rfl hf3 rfl
    · have d2 : decide (eps ≤ 64) = false := decide_eq_false h2
      go_enter_defers Tryz.func94, Tryz.ntmps94
      go_wp2_with fail
      refine (must_no 1 _).mono ?_
      rintro e w2 ⟨rfl, rfl⟩
      go_wp2_with fail
      exact door_wrong _ w.heap.size w _ 0 1 _ rfl (heap_alloc_new w _) ((Fr.refl w).alloc _) (Nat.le_refl _) (by unfold checkV; rw [if_pos (fun h => by omega)])
  · have d1 : decide (eps ≥ 2) = false := decide_eq_false (by omega)
    go_enter_defers Tryz.func94, Tryz.ntmps94
    go_wp2_with fail
    refine (must_no 1 _).mono ?_
    rintro e w2 ⟨rfl, rfl⟩
    go_wp2_with fail
    exact door_wrong _ w.heap.size w _ 0 1 _ rfl (heap_alloc_new w _) ((Fr.refl w).alloc _) (Nat.le_refl _) (by unfold checkV; rw [if_pos (fun h => by omega)])
end Go.Proofs.YthjimnmgbcckjaaGreat
namespace Go.Proofs.YthjimnmgbcckjaaGreat
open Go.RowKit Go.Inc Go.Run

theorem level_tiles {e : Int} {L : List Int} : ∀ {S : List Seg} {s : Nat}, LevelOf e L s S L.length → tilesOk S (s : Int) (L.length : Int) = true
  | [], s, h => by
    have : s = L.length := h
    unfold tilesOk
    rw [this]; simp
  | x :: S, s, h => by
    obtain ⟨u, hc, hs, h2⟩ := h
    have ih := level_tiles h2
    have h1 := hs.hfrm
    have h3 := hs.hto
    rw [seg_len (by have := hc.1; omega) hc.2.1] at h3
    have hup : x.upto = (u : Int) := by have := hc.1; omega
    unfold tilesOk
    rw [hup, ih, Bool.and_true, decide_eq_true_eq]
    have := hc.1; have := hc.2.1
    exact ⟨h1, by omega, by omega⟩
theorem level_segs {e : Int} (he : 1 ≤ e ∧ e ≤ 63) {L : List Int} (hR : Rise L) (hK : KeysOk L) (hl : L.length ≤ 4294967296) : ∀ {S : List Seg} {s t : Nat}, LevelOf e L s S t → segsV (e + 1) L S = 0
  | [], s, t, h => by unfold segsV; rfl
  | x :: S, s, t, h => by
    obtain ⟨u, hc, hs, h2⟩ := h
    have ih := level_segs he hR hK hl h2
    have hsu := hc.1
    have hul := hc.2.1
    have hsl := seg_len (L := L) (s := s) (t := u) (by omega) hul
    have hF : FitsL e (seg L s u) := by
      have h1 := hc.2.2.1 (u - s - 1) (by omega)
      rw [List.take_of_length_le (by omega)] at h1
      exact h1
    obtain ⟨k1, k2, k3⟩ := segof_ok he (seg_rise hR s u) (seg_ok hK s u) (by omega) (frm := (s : Int)) (by rw [hsl]; omega) hs hF
    have h1 := hs.hfrm
    have h3 := hs.hto
    have h4 := hs.hfirst
    rw [seg_first hsu] at h4
    unfold segsV
    rw [if_neg (fun h => h (chk_ok.2 k1)), if_neg (fun h => h (by rw [h1, Int.toNat_natCast]; exact h4)), if_pos]
    · exact ih
    · intro i hi
      have hi2 : i < u - s := by omega
      have h5 := k3 i (by omega)
      rw [seg_ky hi2] at h5
      rw [h1, Int.toNat_natCast]
      omega
theorem level_fit {e : Int} (he : 1 ≤ e ∧ e ≤ 63) {L : List Int} (hR : Rise L) (hK : KeysOk L) (hl : L.length ≤ 4294967296) : ∀ {S : List Seg} {s t : Nat}, LevelOf e L s S t → ∀ x ∈ S, SegFit x
  | [], s, t, _, x, hx => by cases hx
  | y :: S, s, t, h, x, hx => by
    obtain ⟨u, hc, hs, h2⟩ := h
    rcases List.mem_cons.1 hx with rfl | hx
    · have hsu := hc.1
      have hul := hc.2.1
      have hsl := seg_len (L := L) (s := s) (t := u) (by omega) hul
      have hF : FitsL e (seg L s u) := by
        have h1 := hc.2.2.1 (u - s - 1) (by omega)
        rw [List.take_of_length_le (by omega)] at h1
        exact h1
      exact (segof_ok he (seg_rise hR s u) (seg_ok hK s u) (by omega) (frm := (s : Int)) (by rw [hsl]; omega) hs hF).2.1
    · exact level_fit he hR hK hl h2 x hx
theorem level_len {e : Int} (he : 1 ≤ e) {L : List Int} (hR : Rise L) (h0 : 0 < L.length) {S : List Seg} (h : LevelOf e L 0 S L.length) : S.length ≤ L.length := by
  rcases level_less he hR h0 h with h1 | h1 <;> omega
/-- The height. -/
theorem levels_high {e : Nat} (he : 2 ≤ e) : ∀ {Ss : List (List Seg)} {K : List Int}, Rise K → KeysOk K → LevelsOf ((e : Int) - 1) K Ss → Ss.length ≤ maxH e K.length
  | [], K, _, _, _ => by simp
  | S :: Ss, K, hR, hK, h => by
    obtain ⟨h0, hl, h1, h2⟩ := h
    by_cases hS : S.length = 1
    · rw [h1 hS]
      have := maxH_pos (e := e) h0
      simpa using this
    · have hlf := level_first hR hK hl
      have ih := levels_high he hlf.1 hlf.2.2 (h2 hS)
      have hp := level_pos h0 hl
      have hcnt := level_count (by omega) hR hl hp
      have hfl : (firstsOf S).length = S.length := by unfold firstsOf; rw [List.length_map]
      rw [hfl] at ih
      have hm : 2 ≤ S.length := by omega
      -- the next level is short
      have c1 : ((S.length : Int) - 1) * (e : Int) ≤ ((S.length : Int) - 1) * (2 * ((e : Int) - 1) + 1) := Int.mul_le_mul_of_nonneg_left (by omega) (by omega)
      have c2 : (1 : Int) * (2 * ((e : Int) - 1) + 1) ≤ ((S.length : Int) - 1) * (2 * ((e : Int) - 1) + 1) := Int.mul_le_mul_of_nonneg_right (by omega) (by omega)
      have c3 : S.length - 1 ≤ K.length / e := by
        rw [Nat.le_div_iff_mul_le (by omega)]
        have : (((S.length - 1) * e : Nat) : Int) = ((S.length : Int) - 1) * (e : Int) := by rw [Int.natCast_mul, Int.natCast_sub (by omega)]; rfl
        omega
      have c4 : 2 * e < K.length + 1 := by omega
      rw [maxH_step he c4]
      have := maxH_mono he (K.length / e + 1) S.length (by omega)
      simp only [List.length_cons]
      omega
/-- What Build makes, Check takes. -/
theorem levels_take {e : Nat} (he : 2 ≤ e ∧ e ≤ 64) (z : Bool) : ∀ {Ss : List (List Seg)} {K : List Int}, Rise K → KeysOk K → K.length ≤ 4294967296 → LevelsOf ((e : Int) - 1) K Ss → (Ss = [] → z = true) → levelsV (e : Int) z K Ss = 0
  | [], K, _, _, _, _, hz => by unfold levelsV; rw [if_pos (.inl (hz rfl))]
  | S :: Ss, K, hR, hK, hl, h, _ => by
    obtain ⟨h0, hlv, h1, h2⟩ := h
    have ht := level_tiles hlv
    have hs := level_segs (e := (e : Int) - 1) (by omega) hR hK hl hlv
    rw [Int.sub_add_cancel] at hs
    unfold levelsV
    have ht' : tilesOk S 0 (K.length : Int) = true := ht
    rw [ht', hs, if_neg (by decide), if_neg (by decide)]
    have hfl : (firstsOf S).length = S.length := by unfold firstsOf; rw [List.length_map]
    by_cases hS : S.length = 1
    · rw [h1 hS]
      unfold levelsV
      rw [if_pos (.inr (by rw [hfl]; exact hS))]
    · have hlf := level_first hR hK hlv
      have hln := level_len (by omega) hR h0 hlv
      cases Ss with
      | nil =>
        have h3 : firstsOf S = [] := h2 hS
        have hp := level_pos h0 hlv
        rw [h3] at hfl
        simp at hfl
        omega
      | cons T Ss => exact levels_take he z hlf.1 hlf.2.2 (by rw [hfl]; omega) (h2 hS) (fun h => by cases h)
theorem levels_check {e : Nat} (he : 2 ≤ e ∧ e ≤ 64) {Ss : List (List Seg)} {K : List Int} (hR : Rise K) (hK : KeysOk K) (hl : K.length ≤ 4294967296) (h : LevelsOf ((e : Int) - 1) K Ss) : checkV (e : Int) K Ss = 0 := by
  unfold checkV
  have hz : (Ss.length = 0 ↔ K.length = 0) := by
    cases Ss with
    | nil =>
      have : K = [] := h
      subst this
      simp
    | cons S Ss =>
      have := h.1
      simp
      intro h2; subst h2; simp at this
  rw [if_neg (fun h2 => h2 ⟨by omega, by omega⟩), if_neg (fun h2 => h2 hR), if_neg]
  · refine levels_take he _ hR hK hl h (fun h2 => by rw [h2]; rfl)
  · intro h2
    refine h2 ⟨?_, hz⟩
    rw [Int.toNat_natCast]
    exact Nat.le_trans (levels_high he.1 hR hK h) (maxH_mono he.1 _ _ hl)
theorem levels_fit {e : Nat} (he : 2 ≤ e ∧ e ≤ 64) : ∀ {Ss : List (List Seg)} {K : List Int}, Rise K → KeysOk K → K.length ≤ 4294967296 → LevelsOf ((e : Int) - 1) K Ss → ∀ S ∈ Ss, S.length ≤ K.length ∧ ∀ s ∈ S, SegFit s
  | [], K, _, _, _, _, S, hS => by cases hS
  | T :: Ss, K, hR, hK, hl, h, S, hS => by
    obtain ⟨h0, hlv, h1, h2⟩ := h
    have hln := level_len (by omega) hR h0 hlv
    rcases List.mem_cons.1 hS with rfl | hS
    · exact ⟨hln, level_fit (by omega) hR hK hl hlv⟩
    · have hlf := level_first hR hK hlv
      have hfl : (firstsOf T).length = T.length := by unfold firstsOf; rw [List.length_map]
      by_cases hT : T.length = 1
      · rw [h1 hT] at hS; cases hS
      · have := levels_fit he hlf.1 hlf.2.2 (by omega) (h2 hT) S hS
        exact ⟨by omega, this.2⟩
end Go.Proofs.YthjimnmgbcckjaaGreat
