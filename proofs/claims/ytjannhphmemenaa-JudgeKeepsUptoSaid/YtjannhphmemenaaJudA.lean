/- The walks of All: the judge's and the reference's (printed by genall.py). -/
import Derived.Test.YtjannhphmemenaaJudB
import Derived.Deep.DeepCutAuto
namespace Go.Proofs.Ytjannhphmemenaa
set_option maxRecDepth 100000
open Go.RowKit Go.Inc Go.Jud Go.Maps Go.Sort

def allR (most : Int) (os : List OpV) (qs : List AnsV) : List Pr × Int := if 1 ≤ most ∧ most ≤ 4294967296 then (allF most os qs, 0) else ([], 1)
def AllPost (most : Int) (os : List OpV) (qs : List AnsV) (w : World) (e : Ending) (w' : World) : Prop :=
  ∃ F cf, e = .returned (.tuple #[.slice F (allR most os qs).1.length cf, .int .i64 (allR most os qs).2]) ∧ Own w' w.heap.size 61 2 F (allR most os qs).1.length cf ((allR most os qs).1.flatMap fcells) ∧ Fr w w'
theorem own_mk {w : World} {base : Nat} {e : TypeId} {size n n' c : Nat} {A : Option Addr} {xs xs' : List Value} (h : Own w base e size A n c xs) (hn : n' = n) (hx : xs' = xs) : Own w base e size A n' c xs' := by subst hn; subst hx; exact h
theorem pcells_ne {l : List Pr} (h : l ≠ []) : l.flatMap pcells ≠ [] := by cases l with
  | nil => exact absurd rfl h
  | cons p l => simp [pcells]
/-- Behind an append to the list of faults. -/
theorem far_app {A A' RA : Option Addr} {w : World} {g b : Nat} {o : Obj} (hd : ∀ k, ablk A = some k → k ≠ g ∧ k ≠ b ∧ ablk RA ≠ some k) (h : ablk A' = ablk A ∨ ablk A' = some (w.alloc o).heap.size) (hg : g < w.heap.size) (hb : b < w.heap.size) (hr : ∀ k, ablk RA = some k → k < w.heap.size) :
    ∀ k, ablk A' = some k → k ≠ g ∧ k ≠ b ∧ ablk RA ≠ some k := by
  intro k hk
  rcases h with h | h
  · exact hd k (by rw [← h]; exact hk)
  · rw [hk, World.size_alloc] at h
    have e := Option.some.inj h
    exact ⟨by omega, by omega, fun h2 => by have := hr k h2; omega⟩

theorem far_app2 {A A' PA RA : Option Addr} {w : World} {g : Nat} {o : Obj} (hd : ∀ k, ablk A = some k → k ≠ g ∧ ablk PA ≠ some k ∧ ablk RA ≠ some k) (h : ablk A' = ablk A ∨ ablk A' = some (w.alloc o).heap.size) (hg : g < w.heap.size) (hb : ∀ k, ablk PA = some k → k < w.heap.size) (hr : ∀ k, ablk RA = some k → k < w.heap.size) :
    ∀ k, ablk A' = some k → k ≠ g ∧ ablk PA ≠ some k ∧ ablk RA ≠ some k := by
  intro k hk
  rcases h with h | h
  · exact hd k (by rw [← h]; exact hk)
  · rw [hk, World.size_alloc] at h
    have e := Option.some.inj h
    exact ⟨by omega, fun h2 => by have := hb k h2; omega, fun h2 => by have := hr k h2; omega⟩

set_option maxHeartbeats 4000000 in
theorem jall_calls (most : Int) (os : List OpV) (xs : List AnsC) (O X : Option Addr) (n c m c' : Nat) (w : World) (hr : -9223372036854775808 ≤ most ∧ most ≤ 9223372036854775807) (hn : n = os.length) (hm : m = xs.length) (hos : os.length ≤ 1073741823) (hxs : xs.length ≤ 1073741823)
    (hO : RdC w O (os.flatMap ocells)) (hX : RdC w X (xs.flatMap acells)) (hA : ∀ x ∈ xs, AnsOk w x) (hU : ∀ o ∈ os, U o.key ∧ U o.val) :
    Calls Try.prog 8 #[.int .i64 most, .slice O n c, .slice X m c'] w (AllPost most os (xs.map (·.a)) w) := by
  subst hn; subst hm
  by_cases hv : 1 ≤ most ∧ most ≤ 4294967296
  · have HR : Hid (allR most os (xs.map (·.a)) = (allF most os (xs.map (·.a)), 0)) := by rw [Hid, allR, if_pos hv]
    have HO := Lib.hid hO
    have HX := Lib.hid hX
    have HA := Lib.hid hA
    have HU := Lib.hid hU
    obtain ⟨N, hN⟩ : ∃ N : Nat, N = min os.length xs.length := ⟨_, rfl⟩
    have hmin : min (os.length : Int) (xs.length : Int) = (N : Int) := by omega
    have HN := Lib.hid hN
    obtain ⟨Fi, hFi⟩ : ∃ Fi : Nat → List Pr, ∀ i, Fi i = fl most [] (os.take i) ((xs.map (·.a)).take i) 0 := ⟨_, fun _ => rfl⟩
    obtain ⟨Li, hLi⟩ : ∃ Li : Nat → List Pr, ∀ i, Li i = runs most [] (os.take i) := ⟨_, fun _ => rfl⟩
    have hF0 : Hid (Fi 0 = []) := by rw [Hid, hFi]; rfl
    have hL0 : Hid (Li 0 = []) := by rw [Hid, hLi]; rfl
    have hFl : Hid (∀ i, (Fi i).length ≤ 5 * i) := fun i => by rw [hFi]; exact Nat.le_trans (fl_len _ _ _ _ _) (by rw [List.length_take]; omega)
    have hLl : Hid (∀ i, (Li i).length ≤ i) := fun i => by rw [hLi]; exact Nat.le_trans (runs_len _ _ _) (by rw [List.length_take]; simp; omega)
    have hFS : Hid (∀ (i : Nat) (o : OpV) (x : AnsC), os[i]? = some o → xs[i]? = some x → Fi (i + 1) = Fi i ++ (rules x.a (does most (Li i) o).1).map (fun r => ((i : Int), r))) := fun i o x h1 h2 => by
      rw [hFi, hFi, hLi]; exact fl_take h1 (by rw [List.getElem?_map, h2]; rfl)
    have hLS : Hid (∀ (i : Nat) (o : OpV), os[i]? = some o → Li (i + 1) = (does most (Li i) o).2) := fun i o h1 => by rw [hLi, hLi]; exact runs_take h1
    have hFN : Hid (Fi N = fl most [] os (xs.map (·.a)) 0) := by
      rw [Hid, hFi]; exact fl_short most os _ [] 0 N (by simp; omega) (by omega) (by simp; omega)
    have hNl : Hid (N ≤ os.length ∧ N ≤ xs.length) := by rw [Hid]; omega
    have hNb : N ≤ 1073741823 := by omega
    clear hO hX hA hU hN hFi hLi
    go_enter Try.func8, Try.ntmps8
    go_wp2_with fail
    refine (jnew_yes most w hv.1 hv.2).mono ?_
    rintro e w1 ⟨g, b, rfl, hg, hb, hJ, hf⟩
    have HJ := Lib.hid hJ
    have HF := Lib.hid hf
    clear hJ
    clear hf hv hr
    go_wp2_with fail
    go_loopw [10, 29] (fun v10 vi wr => ∃ (i : Nat) (A5 : Option Addr) (c5 : Nat), vi = .int .i64 i ∧ i ≤ N ∧ v10 = .slice A5 (Fi i).length c5 ∧ Hid (Own wr w.heap.size 61 2 A5 (Fi i).length c5 ((Fi i).flatMap fcells)) ∧ Hid (∀ k, ablk A5 = some k → k ≠ g ∧ k ≠ b) ∧ Hid (IsJ wr g b most (Li i)) ∧ Hid (Fr w wr)) (fun _ vi _ => N - (intOf vi).toNat)
    case atStart => exact ⟨0, none, 0, rfl, by omega, by rw [hF0.out]; rfl, own_mk (Own.nil _ _ _ _) (by rw [hF0.out]; rfl) (by rw [hF0.out]; rfl), fun k hk => by simp [ablk] at hk, by rw [Hid, hL0.out]; exact HJ.out, HF.out⟩
    case round =>
      obtain ⟨i, A5, c5, rfl, hi, rfl, ho5, hd5, hJr, hfr⟩ := hrel
      by_cases hlt : i < N
      · have hio : i < os.length := by have := hNl.out; omega
        have hix : i < xs.length := by have := hNl.out; omega
        obtain ⟨o, hoi⟩ : ∃ o, os[i]? = some o := ⟨_, List.getElem?_eq_getElem hio⟩
        obtain ⟨x, hxi⟩ : ∃ x, xs[i]? = some x := ⟨_, List.getElem?_eq_getElem hix⟩
        have hOK := HA.out x (List.mem_of_getElem? hxi)
        have hUK := HU.out o (List.mem_of_getElem? hoi)
        obtain ⟨bo, oo, hO, hco⟩ := rows_at ocells 3 ocells_len (by omega) HO.out (by omega)
        subst hO
        obtain ⟨bx, ox, hX, hcx⟩ := rows_at acells 6 acells_len (by omega) HX.out (by omega)
        subst hX
        obtain ⟨o0, o1, o2⟩ := op_at (w := wr) (fun j v hv => hfr.out.cell (hco i o hoi j v hv))
        obtain ⟨x0, x1, x2, x3, x4, x5⟩ := ans_at (w := wr) (fun j v hv => hfr.out.cell (hcx i x hxi j v hv))
        have hF1 := Lib.hid (hFS.out i o x hoi hxi)
        have hL1 := Lib.hid (hLS.out i o hoi)
        have hrdx := Lib.hid (hOK.1)
        have hrdl := hOK.2
        have huk := Lib.hid hUK
        have hzo : (i : Int) < (os.length : Int) := by omega
        have hzx : (i : Int) < (xs.length : Int) := by omega
        have hzn : decide (i < N) = true := decide_eq_true hlt
        have hLi := hLl.out i
        have hFi := hFl.out i
        clear hco hcx hoi hxi hOK hUK
        go_wp2_with fail
        refine wp_region_quiet_tail1 9 _ (.int .i64 0) (by kernel_rfl) (by kernel_rfl) rfl (fun _ _ _ h => h) (.inl ⟨rfl, fun w => rfl⟩) ?_
        simp only [List.take_succ_cons, List.take_zero, List.drop_succ_cons, List.drop_zero, List.length_cons, List.length_nil]
        go_frame
        repeat (quiet_step (fail))
        refine wpQuiet_nil ?_
        intro _ hw'
        obtain ⟨q, rfl⟩ := hw'
        obtain ⟨w5, hw5⟩ : ∃ w5, w5 = wr.drewN q := ⟨_, rfl⟩
        rw [← hw5]
        have hf5 : Hid (Fr wr w5) := by rw [hw5]; exact fr_drewN _ _
        clear hw5
        go_wp2_with fail
        refine (jsee_calls g b most (Li i) o x.a x.B _ x.c w5 (hJr.out.fr hf5.out) huk.out.1 huk.out.2 (by omega) rfl hrdl (hrdx.out.fr (hfr.out.trans hf5.out)) (fun hne e => by have := hrdx.out.lt (pcells_ne hne) e; omega)).mono ?_
        rintro e w6 ⟨RA, cR, rfl, hown, hm6, hJ6⟩
        generalize hR : rules x.a (does most (Li i) o).1 = R at hown hF1
        have hRl : R.length ≤ 5 := by rw [← hR]; exact rules_len _ _
        have hfr6 := hm6
        have HM6 := Lib.hid hfr6
        have hJ6 : Hid (IsJ w6 g b most (Li (i + 1))) := by rw [Hid, hL1.out]; exact hJ6
        have hoR := Lib.hid hown
        have hfw : Hid (Fr w w6) := ((Mv.of_fr (S := none0) (hfr.out.trans hf5.out)).trans HM6.out (fun k h => .inr (by rw [show k = b from h]; exact hb))).fr0
        have hd6 : Hid (∀ k, ablk A5 = some k → k ≠ g ∧ k ≠ b ∧ ablk RA ≠ some k) := fun k hk => ⟨(hd5.out k hk).1, (hd5.out k hk).2, fun e => by have h1 := (hoR.out.lt k e).1; have h2 := (ho5.out.lt k hk).2; have h3 := hf5.out.size; omega⟩
        have ho6 : Hid (Own w6 w.heap.size 61 2 A5 ((Fi i).length + 0) c5 ((Fi i ++ (R.take 0).map (fun r => ((i : Int), r))).flatMap fcells)) := by
          simpa [Hid] using (ho5.out.fr hf5.out).mv HM6.out (fun k hk e => (hd5.out k hk).2 e)
        have hLen := Lib.hid hRl
        clear hfr6 hown hR o0 o1 o2 x0 x1 x2 x3 x4 x5
        go_wp2_with fail
        go_loopw [10, 43] (fun v10 vk wi => ∃ (j : Nat) (A6 : Option Addr) (c6 : Nat), vk = .int .i64 j ∧ j ≤ R.length ∧ v10 = .slice A6 ((Fi i).length + j) c6 ∧ Hid (Own wi w.heap.size 61 2 A6 ((Fi i).length + j) c6 ((Fi i ++ (R.take j).map (fun r => ((i : Int), r))).flatMap fcells)) ∧ Hid (∀ k, ablk A6 = some k → k ≠ g ∧ k ≠ b ∧ ablk RA ≠ some k) ∧ Hid (IsJ wi g b most (Li (i + 1))) ∧ Hid (Own wi w5.heap.size 3 1 RA R.length cR (R.map (Value.int .i64))) ∧ Hid (Fr w wi)) (fun _ vk _ => R.length - (intOf vk).toNat)
        case atStart => exact ⟨0, A5, c5, rfl, by omega, rfl, ho6, hd6, hJ6, hoR, hfw⟩
        case round =>
          obtain ⟨j, A6, c6, rfl, hj, rfl, ho, hd, hJi, hoRi, hfi⟩ := hrel
          by_cases hjl : j < R.length
          · obtain ⟨bR, oR, hRA, hcR⟩ := nums_cells hoRi.out.rd (by omega)
            subst hRA
            have hcj := hcR j hjl
            obtain ⟨r, hr⟩ : ∃ r, r = R.getD j 0 := ⟨_, rfl⟩
            rw [← hr] at hcj
            have htk : Hid (R.take (j + 1) = R.take j ++ [r]) := by
              rw [Hid, List.take_succ_eq_append_getElem hjl, hr]; simp [hjl]
            have hjz : (j : Int) < (R.length : Int) := by omega
            have hjn : decide (j < R.length) = true := decide_eq_true hjl
            clear hcR hr
            go_wp2_with (at_builtin; refine gate ?_)
            refine gate_app rfl _ _ 25 rfl 61 (.agg #[.int .i64 0, .int .i64 0]) 2 16 Try.underlying25 info_fault rfl (by omega) (by omega) w.heap.size A6 ((Fi i).length + j) c6 _ (some ⟨wr.heap.size, 0, none⟩) 1 1 (fcells ((i : Int), r)) (by rfl) (by rfl)
              (ho.out.fr ((Fr.refl wr).alloc _)) rfl (RdC.blk (Blk.new wr _ _)) (by simpa using fcells_one [((i : Int), r)]) (by have := hLen.out; omega) (by have := hfi.out.size; simp; omega) ?_
            intro A7 c7 w8 hown hgr hat
            have mA : Mv (fun k => ablk A6 = some k) wr w8 := ((Mv.refl _ wr).alloc _).grown hgr.out (fun k hk => .inl hk)
            have hlt2 := hJi.out.lt
            have hd8 := Lib.hid (far_app hd.out hat.out hlt2.1 hlt2.2 (fun k hk => (hoRi.out.lt k hk).2))
            have hJ8 := Lib.hid (hJi.out.mv mA (fun e => (hd.out g e).1 rfl) (fun e => (hd.out b e).2.1 rfl))
            have hoR8 := Lib.hid (hoRi.out.mv mA (fun k hk e => (hd.out k e).2.2 hk))
            have hf8 : Hid (Fr w w8) := (hfi.out.alloc _).grown hgr.out (fun k hk => (ho.out.lt k hk).1)
            have ho8 : Hid (Own w8 w.heap.size 61 2 A7 ((Fi i).length + j + 1) c7 ((Fi i ++ (R.take (j + 1)).map (fun r => ((i : Int), r))).flatMap fcells)) := by
              rw [Hid, htk.out]; simpa [List.flatMap_append] using hown.out
            clear mA hown hgr hat
            go_wp2_with fail
            exact ⟨⟨j + 1, A7, c7, by simp, by omega, by rw [Nat.add_assoc], ho8, hd8, hJ8, hoR8, hf8⟩, by simp [intOf]; omega⟩
          · obtain rfl : j = R.length := by omega
            go_wp2_with fail
            have hle : (Fi (i + 1)).length = (Fi i).length + R.length := by rw [hF1.out]; simp
            refine ⟨⟨i + 1, A6, c6, by simp, by omega, by rw [hle], own_mk ho.out hle (by rw [hF1.out, List.take_length]), fun k hk => ⟨(hd.out k hk).1, (hd.out k hk).2.1⟩, hJi, hfi⟩, by simp [intOf]; omega⟩
      · obtain rfl : i = N := by omega
        by_cases hne : os.length = xs.length
        · have hnz : ((os.length : Int) != (xs.length : Int)) = false := by simp [hne]
          have hnz2 : ((os.length : Int) == (xs.length : Int)) = true := by simp [hne]
          have hall : Hid ((allR most os (xs.map (·.a))).1 = Fi i ∧ (allR most os (xs.map (·.a))).2 = 0) := by
            rw [Hid, HR.out]; exact ⟨by rw [allF, hFN.out, if_pos (by simpa using hne), List.append_nil], rfl⟩
          go_wp2_with fail
          go_ret2
          exact ⟨A5, c5, by rw [hall.out.1, hall.out.2]; rfl, by rw [hall.out.1]; exact ho5.out, hfr.out⟩
        · have hnz : ((os.length : Int) != (xs.length : Int)) = true := by simp; omega
          have hnz2 : ((os.length : Int) == (xs.length : Int)) = false := by simp; omega
          have hall : Hid ((allR most os (xs.map (·.a))).1 = Fi i ++ [((i : Int), (6 : Int))] ∧ (allR most os (xs.map (·.a))).2 = 0) := by
            rw [Hid, HR.out]; exact ⟨by rw [allF, hFN.out, if_neg (by simpa using hne), List.length_map, ← HN.out], rfl⟩
          have hFi := hFl.out i
          clear hne
          go_wp2_with (at_builtin; refine gate ?_)
          refine gate_app rfl _ _ 25 rfl 61 (.agg #[.int .i64 0, .int .i64 0]) 2 16 Try.underlying25 info_fault rfl (by omega) (by omega) w.heap.size A5 (Fi i).length c5 _ (some ⟨wr.heap.size, 0, none⟩) 1 1 (fcells ((i : Int), 6)) (by rfl) (by rfl)
            (ho5.out.fr ((Fr.refl wr).alloc _)) rfl (RdC.blk (Blk.new wr _ _)) (by simpa using fcells_one [((i : Int), (6 : Int))]) (by omega) (by have := hfr.out.size; simp; omega) ?_
          intro A7 c7 w8 hown hgr hat
          have hf8 : Hid (Fr w w8) := (hfr.out.alloc _).grown hgr.out (fun k hk => (ho5.out.lt k hk).1)
          have ho8 := hown
          clear hown hgr hat
          go_wp2_with fail
          go_ret2
          have hl : (allR most os (xs.map (·.a))).1.length = (Fi i).length + 1 := by rw [hall.out.1]; simp
          exact ⟨A7, c7, by rw [hl, hall.out.2]; rfl, own_mk ho8.out hl (by rw [hall.out.1]; simp), hf8.out⟩
  · have HR : Hid (allR most os (xs.map (·.a)) = ([], 1)) := by rw [Hid, allR, if_neg hv]
    have hv2 : most < 1 ∨ 4294967296 < most := by omega
    clear hO hX hA hU hv
    go_enter Try.func8, Try.ntmps8
    go_wp2_with fail
    refine (jnew_no most w hr hv2).mono ?_
    rintro e w1 ⟨rfl, rfl⟩
    go_wp2_with fail
    go_ret2
    exact ⟨none, 0, by rw [HR.out]; rfl, by rw [HR.out]; exact Own.nil _ _ _ _, Fr.refl _⟩

set_option maxHeartbeats 4000000 in
theorem pall_calls (most : Int) (os : List OpV) (xs : List AnsC) (O X : Option Addr) (n c m c' : Nat) (w : World) (hr : -9223372036854775808 ≤ most ∧ most ≤ 9223372036854775807) (hn : n = os.length) (hm : m = xs.length) (hos : os.length ≤ 1073741823) (hxs : xs.length ≤ 1073741823)
    (hO : RdC w O (os.flatMap ocells)) (hX : RdC w X (xs.flatMap acells)) (hA : ∀ x ∈ xs, AnsOk w x) (hU : ∀ o ∈ os, U o.key ∧ U o.val) :
    Calls Try.prog 9 #[.int .i64 most, .slice O n c, .slice X m c'] w (AllPost most os (xs.map (·.a)) w) := by
  subst hn; subst hm
  by_cases hv : 1 ≤ most ∧ most ≤ 4294967296
  · have HR : Hid (allR most os (xs.map (·.a)) = (allF most os (xs.map (·.a)), 0)) := by rw [Hid, allR, if_pos hv]
    have HO := Lib.hid hO
    have HX := Lib.hid hX
    have HA := Lib.hid hA
    have HU := Lib.hid hU
    obtain ⟨N, hN⟩ : ∃ N : Nat, N = min os.length xs.length := ⟨_, rfl⟩
    have hmin : min (os.length : Int) (xs.length : Int) = (N : Int) := by omega
    have HN := Lib.hid hN
    obtain ⟨Fi, hFi⟩ : ∃ Fi : Nat → List Pr, ∀ i, Fi i = fl most [] (os.take i) ((xs.map (·.a)).take i) 0 := ⟨_, fun _ => rfl⟩
    obtain ⟨Li, hLi⟩ : ∃ Li : Nat → List Pr, ∀ i, Li i = runs most [] (os.take i) := ⟨_, fun _ => rfl⟩
    have hF0 : Hid (Fi 0 = []) := by rw [Hid, hFi]; rfl
    have hL0 : Hid (Li 0 = []) := by rw [Hid, hLi]; rfl
    have hFl : Hid (∀ i, (Fi i).length ≤ 5 * i) := fun i => by rw [hFi]; exact Nat.le_trans (fl_len _ _ _ _ _) (by rw [List.length_take]; omega)
    have hLl : Hid (∀ i, (Li i).length ≤ i) := fun i => by rw [hLi]; exact Nat.le_trans (runs_len _ _ _) (by rw [List.length_take]; simp; omega)
    have hFS : Hid (∀ (i : Nat) (o : OpV) (x : AnsC), os[i]? = some o → xs[i]? = some x → Fi (i + 1) = Fi i ++ (rules x.a (does most (Li i) o).1).map (fun r => ((i : Int), r))) := fun i o x h1 h2 => by
      rw [hFi, hFi, hLi]; exact fl_take h1 (by rw [List.getElem?_map, h2]; rfl)
    have hLS : Hid (∀ (i : Nat) (o : OpV), os[i]? = some o → Li (i + 1) = (does most (Li i) o).2) := fun i o h1 => by rw [hLi, hLi]; exact runs_take h1
    have hFN : Hid (Fi N = fl most [] os (xs.map (·.a)) 0) := by
      rw [Hid, hFi]; exact fl_short most os _ [] 0 N (by simp; omega) (by omega) (by simp; omega)
    have hNl : Hid (N ≤ os.length ∧ N ≤ xs.length) := by rw [Hid]; omega
    have hNb : N ≤ 1073741823 := by omega
    clear hO hX hA hU hN hFi hLi
    go_enter Try.func9, Try.ntmps9
    go_wp2_with fail
    refine (pnew_yes most w hv.1 hv.2).mono ?_
    rintro e w1 ⟨g, rfl, hg, hJ, hf⟩
    have HJ := Lib.hid hJ
    have HF := Lib.hid hf
    clear hJ
    clear hf hv hr
    go_wp2_with fail
    obtain ⟨w2, hw2⟩ : ∃ w2, w2 = w1.alloc (.cells #[] 61) := ⟨_, rfl⟩
    rw [← hw2]
    have HF2 : Hid (Fr w w2) := by rw [hw2]; exact HF.out.alloc _
    have HJ2 : Hid (IsP w2 g none 0 most []) := by rw [hw2]; exact HJ.out.fr ((Fr.refl _).alloc _)
    have HO2 : Hid (Own w2 w.heap.size 61 2 (some ⟨w1.heap.size, 0, none⟩) 0 0 []) := by rw [hw2]; exact Own.of_blk (n := 0) (xs := []) (Blk.new w1 [] _) HF.out.size rfl (by omega)
    have hgl := HJ.out.lt
    clear hw2
    go_loopw [10, 12] (fun v10 vi wr => ∃ (i : Nat) (A5 : Option Addr) (c5 : Nat) (PA : Option Addr) (cp : Nat), vi = .int .i64 i ∧ i ≤ N ∧ v10 = .slice A5 (Fi i).length c5 ∧ Hid (Own wr w.heap.size 61 2 A5 (Fi i).length c5 ((Fi i).flatMap fcells)) ∧ Hid (∀ k, ablk A5 = some k → k ≠ g ∧ ablk PA ≠ some k) ∧ Hid (IsP wr g PA cp most (Li i)) ∧ Hid (∀ k, ablk PA = some k → w.heap.size ≤ k) ∧ Hid (Fr w wr)) (fun _ vi _ => N - (intOf vi).toNat)
    case atStart => exact ⟨0, some ⟨w1.heap.size, 0, none⟩, 0, none, 0, rfl, by omega, by rw [hF0.out]; rfl, own_mk HO2.out (by rw [hF0.out]; rfl) (by rw [hF0.out]; rfl), fun k hk => ⟨by simp [ablk] at hk; omega, by simp [ablk]⟩, by rw [Hid, hL0.out]; exact HJ2.out, fun k hk => by simp [ablk] at hk, HF2.out⟩
    case round =>
      obtain ⟨i, A5, c5, PA, cp, rfl, hi, rfl, ho5, hd5, hJr, hGr, hfr⟩ := hrel
      by_cases hlt : i < N
      · have hio : i < os.length := by have := hNl.out; omega
        have hix : i < xs.length := by have := hNl.out; omega
        obtain ⟨o, hoi⟩ : ∃ o, os[i]? = some o := ⟨_, List.getElem?_eq_getElem hio⟩
        obtain ⟨x, hxi⟩ : ∃ x, xs[i]? = some x := ⟨_, List.getElem?_eq_getElem hix⟩
        have hOK := HA.out x (List.mem_of_getElem? hxi)
        have hUK := HU.out o (List.mem_of_getElem? hoi)
        obtain ⟨bo, oo, hO, hco⟩ := rows_at ocells 3 ocells_len (by omega) HO.out (by omega)
        subst hO
        obtain ⟨bx, ox, hX, hcx⟩ := rows_at acells 6 acells_len (by omega) HX.out (by omega)
        subst hX
        obtain ⟨o0, o1, o2⟩ := op_at (w := wr) (fun j v hv => hfr.out.cell (hco i o hoi j v hv))
        obtain ⟨x0, x1, x2, x3, x4, x5⟩ := ans_at (w := wr) (fun j v hv => hfr.out.cell (hcx i x hxi j v hv))
        have hF1 := Lib.hid (hFS.out i o x hoi hxi)
        have hL1 := Lib.hid (hLS.out i o hoi)
        have hrdx := Lib.hid (hOK.1)
        have hrdl := hOK.2
        have huk := Lib.hid hUK
        have hzo : (i : Int) < (os.length : Int) := by omega
        have hzx : (i : Int) < (xs.length : Int) := by omega
        have hzn : decide (i < N) = true := decide_eq_true hlt
        have hLi := hLl.out i
        have hFi := hFl.out i
        clear hco hcx hoi hxi hOK hUK
        go_wp2_with fail
        refine wp_region_quiet_tail 9 (by kernel_rfl) (by kernel_rfl) ?_
        try simp only [List.take_succ_cons, List.take_zero, List.drop_succ_cons, List.drop_zero]
        try go_frame
        repeat (quiet_step (fail))
        refine wpQuiet_nil ?_
        intro _ hw'
        obtain ⟨q, rfl⟩ := hw'
        obtain ⟨w5, hw5⟩ : ∃ w5, w5 = wr.drewN q := ⟨_, rfl⟩
        rw [← hw5]
        have hf5 : Hid (Fr wr w5) := by rw [hw5]; exact fr_drewN _ _
        clear hw5
        go_wp2_with fail
        refine (psee_calls g cp PA most (Li i) o x.a x.B _ x.c w5 (hJr.out.fr hf5.out) huk.out.1 huk.out.2 (by omega) rfl hrdl (hrdx.out.fr (hfr.out.trans hf5.out)) (fun hne k hk e => by have := hrdx.out.lt (pcells_ne hne) hk; exact Or.elim e (fun e => by omega) (fun e => by have := hGr.out k e; omega))).mono ?_
        rintro e w6 ⟨RA, cR, rfl, hown, PA6, cp6, hJ6, hA6, hm6⟩
        generalize hR : rules x.a (does most (Li i) o).1 = R at hown hF1
        have hRl : R.length ≤ 5 := by rw [← hR]; exact rules_len _ _
        have hfr6 := hm6
        have HM6 := Lib.hid hfr6
        have hJ6 : Hid (IsP w6 g PA6 cp6 most (Li (i + 1))) := by rw [Hid, hL1.out]; exact hJ6
        have h5s := Nat.le_trans hfr.out.size hf5.out.size
        have hG6 : Hid (∀ k, ablk PA6 = some k → w.heap.size ≤ k) := fun k hk => by
          rcases hA6 with h | h
          · exact hGr.out k (by rw [← h]; exact hk)
          · have := h k hk; omega
        have hA6' := Lib.hid hA6
        clear hA6 h5s
        have hoR := Lib.hid hown
        have hfw : Hid (Fr w w6) := ((Mv.of_fr (S := none0) (hfr.out.trans hf5.out)).trans HM6.out (fun k h => .inr (Or.elim h (fun h => by rw [h]; exact hg) (fun h => hGr.out k h)))).fr0
        have hd6 : Hid (∀ k, ablk A5 = some k → k ≠ g ∧ ablk PA6 ≠ some k ∧ ablk RA ≠ some k) := fun k hk => ⟨(hd5.out k hk).1, fun e => by
          rcases hA6'.out with h | h
          · exact (hd5.out k hk).2 (by rw [← h]; exact e)
          · have h1 := h k e; have h2 := (ho5.out.lt k hk).2; have h3 := hf5.out.size; omega, fun e => by have h1 := (hoR.out.lt k e).1; have h2 := (ho5.out.lt k hk).2; have h3 := hf5.out.size; omega⟩
        have ho6 : Hid (Own w6 w.heap.size 61 2 A5 ((Fi i).length + 0) c5 ((Fi i ++ (R.take 0).map (fun r => ((i : Int), r))).flatMap fcells)) := by
          simpa [Hid] using (ho5.out.fr hf5.out).mv HM6.out (fun k hk e => Or.elim e (fun e => (hd5.out k hk).1 e) (fun e => (hd5.out k hk).2 e))
        have hLen := Lib.hid hRl
        clear hfr6 hown hR o0 o1 o2 x0 x1 x2 x3 x4 x5
        go_wp2_with fail
        go_loopw [10, 14] (fun v10 vk wi => ∃ (j : Nat) (A6 : Option Addr) (c6 : Nat), vk = .int .i64 j ∧ j ≤ R.length ∧ v10 = .slice A6 ((Fi i).length + j) c6 ∧ Hid (Own wi w.heap.size 61 2 A6 ((Fi i).length + j) c6 ((Fi i ++ (R.take j).map (fun r => ((i : Int), r))).flatMap fcells)) ∧ Hid (∀ k, ablk A6 = some k → k ≠ g ∧ ablk PA6 ≠ some k ∧ ablk RA ≠ some k) ∧ Hid (IsP wi g PA6 cp6 most (Li (i + 1))) ∧ Hid (Own wi w5.heap.size 3 1 RA R.length cR (R.map (Value.int .i64))) ∧ Hid (Fr w wi)) (fun _ vk _ => R.length - (intOf vk).toNat)
        case atStart => exact ⟨0, A5, c5, rfl, by omega, rfl, ho6, hd6, hJ6, hoR, hfw⟩
        case round =>
          obtain ⟨j, A6, c6, rfl, hj, rfl, ho, hd, hJi, hoRi, hfi⟩ := hrel
          by_cases hjl : j < R.length
          · obtain ⟨bR, oR, hRA, hcR⟩ := nums_cells hoRi.out.rd (by omega)
            subst hRA
            have hcj := hcR j hjl
            obtain ⟨r, hr⟩ : ∃ r, r = R.getD j 0 := ⟨_, rfl⟩
            rw [← hr] at hcj
            have htk : Hid (R.take (j + 1) = R.take j ++ [r]) := by
              rw [Hid, List.take_succ_eq_append_getElem hjl, hr]; simp [hjl]
            have hjz : (j : Int) < (R.length : Int) := by omega
            have hjn : decide (j < R.length) = true := decide_eq_true hjl
            clear hcR hr
            go_wp2_with (at_builtin; refine gate ?_)
            refine gate_app rfl _ _ 25 rfl 61 (.agg #[.int .i64 0, .int .i64 0]) 2 16 Try.underlying25 info_fault rfl (by omega) (by omega) w.heap.size A6 ((Fi i).length + j) c6 _ (some ⟨wr.heap.size, 0, none⟩) 1 1 (fcells ((i : Int), r)) (by rfl) (by rfl)
              (ho.out.fr ((Fr.refl wr).alloc _)) rfl (RdC.blk (Blk.new wr _ _)) (by simpa using fcells_one [((i : Int), r)]) (by have := hLen.out; omega) (by have := hfi.out.size; simp; omega) ?_
            intro A7 c7 w8 hown hgr hat
            have mA : Mv (fun k => ablk A6 = some k) wr w8 := ((Mv.refl _ wr).alloc _).grown hgr.out (fun k hk => .inl hk)
            have hlt2 := hJi.out.lt
            have hd8 : Hid (∀ k, ablk A7 = some k → k ≠ g ∧ ablk PA6 ≠ some k ∧ ablk (some (⟨bR, oR, none⟩ : Addr)) ≠ some k) := far_app2 hd.out hat.out hlt2 hJi.out.ltA (fun k hk => (hoRi.out.lt k hk).2)
            have hJ8 := Lib.hid (hJi.out.mv mA (fun e => (hd.out g e).1 rfl) (fun k hk e => (hd.out k e).2.1 hk))
            have hoR8 := Lib.hid (hoRi.out.mv mA (fun k hk e => (hd.out k e).2.2 hk))
            have hf8 : Hid (Fr w w8) := (hfi.out.alloc _).grown hgr.out (fun k hk => (ho.out.lt k hk).1)
            have ho8 : Hid (Own w8 w.heap.size 61 2 A7 ((Fi i).length + j + 1) c7 ((Fi i ++ (R.take (j + 1)).map (fun r => ((i : Int), r))).flatMap fcells)) := by
              rw [Hid, htk.out]; simpa [List.flatMap_append] using hown.out
            clear mA hown hgr hat
            go_wp2_with fail
            exact ⟨⟨j + 1, A7, c7, by simp, by omega, by rw [Nat.add_assoc], ho8, hd8, hJ8, hoR8, hf8⟩, by simp [intOf]; omega⟩
          · obtain rfl : j = R.length := by omega
            go_wp2_with fail
            have hle : (Fi (i + 1)).length = (Fi i).length + R.length := by rw [hF1.out]; simp
            refine ⟨⟨i + 1, A6, c6, PA6, cp6, by simp, by omega, by rw [hle], own_mk ho.out hle (by rw [hF1.out, List.take_length]), fun k hk => ⟨(hd.out k hk).1, (hd.out k hk).2.1⟩, hJi, hG6, hfi⟩, by simp [intOf]; omega⟩
      · obtain rfl : i = N := by omega
        by_cases hne : os.length = xs.length
        · have hnz : ((os.length : Int) != (xs.length : Int)) = false := by simp [hne]
          have hnz2 : ((os.length : Int) == (xs.length : Int)) = true := by simp [hne]
          have hall : Hid ((allR most os (xs.map (·.a))).1 = Fi i ∧ (allR most os (xs.map (·.a))).2 = 0) := by
            rw [Hid, HR.out]; exact ⟨by rw [allF, hFN.out, if_pos (by simpa using hne), List.append_nil], rfl⟩
          go_wp2_with fail
          go_ret2
          exact ⟨A5, c5, by rw [hall.out.1, hall.out.2]; rfl, by rw [hall.out.1]; exact ho5.out, hfr.out⟩
        · have hnz : ((os.length : Int) != (xs.length : Int)) = true := by simp; omega
          have hnz2 : ((os.length : Int) == (xs.length : Int)) = false := by simp; omega
          have hall : Hid ((allR most os (xs.map (·.a))).1 = Fi i ++ [((i : Int), (6 : Int))] ∧ (allR most os (xs.map (·.a))).2 = 0) := by
            rw [Hid, HR.out]; exact ⟨by rw [allF, hFN.out, if_neg (by simpa using hne), List.length_map, ← HN.out], rfl⟩
          have hFi := hFl.out i
          clear hne
          go_wp2_with (at_builtin; refine gate ?_)
          refine gate_app rfl _ _ 25 rfl 61 (.agg #[.int .i64 0, .int .i64 0]) 2 16 Try.underlying25 info_fault rfl (by omega) (by omega) w.heap.size A5 (Fi i).length c5 _ (some ⟨wr.heap.size, 0, none⟩) 1 1 (fcells ((i : Int), 6)) (by rfl) (by rfl)
            (ho5.out.fr ((Fr.refl wr).alloc _)) rfl (RdC.blk (Blk.new wr _ _)) (by simpa using fcells_one [((i : Int), (6 : Int))]) (by omega) (by have := hfr.out.size; simp; omega) ?_
          intro A7 c7 w8 hown hgr hat
          have hf8 : Hid (Fr w w8) := (hfr.out.alloc _).grown hgr.out (fun k hk => (ho5.out.lt k hk).1)
          have ho8 := hown
          clear hown hgr hat
          go_wp2_with fail
          go_ret2
          have hl : (allR most os (xs.map (·.a))).1.length = (Fi i).length + 1 := by rw [hall.out.1]; simp
          exact ⟨A7, c7, by rw [hl, hall.out.2]; rfl, own_mk ho8.out hl (by rw [hall.out.1]; simp), hf8.out⟩
  · have HR : Hid (allR most os (xs.map (·.a)) = ([], 1)) := by rw [Hid, allR, if_neg hv]
    have hv2 : most < 1 ∨ 4294967296 < most := by omega
    clear hO hX hA hU hv
    go_enter Try.func9, Try.ntmps9
    go_wp2_with fail
    refine (pnew_no most w hr hv2).mono ?_
    rintro e w1 ⟨rfl, rfl⟩
    go_wp2_with fail
    go_ret2
    exact ⟨none, 0, by rw [HR.out]; rfl, by rw [HR.out]; exact Own.nil _ _ _ _, Fr.refl _⟩

end Go.Proofs.Ytjannhphmemenaa
