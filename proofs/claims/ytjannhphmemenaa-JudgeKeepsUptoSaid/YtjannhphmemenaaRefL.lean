/- The walks of the reference of layer 23: Do at whatever operation; See (printed by genpsee.py). -/
import Derived.Test.YtjannhphmemenaaRefH
import Derived.Test.YtjannhphmemenaaJudC
namespace Go.Proofs.Ytjannhphmemenaa
set_option maxRecDepth 100000
open Go.RowKit Go.Inc Go.Jud Go.Maps Go.Sort

theorem pdo_calls (g c : Nat) (A : Option Addr) (most : Int) (L : List Pr) (o : OpV) (w : World) (hP : IsP w g A c most L) (hL : L.length ≤ 1073741824) (hk : U o.key) (hv : U o.val) :
    Calls Try.prog 14 #[.pointer (some ⟨g, 0, none⟩), opVal o] w (PDoPost most L o g A w) := by
  obtain ⟨kd, k, v⟩ := o
  unfold opVal
  simp only at hk hv ⊢
  by_cases k1 : kd = 1
  · subst k1
    rcases Nat.lt_or_ge (rk L k) L.length with h1 | h1
    · cases hi : isAt L k with
      | true => exact pdo_put_is g c A most L k v w hP hL hk hv h1 hi
      | false => exact pdo_put_no g c A most L k v w hP hL hk hv h1 hi
    · exact pdo_put_out g c A most L k v w hP hL hk hv h1
  by_cases k2 : kd = 2
  · subst k2
    rcases Nat.lt_or_ge (rk L k) L.length with h1 | h1
    · cases hi : isAt L k with
      | true => exact pdo_del_is g c A most L k v w hP hL h1 hi
      | false => exact pdo_del_no g c A most L k v w hP hL h1 hi
    · exact pdo_del_out g c A most L k v w hP hL h1
  by_cases k3 : kd = 3
  · subst k3
    rcases Nat.lt_or_ge (rk L k) L.length with h1 | h1
    · cases hi : isAt L k with
      | true => exact pdo_get_is g c A most L k v w hP hL h1 hi
      | false => exact pdo_get_no g c A most L k v w hP hL h1 hi
    · exact pdo_get_out g c A most L k v w hP hL h1
  by_cases k4 : kd = 4
  · subst k4
    rcases Nat.lt_or_ge (rk L k) L.length with h1 | h1
    · cases hi : isAt L k with
      | true => exact pdo_floor_is g c A most L k v w hP hL h1 hi
      | false =>
        rcases Nat.eq_zero_or_pos (rk L k) with h0 | h0
        · exact pdo_floor0_no g c A most L k v w hP hL h1 hi h0
        · exact pdo_floor_no g c A most L k v w hP hL h1 hi h0
    · rcases Nat.eq_zero_or_pos (rk L k) with h0 | h0
      · exact pdo_floor0_out g c A most L k v w hP hL h1 h0
      · exact pdo_floor_out g c A most L k v w hP hL h1 h0
  by_cases k5 : kd = 5
  · subst k5
    rcases Nat.lt_or_ge (rk L k) L.length with h1 | h1
    · cases hi : isAt L k with
      | true => exact pdo_ceil_is g c A most L k v w hP hL h1 hi
      | false => exact pdo_ceil_no g c A most L k v w hP hL h1 hi
    · exact pdo_ceil_out g c A most L k v w hP hL h1
  by_cases k6 : kd = 6
  · subst k6
    rcases Nat.lt_or_ge (rk L k) L.length with h1 | h1
    · cases hi : isAt L k with
      | true => exact pdo_rank_is g c A most L k v w hP hL h1 hi
      | false => exact pdo_rank_no g c A most L k v w hP hL h1 hi
    · exact pdo_rank_out g c A most L k v w hP hL h1
  by_cases k7 : kd = 7
  · subst k7
    rcases Nat.lt_or_ge (rk L k) L.length with h1 | h1
    · cases hi : isAt L k with
      | true => exact pdo_range_is g c A most L k v w hP hL h1 hi
      | false => exact pdo_range_no g c A most L k v w hP hL h1 hi
    · exact pdo_range_out g c A most L k v w hP hL h1
  have hkd := And.intro k1 (And.intro k2 (And.intro k3 (And.intro k4 (And.intro k5 (And.intro k6 k7)))))
  rcases Nat.lt_or_ge (rk L k) L.length with h1 | h1
  · cases hi : isAt L k with
    | true => exact pdo_other_is g c A most L k v w hP hL kd hkd h1 hi
    | false => exact pdo_other_no g c A most L k v w hP hL kd hkd h1 hi
  · exact pdo_other_out g c A most L k v w hP hL kd hkd h1

theorem pick_take {bs : List Bool} {i : Nat} (h : i < bs.length) : pick (bs.take (i + 1)) 1 = pick (bs.take i) 1 ++ (if bs.getD i false then [1 + (i : Int)] else []) := by
  rw [List.take_succ_eq_append_getElem h, pick_snoc]
  have e : bs.getD i false = bs[i] := by simp [h]
  rw [e, List.length_take, Nat.min_eq_left (by omega)]
theorem pick_take_len {bs : List Bool} (i : Nat) (h : bs.length = 5) : (pick (bs.take i) 1).length ≤ 5 := by
  have := pick_len (bs.take i) 1
  rw [List.length_take, h] at this
  omega

set_option maxHeartbeats 2000000 in
theorem psee_calls (g cp : Nat) (PA : Option Addr) (most : Int) (L : List Pr) (o : OpV) (a : AnsV) (B : Option Addr) (m cb : Nat) (w : World) (hP : IsP w g PA cp most L) (hk : U o.key) (hv : U o.val) (hL : L.length ≤ 1073741823)
    (hm : m = a.list.length) (hml : a.list.length ≤ 1099511627776) (hrd : RdC w B (a.list.flatMap pcells)) (hB : a.list ≠ [] → ∀ i, ablk B = some i → ¬ pset g PA i) :
    Calls Try.prog 16 #[.pointer (some ⟨g, 0, none⟩), opVal o, ansIn a B m cb] w fun e w' =>
      ∃ A c, e = .returned (.slice A (rules a (does most L o).1).length c) ∧ Own w' w.heap.size 3 1 A (rules a (does most L o).1).length c ((rules a (does most L o).1).map (Value.int .i64)) ∧ PPost g PA most (does most L o).2 w w' := by
  subst hm
  have HP := Lib.hid hP
  have HR := Lib.hid hrd
  have HB := Lib.hid hB
  have hltg := hP.lt
  have hltA := Lib.hid hP.ltA
  clear hP hrd hB
  unfold opVal ansIn
  go_enter Try.func16, Try.ntmps16
  go_wp2_with fail
  refine (pdo_calls g cp PA most L o _ (HP.out.fr (fr2 w _ _)) (by omega) hk hv).mono ?_
  rintro e w3 ⟨⟨A, c, rfl, ho⟩, A2, c2, hP3, hA2, hm⟩
  generalize hd : (does most L o).1 = d at ho
  generalize hd2 : (does most L o).2 = L2 at hP3
  have hn0 : ¬ pset g PA w.heap.size := fun e => by
    rcases e with e | e
    · omega
    · have := hltA.out _ e; omega
  have hn1 : ¬ pset g PA (w.heap.size + 1) := fun e => by
    rcases e with e | e
    · omega
    · have := hltA.out _ e; omega
  have hop := hm.blk (alloc2_fst w _ _) hn0
  have han := hm.blk (alloc2_snd w _ _) hn1
  have HOP := Lib.hid hop
  have HAN := Lib.hid han
  have HO := Lib.hid ho
  have HM := Lib.hid hm
  have HP3 := Lib.hid hP3
  have HA2 := Lib.hid hA2
  have HD := Lib.hid hd
  have HD2 := Lib.hid hd2
  clear hop han ho hm hP3 hA2 hd hd2 hn0 hn1
  unfold ansVal
  obtain ⟨bs, hbs⟩ : ∃ bs, bs = broken a d := ⟨_, rfl⟩
  have HRU : Hid (rules a d = pick (bs.take 5) 1) := by rw [Hid, hbs]; rfl
  have HBL : Hid (bs.length = 5) := by rw [Hid, hbs]; rfl
  have HG0 : Hid (bs.getD 0 false = (a.code != d.code)) := by rw [Hid, hbs]; rfl
  have HG1 : Hid (bs.getD 1 false = (a.is != d.is)) := by rw [Hid, hbs]; rfl
  have HG2 : Hid (bs.getD 2 false = (a.key != d.key || a.val != d.val)) := by rw [Hid, hbs]; rfl
  have HG3 : Hid (bs.getD 3 false = (a.num != d.num)) := by rw [Hid, hbs]; rfl
  have HG4 : Hid (bs.getD 4 false = !decide (a.list = d.list)) := by rw [Hid, hbs]; rfl
  clear hbs
  obtain ⟨w4, hw4⟩ : ∃ w4, w3.alloc (.cells #[.int .i64 d.code, .bool d.is, .int .u64 d.key, .int .u64 d.val, .int .i64 d.num, .slice A d.list.length c] 44) = w4 := ⟨_, rfl⟩
  have hd4 := heap_alloc_new w3 (.cells #[.int .i64 d.code, .bool d.is, .int .u64 d.key, .int .u64 d.val, .int .i64 d.num, .slice A d.list.length c] 44)
  have hf4 := (Fr.refl w3).alloc (.cells #[.int .i64 d.code, .bool d.is, .int .u64 d.key, .int .u64 d.val, .int .i64 d.num, .slice A d.list.length c] 44)
  rw [hw4] at hd4 hf4
  have HF4 := Lib.hid hf4
  have HD4 := Lib.hid hd4
  have HA4 := Lib.hid (hf4.blk HAN.out)
  have HW4 := Lib.hid hw4
  have hr1 : Hid (RdC w4 B (a.list.flatMap pcells)) := ((HR.out.fr (fr2 w _ _)).mvn HM.out (fun hne i hi => HB.out (fun e => hne (by rw [e]; rfl)) i hi)).fr HF4.out
  have hr2 : Hid (RdC w4 A (d.list.flatMap pcells)) := HO.out.rd.fr HF4.out
  obtain ⟨e0, e1, e2, e3, e4, e5, -, -, -, -, -, -⟩ := ans_cells hd4
  obtain ⟨a0, a1, a2, a3, a4, a5, -, -, -, -, -, -⟩ := ans_cells HA4.out
  clear hf4 hd4
  rw [← hw4] at e0 e1 e2 e3 e4 e5 a0 a1 a2 a3 a4 a5
  clear hw4
  go_upto_region 2 with fail
  rw [HW4.out]
  rw [HW4.out] at e0 e1 e2 e3 e4 e5 a0 a1 a2 a3 a4 a5
  go_upto_region 3 with fail
  obtain ⟨wc, hwc⟩ : ∃ wc, w4.alloc (.cells #[] 3) = wc := ⟨_, rfl⟩
  have hfr : Hid (Fr w4 wc) := by rw [← hwc]; exact (Fr.refl w4).alloc _
  have ho : Hid (Own wc w4.heap.size 3 1 (some ⟨w4.heap.size, 0, none⟩) (pick (bs.take 0) 1).length 0 ((pick (bs.take 0) 1).map (Value.int .i64))) := by
    rw [← hwc]; exact Own.of_blk (n := 0) (xs := []) (Blk.new w4 [] 3) (Nat.le_refl _) rfl (by omega)
  rw [hwc]
  clear hwc
  have x0 := hfr.out.cell e0
  have x1 := hfr.out.cell e1
  have x2 := hfr.out.cell e2
  have x3 := hfr.out.cell e3
  have x4 := hfr.out.cell e4
  have x5 := hfr.out.cell e5
  have z0 := hfr.out.cell a0
  have z1 := hfr.out.cell a1
  have z2 := hfr.out.cell a2
  have z3 := hfr.out.cell a3
  have z4 := hfr.out.cell a4
  have z5 := hfr.out.cell a5
  go_upto_region 3 with fail
  go_cut [17] (fun st wx => ∃ t : Bool, st = .bool t ∧ Hid (t = (a.code != d.code)) ∧ Hid (Fr wc wx))
  case first =>
    go_wp2_with fail
    go_meet
    exact ⟨_, rfl, rfl, Fr.refl _⟩
  case rest =>
    obtain ⟨t, rfl, ht, hfq⟩ := hcut
    have ho := Lib.hid (ho.out.fr hfq.out)
    have hfr := Lib.hid (hfr.out.trans hfq.out)
    go_upto_if 17 with fail
    go_cut [8] (fun s8 wx => ∃ (A3 : Option Addr) (c3 : Nat), s8 = .slice A3 (pick (bs.take 1) 1).length c3 ∧ Hid (Own wx w4.heap.size 3 1 A3 (pick (bs.take 1) 1).length c3 ((pick (bs.take 1) 1).map (Value.int .i64))) ∧ Hid (Fr w4 wx))
    case first =>
      have hpl := pick_take_len 0 HBL.out
      have hpk : Hid (pick (bs.take (0 + 1)) 1 = pick (bs.take 0) 1 ++ (if bs.getD 0 false then [1 + ((0 : Nat) : Int)] else [])) := pick_take (by rw [HBL.out]; omega)
      rw [HG0.out, ← ht.out] at hpk
      clear ht
      cases t
      · have hpe : Hid (pick (bs.take (0 + 1)) 1 = pick (bs.take 0) 1) := by have := hpk.out; simpa [Hid] using this
        clear hpk
        go_wp2_with fail
        go_meet
        exact ⟨(some ⟨w4.heap.size, 0, none⟩), 0, by rw [hpe.out]; rfl, by rw [Hid, hpe.out]; exact ho.out, hfr⟩
      · have hpe : Hid (pick (bs.take (0 + 1)) 1 = pick (bs.take 0) 1 ++ [1]) := by have := hpk.out; simpa [Hid] using this
        clear hpk
        go_wp2_with (at_builtin; refine gate ?_)
        refine gate_app rfl _ _ 40 rfl 3 (.int .i64 0) 1 8 Try.underlying40 info_int rfl (by omega) (by omega) w4.heap.size (some ⟨w4.heap.size, 0, none⟩) (pick (bs.take 0) 1).length 0 _ (some ⟨wc.heap.size, 0, none⟩) 1 1 [.int .i64 1] (by rfl) (by rfl)
          (ho.out.fr ((Fr.refl wc).alloc _)) rfl (RdC.blk (Blk.new wc _ _)) (i_one [_]) (by omega) (by have := hfr.out.size; simp; omega) ?_
        intro A4 c4 w7 hown hgr hat
        have hf7 : Hid (Fr w4 w7) := (hfr.out.alloc _).grown hgr.out (fun g hg => (ho.out.lt g hg).1)
        have ho7 : Hid (Own w7 w4.heap.size 3 1 A4 (pick (bs.take (0 + 1)) 1).length c4 ((pick (bs.take (0 + 1)) 1).map (Value.int .i64))) := by
          rw [Hid, hpe.out]; simpa using hown.out
        have hl7 : Hid ((pick (bs.take (0 + 1)) 1).length = (pick (bs.take 0) 1).length + 1) := by rw [Hid, hpe.out]; simp
        clear hown hgr hat
        go_wp2_with fail
        go_meet
        exact ⟨A4, c4, by rw [hl7.out]; rfl, ho7, hf7⟩
    case rest =>
      clear x0 x1 x2 x3 x4 x5 z0 z1 z2 z3 z4 z5 ho hfr
      obtain ⟨A3, c3, rfl, ho, hfr⟩ := hcut
      have x0 := hfr.out.cell e0
      have x1 := hfr.out.cell e1
      have x2 := hfr.out.cell e2
      have x3 := hfr.out.cell e3
      have x4 := hfr.out.cell e4
      have x5 := hfr.out.cell e5
      have z0 := hfr.out.cell a0
      have z1 := hfr.out.cell a1
      have z2 := hfr.out.cell a2
      have z3 := hfr.out.cell a3
      have z4 := hfr.out.cell a4
      have z5 := hfr.out.cell a5
      go_upto_region 5 with fail
      go_cut [25] (fun st wx => ∃ t : Bool, st = .bool t ∧ Hid (t = (a.is != d.is)) ∧ Hid (Fr wc wx))
      case first =>
        go_wp2_with fail
        go_meet
        exact ⟨_, rfl, rfl, Fr.refl _⟩
      case rest =>
        obtain ⟨t, rfl, ht, hfq⟩ := hcut
        have ho := Lib.hid (ho.out.fr hfq.out)
        have hfr := Lib.hid (hfr.out.trans hfq.out)
        go_upto_if 25 with fail
        go_cut [8] (fun s8 wx => ∃ (A3 : Option Addr) (c3 : Nat), s8 = .slice A3 (pick (bs.take 2) 1).length c3 ∧ Hid (Own wx w4.heap.size 3 1 A3 (pick (bs.take 2) 1).length c3 ((pick (bs.take 2) 1).map (Value.int .i64))) ∧ Hid (Fr w4 wx))
        case first =>
          have hpl := pick_take_len 1 HBL.out
          have hpk : Hid (pick (bs.take (1 + 1)) 1 = pick (bs.take 1) 1 ++ (if bs.getD 1 false then [1 + ((1 : Nat) : Int)] else [])) := pick_take (by rw [HBL.out]; omega)
          rw [HG1.out, ← ht.out] at hpk
          clear ht
          cases t
          · have hpe : Hid (pick (bs.take (1 + 1)) 1 = pick (bs.take 1) 1) := by have := hpk.out; simpa [Hid] using this
            clear hpk
            go_wp2_with fail
            go_meet
            exact ⟨A3, c3, by rw [hpe.out], by rw [Hid, hpe.out]; exact ho.out, hfr⟩
          · have hpe : Hid (pick (bs.take (1 + 1)) 1 = pick (bs.take 1) 1 ++ [2]) := by have := hpk.out; simpa [Hid] using this
            clear hpk
            go_wp2_with (at_builtin; refine gate ?_)
            refine gate_app rfl _ _ 40 rfl 3 (.int .i64 0) 1 8 Try.underlying40 info_int rfl (by omega) (by omega) w4.heap.size A3 (pick (bs.take 1) 1).length c3 _ (some ⟨wc.heap.size, 0, none⟩) 1 1 [.int .i64 2] (by rfl) (by rfl)
              (ho.out.fr ((Fr.refl wc).alloc _)) rfl (RdC.blk (Blk.new wc _ _)) (i_one [_]) (by omega) (by have := hfr.out.size; simp; omega) ?_
            intro A4 c4 w7 hown hgr hat
            have hf7 : Hid (Fr w4 w7) := (hfr.out.alloc _).grown hgr.out (fun g hg => (ho.out.lt g hg).1)
            have ho7 : Hid (Own w7 w4.heap.size 3 1 A4 (pick (bs.take (1 + 1)) 1).length c4 ((pick (bs.take (1 + 1)) 1).map (Value.int .i64))) := by
              rw [Hid, hpe.out]; simpa using hown.out
            have hl7 : Hid ((pick (bs.take (1 + 1)) 1).length = (pick (bs.take 1) 1).length + 1) := by rw [Hid, hpe.out]; simp
            clear hown hgr hat
            go_wp2_with fail
            go_meet
            exact ⟨A4, c4, by rw [hl7.out], ho7, hf7⟩
        case rest =>
          clear x0 x1 x2 x3 x4 x5 z0 z1 z2 z3 z4 z5 ho hfr
          obtain ⟨A3, c3, rfl, ho, hfr⟩ := hcut
          have x0 := hfr.out.cell e0
          have x1 := hfr.out.cell e1
          have x2 := hfr.out.cell e2
          have x3 := hfr.out.cell e3
          have x4 := hfr.out.cell e4
          have x5 := hfr.out.cell e5
          have z0 := hfr.out.cell a0
          have z1 := hfr.out.cell a1
          have z2 := hfr.out.cell a2
          have z3 := hfr.out.cell a3
          have z4 := hfr.out.cell a4
          have z5 := hfr.out.cell a5
          go_upto_region 7 with fail
          go_cut [2, 40] (fun s2 st wx => s2 = .agg #[.int .i64 a.code, .bool a.is, .int .u64 a.key, .int .u64 a.val, .int .i64 a.num, .slice B a.list.length cb] ∧ ∃ t : Bool, st = .bool t ∧ Hid (t = (a.key != d.key || a.val != d.val)) ∧ Hid (Fr wc wx))
          case first =>
            by_cases hkk : a.key = d.key
            · have k1 : (a.key == d.key) = true := by simp [hkk]
              have k2x : (a.key != d.key) = false := by simp [hkk]
              have k2 := Lib.hid k2x
              have k3 := Lib.hid hkk
              clear hkk
              go_wp2_with fail
              go_meet
              exact ⟨by rw [k3.out], _, rfl, by rw [Hid, k2.out]; rfl, Fr.refl _⟩
            · have k1 : (a.key == d.key) = false := by simpa using hkk
              have k2x : (a.key != d.key) = true := by simp [hkk]
              have k2 := Lib.hid k2x
              clear hkk
              go_wp2_with fail
              go_meet
              exact ⟨rfl, _, rfl, by rw [Hid, k2.out]; rfl, Fr.refl _⟩
          case rest =>
            obtain ⟨rfl, t, rfl, ht, hfq⟩ := hcut
            have ho := Lib.hid (ho.out.fr hfq.out)
            have hfr := Lib.hid (hfr.out.trans hfq.out)
            go_upto_if 40 with fail
            go_cut [8] (fun s8 wx => ∃ (A3 : Option Addr) (c3 : Nat), s8 = .slice A3 (pick (bs.take 3) 1).length c3 ∧ Hid (Own wx w4.heap.size 3 1 A3 (pick (bs.take 3) 1).length c3 ((pick (bs.take 3) 1).map (Value.int .i64))) ∧ Hid (Fr w4 wx))
            case first =>
              have hpl := pick_take_len 2 HBL.out
              have hpk : Hid (pick (bs.take (2 + 1)) 1 = pick (bs.take 2) 1 ++ (if bs.getD 2 false then [1 + ((2 : Nat) : Int)] else [])) := pick_take (by rw [HBL.out]; omega)
              rw [HG2.out, ← ht.out] at hpk
              clear ht
              cases t
              · have hpe : Hid (pick (bs.take (2 + 1)) 1 = pick (bs.take 2) 1) := by have := hpk.out; simpa [Hid] using this
                clear hpk
                go_wp2_with fail
                go_meet
                exact ⟨A3, c3, by rw [hpe.out], by rw [Hid, hpe.out]; exact ho.out, hfr⟩
              · have hpe : Hid (pick (bs.take (2 + 1)) 1 = pick (bs.take 2) 1 ++ [3]) := by have := hpk.out; simpa [Hid] using this
                clear hpk
                go_wp2_with (at_builtin; refine gate ?_)
                refine gate_app rfl _ _ 40 rfl 3 (.int .i64 0) 1 8 Try.underlying40 info_int rfl (by omega) (by omega) w4.heap.size A3 (pick (bs.take 2) 1).length c3 _ (some ⟨wc.heap.size, 0, none⟩) 1 1 [.int .i64 3] (by rfl) (by rfl)
                  (ho.out.fr ((Fr.refl wc).alloc _)) rfl (RdC.blk (Blk.new wc _ _)) (i_one [_]) (by omega) (by have := hfr.out.size; simp; omega) ?_
                intro A4 c4 w7 hown hgr hat
                have hf7 : Hid (Fr w4 w7) := (hfr.out.alloc _).grown hgr.out (fun g hg => (ho.out.lt g hg).1)
                have ho7 : Hid (Own w7 w4.heap.size 3 1 A4 (pick (bs.take (2 + 1)) 1).length c4 ((pick (bs.take (2 + 1)) 1).map (Value.int .i64))) := by
                  rw [Hid, hpe.out]; simpa using hown.out
                have hl7 : Hid ((pick (bs.take (2 + 1)) 1).length = (pick (bs.take 2) 1).length + 1) := by rw [Hid, hpe.out]; simp
                clear hown hgr hat
                go_wp2_with fail
                go_meet
                exact ⟨A4, c4, by rw [hl7.out], ho7, hf7⟩
            case rest =>
              clear x0 x1 x2 x3 x4 x5 z0 z1 z2 z3 z4 z5 ho hfr
              obtain ⟨A3, c3, rfl, ho, hfr⟩ := hcut
              have x0 := hfr.out.cell e0
              have x1 := hfr.out.cell e1
              have x2 := hfr.out.cell e2
              have x3 := hfr.out.cell e3
              have x4 := hfr.out.cell e4
              have x5 := hfr.out.cell e5
              have z0 := hfr.out.cell a0
              have z1 := hfr.out.cell a1
              have z2 := hfr.out.cell a2
              have z3 := hfr.out.cell a3
              have z4 := hfr.out.cell a4
              have z5 := hfr.out.cell a5
              go_upto_region 9 with fail
              go_cut [48] (fun st wx => ∃ t : Bool, st = .bool t ∧ Hid (t = (a.num != d.num)) ∧ Hid (Fr wc wx))
              case first =>
                go_wp2_with fail
                go_meet
                exact ⟨_, rfl, rfl, Fr.refl _⟩
              case rest =>
                obtain ⟨t, rfl, ht, hfq⟩ := hcut
                have ho := Lib.hid (ho.out.fr hfq.out)
                have hfr := Lib.hid (hfr.out.trans hfq.out)
                go_upto_if 48 with fail
                go_cut [8] (fun s8 wx => ∃ (A3 : Option Addr) (c3 : Nat), s8 = .slice A3 (pick (bs.take 4) 1).length c3 ∧ Hid (Own wx w4.heap.size 3 1 A3 (pick (bs.take 4) 1).length c3 ((pick (bs.take 4) 1).map (Value.int .i64))) ∧ Hid (Fr w4 wx))
                case first =>
                  have hpl := pick_take_len 3 HBL.out
                  have hpk : Hid (pick (bs.take (3 + 1)) 1 = pick (bs.take 3) 1 ++ (if bs.getD 3 false then [1 + ((3 : Nat) : Int)] else [])) := pick_take (by rw [HBL.out]; omega)
                  rw [HG3.out, ← ht.out] at hpk
                  clear ht
                  cases t
                  · have hpe : Hid (pick (bs.take (3 + 1)) 1 = pick (bs.take 3) 1) := by have := hpk.out; simpa [Hid] using this
                    clear hpk
                    go_wp2_with fail
                    go_meet
                    exact ⟨A3, c3, by rw [hpe.out], by rw [Hid, hpe.out]; exact ho.out, hfr⟩
                  · have hpe : Hid (pick (bs.take (3 + 1)) 1 = pick (bs.take 3) 1 ++ [4]) := by have := hpk.out; simpa [Hid] using this
                    clear hpk
                    go_wp2_with (at_builtin; refine gate ?_)
                    refine gate_app rfl _ _ 40 rfl 3 (.int .i64 0) 1 8 Try.underlying40 info_int rfl (by omega) (by omega) w4.heap.size A3 (pick (bs.take 3) 1).length c3 _ (some ⟨wc.heap.size, 0, none⟩) 1 1 [.int .i64 4] (by rfl) (by rfl)
                      (ho.out.fr ((Fr.refl wc).alloc _)) rfl (RdC.blk (Blk.new wc _ _)) (i_one [_]) (by omega) (by have := hfr.out.size; simp; omega) ?_
                    intro A4 c4 w7 hown hgr hat
                    have hf7 : Hid (Fr w4 w7) := (hfr.out.alloc _).grown hgr.out (fun g hg => (ho.out.lt g hg).1)
                    have ho7 : Hid (Own w7 w4.heap.size 3 1 A4 (pick (bs.take (3 + 1)) 1).length c4 ((pick (bs.take (3 + 1)) 1).map (Value.int .i64))) := by
                      rw [Hid, hpe.out]; simpa using hown.out
                    have hl7 : Hid ((pick (bs.take (3 + 1)) 1).length = (pick (bs.take 3) 1).length + 1) := by rw [Hid, hpe.out]; simp
                    clear hown hgr hat
                    go_wp2_with fail
                    go_meet
                    exact ⟨A4, c4, by rw [hl7.out], ho7, hf7⟩
                case rest =>
                  clear x0 x1 x2 x3 x4 x5 z0 z1 z2 z3 z4 z5 ho hfr
                  obtain ⟨A3, c3, rfl, ho, hfr⟩ := hcut
                  have x0 := hfr.out.cell e0
                  have x1 := hfr.out.cell e1
                  have x2 := hfr.out.cell e2
                  have x3 := hfr.out.cell e3
                  have x4 := hfr.out.cell e4
                  have x5 := hfr.out.cell e5
                  have z0 := hfr.out.cell a0
                  have z1 := hfr.out.cell a1
                  have z2 := hfr.out.cell a2
                  have z3 := hfr.out.cell a3
                  have z4 := hfr.out.cell a4
                  have z5 := hfr.out.cell a5
                  go_upto_region 11 with fail
                  go_cut [57] (fun st wx => ∃ t : Bool, st = .bool t ∧ Hid (t = (!decide (a.list = d.list))) ∧ Hid (Fr wc wx))
                  case first =>
                    go_wp2_with fail
                    refine (psame_calls B A _ cb _ c a.list d.list _ rfl rfl hml (hr1.out.fr hfr.out) (hr2.out.fr hfr.out)).mono ?_
                    rintro e wn ⟨rfl, q, hwn⟩
                    go_wp2_with fail
                    go_meet
                    exact ⟨_, rfl, rfl, fr_drewN _ _⟩
                  case rest =>
                    obtain ⟨t, rfl, ht, hfq⟩ := hcut
                    have ho := Lib.hid (ho.out.fr hfq.out)
                    have hfr := Lib.hid (hfr.out.trans hfq.out)
                    go_upto_if 57 with fail
                    go_cut [8] (fun s8 wx => ∃ (A3 : Option Addr) (c3 : Nat), s8 = .slice A3 (pick (bs.take 5) 1).length c3 ∧ Hid (Own wx w4.heap.size 3 1 A3 (pick (bs.take 5) 1).length c3 ((pick (bs.take 5) 1).map (Value.int .i64))) ∧ Hid (Fr w4 wx))
                    case first =>
                      have hpl := pick_take_len 4 HBL.out
                      have hpk : Hid (pick (bs.take (4 + 1)) 1 = pick (bs.take 4) 1 ++ (if bs.getD 4 false then [1 + ((4 : Nat) : Int)] else [])) := pick_take (by rw [HBL.out]; omega)
                      rw [HG4.out, ← ht.out] at hpk
                      clear ht
                      cases t
                      · have hpe : Hid (pick (bs.take (4 + 1)) 1 = pick (bs.take 4) 1) := by have := hpk.out; simpa [Hid] using this
                        clear hpk
                        go_wp2_with fail
                        go_meet
                        exact ⟨A3, c3, by rw [hpe.out], by rw [Hid, hpe.out]; exact ho.out, hfr⟩
                      · have hpe : Hid (pick (bs.take (4 + 1)) 1 = pick (bs.take 4) 1 ++ [5]) := by have := hpk.out; simpa [Hid] using this
                        clear hpk
                        go_wp2_with (at_builtin; refine gate ?_)
                        refine gate_app rfl _ _ 40 rfl 3 (.int .i64 0) 1 8 Try.underlying40 info_int rfl (by omega) (by omega) w4.heap.size A3 (pick (bs.take 4) 1).length c3 _ (some ⟨wc.heap.size, 0, none⟩) 1 1 [.int .i64 5] (by rfl) (by rfl)
                          (ho.out.fr ((Fr.refl wc).alloc _)) rfl (RdC.blk (Blk.new wc _ _)) (i_one [_]) (by omega) (by have := hfr.out.size; simp; omega) ?_
                        intro A4 c4 w7 hown hgr hat
                        have hf7 : Hid (Fr w4 w7) := (hfr.out.alloc _).grown hgr.out (fun g hg => (ho.out.lt g hg).1)
                        have ho7 : Hid (Own w7 w4.heap.size 3 1 A4 (pick (bs.take (4 + 1)) 1).length c4 ((pick (bs.take (4 + 1)) 1).map (Value.int .i64))) := by
                          rw [Hid, hpe.out]; simpa using hown.out
                        have hl7 : Hid ((pick (bs.take (4 + 1)) 1).length = (pick (bs.take 4) 1).length + 1) := by rw [Hid, hpe.out]; simp
                        clear hown hgr hat
                        go_wp2_with fail
                        go_meet
                        exact ⟨A4, c4, by rw [hl7.out], ho7, hf7⟩
                    case rest =>
                      clear x0 x1 x2 x3 x4 x5 z0 z1 z2 z3 z4 z5 ho hfr
                      obtain ⟨A3, c3, rfl, ho, hfr⟩ := hcut
                      have x0 := hfr.out.cell e0
                      have x1 := hfr.out.cell e1
                      have x2 := hfr.out.cell e2
                      have x3 := hfr.out.cell e3
                      have x4 := hfr.out.cell e4
                      have x5 := hfr.out.cell e5
                      have z0 := hfr.out.cell a0
                      have z1 := hfr.out.cell a1
                      have z2 := hfr.out.cell a2
                      have z3 := hfr.out.cell a3
                      have z4 := hfr.out.cell a4
                      have z5 := hfr.out.cell a5
                      go_wp2_with fail
                      go_ret
                      have hfin : Fr w3 wc := HF4.out.trans hfr.out
                      refine ⟨A3, c3, by rw [HD.out, HRU.out]; rfl, ?_, A2, c2, by rw [HD2.out]; exact HP3.out.fr hfin, HA2.out.imp id (fun h k hk => Nat.le_trans (fr2 w _ _).size (h k hk)), ((Mv.of_fr (fr2 w _ _)).trans' HM.out).then hfin⟩
                      rw [HD.out, HRU.out]
                      exact ho.out.mono (Nat.le_trans (Nat.le_trans (fr2 w _ _).size HM.out.size) HF4.out.size)
end Go.Proofs.Ytjannhphmemenaa
