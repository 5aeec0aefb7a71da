/- The walk of the judge's See. -/
import Derived.Test.YtjannhphmemenaaJudO
import Derived.Test.YtjannhphmemenaaQTail
namespace Go.Proofs.Ytjannhphmemenaa
set_option maxRecDepth 100000
open Go.RowKit Go.Inc Go.Jud Go.Maps Go.Sort

/-- What an answer that came in is: its value, and where its list lies. -/
def ansIn (a : AnsV) (A : Option Addr) (n c : Nat) : Value := .agg #[.int .i64 a.code, .bool a.is, .int .u64 a.key, .int .u64 a.val, .int .i64 a.num, .slice A n c]

theorem bools_cells (w : World) (b0 b1 b2 b3 b4 : Bool) (T : TypeId) : ∀ t, t < 5 → (w.alloc (.cells #[.bool b0, .bool b1, .bool b2, .bool b3, .bool b4] T)).cell? ⟨w.heap.size, t, none⟩ = some (.bool ([b0, b1, b2, b3, b4].getD t false)) := by
  intro t ht
  rw [blk_cell (heap_alloc_new w _)]
  match t, ht with
  | 0, _ => rfl
  | 1, _ => rfl
  | 2, _ => rfl
  | 3, _ => rfl
  | 4, _ => rfl
/-- What is read goes over a frame, if its block is none of the frame's. -/
theorem _root_.Go.Inc.RdC.mvn {S : Nat → Prop} {a b : World} {A : Option Addr} {cs : List Value} (h : RdC a A cs) (k : Mv S a b) (hs : cs ≠ [] → ∀ g, ablk A = some g → ¬ S g) : RdC b A cs := by
  by_cases h0 : cs = []
  · exact .inl h0
  · exact h.mv k (hs h0)
theorem _root_.Go.Inc.RdC.lt {w : World} {A : Option Addr} {cs : List Value} (h : RdC w A cs) (hne : cs ≠ []) {i : Nat} (hi : ablk A = some i) : i < w.heap.size := by
  rcases h with h | ⟨b, off, rfl, h⟩
  · exact absurd h hne
  · obtain ⟨u, l, rfl⟩ := List.exists_cons_of_ne_nil hne
    have h1 := h 0 u rfl
    have h2 := World.block_lt_of_cell? w _ h1
    simp [ablk] at hi
    subst hi
    exact h2
theorem info_int : (Try.prog.info? 3).map (fun i => (i.zero, i.size, i.bytes)) = some (some (.int .i64 0), 1, 8) := by kernel_rfl
theorem i_one (l : List Int) : ∀ v ∈ l.map (Value.int .i64), v.oneCell' = true := by simp [Value.oneCell']

set_option maxHeartbeats 4000000 in
theorem jsee_calls (g b : Nat) (most : Int) (L : List Pr) (o : OpV) (a : AnsV) (B : Option Addr) (m cb : Nat) (w : World) (hJ : IsJ w g b most L) (hk : U o.key) (hv : U o.val) (hL : L.length ≤ 1073741823)
    (hm : m = a.list.length) (hml : a.list.length ≤ 1099511627776) (hrd : RdC w B (a.list.flatMap pcells)) (hB : a.list ≠ [] → ablk B ≠ some b) :
    Calls Try.prog 13 #[.pointer (some ⟨g, 0, none⟩), opVal o, ansIn a B m cb] w fun e w' =>
      ∃ A c, e = .returned (.slice A (rules a (does most L o).1).length c) ∧ Own w' w.heap.size 3 1 A (rules a (does most L o).1).length c ((rules a (does most L o).1).map (Value.int .i64)) ∧ Mv (one1 b) w w' ∧ IsJ w' g b most (does most L o).2 := by
  subst hm
  have HJ := Lib.hid hJ
  have HR := Lib.hid hrd
  have HB := Lib.hid hB
  have hlt := hJ.lt
  clear hJ hrd hB
  unfold opVal ansIn
  go_enter Try.func13, Try.ntmps13
  go_wp2_with fail
  refine (jdoes_calls g b most L o _ (HJ.out.fr (fr2 w _ _)) hk hv (by omega)).mono ?_
  rintro e w3 ⟨⟨A, c, rfl, ho, hm⟩, hJ3⟩
  generalize hd : (does most L o).1 = d at ho
  generalize hd2 : (does most L o).2 = L2 at hJ3
  have hop := hm.blk (alloc2_fst w _ _) (fun e => by have : w.heap.size = b := e; omega)
  have han := hm.blk (alloc2_snd w _ _) (fun e => by have : w.heap.size + 1 = b := e; omega)
  have HOP := Lib.hid hop
  have HAN := Lib.hid han
  have HO := Lib.hid ho
  have HM := Lib.hid hm
  have HJ3 := Lib.hid hJ3
  have HD := Lib.hid hd
  have HD2 := Lib.hid hd2
  clear hop han ho hm hJ3 hd hd2
  unfold ansVal
  go_wp2_with fail
  obtain ⟨w4, hw4⟩ : ∃ w4, w3.alloc (.cells #[.int .i64 d.code, .bool d.is, .int .u64 d.key, .int .u64 d.val, .int .i64 d.num, .slice A d.list.length c] 44) = w4 := ⟨_, rfl⟩
  have hd4 := heap_alloc_new w3 (.cells #[.int .i64 d.code, .bool d.is, .int .u64 d.key, .int .u64 d.val, .int .i64 d.num, .slice A d.list.length c] 44)
  have hf4 := (Fr.refl w3).alloc (.cells #[.int .i64 d.code, .bool d.is, .int .u64 d.key, .int .u64 d.val, .int .i64 d.num, .slice A d.list.length c] 44)
  rw [hw4]
  rw [hw4] at hd4 hf4
  clear hw4
  have HF4 := Lib.hid hf4
  have HD4 := Lib.hid hd4
  have HA4 := Lib.hid (hf4.blk HAN.out)
  clear hf4 hd4
  obtain ⟨e0, e1, e2, e3, e4, e5, -, -, -, -, -, -⟩ := ans_cells HD4.out
  obtain ⟨a0, a1, a2, a3, a4, a5, -, -, -, -, -, -⟩ := ans_cells HA4.out
  have hr1 : Hid (RdC w4 B (a.list.flatMap pcells)) := ((HR.out.fr (fr2 w _ _)).mvn HM.out (fun hne g hg e => HB.out (fun e => hne (by rw [e]; rfl)) (by rw [hg]; rw [show g = b from e]))).fr HF4.out
  have hr2 : Hid (RdC w4 A (d.list.flatMap pcells)) := HO.out.rd.fr HF4.out
  have heq : ∀ k, Calls Try.prog 21 #[.slice B a.list.length cb, .slice A d.list.length c] (w4.drewN k) fun e w' => e = .returned (.bool (decide (a.list = d.list))) ∧ ∃ q, w' = (w4.drewN k).drewN q :=
    fun k => sequal_calls B A _ cb _ c a.list d.list _ rfl rfl hml (hr1.out.fr (fr_drewN _ _)) (hr2.out.fr (fr_drewN _ _))
  have HEQ := Lib.hid heq
  clear heq
  by_cases hkk : a.key = d.key
  · have k1 : (a.key == d.key) = true := by simp [hkk]
    have k2 : (a.key != d.key) = false := by simp [hkk]
    clear hkk
    refine wp_region_quiet_tail1 33 _ (.int .i64 0) (by kernel_rfl) (by kernel_rfl) rfl (fun _ _ _ h => h) (.inl ⟨rfl, fun w => rfl⟩) ?_
    simp only [List.take_succ_cons, List.take_zero, List.drop_succ_cons, List.drop_zero, List.length_cons, List.length_nil]
    go_frame
    repeat (quiet_step (first | (go_at_call 21; exact Calls.quiet_of (HEQ.out _))))
    refine wpQuiet_nil ?_
    intro _ hw'
    obtain ⟨q, rfl⟩ := hw'
    obtain ⟨w5, hw5⟩ : ∃ w5, w5 = w4.drewN q := ⟨_, rfl⟩
    rw [← hw5]
    have hf5 : Hid (Fr w4 w5) := by rw [hw5]; exact fr_drewN _ _
    clear hw5
    have HRU : Hid (rules a d = pick [(a.code != d.code), !(a.is == d.is), (a.val != d.val), (a.num != d.num), !decide (a.list = d.list)] 1) := by
      show _ = _
      unfold rules broken
      rw [k2]
      rfl
    have hcw := bools_cells w5 (a.code != d.code) (!(a.is == d.is)) ((a.val != d.val)) (a.num != d.num) (!decide (a.list = d.list)) 4
    have hf6 := (Fr.refl w5).alloc (.cells #[.bool (a.code != d.code), .bool (!(a.is == d.is)), .bool ((a.val != d.val)), .bool (a.num != d.num), .bool (!decide (a.list = d.list))] 4)
    have hz6 : (w5.alloc (.cells #[.bool (a.code != d.code), .bool (!(a.is == d.is)), .bool ((a.val != d.val)), .bool (a.num != d.num), .bool (!decide (a.list = d.list))] 4)).heap.size = w5.heap.size + 1 := by simp
    obtain ⟨bs, hbs⟩ : ∃ bs, bs = [(a.code != d.code), !(a.is == d.is), (a.val != d.val), (a.num != d.num), !decide (a.list = d.list)] := ⟨_, rfl⟩
    rw [← hbs] at HRU hcw
    have hbl : bs.length = 5 := by rw [hbs]; rfl
    obtain ⟨G, hG⟩ : ∃ G : Nat → Bool, ∀ t, G t = bs.getD t false := ⟨_, fun _ => rfl⟩
    simp only [← hG] at hcw
    have HG := Lib.hid hG
    have HBL := Lib.hid hbl
    obtain ⟨w6, hw6⟩ : ∃ w6, w6 = (w5.alloc (.cells #[.bool (a.code != d.code), .bool (!(a.is == d.is)), .bool ((a.val != d.val)), .bool (a.num != d.num), .bool (!decide (a.list = d.list))] 4)) := ⟨_, rfl⟩
    rw [← hw6] at hcw hf6 hz6
    have HF6 := Lib.hid hf6
    have HZ6 := Lib.hid hz6
    have HC6 := Lib.hid hcw
    have HW6 := Lib.hid hw6
    clear hbs hG hbl hf6 hz6 hcw hw6 k2
    go_wp2_with fail
    rw [← HW6.out]
    go_loopw [8, 49] (fun vl vi wr => ∃ (i : Nat) (A3 : Option Addr) (c3 : Nat), vi = .int .i64 i ∧ i ≤ 5 ∧ vl = .slice A3 (pick (bs.take i) 1).length c3 ∧ Hid (Own wr w6.heap.size 3 1 A3 (pick (bs.take i) 1).length c3 ((pick (bs.take i) 1).map (Value.int .i64))) ∧ Hid (Fr w6 wr)) (fun _ vi _ => 5 - (intOf vi).toNat)
    case atStart => exact ⟨0, none, 0, rfl, by omega, by simp [pick], by simpa [pick, Hid] using Own.nil _ _ _ _, Fr.refl _⟩
    case round =>
      obtain ⟨i, A3, c3, rfl, hi, rfl, ho5, hfr5⟩ := hrel
      by_cases hlt : i < 5
      · have hcell : wr.cell? ⟨w5.heap.size, i, none⟩ = some (.bool (G i)) := hfr5.out.cell (HC6.out i hlt)
        have htk : Hid (bs.take (i + 1) = bs.take i ++ [G i]) := by
          have hb' : i < bs.length := by rw [HBL.out]; exact hlt
          show _ = _
          rw [List.take_succ_eq_append_getElem hb', HG.out i]
          simp [hb']
        have hti : Hid ((bs.take i).length = i) := by rw [Hid, List.length_take, HBL.out]; omega
        have hpl : (pick (bs.take i) 1).length ≤ 5 := by have := pick_len (bs.take i) 1; rw [hti.out] at this; omega
        cases hb : G i
        · have hpk : Hid (pick (bs.take (i + 1)) 1 = pick (bs.take i) 1) := by
            show _ = _
            rw [htk.out, pick_snoc, hb]; simp
          clear htk hti
          go_wp2_with fail
          exact ⟨⟨i + 1, A3, c3, by simp, by omega, by rw [hpk.out], by rw [Hid, hpk.out]; exact ho5.out, hfr5⟩, by simp [intOf]; omega⟩
        · have hpk : Hid (pick (bs.take (i + 1)) 1 = pick (bs.take i) 1 ++ [1 + (i : Int)]) := by
            show _ = _
            rw [htk.out, pick_snoc, hb, hti.out]; simp
          clear htk hti
          go_wp2_with (at_builtin; refine gate ?_)
          refine gate_app rfl _ _ 40 rfl 3 (.int .i64 0) 1 8 Try.underlying40 info_int rfl (by omega) (by omega) w6.heap.size A3 (pick (bs.take i) 1).length c3 _ (some ⟨wr.heap.size, 0, none⟩) 1 1 [.int .i64 (1 + (i : Int))] (by rfl) (by rfl)
            (ho5.out.fr ((Fr.refl wr).alloc _)) rfl (RdC.blk (Blk.new wr _ _)) (i_one [_]) (by omega) (by have := hfr5.out.size; simp; omega) ?_
          intro A4 c4 w7 hown hgr hat
          have hf7 : Hid (Fr w6 w7) := (hfr5.out.alloc _).grown hgr.out (fun g hg => (ho5.out.lt g hg).1)
          have ho7 : Hid (Own w7 w6.heap.size 3 1 A4 (pick (bs.take (i + 1)) 1).length c4 ((pick (bs.take (i + 1)) 1).map (Value.int .i64))) := by
            rw [Hid, hpk.out]; simpa using hown.out
          have hl7 : Hid ((pick (bs.take (i + 1)) 1).length = (pick (bs.take i) 1).length + 1) := by rw [Hid, hpk.out]; simp
          clear hown hgr hat ho5 hfr5
          go_wp2_with fail
          exact ⟨⟨i + 1, A4, c4, by simp, by omega, by rw [hl7.out], ho7, hf7⟩, by simp [intOf]; omega⟩
      · obtain rfl : i = 5 := by omega
        have hall : Hid (pick (bs.take 5) 1 = rules a d) := by
          rw [Hid, HRU.out, List.take_of_length_le (by rw [HBL.out]; omega)]
        go_wp2_with fail
        go_ret
        have hfin : Fr w3 wr := (HF4.out.trans hf5.out).trans (HF6.out.trans hfr5.out)
        refine ⟨A3, c3, by rw [HD.out, ← hall.out]; rfl, ?_, ((Mv.of_fr (fr2 w _ _)).trans' HM.out).then hfin, by rw [HD2.out]; exact HJ3.out.fr hfin⟩
        rw [HD.out, ← hall.out]
        exact ho5.out.mono (Nat.le_trans (Nat.le_trans (fr2 w _ _).size HM.out.size) ((HF4.out.trans hf5.out).trans HF6.out).size)
  · have k1 : (a.key == d.key) = false := by simpa using hkk
    have k2 : (a.key != d.key) = true := by simpa using hkk
    clear hkk
    refine wp_region_quiet_tail1 33 _ (.int .i64 0) (by kernel_rfl) (by kernel_rfl) rfl (fun _ _ _ h => h) (.inl ⟨rfl, fun w => rfl⟩) ?_
    simp only [List.take_succ_cons, List.take_zero, List.drop_succ_cons, List.drop_zero, List.length_cons, List.length_nil]
    go_frame
    repeat (quiet_step (first | (go_at_call 21; exact Calls.quiet_of (HEQ.out _))))
    refine wpQuiet_nil ?_
    intro _ hw'
    obtain ⟨q, rfl⟩ := hw'
    obtain ⟨w5, hw5⟩ : ∃ w5, w5 = w4.drewN q := ⟨_, rfl⟩
    rw [← hw5]
    have hf5 : Hid (Fr w4 w5) := by rw [hw5]; exact fr_drewN _ _
    clear hw5
    have HRU : Hid (rules a d = pick [(a.code != d.code), !(a.is == d.is), true, (a.num != d.num), !decide (a.list = d.list)] 1) := by
      show _ = _
      unfold rules broken
      rw [k2]
      rfl
    have hcw := bools_cells w5 (a.code != d.code) (!(a.is == d.is)) (true) (a.num != d.num) (!decide (a.list = d.list)) 4
    have hf6 := (Fr.refl w5).alloc (.cells #[.bool (a.code != d.code), .bool (!(a.is == d.is)), .bool (true), .bool (a.num != d.num), .bool (!decide (a.list = d.list))] 4)
    have hz6 : (w5.alloc (.cells #[.bool (a.code != d.code), .bool (!(a.is == d.is)), .bool (true), .bool (a.num != d.num), .bool (!decide (a.list = d.list))] 4)).heap.size = w5.heap.size + 1 := by simp
    obtain ⟨bs, hbs⟩ : ∃ bs, bs = [(a.code != d.code), !(a.is == d.is), true, (a.num != d.num), !decide (a.list = d.list)] := ⟨_, rfl⟩
    rw [← hbs] at HRU hcw
    have hbl : bs.length = 5 := by rw [hbs]; rfl
    obtain ⟨G, hG⟩ : ∃ G : Nat → Bool, ∀ t, G t = bs.getD t false := ⟨_, fun _ => rfl⟩
    simp only [← hG] at hcw
    have HG := Lib.hid hG
    have HBL := Lib.hid hbl
    obtain ⟨w6, hw6⟩ : ∃ w6, w6 = (w5.alloc (.cells #[.bool (a.code != d.code), .bool (!(a.is == d.is)), .bool (true), .bool (a.num != d.num), .bool (!decide (a.list = d.list))] 4)) := ⟨_, rfl⟩
    rw [← hw6] at hcw hf6 hz6
    have HF6 := Lib.hid hf6
    have HZ6 := Lib.hid hz6
    have HC6 := Lib.hid hcw
    have HW6 := Lib.hid hw6
    clear hbs hG hbl hf6 hz6 hcw hw6 k2
    go_wp2_with fail
    rw [← HW6.out]
    go_loopw [8, 49] (fun vl vi wr => ∃ (i : Nat) (A3 : Option Addr) (c3 : Nat), vi = .int .i64 i ∧ i ≤ 5 ∧ vl = .slice A3 (pick (bs.take i) 1).length c3 ∧ Hid (Own wr w6.heap.size 3 1 A3 (pick (bs.take i) 1).length c3 ((pick (bs.take i) 1).map (Value.int .i64))) ∧ Hid (Fr w6 wr)) (fun _ vi _ => 5 - (intOf vi).toNat)
    case atStart => exact ⟨0, none, 0, rfl, by omega, by simp [pick], by simpa [pick, Hid] using Own.nil _ _ _ _, Fr.refl _⟩
    case round =>
      obtain ⟨i, A3, c3, rfl, hi, rfl, ho5, hfr5⟩ := hrel
      by_cases hlt : i < 5
      · have hcell : wr.cell? ⟨w5.heap.size, i, none⟩ = some (.bool (G i)) := hfr5.out.cell (HC6.out i hlt)
        have htk : Hid (bs.take (i + 1) = bs.take i ++ [G i]) := by
          have hb' : i < bs.length := by rw [HBL.out]; exact hlt
          show _ = _
          rw [List.take_succ_eq_append_getElem hb', HG.out i]
          simp [hb']
        have hti : Hid ((bs.take i).length = i) := by rw [Hid, List.length_take, HBL.out]; omega
        have hpl : (pick (bs.take i) 1).length ≤ 5 := by have := pick_len (bs.take i) 1; rw [hti.out] at this; omega
        cases hb : G i
        · have hpk : Hid (pick (bs.take (i + 1)) 1 = pick (bs.take i) 1) := by
            show _ = _
            rw [htk.out, pick_snoc, hb]; simp
          clear htk hti
          go_wp2_with fail
          exact ⟨⟨i + 1, A3, c3, by simp, by omega, by rw [hpk.out], by rw [Hid, hpk.out]; exact ho5.out, hfr5⟩, by simp [intOf]; omega⟩
        · have hpk : Hid (pick (bs.take (i + 1)) 1 = pick (bs.take i) 1 ++ [1 + (i : Int)]) := by
            show _ = _
            rw [htk.out, pick_snoc, hb, hti.out]; simp
          clear htk hti
          go_wp2_with (at_builtin; refine gate ?_)
          refine gate_app rfl _ _ 40 rfl 3 (.int .i64 0) 1 8 Try.underlying40 info_int rfl (by omega) (by omega) w6.heap.size A3 (pick (bs.take i) 1).length c3 _ (some ⟨wr.heap.size, 0, none⟩) 1 1 [.int .i64 (1 + (i : Int))] (by rfl) (by rfl)
            (ho5.out.fr ((Fr.refl wr).alloc _)) rfl (RdC.blk (Blk.new wr _ _)) (i_one [_]) (by omega) (by have := hfr5.out.size; simp; omega) ?_
          intro A4 c4 w7 hown hgr hat
          have hf7 : Hid (Fr w6 w7) := (hfr5.out.alloc _).grown hgr.out (fun g hg => (ho5.out.lt g hg).1)
          have ho7 : Hid (Own w7 w6.heap.size 3 1 A4 (pick (bs.take (i + 1)) 1).length c4 ((pick (bs.take (i + 1)) 1).map (Value.int .i64))) := by
            rw [Hid, hpk.out]; simpa using hown.out
          have hl7 : Hid ((pick (bs.take (i + 1)) 1).length = (pick (bs.take i) 1).length + 1) := by rw [Hid, hpk.out]; simp
          clear hown hgr hat ho5 hfr5
          go_wp2_with fail
          exact ⟨⟨i + 1, A4, c4, by simp, by omega, by rw [hl7.out], ho7, hf7⟩, by simp [intOf]; omega⟩
      · obtain rfl : i = 5 := by omega
        have hall : Hid (pick (bs.take 5) 1 = rules a d) := by
          rw [Hid, HRU.out, List.take_of_length_le (by rw [HBL.out]; omega)]
        go_wp2_with fail
        go_ret
        have hfin : Fr w3 wr := (HF4.out.trans hf5.out).trans (HF6.out.trans hfr5.out)
        refine ⟨A3, c3, by rw [HD.out, ← hall.out]; rfl, ?_, ((Mv.of_fr (fr2 w _ _)).trans' HM.out).then hfin, by rw [HD2.out]; exact HJ3.out.fr hfin⟩
        rw [HD.out, ← hall.out]
        exact ho5.out.mono (Nat.le_trans (Nat.le_trans (fr2 w _ _).size HM.out.size) ((HF4.out.trans hf5.out).trans HF6.out).size)
end Go.Proofs.Ytjannhphmemenaa
