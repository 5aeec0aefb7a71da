/- The walk of the judge's does. -/
import Derived.Test.YtjannhphmemenaaJudQ
namespace Go.Proofs.Ytjannhphmemenaa
set_option maxRecDepth 100000
open Go.RowKit Go.Inc Go.Jud Go.Maps Go.Sort

theorem look_ok_J {w : World} {g b : Nat} {most : Int} {L : List Pr} (h : IsJ w g b most L) {k : Int} (hk : U k) :
    (Instr.lookup 63 (.map (some b)) (.int .u64 k) true).run Try.prog w = .ok (.tuple #[.int .u64 (valAt L k), .bool (isAt L k)]) w := by
  obtain ⟨hU, hI, D, hown, -, hhas, hat⟩ := h.2.2
  obtain ⟨v, ps, h1, h2⟩ := hown.look_ok lawK Try.underlying63 (zeroE _) (zd := .lit (.int .u64 0)) (zp := []) (plainElem_int Try.underlying31 (wfU (by unfold U; omega))) (keyU hk)
  obtain ⟨c, rfl, hc, hwc⟩ := plainElem_int_inv Try.underlying31 h2
  have e : c = valAt L k := atKey_val hU hhas hat (congrArg Prod.fst hc)
  rw [h1, has_bool hU hhas, e]
theorem len_J {w : World} {g b : Nat} {most : Int} {L : List Pr} (h : IsJ w g b most L) (ty : TypeId) : (Builtin.len_ #[63] ty #[.map (some b)]).run Try.prog w = .ok (.int .i64 L.length) w := by
  obtain ⟨hU, hI, D, hown, hsz, hhas, hat⟩ := h.2.2
  rw [hown.len Try.underlying63 ty, hsz]
theorem put_J {w : World} {g b : Nat} {most : Int} {L : List Pr} (h : IsJ w g b most L) {k v : Int} (hk : U k) (hv : U v) (hL : L.length ≤ 1073741824) :
    ∃ w', (Instr.mapUpdate 63 (.map (some b)) (.int .u64 k) (.int .u64 v)).run Try.prog w = .ok () w' ∧ IsJ w' g b most (if isAt L k then setL L k v else insL L k v) ∧ Mv (one1 b) w w' := by
  obtain ⟨hU, hI, D, hown, hsz, hhas, hat⟩ := h.2.2
  obtain ⟨w', h1, h2, h3⟩ := hown.update lawK Try.underlying63 (by unfold maxLen; omega) (keyU hk) (plainElem_int (H := Unit) Try.underlying31 (wfU hv))
  have hm : Mv (one1 b) w w' := Mv.of_grown h3 (fun k hk => .inl (by injection hk with hk; exact hk.symm))
  exact ⟨w', h1, h.turn hm (IsM.put hU hI hk hv hown.isMap (hown.tidy lawK) hsz hhas hat h2), hm⟩
theorem del_J {w : World} {g b : Nat} {most : Int} {L : List Pr} (h : IsJ w g b most L) {k : Int} (hk : U k) (ty : TypeId) :
    ∃ w', (Builtin.delete_ #[63, 31] ty #[.map (some b), .int .u64 k]).run Try.prog w = .ok (.tuple #[]) w' ∧ IsJ w' g b most (delL L k) ∧ Mv (one1 b) w w' := by
  obtain ⟨hU, hI, D, hown, hsz, hhas, hat⟩ := h.2.2
  obtain ⟨w', h1, h2, h3⟩ := hown.drop lawK Try.underlying63 (keyU hk) ty
  have hm : Mv (one1 b) w w' := Mv.of_grown h3.grown (fun k hk => .inl (by injection hk with hk; exact hk.symm))
  exact ⟨w', h1, h.turn hm (IsM.del hU hI (hown.tidy lawK) hsz hhas hat h2), hm⟩

/-- What a call of the judge answers. -/
def DoesPost (most : Int) (L : List Pr) (o : OpV) (g b : Nat) (w : World) (e : Ending) (w' : World) : Prop :=
  AnsPost (does most L o).1 (one1 b) w e w' ∧ IsJ w' g b most (does most L o).2

theorem does_nil {most : Int} {L : List Pr} {o : OpV} {g b : Nat} {w w' : World} {a : AnsV} {L' : List Pr} (he : does most L o = (a, L')) (ha : a.list = []) (hm : Mv (one1 b) w w') (hJ : IsJ w' g b most L') : DoesPost most L o g b w (.returned (ansVal a none 0)) w' :=
  ⟨⟨none, 0, by rw [he], by rw [he, ha]; exact Own.nil _ _ _ _, hm⟩, by rw [he]; exact hJ⟩
theorem set6_J {w : World} {g b gA : Nat} {most : Int} {L : List Pr} (h : IsJ w g b most L) (hg : g ≠ gA) (hb : b ≠ gA) (y0 y1 y2 y3 y4 y5 : Value) : IsJ (set6 w gA y0 y1 y2 y3 y4 y5) g b most L :=
  h.mv (set6_mv1 w gA y0 y1 y2 y3 y4 y5) (fun e => hg e) (fun e => hb e)
theorem drew_J {w : World} {g b : Nat} {most : Int} {L : List Pr} (h : IsJ w g b most L) : IsJ w.drew g b most L := h.fr ((Fr.refl w).drew)
theorem blk3 {w : World} {g : Nat} {o : Obj} (h : w.heap[g]? = some o) : w.drew.drew.drew.heap[g]? = some o := drew_blk (drew_blk (drew_blk h))
theorem blk2 {w : World} {g : Nat} {o : Obj} (h : w.heap[g]? = some o) : w.drew.drew.heap[g]? = some o := drew_blk (drew_blk h)

set_option maxHeartbeats 1000000 in
theorem jdoes_get (g b : Nat) (most : Int) (L : List Pr) (k v : Int) (w : World) (hJ : IsJ w g b most L) (hk : U k) :
    Calls Try.prog 20 #[.pointer (some ⟨g, 0, none⟩), .agg #[.int .i64 3, .int .u64 k, .int .u64 v]] w (DoesPost most L ⟨3, k, v⟩ g b w) := by
  have HJ := Lib.hid hJ
  have hlt := hJ.lt
  clear hJ
  go_enter Try.func20, Try.ntmps20
  go_wp2_with fail
  obtain ⟨w2, hw2⟩ : ∃ w2, ((w.alloc (.cells #[.int .i64 3, .int .u64 k, .int .u64 v] 33)).alloc (.cells #[.int .i64 0, .bool false, .int .u64 0, .int .u64 0, .int .i64 0, .slice none 0 0] 44)) = w2 := ⟨_, rfl⟩
  rw [hw2]
  have ha := alloc2_snd w (.cells #[.int .i64 3, .int .u64 k, .int .u64 v] 33) (.cells #[.int .i64 0, .bool false, .int .u64 0, .int .u64 0, .int .i64 0, .slice none 0 0] 44)
  have ho := alloc2_fst w (.cells #[.int .i64 3, .int .u64 k, .int .u64 v] 33) (.cells #[.int .i64 0, .bool false, .int .u64 0, .int .u64 0, .int .i64 0, .slice none 0 0] 44)
  have hff := Lib.hid (fr2 w (.cells #[.int .i64 3, .int .u64 k, .int .u64 v] 33) (.cells #[.int .i64 0, .bool false, .int .u64 0, .int .u64 0, .int .i64 0, .slice none 0 0] 44))
  rw [hw2] at ha ho hff
  clear hw2
  obtain ⟨o0, o1, o2⟩ := op_cells ho
  obtain ⟨a0, a1, a2, a3, a4, a5, f0, f1, f2, f3, f4, f5⟩ := ans_cells ha
  have HA := Lib.hid ha
  clear ha ho
  have HJ2 := Lib.hid (HJ.out.fr hff.out)
  have hc1 := HJ2.out.c1
  have hlk := look_ok_J (HJ2.out.fr ((Fr.refl w2).drew)) hk
  go_region
  go_wp2_with fail
  exact bodyPost_ret (results_cell_row rfl _ _ (w.heap.size + 1) _ _ (0, 0) _ rfl (set6_heap_drew HA.out _ _ _ _ _ _) Try.underlying44 rfl (by kernel_rfl)) rfl (does_nil (a := ⟨0, isAt L k, 0, valAt L k, 0, []⟩) (L' := L) rfl rfl (set6_mv (Mv.of_fr hff.out) (by omega) _ _ _ _ _ _).drew (drew_J (set6_J HJ2.out (by omega) (by omega) _ _ _ _ _ _)))

set_option maxHeartbeats 1000000 in
theorem jdoes_other (g b : Nat) (most : Int) (L : List Pr) (k v : Int) (w : World) (hJ : IsJ w g b most L) (hk : U k) (kd : Int) (hkd : kd ≠ 1 ∧ kd ≠ 2 ∧ kd ≠ 3 ∧ kd ≠ 4 ∧ kd ≠ 5 ∧ kd ≠ 6 ∧ kd ≠ 7) :
    Calls Try.prog 20 #[.pointer (some ⟨g, 0, none⟩), .agg #[.int .i64 kd, .int .u64 k, .int .u64 v]] w (DoesPost most L ⟨kd, k, v⟩ g b w) := by
  have HJ := Lib.hid hJ
  have hlt := hJ.lt
  clear hJ
  have k1 : (kd == 1) = false := by simp; omega
  have k2 : (kd == 2) = false := by simp; omega
  have k3 : (kd == 3) = false := by simp; omega
  have k4 : (kd == 4) = false := by simp; omega
  have k5 : (kd == 5) = false := by simp; omega
  have k6 : (kd == 6) = false := by simp; omega
  have k7 : (kd == 7) = false := by simp; omega
  have hdo : Hid (does most L ⟨kd, k, v⟩ = (⟨1, false, 0, 0, 0, []⟩, L)) := by
    show _ = _
    unfold does
    simp only [if_neg hkd.1, if_neg hkd.2.1, if_neg hkd.2.2.1, if_neg hkd.2.2.2.1, if_neg hkd.2.2.2.2.1, if_neg hkd.2.2.2.2.2.1, if_neg hkd.2.2.2.2.2.2]
    rfl
  clear hkd
  go_enter Try.func20, Try.ntmps20
  go_wp2_with fail
  obtain ⟨w2, hw2⟩ : ∃ w2, ((w.alloc (.cells #[.int .i64 kd, .int .u64 k, .int .u64 v] 33)).alloc (.cells #[.int .i64 0, .bool false, .int .u64 0, .int .u64 0, .int .i64 0, .slice none 0 0] 44)) = w2 := ⟨_, rfl⟩
  rw [hw2]
  have ha := alloc2_snd w (.cells #[.int .i64 kd, .int .u64 k, .int .u64 v] 33) (.cells #[.int .i64 0, .bool false, .int .u64 0, .int .u64 0, .int .i64 0, .slice none 0 0] 44)
  have ho := alloc2_fst w (.cells #[.int .i64 kd, .int .u64 k, .int .u64 v] 33) (.cells #[.int .i64 0, .bool false, .int .u64 0, .int .u64 0, .int .i64 0, .slice none 0 0] 44)
  have hff := Lib.hid (fr2 w (.cells #[.int .i64 kd, .int .u64 k, .int .u64 v] 33) (.cells #[.int .i64 0, .bool false, .int .u64 0, .int .u64 0, .int .i64 0, .slice none 0 0] 44))
  rw [hw2] at ha ho hff
  clear hw2
  obtain ⟨o0, o1, o2⟩ := op_cells ho
  obtain ⟨a0, a1, a2, a3, a4, a5, f0, f1, f2, f3, f4, f5⟩ := ans_cells ha
  have HA := Lib.hid ha
  clear ha ho
  have HJ2 := Lib.hid (HJ.out.fr hff.out)
  have hc1 := HJ2.out.c1
  have hlk := look_ok_J (HJ2.out.fr ((Fr.refl w2).drew)) hk
  go_region
  go_wp2_with fail
  exact bodyPost_ret (results_cell_row rfl _ _ (w.heap.size + 1) _ _ (0, 0) _ rfl (set6_heap_drew HA.out _ _ _ _ _ _) Try.underlying44 rfl (by kernel_rfl)) rfl (does_nil (a := ⟨1, false, 0, 0, 0, []⟩) (L' := L) hdo.out rfl (set6_mv (Mv.of_fr hff.out) (by omega) _ _ _ _ _ _).drew (drew_J (set6_J HJ2.out (by omega) (by omega) _ _ _ _ _ _)))

set_option maxHeartbeats 1000000 in
theorem jdoes_delete (g b : Nat) (most : Int) (L : List Pr) (k v : Int) (w : World) (hJ : IsJ w g b most L) (hk : U k) :
    Calls Try.prog 20 #[.pointer (some ⟨g, 0, none⟩), .agg #[.int .i64 2, .int .u64 k, .int .u64 v]] w (DoesPost most L ⟨2, k, v⟩ g b w) := by
  have HJ := Lib.hid hJ
  have hlt := hJ.lt
  clear hJ
  go_enter Try.func20, Try.ntmps20
  go_wp2_with fail
  obtain ⟨w2, hw2⟩ : ∃ w2, ((w.alloc (.cells #[.int .i64 2, .int .u64 k, .int .u64 v] 33)).alloc (.cells #[.int .i64 0, .bool false, .int .u64 0, .int .u64 0, .int .i64 0, .slice none 0 0] 44)) = w2 := ⟨_, rfl⟩
  rw [hw2]
  have ha := alloc2_snd w (.cells #[.int .i64 2, .int .u64 k, .int .u64 v] 33) (.cells #[.int .i64 0, .bool false, .int .u64 0, .int .u64 0, .int .i64 0, .slice none 0 0] 44)
  have ho := alloc2_fst w (.cells #[.int .i64 2, .int .u64 k, .int .u64 v] 33) (.cells #[.int .i64 0, .bool false, .int .u64 0, .int .u64 0, .int .i64 0, .slice none 0 0] 44)
  have hff := Lib.hid (fr2 w (.cells #[.int .i64 2, .int .u64 k, .int .u64 v] 33) (.cells #[.int .i64 0, .bool false, .int .u64 0, .int .u64 0, .int .i64 0, .slice none 0 0] 44))
  rw [hw2] at ha ho hff
  clear hw2
  obtain ⟨o0, o1, o2⟩ := op_cells ho
  obtain ⟨a0, a1, a2, a3, a4, a5, f0, f1, f2, f3, f4, f5⟩ := ans_cells ha
  have HA := Lib.hid ha
  clear ha ho
  have HJ2 := Lib.hid (HJ.out.fr hff.out)
  have hc1 := HJ2.out.c1
  have hlk := look_ok_J (HJ2.out.fr ((Fr.refl w2).drew)) hk
  go_region
  obtain ⟨w5, hdl, hJ5, hm5⟩ := del_J (HJ2.out.fr (((Fr.refl w2).drew).drew)) hk 0
  have HA5 := Lib.hid (hm5.blk (blk2 HA.out) (show ¬ one1 b (w.heap.size + 1) from fun e => by have : w.heap.size + 1 = b := e; omega))
  obtain ⟨e0, e1, e2, e3, e4, e5, g0, g1, g2, g3, g4, g5⟩ := ans_cells HA5.out
  have HM5 := Lib.hid hm5
  have HJ5 := Lib.hid hJ5
  clear hm5 hJ5
  have hMM : Hid (Mv (one1 b) w w5) := (Mv.of_fr (((hff.out).drew).drew)).trans' HM5.out
  go_wp2_with fail
  go_region
  go_wp2_with fail
  exact bodyPost_ret (results_cell_row rfl _ _ (w.heap.size + 1) _ _ (0, 0) _ rfl (set6_heap HA5.out _ _ _ _ _ _) Try.underlying44 rfl (by kernel_rfl)) rfl (does_nil (a := ⟨0, isAt L k, 0, 0, 0, []⟩) (L' := delL L k) rfl rfl (set6_mv hMM.out (by omega) _ _ _ _ _ _) (set6_J HJ5.out (by omega) (by omega) _ _ _ _ _ _))

set_option maxHeartbeats 1000000 in
theorem jdoes_put_is (g b : Nat) (most : Int) (L : List Pr) (k v : Int) (w : World) (hJ : IsJ w g b most L) (hk : U k) (hv : U v) (hL : L.length ≤ 1073741824) (hi : isAt L k = true) :
    Calls Try.prog 20 #[.pointer (some ⟨g, 0, none⟩), .agg #[.int .i64 1, .int .u64 k, .int .u64 v]] w (DoesPost most L ⟨1, k, v⟩ g b w) := by
  have HJ := Lib.hid hJ
  have hlt := hJ.lt
  clear hJ
  have HI := Lib.hid hi
  go_enter Try.func20, Try.ntmps20
  go_wp2_with fail
  obtain ⟨w2, hw2⟩ : ∃ w2, ((w.alloc (.cells #[.int .i64 1, .int .u64 k, .int .u64 v] 33)).alloc (.cells #[.int .i64 0, .bool false, .int .u64 0, .int .u64 0, .int .i64 0, .slice none 0 0] 44)) = w2 := ⟨_, rfl⟩
  rw [hw2]
  have ha := alloc2_snd w (.cells #[.int .i64 1, .int .u64 k, .int .u64 v] 33) (.cells #[.int .i64 0, .bool false, .int .u64 0, .int .u64 0, .int .i64 0, .slice none 0 0] 44)
  have ho := alloc2_fst w (.cells #[.int .i64 1, .int .u64 k, .int .u64 v] 33) (.cells #[.int .i64 0, .bool false, .int .u64 0, .int .u64 0, .int .i64 0, .slice none 0 0] 44)
  have hff := Lib.hid (fr2 w (.cells #[.int .i64 1, .int .u64 k, .int .u64 v] 33) (.cells #[.int .i64 0, .bool false, .int .u64 0, .int .u64 0, .int .i64 0, .slice none 0 0] 44))
  rw [hw2] at ha ho hff
  clear hw2
  obtain ⟨o0, o1, o2⟩ := op_cells ho
  obtain ⟨a0, a1, a2, a3, a4, a5, f0, f1, f2, f3, f4, f5⟩ := ans_cells ha
  have HA := Lib.hid ha
  clear ha ho
  have HJ2 := Lib.hid (HJ.out.fr hff.out)
  have hc1 := HJ2.out.c1
  have hlk := look_ok_J (HJ2.out.fr ((Fr.refl w2).drew)) hk
  go_region
  have hc0 := HJ2.out.c0
  have hln := len_J (HJ2.out.fr (((Fr.refl w2).drew).drew)) 3
  obtain ⟨w5, hdl, hJ5, hm5⟩ := put_J (HJ2.out.fr ((((Fr.refl w2).drew).drew).drew)) hk hv hL
  have HA5 := Lib.hid (hm5.blk (blk3 HA.out) (show ¬ one1 b (w.heap.size + 1) from fun e => by have : w.heap.size + 1 = b := e; omega))
  obtain ⟨e0, e1, e2, e3, e4, e5, g0, g1, g2, g3, g4, g5⟩ := ans_cells HA5.out
  have HM5 := Lib.hid hm5
  rw [HI.out] at hJ5
  have HJ5 := Lib.hid hJ5
  clear hm5 hJ5
  have hMM : Hid (Mv (one1 b) w w5) := (Mv.of_fr ((((hff.out).drew).drew).drew)).trans' HM5.out
  go_wp2_with fail
  go_region
  go_wp2_with fail
  go_region
  go_wp2_with fail
  exact bodyPost_ret (results_cell_row rfl _ _ (w.heap.size + 1) _ _ (0, 0) _ rfl (set6_heap HA5.out _ _ _ _ _ _) Try.underlying44 rfl (by kernel_rfl)) rfl (does_nil (a := ⟨0, false, 0, 0, 0, []⟩) (L' := setL L k v) (by unfold does; rw [if_pos rfl, if_pos HI.out]; rfl) rfl (set6_mv hMM.out (by omega) _ _ _ _ _ _) (set6_J HJ5.out (by omega) (by omega) _ _ _ _ _ _))

set_option maxHeartbeats 1000000 in
theorem jdoes_put_new (g b : Nat) (most : Int) (L : List Pr) (k v : Int) (w : World) (hJ : IsJ w g b most L) (hk : U k) (hv : U v) (hL : L.length ≤ 1073741824) (hi : isAt L k = false) (hmo : (L.length : Int) < most) :
    Calls Try.prog 20 #[.pointer (some ⟨g, 0, none⟩), .agg #[.int .i64 1, .int .u64 k, .int .u64 v]] w (DoesPost most L ⟨1, k, v⟩ g b w) := by
  have HJ := Lib.hid hJ
  have hlt := hJ.lt
  clear hJ
  have hge : decide ((L.length : Int) ≥ most) = false := decide_eq_false (by omega)
  have HI := Lib.hid hi
  have HMO := Lib.hid hmo
  go_enter Try.func20, Try.ntmps20
  go_wp2_with fail
  obtain ⟨w2, hw2⟩ : ∃ w2, ((w.alloc (.cells #[.int .i64 1, .int .u64 k, .int .u64 v] 33)).alloc (.cells #[.int .i64 0, .bool false, .int .u64 0, .int .u64 0, .int .i64 0, .slice none 0 0] 44)) = w2 := ⟨_, rfl⟩
  rw [hw2]
  have ha := alloc2_snd w (.cells #[.int .i64 1, .int .u64 k, .int .u64 v] 33) (.cells #[.int .i64 0, .bool false, .int .u64 0, .int .u64 0, .int .i64 0, .slice none 0 0] 44)
  have ho := alloc2_fst w (.cells #[.int .i64 1, .int .u64 k, .int .u64 v] 33) (.cells #[.int .i64 0, .bool false, .int .u64 0, .int .u64 0, .int .i64 0, .slice none 0 0] 44)
  have hff := Lib.hid (fr2 w (.cells #[.int .i64 1, .int .u64 k, .int .u64 v] 33) (.cells #[.int .i64 0, .bool false, .int .u64 0, .int .u64 0, .int .i64 0, .slice none 0 0] 44))
  rw [hw2] at ha ho hff
  clear hw2
  obtain ⟨o0, o1, o2⟩ := op_cells ho
  obtain ⟨a0, a1, a2, a3, a4, a5, f0, f1, f2, f3, f4, f5⟩ := ans_cells ha
  have HA := Lib.hid ha
  clear ha ho
  have HJ2 := Lib.hid (HJ.out.fr hff.out)
  have hc1 := HJ2.out.c1
  have hlk := look_ok_J (HJ2.out.fr ((Fr.refl w2).drew)) hk
  go_region
  have hc0 := HJ2.out.c0
  have hln := len_J (HJ2.out.fr (((Fr.refl w2).drew).drew)) 3
  obtain ⟨w5, hdl, hJ5, hm5⟩ := put_J (HJ2.out.fr ((((Fr.refl w2).drew).drew).drew)) hk hv hL
  have HA5 := Lib.hid (hm5.blk (blk3 HA.out) (show ¬ one1 b (w.heap.size + 1) from fun e => by have : w.heap.size + 1 = b := e; omega))
  obtain ⟨e0, e1, e2, e3, e4, e5, g0, g1, g2, g3, g4, g5⟩ := ans_cells HA5.out
  have HM5 := Lib.hid hm5
  rw [HI.out] at hJ5
  have HJ5 := Lib.hid hJ5
  clear hm5 hJ5
  have hMM : Hid (Mv (one1 b) w w5) := (Mv.of_fr ((((hff.out).drew).drew).drew)).trans' HM5.out
  go_wp2_with fail
  go_region
  go_wp2_with fail
  go_region
  go_wp2_with fail
  exact bodyPost_ret (results_cell_row rfl _ _ (w.heap.size + 1) _ _ (0, 0) _ rfl (set6_heap HA5.out _ _ _ _ _ _) Try.underlying44 rfl (by kernel_rfl)) rfl (does_nil (a := ⟨0, false, 0, 0, 0, []⟩) (L' := insL L k v) (by unfold does; rw [if_pos rfl, if_neg (by rw [HI.out]; simp), if_neg (by have := HMO.out; omega)]; rfl) rfl (set6_mv hMM.out (by omega) _ _ _ _ _ _) (set6_J HJ5.out (by omega) (by omega) _ _ _ _ _ _))

set_option maxHeartbeats 1000000 in
theorem jdoes_put_full (g b : Nat) (most : Int) (L : List Pr) (k v : Int) (w : World) (hJ : IsJ w g b most L) (hk : U k) (hi : isAt L k = false) (hmo : (L.length : Int) ≥ most) :
    Calls Try.prog 20 #[.pointer (some ⟨g, 0, none⟩), .agg #[.int .i64 1, .int .u64 k, .int .u64 v]] w (DoesPost most L ⟨1, k, v⟩ g b w) := by
  have HJ := Lib.hid hJ
  have hlt := hJ.lt
  clear hJ
  have hge : decide ((L.length : Int) ≥ most) = true := decide_eq_true (by omega)
  have HI := Lib.hid hi
  have HMO := Lib.hid hmo
  go_enter Try.func20, Try.ntmps20
  go_wp2_with fail
  obtain ⟨w2, hw2⟩ : ∃ w2, ((w.alloc (.cells #[.int .i64 1, .int .u64 k, .int .u64 v] 33)).alloc (.cells #[.int .i64 0, .bool false, .int .u64 0, .int .u64 0, .int .i64 0, .slice none 0 0] 44)) = w2 := ⟨_, rfl⟩
  rw [hw2]
  have ha := alloc2_snd w (.cells #[.int .i64 1, .int .u64 k, .int .u64 v] 33) (.cells #[.int .i64 0, .bool false, .int .u64 0, .int .u64 0, .int .i64 0, .slice none 0 0] 44)
  have ho := alloc2_fst w (.cells #[.int .i64 1, .int .u64 k, .int .u64 v] 33) (.cells #[.int .i64 0, .bool false, .int .u64 0, .int .u64 0, .int .i64 0, .slice none 0 0] 44)
  have hff := Lib.hid (fr2 w (.cells #[.int .i64 1, .int .u64 k, .int .u64 v] 33) (.cells #[.int .i64 0, .bool false, .int .u64 0, .int .u64 0, .int .i64 0, .slice none 0 0] 44))
  rw [hw2] at ha ho hff
  clear hw2
  obtain ⟨o0, o1, o2⟩ := op_cells ho
  obtain ⟨a0, a1, a2, a3, a4, a5, f0, f1, f2, f3, f4, f5⟩ := ans_cells ha
  have HA := Lib.hid ha
  clear ha ho
  have HJ2 := Lib.hid (HJ.out.fr hff.out)
  have hc1 := HJ2.out.c1
  have hlk := look_ok_J (HJ2.out.fr ((Fr.refl w2).drew)) hk
  go_region
  have hc0 := HJ2.out.c0
  have hln := len_J (HJ2.out.fr (((Fr.refl w2).drew).drew)) 3
  go_wp2_with fail
  go_region
  go_wp2_with fail
  exact bodyPost_ret (results_cell_row rfl _ _ (w.heap.size + 1) _ _ (0, 0) _ rfl (drew_blk (set6_heap_drew HA.out _ _ _ _ _ _)) Try.underlying44 rfl (by kernel_rfl)) rfl (does_nil (a := ⟨161, false, 0, 0, 0, []⟩) (L' := L) (by unfold does; rw [if_pos rfl, if_neg (by rw [HI.out]; simp), if_pos HMO.out]; rfl) rfl (Mv.drew (set6_mv (Mv.of_fr hff.out) (by omega) _ _ _ _ _ _).drew) (drew_J (drew_J (set6_J HJ2.out (by omega) (by omega) _ _ _ _ _ _))))

set_option maxHeartbeats 1000000 in
theorem jdoes_4 (g b : Nat) (most : Int) (L : List Pr) (k v : Int) (w : World) (hJ : IsJ w g b most L) (hk : U k) (hL : L.length ≤ 1073741824) :
    Calls Try.prog 20 #[.pointer (some ⟨g, 0, none⟩), .agg #[.int .i64 4, .int .u64 k, .int .u64 v]] w (DoesPost most L ⟨4, k, v⟩ g b w) := by
  have HJ := Lib.hid hJ
  have hlt := hJ.lt
  clear hJ
  go_enter Try.func20, Try.ntmps20
  go_wp2_with fail
  obtain ⟨w2, hw2⟩ : ∃ w2, ((w.alloc (.cells #[.int .i64 4, .int .u64 k, .int .u64 v] 33)).alloc (.cells #[.int .i64 0, .bool false, .int .u64 0, .int .u64 0, .int .i64 0, .slice none 0 0] 44)) = w2 := ⟨_, rfl⟩
  rw [hw2]
  have ha := alloc2_snd w (.cells #[.int .i64 4, .int .u64 k, .int .u64 v] 33) (.cells #[.int .i64 0, .bool false, .int .u64 0, .int .u64 0, .int .i64 0, .slice none 0 0] 44)
  have ho := alloc2_fst w (.cells #[.int .i64 4, .int .u64 k, .int .u64 v] 33) (.cells #[.int .i64 0, .bool false, .int .u64 0, .int .u64 0, .int .i64 0, .slice none 0 0] 44)
  have hff := Lib.hid (fr2 w (.cells #[.int .i64 4, .int .u64 k, .int .u64 v] 33) (.cells #[.int .i64 0, .bool false, .int .u64 0, .int .u64 0, .int .i64 0, .slice none 0 0] 44))
  rw [hw2] at ha ho hff
  clear hw2
  obtain ⟨o0, o1, o2⟩ := op_cells ho
  obtain ⟨a0, a1, a2, a3, a4, a5, f0, f1, f2, f3, f4, f5⟩ := ans_cells ha
  have HA := Lib.hid ha
  clear ha ho
  have HJ2 := Lib.hid (HJ.out.fr hff.out)
  have hc1 := HJ2.out.c1
  have hlk := look_ok_J (HJ2.out.fr ((Fr.refl w2).drew)) hk
  go_region
  have HJ3 := Lib.hid (HJ2.out.fr ((Fr.refl w2).drew))
  go_wp2_with fail
  refine (jordered_calls g b most L ⟨4, k, v⟩ _ HJ3.out hL (by simp)).mono ?_
  rintro e w5 ⟨A, c, rfl, ho5, hm5⟩
  have hf5 := Lib.hid hm5.fr0
  have HA5 := Lib.hid (hf5.out.blk (drew_blk HA.out))
  obtain ⟨e0, e1, e2, e3, e4, e5, g0, g1, g2, g3, g4, g5⟩ := ans_cells HA5.out
  have HO5 := Lib.hid ho5
  have hs2 : Hid (w.heap.size + 2 ≤ w2.heap.size) := (Array.getElem?_eq_some_iff.1 HA.out).1
  clear hm5 ho5
  generalize hgen : (does most L ⟨4, k, v⟩).1 = aa at HO5
  have HG := Lib.hid hgen
  clear hgen
  unfold ansVal
  go_wp2_with fail
  have hlt5 := HO5.out.lt
  have hne5 : ablk A ≠ some (w.heap.size + 1) := fun e => by have h1 := (hlt5 _ e).1; have h2 := hs2.out; have h3 : w2.heap.size ≤ w.heap.size + 1 := h1; omega
  exact bodyPost_ret (results_cell_row rfl _ _ (w.heap.size + 1) _ _ (0, 0) _ rfl (set6_heap HA5.out _ _ _ _ _ _) Try.underlying44 rfl (by kernel_rfl)) rfl ⟨⟨A, c, by rw [HG.out]; rfl, by rw [HG.out]; exact (set6_own HO5.out hne5 _ _ _ _ _ _).mono (by have := hs2.out; show w.heap.size ≤ w2.heap.size; omega), set6_mv (Mv.of_fr ((hff.out.drew).trans hf5.out)) (by omega) _ _ _ _ _ _⟩, by
    have e : (does most L ⟨4, k, v⟩).2 = L := rfl
    rw [e]; exact set6_J (HJ3.out.fr hf5.out) (by omega) (by omega) _ _ _ _ _ _⟩

set_option maxHeartbeats 1000000 in
theorem jdoes_5 (g b : Nat) (most : Int) (L : List Pr) (k v : Int) (w : World) (hJ : IsJ w g b most L) (hk : U k) (hL : L.length ≤ 1073741824) :
    Calls Try.prog 20 #[.pointer (some ⟨g, 0, none⟩), .agg #[.int .i64 5, .int .u64 k, .int .u64 v]] w (DoesPost most L ⟨5, k, v⟩ g b w) := by
  have HJ := Lib.hid hJ
  have hlt := hJ.lt
  clear hJ
  go_enter Try.func20, Try.ntmps20
  go_wp2_with fail
  obtain ⟨w2, hw2⟩ : ∃ w2, ((w.alloc (.cells #[.int .i64 5, .int .u64 k, .int .u64 v] 33)).alloc (.cells #[.int .i64 0, .bool false, .int .u64 0, .int .u64 0, .int .i64 0, .slice none 0 0] 44)) = w2 := ⟨_, rfl⟩
  rw [hw2]
  have ha := alloc2_snd w (.cells #[.int .i64 5, .int .u64 k, .int .u64 v] 33) (.cells #[.int .i64 0, .bool false, .int .u64 0, .int .u64 0, .int .i64 0, .slice none 0 0] 44)
  have ho := alloc2_fst w (.cells #[.int .i64 5, .int .u64 k, .int .u64 v] 33) (.cells #[.int .i64 0, .bool false, .int .u64 0, .int .u64 0, .int .i64 0, .slice none 0 0] 44)
  have hff := Lib.hid (fr2 w (.cells #[.int .i64 5, .int .u64 k, .int .u64 v] 33) (.cells #[.int .i64 0, .bool false, .int .u64 0, .int .u64 0, .int .i64 0, .slice none 0 0] 44))
  rw [hw2] at ha ho hff
  clear hw2
  obtain ⟨o0, o1, o2⟩ := op_cells ho
  obtain ⟨a0, a1, a2, a3, a4, a5, f0, f1, f2, f3, f4, f5⟩ := ans_cells ha
  have HA := Lib.hid ha
  clear ha ho
  have HJ2 := Lib.hid (HJ.out.fr hff.out)
  have hc1 := HJ2.out.c1
  have hlk := look_ok_J (HJ2.out.fr ((Fr.refl w2).drew)) hk
  go_region
  have HJ3 := Lib.hid (HJ2.out.fr ((Fr.refl w2).drew))
  go_wp2_with fail
  refine (jordered_calls g b most L ⟨5, k, v⟩ _ HJ3.out hL (by simp)).mono ?_
  rintro e w5 ⟨A, c, rfl, ho5, hm5⟩
  have hf5 := Lib.hid hm5.fr0
  have HA5 := Lib.hid (hf5.out.blk (drew_blk HA.out))
  obtain ⟨e0, e1, e2, e3, e4, e5, g0, g1, g2, g3, g4, g5⟩ := ans_cells HA5.out
  have HO5 := Lib.hid ho5
  have hs2 : Hid (w.heap.size + 2 ≤ w2.heap.size) := (Array.getElem?_eq_some_iff.1 HA.out).1
  clear hm5 ho5
  generalize hgen : (does most L ⟨5, k, v⟩).1 = aa at HO5
  have HG := Lib.hid hgen
  clear hgen
  unfold ansVal
  go_wp2_with fail
  have hlt5 := HO5.out.lt
  have hne5 : ablk A ≠ some (w.heap.size + 1) := fun e => by have h1 := (hlt5 _ e).1; have h2 := hs2.out; have h3 : w2.heap.size ≤ w.heap.size + 1 := h1; omega
  exact bodyPost_ret (results_cell_row rfl _ _ (w.heap.size + 1) _ _ (0, 0) _ rfl (set6_heap HA5.out _ _ _ _ _ _) Try.underlying44 rfl (by kernel_rfl)) rfl ⟨⟨A, c, by rw [HG.out]; rfl, by rw [HG.out]; exact (set6_own HO5.out hne5 _ _ _ _ _ _).mono (by have := hs2.out; show w.heap.size ≤ w2.heap.size; omega), set6_mv (Mv.of_fr ((hff.out.drew).trans hf5.out)) (by omega) _ _ _ _ _ _⟩, by
    have e : (does most L ⟨5, k, v⟩).2 = L := rfl
    rw [e]; exact set6_J (HJ3.out.fr hf5.out) (by omega) (by omega) _ _ _ _ _ _⟩

set_option maxHeartbeats 1000000 in
theorem jdoes_6 (g b : Nat) (most : Int) (L : List Pr) (k v : Int) (w : World) (hJ : IsJ w g b most L) (hk : U k) (hL : L.length ≤ 1073741824) :
    Calls Try.prog 20 #[.pointer (some ⟨g, 0, none⟩), .agg #[.int .i64 6, .int .u64 k, .int .u64 v]] w (DoesPost most L ⟨6, k, v⟩ g b w) := by
  have HJ := Lib.hid hJ
  have hlt := hJ.lt
  clear hJ
  go_enter Try.func20, Try.ntmps20
  go_wp2_with fail
  obtain ⟨w2, hw2⟩ : ∃ w2, ((w.alloc (.cells #[.int .i64 6, .int .u64 k, .int .u64 v] 33)).alloc (.cells #[.int .i64 0, .bool false, .int .u64 0, .int .u64 0, .int .i64 0, .slice none 0 0] 44)) = w2 := ⟨_, rfl⟩
  rw [hw2]
  have ha := alloc2_snd w (.cells #[.int .i64 6, .int .u64 k, .int .u64 v] 33) (.cells #[.int .i64 0, .bool false, .int .u64 0, .int .u64 0, .int .i64 0, .slice none 0 0] 44)
  have ho := alloc2_fst w (.cells #[.int .i64 6, .int .u64 k, .int .u64 v] 33) (.cells #[.int .i64 0, .bool false, .int .u64 0, .int .u64 0, .int .i64 0, .slice none 0 0] 44)
  have hff := Lib.hid (fr2 w (.cells #[.int .i64 6, .int .u64 k, .int .u64 v] 33) (.cells #[.int .i64 0, .bool false, .int .u64 0, .int .u64 0, .int .i64 0, .slice none 0 0] 44))
  rw [hw2] at ha ho hff
  clear hw2
  obtain ⟨o0, o1, o2⟩ := op_cells ho
  obtain ⟨a0, a1, a2, a3, a4, a5, f0, f1, f2, f3, f4, f5⟩ := ans_cells ha
  have HA := Lib.hid ha
  clear ha ho
  have HJ2 := Lib.hid (HJ.out.fr hff.out)
  have hc1 := HJ2.out.c1
  have hlk := look_ok_J (HJ2.out.fr ((Fr.refl w2).drew)) hk
  go_region
  have HJ3 := Lib.hid (HJ2.out.fr ((Fr.refl w2).drew))
  go_wp2_with fail
  refine (jordered_calls g b most L ⟨6, k, v⟩ _ HJ3.out hL (by simp)).mono ?_
  rintro e w5 ⟨A, c, rfl, ho5, hm5⟩
  have hf5 := Lib.hid hm5.fr0
  have HA5 := Lib.hid (hf5.out.blk (drew_blk HA.out))
  obtain ⟨e0, e1, e2, e3, e4, e5, g0, g1, g2, g3, g4, g5⟩ := ans_cells HA5.out
  have HO5 := Lib.hid ho5
  have hs2 : Hid (w.heap.size + 2 ≤ w2.heap.size) := (Array.getElem?_eq_some_iff.1 HA.out).1
  clear hm5 ho5
  generalize hgen : (does most L ⟨6, k, v⟩).1 = aa at HO5
  have HG := Lib.hid hgen
  clear hgen
  unfold ansVal
  go_wp2_with fail
  have hlt5 := HO5.out.lt
  have hne5 : ablk A ≠ some (w.heap.size + 1) := fun e => by have h1 := (hlt5 _ e).1; have h2 := hs2.out; have h3 : w2.heap.size ≤ w.heap.size + 1 := h1; omega
  exact bodyPost_ret (results_cell_row rfl _ _ (w.heap.size + 1) _ _ (0, 0) _ rfl (set6_heap HA5.out _ _ _ _ _ _) Try.underlying44 rfl (by kernel_rfl)) rfl ⟨⟨A, c, by rw [HG.out]; rfl, by rw [HG.out]; exact (set6_own HO5.out hne5 _ _ _ _ _ _).mono (by have := hs2.out; show w.heap.size ≤ w2.heap.size; omega), set6_mv (Mv.of_fr ((hff.out.drew).trans hf5.out)) (by omega) _ _ _ _ _ _⟩, by
    have e : (does most L ⟨6, k, v⟩).2 = L := rfl
    rw [e]; exact set6_J (HJ3.out.fr hf5.out) (by omega) (by omega) _ _ _ _ _ _⟩

set_option maxHeartbeats 1000000 in
theorem jdoes_7 (g b : Nat) (most : Int) (L : List Pr) (k v : Int) (w : World) (hJ : IsJ w g b most L) (hk : U k) (hL : L.length ≤ 1073741824) :
    Calls Try.prog 20 #[.pointer (some ⟨g, 0, none⟩), .agg #[.int .i64 7, .int .u64 k, .int .u64 v]] w (DoesPost most L ⟨7, k, v⟩ g b w) := by
  have HJ := Lib.hid hJ
  have hlt := hJ.lt
  clear hJ
  go_enter Try.func20, Try.ntmps20
  go_wp2_with fail
  obtain ⟨w2, hw2⟩ : ∃ w2, ((w.alloc (.cells #[.int .i64 7, .int .u64 k, .int .u64 v] 33)).alloc (.cells #[.int .i64 0, .bool false, .int .u64 0, .int .u64 0, .int .i64 0, .slice none 0 0] 44)) = w2 := ⟨_, rfl⟩
  rw [hw2]
  have ha := alloc2_snd w (.cells #[.int .i64 7, .int .u64 k, .int .u64 v] 33) (.cells #[.int .i64 0, .bool false, .int .u64 0, .int .u64 0, .int .i64 0, .slice none 0 0] 44)
  have ho := alloc2_fst w (.cells #[.int .i64 7, .int .u64 k, .int .u64 v] 33) (.cells #[.int .i64 0, .bool false, .int .u64 0, .int .u64 0, .int .i64 0, .slice none 0 0] 44)
  have hff := Lib.hid (fr2 w (.cells #[.int .i64 7, .int .u64 k, .int .u64 v] 33) (.cells #[.int .i64 0, .bool false, .int .u64 0, .int .u64 0, .int .i64 0, .slice none 0 0] 44))
  rw [hw2] at ha ho hff
  clear hw2
  obtain ⟨o0, o1, o2⟩ := op_cells ho
  obtain ⟨a0, a1, a2, a3, a4, a5, f0, f1, f2, f3, f4, f5⟩ := ans_cells ha
  have HA := Lib.hid ha
  clear ha ho
  have HJ2 := Lib.hid (HJ.out.fr hff.out)
  have hc1 := HJ2.out.c1
  have hlk := look_ok_J (HJ2.out.fr ((Fr.refl w2).drew)) hk
  go_region
  have HJ3 := Lib.hid (HJ2.out.fr ((Fr.refl w2).drew))
  go_wp2_with fail
  refine (jordered_calls g b most L ⟨7, k, v⟩ _ HJ3.out hL (by simp)).mono ?_
  rintro e w5 ⟨A, c, rfl, ho5, hm5⟩
  have hf5 := Lib.hid hm5.fr0
  have HA5 := Lib.hid (hf5.out.blk (drew_blk HA.out))
  obtain ⟨e0, e1, e2, e3, e4, e5, g0, g1, g2, g3, g4, g5⟩ := ans_cells HA5.out
  have HO5 := Lib.hid ho5
  have hs2 : Hid (w.heap.size + 2 ≤ w2.heap.size) := (Array.getElem?_eq_some_iff.1 HA.out).1
  clear hm5 ho5
  generalize hgen : (does most L ⟨7, k, v⟩).1 = aa at HO5
  have HG := Lib.hid hgen
  clear hgen
  unfold ansVal
  go_wp2_with fail
  have hlt5 := HO5.out.lt
  have hne5 : ablk A ≠ some (w.heap.size + 1) := fun e => by have h1 := (hlt5 _ e).1; have h2 := hs2.out; have h3 : w2.heap.size ≤ w.heap.size + 1 := h1; omega
  exact bodyPost_ret (results_cell_row rfl _ _ (w.heap.size + 1) _ _ (0, 0) _ rfl (set6_heap HA5.out _ _ _ _ _ _) Try.underlying44 rfl (by kernel_rfl)) rfl ⟨⟨A, c, by rw [HG.out]; rfl, by rw [HG.out]; exact (set6_own HO5.out hne5 _ _ _ _ _ _).mono (by have := hs2.out; show w.heap.size ≤ w2.heap.size; omega), set6_mv (Mv.of_fr ((hff.out.drew).trans hf5.out)) (by omega) _ _ _ _ _ _⟩, by
    have e : (does most L ⟨7, k, v⟩).2 = L := rfl
    rw [e]; exact set6_J (HJ3.out.fr hf5.out) (by omega) (by omega) _ _ _ _ _ _⟩

/-- does, whatever the operation. -/
theorem jdoes_calls (g b : Nat) (most : Int) (L : List Pr) (o : OpV) (w : World) (hJ : IsJ w g b most L) (hk : U o.key) (hv : U o.val) (hL : L.length ≤ 1073741824) :
    Calls Try.prog 20 #[.pointer (some ⟨g, 0, none⟩), opVal o] w (DoesPost most L o g b w) := by
  obtain ⟨kd, k, v⟩ := o
  unfold opVal
  by_cases h1 : kd = 1
  · subst h1
    cases hi : isAt L k with
    | true => exact jdoes_put_is g b most L k v w hJ hk hv hL hi
    | false =>
      by_cases hm : (L.length : Int) < most
      · exact jdoes_put_new g b most L k v w hJ hk hv hL hi hm
      · exact jdoes_put_full g b most L k v w hJ hk hi (by omega)
  by_cases h2 : kd = 2
  · subst h2; exact jdoes_delete g b most L k v w hJ hk
  by_cases h3 : kd = 3
  · subst h3; exact jdoes_get g b most L k v w hJ hk
  by_cases h4 : kd = 4
  · subst h4; exact jdoes_4 g b most L k v w hJ hk hL
  by_cases h5 : kd = 5
  · subst h5; exact jdoes_5 g b most L k v w hJ hk hL
  by_cases h6 : kd = 6
  · subst h6; exact jdoes_6 g b most L k v w hJ hk hL
  by_cases h7 : kd = 7
  · subst h7; exact jdoes_7 g b most L k v w hJ hk hL
  exact jdoes_other g b most L k v w hJ hk kd ⟨h1, h2, h3, h4, h5, h6, h7⟩

end Go.Proofs.Ytjannhphmemenaa
