/- RunAsks holds: for every input whose bulk is at most 1048576 the law returns true and its arguments read as before. -/
import Derived.Test.YtelpbbkmkighfaaGreatQW
import Derived.Test.YtelpbbkmkighfaaGreatQK
namespace Go.Run
/-- What a run is asked. -/
structure AskQ where
  q : Int
  lv : Int
  sl : Int
def AskOk (a : AskQ) : Prop := (0 ≤ a.q ∧ a.q < 18446744073709551616) ∧ (-9223372036854775808 ≤ a.lv ∧ a.lv ≤ 9223372036854775807) ∧ (-9223372036854775808 ≤ a.sl ∧ a.sl ≤ 9223372036854775807)
end Go.Run
namespace Go.Proofs.YtelpbbkmkighfaaGreat
set_option maxRecDepth 100000
open Go.RowKit Go.Inc Go.Run
attribute [local go_sem] run_store_float

def askcells (a : AskQ) : List Value := [.int .u64 a.q, .int .i64 a.lv, .int .i64 a.sl]
theorem askcells_len (a : AskQ) : (askcells a).length = 3 := rfl
theorem rdc_ask {w : World} {A : Option Addr} {S : List AskQ} (h : RdC w A (S.flatMap askcells)) (hne : 0 < S.length) : ∃ b off, A = some ⟨b, off, none⟩ ∧ ∀ i (hi : i < S.length), w.cell? ⟨b, off + i * 3, none⟩ = some (.int .u64 S[i].q) ∧ w.cell? ⟨b, off + i * 3 + 1, none⟩ = some (.int .i64 S[i].lv) ∧ w.cell? ⟨b, off + i * 3 + 2, none⟩ = some (.int .i64 S[i].sl) := by
  obtain ⟨b, off, hA, hc⟩ := h.at (by rw [flat_len askcells 3 askcells_len]; omega)
  refine ⟨b, off, hA, fun i hi => ?_⟩
  have hg := fun j (hj : j < 3) => get_flat askcells 3 askcells_len S i S[i] j (by simp [hi]) hj
  exact ⟨hc (i * 3) _ (hg 0 (by decide)), by rw [Nat.add_assoc]; exact hc (i * 3 + 1) _ (hg 1 (by decide)), by rw [Nat.add_assoc]; exact hc (i * 3 + 2) _ (hg 2 (by decide))⟩

set_option maxHeartbeats 4000000 in
theorem runAsks_calls (E : List Ent) (A : Option Addr) (n c : Nat) (eps : Int) (Q : List AskQ) (B : Option Addr) (m c' : Nat) (hm : m = Q.length) (hml : m ≤ 268435456) (hQ : ∀ a ∈ Q, AskOk a) (hn : n = E.length) (hc : n ≤ c) (hl : n ≤ 268435456) (hE : ∀ e ∈ E, EntOk e) (w : World)
    (hr : RdC w A (E.flatMap encells)) (hrq : RdC w B (Q.flatMap askcells)) :
    Calls Tryz.prog 3 #[.slice A n c, .int .i64 eps, .slice B m c'] w fun e w' => e = .returned (.bool true) ∧ Fr w w' := by
  have HN := Lib.hid hn
  have HRQ := Lib.hid hrq
  have HQ := Lib.hid hQ
  have HM := Lib.hid hm
  have HK := Lib.hid (keysE_ok hE)
  have NW : Hid (∀ w', Fr w w' → Calls Tryz.prog 8 #[.slice A n c, .int .i64 eps] w' (NewOut E eps w')) := fun w' h => rnew_any E A n c eps hn hc hl hE w' (hr.fr h)
  have RF : Hid (∀ w', Fr w w' → Calls Tryz.prog 9 #[.slice A n c, .int .i64 eps] w' (RefNew E eps w'.heap.size w')) := fun w' h => r11new_calls E A n c eps hn hl hE w' (hr.fr h)
  clear hr hn hE hc hrq hQ hm
  go_enter Tryz.func3, Tryz.ntmps3
  go_wp2_with fail
  refine (shown11_calls w).mono ?_
  rintro _ w1 ⟨rfl, hf1⟩
  have HF1 := Lib.hid hf1
  clear hf1
  by_cases hbig : n > 300
  · have g1 : decide ((n : Int) > 300) = true := decide_eq_true (by omega)
    have g1' : decide (300 < n) = true := decide_eq_true hbig
    go_wp2_with fail
    go_ret
    exact ⟨rfl, HF1.out⟩
  · have g1 : decide ((n : Int) > 300) = false := decide_eq_false (by omega)
    have g1' : decide (300 < n) = false := decide_eq_false hbig
    go_wp2_with fail
    refine (NW.out w1 HF1.out).mono ?_
    rintro e2 w2 ⟨hf2, hor⟩
    have HF2 : Hid (Fr w w2) := HF1.out.trans hf2
    clear hf2
    rcases hor with ⟨v, hv0, hv, rfl⟩ | ⟨he, r, p, Ss, rfl, _, hb⟩
    · have HV := Lib.hid (And.intro hv0 hv)
      clear hv hv0
      go_wp2_with fail
      refine (RF.out w2 HF2.out).mono ?_
      rintro e3 w3 hrf
      have he3 := rnew_no HV.out.1 HV.out.2 hrf
      have HF3 : Hid (Fr w w3) := HF2.out.trans hrf.1
      subst he3
      have e1 : (v != v) = false := by simp
      clear hrf
      go_wp2_with fail
      go_ret
      exact ⟨rfl, HF3.out⟩
    · have HB := Lib.hid hb
      have HEE := Lib.hid he
      clear hb he
      go_wp2_with fail
      refine (RF.out w2 HF2.out).mono ?_
      rintro e3 w3 hrf
      obtain ⟨x, he3, hx⟩ := rnew_yes HEE.out HB.out.ents HK.out HB.out.lv hrf
      have hf3 := hrf.1
      have HF3 : Hid (Fr w w3) := HF2.out.trans hf3
      subst he3
      have AN : Hid (∀ (a : AskQ) w', AskOk a → Fr w3 w' → Calls Tryz.prog 10 #[.pointer (some ⟨r, 0, none⟩), .pointer (some ⟨x, 0, none⟩), .agg #[.int .u64 a.q, .int .i64 a.lv, .int .i64 a.sl]] w' fun e w'' => e = .returned (.bool true) ∧ Fr w' w'') :=
        fun a w' ha h => answers_calls r p x eps E Ss a.q a.lv a.sl ha.1 ha.2.1 ha.2.2 (by have := HN.out; omega) w' ((HB.out.fr hf3).fr h) (hx.toR.fr h)
      clear hrf hx hf3 HB
      go_wp2_with fail
      go_loopw [12] (fun v wr => ∃ i : Nat, v = .int .i64 i ∧ i ≤ m ∧ Hid (Fr w3 wr)) (fun v _ => m - (intOf v).toNat)
      case atStart => exact ⟨0, rfl, by omega, Fr.refl _⟩
      case round =>
        obtain ⟨i, rfl, him, hf⟩ := hrel
        rcases Nat.lt_or_ge i m with hlt | hge
        · have g2 : decide (i < m) = true := decide_eq_true hlt
          have g3 : (i : Int) < (m : Int) := by omega
          have hiQ : i < Q.length := by have := HM.out; omega
          obtain ⟨b, off, hA, hc⟩ := rdc_ask (HRQ.out.fr (HF3.out.trans hf.out)) (by omega)
          subst hA
          obtain ⟨y0, y1, y2⟩ := hc i hiQ
          have hok := HQ.out _ (List.getElem_mem hiQ)
          obtain ⟨a, ha⟩ : ∃ a, Q[i] = a := ⟨_, rfl⟩
          rw [ha] at y0 y1 y2 hok
          have AA := Lib.hid (AN.out a wr hok hf.out)
          obtain ⟨aq, av, az⟩ := a
          dsimp only at y0 y1 y2 AA
          have wi : IntKind.i64.wrap ((i : Int) + 1) = (i : Int) + 1 := wrap_i64_in _ (by omega) (by omega)
          clear hc ha hok hiQ
          go_wp2_with fail
          refine AA.out.mono ?_
          rintro _ w4 ⟨rfl, hf4⟩
          have HF4 : Hid (Fr w3 w4) := hf.out.trans hf4
          clear hf4
          go_wp2_with fail
          exact ⟨⟨i + 1, rfl, by omega, HF4.out⟩, by simp only [intOf]; omega⟩
        · obtain rfl : i = m := by omega
          have g2 : decide (i < i) = false := by simp
          go_wp2_with fail
          go_ret
          exact ⟨rfl, HF3.out.trans hf.out⟩
end Go.Proofs.YtelpbbkmkighfaaGreat
namespace Go.Proofs.YtelpbbkmkighfaaGreat
open Go.RowKit Go.Inc Go.Run Go.ChangeShapes Go.WideShapes Go.ChangeAt

section
variable {H : Type} {enc : TypeId × Value → H} {w : World} {spare : Nat → Bool} {held : Bool}
theorem el_i64k {e : TypeId} (he : Tryz.prog.underlying e = some (.int .i64)) : ∀ fuel cs (d : DataW H) p, DataW.trod enc Tryz.prog w 0 spare held fuel e cs = some (d, p) → ∃ x : Int, cs = [Value.int .i64 x] ∧ (-9223372036854775808 ≤ x ∧ x ≤ 9223372036854775807) := by
  intro fuel cs d p h
  obtain ⟨n, rfl, _, wf⟩ := DataW.trod_int he h
  have : -9223372036854775808 ≤ n ∧ n ≤ 9223372036854775807 := by simpa [Lit.wf, IntKind.min, IntKind.max, IntKind.signed, IntKind.bits] using wf
  exact ⟨n, rfl, this⟩
set_option maxRecDepth 100000 in
theorem el_ask : ∀ fuel cs (d : DataW H) p, DataW.trod enc Tryz.prog w 0 spare held fuel 35 cs = some (d, p) → ∃ x : AskQ, cs = askcells x ∧ AskOk x := by
  intro fuel cs d p h
  obtain ⟨xs, n, _, hx, hl, hlen, hf⟩ := DataW.trod_struct Tryz.underlying35 h
  match xs, hlen with
  | [y0, y1, y2], _ =>
    obtain ⟨a, e0, b0⟩ := el_num64 Tryz.underlying33 n _ y0.1 y0.2 (hf 0 _ rfl)
    obtain ⟨b, e1, b1⟩ := el_i64k Tryz.underlying3 n _ y1.1 y1.2 (hf 1 _ rfl)
    obtain ⟨c, e2, b2⟩ := el_i64k Tryz.underlying3 n _ y2.1 y2.2 (hf 2 _ rfl)
    have hc : Tryz.prog.cellsOf 35 = 3 := by kernel_rfl
    have hc0 : Tryz.prog.cellsOf 3 = 1 := by kernel_rfl
    have hc1 : Tryz.prog.cellsOf 33 = 1 := by kernel_rfl
    rw [hc] at hl
    refine ⟨⟨a, b, c⟩, ?_, b0, b1, b2⟩
    match cs, hl with
    | [c0, c1, c2], _ =>
      simp [hc0, hc1] at e0 e1 e2
      simp [askcells, e0, e1, e2]
end
end Go.Proofs.YtelpbbkmkighfaaGreat
namespace Go.Proofs.YtelpbbkmkighfaaGreat.rowAsks
open Go.ChangeShapes Go.WideShapes Go.ChangeAt Go.RowKit Go.Inc

open Go.Run

set_option maxRecDepth 100000 in
theorem contract (H : Type) (enc : TypeId × Value → H) (W : World) (base : Nat) (args : Array Value) (ds gs : List (DataW H)) (before : List MemPlace)
    (hval : ∀ (j : Nat) t v, Tryz.f3.params[j]? = some t → args[j]? = some v → Value.okWide Tryz.prog W .any base t v)
    (hW : DataW.Whole enc Tryz.prog Tryz.f3.params.toList Rows.runAsksSpec.vars false W args.toList ds gs before) (hk : Rows.uptoSmall H (ds ++ gs) = true) :
    Calls Tryz.prog 3 args W fun e W' => ∃ v, e = .returned v ∧ Rows.runAsksSpec.post enc Tryz.prog Tryz.f3 false true false false W args v W' := by
  have hW' := hW
  obtain ⟨p, q, hA0, hV, rfl, hfz, hnd⟩ := hW
  have hA : DataW.TrodAll enc Tryz.prog W 0 (fun _ => true) true Tryz.f3.params.toList args.toList ds p := hA0
  rw [Tryz.params3] at hA hval
  obtain ⟨v0, vs0, d0, ds0, p0, q0, hargs, rfl, rfl, h0, r0⟩ := trodAll_cons hA
  obtain ⟨v1, vs1, d1, ds1, p1, q1, rfl, rfl, rfl, h1, r1⟩ := trodAll_cons r0
  obtain ⟨v2, vs2, d2, ds2, p2, q2, rfl, rfl, rfl, h2, r2⟩ := trodAll_cons r1
  obtain ⟨rfl, rfl, rfl⟩ := trodAll_nil r2
  obtain rfl : args = #[v0, v1, v2] := by cases args; simp_all
  obtain ⟨rfl, rfl⟩ := trodVars_none hV
  have hk2 := bulk_small hk
  simp only [List.append_nil, Rows.uptoBulkAll] at hk2
  obtain ⟨a0, len0, cap0, rfl⟩ := okWide_slice Tryz.underlying22 (hval 0 22 v0 rfl rfl)
  obtain ⟨fuel0, hf0⟩ := h0
  obtain ⟨A0, n0, c0, xs0, hcs0, hn0, hc0, hm0, hrd0, hd0⟩ := open_rows encells (fun x _ => EntOk x) Tryz.underlying22 rfl (by decide) (fun _ => rfl) (el_ent) hf0
  simp [Value.cells] at hcs0
  obtain ⟨rfl, rfl, rfl⟩ := hcs0
  have hl0 : xs0.length + 1 ≤ Rows.uptoBulk d0 := bulk_rows hd0
  obtain ⟨x1, rfl, rfl, rfl, w1⟩ := open_int Tryz.underlying3 (hval 1 3 v1 rfl rfl) h1
  have b1 : -9223372036854775808 ≤ x1 ∧ x1 ≤ 9223372036854775807 := by simpa [Lit.wf, IntKind.min, IntKind.max, IntKind.signed, IntKind.bits] using w1
  obtain ⟨a2, len2, cap2, rfl⟩ := okWide_slice Tryz.underlying23 (hval 2 23 v2 rfl rfl)
  obtain ⟨fuel2, hf2⟩ := h2
  obtain ⟨A2, n2, c2, xs2, hcs2, hn2, hc2, hm2, hrd2, hd2⟩ := open_rows askcells (fun x _ => AskOk x) Tryz.underlying23 rfl (by decide) (fun _ => rfl) (el_ask) hf2
  simp [Value.cells] at hcs2
  obtain ⟨rfl, rfl, rfl⟩ := hcs2
  have hl2 : xs2.length + 1 ≤ Rows.uptoBulk d2 := bulk_rows hd2
  have hE0 : ∀ e ∈ xs0, EntOk e := fun y hy => by
    obtain ⟨d', h1, _⟩ := bulk_elem hd0 y hy
    exact h1
  have hQ2 : ∀ e ∈ xs2, AskOk e := fun y hy => by
    obtain ⟨d', h1, _⟩ := bulk_elem hd2 y hy
    exact h1
  refine (runAsks_calls xs0 a0 len0 cap0 x1 xs2 a2 len2 cap2 hn2 (by omega) hQ2 hn0 (by omega) (by omega) hE0 W hrd0 hrd2).mono fun e W' ⟨he, hg⟩ => ?_
  subst he
  exact ⟨_, rfl, law_post laidOut rfl 4 rfl Tryz.underlying4 (fun ds h => by
    match ds, h with
    | [_, _, _], _ => rfl) (by kernel_rfl) hW' hg⟩

set_option maxRecDepth 100000 in
theorem lifted (os : Os) (started : os.Started) (H : Type) (enc : TypeId × Value → H) (F : Stop.Interp) :
    ReturnsInHanded {} Tryz.checked os 3 .any ((Rows.OpenSpec.upto Rows.runAsksSpec).pre6 enc Tryz.prog Tryz.f3 Rows.runAsksUptoRow.domain false) (((Rows.OpenSpec.upto Rows.runAsksSpec).at F).post enc Tryz.prog Tryz.f3 false true false false) := by
  refine returnsInHanded_of_cond (C := Tryz.checked) (s := Rows.OpenSpec.upto Rows.runAsksSpec) (k := Rows.uptoSmall) rfl own started (by kernel_rfl) Tryz.func3
    (OpenSpec.witness (enc := enc) (C := Tryz.checked) (s := Rows.OpenSpec.upto Rows.runAsksSpec) (k := Rows.uptoSmall) rfl false ⟨#[], #[.slice none 0 0, .int .i64 0, .slice none 0 0], []⟩ 8 (by kernel_rfl) (by kernel_rfl) (by kernel_rfl)
      (x := ([.nil, .lit (.int .i64 0), .nil], [], [])) (by kernel_rfl) rfl (by kernel_rfl)) ?_
  intro W base args ds gs before hval hW _ hk _
  exact contract H enc W base args ds gs before hval hW hk

theorem proved : Rows.RunAsksUptoSaid :=
  OpenClaim.holds_of_cond 3 Tryz.f3 rfl rfl rfl rfl rfl rfl rfl ⟨rfl, rfl, rfl, rfl, rfl⟩ rfl rfl rfl rfl rfl (by kernel_rfl) Tryz.func3 (by kernel_rfl)
    (of_decide_eq_true (by kernel_rfl)) (by unfold Func.isWrapper; first | (rw [if_pos (by decide +kernel)]; kernel_rfl) | (rw [if_neg (by decide +kernel)]; exact ⟨rfl, rfl⟩))
    (fun os started H enc _ F => lifted os started H enc F)

end Go.Proofs.YtelpbbkmkighfaaGreat.rowAsks
#print axioms Go.Proofs.YtelpbbkmkighfaaGreat.rowAsks.proved
