/- The walks of the judge: its pairs; what it does. -/
import Derived.Test.YtjannhphmemenaaJudR
namespace Go.Proofs.Ytjannhphmemenaa
set_option maxRecDepth 100000
open Go.RowKit Go.Inc Go.Jud Go.Maps Go.Sort

set_option maxHeartbeats 1000000 in
theorem jpairs_calls (g b : Nat) (most : Int) (L : List Pr) (w : World) (hJ : IsJ w g b most L) (hL : L.length ≤ 1073741824) :
    Calls Try.prog 19 #[.pointer (some ⟨g, 0, none⟩)] w fun e w' => ∃ A c, e = .returned (.slice A L.length c) ∧ Own w' w.heap.size 55 2 A L.length c (L.flatMap pcells) ∧ Fr w w' := by
  have HJ := Lib.hid hJ
  clear hJ
  go_enter Try.func19, Try.ntmps19
  go_wp2_with fail
  refine (jkeys_calls g b most L _ HJ.out (by omega)).mono ?_
  rintro e w2 ⟨A2, c, rfl, ho, hf⟩
  have hrd4 := Lib.hid ho.rd
  have hff := Lib.hid hf
  clear ho hf
  go_wp2_with fail
  go_loopw [3, 9] (fun vl vi wr => ∃ (i : Nat) (A3 : Option Addr) (c3 : Nat), vi = .int .i64 i ∧ i ≤ L.length ∧ vl = .slice A3 i c3 ∧ Hid (Own wr w2.heap.size 55 2 A3 i c3 ((L.take i).flatMap pcells)) ∧ Hid (Fr w2 wr)) (fun _ vi _ => L.length - (intOf vi).toNat)
  case atStart => exact ⟨0, none, 0, rfl, by omega, rfl, Own.nil _ _ _ _, Fr.refl _⟩
  case round =>
    obtain ⟨i, A3, c3, rfl, hi, rfl, ho, hfr⟩ := hrel
    have hc1 := (HJ.out.fr (hff.out.trans hfr.out)).c1
    by_cases hlt : i < L.length
    · obtain ⟨p, hp⟩ : ∃ p, L[i]? = some p := ⟨_, List.getElem?_eq_getElem hlt⟩
      have hlk := look_J (HJ.out.fr (hff.out.trans hfr.out)) (List.mem_of_getElem? hp)
      obtain ⟨bA, oA, rfl, hcA⟩ := hrd4.out.at (by simp; omega)
      have hck : wr.cell? ⟨bA, oA + i, none⟩ = some (.int .u64 p.1) := hfr.out.cell (hcA _ _ (by simp [hp]))
      have HP := Lib.hid hp
      clear hcA hp
      go_wp2_with (at_builtin; refine gate ?_)
      refine gate_app rfl _ _ 42 rfl 55 (.agg #[.int .u64 0, .int .u64 0]) 2 16 Try.underlying42 info_pair rfl (by omega) (by omega) w2.heap.size A3 i c3 _ (some ⟨wr.heap.size, 0, none⟩) 1 1 (pcells p) (by rfl) (by rfl)
        (ho.out.fr ((Fr.refl wr).alloc _)) rfl (RdC.blk (Blk.new wr _ _)) (by simpa using pcells_one [p]) (by omega) (by have := hfr.out.size; simp; omega) ?_
      intro A4 c4 w4 hown hgr hat
      have hf4 : Hid (Fr w2 w4) := (hfr.out.alloc _).grown hgr.out (fun g hg => (ho.out.lt g hg).1)
      have ho4 : Hid (Own w4 w2.heap.size 55 2 A4 (i + 1) c4 ((L.take (i + 1)).flatMap pcells)) := by
        have e : L.take (i + 1) = L.take i ++ [p] := by
          rw [List.take_add_one, HP.out]; rfl
        show Own _ _ _ _ _ _ _ _
        rw [e, List.flatMap_append]
        simpa using hown.out
      clear hown hgr hat ho hfr
      go_wp2_with fail
      refine ⟨⟨i + 1, A4, c4, by simp, by omega, rfl, ho4, hf4⟩, by simp [intOf]; omega⟩
    · obtain rfl : i = L.length := by omega
      go_wp2_with fail
      go_ret
      refine ⟨A3, c3, rfl, ?_, hff.out.trans hfr.out⟩
      have := ho.out.mono (base' := w.heap.size) hff.out.size
      rwa [List.take_length] at this

/-- What a call answers: the answer's value, its list a slice of the call's own. -/
def AnsPost (a : AnsV) (S : Nat → Prop) (w : World) (e : Ending) (w' : World) : Prop :=
  ∃ A c, e = .returned (ansVal a A c) ∧ Own w' w.heap.size 55 2 A a.list.length c (a.list.flatMap pcells) ∧ Mv S w w'
theorem jordered_calls (g b : Nat) (most : Int) (L : List Pr) (o : OpV) (w : World) (hJ : IsJ w g b most L) (hL : L.length ≤ 1073741824) (h : o.kind = 4 ∨ o.kind = 5 ∨ o.kind = 6 ∨ o.kind = 7) :
    Calls Try.prog 26 #[.pointer (some ⟨g, 0, none⟩), opVal o] w (AnsPost (does most L o).1 none0 w) := by
  obtain ⟨kd, k, v⟩ := o
  unfold opVal
  have nl : ∀ (a : AnsV) (w' : World), a.list = [] → Fr w w' → AnsPost a none0 w (.returned (ansVal a none 0)) w' := fun a w' ha hf => ⟨none, 0, rfl, by rw [ha]; exact Own.nil _ _ _ _, Mv.of_fr hf⟩
  have pl : ∀ n, (pairAt L n).list = [] := fun n => by unfold pairAt; (repeat' split) <;> rfl
  simp only at h
  rcases h with rfl | rfl | rfl | rfl
  · have e : (does most L ⟨4, k, v⟩).1 = pairAt L (if isAt L k then rk L k else (rk L k : Int) - 1) := rfl
    rw [e]
    cases hi : isAt L k with
    | true =>
      refine (jfloor_is g b most L k v w hJ (by omega) hi).mono ?_
      rintro e w' ⟨rfl, hf⟩
      exact nl _ _ (pl _) hf
    | false =>
      rcases Nat.eq_zero_or_pos (rk L k) with h0 | h0
      · refine (jfloor_out g b most L k v w hJ (by omega) hi h0).mono ?_
        rintro e w' ⟨rfl, hf⟩
        exact nl _ _ (pl _) hf
      · refine (jfloor_in g b most L k v w hJ (by omega) hi h0).mono ?_
        rintro e w' ⟨rfl, hf⟩
        exact nl _ _ (pl _) hf
  · have e : (does most L ⟨5, k, v⟩).1 = pairAt L (rk L k) := rfl
    rw [e]
    rcases Nat.lt_or_ge (rk L k) L.length with h | h
    · refine (jceil_in g b most L k v w hJ (by omega) h).mono ?_
      rintro e w' ⟨rfl, hf⟩
      exact nl _ _ (pl _) hf
    · refine (jceil_out g b most L k v w hJ (by omega) h).mono ?_
      rintro e w' ⟨rfl, hf⟩
      exact nl _ _ (pl _) hf
  · refine (jordered_rank g b most L k v w hJ (by omega)).mono ?_
    rintro e w' ⟨rfl, hf⟩
    exact nl ⟨0, false, 0, 0, (rk L k : Nat), []⟩ _ rfl hf
  · refine (jordered_range g b most L k v w hJ hL).mono ?_
    rintro e w' ⟨A, c, rfl, ho, hf⟩
    exact ⟨A, c, rfl, ho, Mv.of_fr hf⟩

end Go.Proofs.Ytjannhphmemenaa
