/- The walks of the judge: pairs that are compared. -/
import Derived.Test.YtjannhphmemenaaJudK
import Derived.Laws.StructEq
import Derived.ChangeKeysEq
namespace Go.Proofs.Ytjannhphmemenaa
set_option maxRecDepth 100000
open Go.RowKit Go.Inc Go.Jud Go.Maps Go.Sort

def pcells (p : Pr) : List Value := [.int .u64 p.1, .int .u64 p.2]
theorem pcells_len (p : Pr) : (pcells p).length = 2 := rfl
theorem pcells_one (l : List Pr) : ∀ v ∈ l.flatMap pcells, v.oneCell' = true := by
  intro v hv
  obtain ⟨p, _, hp⟩ := List.mem_flatMap.1 hv
  simp [pcells] at hp
  rcases hp with rfl | rfl <;> rfl
theorem pairs_cells {w : World} {A : Option Addr} {l : List Pr} (h : RdC w A (l.flatMap pcells)) (hne : 0 < l.length) : ∃ b off, A = some ⟨b, off, none⟩ ∧
    (∀ t, t < l.length → w.cell? ⟨b, off + t * 2, none⟩ = some (.int .u64 (l.getD t (0, 0)).1) ∧ w.cell? ⟨b, off + t * 2 + 1, none⟩ = some (.int .u64 (l.getD t (0, 0)).2)) := by
  obtain ⟨b, off, rfl, hc⟩ := h.at (by rw [flat_len pcells 2 pcells_len]; omega)
  refine ⟨b, off, rfl, fun t ht => ?_⟩
  have h0 : l[t]? = some (l.getD t (0, 0)) := by simp [ht]
  have a := hc (t * 2) (.int .u64 (l.getD t (0, 0)).1) (by have := get_flat pcells 2 pcells_len l t _ 0 h0 (by omega); rw [Nat.add_zero] at this; rw [this]; rfl)
  have c := hc (t * 2 + 1) (.int .u64 (l.getD t (0, 0)).2) (by have := get_flat pcells 2 pcells_len l t _ 1 h0 (by omega); rw [this]; rfl)
  exact ⟨a, by rw [Nat.add_assoc]; exact c⟩

theorem fieldsOf_of {P : Program} {t : TypeId} {fs : Array Field} (hu : P.underlying t = some (.struct fs)) : P.fieldsOf t = fs := by simp [Program.fieldsOf, hu]
theorem eqf_step {P : Program} {w : World} {d : Nat} {xs ys : Array Value} {f : Field} {fs : List Field} {a b : Value} {r s : Bool} (hn : f.name ≠ "_") (ha : (part f.type xs f.offset).run P w = .ok a w) (hb : (part f.type ys f.offset).run P w = .ok b w)
    (he : (Op.equalIn d f.type a b).run P w = .ok r w) (hr : (Op.eqFields d xs ys fs).run P w = .ok s w) : (Op.eqFields d xs ys (f :: fs)).run P w = .ok (r && s) w := by
  rw [Op.eqFields]
  simp only [if_pos hn, Sem.run_bind, ha, hb, he, Result.andThen_ok]
  cases r
  · simp
  · simpa using hr
theorem eqf_nil {P : Program} {w : World} {d : Nat} {xs ys : Array Value} : (Op.eqFields d xs ys []).run P w = .ok true w := by simp [Op.eqFields]
theorem pair_neq (W : World) (a b c e : Int) : (binOp .neq 55 (.agg #[.int .u64 a, .int .u64 b]) (.agg #[.int .u64 c, .int .u64 e])).run Try.prog W = .ok (.bool (!(a == c && b == e))) W := by
  have h1 : ∀ x y : Int, (Op.equalIn 9999 31 (.int .u64 x) (.int .u64 y)).run Try.prog W = .ok (x == y) W := fun x y => run_equalIn_int W 9998 _ _ _ x y Try.underlying31
  have hk : Try.prog.plainKey 31 = true := by kernel_rfl
  have p0 : ∀ (xs : Array Value) (off : Nat) (v : Value), xs[off]? = some v → (part 31 xs off).run Try.prog W = .ok v W := fun xs off v hv => run_part_plain W hk hv
  have h2 : (Op.eqFields 9999 #[.int .u64 a, .int .u64 b] #[.int .u64 c, .int .u64 e] (Try.prog.fieldsOf 55).toList).run Try.prog W = .ok (a == c && (b == e && true)) W := by
    rw [fieldsOf_of Try.underlying55]
    exact eqf_step (by decide) (p0 _ 0 _ rfl) (p0 _ 0 _ rfl) (h1 _ _) (eqf_step (by decide) (p0 _ 1 _ rfl) (p0 _ 1 _ rfl) (h1 _ _) eqf_nil)
  rw [run_neq_struct, run_equalIn_struct W 9999 55 _ _ (by kernel_rfl) (by kernel_rfl), h2]
  simp [Result.andThen]

set_option maxHeartbeats 1000000 in
theorem sequal_calls (A B : Option Addr) (n c m c' : Nat) (l1 l2 : List Pr) (w : World) (hn : n = l1.length) (hm : m = l2.length) (hL : l1.length ≤ 1099511627776) (h1 : RdC w A (l1.flatMap pcells)) (h2 : RdC w B (l2.flatMap pcells)) :
    Calls Try.prog 21 #[.slice A n c, .slice B m c'] w fun e w' => e = .returned (.bool (decide (l1 = l2))) ∧ ∃ k, w' = w.drewN k := by
  subst hn; subst hm
  by_cases hl : l1.length = l2.length
  · rcases Nat.eq_zero_or_pos l1.length with h0 | h0
    · have e1 : decide (l1 = l2) = true := by
        obtain rfl := List.eq_nil_of_length_eq_zero h0
        obtain rfl := List.eq_nil_of_length_eq_zero (hl.symm.trans h0)
        rfl
      rw [e1]
      rw [← hl, h0]
      go_enter Try.func21, Try.ntmps21
      go_wp2
      go_loopw [13] (fun i wr => i = .int .i64 0 ∧ wr = w) (fun _ _ => 0)
      case atStart => exact ⟨rfl, rfl⟩
      case round =>
        obtain ⟨rfl, rfl⟩ := hrel
        go_wp2
        go_ret
        exact ⟨rfl, 0, rfl⟩
    · obtain ⟨b1, o1, rfl, hc1⟩ := pairs_cells h1 h0
      obtain ⟨b2, o2, rfl, hc2⟩ := pairs_cells h2 (by omega)
      clear h1 h2
      obtain ⟨K1, hK1⟩ : ∃ K : Nat → Int, ∀ t, K t = (l1.getD t (0, 0)).1 := ⟨_, fun _ => rfl⟩
      obtain ⟨V1, hV1⟩ : ∃ K : Nat → Int, ∀ t, K t = (l1.getD t (0, 0)).2 := ⟨_, fun _ => rfl⟩
      obtain ⟨K2, hK2⟩ : ∃ K : Nat → Int, ∀ t, K t = (l2.getD t (0, 0)).1 := ⟨_, fun _ => rfl⟩
      obtain ⟨V2, hV2⟩ : ∃ K : Nat → Int, ∀ t, K t = (l2.getD t (0, 0)).2 := ⟨_, fun _ => rfl⟩
      simp only [← hK1, ← hV1, ← hK2, ← hV2] at hc1 hc2
      have HE : Hid (∀ t, (K1 t = K2 t ∧ V1 t = V2 t) ↔ l1.getD t (0, 0) = l2.getD t (0, 0)) := fun t => by
        rw [hK1, hK2, hV1, hV2]; exact Prod.ext_iff.symm
      clear hK1 hK2 hV1 hV2
      rw [← hl]
      have HL := Lib.hid hl
      rw [← hl] at hc2
      clear hl
      have hneq := pair_neq
      go_enter Try.func21, Try.ntmps21
      go_wp2
      go_loopw [13] (fun vi wr => ∃ i q : Nat, vi = .int .i64 i ∧ i ≤ l1.length ∧ Hid (∀ t, t < i → l1.getD t (0, 0) = l2.getD t (0, 0)) ∧ Hid (wr = w.drewN q)) (fun vi _ => l1.length - (intOf vi).toNat)
      case atStart => exact ⟨0, 0, rfl, by omega, fun t ht => by omega, rfl⟩
      case round =>
        obtain ⟨i, q, rfl, hi, hs, hw⟩ := hrel
        by_cases hlt : i < l1.length
        · have a1 : wr.cell? ⟨b1, o1 + i * 2, none⟩ = some (.int .u64 (K1 i)) := by rw [hw.out]; exact (hc1 i hlt).1
          have a2 : wr.cell? ⟨b1, o1 + i * 2 + 1, none⟩ = some (.int .u64 (V1 i)) := by rw [hw.out]; exact (hc1 i hlt).2
          have a3 : wr.cell? ⟨b2, o2 + i * 2, none⟩ = some (.int .u64 (K2 i)) := by rw [hw.out]; exact (hc2 i hlt).1
          have a4 : wr.cell? ⟨b2, o2 + i * 2 + 1, none⟩ = some (.int .u64 (V2 i)) := by rw [hw.out]; exact (hc2 i hlt).2
          clear hc1 hc2
          cases hb : (K1 i == K2 i && V1 i == V2 i)
          · have hbv : Hid (l1 ≠ l2) := fun e => by
              have := (HE.out i).2 (by rw [e])
              rw [this.1, this.2] at hb
              simp at hb
            go_wp2_with fail
            go_quiet (fail)
            go_wp2_with fail
            go_ret
            refine ⟨?_, q + nq, by rw [hw.out, World.drewN_drewN]⟩
            rw [decide_eq_false hbv.out]; rfl
          · have hbv : Hid (l1.getD i (0, 0) = l2.getD i (0, 0)) := (HE.out i).1 (by simpa using hb)
            go_wp2_with fail
            go_quiet (fail)
            go_wp2_with fail
            refine ⟨⟨i + 1, q + nq, by simp, by omega, fun t ht => ?_, ?_⟩, by simp [intOf]; omega⟩
            · rcases Nat.lt_or_ge t i with h | h
              · exact hs.out t h
              · have : t = i := by omega
                subst this; exact hbv.out
            · show _ = _
              rw [hw.out, World.drewN_drewN]
        · have hii : i = l1.length := by omega
          have hee : Hid (l1 = l2) := by
            have HS := hs.out
            subst hii
            exact List.ext_getElem HL.out fun t h1 h2 => by
              have := HS t h1
              simpa [h1, h2] using this
          clear hs hc1 hc2
          go_wp2_with fail
          go_ret
          refine ⟨?_, q, hw.out⟩
          rw [decide_eq_true hee.out]; rfl
  · have e1 : decide (l1 = l2) = false := decide_eq_false fun e => hl (by rw [e])
    rw [e1]
    have hlz : ((l1.length : Int) == (l2.length : Int)) = false := by simp; omega
    have hlz2 : ((l1.length : Int) != (l2.length : Int)) = true := by simp; omega
    clear h1 h2 hl
    go_enter Try.func21, Try.ntmps21
    go_wp2
    go_ret
    exact ⟨rfl, 0, rfl⟩

end Go.Proofs.Ytjannhphmemenaa
