/- Parts of this proof, one behind the other: EntEq, Chk3, New11. -/
import Derived.Deep.QuietTactic
import Derived.BigQuiet
import Derived.Test.YthjimnmgbcckjaaGreatQI
namespace Go.Proofs.YthjimnmgbcckjaaGreat
open Go.RowKit Go.Inc Go.Run

def eqE (a b : Ent) : Bool := a.key == b.key && (a.val == b.val && a.gone == b.gone)
theorem eqE_iff {a b : Ent} : eqE a b = true ↔ a = b := by
  obtain ⟨k, v, g⟩ := a
  obtain ⟨k', v', g'⟩ := b
  simp [eqE]
theorem h_eqE (W : World) (a b : Ent) : (Op.eqFields 9999 #[.int .u64 a.key, .int .u64 a.val, .bool a.gone] #[.int .u64 b.key, .int .u64 b.val, .bool b.gone] (Tryz.prog.fieldsOf 52).toList).run Tryz.prog W = .ok (eqE a b) W := by
  have h1 : ∀ x y : Int, (Op.equalIn 9999 50 (.int .u64 x) (.int .u64 y)).run Tryz.prog W = .ok (x == y) W := fun x y => run_equalIn_int W 9998 _ _ _ x y Tryz.underlying50
  have h2 : ∀ x y : Bool, (Op.equalIn 9999 4 (.bool x) (.bool y)).run Tryz.prog W = .ok (x == y) W := fun x y => run_equalIn_bool W 9998 _ x y Tryz.underlying4
  have hk : Tryz.prog.plainKey 50 = true := by kernel_rfl
  have hk2 : Tryz.prog.plainKey 4 = true := by kernel_rfl
  have p0 : ∀ (xs : Array Value) (off : Nat) (v : Value), xs[off]? = some v → (part 50 xs off).run Tryz.prog W = .ok v W := fun xs off v hv => run_part_plain W hk hv
  have p1 : ∀ (xs : Array Value) (off : Nat) (v : Value), xs[off]? = some v → (part 4 xs off).run Tryz.prog W = .ok v W := fun xs off v hv => run_part_plain W hk2 hv
  have h3 : (Op.eqFields 9999 #[.int .u64 a.key, .int .u64 a.val, .bool a.gone] #[.int .u64 b.key, .int .u64 b.val, .bool b.gone] (Tryz.prog.fieldsOf 52).toList).run Tryz.prog W = .ok (a.key == b.key && (a.val == b.val && (a.gone == b.gone && true))) W := by
    rw [show Tryz.prog.fieldsOf 52 = _ from by simp only [Program.fieldsOf, Tryz.underlying52]; rfl]
    exact eqf_step (by decide) (p0 _ 0 _ rfl) (p0 _ 0 _ rfl) (h1 _ _) (eqf_step (by decide) (p0 _ 1 _ rfl) (p0 _ 1 _ rfl) (h1 _ _) (eqf_step (by decide) (p1 _ 2 _ rfl) (p1 _ 2 _ rfl) (h2 _ _) eqf_nil))
  rw [h3, Bool.and_true]; rfl
theorem ent_eql (W : World) (k v : Int) (g : Bool) (k' v' : Int) (g' : Bool) : (binOp .eql 52 (.agg #[.int .u64 k, .int .u64 v, .bool g]) (.agg #[.int .u64 k', .int .u64 v', .bool g'])).run Tryz.prog W = .ok (.bool (eqE ⟨k, v, g⟩ ⟨k', v', g'⟩)) W := by
  rw [run_eql_struct, run_equalIn_struct W 9999 52 _ _ (by kernel_rfl) (by kernel_rfl), h_eqE W ⟨k, v, g⟩ ⟨k', v', g'⟩]
  simp [Result.andThen]
theorem ent_neq (W : World) (k v : Int) (g : Bool) (k' v' : Int) (g' : Bool) : (binOp .neq 52 (.agg #[.int .u64 k, .int .u64 v, .bool g]) (.agg #[.int .u64 k', .int .u64 v', .bool g'])).run Tryz.prog W = .ok (.bool (!eqE ⟨k, v, g⟩ ⟨k', v', g'⟩)) W := by
  rw [run_neq_struct, run_equalIn_struct W 9999 52 _ _ (by kernel_rfl) (by kernel_rfl), h_eqE W ⟨k, v, g⟩ ⟨k', v', g'⟩]
  simp [Result.andThen]

end Go.Proofs.YthjimnmgbcckjaaGreat
namespace Go.Proofs.YthjimnmgbcckjaaGreat
set_option maxRecDepth 100000
open Go.RowKit Go.Inc Go.Run
attribute [local go_sem] run_store_float

/-- The first i entries are in order, and none is bad. -/
def okTo (E : List Ent) (i : Nat) : Prop := (∀ a b, a < b → b < i → ky (keysE E) a < ky (keysE E) b) ∧ ∀ j (h : j < E.length), j < i → badE E[j] = false
/-- What the reference's Check tells. -/
def Chk3 (E : List Ent) (v : Int) : Prop := (v = 0 ∧ okTo E E.length) ∨ (∃ i, i < E.length ∧ okTo E i ∧ 0 < i ∧ ky (keysE E) i ≤ ky (keysE E) (i - 1) ∧ v = 30) ∨
  (∃ i, ∃ h : i < E.length, okTo E i ∧ (0 < i → ky (keysE E) (i - 1) < ky (keysE E) i) ∧ badE E[i] = true ∧ v = 31)
theorem rise_iff {L : List Int} : Rise L ↔ ∀ a b, a < b → b < L.length → ky L a < ky L b := by
  constructor
  · intro h a b hab hb; exact rise_lt h hab hb
  · intro h
    refine List.pairwise_iff_getElem.2 fun i j hi hj hij => ?_
    have := h i j hij hj
    simpa [ky, hi, hj] using this
theorem okTo.next {E : List Ent} {i : Nat} (h : okTo E i) (h1 : 0 < i → ky (keysE E) (i - 1) < ky (keysE E) i) (hi : i < E.length) (h2 : badE E[i] = false) : okTo E (i + 1) := by
  refine ⟨fun a b hab hb => ?_, fun j hj hji => ?_⟩
  · rcases Nat.lt_or_ge b i with h3 | h3
    · exact h.1 a b hab h3
    · obtain rfl : b = i := by omega
      have h4 := h1 (by omega)
      rcases Nat.lt_or_ge a (b - 1) with h5 | h5
      · have := h.1 a (b - 1) h5 (by omega); omega
      · obtain rfl : a = b - 1 := by omega
        exact h4
  · rcases Nat.lt_or_ge j i with h3 | h3
    · exact h.2 j hj h3
    · obtain rfl : j = i := by omega
      exact h2
theorem okTo.rise {E : List Ent} (h : okTo E E.length) : Rise (keysE E) := rise_iff.2 fun a b hab hb => h.1 a b hab (by rw [keysE_len] at hb; exact hb)
theorem take_rise {E : List Ent} {n : Nat} (hn : n ≤ E.length) : Rise (keysE (E.take n)) ↔ ∀ a b, a < b → b < n → ky (keysE E) a < ky (keysE E) b := by
  have e : ∀ k, k < n → ky (keysE (E.take n)) k = ky (keysE E) k := by
    intro k hk
    unfold keysE
    rw [List.map_take, ky_take _ hk]
  rw [rise_iff]
  have hl : (keysE (E.take n)).length = n := by rw [keysE_len, List.length_take]; omega
  rw [hl]
  constructor
  · intro h a b hab hb
    have := h a b hab hb
    rwa [e a (by omega), e b hb] at this
  · intro h a b hab hb
    rw [e a (by omega), e b hb]
    exact h a b hab hb
/-- It is what the program's Check tells. -/
theorem chk3_eq {E : List Ent} {v v' : Int} (h : EntsV E v) (h' : Chk3 E v') : v = v' := by
  cases h with
  | ok hR hb =>
    rcases h' with ⟨rfl, _⟩ | ⟨i, hi, _, h0, h1, rfl⟩ | ⟨i, hi, _, _, h1, rfl⟩
    · rfl
    · have := rise_lt hR (i := i - 1) (j := i) (by omega) (by rw [keysE_len]; exact hi)
      omega
    · rw [hb _ (List.getElem_mem hi)] at h1; cases h1
  | order hR hb =>
    rcases h' with ⟨rfl, h1⟩ | ⟨i, hi, _, h0, h1, rfl⟩ | ⟨i, hi, _, _, h1, rfl⟩
    · exact absurd h1.rise hR
    · rfl
    · rw [hb _ (List.getElem_mem hi)] at h1; cases h1
  | gone b hb h1 h2 hR =>
    have hR := (take_rise (n := b + 1) (by omega)).1 hR
    rcases h' with ⟨rfl, h3⟩ | ⟨i, hi, h3, h0, h4, rfl⟩ | ⟨i, hi, h3, h4, h5, rfl⟩
    · rw [h3.2 b hb hb] at h1; cases h1
    · rcases Nat.lt_or_ge b i with h5 | h5
      · rw [h3.2 b hb h5] at h1; cases h1
      · have := hR (i - 1) i (by omega) (by omega); omega
    · rfl
  | goneOrder b hb h1 h2 hR =>
    rcases h' with ⟨rfl, h3⟩ | ⟨i, hi, h3, h0, h4, rfl⟩ | ⟨i, hi, h3, h4, h5, rfl⟩
    · rw [h3.2 b hb hb] at h1; cases h1
    · rfl
    · exfalso
      rcases Nat.lt_trichotomy i b with h6 | rfl | h6
      · rw [h2 i hi h6] at h5; cases h5
      · refine hR ((take_rise (n := i + 1) (by omega)).2 fun a c hac hc => ?_)
        rcases Nat.lt_or_ge c i with h7 | h7
        · exact h3.1 a c hac h7
        · obtain rfl : c = i := by omega
          have h8 := h4 (by omega)
          rcases Nat.lt_or_ge a (c - 1) with h9 | h9
          · have := h3.1 a (c - 1) h9 (by omega); omega
          · obtain rfl : a = c - 1 := by omega
            exact h8
      · rw [h3.2 b hb h6] at h1; cases h1

set_option maxHeartbeats 2000000 in
theorem r3check_calls (E : List Ent) (A : Option Addr) (n c : Nat) (hn : n = E.length) (hl : n ≤ 268435456) (w : World) (hr : RdC w A (E.flatMap encells)) :
    Calls Tryz.prog 66 #[.slice A n c] w fun e w' => ∃ v, e = .returned (.int .i64 v) ∧ Chk3 E v ∧ Fr w w' := by
  have HR := Lib.hid hr
  have HN := Lib.hid hn
  clear hr hn
  go_enter Tryz.func66, Tryz.ntmps66
  go_wp2_with fail
  go_loopw [3] (fun v3 wr => ∃ i : Nat, v3 = .int .i64 i ∧ i ≤ n ∧ Hid (okTo E i) ∧ Hid (Fr w wr)) (fun v3 _ => n - (intOf v3).toNat)
  case atStart => exact ⟨0, rfl, by omega, ⟨fun a b _ h => by omega, fun j _ h => by omega⟩, Fr.refl w⟩
  case round =>
    obtain ⟨i, rfl, hin, hok, hf⟩ := hrel
    rcases Nat.lt_or_ge i n with hlt | hge
    · have g1 : decide (i < n) = true := decide_eq_true hlt
      have g1' : (i : Int) < (n : Int) := by omega
      have hiE : i < E.length := by have := HN.out; omega
      obtain ⟨b, off, hA, hc⟩ := rdc_ent (HR.out.fr hf.out) (by omega)
      subst hA
      obtain ⟨y0, y1, y2⟩ := hc i hiE
      obtain ⟨x, hx⟩ : ∃ x, E[i] = x := ⟨_, rfl⟩
      rw [hx] at y0 y1 y2
      have hkx : ky (keysE E) i = x.key := by unfold keysE ky; simp [hiE, hx]
      have wi : IntKind.i64.wrap ((i : Int) + 1) = (i : Int) + 1 := wrap_i64_in _ (by omega) (by omega)
      have HX : Hid (badE E[i] = badE x) := by rw [Hid, hx]
      have HOK := Lib.hid hok.out
      have HKX := Lib.hid hkx
      have HIE := Lib.hid hiE
      have tail : ∀ (hkey : Hid (0 < i → ky (keysE E) (i - 1) < ky (keysE E) i)), True := fun _ => trivial
      clear tail hok
      rcases Nat.eq_zero_or_pos i with rfl | hpos
      · have HKEY : Hid (0 < 0 → ky (keysE E) (0 - 1) < ky (keysE E) 0) := fun h => absurd h (by omega)
        clear hx hkx hc
        cases hg : x.gone with
        | false =>
          rw [hg] at y2
          have HB : Hid (badE x = false) := by rw [Hid]; simp [badE, hg]
          clear hg
          go_wp2_with fail
          go_quiet (fail)
          go_wp2_with fail
          exact ⟨⟨1, rfl, by omega, HOK.out.next HKEY.out HIE.out (by rw [HX.out, HB.out]), hf.out.drewN _⟩, by simp only [intOf]; omega⟩
        | true =>
          rw [hg] at y2
          by_cases hv : x.val = 0
          · have HB : Hid (badE x = false) := by rw [Hid]; simp [badE, hv]
            rw [hv] at y1
            clear hg hv
            go_wp2_with fail
            go_quiet (fail)
            go_wp2_with fail
            exact ⟨⟨1, rfl, by omega, HOK.out.next HKEY.out HIE.out (by rw [HX.out, HB.out]), hf.out.drewN _⟩, by simp only [intOf]; omega⟩
          · have HB : Hid (badE x = true) := by rw [Hid]; simp [badE, hg, hv]
            have d1 : (x.val != 0) = true := by simpa using hv
            clear hg hv
            go_wp2_with fail
            go_quiet (fail)
            go_wp2_with fail
            go_ret
            exact ⟨31, rfl, .inr (.inr ⟨0, HIE.out, HOK.out, HKEY.out, by rw [HX.out, HB.out], rfl⟩), hf.out.drewN _⟩
      · obtain ⟨j, rfl⟩ : ∃ j, i = j + 1 := ⟨i - 1, by omega⟩
        obtain ⟨z0, z1, z2⟩ := hc j (by omega)
        obtain ⟨x', hx'⟩ : ∃ x', E[j] = x' := ⟨_, rfl⟩
        rw [hx'] at z0
        have hkx' : ky (keysE E) j = x'.key := by unfold keysE ky; simp [show j < E.length by omega, hx']
        have wj : IntKind.i64.wrap ((j : Int) + 1 - 1) = (j : Int) := by rw [wrap_i64_in _ (by omega) (by omega)]; omega
        have wj' : IntKind.i64.wrap (j : Int) = (j : Int) := wrap_i64_in _ (by omega) (by omega)
        by_cases hk : x.key ≤ x'.key
        · have d1 : decide (x.key ≤ x'.key) = true := decide_eq_true hk
          have HKEY : Hid (ky (keysE E) (j + 1) ≤ ky (keysE E) (j + 1 - 1)) := by rw [Hid, HKX.out, Nat.add_sub_cancel, hkx']; exact hk
          clear hx hkx hc hx' hkx' z1 z2 hk
          go_wp2_with fail
          go_quiet (fail)
          go_wp2_with fail
          go_ret
          exact ⟨30, rfl, .inr (.inl ⟨j + 1, HIE.out, HOK.out, by omega, HKEY.out, rfl⟩), hf.out.drewN _⟩
        · have d1 : decide (x.key ≤ x'.key) = false := decide_eq_false hk
          have HKEY : Hid (0 < j + 1 → ky (keysE E) (j + 1 - 1) < ky (keysE E) (j + 1)) := by rw [Hid, HKX.out, Nat.add_sub_cancel, hkx']; intro _; omega
          clear hx hkx hc hx' hkx' z1 z2 hk
          cases hg : x.gone with
          | false =>
            rw [hg] at y2
            have HB : Hid (badE x = false) := by rw [Hid]; simp [badE, hg]
            clear hg
            go_wp2_with fail
            go_quiet (fail)
            go_wp2_with fail
            exact ⟨⟨j + 1 + 1, rfl, by omega, HOK.out.next HKEY.out HIE.out (by rw [HX.out, HB.out]), hf.out.drewN _⟩, by simp only [intOf]; omega⟩
          | true =>
            rw [hg] at y2
            by_cases hv : x.val = 0
            · have HB : Hid (badE x = false) := by rw [Hid]; simp [badE, hv]
              rw [hv] at y1
              clear hg hv
              go_wp2_with fail
              go_quiet (fail)
              go_wp2_with fail
              exact ⟨⟨j + 1 + 1, rfl, by omega, HOK.out.next HKEY.out HIE.out (by rw [HX.out, HB.out]), hf.out.drewN _⟩, by simp only [intOf]; omega⟩
            · have HB : Hid (badE x = true) := by rw [Hid]; simp [badE, hg, hv]
              have d2 : (x.val != 0) = true := by simpa using hv
              clear hg hv
              go_wp2_with fail
              go_quiet (fail)
              go_wp2_with fail
              go_ret
              exact ⟨31, rfl, .inr (.inr ⟨j + 1, HIE.out, HOK.out, HKEY.out, by rw [HX.out, HB.out], rfl⟩), hf.out.drewN _⟩
    · obtain rfl : i = n := by omega
      have g1 : decide (i < i) = false := by simp
      go_wp2_with fail
      go_ret
      exact ⟨0, rfl, .inl ⟨rfl, by have := hok.out; rw [HN.out] at this; exact this⟩, hf.out⟩
/-- run.New of an eps that may not be. -/
theorem rnew_arg (A : Option Addr) (n c : Nat) (eps : Int) (h : eps < 2 ∨ 64 < eps) (w : World) : Calls Tryz.prog 23 #[.slice A n c, .int .i64 eps] w fun e w' => e = .returned (.tuple #[.pointer none, .int .i64 1]) ∧ w' = w := by
  by_cases h1 : eps < 2
  · have d1 : decide (eps < 2) = true := decide_eq_true h1
    clear h
    go_enter Tryz.func23, Tryz.ntmps23
    go_wp2_with fail
    go_ret2
    exact ⟨rfl, rfl⟩
  · have d1 : decide (eps < 2) = false := decide_eq_false h1
    have d2 : decide (eps > 64) = true := decide_eq_true (by omega)
    clear h h1
    go_enter Tryz.func23, Tryz.ntmps23
    go_wp2_with fail
    go_ret2
    exact ⟨rfl, rfl⟩
end Go.Proofs.YthjimnmgbcckjaaGreat
namespace Go.Proofs.YthjimnmgbcckjaaGreat
open Go.RowKit Go.Inc Go.Run

/-- A run that stands, with levels that are built. -/
structure Built (w : World) (r p : Nat) (eps : Int) (E : List Ent) (Ss : List (List Seg)) : Prop where
  run : RunR w r p eps E Ss
  ok : RunOk eps (keysE E) Ss
  lv : LevelsOf (eps - 1) (keysE E) Ss
  ents : EntsV E 0
  small : Ss.length ≤ 268435456 ∧ ∀ S ∈ Ss, S.length ≤ 268435456
theorem Built.fr {w w' : World} {r p : Nat} {eps : Int} {E : List Ent} {Ss : List (List Seg)} (h : Built w r p eps E Ss) (hf : Fr w w') : Built w' r p eps E Ss :=
  ⟨h.run.fr hf, h.ok, h.lv, h.ents, h.small⟩
theorem built_of {w : World} {r base : Nat} {e0 : Nat} {E : List Ent} {Ss : List (List Seg)} (he : 2 ≤ e0 ∧ e0 ≤ 64) (hE : ∀ e ∈ E, EntOk e) (hl : E.length ≤ 268435456) (hV : EntsV E 0) (hlv : LevelsOf ((e0 : Int) - 1) (keysE E) Ss) (h : IsRun w r base e0 E Ss) : ∃ p, Built w r p e0 E Ss := by
  obtain ⟨p, hp⟩ := h.toR
  have hR := (entsV_zero hV).1
  have hK := keysE_ok hE
  have hkl : (keysE E).length ≤ 268435456 := by rw [keysE_len]; exact hl
  have hfit := levels_fit he hR hK (by omega) hlv
  have hhigh := levels_high he.1 hR hK hlv
  have hhl := maxH_le he.1 (keysE E).length
  exact ⟨p, hp, ⟨hR, hK, by omega, fun S hS => ⟨by have := (hfit S hS).1; omega, (hfit S hS).2⟩, levels_check he hR hK (by omega) hlv⟩, hlv, hV, by omega, fun S hS => by have := (hfit S hS).1; omega⟩
/-- What comes of run.New. -/
def NewOut (E : List Ent) (eps : Int) (w : World) (e : Ending) (w' : World) : Prop :=
  Fr w w' ∧ ((∃ v, v ≠ 0 ∧ ((eps < 2 ∨ 64 < eps) ∧ v = 1 ∨ (2 ≤ eps ∧ eps ≤ 64) ∧ EntsV E v) ∧ e = .returned (.tuple #[.pointer none, .int .i64 v])) ∨
    ((2 ≤ eps ∧ eps ≤ 64) ∧ ∃ r p Ss, e = .returned (.tuple #[.pointer (some ⟨r, 0, none⟩), .int .i64 0]) ∧ w.heap.size ≤ r ∧ Built w' r p eps E Ss))
theorem rnew_any (E : List Ent) (A : Option Addr) (n c : Nat) (eps : Int) (hn : n = E.length) (hc : n ≤ c) (hl : n ≤ 268435456) (hE : ∀ e ∈ E, EntOk e) (w : World) (hr : RdC w A (E.flatMap encells)) :
    Calls Tryz.prog 23 #[.slice A n c, .int .i64 eps] w (NewOut E eps w) := by
  by_cases he : 2 ≤ eps ∧ eps ≤ 64
  · obtain ⟨e0, rfl⟩ : ∃ e0 : Nat, eps = e0 := ⟨eps.toNat, by omega⟩
    refine (rnew_calls E A n c e0 hn hc hl hE (by omega) w hr).mono fun e w' ⟨hf, hor⟩ => ⟨hf, ?_⟩
    rcases hor with ⟨v, h1, h2, h3⟩ | ⟨h1, r, Ss, h2, h3, h4⟩
    · exact .inl ⟨v, h1, .inr ⟨he, h2⟩, h3⟩
    · obtain ⟨p, hb⟩ := built_of (by omega) hE (by omega) h1 h3 h4
      have hbase : w.heap.size ≤ r := by obtain ⟨_, _, _, _, _, _, h, _⟩ := h4; exact h
      exact .inr ⟨he, r, p, Ss, h2, hbase, hb⟩
  · refine (rnew_arg A n c eps (by omega) w).mono fun e w' ⟨h1, h2⟩ => ?_
    subst h2
    exact ⟨Fr.refl _, .inl ⟨1, by decide, .inl ⟨by omega, rfl⟩, h1⟩⟩
end Go.Proofs.YthjimnmgbcckjaaGreat
