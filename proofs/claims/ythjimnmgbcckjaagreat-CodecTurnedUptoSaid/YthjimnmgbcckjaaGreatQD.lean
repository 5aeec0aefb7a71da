/- Parts of this proof, one behind the other: HullH, Keys, Div, Line. -/
import Derived.Deep.CutBlock
import Derived.Test.YthjimnmgbcckjaaGreatQC
namespace Go.Proofs.YthjimnmgbcckjaaGreat
set_option maxRecDepth 100000
open Go.RowKit Go.Inc Go.Run

/-- The points over keys, so far above their ranks. -/
def pts (c : Int) (ks : List Int) : List Pt := (List.range ks.length).map fun i => ⟨ky ks i, (i : Int) + c⟩
theorem pts_mem {c : Int} {ks : List Int} {q : Pt} : q ∈ pts c ks ↔ ∃ i, i < ks.length ∧ q = ⟨ky ks i, (i : Int) + c⟩ := by
  unfold pts
  simp only [List.mem_map, List.mem_range]
  constructor
  · rintro ⟨i, hi, rfl⟩; exact ⟨i, hi, rfl⟩
  · rintro ⟨i, hi, rfl⟩; exact ⟨i, hi, rfl⟩
/-- A chain over keys. -/
structure ChainOf (s c : Int) (ks : List Int) (l : List Pt) : Prop where
  chain : Chain s l
  sub : ∀ q ∈ l, q ∈ pts c ks
  dom : Dom s l (pts c ks)
  len : l.length ≤ ks.length
  some : 0 < ks.length → 0 < l.length
theorem laid_len (s : Int) : ∀ (l : List Pt) (p : Pt), (laid s l p).length ≤ l.length + 1
  | [], p => by simp [laid]
  | [a], p => by simp [laid]
  | b :: a :: rest, p => by
    unfold laid
    split
    · have := laid_len s (a :: rest) p
      simp at this ⊢; omega
    · simp
termination_by l => l.length
theorem pts_x {c : Int} {ks : List Int} {k : Int} (hR : Rise (ks ++ [k])) {q : Pt} (h : q ∈ pts c ks) : q.x < k := by
  obtain ⟨i, hi, rfl⟩ := pts_mem.1 h
  exact rise_new hR hi
theorem ChainOf.laid {s c : Int} {ks : List Int} {l : List Pt} (h : ChainOf s c ks l) {k : Int} (hR : Rise (ks ++ [k])) : ChainOf s c (ks ++ [k]) (laid s l ⟨k, (ks.length : Int) + c⟩) := by
  have hx : ∀ q ∈ l, q.x < k := fun q hq => pts_x hR (h.sub q hq)
  have hold : ∀ q, q ∈ pts c ks → q ∈ pts c (ks ++ [k]) := by
    intro q hq
    obtain ⟨i, hi, rfl⟩ := pts_mem.1 hq
    exact pts_mem.2 ⟨i, by simp; omega, by rw [ky_old k hi]⟩
  refine ⟨laid_chain s l _ h.chain hx, fun q hq => ?_, ?_, ?_, fun _ => ?_⟩
  · rcases laid_mem s l _ q hq with rfl | hq
    · exact pts_mem.2 ⟨ks.length, by simp, by rw [ky_new]⟩
    · exact hold q (h.sub q hq)
  · have hd := laid_dom (s := s) (p := ⟨k, (ks.length : Int) + c⟩) h.chain hx h.dom
    intro N D hD q hq
    refine hd N D hD q ?_
    obtain ⟨i, hi, rfl⟩ := pts_mem.1 hq
    simp at hi
    rcases Nat.lt_or_ge i ks.length with hi' | hi'
    · exact List.mem_cons_of_mem _ (pts_mem.2 ⟨i, hi', by rw [ky_old k hi']⟩)
    · obtain rfl : i = ks.length := by omega
      rw [ky_new]; exact List.mem_cons_self
  · have := laid_len s l ⟨k, (ks.length : Int) + c⟩
    have := h.len
    simp; omega
  · exact List.length_pos_of_mem (laid_self s l _)
/-- The touching point is the best of all. -/
theorem touch_all {s c : Int} {ks : List Int} {l : List Pt} (h : ChainOf s c ks l) {k : Int} (hR : Rise (ks ++ [k])) {y : Int} {u : Pt} (ht : Touch s l.reverse ⟨k, y⟩ u) : u ∈ pts c ks ∧ ∀ q ∈ pts c ks, SlLe s ⟨k, y⟩ q u := by
  obtain ⟨r, hr, rfl, h1, h2⟩ := ht
  have hm : l.reverse[r] ∈ l := List.mem_reverse.1 (List.getElem_mem hr)
  have hx : ∀ q ∈ l, q.x < k := fun q hq => pts_x hR (h.sub q hq)
  refine ⟨h.sub _ hm, ?_⟩
  have hb := touch_best (chain_bent h.chain) (p := ⟨k, y⟩) (fun q hq => hx q (List.mem_reverse.1 hq)) r hr h1 h2
  refine best_all h.dom (hx _ hm) (fun q hq => pts_x hR hq) hx (fun q hq => ?_)
  obtain ⟨j, hj, rfl⟩ := List.mem_iff_getElem.1 (List.mem_reverse.2 hq)
  exact hb j hj

/-- A line fits: the least slope is not above the greatest. -/
def FitsL (e : Int) (ks : List Int) : Prop := ∃ n d nt dt, IsLow e ks n d ∧ IsTop e ks nt dt ∧ slBelow nt dt n d = false
theorem FitsL.iff {e : Int} {ks : List Int} (hR : Rise ks) {n d nt dt : Int} (h1 : IsLow e ks n d) (h2 : IsTop e ks nt dt) : FitsL e ks ↔ slBelow nt dt n d = false := by
  constructor
  · rintro ⟨n', d', nt', dt', h1', h2', h⟩
    obtain ⟨rfl, rfl⟩ := h1.unique hR h1'
    obtain ⟨rfl, rfl⟩ := h2.unique hR h2'
    exact h
  · intro h; exact ⟨n, d, nt, dt, h1, h2, h⟩

/-- No line fits: the greatest slope is below the least. -/
def NoFit (e : Int) (ks : List Int) : Prop := ∃ n d nt dt, IsLow e ks n d ∧ IsTop e ks nt dt ∧ slBelow nt dt n d = true
theorem NoFit.not {e : Int} {ks : List Int} (h : NoFit e ks) (hR : Rise ks) : ¬ FitsL e ks := by
  obtain ⟨n, d, nt, dt, h1, h2, h3⟩ := h
  rw [FitsL.iff hR h1 h2, h3]
  decide
theorem NoFit.long {e : Int} {ks : List Int} (h : NoFit e ks) (hR : Rise ks) : 2 * e + 1 < ks.length := by
  obtain ⟨n, d, nt, dt, h1, h2, h3⟩ := h
  rcases Int.lt_or_le (2 * e + 1) ks.length with h4 | h4
  · exact h4
  · obtain ⟨rfl, rfl⟩ := low_few hR h1 h4
    unfold slBelow at h3
    have := h2.nn
    simp at h3
    omega
theorem slBelow_lt {n d n' d' : Int} (hd : d ≠ 0) (hd' : d' ≠ 0) : slBelow n d n' d' = decide (n * d' < n' * d) := by
  unfold slBelow; rw [if_neg hd']
  have : (d != 0) = true := by simpa using hd
  rw [this, Bool.true_and]

theorem btw_pt {k y c : Int} {ks : List Int} {v : Nat} (hlt : ky ks v < k) (hy : (v : Int) + c ≤ y) :
    0 < (btw ⟨ky ks v, (v : Int) + c⟩ ⟨k, y⟩).2 ∧ 0 ≤ (btw ⟨ky ks v, (v : Int) + c⟩ ⟨k, y⟩).1 ∧ Int.gcd (btw ⟨ky ks v, (v : Int) + c⟩ ⟨k, y⟩).1 (btw ⟨ky ks v, (v : Int) + c⟩ ⟨k, y⟩).2 = 1 ∧
      (btw ⟨ky ks v, (v : Int) + c⟩ ⟨k, y⟩).1 * (k - ky ks v) = (y - ((v : Int) + c)) * (btw ⟨ky ks v, (v : Int) + c⟩ ⟨k, y⟩).2 := by
  unfold btw
  dsimp only
  obtain ⟨n, hn⟩ : ∃ n : Nat, y - ((v : Int) + c) = (n : Int) := ⟨(y - ((v : Int) + c)).toNat, by omega⟩
  obtain ⟨d, hd⟩ : ∃ d : Nat, k - ky ks v = (d : Int) := ⟨(k - ky ks v).toNat, by omega⟩
  rw [hn, hd, Int.toNat_natCast, Int.toNat_natCast]
  have hd0 : 0 < d := by omega
  have hg : 0 < Nat.gcd n d := Nat.gcd_pos_of_pos_right _ hd0
  have h3 : 0 < d / Nat.gcd n d := Nat.div_pos (Nat.le_of_dvd hd0 (Nat.gcd_dvd_right n d)) hg
  have e1 := Nat.div_mul_cancel (Nat.gcd_dvd_left n d)
  have e2 := Nat.div_mul_cancel (Nat.gcd_dvd_right n d)
  refine ⟨by exact_mod_cast h3, Int.natCast_nonneg _, ?_, ?_⟩
  · show Int.gcd ((n / Nat.gcd n d : Nat) : Int) ((d / Nat.gcd n d : Nat) : Int) = 1
    exact Nat.coprime_div_gcd_div_gcd hg
  · have : n / Nat.gcd n d * d = n * (d / Nat.gcd n d) := by
      generalize Nat.gcd n d = G at *
      generalize n / G = N at *
      generalize d / G = D at *
      rw [← e1, ← e2, Nat.mul_assoc N G D, Nat.mul_comm G D]
    show ((n / Nat.gcd n d : Nat) : Int) * (d : Int) = (n : Int) * ((d / Nat.gcd n d : Nat) : Int)
    exact_mod_cast this

/-- One key more: the slopes. -/
theorem slopes_step {e : Int} (he : 0 ≤ e) {ks : List Int} {k : Int} (hR : Rise (ks ++ [k])) {l0 l1 : List Pt} (h0 : ChainOf (-1) (-e) ks l0) (h1 : ChainOf 1 e ks l1) {ln ld tn td ln' ld' tn' td' : Int} (hl : IsLow e ks ln ld) (ht : IsTop e ks tn td)
    (h : Slopes ks.length l0.reverse l1.reverse k ((ks.length : Int) - e) ((ks.length : Int) + e) ln ld tn td ln' ld' tn' td') : IsLow e (ks ++ [k]) ln' ld' ∧ IsTop e (ks ++ [k]) tn' td' := by
  rcases Nat.eq_zero_or_pos ks.length with hz | hp
  · obtain ⟨rfl, rfl, rfl, rfl⟩ := h.1 hz
    have hnil : ks = [] := List.eq_nil_of_length_eq_zero hz
    subst hnil
    obtain ⟨rfl, rfl⟩ := hl.unique List.Pairwise.nil (low_start e)
    obtain ⟨rfl, rfl⟩ := ht.unique List.Pairwise.nil (top_start e)
    exact ⟨low_one_key e k, top_one_key e k⟩
  · obtain ⟨u, v, tu, tv, hn, hm⟩ := h.2 hp
    obtain ⟨mu, bu⟩ := touch_all h1 hR tu
    obtain ⟨mv, bv⟩ := touch_all h0 hR tv
    obtain ⟨iu, hiu, rfl⟩ := pts_mem.1 mu
    obtain ⟨iv, hiv, rfl⟩ := pts_mem.1 mv
    have xu := rise_new hR hiu
    have xv := rise_new hR hiv
    constructor
    · have best : ∀ i, i < ks.length → ((ks.length : Int) - i - 2 * e) * (k - ky ks iu) ≤ ((ks.length : Int) - iu - 2 * e) * (k - ky ks i) := by
        intro i hi
        have := bu _ (pts_mem.2 ⟨i, hi, rfl⟩)
        unfold SlLe at this
        dsimp only at this
        grind
      unfold newLow at hn
      dsimp only at hn
      by_cases hc : (iu : Int) + e < (ks.length : Int) - e
      · rw [if_pos hc] at hn
        obtain ⟨b1, b2, b3, b4⟩ := btw_pt (k := k) (y := (ks.length : Int) - e) (c := e) (ks := ks) (v := iu) xu (Int.le_of_lt hc)
        generalize hbb : btw ⟨ky ks iu, (iu : Int) + e⟩ ⟨k, (ks.length : Int) - e⟩ = bb at *
        have hs := low_step hR hl hiu best b1 b2 b3 (by rw [b4]; grind)
        rw [slBelow_lt (by have := hl.pos; omega) (by omega)] at hn
        by_cases hlt : ln * bb.2 < bb.1 * ld
        · rw [if_pos (by simpa using hlt)] at hn
          obtain ⟨e1, e2⟩ : ln' = bb.1 ∧ ld' = bb.2 := ⟨congrArg Prod.fst hn, congrArg Prod.snd hn⟩
          rw [e1, e2]; exact hs.1 hlt
        · rw [if_neg (by simpa using hlt)] at hn
          obtain ⟨e1, e2⟩ : ln' = ln ∧ ld' = ld := ⟨congrArg Prod.fst hn, congrArg Prod.snd hn⟩
          rw [e1, e2]; exact hs.2 (by omega)
      · rw [if_neg hc] at hn
        obtain ⟨e1, e2⟩ : ln' = ln ∧ ld' = ld := ⟨congrArg Prod.fst hn, congrArg Prod.snd hn⟩
        rw [e1, e2]
        refine low_step_none hR hl (fun i hi => ?_)
        have h5 := best i hi
        have xi := rise_new hR hi
        have h6 : ((ks.length : Int) - iu - 2 * e) * (k - ky ks i) ≤ 0 := Int.mul_nonpos_of_nonpos_of_nonneg (by omega) (by omega)
        rcases Int.lt_or_le 0 ((ks.length : Int) - i - 2 * e) with h7 | h7
        · have := Int.mul_pos h7 (show 0 < k - ky ks iu by omega); omega
        · exact h7
    · have best : ∀ i, i < ks.length → ((ks.length : Int) - iv + 2 * e) * (k - ky ks i) ≤ ((ks.length : Int) - i + 2 * e) * (k - ky ks iv) := by
        intro i hi
        have := bv _ (pts_mem.2 ⟨i, hi, rfl⟩)
        unfold SlLe at this
        dsimp only at this
        grind
      unfold newTop at hm
      obtain ⟨b1, b2, b3, b4⟩ := btw_pt (k := k) (y := (ks.length : Int) + e) (c := -e) (ks := ks) (v := iv) xv (by omega)
      generalize hbb : btw ⟨ky ks iv, (iv : Int) + -e⟩ ⟨k, (ks.length : Int) + e⟩ = bb at *
      have hs := top_step hR hp ht hiv best b1 b2 b3 (by rw [b4]; grind)
      by_cases hc : td = 0 ∨ bb.1 * td < tn * bb.2
      · have hsb : slBelow bb.1 bb.2 tn td = true := by
          unfold slBelow
          rcases hc with hc | hc
          · rw [if_pos hc]; simp; omega
          · split
            · simp; omega
            · simp; exact ⟨by omega, hc⟩
        rw [if_pos hsb] at hm
        obtain ⟨e1, e2⟩ : tn' = bb.1 ∧ td' = bb.2 := ⟨congrArg Prod.fst hm, congrArg Prod.snd hm⟩
        rw [e1, e2]; exact hs.1 hc
      · have hsb : slBelow bb.1 bb.2 tn td = false := by
          unfold slBelow
          rw [if_neg (fun h => hc (.inl h))]
          simp only [Bool.and_eq_false_iff, decide_eq_false_iff_not]
          exact .inr (fun h => hc (.inr h))
        rw [hsb] at hm
        obtain ⟨e1, e2⟩ : tn' = tn ∧ td' = td := ⟨congrArg Prod.fst hm, congrArg Prod.snd hm⟩
        rw [e1, e2]; exact hs.2 hc

/-- Keys are words. -/
def KeysOk (ks : List Int) : Prop := ∀ k ∈ ks, 0 ≤ k ∧ k < 18446744073709551616
/-- A fit has taken keys: ln by ld is its least slope; its blocks are from base on. -/
def FitKeys (w : World) (g base : Nat) (e : Int) (ks : List Int) (ln ld : Int) : Prop :=
  ∃ last tn td A0 c0 l0 A1 c1 l1, FitAt w g base e ks.length last ln ld tn td A0 c0 l0 A1 c1 l1 ∧ (0 < ks.length → last = ky ks (ks.length - 1)) ∧ Rise ks ∧ KeysOk ks ∧ IsLow e ks ln ld ∧ IsTop e ks tn td ∧ slBelow tn td ln ld = false ∧ ChainOf (-1) (-e) ks l0 ∧ ChainOf 1 e ks l1
theorem rise_snoc {ks : List Int} {k : Int} (h : Rise ks) (hk : ∀ x ∈ ks, x < k) : Rise (ks ++ [k]) := List.pairwise_append.2 ⟨h, List.pairwise_singleton _ _, fun a ha b hb => by simp at hb; subst hb; exact hk a ha⟩
theorem ky_mem {ks : List Int} {i : Nat} (h : i < ks.length) : ky ks i ∈ ks := by
  have : ky ks i = ks[i] := by simp [ky, h]
  rw [this]; exact List.getElem_mem h

theorem KeysOk.ky {ks : List Int} (h : KeysOk ks) {i : Nat} (hi : i < ks.length) : 0 ≤ ky ks i ∧ ky ks i < 18446744073709551616 := h _ (ky_mem hi)
/-- C times d is n times X, n by d in lowest terms: both are bounded. -/
theorem frac_bound {n d C X : Int} (hn : 0 ≤ n) (hd : 0 < d) (hg : Int.gcd n d = 1) (hX : 0 < X) (h : n * X = C * d) : n ≤ max C 0 ∧ d ≤ X := by
  have hC : 0 ≤ C := by
    rcases Int.lt_or_le C 0 with h1 | h1
    · have := Int.mul_neg_of_neg_of_pos h1 hd
      have := Int.mul_nonneg hn (Int.le_of_lt hX)
      omega
    · exact h1
  obtain ⟨a, rfl⟩ := Int.eq_ofNat_of_zero_le hn
  obtain ⟨b, rfl⟩ := Int.eq_ofNat_of_zero_le (Int.le_of_lt hd)
  obtain ⟨x, rfl⟩ := Int.eq_ofNat_of_zero_le (Int.le_of_lt hX)
  obtain ⟨c, rfl⟩ := Int.eq_ofNat_of_zero_le hC
  have g1 : Nat.Coprime a b := hg
  have h' : a * x = c * b := by exact_mod_cast h
  have hdX : b ∣ x := g1.symm.dvd_of_dvd_mul_left (show b ∣ a * x by rw [h']; exact Nat.dvd_mul_left _ _)
  have hnC : a ∣ c := g1.dvd_of_dvd_mul_right (show a ∣ c * b by rw [← h']; exact Nat.dvd_mul_right _ _)
  refine ⟨?_, by exact_mod_cast Nat.le_of_dvd (by omega) hdX⟩
  rcases Nat.eq_zero_or_pos c with h1 | h1
  · subst h1
    rw [Nat.zero_mul] at h'
    rcases Nat.mul_eq_zero.1 h' with h2 | h2 <;> omega
  · have := Nat.le_of_dvd h1 hnC; omega
theorem low_bound {e : Int} {ks : List Int} (he : 0 ≤ e ∧ e ≤ 63) (hl : ks.length ≤ 4294967296) (hR : Rise ks) (hk : KeysOk ks) {n d : Int} (h : IsLow e ks n d) : (0 ≤ n ∧ n ≤ 4294967296) ∧ (0 < d ∧ d < 18446744073709551616) := by
  refine ⟨⟨h.nn, ?_⟩, h.pos, ?_⟩
  all_goals
    rcases h.at' with ⟨rfl, rfl⟩ | ⟨i, j, hij, hj, ha⟩
    · decide
    · have hx := rise_lt hR hij hj
      obtain ⟨b1, b2⟩ := frac_bound h.nn h.pos h.low (by omega) ha
      have h1 := hk.ky hj
      have h2 := hk.ky (show i < ks.length by omega)
      omega
theorem top_bound {e : Int} {ks : List Int} (he : 0 ≤ e ∧ e ≤ 63) (hl : ks.length ≤ 4294967296) (hR : Rise ks) (hk : KeysOk ks) {n d : Int} (h : IsTop e ks n d) : (0 ≤ n ∧ n ≤ 8589934592) ∧ (0 ≤ d ∧ d < 18446744073709551616) := by
  rcases Nat.lt_or_ge ks.length 2 with h2 | h2
  · obtain ⟨rfl, rfl⟩ := h.none h2
    decide
  · obtain ⟨i, j, hij, hj, ha⟩ := h.at' h2
    have hx := rise_lt hR hij hj
    have hp := h.pos h2
    obtain ⟨b1, b2⟩ := frac_bound h.nn hp h.low (by omega) ha
    have h1 := hk.ky hj
    have h2 := hk.ky (show i < ks.length by omega)
    have := h.nn
    omega
theorem rise_last {ks : List Int} {k : Int} (hR : Rise ks) (h : 0 < ks.length → ky ks (ks.length - 1) < k) : Rise (ks ++ [k]) := by
  refine rise_snoc hR (fun x hx => ?_)
  obtain ⟨i, hi, rfl⟩ := List.mem_iff_getElem.1 hx
  have h1 := h (by omega)
  have e : ky ks i = ks[i] := by simp [ky, hi]
  rw [← e]
  rcases Nat.lt_or_ge i (ks.length - 1) with h2 | h2
  · have := rise_lt hR h2 (by omega); omega
  · rw [show i = ks.length - 1 by omega]; exact h1
theorem pts_ok {c : Int} (hc : -63 ≤ c ∧ c ≤ 63) {ks : List Int} (hl : ks.length ≤ 4294967296) (hk : KeysOk ks) {q : Pt} (h : q ∈ pts c ks) : PtOk q := by
  obtain ⟨i, hi, rfl⟩ := pts_mem.1 h
  obtain ⟨h1, h2⟩ := hk.ky hi
  exact ⟨h1, h2, by show _ ≤ (i : Int) + c; omega, by show (i : Int) + c ≤ _; omega⟩

/-- A block of the kind that a fit has. -/
def FitTy (w : World) (k : Nat) : Prop := ∃ cs t fr, w.heap[k]? = some (.cells cs t fr) ∧ (t = 196 ∨ t = 198)
theorem own_ty {w : World} {base : Nat} {e : TypeId} {size : Nat} {A : Option Addr} {n c : Nat} {xs : List Value} (h : Own w base e size A n c xs) {k : Nat} (hk : ablk A = some k) : ∃ cs, w.heap[k]? = some (.cells cs e (0, 0)) := by
  rcases h.2 with ⟨h1, _⟩ | ⟨g, cap, cur, h1, _, h2, _⟩
  · injection h1 with h1
    subst h1; cases hk
  · injection h1 with h1
    subst h1
    cases hk
    exact ⟨_, h2⟩
theorem own_not_ty {w : World} {base : Nat} {e : TypeId} {size : Nat} {A : Option Addr} {n c : Nat} {xs : List Value} (h : Own w base e size A n c xs) (he : e ≠ 196 ∧ e ≠ 198) : ∀ k, ablk A = some k → ¬ FitTy w k := by
  rintro k hk ⟨cs, t, fr, h1, h2⟩
  obtain ⟨cs', h3⟩ := own_ty h hk
  rw [h1] at h3
  injection h3 with h3
  injection h3 with _ h4 _
  subst h4
  rcases h2 with h2 | h2
  · exact he.1 h2
  · exact he.2 h2
/-- Add. -/
theorem add_fit (g base : Nat) (e0 key ln ld : Int) (ks : List Int) (he : 1 ≤ e0 ∧ e0 ≤ 63) (hn : ks.length < 4294967296) (hk : 0 ≤ key ∧ key < 18446744073709551616) (hlast : 0 < ks.length → ky ks (ks.length - 1) < key) (w : World)
    (hfit : FitKeys w g base e0 ks ln ld) (hg : base ≤ g) (hbw : base ≤ w.heap.size) :
    Calls Tryz.prog 129 #[.pointer (some ⟨g, 0, none⟩), .int .u64 key] w fun r w' => Mv (fun k => base ≤ k ∧ FitTy w k) w w' ∧
      ((FitsL e0 (ks ++ [key]) ∧ r = .returned (.tuple #[.bool true, .int .i64 0]) ∧ ∃ ln' ld', FitKeys w' g base e0 (ks ++ [key]) ln' ld') ∨ (NoFit e0 (ks ++ [key]) ∧ r = .returned (.tuple #[.bool false, .int .i64 0]))) := by
  obtain ⟨last, tn, td, A0, c0, l0, A1, c1, l1, hat, hla, hR, hK, hlow, htop, hsb, h0, h1⟩ := hfit
  have hR' := rise_last hR hlast
  have bl := low_bound (by omega) (by omega) hR hK hlow
  have bt := top_bound (by omega) (by omega) hR hK htop
  refine (hadd_calls g base ks.length e0 key last ln ld tn td A0 A1 c0 c1 l0 l1 he (by omega) hk (fun hp => by rw [hla hp]; exact hlast hp) w hat (fun hp => ⟨h0.some hp, h1.some hp⟩) (by have := h0.len; omega) (by have := h1.len; omega)
    (fun q hq => ⟨pts_ok (by omega) (by omega) hK (h0.sub q hq), pts_x hR' (h0.sub q hq), ?_⟩) (fun q hq => ⟨pts_ok (by omega) (by omega) hK (h1.sub q hq), pts_x hR' (h1.sub q hq)⟩) h0.chain h1.chain hbw ⟨by omega, by omega, by omega, by omega⟩).mono ?_
  · obtain ⟨i, hi, rfl⟩ := pts_mem.1 (h0.sub q hq)
    show (i : Int) + -e0 < _
    omega
  · rintro r w' ⟨ln', ld', tn', td', hs, hor⟩
    obtain ⟨hlow', htop'⟩ := slopes_step (by omega) hR' h0 h1 hlow htop hs
    have hfi := FitsL.iff hR' hlow' htop'
    have hK' : KeysOk (ks ++ [key]) := by
      intro k hk'
      rcases List.mem_append.1 hk' with h | h
      · exact hK k h
      · simp at h; subst h; exact hk
    rcases hor with ⟨hp, hb, rfl, hf⟩ | ⟨hb, rfl, A0', c0', A1', c1', hat', hmv⟩
    · exact ⟨Mv.of_fr hf, .inr ⟨⟨ln', ld', tn', td', hlow', htop', hb⟩, rfl⟩⟩
    · have hsb' : slBelow tn' td' ln' ld' = false := by
        rcases Nat.eq_zero_or_pos ks.length with hz | hp
        · have hnil : ks = [] := List.eq_nil_of_length_eq_zero hz
          subst hnil
          obtain ⟨rfl, rfl⟩ := hlow'.unique hR' (low_one_key e0 key)
          obtain ⟨rfl, rfl⟩ := htop'.unique hR' (top_one_key e0 key)
          rfl
        · exact hb hp
      refine ⟨hmv.mono (fun i hi => .inl ?_), .inl ⟨hfi.2 hsb', rfl, ln', ld', key, tn', td', A0', c0', _, A1', c1', _, by rw [List.length_append]; exact hat', fun _ => by rw [List.length_append]; exact (ky_new ks key).symm, hR', hK', hlow', htop', hsb', h0.laid hR', h1.laid hR'⟩⟩
      rcases hi with rfl | hi | hi
      · exact ⟨hg, _, _, _, hat.1, .inl rfl⟩
      · obtain ⟨cs, h1⟩ := own_ty hat.2.1 hi
        exact ⟨(hat.2.1.lt i hi).1, _, _, _, h1, .inr rfl⟩
      · obtain ⟨cs, h1⟩ := own_ty hat.2.2.1 hi
        exact ⟨(hat.2.2.1.lt i hi).1, _, _, _, h1, .inr rfl⟩
/-- New. -/
theorem new_fit (eps : Int) (h : 2 ≤ eps ∧ eps ≤ 64) (base : Nat) (w : World) (hb : base ≤ w.heap.size) :
    Calls Tryz.prog 128 #[.int .i64 eps] w fun e w' => e = .returned (.tuple #[.pointer (some ⟨w.heap.size, 0, none⟩), .int .i64 0]) ∧ Fr w w' ∧ base ≤ w'.heap.size ∧ FitKeys w' w.heap.size base (eps - 1) [] 0 1 := by
  refine (hnew_calls eps h w).mono ?_
  rintro e w' ⟨rfl, rfl⟩
  refine ⟨rfl, (Fr.refl w).alloc _, by rw [World.size_alloc]; omega, 0, 1, 0, none, 0, [], none, 0, [], ⟨blk_new w _, Own.nil _ _ _ _, Own.nil _ _ _ _, by simp [ablk], by simp [ablk], by simp [ablk]⟩, fun h => by simp at h, List.Pairwise.nil, fun k hk => (by cases hk), low_start _, top_start _, rfl, ?_, ?_⟩
  · exact ⟨trivial, fun q hq => (by cases hq), fun N D hD q hq => by simp [pts] at hq, by simp, fun h => by simp at h⟩
  · exact ⟨trivial, fun q hq => (by cases hq), fun N D hD q hq => by simp [pts] at hq, by simp, fun h => by simp at h⟩
theorem new_bad (eps : Int) (h : ¬ (2 ≤ eps ∧ eps ≤ 64)) (w : World) : Calls Tryz.prog 128 #[.int .i64 eps] w fun e w' => e = .returned (.tuple #[.pointer none, .int .i64 1]) ∧ Fr w w' := by
  by_cases h1 : eps < 2
  · have d1 : decide (eps < 2) = true := decide_eq_true h1
    go_enter Tryz.func128, Tryz.ntmps128
    go_wp2_with fail
    go_ret2
    exact ⟨rfl, Fr.refl _⟩
  · have d1 : decide (eps < 2) = false := decide_eq_false h1
    have d2 : decide (eps > 64) = true := decide_eq_true (by omega)
    go_enter Tryz.func128, Tryz.ntmps128
    go_wp2_with fail
    go_ret2
    exact ⟨rfl, Fr.refl _⟩

end Go.Proofs.YthjimnmgbcckjaaGreat
namespace Go.Run
open Go.RowKit
/-- A word as a cell. -/
def uv (x : Int) : Value := .int .u64 x
/-- Neighbours rise from here on. -/
def stepUp (L : List Int) (i : Nat) : Prop := ∀ j, 0 < j → j < i → ky L (j - 1) < ky L j
theorem rise_iff (L : List Int) : Rise L ↔ stepUp L L.length := by
  constructor
  · intro h j h0 hj
    exact rise_lt h (by omega) hj
  · intro h
    unfold Rise
    refine List.pairwise_iff_getElem.2 (fun i j hi hj hij => ?_)
    have key : ∀ k, i + k + 1 < L.length → ky L i < ky L (i + k + 1) := by
      intro k
      induction k with
      | zero => intro hk; have := h (i + 1) (by omega) hk; simpa using this
      | succ k ih =>
        intro hk
        have h1 := ih (by omega)
        have h2 := h (i + (k + 1) + 1) (by omega) hk
        rw [show i + (k + 1) + 1 - 1 = i + k + 1 by omega] at h2
        omega
    have h1 := key (j - i - 1) (by omega)
    rw [show i + (j - i - 1) + 1 = j by omega] at h1
    simpa [ky, show i < L.length by omega, hj] using h1
instance (L : List Int) : Decidable (Rise L) := by unfold Rise; infer_instance
theorem rdc_ky {w : World} {A : Option Addr} {L : List Int} (h : Go.Inc.RdC w A (L.map uv)) (hne : 0 < L.length) : ∃ b off, A = some ⟨b, off, none⟩ ∧ ∀ i, i < L.length → w.cell? ⟨b, off + i, none⟩ = some (.int .u64 (ky L i)) := by
  obtain ⟨b, off, hA, hc⟩ := h.at (by simpa using hne)
  refine ⟨b, off, hA, fun i hi => hc i _ ?_⟩
  simp [hi, uv, ky]
end Go.Run
namespace Go.Proofs.YthjimnmgbcckjaaGreat
set_option maxRecDepth 100000
open Go.RowKit Go.Inc Go.Run

theorem krising1_calls (k : Int) (w : World) : Calls Tryz.prog 112 #[.int .u64 k] w fun e w' => e = .returned (.int .u64 k) ∧ w' = w := by
  go_enter Tryz.func112, Tryz.ntmps112
  go_wp2_with fail
  go_ret
  exact ⟨rfl, rfl⟩

set_option maxHeartbeats 2000000 in
theorem rises_u (L : List Int) (A : Option Addr) (n c : Nat) (hn : n = L.length) (hl : L.length ≤ 140737488355328) (w : World) (hr : RdC w A (L.map uv)) :
    Calls Tryz.prog 111 #[.slice A n c, .func (.func 112) #[] #[]] w fun e w' => e = .returned (.bool (decide (Rise L))) ∧ Fr w w' := by
  have HR := Lib.hid hr
  have HN := Lib.hid hn
  have hln : n ≤ 140737488355328 := by omega
  clear hr hn hl
  go_enter Tryz.func111, Tryz.ntmps111
  go_wp2_with fail
  go_loopw [8] (fun v wr => ∃ i : Nat, v = .int .i64 i ∧ i ≤ n ∧ Hid (stepUp L i) ∧ Hid (Fr w wr)) (fun v _ => n - (intOf v).toNat)
  case atStart => exact ⟨0, rfl, by omega, fun j h0 hj => by omega, Fr.refl _⟩
  case round =>
    obtain ⟨i, rfl, hin, hs, hf⟩ := hrel
    rcases Nat.lt_or_ge i n with hlt | hge
    · have d1 : decide (i < n) = true := decide_eq_true hlt
      have d0 : (i : Int) < (n : Int) := by omega
      have hw1 : IntKind.i64.wrap ((i : Int) + 1) = (i : Int) + 1 := wrap_i64_in _ (by omega) (by omega)
      obtain ⟨b, off, hA, hc⟩ := rdc_ky (HR.out.fr hf.out) (by have := HN.out; omega)
      subst hA
      by_cases h0 : i = 0
      · subst h0
        go_wp2_with fail
        go_quiet (fail)
        go_wp2_with fail
        exact ⟨⟨1, rfl, by omega, fun j h0 hj => by omega, hf.out.drewN _⟩, by simp only [intOf]; omega⟩
      · have d2 : decide ((i : Int) > 0) = true := decide_eq_true (by omega)
        have d3 : (0 : Int) < (i : Int) := by omega
        obtain ⟨m, rfl⟩ : ∃ m, i = m + 1 := ⟨i - 1, by omega⟩
        have hw2 : IntKind.i64.wrap (((m + 1 : Nat) : Int) - 1) = (m : Int) := by rw [wrap_i64_in _ (by omega) (by omega)]; omega
        have z1 : (m : Int) < (n : Int) := by omega
        have c1 := hc (m + 1) (by have := HN.out; omega)
        have c2 := hc m (by have := HN.out; omega)
        obtain ⟨x, hx⟩ : ∃ x, ky L (m + 1) = x := ⟨_, rfl⟩
        obtain ⟨y, hy⟩ : ∃ y, ky L m = y := ⟨_, rfl⟩
        rw [hx] at c1
        rw [hy] at c2
        have HX := Lib.hid hx
        have HY := Lib.hid hy
        clear hx hy hc
        by_cases hxy : x ≤ y
        · have d4 : decide (x ≤ y) = true := decide_eq_true hxy
          have hfin : Hid (decide (Rise L) = false) := decide_eq_false (fun h => by
            have := rise_lt h (show m < m + 1 by omega) (by have := HN.out; omega)
            rw [HX.out, HY.out] at this; omega)
          go_wp2_with fail
          go_quiet (first | (go_at_call 112; exact Calls.quiet_of_same (krising1_calls _ _)))
          go_wp2_with fail
          go_ret
          exact ⟨by rw [hfin.out]; rfl, hf.out.drewN _⟩
        · have d4 : decide (x ≤ y) = false := decide_eq_false hxy
          have hup : Hid (stepUp L (m + 1 + 1)) := by
            intro j h0 hj
            rcases Nat.lt_or_ge j (m + 1) with h1 | h1
            · exact hs.out j h0 h1
            · obtain rfl : j = m + 1 := by omega
              rw [HX.out, Nat.add_sub_cancel, HY.out]; omega
          go_wp2_with fail
          go_quiet (first | (go_at_call 112; exact Calls.quiet_of_same (krising1_calls _ _)))
          go_wp2_with fail
          exact ⟨⟨m + 1 + 1, rfl, by omega, hup, hf.out.drewN _⟩, by simp only [intOf]; omega⟩
    · obtain rfl : i = n := by omega
      have hfin : Hid (decide (Rise L) = true) := decide_eq_true ((rise_iff L).2 (by rw [← HN.out]; exact hs.out))
      go_wp2_with fail
      go_ret
      exact ⟨by rw [hfin.out]; rfl, hf.out⟩

set_option maxHeartbeats 2000000 in
theorem rising_calls (L : List Int) (A : Option Addr) (n c : Nat) (hn : n = L.length) (hl : L.length ≤ 140737488355328) (w : World) (hr : RdC w A (L.map uv)) :
    Calls Tryz.prog 91 #[.slice A n c] w fun e w' => e = .returned (.bool (decide (Rise L))) ∧ Fr w w' := by
  have H := Lib.hid (rises_u L A n c hn hl w hr)
  clear hr hn hl
  go_enter Tryz.func91, Tryz.ntmps91
  go_wp2_with fail
  refine H.out.mono ?_
  rintro e w' ⟨rfl, hf⟩
  go_wp2_with fail
  go_ret
  exact ⟨rfl, hf⟩
end Go.Proofs.YthjimnmgbcckjaaGreat
namespace Go.Run

/-- One digit's search: U = q * Y1 + r, and q is not below the digit. -/
structure KInv (U u Y1 Y0 q r : Int) : Prop where
  eq : U = q * Y1 + r
  nn : 0 ≤ r
  up : U * 4294967296 + u < (q + 1) * (Y1 * 4294967296 + Y0)
theorem kprod (U Y1 Y0 q r : Int) (h : U = q * Y1 + r) : q * (Y1 * 4294967296 + Y0) = (U - r) * 4294967296 + q * Y0 := by subst h; grind
theorem KInv.start {U u Y1 Y0 : Int} (hY1 : 0 < Y1) (hU : 0 ≤ U) (h0 : 0 ≤ Y0) (hu : u < 4294967296) : KInv U u Y1 Y0 (U / Y1) (U % Y1) := by
  have h1 := Int.mul_ediv_add_emod U Y1
  have h2 := Int.emod_nonneg U (show Y1 ≠ 0 by omega)
  have h3 := Int.emod_lt_of_pos U hY1
  refine ⟨by rw [Int.mul_comm]; exact h1.symm, h2, ?_⟩
  have e := kprod U Y1 Y0 (U / Y1) (U % Y1) (by rw [Int.mul_comm]; exact h1.symm)
  have h4 : 0 ≤ U / Y1 := Int.ediv_nonneg hU (Int.le_of_lt hY1)
  have h5 : 0 ≤ U / Y1 * Y0 := Int.mul_nonneg h4 h0
  rw [Int.add_mul, e]
  omega
theorem KInv.exit {U u Y1 Y0 q r : Int} (h : KInv U u Y1 Y0 q r) (hY : 0 < Y1 * 4294967296 + Y0) (hc : q * Y0 ≤ 4294967296 * r + u) : q = (U * 4294967296 + u) / (Y1 * 4294967296 + Y0) ∧ q * (Y1 * 4294967296 + Y0) ≤ U * 4294967296 + u := by
  have e := kprod U Y1 Y0 q r h.eq
  have h1 : q * (Y1 * 4294967296 + Y0) ≤ U * 4294967296 + u := by rw [e]; omega
  refine ⟨?_, h1⟩
  have h2 := h.up
  refine Int.le_antisymm ((Int.le_ediv_iff_mul_le hY).2 h1) ?_
  have h3 := (Int.ediv_lt_iff_lt_mul hY).2 h2
  omega
theorem KInv.step {U u Y1 Y0 q r : Int} (h : KInv U u Y1 Y0 q r) (hU : U < Y1 * 4294967296 + Y0) (hu : u < 4294967296) (hY1 : 0 < Y1) (h0 : 0 ≤ Y0) (hc : 4294967296 ≤ q ∨ 4294967296 * r + u < q * Y0) : KInv U u Y1 Y0 (q - 1) (r + Y1) := by
  have e := kprod U Y1 Y0 q r h.eq
  refine ⟨by rw [Int.sub_mul]; have := h.eq; omega, by have := h.nn; omega, ?_⟩
  rw [Int.sub_add_cancel]
  rcases hc with hc | hc
  · have h1 : 4294967296 * (Y1 * 4294967296 + Y0) ≤ q * (Y1 * 4294967296 + Y0) := Int.mul_le_mul_of_nonneg_right hc (by omega)
    omega
  · rw [e]; omega
/-- How great the first try is. -/
theorem kstart_le {U Y1 Y0 : Int} (hY1 : 2147483648 ≤ Y1) (h0 : Y0 < 4294967296) (hU : U < Y1 * 4294967296 + Y0) : U / Y1 ≤ 4294967297 := by
  have : U < 4294967298 * Y1 := by omega
  have := (Int.ediv_lt_iff_lt_mul (show 0 < Y1 by omega)).2 this
  omega
theorem mul32 {a b : Int} (ha : 0 ≤ a) (ha2 : a ≤ 4294967296) (hb : 0 ≤ b) (hb2 : b < 4294967296) : 0 ≤ a * b ∧ a * b ≤ 18446744069414584320 := by
  have h1 := Int.mul_nonneg ha hb
  have h2 : a * b ≤ 4294967296 * b := Int.mul_le_mul_of_nonneg_right ha2 hb
  omega

/-- The whole: two digits. -/
theorem knuth {hi lo y U L1 L0 : Int} {S : Int} (hS : 0 < S) (hy : 0 < y) (_hlo : 0 ≤ lo) (_hhi : 0 ≤ hi) (hL0 : 0 ≤ L0 ∧ L0 < 4294967296) (hL1 : 0 ≤ L1 ∧ L1 < 4294967296) (hU : 0 ≤ U) (hUy : U < y * S)
    (h : U * 18446744073709551616 + L1 * 4294967296 + L0 = (hi * 18446744073709551616 + lo) * S)
    {q1 V q0 R : Int} (h1 : q1 = (U * 4294967296 + L1) / (y * S)) (hV : V = U * 4294967296 + L1 - q1 * (y * S)) (h2 : q0 = (V * 4294967296 + L0) / (y * S)) (hR : R = V * 4294967296 + L0 - q0 * (y * S)) :
    (0 ≤ V ∧ V < y * S) ∧ (0 ≤ R ∧ R < y * S) ∧ (0 ≤ q1 ∧ q1 < 4294967296) ∧ (0 ≤ q0 ∧ q0 < 4294967296) ∧ q1 * 4294967296 + q0 = (hi * 18446744073709551616 + lo) / y ∧ R / S = (hi * 18446744073709551616 + lo) % y := by
  have hY : 0 < y * S := Int.mul_pos hy hS
  generalize hYe : y * S = Y at *
  have m1 := Int.mul_ediv_add_emod (U * 4294967296 + L1) Y
  have m2 := Int.emod_nonneg (U * 4294967296 + L1) (show Y ≠ 0 by omega)
  have m3 := Int.emod_lt_of_pos (U * 4294967296 + L1) hY
  have n1 := Int.mul_ediv_add_emod (V * 4294967296 + L0) Y
  have n2 := Int.emod_nonneg (V * 4294967296 + L0) (show Y ≠ 0 by omega)
  have n3 := Int.emod_lt_of_pos (V * 4294967296 + L0) hY
  rw [← h1] at m1
  rw [← h2] at n1
  have c1 : Y * q1 = q1 * Y := Int.mul_comm _ _
  have c2 : Y * q0 = q0 * Y := Int.mul_comm _ _
  have hV1 : 0 ≤ V ∧ V < Y := by omega
  have hR1 : 0 ≤ R ∧ R < Y := by omega
  have a1 : 0 ≤ q1 := by rw [h1]; exact Int.ediv_nonneg (by omega) (by omega)
  have a2 : q1 < 4294967296 := by rw [h1]; exact (Int.ediv_lt_iff_lt_mul hY).2 (by omega)
  have b1 : 0 ≤ q0 := by rw [h2]; exact Int.ediv_nonneg (by omega) (by omega)
  have b2 : q0 < 4294967296 := by rw [h2]; exact (Int.ediv_lt_iff_lt_mul hY).2 (by omega)
  refine ⟨hV1, hR1, ⟨a1, a2⟩, ⟨b1, b2⟩, ?_⟩
  obtain ⟨N, hN⟩ : ∃ N, N = hi * 18446744073709551616 + lo := ⟨_, rfl⟩
  rw [← hN] at h ⊢
  -- N * S = (q1 * 2^32 + q0) * Y + R
  have tot : N * S = (q1 * 4294967296 + q0) * Y + R := by
    rw [← h]
    have : (q1 * 4294967296 + q0) * Y = q1 * Y * 4294967296 + q0 * Y := by grind
    omega
  rw [← hYe] at tot hR1
  obtain ⟨Q, hQ⟩ : ∃ Q, Q = q1 * 4294967296 + q0 := ⟨_, rfl⟩
  rw [← hQ] at tot ⊢
  have tot2 : R = (N - Q * y) * S := by rw [Int.sub_mul]; grind
  have r1 : 0 ≤ N - Q * y := by
    rcases Int.lt_or_le (N - Q * y) 0 with h | h
    · have := Int.mul_neg_of_neg_of_pos h hS; omega
    · exact h
  have r2 : N - Q * y < y := by
    rcases Int.lt_or_le (N - Q * y) y with h | h
    · exact h
    · have := Int.mul_le_mul_of_nonneg_right h (Int.le_of_lt hS); omega
  have e1 : N = (N - Q * y) + y * Q := by grind
  constructor
  · rw [e1, Int.add_mul_ediv_left _ _ (by omega), Int.ediv_eq_zero_of_lt r1 r2]; omega
  · rw [tot2, Int.mul_ediv_cancel _ (by omega)]
    conv => rhs; rw [e1]
    rw [Int.add_mul_emod_self_left, Int.emod_eq_of_lt r1 r2]
end Go.Run
namespace Go.Proofs.YthjimnmgbcckjaaGreat
set_option maxRecDepth 100000
open Go.RowKit Go.Inc Go.Run

theorem pow_cast (k : Nat) : ((2 ^ k : Nat) : Int) = (2 : Int) ^ k := by rw [Int.natCast_pow]; rfl
theorem or_add (a b : Nat) (s : Nat) (hb : b < 2 ^ s) (h : a * 2 ^ s + b < 18446744073709551616) : bits .or .u64 ((a * 2 ^ s : Nat) : Int) (b : Int) = ((a * 2 ^ s + b : Nat) : Int) := by
  have e1 : BitVec.ofInt 64 ((a * 2 ^ s : Nat) : Int) = BitVec.ofNat 64 (a * 2 ^ s) := BitVec.ofInt_natCast ..
  have e2 : BitVec.ofInt 64 (b : Int) = BitVec.ofNat 64 b := BitVec.ofInt_natCast ..
  show IntKind.u64.wrap ((BitVec.ofInt 64 ((a * 2 ^ s : Nat) : Int) ||| BitVec.ofInt 64 (b : Int)).toNat : Int) = _
  rw [e1, e2, BitVec.toNat_or, BitVec.toNat_ofNat, BitVec.toNat_ofNat, Nat.mod_eq_of_lt (a := a * 2 ^ s) (by omega), Nat.mod_eq_of_lt (a := b) (by omega), Nat.mul_comm a, ← Nat.two_pow_add_eq_or_of_lt hb a]
  rw [Nat.mul_comm] at h
  generalize 2 ^ s * a + b = N at *
  exact wrap_u64_in _ (by omega) (by omega)
theorem and_mask32 (x : Int) (h0 : 0 ≤ x) (h1 : x < 18446744073709551616) : bits .and .u64 x 4294967295 = x % 4294967296 := by
  have := bits_mask .u64 64 (by decide) wraps_u64 32 (by decide) x (by omega) (by omega)
  rw [show ((2 : Int) ^ 32 - 1) = 4294967295 from rfl] at this
  exact this
theorem lz_calls (y : Int) (h : 0 < y) (h2 : y < 18446744073709551616) : ∃ s : Nat, s ≤ 63 ∧ 9223372036854775808 ≤ y * 2 ^ s ∧ y * 2 ^ s < 18446744073709551616 ∧ ∀ w, Calls Tryz.prog 145 #[.int .u64 y] w fun e w' => e = .returned (.int .i64 (s : Nat)) ∧ w' = w := by
  obtain ⟨n, rfl⟩ := Int.eq_ofNat_of_zero_le (Int.le_of_lt h)
  have key : ∀ k : Nat, ∀ n : Nat, 0 < n → n < 2 ^ k → k ≤ 64 → Lib.bitLen n ≤ k ∧ 2 ^ (Lib.bitLen n) ≤ 2 * n ∧ n < 2 ^ (Lib.bitLen n) := by
    intro k
    induction k with
    | zero => intro n h0 h1 _; simp at h1; omega
    | succ k ih =>
      intro n h0 h1 hk
      have hlt : n < 2 ^ 64 := Nat.lt_of_lt_of_le h1 (Nat.pow_le_pow_right (by decide) hk)
      rw [Lib.bitLen_half n (by omega) hlt]
      by_cases h2 : n / 2 = 0
      · have : n = 1 := by omega
        subst this
        exact ⟨by show 1 + 0 ≤ k + 1; omega, by decide, by decide⟩
      · obtain ⟨i1, i2, i3⟩ := ih (n / 2) (by omega) (by rw [Nat.pow_succ] at h1; omega) (by omega)
        rw [Nat.add_comm 1, Nat.pow_succ]
        omega
  have hn : n < 2 ^ 64 := by show n < 18446744073709551616; omega
  obtain ⟨b1, b2, b3⟩ := key 64 n (by omega) hn (Nat.le_refl _)
  obtain ⟨b, hb⟩ : ∃ b, b = Lib.bitLen n := ⟨_, rfl⟩
  rw [← hb] at b1 b2 b3
  have b0 : 0 < b := by
    rcases Nat.eq_zero_or_pos b with h0 | h0
    · subst h0; simp at b3; omega
    · exact h0
  have hp : 0 < 2 ^ (64 - b) := Nat.two_pow_pos _
  have e : 2 ^ b * 2 ^ (64 - b) = 18446744073709551616 := by rw [← Nat.pow_add, show b + (64 - b) = 64 by omega]
  have u1 := Nat.mul_le_mul_right (2 ^ (64 - b)) b2
  have u2 := Nat.mul_lt_mul_of_pos_right b3 hp
  refine ⟨64 - b, by omega, ?_, ?_, fun w => ?_⟩
  · have : 9223372036854775808 ≤ n * 2 ^ (64 - b) := by rw [Nat.mul_assoc] at u1; omega
    rw [← pow_cast, ← Int.natCast_mul]
    generalize n * 2 ^ (64 - b) = N at *
    omega
  · have : n * 2 ^ (64 - b) < 18446744073709551616 := by omega
    rw [← pow_cast, ← Int.natCast_mul]
    generalize n * 2 ^ (64 - b) = N at *
    omega
  · refine (Tryz.bits_LeadingZeros64 (n : Int) w (by omega) (by omega)).mono ?_
    rintro e w' ⟨rfl, rfl⟩
    rw [Int.toNat_natCast, ← hb]
    refine ⟨?_, rfl⟩
    congr 2
    omega

set_option maxHeartbeats 8000000 in
theorem div64_main (hi lo y : Int) (h0 : 0 < hi ∧ hi < y) (h1 : 0 ≤ lo ∧ lo < 18446744073709551616) (h2 : y < 18446744073709551616) (w : World) :
    Calls Tryz.prog 146 #[.int .u64 hi, .int .u64 lo, .int .u64 y] w fun e w' => e = .returned (.tuple #[.int .u64 ((hi * 18446744073709551616 + lo) / y), .int .u64 ((hi * 18446744073709551616 + lo) % y)]) ∧ w' = w := by
  obtain ⟨s, hs, hy1, hy2, hz⟩ := lz_calls y (by omega) h2
  have HZ := Lib.hid hz
  clear hz
  have d1 : decide (y = 0) = false := decide_eq_false (by omega)
  have d2 : decide (y ≤ hi) = false := decide_eq_false (by omega)
  have d3 : decide (hi = 0) = false := decide_eq_false (by omega)
  have n1 : ¬ y = 0 := by omega
  have n3 : ¬ hi = 0 := by omega
  obtain ⟨S, hS⟩ : ∃ S : Int, 2 ^ s = S := ⟨_, rfl⟩
  have hSn : S = ((2 ^ s : Nat) : Int) := by rw [← hS, pow_cast]
  have hS0 : 0 < S := by rw [hSn]; exact_mod_cast Nat.two_pow_pos s
  rw [hS] at hy1 hy2
  obtain ⟨Y, hY⟩ : ∃ Y, y * S = Y := ⟨_, rfl⟩
  have f1 : IntKind.u64.wrap (y * 2 ^ s) = Y := by rw [hS, hY]; rw [hY] at hy1 hy2; exact wrap_u64_in _ (by omega) (by omega)
  rw [hY] at hy1 hy2
  obtain ⟨Y1, hY1⟩ : ∃ Y1, Y / 4294967296 = Y1 := ⟨_, rfl⟩
  obtain ⟨Y0, hY0⟩ : ∃ Y0, Y % 4294967296 = Y0 := ⟨_, rfl⟩
  have f2 : bits .and .u64 Y 4294967295 = Y0 := by rw [and_mask32 Y (by omega) hy2, hY0]
  have f2b : ¬ Y1 = 0 := by omega
  -- the upper word
  obtain ⟨hn, rfl⟩ := Int.eq_ofNat_of_zero_le (Int.le_of_lt h0.1)
  obtain ⟨ln, rfl⟩ := Int.eq_ofNat_of_zero_le h1.1
  have hhS : (hn : Int) * S < Y := by rw [← hY]; exact Int.mul_lt_mul_of_pos_right h0.2 hS0
  have hhS0 : 0 ≤ (hn : Int) * S := Int.mul_nonneg (by omega) (by omega)
  have f3 : IntKind.u64.wrap ((hn : Int) * 2 ^ s) = (hn : Int) * 2 ^ s := by
    rw [hS, wrap_u64_in _ hhS0 (by omega)]
  have hsplit : 2 ^ s * 2 ^ (64 - s) = 18446744073709551616 := by rw [← Nat.pow_add, show s + (64 - s) = 64 by omega]
  have hlq : ln / 2 ^ (64 - s) < 2 ^ s := by
    rw [Nat.div_lt_iff_lt_mul (Nat.two_pow_pos _), hsplit]; omega
  obtain ⟨LQ, hLQ⟩ : ∃ LQ, ln / 2 ^ (64 - s) = LQ := ⟨_, rfl⟩
  have f4 : (ln : Int) / 2 ^ (64 - s) = (LQ : Int) := by rw [← hLQ, Int.natCast_ediv, pow_cast]
  rw [hLQ] at hlq
  -- lo * S
  obtain ⟨L10, hL10⟩ : ∃ L, ln * 2 ^ s % 18446744073709551616 = L := ⟨_, rfl⟩
  have f5 : IntKind.u64.wrap ((ln : Int) * 2 ^ s) = (L10 : Int) := by rw [wrap_u64, ← hL10, Int.natCast_emod, Int.natCast_mul, pow_cast]; rfl
  have hLt : L10 < 18446744073709551616 := by omega
  have hdl : ln * 2 ^ s = LQ * 18446744073709551616 + L10 := by
    have e1 : ln * 2 ^ s / 18446744073709551616 = LQ := by
      rw [← hLQ, ← hsplit, Nat.mul_comm ln, Nat.mul_div_mul_left _ _ (Nat.two_pow_pos _)]
    omega
  have hUU : (hn : Int) * S + LQ < Y := by
    have a1 : (hn : Int) * S + S ≤ Y := by
      have : ((hn : Int) + 1) * S ≤ y * S := Int.mul_le_mul_of_nonneg_right (by omega) (by omega)
      rw [Int.add_mul, Int.one_mul, hY] at this
      exact this
    have : (LQ : Int) < S := by rw [hSn]; exact_mod_cast hlq
    omega
  obtain ⟨U, hU⟩ : ∃ U : Int, (hn : Int) * S + LQ = U := ⟨_, rfl⟩
  have f6 : bits .or .u64 ((hn : Int) * 2 ^ s) (LQ : Int) = U := by
    rw [← pow_cast, ← Int.natCast_mul]
    have e1 : ((hn * 2 ^ s + LQ : Nat) : Int) = U := by rw [← hU, hSn, Int.natCast_add, Int.natCast_mul]
    rw [or_add hn LQ s hlq (by have : ((hn * 2 ^ s + LQ : Nat) : Int) < 18446744073709551616 := by rw [e1]; omega
                               generalize hn * 2 ^ s + LQ = N at *
                               omega), e1]
  rw [hU] at hUU
  have hU0 : 0 ≤ U := by omega
  obtain ⟨L1, hL1⟩ : ∃ L1, (L10 : Int) / 4294967296 = L1 := ⟨_, rfl⟩
  obtain ⟨L0, hL0⟩ : ∃ L0, (L10 : Int) % 4294967296 = L0 := ⟨_, rfl⟩
  have f7 : bits .and .u64 (L10 : Int) 4294967295 = L0 := by rw [and_mask32 _ (by omega) (by omega), hL0]
  have htot : U * 18446744073709551616 + L1 * 4294967296 + L0 = ((hn : Int) * 18446744073709551616 + ln) * S := by
    have e1 : (ln : Int) * S = LQ * 18446744073709551616 + L10 := by
      rw [hSn, ← Int.natCast_mul, hdl, Int.natCast_add, Int.natCast_mul]; rfl
    rw [Int.add_mul, e1, ← hU, Int.add_mul]
    have : (hn : Int) * 18446744073709551616 * S = hn * S * 18446744073709551616 := by grind
    omega
  have hYe : Y1 * 4294967296 + Y0 = Y := by omega
  -- the first try
  obtain ⟨Q1, hQ1⟩ : ∃ Q, U / Y1 = Q := ⟨_, rfl⟩
  have hq0 : 0 ≤ Q1 := by rw [← hQ1]; exact Int.ediv_nonneg hU0 (by omega)
  have hq1 : Q1 ≤ 4294967297 := by rw [← hQ1]; exact kstart_le (by omega) (show Y0 < 4294967296 by omega) (by omega)
  have f8 : IntKind.u64.wrap (U.tdiv Y1) = Q1 := by rw [Int.tdiv_eq_ediv_of_nonneg hU0, hQ1]; exact wrap_u64_in _ hq0 (by omega)
  have hme := Int.mul_ediv_add_emod U Y1
  have hm0 := Int.emod_nonneg U (show Y1 ≠ 0 by omega)
  have hm1 := Int.emod_lt_of_pos U (show 0 < Y1 by omega)
  rw [hQ1] at hme
  obtain ⟨T1, hT1⟩ : ∃ T, Q1 * Y1 = T := ⟨_, rfl⟩
  have hT1b : Y1 * Q1 = T1 := by rw [Int.mul_comm]; exact hT1
  have f9 : IntKind.u64.wrap T1 = T1 := wrap_u64_in _ (by rw [← hT1]; exact Int.mul_nonneg hq0 (by omega)) (by omega)
  obtain ⟨R1, hR1⟩ : ∃ R, U % Y1 = R := ⟨_, rfl⟩
  have f10 : IntKind.u64.wrap (U - T1) = R1 := by rw [wrap_u64_in _ (by omega) (by omega)]; omega
  have K1 : Hid (KInv U L1 Y1 Y0 Q1 R1) := by
    have := KInv.start (U := U) (u := L1) (Y1 := Y1) (Y0 := Y0) (by omega) hU0 (by omega) (by omega)
    rw [hQ1, hR1] at this; exact this
  have HB : Hid ((2147483648 ≤ Y1 ∧ Y1 < 4294967296) ∧ (0 ≤ Y0 ∧ Y0 < 4294967296) ∧ (0 ≤ U ∧ U < Y) ∧ (0 ≤ L1 ∧ L1 < 4294967296) ∧ (0 ≤ L0 ∧ L0 < 4294967296) ∧ Y1 * 4294967296 + Y0 = Y ∧ (0 ≤ Q1 ∧ Q1 ≤ 4294967297) ∧ (0 ≤ R1 ∧ R1 < 4294967296) ∧ Y < 18446744073709551616) := by refine ⟨?_, ?_, ?_, ?_, ?_, ?_, ?_, ?_, ?_⟩ <;> omega
  have HK : Hid _ := fun q1 V q0 R => knuth (hi := (hn : Int)) (lo := (ln : Int)) (y := y) (U := U) (L1 := L1) (L0 := L0) (S := S) hS0 (by omega) (by omega) (by omega) (by omega) (by omega) hU0 (by rw [hY]; exact hUU) htot (q1 := q1) (V := V) (q0 := q0) (R := R)
  have HS := Lib.hid (And.intro hS (And.intro hS0 hY))
  clear h0 h1 h2 hy1 hy2 hSn hS0 hY hhS hhS0 hsplit hlq hLQ hL10 hLt hdl hUU hU hU0 htot hYe hQ1 hq0 hq1 hme hm0 hm1 hR1 hT1b hS hY0
  go_enter Tryz.func146, Tryz.ntmps146
  go_wp2_with fail
  refine (HZ.out w).mono ?_
  rintro e w' ⟨rfl, rfl⟩
  go_upto_block 0 with fail
  go_cut [15] (fun st wx => st = .int .u64 ((U * 4294967296 + L1) / Y) ∧ w' = wx)
  case first =>
    go_wp2_with fail
    go_loopw [15, 16] (fun vq vr wr => ∃ q r : Int, vq = .int .u64 q ∧ vr = .int .u64 r ∧ (0 ≤ q ∧ q ≤ 4294967297) ∧ (0 ≤ r ∧ r < 4294967296) ∧ Hid (KInv U L1 Y1 Y0 q r) ∧ w' = wr) (fun vq _ _ => (intOf vq).toNat)
    case atStart => exact ⟨Q1, R1, rfl, rfl, HB.out.2.2.2.2.2.2.1, HB.out.2.2.2.2.2.2.2.1, K1, rfl⟩
    case round =>
      obtain ⟨q, r, rfl, rfl, hq, hr, hK, rfl⟩ := hrel
      have wz1 : IntKind.u64.wrap (4294967296 * r) = 4294967296 * r := wrap_u64_in _ (by omega) (by omega)
      have wz2 : IntKind.u64.wrap (4294967296 * r + L1) = 4294967296 * r + L1 := wrap_u64_in _ (by have := HB.out.2.2.2.1; omega) (by have := HB.out.2.2.2.1; omega)
      have wz3 : IntKind.u64.wrap (r + Y1) = r + Y1 := wrap_u64_in _ (by have := HB.out.1; omega) (by have := HB.out.1; omega)
      have HQ := Lib.hid hq
      have HR := Lib.hid hr
      clear hq hr
      -- one digit down
      have down : (4294967296 ≤ q ∨ 4294967296 * r + L1 < q * Y0) → Hid (KInv U L1 Y1 Y0 (q - 1) (r + Y1) ∧ 1 ≤ q) := by
        intro hc
        have hb := HB.out
        refine ⟨hK.out.step (by omega) (by omega) (by omega) (by omega) hc, ?_⟩
        rcases hc with hc | hc
        · omega
        · rcases Int.lt_or_le 0 q with h | h
          · omega
          · have h1 := HQ.out.1
            obtain rfl : q = 0 := by omega
            rw [Int.zero_mul] at hc
            have := HR.out.1
            omega
      have fin : q - 1 ≤ 4294967296 → 4294967296 ≤ r + Y1 → Hid (KInv U L1 Y1 Y0 (q - 1) (r + Y1) ∧ 1 ≤ q) → Hid (q - 1 = (U * 4294967296 + L1) / Y) := by
        intro h1 h2 h3
        have hb := HB.out
        have h4 := mul32 (a := q - 1) (b := Y0) (by have := h3.out.2; omega) h1 hb.2.1.1 hb.2.1.2
        have h5 := (h3.out.1.exit (by omega) (by omega)).1
        rw [hb.2.2.2.2.2.1] at h5
        exact h5
      by_cases hbig : q ≥ 4294967296
      · have g1 : decide (q ≥ 4294967296) = true := decide_eq_true hbig
        have hd := down (.inl hbig)
        have wz4 : IntKind.u64.wrap (q - 1) = q - 1 := wrap_u64_in _ (by omega) (by have := HQ.out; omega)
        by_cases hbr : r + Y1 ≥ 4294967296
        · have g2 : decide (r + Y1 ≥ 4294967296) = true := decide_eq_true hbr
          have hf := fin (by have := HQ.out; omega) hbr hd
          clear down fin
          go_wp2_with fail
          go_meet
          exact ⟨by rw [hf.out], rfl⟩
        · have g2 : decide (r + Y1 ≥ 4294967296) = false := decide_eq_false hbr
          clear down fin
          go_wp2_with fail
          exact ⟨⟨q - 1, r + Y1, rfl, rfl, by have := HQ.out; omega, by have := HR.out; have := HB.out.1; omega, hd.out.1, trivial⟩, by simp only [intOf]; omega⟩
      · have g1 : decide (q ≥ 4294967296) = false := decide_eq_false hbig
        obtain ⟨T, hT⟩ : ∃ T, q * Y0 = T := ⟨_, rfl⟩
        have hTb := mul32 (a := q) (b := Y0) HQ.out.1 (by omega) HB.out.2.1.1 HB.out.2.1.2
        rw [hT] at hTb
        have wz5 : IntKind.u64.wrap T = T := wrap_u64_in _ hTb.1 (by omega)
        rw [hT] at down
        by_cases hgt : T > 4294967296 * r + L1
        · have g3 : decide (T > 4294967296 * r + L1) = true := decide_eq_true hgt
          have hd := down (.inr hgt)
          have wz4 : IntKind.u64.wrap (q - 1) = q - 1 := wrap_u64_in _ (by have := hd.out.2; omega) (by have := HQ.out; omega)
          by_cases hbr : r + Y1 ≥ 4294967296
          · have g2 : decide (r + Y1 ≥ 4294967296) = true := decide_eq_true hbr
            have hf := fin (by omega) hbr hd
            clear down fin
            go_wp2_with fail
            go_meet
            exact ⟨by rw [hf.out], rfl⟩
          · have g2 : decide (r + Y1 ≥ 4294967296) = false := decide_eq_false hbr
            have HD := hd
            clear down fin hd
            go_wp2_with fail
            exact ⟨⟨q - 1, r + Y1, rfl, rfl, by have := HD.out.2; omega, by have := HR.out; have := HB.out.1; omega, HD.out.1, trivial⟩, by simp only [intOf]; have := HD.out.2; omega⟩
        · have g3 : decide (T > 4294967296 * r + L1) = false := decide_eq_false hgt
          have hf : Hid (q = (U * 4294967296 + L1) / Y) := by
            have hb := HB.out
            have h5 := (hK.out.exit (by omega) (by rw [hT]; omega)).1
            rw [hb.2.2.2.2.2.1] at h5
            exact h5
          clear down fin
          go_wp2_with fail
          go_meet
          exact ⟨by rw [← hf.out], rfl⟩
  case rest =>
    obtain ⟨rfl, rfl⟩ := hcut
    obtain ⟨q1, hq1⟩ : ∃ q, (U * 4294967296 + L1) / Y = q := ⟨_, rfl⟩
    rw [hq1]
    obtain ⟨V, hV⟩ : ∃ V, U * 4294967296 + L1 - q1 * Y = V := ⟨_, rfl⟩
    obtain ⟨q2, hq2⟩ : ∃ q, (V * 4294967296 + L0) / Y = q := ⟨_, rfl⟩
    obtain ⟨R, hR⟩ : ∃ R, V * 4294967296 + L0 - q2 * Y = R := ⟨_, rfl⟩
    have hk := HK.out q1 V q2 R (by rw [HS.out.2.2]; exact hq1.symm) (by rw [HS.out.2.2]; exact hV.symm) (by rw [HS.out.2.2]; exact hq2.symm) (by rw [HS.out.2.2]; exact hR.symm)
    rw [HS.out.2.2] at hk
    obtain ⟨kV, kR, kq1, kq2, ke1, ke2⟩ := hk
    have hb := HB.out
    obtain ⟨A1, hA1⟩ : ∃ A, IntKind.u64.wrap (U * 4294967296) = A := ⟨_, rfl⟩
    obtain ⟨A2, hA2⟩ : ∃ A, IntKind.u64.wrap (A1 + L1) = A := ⟨_, rfl⟩
    obtain ⟨A3, hA3⟩ : ∃ A, IntKind.u64.wrap (q1 * Y) = A := ⟨_, rfl⟩
    have gV : IntKind.u64.wrap (A2 - A3) = V := by
      rw [wrap_u64] at hA1 hA2 hA3 ⊢
      generalize q1 * Y = T at *
      omega
    obtain ⟨B1, hB1⟩ : ∃ A, IntKind.u64.wrap (V * 4294967296) = A := ⟨_, rfl⟩
    obtain ⟨B2, hB2⟩ : ∃ A, IntKind.u64.wrap (B1 + L0) = A := ⟨_, rfl⟩
    obtain ⟨B3, hB3⟩ : ∃ A, IntKind.u64.wrap (q2 * Y) = A := ⟨_, rfl⟩
    have gR : IntKind.u64.wrap (B2 - B3) = R := by
      rw [wrap_u64] at hB1 hB2 hB3 ⊢
      generalize q2 * Y = T at *
      omega
    have g5 : IntKind.u64.wrap (q1 * 4294967296) = q1 * 4294967296 := wrap_u64_in _ (by omega) (by omega)
    have g6 : IntKind.u64.wrap (q1 * 4294967296 + q2) = ((hn : Int) * 18446744073709551616 + ln) / y := by rw [wrap_u64_in _ (by omega) (by omega)]; exact ke1
    have g7 : R / 2 ^ s = ((hn : Int) * 18446744073709551616 + ln) % y := by rw [HS.out.1]; exact ke2
    -- the second try
    obtain ⟨Q2, hQ2⟩ : ∃ Q, V / Y1 = Q := ⟨_, rfl⟩
    have hq0 : 0 ≤ Q2 := by rw [← hQ2]; exact Int.ediv_nonneg (by omega) (by omega)
    have hq1' : Q2 ≤ 4294967297 := by rw [← hQ2]; exact kstart_le (by omega) (show Y0 < 4294967296 by omega) (by omega)
    have g8 : IntKind.u64.wrap (V.tdiv Y1) = Q2 := by rw [Int.tdiv_eq_ediv_of_nonneg (by omega), hQ2]; exact wrap_u64_in _ hq0 (by omega)
    have hme := Int.mul_ediv_add_emod V Y1
    have hm0 := Int.emod_nonneg V (show Y1 ≠ 0 by omega)
    have hm1 := Int.emod_lt_of_pos V (show 0 < Y1 by omega)
    rw [hQ2] at hme
    obtain ⟨T2, hT2⟩ : ∃ T, Q2 * Y1 = T := ⟨_, rfl⟩
    have hT2b : Y1 * Q2 = T2 := by rw [Int.mul_comm]; exact hT2
    have g9 : IntKind.u64.wrap T2 = T2 := wrap_u64_in _ (by rw [← hT2]; exact Int.mul_nonneg hq0 (by omega)) (by omega)
    obtain ⟨R2, hR2⟩ : ∃ R, V % Y1 = R := ⟨_, rfl⟩
    have g10 : IntKind.u64.wrap (V - T2) = R2 := by rw [wrap_u64_in _ (by omega) (by omega)]; omega
    have K2 : Hid (KInv V L0 Y1 Y0 Q2 R2) := by
      have := KInv.start (U := V) (u := L0) (Y1 := Y1) (Y0 := Y0) (by omega) (by omega) (by omega) (by omega)
      rw [hQ2, hR2] at this; exact this
    have HB2 : Hid ((2147483648 ≤ Y1 ∧ Y1 < 4294967296) ∧ (0 ≤ Y0 ∧ Y0 < 4294967296) ∧ (0 ≤ V ∧ V < Y) ∧ (0 ≤ L0 ∧ L0 < 4294967296) ∧ (0 ≤ L0 ∧ L0 < 4294967296) ∧ Y1 * 4294967296 + Y0 = Y ∧ (0 ≤ Q2 ∧ Q2 ≤ 4294967297) ∧ (0 ≤ R2 ∧ R2 < 4294967296) ∧ Y < 18446744073709551616) := by refine ⟨?_, ?_, ?_, ?_, ?_, ?_, ?_, ?_, ?_⟩ <;> omega
    have HQ2 := Lib.hid hq2
    clear hq1 hV hq2 hR kV kR kq1 kq2 ke1 ke2 hb hQ2 hq0 hq1' hme hm0 hm1 hT2b hR2 f1 f2 f3 f4 f5 f6 f7 f8 f9 f10 hY1 hL1 hL0 hT1
    go_upto_block 2 with fail
    go_cut [18] (fun st wx => st = .int .u64 ((V * 4294967296 + L0) / Y) ∧ w' = wx)
    case first =>
      go_wp2_with fail
      go_loopw [18, 16] (fun vq vr wr => ∃ q r : Int, vq = .int .u64 q ∧ vr = .int .u64 r ∧ (0 ≤ q ∧ q ≤ 4294967297) ∧ (0 ≤ r ∧ r < 4294967296) ∧ Hid (KInv V L0 Y1 Y0 q r) ∧ w' = wr) (fun vq _ _ => (intOf vq).toNat)
      case atStart => exact ⟨Q2, R2, rfl, rfl, HB2.out.2.2.2.2.2.2.1, HB2.out.2.2.2.2.2.2.2.1, K2, rfl⟩
      case round =>
        obtain ⟨q, r, rfl, rfl, hq, hr, hK, rfl⟩ := hrel
        have wz1 : IntKind.u64.wrap (4294967296 * r) = 4294967296 * r := wrap_u64_in _ (by omega) (by omega)
        have wz2 : IntKind.u64.wrap (4294967296 * r + L0) = 4294967296 * r + L0 := wrap_u64_in _ (by have := HB2.out.2.2.2.1; omega) (by have := HB2.out.2.2.2.1; omega)
        have wz3 : IntKind.u64.wrap (r + Y1) = r + Y1 := wrap_u64_in _ (by have := HB2.out.1; omega) (by have := HB2.out.1; omega)
        have HQ := Lib.hid hq
        have HR := Lib.hid hr
        clear hq hr
        -- one digit down
        have down : (4294967296 ≤ q ∨ 4294967296 * r + L0 < q * Y0) → Hid (KInv V L0 Y1 Y0 (q - 1) (r + Y1) ∧ 1 ≤ q) := by
          intro hc
          have hb := HB2.out
          refine ⟨hK.out.step (by omega) (by omega) (by omega) (by omega) hc, ?_⟩
          rcases hc with hc | hc
          · omega
          · rcases Int.lt_or_le 0 q with h | h
            · omega
            · have h1 := HQ.out.1
              obtain rfl : q = 0 := by omega
              rw [Int.zero_mul] at hc
              have := HR.out.1
              omega
        have fin : q - 1 ≤ 4294967296 → 4294967296 ≤ r + Y1 → Hid (KInv V L0 Y1 Y0 (q - 1) (r + Y1) ∧ 1 ≤ q) → Hid (q - 1 = (V * 4294967296 + L0) / Y) := by
          intro h1 h2 h3
          have hb := HB2.out
          have h4 := mul32 (a := q - 1) (b := Y0) (by have := h3.out.2; omega) h1 hb.2.1.1 hb.2.1.2
          have h5 := (h3.out.1.exit (by omega) (by omega)).1
          rw [hb.2.2.2.2.2.1] at h5
          exact h5
        by_cases hbig : q ≥ 4294967296
        · have g1 : decide (q ≥ 4294967296) = true := decide_eq_true hbig
          have hd := down (.inl hbig)
          have wz4 : IntKind.u64.wrap (q - 1) = q - 1 := wrap_u64_in _ (by omega) (by have := HQ.out; omega)
          by_cases hbr : r + Y1 ≥ 4294967296
          · have g2 : decide (r + Y1 ≥ 4294967296) = true := decide_eq_true hbr
            have hf := fin (by have := HQ.out; omega) hbr hd
            clear down fin
            go_wp2_with fail
            go_meet
            exact ⟨by rw [hf.out], rfl⟩
          · have g2 : decide (r + Y1 ≥ 4294967296) = false := decide_eq_false hbr
            clear down fin
            go_wp2_with fail
            exact ⟨⟨q - 1, r + Y1, rfl, rfl, by have := HQ.out; omega, by have := HR.out; have := HB2.out.1; omega, hd.out.1, trivial⟩, by simp only [intOf]; omega⟩
        · have g1 : decide (q ≥ 4294967296) = false := decide_eq_false hbig
          obtain ⟨T, hT⟩ : ∃ T, q * Y0 = T := ⟨_, rfl⟩
          have hTb := mul32 (a := q) (b := Y0) HQ.out.1 (by omega) HB2.out.2.1.1 HB2.out.2.1.2
          rw [hT] at hTb
          have wz5 : IntKind.u64.wrap T = T := wrap_u64_in _ hTb.1 (by omega)
          rw [hT] at down
          by_cases hgt : T > 4294967296 * r + L0
          · have g3 : decide (T > 4294967296 * r + L0) = true := decide_eq_true hgt
            have hd := down (.inr hgt)
            have wz4 : IntKind.u64.wrap (q - 1) = q - 1 := wrap_u64_in _ (by have := hd.out.2; omega) (by have := HQ.out; omega)
            by_cases hbr : r + Y1 ≥ 4294967296
            · have g2 : decide (r + Y1 ≥ 4294967296) = true := decide_eq_true hbr
              have hf := fin (by omega) hbr hd
              clear down fin
              go_wp2_with fail
              go_meet
              exact ⟨by rw [hf.out], rfl⟩
            · have g2 : decide (r + Y1 ≥ 4294967296) = false := decide_eq_false hbr
              have HD := hd
              clear down fin hd
              go_wp2_with fail
              exact ⟨⟨q - 1, r + Y1, rfl, rfl, by have := HD.out.2; omega, by have := HR.out; have := HB2.out.1; omega, HD.out.1, trivial⟩, by simp only [intOf]; have := HD.out.2; omega⟩
          · have g3 : decide (T > 4294967296 * r + L0) = false := decide_eq_false hgt
            have hf : Hid (q = (V * 4294967296 + L0) / Y) := by
              have hb := HB2.out
              have h5 := (hK.out.exit (by omega) (by rw [hT]; omega)).1
              rw [hb.2.2.2.2.2.1] at h5
              exact h5
            clear down fin
            go_wp2_with fail
            go_meet
            exact ⟨by rw [← hf.out], rfl⟩
    case rest =>
      obtain ⟨rfl, rfl⟩ := hcut
      rw [HQ2.out]
      go_wp2_with fail
      go_ret2
      exact ⟨rfl, rfl⟩
/-- Div64, where it does not panic. -/
theorem div64_calls (hi lo y : Int) (h0 : 0 ≤ hi ∧ hi < y) (h1 : 0 ≤ lo ∧ lo < 18446744073709551616) (h2 : y < 18446744073709551616) (w : World) :
    Calls Tryz.prog 146 #[.int .u64 hi, .int .u64 lo, .int .u64 y] w fun e w' => e = .returned (.tuple #[.int .u64 ((hi * 18446744073709551616 + lo) / y), .int .u64 ((hi * 18446744073709551616 + lo) % y)]) ∧ ∃ m, w' = w.drewN m := by
  by_cases hz : hi = 0
  · subst hz
    have d1 : decide (y = 0) = false := decide_eq_false (by omega)
    have d2 : decide (y ≤ 0) = false := decide_eq_false (by omega)
    have n1 : ¬ y = 0 := by omega
    obtain ⟨Q, hQ⟩ : ∃ Q, lo / y = Q := ⟨_, rfl⟩
    obtain ⟨R, hR⟩ : ∃ Q, lo % y = Q := ⟨_, rfl⟩
    have e1 : lo.tdiv y = Q := by rw [Int.tdiv_eq_ediv_of_nonneg (by omega)]; exact hQ
    have e2 : lo.tmod y = R := by rw [Int.tmod_eq_emod_of_nonneg (by omega)]; exact hR
    have b1 : 0 ≤ Q := by rw [← hQ]; exact Int.ediv_nonneg (by omega) (by omega)
    have b2 : Q ≤ lo := by rw [← hQ]; exact Int.ediv_le_self _ (by omega)
    have b3 : 0 ≤ R := by rw [← hR]; exact Int.emod_nonneg _ (by omega)
    have b4 : R < y := by rw [← hR]; exact Int.emod_lt_of_pos _ (by omega)
    have g1 : IntKind.u64.wrap Q = Q := wrap_u64_in _ b1 (by omega)
    have g2 : IntKind.u64.wrap R = R := wrap_u64_in _ b3 (by omega)
    rw [Int.zero_mul, Int.zero_add, hQ, hR]
    clear hQ hR
    go_enter Tryz.func146, Tryz.ntmps146
    go_wp2_with fail
    go_quiet (fail)
    go_wp2_with fail
    go_ret2
    exact ⟨rfl, _, rfl⟩
  · refine (div64_main hi lo y (by omega) h1 h2 w).mono ?_
    rintro e w' ⟨rfl, rfl⟩
    exact ⟨rfl, 0, rfl⟩
end Go.Proofs.YthjimnmgbcckjaaGreat
namespace Go.Proofs.YthjimnmgbcckjaaGreat
set_option maxRecDepth 100000
open Go.RowKit Go.Inc Go.Run

set_option maxHeartbeats 1000000 in
theorem along_calls (num den d : Int) (hn : 0 ≤ num ∧ num < 18446744073709551616) (hd : 0 < den ∧ den < 18446744073709551616) (hx : 0 ≤ d ∧ d < 18446744073709551616) (hlt : num * d < 18446744073709551616 * den) (w : World) :
    Calls Tryz.prog 144 #[.int .u64 num, .int .u64 den, .int .u64 d] w fun e w' => e = .returned (.tuple #[.int .u64 (num * d / den), .bool (decide (num * d / den ≤ 2305843009213693952))]) ∧ ∃ m, w' = w.drewN m := by
  obtain ⟨H, hH⟩ : ∃ H, num * d / 18446744073709551616 = H := ⟨_, rfl⟩
  obtain ⟨L, hL⟩ : ∃ H, num * d % 18446744073709551616 = H := ⟨_, rfl⟩
  have hnn := Int.mul_nonneg hn.1 hx.1
  have hHd : decide (H ≥ den) = false := decide_eq_false (by omega)
  have HD := fun w => div64_calls H L den (by omega) (by omega) hd.2 w
  have e1 : H * 18446744073709551616 + L = num * d := by omega
  rw [e1] at HD
  have HM := fun w => mul64_calls num d hn hx w
  rw [hH, hL] at HM
  have HDH := Lib.hid HD
  have HMH := Lib.hid HM
  clear HD HM hH hL hnn hlt hn hd hx e1
  go_enter Tryz.func144, Tryz.ntmps144
  go_wp2_with fail
  refine (HMH.out w).mono ?_
  rintro e w' ⟨rfl, rfl⟩
  go_wp2_with fail
  refine (HDH.out _).mono ?_
  rintro e w2 ⟨rfl, m, rfl⟩
  go_wp2_with fail
  go_ret2
  exact ⟨rfl, m, rfl⟩

theorem least_calls (w : World) (g base : Nat) (e0 ln ld : Int) (ks : List Int) (hf : FitKeys w g base e0 ks ln ld) :
    Calls Tryz.prog 143 #[.pointer (some ⟨g, 0, none⟩)] w fun e w' => e = .returned (.agg #[.int .u64 ln, .int .u64 ld]) ∧ Fr w w' := by
  obtain ⟨last, tn, td, A0, c0, l0, A1, c1, l1, hat, _⟩ := hf
  obtain ⟨f0, f1, f2, f3, f4, f5, f6, f7, f8⟩ := fit_cells hat.1
  have hff := Lib.hid ((Fr.refl w).alloc (.cells #[.int .u64 0, .int .u64 0] 184))
  clear hat f0 f1 f2 f5 f6 f7 f8
  have g3 := hff.out.cell f3
  have g4 := hff.out.cell f4
  have hb := heap_alloc_new w (.cells #[.int .u64 0, .int .u64 0] 184)
  have z0 := blk_frozen hb 0
  have z1 := blk_frozen hb 1
  obtain ⟨y0, y1⟩ := cells2 hb
  clear hb
  go_enter Tryz.func143, Tryz.ntmps143
  go_wp2_with fail
  exact bodyPost_ret (results_cell_row rfl _ _ w.heap.size _ _ (0, 0) _ rfl (heap_alloc_new w _) Tryz.underlying184 rfl (by kernel_rfl)) rfl ⟨rfl, (Fr.refl w).alloc _⟩

/-- The keys fit, each beginning of them. -/
def FitsAll (e : Int) (L : List Int) : Prop := ∀ i, i < L.length → FitsL e (L.take (i + 1))
theorem take_snoc (L : List Int) {i : Nat} (h : i < L.length) : L.take (i + 1) = L.take i ++ [ky L i] := by
  rw [List.take_add_one, List.getElem?_eq_getElem h]
  simp [ky, h]
theorem ky_take (L : List Int) {i k : Nat} (h : k < i) : ky (L.take i) k = ky L k := by
  unfold ky
  simp [List.getD_eq_getElem?_getD, h]
theorem FitsL.pair {e : Int} {L : List Int} {n d : Int} (hR : Rise L) (h : IsLow e L n d) (hf : FitsL e L) : ∃ nt dt, IsTop e L nt dt ∧ notAbove n d nt dt := by
  obtain ⟨n', d', nt, dt, h1, h2, h3⟩ := hf
  obtain ⟨rfl, rfl⟩ := h.unique hR h1
  refine ⟨nt, dt, h2, ?_⟩
  unfold notAbove
  have hd := h.pos
  unfold slBelow at h3
  rw [if_neg (by omega)] at h3
  by_cases hz : dt = 0
  · subst hz
    have := h2.nn
    have := Int.mul_nonneg this (Int.le_of_lt hd)
    omega
  · have : (dt != 0) = true := by simpa using hz
    rw [this, Bool.true_and] at h3
    have := of_decide_eq_false h3
    omega
/-- How far the slope's part goes. -/
theorem part_le {e : Int} (he : 0 ≤ e) {L : List Int} {n d : Int} (hR : Rise L) (h : IsLow e L n d) (hf : FitsL e L) {i : Nat} (hi : i < L.length) : n * (ky L i - ky L 0) ≤ ((i : Int) + 2 * e) * d ∧ 0 ≤ n * (ky L i - ky L 0) := by
  obtain ⟨nt, dt, h2, h3⟩ := hf.pair hR h
  have h4 := agree he h h2 h3 0 i (by omega) hi
  have hx : 0 ≤ ky L i - ky L 0 := by
    rcases Nat.eq_zero_or_pos i with rfl | h0
    · omega
    · have := rise_lt hR h0 hi; omega
  refine ⟨?_, Int.mul_nonneg h.nn hx⟩
  have e1 : n * (ky L 0 - ky L i) = -(n * (ky L i - ky L 0)) := by grind
  have e2 : (((0 : Nat) : Int) - i - 2 * e) * d = -(((i : Int) + 2 * e) * d) := by grind
  rw [e1, e2] at h4
  omega

theorem cells3 {w : World} {g : Nat} {x y z : Value} {e : TypeId} (h : w.heap[g]? = some (.cells #[x, y, z] e (0, 0))) : w.cell? ⟨g, 0, none⟩ = some x ∧ w.cell? ⟨g, 1, none⟩ = some y ∧ w.cell? ⟨g, 2, none⟩ = some z := by
  refine ⟨?_, ?_, ?_⟩ <;> (rw [blk_cell h]; rfl)
/-- The base of the first i keys. -/
def BaseUp (e n d : Int) (L : List Int) (i : Nat) (B : Int) : Prop := (∀ j, j < i → (j : Int) - e - Go.Run.part n d L j ≤ B) ∧ (i = 0 → B = -e) ∧ (0 < i → ∃ j, j < i ∧ B = (j : Int) - e - Go.Run.part n d L j)
theorem BaseUp.next {e n d : Int} {L : List Int} {i : Nat} {B : Int} (h : BaseUp e n d L i B) : BaseUp e n d L (i + 1) (max B ((i : Int) - e - Go.Run.part n d L i)) := by
  refine ⟨fun j hj => ?_, fun h0 => by omega, fun _ => ?_⟩
  · rcases Nat.lt_or_ge j i with h1 | h1
    · have := h.1 j h1; omega
    · obtain rfl : j = i := by omega
      omega
  · rcases Int.le_total B ((i : Int) - e - Go.Run.part n d L i) with h1 | h1
    · exact ⟨i, by omega, by omega⟩
    · rcases Nat.eq_zero_or_pos i with h0 | h0
      · refine ⟨i, by omega, ?_⟩
        have h2 := h.2.1 h0
        subst h0
        have : Go.Run.part n d L 0 = 0 := by unfold Go.Run.part; rw [Int.sub_self, Int.mul_zero, Int.zero_ediv]
        rw [this] at h1 ⊢
        omega
      · obtain ⟨j, hj, hB⟩ := h.2.2 h0
        exact ⟨j, by omega, by omega⟩
theorem BaseUp.isBase {e n d : Int} {L : List Int} {B : Int} (h : BaseUp e n d L L.length B) (h0 : 0 < L.length) : IsBase e n d L B := ⟨h.1, h.2.2 h0⟩

set_option maxHeartbeats 4000000 in
theorem lof_calls (L : List Int) (A : Option Addr) (n c : Nat) (eps : Int) (hn : n = L.length) (h0 : 0 < L.length) (hl : L.length ≤ 4294967296) (he : 2 ≤ eps ∧ eps ≤ 64) (hR : Rise L) (hK : KeysOk L) (hF : FitsAll (eps - 1) L) (w : World) (hr : RdC w A (L.map uv)) :
    Calls Tryz.prog 130 #[.slice A n c, .int .i64 eps] w fun r w' => ∃ num den base, r = .returned (.tuple #[.agg #[.int .u64 num, .int .u64 den, .int .i64 base], .int .i64 0]) ∧ IsLow (eps - 1) L num den ∧ IsBase (eps - 1) num den L base ∧ Fr w w' := by
  obtain ⟨b, off, hA, hc⟩ := rdc_ky hr h0
  subst hA
  have HR := Lib.hid hr
  have HN := Lib.hid hn
  have HRI := Lib.hid hR
  have HK := Lib.hid hK
  have HF := Lib.hid hF
  have HC := Lib.hid hc
  have hln : n ≤ 4294967296 := by omega
  have h0n : 0 < n := by omega
  have hE := he
  have d0 : ((n : Int) == 0) = false := by
    rw [beq_eq_false_iff_ne]; omega
  clear hr hn hR hK hF hc h0 hl
  go_enter Tryz.func130, Tryz.ntmps130
  go_wp2_with fail
  obtain ⟨w1, hw1⟩ : ∃ w1, w1 = w.alloc (.cells #[.int .u64 0, .int .u64 0, .int .i64 0] 175) := ⟨_, rfl⟩
  have hb1 := Lib.hid (heap_alloc_new w (.cells #[.int .u64 0, .int .u64 0, .int .i64 0] 175))
  have hf1 := Lib.hid ((Fr.refl w).alloc (.cells #[.int .u64 0, .int .u64 0, .int .i64 0] 175))
  rw [← hw1] at hb1 hf1 ⊢
  clear hw1
  refine (new_fit eps hE w1.heap.size w1 (Nat.le_refl _)).mono ?_
  rintro r w2 ⟨rfl, hf2, hbs, hfk⟩
  have HFK := Lib.hid hfk
  have HF2 := Lib.hid hf2
  obtain ⟨g, hg⟩ : ∃ g, g = w1.heap.size := ⟨_, rfl⟩
  rw [← hg] at HFK ⊢
  have HG := Lib.hid hg
  clear hfk hf2 hbs hg
  go_wp2_with fail
  refine (rising_calls L _ n c HN.out (by have := HN.out; omega) _ (HR.out.fr (hf1.out.trans HF2.out))).mono ?_
  rintro r w3 ⟨rfl, hf3⟩
  have hris : decide (Rise L) = true := decide_eq_true HRI.out
  rw [hris]
  have HF3 : Hid (Fr w1 w3) := HF2.out.trans hf3
  have HFK3 : Hid (FitKeys w3 g g (eps - 1) (L.take 0) 0 1) := by
    obtain ⟨last, tn, td, A0, c0, l0, A1, c1, l1, hat, hrest⟩ := HFK.out
    exact ⟨last, tn, td, A0, c0, l0, A1, c1, l1, fit_fr hat hf3, hrest⟩
  clear hris hf3
  go_wp2_with fail
  go_loopw [39] (fun v wr => ∃ i : Nat, v = .int .i64 i ∧ i ≤ n ∧ Hid (∃ ln ld, FitKeys wr g g (eps - 1) (L.take i) ln ld) ∧ Hid (Fr w1 wr)) (fun v _ => n - (intOf v).toNat)
  case atStart => exact ⟨0, rfl, by omega, ⟨0, 1, HFK3.out⟩, HF3.out⟩
  case round =>
    obtain ⟨i, rfl, hin, hfk, hf⟩ := hrel
    rcases Nat.lt_or_ge i n with hlt | hge
    · have g1 : decide (i < n) = true := decide_eq_true hlt
      have g0 : (i : Int) < (n : Int) := by omega
      have c1 := (hf1.out.trans hf.out).cell (HC.out i (by have := HN.out; omega))
      have wi : IntKind.i64.wrap ((i : Int) + 1) = (i : Int) + 1 := wrap_i64_in _ (by omega) (by omega)
      have hkb := Lib.hid (HK.out.ky (show i < L.length by have := HN.out; omega))
      go_wp2_with fail
      obtain ⟨ln, ld, hfk⟩ := hfk.out
      have hlen : (L.take i).length = i := by rw [List.length_take]; have := HN.out; omega
      refine (add_fit g g (eps - 1) (ky L i) ln ld (L.take i) (by omega) (by omega) hkb.out (fun hp => ?_) wr hfk (Nat.le_refl _) (by have := HG.out; have := hf.out.size; omega)).mono ?_
      · rw [hlen] at hp ⊢
        rw [ky_take L (by omega)]
        exact rise_lt HRI.out (by omega) (by have := HN.out; omega)
      · rintro r w4 ⟨hmv, hor⟩
        have hf4 : Hid (Fr w1 w4) := hf.out.mv hmv (fun k hk => by have := HG.out; have := hk.1; omega)
        rcases hor with ⟨_, rfl, hfk4⟩ | ⟨hno, _⟩
        · rw [← take_snoc L (by have := HN.out; omega)] at hfk4
          have HFK4 := Lib.hid hfk4
          clear hmv hfk4 hfk c1
          go_wp2_with fail
          exact ⟨⟨i + 1, rfl, by omega, HFK4.out, hf4.out⟩, by simp only [intOf]; omega⟩
        · refine absurd (HF.out i (by have := HN.out; omega)) ?_
          rw [take_snoc L (by have := HN.out; omega)]
          exact hno.not (by rw [← take_snoc L (by have := HN.out; omega)]; exact HRI.out.sublist (List.take_sublist _ _))
    · obtain rfl : i = n := by omega
      have g1 : decide (i < i) = false := by simp
      go_wp2_with fail
      obtain ⟨num, den, hfk⟩ := hfk.out
      rw [List.take_of_length_le (by have := HN.out; omega)] at hfk
      have HLOW : Hid (IsLow (eps - 1) L num den ∧ FitsL (eps - 1) L) := by
        obtain ⟨last, tn, td, A0, c0, l0, A1, c1, l1, hat, _, _, _, h5, h6, h7, _⟩ := hfk
        exact ⟨h5, num, den, tn, td, h5, h6, h7⟩
      refine (least_calls wr g g (eps - 1) num den L hfk).mono ?_
      rintro r w5 ⟨rfl, hf5⟩
      have HF5 : Hid (Fr w1 w5) := hf.out.trans hf5
      clear hfk hf5
      have hlb := low_bound (show 0 ≤ eps - 1 ∧ eps - 1 ≤ 63 by omega) (show L.length ≤ 4294967296 by have := HN.out; omega) HRI.out HK.out HLOW.out.1
      have wB : IntKind.i64.wrap (1 - eps) = 1 - eps := wrap_i64_in _ (by omega) (by omega)
      have wE : IntKind.i64.wrap (eps - 1) = eps - 1 := wrap_i64_in _ (by omega) (by omega)
      go_wp2_with fail
      obtain ⟨w7, hw7⟩ : ∃ w7, w7 = ((w5.alloc (.cells #[.int .u64 num, .int .u64 den] 184)).alloc (.cells #[.int .u64 num, .int .u64 den, .int .i64 (1 - eps)] 175)) := ⟨_, rfl⟩
      have hb12 := Lib.hid (heap_alloc2_old w5 (.cells #[.int .u64 num, .int .u64 den] 184) (.cells #[.int .u64 num, .int .u64 den, .int .i64 (1 - eps)] 175))
      have hb13 := Lib.hid (heap_alloc2_new w5 (.cells #[.int .u64 num, .int .u64 den] 184) (.cells #[.int .u64 num, .int .u64 den, .int .i64 (1 - eps)] 175))
      have hf7 : Hid (Fr w1 w7) := by rw [hw7]; exact (HF5.out.alloc _).alloc _
      rw [← hw7] at hb12 hb13 ⊢
      clear hw7
      obtain ⟨b2, hb2⟩ : ∃ b2, b2 = w5.heap.size := ⟨_, rfl⟩
      obtain ⟨b3, hb3⟩ : ∃ b3, b3 = w5.heap.size + 1 := ⟨_, rfl⟩
      rw [← hb3] at hb13 ⊢
      rw [← hb2] at hb12 ⊢
      have HBB : Hid (b2 ≠ b3 ∧ w1.heap.size ≤ b2 ∧ w1.heap.size ≤ b3) := by have := HF5.out.size; refine ⟨by omega, by omega, by omega⟩
      have HW1 : Hid (w.heap.size < w1.heap.size) := by have := blk_lt hb1.out; exact this
      clear hb2 hb3
      go_loopw [64] (fun v wr => ∃ (j : Nat) (B : Int), v = .int .i64 j ∧ j ≤ i ∧ Hid (BaseUp (eps - 1) num den L j B) ∧ Hid (wr.heap[b3]? = some (.cells #[.int .u64 num, .int .u64 den, .int .i64 B] 175)) ∧ Hid (Mv (one1 b3) w7 wr)) (fun v _ => i - (intOf v).toNat)
      case atStart => exact ⟨0, 1 - eps, rfl, by omega, ⟨fun j hj => by omega, fun _ => by omega, fun h => by omega⟩, hb13.out, Mv.refl _ _⟩
      case round =>
        obtain ⟨j, B, rfl, hji, hbu, hB3, hmv⟩ := hrel
        have hfr : Hid (Fr w1 wr) := hf7.out.mv hmv.out (fun k hk => by rw [show k = b3 from hk]; exact HBB.out.2.2)
        have hB2 : Hid (wr.heap[b2]? = some (.cells #[.int .u64 num, .int .u64 den] 184)) := hmv.out.blk hb12.out (fun e => HBB.out.1 e)
        rcases Nat.lt_or_ge j i with hlt | hge
        · have g2 : decide (j < i) = true := decide_eq_true hlt
          have g0 : (j : Int) < (i : Int) := by omega
          have g00 : (0 : Int) < (i : Int) := by omega
          have c1 := (hf1.out.trans hfr.out).cell (HC.out j (by have := HN.out; omega))
          have c0 := (hf1.out.trans hfr.out).cell (HC.out 0 (by have := HN.out; omega))
          rw [Nat.add_zero] at c0
          obtain ⟨s0, s1⟩ := cells2 hB2.out
          have t2 : wr.cell? ⟨b3, 2, none⟩ = some (.int .i64 B) := by rw [blk_cell hB3.out]; rfl
          have z2 := blk_frozen hB3.out 2
          have wi : IntKind.i64.wrap ((j : Int) + 1) = (j : Int) + 1 := wrap_i64_in _ (by omega) (by omega)
          obtain ⟨x, hx⟩ : ∃ x, ky L j = x := ⟨_, rfl⟩
          obtain ⟨y, hy⟩ : ∃ y, ky L 0 = y := ⟨_, rfl⟩
          have hxb := HK.out.ky (show j < L.length by have := HN.out; omega)
          have hyb := HK.out.ky (show 0 < L.length by have := HN.out; omega)
          have hpl := part_le (show 0 ≤ eps - 1 by omega) HRI.out HLOW.out.1 HLOW.out.2 (show j < L.length by have := HN.out; omega)
          have hyx : y ≤ x := by
            rcases Nat.eq_zero_or_pos j with h | h
            · subst h; omega
            · have := rise_lt HRI.out h (show j < L.length by have := HN.out; omega); omega
          have hpe : Go.Run.part num den L j = num * (x - y) / den := by unfold Go.Run.part; rw [hx, hy]
          rw [hx] at c1 hxb hpl
          rw [hy] at c0 hyb hpl
          have hwd : IntKind.u64.wrap (x - y) = x - y := wrap_u64_in _ (by omega) (by omega)
          have AC := fun w => along_calls num den (x - y) (by omega) (by omega) (by omega) (by
            have : ((j : Int) + 2 * (eps - 1)) * den ≤ 18446744073709551615 * den := Int.mul_le_mul_of_nonneg_right (by omega) (by omega)
            omega) w
          obtain ⟨P, hP⟩ : ∃ P, num * (x - y) / den = P := ⟨_, rfl⟩
          rw [hP] at AC hpe
          have hP0 : 0 ≤ P := by rw [← hP]; exact Int.ediv_nonneg hpl.2 (by omega)
          have hP1 : P ≤ (j : Int) + 2 * (eps - 1) := by
            rw [← hP]
            have := Int.ediv_le_ediv (show 0 < den by omega) hpl.1
            rwa [Int.mul_ediv_cancel _ (by omega)] at this
          have ACH := Lib.hid AC
          have w64 : wrap64 P = P := by unfold wrap64; omega
          have hBb : -(eps - 1) ≤ B ∧ B ≤ j := by
            rcases Nat.eq_zero_or_pos j with h | h
            · have := hbu.out.2.1 h; omega
            · obtain ⟨k, hk, hB⟩ := hbu.out.2.2 h
              have h1 := hbu.out.1 0 h
              have : Go.Run.part num den L 0 = 0 := by unfold Go.Run.part; rw [Int.sub_self, Int.mul_zero, Int.zero_ediv]
              have hpk := part_le (show 0 ≤ eps - 1 by omega) HRI.out HLOW.out.1 HLOW.out.2 (show k < L.length by have := HN.out; omega)
              have : 0 ≤ Go.Run.part num den L k := Int.ediv_nonneg hpk.2 (by omega)
              omega
          have wj1 : IntKind.i64.wrap ((j : Int) - (eps - 1)) = (j : Int) - (eps - 1) := wrap_i64_in _ (by omega) (by omega)
          have wj2 : IntKind.i64.wrap ((j : Int) - (eps - 1) - P) = (j : Int) - (eps - 1) - P := wrap_i64_in _ (by omega) (by omega)
          have HP := Lib.hid (And.intro hpe hBb)
          clear hx hy hxb hyb hpl hyx hpe AC hP hP0 hP1 hBb hlb
          go_wp2_with fail
          go_quiet (first | (go_at_call 144; exact Calls.quiet_of (ACH.out _)))
          go_wp2_with fail
          exact ⟨⟨j + 1, max B ((j : Int) - (eps - 1) - P), rfl, by omega, by have := hbu.out.next; rw [HP.out.1] at this; exact this, blk_set hB3.out 2 _, (hmv.out.drewN _).set (p := ⟨b3, 2, none⟩) (.inl rfl) _⟩, by simp only [intOf]; omega⟩
        · obtain rfl : j = i := by omega
          have g2 : decide (j < j) = false := by simp
          have hb1' : Hid (wr.heap[w.heap.size]? = some (.cells #[.int .u64 0, .int .u64 0, .int .i64 0] 175)) := hfr.out.blk hb1.out
          have z0 := blk_frozen hb1'.out 0
          have z1 := blk_frozen hb1'.out 1
          have z2 := blk_frozen hb1'.out 2
          obtain ⟨y0, y1, y2⟩ := cells3 hb1'.out
          obtain ⟨x0, x1, x2⟩ := cells3 hB3.out
          have hbase := Lib.hid (hbu.out)
          clear hbu
          go_wp2_with fail
          refine bodyPost_ret (results_row_tmp rfl _ _ w.heap.size _ _ (0, 0) _ rfl (blk_set (blk_set (blk_set hb1'.out 0 _) 1 _) 2 _) Tryz.underlying175 rfl (by kernel_rfl) _ rfl) rfl ⟨num, den, B, rfl, HLOW.out.1, ?_, (((hf1.out.trans hfr.out).set (p := ⟨w.heap.size, 0, none⟩) (Nat.le_refl _) _).set (p := ⟨w.heap.size, 1, none⟩) (Nat.le_refl _) _).set (p := ⟨w.heap.size, 2, none⟩) (Nat.le_refl _) _⟩
          rw [HN.out] at hbase
          exact hbase.out.isBase (by have := HN.out; omega)
end Go.Proofs.YthjimnmgbcckjaaGreat
