/- Parts of this proof, one behind the other: CdT, CdU. -/
import Derived.Test.YthjimnmgbcckjaaGreatQR
import Derived.Test.YthjimnmgbcckjaaGreatQP
import Derived.Test.YthjimnmgbcckjaaGreatQJ
namespace Go.Proofs.YthjimnmgbcckjaaGreat
open Go.RowKit Go.Inc Go.Run

theorem maxH_log {e : Nat} (he : 2 ≤ e) : ∀ (k n : Nat), n ≤ 2 ^ k + 2 → maxH e n ≤ k + 1
  | 0, n, h => by
    rw [Nat.pow_zero] at h
    by_cases h0 : n < 1
    · rw [maxH, if_pos h0]; omega
    · rw [maxH_one (by omega) (by omega)]; omega
  | k + 1, n, h => by
    by_cases h0 : n < 1
    · rw [maxH, if_pos h0]; omega
    · by_cases h1 : n + 1 ≤ 2 * e
      · rw [maxH_one (by omega) h1]; omega
      · rw [maxH_step he (by omega)]
        have h2 : n / e + 1 ≤ 2 ^ k + 2 := by
          have h3 : n / e ≤ n / 2 := Nat.div_le_div_left he (by decide)
          rw [Nat.pow_succ] at h
          omega
        have := maxH_log he k (n / e + 1) h2
        omega
theorem maxH_33 {e : Nat} (he : 2 ≤ e) : maxH e 4294967296 ≤ 33 := maxH_log he 32 _ (by decide)
theorem codes_of {eps : Nat} {E : List Ent} {Ss : List (List Seg)} (he : 2 ≤ eps ∧ eps ≤ 64) (hE : ∀ e ∈ E, EntOk e) (hl : E.length ≤ 268435456) (hS : ∀ S ∈ Ss, S.length ≤ 4294967296 ∧ ∀ s ∈ S, SegFit s) (hV : EntsV E 0) (hc : checkV (eps : Nat) (keysE E) Ss = 0) : Codes eps E Ss ∧ Ss.length ≤ 33 := by
  obtain ⟨h1, h2⟩ := checkV_lev hc hS
  have h3 := maxH_33 he.1
  rw [Int.toNat_natCast] at h2
  exact ⟨⟨he.2, by omega, fun e he' => ⟨hE e he', (entsV_zero hV).2 e he'⟩, by omega, h1⟩, by omega⟩
theorem ents_len (E : List Ent) : (E.flatMap encE).length ≤ 17 * E.length := by
  induction E with
  | nil => simp
  | cons e E ih =>
    rw [List.flatMap_cons, List.length_append, List.length_cons, encE_len]
    split <;> omega
theorem rows_len {M : Nat} {Ss : List (List Seg)} (h : ∀ S ∈ Ss, S.length ≤ M) : (Ss.flatMap encRow).length ≤ Ss.length * (8 + 24 * M) := by
  induction Ss with
  | nil => simp
  | cons S Ss ih =>
    have h1 := ih (fun T hT => h T (by simp [hT]))
    have h2 := h S (by simp)
    have h3 : (encRow S).length = 8 + S.length * 24 := by unfold encRow; rw [List.length_append, be8_length, flat_len encS 24 encS_len]
    rw [List.flatMap_cons, List.length_append, List.length_cons, Nat.add_mul, h3]
    omega
theorem enc_len {eps : Nat} {E : List Ent} {Ss : List (List Seg)} {M : Nat} (hE : E.length ≤ 1048576) (hS : ∀ S ∈ Ss, S.length ≤ M) (hM : M ≤ 1048576) (hN : Ss.length ≤ 33) : (encB incW eps E Ss).length ≤ 2147483648 := by
  have h1 := ents_len E
  have h2 := rows_len hS
  have h3 : Ss.length * (8 + 24 * M) ≤ 33 * (8 + 24 * M) := Nat.mul_le_mul_right _ hN
  have h4 : (encB incW eps E Ss).length = 28 + (E.flatMap encE).length + (Ss.flatMap encRow).length := by
    unfold encB encEs encLs incW
    simp only [List.length_append, be8_length, List.length_cons, List.length_nil]
    omega
  omega
theorem getB_enc {eps : Nat} {E : List Ent} {Ss : List (List Seg)} (hc : Codes eps E Ss) (he : 2 ≤ eps) (hV : EntsV E 0) (hk : checkV (eps : Nat) (keysE E) Ss = 0) : getB (bstr (encB incW eps E Ss)) = some (eps, E, Ss) :=
  getB_yes (decB_iff.2 ⟨hc, bstr_data _⟩) ⟨⟨he, hc.eps⟩, hV, hk⟩
theorem getB_back {bs : List UInt8} {eps : Nat} {E : List Ent} {Ss : List (List Seg)} (h : getB (bstr bs) = some (eps, E, Ss)) : Codes eps E Ss ∧ bs = encB incW eps E Ss ∧ (2 ≤ eps ∧ eps ≤ 64) ∧ EntsV E 0 ∧ checkV (eps : Nat) (keysE E) Ss = 0 := by
  obtain ⟨h1, h2⟩ := getB_some h
  obtain ⟨h3, h4⟩ := decB_iff.1 h1
  rw [bstr_data] at h4
  exact ⟨h3, h4, h2⟩
theorem getB_pre {b b' : List UInt8} {x y : Nat × List Ent × List (List Seg)} (h : getB (bstr b) = some x) (h' : getB (bstr b') = some y) (hp : b <+: b') : b = b' := by
  obtain ⟨eps, E, Ss⟩ := x
  obtain ⟨eps', E', Ss'⟩ := y
  have := decB_pre (getB_some h).1 (getB_some h').1 (by rw [bstr_data, bstr_data]; exact hp)
  rwa [bstr_data, bstr_data] at this
theorem getB_short {b b' : List UInt8} {x : Nat × List Ent × List (List Seg)} (h' : getB (bstr b') = some x) (hp : b <+: b') (hl : b.length < b'.length) : getB (bstr b) = none := by
  cases h : getB (bstr b) with
  | none => rfl
  | some y => have := getB_pre h h' hp; rw [this] at hl; omega
theorem getB_long {b b' : List UInt8} {x : Nat × List Ent × List (List Seg)} (h : getB (bstr b) = some x) (hp : b <+: b') (hl : b.length < b'.length) : getB (bstr b') = none := by
  cases h' : getB (bstr b') with
  | none => rfl
  | some y => have := getB_pre h h' hp; rw [this] at hl; omega
theorem getB_nil : getB (bstr []) = none := by
  refine getB_none ?_
  unfold decB
  rw [if_pos]
  intro h
  have h1 := (rdW_iff (bstr []) incW).1 h
  have h2 := List.IsPrefix.length_le h1
  rw [List.length_drop, bstr_data] at h2
  exact absurd h2 (by decide)
/-- Get, where it is known what the bytes are. -/
theorem get_some (A : Option Addr) (n c : Nat) (bs : List UInt8) (hn : n = bs.length) (hb : bs.length ≤ 2147483648) (w : World) (hr : RdC w A (bs.map bv)) {eps : Nat} {E : List Ent} {Ss : List (List Seg)} (hg : getB (bstr bs) = some (eps, E, Ss)) :
    Calls Tryz.prog 13 #[.slice A n c] w fun e w' => Fr w w' ∧ ∃ r base, e = .returned (.tuple #[.pointer (some ⟨r, 0, none⟩), .int .i64 0]) ∧ w.heap.size ≤ base ∧ IsRun w' r base (eps : Nat) E Ss := by
  refine (cdGet_calls A n c bs hn hb w hr).mono fun e w' h => ?_
  unfold GetOut at h
  rw [hg] at h
  exact h
theorem get_none (A : Option Addr) (n c : Nat) (bs : List UInt8) (hn : n = bs.length) (hb : bs.length ≤ 2147483648) (w : World) (hr : RdC w A (bs.map bv)) (hg : getB (bstr bs) = none) :
    Calls Tryz.prog 13 #[.slice A n c] w fun e w' => Fr w w' ∧ e = .returned (.tuple #[.pointer none, .int .i64 120]) := by
  refine (cdGet_calls A n c bs hn hb w hr).mono fun e w' h => ?_
  unfold GetOut at h
  rw [hg] at h
  exact h
theorem taken_of {w : World} {r base : Nat} {eps : Nat} {E : List Ent} {Ss : List (List Seg)} (h : IsRun w r base (eps : Nat) E Ss) (hE : ∀ e ∈ E, EntOk e) (hl : E.length ≤ 268435456) (hS : ∀ S ∈ Ss, S.length ≤ 4294967296 ∧ ∀ s ∈ S, SegFit s) (hV : EntsV E 0) (hc : checkV (eps : Nat) (keysE E) Ss = 0) : ∃ p, Taken w r p (eps : Nat) E Ss := by
  obtain ⟨p, hp⟩ := h.toR
  exact ⟨p, hp, ⟨(entsV_zero hV).1, keysE_ok hE, by rw [keysE_len]; omega, hS, hc⟩, hV⟩
theorem chain_fit {K : List Int} (hK : KeysOk K) : ∀ {S : List Seg} {f : Nat}, ChainS K f S → ∀ s ∈ S, SegFit s
  | [], _, _, s, hs => by simp at hs
  | x :: S, f, h, s, hs => by
    obtain ⟨⟨_, h2, h3, _, _⟩, ⟨_, h6⟩, ⟨_, h7⟩, h8⟩ := h
    rcases List.mem_cons.1 hs with rfl | hs
    · exact ⟨⟨h6, h7⟩, by rw [h3]; exact hK.ky h2⟩
    · exact chain_fit hK h8 s hs
theorem levC_fit : ∀ {Ss : List (List Seg)} {K : List Int}, KeysOk K → LevC K Ss → ∀ S ∈ Ss, S.length ≤ 4294967296 ∧ ∀ s ∈ S, SegFit s
  | [], _, _, _, S, hS => by simp at hS
  | X :: Ss, K, hK, h, S, hS => by
    obtain ⟨h1, h2, h3⟩ := h
    rcases List.mem_cons.1 hS with rfl | hS
    · exact ⟨h1, chain_fit hK h2⟩
    · exact levC_fit (firsts_ok (chain_fit hK h2)) h3 S hS
theorem Codes.fit {eps : Nat} {E : List Ent} {Ss : List (List Seg)} (h : Codes eps E Ss) : ∀ S ∈ Ss, S.length ≤ 4294967296 ∧ ∀ s ∈ S, SegFit s := levC_fit (keysE_ok (fun e he => (h.ents e he).1)) h.levs
/-- Bytes that are read as a run are not many where the bytes are not. -/
theorem enc_small {eps : Nat} {E : List Ent} {Ss : List (List Seg)} : E.length * 9 ≤ (encB incW eps E Ss).length ∧ Ss.length * 8 ≤ (encB incW eps E Ss).length ∧ ∀ S ∈ Ss, S.length * 24 ≤ (encB incW eps E Ss).length := by
  have h4 : (encB incW eps E Ss).length = 28 + (E.flatMap encE).length + (Ss.flatMap encRow).length := by
    unfold encB encEs encLs incW
    simp only [List.length_append, be8_length, List.length_cons, List.length_nil]
    omega
  have h1 : ∀ E : List Ent, E.length * 9 ≤ (E.flatMap encE).length := by
    intro E
    induction E with
    | nil => simp
    | cons e E ih =>
      rw [List.flatMap_cons, List.length_append, List.length_cons, encE_len]
      split <;> omega
  have h2 : ∀ Ss : List (List Seg), Ss.length * 8 ≤ (Ss.flatMap encRow).length ∧ ∀ S ∈ Ss, S.length * 24 ≤ (Ss.flatMap encRow).length := by
    intro Ss
    induction Ss with
    | nil => exact ⟨by simp, fun S hS => by simp at hS⟩
    | cons S Ss ih =>
      have h3 : (encRow S).length = 8 + S.length * 24 := by unfold encRow; rw [List.length_append, be8_length, flat_len encS 24 encS_len]
      rw [List.flatMap_cons, List.length_append, List.length_cons, h3]
      refine ⟨by have := ih.1; omega, fun T hT => ?_⟩
      rcases List.mem_cons.1 hT with rfl | hT
      · omega
      · have := ih.2 T hT; omega
  have h5 := h1 E
  obtain ⟨h6, h7⟩ := h2 Ss
  exact ⟨by omega, by omega, fun S hS => by have := h7 S hS; omega⟩
end Go.Proofs.YthjimnmgbcckjaaGreat
namespace Go.Proofs.YthjimnmgbcckjaaGreat
set_option maxRecDepth 100000
open Go.RowKit Go.Inc Go.Run
attribute [local go_sem] run_store_float

def E12 : List Ent := [⟨10, 7, false⟩]
theorem ents12 : EntsV E12 0 := .ok (by unfold Rise; decide) (by decide)
theorem entok12 : ∀ e ∈ E12, EntOk e := by
  intro e he
  obtain rfl := List.mem_singleton.1 he
  exact ⟨by decide, by decide⟩
theorem levels12 {Ss : List (List Seg)} (h : LevelsOf 1 (keysE E12) Ss) : ∃ s, Ss = [[s]] := by
  have hR : Rise (keysE E12) := by unfold Rise; decide
  cases Ss with
  | nil => exact absurd h (by show ¬ (keysE E12 = []); decide)
  | cons S Ss =>
    obtain ⟨h1, h2, h3, h4⟩ := h
    have h5 : S.length = 1 := by
      rcases level_less (by decide) hR h1 h2 with h | h
      · exact h
      · have := level_pos h1 h2
        have h6 : (keysE E12).length = 1 := rfl
        omega
    obtain rfl := h3 h5
    match S, h5 with
    | [s], _ => exact ⟨s, rfl⟩

set_option maxHeartbeats 4000000 in
theorem shown12_calls (w : World) : Calls Tryz.prog 9 #[] w fun e w' => e = .returned (.bool true) ∧ Fr w w' := by
  obtain ⟨w1, hw1⟩ : ∃ w1, w1 = w.alloc (.cells #[.int .u64 10, .int .u64 7, .bool false] 52) := ⟨_, rfl⟩
  have HF1 : Hid (Fr w w1) := by rw [hw1]; exact (Fr.refl w).alloc _
  have NEW := Lib.hid (rnew_any E12 (some ⟨w.heap.size, 0, none⟩) 1 1 2 rfl (by decide) (by decide) entok12 w1 (by rw [hw1]; exact RdC.of_blk (heap_alloc_new w _)))
  go_enter Tryz.func9, Tryz.ntmps9
  go_wp2_with fail
  rw [← hw1]
  clear hw1
  refine NEW.out.mono ?_
  rintro _ w2 ⟨hf2, hor⟩
  rcases hor with ⟨v, hv, hE, rfl⟩ | ⟨he2, r, p, Ss, rfl, hbase, hb⟩
  · exfalso
    rcases hE with ⟨h, _⟩ | ⟨_, h⟩
    · omega
    · exact hv (entsV_only ents12 h)
  obtain ⟨s, hs⟩ := levels12 hb.lv
  subst hs
  have HF2 : Hid (Fr w w2) := HF1.out.trans hf2
  obtain ⟨hc, _⟩ := codes_of (eps := 2) (E := E12) (Ss := [[s]]) ⟨by decide, by decide⟩ entok12 (by decide) hb.ok.rows ents12 hb.ok.chk
  obtain ⟨B, hB⟩ : ∃ B, encB incW 2 E12 [[s]] = B := ⟨_, rfl⟩
  have hl : B.length = 77 := by rw [← hB]; unfold encB encEs encLs incW; simp [be8_length, encE, encRow, encS, E12]
  have hg : getB (bstr B) = some (2, E12, [[s]]) := by rw [← hB]; exact getB_enc hc (by decide) ents12 hb.ok.chk
  have PUT : Hid (∀ w', Fr w2 w' → Calls Tryz.prog 11 #[.pointer (some ⟨r, 0, none⟩)] w' (Made w' w'.heap.size B)) := fun w' hf => by
    rw [← hB]; exact cdPut_calls r p 2 E12 [[s]] w' (hb.fr hf).run hc (by decide) (by simp) (fun S hS => (hb.small.2 S hS)) (by rw [hB, hl]; decide)
  have GET : Hid (∀ w' A c, RdC w' A (B.map bv) → Calls Tryz.prog 13 #[.slice A 77 c] w' fun e w'' => Fr w' w'' ∧ ∃ r base, e = .returned (.tuple #[.pointer (some ⟨r, 0, none⟩), .int .i64 0]) ∧ w'.heap.size ≤ base ∧ IsRun w'' r base ((2 : Nat) : Int) E12 [[s]]) := fun w' A c h => get_some A 77 c B hl.symm (by omega) w' h hg
  have GETN : Hid (∀ w', Calls Tryz.prog 13 #[.slice none 0 0] w' fun e w'' => Fr w' w'' ∧ e = .returned (.tuple #[.pointer none, .int .i64 120])) := fun w' => get_none none 0 0 [] rfl (by simp) w' (RdC.nil _ _) getB_nil
  have HL := Lib.hid hl
  clear hb hc hB hg hl hf2 hbase he2 NEW
  go_wp2_with fail
  refine (PUT.out w2 (Fr.refl _)).mono ?_
  rintro _ w3 ⟨A3, c3, rfl, ho3, hf3⟩
  have HR3 : Hid (RdC w3 A3 (B.map bv)) := ho3.rd
  have HF3 : Hid (Fr w w3) := HF2.out.trans hf3
  rw [HL.out]
  clear ho3 hf3
  go_wp2_with fail
  refine (GET.out w3 A3 c3 HR3.out).mono ?_
  rintro _ w4 ⟨hf4, x, base, rfl, hbase, hrun⟩
  obtain ⟨px, hx⟩ := hrun.toR
  have HF4 : Hid (Fr w w4) := HF3.out.trans hf4
  have HX : Hid (∀ w', Fr w4 w' → RunR w' x px ((2 : Nat) : Int) E12 [[s]]) := fun w' hf => hx.fr hf
  clear hf4 hbase hrun hx
  go_wp2_with fail
  refine (GETN.out w4).mono ?_
  rintro _ w5 ⟨hf5, rfl⟩
  have HF5 : Hid (Fr w w5) := HF4.out.trans hf5
  have HF45 := Lib.hid hf5
  clear hf5
  go_wp2_with fail
  refine (rat_calls x px 2 E12 [[s]] 0 (by decide) (by decide) w5 (HX.out w5 HF45.out)).mono ?_
  rintro _ w6 ⟨hf6, rfl⟩
  have ha : atV E12 0 = (⟨10, 7, false⟩, 0) := rfl
  rw [ha]
  unfold entV
  dsimp only
  have HF6 : Hid (Fr w w6) := HF5.out.trans hf6
  have HF46 : Hid (Fr w4 w6) := HF45.out.trans hf6
  have hba := heap_alloc_new w6 (.cells #[.int .u64 10, .int .u64 7, .bool false] 52)
  obtain ⟨z0, z1, z2⟩ := cells3 hba
  have LEN := Lib.hid (rlen_calls x px 2 E12 [[s]] (w6.alloc (.cells #[.int .u64 10, .int .u64 7, .bool false] 52)) (HX.out _ (HF46.out.alloc _)))
  have hen := ent_eql
  clear hf6 ha hba
  have heq : eqE ⟨10, 7, false⟩ ⟨10, 7, false⟩ = true := by decide
  have HF7 : Hid (Fr w (w6.alloc (.cells #[.int .u64 10, .int .u64 7, .bool false] 52))) := HF6.out.alloc _
  go_wp2_with fail
  refine LEN.out.mono ?_
  rintro _ w7 ⟨rfl, rfl⟩
  have hl1 : E12.length = 1 := rfl
  go_wp2_with fail
  go_ret
  exact ⟨rfl, HF7.out⟩
end Go.Proofs.YthjimnmgbcckjaaGreat
