/- Parts of this proof, one behind the other: Ends, Real, Pack, Model, Along. -/
import Derived.WalkMore
import Derived.Laws.FloatBits
import Derived.Laws.FloatArith
import Derived.Deep.RegionWith
import Derived.StillTail
import Derived.Laws.Entries
import Derived.Test.YthjimnmgbcckjaaGreatQD
import Derived.Test.YthjimnmgbcckjaaGreatQA
namespace Go.Proofs.YthjimnmgbcckjaaGreat
set_option maxRecDepth 100000
open Go.RowKit Go.Inc Go.Run

/-- The keys of a stretch. -/
def seg (L : List Int) (s t : Nat) : List Int := (L.drop s).take (t - s)
theorem seg_len {L : List Int} {s t : Nat} (h1 : s ≤ t) (h2 : t ≤ L.length) : (seg L s t).length = t - s := by
  unfold seg; rw [List.length_take, List.length_drop]; omega
theorem seg_ky {L : List Int} {s t k : Nat} (h : k < t - s) : ky (seg L s t) k = ky L (s + k) := by
  unfold seg; rw [ky_take _ h]; unfold ky; simp [List.getD_eq_getElem?_getD]
theorem seg_snoc {L : List Int} {s t : Nat} (h1 : s ≤ t) (h2 : t < L.length) : seg L s (t + 1) = seg L s t ++ [ky L t] := by
  unfold seg
  rw [show t + 1 - s = (t - s) + 1 by omega, take_snoc _ (by rw [List.length_drop]; omega)]
  congr 2
  unfold ky; simp [List.getD_eq_getElem?_getD, show s + (t - s) = t by omega]
theorem seg_self (L : List Int) (s : Nat) : seg L s s = [] := by unfold seg; simp
theorem seg_take {L : List Int} {s t i : Nat} (h : i ≤ t - s) : (seg L s t).take i = seg L s (s + i) := by
  unfold seg; rw [List.take_take, show s + i - s = i by omega, Nat.min_eq_left h]
theorem seg_rise {L : List Int} (h : Rise L) (s t : Nat) : Rise (seg L s t) := (h.sublist (List.drop_sublist s L)).sublist (List.take_sublist _ _)
theorem seg_ok {L : List Int} (h : KeysOk L) (s t : Nat) : KeysOk (seg L s t) := fun k hk => h k (List.mem_of_mem_drop (List.mem_of_mem_take hk))
theorem seg_map {α : Type} (f : Int → α) (L : List Int) (s t : Nat) : (seg L s t).map f = ((L.map f).drop s).take (t - s) := by unfold seg; rw [List.map_take, List.map_drop]
/-- A stretch that is as long as it can be. -/
def CutOk (e : Int) (L : List Int) (s t : Nat) : Prop := s < t ∧ t ≤ L.length ∧ FitsAll e (seg L s t) ∧ (t < L.length → NoFit e (seg L s (t + 1)))
/-- Stretches, one behind the other. -/
def Cuts (e : Int) (L : List Int) : Nat → List Nat → Nat → Prop
  | s, [], t => s = t
  | s, x :: E, t => CutOk e L s x ∧ Cuts e L x E t
theorem Cuts.snoc {e : Int} {L : List Int} : ∀ {E : List Nat} {s t u : Nat}, Cuts e L s E t → CutOk e L t u → Cuts e L s (E ++ [u]) u
  | [], s, t, u, h, h2 => by obtain rfl : s = t := h; exact ⟨h2, rfl⟩
  | x :: E, s, t, u, h, h2 => ⟨h.1, Cuts.snoc h.2 h2⟩
theorem Cuts.le {e : Int} {L : List Int} : ∀ {E : List Nat} {s t : Nat}, Cuts e L s E t → s ≤ t ∧ E.length + s ≤ t
  | [], s, t, h => by obtain rfl : s = t := h; simp
  | x :: E, s, t, h => by have := h.1.1; have := h.2.le; simp; omega
theorem fits_nil_snoc (e k : Int) : FitsL e ([] ++ [k]) := ⟨0, 1, 1, 0, low_one_key e k, top_one_key e k, rfl⟩
theorem FitsAll.snoc {e : Int} {L : List Int} {k : Int} (h : FitsAll e L) (hk : FitsL e (L ++ [k])) : FitsAll e (L ++ [k]) := by
  intro i hi
  rw [List.length_append, List.length_singleton] at hi
  rcases Nat.lt_or_ge i L.length with h1 | h1
  · rw [List.take_append_of_le_length (by omega)]; exact h i h1
  · rw [List.take_of_length_le (by simp; omega)]; exact hk
theorem fitsAll_nil (e : Int) : FitsAll e [] := fun i hi => absurd hi (by simp)
/-- A number as a cell. -/
def iv (i : Nat) : Value := .int .i64 i
theorem info_int : (Tryz.prog.info? 3).map (fun i => (i.zero, i.size, i.bytes)) = some (some (.int .i64 0), 1, 8) := by kernel_rfl
theorem fit_mv2 {S : Nat → Prop} {w w' : World} {g base : Nat} {e : Int} {ks : List Int} {ln ld : Int} (h : FitKeys w g base e ks ln ld) (hm : Mv S w w') (hS : ∀ k, S k → ¬ FitTy w k) : FitKeys w' g base e ks ln ld := by
  obtain ⟨last, tn, td, A0, c0, l0, A1, c1, l1, hat, hrest⟩ := h
  refine ⟨last, tn, td, A0, c0, l0, A1, c1, l1, fit_mv hat hm (fun h => hS _ h ⟨_, _, _, hat.1, .inl rfl⟩) (fun k hk h => ?_) (fun k hk h => ?_), hrest⟩
  · obtain ⟨cs, h1⟩ := own_ty hat.2.1 hk
    exact hS k h ⟨_, _, _, h1, .inr rfl⟩
  · obtain ⟨cs, h1⟩ := own_ty hat.2.2.1 hk
    exact hS k h ⟨_, _, _, h1, .inr rfl⟩

set_option maxHeartbeats 4000000 in
theorem ends_calls (L : List Int) (A : Option Addr) (n c : Nat) (eps : Int) (hn : n = L.length) (hl : L.length < 4294967296) (he : 2 ≤ eps ∧ eps ≤ 64) (hR : Rise L) (hK : KeysOk L) (w : World) (hr : RdC w A (L.map uv)) :
    Calls Tryz.prog 113 #[.slice A n c, .int .i64 eps] w fun r w' => ∃ (E : List Nat) (A' : Option Addr) (c' : Nat), r = .returned (.tuple #[.slice A' E.length c', .int .i64 0]) ∧ Cuts (eps - 1) L 0 E L.length ∧ Own w' w.heap.size 3 1 A' E.length c' (E.map iv) ∧ Fr w w' := by
  have HR := Lib.hid hr
  have HN := Lib.hid hn
  have HRI := Lib.hid hR
  have HK := Lib.hid hK
  have hln : n < 4294967296 := by omega
  have hE := he
  clear hr hn hR hK hl
  go_enter Tryz.func113, Tryz.ntmps113
  go_wp2_with fail
  go_step3
  go_wp2_with fail
  refine (new_fit eps hE w.heap.size w (Nat.le_refl _)).mono ?_
  rintro r w2 ⟨rfl, hf2, hbs, hfk⟩
  have HFK := Lib.hid hfk
  have HF2 := Lib.hid hf2
  obtain ⟨g0, hg⟩ : ∃ g, g = w.heap.size := ⟨_, rfl⟩
  have HG : Hid (w.heap.size ≤ g0) := by rw [Hid, hg]; exact Nat.le_refl _
  rw [← hg]
  have HFK0 : Hid (FitKeys w2 g0 w.heap.size (eps - 1) [] 0 1) := by rw [hg]; exact HFK.out
  clear hfk hf2 hbs hg
  go_wp2_with fail
  refine (rising_calls L _ n c HN.out (by have := HN.out; omega) _ (HR.out.fr HF2.out)).mono ?_
  rintro r w3 ⟨rfl, hf3⟩
  have hris : decide (Rise L) = true := decide_eq_true HRI.out
  rw [hris]
  have HF3 : Hid (Fr w w3) := HF2.out.trans hf3
  have HFK3 : Hid (FitKeys w3 g0 w.heap.size (eps - 1) [] 0 1) := fit_mv2 (S := none0) HFK0.out (Mv.of_fr hf3) (fun k h => h.elim)
  clear hris hf3
  go_wp2_with fail
  go_step3
  go_wp2_with fail
  go_loopw [6, 8, 9] (fun vf ve vs wr => ∃ (g : Nat) (E : List Nat) (A' : Option Addr) (c' s : Nat), vf = .pointer (some ⟨g, 0, none⟩) ∧ ve = .slice A' E.length c' ∧ vs = .int .i64 s ∧ s ≤ n ∧ Hid (Cuts (eps - 1) L 0 E s) ∧ Hid (Own wr w.heap.size 3 1 A' E.length c' (E.map iv)) ∧
      Hid (s < n → w.heap.size ≤ g ∧ ∃ ln ld, FitKeys wr g w.heap.size (eps - 1) [] ln ld) ∧ Hid (Fr w wr)) (fun _ _ vs _ => n - (intOf vs).toNat)
  case atStart => exact ⟨g0, [], none, 0, 0, rfl, rfl, rfl, by omega, rfl, Own.nil _ _ _ _, fun _ => ⟨HG.out, 0, 1, HFK3.out⟩, HF3.out⟩
  case round =>
    obtain ⟨g, E, A', c', s, rfl, rfl, rfl, hsn, hcu, hown, hfk, hf⟩ := hrel
    rcases Nat.lt_or_ge s n with hlt | hge
    · have g1 : decide (s < n) = true := decide_eq_true hlt
      have g0' : (s : Int) < (n : Int) := by omega
      obtain ⟨hgb, ln0, ld0, hfk0⟩ := hfk.out hlt
      have HGB := Lib.hid hgb
      have HFKS : Hid (FitKeys wr g w.heap.size (eps - 1) [] ln0 ld0) := hfk0
      clear hgb hfk0 hfk
      obtain ⟨b, off, hA, hc⟩ := rdc_ky HR.out (by have := HN.out; omega)
      subst hA
      have HC := Lib.hid hc
      clear hc
      have HEL := Lib.hid hcu.out.le
      obtain ⟨EN, hEN⟩ : ∃ N, E.length = N := ⟨_, rfl⟩
      rw [hEN] at hown HEL ⊢
      have HENH := Lib.hid hEN
      clear hEN
      go_wp2_with fail
      go_loopw [6, 8, 9, 10] (fun vf ve vs v wi => ∃ i : Nat, vf = .pointer (some ⟨g, 0, none⟩) ∧ ve = .slice A' EN c' ∧ vs = .int .i64 s ∧ v = .int .i64 i ∧ s ≤ i ∧ i ≤ n ∧ Hid (FitsAll (eps - 1) (seg L s i)) ∧ Hid (∃ ln ld, FitKeys wi g w.heap.size (eps - 1) (seg L s i) ln ld) ∧ Hid (Own wi w.heap.size 3 1 A' EN c' (E.map iv)) ∧ Hid (Fr w wi)) (fun _ _ _ v _ => n - (intOf v).toNat)
      case atStart => exact ⟨s, rfl, rfl, rfl, rfl, by omega, by omega, by rw [Hid, seg_self]; exact fitsAll_nil _, ⟨ln0, ld0, by rw [seg_self]; exact HFKS.out⟩, hown.out, hf.out⟩
      case round =>
        obtain ⟨i, rfl, rfl, rfl, rfl, hsi, hin, hfa, hfki, howni, hfi⟩ := hrel
        rcases Nat.lt_or_ge i n with hlt2 | hge2
        · have g2 : decide (i < n) = true := decide_eq_true hlt2
          have g02 : (i : Int) < (n : Int) := by omega
          have c1 := hfi.out.cell (HC.out i (by have := HN.out; omega))
          have wi : IntKind.i64.wrap ((i : Int) + 1) = (i : Int) + 1 := wrap_i64_in _ (by omega) (by omega)
          have hkb := Lib.hid (HK.out.ky (show i < L.length by have := HN.out; omega))
          obtain ⟨ln, ld, hfk⟩ := hfki.out
          have HFKI : Hid (FitKeys _ g w.heap.size (eps - 1) (seg L s i) ln ld) := hfk
          clear hfk hfki
          have hlen := Lib.hid (seg_len (L := L) hsi (by have := HN.out; omega))
          go_wp2_with fail
          refine (add_fit g w.heap.size (eps - 1) (ky L i) ln ld (seg L s i) (by omega) (by have := hlen.out; omega) hkb.out (fun hp => ?_) _ HFKI.out HGB.out hfi.out.size).mono ?_
          · rw [hlen.out] at hp ⊢
            rw [seg_ky (by omega)]
            exact rise_lt HRI.out (by omega) (by have := HN.out; omega)
          · rintro r w4 ⟨hmv, hor⟩
            rw [← seg_snoc hsi (by have := HN.out; omega)] at hor
            have hf4 : Hid (Fr w w4) := hfi.out.mv hmv (fun k hk => hk.1)
            have hown4 : Hid (Own w4 w.heap.size 3 1 A' EN c' (E.map iv)) := howni.out.mv hmv (fun k hk h => own_not_ty howni.out (by decide) k hk h.2)
            rcases hor with ⟨hfit, rfl, hfk4⟩ | ⟨hno, rfl⟩
            · have HFK4 := Lib.hid hfk4
              have HFIT : Hid (FitsAll (eps - 1) (seg L s (i + 1))) := by
                rw [Hid, seg_snoc hsi (by have := HN.out; omega)]
                exact hfa.out.snoc (by rw [← seg_snoc hsi (by have := HN.out; omega)]; exact hfit)
              clear hmv hfk4 hfit c1
              go_wp2_with fail
              exact ⟨⟨i + 1, rfl, rfl, rfl, rfl, by omega, by omega, HFIT.out, HFK4.out, hown4.out, hf4.out⟩, by simp only [intOf]; omega⟩
            · have hsi2 : s < i := by
                rcases Nat.lt_or_ge s i with h | h
                · exact h
                · obtain rfl : s = i := by omega
                  refine absurd ?_ (hno.not (seg_rise HRI.out _ _))
                  rw [seg_snoc (Nat.le_refl _) (by have := HN.out; omega), seg_self]
                  exact fits_nil_snoc _ _
              have HCO : Hid (CutOk (eps - 1) L s i) := ⟨hsi2, by have := HN.out; omega, hfa.out, fun _ => hno⟩
              clear hmv hno c1
              go_wp2_with fail
              refine (new_fit eps hE w.heap.size w4 hf4.out.size).mono ?_
              rintro r w5 ⟨rfl, hf5, hbs5, hfk5⟩
              have HFK5 := Lib.hid hfk5
              have HF5 := Lib.hid hf5
              obtain ⟨g5, hg5⟩ : ∃ g, g = w4.heap.size := ⟨_, rfl⟩
              rw [← hg5] at HFK5 ⊢
              have HG5 : Hid (w.heap.size ≤ g5) := by rw [Hid, hg5]; exact hf4.out.size
              clear hfk5 hf5 hbs5 hg5
              go_wp2_with (at_builtin; refine gate ?_)
              refine gate_app rfl _ _ 153 rfl 3 (.int .i64 0) 1 8 Tryz.underlying153 info_int rfl (by omega) (by omega) w.heap.size A' EN c' _ (some ⟨w5.heap.size, 0, none⟩) 1 1 [.int .i64 (i : Nat)] (by rfl) (by rfl)
                ((hown4.out.fr HF5.out).fr ((Fr.refl w5).alloc _)) rfl (RdC.blk (Blk.new w5 _ _)) (by intro u hu; simp at hu; subst hu; rfl) (by have := HEL.out; have := HENH.out; omega) (by have := hf4.out.size; have := HF5.out.size; simp; omega) ?_
              intro A2 c2 w6 hown6 hgr hat
              have HM6 : Hid (Mv (fun k => ablk A' = some k) w5 w6) := ((Mv.of_fr ((Fr.refl w5).alloc _)).grown hgr.out (fun k hk => .inl hk))
              have HF6 : Hid (Fr w w6) := (hf4.out.trans HF5.out).mv HM6.out (fun k hk => (hown4.out.lt k hk).1)
              have HFK6 : Hid (FitKeys w6 g5 w.heap.size (eps - 1) [] 0 1) := fit_mv2 HFK5.out HM6.out (fun k hk => own_not_ty (hown4.out.fr HF5.out) (by decide) k hk)
              have HOWN6 := hown6
              clear hown6 hgr hat
              go_wp2_with fail
              refine ⟨⟨g5, E ++ [i], A2, c2, i, rfl, ?_, rfl, by omega, hcu.out.snoc HCO.out, ?_, fun _ => ⟨HG5.out, 0, 1, HFK6.out⟩, HF6.out⟩, by simp only [intOf]; omega⟩
              · rw [List.length_append, HENH.out]; rfl
              · rw [Hid, List.length_append, HENH.out, List.map_append]; exact HOWN6.out
        · obtain rfl : i = n := by omega
          have g2 : decide (i < i) = false := by simp
          have HCO : Hid (CutOk (eps - 1) L s i) := ⟨hlt, by have := HN.out; omega, hfa.out, fun h => by have := HN.out; omega⟩
          obtain ⟨w5, hw5⟩ : ∃ w5, w5 = wr := ⟨_, rfl⟩
          rw [← hw5] at howni hfi ⊢
          clear hw5
          go_wp2_with (at_builtin; refine gate ?_)
          refine gate_app rfl _ _ 153 rfl 3 (.int .i64 0) 1 8 Tryz.underlying153 info_int rfl (by omega) (by omega) w.heap.size A' EN c' _ (some ⟨w5.heap.size, 0, none⟩) 1 1 [.int .i64 (i : Nat)] (by rfl) (by rfl)
            (howni.out.fr ((Fr.refl w5).alloc _)) rfl (RdC.blk (Blk.new w5 _ _)) (by intro u hu; simp at hu; subst hu; rfl) (by have := HEL.out; have := HENH.out; omega) (by have := hfi.out.size; simp; omega) ?_
          intro A2 c2 w6 hown6 hgr hat
          have HM6 : Hid (Mv (fun k => ablk A' = some k) w5 w6) := ((Mv.of_fr ((Fr.refl w5).alloc _)).grown hgr.out (fun k hk => .inl hk))
          have HF6 : Hid (Fr w w6) := hfi.out.mv HM6.out (fun k hk => (howni.out.lt k hk).1)
          have HOWN6 := hown6
          clear hown6 hgr hat
          go_wp2_with fail
          refine ⟨⟨g, E ++ [i], A2, c2, i, rfl, ?_, rfl, by omega, hcu.out.snoc HCO.out, ?_, fun h => absurd h (by omega), HF6.out⟩, by simp only [intOf]; omega⟩
          · rw [List.length_append, HENH.out]; rfl
          · rw [Hid, List.length_append, HENH.out, List.map_append]; exact HOWN6.out
    · obtain rfl : s = n := by omega
      have g1 : decide (s < s) = false := by simp
      have hcuF : Hid (Cuts (eps - 1) L 0 E L.length) := by have := hcu.out; rw [HN.out] at this; exact this
      clear hcu
      go_wp2_with fail
      try rw [Exit.noGoto_ret]
      go_ret2
      exact ⟨E, A', c', rfl, hcuF.out, hown.out, hf.out⟩
/-- A stretch that ends ahead of the end is long. -/
theorem CutOk.long {e : Int} {L : List Int} {s t : Nat} (h : CutOk e L s t) (hR : Rise L) (ht : t < L.length) : 2 * e + 1 ≤ ((t : Int) - s) := by
  have h1 := (h.2.2.2 ht).long (seg_rise hR s (t + 1))
  rw [seg_len (by have := h.1; omega) (by omega)] at h1
  have := h.1
  omega
theorem CutOk.unique {e : Int} {L : List Int} (hR : Rise L) {s t t' : Nat} (h : CutOk e L s t) (h' : CutOk e L s t') : t = t' := by
  have key : ∀ {t t' : Nat}, CutOk e L s t → CutOk e L s t' → t' ≤ t := by
    intro t t' h h'
    rcases Nat.lt_or_ge t t' with h1 | h1
    · have h2 := h.2.2.2 (by have := h'.2.1; omega)
      refine absurd ?_ (h2.not (seg_rise hR _ _))
      have h3 := h'.2.2.1 (t - s) (by rw [seg_len (by have := h'.1; omega) h'.2.1]; have := h.1; omega)
      rw [seg_take (by have := h.1; omega)] at h3
      have := h.1
      rw [show s + (t - s + 1) = t + 1 by omega] at h3
      exact h3
    · exact h1
  exact Nat.le_antisymm (key h' h) (key h h')
theorem Cuts.unique {e : Int} {L : List Int} (hR : Rise L) : ∀ {E E' : List Nat} {s : Nat}, Cuts e L s E L.length → Cuts e L s E' L.length → E = E'
  | [], [], s, _, _ => rfl
  | [], x :: E', s, h, h' => by
    have h1 : s = L.length := h
    have := h'.1.1; have := h'.1.2.1; omega
  | x :: E, [], s, h, h' => by
    have h1 : s = L.length := h'
    have := h.1.1; have := h.1.2.1; omega
  | x :: E, y :: E', s, h, h' => by
    have e1 := h.1.unique hR h'.1
    subst e1
    rw [Cuts.unique hR h.2 h'.2]
end Go.Proofs.YthjimnmgbcckjaaGreat
namespace Go.Flo

/-- n by 2^d, to the nearest, halves to even. -/
def rne (n d : Nat) : Nat := n / 2 ^ d + (if 2 ^ d < 2 * (n % 2 ^ d) ∨ (2 ^ d = 2 * (n % 2 ^ d) ∧ n / 2 ^ d % 2 = 1) then 1 else 0)

theorem rne_mono {n m d : Nat} (h : n ≤ m) : rne n d ≤ rne m d := by
  unfold rne
  have hG : 0 < 2 ^ d := Nat.two_pow_pos d
  generalize 2 ^ d = G at *
  have h1 : n / G ≤ m / G := Nat.div_le_div_right h
  have h2 := Nat.div_add_mod n G
  have h3 := Nat.div_add_mod m G
  rcases Nat.lt_or_ge (n / G) (m / G) with h4 | h4
  · split <;> split <;> omega
  · have h5 : n / G = m / G := by omega
    rw [h5] at h2 ⊢
    split
    · rw [if_pos (by omega)]; omega
    · omega
theorem rne_up (n d : Nat) : 2 * n ≤ 2 * (rne n d * 2 ^ d) + 2 ^ d := by
  unfold rne
  have hG : 0 < 2 ^ d := Nat.two_pow_pos d
  generalize 2 ^ d = G at *
  have h2 := Nat.div_add_mod n G
  have h3 := Nat.mod_lt n hG
  have e : n / G * G = G * (n / G) := Nat.mul_comm _ _
  rw [Nat.add_mul]
  split <;> omega
theorem rne_dn (n d : Nat) : 2 * (rne n d * 2 ^ d) ≤ 2 * n + 2 ^ d := by
  unfold rne
  have hG : 0 < 2 ^ d := Nat.two_pow_pos d
  generalize 2 ^ d = G at *
  have h2 := Nat.div_add_mod n G
  have h3 := Nat.mod_lt n hG
  have e : n / G * G = G * (n / G) := Nat.mul_comm _ _
  rw [Nat.add_mul]
  split <;> omega
theorem rne_scale (n d k : Nat) : rne (n * 2 ^ k) (d + k) = rne n d := by
  unfold rne
  have hG : 0 < 2 ^ d := Nat.two_pow_pos d
  have hK : 0 < 2 ^ k := Nat.two_pow_pos k
  rw [Nat.pow_add]
  generalize 2 ^ d = G at *
  generalize 2 ^ k = K at *
  rw [Nat.mul_div_mul_right _ _ hK, Nat.mul_mod_mul_right]
  have h1 : G * K < 2 * (n % G * K) ↔ G < 2 * (n % G) := by
    rw [← Nat.mul_assoc]; exact Nat.mul_lt_mul_right hK
  have h2 : G * K = 2 * (n % G * K) ↔ G = 2 * (n % G) := by
    rw [← Nat.mul_assoc]; exact Nat.mul_right_cancel_iff hK
  simp only [h1, h2]
theorem rne_exact (n d : Nat) : rne (n * 2 ^ d) d = n := by
  unfold rne
  have hG : 0 < 2 ^ d := Nat.two_pow_pos d
  generalize 2 ^ d = G at *
  rw [Nat.mul_div_cancel _ hG, Nat.mul_mod_left, if_neg (by omega)]; rfl
theorem rne_le {n m d : Nat} (h : n ≤ m * 2 ^ d) : rne n d ≤ m := by
  have := rne_mono (d := d) h
  rwa [rne_exact] at this
theorem rne_ge {n m d : Nat} (h : m * 2 ^ d ≤ n) : m ≤ rne n d := by
  have := rne_mono (d := d) h
  rwa [rne_exact] at this

theorem cut_even (neg : Bool) (n d : Nat) : Ieee.Toward.even.cut neg n d = rne n d := by
  unfold Ieee.Toward.cut rne
  simp only [Nat.shiftLeft_eq, Nat.one_mul]
  have key : ∀ a : Nat, (a + (decide (2 ^ d < 2 * (n % 2 ^ d)) || (2 ^ d == 2 * (n % 2 ^ d) && a % 2 == 1)).toNat) = a + (if 2 ^ d < 2 * (n % 2 ^ d) ∨ (2 ^ d = 2 * (n % 2 ^ d) ∧ a % 2 = 1) then 1 else 0) := by
    intro a
    by_cases h1 : 2 ^ d < 2 * (n % 2 ^ d)
    · simp [h1]
    · by_cases h2 : 2 ^ d = 2 * (n % 2 ^ d) ∧ a % 2 = 1
      · obtain ⟨h2, h3⟩ := h2
        rw [if_pos (.inr ⟨h2, h3⟩)]
        have e1 : (2 ^ d == 2 * (n % 2 ^ d)) = true := by simpa using h2
        have e2 : (a % 2 == 1) = true := by simpa using h3
        simp [e1, e2]
      · rw [if_neg (by intro h; rcases h with h | h; exact h1 h; exact h2 h)]
        have e0 : decide (2 ^ d < 2 * (n % 2 ^ d)) = false := decide_eq_false h1
        have e1 : (2 ^ d == 2 * (n % 2 ^ d) && a % 2 == 1) = false := by
          cases h3 : (2 ^ d == 2 * (n % 2 ^ d)) with
          | false => rfl
          | true =>
            cases h4 : (a % 2 == 1) with
            | false => rfl
            | true => exact absurd ⟨by simpa using h3, by simpa using h4⟩ h2
        rw [e0, e1]; rfl
  rcases Nat.le_total d (n.log2 + 2) with h | h
  · rw [Nat.min_eq_left h]
    exact key _
  · rw [Nat.min_eq_right h]
    have hlt : n < 2 ^ (n.log2 + 1) := Nat.lt_log2_self
    have h1 : 2 * 2 ^ (n.log2 + 1) = 2 ^ (n.log2 + 2) := by rw [Nat.pow_succ 2 (n.log2 + 1)]; omega
    have h2 : 2 ^ (n.log2 + 2) ≤ 2 ^ d := Nat.pow_le_pow_right (by decide) h
    have e1 : n / 2 ^ (n.log2 + 2) = 0 := Nat.div_eq_of_lt (by omega)
    have e2 : n / 2 ^ d = 0 := Nat.div_eq_of_lt (by omega)
    have e3 : n % 2 ^ (n.log2 + 2) = n := Nat.mod_eq_of_lt (by omega)
    have e4 : n % 2 ^ d = n := Nat.mod_eq_of_lt (by omega)
    rw [e1, e2, e3, e4, if_neg (by omega)]
    have e5 : decide (2 ^ (n.log2 + 2) < 2 * n) = false := decide_eq_false (by omega)
    have e6 : (2 ^ (n.log2 + 2) == 2 * n && 0 % 2 == 1) = false := by simp
    rw [e5, e6]
    rfl

/-- The value of a rung, in units of 2^-1074. -/
def rv (r : Nat) : Nat := if r < 4503599627370496 then r else (4503599627370496 + r % 4503599627370496) * 2 ^ (r / 4503599627370496 - 1)
/-- The rung of an exact value, in units of 2^-(1074 + q); no bound. -/
def rndU (E q : Nat) : Nat := if E = 0 then 0 else (max (E.log2 - 52) q - q) * 4503599627370496 + rne E (max (E.log2 - 52) q)
def rnd (E q : Nat) : Nat := min (rndU E q) 9218868437227405312

theorem rv_of (a k : Nat) (h1 : k ≤ 2 * 4503599627370496) (h2 : a = 0 ∨ 4503599627370496 ≤ k) : rv (a * 4503599627370496 + k) = k * 2 ^ a := by
  unfold rv
  rcases Nat.lt_or_ge k 4503599627370496 with hk | hk
  · obtain rfl : a = 0 := by omega
    rw [if_pos (by omega)]; omega
  · rw [if_neg (by omega)]
    rcases Nat.lt_or_ge k (2 * 4503599627370496) with h3 | h3
    · have e1 : (a * 4503599627370496 + k) % 4503599627370496 = k - 4503599627370496 := by
        have : a * 4503599627370496 + k = (k - 4503599627370496) + 4503599627370496 * (a + 1) := by rw [Nat.mul_add, Nat.mul_comm 4503599627370496 a]; omega
        rw [this, Nat.add_mul_mod_self_left, Nat.mod_eq_of_lt (by omega)]
      have e2 : (a * 4503599627370496 + k) / 4503599627370496 = a + 1 := by
        have : a * 4503599627370496 + k = (k - 4503599627370496) + 4503599627370496 * (a + 1) := by rw [Nat.mul_add, Nat.mul_comm 4503599627370496 a]; omega
        rw [this, Nat.add_mul_div_left _ _ (by decide), Nat.div_eq_of_lt (by omega)]; omega
      rw [e1, e2, show 4503599627370496 + (k - 4503599627370496) = k by omega, Nat.add_sub_cancel]
    · obtain rfl : k = 2 * 4503599627370496 := by omega
      have e0 : a * 4503599627370496 + 2 * 4503599627370496 = 4503599627370496 * (a + 2) := by rw [Nat.mul_add, Nat.mul_comm a 4503599627370496]
      rw [e0, Nat.mul_mod_right, Nat.mul_div_cancel_left _ (by decide), show a + 2 - 1 = a + 1 by omega, Nat.pow_succ, Nat.add_zero, Nat.mul_comm (2 ^ a) 2, ← Nat.mul_assoc]

theorem log2_bound {E : Nat} (h : E ≠ 0) : 2 ^ E.log2 ≤ E ∧ E < 2 ^ (E.log2 + 1) := ⟨Nat.log2_self_le h, Nat.lt_log2_self⟩
/-- What is kept. -/
theorem kept_bound {E q : Nat} (h : E ≠ 0) : rne E (max (E.log2 - 52) q) ≤ 2 * 4503599627370496 ∧ (max (E.log2 - 52) q - q = 0 ∨ 4503599627370496 ≤ rne E (max (E.log2 - 52) q)) := by
  obtain ⟨h1, h2⟩ := log2_bound h
  constructor
  · apply rne_le
    have e : 2 * 4503599627370496 * 2 ^ (max (E.log2 - 52) q) = 2 ^ (max (E.log2 - 52) q + 53) := by rw [Nat.pow_add]; rw [show 2 * 4503599627370496 = 2 ^ 53 by decide, Nat.mul_comm]
    rw [e]
    have : 2 ^ (E.log2 + 1) ≤ 2 ^ (max (E.log2 - 52) q + 53) := Nat.pow_le_pow_right (by decide) (by omega)
    omega
  · rcases Nat.lt_or_ge q (E.log2 - 52) with hq | hq
    · right
      apply rne_ge
      rw [Nat.max_eq_left (by omega)]
      have e : 4503599627370496 * 2 ^ (E.log2 - 52) = 2 ^ E.log2 := by rw [show 4503599627370496 = 2 ^ 52 by decide, ← Nat.pow_add]; congr 1; omega
      rw [e]; exact h1
    · left; omega
theorem rv_rndU (E q : Nat) : rv (rndU E q) * 2 ^ q = rne E (max (E.log2 - 52) q) * 2 ^ (max (E.log2 - 52) q) := by
  unfold rndU
  by_cases h : E = 0
  · subst h
    simp [rv, rne]
  · rw [if_neg h]
    obtain ⟨h1, h2⟩ := kept_bound (q := q) h
    rw [rv_of _ _ h1 h2, Nat.mul_assoc, ← Nat.pow_add]
    congr 2
    omega
/-- The rounding is near. -/
theorem rndU_near (E q : Nat) : 2 * E ≤ 2 * (rv (rndU E q) * 2 ^ q) + 2 ^ (max (E.log2 - 52) q) ∧ 2 * (rv (rndU E q) * 2 ^ q) ≤ 2 * E + 2 ^ (max (E.log2 - 52) q) := by
  rw [rv_rndU]
  exact ⟨rne_up _ _, rne_dn _ _⟩
/-- .. by a part of 2^-53, or by half of the least unit. -/
theorem unit_le {E q : Nat} (h : E ≠ 0) : 2 ^ (max (E.log2 - 52) q) * 4503599627370496 ≤ max E (2 ^ q * 4503599627370496) := by
  rcases Nat.lt_or_ge q (E.log2 - 52) with hq | hq
  · rw [Nat.max_eq_left (by omega)]
    have e : 2 ^ (E.log2 - 52) * 4503599627370496 = 2 ^ E.log2 := by rw [show 4503599627370496 = 2 ^ 52 by decide, ← Nat.pow_add]; congr 1; omega
    rw [e]
    exact Nat.le_trans (log2_bound h).1 (Nat.le_max_left _ _)
  · rw [Nat.max_eq_right hq]
    exact Nat.le_max_right _ _

theorem log2_mono {a b : Nat} (h : a ≤ b) (ha : a ≠ 0) : a.log2 ≤ b.log2 := by
  rcases Nat.lt_or_ge b.log2 a.log2 with h1 | h1
  · have h2 := (log2_bound ha).1
    have h3 := (log2_bound (show b ≠ 0 by omega)).2
    have : 2 ^ (b.log2 + 1) ≤ 2 ^ a.log2 := Nat.pow_le_pow_right (by decide) h1
    omega
  · exact h1
theorem rndU_mono {E F q : Nat} (h : E ≤ F) : rndU E q ≤ rndU F q := by
  unfold rndU
  by_cases h0 : E = 0
  · rw [if_pos h0]; omega
  · rw [if_neg h0, if_neg (by omega)]
    have hl := log2_mono h h0
    obtain ⟨a1, a2⟩ := kept_bound (q := q) h0
    obtain ⟨b1, b2⟩ := kept_bound (E := F) (q := q) (by omega)
    have hd : max (E.log2 - 52) q ≤ max (F.log2 - 52) q := by omega
    rcases Nat.lt_or_ge (max (E.log2 - 52) q) (max (F.log2 - 52) q) with hlt | hge
    · have hb := b2.resolve_left (by omega)
      have h3 : (max (E.log2 - 52) q - q + 1) * 4503599627370496 ≤ (max (F.log2 - 52) q - q) * 4503599627370496 := Nat.mul_le_mul_right _ (by omega)
      rw [Nat.add_mul] at h3
      omega
    · have e : max (E.log2 - 52) q = max (F.log2 - 52) q := by omega
      rw [← e]
      have := rne_mono (d := max (E.log2 - 52) q) h
      omega
theorem rnd_mono {E F q : Nat} (h : E ≤ F) : rnd E q ≤ rnd F q := by
  have := rndU_mono (q := q) h
  unfold rnd; omega

theorem log2_mul_pow {n : Nat} (h : n ≠ 0) (k : Nat) : (n * 2 ^ k).log2 = n.log2 + k := by
  obtain ⟨h1, h2⟩ := log2_bound h
  have hp : 0 < 2 ^ k := Nat.two_pow_pos k
  refine Nat.log2_eq_iff (by have := Nat.mul_pos (by omega : 0 < n) hp; omega) |>.2 ⟨?_, ?_⟩
  · rw [Nat.pow_add]; exact Nat.mul_le_mul_right _ h1
  · rw [show n.log2 + k + 1 = n.log2 + 1 + k by omega, Nat.pow_add]; exact Nat.mul_lt_mul_of_pos_right h2 hp
theorem rndU_scale (E q k : Nat) : rndU (E * 2 ^ k) (q + k) = rndU E q := by
  unfold rndU
  by_cases h : E = 0
  · subst h; simp
  · have hp : 0 < 2 ^ k := Nat.two_pow_pos k
    have hne : E * 2 ^ k ≠ 0 := by have := Nat.mul_pos (by omega : 0 < E) hp; omega
    rw [if_neg h, if_neg hne, log2_mul_pow h]
    rcases Nat.lt_or_ge q (E.log2 - 52) with hq | hq
    · rw [Nat.max_eq_left (by omega), Nat.max_eq_left (by omega), show E.log2 + k - 52 = (E.log2 - 52) + k by omega, rne_scale]
      congr 2; omega
    · rw [Nat.max_eq_right (by omega), Nat.max_eq_right hq, rne_scale]
      congr 2; omega
/-- A value that a rung has is its own rounding. -/
theorem rndU_rv (r q : Nat) : rndU (rv r * 2 ^ q) q = r := by
  have hs := rndU_scale (rv r) 0 q
  rw [Nat.zero_add] at hs
  rw [hs]
  unfold rndU
  unfold rv
  by_cases hr : r < 4503599627370496
  · rw [if_pos hr]
    by_cases h0 : r = 0
    · rw [if_pos h0, h0]
    · rw [if_neg h0]
      have hl : r.log2 ≤ 51 := by
        have := log2_mono (show r ≤ 4503599627370496 - 1 by omega) h0
        have e : (4503599627370496 - 1).log2 = 51 := by decide +kernel
        omega
      have e : max (r.log2 - 52) 0 = 0 := by omega
      rw [e]
      have := rne_exact r 0
      simp at this
      rw [this]; omega
  · rw [if_neg hr]
    have hm := Nat.mod_lt r (show 0 < 4503599627370496 by decide)
    have h0 : 4503599627370496 + r % 4503599627370496 ≠ 0 := by omega
    have hp : 0 < 2 ^ (r / 4503599627370496 - 1) := Nat.two_pow_pos _
    have hne : (4503599627370496 + r % 4503599627370496) * 2 ^ (r / 4503599627370496 - 1) ≠ 0 := by have := Nat.mul_pos (show 0 < 4503599627370496 + r % 4503599627370496 by omega) hp; omega
    rw [if_neg hne, log2_mul_pow h0]
    have hl : (4503599627370496 + r % 4503599627370496).log2 = 52 := by
      refine (Nat.log2_eq_iff h0).2 ⟨?_, ?_⟩
      · show 4503599627370496 ≤ _; omega
      · show _ < 9007199254740992; omega
    rw [hl, Nat.max_eq_left (by omega), show 52 + (r / 4503599627370496 - 1) - 52 = r / 4503599627370496 - 1 by omega, rne_exact]
    have h1 := Nat.div_add_mod r 4503599627370496
    have h2 : 1 ≤ r / 4503599627370496 := (Nat.le_div_iff_mul_le (by decide)).2 (by omega)
    have h3 : (r / 4503599627370496 - 1 - 0) * 4503599627370496 + 4503599627370496 = 4503599627370496 * (r / 4503599627370496) := by
      obtain ⟨t, ht⟩ : ∃ t, r / 4503599627370496 = t + 1 := ⟨r / 4503599627370496 - 1, by omega⟩
      rw [ht, Nat.mul_comm 4503599627370496, Nat.add_mul]; omega
    omega
theorem rv_lt {a b : Nat} (h : a < b) : rv a < rv b := by
  rcases Nat.lt_or_ge (rv a) (rv b) with h1 | h1
  · exact h1
  · have := rndU_mono (q := 0) h1
    have ea := rndU_rv a 0
    have eb := rndU_rv b 0
    rw [Nat.pow_zero, Nat.mul_one] at ea eb
    omega
theorem rv_le {a b : Nat} (h : a ≤ b) : rv a ≤ rv b := by
  rcases Nat.lt_or_ge a b with h1 | h1
  · exact Nat.le_of_lt (rv_lt h1)
  · rw [show a = b by omega]; exact Nat.le_refl _
theorem rv_le_iff {a b : Nat} : rv a ≤ rv b ↔ a ≤ b := ⟨fun h => by
  rcases Nat.lt_or_ge b a with h1 | h1
  · have := rv_lt h1; omega
  · exact h1, rv_le⟩

/-! ### words -/
theorem infRung_double : Ieee.double.infRung = 9218868437227405312 := by decide +kernel
theorem signW_double : Ieee.double.signWeight = 9223372036854775808 := by decide +kernel
theorem binade_double : Ieee.double.binade = 4503599627370496 := by decide +kernel
theorem least_double : Ieee.double.leastPlace = -1074 := by decide +kernel
/-- The word of a sign and a rung. -/
def wd (neg : Bool) (r : Nat) : Nat := if neg then 9223372036854775808 + r else r
theorem word_double (neg : Bool) (r : Nat) : Ieee.double.word neg r = wd neg r := by
  unfold Ieee.Format.word wd; rw [signW_double]
/-- The signed value of a word, in units of 2^-1074. -/
def sv (x : Nat) : Int := if x / 9223372036854775808 % 2 = 1 then -(rv (x % 9223372036854775808) : Int) else rv (x % 9223372036854775808)
theorem sv_wd (neg : Bool) {r : Nat} (h : r < 9223372036854775808) : sv (wd neg r) = if neg then -(rv r : Int) else rv r := by
  unfold sv wd
  cases neg
  · simp only [Bool.false_eq_true, if_false]
    rw [Nat.div_eq_of_lt h, Nat.mod_eq_of_lt h, if_neg (by decide)]
  · simp only [if_true]
    have e1 : (9223372036854775808 + r) / 9223372036854775808 = 1 := by omega
    have e2 : (9223372036854775808 + r) % 9223372036854775808 = r := by omega
    rw [e1, e2, if_pos (by decide)]
/-- No NaN. -/
def num (x : Nat) : Prop := x % 9223372036854775808 ≤ 9218868437227405312
def fin (x : Nat) : Prop := x % 9223372036854775808 < 9218868437227405312
theorem fin.num {x : Nat} (h : fin x) : num x := Nat.le_of_lt h
theorem infR_lt_S : 9218868437227405312 < 9223372036854775808 := by decide

theorem nearest_eq (neg : Bool) (mag : Nat) (place : Int) (q : Nat) (hq : 0 ≤ place + 1074 + q) : Ieee.double.nearest neg mag place = wd neg (rnd (mag * 2 ^ (place + 1074 + q).toNat) q) := by
  unfold Ieee.Format.nearest
  rw [word_double, least_double, infRung_double, binade_double]
  by_cases h0 : mag = 0
  · rw [if_pos h0, h0, Nat.zero_mul]; rfl
  · rw [if_neg h0, word_double]
    congr 1
    unfold rnd
    congr 1
    have hp : 0 < 2 ^ (place + 1074 + q).toNat := Nat.two_pow_pos _
    have hne : mag * 2 ^ (place + 1074 + q).toNat ≠ 0 := by have := Nat.mul_pos (by omega : 0 < mag) hp; omega
    unfold rndU
    rw [if_neg hne, log2_mul_pow h0]
    show (max (place + (mag.log2 : Int) - (52 : Nat)) (-1074) - -1074).toNat * 4503599627370496 + Ieee.Toward.even.cut neg (mag <<< (place - max (place + (mag.log2 : Int) - (52 : Nat)) (-1074)).toNat) (max (place + (mag.log2 : Int) - (52 : Nat)) (-1074) - place).toNat = _
    rw [cut_even, Nat.shiftLeft_eq]
    have e1 : (max (place + (mag.log2 : Int) - (52 : Nat)) (-1074) - -1074).toNat = max (mag.log2 + (place + 1074 + q).toNat - 52) q - q := by omega
    rw [e1]
    congr 1
    rcases Int.le_total place (max (place + (mag.log2 : Int) - (52 : Nat)) (-1074)) with h | h
    · have e2 : (place - max (place + (mag.log2 : Int) - (52 : Nat)) (-1074)).toNat = 0 := by omega
      have e3 : max (mag.log2 + (place + 1074 + q).toNat - 52) q = (max (place + (mag.log2 : Int) - (52 : Nat)) (-1074) - place).toNat + (place + 1074 + q).toNat := by omega
      rw [e2, e3, rne_scale, Nat.pow_zero, Nat.mul_one]
    · have e2 : (max (place + (mag.log2 : Int) - (52 : Nat)) (-1074) - place).toNat = 0 := by omega
      have e3 : (place + 1074 + q).toNat = (place - max (place + (mag.log2 : Int) - (52 : Nat)) (-1074)).toNat + max (mag.log2 + (place + 1074 + q).toNat - 52) q := by omega
      have h4 := rne_exact (mag * 2 ^ (place - max (place + (mag.log2 : Int) - (52 : Nat)) (-1074)).toNat) 0
      have h5 := rne_exact (mag * 2 ^ (place - max (place + (mag.log2 : Int) - (52 : Nat)) (-1074)).toNat) (max (mag.log2 + (place + 1074 + q).toNat - 52) q)
      rw [Nat.pow_zero, Nat.mul_one] at h4
      rw [e2, h4]
      conv => rhs; arg 1; rw [e3, Nat.pow_add, ← Nat.mul_assoc]
      exact h5.symm
theorem rnd_le (E q : Nat) : rnd E q ≤ 9218868437227405312 := Nat.min_le_right _ _

/-- A finite word's datum. -/
theorem read_fin {x : Nat} (h : fin x) : ∃ m p, Ieee.double.read x = .number (x / 9223372036854775808 % 2 == 1) m p ∧ -1074 ≤ p ∧ p ≤ 971 ∧ m * 2 ^ (p + 1074).toNat = rv (x % 9223372036854775808) ∧ m < 2 * 4503599627370496 := by
  unfold Ieee.Format.read
  simp only [infRung_double, signW_double, binade_double, least_double]
  unfold fin at h
  unfold rv
  by_cases h1 : x % 9223372036854775808 < 4503599627370496
  · rw [if_pos h1, if_pos h1]
    exact ⟨_, _, rfl, by omega, by omega, by simp, by omega⟩
  · rw [if_neg h1, if_neg h1, if_pos h]
    have := Nat.mod_lt (x % 9223372036854775808) (show 0 < 4503599627370496 by decide)
    refine ⟨_, _, rfl, by omega, by omega, ?_, by omega⟩
    congr 2
    omega
theorem read_inf {x : Nat} (h : x % 9223372036854775808 = 9218868437227405312) : Ieee.double.read x = .infinity (x / 9223372036854775808 % 2 == 1) := by
  unfold Ieee.Format.read
  simp only [infRung_double, signW_double, binade_double, least_double]
  rw [if_neg (by omega), if_neg (by omega), if_pos h]
theorem read_nan {x : Nat} (h : ¬ num x) : ∃ n f, Ieee.double.read x = .nan n f := by
  unfold num at h
  unfold Ieee.Format.read
  simp only [infRung_double, signW_double, binade_double, least_double]
  rw [if_neg (by omega), if_neg (by omega), if_neg (by omega)]
  exact ⟨_, _, rfl⟩

theorem signed_eq (s : Bool) (m k : Nat) : Ieee.signed s m k = if s then -((m * 2 ^ k : Nat) : Int) else ((m * 2 ^ k : Nat) : Int) := by
  unfold Ieee.signed; rw [Nat.shiftLeft_eq]
theorem sv_bool (x : Nat) : sv x = if (x / 9223372036854775808 % 2 == 1) then -(rv (x % 9223372036854775808) : Int) else rv (x % 9223372036854775808) := by
  unfold sv
  by_cases h : x / 9223372036854775808 % 2 = 1
  · rw [if_pos h, if_pos (by simpa using h)]
  · rw [if_neg h, if_neg (by simpa using h)]
theorem mul_pow_split (m a b c : Nat) (h : c = a + b) : m * 2 ^ a * 2 ^ b = m * 2 ^ c := by rw [Nat.mul_assoc, ← Nat.pow_add, h]

/-- The signed rounding of an exact value, in units of 2^-(1074 + q). -/
def srv (E : Int) (q : Nat) : Int := if E < 0 then -(rv (rnd E.natAbs q) : Int) else rv (rnd E.natAbs q)
theorem rnd_zero (q : Nat) : rnd 0 q = 0 := by unfold rnd rndU; rw [if_pos rfl]; rfl
theorem rv_zero : rv 0 = 0 := rfl
theorem srv_mono {E F : Int} {q : Nat} (h : E ≤ F) : srv E q ≤ srv F q := by
  unfold srv
  split
  · split
    · have := rv_le (rnd_mono (q := q) (show F.natAbs ≤ E.natAbs by omega)); omega
    · omega
  · rw [if_neg (by omega)]
    have := rv_le (rnd_mono (q := q) (show E.natAbs ≤ F.natAbs by omega)); omega
theorem sv_wd_rnd (neg : Bool) (E : Int) (q : Nat) (h : E ≠ 0 → neg = decide (E < 0)) : sv (wd neg (rnd E.natAbs q)) = srv E q := by
  have hl : rnd E.natAbs q < 9223372036854775808 := Nat.lt_of_le_of_lt (rnd_le _ _) infR_lt_S
  rw [sv_wd neg hl]
  unfold srv
  by_cases h0 : E = 0
  · subst h0
    simp only [Int.natAbs_zero, rnd_zero, rv_zero]
    split <;> rfl
  · rw [h h0]
    by_cases h1 : E < 0
    · rw [if_pos h1, if_pos (by simpa using h1)]
    · rw [if_neg h1, if_neg (by simpa using h1)]
theorem wd_lt (neg : Bool) (E q : Nat) : wd neg (rnd E q) < 2 * 9223372036854775808 := by
  have hl := rnd_le E q
  unfold wd
  cases neg
  · simp only [Bool.false_eq_true, if_false]; omega
  · simp only [if_true]; omega
theorem num_wd (neg : Bool) (E q : Nat) : num (wd neg (rnd E q)) := by
  have hl := rnd_le E q
  unfold num wd
  split <;> omega

/-- Sums. -/
theorem add_fin {x y : Nat} (hx : fin x) (hy : fin y) : ∃ r, Ieee.double.add x y = some r ∧ num r ∧ sv r = srv (sv x + sv y) 0 ∧ r < 2 * 9223372036854775808 := by
  obtain ⟨m, i, hr, hi, _, hm, _⟩ := read_fin hx
  obtain ⟨n, j, hr2, hj, _, hn, _⟩ := read_fin hy
  unfold Ieee.Format.add
  rw [hr, hr2]
  refine ⟨_, rfl, ?_⟩
  simp only [Ieee.Format.write]
  have hb : 0 ≤ min i j + 1074 + (0 : Nat) := by omega
  rw [nearest_eq _ _ _ 0 hb]
  refine ⟨num_wd _ _ _, ?_, ?_⟩
  · have e1 : i - min i j + (min i j + 1074) = i + 1074 := by omega
    have e2 : (i + 1074).toNat = (i - min i j).toNat + (min i j + 1074 + (0 : Nat)).toNat := by omega
    have e3 : (j + 1074).toNat = (j - min i j).toNat + (min i j + 1074 + (0 : Nat)).toNat := by omega
    have hxs : sv x = Ieee.signed (x / 9223372036854775808 % 2 == 1) m (i - min i j).toNat * ((2 ^ (min i j + 1074 + (0 : Nat)).toNat : Nat) : Int) := by
      rw [sv_bool, signed_eq, ← hm, ← mul_pow_split m _ _ _ e2]
      split <;> push_cast <;> grind
    have hys : sv y = Ieee.signed (y / 9223372036854775808 % 2 == 1) n (j - min i j).toNat * ((2 ^ (min i j + 1074 + (0 : Nat)).toNat : Nat) : Int) := by
      rw [sv_bool, signed_eq, ← hn, ← mul_pow_split n _ _ _ e3]
      split <;> push_cast <;> grind
    rw [hxs, hys, ← Int.add_mul]
    generalize Ieee.signed (x / 9223372036854775808 % 2 == 1) m (i - min i j).toNat + Ieee.signed (y / 9223372036854775808 % 2 == 1) n (j - min i j).toNat = T
    have hp : 0 < 2 ^ (min i j + 1074 + (0 : Nat)).toNat := Nat.two_pow_pos _
    generalize 2 ^ (min i j + 1074 + (0 : Nat)).toNat = P at *
    have e4 : T.natAbs * P = (T * (P : Int)).natAbs := by rw [Int.natAbs_mul, Int.natAbs_natCast]
    rw [e4]
    apply sv_wd_rnd
    intro hne
    have hT : T ≠ 0 := fun h => hne (by rw [h, Int.zero_mul])
    rw [if_neg hT]
    have : T < 0 ↔ T * (P : Int) < 0 := by
      constructor
      · intro h; exact Int.mul_neg_of_neg_of_pos h (by omega)
      · intro h
        rcases Int.lt_or_le T 0 with h1 | h1
        · exact h1
        · have := Int.mul_nonneg h1 (show 0 ≤ (P : Int) by omega); omega
    simp [this]
  · exact wd_lt _ _ _
/-- Products. -/
theorem mul_fin {x y : Nat} (hx : fin x) (hy : fin y) : ∃ r, Ieee.double.mul x y = some r ∧ num r ∧ sv r = srv (sv x * sv y) 1074 ∧ r < 2 * 9223372036854775808 := by
  obtain ⟨m, i, hr, hi, _, hm, _⟩ := read_fin hx
  obtain ⟨n, j, hr2, hj, _, hn, _⟩ := read_fin hy
  unfold Ieee.Format.mul
  rw [hr, hr2]
  refine ⟨_, rfl, ?_⟩
  simp only [Ieee.Format.write]
  have hb : 0 ≤ i + j + 1074 + (1074 : Nat) := by omega
  rw [nearest_eq _ _ _ 1074 hb]
  have e1 : (i + j + 1074 + (1074 : Nat)).toNat = (i + 1074).toNat + (j + 1074).toNat := by omega
  have e2 : m * n * 2 ^ (i + j + 1074 + (1074 : Nat)).toNat = rv (x % 9223372036854775808) * rv (y % 9223372036854775808) := by
    rw [e1, Nat.pow_add, ← hm, ← hn]
    generalize 2 ^ (i + 1074).toNat = P
    generalize 2 ^ (j + 1074).toNat = Q
    grind
  rw [e2]
  refine ⟨num_wd _ _ _, ?_, ?_⟩
  · have e3 : rv (x % 9223372036854775808) * rv (y % 9223372036854775808) = (sv x * sv y).natAbs := by
      rw [sv_bool, sv_bool, Int.natAbs_mul]
      congr 1 <;> split <;> simp
    rw [e3]
    apply sv_wd_rnd
    intro hne
    rw [sv_bool, sv_bool] at hne ⊢
    generalize rv (x % 9223372036854775808) = a at *
    generalize rv (y % 9223372036854775808) = b at *
    have ha : a ≠ 0 := by intro h; subst h; exact hne (by split <;> simp)
    have hb : b ≠ 0 := by intro h; subst h; exact hne (by split <;> split <;> simp)
    have hab : 0 < (a : Int) * b := Int.mul_pos (by omega) (by omega)
    cases (x / 9223372036854775808 % 2 == 1) <;> cases (y / 9223372036854775808 % 2 == 1) <;> simp only [Bool.false_eq_true, if_false, if_true, Int.neg_mul, Int.mul_neg, Int.neg_neg, Bool.xor_false, Bool.xor_true, Bool.not_false, Bool.not_true] <;> first | (rw [decide_eq_true (by omega)]) | (rw [decide_eq_false (by omega)]) | (symm; exact decide_eq_false (by omega)) | (symm; exact decide_eq_true (by omega))
  · exact wd_lt _ _ _
/-- The unit: 2^1074. -/
def U : Nat := 2 ^ 1074
set_option exponentiation.threshold 4000 in
theorem U_pos : 0 < U := Nat.two_pow_pos 1074
set_option exponentiation.threshold 4000 in
/-- Whole numbers. -/
theorem int_near (n : Int) : num (Ieee.double.nearest (n < 0) n.natAbs 0) ∧ sv (Ieee.double.nearest (n < 0) n.natAbs 0) = srv (n * (U : Int)) 0 ∧ Ieee.double.nearest (n < 0) n.natAbs 0 < 2 * 9223372036854775808 := by
  rw [nearest_eq _ _ _ 0 (by decide)]
  refine ⟨num_wd _ _ _, ?_, wd_lt _ _ _⟩
  have e : n.natAbs * 2 ^ ((0 : Int) + 1074 + (0 : Nat)).toNat = (n * (U : Int)).natAbs := by
    rw [Int.natAbs_mul]; rfl
  rw [e]
  apply sv_wd_rnd
  intro _
  have hp : (0 : Int) < (U : Int) := by have := U_pos; omega
  have : n < 0 ↔ n * (U : Int) < 0 := by
    constructor
    · intro h; exact Int.mul_neg_of_neg_of_pos h hp
    · intro h
      rcases Int.lt_or_le n 0 with h1 | h1
      · exact h1
      · have := Int.mul_nonneg h1 (Int.le_of_lt hp); omega
  simp only [this]

/-- How two words stand to one another: by their values. -/
theorem order_num {x y : Nat} (hx : num x) (hy : num y) : Ieee.double.order x y = some (compare (sv x) (sv y)) := by
  unfold Ieee.Format.order
  have small : ∀ {z : Nat}, fin z → rv (z % 9223372036854775808) < rv 9218868437227405312 := fun h => rv_lt h
  rcases Nat.lt_or_ge (x % 9223372036854775808) 9218868437227405312 with h1 | h1
  · obtain ⟨m, i, hr, hi, _, hm, _⟩ := read_fin (x := x) h1
    rcases Nat.lt_or_ge (y % 9223372036854775808) 9218868437227405312 with h2 | h2
    · obtain ⟨n, j, hr2, hj, _, hn, _⟩ := read_fin (x := y) h2
      rw [hr, hr2]
      simp only [Ieee.Datum.order]
      congr 1
      have e2 : (i + 1074).toNat = (i - min i j).toNat + (min i j + 1074).toNat := by omega
      have e3 : (j + 1074).toNat = (j - min i j).toNat + (min i j + 1074).toNat := by omega
      have hxs : sv x = Ieee.signed (x / 9223372036854775808 % 2 == 1) m (i - min i j).toNat * ((2 ^ (min i j + 1074).toNat : Nat) : Int) := by
        rw [sv_bool, signed_eq, ← hm, ← mul_pow_split m _ _ _ e2]
        split <;> push_cast <;> grind
      have hys : sv y = Ieee.signed (y / 9223372036854775808 % 2 == 1) n (j - min i j).toNat * ((2 ^ (min i j + 1074).toNat : Nat) : Int) := by
        rw [sv_bool, signed_eq, ← hn, ← mul_pow_split n _ _ _ e3]
        split <;> push_cast <;> grind
      have hp : 0 < 2 ^ (min i j + 1074).toNat := Nat.two_pow_pos _
      rw [hxs, hys]
      generalize 2 ^ (min i j + 1074).toNat = P at *
      generalize Ieee.signed (x / 9223372036854775808 % 2 == 1) m (i - min i j).toNat = a
      generalize Ieee.signed (y / 9223372036854775808 % 2 == 1) n (j - min i j).toNat = b
      have hP : (0 : Int) < (P : Int) := by omega
      rcases Int.lt_trichotomy a b with h | h | h
      · rw [Int.compare_eq_lt.2 h, Int.compare_eq_lt.2 (Int.mul_lt_mul_of_pos_right h hP)]
      · rw [h, Int.compare_eq_eq.2 rfl, Int.compare_eq_eq.2 rfl]
      · rw [Int.compare_eq_gt.2 h, Int.compare_eq_gt.2 (Int.mul_lt_mul_of_pos_right h hP)]
    · have h2 : y % 9223372036854775808 = 9218868437227405312 := by unfold num at hy; omega
      rw [hr, read_inf h2]
      simp only [Ieee.Datum.order]
      congr 1
      rw [sv_bool x, sv_bool y, h2]
      have hs := small (z := x) h1
      cases (y / 9223372036854775808 % 2 == 1)
      · simp only [Bool.false_eq_true, if_false]
        rw [Int.compare_eq_lt.2]; split <;> omega
      · simp only [if_true]
        rw [Int.compare_eq_gt.2]; split <;> omega
  · have h1 : x % 9223372036854775808 = 9218868437227405312 := by unfold num at hx; omega
    rcases Nat.lt_or_ge (y % 9223372036854775808) 9218868437227405312 with h2 | h2
    · obtain ⟨n, j, hr2, hj, _, hn, _⟩ := read_fin (x := y) h2
      rw [read_inf h1, hr2]
      simp only [Ieee.Datum.order]
      congr 1
      rw [sv_bool x, sv_bool y, h1]
      have hs := small (z := y) h2
      cases (x / 9223372036854775808 % 2 == 1)
      · simp only [Bool.false_eq_true, if_false]
        rw [Int.compare_eq_gt.2]; split <;> omega
      · simp only [if_true]
        rw [Int.compare_eq_lt.2]; split <;> omega
    · have h2 : y % 9223372036854775808 = 9218868437227405312 := by unfold num at hy; omega
      rw [read_inf h1, read_inf h2]
      simp only [Ieee.Datum.order]
      congr 1
      rw [sv_bool x, sv_bool y, h1, h2]
      have hpos : 0 < rv 9218868437227405312 := by have := rv_lt (show 0 < 9218868437227405312 by decide); rw [rv_zero] at this; exact this
      cases (x / 9223372036854775808 % 2 == 1) <;> cases (y / 9223372036854775808 % 2 == 1) <;> simp only [Bool.false_eq_true, if_false, if_true]
      · rw [Int.compare_eq_eq.2 rfl]; rfl
      · rw [Int.compare_eq_gt.2 (by omega)]; rfl
      · rw [Int.compare_eq_lt.2 (by omega)]; rfl
      · rw [Int.compare_eq_eq.2 rfl]; rfl
theorem order_nan {x y : Nat} (h : ¬ num x ∨ ¬ num y) : Ieee.double.order x y = none := by
  unfold Ieee.Format.order
  rcases h with h | h
  · obtain ⟨n, f, hr⟩ := read_nan h
    rw [hr]; rfl
  · obtain ⟨n, f, hr⟩ := read_nan h
    rw [hr]; cases Ieee.double.read x <;> rfl

set_option exponentiation.threshold 4000 in
/-- Floor: the whole part of a finite word. -/
theorem floor_fin {x : Nat} (h : fin x) : ∃ s m, (Ieee.double.read x).integral .down = .number s m 0 ∧ (if s then -(m : Int) else m) = sv x / (U : Int) := by
  obtain ⟨m, p, hr, hp, _, hm, _⟩ := read_fin h
  rw [hr]
  refine ⟨_, _, rfl, ?_⟩
  unfold Ieee.Toward.cut
  simp only [Nat.shiftLeft_eq, Nat.one_mul]
  rw [sv_bool, ← hm]
  -- the exact quotient
  have gapeq : ∀ N d : Nat, N / 2 ^ min d (N.log2 + 2) = N / 2 ^ d ∧ ((N % 2 ^ min d (N.log2 + 2) != 0) = (N % 2 ^ d != 0)) := by
    intro N d
    rcases Nat.le_total d (N.log2 + 2) with h | h
    · rw [Nat.min_eq_left h]; exact ⟨rfl, rfl⟩
    · rw [Nat.min_eq_right h]
      have hlt : N < 2 ^ (N.log2 + 1) := Nat.lt_log2_self
      have h1 : 2 ^ (N.log2 + 1) ≤ 2 ^ (N.log2 + 2) := Nat.pow_le_pow_right (by decide) (by omega)
      have h2 : 2 ^ (N.log2 + 2) ≤ 2 ^ d := Nat.pow_le_pow_right (by decide) h
      rw [Nat.div_eq_of_lt (by omega), Nat.div_eq_of_lt (by omega), Nat.mod_eq_of_lt (by omega), Nat.mod_eq_of_lt (by omega)]
      exact ⟨rfl, rfl⟩
  obtain ⟨g1, g2⟩ := gapeq (m * 2 ^ p.toNat) (-p).toNat
  rw [g1, g2]
  have hD : 0 < 2 ^ (-p).toNat := Nat.two_pow_pos _
  have e1 : (m * 2 ^ (p + 1074).toNat : Nat) * 2 ^ (-p).toNat = m * 2 ^ p.toNat * U := by
    unfold U
    rw [Nat.mul_assoc, Nat.mul_assoc, ← Nat.pow_add, ← Nat.pow_add]
    congr 2; omega
  generalize hN : m * 2 ^ p.toNat = N at *
  generalize hX : m * 2 ^ (p + 1074).toNat = X at *
  generalize hDD : 2 ^ (-p).toNat = D at *
  have hK : 0 < U := U_pos
  generalize U = K at *
  -- N / D against X / K
  have hdiv : N / D = X / K := by
    apply Nat.le_antisymm
    · rw [Nat.le_div_iff_mul_le hK]
      have h1 : N / D * D ≤ N := Nat.div_mul_le_self _ _
      have h2 : N / D * D * K ≤ N * K := Nat.mul_le_mul_right _ h1
      rw [← e1] at h2
      have h3 : N / D * K * D ≤ X * D := by rw [Nat.mul_assoc, Nat.mul_comm K D, ← Nat.mul_assoc]; exact h2
      exact Nat.le_of_mul_le_mul_right h3 hD
    · rw [Nat.le_div_iff_mul_le hD]
      have h1 : X / K * K ≤ X := Nat.div_mul_le_self _ _
      have h2 : X / K * K * D ≤ X * D := Nat.mul_le_mul_right _ h1
      rw [e1] at h2
      have h3 : X / K * D * K ≤ N * K := by rw [Nat.mul_assoc, Nat.mul_comm D K, ← Nat.mul_assoc]; exact h2
      exact Nat.le_of_mul_le_mul_right h3 hK
  have hmod : (N % D = 0) ↔ (X % K = 0) := by
    constructor
    · intro h
      have h1 := Nat.div_add_mod N D
      rw [h, Nat.add_zero] at h1
      have h2 : X * D = (N / D * K) * D := by
        rw [e1]
        conv => lhs; rw [← h1]
        rw [Nat.mul_comm D, Nat.mul_assoc, Nat.mul_comm D K, ← Nat.mul_assoc]
      have h3 := Nat.eq_of_mul_eq_mul_right hD h2
      rw [h3, Nat.mul_mod_left]
    · intro h
      have h1 := Nat.div_add_mod X K
      rw [h, Nat.add_zero] at h1
      have h2 : N * K = (X / K * D) * K := by
        rw [← e1]
        conv => lhs; rw [← h1]
        rw [Nat.mul_comm K, Nat.mul_assoc, Nat.mul_comm K D, ← Nat.mul_assoc]
      have h3 := Nat.eq_of_mul_eq_mul_right hK h2
      rw [h3, Nat.mul_mod_left]
  cases (x / 9223372036854775808 % 2 == 1)
  · simp only [Bool.false_and, Bool.toNat_false, Nat.add_zero, Bool.false_eq_true, if_false]
    rw [hdiv]; norm_cast
  · simp only [Bool.true_and, if_true]
    by_cases h0 : X % K = 0
    · have : (N % D != 0) = false := by simp [hmod.2 h0]
      rw [this, hdiv]
      have h1 := Nat.div_add_mod X K
      rw [h0, Nat.add_zero] at h1
      have h2 : -(X : Int) = (-((X / K : Nat) : Int)) * (K : Int) := by
        have : (X : Int) = (K : Int) * ((X / K : Nat) : Int) := by exact_mod_cast h1.symm
        rw [this]; grind
      rw [h2, Int.mul_ediv_cancel _ (by omega)]; simp
    · have hne : ¬ N % D = 0 := fun h => h0 (hmod.1 h)
      have : (N % D != 0) = true := by simp [hne]
      rw [this, hdiv]
      have h1 := Nat.div_add_mod X K
      have h2 := Nat.mod_lt X hK
      symm
      have hKi : (0 : Int) < (K : Int) := by omega
      have h3 : (X : Int) = (K : Int) * ((X / K : Nat) : Int) + ((X % K : Nat) : Int) := by exact_mod_cast h1.symm
      generalize hq : X / K = Q at *
      generalize hr : X % K = R at *
      show -(X : Int) / K = -((Q + 1 : Nat) : Int)
      have h4 : -(X : Int) = ((K : Int) - R) + K * (-((Q + 1 : Nat) : Int)) := by rw [h3]; push_cast; grind
      rw [h4, Int.add_mul_ediv_left _ _ (by omega), Int.ediv_eq_zero_of_lt (by omega) (by omega)]; omega
/-! ### words -/
theorem mul_word {x y : Nat} (hx : fin x) (hy : fin y) : Ieee.double.mul x y = some (wd ((x / 9223372036854775808 % 2 == 1) ^^ (y / 9223372036854775808 % 2 == 1)) (rnd (rv (x % 9223372036854775808) * rv (y % 9223372036854775808)) 1074)) := by
  obtain ⟨m, i, hr, hi, _, hm, _⟩ := read_fin hx
  obtain ⟨n, j, hr2, hj, _, hn, _⟩ := read_fin hy
  unfold Ieee.Format.mul
  rw [hr, hr2]
  show some (Ieee.double.nearest _ _ _) = _
  have hb : 0 ≤ i + j + 1074 + (1074 : Nat) := by omega
  rw [nearest_eq _ _ _ 1074 hb]
  have e1 : (i + j + 1074 + (1074 : Nat)).toNat = (i + 1074).toNat + (j + 1074).toNat := by omega
  have e2 : m * n * 2 ^ (i + j + 1074 + (1074 : Nat)).toNat = rv (x % 9223372036854775808) * rv (y % 9223372036854775808) := by
    rw [e1, Nat.pow_add, ← hm, ← hn]
    generalize 2 ^ (i + 1074).toNat = P
    generalize 2 ^ (j + 1074).toNat = Q
    grind
  rw [e2]
set_option exponentiation.threshold 4000 in
theorem rv_one : rv 4607182418800017408 = U := by
  unfold rv U
  rw [if_neg (by decide)]
theorem mul_one {x : Nat} (h : fin x) (hx : x < 9223372036854775808) : Ieee.double.mul 4607182418800017408 x = some x := by
  rw [mul_word (by unfold fin; decide) h]
  have e1 : x % 9223372036854775808 = x := Nat.mod_eq_of_lt hx
  have e2 : (x / 9223372036854775808 % 2 == 1) = false := by rw [Nat.div_eq_of_lt hx]; rfl
  have e3 : 4607182418800017408 % 9223372036854775808 = 4607182418800017408 := by decide
  have e4 : ((4607182418800017408 : Nat) / 9223372036854775808 % 2 == 1) = false := by decide
  rw [e1, e2, e3, e4, rv_one, Nat.mul_comm]
  unfold fin at h
  rw [e1] at h
  show some (wd false (min (rndU (rv x * U) 1074) _)) = _
  have := rndU_rv x 1074
  unfold U
  rw [this, Nat.min_eq_left (Nat.le_of_lt h)]
  rfl
set_option exponentiation.threshold 4000 in
/-- A whole number of 53 bits as a float. -/
theorem nat_word {n : Nat} (h1 : 4503599627370496 ≤ n) (h2 : n ≤ 9007199254740992) : Ieee.double.nearest false n 0 = 1074 * 4503599627370496 + n := by
  rw [nearest_eq _ _ _ 0 (by decide)]
  have e1 : n * 2 ^ ((0 : Int) + 1074 + (0 : Nat)).toNat = rv (1074 * 4503599627370496 + n) * 2 ^ 0 := by
    rw [rv_of _ _ (by omega) (.inr h1), Nat.pow_zero, Nat.mul_one]; rfl
  rw [e1]
  unfold rnd wd
  rw [rndU_rv, Nat.min_eq_left (by omega)]
  rfl
end Go.Flo
namespace Go.Proofs.YthjimnmgbcckjaaGreat
set_option maxRecDepth 100000
open Go.RowKit Go.Inc Go.Run

/-- The word of K times 2^y, K of 53 bits. -/
def kw (K : Nat) (y : Int) : Nat := (1074 + y).toNat * 4503599627370496 + K

theorem sv_pos {z : Nat} (hz : z < 9223372036854775808) : Flo.sv z = (Flo.rv z : Int) := by
  unfold Flo.sv
  rw [Nat.div_eq_of_lt hz, Nat.mod_eq_of_lt hz, if_neg (by decide)]
theorem order_pos {x y : Nat} (hx : x ≤ 9218868437227405312) (hy : y ≤ 9218868437227405312) : Ieee.double.order x y = some (compare x y) := by
  rw [Flo.order_num (by unfold Flo.num; omega) (by unfold Flo.num; omega), sv_pos (by omega), sv_pos (by omega)]
  congr 1
  rcases Nat.lt_trichotomy x y with h | h | h
  · have := Flo.rv_lt h
    rw [Nat.compare_eq_lt.2 h, Int.compare_eq_lt.2 (by omega)]
  · subst h
    rw [Nat.compare_eq_eq.2 rfl, Int.compare_eq_eq.2 rfl]
  · have := Flo.rv_lt h
    rw [Nat.compare_eq_gt.2 h, Int.compare_eq_gt.2 (by omega)]
theorem lt_false {x y : Nat} (hx : x ≤ 9218868437227405312) (hy : y ≤ 9218868437227405312) (h : y ≤ x) : (FloatKind.f64.format.order x y == some .lt) = false := by
  show (Ieee.double.order x y == some .lt) = false
  rw [order_pos hx hy]
  have : compare x y ≠ .lt := fun h2 => by have := Nat.compare_eq_lt.1 h2; omega
  simpa using this
theorem eq_false {x y : Nat} (hx : x ≤ 9218868437227405312) (hy : y ≤ 9218868437227405312) (h : x ≠ y) : (FloatKind.f64.format.order x y == some .eq) = false := by
  show (Ieee.double.order x y == some .eq) = false
  rw [order_pos hx hy]
  have : compare x y ≠ .eq := fun h2 => h (Nat.compare_eq_eq.1 h2)
  simpa using this

theorem normalize_calls (x : Nat) (h1 : 4503599627370496 ≤ x) (h2 : x < 9218868437227405312) (w : World) :
    Calls Tryz.prog 181 #[.float .f64 x] w fun e w' => e = .returned (.tuple #[.float .f64 x, .int .i64 0]) ∧ w = w' := by
  have e0 : x % 9223372036854775808 = x := Nat.mod_eq_of_lt (by omega)
  have ho := lt_false (x := x) (y := 4503599627370496) (by omega) (by omega) h1
  have AB := abs_calls x (by omega)
  rw [e0] at AB
  clear e0 h1
  have H2 := Lib.hid h2
  clear h2
  go_enter Tryz.func181, Tryz.ntmps181
  go_wp2_with (go_at_call 124; refine (AB _).mono ?_; rintro e w' ⟨rfl, rfl⟩)
  go_ret2
  exact ⟨rfl, rfl⟩

theorem or_add2 (a b : Nat) (s : Nat) (hb : b < 2 ^ s) (h : a * 2 ^ s + b < 18446744073709551616) : bits .or .u64 (b : Int) ((a * 2 ^ s : Nat) : Int) = ((a * 2 ^ s + b : Nat) : Int) := by
  have h1 := or_add a b s hb h
  rw [← h1]
  show IntKind.u64.wrap ((BitVec.ofInt 64 (b : Int) ||| BitVec.ofInt 64 ((a * 2 ^ s : Nat) : Int)).toNat : Int) = IntKind.u64.wrap ((BitVec.ofInt 64 ((a * 2 ^ s : Nat) : Int) ||| BitVec.ofInt 64 (b : Int)).toNat : Int)
  rw [BitVec.or_comm]
theorem andNot_exp (x : Nat) (h : x < 9223372036854775808) : bits .andNot .u64 (x : Int) 9218868437227405312 = ((x % 4503599627370496 : Nat) : Int) := by
  have hb : ~~~(BitVec.ofInt 64 9218868437227405312) = BitVec.ofNat 64 (2 ^ 63 + (2 ^ 52 - 1)) := by decide +kernel
  have ha : BitVec.ofInt 64 (x : Int) = BitVec.ofNat 64 x := BitVec.ofInt_natCast ..
  show IntKind.u64.wrap ((BitVec.ofInt 64 (x : Int) &&& ~~~(BitVec.ofInt 64 9218868437227405312)).toNat : Int) = _
  have e1 : (2 ^ 63 + (2 ^ 52 - 1)) = (2 ^ 63 ||| (2 ^ 52 - 1)) := by decide +kernel
  have e2 : x &&& 2 ^ 63 = 0 := by
    apply Nat.eq_of_testBit_eq
    intro i
    rw [Nat.testBit_and, Nat.testBit_two_pow, Nat.zero_testBit]
    by_cases hi : 63 = i
    · subst hi
      rw [Nat.testBit_lt_two_pow (show x < 2 ^ 63 by omega)]; rfl
    · simp [hi]
  rw [hb, ha, BitVec.toNat_and, BitVec.toNat_ofNat, BitVec.toNat_ofNat, Nat.mod_eq_of_lt (a := x) (by omega), Nat.mod_eq_of_lt (a := 2 ^ 63 + (2 ^ 52 - 1)) (by decide), e1, Nat.and_or_distrib_left, e2, Nat.zero_or, Nat.and_two_pow_sub_one_eq_mod]
  exact wrap_u64_in _ (by omega) (by omega)
theorem and_2047i (x : Int) (h0 : 0 ≤ x) (h1 : x ≤ 2047) : bits .and .i64 x 2047 = x := by
  have key : ∀ n : Fin 2048, bits .and .i64 (n.val : Int) 2047 = (n.val : Int) := by decide +kernel
  have := key ⟨x.toNat, by omega⟩
  simpa [show ((x.toNat : Nat) : Int) = x by omega] using this

set_option maxHeartbeats 2000000 in
/-- ldexp of a normal float, to a normal float. -/
theorem ldexp1_calls (K : Nat) (y : Int) (h1 : 4503599627370496 ≤ K) (h2 : K ≤ 9007199254740992) (hy : -1000 ≤ y ∧ y ≤ 900) (w : World) :
    Calls Tryz.prog 176 #[.float .f64 (1074 * 4503599627370496 + K), .int .i64 y] w fun e w' => e = .returned (.float .f64 (kw K y)) ∧ w = w' := by
  obtain ⟨x, hx⟩ : ∃ x, x = 1074 * 4503599627370496 + K := ⟨_, rfl⟩
  rw [← hx]
  have b1 : 4503599627370496 ≤ x := by omega
  have b2 : x < 9218868437227405312 := by omega
  have e0 : x % 9223372036854775808 = x := Nat.mod_eq_of_lt (by omega)
  have f1 := eq_false (x := x) (y := 0) (by omega) (by omega) (by omega)
  have NO := normalize_calls x b1 b2
  have II := isInf_calls x (by omega) (by rw [e0]; unfold infR; omega)
  have IN := isNaN_calls x
  have z1 : decide (x % 9223372036854775808 = infR) = false := decide_eq_false (by rw [e0]; unfold infR; omega)
  have z2 : (!decide (x % 9223372036854775808 ≤ infR)) = false := by rw [decide_eq_true (by rw [e0]; unfold infR; omega)]; rfl
  rw [z1] at II
  rw [z2] at IN
  clear z1 z2 e0
  have htb := tobits_run
  have hfb := frombits_run
  obtain ⟨F, hF⟩ : ∃ F : Int, (x : Int) / 4503599627370496 = F := ⟨_, rfl⟩
  have hFb : 1075 ≤ F ∧ F ≤ 1076 := by omega
  have w1 : wrap64 F = F := by unfold wrap64; omega
  have w2 := and_2047i F (by omega) (by omega)
  have w3 : IntKind.i64.wrap (F - 1023) = F - 1023 := wrap_i64_in _ (by omega) (by omega)
  obtain ⟨E, hE⟩ : ∃ E : Int, y + (F - 1023) = E := ⟨_, rfl⟩
  have w4 : wrap64 E = E := by unfold wrap64; omega
  have w4y : IntKind.i64.wrap y = y := wrap_i64_in _ (by omega) (by omega)
  have w4z : IntKind.i64.wrap E = E := wrap_i64_in _ (by omega) (by omega)
  have d1 : decide (E < -1075) = false := decide_eq_false (by omega)
  have d2 : decide (E > 1023) = false := decide_eq_false (by omega)
  have d3 : decide (E < -1022) = false := decide_eq_false (by omega)
  have w5 := andNot_exp x (by omega)
  obtain ⟨M, hM⟩ : ∃ M, x % 4503599627370496 = M := ⟨_, rfl⟩
  rw [hM] at w5
  have w6 : IntKind.i64.wrap (E + 1023) = E + 1023 := wrap_i64_in _ (by omega) (by omega)
  obtain ⟨G, hG⟩ : ∃ G : Nat, E + 1023 = (G : Int) := ⟨(E + 1023).toNat, by omega⟩
  have w7 : IntKind.u64.wrap (G : Int) = (G : Int) := wrap_u64_in _ (by omega) (by omega)
  have w8 : IntKind.u64.wrap ((G : Int) * 4503599627370496) = ((G * 2 ^ 52 : Nat) : Int) := by
    rw [wrap_u64_in _ (by omega) (by omega)]; omega
  have w9 := or_add2 G M 52 (by omega) (by omega)
  obtain ⟨W, hW⟩ : ∃ W, W = G * 2 ^ 52 + M := ⟨_, rfl⟩
  rw [← hW] at w9
  have w10 : bits .or .u64 (M : Int) ((G : Int) * 4503599627370496) = (W : Int) := by
    rw [← w9]; congr 1
  have hWK : Hid (kw K y = W) := by unfold kw; rw [Hid]; omega
  have wm := fun w => run_float_arith (P := Tryz.prog) w .mul 63 .f64 4607182418800017408 W W (Flo.mul_one (by unfold Flo.fin; omega) (by omega))
  have wn : ((W : Nat) : Int).toNat = W := Int.toNat_natCast _
  have HY := Lib.hid hy
  have w11 : IntKind.u64.wrap ((G : Int) * 4503599627370496) = (G : Int) * 4503599627370496 := wrap_u64_in _ (by omega) (by omega)
  have w12 : IntKind.i64.wrap (G : Int) = (G : Int) := wrap_i64_in _ (by omega) (by omega)
  clear hx b1 b2 h1 h2 hM hFb hW hy w8 w9
  go_enter Tryz.func176, Tryz.ntmps176
  go_wp2_with (first | (go_at_call 181; refine (NO _).mono ?_; rintro e w' ⟨rfl, rfl⟩) | (go_at_call 106; refine (II _).mono ?_; rintro e w' ⟨rfl, rfl⟩) | (go_at_call 105; refine (IN _).mono ?_; rintro e w' ⟨rfl, rfl⟩))
  go_ret
  exact ⟨by rw [hWK.out]; rfl, rfl⟩
theorem ldexp_calls (K : Nat) (y : Int) (h1 : 4503599627370496 ≤ K) (h2 : K ≤ 9007199254740992) (hy : -1000 ≤ y ∧ y ≤ 900) (w : World) :
    Calls Tryz.prog 163 #[.float .f64 (1074 * 4503599627370496 + K), .int .i64 y] w fun e w' => e = .returned (.float .f64 (kw K y)) ∧ w = w' := by
  have LD := Lib.hid (ldexp1_calls K y h1 h2 hy)
  clear hy
  obtain ⟨x, hx⟩ : ∃ x, x = 1074 * 4503599627370496 + K := ⟨_, rfl⟩
  rw [← hx] at LD ⊢
  clear hx h1 h2
  go_enter Tryz.func163, Tryz.ntmps163
  go_wp2_with (go_at_call 176; refine (LD.out _).mono ?_; rintro e w' ⟨rfl, rfl⟩)
  go_ret
  exact ⟨rfl, rfl⟩

/-- What is kept of 64 bits: 53, to the nearest. -/
def kept (m : Nat) (more : Bool) : Nat := m / 2048 + (if 1024 < m % 2048 ∨ (m % 2048 = 1024 ∧ (more = true ∨ m / 2048 % 2 = 1)) then 1 else 0)
/-- A quotient to the nearest, halves to even. -/
def rneQ (N D : Nat) : Nat := N / D + (if D < 2 * (N % D) ∨ (D = 2 * (N % D) ∧ N / D % 2 = 1) then 1 else 0)
theorem rneQ_scale (N D c : Nat) (hc : 0 < c) : rneQ (N * c) (D * c) = rneQ N D := by
  unfold rneQ
  rw [Nat.mul_div_mul_right _ _ hc, Nat.mul_mod_mul_right]
  have h1 : D * c < 2 * (N % D * c) ↔ D < 2 * (N % D) := by
    rw [← Nat.mul_assoc]; exact Nat.mul_lt_mul_right hc
  have h2 : D * c = 2 * (N % D * c) ↔ D = 2 * (N % D) := by
    rw [← Nat.mul_assoc]; exact Nat.mul_right_cancel_iff hc
  simp only [h1, h2]
theorem kept_rne (N D : Nat) (hD : 0 < D) : kept (N / D) (decide (0 < N % D)) = rneQ N (D * 2048) := by
  unfold kept rneQ
  have h1 := Nat.div_add_mod N D
  have h2 := Nat.mod_lt N hD
  obtain ⟨q, hq⟩ : ∃ q, N / D = q := ⟨_, rfl⟩
  obtain ⟨r, hr⟩ : ∃ r, N % D = r := ⟨_, rfl⟩
  rw [hq, hr] at h1
  rw [hr] at h2
  have e1 : N / (D * 2048) = q / 2048 := by rw [← Nat.div_div_eq_div_mul, hq]
  have e2 : N % (D * 2048) = D * (q % 2048) + r := by
    have h3 := Nat.div_add_mod q 2048
    have h4 : D * 2048 * (q / 2048) + (D * (q % 2048) + r) = N := by
      rw [← h1]
      conv => rhs; rw [← h3]
      rw [Nat.mul_add]
      have : D * (2048 * (q / 2048)) = D * 2048 * (q / 2048) := by rw [Nat.mul_assoc]
      omega
    have h5 := Nat.div_add_mod N (D * 2048)
    rw [e1] at h5
    omega
  rw [hq, hr, e1, e2]
  congr 1
  have hl := Nat.mod_lt q (show 0 < 2048 by decide)
  generalize q % 2048 = l at *
  generalize q / 2048 % 2 = o at *
  have key : (1024 < l ∨ (l = 1024 ∧ (decide (0 < r) = true ∨ o = 1))) ↔ (D * 2048 < 2 * (D * l + r) ∨ (D * 2048 = 2 * (D * l + r) ∧ o = 1)) := by
    rcases Nat.lt_trichotomy l 1024 with h | h | h
    · have : D * l ≤ D * 1023 := Nat.mul_le_mul_left _ (by omega)
      omega
    · subst h
      simp
      omega
    · have : D * 1025 ≤ D * l := Nat.mul_le_mul_left _ (by omega)
      omega
  simp only [key]

set_option maxHeartbeats 2000000 in
theorem pack_calls (m : Nat) (more : Bool) (x : Int) (h1 : 9223372036854775808 ≤ m) (h2 : m < 18446744073709551616) (hx : -900 ≤ x ∧ x ≤ 800) (w : World) :
    Calls Tryz.prog 147 #[.int .u64 (m : Nat), .bool more, .int .i64 x] w fun e w' => e = .returned (.float .f64 (kw (kept m more) (x + 11))) ∧ w = w' := by
  obtain ⟨s, hs, hs1, hs2, hz⟩ := lz_calls (m : Int) (by omega) (by omega)
  obtain rfl : s = 0 := by
    rcases Nat.eq_zero_or_pos s with h | h
    · exact h
    · have : (2 : Int) ^ 1 ≤ 2 ^ s := by exact_mod_cast Nat.pow_le_pow_right (by decide : 0 < 2) h
      have := Int.mul_le_mul_of_nonneg_left this (show 0 ≤ (m : Int) by omega)
      omega
  have HZ := Lib.hid hz
  clear hz hs hs1 hs2
  obtain ⟨l, hl⟩ : ∃ l, m % 2048 = l := ⟨_, rfl⟩
  obtain ⟨K, hK⟩ : ∃ K, m / 2048 = K := ⟨_, rfl⟩
  have f1 : bits .and .u64 (m : Int) 2047 = (l : Int) := by
    have := bits_mask .u64 64 (by decide) wraps_u64 11 (by decide) (m : Int) (by omega) (by omega)
    rw [show ((2 : Int) ^ 11 - 1) = 2047 from rfl] at this
    rw [this]; omega
  have f2 : (m : Int) / 2048 = (K : Int) := by omega
  have hkb : 4503599627370496 ≤ K ∧ K < 9007199254740992 := by omega
  have f3 : bits .and .u64 (K : Int) 1 = ((K % 2 : Nat) : Int) := by
    have := bits_mask .u64 64 (by decide) wraps_u64 1 (by decide) (K : Int) (by omega) (by omega)
    rw [show ((2 : Int) ^ 1 - 1) = 1 from rfl] at this
    rw [this]; omega
  have w1 : IntKind.i64.wrap (x + 11) = x + 11 := wrap_i64_in _ (by omega) (by omega)
  have w0 : IntKind.i64.wrap x = x := wrap_i64_in _ (by omega) (by omega)
  have w2 : IntKind.u64.wrap ((K : Int) + 1) = ((K + 1 : Nat) : Int) := by rw [wrap_u64_in _ (by omega) (by omega)]; omega
  have w3 : IntKind.u64.wrap (m : Int) = (m : Int) := wrap_u64_in _ (by omega) (by omega)
  have hkept : Hid (kept m more = K + (if 1024 < l ∨ (l = 1024 ∧ (more = true ∨ K % 2 = 1)) then 1 else 0)) := by rw [Hid]; unfold kept; rw [hl, hK]
  have hKK : 4503599627370496 ≤ kept m more ∧ kept m more ≤ 9007199254740992 := by
    have := hkept.out
    split at this <;> omega
  have L := Lib.hid (ldexp_calls (kept m more) (x + 11) hKK.1 hKK.2 (by omega))
  obtain ⟨KK, hKKe⟩ : ∃ KK, KK = kept m more := ⟨_, rfl⟩
  rw [← hKKe] at L hkept hKK ⊢
  have c0 : floatOfInt .f64 (KK : Int) = 1074 * 4503599627370496 + KK := by
    have : decide ((KK : Int) < 0) = false := decide_eq_false (by omega)
    show Ieee.double.nearest (decide ((KK : Int) < 0)) ((KK : Int).natAbs) 0 = _
    rw [this, Int.natAbs_natCast, Flo.nat_word hKK.1 hKK.2]
  obtain ⟨W, hW⟩ : ∃ W, W = 1074 * 4503599627370496 + KK := ⟨_, rfl⟩
  rw [← hW] at L c0
  clear hl hK h1 h2 hkb hx hW hKKe hKK
  have wE : IntKind.i64.wrap (x + 11) = x + 11 := w1
  go_enter Tryz.func147, Tryz.ntmps147
  go_upto_region 7 with (first | (go_at_call 145; refine (HZ.out _).mono ?_; rintro e w' ⟨rfl, rfl⟩))
  go_cut [36] (fun st wx => st = .bool (decide (1024 < l ∨ (l = 1024 ∧ (more = true ∨ K % 2 = 1)))) ∧ w' = wx)
  case first =>
    by_cases a1 : 1024 < l
    · have d1 : decide ((l : Int) > 1024) = true := decide_eq_true (by omega)
      have d2 : decide (1024 < (l : Int)) = true := decide_eq_true (by omega)
      have dc := Lib.hid (decide_eq_true (p := 1024 < l ∨ (l = 1024 ∧ (more = true ∨ K % 2 = 1))) (.inl a1))
      clear a1
      go_wp2_with fail
      go_meet
      exact ⟨by rw [dc.out], rfl⟩
    · have d1 : decide ((l : Int) > 1024) = false := decide_eq_false (by omega)
      have d2 : decide (1024 < (l : Int)) = false := decide_eq_false (by omega)
      by_cases a2 : l = 1024
      · have d3 : ((l : Int) == 1024) = true := by simp; omega
        cases more
        · rcases Nat.mod_two_eq_zero_or_one K with a3 | a3
          · have d4 : (((K % 2 : Nat) : Int) == 1) = false := by rw [a3]; rfl
            have d5 : ((K : Int) % 2 == 1) = false := by rw [beq_eq_false_iff_ne]; omega
            have dc := Lib.hid (decide_eq_false (p := 1024 < l ∨ (l = 1024 ∧ (false = true ∨ K % 2 = 1))) (by intro h; rcases h with h | ⟨_, h | h⟩; exact a1 h; cases h; omega))
            clear a1 a2 a3
            go_wp2_with fail
            go_meet
            exact ⟨by rw [dc.out], rfl⟩
          · have d4 : (((K % 2 : Nat) : Int) == 1) = true := by rw [a3]; rfl
            have d5 : ((K : Int) % 2 == 1) = true := by rw [beq_iff_eq]; omega
            have dc := Lib.hid (decide_eq_true (p := 1024 < l ∨ (l = 1024 ∧ (false = true ∨ K % 2 = 1))) (.inr ⟨a2, .inr a3⟩))
            clear a1 a2 a3
            go_wp2_with fail
            go_meet
            exact ⟨by rw [dc.out], rfl⟩
        · have dc := Lib.hid (decide_eq_true (p := 1024 < l ∨ (l = 1024 ∧ (true = true ∨ K % 2 = 1))) (.inr ⟨a2, .inl rfl⟩))
          clear a1 a2
          go_wp2_with fail
          go_meet
          exact ⟨by rw [dc.out], rfl⟩
      · have d3 : ((l : Int) == 1024) = false := by rw [beq_eq_false_iff_ne]; omega
        have dc := Lib.hid (decide_eq_false (p := 1024 < l ∨ (l = 1024 ∧ (more = true ∨ K % 2 = 1))) (by intro h; rcases h with h | ⟨h, _⟩; exact a1 h; exact a2 h))
        clear a1 a2
        go_wp2_with fail
        go_meet
        exact ⟨by rw [dc.out], rfl⟩
  case rest =>
    obtain ⟨rfl, rfl⟩ := hcut
    by_cases hc : 1024 < l ∨ (l = 1024 ∧ (more = true ∨ K % 2 = 1))
    · rw [decide_eq_true hc]
      have hk := hkept.out
      rw [if_pos hc] at hk
      have w4 : IntKind.u64.wrap ((K : Int) + 1) = (KK : Int) := by rw [w2]; omega
      clear hc hk w2
      go_wp2_with (go_at_call 163; refine (L.out _).mono ?_; rintro e w' ⟨rfl, rfl⟩)
      go_ret
      exact ⟨rfl, rfl⟩
    · rw [decide_eq_false hc]
      have hk := hkept.out
      rw [if_neg hc, Nat.add_zero] at hk
      subst hk
      clear hc w2
      go_wp2_with (go_at_call 163; refine (L.out _).mono ?_; rintro e w' ⟨rfl, rfl⟩)
      go_ret
      exact ⟨rfl, rfl⟩
/-- K is the 53 bits of num by den, times 2^t. -/
structure IsNear (num den K t : Nat) : Prop where
  lo : 4503599627370496 * den ≤ num * 2 ^ t
  hi : num * 2 ^ t < 9007199254740992 * den
  near : K = rneQ (num * 2 ^ t) den
theorem IsNear.unique {num den K t K' t' : Nat} (h : IsNear num den K t) (h' : IsNear num den K' t') : K = K' ∧ t = t' := by
  have key : ∀ {K t K' t' : Nat}, IsNear num den K t → IsNear num den K' t' → t ≤ t' := by
    intro K t K' t' h h'
    rcases Nat.lt_or_ge t' t with h1 | h1
    · obtain ⟨d, rfl⟩ : ∃ d, t = t' + 1 + d := ⟨t - t' - 1, by omega⟩
      have h2 := h.hi
      have h3 := h'.lo
      have e : num * 2 ^ (t' + 1 + d) = num * 2 ^ t' * (2 * 2 ^ d) := by rw [Nat.pow_add, Nat.pow_succ, Nat.mul_assoc, Nat.mul_assoc]
      have h4 : 1 ≤ 2 ^ d := Nat.one_le_two_pow
      have h5 : num * 2 ^ t' * (2 * 1) ≤ num * 2 ^ t' * (2 * 2 ^ d) := Nat.mul_le_mul_left _ (by omega)
      omega
    · exact h1
  have e : t = t' := Nat.le_antisymm (key h h') (key h' h)
  subst e
  exact ⟨by rw [h.near, h'.near], rfl⟩
theorem IsNear.bits {num den K t : Nat} (hd : 0 < den) (h : IsNear num den K t) : 4503599627370496 ≤ K ∧ K ≤ 9007199254740992 := by
  have h1 : 4503599627370496 ≤ num * 2 ^ t / den := (Nat.le_div_iff_mul_le hd).2 h.lo
  have h2 : num * 2 ^ t / den < 9007199254740992 := (Nat.div_lt_iff_lt_mul hd).2 h.hi
  rw [h.near]
  unfold rneQ
  split <;> omega

set_option maxHeartbeats 2000000 in
/-- Near, of fractions up to 1. -/
theorem near_calls (num den : Nat) (h0 : 0 < num) (h1 : num ≤ den) (h2 : den < 18446744073709551616) (w : World) :
    Calls Tryz.prog 131 #[.int .u64 (num : Nat), .int .u64 (den : Nat)] w fun e w' => ∃ K t : Nat, e = .returned (.tuple #[.float .f64 (kw K (-(t : Int))), .int .i64 0]) ∧ IsNear num den K t ∧ t ≤ 116 ∧ Fr w w' := by
  obtain ⟨a, ha, ha1, ha2, hza⟩ := lz_calls (num : Int) (by omega) (by omega)
  obtain ⟨b, hb, hb1, hb2, hzb⟩ := lz_calls (den : Int) (by omega) (by omega)
  have HZA := Lib.hid hza
  have HZB := Lib.hid hzb
  clear hza hzb
  have ca : ((num : Int) * 2 ^ a) = ((num * 2 ^ a : Nat) : Int) := by rw [Int.natCast_mul, pow_cast]
  have cb : ((den : Int) * 2 ^ b) = ((den * 2 ^ b : Nat) : Int) := by rw [Int.natCast_mul, pow_cast]
  rw [ca] at ha1 ha2
  rw [cb] at hb1 hb2
  have fa : IntKind.u64.wrap ((num : Int) * 2 ^ a) = ((num * 2 ^ a : Nat) : Int) := by rw [ca]; exact wrap_u64_in _ (by omega) ha2
  have fb : IntKind.u64.wrap ((den : Int) * 2 ^ b) = ((den * 2 ^ b : Nat) : Int) := by rw [cb]; exact wrap_u64_in _ (by omega) hb2
  have hab : b ≤ a := by
    rcases Nat.lt_or_ge a b with h | h
    · have e1 : 2 ^ b = 2 ^ a * 2 ^ (b - a) := by rw [← Nat.pow_add]; congr 1; omega
      have e2 : 2 ≤ 2 ^ (b - a) := by
        have := Nat.pow_le_pow_right (show 0 < 2 by decide) (show 1 ≤ b - a by omega)
        simpa using this
      have e3 : num * 2 ^ a * 2 ≤ den * 2 ^ b := by
        rw [e1, ← Nat.mul_assoc]
        exact Nat.mul_le_mul (Nat.mul_le_mul_right _ h1) e2
      omega
    · exact h
  obtain ⟨n, hn⟩ : ∃ n, num * 2 ^ a = n := ⟨_, rfl⟩
  obtain ⟨d, hd⟩ : ∃ d, den * 2 ^ b = d := ⟨_, rfl⟩
  rw [hn] at ha1 ha2 fa
  rw [hd] at hb1 hb2 fb
  have g1 : ((den : Int) == 0) = false := by rw [beq_eq_false_iff_ne]; omega
  have g2 : ((num : Int) == 0) = false := by rw [beq_eq_false_iff_ne]; omega
  have wx : IntKind.i64.wrap ((b : Int) - (a : Int)) = (b : Int) - (a : Int) := wrap_i64_in _ (by omega) (by omega)
  -- the whole of it
  have fin : ∀ (sh : Nat) (N : Nat), n * 2 ^ sh = N → 64 ≤ a + 1 + sh - b → a + sh - b - 11 ≤ 116 → 9223372036854775808 * d ≤ N → N < 18446744073709551616 * d → IsNear num den (kept (N / d) (decide (0 < N % d))) (a + sh - b - 11) := by
    intro sh N hN hs1 hs2 hl hu
    have hd0 : 0 < d := by omega
    obtain ⟨t, ht⟩ : ∃ t, t = a + sh - b - 11 := ⟨_, rfl⟩
    have hp : 0 < 2 ^ (b + 11) := Nat.two_pow_pos _
    have e1 : num * 2 ^ t * 2 ^ (b + 11) = N := by
      rw [← hN, ← hn, Nat.mul_assoc, Nat.mul_assoc, ← Nat.pow_add, ← Nat.pow_add]
      congr 2; omega
    have e2 : den * 2 ^ (b + 11) = d * 2048 := by rw [Nat.pow_add, ← Nat.mul_assoc, hd]
    rw [← ht]
    refine ⟨?_, ?_, ?_⟩
    · have : 4503599627370496 * den * 2 ^ (b + 11) ≤ num * 2 ^ t * 2 ^ (b + 11) := by rw [e1, Nat.mul_assoc, e2]; omega
      exact Nat.le_of_mul_le_mul_right this hp
    · have : num * 2 ^ t * 2 ^ (b + 11) < 9007199254740992 * den * 2 ^ (b + 11) := by rw [e1, Nat.mul_assoc, e2]; omega
      exact Nat.lt_of_mul_lt_mul_right this
    · rw [kept_rne N d hd0, ← e2, ← e1, rneQ_scale _ _ _ hp]
  have FIN := Lib.hid fin
  have HAB := Lib.hid (And.intro hab (And.intro ha hb))
  clear fin hab hn hd ca cb h0 h1 h2
  by_cases hge : d ≤ n
  · have g4 : decide ((n : Int) ≥ (d : Int)) = true := decide_eq_true (by omega)
    have g5 : decide (d ≤ n) = true := decide_eq_true hge
    obtain ⟨N, hN⟩ : ∃ N, N = n * 2 ^ 63 := ⟨_, rfl⟩
    obtain ⟨H, hH⟩ : ∃ H, n / 2 = H := ⟨_, rfl⟩
    obtain ⟨L, hL⟩ : ∃ L, N % 18446744073709551616 = L := ⟨_, rfl⟩
    have k1 : (n : Int) / 2 = (H : Int) := by omega
    have k2 : IntKind.u64.wrap ((n : Int) * 9223372036854775808) = (L : Int) := by rw [wrap_u64]; omega
    have hNe : N = H * 18446744073709551616 + L := by
      have e : N / 18446744073709551616 = H := by
        rw [hN, ← hH, show 18446744073709551616 = 2 * 2 ^ 63 from rfl]; exact Nat.mul_div_mul_right n 2 (by decide)
      have := Nat.div_add_mod N 18446744073709551616
      rw [e, hL, Nat.mul_comm] at this
      exact this.symm
    have DV := fun w => div64_calls (H : Int) (L : Int) (d : Int) (by omega) (by omega) (by omega) w
    have e1 : (H : Int) * 18446744073709551616 + L = ((N : Nat) : Int) := by omega
    rw [e1, ← Int.natCast_ediv, ← Int.natCast_emod] at DV
    have hb1' : 9223372036854775808 * d ≤ N := by omega
    have hb2' : N < 18446744073709551616 * d := by omega
    have q1 : 9223372036854775808 ≤ N / d := (Nat.le_div_iff_mul_le (by omega)).2 hb1'
    have q2 : N / d < 18446744073709551616 := (Nat.div_lt_iff_lt_mul (by omega)).2 hb2'
    have hab := HAB.out
    have F := Lib.hid (FIN.out 63 N hN.symm (by omega) (by omega) hb1' hb2')
    obtain ⟨Q, hQ⟩ : ∃ Q, N / d = Q := ⟨_, rfl⟩
    obtain ⟨R, hR⟩ : ∃ R, N % d = R := ⟨_, rfl⟩
    rw [hQ, hR] at DV F
    rw [hQ] at q1 q2
    have DVH := Lib.hid DV
    have k3 : decide ((R : Int) > 0) = decide (0 < R) := by simp
    obtain ⟨mo, hmo⟩ : ∃ mo, decide (0 < R) = mo := ⟨_, rfl⟩
    have k3b : decide (0 < (R : Int)) = mo := by rw [← hmo]; simp
    rw [hmo] at k3 F
    have wj1 : IntKind.i64.wrap ((b : Int) - (a : Int)) = (b : Int) - (a : Int) := wrap_i64_in _ (by omega) (by omega)
    have w4 : IntKind.i64.wrap ((b : Int) - (a : Int)) = (b : Int) - (a : Int) := wrap_i64_in _ (by omega) (by omega)
    have w5 : IntKind.i64.wrap ((b : Int) - (a : Int) + 1) = (b : Int) - (a : Int) + 1 := wrap_i64_in _ (by omega) (by omega)
    have w6 : IntKind.i64.wrap ((b : Int) - (a : Int) + 1 - 64) = ((b : Int) - (a : Int) + 1 - 64) := wrap_i64_in _ (by omega) (by omega)
    have PK := Lib.hid (pack_calls Q mo ((b : Int) - (a : Int) + 1 - 64) q1 q2 (by omega))
    have hfin : Hid (kw (kept Q mo) (((b : Int) - (a : Int) + 1 - 64) + 11) = kw (kept Q mo) (-((a + 63 - b - 11 : Nat) : Int))) := by rw [Hid]; congr 1; omega
    have ht : Hid (a + 63 - b - 11 ≤ 116) := by rw [Hid]; omega
    obtain ⟨T, hT⟩ : ∃ T, a + 63 - b - 11 = T := ⟨_, rfl⟩
    rw [hT] at F hfin ht
    clear DV hH hL hNe e1 hb1' hb2' q1 q2 hQ hR hN hge hab hT ha1 ha2 hb1 hb2
    go_enter Tryz.func131, Tryz.ntmps131
    go_wp2_with (first | (go_at_call 145; first | (refine (HZA.out _).mono ?_; rintro e w' ⟨rfl, rfl⟩) | (refine (HZB.out _).mono ?_; rintro e w' ⟨rfl, rfl⟩)))
    go_quiet (fail)
    go_wp2_with (first | (go_at_call 146; refine (DVH.out _).mono ?_; rintro e w2 ⟨rfl, m, rfl⟩))
    refine (PK.out _).mono ?_
    rintro e w3 ⟨rfl, hw3⟩
    have HW3 := Lib.hid hw3
    clear hw3
    go_wp2_with fail
    go_ret2
    refine ⟨kept Q mo, T, ?_, F.out, ht.out, ?_⟩
    · rw [← hfin.out]; rfl
    · rw [← HW3.out]; exact fr_drewN _ _
  · have g4 : decide ((n : Int) ≥ (d : Int)) = false := decide_eq_false (by omega)
    have g5 : decide (d ≤ n) = false := decide_eq_false hge
    obtain ⟨N, hN⟩ : ∃ N, N = n * 2 ^ 64 := ⟨_, rfl⟩
    have DV := fun w => div64_calls (n : Int) 0 (d : Int) (by omega) (by omega) (by omega) w
    have e1 : (n : Int) * 18446744073709551616 + 0 = ((N : Nat) : Int) := by omega
    rw [e1, ← Int.natCast_ediv, ← Int.natCast_emod] at DV
    have hb1' : 9223372036854775808 * d ≤ N := by omega
    have hb2' : N < 18446744073709551616 * d := by omega
    have q1 : 9223372036854775808 ≤ N / d := (Nat.le_div_iff_mul_le (by omega)).2 hb1'
    have q2 : N / d < 18446744073709551616 := (Nat.div_lt_iff_lt_mul (by omega)).2 hb2'
    have hab := HAB.out
    have F := Lib.hid (FIN.out 64 N hN.symm (by omega) (by omega) hb1' hb2')
    obtain ⟨Q, hQ⟩ : ∃ Q, N / d = Q := ⟨_, rfl⟩
    obtain ⟨R, hR⟩ : ∃ R, N % d = R := ⟨_, rfl⟩
    rw [hQ, hR] at DV F
    rw [hQ] at q1 q2
    have DVH := Lib.hid DV
    have k3 : decide ((R : Int) > 0) = decide (0 < R) := by simp
    obtain ⟨mo, hmo⟩ : ∃ mo, decide (0 < R) = mo := ⟨_, rfl⟩
    have k3b : decide (0 < (R : Int)) = mo := by rw [← hmo]; simp
    rw [hmo] at k3 F
    have wj1 : IntKind.i64.wrap ((b : Int) - (a : Int)) = (b : Int) - (a : Int) := wrap_i64_in _ (by omega) (by omega)
    have w4 : IntKind.i64.wrap ((b : Int) - (a : Int)) = (b : Int) - (a : Int) := wrap_i64_in _ (by omega) (by omega)
    have w5 : IntKind.i64.wrap ((b : Int) - (a : Int) + 1) = (b : Int) - (a : Int) + 1 := wrap_i64_in _ (by omega) (by omega)
    have w6 : IntKind.i64.wrap ((b : Int) - (a : Int) - 64) = ((b : Int) - (a : Int) - 64) := wrap_i64_in _ (by omega) (by omega)
    have PK := Lib.hid (pack_calls Q mo ((b : Int) - (a : Int) - 64) q1 q2 (by omega))
    have hfin : Hid (kw (kept Q mo) (((b : Int) - (a : Int) - 64) + 11) = kw (kept Q mo) (-((a + 64 - b - 11 : Nat) : Int))) := by rw [Hid]; congr 1; omega
    have ht : Hid (a + 64 - b - 11 ≤ 116) := by rw [Hid]; omega
    obtain ⟨T, hT⟩ : ∃ T, a + 64 - b - 11 = T := ⟨_, rfl⟩
    rw [hT] at F hfin ht
    clear DV e1 hb1' hb2' q1 q2 hQ hR hN hge hab hT ha1 ha2 hb1 hb2
    go_enter Tryz.func131, Tryz.ntmps131
    go_wp2_with (first | (go_at_call 145; first | (refine (HZA.out _).mono ?_; rintro e w' ⟨rfl, rfl⟩) | (refine (HZB.out _).mono ?_; rintro e w' ⟨rfl, rfl⟩)))
    go_quiet (fail)
    go_wp2_with (first | (go_at_call 146; refine (DVH.out _).mono ?_; rintro e w2 ⟨rfl, m, rfl⟩))
    refine (PK.out _).mono ?_
    rintro e w3 ⟨rfl, hw3⟩
    have HW3 := Lib.hid hw3
    clear hw3
    go_wp2_with fail
    go_ret2
    refine ⟨kept Q mo, T, ?_, F.out, ht.out, ?_⟩
    · rw [← hfin.out]; rfl
    · rw [← HW3.out]; exact fr_drewN _ _
end Go.Proofs.YthjimnmgbcckjaaGreat
namespace Go.Run
/-- A segment. -/
structure Seg where
  first : Int
  slope : Nat
  inter : Nat
  frm : Int
  upto : Int
end Go.Run
namespace Go.Proofs.YthjimnmgbcckjaaGreat
set_option maxRecDepth 100000
open Go.RowKit Go.Inc Go.Run

theorem run_store_float (P : Program) (w : World) (a : Addr) (m : Mode) (k : FloatKind) (b : Nat) : (store a (.float k b) m).run P w = stored P w a (.float k b) m := run_store P w a _ m rfl
attribute [local go_sem] run_store_float

def sgcells (s : Seg) : List Value := [.int .u64 s.first, .float .f64 s.slope, .float .f64 s.inter, .int .i64 s.frm, .int .i64 s.upto]
def segVal (s : Seg) : Value := .agg #[.int .u64 s.first, .float .f64 s.slope, .float .f64 s.inter, .int .i64 s.frm, .int .i64 s.upto]
/-- The float of a slope up to 1. -/
def SlopeOf (num den : Int) (s : Nat) : Prop := (num = 0 ∧ s = 0) ∨ (0 < num ∧ ∃ K t : Nat, IsNear num.toNat den.toNat K t ∧ t ≤ 116 ∧ s = kw K (-(t : Int)))
theorem SlopeOf.unique {num den : Int} {s s' : Nat} (h : SlopeOf num den s) (h' : SlopeOf num den s') : s = s' := by
  rcases h with ⟨h0, rfl⟩ | ⟨h0, K, t, hn, _, rfl⟩
  · rcases h' with ⟨_, rfl⟩ | ⟨h1, _⟩
    · rfl
    · omega
  · rcases h' with ⟨h1, _⟩ | ⟨_, K', t', hn', _, rfl⟩
    · omega
    · obtain ⟨rfl, rfl⟩ := hn.unique hn'
      rfl
/-- The segment of a stretch that begins at a place. -/
structure SegOf (e : Int) (L : List Int) (frm : Int) (s : Seg) : Prop where
  ex : ∃ num den base, IsLow e L num den ∧ IsBase e num den L base ∧ SlopeOf num den s.slope ∧ s.inter = floatOfInt .f64 (frm + base)
  hfirst : s.first = ky L 0
  hfrm : s.frm = frm
  hto : s.upto = frm + L.length
theorem SegOf.unique {e : Int} {L : List Int} {frm : Int} {s s' : Seg} (hR : Rise L) (h : SegOf e L frm s) (h' : SegOf e L frm s') : s = s' := by
  obtain ⟨n, d, b, h1, h2, h3, h4⟩ := h.ex
  obtain ⟨n', d', b', h1', h2', h3', h4'⟩ := h'.ex
  obtain ⟨rfl, rfl⟩ := h1.unique hR h1'
  obtain rfl := h2.unique h2'
  have e1 := h3.unique h3'
  have e2 := h.hfirst.trans h'.hfirst.symm
  have e3 := h.hfrm.trans h'.hfrm.symm
  have e4 := h.hto.trans h'.hto.symm
  cases s; cases s'
  simp only [Seg.mk.injEq]
  exact ⟨e2, e1, h4.trans h4'.symm, e3, e4⟩
theorem cells5 {w : World} {g : Nat} {x0 x1 x2 x3 x4 : Value} {e : TypeId} (h : w.heap[g]? = some (.cells #[x0, x1, x2, x3, x4] e (0, 0))) : w.cell? ⟨g, 0, none⟩ = some x0 ∧ w.cell? ⟨g, 1, none⟩ = some x1 ∧ w.cell? ⟨g, 2, none⟩ = some x2 ∧ w.cell? ⟨g, 3, none⟩ = some x3 ∧ w.cell? ⟨g, 4, none⟩ = some x4 := by
  refine ⟨?_, ?_, ?_, ?_, ?_⟩ <;> (rw [blk_cell h]; rfl)
theorem near0_calls (den : Int) (h : 0 < den) (w : World) : Calls Tryz.prog 131 #[.int .u64 0, .int .u64 den] w fun e w' => e = .returned (.tuple #[.float .f64 0, .int .i64 0]) ∧ w = w' := by
  have g1 : (den == 0) = false := by rw [beq_eq_false_iff_ne]; omega
  go_enter Tryz.func131, Tryz.ntmps131
  go_wp2_with fail
  go_ret2
  exact ⟨rfl, rfl⟩
theorem slope_calls (num den : Int) (h0 : 0 ≤ num) (h1 : num ≤ den) (h2 : 0 < den ∧ den < 18446744073709551616) (w : World) :
    Calls Tryz.prog 131 #[.int .u64 num, .int .u64 den] w fun e w' => ∃ s : Nat, e = .returned (.tuple #[.float .f64 s, .int .i64 0]) ∧ SlopeOf num den s ∧ Fr w w' := by
  by_cases hz : num = 0
  · subst hz
    refine (near0_calls den h2.1 w).mono ?_
    rintro e w' ⟨rfl, rfl⟩
    exact ⟨0, rfl, .inl ⟨rfl, rfl⟩, Fr.refl _⟩
  · obtain ⟨n, rfl⟩ := Int.eq_ofNat_of_zero_le h0
    obtain ⟨d, rfl⟩ := Int.eq_ofNat_of_zero_le (Int.le_of_lt h2.1)
    refine (near_calls n d (by omega) (by omega) (by omega) w).mono ?_
    rintro e w' ⟨K, t, rfl, hk, ht, hf⟩
    exact ⟨kw K (-(t : Int)), rfl, .inr ⟨by omega, K, t, hk, ht, rfl⟩, hf⟩

theorem drew_blk2 {w : World} {g : Nat} {o : Obj} (h : w.heap[g]? = some o) : w.drew.heap[g]? = some o := h
set_option maxHeartbeats 1000000 in
theorem mof_calls (L : List Int) (A : Option Addr) (n c : Nat) (eps frm : Int) (hn : n = L.length) (h0 : 0 < L.length) (hl : 0 ≤ frm ∧ frm + L.length ≤ 4294967296) (he : 2 ≤ eps ∧ eps ≤ 64) (hR : Rise L) (hK : KeysOk L) (hF : FitsAll (eps - 1) L) (w : World) (hr : RdC w A (L.map uv)) :
    Calls Tryz.prog 114 #[.slice A n c, .int .i64 eps, .int .i64 frm] w fun r w' => ∃ s, r = .returned (.tuple #[segVal s, .int .i64 0]) ∧ SegOf (eps - 1) L frm s ∧ Fr w w' := by
  obtain ⟨b, off, hA, hc⟩ := rdc_ky hr h0
  subst hA
  have HL := Lib.hid (fun w hr => lof_calls L (some ⟨b, off, none⟩) n c eps hn h0 (by omega) he hR hK hF w hr)
  have HR := Lib.hid hr
  have HN := Lib.hid hn
  have HRI := Lib.hid hR
  have HC := Lib.hid hc
  have hln : frm + n ≤ 4294967296 := by omega
  have hfr0 : 0 ≤ frm := hl.1
  have h0n : 0 < n := by omega
  have HLB : Hid (∀ num den, IsLow (eps - 1) L num den → (0 ≤ num ∧ num ≤ 4294967296) ∧ (0 < den ∧ den < 18446744073709551616) ∧ num ≤ den) := fun num den h => ⟨(low_bound (by omega) (by omega) hR hK h).1, (low_bound (by omega) (by omega) hR hK h).2, low_one hR (by omega) h⟩
  have HBB : Hid (∀ num den base, IsLow (eps - 1) L num den → IsBase (eps - 1) num den L base → -(eps - 1) ≤ base ∧ base ≤ L.length) := by
    intro num den base h hb
    obtain ⟨j, hj, rfl⟩ := hb.2
    have h3 := hb.1 0 h0
    have e0 : Go.Run.part num den L 0 = 0 := by unfold Go.Run.part; rw [Int.sub_self, Int.mul_zero, Int.zero_ediv]
    have hx : 0 ≤ ky L j - ky L 0 := by
      rcases Nat.eq_zero_or_pos j with rfl | h1
      · omega
      · have := rise_lt hR h1 hj; omega
    have h4 : 0 ≤ Go.Run.part num den L j := Int.ediv_nonneg (Int.mul_nonneg h.nn hx) (Int.le_of_lt h.pos)
    rw [e0] at h3
    refine ⟨by omega, by omega⟩
  have d1 : decide (frm < 0) = false := decide_eq_false (by omega)
  have d2 : decide (frm > 4294967296 - (n : Int)) = false := decide_eq_false (by omega)
  have w1 : IntKind.i64.wrap (4294967296 - (n : Int)) = 4294967296 - (n : Int) := wrap_i64_in _ (by omega) (by omega)
  have w2 : IntKind.i64.wrap (frm + (n : Int)) = frm + (n : Int) := wrap_i64_in _ (by omega) (by omega)
  have g0 : (0 : Int) < (n : Int) := by omega
  have HE := Lib.hid he
  clear hr hn hR hK hF hc h0 hl he
  go_enter Tryz.func114, Tryz.ntmps114
  go_wp2_with fail
  obtain ⟨w1, hw1⟩ : ∃ w1, w1 = w.alloc (.cells #[.int .u64 0, .float .f64 0, .float .f64 0, .int .i64 0, .int .i64 0] 65) := ⟨_, rfl⟩
  have hb1 := Lib.hid (heap_alloc_new w (.cells #[.int .u64 0, .float .f64 0, .float .f64 0, .int .i64 0, .int .i64 0] 65))
  have hf1 := Lib.hid ((Fr.refl w).alloc (.cells #[.int .u64 0, .float .f64 0, .float .f64 0, .int .i64 0, .int .i64 0] 65))
  rw [← hw1] at hb1 hf1 ⊢
  clear hw1
  refine (HL.out w1 (HR.out.fr hf1.out)).mono ?_
  rintro r w2 ⟨num, den, base, rfl, hlow, hbase, hf2⟩
  have hlb := HLB.out num den hlow
  have hbb := HBB.out num den base hlow hbase
  have wb : IntKind.i64.wrap (frm + base) = frm + base := wrap_i64_in _ (by have := HE.out; omega) (by have := HN.out; omega)
  have HSL := Lib.hid (slope_calls num den hlb.1.1 hlb.2.2 hlb.2.1)
  have HLO := Lib.hid (And.intro hlow hbase)
  have HF2 := Lib.hid hf2
  clear hlow hbase hf2 hlb hbb
  have hb8 := heap_alloc_new w2 (.cells #[.int .u64 num, .int .u64 den, .int .i64 base] 175)
  obtain ⟨y0, y1, y2⟩ := cells3 hb8
  have HB8 := Lib.hid hb8
  clear hb8
  go_wp2_with fail
  obtain ⟨w3, hw3⟩ : ∃ w3, w3 = w2.alloc (.cells #[.int .u64 num, .int .u64 den, .int .i64 base] 175) := ⟨_, rfl⟩
  have HF3 : Hid (Fr w1 w3) := by rw [hw3]; exact HF2.out.alloc _
  rw [← hw3] at HB8 ⊢
  clear hw3 y0 y1 y2
  refine (HSL.out w3).mono ?_
  rintro r w4 ⟨s, rfl, hs, hf4⟩
  have HS := Lib.hid hs
  have HF4 : Hid (Fr w1 w4) := HF3.out.trans hf4
  obtain ⟨y0, y1, y2⟩ := cells3 (hf4.blk HB8.out)
  have hb1' := HF4.out.blk hb1.out
  have z0 := blk_frozen hb1' 0
  have z1 := blk_frozen hb1' 1
  have z2 := blk_frozen hb1' 2
  have z3 := blk_frozen hb1' 3
  have z4 := blk_frozen hb1' 4
  obtain ⟨x0, x1, x2, x3, x4⟩ := cells5 hb1'
  have HB1 := Lib.hid hb1'
  have c0 := (hf1.out.trans HF4.out).cell (HC.out 0 (by have := HN.out; omega))
  rw [Nat.add_zero] at c0
  obtain ⟨k0, hk0⟩ : ∃ k, ky L 0 = k := ⟨_, rfl⟩
  rw [hk0] at c0
  have HK0 := Lib.hid hk0
  clear hf4 hs hb1' hk0
  go_wp2_with fail
  go_region_with (fail)
  all_goals (go_wp2_with fail)
  all_goals
    obtain ⟨w5, hw5⟩ : ∃ w5, w5 = (((((w4.setCell ⟨w.heap.size, 0, none⟩ (.int .u64 k0)).setCell ⟨w.heap.size, 1, none⟩ (.float .f64 s)).setCell ⟨w.heap.size, 2, none⟩ (.float .f64 (floatOfInt .f64 (frm + base)))).setCell ⟨w.heap.size, 3, none⟩ (.int .i64 frm)).setCell ⟨w.heap.size, 4, none⟩ (.int .i64 (frm + (n : Int)))).drew := ⟨_, rfl⟩
    have HB5 := Lib.hid (drew_blk2 (blk_set (blk_set (blk_set (blk_set (blk_set HB1.out 0 (.int .u64 k0)) 1 (.float .f64 s)) 2 (.float .f64 (floatOfInt .f64 (frm + base)))) 3 (.int .i64 frm)) 4 (.int .i64 (frm + (n : Int)))))
    rw [← hw5] at HB5
    have HF5 : Hid (Fr w w5) := by
      rw [hw5]
      exact Fr.drew ((((((hf1.out.trans HF4.out).set (p := ⟨w.heap.size, 0, none⟩) (Nat.le_refl _) _).set (p := ⟨w.heap.size, 1, none⟩) (Nat.le_refl _) _).set (p := ⟨w.heap.size, 2, none⟩) (Nat.le_refl _) _).set (p := ⟨w.heap.size, 3, none⟩) (Nat.le_refl _) _).set (p := ⟨w.heap.size, 4, none⟩) (Nat.le_refl _) _)
    rw [← hw5]
    clear hw5
    refine bodyPost_ret (results_row_tmp rfl _ _ w.heap.size _ _ (0, 0) _ rfl HB5.out Tryz.underlying65 rfl (by kernel_rfl) _ rfl) rfl ⟨⟨k0, s, floatOfInt .f64 (frm + base), frm, frm + (n : Int)⟩, rfl, ⟨⟨num, den, base, HLO.out.1, HLO.out.2, HS.out, rfl⟩, HK0.out.symm, rfl, by rw [HN.out]⟩, HF5.out⟩
end Go.Proofs.YthjimnmgbcckjaaGreat
namespace Go.Flo
instance (x : Nat) : Decidable (fin x) := by unfold fin; infer_instance

/-- The rounding of a signed value is near. -/
theorem srv_near {E : Int} {q : Nat} (h : E.natAbs ≤ rv 9218868437227405312 * 2 ^ q) : 9007199254740992 * (srv E q * (2 ^ q : Nat) - E) ≤ max (E.natAbs : Int) ((2 ^ q : Nat) * 4503599627370496) ∧ -(max (E.natAbs : Int) ((2 ^ q : Nat) * 4503599627370496)) ≤ 9007199254740992 * (srv E q * (2 ^ q : Nat) - E) := by
  obtain ⟨n, hn⟩ : ∃ n, E.natAbs = n := ⟨_, rfl⟩
  rw [hn] at h ⊢
  have hinf : rnd n q = rndU n q := by
    unfold rnd
    have := rndU_mono (q := q) h
    rw [rndU_rv] at this
    omega
  have key : 9007199254740992 * ((rv (rnd n q) * 2 ^ q : Nat) : Int) ≤ 9007199254740992 * (n : Int) + max (n : Int) ((2 ^ q : Nat) * 4503599627370496) ∧ 9007199254740992 * (n : Int) ≤ 9007199254740992 * ((rv (rnd n q) * 2 ^ q : Nat) : Int) + max (n : Int) ((2 ^ q : Nat) * 4503599627370496) := by
    by_cases h0 : n = 0
    · subst h0
      rw [rnd_zero, rv_zero]
      have := Nat.two_pow_pos q
      generalize 2 ^ q = Q at *
      omega
    · obtain ⟨h1, h2⟩ := rndU_near n q
      have h3 := unit_le (q := q) h0
      rw [hinf]
      generalize rv (rndU n q) * 2 ^ q = R at *
      generalize 2 ^ (max (n.log2 - 52) q) = D at *
      have e : (max n (2 ^ q * 4503599627370496) : Nat) = max (n : Int) ((2 ^ q : Nat) * 4503599627370496) := by
        generalize 2 ^ q = Q
        omega
      rw [← e]
      generalize (max n (2 ^ q * 4503599627370496) : Nat) = M at *
      omega
  unfold srv
  rw [hn]
  generalize 2 ^ q = Q at *
  generalize rv (rnd n q) = R at *
  rw [Int.natCast_mul] at key
  split
  · have e1 : -(R : Int) * (Q : Int) = -((R : Int) * Q) := by rw [Int.neg_mul]
    rw [e1]
    generalize (R : Int) * Q = X at *
    omega
  · generalize (R : Int) * Q = X at *
    omega
theorem srv_nonneg {E : Int} {q : Nat} (h : 0 ≤ E) : 0 ≤ srv E q := by
  unfold srv
  rw [if_neg (by omega)]
  omega
set_option exponentiation.threshold 4000 in
theorem rv_inf : rv 9218868437227405312 = U * 2 ^ 1024 := by
  unfold rv U
  rw [if_neg (by decide)]
theorem U_big : 4503599627370496 ≤ U := by
  unfold U
  exact Nat.pow_le_pow_right (show 0 < 2 by decide) (show 52 ≤ 1074 by decide)
set_option exponentiation.threshold 4000 in
theorem pow_1024 : 2 ^ 100 ≤ 2 ^ 1024 := Nat.pow_le_pow_right (by decide) (by decide)
theorem rv_inf_ge : U * 2 ^ 100 ≤ rv 9218868437227405312 := by rw [rv_inf]; exact Nat.mul_le_mul_left _ pow_1024

/-- The value that a segment's float reckons, so far behind its first key. -/
def alongV (s inter : Nat) (far : Int) : Int := srv (srv (sv s * srv (far * (U : Int)) 0) 1074 + sv inter) 0
theorem alongV_mono {s inter : Nat} (hs : 0 ≤ sv s) {f g : Int} (h : f ≤ g) : alongV s inter f ≤ alongV s inter g := by
  unfold alongV
  refine srv_mono (Int.add_le_add_right (srv_mono (Int.mul_le_mul_of_nonneg_left (srv_mono (Int.mul_le_mul_of_nonneg_right h (by omega))) hs)) _)

/-- The sum of the errors. -/
theorem errs {u a den num F far P iv i T x : Int} (hu : 4503599627370496 ≤ u) (hd : 0 < den) (hnum : 0 ≤ num) (hfar : 0 ≤ far) (hx : num * far = x) (hxb : x ≤ 8589934592 * den) (ha : 0 ≤ a) (hF0 : 0 ≤ F) (hP0 : 0 ≤ P)
    (h1 : 9007199254740992 * (a * den - num * u) ≤ num * u ∧ -(num * u) ≤ 9007199254740992 * (a * den - num * u))
    (h2 : 9007199254740992 * (F - far * u) ≤ far * u ∧ -(far * u) ≤ 9007199254740992 * (F - far * u))
    (h3 : 9007199254740992 * (P * u - a * F) ≤ a * F + u * 4503599627370496 ∧ -(a * F + u * 4503599627370496) ≤ 9007199254740992 * (P * u - a * F))
    (hi : -17179869184 ≤ i ∧ i ≤ 17179869184)
    (h4 : 9007199254740992 * (iv - i * u) ≤ 17179869184 * u + 4503599627370496 ∧ -(17179869184 * u + 4503599627370496) ≤ 9007199254740992 * (iv - i * u))
    (h5 : ∀ m, P + iv ≤ m → -(P + iv) ≤ m → 9007199254740992 * (T - (P + iv)) ≤ m + 4503599627370496 ∧ -(m + 4503599627370496) ≤ 9007199254740992 * (T - (P + iv))) :
    (x + (i - 1) * den) * u < T * den ∧ T * den < (x + (i + 1) * den) * u := by
  -- products
  have hu0 : 0 < u := by omega
  obtain ⟨A, hA⟩ : ∃ A, a * den = A := ⟨_, rfl⟩
  obtain ⟨N, hN⟩ : ∃ N, num * u = N := ⟨_, rfl⟩
  obtain ⟨G, hG⟩ : ∃ G, far * u = G := ⟨_, rfl⟩
  have hA0 : 0 ≤ A := by rw [← hA]; exact Int.mul_nonneg ha (by omega)
  have hN0 : 0 ≤ N := by rw [← hN]; exact Int.mul_nonneg hnum (by omega)
  have hG0 : 0 ≤ G := by rw [← hG]; exact Int.mul_nonneg hfar (by omega)
  rw [hA, hN] at h1
  rw [hG] at h2
  have hA2 : A ≤ 2 * N := by omega
  have hF2 : F ≤ 2 * G := by omega
  -- A * F against N * G
  obtain ⟨NG, hNG⟩ : ∃ X, N * G = X := ⟨_, rfl⟩
  have hNG0 : 0 ≤ NG := by rw [← hNG]; exact Int.mul_nonneg hN0 hG0
  have p1 : 9007199254740992 * ((A - N) * F) ≤ N * F := by
    have := Int.mul_le_mul_of_nonneg_right h1.1 hF0
    rw [Int.mul_assoc] at this; exact this
  have p2 : -(N * F) ≤ 9007199254740992 * ((A - N) * F) := by
    have := Int.mul_le_mul_of_nonneg_right h1.2 hF0
    rw [Int.mul_assoc, Int.neg_mul] at this; exact this
  have p3 : 9007199254740992 * (N * (F - G)) ≤ NG := by
    have := Int.mul_le_mul_of_nonneg_left h2.1 hN0
    rw [hNG] at this
    have e : N * (9007199254740992 * (F - G)) = 9007199254740992 * (N * (F - G)) := by grind
    rw [e] at this; exact this
  have p4 : -NG ≤ 9007199254740992 * (N * (F - G)) := by
    have := Int.mul_le_mul_of_nonneg_left h2.2 hN0
    rw [Int.mul_neg, hNG] at this
    have e : N * (9007199254740992 * (F - G)) = 9007199254740992 * (N * (F - G)) := by grind
    rw [e] at this; exact this
  have p5 : N * F ≤ 2 * NG := by
    have := Int.mul_le_mul_of_nonneg_left hF2 hN0
    rw [← hNG]; grind
  have p6 : A * F ≤ 4 * NG := by
    have h6 := Int.mul_le_mul_of_nonneg_right hA2 hF0
    have e : 2 * N * F = 2 * (N * F) := by rw [Int.mul_assoc]
    rw [e] at h6
    omega
  have e1 : A * F - NG = (A - N) * F + N * (F - G) := by rw [← hNG]; grind
  obtain ⟨AF, hAF⟩ : ∃ X, A * F = X := ⟨_, rfl⟩
  rw [hAF] at e1 p6
  have q1 : 9007199254740992 * (AF - NG) ≤ 3 * NG := by rw [e1, Int.mul_add]; omega
  have q2 : -(3 * NG) ≤ 9007199254740992 * (AF - NG) := by rw [e1, Int.mul_add]; omega
  -- P
  have r1 : 9007199254740992 * (P * den * u - AF) ≤ AF + den * u * 4503599627370496 ∧ -(AF + den * u * 4503599627370496) ≤ 9007199254740992 * (P * den * u - AF) := by
    have s1 := Int.mul_le_mul_of_nonneg_right h3.1 (Int.le_of_lt hd)
    have s2 := Int.mul_le_mul_of_nonneg_right h3.2 (Int.le_of_lt hd)
    have e2 : 9007199254740992 * (P * u - a * F) * den = 9007199254740992 * (P * den * u - AF) := by rw [← hAF, ← hA]; grind
    have e3 : (a * F + u * 4503599627370496) * den = AF + den * u * 4503599627370496 := by rw [← hAF, ← hA]; grind
    have e4 : -(a * F + u * 4503599627370496) * den = -(AF + den * u * 4503599627370496) := by rw [Int.neg_mul, e3]
    rw [e2, e3] at s1
    rw [e4, e2] at s2
    exact ⟨s1, s2⟩
  -- divided by u
  have eNG : NG = x * u * u := by rw [← hNG, ← hN, ← hG, ← hx]; grind
  have t1 : 9007199254740992 * (P * den - x * u) ≤ 7 * (x * u) + den * 4503599627370496 := by
    have : u * (9007199254740992 * (P * den - x * u)) ≤ u * (7 * (x * u) + den * 4503599627370496) := by
      have e5 : u * (9007199254740992 * (P * den - x * u)) = 9007199254740992 * (P * den * u) - 9007199254740992 * NG := by rw [eNG]; grind
      have e6 : u * (7 * (x * u) + den * 4503599627370496) = 7 * NG + den * u * 4503599627370496 := by rw [eNG]; grind
      rw [e5, e6]
      generalize P * den * u = X at *
      generalize den * u = Y at *
      omega
    exact Int.le_of_mul_le_mul_left this hu0
  have t2 : -(7 * (x * u) + den * 4503599627370496) ≤ 9007199254740992 * (P * den - x * u) := by
    have : u * (-(7 * (x * u) + den * 4503599627370496)) ≤ u * (9007199254740992 * (P * den - x * u)) := by
      have e5 : u * (9007199254740992 * (P * den - x * u)) = 9007199254740992 * (P * den * u) - 9007199254740992 * NG := by rw [eNG]; grind
      have e6 : u * (-(7 * (x * u) + den * 4503599627370496)) = -(7 * NG + den * u * 4503599627370496) := by rw [eNG]; grind
      rw [e5, e6]
      generalize P * den * u = X at *
      generalize den * u = Y at *
      omega
    exact Int.le_of_mul_le_mul_left this hu0
  -- bounds by den * u
  obtain ⟨D, hD⟩ : ∃ X, den * u = X := ⟨_, rfl⟩
  have hD0 : 0 < D := by rw [← hD]; exact Int.mul_pos hd hu0
  have hx0 : 0 ≤ x := by rw [← hx]; exact Int.mul_nonneg hnum hfar
  have b1 : x * u ≤ 8589934592 * D := by
    have := Int.mul_le_mul_of_nonneg_right hxb (Int.le_of_lt hu0)
    rw [Int.mul_assoc, hD] at this; exact this
  have b2 : den * 4503599627370496 ≤ D := by
    have := Int.mul_le_mul_of_nonneg_left hu (Int.le_of_lt hd)
    rw [hD] at this; exact this
  obtain ⟨xu, hxu⟩ : ∃ X, x * u = X := ⟨_, rfl⟩
  rw [hxu] at t1 t2 b1
  have hxu0 : 0 ≤ xu := by rw [← hxu]; exact Int.mul_nonneg hx0 (by omega)
  obtain ⟨PD, hPD⟩ : ∃ X, P * den = X := ⟨_, rfl⟩
  rw [hPD] at t1 t2
  -- P is small
  have cP : P ≤ 8589934593 * u := by
    have : P * den ≤ 8589934593 * u * den := by
      have e : 8589934593 * u * den = 8589934593 * D := by rw [← hD]; grind
      rw [hPD, e]; omega
    exact Int.le_of_mul_le_mul_right this hd
  have iu : i * u ≤ 17179869184 * u := Int.mul_le_mul_of_nonneg_right hi.2 (by omega)
  have iu2 : -17179869184 * u ≤ i * u := Int.mul_le_mul_of_nonneg_right hi.1 (by omega)
  obtain ⟨I, hI⟩ : ∃ X, i * u = X := ⟨_, rfl⟩
  rw [hI] at h4 iu iu2
  have hm := h5 (60000000000 * u) (by omega) (by omega)
  -- all times den
  have v1 : T - (P + iv) ≤ u ∧ -u ≤ T - (P + iv) := by omega
  have w1 : 9007199254740992 * (T - (P + I)) ≤ 80000000000 * u ∧ -(80000000000 * u) ≤ 9007199254740992 * (T - (P + I)) := by omega
  have x1 := Int.mul_le_mul_of_nonneg_right w1.1 (Int.le_of_lt hd)
  have x2 := Int.mul_le_mul_of_nonneg_right w1.2 (Int.le_of_lt hd)
  have e7 : 9007199254740992 * (T - (P + I)) * den = 9007199254740992 * (T * den - PD - I * den) := by rw [← hPD]; grind
  have e8 : 80000000000 * u * den = 80000000000 * D := by rw [← hD]; grind
  have e9 : -(80000000000 * u) * den = -(80000000000 * D) := by rw [Int.neg_mul, e8]
  rw [e7, e8] at x1
  rw [e9, e7] at x2
  have y1 : (x + (i - 1) * den) * u = xu + I * den - D := by rw [← hxu, ← hI, ← hD]; grind
  have y2 : (x + (i + 1) * den) * u = xu + I * den + D := by rw [← hxu, ← hI, ← hD]; grind
  rw [y1, y2]
  generalize T * den = TD at *
  generalize I * den = ID at *
  omega

/-- The float is near to the line. -/
theorem floor_near {u den x i T v : Int} (hu : 0 < u) (hd : 0 < den) (hv : v = x / den) (h : (x + (i - 1) * den) * u < T * den ∧ T * den < (x + (i + 1) * den) * u) : v + i - 1 ≤ T / u ∧ T / u ≤ v + i + 1 := by
  have h1 : v * den ≤ x := by rw [hv]; exact Int.ediv_mul_le _ (by omega)
  have h2 : x < (v + 1) * den := by rw [hv]; exact Int.lt_ediv_add_one_mul_self _ hd
  constructor
  · rw [Int.le_ediv_iff_mul_le hu]
    have : (v + i - 1) * u * den < T * den := by
      have : (v * den + (i - 1) * den) * u ≤ (x + (i - 1) * den) * u := Int.mul_le_mul_of_nonneg_right (by omega) (by omega)
      have e : (v + i - 1) * u * den = (v * den + (i - 1) * den) * u := by grind
      rw [e]; omega
    exact Int.le_of_lt (Int.lt_of_mul_lt_mul_right this (by omega))
  · have : T * den < (v + i + 2) * u * den := by
      have : (x + (i + 1) * den) * u ≤ ((v + 1) * den + (i + 1) * den) * u := Int.mul_le_mul_of_nonneg_right (by omega) (by omega)
      have e : (v + i + 2) * u * den = ((v + 1) * den + (i + 1) * den) * u := by grind
      rw [e]; omega
    have h3 := Int.lt_of_mul_lt_mul_right this (by omega)
    have := (Int.ediv_lt_iff_lt_mul hu).2 h3
    omega
end Go.Flo
