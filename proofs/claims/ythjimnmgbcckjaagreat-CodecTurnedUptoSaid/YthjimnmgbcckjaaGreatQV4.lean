/- Parts of this proof, one behind the other: Uniq, Ri3, Ri4, Ri5, Ri6. -/
import Derived.StillTail
import Derived.IntWalk
import Derived.WalkMore
import Derived.Deep.RegionHeld3
import Derived.Deep.RegionWith
import Derived.Laws.Entries
import Derived.Test.YthjimnmgbcckjaaGreatQJ
import Derived.Test.YthjimnmgbcckjaaGreatQV3
import Derived.Test.YthjimnmgbcckjaaGreatQV2
import Derived.Test.YthjimnmgbcckjaaGreatQO
namespace Go.Proofs.YthjimnmgbcckjaaGreat
open Go.RowKit Go.Inc Go.Run

theorem level_unique {e : Int} {L : List Int} (hR : Rise L) : ∀ {S S' : List Seg} {s : Nat}, LevelOf e L s S L.length → LevelOf e L s S' L.length → S = S'
  | [], [], _, _, _ => rfl
  | [], x :: S', s, h, h' => by
    have h1 : s = L.length := h
    obtain ⟨u, hc, _, _⟩ := h'
    have := hc.1; have := hc.2.1; omega
  | x :: S, [], s, h, h' => by
    have h1 : s = L.length := h'
    obtain ⟨u, hc, _, _⟩ := h
    have := hc.1; have := hc.2.1; omega
  | x :: S, y :: S', s, h, h' => by
    obtain ⟨u, hc, hs, h2⟩ := h
    obtain ⟨v, hc', hs', h2'⟩ := h'
    obtain rfl := hc.unique hR hc'
    obtain rfl := hs.unique (seg_rise hR _ _) hs'
    rw [level_unique hR h2 h2']
theorem levels_unique {e : Int} : ∀ {Ss Ss' : List (List Seg)} {K : List Int}, Rise K → KeysOk K → LevelsOf e K Ss → LevelsOf e K Ss' → Ss = Ss'
  | [], [], _, _, _, _, _ => rfl
  | [], S :: Ss', K, _, _, h, h' => by
    have h1 : K = [] := h
    have h2 := h'.1
    rw [h1] at h2; simp at h2
  | S :: Ss, [], K, _, _, h, h' => by
    have h1 : K = [] := h'
    have h2 := h.1
    rw [h1] at h2; simp at h2
  | S :: Ss, T :: Ss', K, hR, hK, h, h' => by
    obtain ⟨h0, hl, h1, h2⟩ := h
    obtain ⟨_, hl', h1', h2'⟩ := h'
    obtain rfl := level_unique hR hl hl'
    by_cases hS : S.length = 1
    · rw [h1 hS, h1' hS]
    · obtain ⟨f1, _, f3⟩ := level_first hR hK hl
      rw [levels_unique f1 f3 (h2 hS) (h2' hS)]
end Go.Proofs.YthjimnmgbcckjaaGreat
namespace Go.Proofs.YthjimnmgbcckjaaGreat
set_option maxRecDepth 100000
open Go.RowKit Go.Inc Go.Run

/-- The reference's base of the first keys. -/
def RBase (e n d : Int) (L : List Int) (j : Nat) (B : Int) : Prop := (j = 0 ∧ B = 0) ∨ (0 < j ∧ BaseUp e n d L j B)
theorem RBase.first {e n d : Int} {L : List Int} {B : Int} (_h : RBase e n d L 0 B) : RBase e n d L 1 (-e) := by
  refine .inr ⟨by decide, ?_⟩
  have h0 : BaseUp e n d L 0 (-e) := ⟨fun j hj => by omega, fun _ => rfl, fun h => by omega⟩
  have h1 := h0.next
  have : Go.Run.part n d L 0 = 0 := by unfold Go.Run.part; rw [Int.sub_self, Int.mul_zero, Int.zero_ediv]
  rw [this] at h1
  rw [show max (-e) (((0 : Nat) : Int) - e - 0) = -e by omega] at h1
  exact h1
theorem RBase.up {e n d : Int} {L : List Int} {B : Int} {j : Nat} (h : RBase e n d L j B) (hj : 0 < j) : RBase e n d L (j + 1) (max B ((j : Int) - e - Go.Run.part n d L j)) := by
  rcases h with ⟨h, _⟩ | ⟨_, h⟩
  · omega
  · exact .inr ⟨by omega, h.next⟩

theorem r5down_int (num den d base : Int) (h0 : 0 ≤ num) (h1 : num ≤ den) (h2 : 0 < den ∧ den < 18446744073709551616) (hd : 0 ≤ d ∧ d < 18446744073709551616) (hb : num * d ≤ 1152921504606846976 * den) (w : World) :
    Calls Tryz.prog 135 #[.agg #[.int .u64 num, .int .u64 den, .int .i64 base], .int .u64 d] w fun e w' => e = .returned (.tuple #[.int .i64 (num * d / den), .bool true]) ∧ Fr w w' := by
  obtain ⟨n, rfl⟩ := Int.eq_ofNat_of_zero_le h0
  obtain ⟨m, rfl⟩ := Int.eq_ofNat_of_zero_le (Int.le_of_lt h2.1)
  obtain ⟨k, rfl⟩ := Int.eq_ofNat_of_zero_le hd.1
  have hb9 : ((n * k : Nat) : Int) ≤ ((1152921504606846976 * m : Nat) : Int) := by rw [Int.natCast_mul, Int.natCast_mul]; exact hb
  have hb' : n * k ≤ 1152921504606846976 * m := Int.ofNat_le.1 hb9
  have h := r5down_calls n m k base (by omega) (by omega) (by omega) (by omega) hb' w
  have e : ((n * k / m : Nat) : Int) = (n : Int) * (k : Int) / (m : Int) := by rw [Int.natCast_ediv, Int.natCast_mul]
  rw [e] at h
  exact h

set_option maxHeartbeats 4000000 in
theorem r5of_calls (L : List Int) (A : Option Addr) (n c : Nat) (eps : Int) (hn : n = L.length) (h0 : 0 < L.length) (hl : L.length ≤ 4294967296) (he : 2 ≤ eps ∧ eps ≤ 64) (hR : Rise L) (hK : KeysOk L) (hF : FitsAll (eps - 1) L) (w : World) (hr : RdC w A (L.map uv)) :
    Calls Tryz.prog 122 #[.slice A n c, .int .i64 eps] w fun r w' => ∃ num den base, r = .returned (.tuple #[.agg #[.int .u64 num, .int .u64 den, .int .i64 base], .int .i64 0]) ∧ IsLow (eps - 1) L num den ∧ IsBase (eps - 1) num den L base ∧ Fr w w' := by
  obtain ⟨b, off, hA, hc⟩ := rdc_ky hr h0
  subst hA
  have HR := Lib.hid hr
  have HN := Lib.hid hn
  have HRI := Lib.hid hR
  have HK := Lib.hid hK
  have HF := Lib.hid hF
  have HC := Lib.hid hc
  have hln : n ≤ 4294967296 := by omega
  have h0n : 0 < n := by omega
  have hE := he
  have d0 : ((n : Int) == 0) = false := by
    rw [beq_eq_false_iff_ne]; omega
  have d1 : decide (eps < 2) = false := decide_eq_false (by omega)
  have d2 : decide (eps > 64) = false := decide_eq_false (by omega)
  clear hr hn hR hK hF hc h0 hl
  go_enter Tryz.func122, Tryz.ntmps122
  go_wp2_with fail
  obtain ⟨w1, hw1⟩ : ∃ w1, w1 = w.alloc (.cells #[.int .u64 0, .int .u64 0, .int .i64 0] 175) := ⟨_, rfl⟩
  have hb1 := Lib.hid (heap_alloc_new w (.cells #[.int .u64 0, .int .u64 0, .int .i64 0] 175))
  have hf1 := Lib.hid ((Fr.refl w).alloc (.cells #[.int .u64 0, .int .u64 0, .int .i64 0] 175))
  rw [← hw1] at hb1 hf1 ⊢
  clear hw1
  refine (r3rising_calls L _ n c HN.out (by omega) _ (HR.out.fr hf1.out)).mono ?_
  rintro r w2 ⟨rfl, hf2⟩
  have hris : decide (Rise L) = true := decide_eq_true HRI.out
  rw [hris]
  have HF2 : Hid (Fr w1 w2) := hf2
  clear hris hf2
  go_wp2_with fail
  refine (r4new_calls eps hE w2.heap.size w2).mono ?_
  rintro r w3 ⟨g, rfl, hg, hf3, hfk⟩
  have HFK3 := Lib.hid hfk
  have HF3 : Hid (Fr w1 w3) := HF2.out.trans hf3
  have HG := Lib.hid hg
  have HBW : Hid (w1.heap.size ≤ w2.heap.size ∧ w2.heap.size ≤ w3.heap.size) := ⟨HF2.out.size, hf3.size⟩
  obtain ⟨q, hq⟩ : ∃ q, q = w2.heap.size := ⟨_, rfl⟩
  rw [← hq] at HFK3 HG HBW
  clear hfk hf3 hg hq
  go_wp2_with fail
  go_loopw [8] (fun v wr => ∃ i : Nat, v = .int .i64 i ∧ i ≤ n ∧ Hid (∃ ln ld, RFit wr g q (eps - 1) (L.take i) ln ld) ∧ Hid (Fr w1 wr) ∧ Hid (q ≤ wr.heap.size)) (fun v _ => n - (intOf v).toNat)
  case atStart => exact ⟨0, rfl, by omega, ⟨0, 1, HFK3.out⟩, HF3.out, HBW.out.2⟩
  case round =>
    obtain ⟨i, rfl, hin, hfk, hf, hqs⟩ := hrel
    rcases Nat.lt_or_ge i n with hlt | hge
    · have g1 : decide (i < n) = true := decide_eq_true hlt
      have g0 : (i : Int) < (n : Int) := by omega
      have c1 := (hf1.out.trans hf.out).cell (HC.out i (by have := HN.out; omega))
      have wi : IntKind.i64.wrap ((i : Int) + 1) = (i : Int) + 1 := wrap_i64_in _ (by omega) (by omega)
      have hkb := Lib.hid (HK.out.ky (show i < L.length by have := HN.out; omega))
      have hkl : Hid (∀ w', Fr wr w' → True) := fun _ _ => trivial
      clear hkl
      go_wp2_with fail
      obtain ⟨ln, ld, hfk⟩ := hfk.out
      have hlen : (L.take i).length = i := by rw [List.length_take]; have := HN.out; omega
      refine (r4add_calls g q (eps - 1) (ky L i) ln ld (L.take i) i hlen.symm (by omega) (by omega) hkb.out (fun hp => ?_) wr hfk HG.out hqs.out).mono ?_
      · rw [hlen] at hp ⊢
        rw [ky_take L (by omega)]
        exact rise_lt HRI.out (by omega) (by have := HN.out; omega)
      · rintro r w4 ⟨hmv, hor⟩
        have hf4 : Hid (Fr w1 w4) := hf.out.mv hmv (fun k hk => by have := HBW.out.1; have := hk.1; omega)
        have hqs4 : Hid (q ≤ w4.heap.size) := by have := hmv.size; have := hqs.out; rw [Hid]; omega
        rcases hor with ⟨_, rfl, hfk4⟩ | ⟨hno, _⟩
        · rw [← take_snoc L (by have := HN.out; omega)] at hfk4
          have HFK4 := Lib.hid hfk4
          clear hmv hfk4 hfk c1
          go_wp2_with fail
          exact ⟨⟨i + 1, rfl, by omega, HFK4.out, hf4.out, hqs4.out⟩, by simp only [intOf]; omega⟩
        · refine absurd (HF.out i (by have := HN.out; omega)) ?_
          rw [take_snoc L (by have := HN.out; omega)]
          exact hno.not (by rw [← take_snoc L (by have := HN.out; omega)]; exact HRI.out.sublist (List.take_sublist _ _))
    · obtain rfl : i = n := by omega
      have g1 : decide (i < i) = false := by simp
      go_wp2_with fail
      obtain ⟨num, den, hfk⟩ := hfk.out
      rw [List.take_of_length_le (by have := HN.out; omega)] at hfk
      have HLOW : Hid (IsLow (eps - 1) L num den ∧ FitsL (eps - 1) L) := by
        obtain ⟨A, c, tn, td, hat, hown, _, _, hlow, htop, hsb⟩ := hfk
        exact ⟨hlow, num, den, tn, td, hlow, htop, hsb⟩
      refine (r4least_calls wr g q (eps - 1) num den L hfk).mono ?_
      rintro r w5 ⟨rfl, hf5⟩
      have HF5 : Hid (Fr w1 w5) := hf.out.trans hf5
      clear hfk hf5
      have hlb := low_bound (show 0 ≤ eps - 1 ∧ eps - 1 ≤ 63 by omega) (show L.length ≤ 4294967296 by have := HN.out; omega) HRI.out HK.out HLOW.out.1
      have HONE := Lib.hid (low_one HRI.out (show 0 ≤ eps - 1 by omega) HLOW.out.1)
      have wE : IntKind.i64.wrap (eps - 1) = eps - 1 := wrap_i64_in _ (by omega) (by omega)
      go_wp2_with fail
      obtain ⟨w7, hw7⟩ : ∃ w7, w7 = ((w5.alloc (.cells #[.int .u64 num, .int .u64 den] 184)).alloc (.cells #[.int .u64 num, .int .u64 den, .int .i64 0] 175)) := ⟨_, rfl⟩
      have hb13 := Lib.hid (heap_alloc2_new w5 (.cells #[.int .u64 num, .int .u64 den] 184) (.cells #[.int .u64 num, .int .u64 den, .int .i64 0] 175))
      have hf7 : Hid (Fr w1 w7) := by rw [hw7]; exact (HF5.out.alloc _).alloc _
      rw [← hw7] at hb13 ⊢
      clear hw7
      obtain ⟨b3, hb3⟩ : ∃ b3, b3 = w5.heap.size + 1 := ⟨_, rfl⟩
      rw [← hb3] at hb13 ⊢
      have HBB : Hid (w1.heap.size ≤ b3) := by have := HF5.out.size; rw [Hid]; omega
      have HW1 : Hid (w.heap.size < w1.heap.size) := by have := blk_lt hb1.out; exact this
      clear hb3
      go_loopw [13] (fun v wr => ∃ (j : Nat) (B : Int), v = .int .i64 j ∧ j ≤ i ∧ Hid (RBase (eps - 1) num den L j B) ∧ Hid (wr.heap[b3]? = some (.cells #[.int .u64 num, .int .u64 den, .int .i64 B] 175)) ∧ Hid (Mv (one1 b3) w7 wr)) (fun v _ => i - (intOf v).toNat)
      case atStart => exact ⟨0, 0, rfl, by omega, .inl ⟨rfl, rfl⟩, hb13.out, Mv.refl _ _⟩
      case round =>
        obtain ⟨j, B, rfl, hji, hbu, hB3, hmv⟩ := hrel
        have hfr : Hid (Fr w1 wr) := hf7.out.mv hmv.out (fun k hk => by rw [show k = b3 from hk]; exact HBB.out)
        rcases Nat.lt_or_ge j i with hlt | hge
        · have g2 : decide (j < i) = true := decide_eq_true hlt
          have g0 : (j : Int) < (i : Int) := by omega
          have g00 : (0 : Int) < (i : Int) := by omega
          have gj0 : (0 : Int) ≤ (j : Int) := by omega
          have c1 := (hf1.out.trans hfr.out).cell (HC.out j (by have := HN.out; omega))
          have c0 := (hf1.out.trans hfr.out).cell (HC.out 0 (by have := HN.out; omega))
          rw [Nat.add_zero] at c0
          have HC1 : Hid (∀ w', Fr wr w' → w'.cell? ⟨b, off + j, none⟩ = some (.int .u64 (ky L j)) ∧ w'.cell? ⟨b, off, none⟩ = some (.int .u64 (ky L 0)) ∧ (w'.cell? ⟨b3, 0, none⟩ = some (.int .u64 num) ∧ w'.cell? ⟨b3, 1, none⟩ = some (.int .u64 den) ∧ w'.cell? ⟨b3, 2, none⟩ = some (.int .i64 B))) := fun w' hf => ⟨hf.cell c1, hf.cell c0, cells3 (hf.blk hB3.out)⟩
          clear c0 c1
          have wi : IntKind.i64.wrap ((j : Int) + 1) = (j : Int) + 1 := wrap_i64_in _ (by omega) (by omega)
          obtain ⟨x, hx⟩ : ∃ x, ky L j = x := ⟨_, rfl⟩
          obtain ⟨y, hy⟩ : ∃ y, ky L 0 = y := ⟨_, rfl⟩
          have hxb := HK.out.ky (show j < L.length by have := HN.out; omega)
          have hyb := HK.out.ky (show 0 < L.length by have := HN.out; omega)
          have hpl := part_le (show 0 ≤ eps - 1 by omega) HRI.out HLOW.out.1 HLOW.out.2 (show j < L.length by have := HN.out; omega)
          have hyx : y ≤ x := by
            rcases Nat.eq_zero_or_pos j with h | h
            · subst h; omega
            · have := rise_lt HRI.out h (show j < L.length by have := HN.out; omega); omega
          have hpe : Go.Run.part num den L j = num * (x - y) / den := by unfold Go.Run.part; rw [hx, hy]
          rw [hx, hy] at HC1
          rw [hx] at hxb hpl
          rw [hy] at hyb hpl
          have hwd : IntKind.u64.wrap (x - y) = x - y := wrap_u64_in _ (by omega) (by omega)
          have AC := fun w => r5down_int num den (x - y) B (by omega) HONE.out hlb.2 (by omega) (by
            have : ((j : Int) + 2 * (eps - 1)) * den ≤ 1152921504606846976 * den := Int.mul_le_mul_of_nonneg_right (by omega) (by omega)
            omega) w
          obtain ⟨P, hP⟩ : ∃ P, num * (x - y) / den = P := ⟨_, rfl⟩
          rw [hP] at AC hpe
          have hP0 : 0 ≤ P := by rw [← hP]; exact Int.ediv_nonneg hpl.2 (by omega)
          have hP1 : P ≤ (j : Int) + 2 * (eps - 1) := by
            rw [← hP]
            have := Int.ediv_le_ediv (show 0 < den by omega) hpl.1
            rwa [Int.mul_ediv_cancel _ (by omega)] at this
          have ACH := Lib.hid AC
          have wj1 : IntKind.i64.wrap ((j : Int) - (eps - 1)) = (j : Int) - (eps - 1) := wrap_i64_in _ (by omega) (by omega)
          have wj2 : IntKind.i64.wrap ((j : Int) - (eps - 1) - P) = (j : Int) - (eps - 1) - P := wrap_i64_in _ (by omega) (by omega)
          have HP := Lib.hid hpe
          clear hx hy hxb hyb hpl hyx hpe AC hP hP0 hP1 hlb
          obtain ⟨c1, c0, t0, t1, t2⟩ := HC1.out wr (Fr.refl _)
          go_wp2_with fail
          go_region_held3 (fun w' => w'.cell? ⟨b, off + j, none⟩ = some (.int .u64 x) ∧ w'.cell? ⟨b, off, none⟩ = some (.int .u64 y) ∧ (w'.cell? ⟨b3, 0, none⟩ = some (.int .u64 num) ∧ w'.cell? ⟨b3, 1, none⟩ = some (.int .u64 den) ∧ w'.cell? ⟨b3, 2, none⟩ = some (.int .i64 B)))
            (first | exact HC1.out _ (Fr.refl _).drew | exact HC1.out _ (Fr.refl _) | exact HC1.out _ hfd)
            (first | (go_at_call 135; refine (ACH.out _).mono ?_; rintro e wd ⟨rfl, qd⟩; have hfd : Fr wr wd := ((Fr.refl wr).drew).trans qd))
          obtain ⟨c1, c0, t0, t1, t2⟩ := HC1.out wd hfd
          have z2 := blk_frozen (hfd.blk hB3.out) 2
          have HFD := Lib.hid hfd
          clear hfd qd
          have HRW : Hid (∀ B', RBase (eps - 1) num den L (j + 1) B' → (∃ (k : Nat) (B : Int), Value.int .i64 ((j : Int) + 1) = .int .i64 k ∧ k ≤ i ∧ Hid (RBase (eps - 1) num den L k B) ∧ Hid ((wd.setCell ⟨b3, 2, none⟩ (.int .i64 B')).heap[b3]? = some (.cells #[.int .u64 num, .int .u64 den, .int .i64 B] 175)) ∧ Hid (Mv (one1 b3) w7 (wd.setCell ⟨b3, 2, none⟩ (.int .i64 B'))))) := fun B' h => ⟨j + 1, B', rfl, by omega, h, blk_set (HFD.out.blk hB3.out) 2 _, (hmv.out.then HFD.out).set (p := ⟨b3, 2, none⟩) (.inl rfl) _⟩
          rcases Nat.eq_zero_or_pos j with h0j | h0j
          · have gj : ((j : Int) == 0) = true := by rw [beq_iff_eq]; omega
            have hfin := Lib.hid (HRW.out ((j : Int) - (eps - 1) - P) (by
              have hp0 : Go.Run.part num den L 0 = 0 := by unfold Go.Run.part; rw [Int.sub_self, Int.mul_zero, Int.zero_ediv]
              have h9 := HP.out
              subst h0j
              rw [hp0] at h9
              rw [show ((0 : Nat) : Int) - (eps - 1) - P = -(eps - 1) by omega]
              exact hbu.out.first))
            clear HRW h0j
            go_wp2_with fail
            exact ⟨hfin.out, by simp only [intOf]; omega⟩
          · have gj : ((j : Int) == 0) = false := by rw [beq_eq_false_iff_ne]; omega
            have hup := hbu.out.up h0j
            rw [HP.out] at hup
            by_cases hgt : (j : Int) - (eps - 1) - P > B
            · have gg : decide ((j : Int) - (eps - 1) - P > B) = true := decide_eq_true hgt
              rw [show max B ((j : Int) - (eps - 1) - P) = (j : Int) - (eps - 1) - P by omega] at hup
              have hfin := Lib.hid (HRW.out ((j : Int) - (eps - 1) - P) hup)
              clear HRW hup
              go_wp2_with fail
              exact ⟨hfin.out, by simp only [intOf]; omega⟩
            · have gg : decide ((j : Int) - (eps - 1) - P > B) = false := decide_eq_false hgt
              rw [show max B ((j : Int) - (eps - 1) - P) = B by omega] at hup
              have hfin := Lib.hid hup
              clear HRW hup
              go_wp2_with fail
              exact ⟨⟨j + 1, B, rfl, by omega, hfin.out, HFD.out.blk hB3.out, hmv.out.then HFD.out⟩, by simp only [intOf]; omega⟩
        · obtain rfl : j = i := by omega
          have g2 : decide (j < j) = false := by simp
          have hb1' : Hid (wr.heap[w.heap.size]? = some (.cells #[.int .u64 0, .int .u64 0, .int .i64 0] 175)) := hfr.out.blk hb1.out
          have z0 := blk_frozen hb1'.out 0
          have z1 := blk_frozen hb1'.out 1
          have z2 := blk_frozen hb1'.out 2
          obtain ⟨y0, y1, y2⟩ := cells3 hb1'.out
          obtain ⟨x0, x1, x2⟩ := cells3 hB3.out
          have hbase := Lib.hid (hbu.out)
          clear hbu
          go_wp2_with fail
          refine bodyPost_ret (results_row_tmp rfl _ _ w.heap.size _ _ (0, 0) _ rfl (blk_set (blk_set (blk_set hb1'.out 0 _) 1 _) 2 _) Tryz.underlying175 rfl (by kernel_rfl) _ rfl) rfl ⟨num, den, B, rfl, HLOW.out.1, ?_, (((hf1.out.trans hfr.out).set (p := ⟨w.heap.size, 0, none⟩) (Nat.le_refl _) _).set (p := ⟨w.heap.size, 1, none⟩) (Nat.le_refl _) _).set (p := ⟨w.heap.size, 2, none⟩) (Nat.le_refl _) _⟩
          rw [HN.out] at hbase
          rcases hbase.out with ⟨h9, _⟩ | ⟨_, h9⟩
          · have := HN.out; omega
          · exact h9.isBase (by have := HN.out; omega)
end Go.Proofs.YthjimnmgbcckjaaGreat
namespace Go.Proofs.YthjimnmgbcckjaaGreat
set_option maxRecDepth 100000
open Go.RowKit Go.Inc Go.Run
attribute [local go_sem] run_store_float

theorem r2near0_calls (den : Int) (h : 0 < den) (w : World) : Calls Tryz.prog 123 #[.int .u64 0, .int .u64 den] w fun e w' => e = .returned (.tuple #[.float .f64 0, .int .i64 0]) ∧ w = w' := by
  have g1 : (den == 0) = false := by rw [beq_eq_false_iff_ne]; omega
  go_enter Tryz.func123, Tryz.ntmps123
  go_wp2_with fail
  go_ret2
  exact ⟨rfl, rfl⟩
theorem r2slope_calls (num den : Int) (h0 : 0 ≤ num) (h1 : num ≤ den) (h2 : 0 < den ∧ den < 18446744073709551616) (w : World) :
    Calls Tryz.prog 123 #[.int .u64 num, .int .u64 den] w fun e w' => ∃ s : Nat, e = .returned (.tuple #[.float .f64 s, .int .i64 0]) ∧ SlopeOf num den s ∧ Fr w w' := by
  by_cases hz : num = 0
  · subst hz
    refine (r2near0_calls den h2.1 w).mono ?_
    rintro e w' ⟨rfl, rfl⟩
    exact ⟨0, rfl, .inl ⟨rfl, rfl⟩, Fr.refl _⟩
  · obtain ⟨n, rfl⟩ := Int.eq_ofNat_of_zero_le h0
    obtain ⟨d, rfl⟩ := Int.eq_ofNat_of_zero_le (Int.le_of_lt h2.1)
    refine (r2near_calls n d (by omega) (by omega) (by omega) w).mono ?_
    rintro e w' ⟨K, t, rfl, hk, ht, rfl⟩
    exact ⟨kw K (-(t : Int)), rfl, .inr ⟨by omega, K, t, hk, ht, rfl⟩, Fr.refl _⟩

set_option maxHeartbeats 1000000 in
theorem r7of_calls (L : List Int) (A : Option Addr) (n c : Nat) (eps frm : Int) (hn : n = L.length) (h0 : 0 < L.length) (hl : 0 ≤ frm ∧ frm + L.length ≤ 4294967296) (he : 2 ≤ eps ∧ eps ≤ 64) (hR : Rise L) (hK : KeysOk L) (hF : FitsAll (eps - 1) L) (w : World) (hr : RdC w A (L.map uv)) :
    Calls Tryz.prog 101 #[.slice A n c, .int .i64 eps, .int .i64 frm] w fun r w' => ∃ s, r = .returned (.tuple #[segVal s, .int .i64 0]) ∧ SegOf (eps - 1) L frm s ∧ Fr w w' := by
  obtain ⟨b, off, hA, hc⟩ := rdc_ky hr h0
  subst hA
  have HL := Lib.hid (fun w hr => r5of_calls L (some ⟨b, off, none⟩) n c eps hn h0 (by omega) he hR hK hF w hr)
  have HR := Lib.hid hr
  have HN := Lib.hid hn
  have HRI := Lib.hid hR
  have HC := Lib.hid hc
  have hln : frm + n ≤ 4294967296 := by omega
  have hfr0 : 0 ≤ frm := hl.1
  have h0n : 0 < n := by omega
  have HLB : Hid (∀ num den, IsLow (eps - 1) L num den → (0 ≤ num ∧ num ≤ 4294967296) ∧ (0 < den ∧ den < 18446744073709551616) ∧ num ≤ den) := fun num den h => ⟨(low_bound (by omega) (by omega) hR hK h).1, (low_bound (by omega) (by omega) hR hK h).2, low_one hR (by omega) h⟩
  have HBB : Hid (∀ num den base, IsLow (eps - 1) L num den → IsBase (eps - 1) num den L base → -(eps - 1) ≤ base ∧ base ≤ L.length) := by
    intro num den base h hb
    obtain ⟨j, hj, rfl⟩ := hb.2
    have h3 := hb.1 0 h0
    have e0 : Go.Run.part num den L 0 = 0 := by unfold Go.Run.part; rw [Int.sub_self, Int.mul_zero, Int.zero_ediv]
    have hx : 0 ≤ ky L j - ky L 0 := by
      rcases Nat.eq_zero_or_pos j with rfl | h1
      · omega
      · have := rise_lt hR h1 hj; omega
    have h4 : 0 ≤ Go.Run.part num den L j := Int.ediv_nonneg (Int.mul_nonneg h.nn hx) (Int.le_of_lt h.pos)
    rw [e0] at h3
    refine ⟨by omega, by omega⟩
  have d1 : decide (frm < 0) = false := decide_eq_false (by omega)
  have d2 : decide (frm > 4294967296 - (n : Int)) = false := decide_eq_false (by omega)
  have w1 : IntKind.i64.wrap (4294967296 - (n : Int)) = 4294967296 - (n : Int) := wrap_i64_in _ (by omega) (by omega)
  have w2 : IntKind.i64.wrap (frm + (n : Int)) = frm + (n : Int) := wrap_i64_in _ (by omega) (by omega)
  have g0 : (0 : Int) < (n : Int) := by omega
  have HE := Lib.hid he
  clear hr hn hR hK hF hc h0 hl he
  go_enter Tryz.func101, Tryz.ntmps101
  go_wp2_with fail
  obtain ⟨w1, hw1⟩ : ∃ w1, w1 = w.alloc (.cells #[.int .u64 0, .float .f64 0, .float .f64 0, .int .i64 0, .int .i64 0] 65) := ⟨_, rfl⟩
  have hb1 := Lib.hid (heap_alloc_new w (.cells #[.int .u64 0, .float .f64 0, .float .f64 0, .int .i64 0, .int .i64 0] 65))
  have hf1 := Lib.hid ((Fr.refl w).alloc (.cells #[.int .u64 0, .float .f64 0, .float .f64 0, .int .i64 0, .int .i64 0] 65))
  rw [← hw1] at hb1 hf1 ⊢
  clear hw1
  refine (HL.out w1 (HR.out.fr hf1.out)).mono ?_
  rintro r w2 ⟨num, den, base, rfl, hlow, hbase, hf2⟩
  have hlb := HLB.out num den hlow
  have hbb := HBB.out num den base hlow hbase
  have wb : IntKind.i64.wrap (frm + base) = frm + base := wrap_i64_in _ (by have := HE.out; omega) (by have := HN.out; omega)
  have HSL := Lib.hid (r2slope_calls num den hlb.1.1 hlb.2.2 hlb.2.1)
  have HLO := Lib.hid (And.intro hlow hbase)
  have HF2 := Lib.hid hf2
  clear hlow hbase hf2 hlb hbb
  have hb8 := heap_alloc_new w2 (.cells #[.int .u64 num, .int .u64 den, .int .i64 base] 175)
  obtain ⟨y0, y1, y2⟩ := cells3 hb8
  have HB8 := Lib.hid hb8
  clear hb8
  go_wp2_with fail
  obtain ⟨w3, hw3⟩ : ∃ w3, w3 = w2.alloc (.cells #[.int .u64 num, .int .u64 den, .int .i64 base] 175) := ⟨_, rfl⟩
  have HF3 : Hid (Fr w1 w3) := by rw [hw3]; exact HF2.out.alloc _
  rw [← hw3] at HB8 ⊢
  clear hw3 y0 y1 y2
  refine (HSL.out w3).mono ?_
  rintro r w4 ⟨s, rfl, hs, hf4⟩
  have HS := Lib.hid hs
  have HF4 : Hid (Fr w1 w4) := HF3.out.trans hf4
  obtain ⟨y0, y1, y2⟩ := cells3 (hf4.blk HB8.out)
  have hb1' := HF4.out.blk hb1.out
  have z0 := blk_frozen hb1' 0
  have z1 := blk_frozen hb1' 1
  have z2 := blk_frozen hb1' 2
  have z3 := blk_frozen hb1' 3
  have z4 := blk_frozen hb1' 4
  obtain ⟨x0, x1, x2, x3, x4⟩ := cells5 hb1'
  have HB1 := Lib.hid hb1'
  have c0 := (hf1.out.trans HF4.out).cell (HC.out 0 (by have := HN.out; omega))
  rw [Nat.add_zero] at c0
  obtain ⟨k0, hk0⟩ : ∃ k, ky L 0 = k := ⟨_, rfl⟩
  rw [hk0] at c0
  have HK0 := Lib.hid hk0
  clear hf4 hs hb1' hk0
  go_wp2_with fail
  go_region_with (fail)
  all_goals (go_wp2_with fail)
  all_goals
    obtain ⟨w5, hw5⟩ : ∃ w5, w5 = (((((w4.setCell ⟨w.heap.size, 0, none⟩ (.int .u64 k0)).setCell ⟨w.heap.size, 1, none⟩ (.float .f64 s)).setCell ⟨w.heap.size, 2, none⟩ (.float .f64 (floatOfInt .f64 (frm + base)))).setCell ⟨w.heap.size, 3, none⟩ (.int .i64 frm)).setCell ⟨w.heap.size, 4, none⟩ (.int .i64 (frm + (n : Int)))).drew := ⟨_, rfl⟩
    have HB5 := Lib.hid (drew_blk2 (blk_set (blk_set (blk_set (blk_set (blk_set HB1.out 0 (.int .u64 k0)) 1 (.float .f64 s)) 2 (.float .f64 (floatOfInt .f64 (frm + base)))) 3 (.int .i64 frm)) 4 (.int .i64 (frm + (n : Int)))))
    rw [← hw5] at HB5
    have HF5 : Hid (Fr w w5) := by
      rw [hw5]
      exact Fr.drew ((((((hf1.out.trans HF4.out).set (p := ⟨w.heap.size, 0, none⟩) (Nat.le_refl _) _).set (p := ⟨w.heap.size, 1, none⟩) (Nat.le_refl _) _).set (p := ⟨w.heap.size, 2, none⟩) (Nat.le_refl _) _).set (p := ⟨w.heap.size, 3, none⟩) (Nat.le_refl _) _).set (p := ⟨w.heap.size, 4, none⟩) (Nat.le_refl _) _)
    rw [← hw5]
    clear hw5
    refine bodyPost_ret (results_row_tmp rfl _ _ w.heap.size _ _ (0, 0) _ rfl HB5.out Tryz.underlying65 rfl (by kernel_rfl) _ rfl) rfl ⟨⟨k0, s, floatOfInt .f64 (frm + base), frm, frm + (n : Int)⟩, rfl, ⟨⟨num, den, base, HLO.out.1, HLO.out.2, HS.out, rfl⟩, HK0.out.symm, rfl, by rw [HN.out]⟩, HF5.out⟩
end Go.Proofs.YthjimnmgbcckjaaGreat
namespace Go.Proofs.YthjimnmgbcckjaaGreat
set_option maxRecDepth 100000
open Go.RowKit Go.Inc Go.Run
attribute [local go_sem] run_store_float

set_option maxHeartbeats 8000000 in
theorem r8build_calls (L : List Int) (A : Option Addr) (n c : Nat) (eps : Int) (hn : n = L.length) (hc : n ≤ c) (hl : n ≤ 268435456) (he : 2 ≤ eps ∧ eps ≤ 64) (hR : Rise L) (hK : KeysOk L) (w : World) (hr : RdC w A (L.map uv)) :
    Calls Tryz.prog 69 #[.slice A n c, .int .i64 eps] w fun r w' => ∃ (A' : Option Addr) (c' : Nat) (vs : List Value) (Ss : List (List Seg)), r = .returned (.tuple #[.slice A' Ss.length c', .int .i64 0]) ∧ LevelsOf (eps - 1) L Ss ∧ Own w' w.heap.size 62 1 A' Ss.length c' vs ∧ RowsO w' w.heap.size vs Ss ∧ Fr w w' := by
  have RIS := Lib.hid (r3rising_calls L A n c hn (by omega) w hr)
  rw [decide_eq_true hR] at RIS
  have HR := Lib.hid hr
  have HN := Lib.hid hn
  have HRI := Lib.hid hR
  have HK := Lib.hid hK
  have HE := Lib.hid he
  have HCC := Lib.hid hc
  have d1 : decide (eps < 2) = false := decide_eq_false (by omega)
  have d2 : decide (eps > 64) = false := decide_eq_false (by omega)
  clear hr hn hR hK he hc
  go_enter Tryz.func69, Tryz.ntmps69
  go_wp2_with fail
  refine RIS.out.mono ?_
  rintro r w1 ⟨rfl, hf1⟩
  have HF1 := Lib.hid hf1
  clear hf1
  go_wp2_with fail
  go_loopw [0, 6, 7] (fun vk vl vm wr => ∃ (K : List Int) (Ak : Option Addr) (nk ck m : Nat) (Al : Option Addr) (cl nl : Nat) (vs : List Value) (Ss : List (List Seg)), vk = .slice Ak nk ck ∧ vl = .slice Al nl cl ∧ vm = .int .i64 m ∧ Hid (nk = K.length) ∧ nk ≤ ck ∧ Hid (nl = Ss.length) ∧ nl + m ≤ n ∧ nk ≤ n ∧ (0 < m → m ≤ nk ∧ nk ≤ m + 1) ∧ Hid (Rise K) ∧ Hid (KeysOk K) ∧ Hid (RdC wr Ak (K.map uv)) ∧
      Hid (0 < m → ∀ rest, LevelsOf (eps - 1) K rest → LevelsOf (eps - 1) L (Ss ++ rest)) ∧ Hid (m = 0 → LevelsOf (eps - 1) L Ss) ∧ Hid (Own wr w.heap.size 62 1 Al nl cl vs) ∧ Hid (RowsO wr w.heap.size vs Ss) ∧ Hid (Fr w wr)) (fun _ _ vm _ => (intOf vm).toNat)
  case atStart => exact ⟨L, A, n, c, n, some ⟨w1.heap.size, 0, none⟩, 0, 0, [], [], rfl, rfl, rfl, HN.out, HCC.out, rfl, by omega, by omega, fun _ => ⟨by omega, by omega⟩, HRI.out, HK.out, HR.out.fr (HF1.out.alloc _), fun _ rest h => h, fun h0 => List.eq_nil_of_length_eq_zero (by have := HN.out; omega), Own.of_blk (Blk.new w1 [] _) HF1.out.size rfl (by omega), trivial, HF1.out.alloc _⟩
  case round =>
    obtain ⟨K, Ak, nk, ck, m, Al, cl, nl, vs, Ss, rfl, rfl, rfl, hnk, hck, hnl, hsum, hnn, hmk, hKr, hKk, hKrd, hrest, hend, hown, hrows, hf⟩ := hrel
    obtain ⟨wo, hwo⟩ : ∃ wo, wo = wr := ⟨_, rfl⟩
    subst hwo
    by_cases h0 : 0 < m
    · have g1 : decide (0 < m) = true := decide_eq_true h0
      have g2 : decide ((m : Int) > 0) = true := decide_eq_true (by omega)
      have g3 : (0 : Int) < (m : Int) := by omega
      obtain ⟨hm1, hm2⟩ := hmk h0
      have ED := Lib.hid (r6ends_calls K Ak nk ck eps hnk.out (by have := hnk.out; omega) HE.out hKr.out hKk.out wo hKrd.out)
      clear hmk
      go_wp2_with fail
      refine ED.out.mono ?_
      rintro r w2 ⟨E, A2, c2, rfl, hcu, hownE, hf2⟩
      obtain ⟨N, hN⟩ : ∃ N, E.length = N := ⟨_, rfl⟩
      have hNb : N ≤ nk := by have := hcu.le; rw [hN] at this; have := hnk.out; omega
      rw [hN] at hownE ⊢
      have HEN := Lib.hid hN
      have HCU := Lib.hid hcu
      have HOWNE := Lib.hid hownE
      have HF2 := Lib.hid hf2
      clear hcu hownE hf2 hN ED
      go_wp2_with fail
      obtain ⟨w3, hw3⟩ : ∃ w3, w3 = w2.alloc (.cells #[] 65) := ⟨_, rfl⟩
      have HB3 : Hid (Blk w3 w2.heap.size [] 65) := by rw [hw3]; exact Blk.new w2 [] _
      have HF3 : Hid (Fr w2 w3) := by rw [hw3]; exact (Fr.refl w2).alloc _
      rw [← hw3]
      clear hw3
      go_loopw [10, 11, 12] (fun vS vs' v wr => ∃ (i s : Nat) (S : List Seg) (As : Option Addr) (cs : Nat), vS = .slice As i cs ∧ vs' = .int .i64 s ∧ v = .int .i64 i ∧ i ≤ N ∧ s ≤ nk ∧ Hid (S.length = i) ∧ Hid (LevelOf (eps - 1) K 0 S s) ∧ Hid (Cuts (eps - 1) K s (E.drop i) K.length) ∧ Hid (Own wr w2.heap.size 65 5 As i cs (S.flatMap sgcells)) ∧ Hid (Fr w2 wr)) (fun _ _ v _ => N - (intOf v).toNat)
      case atStart => exact ⟨0, 0, [], some ⟨w2.heap.size, 0, none⟩, 0, rfl, rfl, rfl, by omega, by omega, rfl, rfl, by rw [Hid]; simpa using HCU.out, Own.of_blk HB3.out (Nat.le_refl _) rfl (by omega), HF3.out⟩
      case round =>
        obtain ⟨i, s, S, As, cs, rfl, rfl, rfl, hin, hsn, hSl, hlev, hcu, how, hfr⟩ := hrel
        rcases Nat.lt_or_ge i N with hlt | hge
        · have g4 : decide (i < N) = true := decide_eq_true hlt
          have g0 : (i : Int) < (N : Int) := by omega
          have hiE : i < E.length := by have := HEN.out; omega
          obtain ⟨u, hu⟩ : ∃ u, E[i] = u := ⟨_, rfl⟩
          have hcu2 := hcu.out
          rw [List.drop_eq_getElem_cons hiE, hu] at hcu2
          obtain ⟨hco, hcu3⟩ := cuts_at hcu2
          obtain ⟨b, off, hA, hcc⟩ := (HOWNE.out.rd.fr hfr.out).at (by rw [List.length_map]; omega)
          subst hA
          have x0 := hcc i (.int .i64 u) (by simp [hiE, hu, iv])
          have HEI : Hid (E[i]? = some u) := by rw [Hid, List.getElem?_eq_getElem hiE, hu]
          have hsu : s < u := hco.1
          have hun : u ≤ nk := by have := hco.2.1; have := hnk.out; omega
          obtain ⟨A3, hA3, hA3b, hA3r⟩ := run_cut_lh (P := Tryz.prog) 57 50 1 Tryz.underlying57 (by kernel_rfl) Ak nk ck s u (s : Int) (u : Int) rfl rfl (by omega) (by omega) .i64 .i64
          have hrd3 : Hid (RdC wr A3 ((seg K s u).map uv)) := by
            have h1 := hA3r wr (K.map uv) (by rw [List.length_map, Nat.mul_one]; exact hnk.out.symm) hun (hKrd.out.fr (HF2.out.trans hfr.out))
            rw [Nat.mul_one, Nat.mul_one, List.drop_take, ← seg_map] at h1
            exact h1
          have hsl := seg_len (L := K) (s := s) (t := u) (by omega) (by have := hnk.out; omega)
          have MO := Lib.hid (r7of_calls (seg K s u) A3 (u - s) (ck - s) eps (s : Int) hsl.symm (by omega) (by rw [hsl]; omega) HE.out (seg_rise hKr.out s u) (seg_ok hKk.out s u) hco.2.2.1 wr hrd3.out)
          have wi : IntKind.i64.wrap ((i : Int) + 1) = (i : Int) + 1 := wrap_i64_in _ (by omega) (by omega)
          have HCO := Lib.hid hco
          have HCU3 := Lib.hid hcu3
          clear hcu2 hco hcu3 hcc hA3b hA3r hu hcu hsl
          go_wp2_with fail
          refine MO.out.mono ?_
          rintro r w4 ⟨sg, rfl, hsg, hf4⟩
          have HSG := Lib.hid hsg
          have HF4 : Hid (Fr w2 w4) := hfr.out.trans hf4
          have HF5 : Hid (Fr wr w4) := hf4
          have how4 : Hid (Own w4 w2.heap.size 65 5 As i cs (S.flatMap sgcells)) := how.out.fr hf4
          clear hf4 hsg
          have hb13 := heap_alloc_new w4 (.cells #[.int .u64 sg.first, .float .f64 sg.slope, .float .f64 sg.inter, .int .i64 sg.frm, .int .i64 sg.upto] 65)
          have hb14 := ((Fr.refl _).alloc (.cells #[.int .u64 sg.first, .float .f64 sg.slope, .float .f64 sg.inter, .int .i64 sg.frm, .int .i64 sg.upto] 65)).blk hb13
          obtain ⟨y0, y1, y2, y3, y4⟩ := cells5 hb13
          obtain ⟨t0, t1, t2, t3, t4⟩ := cells5 hb14
          have HB13 := Lib.hid (And.intro hb13 hb14)
          clear hb13 hb14
          unfold segVal
          go_wp2_with (at_builtin; refine gate ?_)
          refine gate_app rfl _ _ 62 rfl 65 (.agg #[.int .u64 0, .float .f64 0, .float .f64 0, .int .i64 0, .int .i64 0]) 5 40 Tryz.underlying62 info_seg rfl (by omega) (by omega) w2.heap.size As i cs (S.flatMap sgcells) (some ⟨w4.heap.size + 1, 0, none⟩) 1 1 ([sg].flatMap sgcells) (by rfl) (by rfl)
            ((how4.out.fr ((Fr.refl w4).alloc _)).fr ((Fr.refl _).alloc _)) rfl (RdC.of_blk (heap_alloc2_new w4 _ _)) (seg_one [sg]) (by omega) (by have := HF4.out.size; simp; omega) ?_
          intro A6 c6 w6 hown6 hgr hat
          have hm6 : Hid (Mv (fun k => ablk As = some k) w4 w6) := ((Mv.of_fr (((Fr.refl w4).alloc _).alloc _)).grown hgr.out (fun j hj => .inl hj))
          have HF6 : Hid (Fr w2 w6) := HF4.out.mv hm6.out (fun k hk => (how4.out.lt k hk).1)
          have x1 : w6.cell? ⟨b, off + i, none⟩ = some (.int .i64 u) := by
            have hE6 := HOWNE.out.rd.fr HF6.out
            have h9 := hE6.get i (.int .i64 u) (by
              have h8 : E[i]? = some u := HEI.out
              rw [List.getElem?_map, h8]; rfl)
            exact h9
          have HOWN6 := hown6
          clear hown6 hgr hat y0 y1 y2 y3 y4 t0 t1 t2 t3 t4 x0
          go_wp2_with fail
          refine ⟨⟨i + 1, u, S ++ [sg], A6, c6, rfl, rfl, rfl, by omega, hun, ?_, hlev.out.snoc HCO.out HSG.out, HCU3.out, ?_, HF6.out⟩, by simp only [intOf]; omega⟩
          · rw [Hid, List.length_append, hSl.out]; rfl
          · rw [Hid, List.flatMap_append]; exact HOWN6.out
        · obtain rfl : i = N := by omega
          have g4 : decide (i < i) = false := by simp
          have hcu2 : Hid (s = K.length) := by
            have := hcu.out
            rw [List.drop_of_length_le (by rw [HEN.out]; exact Nat.le_refl _)] at this
            exact this
          have HLEV : Hid (LevelOf (eps - 1) K 0 S K.length) := by have := hlev.out; rw [hcu2.out] at this; exact this
          have hless := level_less (show 1 ≤ eps - 1 by have := HE.out; omega) hKr.out (by have := hnk.out; omega) HLEV.out
          have hpos := level_pos (show 0 < K.length by have := hnk.out; omega) HLEV.out
          rw [hSl.out] at hless hpos
          have HLESS := Lib.hid hless
          have HBW : Hid (w.heap.size ≤ wr.heap.size) := by have := hf.out.size; have := HF2.out.size; have := hfr.out.size; rw [Hid]; omega
          have HFW : Hid (Fr w wr) := (hf.out.trans HF2.out).trans hfr.out
          have HFO : Hid (Fr wo wr) := HF2.out.trans hfr.out
          have hsumN : nl + 1 + (i - 1) ≤ n := by have := hnk.out; omega
          clear hcu hlev hless
          go_wp2_with (at_builtin; refine gate ?_)
          refine gate_app rfl _ _ 39 rfl 62 (.slice none 0 0) 1 24 Tryz.underlying39 info_row rfl (by omega) (by omega) w.heap.size Al nl cl vs (some ⟨wr.heap.size, 0, none⟩) 1 1 [.slice As i cs] (by rfl) (by rfl)
            ((hown.out.fr HFO.out).fr ((Fr.refl wr).alloc _)) rfl (RdC.of_blk (heap_alloc_new wr _)) (by intro u hu; simp at hu; subst hu; rfl) (by omega) (by have := HBW.out; simp; omega) ?_
          intro A8 c8 w8 hown8 hgr8 hat8
          have hm8 : Hid (Mv (fun k => ablk Al = some k) wr w8) := ((Mv.of_fr ((Fr.refl wr).alloc _)).grown hgr8.out (fun j hj => .inl hj))
          have HF8 : Hid (Fr w w8) := HFW.out.mv hm8.out (fun k hk => (hown.out.lt k hk).1)
          have hrs8 : Hid (RowsO w8 w.heap.size vs Ss) := (hrows.out.fr HFO.out).mv hm8.out (fun k h _ cs fr he => own_not_blk0 (hown.out.fr HFO.out) (by decide) k h he)
          have how8 : Hid (Own w8 w.heap.size 65 5 As i cs (S.flatMap sgcells)) := (how.out.mono (by have := hf.out.size; have := HF2.out.size; omega)).mv hm8.out (fun k hk h => by
            obtain ⟨cs', h9⟩ := own_ty how.out hk
            exact own_not_blk0 (hown.out.fr HFO.out) (by decide) k h h9)
          have HOWN8 := hown8
          have HROWS : Hid (RowsO w8 w.heap.size (vs ++ [.slice As i cs]) (Ss ++ [S])) := by
            have h9 := hrs8.out.snoc (S := S) (by rw [hSl.out]; exact how8.out)
            rw [hSl.out] at h9
            exact h9
          have HNL : Hid (nl + 1 = (Ss ++ [S]).length) := by rw [Hid, List.length_append, ← hnl.out]; rfl
          clear hown8 hgr8 hat8
          have FI := Lib.hid (r8firsts_calls S As i cs hSl.out.symm (by omega) w8.heap.size w8 (Nat.le_refl _) (Nat.le_refl _) how8.out.rd)
          have wi1 : IntKind.i64.wrap ((i : Int) - 1) = ((i - 1 : Nat) : Int) := by rw [show ((i - 1 : Nat) : Int) = (i : Int) - 1 by omega]; exact wrap_i64_in _ (by omega) (by omega)
          go_wp2_with fail
          refine FI.out.mono ?_
          rintro r w9 ⟨A9, c9, rfl, how9, hf9⟩
          have HOW9 := Lib.hid how9
          have HF9 := Lib.hid hf9
          have HLF := Lib.hid (level_first hKr.out hKk.out HLEV.out)
          clear how9 hf9
          go_wp2_with fail
          refine ⟨⟨firstsOf S, A9, i, c9, i - 1, A8, c8, nl + 1, (vs ++ [Value.slice As i cs] : List Value), Ss ++ [S], rfl, rfl, rfl, by rw [Hid]; unfold firstsOf; rw [List.length_map]; exact hSl.out.symm, own_le HOW9.out, HNL.out, hsumN, by omega, fun h9 => ⟨by omega, by omega⟩, HLF.out.1, HLF.out.2.2, HOW9.out.rd, ?_, ?_, HOWN8.out.fr HF9.out, HROWS.out.fr HF9.out, HF8.out.trans HF9.out⟩, ?_⟩
          · intro h9 rest hr9
            rw [List.append_assoc]
            exact hrest.out h0 _ ⟨by have := hnk.out; omega, HLEV.out, fun h2 => absurd (hSl.out.symm.trans h2) (by omega), fun _ => hr9⟩
          · intro h9
            exact hrest.out h0 [S] ⟨by have := hnk.out; omega, HLEV.out, fun _ => rfl, fun h2 => absurd (hSl.out.trans (by omega)) h2⟩
          · simp only [intOf]
            rcases HLESS.out with h9 | h9
            · omega
            · have := hnk.out; omega
    · obtain rfl : m = 0 := by omega
      have hK0 := Lib.hid (hend.out rfl)
      have g1 : decide (0 < 0) = false := by decide
      clear hrest hend
      go_wp2_with fail
      go_ret2
      refine ⟨Al, cl, vs, Ss, ?_, hK0.out, ?_, hrows.out, hf.out⟩
      · rw [← hnl.out]; rfl
      · rw [← hnl.out]; exact hown.out
end Go.Proofs.YthjimnmgbcckjaaGreat
namespace Go.Proofs.YthjimnmgbcckjaaGreat
set_option maxRecDepth 100000
open Go.RowKit Go.Inc Go.Run
attribute [local go_sem] run_store_float

theorem chk3_zero_rise {E : List Ent} (h : Chk3 E 0) : Rise (keysE E) := by
  rcases h with ⟨_, h⟩ | ⟨i, _, _, _, _, h⟩ | ⟨i, _, _, _, _, h⟩
  · exact h.rise
  · cases h
  · cases h
theorem RowsO.base {w : World} {base base' : Nat} (hb : base' ≤ base) : ∀ {vs : List Value} {Ss : List (List Seg)}, RowsO w base vs Ss → RowsO w base' vs Ss
  | [], [], _ => trivial
  | _v :: _vs, _S :: _Ss, h => by
    obtain ⟨⟨A, c, h1, h2⟩, h4⟩ := h
    exact ⟨⟨A, c, h1, h2.mono hb⟩, RowsO.base hb h4⟩
  | [], _ :: _, h => h.elim
  | _ :: _, [], h => h.elim
/-- What comes of the reference's New. -/
def RefNew (E : List Ent) (eps : Int) (base : Nat) (w : World) (e : Ending) (w' : World) : Prop :=
  Fr w w' ∧ ((¬ (2 ≤ eps ∧ eps ≤ 64) ∧ e = .returned (.tuple #[.pointer none, .int .i64 1])) ∨ ((2 ≤ eps ∧ eps ≤ 64) ∧ ∃ v, v ≠ 0 ∧ Chk3 E v ∧ e = .returned (.tuple #[.pointer none, .int .i64 v])) ∨
    ((2 ≤ eps ∧ eps ≤ 64) ∧ Chk3 E 0 ∧ ∃ x Ss, e = .returned (.tuple #[.pointer (some ⟨x, 0, none⟩), .int .i64 0]) ∧ IsRef w' x base eps E Ss ∧ LevelsOf (eps - 1) (keysE E) Ss))

set_option maxHeartbeats 4000000 in
theorem r11new_calls (E : List Ent) (A : Option Addr) (n c : Nat) (eps : Int) (hn : n = E.length) (hl : n ≤ 268435456) (hE : ∀ e ∈ E, EntOk e) (w : World) (hr : RdC w A (E.flatMap encells)) :
    Calls Tryz.prog 29 #[.slice A n c, .int .i64 eps] w (RefNew E eps w.heap.size w) := by
  by_cases h1 : 2 ≤ eps ∧ eps ≤ 64
  · have d1 : decide (eps < 2) = false := decide_eq_false (by omega)
    have d2 : decide (eps > 64) = false := decide_eq_false (by omega)
    have HEP := Lib.hid h1
    have CK := Lib.hid (r3check_calls E A n c hn hl w hr)
    have HR := Lib.hid hr
    have HN := Lib.hid hn
    have HE := Lib.hid hE
    clear h1 hr hn hE
    go_enter Tryz.func29, Tryz.ntmps29
    go_wp2_with fail
    refine CK.out.mono ?_
    rintro e w1 ⟨v, rfl, hv, hf1⟩
    have HF1 := Lib.hid hf1
    have HVC := Lib.hid hv
    clear hv hf1
    by_cases hv0 : v = 0
    · subst hv0
      have KO := Lib.hid (r3of_calls E A n c HN.out hl w1.heap.size w1 (Nat.le_refl _) (Nat.le_refl _) (HR.out.fr HF1.out))
      go_wp2_with fail
      refine KO.out.mono ?_
      rintro e w2 ⟨A2, c2, rfl, ho2, hf2⟩
      have HF2 : Hid (Fr w w2) := HF1.out.trans hf2
      have HO2 := Lib.hid ho2
      clear ho2 hf2
      have BU := Lib.hid (r8build_calls (keysE E) A2 n c2 eps (by rw [keysE_len]; exact HN.out) (own_le HO2.out) hl HEP.out (chk3_zero_rise HVC.out) (keysE_ok HE.out) w2 HO2.out.rd)
      go_wp2_with fail
      refine BU.out.mono ?_
      rintro e w3 ⟨Al, cl, vs, Ss, rfl, hlev, hown, hrows, hf3⟩
      obtain ⟨N, hN⟩ : ∃ N, Ss.length = N := ⟨_, rfl⟩
      rw [hN] at hown ⊢
      have hsz2 := HF2.out.size
      have HLEV := Lib.hid hlev
      have HOWN := Lib.hid (hown.mono (base' := w.heap.size) hsz2)
      have HROWS := Lib.hid hrows
      have HF3' := Lib.hid hf3
      have HF3 : Hid (Fr w w3) := HF2.out.trans hf3
      have HNN := Lib.hid hN
      have HBWR : Hid (w.heap.size ≤ w3.heap.size) := HF3.out.size
      clear hlev hown hrows hf3 hN BU KO CK
      go_wp2_with (at_builtin; refine gate ?_)
      refine gate_app rfl _ _ 22 rfl 52 (.agg #[.int .u64 0, .int .u64 0, .bool false]) 3 24 Tryz.underlying22 info_ent rfl (by omega) (by omega) w3.heap.size (some ⟨w3.heap.size, 0, none⟩) 0 0 [] A n c (E.flatMap encells) (by rfl) (by rfl)
        (Own.of_blk (Blk.new w3 [] _) (Nat.le_refl _) rfl (by omega)) (by rw [flat_len encells 3 encells_len, HN.out]) (HR.out.fr (HF3.out.alloc _)) (ent_one E) (by omega) (by simp) ?_
      intro A6 c6 w6 hown6 hgr6 hat6
      have hm6 : Hid (Mv (fun k => k = w3.heap.size) w3 w6) := ((Mv.of_fr ((Fr.refl w3).alloc _)).grown hgr6.out (fun j hj => .inl (by simp [ablk] at hj; exact hj.symm)))
      have hf36 : Hid (Fr w3 w6) := (Fr.refl w3).mv hm6.out (fun k hk => by rw [show k = w3.heap.size from hk]; exact Nat.le_refl _)
      have how6 : Hid (Own w6 w.heap.size 52 3 A6 n c6 (E.flatMap encells)) := by
        have h9 := hown6.out
        rw [Nat.zero_add, List.nil_append] at h9; exact h9.mono HBWR.out
      rw [Nat.zero_add]
      clear hown6 hgr6 hat6 hm6
      go_wp2_with fail
      go_ret2
      have hfa := (Fr.refl w6).alloc (.cells #[.slice A6 n c6, .int .i64 eps, .slice Al N cl] 78)
      refine ⟨(HF3.out.trans hf36.out).trans hfa, .inr (.inr ⟨HEP.out, HVC.out, w6.heap.size, Ss, rfl, ⟨A6, c6, Al, cl, vs, (HF3.out.trans hf36.out).size, ?_, ?_, ?_, ?_⟩, HLEV.out⟩)⟩
      · rw [← HN.out, HNN.out]; exact heap_alloc_new w6 _
      · rw [← HN.out]; exact how6.out.fr hfa
      · rw [HNN.out]; exact (HOWN.out.fr hf36.out).fr hfa
      · exact RowsO.base (by have := HF2.out.size; omega) ((HROWS.out.fr hf36.out).fr hfa)
    · have g1 : (v != 0) = true := by simpa using hv0
      go_wp2_with fail
      go_ret2
      exact ⟨HF1.out, .inr (.inl ⟨HEP.out, v, hv0, HVC.out, rfl⟩)⟩
  · by_cases h2 : eps < 2
    · have d1 : decide (eps < 2) = true := decide_eq_true h2
      have H1 := Lib.hid h1
      clear h1
      go_enter Tryz.func29, Tryz.ntmps29
      go_wp2_with fail
      go_ret2
      exact ⟨Fr.refl _, .inl ⟨H1.out, rfl⟩⟩
    · have d1 : decide (eps < 2) = false := decide_eq_false h2
      have d2 : decide (eps > 64) = true := decide_eq_true (by omega)
      have H1 := Lib.hid h1
      clear h1
      go_enter Tryz.func29, Tryz.ntmps29
      go_wp2_with fail
      go_ret2
      exact ⟨Fr.refl _, .inl ⟨H1.out, rfl⟩⟩
/-- What run.New gives, the reference's gives. -/
theorem rnew_no {E : List Ent} {eps v : Int} {base : Nat} {w w' : World} {e : Ending} (h0 : v ≠ 0) (h : (eps < 2 ∨ 64 < eps) ∧ v = 1 ∨ (2 ≤ eps ∧ eps ≤ 64) ∧ EntsV E v) (hr : RefNew E eps base w e w') : e = .returned (.tuple #[.pointer none, .int .i64 v]) := by
  obtain ⟨_, hr⟩ := hr
  rcases hr with ⟨h1, h2⟩ | ⟨h1, v', h2, h3, h4⟩ | ⟨h1, h2, x, Ss, _⟩
  · rcases h with ⟨_, rfl⟩ | ⟨h, _⟩
    · exact h2
    · exact absurd h h1
  · rcases h with ⟨h, _⟩ | ⟨_, h⟩
    · omega
    · rw [chk3_eq h h3]; exact h4
  · rcases h with ⟨h, _⟩ | ⟨_, h⟩
    · omega
    · exact absurd (chk3_eq h h2) h0
theorem rnew_yes {E : List Ent} {eps : Int} {Ss : List (List Seg)} {base : Nat} {w w' : World} {e : Ending} (he : 2 ≤ eps ∧ eps ≤ 64) (hE : EntsV E 0) (hK : KeysOk (keysE E)) (hL : LevelsOf (eps - 1) (keysE E) Ss) (hr : RefNew E eps base w e w') : ∃ x, e = .returned (.tuple #[.pointer (some ⟨x, 0, none⟩), .int .i64 0]) ∧ IsRef w' x base eps E Ss := by
  obtain ⟨_, hr⟩ := hr
  rcases hr with ⟨h1, h2⟩ | ⟨h1, v', h2, h3, h4⟩ | ⟨h1, h2, x, Ss', h3, h4, h5⟩
  · exact absurd he h1
  · exact absurd (chk3_eq hE h3).symm h2
  · obtain rfl := levels_unique (entsV_zero hE).1 hK hL h5
    exact ⟨x, h3, h4⟩
end Go.Proofs.YthjimnmgbcckjaaGreat
