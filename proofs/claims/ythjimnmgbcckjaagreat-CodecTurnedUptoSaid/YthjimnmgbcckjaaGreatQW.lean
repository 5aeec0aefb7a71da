/- Parts of this proof, one behind the other: CdV, CdW, CdY. -/
import Derived.Deep.RegionLaw
import Derived.Deep.RegionHeld3
import Derived.Test.YthjimnmgbcckjaaGreatQS
import Derived.Test.YthjimnmgbcckjaaGreatQV4
namespace Go.Proofs.YthjimnmgbcckjaaGreat
set_option maxRecDepth 100000
open Go.RowKit Go.Inc Go.Run
attribute [local go_sem] run_store_float

def sbcells (s : Seg) : List Value := [.int .u64 s.first, .int .u64 s.slope, .int .u64 s.inter, .int .i64 s.frm, .int .i64 s.upto]
theorem sbcells_len (s : Seg) : (sbcells s).length = 5 := rfl
/-- Rows of segments by their bits. -/
def RowsQ (w : World) : List Value → List (List Seg) → Prop
  | [], [] => True
  | v :: vs, S :: Ss => (∃ A c, v = .slice A S.length c ∧ S.length ≤ c ∧ RdC w A (S.flatMap sbcells)) ∧ RowsQ w vs Ss
  | _, _ => False
theorem RowsQ.len {w : World} : ∀ {vs : List Value} {Ss : List (List Seg)}, RowsQ w vs Ss → vs.length = Ss.length
  | [], [], _ => rfl
  | _ :: _, _ :: _, h => by simp [RowsQ.len h.2]
  | [], _ :: _, h => h.elim
  | _ :: _, [], h => h.elim
theorem RowsQ.at {w : World} : ∀ {vs : List Value} {Ss : List (List Seg)}, RowsQ w vs Ss → ∀ {i : Nat} {S : List Seg}, Ss[i]? = some S → ∃ A c, vs[i]? = some (.slice A S.length c) ∧ S.length ≤ c ∧ RdC w A (S.flatMap sbcells)
  | [], [], _, i, S, h => by simp at h
  | v :: vs, T :: Ss, h, 0, S, hS => by
    obtain ⟨⟨A, c, h1, h2, h3⟩, _⟩ := h
    have : T = S := by simpa using hS
    subst this
    exact ⟨A, c, by simp [h1], h2, h3⟩
  | v :: vs, T :: Ss, h, i + 1, S, hS => by
    obtain ⟨A, c, h1, h2, h3⟩ := RowsQ.at h.2 (i := i) (S := S) (by simpa using hS)
    exact ⟨A, c, by simpa using h1, h2, h3⟩
  | [], _ :: _, h, _, _, _ => h.elim
  | _ :: _, [], h, _, _, _ => h.elim
theorem rdc_sb {w : World} {A : Option Addr} {S : List Seg} (h : RdC w A (S.flatMap sbcells)) (hne : 0 < S.length) : ∃ b off, A = some ⟨b, off, none⟩ ∧ ∀ i (hi : i < S.length), w.cell? ⟨b, off + i * 5, none⟩ = some (.int .u64 S[i].first) ∧ w.cell? ⟨b, off + i * 5 + 1, none⟩ = some (.int .u64 S[i].slope) ∧ w.cell? ⟨b, off + i * 5 + 2, none⟩ = some (.int .u64 S[i].inter) ∧ w.cell? ⟨b, off + i * 5 + 3, none⟩ = some (.int .i64 S[i].frm) ∧ w.cell? ⟨b, off + i * 5 + 4, none⟩ = some (.int .i64 S[i].upto) := by
  obtain ⟨b, off, hA, hc⟩ := h.at (by rw [flat_len sbcells 5 sbcells_len]; omega)
  refine ⟨b, off, hA, fun i hi => ?_⟩
  have hg := fun j (hj : j < 5) => get_flat sbcells 5 sbcells_len S i S[i] j (by simp [hi]) hj
  refine ⟨?_, ?_, ?_, ?_, ?_⟩
  · have := hc (i * 5 + 0) _ (by rw [hg 0 (by decide)]; rfl); rw [Nat.add_zero] at this; exact this
  · have := hc (i * 5 + 1) _ (by rw [hg 1 (by decide)]; rfl); rw [← Nat.add_assoc] at this; exact this
  · have := hc (i * 5 + 2) _ (by rw [hg 2 (by decide)]; rfl); rw [← Nat.add_assoc] at this; exact this
  · have := hc (i * 5 + 3) _ (by rw [hg 3 (by decide)]; rfl); rw [← Nat.add_assoc] at this; exact this
  · have := hc (i * 5 + 4) _ (by rw [hg 4 (by decide)]; rfl); rw [← Nat.add_assoc] at this; exact this

set_option maxHeartbeats 8000000 in
theorem cdOf_calls (AL : Value) (eps : Int) (own : Bool) (AU : Option Addr) (N cU : Nat) (vs : List Value) (Ss : List (List Seg)) (hN : N = Ss.length) (hNl : N ≤ 1048576) (hS : ∀ S ∈ Ss, S.length ≤ 1048576) (w : World) (hr : RdC w AU vs) (hq : RowsQ w vs Ss) :
    Calls Tryz.prog 26 #[.agg #[AL, .int .i64 eps, .bool own, .slice AU N cU]] w fun e w' => ∃ A c us, e = .returned (.slice A N c) ∧ Own w' w.heap.size 62 1 A N c us ∧ RowsO w' w.heap.size us Ss ∧ Fr w w' := by
  have HN := Lib.hid hN
  have HS := Lib.hid hS
  have HR := Lib.hid hr
  have HQ := Lib.hid hq
  have hfb := frombits_run
  have hba := heap_alloc_new w (.cells #[AL, .int .i64 eps, .bool own, .slice AU N cU] 25)
  have HB1 : Hid (∀ w', Fr (w.alloc (.cells #[AL, .int .i64 eps, .bool own, .slice AU N cU] 25)) w' → w'.cell? ⟨w.heap.size, 3, none⟩ = some (.slice AU N cU)) := fun w' h => by rw [blk_cell (h.blk hba)]; rfl
  have x3 := HB1.out _ (Fr.refl _)
  obtain ⟨w1, hw1⟩ : ∃ w1, w1 = w.alloc (.cells #[AL, .int .i64 eps, .bool own, .slice AU N cU] 25) := ⟨_, rfl⟩
  have HF1 : Hid (Fr w w1) := by rw [hw1]; exact (Fr.refl w).alloc _
  have hs1 : w1.heap.size = w.heap.size + 1 := by rw [hw1]; simp
  rw [← hw1] at HB1
  have HW1 := Lib.hid hw1
  have HS1 := Lib.hid hs1
  clear hN hS hr hq hba hs1 hw1
  go_enter Tryz.func26, Tryz.ntmps26
  go_wp2_with fail
  rw [← HW1.out]
  have HB0 : Hid (Own (w1.alloc (.cells #[] 62)) (w.heap.size + 1) 62 1 (some ⟨w.heap.size + 1, 0, none⟩) 0 0 []) := by
    have h := Blk.new w1 [] 62
    rw [HS1.out] at h
    exact Own.of_blk h (Nat.le_refl _) rfl (by omega)
  clear x3
  go_loopw [3, 4] (fun v3 v4 wr => ∃ (j : Nat) (A : Option Addr) (c : Nat) (us : List Value), v3 = .slice A j c ∧ v4 = .int .i64 j ∧ j ≤ N ∧ Hid (Own wr (w.heap.size + 1) 62 1 A j c us) ∧ Hid (RowsO wr (w.heap.size + 1) us (Ss.take j)) ∧ Hid (Fr w1 wr)) (fun _ v4 _ => N - (intOf v4).toNat)
  case atStart => exact ⟨0, _, 0, [], rfl, rfl, by omega, HB0.out, trivial, (Fr.refl w1).alloc _⟩
  case round =>
    obtain ⟨j, A, c, us, rfl, rfl, hjn, hou, hrs, hf⟩ := hrel
    obtain ⟨wz, hwz⟩ : ∃ wz, wz = wr := ⟨_, rfl⟩
    subst hwz
    have x3 := HB1.out wz hf.out
    have HFZ : Hid (Fr w wz) := HF1.out.trans hf.out
    have HSZ : Hid (w.heap.size + 1 ≤ wz.heap.size) := by have := hf.out.size; have := HS1.out; rw [Hid]; omega
    rcases Nat.lt_or_ge j N with hlt | hge
    · have d1 : decide (j < N) = true := decide_eq_true hlt
      have d2 : (j : Int) < (N : Int) := by omega
      have wi : IntKind.i64.wrap ((j : Int) + 1) = (j : Int) + 1 := wrap_i64_in _ (by omega) (by omega)
      have hjS : j < Ss.length := by have := HN.out; omega
      obtain ⟨S, hS⟩ : ∃ S, Ss[j] = S := ⟨_, rfl⟩
      have hSi : Ss[j]? = some S := by rw [List.getElem?_eq_getElem hjS, hS]
      obtain ⟨As, cs, hvs, hcs, hrs0⟩ := HQ.out.at hSi
      obtain ⟨bl, ol, hAl, hcl⟩ := HR.out.at (by have := HQ.out.len; omega)
      have y0 := hcl j _ hvs
      have hMl := HS.out S (List.mem_of_getElem? hSi)
      obtain ⟨M, hM⟩ : ∃ M, S.length = M := ⟨_, rfl⟩
      rw [hM] at y0 hcs hMl
      have HY0 : Hid (∀ w', Fr w w' → w'.cell? ⟨bl, ol + j, none⟩ = some (.slice As M cs)) := fun w' h => h.cell y0
      subst hAl
      have HM := Lib.hid hM
      have HSI := Lib.hid hSi
      have HRS := Lib.hid hrs0
      clear hvs hrs0 hS hSi hM hcl y0
      go_wp2_with fail
      have HB2 : Hid (Own (wz.alloc (.cells #[] 65)) wz.heap.size 65 5 (some ⟨wz.heap.size, 0, none⟩) 0 0 []) := Own.of_blk (Blk.new wz [] _) (Nat.le_refl _) rfl (by omega)
      clear x3
      go_loopw [5, 6] (fun v5 v6 wr => ∃ (k : Nat) (A2 : Option Addr) (c2 : Nat), v5 = .slice A2 k c2 ∧ v6 = .int .i64 k ∧ k ≤ M ∧ Hid (Own wr wz.heap.size 65 5 A2 k c2 ((S.take k).flatMap sgcells)) ∧ Hid (Fr wz wr)) (fun _ v6 _ => M - (intOf v6).toNat)
      case atStart => exact ⟨0, _, 0, rfl, rfl, by omega, HB2.out, (Fr.refl wz).alloc _⟩
      case round =>
        obtain ⟨k, A2, c2, rfl, rfl, hkM, how, hfz⟩ := hrel
        obtain ⟨wy, hwy⟩ : ∃ wy, wy = wr := ⟨_, rfl⟩
        subst hwy
        have x3 := HB1.out wy (hf.out.trans hfz.out)
        have x9 := HY0.out wy (HFZ.out.trans hfz.out)
        rcases Nat.lt_or_ge k M with hlt2 | hge2
        · have d3 : decide (k < M) = true := decide_eq_true hlt2
          have d4 : (k : Int) < (M : Int) := by omega
          have wi2 : IntKind.i64.wrap ((k : Int) + 1) = (k : Int) + 1 := wrap_i64_in _ (by omega) (by omega)
          have hkS : k < S.length := by have := HM.out; omega
          obtain ⟨bb, off, hA, hcc⟩ := rdc_sb (HRS.out.fr (HFZ.out.trans hfz.out)) (by omega)
          obtain ⟨y0, y1, y2, y3, y4⟩ := hcc k hkS
          obtain ⟨s, hs⟩ : ∃ s, S[k] = s := ⟨_, rfl⟩
          rw [hs] at y0 y1 y2 y3 y4
          have hsi : S[k]? = some s := by rw [List.getElem?_eq_getElem hkS, hs]
          have HSN : Hid ((S.take (k + 1)).flatMap sgcells = (S.take k).flatMap sgcells ++ [s].flatMap sgcells) := by rw [Hid, List.take_add_one, hsi]; simp
          obtain ⟨first, slope, inter, frm, upto⟩ := s
          dsimp only at y0 y1 y2 y3 y4
          subst hA
          have hba := heap_alloc_new wy (.cells #[.int .u64 first, .int .u64 (slope : Nat), .int .u64 (inter : Nat), .int .i64 frm, .int .i64 upto] 119)
          obtain ⟨z0, z1, z2, z3, z4⟩ := cells5 hba
          obtain ⟨w4, hw4⟩ : ∃ w4, w4 = wy.alloc (.cells #[.int .u64 first, .int .u64 (slope : Nat), .int .u64 (inter : Nat), .int .i64 frm, .int .i64 upto] 119) := ⟨_, rfl⟩
          have HBG0 := hba
          rw [← hw4] at HBG0
          have HF4 : Hid (Fr wz w4) := by rw [hw4]; exact hfz.out.alloc _
          have HO4 : Hid (Own w4 wz.heap.size 65 5 A2 k c2 ((S.take k).flatMap sgcells)) := by rw [hw4]; exact how.out.fr ((Fr.refl _).alloc _)
          obtain ⟨gs, hgs⟩ : ∃ gs, gs = wy.heap.size := ⟨_, rfl⟩
          have HBG : Hid (w4.heap[gs]? = some (.cells #[.int .u64 first, .int .u64 (slope : Nat), .int .u64 (inter : Nat), .int .i64 frm, .int .i64 upto] 119 (0, 0))) := by rw [hgs]; exact HBG0
          clear hcc hs hsi hba HBG0
          go_wp2_with fail
          rw [← hw4, ← hgs]
          rw [← hw4, ← hgs] at z0 z1 z2 z3 z4
          clear y0 y1 y2 y3 y4 x3 x9 hw4 hgs
          have HCE : Hid (∀ w', Fr w4 w' → w'.cell? ⟨gs, 0, none⟩ = some (.int .u64 first) ∧ w'.cell? ⟨gs, 1, none⟩ = some (.int .u64 (slope : Nat)) ∧ w'.cell? ⟨gs, 2, none⟩ = some (.int .u64 (inter : Nat)) ∧ w'.cell? ⟨gs, 3, none⟩ = some (.int .i64 frm) ∧ w'.cell? ⟨gs, 4, none⟩ = some (.int .i64 upto)) := fun w' h => ⟨h.cell z0, h.cell z1, h.cell z2, h.cell z3, h.cell z4⟩
          go_region_held3 (fun w' => w'.cell? ⟨gs, 0, none⟩ = some (.int .u64 first) ∧ w'.cell? ⟨gs, 1, none⟩ = some (.int .u64 (slope : Nat)) ∧ w'.cell? ⟨gs, 2, none⟩ = some (.int .u64 (inter : Nat)) ∧ w'.cell? ⟨gs, 3, none⟩ = some (.int .i64 frm) ∧ w'.cell? ⟨gs, 4, none⟩ = some (.int .i64 upto))
            (first | exact hc6 | (refine HCE.out _ ?_; repeat (first | exact Fr.refl _ | refine Fr.drew ?_ | refine Fr.alloc ?_ _)))
            (first
              | (refine step_app rfl (.tmp 35) (.tmp 49) 62 rfl 65 (.agg #[.int .u64 0, .float .f64 0, .float .f64 0, .int .i64 0, .int .i64 0]) 5 40 Tryz.underlying62 info_seg rfl (by omega) (by omega) wz.heap.size A2 k c2 ((S.take k).flatMap sgcells) (some ⟨w4.heap.size, 0, none⟩) 1 1 ([(⟨first, slope, inter, frm, upto⟩ : Seg)].flatMap sgcells) ?_ ?_
                   (HO4.out.fr (((Fr.refl w4).drew).alloc _)) rfl (RdC.blk (Blk.new w4.drew _ _)) (seg_one [(⟨first, slope, inter, frm, upto⟩ : Seg)]) (by omega) (by have := HF4.out.size; simp; omega) ?_; exact rfl; exact rfl; intro A6 c6 w6 hown6 hgr6 hat6; have hf6 : Hid (Fr wz w6) := ((HF4.out.drew).alloc _).grown hgr6.out (fun k hk => (HO4.out.lt k hk).1); have hc6 : w6.cell? ⟨gs, 0, none⟩ = some (.int .u64 first) ∧ w6.cell? ⟨gs, 1, none⟩ = some (.int .u64 (slope : Nat)) ∧ w6.cell? ⟨gs, 2, none⟩ = some (.int .u64 (inter : Nat)) ∧ w6.cell? ⟨gs, 3, none⟩ = some (.int .i64 frm) ∧ w6.cell? ⟨gs, 4, none⟩ = some (.int .i64 upto) := cells5 (((((Mv.of_fr ((Fr.refl w4).drew)).alloc _).grown hgr6.out (fun j hj => .inl hj) : Mv (fun k => ablk A2 = some k) w4 w6)).blk HBG.out (fun h => own_not_blk0 HO4.out (by decide) gs h HBG.out))))
          clear hc6 z0 z1 z2 z3 z4
          have HO6 : Hid (Own w6 wz.heap.size 65 5 A6 (k + 1) c6 ((S.take (k + 1)).flatMap sgcells)) := by rw [Hid, HSN.out]; exact hown6.out
          have HF6 := hf6
          clear hown6 hgr6 hat6 hf6
          go_wp2_with fail
          exact ⟨⟨k + 1, A6, c6, rfl, rfl, by omega, HO6.out, HF6.out⟩, by simp only [intOf]; omega⟩
        · obtain rfl : k = M := by omega
          have d3 : decide (k < k) = false := by simp
          have HOW : Hid (Own wy wz.heap.size 65 5 A2 k c2 (S.flatMap sgcells)) := by
            have h9 := how.out
            rw [List.take_of_length_le (by rw [HM.out]; exact Nat.le_refl _)] at h9
            exact h9
          have HOU : Hid (Own wy (w.heap.size + 1) 62 1 A j c us) := hou.out.fr hfz.out
          have HRSY : Hid (RowsO wy (w.heap.size + 1) us (Ss.take j)) := hrs.out.fr hfz.out
          have HFY : Hid (Fr w1 wy) := hf.out.trans hfz.out
          clear how hou hrs
          go_wp2_with (at_builtin; refine gate ?_)
          have hszy : w.heap.size + 1 ≤ wy.heap.size := by have := HFY.out.size; have := HS1.out; omega
          refine gate_app rfl _ _ 39 rfl 62 (.slice none 0 0) 1 24 Tryz.underlying39 info_row rfl (by omega) (by omega) (w.heap.size + 1) A j c us (some ⟨wy.heap.size, 0, none⟩) 1 1 [.slice A2 k c2] (by rfl) (by rfl)
            (HOU.out.fr ((Fr.refl wy).alloc _)) rfl (RdC.blk (Blk.new wy _ _)) (by intro u hu; simp at hu; subst hu; rfl) (by omega) (by simp; omega) ?_
          intro A8 c8 w8 hown8 hgr8 hat8
          have hm8 : Hid (Mv (fun k => ablk A = some k) wy w8) := ((Mv.of_fr ((Fr.refl wy).alloc _)).grown hgr8.out (fun j hj => .inl hj))
          have HF8 : Hid (Fr w1 w8) := HFY.out.mv hm8.out (fun k hk => by have := (HOU.out.lt k hk).1; have := HS1.out; omega)
          have HO8 : Hid (Own w8 (w.heap.size + 1) 65 5 A2 k c2 (S.flatMap sgcells)) := (HOW.out.mv hm8.out (fun k hk h => by
            obtain ⟨cs, h9⟩ := own_ty HOW.out hk
            exact own_not_blk0 HOU.out (by decide) k h h9)).mono HSZ.out
          have HRS8 : Hid (RowsO w8 (w.heap.size + 1) (us ++ [.slice A2 k c2]) (Ss.take (j + 1))) := by
            have h1 := HRSY.out.mv hm8.out (fun k h _ cs fr he => own_not_blk0 HOU.out (by decide) k h he)
            have h2 := h1.snoc (S := S) (A := A2) (c := c2) (by rw [HM.out]; exact HO8.out)
            rw [HM.out] at h2
            rw [Hid, List.take_add_one, HSI.out]
            exact h2
          have HOU8 := hown8
          clear hown8 hgr8 hat8 HOU HOW HRSY hm8
          go_wp2_with fail
          exact ⟨⟨j + 1, A8, c8, us ++ [Value.slice A2 k c2], rfl, rfl, by omega, HOU8.out, HRS8.out, HF8.out⟩, by simp only [intOf]; omega⟩
    · obtain rfl : j = N := by omega
      have d1 : decide (j < j) = false := by simp
      have HT : Hid (Ss.take j = Ss) := List.take_of_length_le (by rw [HN.out]; exact Nat.le_refl _)
      go_wp2_with fail
      go_ret
      exact ⟨A, c, us, rfl, hou.out.mono (by omega), by have := hrs.out; rw [HT.out] at this; exact RowsO.base (by omega) this, HFZ.out⟩
end Go.Proofs.YthjimnmgbcckjaaGreat
namespace Go.Proofs.YthjimnmgbcckjaaGreat
set_option maxRecDepth 100000
open Go.RowKit Go.Inc Go.Run
attribute [local go_sem] run_store_float

/-- What is known of a run that is made. -/
structure Good (eps : Nat) (E : List Ent) (Ss : List (List Seg)) : Prop where
  in64 : 2 ≤ eps ∧ eps ≤ 64
  ents : EntsV E 0
  chk : checkV (eps : Nat) (keysE E) Ss = 0
  codes : Codes eps E Ss
  rows : ∀ S ∈ Ss, S.length ≤ 1048576
  high : Ss.length ≤ 33
  len : E.length ≤ 1048576
theorem Good.size {eps : Nat} {E : List Ent} {Ss : List (List Seg)} (h : Good eps E Ss) : (encB incW eps E Ss).length ≤ 2147483648 := enc_len h.len h.rows (Nat.le_refl _) h.high
theorem good_small {eps : Nat} {E : List Ent} {Ss : List (List Seg)} (h : Good eps E Ss) : (encB incW eps E Ss).length ≤ 1073741824 := by
  have h1 := ents_len E
  have h2 := rows_len h.rows
  have h3 : Ss.length * (8 + 24 * 1048576) ≤ 33 * (8 + 24 * 1048576) := Nat.mul_le_mul_right _ h.high
  have h4 : (encB incW eps E Ss).length = 28 + (E.flatMap encE).length + (Ss.flatMap encRow).length := by
    unfold encB encEs encLs incW
    simp only [List.length_append, be8_length, List.length_cons, List.length_nil]
    omega
  have := h.len
  omega
theorem good_of {eps : Nat} {E : List Ent} {Ss : List (List Seg)} (he : 2 ≤ eps ∧ eps ≤ 64) (hE : ∀ e ∈ E, EntOk e) (hl : E.length ≤ 1048576) (hS : ∀ S ∈ Ss, S.length ≤ 1048576 ∧ ∀ s ∈ S, SegFit s) (hV : EntsV E 0) (hc : checkV (eps : Nat) (keysE E) Ss = 0) : Good eps E Ss := by
  obtain ⟨h1, h2⟩ := codes_of he hE (by omega) (fun S hS' => ⟨by have := (hS S hS').1; omega, (hS S hS').2⟩) hV hc
  exact ⟨he, hV, hc, h1, fun S hS' => (hS S hS').1, h2, hl⟩
def BothOut (E : List Ent) (w : World) (e : Ending) (w' : World) : Prop :=
  Fr w w' ∧ (e = .returned (.tuple #[.pointer none, .pointer none, .bool true]) ∨ ∃ (x y p base : Nat) (eps : Nat) (Ss : List (List Seg)), e = .returned (.tuple #[.pointer (some ⟨x, 0, none⟩), .pointer (some ⟨y, 0, none⟩), .bool true]) ∧ RunR w' x p (eps : Nat) E Ss ∧ IsRef w' y base (eps : Nat) E Ss ∧ Good eps E Ss)
/-- A Made as it is handed in. -/
structure MadeC where
  A : Option Addr
  n : Nat
  c : Nat
  eps : Int
  own : Bool
  AU : Option Addr
  N : Nat
  cU : Nat
  E : List Ent
  Ss : List (List Seg)
  vs : List Value
def MadeC.val (m : MadeC) : Value := .agg #[.slice m.A m.n m.c, .int .i64 m.eps, .bool m.own, .slice m.AU m.N m.cU]
structure MadeC.Ok (m : MadeC) (w : World) : Prop where
  n : m.n = m.E.length
  c : m.n ≤ m.c
  len : m.n ≤ 1048576
  ents : ∀ e ∈ m.E, EntOk e
  rd : RdC w m.A (m.E.flatMap encells)
  N : m.N = m.Ss.length
  nlen : m.N ≤ 1048576
  rows : ∀ S ∈ m.Ss, S.length ≤ 1048576 ∧ ∀ s ∈ S, SegFit s
  rv : RdC w m.AU m.vs
  rq : RowsQ w m.vs m.Ss
theorem RowsQ.fr {w w' : World} (hf : Fr w w') : ∀ {vs : List Value} {Ss : List (List Seg)}, RowsQ w vs Ss → RowsQ w' vs Ss
  | [], [], _ => trivial
  | v :: vs, S :: Ss, h => by
    obtain ⟨⟨A, c, h1, h2, h3⟩, h4⟩ := h
    exact ⟨⟨A, c, h1, h2, h3.fr hf⟩, RowsQ.fr hf h4⟩
  | [], _ :: _, h => h.elim
  | _ :: _, [], h => h.elim
theorem MadeC.Ok.fr {m : MadeC} {w w' : World} (h : m.Ok w) (hf : Fr w w') : m.Ok w' := ⟨h.n, h.c, h.len, h.ents, h.rd.fr hf, h.N, h.nlen, h.rows, h.rv.fr hf, h.rq.fr hf⟩
theorem both_none {E : List Ent} {w w' : World} (hf : Fr w w') : BothOut E w (.returned (.tuple #[.pointer none, .pointer none, .bool true])) w' := ⟨hf, .inl rfl⟩
theorem both_some {E : List Ent} {w w' : World} {x y p base eps : Nat} {Ss : List (List Seg)} (hf : Fr w w') (h1 : RunR w' x p (eps : Nat) E Ss) (h2 : IsRef w' y base (eps : Nat) E Ss) (h3 : Good eps E Ss) : BothOut E w (.returned (.tuple #[.pointer (some ⟨x, 0, none⟩), .pointer (some ⟨y, 0, none⟩), .bool true])) w' := ⟨hf, .inr ⟨x, y, p, base, eps, Ss, rfl, h1, h2, h3⟩⟩
theorem cells4 {w : World} {g : Nat} {a b c d : Value} {e : TypeId} (h : w.heap[g]? = some (.cells #[a, b, c, d] e (0, 0))) : w.cell? ⟨g, 0, none⟩ = some a ∧ w.cell? ⟨g, 1, none⟩ = some b ∧ w.cell? ⟨g, 2, none⟩ = some c ∧ w.cell? ⟨g, 3, none⟩ = some d := by
  refine ⟨?_, ?_, ?_, ?_⟩ <;> (rw [blk_cell h]; rfl)

set_option maxHeartbeats 8000000 in
theorem cdBoth_calls (m : MadeC) (w : World) (hm : m.Ok w) : Calls Tryz.prog 10 #[m.val] w (BothOut m.E w) := by
  obtain ⟨A, n, c, eps, own, AU, N, cU, E, Ss, vs⟩ := m
  obtain ⟨hn, hc, hl, hE, hrd, hN, hNl, hS, hrv, hrq⟩ := hm
  dsimp only at hn hc hl hE hrd hN hNl hS hrv hrq
  show Calls Tryz.prog 10 #[.agg #[.slice A n c, .int .i64 eps, .bool own, .slice AU N cU]] w (BothOut E w)
  have hba := heap_alloc_new w (.cells #[.slice A n c, .int .i64 eps, .bool own, .slice AU N cU] 25)
  obtain ⟨w1, hw1⟩ : ∃ w1, w1 = w.alloc (.cells #[.slice A n c, .int .i64 eps, .bool own, .slice AU N cU] 25) := ⟨_, rfl⟩
  have HF1 : Hid (Fr w w1) := by rw [hw1]; exact (Fr.refl w).alloc _
  rw [← hw1] at hba
  have HX : Hid (∀ w', Fr w1 w' → w'.cell? ⟨w.heap.size, 0, none⟩ = some (.slice A n c) ∧ w'.cell? ⟨w.heap.size, 1, none⟩ = some (.int .i64 eps) ∧ w'.cell? ⟨w.heap.size, 2, none⟩ = some (.bool own) ∧ w'.cell? ⟨w.heap.size, 3, none⟩ = some (.slice AU N cU)) := fun w' h => cells4 (h.blk hba)
  obtain ⟨x0, x1, x2, x3⟩ := HX.out w1 (Fr.refl _)
  cases own with
  | true =>
    have OF := Lib.hid (cdOf_calls (.slice A n c) eps true AU N cU vs Ss hN hNl (fun S hS' => (hS S hS').1) w1 (hrv.fr HF1.out) (hrq.fr HF1.out))
    have ROF : Hid (∀ w' Av cv us, Fr w w' → RdC w' Av us → RowsR w' us Ss → Calls Tryz.prog 27 #[.slice A n c, .int .i64 eps, .slice Av N cv] w' (OfOut E eps Ss w')) := fun w' Av cv us hf h1 h2 =>
      rof_any E A n c eps Av N cv us Ss hn hc (by omega) hE hN (by omega) (fun S hS' => ⟨by have := (hS S hS').1; omega, (hS S hS').2⟩) w' (hrd.fr hf) h1 h2
    have RRF : Hid (∀ w' Av cv us, Fr w w' → RdC w' Av us → RowsR w' us Ss → Calls Tryz.prog 28 #[.slice A n c, .int .i64 eps, .slice Av N cv] w' (RefOut E eps Ss w'.heap.size w')) := fun w' Av cv us hf h1 h2 =>
      r11of_calls E A n c eps Av N cv us Ss hn (by omega) hE hN (by omega) (fun S hS' => ⟨by have := (hS S hS').1; omega, (hS S hS').2⟩) w' (hrd.fr hf) h1 h2
    have GD : Hid (∀ e0 : Nat, eps = (e0 : Int) → (2 ≤ eps ∧ eps ≤ 64) → EntsV E 0 → checkV eps (keysE E) Ss = 0 → Good e0 E Ss) := fun e0 he h1 h2 h3 => good_of (by omega) hE (by omega) hS h2 (by rw [← he]; exact h3)
    clear hn hc hl hE hrd hN hNl hS hrv hrq hba
    go_enter Tryz.func10, Tryz.ntmps10
    go_wp2_with fail
    rw [← hw1]
    clear hw1
    refine OF.out.mono ?_
    rintro _ w2 ⟨Av, cv, us, rfl, hov, hrs, hf2⟩
    have HV2 : Hid (∀ w', Fr w2 w' → RdC w' Av us ∧ RowsR w' us Ss) := fun w' h => ⟨hov.rd.fr h, (hrs.fr h).toR⟩
    have HF2 : Hid (Fr w w2) := HF1.out.trans hf2
    have HF12 : Hid (Fr w1 w2) := hf2
    clear hov hrs hf2 OF x0 x1 x2 x3
    obtain ⟨x0, x1, x2, x3⟩ := HX.out w2 HF12.out
    go_wp2_with fail
    refine (ROF.out w2 Av cv us HF2.out (HV2.out w2 (Fr.refl _)).1 (HV2.out w2 (Fr.refl _)).2).mono ?_
    rintro e3 w3 ⟨hf3, hor⟩
    have HF3 : Hid (Fr w w3) := HF2.out.trans hf3
    have HF13 : Hid (Fr w1 w3) := HF12.out.trans hf3
    have HV3 := Lib.hid (HV2.out w3 hf3)
    clear hf3 x0 x1 x2 x3
    obtain ⟨x0, x1, x2, x3⟩ := HX.out w3 HF13.out
    rcases hor with ⟨v, hno, rfl⟩ | ⟨he, r, p, rfl, hb, hT⟩
    · have HNO := Lib.hid hno
      clear hno
      go_wp2_with fail
      refine (RRF.out w3 Av cv us HF3.out HV3.out.1 HV3.out.2).mono ?_
      rintro e4 w4 hr
      obtain rfl := ref_no HNO.out hr
      have HF4 : Hid (Fr w w4) := HF3.out.trans hr.1
      clear hr
      go_wp2_with fail
      refine bodyPost_ret (results_tmp3 rfl _ _ _) rfl ?_
      exact both_none HF4.out
    · obtain ⟨e0, rfl⟩ : ∃ e0 : Nat, eps = e0 := ⟨eps.toNat, by omega⟩
      have HG := Lib.hid (GD.out e0 rfl he hT.ents hT.ok.chk)
      have HT := Lib.hid hT
      have HE := Lib.hid he
      clear hT hb he
      go_wp2_with fail
      refine (RRF.out w3 Av cv us HF3.out HV3.out.1 HV3.out.2).mono ?_
      rintro e4 w4 hr
      have HF4 : Hid (Fr w w4) := HF3.out.trans hr.1
      have HF34 : Hid (Fr w3 w4) := hr.1
      obtain ⟨y, rfl, hy⟩ := ref_yes HE.out HT.out.ents HT.out.ok.chk hr
      have HY := Lib.hid hy
      clear hr hy
      go_wp2_with fail
      refine bodyPost_ret (results_tmp3 rfl _ _ _) rfl ?_
      exact both_some HF4.out (HT.out.run.fr HF34.out) HY.out HG.out
  | false =>
    have NEW : Hid (∀ w', Fr w w' → Calls Tryz.prog 23 #[.slice A n c, .int .i64 eps] w' (NewOut E eps w')) := fun w' hf => rnew_any E A n c eps hn hc (by omega) hE w' (hrd.fr hf)
    have RNEW : Hid (∀ w', Fr w w' → Calls Tryz.prog 29 #[.slice A n c, .int .i64 eps] w' (RefNew E eps w'.heap.size w')) := fun w' hf => r11new_calls E A n c eps hn (by omega) hE w' (hrd.fr hf)
    have HE := Lib.hid hE
    have hlE : E.length ≤ 1048576 := by omega
    have HLE := Lib.hid hlE
    clear hn hc hl hE hrd hN hNl hS hrv hrq hba hlE
    go_enter Tryz.func10, Tryz.ntmps10
    go_wp2_with fail
    rw [← hw1]
    clear hw1
    refine (NEW.out w1 HF1.out).mono ?_
    rintro e3 w3 ⟨hf3, hor⟩
    have HF3 : Hid (Fr w w3) := HF1.out.trans hf3
    have HF13 : Hid (Fr w1 w3) := hf3
    clear hf3 x0 x1 x2 x3
    obtain ⟨x0, x1, x2, x3⟩ := HX.out w3 HF13.out
    rcases hor with ⟨v, hv, hno, rfl⟩ | ⟨he, r, p, Ss, rfl, hb, hT⟩
    · have HNO := Lib.hid hno
      have HV := Lib.hid hv
      clear hno hv
      go_wp2_with fail
      refine (RNEW.out w3 HF3.out).mono ?_
      rintro e4 w4 hr
      obtain rfl := rnew_no HV.out HNO.out hr
      have HF4 : Hid (Fr w w4) := HF3.out.trans hr.1
      clear hr
      go_wp2_with fail
      refine bodyPost_ret (results_tmp3 rfl _ _ _) rfl ?_
      exact both_none HF4.out
    · obtain ⟨e0, rfl⟩ : ∃ e0 : Nat, eps = e0 := ⟨eps.toNat, by omega⟩
      have HG : Hid (Good e0 E Ss) := good_of (by omega) HE.out HLE.out (fun S hS' => by
        have h9 := levels_fit (e := e0) (by omega) hT.ok.rise hT.ok.keys hT.ok.len hT.lv S hS'
        have := HLE.out
        rw [keysE_len] at h9
        exact ⟨by omega, h9.2⟩) hT.ents hT.ok.chk
      have HT := Lib.hid hT
      have HEP := Lib.hid he
      clear hT hb he
      go_wp2_with fail
      refine (RNEW.out w3 HF3.out).mono ?_
      rintro e4 w4 hr
      have HF4 : Hid (Fr w w4) := HF3.out.trans hr.1
      have HF34 : Hid (Fr w3 w4) := hr.1
      obtain ⟨y, rfl, hy⟩ := rnew_yes HEP.out HT.out.ents HT.out.ok.keys HT.out.lv hr
      have HY := Lib.hid hy
      clear hr hy
      go_wp2_with fail
      refine bodyPost_ret (results_tmp3 rfl _ _ _) rfl ?_
      exact both_some HF4.out (HT.out.run.fr HF34.out) HY.out HG.out
end Go.Proofs.YthjimnmgbcckjaaGreat
namespace Go.Proofs.YthjimnmgbcckjaaGreat
open Go.RowKit Go.Inc Go.Run
attribute [local go_sem] run_store_float

theorem put_good {w : World} {x p eps : Nat} {E : List Ent} {Ss : List (List Seg)} (hg : Good eps E Ss) (h : RunR w x p (eps : Nat) E Ss) : Calls Tryz.prog 11 #[.pointer (some ⟨x, 0, none⟩)] w (Made w w.heap.size (encB incW eps E Ss)) :=
  cdPut_calls x p eps E Ss w h hg.codes (by have := hg.len; omega) (by have := hg.high; omega) (fun S hS => by have := hg.rows S hS; omega) (by have := hg.size; omega)
theorem enc_pos {eps : Nat} {E : List Ent} {Ss : List (List Seg)} : 28 ≤ (encB incW eps E Ss).length := by
  unfold encB encEs encLs incW
  simp only [List.length_append, be8_length, List.length_cons, List.length_nil]
  omega

end Go.Proofs.YthjimnmgbcckjaaGreat
