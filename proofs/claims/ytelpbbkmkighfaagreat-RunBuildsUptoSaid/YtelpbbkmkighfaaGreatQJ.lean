/- Parts of this proof, one behind the other: Five, Show11, Chk3, Same11, New11. -/
import Derived.Deep.QuietTactic
import Derived.BigQuiet
import Derived.Test.YtelpbbkmkighfaaGreatQI
namespace Go.Proofs.YtelpbbkmkighfaaGreat
set_option maxRecDepth 100000
open Go.RowKit Go.Inc Go.Run

def K5 : List Int := [10, 20, 30, 40, 50]
def E5 : List Ent := [⟨10, 1, false⟩, ⟨20, 2, false⟩, ⟨30, 0, true⟩, ⟨40, 4, false⟩, ⟨50, 5, false⟩]
def s5 : Seg := ⟨10, 4587366580439587226, 4607182418800017408, 0, 5⟩
theorem keys5 : keysE E5 = K5 := rfl
theorem rise5 : Rise K5 := by unfold Rise K5; decide
theorem keysok5 : KeysOk K5 := by intro k hk; simp [K5] at hk; omega
theorem low_mk {e : Int} {L : List Int} {n d : Int} (h1 : 0 < d) (h2 : 0 ≤ n) (h3 : Int.gcd n d = 1) (h4 : ∀ j, j < L.length → ∀ i, i < j → ((j : Int) - i - 2 * e) * d ≤ n * (ky L j - ky L i))
    (h5 : (n = 0 ∧ d = 1) ∨ ∃ i j, i < j ∧ j < L.length ∧ n * (ky L j - ky L i) = ((j : Int) - i - 2 * e) * d) : IsLow e L n d := ⟨h1, h2, h3, fun i j h h' => h4 j h' i h, h5⟩
theorem top_mk {e : Int} {L : List Int} {n d : Int} (h0 : 2 ≤ L.length) (h1 : 0 < d) (h2 : 0 ≤ n) (h3 : Int.gcd n d = 1) (h4 : ∀ j, j < L.length → ∀ i, i < j → n * (ky L j - ky L i) ≤ ((j : Int) - i + 2 * e) * d)
    (h5 : ∃ i j, i < j ∧ j < L.length ∧ n * (ky L j - ky L i) = ((j : Int) - i + 2 * e) * d) : IsTop e L n d := ⟨fun h => by omega, fun _ => h1, h2, h3, fun i j h h' => h4 j h' i h, fun _ => h5⟩
theorem low5 : IsLow 1 K5 1 20 := low_mk (by decide) (by decide) (by decide) (by decide) (.inr ⟨0, 4, by decide, by decide, by decide⟩)
theorem fits5 : FitsAll 1 K5 := by
  intro i hi
  have hi' : i < 5 := hi
  match i, hi' with
  | 0, _ => exact fits_nil_snoc 1 10
  | 1, _ => exact ⟨0, 1, 3, 10, low_mk (by decide) (by decide) (by decide) (by decide) (.inl ⟨rfl, rfl⟩), top_mk (by decide) (by decide) (by decide) (by decide) (by decide) ⟨0, 1, by decide, by decide, by decide⟩, by decide⟩
  | 2, _ => exact ⟨0, 1, 1, 5, low_mk (by decide) (by decide) (by decide) (by decide) (.inl ⟨rfl, rfl⟩), top_mk (by decide) (by decide) (by decide) (by decide) (by decide) ⟨0, 2, by decide, by decide, by decide⟩, by decide⟩
  | 3, _ => exact ⟨1, 30, 1, 6, low_mk (by decide) (by decide) (by decide) (by decide) (.inr ⟨0, 3, by decide, by decide, by decide⟩), top_mk (by decide) (by decide) (by decide) (by decide) (by decide) ⟨0, 3, by decide, by decide, by decide⟩, by decide⟩
  | 4, _ => exact ⟨1, 20, 3, 20, low5, top_mk (by decide) (by decide) (by decide) (by decide) (by decide) ⟨0, 4, by decide, by decide, by decide⟩, by decide⟩
theorem cut5 : CutOk 1 K5 0 5 := ⟨by decide, by decide, fits5, fun h => absurd h (by decide)⟩
theorem seg5 : SegOf 1 (seg K5 0 5) 0 s5 := by
  refine ⟨⟨1, 20, 1, low5, ⟨by decide, 3, by decide, by decide⟩, .inr ⟨by decide, 7205759403792794, 57, ⟨by decide, by decide, by decide⟩, by decide, by decide⟩, ?_⟩, rfl, rfl, rfl⟩
  decide +kernel
theorem levels5 {Ss : List (List Seg)} (h : LevelsOf 1 K5 Ss) : Ss = [[s5]] := by
  cases Ss with
  | nil => have : K5 = [] := h; cases this
  | cons S Ss =>
    obtain ⟨_, hl, h1, _⟩ := h
    cases S with
    | nil => have : 0 = 5 := hl; cases this
    | cons x S =>
      obtain ⟨u, hc, hs, h2⟩ := hl
      obtain rfl : u = 5 := hc.unique rise5 cut5
      obtain rfl : x = s5 := hs.unique (seg_rise rise5 0 5) seg5
      have hS : S = [] := by
        cases S with
        | nil => rfl
        | cons y S =>
          obtain ⟨v, hv, _⟩ := h2
          have := hv.1
          have : v ≤ 5 := hv.2.1
          omega
      subst hS
      rw [h1 rfl]
theorem rank_of {L : List Int} {k : Int} {r : Nat} (h1 : r ≤ L.length) (h2 : ∀ i, i < r → ky L i < k) (h3 : ∀ i, i < L.length → r ≤ i → k ≤ ky L i) : IsRank L k r := ⟨h1, h2, fun i h h' => h3 i h' h⟩
theorem rank30 : IsRank K5 30 2 := rank_of (by decide) (by decide) (by decide)
theorem rank35 : IsRank K5 35 3 := rank_of (by decide) (by decide) (by decide)
theorem ents5 {v : Int} (h : EntsV E5 v) : v = 0 := by
  have hb : ∀ b (h : b < E5.length), badE E5[b] = false := by
    intro b hb
    have hb' : b < 5 := hb
    match b, hb' with
    | 0, _ => rfl
    | 1, _ => rfl
    | 2, _ => rfl
    | 3, _ => rfl
    | 4, _ => rfl
  cases h with
  | ok _ _ => rfl
  | order h _ => exact absurd rise5 h
  | gone b h h1 _ _ => rw [hb b h] at h1; cases h1
  | goneOrder b h h1 _ _ => rw [hb b h] at h1; cases h1
theorem check7 : checkV 2 [7] [] = 81 := by
  unfold checkV
  rw [if_neg (fun h => h (by decide)), if_neg (fun h => h (by unfold Rise; decide)), if_pos]
  rintro ⟨_, h⟩
  have := h.1 rfl
  cases this
theorem entok5 : ∀ e ∈ E5, EntOk e := by
  intro e he
  simp [E5] at he
  rcases he with rfl | rfl | rfl | rfl | rfl <;> exact ⟨by decide, by decide⟩
theorem segfit5 : SegFit s5 := by unfold SegFit SegW s5; decide
theorem runok5 : RunOk 2 K5 [[s5]] := by
  refine ⟨rise5, keysok5, by decide, fun S hS => ?_, ?_⟩
  · obtain rfl := List.mem_singleton.1 hS
    exact ⟨by decide, fun s hs => by obtain rfl := List.mem_singleton.1 hs; exact segfit5⟩
  · exact levels_check (e := 2) (by decide) rise5 keysok5 (by decide) ⟨by decide, ⟨5, cut5, seg5, rfl⟩, fun _ => rfl, fun h => absurd rfl h⟩


theorem five_calls (w : World) : Calls Tryz.prog 19 #[] w fun e w' => ∃ g, e = .returned (.slice (some ⟨g, 0, none⟩) 5 5) ∧ RdC w' (some ⟨g, 0, none⟩) (E5.flatMap encells) ∧ Fr w w' := by
  go_enter Tryz.func19, Tryz.ntmps19
  go_wp2_with fail
  go_ret
  exact ⟨w.heap.size, rfl, RdC.of_blk (heap_alloc_new w _), (Fr.refl w).alloc _⟩
end Go.Proofs.YtelpbbkmkighfaaGreat
namespace Go.Proofs.YtelpbbkmkighfaaGreat
set_option maxRecDepth 100000
open Go.RowKit Go.Inc Go.Run
attribute [local go_sem] run_store_float

def eqE (a b : Ent) : Bool := a.key == b.key && (a.val == b.val && a.gone == b.gone)
theorem eqE_iff {a b : Ent} : eqE a b = true ↔ a = b := by
  obtain ⟨k, v, g⟩ := a
  obtain ⟨k', v', g'⟩ := b
  simp [eqE]
theorem h_eqE (W : World) (a b : Ent) : (Op.eqFields 9999 #[.int .u64 a.key, .int .u64 a.val, .bool a.gone] #[.int .u64 b.key, .int .u64 b.val, .bool b.gone] (Tryz.prog.fieldsOf 38).toList).run Tryz.prog W = .ok (eqE a b) W := by
  have h1 : ∀ x y : Int, (Op.equalIn 9999 33 (.int .u64 x) (.int .u64 y)).run Tryz.prog W = .ok (x == y) W := fun x y => run_equalIn_int W 9998 _ _ _ x y Tryz.underlying33
  have h2 : ∀ x y : Bool, (Op.equalIn 9999 4 (.bool x) (.bool y)).run Tryz.prog W = .ok (x == y) W := fun x y => run_equalIn_bool W 9998 _ x y Tryz.underlying4
  have hk : Tryz.prog.plainKey 33 = true := by kernel_rfl
  have hk2 : Tryz.prog.plainKey 4 = true := by kernel_rfl
  have p0 : ∀ (xs : Array Value) (off : Nat) (v : Value), xs[off]? = some v → (part 33 xs off).run Tryz.prog W = .ok v W := fun xs off v hv => run_part_plain W hk hv
  have p1 : ∀ (xs : Array Value) (off : Nat) (v : Value), xs[off]? = some v → (part 4 xs off).run Tryz.prog W = .ok v W := fun xs off v hv => run_part_plain W hk2 hv
  have h3 : (Op.eqFields 9999 #[.int .u64 a.key, .int .u64 a.val, .bool a.gone] #[.int .u64 b.key, .int .u64 b.val, .bool b.gone] (Tryz.prog.fieldsOf 38).toList).run Tryz.prog W = .ok (a.key == b.key && (a.val == b.val && (a.gone == b.gone && true))) W := by
    rw [show Tryz.prog.fieldsOf 38 = _ from by simp only [Program.fieldsOf, Tryz.underlying38]; rfl]
    exact eqf_step (by decide) (p0 _ 0 _ rfl) (p0 _ 0 _ rfl) (h1 _ _) (eqf_step (by decide) (p0 _ 1 _ rfl) (p0 _ 1 _ rfl) (h1 _ _) (eqf_step (by decide) (p1 _ 2 _ rfl) (p1 _ 2 _ rfl) (h2 _ _) eqf_nil))
  rw [h3, Bool.and_true]; rfl
theorem ent_eql (W : World) (k v : Int) (g : Bool) (k' v' : Int) (g' : Bool) : (binOp .eql 38 (.agg #[.int .u64 k, .int .u64 v, .bool g]) (.agg #[.int .u64 k', .int .u64 v', .bool g'])).run Tryz.prog W = .ok (.bool (eqE ⟨k, v, g⟩ ⟨k', v', g'⟩)) W := by
  rw [run_eql_struct, run_equalIn_struct W 9999 38 _ _ (by kernel_rfl) (by kernel_rfl), h_eqE W ⟨k, v, g⟩ ⟨k', v', g'⟩]
  simp [Result.andThen]
theorem ent_neq (W : World) (k v : Int) (g : Bool) (k' v' : Int) (g' : Bool) : (binOp .neq 38 (.agg #[.int .u64 k, .int .u64 v, .bool g]) (.agg #[.int .u64 k', .int .u64 v', .bool g'])).run Tryz.prog W = .ok (.bool (!eqE ⟨k, v, g⟩ ⟨k', v', g'⟩)) W := by
  rw [run_neq_struct, run_equalIn_struct W 9999 38 _ _ (by kernel_rfl) (by kernel_rfl), h_eqE W ⟨k, v, g⟩ ⟨k', v', g'⟩]
  simp [Result.andThen]

theorem blk_new2 (w : World) (o o' : Obj) : ((w.alloc o).alloc o').heap[w.heap.size]? = some o := ((Fr.refl (w.alloc o)).alloc o').blk (heap_alloc_new w o)
theorem ents7 {v : Int} (h : EntsV [⟨7, 1, false⟩] v) : v = 0 := by
  cases h with
  | ok _ _ => rfl
  | order h _ => exact absurd (by unfold Rise; decide) h
  | gone b h h1 _ _ =>
    obtain rfl : b = 0 := by simpa using h
    cases h1
  | goneOrder b h h1 _ _ =>
    obtain rfl : b = 0 := by simpa using h
    cases h1
set_option maxHeartbeats 4000000 in
theorem shown11_calls (w : World) : Calls Tryz.prog 7 #[] w fun e w' => e = .returned (.bool true) ∧ Fr w w' := by
  go_enter Tryz.func7, Tryz.ntmps7
  go_wp2_with fail
  refine (five_calls w).mono ?_
  rintro _ w1 ⟨g1, rfl, hr1, hf1⟩
  have HR1 := Lib.hid hr1
  have HF1 := Lib.hid hf1
  clear hr1 hf1
  go_wp2_with fail
  refine (rnew_calls E5 (some ⟨g1, 0, none⟩) 5 5 2 rfl (by decide) (by decide) entok5 (by decide) w1 HR1.out).mono ?_
  rintro _ w2 ⟨hf2, hor⟩
  have HF2 : Hid (Fr w w2) := HF1.out.trans hf2
  rcases hor with ⟨v, hv, hE, rfl⟩ | ⟨_, r, Ss, rfl, hlv, hrun⟩
  · exact absurd (ents5 hE) hv
  have hSs : Ss = [[s5]] := levels5 hlv
  subst hSs
  obtain ⟨p, hR⟩ := hrun.toR
  have HR : Hid (∀ w', Fr w2 w' → RunR w' r p 2 E5 [[s5]]) := fun w' h => hR.fr h
  clear hlv hrun hf2 hR HR1
  go_wp2_with fail
  refine (rof_calls [⟨7, 1, false⟩] (some ⟨w2.heap.size, 0, none⟩) 1 1 2 (some ⟨w2.heap.size + 1, 0, none⟩) 0 0 [] [] rfl (by decide) (by decide) (fun e he => by simp at he; subst he; exact ⟨by decide, by decide⟩) rfl (by decide) (fun S hS => by cases hS) (by decide) _ (RdC.of_blk (blk_new2 w2 _ _)) (.inl rfl) trivial).mono ?_
  rintro e3 w3 ⟨hf3, hor⟩
  have HF3 : Hid (Fr w2 w3) := ((Fr.refl w2).alloc _).alloc _ |>.trans hf3
  have hor' : ∃ v : Int, e3 = Ending.returned (.tuple #[.pointer none, .int .i64 v]) ∧ v = 81 := by
    rcases hor with ⟨v, hv, hE, rfl⟩ | ⟨_, _, rfl⟩ | ⟨_, h, _⟩
    · exact absurd (ents7 hE) hv
    · exact ⟨_, rfl, check7⟩
    · rw [show keysE [(⟨7, 1, false⟩ : Ent)] = [7] from rfl, check7] at h; cases h
  obtain ⟨v, rfl, rfl⟩ := hor'
  clear hor hf3
  have G30 : Hid (∀ w', Fr w2 w' → Calls Tryz.prog 20 #[.pointer (some ⟨r, 0, none⟩), .int .u64 30] w' fun e w'' => Fr w' w'' ∧ e = .returned (.tuple #[.agg #[.int .u64 30, .int .u64 0, .bool true], .bool true])) := fun w' h =>
    (rget_calls r p 2 E5 [[s5]] 30 w' (HR.out w' h) runok5 (by decide)).mono fun _ _ ⟨h1, n, h2, h3⟩ => ⟨h1, by rw [h3, h2.unique rank30]; rfl⟩
  have G35 : Hid (∀ w', Fr w2 w' → Calls Tryz.prog 20 #[.pointer (some ⟨r, 0, none⟩), .int .u64 35] w' fun e w'' => Fr w' w'' ∧ e = .returned (.tuple #[.agg #[.int .u64 0, .int .u64 0, .bool false], .bool false])) := fun w' h =>
    (rget_calls r p 2 E5 [[s5]] 35 w' (HR.out w' h) runok5 (by decide)).mono fun _ _ ⟨h1, n, h2, h3⟩ => ⟨h1, by rw [h3, h2.unique rank35]; rfl⟩
  have A1 : Hid (∀ w', Fr w2 w' → Calls Tryz.prog 21 #[.pointer (some ⟨r, 0, none⟩), .int .i64 1] w' fun e w'' => Fr w' w'' ∧ e = .returned (.tuple #[.agg #[.int .u64 20, .int .u64 2, .bool false], .int .i64 0])) := fun w' h =>
    (rat_calls r p 2 E5 [[s5]] 1 (by decide) (by decide) w' (HR.out w' h)).mono fun _ _ ⟨h1, h3⟩ => ⟨h1, by rw [h3]; rfl⟩
  have A5 : Hid (∀ w', Fr w2 w' → Calls Tryz.prog 21 #[.pointer (some ⟨r, 0, none⟩), .int .i64 5] w' fun e w'' => Fr w' w'' ∧ e = .returned (.tuple #[.agg #[.int .u64 0, .int .u64 0, .bool false], .int .i64 1])) := fun w' h =>
    (rat_calls r p 2 E5 [[s5]] 5 (by decide) (by decide) w' (HR.out w' h)).mono fun _ _ ⟨h1, h3⟩ => ⟨h1, by rw [h3]; rfl⟩
  have SG : Hid (∀ w', Fr w2 w' → Calls Tryz.prog 22 #[.pointer (some ⟨p, 0, none⟩), .int .i64 1, .int .i64 0] w' fun e w'' => e = .returned (segVal s5) ∧ Fr w' w'') := fun w' h =>
    pseg_calls p 2 K5 [[s5]] 1 0 (by decide) (by decide) w' (HR.out w' h).pile (by decide)
  have LN : Hid (∀ w', Fr w2 w' → Calls Tryz.prog 23 #[.pointer (some ⟨r, 0, none⟩)] w' fun e w'' => e = .returned (.int .i64 5) ∧ w'' = w') := fun w' h => rlen_calls r p 2 E5 [[s5]] w' (HR.out w' h)
  have HT : Hid (∀ w', Fr w2 w' → Calls Tryz.prog 24 #[.pointer (some ⟨p, 0, none⟩)] w' fun e w'' => e = .returned (.int .i64 1) ∧ w'' = w') := fun w' h => pheight_calls p 2 K5 [[s5]] w' (HR.out w' h).pile
  have SZ1 : Hid (∀ w', Fr w2 w' → Calls Tryz.prog 25 #[.pointer (some ⟨p, 0, none⟩), .int .i64 1] w' fun e w'' => e = .returned (.int .i64 1) ∧ w'' = w') := fun w' h => psize_calls p 2 K5 [[s5]] 1 (by decide) w' (HR.out w' h).pile
  have SZ2 : Hid (∀ w', Fr w2 w' → Calls Tryz.prog 25 #[.pointer (some ⟨p, 0, none⟩), .int .i64 2] w' fun e w'' => e = .returned (.int .i64 0) ∧ w'' = w') := fun w' h => psize_calls p 2 K5 [[s5]] 2 (by decide) w' (HR.out w' h).pile
  have RK : Hid (∀ w', Fr w2 w' → Calls Tryz.prog 26 #[.pointer (some ⟨r, 0, none⟩), .int .u64 35] w' fun e w'' => Fr w' w'' ∧ e = .returned (.int .i64 3)) := fun w' h =>
    (rrank_calls r p 2 E5 [[s5]] 35 w' (HR.out w' h) runok5 (by decide)).mono fun _ _ ⟨h1, n, h2, h3⟩ => ⟨h1, by rw [h3, h2.unique rank35]; rfl⟩
  have KY : Hid (∀ w', Fr w2 w' → Calls Tryz.prog 27 #[.pointer (some ⟨p, 0, none⟩), .int .i64 0, .int .i64 4] w' fun e w'' => e = .returned (.int .u64 50) ∧ w'' = w') := fun w' h =>
    pkey_calls p 2 K5 [[s5]] 0 4 (by decide) (by decide) w' (HR.out w' h).pile (by decide)
  have HP : Hid (∀ w', Fr w2 w' → w'.cell? ⟨r, 0, none⟩ = some (.pointer (some ⟨p, 0, none⟩))) := fun w' h => (HR.out w' h).ptr
  go_wp2_with fail
  refine (G30.out w3 HF3.out).mono ?_
  rintro _ w4 ⟨hf4, rfl⟩
  have HF4 : Hid (Fr w2 w4) := HF3.out.trans hf4
  clear hf4
  have HBa := Lib.hid (heap_alloc_new w4 (.cells #[.int .u64 30, .int .u64 0, .bool true] 38))
  go_wp2_with fail
  refine (G35.out _ (HF4.out.alloc _)).mono ?_
  rintro _ w5 ⟨hf5, rfl⟩
  have HF5 : Hid (Fr w2 w5) := (HF4.out.alloc _).trans hf5
  have HB5 := Lib.hid (hf5.blk HBa.out)
  clear hf5
  go_wp2_with fail
  refine (A1.out _ (HF5.out.alloc _)).mono ?_
  rintro _ w6 ⟨hf6, rfl⟩
  have HF6 : Hid (Fr w2 w6) := (HF5.out.alloc _).trans hf6
  have HB6 := Lib.hid ((((Fr.refl w5).alloc _).trans hf6).blk HB5.out)
  clear hf6
  go_wp2_with fail
  have HBb := Lib.hid (heap_alloc_new w6 (.cells #[.int .u64 20, .int .u64 2, .bool false] 38))
  refine (A5.out _ (HF6.out.alloc _)).mono ?_
  rintro _ w7 ⟨hf7, rfl⟩
  have HF7 : Hid (Fr w2 w7) := (HF6.out.alloc _).trans hf7
  have HB7 := Lib.hid ((((Fr.refl w6).alloc _).trans hf7).blk HB6.out)
  have HC7 := Lib.hid (hf7.blk HBb.out)
  clear hf7 HBa HBb HB5 HB6
  have p7 := HP.out (w7.alloc (.cells #[.int .u64 0, .int .u64 0, .bool false] 38)) (HF7.out.alloc _)
  go_wp2_with fail
  refine (SG.out _ (HF7.out.alloc _)).mono ?_
  rintro _ w8 ⟨rfl, hf8⟩
  have HF8 : Hid (Fr w2 w8) := (HF7.out.alloc _).trans hf8
  have HB8 := Lib.hid ((((Fr.refl w7).alloc _).trans hf8).blk HB7.out)
  have HC8 := Lib.hid ((((Fr.refl w7).alloc _).trans hf8).blk HC7.out)
  clear hf8 p7 HB7 HC7
  have HS9 := heap_alloc_new w8 (.cells #[.int .u64 10, .float .f64 4587366580439587226, .float .f64 4607182418800017408, .int .i64 0, .int .i64 5] 47)
  have hf9 : Fr w8 (w8.alloc (.cells #[.int .u64 10, .float .f64 4587366580439587226, .float .f64 4607182418800017408, .int .i64 0, .int .i64 5] 47)) := (Fr.refl w8).alloc _
  unfold segVal s5
  dsimp only
  go_wp2_with fail
  obtain ⟨g4, hg4⟩ : ∃ g4, g4 = w4.heap.size := ⟨_, rfl⟩
  obtain ⟨g6, hg6⟩ : ∃ g6, g6 = w6.heap.size := ⟨_, rfl⟩
  obtain ⟨g8, hg8⟩ : ∃ g8, g8 = w8.heap.size := ⟨_, rfl⟩
  obtain ⟨w9, hw9⟩ : ∃ w9, w9 = w8.alloc (.cells #[.int .u64 10, .float .f64 4587366580439587226, .float .f64 4607182418800017408, .int .i64 0, .int .i64 5] 47) := ⟨_, rfl⟩
  have HF9 : Hid (Fr w2 w9) := by rw [hw9]; exact HF8.out.trans hf9
  have HB9 := Lib.hid (hf9.blk HB8.out)
  have HC9 := Lib.hid (hf9.blk HC8.out)
  have HD9 := Lib.hid HS9
  rw [← hw9] at HB9 HC9 HD9 ⊢
  rw [← hg4] at HB9 ⊢
  rw [← hg6] at HC9 ⊢
  rw [← hg8] at HD9 ⊢
  have HALL : Hid (Fr w w9) := HF2.out.trans HF9.out
  clear hw9 hg4 hg6 hg8 HS9 hf9 HB8 HC8
  have p9 := HP.out w9 HF9.out
  refine (LN.out w9 HF9.out).mono ?_
  rintro _ wa ⟨rfl, hwa⟩
  subst hwa
  go_wp2_with fail
  refine (HT.out wa HF9.out).mono ?_
  rintro _ wb ⟨rfl, hwb⟩
  subst hwb
  go_wp2_with fail
  refine (SZ1.out wb HF9.out).mono ?_
  rintro _ wc ⟨rfl, hwc⟩
  subst hwc
  go_wp2_with fail
  refine (SZ2.out wc HF9.out).mono ?_
  rintro _ wd ⟨rfl, hwd⟩
  subst hwd
  go_wp2_with fail
  refine (RK.out wd HF9.out).mono ?_
  rintro _ w10 ⟨hf10, rfl⟩
  have HF10 : Hid (Fr w2 w10) := HF9.out.trans hf10
  have HALL' : Hid (Fr w w10) := HALL.out.trans hf10
  obtain ⟨a0, a1, a2⟩ := cells3 (hf10.blk HB9.out)
  obtain ⟨b0, b1, b2⟩ := cells3 (hf10.blk HC9.out)
  obtain ⟨c0, c1, c2, c3, c4⟩ := cells5 (hf10.blk HD9.out)
  have p10 := HP.out w10 HF10.out
  have he := ent_eql
  have q1 : eqE ⟨30, 0, true⟩ ⟨30, 0, true⟩ = true := rfl
  have q2 : eqE ⟨20, 2, false⟩ ⟨20, 2, false⟩ = true := rfl
  clear p9 hf10
  go_wp2_with fail
  refine (KY.out w10 HF10.out).mono ?_
  rintro _ we ⟨rfl, hwe⟩
  subst hwe
  go_wp2_with fail
  go_ret
  exact ⟨rfl, HALL'.out⟩
end Go.Proofs.YtelpbbkmkighfaaGreat
namespace Go.Proofs.YtelpbbkmkighfaaGreat
set_option maxRecDepth 100000
open Go.RowKit Go.Inc Go.Run
attribute [local go_sem] run_store_float

/-- The first i entries are in order, and none is bad. -/
def okTo (E : List Ent) (i : Nat) : Prop := (∀ a b, a < b → b < i → ky (keysE E) a < ky (keysE E) b) ∧ ∀ j (h : j < E.length), j < i → badE E[j] = false
/-- What the reference's Check tells. -/
def Chk3 (E : List Ent) (v : Int) : Prop := (v = 0 ∧ okTo E E.length) ∨ (∃ i, i < E.length ∧ okTo E i ∧ 0 < i ∧ ky (keysE E) i ≤ ky (keysE E) (i - 1) ∧ v = 30) ∨
  (∃ i, ∃ h : i < E.length, okTo E i ∧ (0 < i → ky (keysE E) (i - 1) < ky (keysE E) i) ∧ badE E[i] = true ∧ v = 31)
theorem rise_iff {L : List Int} : Rise L ↔ ∀ a b, a < b → b < L.length → ky L a < ky L b := by
  constructor
  · intro h a b hab hb; exact rise_lt h hab hb
  · intro h
    refine List.pairwise_iff_getElem.2 fun i j hi hj hij => ?_
    have := h i j hij hj
    simpa [ky, hi, hj] using this
theorem okTo.next {E : List Ent} {i : Nat} (h : okTo E i) (h1 : 0 < i → ky (keysE E) (i - 1) < ky (keysE E) i) (hi : i < E.length) (h2 : badE E[i] = false) : okTo E (i + 1) := by
  refine ⟨fun a b hab hb => ?_, fun j hj hji => ?_⟩
  · rcases Nat.lt_or_ge b i with h3 | h3
    · exact h.1 a b hab h3
    · obtain rfl : b = i := by omega
      have h4 := h1 (by omega)
      rcases Nat.lt_or_ge a (b - 1) with h5 | h5
      · have := h.1 a (b - 1) h5 (by omega); omega
      · obtain rfl : a = b - 1 := by omega
        exact h4
  · rcases Nat.lt_or_ge j i with h3 | h3
    · exact h.2 j hj h3
    · obtain rfl : j = i := by omega
      exact h2
theorem okTo.rise {E : List Ent} (h : okTo E E.length) : Rise (keysE E) := rise_iff.2 fun a b hab hb => h.1 a b hab (by rw [keysE_len] at hb; exact hb)
theorem take_rise {E : List Ent} {n : Nat} (hn : n ≤ E.length) : Rise (keysE (E.take n)) ↔ ∀ a b, a < b → b < n → ky (keysE E) a < ky (keysE E) b := by
  have e : ∀ k, k < n → ky (keysE (E.take n)) k = ky (keysE E) k := by
    intro k hk
    unfold keysE
    rw [List.map_take, ky_take _ hk]
  rw [rise_iff]
  have hl : (keysE (E.take n)).length = n := by rw [keysE_len, List.length_take]; omega
  rw [hl]
  constructor
  · intro h a b hab hb
    have := h a b hab hb
    rwa [e a (by omega), e b hb] at this
  · intro h a b hab hb
    rw [e a (by omega), e b hb]
    exact h a b hab hb
/-- It is what the program's Check tells. -/
theorem chk3_eq {E : List Ent} {v v' : Int} (h : EntsV E v) (h' : Chk3 E v') : v = v' := by
  cases h with
  | ok hR hb =>
    rcases h' with ⟨rfl, _⟩ | ⟨i, hi, _, h0, h1, rfl⟩ | ⟨i, hi, _, _, h1, rfl⟩
    · rfl
    · have := rise_lt hR (i := i - 1) (j := i) (by omega) (by rw [keysE_len]; exact hi)
      omega
    · rw [hb _ (List.getElem_mem hi)] at h1; cases h1
  | order hR hb =>
    rcases h' with ⟨rfl, h1⟩ | ⟨i, hi, _, h0, h1, rfl⟩ | ⟨i, hi, _, _, h1, rfl⟩
    · exact absurd h1.rise hR
    · rfl
    · rw [hb _ (List.getElem_mem hi)] at h1; cases h1
  | gone b hb h1 h2 hR =>
    have hR := (take_rise (n := b + 1) (by omega)).1 hR
    rcases h' with ⟨rfl, h3⟩ | ⟨i, hi, h3, h0, h4, rfl⟩ | ⟨i, hi, h3, h4, h5, rfl⟩
    · rw [h3.2 b hb hb] at h1; cases h1
    · rcases Nat.lt_or_ge b i with h5 | h5
      · rw [h3.2 b hb h5] at h1; cases h1
      · have := hR (i - 1) i (by omega) (by omega); omega
    · rfl
  | goneOrder b hb h1 h2 hR =>
    rcases h' with ⟨rfl, h3⟩ | ⟨i, hi, h3, h0, h4, rfl⟩ | ⟨i, hi, h3, h4, h5, rfl⟩
    · rw [h3.2 b hb hb] at h1; cases h1
    · rfl
    · exfalso
      rcases Nat.lt_trichotomy i b with h6 | rfl | h6
      · rw [h2 i hi h6] at h5; cases h5
      · refine hR ((take_rise (n := i + 1) (by omega)).2 fun a c hac hc => ?_)
        rcases Nat.lt_or_ge c i with h7 | h7
        · exact h3.1 a c hac h7
        · obtain rfl : c = i := by omega
          have h8 := h4 (by omega)
          rcases Nat.lt_or_ge a (c - 1) with h9 | h9
          · have := h3.1 a (c - 1) h9 (by omega); omega
          · obtain rfl : a = c - 1 := by omega
            exact h8
      · rw [h3.2 b hb h6] at h1; cases h1

set_option maxHeartbeats 2000000 in
theorem r3check_calls (E : List Ent) (A : Option Addr) (n c : Nat) (hn : n = E.length) (hl : n ≤ 268435456) (w : World) (hr : RdC w A (E.flatMap encells)) :
    Calls Tryz.prog 15 #[.slice A n c] w fun e w' => ∃ v, e = .returned (.int .i64 v) ∧ Chk3 E v ∧ Fr w w' := by
  have HR := Lib.hid hr
  have HN := Lib.hid hn
  clear hr hn
  go_enter Tryz.func15, Tryz.ntmps15
  go_wp2_with fail
  go_loopw [3] (fun v3 wr => ∃ i : Nat, v3 = .int .i64 i ∧ i ≤ n ∧ Hid (okTo E i) ∧ Hid (Fr w wr)) (fun v3 _ => n - (intOf v3).toNat)
  case atStart => exact ⟨0, rfl, by omega, ⟨fun a b _ h => by omega, fun j _ h => by omega⟩, Fr.refl w⟩
  case round =>
    obtain ⟨i, rfl, hin, hok, hf⟩ := hrel
    rcases Nat.lt_or_ge i n with hlt | hge
    · have g1 : decide (i < n) = true := decide_eq_true hlt
      have g1' : (i : Int) < (n : Int) := by omega
      have hiE : i < E.length := by have := HN.out; omega
      obtain ⟨b, off, hA, hc⟩ := rdc_ent (HR.out.fr hf.out) (by omega)
      subst hA
      obtain ⟨y0, y1, y2⟩ := hc i hiE
      obtain ⟨x, hx⟩ : ∃ x, E[i] = x := ⟨_, rfl⟩
      rw [hx] at y0 y1 y2
      have hkx : ky (keysE E) i = x.key := by unfold keysE ky; simp [hiE, hx]
      have wi : IntKind.i64.wrap ((i : Int) + 1) = (i : Int) + 1 := wrap_i64_in _ (by omega) (by omega)
      have HX : Hid (badE E[i] = badE x) := by rw [Hid, hx]
      have HOK := Lib.hid hok.out
      have HKX := Lib.hid hkx
      have HIE := Lib.hid hiE
      have tail : ∀ (hkey : Hid (0 < i → ky (keysE E) (i - 1) < ky (keysE E) i)), True := fun _ => trivial
      clear tail hok
      rcases Nat.eq_zero_or_pos i with rfl | hpos
      · have HKEY : Hid (0 < 0 → ky (keysE E) (0 - 1) < ky (keysE E) 0) := fun h => absurd h (by omega)
        clear hx hkx hc
        cases hg : x.gone with
        | false =>
          rw [hg] at y2
          have HB : Hid (badE x = false) := by rw [Hid]; simp [badE, hg]
          clear hg
          go_wp2_with fail
          go_quiet (fail)
          go_wp2_with fail
          exact ⟨⟨1, rfl, by omega, HOK.out.next HKEY.out HIE.out (by rw [HX.out, HB.out]), hf.out.drewN _⟩, by simp only [intOf]; omega⟩
        | true =>
          rw [hg] at y2
          by_cases hv : x.val = 0
          · have HB : Hid (badE x = false) := by rw [Hid]; simp [badE, hv]
            rw [hv] at y1
            clear hg hv
            go_wp2_with fail
            go_quiet (fail)
            go_wp2_with fail
            exact ⟨⟨1, rfl, by omega, HOK.out.next HKEY.out HIE.out (by rw [HX.out, HB.out]), hf.out.drewN _⟩, by simp only [intOf]; omega⟩
          · have HB : Hid (badE x = true) := by rw [Hid]; simp [badE, hg, hv]
            have d1 : (x.val != 0) = true := by simpa using hv
            clear hg hv
            go_wp2_with fail
            go_quiet (fail)
            go_wp2_with fail
            go_ret
            exact ⟨31, rfl, .inr (.inr ⟨0, HIE.out, HOK.out, HKEY.out, by rw [HX.out, HB.out], rfl⟩), hf.out.drewN _⟩
      · obtain ⟨j, rfl⟩ : ∃ j, i = j + 1 := ⟨i - 1, by omega⟩
        obtain ⟨z0, z1, z2⟩ := hc j (by omega)
        obtain ⟨x', hx'⟩ : ∃ x', E[j] = x' := ⟨_, rfl⟩
        rw [hx'] at z0
        have hkx' : ky (keysE E) j = x'.key := by unfold keysE ky; simp [show j < E.length by omega, hx']
        have wj : IntKind.i64.wrap ((j : Int) + 1 - 1) = (j : Int) := by rw [wrap_i64_in _ (by omega) (by omega)]; omega
        have wj' : IntKind.i64.wrap (j : Int) = (j : Int) := wrap_i64_in _ (by omega) (by omega)
        by_cases hk : x.key ≤ x'.key
        · have d1 : decide (x.key ≤ x'.key) = true := decide_eq_true hk
          have HKEY : Hid (ky (keysE E) (j + 1) ≤ ky (keysE E) (j + 1 - 1)) := by rw [Hid, HKX.out, Nat.add_sub_cancel, hkx']; exact hk
          clear hx hkx hc hx' hkx' z1 z2 hk
          go_wp2_with fail
          go_quiet (fail)
          go_wp2_with fail
          go_ret
          exact ⟨30, rfl, .inr (.inl ⟨j + 1, HIE.out, HOK.out, by omega, HKEY.out, rfl⟩), hf.out.drewN _⟩
        · have d1 : decide (x.key ≤ x'.key) = false := decide_eq_false hk
          have HKEY : Hid (0 < j + 1 → ky (keysE E) (j + 1 - 1) < ky (keysE E) (j + 1)) := by rw [Hid, HKX.out, Nat.add_sub_cancel, hkx']; intro _; omega
          clear hx hkx hc hx' hkx' z1 z2 hk
          cases hg : x.gone with
          | false =>
            rw [hg] at y2
            have HB : Hid (badE x = false) := by rw [Hid]; simp [badE, hg]
            clear hg
            go_wp2_with fail
            go_quiet (fail)
            go_wp2_with fail
            exact ⟨⟨j + 1 + 1, rfl, by omega, HOK.out.next HKEY.out HIE.out (by rw [HX.out, HB.out]), hf.out.drewN _⟩, by simp only [intOf]; omega⟩
          | true =>
            rw [hg] at y2
            by_cases hv : x.val = 0
            · have HB : Hid (badE x = false) := by rw [Hid]; simp [badE, hv]
              rw [hv] at y1
              clear hg hv
              go_wp2_with fail
              go_quiet (fail)
              go_wp2_with fail
              exact ⟨⟨j + 1 + 1, rfl, by omega, HOK.out.next HKEY.out HIE.out (by rw [HX.out, HB.out]), hf.out.drewN _⟩, by simp only [intOf]; omega⟩
            · have HB : Hid (badE x = true) := by rw [Hid]; simp [badE, hg, hv]
              have d2 : (x.val != 0) = true := by simpa using hv
              clear hg hv
              go_wp2_with fail
              go_quiet (fail)
              go_wp2_with fail
              go_ret
              exact ⟨31, rfl, .inr (.inr ⟨j + 1, HIE.out, HOK.out, HKEY.out, by rw [HX.out, HB.out], rfl⟩), hf.out.drewN _⟩
    · obtain rfl : i = n := by omega
      have g1 : decide (i < i) = false := by simp
      go_wp2_with fail
      go_ret
      exact ⟨0, rfl, .inl ⟨rfl, by have := hok.out; rw [HN.out] at this; exact this⟩, hf.out⟩
/-- run.New of an eps that may not be. -/
theorem rnew_arg (A : Option Addr) (n c : Nat) (eps : Int) (h : eps < 2 ∨ 64 < eps) (w : World) : Calls Tryz.prog 8 #[.slice A n c, .int .i64 eps] w fun e w' => e = .returned (.tuple #[.pointer none, .int .i64 1]) ∧ w' = w := by
  by_cases h1 : eps < 2
  · have d1 : decide (eps < 2) = true := decide_eq_true h1
    clear h
    go_enter Tryz.func8, Tryz.ntmps8
    go_wp2_with fail
    go_ret2
    exact ⟨rfl, rfl⟩
  · have d1 : decide (eps < 2) = false := decide_eq_false h1
    have d2 : decide (eps > 64) = true := decide_eq_true (by omega)
    clear h h1
    go_enter Tryz.func8, Tryz.ntmps8
    go_wp2_with fail
    go_ret2
    exact ⟨rfl, rfl⟩
end Go.Proofs.YtelpbbkmkighfaaGreat
namespace Go.Proofs.YtelpbbkmkighfaaGreat
set_option maxRecDepth 100000
open Go.RowKit Go.Inc Go.Run
attribute [local go_sem] run_store_float

set_option maxHeartbeats 2000000 in
theorem samelist_calls (E : List Ent) (A : Option Addr) (n c : Nat) (A' : Option Addr) (c' : Nat) (hn : n = E.length) (hl : n ≤ 268435456) (w : World) (hr : RdC w A (E.flatMap encells)) (hr' : RdC w A' (E.flatMap encells)) :
    Calls Tryz.prog 11 #[.slice A n c, .slice A' n c'] w fun e w' => e = .returned (.bool true) ∧ Fr w w' := by
  have HR := Lib.hid hr
  have HR' := Lib.hid hr'
  have HN := Lib.hid hn
  clear hr hr' hn
  have g0 : ((n : Int) != (n : Int)) = false := by simp
  have he := ent_neq
  have he2 : ∀ x : Ent, eqE x x = true := fun x => eqE_iff.2 rfl
  go_enter Tryz.func11, Tryz.ntmps11
  go_wp2_with fail
  go_loopw [5] (fun v wr => ∃ i : Nat, v = .int .i64 i ∧ i ≤ n ∧ Hid (Fr w wr)) (fun v _ => n - (intOf v).toNat)
  case atStart => exact ⟨0, rfl, by omega, Fr.refl w⟩
  case round =>
    obtain ⟨i, rfl, hin, hf⟩ := hrel
    rcases Nat.lt_or_ge i n with hlt | hge
    · have g1 : decide (i < n) = true := decide_eq_true hlt
      have g1' : (i : Int) < (n : Int) := by omega
      have hiE : i < E.length := by have := HN.out; omega
      obtain ⟨b, off, hA, hc⟩ := rdc_ent (HR.out.fr hf.out) (by omega)
      obtain ⟨b', off', hA', hc'⟩ := rdc_ent (HR'.out.fr hf.out) (by omega)
      subst hA hA'
      obtain ⟨y0, y1, y2⟩ := hc i hiE
      obtain ⟨z0, z1, z2⟩ := hc' i hiE
      obtain ⟨x, hx⟩ : ∃ x, E[i] = x := ⟨_, rfl⟩
      rw [hx] at y0 y1 y2 z0 z1 z2
      have hxx := he2 x
      have wi : IntKind.i64.wrap ((i : Int) + 1) = (i : Int) + 1 := wrap_i64_in _ (by omega) (by omega)
      obtain ⟨k, v, g⟩ := x
      clear hc hc' hx hiE he2
      dsimp only at y0 y1 y2 z0 z1 z2
      go_wp2_with fail
      go_quiet (fail)
      go_wp2_with fail
      exact ⟨⟨i + 1, rfl, by omega, hf.out.drewN _⟩, by simp only [intOf]; omega⟩
    · obtain rfl : i = n := by omega
      have g1 : decide (i < i) = false := by simp
      go_wp2_with fail
      go_ret
      exact ⟨rfl, hf.out⟩

set_option maxHeartbeats 2000000 in
theorem sameseg_calls (s : Seg) (w : World) : Calls Tryz.prog 38 #[segVal s, segVal s] w fun e w' => e = .returned (.bool true) ∧ Fr w w' := by
  obtain ⟨sf, sl, it, fn, un⟩ := s
  unfold segVal
  dsimp only
  have HF := Lib.hid (((Fr.refl w).alloc (.cells #[.int .u64 sf, .float .f64 sl, .float .f64 it, .int .i64 fn, .int .i64 un] 47)).alloc (.cells #[.int .u64 sf, .float .f64 sl, .float .f64 it, .int .i64 fn, .int .i64 un] 47))
  have h1 := tobits_run
  go_enter Tryz.func38, Tryz.ntmps38
  go_wp2_with fail
  go_quiet (fail)
  go_wp2_with fail
  go_ret
  exact ⟨rfl, HF.out.drewN _⟩

theorem rows_at {w : World} {A : Option Addr} {vs : List Value} {Ss : List (List Seg)} (hv : RdC w A vs) (hr : RowsR w vs Ss) {i : Nat} {S : List Seg} (hi : Ss[i]? = some S) : ∃ b off As cs, A = some ⟨b, off, none⟩ ∧ w.cell? ⟨b, off + i, none⟩ = some (.slice As S.length cs) ∧ RdC w As (S.flatMap sgcells) := by
  obtain ⟨As, cs, hvs, _, hrs⟩ := hr.at hi
  obtain ⟨b, off, hA, hc⟩ := hv.at (by
    have := (List.getElem?_eq_some_iff.1 hvs).1
    omega)
  exact ⟨b, off, As, cs, hA, hc i _ hvs, hrs⟩

set_option maxHeartbeats 4000000 in
theorem samelevels_calls (Ss : List (List Seg)) (A : Option Addr) (n c : Nat) (A' : Option Addr) (c' : Nat) (vs vs' : List Value) (hn : n = Ss.length) (hl : n ≤ 268435456) (hS : ∀ S ∈ Ss, S.length ≤ 268435456) (w : World) (hr : RdC w A vs) (hr' : RdC w A' vs') (hw : RowsR w vs Ss) (hw' : RowsR w vs' Ss) :
    Calls Tryz.prog 41 #[.slice A n c, .slice A' n c'] w fun e w' => e = .returned (.bool true) ∧ Fr w w' := by
  have HR := Lib.hid hr
  have HR' := Lib.hid hr'
  have HW := Lib.hid hw
  have HW' := Lib.hid hw'
  have HN := Lib.hid hn
  have HS := Lib.hid hS
  clear hr hr' hn hw hw' hS
  have g0 : ((n : Int) != (n : Int)) = false := by simp
  go_enter Tryz.func41, Tryz.ntmps41
  go_wp2_with fail
  go_loopw [5] (fun v wr => ∃ i : Nat, v = .int .i64 i ∧ i ≤ n ∧ Hid (Fr w wr)) (fun v _ => n - (intOf v).toNat)
  case atStart => exact ⟨0, rfl, by omega, Fr.refl w⟩
  case round =>
    obtain ⟨i, rfl, hin, hf⟩ := hrel
    obtain ⟨wo, hwo⟩ : ∃ wo, wo = wr := ⟨_, rfl⟩
    subst hwo
    rcases Nat.lt_or_ge i n with hlt | hge
    · have g1 : decide (i < n) = true := decide_eq_true hlt
      have g1' : (i : Int) < (n : Int) := by omega
      have hiE : i < Ss.length := by have := HN.out; omega
      obtain ⟨S, hS⟩ : ∃ S, Ss[i]? = some S := ⟨_, List.getElem?_eq_getElem hiE⟩
      have hSl := HS.out S (List.mem_of_getElem? hS)
      obtain ⟨b, off, As, cs, hA, hc, hrs⟩ := rows_at (HR.out.fr hf.out) (HW.out.fr hf.out) hS
      obtain ⟨b', off', As', cs', hA', hc', hrs'⟩ := rows_at (HR'.out.fr hf.out) (HW'.out.fr hf.out) hS
      subst hA hA'
      obtain ⟨m, hm⟩ : ∃ m, S.length = m := ⟨_, rfl⟩
      rw [hm] at hc hc' hSl
      have HM := Lib.hid hm
      have HRS := Lib.hid hrs
      have HRS' := Lib.hid hrs'
      have HC : Hid (∀ w', Fr wo w' → w'.cell? ⟨b, off + i, none⟩ = some (.slice As m cs) ∧ w'.cell? ⟨b', off' + i, none⟩ = some (.slice As' m cs')) := fun w' h => ⟨h.cell hc, h.cell hc'⟩
      have wi : IntKind.i64.wrap ((i : Int) + 1) = (i : Int) + 1 := wrap_i64_in _ (by omega) (by omega)
      have gm : ((m : Int) != (m : Int)) = false := by simp
      clear hm hS hrs hrs' hiE
      go_wp2_with fail
      go_quiet (fail)
      clear hc hc'
      go_wp2_with fail
      go_loopw [6] (fun v wr => ∃ k : Nat, v = .int .i64 k ∧ k ≤ m ∧ Hid (Fr wo wr)) (fun v _ => m - (intOf v).toNat)
      case atStart => exact ⟨0, rfl, by omega, (Fr.refl _).drewN _⟩
      case round =>
        obtain ⟨k, rfl, hkm, hfi⟩ := hrel
        obtain ⟨hc, hc'⟩ := HC.out _ hfi.out
        rcases Nat.lt_or_ge k m with hk | hk
        · have k1 : decide (k < m) = true := decide_eq_true hk
          have k1' : (k : Int) < (m : Int) := by omega
          have k0 : (0 : Int) ≤ (k : Int) := by omega
          have i0 : (0 : Int) ≤ (i : Int) := by omega
          have hkS : k < S.length := by have := HM.out; omega
          have wk : IntKind.i64.wrap ((k : Int) + 1) = (k : Int) + 1 := wrap_i64_in _ (by omega) (by omega)
          obtain ⟨bs, os, hAs, hcs⟩ := rdc_seg (HRS.out.fr hfi.out) (by omega)
          obtain ⟨bs', os', hAs', hcs'⟩ := rdc_seg (HRS'.out.fr hfi.out) (by omega)
          subst hAs hAs'
          obtain ⟨y0, y1, y2, y3, y4⟩ := hcs k hkS
          obtain ⟨z0, z1, z2, z3, z4⟩ := hcs' k hkS
          obtain ⟨s, hs⟩ : ∃ s, S[k] = s := ⟨_, rfl⟩
          rw [hs] at y0 y1 y2 y3 y4 z0 z1 z2 z3 z4
          obtain ⟨sf, sl, it, fn, un⟩ := s
          dsimp only at y0 y1 y2 y3 y4 z0 z1 z2 z3 z4
          have SS := fun w => sameseg_calls ⟨sf, sl, it, fn, un⟩ w
          unfold segVal at SS
          dsimp only at SS
          clear hcs hcs' hs
          have HCC : Hid (∀ w', Fr wr w' → (w'.cell? ⟨b, off + i, none⟩ = some (.slice (some ⟨bs, os, none⟩) m cs) ∧ w'.cell? ⟨b', off' + i, none⟩ = some (.slice (some ⟨bs', os', none⟩) m cs')) ∧
            (w'.cell? ⟨bs, os + k * 5, none⟩ = some (.int .u64 sf) ∧ w'.cell? ⟨bs, os + k * 5 + 1, none⟩ = some (.float .f64 sl) ∧ w'.cell? ⟨bs, os + k * 5 + 2, none⟩ = some (.float .f64 it) ∧ w'.cell? ⟨bs, os + k * 5 + 3, none⟩ = some (.int .i64 fn) ∧ w'.cell? ⟨bs, os + k * 5 + 4, none⟩ = some (.int .i64 un)) ∧
            (w'.cell? ⟨bs', os' + k * 5, none⟩ = some (.int .u64 sf) ∧ w'.cell? ⟨bs', os' + k * 5 + 1, none⟩ = some (.float .f64 sl) ∧ w'.cell? ⟨bs', os' + k * 5 + 2, none⟩ = some (.float .f64 it) ∧ w'.cell? ⟨bs', os' + k * 5 + 3, none⟩ = some (.int .i64 fn) ∧ w'.cell? ⟨bs', os' + k * 5 + 4, none⟩ = some (.int .i64 un))) :=
            fun w' h => ⟨⟨h.cell hc, h.cell hc'⟩, ⟨h.cell y0, h.cell y1, h.cell y2, h.cell y3, h.cell y4⟩, h.cell z0, h.cell z1, h.cell z2, h.cell z3, h.cell z4⟩
          go_wp2_with fail
          go_region_held3 (fun w' => (w'.cell? ⟨b, off + i, none⟩ = some (.slice (some ⟨bs, os, none⟩) m cs) ∧ w'.cell? ⟨b', off' + i, none⟩ = some (.slice (some ⟨bs', os', none⟩) m cs')) ∧
            (w'.cell? ⟨bs, os + k * 5, none⟩ = some (.int .u64 sf) ∧ w'.cell? ⟨bs, os + k * 5 + 1, none⟩ = some (.float .f64 sl) ∧ w'.cell? ⟨bs, os + k * 5 + 2, none⟩ = some (.float .f64 it) ∧ w'.cell? ⟨bs, os + k * 5 + 3, none⟩ = some (.int .i64 fn) ∧ w'.cell? ⟨bs, os + k * 5 + 4, none⟩ = some (.int .i64 un)) ∧
            (w'.cell? ⟨bs', os' + k * 5, none⟩ = some (.int .u64 sf) ∧ w'.cell? ⟨bs', os' + k * 5 + 1, none⟩ = some (.float .f64 sl) ∧ w'.cell? ⟨bs', os' + k * 5 + 2, none⟩ = some (.float .f64 it) ∧ w'.cell? ⟨bs', os' + k * 5 + 3, none⟩ = some (.int .i64 fn) ∧ w'.cell? ⟨bs', os' + k * 5 + 4, none⟩ = some (.int .i64 un)))
            (first | exact HCC.out _ hfa.out | exact HCC.out _ (Fr.refl _) | exact HCC.out _ (Fr.refl _).drew)
            (first | (go_at_call 38; refine (SS _).mono ?_; rintro e wq ⟨rfl, hqq⟩; have hfa : Hid (Fr wr wq) := (Fr.refl wr).drew.trans hqq))
          go_wp2_with fail
          exact ⟨⟨k + 1, rfl, by omega, hfi.out.trans hfa.out⟩, by simp only [intOf]; omega⟩
        · obtain rfl : k = m := by omega
          have k1 : decide (k < k) = false := by simp
          go_wp2_with fail
          exact ⟨⟨i + 1, rfl, by omega, hf.out.trans hfi.out⟩, by simp only [intOf]; omega⟩
    · obtain rfl : i = n := by omega
      have g1 : decide (i < i) = false := by simp
      go_wp2_with fail
      go_ret
      exact ⟨rfl, hf.out⟩
end Go.Proofs.YtelpbbkmkighfaaGreat
namespace Go.Proofs.YtelpbbkmkighfaaGreat
open Go.RowKit Go.Inc Go.Run

/-- A run that stands, with levels that are built. -/
structure Built (w : World) (r p : Nat) (eps : Int) (E : List Ent) (Ss : List (List Seg)) : Prop where
  run : RunR w r p eps E Ss
  ok : RunOk eps (keysE E) Ss
  lv : LevelsOf (eps - 1) (keysE E) Ss
  ents : EntsV E 0
  small : Ss.length ≤ 268435456 ∧ ∀ S ∈ Ss, S.length ≤ 268435456
theorem Built.fr {w w' : World} {r p : Nat} {eps : Int} {E : List Ent} {Ss : List (List Seg)} (h : Built w r p eps E Ss) (hf : Fr w w') : Built w' r p eps E Ss :=
  ⟨h.run.fr hf, h.ok, h.lv, h.ents, h.small⟩
theorem built_of {w : World} {r base : Nat} {e0 : Nat} {E : List Ent} {Ss : List (List Seg)} (he : 2 ≤ e0 ∧ e0 ≤ 64) (hE : ∀ e ∈ E, EntOk e) (hl : E.length ≤ 268435456) (hV : EntsV E 0) (hlv : LevelsOf ((e0 : Int) - 1) (keysE E) Ss) (h : IsRun w r base e0 E Ss) : ∃ p, Built w r p e0 E Ss := by
  obtain ⟨p, hp⟩ := h.toR
  have hR := (entsV_zero hV).1
  have hK := keysE_ok hE
  have hkl : (keysE E).length ≤ 268435456 := by rw [keysE_len]; exact hl
  have hfit := levels_fit he hR hK (by omega) hlv
  have hhigh := levels_high he.1 hR hK hlv
  have hhl := maxH_le he.1 (keysE E).length
  exact ⟨p, hp, ⟨hR, hK, by omega, fun S hS => ⟨by have := (hfit S hS).1; omega, (hfit S hS).2⟩, levels_check he hR hK (by omega) hlv⟩, hlv, hV, by omega, fun S hS => by have := (hfit S hS).1; omega⟩
/-- What comes of run.New. -/
def NewOut (E : List Ent) (eps : Int) (w : World) (e : Ending) (w' : World) : Prop :=
  Fr w w' ∧ ((∃ v, v ≠ 0 ∧ ((eps < 2 ∨ 64 < eps) ∧ v = 1 ∨ (2 ≤ eps ∧ eps ≤ 64) ∧ EntsV E v) ∧ e = .returned (.tuple #[.pointer none, .int .i64 v])) ∨
    ((2 ≤ eps ∧ eps ≤ 64) ∧ ∃ r p Ss, e = .returned (.tuple #[.pointer (some ⟨r, 0, none⟩), .int .i64 0]) ∧ w.heap.size ≤ r ∧ Built w' r p eps E Ss))
theorem rnew_any (E : List Ent) (A : Option Addr) (n c : Nat) (eps : Int) (hn : n = E.length) (hc : n ≤ c) (hl : n ≤ 268435456) (hE : ∀ e ∈ E, EntOk e) (w : World) (hr : RdC w A (E.flatMap encells)) :
    Calls Tryz.prog 8 #[.slice A n c, .int .i64 eps] w (NewOut E eps w) := by
  by_cases he : 2 ≤ eps ∧ eps ≤ 64
  · obtain ⟨e0, rfl⟩ : ∃ e0 : Nat, eps = e0 := ⟨eps.toNat, by omega⟩
    refine (rnew_calls E A n c e0 hn hc hl hE (by omega) w hr).mono fun e w' ⟨hf, hor⟩ => ⟨hf, ?_⟩
    rcases hor with ⟨v, h1, h2, h3⟩ | ⟨h1, r, Ss, h2, h3, h4⟩
    · exact .inl ⟨v, h1, .inr ⟨he, h2⟩, h3⟩
    · obtain ⟨p, hb⟩ := built_of (by omega) hE (by omega) h1 h3 h4
      have hbase : w.heap.size ≤ r := by obtain ⟨_, _, _, _, _, _, h, _⟩ := h4; exact h
      exact .inr ⟨he, r, p, Ss, h2, hbase, hb⟩
  · refine (rnew_arg A n c eps (by omega) w).mono fun e w' ⟨h1, h2⟩ => ?_
    subst h2
    exact ⟨Fr.refl _, .inl ⟨1, by decide, .inl ⟨by omega, rfl⟩, h1⟩⟩
end Go.Proofs.YtelpbbkmkighfaaGreat
