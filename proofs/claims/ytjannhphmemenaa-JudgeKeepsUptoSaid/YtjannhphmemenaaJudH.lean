/- The head of the laws of layer 23: the document's examples. -/
import Derived.Test.YtjannhphmemenaaJudA
namespace Go.Proofs.Ytjannhphmemenaa
set_option maxRecDepth 100000
open Go.RowKit Go.Inc Go.Jud Go.Maps Go.Sort

theorem fault_eql (W : World) (a b c e : Int) : (binOp .eql 61 (.agg #[.int .i64 a, .int .i64 b]) (.agg #[.int .i64 c, .int .i64 e])).run Try.prog W = .ok (.bool (a == c && b == e)) W := by
  have h1 : ∀ x y : Int, (Op.equalIn 9999 3 (.int .i64 x) (.int .i64 y)).run Try.prog W = .ok (x == y) W := fun x y => run_equalIn_int W 9998 _ _ _ x y Try.underlying3
  have hk : Try.prog.plainKey 3 = true := by kernel_rfl
  have p0 : ∀ (xs : Array Value) (off : Nat) (v : Value), xs[off]? = some v → (part 3 xs off).run Try.prog W = .ok v W := fun xs off v hv => run_part_plain W hk hv
  have h2 : (Op.eqFields 9999 #[.int .i64 a, .int .i64 b] #[.int .i64 c, .int .i64 e] (Try.prog.fieldsOf 61).toList).run Try.prog W = .ok (a == c && (b == e && true)) W := by
    rw [fieldsOf_of Try.underlying61]
    exact eqf_step (by decide) (p0 _ 0 _ rfl) (p0 _ 0 _ rfl) (h1 _ _) (eqf_step (by decide) (p0 _ 1 _ rfl) (p0 _ 1 _ rfl) (h1 _ _) eqf_nil)
  rw [run_eql_struct, run_equalIn_struct W 9999 61 _ _ (by kernel_rfl) (by kernel_rfl), h2]
  simp [Result.andThen]

def an (a : AnsV) : AnsC := ⟨a, none, 0⟩
theorem an_ok {w : World} {l : List AnsV} (h : ∀ a ∈ l, a.list = []) : ∀ x ∈ l.map an, AnsOk w x := by
  intro x hx
  obtain ⟨a, ha, rfl⟩ := List.mem_map.1 hx
  refine ⟨.inl ?_, ?_⟩
  · show a.list.flatMap pcells = []
    rw [h a ha]; rfl
  · show a.list.length ≤ _
    rw [h a ha]; simp
theorem an_a (l : List AnsV) : (l.map an).map (·.a) = l := by
  rw [List.map_map]; exact List.map_id' _
theorem all_none {w : World} {most : Int} {os : List OpV} {l : List AnsV} {r : List Pr × Int} {e : Ending} {w' : World} (h : AllPost most os ((l.map an).map (·.a)) w e w') (hr : allR most os l = r) :
    ∃ F cf, e = .returned (.tuple #[.slice F r.1.length cf, .int .i64 r.2]) ∧ Own w' w.heap.size 61 2 F r.1.length cf (r.1.flatMap fcells) ∧ Fr w w' := by
  rw [an_a] at h
  subst hr
  exact h
def ops1 : List OpV := [⟨1, 1, 10⟩, ⟨1, 2, 20⟩, ⟨1, 3, 30⟩, ⟨3, 2, 0⟩]
def anss1 : List AnsV := [ans0, ans0, ⟨161, false, 0, 0, 0, []⟩, ⟨0, true, 0, 20, 0, []⟩]
def ops2 : List OpV := [⟨1, 1, 10⟩, ⟨3, 1, 0⟩]
def anss2 : List AnsV := [ans0, ⟨0, true, 0, 11, 1, []⟩]
def ops3 : List OpV := [⟨6, 5, 0⟩, ⟨6, 5, 0⟩]
def anss3 : List AnsV := [ans0]
theorem in_ops {l : List OpV} (h : ∀ o ∈ l, 0 ≤ o.key ∧ o.key ≤ 1000 ∧ 0 ≤ o.val ∧ o.val ≤ 1000) : ∀ o ∈ l, U o.key ∧ U o.val := fun o ho => by
  have := h o ho
  exact ⟨⟨by omega, by omega⟩, by omega, by omega⟩

set_option maxHeartbeats 2000000 in
theorem shown23_calls (w : World) : Calls Try.prog 7 #[] w fun e w' => e = .returned (.bool true) ∧ Fr w w' := by
  go_enter Try.func7, Try.ntmps7
  go_wp2_with fail
  refine (jall_calls 2 ops1 (anss1.map an) (some ⟨w.heap.size, 0, none⟩) (some ⟨w.heap.size + 1, 0, none⟩) 4 4 4 4 _ (by omega) rfl rfl (by decide) (by decide) (RdC.of_blk (alloc2_fst w _ _)) (RdC.of_blk (alloc2_snd w _ _)) (an_ok (by simp [anss1, ans0])) (in_ops (by simp [ops1]))).mono ?_
  intro e w1 hp
  obtain ⟨F1, c1, rfl, ho1, hf1⟩ := all_none (r := ([], 0)) hp (by decide)
  have k0 : w1.cell? ⟨w.heap.size, 0, none⟩ = some (.int .i64 1) := by rw [blk_cell (hf1.blk (alloc2_fst w _ _)) 0]; rfl
  have k1 : w1.cell? ⟨w.heap.size, 1, none⟩ = some (.int .u64 1) := by rw [blk_cell (hf1.blk (alloc2_fst w _ _)) 1]; rfl
  have k2 : w1.cell? ⟨w.heap.size, 2, none⟩ = some (.int .u64 10) := by rw [blk_cell (hf1.blk (alloc2_fst w _ _)) 2]; rfl
  have HF1 : Hid (Fr w w1) := (fr2 w _ _).trans hf1
  clear hp ho1 hf1
  go_wp2_with fail
  refine (jall_calls 2 ops2 (anss2.map an) (some ⟨w1.heap.size, 0, none⟩) (some ⟨w1.heap.size + 1, 0, none⟩) 2 2 2 2 _ (by omega) rfl rfl (by decide) (by decide) (RdC.of_blk (alloc2_fst w1 _ _)) (RdC.of_blk (alloc2_snd w1 _ _)) (an_ok (by simp [anss2, ans0])) (in_ops (by simp [ops2]))).mono ?_
  intro e w2 hp
  obtain ⟨F2, c2, rfl, ho2, hf2⟩ := all_none (r := ([(1, 3), (1, 4)], 0)) hp (by decide)
  have HF2 : Hid (Fr w w2) := HF1.out.trans ((fr2 w1 _ _).trans hf2)
  obtain ⟨b2, o2, rfl, hc2⟩ := ho2.rd.at (by decide)
  have m0 := Lib.hid (hc2 0 _ rfl)
  have m1 := Lib.hid (hc2 1 _ rfl)
  have m2 := Lib.hid (hc2 2 _ rfl)
  have m3 := Lib.hid (hc2 3 _ rfl)
  clear hp ho2 hf2 hc2 k0 k1 k2
  go_wp2_with fail
  refine (jall_calls 2 ops3 (anss3.map an) (some ⟨w2.heap.size, 0, none⟩) (some ⟨w2.heap.size + 1, 0, none⟩) 2 2 1 1 _ (by omega) rfl rfl (by decide) (by decide) (RdC.of_blk (alloc2_fst w2 _ _)) (RdC.of_blk (alloc2_snd w2 _ _)) (an_ok (by simp [anss3, ans0])) (in_ops (by simp [ops3]))).mono ?_
  intro e w3 hp
  obtain ⟨F3, c3, rfl, ho3, hf3⟩ := all_none (r := ([(1, 6)], 0)) hp (by decide)
  have HF3 : Hid (Fr w2 w3) := (fr2 w2 _ _).trans hf3
  obtain ⟨b3, o3, rfl, hc3⟩ := ho3.rd.at (by decide)
  have n0 := Lib.hid (hc3 0 _ rfl)
  have n1 := Lib.hid (hc3 1 _ rfl)
  clear hp ho3 hf3 hc3
  go_wp2_with fail
  refine (jall_calls 0 [] ([].map an) (some ⟨w3.heap.size, 0, none⟩) (some ⟨w3.heap.size + 1, 0, none⟩) 0 0 0 0 _ (by omega) rfl rfl (by decide) (by decide) (.inl rfl) (.inl rfl) (by simp) (by simp)).mono ?_
  intro e w4 hp
  obtain ⟨F4, c4, rfl, ho4, hf4⟩ := all_none (r := ([], 1)) hp (by decide)
  have HF4 : Hid (Fr w3 w4) := (fr2 w3 _ _).trans hf4
  clear hp ho4 hf4
  go_wp2_with fail
  refine (jnew_yes 5 w4 (by omega) (by omega)).mono ?_
  rintro e w5 ⟨g, b, rfl, hg, hb, hJ, hf⟩
  have HJ5 := Lib.hid hJ
  have HF5 := Lib.hid hf
  clear hJ hf
  go_wp2_with fail
  refine (jsee_calls g b 5 [] ⟨2, 7, 0⟩ ⟨0, true, 0, 0, 0, []⟩ none 0 0 w5 HJ5.out ⟨by decide, by decide⟩ ⟨by decide, by decide⟩ (by decide) rfl (by decide) (.inl rfl) (fun h => absurd rfl h)).mono ?_
  rintro e w6 ⟨A6, c6, rfl, ho6, hm6, hJ6⟩
  have r6 : rules ⟨0, true, 0, 0, 0, []⟩ (does 5 [] ⟨2, 7, 0⟩).1 = [2] := by decide
  have d6 : (does 5 [] ⟨2, 7, 0⟩).2 = [] := by decide
  rw [r6] at ho6 ⊢
  rw [d6] at hJ6
  have HJ6 := Lib.hid hJ6
  have HM6 := Lib.hid hm6
  have HO6 := Lib.hid ho6
  clear hJ6 hm6 r6 d6 ho6
  go_wp2_with fail
  refine (jsee_calls g b 5 [] ⟨9, 0, 0⟩ ⟨1, false, 0, 0, 0, []⟩ none 0 0 w6 HJ6.out ⟨by decide, by decide⟩ ⟨by decide, by decide⟩ (by decide) rfl (by decide) (.inl rfl) (fun h => absurd rfl h)).mono ?_
  rintro e w7 ⟨A7, c7, rfl, ho7, hm7, hJ7⟩
  have r7 : rules ⟨1, false, 0, 0, 0, []⟩ (does 5 [] ⟨9, 0, 0⟩).1 = [] := by decide
  have d7 : (does 5 [] ⟨9, 0, 0⟩).2 = [] := by decide
  rw [r7] at ho7 ⊢
  rw [d7] at hJ7
  have HJ7 := Lib.hid hJ7
  have HM7 := Lib.hid hm7
  clear hJ7 hm7 r7 d7 ho7
  go_wp2_with fail
  refine (jsee_calls g b 5 [] ⟨7, 9, 3⟩ ⟨0, false, 0, 0, 0, [(4, 4)]⟩ (some ⟨w7.heap.size, 0, none⟩) 1 1 (w7.alloc (.cells #[.int .u64 4, .int .u64 4] 55)) (HJ7.out.fr ((Fr.refl _).alloc _)) ⟨by decide, by decide⟩ ⟨by decide, by decide⟩ (by decide) rfl (by decide) (RdC.of_blk (heap_alloc_new w7 _)) (fun _ e => by simp [ablk] at e; have := HJ7.out.lt.2; omega)).mono ?_
  rintro e w8 ⟨A8, c8, rfl, ho8, hm8, hJ8⟩
  have r8 : rules ⟨0, false, 0, 0, 0, [(4, 4)]⟩ (does 5 [] ⟨7, 9, 3⟩).1 = [5] := by decide
  rw [r8] at ho8 ⊢
  have HM8 : Hid (Mv (one1 b) w7 w8) := ((Mv.of_fr ((Fr.refl w7).alloc _)).trans' hm8)
  clear r8 hJ8 hm8
  have hF45 : Hid (Fr w4 w8) := ((Mv.of_fr (S := none0) HF5.out).trans ((HM6.out.trans' HM7.out).trans' HM8.out) (fun k h => .inr (by rw [show k = b from h]; exact hb))).fr0
  have hF38 : Hid (Fr w3 w8) := HF4.out.trans hF45.out
  have hF28 : Hid (Fr w2 w8) := HF3.out.trans hF38.out
  have hall : Hid (Fr w w8) := HF2.out.trans hF28.out
  have s0 : w8.cell? ⟨b2, o2, none⟩ = some (.int .i64 1) := hF28.out.cell m0.out
  have s1 := hF28.out.cell m1.out
  have s2 := hF28.out.cell m2.out
  have s3 := hF28.out.cell m3.out
  have v0 : w8.cell? ⟨b3, o3, none⟩ = some (.int .i64 1) := hF38.out.cell n0.out
  have v1 := hF38.out.cell n1.out
  have hA6 : Hid (RdC w8 A6 ([2].map (Value.int .i64))) := HO6.out.rd.mv (HM7.out.trans' HM8.out) (fun k hk e => by have h1 := (HO6.out.lt k hk).1; have h2 := HJ5.out.lt.2; rw [show k = b from e] at h1; omega)
  obtain ⟨b6, o6, rfl, hc6⟩ := hA6.out.at (by decide)
  obtain ⟨b8, o8, rfl, hc8⟩ := ho8.rd.at (by decide)
  have t6 : w8.cell? ⟨b6, o6, none⟩ = some (.int .i64 2) := hc6 0 _ rfl
  have t8 : w8.cell? ⟨b8, o8, none⟩ = some (.int .i64 5) := hc8 0 _ rfl
  have hfe := fault_eql
  clear hc6 hc8 ho8 hg hb
  go_wp2_with fail
  go_ret
  exact ⟨rfl, hall.out⟩
end Go.Proofs.Ytjannhphmemenaa
