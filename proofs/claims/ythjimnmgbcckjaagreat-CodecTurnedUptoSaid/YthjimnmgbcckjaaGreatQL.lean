/- Parts of this proof, one behind the other: Dec, CdM, CdD, CdR, CdE, Enc. -/
import Derived.Defers
import Derived.Recover
import Derived.Test.YthjimnmgbcckjaaGreatQJ
import Derived.Test.YthjimnmgbcckjaaGreatQK
import Derived.Test.YthjimnmgbcckjaaGreatQA
namespace Go.Proofs.YthjimnmgbcckjaaGreat
open Go.RowKit Go.Inc Go.Run

/-- A number that is read at a place, and the place behind it. -/
def numAt (b : ByteArray) (a : Nat) : Option (Nat × Nat) := if b.size < a + 8 then none else some (be b a 8, a + 8)
def cntAt (b : ByteArray) (a most : Nat) : Option (Nat × Nat) := if b.size < a + 8 ∨ most < be b a 8 then none else some (be b a 8, a + 8)
def fltAt (b : ByteArray) (a : Nat) : Option (Nat × Nat) := if b.size < a + 8 ∨ Go.Inc.fin (be b a 8) = false then none else some (be b a 8, a + 8)
def bytAt (b : ByteArray) (a : Nat) : Option (Nat × Nat) := if b.size = a ∨ 1 < bt b a then none else some (bt b a, a + 1)
/-- An entry. -/
def entAt (b : ByteArray) (a : Nat) : Option (Ent × Nat) :=
  match numAt b a with
  | none => none
  | some (k, a1) => match bytAt b a1 with
    | none => none
    | some (g, a2) => if g = 1 then some (⟨k, 0, true⟩, a2) else match numAt b a2 with
      | none => none
      | some (v, a3) => some (⟨k, v, false⟩, a3)
def entsAt (b : ByteArray) : Nat → Nat → Option (List Ent × Nat)
  | 0, a => some ([], a)
  | n + 1, a => match entAt b a with
    | none => none
    | some (e, a1) => match entsAt b n a1 with
      | none => none
      | some (l, a2) => some (e :: l, a2)
/-- What stands of a segment: its end, its floats. -/
def segAt (b : ByteArray) (a : Nat) : Option ((Nat × Nat × Nat) × Nat) :=
  match cntAt b a 4294967296 with
  | none => none
  | some (t, a1) => match fltAt b a1 with
    | none => none
    | some (s, a2) => match fltAt b a2 with
      | none => none
      | some (i, a3) => some ((t, s, i), a3)
def rowAt' (b : ByteArray) (K : List Int) : Nat → Nat → Nat → Option (List Seg × Nat)
  | 0, _, a => some ([], a)
  | n + 1, f, a => match segAt b a with
    | none => none
    | some ((t, s, i), a1) => if f < K.length then (match rowAt' b K n t a1 with
      | none => none
      | some (S, a2) => some (⟨ky K f, s, i, f, t⟩ :: S, a2)) else none
def levsAt (b : ByteArray) : List Int → Nat → Nat → Option (List (List Seg) × Nat)
  | _, 0, a => some ([], a)
  | K, n + 1, a => match cntAt b a 4294967296 with
    | none => none
    | some (m, a1) => match rowAt' b K m 0 a1 with
      | none => none
      | some (S, a2) => match levsAt b (firstsOf S) n a2 with
        | none => none
        | some (Ss, a3) => some (S :: Ss, a3)
def entsOf (b : ByteArray) (a : Nat) : Option (List Ent × Nat) :=
  match cntAt b a 4294967296 with
  | none => none
  | some (n, a1) => entsAt b n a1
/-- All of it. -/
def decB (wd : List UInt8) (b : ByteArray) : Option (Nat × List Ent × List (List Seg)) :=
  if (rdW b 0 wd).1 ≠ 0 then none else match cntAt b wd.length 64 with
  | none => none
  | some (eps, a1) => match entsOf b a1 with
    | none => none
    | some (E, a2) => match cntAt b a2 4294967296 with
      | none => none
      | some (h, a3) => match levsAt b (keysE E) h a3 with
        | none => none
        | some (Ss, a4) => if b.size = a4 then some (eps, E, Ss) else none

theorem be8_lt (b : ByteArray) (a : Nat) : be b a 8 < 18446744073709551616 := be_lt b a 8
theorem numAt_some {b : ByteArray} {a x a' : Nat} (h : numAt b a = some (x, a')) : a' = a + 8 ∧ a' ≤ b.size ∧ x < 18446744073709551616 := by
  unfold numAt at h
  split at h
  · cases h
  · injection h with h; injection h with h1 h2
    subst h1; subst h2
    exact ⟨rfl, by omega, be8_lt b a⟩
theorem cntAt_some {b : ByteArray} {a m x a' : Nat} (h : cntAt b a m = some (x, a')) : a' = a + 8 ∧ a' ≤ b.size ∧ x ≤ m := by
  unfold cntAt at h
  split at h
  · cases h
  · injection h with h; injection h with h1 h2
    subst h1; subst h2
    exact ⟨rfl, by omega, by omega⟩
theorem fltAt_some {b : ByteArray} {a x a' : Nat} (h : fltAt b a = some (x, a')) : a' = a + 8 ∧ a' ≤ b.size ∧ x < 18446744073709551616 := by
  unfold fltAt at h
  split at h
  · cases h
  · injection h with h; injection h with h1 h2
    subst h1; subst h2
    exact ⟨rfl, by omega, be8_lt b a⟩
theorem bytAt_some {b : ByteArray} {a x a' : Nat} (ha : a ≤ b.size) (h : bytAt b a = some (x, a')) : a' = a + 1 ∧ a' ≤ b.size ∧ x ≤ 1 := by
  unfold bytAt at h
  split at h
  · cases h
  · injection h with h; injection h with h1 h2
    subst h1; subst h2
    exact ⟨rfl, by omega, by omega⟩
theorem entAt_some {b : ByteArray} {a : Nat} {e : Ent} {a' : Nat} (h : entAt b a = some (e, a')) : a + 9 ≤ a' ∧ a' ≤ b.size ∧ EntOk e := by
  unfold entAt at h
  split at h
  · cases h
  · rename_i k a1 h1
    obtain ⟨p1, p2, p3⟩ := numAt_some h1
    split at h
    · cases h
    · rename_i g a2 h2
      obtain ⟨q1, q2, q3⟩ := bytAt_some p2 h2
      split at h
      · injection h with h; injection h with h4 h5
        subst h4; subst h5
        exact ⟨by omega, by omega, ⟨by show (0 : Int) ≤ (k : Int); omega, by show (k : Int) < _; omega⟩, by show (0 : Int) ≤ 0; omega, by show (0 : Int) < _; omega⟩
      · split at h
        · cases h
        · rename_i v a3 h3
          obtain ⟨r1, r2, r3⟩ := numAt_some h3
          injection h with h; injection h with h4 h5
          subst h4; subst h5
          exact ⟨by omega, by omega, ⟨by show (0 : Int) ≤ (k : Int); omega, by show (k : Int) < _; omega⟩, by show (0 : Int) ≤ (v : Int); omega, by show (v : Int) < _; omega⟩
theorem entsAt_some {b : ByteArray} : ∀ {n a : Nat} {l : List Ent} {a' : Nat}, a ≤ b.size → entsAt b n a = some (l, a') → l.length = n ∧ a + 9 * n ≤ a' ∧ a' ≤ b.size ∧ ∀ e ∈ l, EntOk e
  | 0, a, l, a', ha, h => by
    injection h with h; injection h with h1 h2
    subst h1; subst h2
    exact ⟨rfl, by omega, ha, fun e he => by simp at he⟩
  | n + 1, a, l, a', ha, h => by
    unfold entsAt at h
    split at h
    · cases h
    · rename_i e a1 h1
      obtain ⟨p1, p2, p3⟩ := entAt_some h1
      split at h
      · cases h
      · rename_i l2 a2 h2
        obtain ⟨q1, q2, q3, q4⟩ := entsAt_some p2 h2
        injection h with h; injection h with h4 h5
        subst h4; subst h5
        exact ⟨by simp [q1], by omega, q3, fun x hx => by
          rcases List.mem_cons.1 hx with rfl | hx
          · exact p3
          · exact q4 x hx⟩
theorem segAt_some {b : ByteArray} {a t s i a' : Nat} (h : segAt b a = some ((t, s, i), a')) : a' = a + 24 ∧ a' ≤ b.size ∧ t ≤ 4294967296 ∧ s < 18446744073709551616 ∧ i < 18446744073709551616 := by
  unfold segAt at h
  split at h
  · cases h
  · rename_i t1 a1 h1
    obtain ⟨p1, p2, p3⟩ := cntAt_some h1
    split at h
    · cases h
    · rename_i s1 a2 h2
      obtain ⟨q1, q2, q3⟩ := fltAt_some h2
      split at h
      · cases h
      · rename_i i1 a3 h3
        obtain ⟨r1, r2, r3⟩ := fltAt_some h3
        injection h with h; injection h with h4 h5
        injection h4 with h4 h6; injection h6 with h6 h7
        subst h4; subst h5; subst h6; subst h7
        exact ⟨by omega, r2, p3, q3, r3⟩
theorem rowAt_some {b : ByteArray} {K : List Int} (hK : KeysOk K) : ∀ {n f a : Nat} {S : List Seg} {a' : Nat}, a ≤ b.size → rowAt' b K n f a = some (S, a') → S.length = n ∧ a + 24 * n ≤ a' ∧ a' ≤ b.size ∧ ∀ s ∈ S, SegFit s
  | 0, f, a, S, a', ha, h => by
    injection h with h; injection h with h1 h2
    subst h1; subst h2
    exact ⟨rfl, by omega, ha, fun e he => by simp at he⟩
  | n + 1, f, a, S, a', ha, h => by
    unfold rowAt' at h
    split at h
    · cases h
    · rename_i t s i a1 h1
      obtain ⟨p1, p2, p3, p4, p5⟩ := segAt_some h1
      split at h
      · rename_i hf
        split at h
        · cases h
        · rename_i S2 a2 h2
          obtain ⟨q1, q2, q3, q4⟩ := rowAt_some hK p2 h2
          injection h with h; injection h with h4 h5
          subst h4; subst h5
          refine ⟨by simp [q1], by omega, q3, fun x hx => ?_⟩
          rcases List.mem_cons.1 hx with rfl | hx
          · exact ⟨⟨p4, p5⟩, hK.ky hf⟩
          · exact q4 x hx
      · cases h
theorem firsts_ok {S : List Seg} (h : ∀ s ∈ S, SegFit s) : KeysOk (firstsOf S) := by
  intro x hx
  obtain ⟨s, hs, rfl⟩ := List.mem_map.1 hx
  exact (h s hs).2
theorem levsAt_some {b : ByteArray} : ∀ {n : Nat} {K : List Int} {a : Nat} {Ss : List (List Seg)} {a' : Nat}, KeysOk K → a ≤ b.size → levsAt b K n a = some (Ss, a') → Ss.length = n ∧ a + 8 * n ≤ a' ∧ a' ≤ b.size ∧ ∀ S ∈ Ss, S.length * 24 ≤ b.size ∧ ∀ s ∈ S, SegFit s
  | 0, K, a, Ss, a', hK, ha, h => by
    injection h with h; injection h with h1 h2
    subst h1; subst h2
    exact ⟨rfl, by omega, ha, fun e he => by simp at he⟩
  | n + 1, K, a, Ss, a', hK, ha, h => by
    unfold levsAt at h
    split at h
    · cases h
    · rename_i m a1 h1
      obtain ⟨p1, p2, p3⟩ := cntAt_some h1
      split at h
      · cases h
      · rename_i S a2 h2
        obtain ⟨q1, q2, q3, q4⟩ := rowAt_some hK p2 h2
        split at h
        · cases h
        · rename_i Ss2 a3 h3
          obtain ⟨r1, r2, r3, r4⟩ := levsAt_some (firsts_ok q4) q3 h3
          injection h with h; injection h with h4 h5
          subst h4; subst h5
          refine ⟨by simp [r1], by omega, r3, fun x hx => ?_⟩
          rcases List.mem_cons.1 hx with rfl | hx
          · exact ⟨by omega, q4⟩
          · exact r4 x hx
end Go.Proofs.YthjimnmgbcckjaaGreat
namespace Go.Proofs.YthjimnmgbcckjaaGreat
set_option maxRecDepth 100000
open Go.RowKit Go.Inc

/-- What a reader gives up by. -/
def brokenV : Value := .iface 82 (.agg #[])
theorem cdSure_ok (w : World) : Calls Tryz.prog 38 #[.bool true] w fun e w' => e = .returned (.tuple #[]) ∧ w = w' := by
  go_enter Tryz.func38, Tryz.ntmps38
  go_wp2_with fail
  go_end0
  exact ⟨rfl, rfl⟩
theorem cdSure_no (w : World) : Calls Tryz.prog 38 #[.bool false] w fun e w' => e = .panicked [{ v := brokenV, recovered := false }] ∧ w = w' := by
  go_enter Tryz.func38, Tryz.ntmps38
  go_wp2_with fail
  exact ⟨rfl, rfl, rfl⟩
theorem cdMustI_ok (x : Int) (w : World) : Calls Tryz.prog 40 #[.int .i64 x, .int .i64 0] w fun e w' => e = .returned (.int .i64 x) ∧ w = w' := by
  go_enter Tryz.func40, Tryz.ntmps40
  go_wp2_with fail
  go_ret
  exact ⟨rfl, rfl⟩
theorem cdMustI_no (x : Int) (v : Int) (hv : v ≠ 0) (w : World) : Calls Tryz.prog 40 #[.int .i64 x, .int .i64 v] w fun e w' => e = .panicked [{ v := brokenV, recovered := false }] ∧ w = w' := by
  have g1 : (v != 0) = true := by simpa using hv
  clear hv
  go_enter Tryz.func40, Tryz.ntmps40
  go_wp2_with fail
  exact ⟨rfl, rfl, rfl⟩
theorem cdMustU_ok (x : Int) (w : World) : Calls Tryz.prog 73 #[.int .u64 x, .int .i64 0] w fun e w' => e = .returned (.int .u64 x) ∧ w = w' := by
  go_enter Tryz.func73, Tryz.ntmps73
  go_wp2_with fail
  go_ret
  exact ⟨rfl, rfl⟩
theorem cdMustU_no (x : Int) (v : Int) (hv : v ≠ 0) (w : World) : Calls Tryz.prog 73 #[.int .u64 x, .int .i64 v] w fun e w' => e = .panicked [{ v := brokenV, recovered := false }] ∧ w = w' := by
  have g1 : (v != 0) = true := by simpa using hv
  clear hv
  go_enter Tryz.func73, Tryz.ntmps73
  go_wp2_with fail
  exact ⟨rfl, rfl, rfl⟩
theorem cdMustB_ok (x : Int) (w : World) : Calls Tryz.prog 75 #[.int .u8 x, .int .i64 0] w fun e w' => e = .returned (.int .u8 x) ∧ w = w' := by
  go_enter Tryz.func75, Tryz.ntmps75
  go_wp2_with fail
  go_ret
  exact ⟨rfl, rfl⟩
theorem cdMustB_no (x : Int) (v : Int) (hv : v ≠ 0) (w : World) : Calls Tryz.prog 75 #[.int .u8 x, .int .i64 v] w fun e w' => e = .panicked [{ v := brokenV, recovered := false }] ∧ w = w' := by
  have g1 : (v != 0) = true := by simpa using hv
  clear hv
  go_enter Tryz.func75, Tryz.ntmps75
  go_wp2_with fail
  exact ⟨rfl, rfl, rfl⟩
theorem cdMustF_ok (x : Nat) (w : World) : Calls Tryz.prog 77 #[.float .f64 x, .int .i64 0] w fun e w' => e = .returned (.float .f64 x) ∧ w = w' := by
  go_enter Tryz.func77, Tryz.ntmps77
  go_wp2_with fail
  go_ret
  exact ⟨rfl, rfl⟩
theorem cdMustF_no (x : Nat) (v : Int) (hv : v ≠ 0) (w : World) : Calls Tryz.prog 77 #[.float .f64 x, .int .i64 v] w fun e w' => e = .panicked [{ v := brokenV, recovered := false }] ∧ w = w' := by
  have g1 : (v != 0) = true := by simpa using hv
  clear hv
  go_enter Tryz.func77, Tryz.ntmps77
  go_wp2_with fail
  exact ⟨rfl, rfl, rfl⟩
theorem cdMustR_ok (x : Option Addr) (w : World) : Calls Tryz.prog 45 #[.pointer x, .int .i64 0] w fun e w' => e = .returned (.pointer x) ∧ w = w' := by
  go_enter Tryz.func45, Tryz.ntmps45
  go_wp2_with fail
  go_ret
  exact ⟨rfl, rfl⟩
theorem cdMustR_no (x : Option Addr) (v : Int) (hv : v ≠ 0) (w : World) : Calls Tryz.prog 45 #[.pointer x, .int .i64 v] w fun e w' => e = .panicked [{ v := brokenV, recovered := false }] ∧ w = w' := by
  have g1 : (v != 0) = true := by simpa using hv
  clear hv
  go_enter Tryz.func45, Tryz.ntmps45
  go_wp2_with fail
  exact ⟨rfl, rfl, rfl⟩
end Go.Proofs.YthjimnmgbcckjaaGreat
namespace Go.Proofs.YthjimnmgbcckjaaGreat
open Go.RowKit Go.Inc

theorem cdIdle (p q : Addr) (w : World) : CallsD Tryz.prog 36 #[.pointer (some p), .pointer (some q)] .returning w fun e u' w' => e = .returned (.tuple #[]) ∧ u' = .returning ∧ w' = w := by
  refine callsD_of_wpS Tryz.func36 rfl fun c₀ cs hu => ?_
  apply wpS_seq
  apply wpS_region
  simp [wpOpsS, go_sem, recoverD, hu, Tryz.ntmps36, Exit.thenS, Array.replicate, List.replicate]
  refine wpS_of_wp ?_
  go_wp2_with fail
  cases c₀
  simp_all [bodyPostS, results, Tryz.results36]
theorem cdCatch (g2 g3 : Nat) (x y : Value) (older : List PanicEntry) (w : World) (h2 : w.heap[g2]? = some (.cells #[x] 27 (0, 0))) (h3 : w.heap[g3]? = some (.cells #[y] 35 (0, 0))) :
    CallsD Tryz.prog 36 #[.pointer (some ⟨g2, 0, none⟩), .pointer (some ⟨g3, 0, none⟩)] (.panicking ({ v := brokenV, recovered := false } :: older)) w fun e u' w' => e = .returned (.tuple #[]) ∧ u' = .panicking ({ v := brokenV, recovered := true } :: older) ∧
      (w'.heap[g2]? = some (.cells #[.pointer none] 27 (0, 0)) ∧ w'.heap[g3]? = some (.cells #[.int .i64 120] 35 (0, 0))) ∧ Mv (fun k => k = g2 ∨ k = g3) w w' := by
  have hta : ∀ w, (Instr.typeAssert (.iface 82 (.agg #[])) 20 82 true).run Tryz.prog w = .ok (.tuple #[.agg #[], .bool true]) w := fun _ => by kernel_rfl
  have hne : g2 ≠ g3 := by
    intro h
    subst h
    rw [h2] at h3
    injection h3 with h3; injection h3 with _ h4 _
    revert h4; decide
  have k2 : ∀ w' : World, w'.heap[g2]? = some (.cells #[x] 27 (0, 0)) → w'.cell? ⟨g2, 0, none⟩ = some x ∧ w'.frozen? ⟨g2, 0, none⟩ = false := fun w' h => ⟨by rw [blk_cell h]; rfl, blk_frozen h 0⟩
  have k3 : ∀ w' : World, w'.heap[g3]? = some (.cells #[y] 35 (0, 0)) → w'.cell? ⟨g3, 0, none⟩ = some y ∧ w'.frozen? ⟨g3, 0, none⟩ = false := fun w' h => ⟨by rw [blk_cell h]; rfl, blk_frozen h 0⟩
  have hal := fun (w : World) => (Fr.refl w).alloc (.cells #[] 82)
  obtain ⟨c2, z2⟩ := k2 w h2
  obtain ⟨c3, z3⟩ := k3 w h3
  obtain ⟨c2', z2'⟩ := k2 _ ((hal w).blk h2)
  obtain ⟨c3', z3'⟩ := k3 _ ((hal w).blk h3)
  obtain ⟨c4, z4⟩ := k3 _ (blk_set_ne h3 (p := ⟨g2, 0, none⟩) hne (.pointer none))
  obtain ⟨c5, z5⟩ := k3 _ (blk_set_ne ((hal w).blk h3) (p := ⟨g2, 0, none⟩) hne (.pointer none))
  obtain ⟨c6, z6⟩ := k3 _ ((hal _).blk (blk_set_ne h3 (p := ⟨g2, 0, none⟩) hne (.pointer none)))
  have HRES : Hid (((((w.alloc (.cells #[] 82)).setCell ⟨g2, 0, none⟩ (.pointer none)).setCell ⟨g3, 0, none⟩ (.int .i64 120)).heap[g2]? = some (.cells #[.pointer none] 27 (0, 0)) ∧ (((w.alloc (.cells #[] 82)).setCell ⟨g2, 0, none⟩ (.pointer none)).setCell ⟨g3, 0, none⟩ (.int .i64 120)).heap[g3]? = some (.cells #[.int .i64 120] 35 (0, 0))) ∧
      Mv (fun k => k = g2 ∨ k = g3) w (((w.alloc (.cells #[] 82)).setCell ⟨g2, 0, none⟩ (.pointer none)).setCell ⟨g3, 0, none⟩ (.int .i64 120))) :=
    ⟨⟨blk_set_ne (blk_set ((hal w).blk h2) 0 (.pointer none)) (p := ⟨g3, 0, none⟩) hne.symm _, blk_set (blk_set_ne ((hal w).blk h3) (p := ⟨g2, 0, none⟩) hne _) 0 _⟩, (((Mv.refl (fun k => k = g2 ∨ k = g3) w).then (hal w)).set (p := ⟨g2, 0, none⟩) (.inl (.inl rfl)) _).set (p := ⟨g3, 0, none⟩) (.inl (.inr rfl)) _⟩
  clear k2 k3
  refine callsD_of_wpS Tryz.func36 rfl fun c₀ cs hu => ?_
  apply wpS_seq
  apply wpS_region
  simp [wpOpsS, go_sem, recoverD, hu, Tryz.ntmps36, Exit.thenS, Array.replicate, List.replicate, brokenV]
  refine wpS_of_wp ?_
  go_wp2_with fail
  clear c2 z2 c3 z3 c2' z2' c3' z3' c4 z4 c5 z5 c6 z6 hal hta h2 h3
  cases c₀
  simp_all [bodyPostS, results, Tryz.results36]
  exact HRES.out
theorem cdDoor_broken (tmps : Array Value) (g2 g3 : Nat) (w0 w : World) (x y : Value) (h2 : tmps.getD 2 undef = .pointer (some ⟨g2, 0, none⟩)) (h3 : tmps.getD 3 undef = .pointer (some ⟨g3, 0, none⟩)) (hb2 : w.heap[g2]? = some (.cells #[x] 27 (0, 0))) (hb3 : w.heap[g3]? = some (.cells #[y] 35 (0, 0))) (hf : Fr w0 w) (hg2 : w0.heap.size ≤ g2) (hg3 : w0.heap.size ≤ g3) :
    bodyPostD Tryz.prog Tryz.f13 (fun e w' => e = .returned (.tuple #[.pointer none, .int .i64 120]) ∧ Fr w0 w') (Exit.panic [{ v := brokenV, recovered := false }]) { tmps := tmps, defers := [{ target := Target.fn (Fn.func 36) #[.pointer (some ⟨g2, 0, none⟩), .pointer (some ⟨g3, 0, none⟩)], args := #[] }] } w := by
  refine leaves_cons (f := 36) (args := #[.pointer (some ⟨g2, 0, none⟩), .pointer (some ⟨g3, 0, none⟩)]) (by simp) (by simp [go_sem]) ?_
  refine (cdCatch g2 g3 x y [] w hb2 hb3).mono ?_
  rintro e u' w'' ⟨rfl, rfl, ⟨hc2, hc3⟩, hm⟩
  have hf2 : Fr w0 w'' := hf.mv hm (fun k hk => by rcases hk with hk | hk <;> (rw [hk]; assumption))
  have hcell2 : w''.cell? ⟨g2, 0, none⟩ = some (.pointer none) := by rw [blk_cell hc2]; rfl
  have hcell3 : w''.cell? ⟨g3, 0, none⟩ = some (.int .i64 120) := by rw [blk_cell hc3]; rfl
  have h2' : tmps[2]?.getD undef = .pointer (some ⟨g2, 0, none⟩) := by simpa using h2
  have h3' : tmps[3]?.getD undef = .pointer (some ⟨g3, 0, none⟩) := by simpa using h3
  simp [Leaves, settle, results, Tryz.results13, go_sem, h2', h3', hcell2, hcell3]
  exact hf2
theorem cdDoor_ok (tmps : Array Value) (g2 g3 : Nat) (w : World) (x : Option Addr) (y : Int) (h2 : tmps.getD 2 undef = .pointer (some ⟨g2, 0, none⟩)) (h3 : tmps.getD 3 undef = .pointer (some ⟨g3, 0, none⟩)) (hb2 : w.heap[g2]? = some (.cells #[.pointer x] 27 (0, 0))) (hb3 : w.heap[g3]? = some (.cells #[.int .i64 y] 35 (0, 0))) (Q : World → Prop) (hQ : Q w) :
    bodyPostD Tryz.prog Tryz.f13 (fun e w' => e = .returned (.tuple #[.pointer x, .int .i64 y]) ∧ Q w') Exit.ret { tmps := tmps, defers := [{ target := Target.fn (Fn.func 36) #[.pointer (some ⟨g2, 0, none⟩), .pointer (some ⟨g3, 0, none⟩)], args := #[] }] } w := by
  refine leaves_cons (f := 36) (args := #[.pointer (some ⟨g2, 0, none⟩), .pointer (some ⟨g3, 0, none⟩)]) (by simp) (by simp [go_sem]) ?_
  refine (cdIdle ⟨g2, 0, none⟩ ⟨g3, 0, none⟩ w).mono ?_
  rintro e u' w'' ⟨rfl, rfl, rfl⟩
  have hcell2 : w''.cell? ⟨g2, 0, none⟩ = some (.pointer x) := by rw [blk_cell hb2]; rfl
  have hcell3 : w''.cell? ⟨g3, 0, none⟩ = some (.int .i64 y) := by rw [blk_cell hb3]; rfl
  have h2' : tmps[2]?.getD undef = .pointer (some ⟨g2, 0, none⟩) := by simpa using h2
  have h3' : tmps[3]?.getD undef = .pointer (some ⟨g3, 0, none⟩) := by simpa using h3
  simp [Leaves, settle, results, Tryz.results13, go_sem, h2', h3', hcell2, hcell3]
  exact hQ
end Go.Proofs.YthjimnmgbcckjaaGreat
namespace Go.Proofs.YthjimnmgbcckjaaGreat
open Go.RowKit Go.Inc Go.Run

theorem mv_grown {w w' : World} {g : Nat} (h : w.grownBy w' (some g)) : Mv (one1 g) w w' := (Mv.refl (one1 g) w).grown h (fun k hk => .inl (by injection hk with hk; exact hk.symm))
theorem rd8_none {b : ByteArray} {a : Nat} {may : Nat → Bool} (h : b.size < a + 8 ∨ may (be b a 8) = false) : (rd8 b a may).1 = 0 ∧ (rd8 b a may).2.1 ≠ 0 := by
  unfold rd8
  by_cases h1 : b.size < a + 8
  · rw [if_pos h1]; exact ⟨rfl, show (100 : Int) ≠ 0 by decide⟩
  · have h2 : may (be b a 8) = false := h.resolve_left h1
    rw [if_neg h1, if_neg (by rw [h2]; decide)]; exact ⟨rfl, show (101 : Int) ≠ 0 by decide⟩
theorem rd8_some {b : ByteArray} {a : Nat} {may : Nat → Bool} (h : ¬ (b.size < a + 8 ∨ may (be b a 8) = false)) : rd8 b a may = (be b a 8, 0, a + 8) := by
  unfold rd8
  rw [if_neg (fun h1 => h (.inl h1)), if_pos]
  cases h2 : may (be b a 8) with
  | true => rfl
  | false => exact absurd (.inr h2) h
theorem mayCount_no {m n : Nat} : mayCount (m : Int) n = false ↔ m < n := by
  unfold mayCount
  have h0 : decide (0 ≤ (m : Int)) = true := decide_eq_true (by omega)
  rw [h0, Bool.true_and, decide_eq_false_iff_not]
  omega
theorem num_some (g : Nat) (b : ByteArray) (a : Nat) (w : World) (h : IsR w g b a) (h1 : a ≤ b.size) (hb : b.size ≤ maxLen) (x a' : Nat) (hx : numAt b a = some (x, a')) :
    Calls Tryz.prog 74 #[.pointer (some ⟨g, 0, none⟩)] w fun e w' => e = .returned (.tuple #[.int .u64 (x : Nat), .int .i64 0]) ∧ IsR w' g b a' ∧ Mv (one1 g) w w' := by
  refine (number_calls g b a w h h1 hb).mono ?_
  rintro e w' ⟨he, hR, hG⟩
  unfold numAt at hx
  split at hx
  · cases hx
  · rename_i hc
    injection hx with hx; injection hx with hx hx'
    have h9 : rd8 b a (fun _ => true) = (be b a 8, 0, a + 8) := rd8_some (fun h9 => hc (h9.resolve_right (by decide)))
    rw [h9] at he hR
    subst hx; subst hx'
    exact ⟨he, hR, mv_grown hG⟩
theorem num_none (g : Nat) (b : ByteArray) (a : Nat) (w : World) (h : IsR w g b a) (h1 : a ≤ b.size) (hb : b.size ≤ maxLen) (hx : numAt b a = none) :
    Calls Tryz.prog 74 #[.pointer (some ⟨g, 0, none⟩)] w fun e w' => ∃ v, v ≠ 0 ∧ e = .returned (.tuple #[.int .u64 0, .int .i64 v]) ∧ Mv (one1 g) w w' := by
  refine (number_calls g b a w h h1 hb).mono ?_
  rintro e w' ⟨he, hR, hG⟩
  unfold numAt at hx
  split at hx
  · rename_i hc
    obtain ⟨h8, h9⟩ := rd8_none (b := b) (a := a) (may := (fun _ => true)) (.inl hc)
    rw [h8] at he
    exact ⟨_, h9, he, mv_grown hG⟩
  · cases hx
theorem cnt_some (g : Nat) (b : ByteArray) (a : Nat) (m : Nat) (hm : m ≤ 9223372036854775807) (w : World) (h : IsR w g b a) (h1 : a ≤ b.size) (hb : b.size ≤ maxLen) (x a' : Nat) (hx : cntAt b a m = some (x, a')) :
    Calls Tryz.prog 41 #[.pointer (some ⟨g, 0, none⟩), .int .i64 (m : Nat)] w fun e w' => e = .returned (.tuple #[.int .i64 (x : Nat), .int .i64 0]) ∧ IsR w' g b a' ∧ Mv (one1 g) w w' := by
  refine (count_calls g b a (m : Nat) (by omega) w h h1 hb).mono ?_
  rintro e w' ⟨he, hR, hG⟩
  unfold cntAt at hx
  split at hx
  · cases hx
  · rename_i hc
    injection hx with hx; injection hx with hx hx'
    have h9 : rd8 b a (mayCount (m : Nat)) = (be b a 8, 0, a + 8) := rd8_some (fun h9 => hc (h9.imp_right mayCount_no.1))
    rw [h9] at he hR
    subst hx; subst hx'
    exact ⟨he, hR, mv_grown hG⟩
theorem cnt_none (g : Nat) (b : ByteArray) (a : Nat) (m : Nat) (hm : m ≤ 9223372036854775807) (w : World) (h : IsR w g b a) (h1 : a ≤ b.size) (hb : b.size ≤ maxLen) (hx : cntAt b a m = none) :
    Calls Tryz.prog 41 #[.pointer (some ⟨g, 0, none⟩), .int .i64 (m : Nat)] w fun e w' => ∃ v, v ≠ 0 ∧ e = .returned (.tuple #[.int .i64 0, .int .i64 v]) ∧ Mv (one1 g) w w' := by
  refine (count_calls g b a (m : Nat) (by omega) w h h1 hb).mono ?_
  rintro e w' ⟨he, hR, hG⟩
  unfold cntAt at hx
  split at hx
  · rename_i hc
    obtain ⟨h8, h9⟩ := rd8_none (b := b) (a := a) (may := (mayCount (m : Nat))) (hc.imp_right mayCount_no.2)
    rw [h8] at he
    exact ⟨_, h9, he, mv_grown hG⟩
  · cases hx
theorem flt_some (g : Nat) (b : ByteArray) (a : Nat) (w : World) (h : IsR w g b a) (h1 : a ≤ b.size) (hb : b.size ≤ maxLen) (x a' : Nat) (hx : fltAt b a = some (x, a')) :
    Calls Tryz.prog 78 #[.pointer (some ⟨g, 0, none⟩)] w fun e w' => e = .returned (.tuple #[.float .f64 x, .int .i64 0]) ∧ IsR w' g b a' ∧ Mv (one1 g) w w' := by
  refine (float_calls g b a w h h1 hb).mono ?_
  rintro e w' ⟨he, hR, hG⟩
  unfold fltAt at hx
  split at hx
  · cases hx
  · rename_i hc
    injection hx with hx; injection hx with hx hx'
    have h9 : rd8 b a Go.Inc.fin = (be b a 8, 0, a + 8) := rd8_some (fun h9 => hc (h9))
    rw [h9] at he hR
    subst hx; subst hx'
    exact ⟨he, hR, mv_grown hG⟩
theorem flt_none (g : Nat) (b : ByteArray) (a : Nat) (w : World) (h : IsR w g b a) (h1 : a ≤ b.size) (hb : b.size ≤ maxLen) (hx : fltAt b a = none) :
    Calls Tryz.prog 78 #[.pointer (some ⟨g, 0, none⟩)] w fun e w' => ∃ v, v ≠ 0 ∧ e = .returned (.tuple #[.float .f64 0, .int .i64 v]) ∧ Mv (one1 g) w w' := by
  refine (float_calls g b a w h h1 hb).mono ?_
  rintro e w' ⟨he, hR, hG⟩
  unfold fltAt at hx
  split at hx
  · rename_i hc
    obtain ⟨h8, h9⟩ := rd8_none (b := b) (a := a) (may := Go.Inc.fin) (hc)
    rw [h8] at he
    exact ⟨_, h9, he, mv_grown hG⟩
  · cases hx
theorem byt_some (g : Nat) (b : ByteArray) (a : Nat) (w : World) (h : IsR w g b a) (h1 : a ≤ b.size) (hb : b.size ≤ maxLen) (x a' : Nat) (hx : bytAt b a = some (x, a')) :
    Calls Tryz.prog 76 #[.pointer (some ⟨g, 0, none⟩), .int .u8 1] w fun e w' => e = .returned (.tuple #[.int .u8 (x : Nat), .int .i64 0]) ∧ IsR w' g b a' ∧ Mv (one1 g) w w' := by
  refine (byte_calls g b a 1 w h h1 hb).mono ?_
  rintro e w' ⟨he, hR, hG⟩
  unfold bytAt at hx
  split at hx
  · cases hx
  · rename_i hc
    injection hx with hx; injection hx with hx hx'
    have h9 : rd1 b a 1 = (bt b a, 0, a + 1) := by
      unfold rd1
      rw [if_neg (fun h9 => hc (.inl h9)), if_neg (fun h9 => hc (.inr h9))]
    rw [h9] at he hR
    subst hx; subst hx'
    exact ⟨he, hR, mv_grown hG⟩
theorem byt_none (g : Nat) (b : ByteArray) (a : Nat) (w : World) (h : IsR w g b a) (h1 : a ≤ b.size) (hb : b.size ≤ maxLen) (hx : bytAt b a = none) :
    Calls Tryz.prog 76 #[.pointer (some ⟨g, 0, none⟩), .int .u8 1] w fun e w' => ∃ v, v ≠ 0 ∧ e = .returned (.tuple #[.int .u8 0, .int .i64 v]) ∧ Mv (one1 g) w w' := by
  refine (byte_calls g b a 1 w h h1 hb).mono ?_
  rintro e w' ⟨he, hR, hG⟩
  unfold bytAt at hx
  split at hx
  · rename_i hc
    unfold rd1 at he
    split at he
    · exact ⟨100, by decide, he, mv_grown hG⟩
    · rename_i h9
      rw [if_pos (hc.resolve_left h9)] at he
      exact ⟨101, by decide, he, mv_grown hG⟩
  · cases hx
end Go.Proofs.YthjimnmgbcckjaaGreat
namespace Go.Proofs.YthjimnmgbcckjaaGreat
set_option maxRecDepth 100000
open Go.RowKit Go.Inc Go.Run

theorem isR_mv {T : Nat → Prop} {w w' : World} {g : Nat} {b : ByteArray} {a : Nat} (h : IsR w g b a) (hm : Mv T w w') (hT : ¬ T g) : IsR w' g b a := hm.blk h hT
theorem isR_fr {w w' : World} {g : Nat} {b : ByteArray} {a : Nat} (h : IsR w g b a) (hf : Fr w w') : IsR w' g b a := hf.blk h
theorem isR_lt {w : World} {g : Nat} {b : ByteArray} {a : Nat} (h : IsR w g b a) : g < w.heap.size := (Array.getElem?_eq_some_iff.1 h).1
theorem entsAt_succ (b : ByteArray) (n a : Nat) : entsAt b (n + 1) a = match entAt b a with | none => none | some (e, a1) => match entsAt b n a1 with | none => none | some (l, a2) => some (e :: l, a2) := rfl
theorem ents_step {b : ByteArray} {n i a : Nat} {l : List Ent} {X : Option (List Ent × Nat)} (hi : i < n) (h : X = match entsAt b (n - i) a with | none => none | some (l', a') => some (l ++ l', a')) :
    X = match entAt b a with | none => none | some (e, ap) => match entsAt b (n - (i + 1)) ap with | none => none | some (l', a') => some ((l ++ [e]) ++ l', a') := by
  rw [h, show n - i = (n - (i + 1)) + 1 by omega, entsAt_succ]
  cases entAt b a with
  | none => rfl
  | some q =>
    obtain ⟨e, ap⟩ := q
    dsimp only
    cases entsAt b (n - (i + 1)) ap with
    | none => rfl
    | some q => simp
def Broke (e : Ending) : Prop := e = .panicked [{ v := brokenV, recovered := false }]
/-- What reading entries comes to. -/
def EntsPost (g : Nat) (b : ByteArray) (base : Nat) (w : World) (o : Option (List Ent × Nat)) (e : Ending) (w' : World) : Prop :=
  Mv (one1 g) w w' ∧ match o with
  | none => Broke e
  | some (l, a') => ∃ A' c', e = .returned (.slice A' l.length c') ∧ Own w' base 52 3 A' l.length c' (l.flatMap encells) ∧ IsR w' g b a'

set_option maxHeartbeats 8000000 in
theorem cdEntries_calls (g : Nat) (b : ByteArray) (a : Nat) (w : World) (h : IsR w g b a) (h1 : a ≤ b.size) (hb : b.size ≤ 2147483648) :
    Calls Tryz.prog 42 #[.agg #[.pointer (some ⟨g, 0, none⟩)]] w (EntsPost g b w.heap.size w (entsOf b a)) := by
  have HGW : Hid (g < w.heap.size) := isR_lt h
  have hbm : b.size ≤ maxLen := by unfold maxLen; omega
  have h1b := heap_alloc_new w (.cells #[.pointer (some ⟨g, 0, none⟩)] 86)
  have HB1 : Hid (∀ w', Fr (w.alloc (.cells #[.pointer (some ⟨g, 0, none⟩)] 86)) w' → True) := fun _ _ => trivial
  clear HB1
  have HH := Lib.hid (h.below ((Fr.refl w).alloc (.cells #[.pointer (some ⟨g, 0, none⟩)] 86)))
  have HB := Lib.hid h1b
  have HM := Lib.hid hbm
  have x0 := cells1 h1b
  clear h h1b
  unfold entsOf
  rcases hc : cntAt b a 4294967296 with _ | ⟨n, a1⟩
  · have CN := Lib.hid (cnt_none g b a 4294967296 (by decide) _ HH.out h1 hbm hc)
    have HF := Lib.hid ((Fr.refl w).alloc (.cells #[.pointer (some ⟨g, 0, none⟩)] 86))
    clear hc
    go_enter Tryz.func42, Tryz.ntmps42
    go_wp2_with fail
    refine CN.out.mono ?_
    rintro _ w2 ⟨v, hv, rfl, hm⟩
    have HM2 : Hid (Mv (one1 g) w w2) := (Mv.of_fr HF.out).trans' hm
    clear hm
    go_wp2_with fail
    refine (cdMustI_no 0 v hv w2).mono ?_
    rintro _ w3 ⟨rfl, rfl⟩
    go_wp2_with fail
    exact ⟨rfl, HM2.out, rfl⟩
  · obtain ⟨p1, p2, p3⟩ := cntAt_some hc
    have CN := Lib.hid (cnt_some g b a 4294967296 (by decide) _ HH.out h1 hbm n a1 hc)
    have HF := Lib.hid ((Fr.refl w).alloc (.cells #[.pointer (some ⟨g, 0, none⟩)] 86))
    clear hc
    dsimp only
    go_enter Tryz.func42, Tryz.ntmps42
    go_wp2_with fail
    refine CN.out.mono ?_
    rintro _ w2 ⟨rfl, hR, hm⟩
    have HM2 : Hid (Mv (one1 g) w w2) := (Mv.of_fr HF.out).trans' hm
    have HBR2 : Hid (w2.heap[w.heap.size]? = some (.cells #[.pointer (some ⟨g, 0, none⟩)] 86 (0, 0))) := hm.blk HB.out (fun h => by have := HGW.out; have : w.heap.size = g := h; omega)
    have HR2 := Lib.hid hR
    clear hm hR x0
    go_wp2_with fail
    refine (cdMustI_ok n w2).mono ?_
    rintro _ w3 ⟨rfl, rfl⟩
    go_wp2_with fail
    go_loopw [4, 13] (fun v4 v13 wr => ∃ (i ai : Nat) (Al : Option Addr) (cl : Nat) (l : List Ent), v4 = .slice Al i cl ∧ v13 = .int .i64 i ∧ i ≤ n ∧ Hid (l.length = i) ∧ 9 * i ≤ ai ∧ ai ≤ b.size ∧ Hid (Own wr (w.heap.size + 1) 52 3 Al i cl (l.flatMap encells)) ∧ Hid (IsR wr g b ai) ∧ Hid (wr.heap[w.heap.size]? = some (.cells #[.pointer (some ⟨g, 0, none⟩)] 86 (0, 0))) ∧ Hid (Mv (one1 g) w wr) ∧
      Hid (w.heap.size + 1 ≤ wr.heap.size) ∧ Hid (entsAt b n a1 = match entsAt b (n - i) ai with | none => none | some (l', a') => some (l ++ l', a'))) (fun _ v13 _ => n - (intOf v13).toNat)
    case atStart => exact ⟨0, a1, none, 0, [], rfl, rfl, by omega, rfl, by omega, p2, Own.nil _ _ _ _, HR2.out, HBR2.out, HM2.out, (Array.getElem?_eq_some_iff.1 HBR2.out).1, by
      rw [Hid, Nat.sub_zero]
      cases entsAt b n a1 with
      | none => rfl
      | some p => rfl⟩
    case round =>
      obtain ⟨i, ai, Al, cl, l, rfl, rfl, hin, hll, h9i, haib, hown, hR, hbr, hmv, hsz, heq⟩ := hrel
      have x0 := cells1 hbr.out
      rcases Nat.lt_or_ge i n with hlt | hge
      · have d1 : decide (i < n) = true := decide_eq_true hlt
        have d2 : (i : Int) < (n : Int) := by omega
        have wi : IntKind.i64.wrap ((i : Int) + 1) = (i : Int) + 1 := wrap_i64_in _ (by omega) (by omega)
        have HEQ := Lib.hid (ents_step hlt heq.out)
        clear heq
        rcases hk : numAt b ai with _ | ⟨k, q1⟩
        · have NN := Lib.hid (num_none g b ai wr hR.out haib HM.out hk)
          have HNO : Hid (entsAt b n a1 = none) := by rw [Hid, HEQ.out]; unfold entAt; rw [hk]
          clear hk
          go_wp2_with fail
          refine NN.out.mono ?_
          rintro _ w4 ⟨v, hv, rfl, hm⟩
          have HM4 : Hid (Mv (one1 g) w w4) := hmv.out.trans' hm
          clear hm
          go_wp2_with fail
          refine (cdMustU_no 0 v hv w4).mono ?_
          rintro _ w5 ⟨rfl, rfl⟩
          go_wp2_with fail
          exact ⟨rfl, HM4.out, by rw [HNO.out]; rfl⟩
        · obtain ⟨k1, k2, k3⟩ := numAt_some hk
          have NN := Lib.hid (num_some g b ai wr hR.out haib HM.out k q1 hk)
          have HK := Lib.hid hk
          clear hk
          go_wp2_with fail
          refine NN.out.mono ?_
          rintro _ w4 ⟨rfl, hR4, hm⟩
          have HM4 : Hid (Mv (one1 g) wr w4) := hm
          clear hm x0
          go_wp2_with fail
          refine (cdMustU_ok k w4).mono ?_
          rintro _ w5 ⟨rfl, rfl⟩
          have hbr4 := HM4.out.blk hbr.out (fun h => by have := HGW.out; have : w.heap.size = g := h; omega)
          have hbr5 := ((Fr.refl w4).alloc (.cells #[.int .u64 (k : Nat), .int .u64 0, .bool false] 52)).blk hbr4
          have x0 := cells1 hbr5
          have HBR5 := Lib.hid hbr5
          have HE5 := Lib.hid (heap_alloc_new w4 (.cells #[.int .u64 (k : Nat), .int .u64 0, .bool false] 52))
          have HR5 := Lib.hid (hR4.below ((Fr.refl w4).alloc (.cells #[.int .u64 (k : Nat), .int .u64 0, .bool false] 52)))
          have HM5 : Hid (Mv (one1 g) wr (w4.alloc (.cells #[.int .u64 (k : Nat), .int .u64 0, .bool false] 52))) := HM4.out.then ((Fr.refl w4).alloc _)
          have HG4 : Hid (g < w4.heap.size ∧ w.heap.size + 1 ≤ w4.heap.size ∧ wr.heap.size ≤ w4.heap.size) := by have := isR_lt hR.out; have := HM4.out.size; have := hsz.out; exact ⟨by omega, by omega, by omega⟩
          clear hbr4 hbr5 hR4
          go_wp2_with fail
          obtain ⟨w5, hw5⟩ : ∃ w5, w5 = w4.alloc (.cells #[.int .u64 (k : Nat), .int .u64 0, .bool false] 52) := ⟨_, rfl⟩
          rw [← hw5] at HBR5 HE5 HR5 HM5 x0 ⊢
          clear hw5
          obtain ⟨ge, hge⟩ : ∃ ge, ge = w4.heap.size := ⟨_, rfl⟩
          rw [← hge] at HE5 HG4 ⊢
          clear hge
          rcases hb2 : bytAt b q1 with _ | ⟨gb, q2⟩
          · have BN := Lib.hid (byt_none g b q1 w5 HR5.out k2 HM.out hb2)
            have HNO : Hid (entsAt b n a1 = none) := by rw [Hid, HEQ.out]; unfold entAt; rw [HK.out]; dsimp only; rw [hb2]
            clear hb2
            refine BN.out.mono ?_
            rintro _ w6 ⟨v, hv, rfl, hm⟩
            have HM6 : Hid (Mv (one1 g) w w6) := (hmv.out.trans' HM5.out).trans' hm
            clear hm
            go_wp2_with fail
            refine (cdMustB_no 0 v hv w6).mono ?_
            rintro _ w7 ⟨rfl, rfl⟩
            go_wp2_with fail
            exact ⟨rfl, HM6.out, by rw [HNO.out]; rfl⟩
          · obtain ⟨b1, b2, b3⟩ := bytAt_some k2 hb2
            have BN := Lib.hid (byt_some g b q1 w5 HR5.out k2 HM.out gb q2 hb2)
            have HB2 := Lib.hid hb2
            clear hb2 x0
            refine BN.out.mono ?_
            rintro _ w6 ⟨rfl, hR6, hm⟩
            have HM6 : Hid (Mv (one1 g) wr w6) := HM5.out.trans' hm
            have hbr6 := hm.blk HBR5.out (fun h => by have := HGW.out; have : w.heap.size = g := h; omega)
            have he6 := hm.blk HE5.out (fun h => by have := HG4.out.1; have : ge = g := h; omega)
            have HBR6 := Lib.hid hbr6
            have HE6 := Lib.hid he6
            have HR6 := Lib.hid hR6
            have x0 := cells1 hbr6
            obtain ⟨y0, y1, y2⟩ := cells3 he6
            have z1 := blk_frozen he6 1
            have z2 := blk_frozen he6 2
            clear hm hR6 hbr6 he6
            go_wp2_with fail
            refine (cdMustB_ok gb w6).mono ?_
            rintro _ w7 ⟨rfl, rfl⟩
            rcases Nat.lt_or_ge gb 1 with hg0 | hg1
            · obtain rfl : gb = 0 := by omega
              have hms6 : Mv (one1 ge) w6 (w6.setCell ⟨ge, 2, none⟩ (.bool false)) := (Mv.refl (one1 ge) w6).set (p := ⟨ge, 2, none⟩) (.inl rfl) _
              have HR7 : Hid (IsR (w6.setCell ⟨ge, 2, none⟩ (.bool false)) g b q2) := isR_mv HR6.out hms6 (fun h => by have := HG4.out.1; have : g = ge := h; omega)
              have HM7 : Hid (Mv (one1 g) wr (w6.setCell ⟨ge, 2, none⟩ (.bool false))) := HM6.out.set (p := ⟨ge, 2, none⟩) (.inr HG4.out.2.2) _
              have HE7 : Hid ((w6.setCell ⟨ge, 2, none⟩ (.bool false)).heap[ge]? = some (.cells #[.int .u64 (k : Nat), .int .u64 0, .bool false] 52 (0, 0))) := blk_set HE6.out 2 (.bool false)
              have hbr7 := HM7.out.blk hbr.out (fun h => by have := HGW.out; have : w.heap.size = g := h; omega)
              have x7 := cells1 hbr7
              obtain ⟨t0, t1, t2⟩ := cells3 HE7.out
              clear hms6 hbr7
              rcases hv : numAt b q2 with _ | ⟨v, q3⟩
              · have NV := Lib.hid (num_none g b q2 _ HR7.out b2 HM.out hv)
                have HNO : Hid (entsAt b n a1 = none) := by rw [Hid, HEQ.out]; unfold entAt; rw [HK.out]; dsimp only; rw [HB2.out]; dsimp only; rw [if_neg (by decide), hv]
                clear hv
                go_wp2_with fail
                refine NV.out.mono ?_
                rintro _ w8 ⟨v, hv, rfl, hm⟩
                have HM8 : Hid (Mv (one1 g) w w8) := (hmv.out.trans' HM7.out).trans' hm
                clear hm
                go_wp2_with fail
                refine (cdMustU_no 0 v hv w8).mono ?_
                rintro _ w9 ⟨rfl, rfl⟩
                go_wp2_with fail
                exact ⟨rfl, HM8.out, by rw [HNO.out]; rfl⟩
              · obtain ⟨v1, v2, v3⟩ := numAt_some hv
                have NV := Lib.hid (num_some g b q2 _ HR7.out b2 HM.out v q3 hv)
                have HNX : Hid (entsAt b n a1 = match entsAt b (n - (i + 1)) q3 with | none => none | some (l', a') => some ((l ++ [⟨k, v, false⟩]) ++ l', a')) := by rw [Hid, HEQ.out]; unfold entAt; rw [HK.out]; dsimp only; rw [HB2.out]; dsimp only; rw [if_neg (by decide), hv]
                clear hv
                go_wp2_with fail
                refine NV.out.mono ?_
                rintro _ w8 ⟨rfl, hR8, hm⟩
                have HM8 : Hid (Mv (one1 g) wr w8) := HM7.out.trans' hm
                have he8 := hm.blk HE7.out (fun h => by have := HG4.out.1; have : ge = g := h; omega)
                have HE8 := Lib.hid he8
                have HR8 := Lib.hid hR8
                have z8 := blk_frozen he8 1
                obtain ⟨r0, r1, r2⟩ := cells3 he8
                clear hm hR8 he8 x7 t0 t1 t2
                go_wp2_with fail
                refine (cdMustU_ok v w8).mono ?_
                rintro _ w9 ⟨rfl, rfl⟩
                obtain ⟨qz, hqz⟩ : ∃ qz, qz = q3 := ⟨_, rfl⟩
                rw [← hqz] at HNX HR8
                have hqb : qz ≤ b.size ∧ 9 * (i + 1) ≤ qz := by omega
                obtain ⟨wq, hwq⟩ : ∃ wq, wq = w8.setCell ⟨ge, 1, none⟩ (.int .u64 (v : Nat)) := ⟨_, rfl⟩
                have HMQ0 : Hid (Mv (one1 g) wr wq) := by rw [hwq]; exact HM8.out.set (p := ⟨ge, 1, none⟩) (.inr HG4.out.2.2) _
                have HRQ : Hid (IsR wq g b qz) := by rw [hwq]; exact isR_mv HR8.out ((Mv.refl (one1 ge) w8).set (p := ⟨ge, 1, none⟩) (.inl rfl) _) (fun h => by have := HG4.out.1; have : g = ge := h; omega)
                have HEQQ : Hid ((w8.setCell ⟨ge, 1, none⟩ (.int .u64 (v : Nat))).heap[ge]? = some (.cells #[.int .u64 (k : Nat), .int .u64 (v : Nat), .bool false] 52 (0, 0))) := blk_set HE8.out 1 (.int .u64 (v : Nat))
                obtain ⟨s0, s1, s2⟩ := cells3 HEQQ.out
                clear hqz
                go_wp2_with (at_builtin; refine gate ?_)
                rw [← hwq] at HEQQ ⊢
                have HOWNQ : Hid (Own wq (w.heap.size + 1) 52 3 Al i cl (l.flatMap encells)) := hown.out.mv HMQ0.out (fun k hk h => by have h9 := (hown.out.lt k hk).1; have := HGW.out; have : k = g := h; omega)
                have HMQ : Hid (Mv (one1 g) w wq) := hmv.out.trans' HMQ0.out
                have HBRQ : Hid (wq.heap[w.heap.size]? = some (.cells #[.pointer (some ⟨g, 0, none⟩)] 86 (0, 0))) := HMQ0.out.blk hbr.out (fun h => by have := HGW.out; have : w.heap.size = g := h; omega)
                have HSQ : Hid (w.heap.size + 1 ≤ wq.heap.size) := by have := hsz.out; have := HMQ0.out.size; rw [Hid]; omega
                have HSE : Hid (wq.heap.size = w8.heap.size) := by rw [hwq]; simp [Hid, World.setCell]
                clear hwq
                refine gate_app rfl _ _ 22 rfl 52 (.agg #[.int .u64 0, .int .u64 0, .bool false]) 3 24 Tryz.underlying22 info_ent rfl (by omega) (by omega) (w.heap.size + 1) Al i cl (l.flatMap encells) (some ⟨w8.heap.size, 0, none⟩) 1 1 ([(⟨k, v, false⟩ : Ent)].flatMap encells) (by rfl) (by rfl)
                  (HOWNQ.out.fr ((Fr.refl wq).alloc _)) rfl (by rw [← HSE.out]; exact RdC.of_blk (heap_alloc_new wq _)) (ent_one [(⟨k, v, false⟩ : Ent)]) (by omega) (by have := HSQ.out; simp; omega) ?_
                intro A6 c6 w9 hown6 hgr6 hat6
                have hm9 : Hid (Mv (fun k => ablk Al = some k) wq w9) := ((Mv.of_fr ((Fr.refl wq).alloc _)).grown hgr6.out (fun j hj => .inl hj))
                have HM9 : Hid (Mv (one1 g) w w9) := HMQ.out.trans hm9.out (fun k hk => .inr (by have := (HOWNQ.out.lt k hk).1; omega))
                have HBR9 : Hid (w9.heap[w.heap.size]? = some (.cells #[.pointer (some ⟨g, 0, none⟩)] 86 (0, 0))) := hm9.out.blk HBRQ.out (fun h => by have := (HOWNQ.out.lt _ h).1; omega)
                have HR9 : Hid (IsR w9 g b qz) := isR_mv HRQ.out hm9.out (fun h => by have := (HOWNQ.out.lt _ h).1; have := HGW.out; omega)
                have HS9 : Hid (w.heap.size + 1 ≤ w9.heap.size) := by have := HSQ.out; have := hm9.out.size; rw [Hid]; omega
                have HOWN9 := hown6
                clear hown6 hgr6 hat6 hm9
                go_wp2_with fail
                exact ⟨⟨i + 1, qz, A6, c6, l ++ [(⟨k, v, false⟩ : Ent)], rfl, rfl, by omega, by rw [Hid, List.length_append, hll.out]; rfl, by omega, by omega, by rw [Hid, List.flatMap_append]; exact HOWN9.out, HR9.out, HBR9.out, HM9.out, HS9.out, HNX.out⟩, by simp only [intOf]; omega⟩
            · obtain rfl : gb = 1 := by omega
              have HNX : Hid (entsAt b n a1 = match entsAt b (n - (i + 1)) q2 with | none => none | some (l', a') => some ((l ++ [⟨k, 0, true⟩]) ++ l', a')) := by rw [Hid, HEQ.out]; unfold entAt; rw [HK.out]; dsimp only; rw [HB2.out]; rfl
              obtain ⟨qz, hqz⟩ : ∃ qz, qz = q2 := ⟨_, rfl⟩
              rw [← hqz] at HNX HR6
              have hqb : qz ≤ b.size ∧ 9 * (i + 1) ≤ qz := by omega
              obtain ⟨wq, hwq⟩ : ∃ wq, wq = w6.setCell ⟨ge, 2, none⟩ (.bool true) := ⟨_, rfl⟩
              have HMQ0 : Hid (Mv (one1 g) wr wq) := by rw [hwq]; exact HM6.out.set (p := ⟨ge, 2, none⟩) (.inr HG4.out.2.2) _
              have HRQ : Hid (IsR wq g b qz) := by rw [hwq]; exact isR_mv HR6.out ((Mv.refl (one1 ge) w6).set (p := ⟨ge, 2, none⟩) (.inl rfl) _) (fun h => by have := HG4.out.1; have : g = ge := h; omega)
              have HEQQ : Hid ((w6.setCell ⟨ge, 2, none⟩ (.bool true)).heap[ge]? = some (.cells #[.int .u64 (k : Nat), .int .u64 0, .bool true] 52 (0, 0))) := blk_set HE6.out 2 (.bool true)
              obtain ⟨s0, s1, s2⟩ := cells3 HEQQ.out
              clear hqz
              go_wp2_with (at_builtin; refine gate ?_)
              rw [← hwq] at HEQQ ⊢
              have HOWNQ : Hid (Own wq (w.heap.size + 1) 52 3 Al i cl (l.flatMap encells)) := hown.out.mv HMQ0.out (fun k hk h => by have h9 := (hown.out.lt k hk).1; have := HGW.out; have : k = g := h; omega)
              have HMQ : Hid (Mv (one1 g) w wq) := hmv.out.trans' HMQ0.out
              have HBRQ : Hid (wq.heap[w.heap.size]? = some (.cells #[.pointer (some ⟨g, 0, none⟩)] 86 (0, 0))) := HMQ0.out.blk hbr.out (fun h => by have := HGW.out; have : w.heap.size = g := h; omega)
              have HSQ : Hid (w.heap.size + 1 ≤ wq.heap.size) := by have := hsz.out; have := HMQ0.out.size; rw [Hid]; omega
              have HSE : Hid (wq.heap.size = w6.heap.size) := by rw [hwq]; simp [Hid, World.setCell]
              clear hwq
              refine gate_app rfl _ _ 22 rfl 52 (.agg #[.int .u64 0, .int .u64 0, .bool false]) 3 24 Tryz.underlying22 info_ent rfl (by omega) (by omega) (w.heap.size + 1) Al i cl (l.flatMap encells) (some ⟨w6.heap.size, 0, none⟩) 1 1 ([(⟨k, 0, true⟩ : Ent)].flatMap encells) (by rfl) (by rfl)
                (HOWNQ.out.fr ((Fr.refl wq).alloc _)) rfl (by rw [← HSE.out]; exact RdC.of_blk (heap_alloc_new wq _)) (ent_one [(⟨k, 0, true⟩ : Ent)]) (by omega) (by have := HSQ.out; simp; omega) ?_
              intro A6 c6 w9 hown6 hgr6 hat6
              have hm9 : Hid (Mv (fun k => ablk Al = some k) wq w9) := ((Mv.of_fr ((Fr.refl wq).alloc _)).grown hgr6.out (fun j hj => .inl hj))
              have HM9 : Hid (Mv (one1 g) w w9) := HMQ.out.trans hm9.out (fun k hk => .inr (by have := (HOWNQ.out.lt k hk).1; omega))
              have HBR9 : Hid (w9.heap[w.heap.size]? = some (.cells #[.pointer (some ⟨g, 0, none⟩)] 86 (0, 0))) := hm9.out.blk HBRQ.out (fun h => by have := (HOWNQ.out.lt _ h).1; omega)
              have HR9 : Hid (IsR w9 g b qz) := isR_mv HRQ.out hm9.out (fun h => by have := (HOWNQ.out.lt _ h).1; have := HGW.out; omega)
              have HS9 : Hid (w.heap.size + 1 ≤ w9.heap.size) := by have := HSQ.out; have := hm9.out.size; rw [Hid]; omega
              have HOWN9 := hown6
              clear hown6 hgr6 hat6 hm9
              go_wp2_with fail
              exact ⟨⟨i + 1, qz, A6, c6, l ++ [(⟨k, 0, true⟩ : Ent)], rfl, rfl, by omega, by rw [Hid, List.length_append, hll.out]; rfl, by omega, by omega, by rw [Hid, List.flatMap_append]; exact HOWN9.out, HR9.out, HBR9.out, HM9.out, HS9.out, HNX.out⟩, by simp only [intOf]; omega⟩
      · obtain rfl : i = n := by omega
        have d1 : decide (i < i) = false := by simp
        have HFIN : Hid (entsAt b i a1 = some (l, ai)) := by
          have h9 := heq.out
          rw [Nat.sub_self] at h9
          rw [Hid, h9]
          unfold entsAt
          simp
        clear heq
        go_wp2_with fail
        go_ret
        refine ⟨hmv.out, ?_⟩
        rw [HFIN.out]
        exact ⟨Al, cl, by rw [hll.out]; rfl, by rw [hll.out]; exact hown.out.mono (by omega), hR.out⟩
end Go.Proofs.YthjimnmgbcckjaaGreat
namespace Go.Proofs.YthjimnmgbcckjaaGreat
open Go.RowKit Go.Inc Go.Run

/-- What begins a run's bytes. -/
def incW : List UInt8 := [73, 78, 67, 49]
/-- Bytes that stand at a place. -/
def Has (b : ByteArray) (a : Nat) (x : List UInt8) : Prop := x <+: b.data.toList.drop a
theorem prefix_app {α : Type} {x y l : List α} : (x ++ y) <+: l ↔ x <+: l ∧ y <+: l.drop x.length := by
  constructor
  · rintro ⟨t, rfl⟩
    exact ⟨⟨y ++ t, by simp⟩, ⟨t, by simp⟩⟩
  · rintro ⟨⟨t, rfl⟩, ⟨s, hs⟩⟩
    refine ⟨s, ?_⟩
    rw [List.drop_left] at hs
    rw [← hs, List.append_assoc]
theorem has_app {b : ByteArray} {a : Nat} {x y : List UInt8} : Has b a (x ++ y) ↔ Has b a x ∧ Has b (a + x.length) y := by
  unfold Has
  rw [prefix_app, List.drop_drop]
theorem has_nil (b : ByteArray) (a : Nat) : Has b a [] := List.nil_prefix
theorem ba_len (b : ByteArray) : b.data.toList.length = b.size := by simp
theorem has_le {b : ByteArray} {a : Nat} {x : List UInt8} (h : Has b a x) (ha : a ≤ b.size) : a + x.length ≤ b.size := by
  have := List.IsPrefix.length_le h
  rw [List.length_drop, ba_len] at this
  omega
theorem has_mono {b b' : ByteArray} {a : Nat} {x : List UInt8} (h : Has b a x) (hp : b.data.toList <+: b'.data.toList) (ha : a ≤ b.size) : Has b' a x := by
  obtain ⟨t, ht⟩ := hp
  unfold Has
  rw [← ht, List.drop_append_of_le_length (by rw [ba_len]; exact ha)]
  exact List.IsPrefix.trans h (List.prefix_append _ _)
theorem be_div (b : ByteArray) (a k : Nat) : ∀ j, be b a (k + j) / 256 ^ j = be b a k
  | 0 => by simp
  | j + 1 => by
    have h1 : be b a (k + (j + 1)) = be b a (k + j) * 256 + bt b (a + (k + j)) := rfl
    have := bt_lt b (a + (k + j))
    rw [h1, Nat.pow_succ', ← Nat.div_div_eq_div_mul, show (be b a (k + j) * 256 + bt b (a + (k + j))) / 256 = be b a (k + j) by omega]
    exact be_div b a k j
theorem be8_of (b : ByteArray) (a : Nat) (h : a + 8 ≤ b.size) : be8 (be b a 8) <+: b.data.toList.drop a := by
  have h9 : be8 (be b a 8) = (b.data.toList.drop a).take 8 := by
    apply List.ext_getElem?
    intro i
    by_cases hi : i < 8
    · rw [be8_get _ i hi, List.getElem?_take_of_lt hi, List.getElem?_drop, List.getElem?_eq_getElem (by rw [ba_len]; omega)]
      have h2 : be b a 8 / 256 ^ (7 - i) = be b a (i + 1) := by
        have := be_div b a (i + 1) (7 - i)
        rw [show i + 1 + (7 - i) = 8 by omega] at this
        exact this
      rw [h2, show be b a (i + 1) = be b a i * 256 + bt b (a + i) from rfl]
      congr 1
      apply UInt8.toNat_inj.1
      rw [UInt8.toNat_ofNat']
      have h3 := bt_lt b (a + i)
      have h4 : bt b (a + i) = (b.data.toList[a + i]'(by rw [ba_len]; omega)).toNat := by
        unfold bt
        rw [List.getD_eq_getElem?_getD, List.getElem?_eq_getElem (by rw [ba_len]; omega)]
        rfl
      omega
    · rw [List.getElem?_eq_none (by rw [be8_length]; omega), List.getElem?_eq_none (by rw [List.length_take]; omega)]
  rw [h9]
  exact List.take_prefix _ _
theorem be_of {b : ByteArray} {a x : Nat} (hx : x < 18446744073709551616) (h : Has b a (be8 x)) : a + 8 ≤ b.size ∧ be b a 8 = x := by
  have hl := List.IsPrefix.length_le h
  rw [List.length_drop, ba_len, be8_length] at hl
  obtain ⟨t, ht⟩ := h
  refine ⟨by omega, ?_⟩
  have h1 : b = ⟨(b.data.toList.take a ++ be8 x ++ t).toArray⟩ := by
    have : b.data.toList.take a ++ be8 x ++ t = b.data.toList := by rw [List.append_assoc, ht, List.take_append_drop]
    rw [this]
  have h2 := be_be8 (b.data.toList.take a) t x hx
  rw [← h1, List.length_take, ba_len, Nat.min_eq_left (by omega)] at h2
  exact h2
theorem numAt_iff {b : ByteArray} {a x a' : Nat} : numAt b a = some (x, a') ↔ x < 18446744073709551616 ∧ Has b a (be8 x) ∧ a' = a + 8 := by
  unfold numAt
  constructor
  · intro h
    split at h
    · cases h
    · injection h with h; injection h with h1 h2
      subst h1; subst h2
      exact ⟨be8_lt b a, be8_of b a (by omega), rfl⟩
  · rintro ⟨hx, h, rfl⟩
    obtain ⟨h1, h2⟩ := be_of hx h
    rw [if_neg (by omega), h2]
theorem cntAt_iff {b : ByteArray} {a m x a' : Nat} : cntAt b a m = some (x, a') ↔ (x ≤ m ∧ x < 18446744073709551616) ∧ Has b a (be8 x) ∧ a' = a + 8 := by
  unfold cntAt
  constructor
  · intro h
    split at h
    · cases h
    · injection h with h; injection h with h1 h2
      subst h1; subst h2
      exact ⟨⟨by omega, be8_lt b a⟩, be8_of b a (by omega), rfl⟩
  · rintro ⟨⟨hm, hx⟩, h, rfl⟩
    obtain ⟨h1, h2⟩ := be_of hx h
    rw [if_neg (by omega), h2]
theorem fltAt_iff {b : ByteArray} {a x a' : Nat} : fltAt b a = some (x, a') ↔ (Go.Inc.fin x = true ∧ x < 18446744073709551616) ∧ Has b a (be8 x) ∧ a' = a + 8 := by
  unfold fltAt
  constructor
  · intro h
    split at h
    · cases h
    · rename_i hc
      injection h with h; injection h with h1 h2
      subst h1; subst h2
      exact ⟨⟨by cases hf : Go.Inc.fin (be b a 8) with
        | true => rfl
        | false => exact absurd (.inr hf) hc, be8_lt b a⟩, be8_of b a (by omega), rfl⟩
  · rintro ⟨⟨hf, hx⟩, h, rfl⟩
    obtain ⟨h1, h2⟩ := be_of hx h
    rw [if_neg (by rw [h2, hf]; simp; omega), h2]
theorem bytAt_iff {b : ByteArray} {a x a' : Nat} (ha : a ≤ b.size) : bytAt b a = some (x, a') ↔ x ≤ 1 ∧ Has b a [UInt8.ofNat x] ∧ a' = a + 1 := by
  have hb : ∀ h : a < b.size, bt b a = (b.data.toList[a]'(by rw [ba_len]; exact h)).toNat := fun h => by
    unfold bt
    rw [List.getD_eq_getElem?_getD, List.getElem?_eq_getElem (by rw [ba_len]; exact h)]
    rfl
  unfold bytAt
  constructor
  · intro h
    split at h
    · cases h
    · rename_i hc
      injection h with h; injection h with h1 h2
      subst h1; subst h2
      have hlt : a < b.size := by omega
      refine ⟨by omega, ?_, rfl⟩
      unfold Has
      rw [List.drop_eq_getElem_cons (by rw [ba_len]; exact hlt), hb hlt, UInt8.ofNat_toNat]
      exact ⟨_, rfl⟩
  · rintro ⟨h1, h, rfl⟩
    have hlt := has_le h ha
    have hlt : a < b.size := hlt
    unfold Has at h
    rw [List.drop_eq_getElem_cons (by rw [ba_len]; exact hlt), List.cons_prefix_cons] at h
    have h2 : bt b a = x := by
      rw [hb hlt, ← h.1, UInt8.toNat_ofNat']
      omega
    rw [if_neg (by omega), h2]
/-- The bytes of an entry. -/
def encE (e : Ent) : List UInt8 := be8 e.key.toNat ++ (if e.gone then [1] else 0 :: be8 e.val.toNat)
theorem encE_len (e : Ent) : (encE e).length = if e.gone then 9 else 17 := by
  unfold encE
  cases e.gone <;> simp [be8_length]
theorem entAt_iff {b : ByteArray} {a a' : Nat} {e : Ent} (_ha : a ≤ b.size) : entAt b a = some (e, a') ↔ (EntOk e ∧ badE e = false) ∧ Has b a (encE e) ∧ a' = a + (encE e).length := by
  constructor
  · intro h
    unfold entAt at h
    split at h
    · cases h
    · rename_i k a1 h1
      obtain ⟨p1, p2, rfl⟩ := numAt_iff.1 h1
      have hle1 : a + 8 ≤ b.size := (be_of p1 p2).1
      split at h
      · cases h
      · rename_i g a2 h2
        obtain ⟨q1, q2, rfl⟩ := (bytAt_iff hle1).1 h2
        split at h
        · rename_i hg
          subst hg
          injection h with h; injection h with h4 h5
          subst h4; subst h5
          refine ⟨⟨⟨⟨by show (0 : Int) ≤ (k : Int); omega, by show (k : Int) < _; omega⟩, by show (0 : Int) ≤ 0; omega, by show (0 : Int) < _; omega⟩, rfl⟩, ?_, by rw [encE_len]; rfl⟩
          unfold encE
          rw [has_app]
          exact ⟨p2, by rw [be8_length]; exact q2⟩
        · rename_i hg
          have hg : g = 0 := by omega
          subst hg
          split at h
          · cases h
          · rename_i v a3 h3
            obtain ⟨r1, r2, rfl⟩ := numAt_iff.1 h3
            injection h with h; injection h with h4 h5
            subst h4; subst h5
            refine ⟨⟨⟨⟨by show (0 : Int) ≤ (k : Int); omega, by show (k : Int) < _; omega⟩, by show (0 : Int) ≤ (v : Int); omega, by show (v : Int) < _; omega⟩, rfl⟩, ?_, by rw [encE_len]; show _ = a + 17; omega⟩
            show Has b a (be8 k ++ ([0] ++ be8 v))
            rw [has_app, has_app]
            exact ⟨p2, by rw [be8_length]; exact q2, by rw [be8_length]; exact r2⟩
  · rintro ⟨⟨⟨⟨h1, h2⟩, h3, h4⟩, h5⟩, h6, rfl⟩
    obtain ⟨key, val, gone⟩ := e
    obtain ⟨k, rfl⟩ := Int.eq_ofNat_of_zero_le h1
    obtain ⟨v, rfl⟩ := Int.eq_ofNat_of_zero_le h3
    have hk : k < 18446744073709551616 := by have : (k : Int) < 18446744073709551616 := h2; omega
    have hv : v < 18446744073709551616 := by have : (v : Int) < 18446744073709551616 := h4; omega
    have e1 : ∀ hh, numAt b a = some (k, hh) ↔ Has b a (be8 k) ∧ hh = a + 8 := fun hh => by rw [numAt_iff]; exact ⟨fun h => h.2, fun h => ⟨hk, h⟩⟩
    rw [encE_len]
    unfold encE at h6
    rw [has_app] at h6
    obtain ⟨h6, h7⟩ := h6
    rw [be8_length] at h7
    have hle1 : a + 8 ≤ b.size := (be_of hk h6).1
    unfold entAt
    rw [(e1 (a + 8)).2 ⟨h6, rfl⟩]
    cases gone with
    | true =>
      have hv0 : v = 0 := by simpa [badE] using h5
      subst hv0
      dsimp only
      rw [(bytAt_iff hle1 (x := 1)).2 ⟨Nat.le_refl _, h7, rfl⟩]
      rfl
    | false =>
      dsimp only
      have h7 : Has b (a + 8) ([0] ++ be8 v) := h7
      rw [has_app] at h7
      rw [(bytAt_iff hle1 (x := 0)).2 ⟨by omega, h7.1, rfl⟩]
      dsimp only
      rw [if_neg (by decide), numAt_iff.2 ⟨hv, (show Has b (a + 8 + 1) (be8 v) from h7.2), rfl⟩]
      rfl
theorem entsAt_iff {b : ByteArray} : ∀ {n a a' : Nat} {l : List Ent}, a ≤ b.size → (entsAt b n a = some (l, a') ↔ l.length = n ∧ (∀ e ∈ l, EntOk e ∧ badE e = false) ∧ Has b a (l.flatMap encE) ∧ a' = a + (l.flatMap encE).length)
  | 0, a, a', l, ha => by
    unfold entsAt
    constructor
    · intro h
      injection h with h; injection h with h1 h2
      subst h1; subst h2
      exact ⟨rfl, fun e he => by simp at he, has_nil _ _, rfl⟩
    · rintro ⟨h1, _, _, rfl⟩
      obtain rfl := List.length_eq_zero_iff.1 h1
      rfl
  | n + 1, a, a', l, ha => by
    unfold entsAt
    constructor
    · intro h
      split at h
      · cases h
      · rename_i e a1 h1
        obtain ⟨p1, p2, rfl⟩ := (entAt_iff ha).1 h1
        split at h
        · cases h
        · rename_i l2 a2 h2
          obtain ⟨q1, q2, q3, rfl⟩ := (entsAt_iff (has_le p2 ha)).1 h2
          injection h with h; injection h with h4 h5
          subst h4; subst h5
          refine ⟨by simp [q1], fun x hx => ?_, ?_, by rw [List.flatMap_cons, List.length_append]; omega⟩
          · rcases List.mem_cons.1 hx with rfl | hx
            · exact p1
            · exact q2 x hx
          · rw [List.flatMap_cons, has_app]; exact ⟨p2, q3⟩
    · rintro ⟨h1, h2, h3, rfl⟩
      cases l with
      | nil => simp at h1
      | cons e l =>
        rw [List.flatMap_cons, has_app] at h3
        rw [(entAt_iff ha).2 ⟨h2 e (by simp), h3.1, rfl⟩]
        dsimp only
        rw [(entsAt_iff (has_le h3.1 ha)).2 ⟨by simpa using h1, fun x hx => h2 x (by simp [hx]), h3.2, rfl⟩]
        dsimp only
        rw [List.flatMap_cons, List.length_append, Nat.add_assoc]
/-- The bytes of a segment, of a row. -/
def encS (s : Seg) : List UInt8 := be8 s.upto.toNat ++ (be8 s.slope ++ be8 s.inter)
theorem encS_len (s : Seg) : (encS s).length = 24 := by simp [encS, be8_length]
def encRow (S : List Seg) : List UInt8 := be8 S.length ++ S.flatMap encS
/-- A row's segments stand behind one another, and have floats. -/
def ChainS (K : List Int) : Nat → List Seg → Prop
  | _, [] => True
  | f, s :: S => (s.frm = (f : Nat) ∧ f < K.length ∧ s.first = ky K f ∧ 0 ≤ s.upto ∧ s.upto ≤ 4294967296) ∧ (Go.Inc.fin s.slope = true ∧ s.slope < 18446744073709551616) ∧ (Go.Inc.fin s.inter = true ∧ s.inter < 18446744073709551616) ∧ ChainS K s.upto.toNat S
theorem segAt_iff {b : ByteArray} {a t s i a' : Nat} : segAt b a = some ((t, s, i), a') ↔ (t ≤ 4294967296) ∧ (Go.Inc.fin s = true ∧ s < 18446744073709551616) ∧ (Go.Inc.fin i = true ∧ i < 18446744073709551616) ∧ Has b a (be8 t ++ (be8 s ++ be8 i)) ∧ a' = a + 24 := by
  unfold segAt
  rw [has_app, has_app, be8_length, be8_length]
  constructor
  · intro h
    split at h
    · cases h
    · rename_i t1 a1 h1
      obtain ⟨p1, p2, rfl⟩ := cntAt_iff.1 h1
      split at h
      · cases h
      · rename_i s1 a2 h2
        obtain ⟨q1, q2, rfl⟩ := fltAt_iff.1 h2
        split at h
        · cases h
        · rename_i i1 a3 h3
          obtain ⟨r1, r2, rfl⟩ := fltAt_iff.1 h3
          injection h with h; injection h with h4 h5
          injection h4 with h4 h6; injection h6 with h6 h7
          subst h4; subst h5; subst h6; subst h7
          exact ⟨p1.1, q1, r1, ⟨p2, q2, r2⟩, rfl⟩
  · rintro ⟨h1, h2, h3, ⟨h4, h5, h6⟩, rfl⟩
    rw [cntAt_iff.2 ⟨⟨h1, by omega⟩, h4, rfl⟩]
    dsimp only
    rw [fltAt_iff.2 ⟨h2, h5, rfl⟩]
    dsimp only
    rw [fltAt_iff.2 ⟨h3, h6, rfl⟩]
theorem rowAt_iff {b : ByteArray} {K : List Int} : ∀ {n f a a' : Nat} {S : List Seg}, a ≤ b.size → (rowAt' b K n f a = some (S, a') ↔ S.length = n ∧ ChainS K f S ∧ Has b a (S.flatMap encS) ∧ a' = a + (S.flatMap encS).length)
  | 0, f, a, a', S, ha => by
    unfold rowAt'
    constructor
    · intro h
      injection h with h; injection h with h1 h2
      subst h1; subst h2
      exact ⟨rfl, trivial, has_nil _ _, rfl⟩
    · rintro ⟨h1, _, _, rfl⟩
      obtain rfl := List.length_eq_zero_iff.1 h1
      rfl
  | n + 1, f, a, a', S, ha => by
    unfold rowAt'
    constructor
    · intro h
      split at h
      · cases h
      · rename_i t s i a1 h1
        obtain ⟨p1, p2, p3, p4, rfl⟩ := segAt_iff.1 h1
        have hle := has_le p4 ha
        rw [List.length_append, List.length_append, be8_length, be8_length, be8_length] at hle
        split at h
        · rename_i hf
          split at h
          · cases h
          · rename_i S2 a2 h2
            obtain ⟨q1, q2, q3, rfl⟩ := (rowAt_iff (by omega)).1 h2
            injection h with h; injection h with h4 h5
            subst h4; subst h5
            refine ⟨by simp [q1], ⟨⟨rfl, hf, rfl, by show (0 : Int) ≤ (t : Int); omega, by show (t : Int) ≤ _; omega⟩, p2, p3, q2⟩, ?_, by rw [List.flatMap_cons, List.length_append, encS_len]; omega⟩
            rw [List.flatMap_cons, has_app, encS_len]
            exact ⟨p4, q3⟩
        · cases h
    · rintro ⟨h1, h2, h3, rfl⟩
      cases S with
      | nil => simp at h1
      | cons s S =>
        rw [List.flatMap_cons, has_app, encS_len] at h3
        obtain ⟨⟨c1, c2, c3, c4, c5⟩, c6, c7, c8⟩ := h2
        obtain ⟨first, slope, inter, frm, upto⟩ := s
        obtain ⟨t, rfl⟩ := Int.eq_ofNat_of_zero_le c4
        have c1 : frm = (f : Nat) := c1
        have c3 : first = ky K f := c3
        have c5 : (t : Int) ≤ 4294967296 := c5
        subst c1; subst c3
        have hle := has_le h3.1 ha
        rw [encS_len] at hle
        rw [segAt_iff.2 ⟨by omega, c6, c7, h3.1, rfl⟩]
        dsimp only
        rw [if_pos c2, (rowAt_iff (by omega)).2 ⟨by simpa using h1, c8, h3.2, rfl⟩]
        dsimp only
        rw [List.flatMap_cons, List.length_append, encS_len, Nat.add_assoc]
        rfl
def LevC : List Int → List (List Seg) → Prop
  | _, [] => True
  | K, S :: Ss => S.length ≤ 4294967296 ∧ ChainS K 0 S ∧ LevC (firstsOf S) Ss
theorem levsAt_iff {b : ByteArray} : ∀ {n a a' : Nat} {K : List Int} {Ss : List (List Seg)}, a ≤ b.size → (levsAt b K n a = some (Ss, a') ↔ Ss.length = n ∧ LevC K Ss ∧ Has b a (Ss.flatMap encRow) ∧ a' = a + (Ss.flatMap encRow).length)
  | 0, a, a', K, Ss, ha => by
    unfold levsAt
    constructor
    · intro h
      injection h with h; injection h with h1 h2
      subst h1; subst h2
      exact ⟨rfl, trivial, has_nil _ _, rfl⟩
    · rintro ⟨h1, _, _, rfl⟩
      obtain rfl := List.length_eq_zero_iff.1 h1
      rfl
  | n + 1, a, a', K, Ss, ha => by
    unfold levsAt
    constructor
    · intro h
      split at h
      · cases h
      · rename_i m a1 h1
        obtain ⟨p1, p2, rfl⟩ := cntAt_iff.1 h1
        have hle := has_le p2 ha
        rw [be8_length] at hle
        split at h
        · cases h
        · rename_i S a2 h2
          obtain ⟨q1, q2, q3, rfl⟩ := (rowAt_iff hle).1 h2
          split at h
          · cases h
          · rename_i Ss2 a3 h3
            obtain ⟨r1, r2, r3, rfl⟩ := (levsAt_iff (has_le q3 hle)).1 h3
            injection h with h; injection h with h4 h5
            subst h4; subst h5
            subst q1
            refine ⟨by simp [r1], ⟨p1.1, q2, r2⟩, ?_, by rw [List.flatMap_cons, List.length_append, encRow, List.length_append, be8_length]; omega⟩
            rw [List.flatMap_cons, has_app, encRow, has_app, be8_length, List.length_append, be8_length, ← Nat.add_assoc]
            exact ⟨⟨p2, q3⟩, r3⟩
    · rintro ⟨h1, h2, h3, rfl⟩
      cases Ss with
      | nil => simp at h1
      | cons S Ss =>
        rw [List.flatMap_cons, has_app, encRow, has_app, be8_length, List.length_append, be8_length, ← Nat.add_assoc] at h3
        obtain ⟨⟨h3, h4⟩, h5⟩ := h3
        obtain ⟨c1, c2, c3⟩ := h2
        have hle := has_le h3 ha
        rw [be8_length] at hle
        rw [cntAt_iff.2 ⟨⟨c1, by omega⟩, h3, rfl⟩]
        dsimp only
        rw [(rowAt_iff hle).2 ⟨rfl, c2, h4, rfl⟩]
        dsimp only
        rw [(levsAt_iff (has_le h4 hle)).2 ⟨by simpa using h1, c3, h5, rfl⟩]
        dsimp only
        rw [List.flatMap_cons, List.length_append, encRow, List.length_append, be8_length]
        simp only [Nat.add_assoc]
/-- The bytes of entries, of a run. -/
def encEs (E : List Ent) : List UInt8 := be8 E.length ++ E.flatMap encE
def encLs (Ss : List (List Seg)) : List UInt8 := be8 Ss.length ++ Ss.flatMap encRow
def encB (wd : List UInt8) (eps : Nat) (E : List Ent) (Ss : List (List Seg)) : List UInt8 := wd ++ (be8 eps ++ (encEs E ++ encLs Ss))
structure Codes (eps : Nat) (E : List Ent) (Ss : List (List Seg)) : Prop where
  eps : eps ≤ 64
  elen : E.length ≤ 4294967296
  ents : ∀ e ∈ E, EntOk e ∧ badE e = false
  slen : Ss.length ≤ 4294967296
  levs : LevC (keysE E) Ss
/-- What is read at the beginning, and how far. -/
def decP (wd : List UInt8) (b : ByteArray) : Option ((Nat × List Ent × List (List Seg)) × Nat) :=
  if (rdW b 0 wd).1 ≠ 0 then none else match cntAt b wd.length 64 with
  | none => none
  | some (eps, a1) => match entsOf b a1 with
    | none => none
    | some (E, a2) => match cntAt b a2 4294967296 with
      | none => none
      | some (h, a3) => match levsAt b (keysE E) h a3 with
        | none => none
        | some (Ss, a4) => some ((eps, E, Ss), a4)
theorem decB_eq (wd : List UInt8) (b : ByteArray) : decB wd b = match decP wd b with | none => none | some (x, a) => if b.size = a then some x else none := by
  unfold decB decP
  by_cases h : (rdW b 0 wd).1 ≠ 0
  · rw [if_pos h, if_pos h]
  · rw [if_neg h, if_neg h]
    cases cntAt b wd.length 64 with
    | none => rfl
    | some p =>
      obtain ⟨eps, a1⟩ := p
      dsimp only
      cases entsOf b a1 with
      | none => rfl
      | some p =>
        obtain ⟨E, a2⟩ := p
        dsimp only
        cases cntAt b a2 4294967296 with
        | none => rfl
        | some p =>
          obtain ⟨n, a3⟩ := p
          dsimp only
          cases levsAt b (keysE E) n a3 with
          | none => rfl
          | some p => rfl
theorem rdW_iff (b : ByteArray) (wd : List UInt8) : (rdW b 0 wd).1 = 0 ↔ Has b 0 wd := by
  unfold rdW Has
  rw [List.drop_zero]
  constructor
  · intro h
    split at h
    · exact absurd h (by decide)
    · split at h
      · rename_i h2
        unfold wordAt at h2
        rw [List.drop_zero] at h2
        rw [← eq_of_beq h2]
        exact List.take_prefix _ _
      · exact absurd h (by decide)
  · intro h
    have hl := List.IsPrefix.length_le h
    rw [ba_len] at hl
    rw [if_neg (by omega), if_pos]
    unfold wordAt
    rw [List.drop_zero, List.prefix_iff_eq_take.1 h]
    simp
theorem entsOf_iff {b : ByteArray} {a a' : Nat} {E : List Ent} (ha : a ≤ b.size) : entsOf b a = some (E, a') ↔ E.length ≤ 4294967296 ∧ (∀ e ∈ E, EntOk e ∧ badE e = false) ∧ Has b a (encEs E) ∧ a' = a + (encEs E).length := by
  unfold entsOf encEs
  rw [has_app, be8_length, List.length_append, be8_length]
  constructor
  · intro h
    split at h
    · cases h
    · rename_i n a1 h1
      obtain ⟨p1, p2, rfl⟩ := cntAt_iff.1 h1
      have hle := has_le p2 ha
      rw [be8_length] at hle
      obtain ⟨q1, q2, q3, rfl⟩ := (entsAt_iff hle).1 h
      subst q1
      exact ⟨p1.1, q2, ⟨p2, q3⟩, by omega⟩
  · rintro ⟨h1, h2, ⟨h3, h4⟩, rfl⟩
    have hle := has_le h3 ha
    rw [be8_length] at hle
    rw [cntAt_iff.2 ⟨⟨h1, by omega⟩, h3, rfl⟩]
    dsimp only
    rw [(entsAt_iff hle).2 ⟨rfl, h2, h4, rfl⟩, Nat.add_assoc]
theorem decP_iff {wd : List UInt8} {b : ByteArray} {eps : Nat} {E : List Ent} {Ss : List (List Seg)} {a : Nat} : decP wd b = some ((eps, E, Ss), a) ↔ Codes eps E Ss ∧ Has b 0 (encB wd eps E Ss) ∧ a = (encB wd eps E Ss).length := by
  unfold decP encB
  constructor
  · intro h
    split at h
    · cases h
    · rename_i hw
      have hw := (rdW_iff b wd).1 (Decidable.not_not.1 hw)
      have hle0 := has_le hw (Nat.zero_le _)
      rw [Nat.zero_add] at hle0
      split at h
      · cases h
      · rename_i eps' a1 h1
        obtain ⟨p1, p2, rfl⟩ := cntAt_iff.1 h1
        have hle1 := has_le p2 hle0
        rw [be8_length] at hle1
        split at h
        · cases h
        · rename_i E' a2 h2
          obtain ⟨q1, q2, q3, rfl⟩ := (entsOf_iff hle1).1 h2
          have hle2 := has_le q3 hle1
          split at h
          · cases h
          · rename_i n a3 h3
            obtain ⟨r1, r2, rfl⟩ := cntAt_iff.1 h3
            have hle3 := has_le r2 hle2
            rw [be8_length] at hle3
            split at h
            · cases h
            · rename_i Ss' a4 h4
              obtain ⟨s1, s2, s3, rfl⟩ := (levsAt_iff hle3).1 h4
              injection h with h; injection h with h5 h6
              injection h5 with h5 h7; injection h7 with h7 h8
              subst h5; subst h6; subst h7; subst h8
              subst s1
              refine ⟨⟨p1.1, q1, q2, r1.1, s2⟩, ?_, ?_⟩
              · rw [has_app, Nat.zero_add, has_app, be8_length, has_app]
                unfold encLs
                rw [has_app, be8_length]
                exact ⟨hw, p2, q3, r2, s3⟩
              · simp only [List.length_append, be8_length, encLs]
                omega
  · rintro ⟨⟨c1, c2, c3, c4, c5⟩, h, rfl⟩
    rw [has_app, Nat.zero_add, has_app, be8_length, has_app] at h
    unfold encLs at h
    rw [has_app, be8_length] at h
    obtain ⟨hw, p2, q3, r2, s3⟩ := h
    have hle0 := has_le hw (Nat.zero_le _)
    rw [Nat.zero_add] at hle0
    have hle1 := has_le p2 hle0
    rw [be8_length] at hle1
    have hle2 := has_le q3 hle1
    have hle3 := has_le r2 hle2
    rw [be8_length] at hle3
    rw [if_neg (by rw [(rdW_iff b wd).2 hw]; simp), cntAt_iff.2 ⟨⟨c1, by omega⟩, p2, rfl⟩]
    dsimp only
    rw [(entsOf_iff hle1).2 ⟨c2, c3, q3, rfl⟩]
    dsimp only
    rw [cntAt_iff.2 ⟨⟨c4, by omega⟩, r2, rfl⟩]
    dsimp only
    rw [(levsAt_iff hle3).2 ⟨rfl, c5, s3, rfl⟩]
    dsimp only
    simp only [List.length_append, be8_length, encLs, Nat.add_assoc]
theorem decB_iff {wd : List UInt8} {b : ByteArray} {eps : Nat} {E : List Ent} {Ss : List (List Seg)} : decB wd b = some (eps, E, Ss) ↔ Codes eps E Ss ∧ b.data.toList = encB wd eps E Ss := by
  rw [decB_eq]
  constructor
  · intro h
    cases hp : decP wd b with
    | none => rw [hp] at h; cases h
    | some p =>
      obtain ⟨⟨eps', E', Ss'⟩, a⟩ := p
      rw [hp] at h
      dsimp only at h
      split at h
      · rename_i hs
        injection h with h; injection h with h1 h2; injection h2 with h2 h3
        subst h1; subst h2; subst h3
        obtain ⟨h1, h2, h3⟩ := decP_iff.1 hp
        refine ⟨h1, ?_⟩
        unfold Has at h2
        rw [List.drop_zero] at h2
        exact (List.IsPrefix.eq_of_length h2 (by rw [ba_len, hs, h3])).symm
      · cases h
  · rintro ⟨h1, h2⟩
    have h3 : decP wd b = some ((eps, E, Ss), (encB wd eps E Ss).length) := decP_iff.2 ⟨h1, by unfold Has; rw [List.drop_zero, h2]; exact List.prefix_refl _, rfl⟩
    rw [h3]
    dsimp only
    rw [if_pos (by rw [← ba_len, h2])]
/-- No beginning of a run's bytes is a run's. -/
theorem decB_pre {wd : List UInt8} {b b' : ByteArray} {x y : Nat × List Ent × List (List Seg)} (h : decB wd b = some x) (h' : decB wd b' = some y) (hp : b.data.toList <+: b'.data.toList) : b.data.toList = b'.data.toList := by
  obtain ⟨eps, E, Ss⟩ := x
  obtain ⟨eps', E', Ss'⟩ := y
  obtain ⟨c, hb⟩ := decB_iff.1 h
  obtain ⟨c', hb'⟩ := decB_iff.1 h'
  have h1 : decP wd b' = some ((eps, E, Ss), (encB wd eps E Ss).length) := decP_iff.2 ⟨c, by unfold Has; rw [List.drop_zero, ← hb]; exact hp, rfl⟩
  have h2 : decP wd b' = some ((eps', E', Ss'), (encB wd eps' E' Ss').length) := decP_iff.2 ⟨c', by unfold Has; rw [List.drop_zero, hb']; exact List.prefix_refl _, rfl⟩
  rw [h1] at h2
  injection h2 with h2; injection h2 with h3 h4
  exact List.IsPrefix.eq_of_length hp (by rw [hb, hb', h4])
/-- What a run has can be written. -/
theorem fin_inc {x : Nat} (h : Flo.fin x) : Go.Inc.fin x = true := by
  unfold Go.Inc.fin
  exact decide_eq_true (by unfold Flo.fin at h; exact h)
theorem levC_of {eps : Int} {z : Bool} : ∀ {Ss : List (List Seg)} {K : List Int}, levelsV eps z K Ss = 0 → (∀ S ∈ Ss, S.length ≤ 4294967296 ∧ ∀ s ∈ S, SegFit s) → LevC K Ss
  | [], K, _, _ => trivial
  | S :: Ss, K, h, hf => by
    unfold levelsV at h
    have h1 : tilesOk S 0 K.length = true := by
      cases ht : tilesOk S 0 K.length with
      | true => rfl
      | false => rw [if_pos ht] at h; exact absurd h (by decide)
    rw [if_neg (by rw [h1]; decide)] at h
    have h2 : segsV eps K S = 0 := by
      by_cases h3 : segsV eps K S = 0
      · exact h3
      · rw [if_pos h3] at h; exact h
    rw [if_neg (by rw [h2]; decide)] at h
    refine ⟨(hf S (by simp)).1, ?_, levC_of h (fun T hT => hf T (by simp [hT]))⟩
    have key : ∀ {S : List Seg} {f : Nat}, (∀ s ∈ S, SegFit s) → tilesOk S f K.length = true → segsV eps K S = 0 → ChainS K f S := by
      intro S
      induction S with
      | nil => intro f _ _ _; trivial
      | cons s S ih =>
        intro f hF hT hV
        unfold tilesOk at hT
        simp only [Bool.and_eq_true, decide_eq_true_eq] at hT
        obtain ⟨⟨t1, t2, t3⟩, t4⟩ := hT
        unfold segsV at hV
        have hc : chk s = 0 := by
          by_cases h3 : chk s = 0
          · exact h3
          · rw [if_pos h3] at hV; exact hV
        rw [if_neg (by rw [hc]; decide)] at hV
        have hfi : s.first = ky K s.frm.toNat := by
          by_cases h3 : s.first = ky K s.frm.toNat
          · exact h3
          · rw [if_pos h3] at hV; exact absurd hV (by decide)
        rw [if_neg (by simpa using hfi)] at hV
        have hV2 : segsV eps K S = 0 := by
          by_cases h3 : offOk eps K s
          · rw [if_pos h3] at hV; exact hV
          · rw [if_neg h3] at hV; exact absurd hV (by decide)
        have hw := (hF s (by simp)).1
        unfold chk at hc
        split at hc
        · exact absurd hc (by decide)
        · rename_i h70
          split at hc
          · exact absurd hc (by decide)
          · rename_i h71
            split at hc
            · exact absurd hc (by decide)
            · rename_i h72
              have h71 := Decidable.not_not.1 h71
              have h72 := Decidable.not_not.1 h72
              refine ⟨⟨t1, by omega, by rw [hfi, t1]; rfl, by omega, by omega⟩, ⟨?_, hw.1⟩, ⟨fin_inc h72, hw.2⟩, ?_⟩
              · exact fin_inc (by unfold Flo.fin; omega)
              · have hu : (s.upto.toNat : Int) = s.upto := Int.toNat_of_nonneg (by omega)
                exact ih (fun x hx => hF x (by simp [hx])) (by rw [hu]; exact t4) hV2
    exact key (hf S (by simp)).2 h1 h2
theorem checkV_lev {eps : Int} {K : List Int} {Ss : List (List Seg)} (h : checkV eps K Ss = 0) (hf : ∀ S ∈ Ss, S.length ≤ 4294967296 ∧ ∀ s ∈ S, SegFit s) : LevC K Ss ∧ Ss.length ≤ maxH eps.toNat 4294967296 := by
  unfold checkV at h
  split at h
  · exact absurd h (by decide)
  · split at h
    · exact absurd h (by decide)
    · split at h
      · exact absurd h (by decide)
      · rename_i h3
        exact ⟨levC_of h hf, (Decidable.not_not.1 h3).1⟩
end Go.Proofs.YthjimnmgbcckjaaGreat
