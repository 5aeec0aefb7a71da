/- Parts of this proof, one behind the other: CdG, CdH. -/
import Derived.Test.YthjimnmgbcckjaaGreatQM
import Derived.Test.YthjimnmgbcckjaaGreatQL
import Derived.Test.YthjimnmgbcckjaaGreatQO
namespace Go.Proofs.YthjimnmgbcckjaaGreat
open Go.RowKit Go.Inc Go.Run
attribute [local go_sem] run_store_float

open Classical in
/-- The run that bytes are. -/
noncomputable def getB (b : ByteArray) : Option (Nat × List Ent × List (List Seg)) :=
  match decB incW b with
  | none => none
  | some (eps, E, Ss) => if (2 ≤ eps ∧ eps ≤ 64) ∧ EntsV E 0 ∧ checkV (eps : Nat) (keysE E) Ss = 0 then some (eps, E, Ss) else none
theorem getB_none {b : ByteArray} (h : decB incW b = none) : getB b = none := by unfold getB; rw [h]
theorem getB_no {b : ByteArray} {eps : Nat} {E : List Ent} {Ss : List (List Seg)} (h : decB incW b = some (eps, E, Ss)) (hn : ¬ ((2 ≤ eps ∧ eps ≤ 64) ∧ EntsV E 0 ∧ checkV (eps : Nat) (keysE E) Ss = 0)) : getB b = none := by
  unfold getB; rw [h]; dsimp only; rw [if_neg hn]
theorem getB_yes {b : ByteArray} {eps : Nat} {E : List Ent} {Ss : List (List Seg)} (h : decB incW b = some (eps, E, Ss)) (hn : (2 ≤ eps ∧ eps ≤ 64) ∧ EntsV E 0 ∧ checkV (eps : Nat) (keysE E) Ss = 0) : getB b = some (eps, E, Ss) := by
  unfold getB; rw [h]; dsimp only; rw [if_pos hn]
theorem getB_some {b : ByteArray} {eps : Nat} {E : List Ent} {Ss : List (List Seg)} (h : getB b = some (eps, E, Ss)) : decB incW b = some (eps, E, Ss) ∧ (2 ≤ eps ∧ eps ≤ 64) ∧ EntsV E 0 ∧ checkV (eps : Nat) (keysE E) Ss = 0 := by
  unfold getB at h
  split at h
  · cases h
  · rename_i e1 E1 S1 h1
    split at h
    · rename_i h2
      injection h with h; injection h with h3 h4; injection h4 with h4 h5
      subst h3; subst h4; subst h5
      exact ⟨h1, h2⟩
    · cases h
theorem entsV_only {E : List Ent} {v : Int} (h0 : EntsV E 0) (h : EntsV E v) : v = 0 := by
  obtain ⟨p1, p2⟩ := entsV_zero h0
  cases h with
  | ok => rfl
  | order h => exact absurd p1 h
  | gone b hb h => exact absurd (p2 _ (List.getElem_mem hb)) (by rw [h]; decide)
  | goneOrder b hb h => exact absurd (p2 _ (List.getElem_mem hb)) (by rw [h]; decide)
/-- What comes of Get. -/
def GetOut (b : ByteArray) (w : World) (e : Ending) (w' : World) : Prop :=
  Fr w w' ∧ match getB b with
  | none => e = .returned (.tuple #[.pointer none, .int .i64 120])
  | some (eps, E, Ss) => ∃ r base, e = .returned (.tuple #[.pointer (some ⟨r, 0, none⟩), .int .i64 0]) ∧ w.heap.size ≤ base ∧ IsRun w' r base (eps : Nat) E Ss
theorem rof_get (E : List Ent) (A : Option Addr) (n c : Nat) (eps : Int) (Av : Option Addr) (N cv : Nat) (vs : List Value) (Ss : List (List Seg)) (hn : n = E.length) (hc : n ≤ c) (hl : n ≤ 268435456) (hE : ∀ e ∈ E, EntOk e) (hN : N = Ss.length) (hNl : N ≤ 268435456)
    (hS : ∀ S ∈ Ss, S.length ≤ 268435456 ∧ ∀ s ∈ S, SegFit s) (w : World) (hr : RdC w A (E.flatMap encells)) (hrv : RdC w Av vs) (hrows : RowsR w vs Ss) :
    Calls Tryz.prog 27 #[.slice A n c, .int .i64 eps, .slice Av N cv] w fun e w' => Fr w w' ∧ ((¬ ((2 ≤ eps ∧ eps ≤ 64) ∧ EntsV E 0 ∧ checkV eps (keysE E) Ss = 0) ∧ ∃ v, v ≠ 0 ∧ e = .returned (.tuple #[.pointer none, .int .i64 v])) ∨
      (((2 ≤ eps ∧ eps ≤ 64) ∧ EntsV E 0 ∧ checkV eps (keysE E) Ss = 0) ∧ ∃ r, e = .returned (.tuple #[.pointer (some ⟨r, 0, none⟩), .int .i64 0]) ∧ IsRun w' r w.heap.size eps E Ss)) := by
  by_cases he : 2 ≤ eps ∧ eps ≤ 64
  · refine (rof_calls E A n c eps Av N cv vs Ss hn hc hl hE hN hNl hS he w hr hrv hrows).mono fun e w' ⟨hf, hor⟩ => ⟨hf, ?_⟩
    rcases hor with ⟨v, h1, h2, h3⟩ | ⟨h1, h2, h3⟩ | ⟨h1, h2, r, h3, h4⟩
    · exact .inl ⟨fun h => h1 (entsV_only h.2.1 h2), v, h1, h3⟩
    · exact .inl ⟨fun h => h2 h.2.2, _, h2, h3⟩
    · exact .inr ⟨⟨he, h1, h2⟩, r, h3, h4⟩
  · refine (rof_arg A n c eps Av N cv (by omega) w).mono fun e w' ⟨h1, h2⟩ => ?_
    subst h2
    exact ⟨Fr.refl _, .inl ⟨fun h => he h.1, 1, by decide, h1⟩⟩
/-- The world of Get while it reads. -/
structure GetW (w : World) (b : ByteArray) (r g : Nat) (w' : World) (a : Nat) : Prop where
  rd : IsR w' r b a
  c2 : w'.heap[w.heap.size]? = some (.cells #[.pointer none] 27 (0, 0))
  c3 : w'.heap[w.heap.size + 1]? = some (.cells #[.int .i64 0] 35 (0, 0))
  c5 : w'.heap[g]? = some (.cells #[.pointer (some ⟨r, 0, none⟩)] 86 (0, 0))
  fr : Fr w w'
  le : w.heap.size + 2 ≤ r ∧ r < g
theorem GetW.fr1 {w : World} {b : ByteArray} {r g : Nat} {w' w'' : World} {a : Nat} (h : GetW w b r g w' a) (hf : Fr w' w'') : GetW w b r g w'' a :=
  ⟨hf.blk h.rd, hf.blk h.c2, hf.blk h.c3, hf.blk h.c5, h.fr.trans hf, h.le⟩
theorem GetW.mv1 {w : World} {b : ByteArray} {r g : Nat} {w' w'' : World} {a a' : Nat} (h : GetW w b r g w' a) (hm : Mv (one1 r) w' w'') (hr : IsR w'' r b a') : GetW w b r g w'' a' := by
  obtain ⟨l1, l2⟩ := h.le
  exact ⟨hr, hm.blk h.c2 (fun k => by have : w.heap.size = r := k; omega), hm.blk h.c3 (fun k => by have : w.heap.size + 1 = r := k; omega), hm.blk h.c5 (fun k => by have : g = r := k; omega), h.fr.mv hm (fun k hk => by have : k = r := hk; omega), h.le⟩
theorem GetW.mvx {w : World} {b : ByteArray} {r g : Nat} {w' w'' : World} {a : Nat} {T : Nat → Prop} (h : GetW w b r g w' a) (hm : Mv T w' w'') (hT : ∀ k, T k → g < k) : GetW w b r g w'' a := by
  obtain ⟨l1, l2⟩ := h.le
  exact ⟨hm.blk h.rd (fun k => by have := hT _ k; omega), hm.blk h.c2 (fun k => by have := hT _ k; omega), hm.blk h.c3 (fun k => by have := hT _ k; omega), hm.blk h.c5 (fun k => by have := hT _ k; omega), h.fr.mv hm (fun k hk => by have := hT _ hk; omega), h.le⟩
structure DoorW (w w' : World) : Prop where
  c2 : w'.heap[w.heap.size]? = some (.cells #[.pointer none] 27 (0, 0))
  c3 : w'.heap[w.heap.size + 1]? = some (.cells #[.int .i64 0] 35 (0, 0))
  fr : Fr w w'
theorem GetW.door {w : World} {b : ByteArray} {r g : Nat} {w' : World} {a : Nat} (h : GetW w b r g w' a) : DoorW w w' := ⟨h.c2, h.c3, h.fr⟩
theorem GetW.doorm {w : World} {b : ByteArray} {r g : Nat} {w' w'' : World} {a : Nat} (h : GetW w b r g w' a) (hm : Mv (one1 r) w' w'') : DoorW w w'' := by
  obtain ⟨l1, l2⟩ := h.le
  exact ⟨hm.blk h.c2 (fun k => by have : w.heap.size = r := k; omega), hm.blk h.c3 (fun k => by have : w.heap.size + 1 = r := k; omega), h.fr.mv hm (fun k hk => by have : k = r := hk; omega)⟩
theorem GetW.lt {w : World} {b : ByteArray} {r g : Nat} {w' : World} {a : Nat} (h : GetW w b r g w' a) : g < w'.heap.size := (Array.getElem?_eq_some_iff.1 h.c5).1
theorem cdGet_brk {w w' : World} {b : ByteArray} (h : DoorW w w') (hno : Hid (getB b = none)) (tmps : Array Value) (h2 : tmps.getD 2 undef = .pointer (some ⟨w.heap.size, 0, none⟩)) (h3 : tmps.getD 3 undef = .pointer (some ⟨w.heap.size + 1, 0, none⟩)) :
    bodyPostD Tryz.prog Tryz.f13 (GetOut b w) (Exit.panic [{ v := brokenV, recovered := false }]) { tmps := tmps, defers := [{ target := Target.fn (Fn.func 36) #[.pointer (some ⟨w.heap.size, 0, none⟩), .pointer (some ⟨w.heap.size + 1, 0, none⟩)], args := #[] }] } w' := by
  have hQ : GetOut b w = fun e w' => e = .returned (.tuple #[.pointer none, .int .i64 120]) ∧ Fr w w' := by
    funext e w'
    unfold GetOut
    rw [hno.out]
    exact propext ⟨fun h => ⟨h.2, h.1⟩, fun h => ⟨h.2, h.1⟩⟩
  rw [hQ]
  exact cdDoor_broken tmps w.heap.size (w.heap.size + 1) w w' _ _ h2 h3 h.c2 h.c3 h.fr (Nat.le_refl _) (Nat.le_succ _)
theorem cdGet_end {w w' : World} {b : ByteArray} {r base : Nat} {eps : Nat} {E : List Ent} {Ss : List (List Seg)} (hyes : Hid (getB b = some (eps, E, Ss))) (hb2 : w'.heap[w.heap.size]? = some (.cells #[.pointer (some ⟨r, 0, none⟩)] 27 (0, 0))) (hb3 : w'.heap[w.heap.size + 1]? = some (.cells #[.int .i64 0] 35 (0, 0)))
    (hf : Fr w w') (hb : w.heap.size ≤ base) (hr : IsRun w' r base (eps : Nat) E Ss) (tmps : Array Value) (h2 : tmps.getD 2 undef = .pointer (some ⟨w.heap.size, 0, none⟩)) (h3 : tmps.getD 3 undef = .pointer (some ⟨w.heap.size + 1, 0, none⟩)) :
    bodyPostD Tryz.prog Tryz.f13 (GetOut b w) Exit.ret { tmps := tmps, defers := [{ target := Target.fn (Fn.func 36) #[.pointer (some ⟨w.heap.size, 0, none⟩), .pointer (some ⟨w.heap.size + 1, 0, none⟩)], args := #[] }] } w' := by
  refine leaves_cons (f := 36) (args := #[.pointer (some ⟨w.heap.size, 0, none⟩), .pointer (some ⟨w.heap.size + 1, 0, none⟩)]) (by simp) (by simp [go_sem]) ?_
  refine (cdIdle ⟨w.heap.size, 0, none⟩ ⟨w.heap.size + 1, 0, none⟩ w').mono ?_
  rintro e u' w'' ⟨rfl, rfl, rfl⟩
  have hcell2 : w''.cell? ⟨w.heap.size, 0, none⟩ = some (.pointer (some ⟨r, 0, none⟩)) := by rw [blk_cell hb2]; rfl
  have hcell3 : w''.cell? ⟨w.heap.size + 1, 0, none⟩ = some (.int .i64 0) := by rw [blk_cell hb3]; rfl
  have h2' : tmps[2]?.getD undef = .pointer (some ⟨w.heap.size, 0, none⟩) := by simpa using h2
  have h3' : tmps[3]?.getD undef = .pointer (some ⟨w.heap.size + 1, 0, none⟩) := by simpa using h3
  simp [Leaves, settle, results, Tryz.results13, go_sem, h2', h3', hcell2, hcell3]
  unfold GetOut
  rw [hyes.out]
  exact ⟨hf, r, base, rfl, hb, hr⟩
theorem rdW_yes {b : ByteArray} {wd : List UInt8} (h : (rdW b 0 wd).1 = 0) : (rdW b 0 wd).2 = wd.length ∧ wd.length ≤ b.size := by
  unfold rdW at h ⊢
  split at h
  · exact absurd h (by decide)
  · rename_i h1
    rw [if_neg h1]
    split at h
    · rename_i h2; rw [if_pos h2]; exact ⟨by omega, by omega⟩
    · exact absurd h (by decide)
theorem decB_head {b : ByteArray} (h : (rdW b 0 incW).1 = 0) : decB incW b = match cntAt b 4 64 with
  | none => none
  | some (eps, a1) => match entsOf b a1 with
    | none => none
    | some (E, a2) => match cntAt b a2 4294967296 with
      | none => none
      | some (h, a3) => match levsAt b (keysE E) h a3 with
        | none => none
        | some (Ss, a4) => if b.size = a4 then some (eps, E, Ss) else none := by
  unfold decB
  rw [if_neg (by rw [h]; decide)]
  rfl

theorem levsAt_succ (b : ByteArray) (K : List Int) (n a : Nat) : levsAt b K (n + 1) a = match rowOf b K a with | none => none | some (S, a2) => match levsAt b (firstsOf S) n a2 with | none => none | some (Ss, a3) => some (S :: Ss, a3) := by
  show (match cntAt b a 4294967296 with | none => none | some (m, a1) => match rowAt' b K m 0 a1 with | none => none | some (S, a2) => match levsAt b (firstsOf S) n a2 with | none => none | some (Ss, a3) => some (S :: Ss, a3)) = _
  unfold rowOf
  cases cntAt b a 4294967296 with
  | none => rfl
  | some p => rfl
theorem levs_step {b : ByteArray} {K : List Int} {h i a : Nat} {Ss : List (List Seg)} {X : Option (Nat × List Ent × List (List Seg))} {eps : Nat} {E : List Ent} (hi : i < h)
    (hx : X = match levsAt b K (h - i) a with | none => none | some (S', a') => if b.size = a' then some (eps, E, Ss ++ S') else none) :
    X = match rowOf b K a with | none => none | some (S, a2) => match levsAt b (firstsOf S) (h - (i + 1)) a2 with | none => none | some (S', a') => if b.size = a' then some (eps, E, (Ss ++ [S]) ++ S') else none := by
  rw [hx, show h - i = (h - (i + 1)) + 1 by omega, levsAt_succ]
  cases rowOf b K a with
  | none => rfl
  | some q =>
    obtain ⟨S, a2⟩ := q
    dsimp only
    cases levsAt b (firstsOf S) (h - (i + 1)) a2 with
    | none => rfl
    | some q => simp
theorem rowOf_some {b : ByteArray} {K : List Int} (hK : KeysOk K) {a : Nat} {S : List Seg} {a' : Nat} (_ha : a ≤ b.size) (h : rowOf b K a = some (S, a')) : a + 8 ≤ a' ∧ a' ≤ b.size ∧ S.length * 24 ≤ b.size ∧ ∀ s ∈ S, SegFit s := by
  unfold rowOf at h
  split at h
  · cases h
  · rename_i m a1 h1
    obtain ⟨p1, p2, p3⟩ := cntAt_some h1
    obtain ⟨q1, q2, q3, q4⟩ := rowAt_some hK p2 h
    exact ⟨by omega, q3, by omega, q4⟩
theorem entsOf_some {b : ByteArray} {a : Nat} {l : List Ent} {a' : Nat} (h : entsOf b a = some (l, a')) : a + 8 ≤ a' ∧ a' ≤ b.size ∧ l.length * 9 ≤ b.size ∧ ∀ e ∈ l, EntOk e := by
  unfold entsOf at h
  split at h
  · cases h
  · rename_i m a1 h1
    obtain ⟨p1, p2, p3⟩ := cntAt_some h1
    obtain ⟨q1, q2, q3, q4⟩ := entsAt_some p2 h
    exact ⟨by omega, q3, by omega, q4⟩
end Go.Proofs.YthjimnmgbcckjaaGreat
namespace Go.Proofs.YthjimnmgbcckjaaGreat
set_option maxRecDepth 100000
open Go.RowKit Go.Inc Go.Run
attribute [local go_sem] run_store_float

set_option maxHeartbeats 16000000 in
theorem cdGet_calls (A : Option Addr) (n c : Nat) (bs : List UInt8) (hn : n = bs.length) (hb : bs.length ≤ 2147483648) (w : World) (hr : RdC w A (bs.map bv)) :
    Calls Tryz.prog 13 #[.slice A n c] w (GetOut (bstr bs) w) := by
  have hmf : ∀ (fn : Fn) (first cap : Array Value) (w : World), (Instr.makeFunc fn first cap).run Tryz.prog w = .ok (.func fn first cap) w := fun _ _ _ _ => rfl
  obtain ⟨b, hbb⟩ : ∃ b, bstr bs = b := ⟨_, rfl⟩
  have hbs : b.size ≤ 2147483648 := by rw [← hbb, bstr_size]; exact hb
  have hbm : b.size ≤ maxLen := by unfold maxLen; omega
  have NEW : Hid (∀ w', Fr w w' → Calls Tryz.prog 37 #[.slice A n c] w' fun e w'' => ∃ g, e = .returned (.pointer (some ⟨g, 0, none⟩)) ∧ IsR w'' g b 0 ∧ w'.heap.size ≤ g ∧ Fr w' w'') := fun w' hf => by rw [← hbb]; exact octNew_calls A n c bs w' hn (hr.fr hf)
  rw [hbb]
  have HBM := Lib.hid hbm
  clear hbb hr hn hb hbm
  obtain ⟨w1, hw1⟩ : ∃ w1, w1 = (w.alloc (.cells #[.pointer none] 27)).alloc (.cells #[.int .i64 0] 35) := ⟨_, rfl⟩
  have hs1 : w1.heap.size = w.heap.size + 2 := by rw [hw1]; simp
  have HB2 : Hid (w1.heap[w.heap.size]? = some (.cells #[.pointer none] 27 (0, 0))) := by
    rw [hw1]; exact ((Fr.refl _).alloc _).blk (heap_alloc_new w _)
  have HB3 : Hid (w1.heap[w.heap.size + 1]? = some (.cells #[.int .i64 0] 35 (0, 0))) := by
    have h := heap_alloc_new (w.alloc (.cells #[.pointer none] 27)) (.cells #[.int .i64 0] 35)
    rw [← hw1] at h
    rw [Hid]
    simpa using h
  have HF1 : Hid (Fr w w1) := by rw [hw1]; exact ((Fr.refl w).alloc _).alloc _
  have HS1 := Lib.hid hs1
  clear hs1
  go_enter_defers Tryz.func13, Tryz.ntmps13
  go_wp2_with fail
  rw [← hw1]
  clear hw1
  refine (NEW.out w1 HF1.out).mono ?_
  rintro _ w2 ⟨r, rfl, hR, hrg, hf⟩
  have HW0 : Hid (GetW w b r w2.heap.size (w2.alloc (.cells #[.pointer (some ⟨r, 0, none⟩)] 86)) 0) :=
    ⟨((Fr.refl w2).alloc _).blk hR, (hf.alloc _).blk HB2.out, (hf.alloc _).blk HB3.out, heap_alloc_new w2 _, (HF1.out.trans hf).alloc _, by have := HS1.out; exact ⟨by omega, hR.lt⟩⟩
  have x0 := cells1 HW0.out.c5
  clear hR hrg hf HB2 HB3 HF1 HS1 NEW
  go_wp2_with fail
  obtain ⟨g, hg⟩ : ∃ g, g = w2.heap.size := ⟨_, rfl⟩
  obtain ⟨w3, hw3⟩ : ∃ w3, w3 = w2.alloc (.cells #[.pointer (some ⟨r, 0, none⟩)] 86) := ⟨_, rfl⟩
  rw [← hg, ← hw3] at HW0 x0
  rw [← hg, ← hw3]
  clear hg hw3
  have WD := word_calls r b 0 incW w3 HW0.out.rd (Nat.zero_le _) HBM.out (by decide)
  obtain ⟨V, hV⟩ : ∃ V, (rdW b 0 incW).1 = V := ⟨_, rfl⟩
  rw [hV] at WD
  by_cases hV0 : V = 0
  rotate_left
  · have HNO : Hid (getB b = none) := getB_none (by unfold decB; rw [if_pos (by rw [hV]; exact hV0)])
    have g1 : (V == 0) = false := by simpa using hV0
    have WD := Lib.hid WD
    clear hV hV0
    refine WD.out.mono ?_
    rintro _ w4 ⟨rfl, hR, hgr⟩
    have HW4 : Hid (GetW w b r g w4 (rdW b 0 incW).2) := HW0.out.mv1 (mv_grown hgr) hR
    clear hR hgr WD
    go_wp2_with fail
    refine (cdSure_no w4).mono ?_
    rintro _ w5 ⟨rfl, rfl⟩
    go_wp2_with fail
    exact cdGet_brk HW4.out.door HNO _ (by rfl) (by rfl)
  subst hV0
  obtain ⟨hp4, hl4⟩ := rdW_yes hV
  rw [hp4] at WD
  have HD := Lib.hid (decB_head hV)
  have hl4 : 4 ≤ b.size := hl4
  have WD := Lib.hid WD
  clear hV hp4
  refine WD.out.mono ?_
  rintro _ w4 ⟨rfl, hR, hgr⟩
  have HW4 : Hid (GetW w b r g w4 4) := HW0.out.mv1 (mv_grown hgr) hR
  have x0 := cells1 HW4.out.c5
  clear hR hgr WD HW0
  go_wp2_with fail
  refine (cdSure_ok w4).mono ?_
  rintro _ w5 ⟨rfl, rfl⟩
  rcases hk1 : cntAt b 4 64 with _ | ⟨eps, a1⟩
  · have HNO : Hid (getB b = none) := getB_none (by rw [HD.out, hk1])
    have CN := Lib.hid (cnt_none r b 4 64 (by decide) w4 HW4.out.rd hl4 HBM.out hk1)
    clear hk1
    go_wp2_with fail
    refine CN.out.mono ?_
    rintro _ w5 ⟨v, hv, rfl, hm⟩
    have HW5 : Hid (DoorW w w5) := HW4.out.doorm hm
    clear hm
    go_wp2_with fail
    refine (cdMustI_no 0 v hv w5).mono ?_
    rintro _ w6 ⟨rfl, rfl⟩
    go_wp2_with fail
    exact cdGet_brk HW5.out HNO _ (by rfl) (by rfl)
  obtain ⟨p1, p2, p3⟩ := cntAt_some hk1
  have HD2 : Hid (decB incW b = match entsOf b a1 with
    | none => none
    | some (E, a2) => match cntAt b a2 4294967296 with
      | none => none
      | some (h, a3) => match levsAt b (keysE E) h a3 with
        | none => none
        | some (Ss, a4) => if b.size = a4 then some (eps, E, Ss) else none) := by rw [Hid, HD.out, hk1] <;> rfl
  have CN := Lib.hid (cnt_some r b 4 64 (by decide) w4 HW4.out.rd hl4 HBM.out eps a1 hk1)
  clear hk1 HD p1
  go_wp2_with fail
  refine CN.out.mono ?_
  rintro _ w5 ⟨rfl, hR, hm⟩
  have HW5 : Hid (GetW w b r g w5 a1) := HW4.out.mv1 hm hR
  have x0 := cells1 HW5.out.c5
  clear hm hR CN HW4 hl4
  go_wp2_with fail
  refine (cdMustI_ok eps w5).mono ?_
  rintro _ w6 ⟨rfl, rfl⟩
  have EN := cdEntries_calls r b a1 w5 HW5.out.rd p2 hbs
  rcases hk2 : entsOf b a1 with _ | ⟨E, a2⟩
  · have HNO : Hid (getB b = none) := getB_none (by rw [HD2.out, hk2])
    rw [hk2] at EN
    have EN := Lib.hid EN
    clear hk2
    go_wp2_with fail
    refine EN.out.mono ?_
    rintro e w6 ⟨hm, hbk⟩
    obtain rfl : e = _ := hbk
    have HW6 : Hid (DoorW w w6) := HW5.out.doorm hm
    clear hm
    go_wp2_with fail
    exact cdGet_brk HW6.out HNO _ (by rfl) (by rfl)
  obtain ⟨q1, q2, q3, q4⟩ := entsOf_some hk2
  rw [hk2] at EN
  have EN := Lib.hid EN
  have HD3 : Hid (decB incW b = match cntAt b a2 4294967296 with
      | none => none
      | some (h, a3) => match levsAt b (keysE E) h a3 with
        | none => none
        | some (Ss, a4) => if b.size = a4 then some (eps, E, Ss) else none) := by rw [Hid, HD2.out, hk2]
  have HEO := Lib.hid q4
  clear hk2 HD2 q1 q4
  go_wp2_with fail
  refine EN.out.mono ?_
  rintro _ w6 ⟨hm, A', c', rfl, hown, hR⟩
  obtain ⟨n, hn⟩ : ∃ n, E.length = n := ⟨_, rfl⟩
  rw [hn] at hown q3 ⊢
  have HN := Lib.hid hn
  have HW6 : Hid (GetW w b r g w6 a2) := HW5.out.mv1 hm hR
  have HOE : Hid (Own w6 (g + 1) 52 3 A' n c' (E.flatMap encells)) := hown.mono (by have := HW5.out.lt; omega)
  have hmk := fun W => run_mk1 (P := Tryz.prog) 57 50 (.int .u64 0) 8 Tryz.underlying57 info_u64r rfl W (n : Int) n rfl (by omega) (by omega)
  clear hm hR hown hn EN HW5 x0
  go_wp2_with fail
  obtain ⟨gk, hgk⟩ : ∃ gk, gk = w6.heap.size := ⟨_, rfl⟩
  obtain ⟨w7, hw7⟩ : ∃ w7, w7 = w6.alloc (.cells (arr (List.replicate n (.int .u64 0))) 50) := ⟨_, rfl⟩
  have hb1 : Hid (Blk w7 gk (List.replicate n (.int .u64 0)) 50) := by rw [hw7, hgk]; exact Blk.new w6 _ _
  have hf7 : Hid (Fr w6 w7) := by rw [hw7]; exact (Fr.refl w6).alloc _
  have HGK : Hid (w6.heap.size = gk) := hgk.symm
  have HW7 : Hid (GetW w b r g w7 a2) := HW6.out.fr1 hf7.out
  have HOE7 : Hid (Own w7 (g + 1) 52 3 A' n c' (E.flatMap encells)) := HOE.out.fr hf7.out
  have HLE : Hid (g < gk) := by have := HW6.out.lt; have := HGK.out; rw [Hid]; omega
  have HAK : Hid (∀ k, ablk A' = some k → k < gk) := fun k hk => by have := (HOE.out.lt k hk).2; have := HGK.out; omega
  rw [← hw7, ← hgk]
  clear hw7 hgk hmk HW6 HOE hf7
  go_loopw [34] (fun v wr => ∃ i : Nat, v = .int .i64 i ∧ i ≤ n ∧ Hid (Blk wr gk (((keysE E).take i).map uv ++ List.replicate (n - i) (.int .u64 0)) 50) ∧ Hid (Mv (one1 gk) w7 wr)) (fun v _ => n - (intOf v).toNat)
  case atStart => exact ⟨0, rfl, by omega, by rw [Hid]; simpa using hb1.out, Mv.refl _ _⟩
  case round =>
    obtain ⟨i, rfl, hin, hb, hmv⟩ := hrel
    rcases Nat.lt_or_ge i n with hlt | hge
    · have g1 : decide (i < n) = true := decide_eq_true hlt
      have g0 : (i : Int) < (n : Int) := by omega
      obtain ⟨bb, off, hA, hc⟩ := rdc_ent (HOE7.out.rd.mv hmv.out (fun k hk h => by have := HAK.out k hk; have : k = gk := h; omega)) (by have := HN.out; omega)
      subst hA
      have hiS : i < E.length := by have := HN.out; omega
      obtain ⟨y0, y1, y2⟩ := hc i hiS
      obtain ⟨s, hs⟩ : ∃ s, E[i] = s := ⟨_, rfl⟩
      rw [hs] at y0 y1 y2
      have HS := Lib.hid hs
      have hlen : (((keysE E).take i).map uv).length = i := by
        rw [List.length_map, List.length_take, keysE_len]; omega
      have f0c := hb.out.cell i (.int .u64 0) (by
        rw [List.getElem?_append_right (by omega), hlen, Nat.sub_self]
        obtain ⟨k, hk⟩ : ∃ k, n - i = k + 1 := ⟨n - i - 1, by omega⟩
        rw [hk]; rfl)
      have wi : IntKind.i64.wrap ((i : Int) + 1) = (i : Int) + 1 := wrap_i64_in _ (by omega) (by omega)
      have hba := heap_alloc_new wr (.cells #[.int .u64 s.key, .int .u64 s.val, .bool s.gone] 52)
      obtain ⟨z0, z1, z2⟩ := cells3 hba
      have b0 : (wr.alloc (.cells #[.int .u64 s.key, .int .u64 s.val, .bool s.gone] 52)).cell? ⟨gk, i, none⟩ = some (.int .u64 0) := ((Fr.refl wr).alloc _).cell f0c
      have b1 : (wr.alloc (.cells #[.int .u64 s.key, .int .u64 s.val, .bool s.gone] 52)).frozen? ⟨gk, i, none⟩ = false := (hb.out.alloc _).frozen i
      have HLEN := Lib.hid hlen
      have hgw := hb.out.lt
      clear hc hs hlen f0c hba
      go_wp2_with fail
      refine ⟨⟨i + 1, rfl, by omega, ?_, (hmv.out.set (p := ⟨gk, i, none⟩) (.inl rfl) _).alloc _⟩, by simp only [intOf]; omega⟩
      have h1 := (hb.out.set i (.int .u64 s.key)).alloc (.cells #[.int .u64 s.key, .int .u64 s.val, .bool s.gone] 52)
      obtain ⟨k, hk⟩ : ∃ k, n - i = k + 1 := ⟨n - i - 1, by omega⟩
      rw [hk, set_rep _ k _ _ i HLEN.out] at h1
      have e1 : n - (i + 1) = k := by omega
      have e2 : ((keysE E).take (i + 1)).map uv = ((keysE E).take i).map uv ++ [.int .u64 s.key] := by
        rw [List.take_add_one]
        unfold keysE
        simp [hiS, HS.out, uv]
      rw [Hid, e1, e2]
      exact h1
    · obtain rfl : i = n := by omega
      have d1 : decide (i < i) = false := by simp
      have HKB : Hid (Blk wr gk ((keysE E).map uv) 50) := by
        have h9 := hb.out
        rw [Nat.sub_self, List.replicate_zero, List.append_nil, List.take_of_length_le (by rw [keysE_len, HN.out]; exact Nat.le_refl _)] at h9
        exact h9
      have HW8 : Hid (GetW w b r g wr a2) := HW7.out.mvx hmv.out (fun k hk => by have : k = gk := hk; have := HLE.out; omega)
      have HOE8 : Hid (Own wr (g + 1) 52 3 A' i c' (E.flatMap encells)) := HOE7.out.mv hmv.out (fun k hk h => by have := HAK.out k hk; have : k = gk := h; omega)
      have x0 := cells1 HW8.out.c5
      obtain ⟨w8, hw8⟩ : ∃ w8, w8 = wr := ⟨_, rfl⟩
      subst hw8
      clear hmv hb HW7 HOE7 hb1
      rcases hk3 : cntAt b a2 4294967296 with _ | ⟨h, a3⟩
      · have HNO : Hid (getB b = none) := getB_none (by rw [HD3.out, hk3])
        have CN := Lib.hid (cnt_none r b a2 4294967296 (by decide) w8 HW8.out.rd q2 HBM.out hk3)
        clear hk3
        go_wp2_with fail
        refine CN.out.mono ?_
        rintro _ w9 ⟨v, hv, rfl, hm⟩
        have HW9 : Hid (DoorW w w9) := HW8.out.doorm hm
        clear hm
        go_wp2_with fail
        refine (cdMustI_no 0 v hv w9).mono ?_
        rintro _ w10 ⟨rfl, rfl⟩
        go_wp2_with fail
        exact cdGet_brk HW9.out HNO _ (by rfl) (by rfl)
      obtain ⟨r1, r2, r3⟩ := cntAt_some hk3
      have CN := Lib.hid (cnt_some r b a2 4294967296 (by decide) w8 HW8.out.rd q2 HBM.out h a3 hk3)
      have HD4 : Hid (decB incW b = match levsAt b (keysE E) h a3 with
        | none => none
        | some (Ss, a4) => if b.size = a4 then some (eps, E, Ss) else none) := by rw [Hid, HD3.out, hk3]
      clear hk3 HD3
      go_wp2_with fail
      refine CN.out.mono ?_
      rintro _ w9 ⟨rfl, hR, hm⟩
      have HW9 : Hid (GetW w b r g w9 a3) := HW8.out.mv1 hm hR
      have HKB9 : Hid (Blk w9 gk ((keysE E).map uv) 50) := HKB.out.mv hm (fun h => by have := HW8.out.le; have := HLE.out; have : gk = r := h; omega)
      have HOE9 : Hid (Own w9 (g + 1) 52 3 A' i c' (E.flatMap encells)) := HOE8.out.mv hm (fun k hk h => by have := HW8.out.le; have := (HOE8.out.lt k hk).1; have : k = r := h; omega)
      clear hm hR CN HW8 HOE8 HKB x0
      go_wp2_with fail
      refine (cdMustI_ok h w9).mono ?_
      rintro _ w10 ⟨rfl, rfl⟩
      go_wp2_with fail
      go_loopw [7, 10, 51] (fun v7 v10 v51 wr => ∃ (j : Nat) (K : List Int) (aj : Nat) (Ak : Option Addr) (nk ck : Nat) (Au : Option Addr) (cu : Nat) (us : List Value) (Ss : List (List Seg)), v7 = .slice Ak nk ck ∧ v10 = .slice Au j cu ∧ v51 = .int .i64 j ∧ j ≤ h ∧ nk ≤ 268435456 ∧ aj ≤ b.size ∧ 8 * j ≤ aj ∧ Hid (nk = K.length) ∧ Hid (KeysOk K) ∧
        Hid (Own wr (g + 1) 50 1 Ak nk ck (K.map uv)) ∧ Hid (Ss.length = j) ∧ Hid (∀ S ∈ Ss, S.length ≤ 268435456 ∧ ∀ s ∈ S, SegFit s) ∧ Hid (Own wr (g + 1) 62 1 Au j cu us) ∧ Hid (RowsO wr (g + 1) us Ss) ∧ Hid (GetW w b r g wr aj) ∧ Hid (Own wr (g + 1) 52 3 A' i c' (E.flatMap encells)) ∧
        Hid (decB incW b = match levsAt b K (h - j) aj with | none => none | some (S', a') => if b.size = a' then some (eps, E, Ss ++ S') else none)) (fun _ _ v51 _ => h - (intOf v51).toNat)
      case atStart => exact ⟨0, keysE E, a3, some ⟨gk, 0, none⟩, i, i, none, 0, [], [], rfl, rfl, rfl, by omega, by omega, r2, by omega, by rw [Hid, keysE_len, HN.out], keysE_ok HEO.out, Own.of_blk HKB9.out HLE.out (by rw [List.length_map, keysE_len, HN.out]; omega) (by omega), rfl, fun S hS => by simp at hS, Own.nil _ _ _ _, trivial, HW9.out, HOE9.out, by rw [Hid, HD4.out] <;> rfl⟩
      case round =>
        obtain ⟨j, K, aj, Ak, nk, ck, Au, cu, us, Ss, rfl, rfl, rfl, hjh, hnk, haj, h8j, hnK, hKo, hok, hSl, hSf, hou, hrs, hW, hoe, hD⟩ := hrel
        obtain ⟨wo, hwo⟩ : ∃ wo, wo = wr := ⟨_, rfl⟩
        subst hwo
        have x0 := cells1 hW.out.c5
        rcases Nat.lt_or_ge j h with hlt | hge
        · have e1 : decide (j < h) = true := decide_eq_true hlt
          have e2 : (j : Int) < (h : Int) := by omega
          have wi : IntKind.i64.wrap ((j : Int) + 1) = (j : Int) + 1 := wrap_i64_in _ (by omega) (by omega)
          have ROW := cdRow_calls r b aj K Ak nk ck hnK.out hnk hKo.out wo hW.out.rd haj hbs hok.out.rd (fun k hk => by have := (hok.out.lt k hk).1; have := hW.out.le; omega)
          have HD5 := Lib.hid (levs_step hlt hD.out)
          rcases hk : rowOf b K aj with _ | ⟨S, a5⟩
          · have HNO : Hid (getB b = none) := getB_none (by rw [HD5.out, hk])
            rw [hk] at ROW
            have ROW := Lib.hid ROW
            clear hk hD
            go_wp2_with fail
            refine ROW.out.mono ?_
            rintro e w6 ⟨hm, hbk⟩
            obtain rfl : e = _ := hbk
            have HW6 : Hid (DoorW w w6) := hW.out.doorm hm
            clear hm
            go_wp2_with fail
            exact cdGet_brk HW6.out HNO _ (by rfl) (by rfl)
          obtain ⟨t1, t2, t3, t4⟩ := rowOf_some hKo.out haj hk
          rw [hk] at ROW
          have ROW := Lib.hid ROW
          have HD6 : Hid (decB incW b = match levsAt b (firstsOf S) (h - (j + 1)) a5 with | none => none | some (S', a') => if b.size = a' then some (eps, E, (Ss ++ [S]) ++ S') else none) := by rw [Hid, HD5.out, hk] <;> rfl
          have HSF := Lib.hid t4
          clear hk hD HD5 t4
          go_wp2_with fail
          refine ROW.out.mono ?_
          rintro _ w4 ⟨hm, Ar, cr, A2, c2, rfl, ho, ho2, hR⟩
          have HGR : Hid (g < wo.heap.size ∧ r < g) := ⟨hW.out.lt, hW.out.le.2⟩
          have HW4 : Hid (GetW w b r g w4 a5) := hW.out.mv1 hm hR
          have HO : Hid (Own w4 (g + 1) 65 5 Ar S.length cr (S.flatMap sgcells)) := ho.mono (by have := HGR.out; omega)
          have HO2 : Hid (Own w4 (g + 1) 50 1 A2 S.length c2 ((firstsOf S).map uv)) := ho2.mono (by have := HGR.out; omega)
          have HOU4 : Hid (Own w4 (g + 1) 62 1 Au j cu us) := hou.out.mv hm (fun k hk h => by have := (hou.out.lt k hk).1; have := HGR.out; have : k = r := h; omega)
          have HOE4 : Hid (Own w4 (g + 1) 52 3 A' i c' (E.flatMap encells)) := hoe.out.mv hm (fun k hk h => by have := (hoe.out.lt k hk).1; have := HGR.out; have : k = r := h; omega)
          have HRS4 : Hid (RowsO w4 (g + 1) us Ss) := hrs.out.mv hm (fun k h hb _ _ _ => by have := HGR.out; have : k = r := h; omega)
          obtain ⟨M, hM⟩ : ∃ M, S.length = M := ⟨_, rfl⟩
          rw [hM] at HO HO2 t3 ⊢
          have HM := Lib.hid hM
          clear hm ho ho2 hR hou hoe hrs hW hok ROW x0 hM
          go_wp2_with (at_builtin; refine gate ?_)
          have hsz4 : g < w4.heap.size := HW4.out.lt
          refine gate_app rfl _ _ 39 rfl 62 (.slice none 0 0) 1 24 Tryz.underlying39 info_row rfl (by omega) (by omega) (g + 1) Au j cu us (some ⟨w4.heap.size, 0, none⟩) 1 1 [.slice Ar M cr] (by rfl) (by rfl)
            (HOU4.out.fr ((Fr.refl w4).alloc _)) rfl (RdC.blk (Blk.new w4 _ _)) (by intro u hu; simp at hu; subst hu; rfl) (by omega) (by simp; omega) ?_
          intro A8 c8 w8 hown8 hgr8 hat8
          have hm8 : Hid (Mv (fun k => ablk Au = some k) w4 w8) := ((Mv.of_fr ((Fr.refl w4).alloc _)).grown hgr8.out (fun j hj => .inl hj))
          have HW8 : Hid (GetW w b r g w8 a5) := HW4.out.mvx hm8.out (fun k hk => by have := (HOU4.out.lt k hk).1; omega)
          have HO8 : Hid (Own w8 (g + 1) 65 5 Ar M cr (S.flatMap sgcells)) := HO.out.mv hm8.out (fun k hk h => by
            obtain ⟨cs, h9⟩ := own_ty HO.out hk
            exact own_not_blk0 HOU4.out (by decide) k h h9)
          have HO28 : Hid (Own w8 (g + 1) 50 1 A2 M c2 ((firstsOf S).map uv)) := HO2.out.mv hm8.out (fun k hk h => by
            obtain ⟨cs, h9⟩ := own_ty HO2.out hk
            exact own_not_blk0 HOU4.out (by decide) k h h9)
          have HOE8 : Hid (Own w8 (g + 1) 52 3 A' i c' (E.flatMap encells)) := HOE4.out.mv hm8.out (fun k hk h => by
            obtain ⟨cs, h9⟩ := own_ty HOE4.out hk
            exact own_not_blk0 HOU4.out (by decide) k h h9)
          have HRS8 : Hid (RowsO w8 (g + 1) (us ++ [.slice Ar M cr]) (Ss ++ [S])) := by
            have h1 := HRS4.out.mv hm8.out (fun k h _ cs fr he => own_not_blk0 HOU4.out (by decide) k h he)
            have h2 := h1.snoc (S := S) (A := Ar) (c := cr) (by rw [HM.out]; exact HO8.out)
            rw [HM.out] at h2
            exact h2
          have HOU8 := hown8
          clear hown8 hgr8 hat8 HOU4 HOE4 HRS4 HO HO2 hm8
          go_wp2_with fail
          exact ⟨⟨j + 1, firstsOf S, a5, A2, M, c2, A8, c8, us ++ [Value.slice Ar M cr], Ss ++ [S], rfl, rfl, rfl, by omega, by omega, t2, by omega, by rw [Hid, ← HM.out]; simp [firstsOf], firsts_ok HSF.out, HO28.out, by rw [Hid, List.length_append, hSl.out] <;> rfl, by
            intro T hT
            rcases List.mem_append.1 hT with hT | hT
            · exact hSf.out T hT
            · rw [List.mem_singleton.1 hT]; exact ⟨by rw [HM.out]; omega, HSF.out⟩, HOU8.out, HRS8.out, HW8.out, HOE8.out, HD6.out⟩, by simp only [intOf]; omega⟩
        · obtain rfl : j = h := by omega
          have e1 : decide (j < j) = false := by simp
          have HFIN : Hid (decB incW b = if b.size = aj then some (eps, E, Ss) else none) := by
            have h9 := hD.out
            rw [Nat.sub_self] at h9
            unfold levsAt at h9
            dsimp only at h9
            rw [List.append_nil] at h9
            exact h9
          have LF := Lib.hid (left_calls r b aj wo hW.out.rd haj HBM.out)
          clear hD
          go_wp2_with fail
          refine LF.out.mono ?_
          rintro _ w5 ⟨rfl, nd, hnd⟩
          have HF5 : Hid (Fr wo w5) := by rw [hnd]; exact fr_drewN wo nd
          have HW5 : Hid (GetW w b r g w5 aj) := hW.out.fr1 HF5.out
          clear hnd x0 LF
          by_cases hs : b.size = aj
          rotate_left
          · have HNO : Hid (getB b = none) := getB_none (by rw [HFIN.out, if_neg hs])
            have g1 : ((b.size : Int) - (aj : Int) == 0) = false := by rw [beq_eq_false_iff_ne]; omega
            clear hs
            go_wp2_with fail
            refine (cdSure_no w5).mono ?_
            rintro _ w6 ⟨rfl, rfl⟩
            go_wp2_with fail
            exact cdGet_brk HW5.out.door HNO _ (by rfl) (by rfl)
          have g1 : ((b.size : Int) - (aj : Int) == 0) = true := by rw [beq_iff_eq]; omega
          have HFN : Hid (decB incW b = some (eps, E, Ss)) := by rw [Hid, HFIN.out, if_pos hs]
          have OFC := Lib.hid (rof_get E A' i c' eps Au j cu us Ss HN.out.symm (own_le hoe.out) (by omega) HEO.out hSl.out.symm (by omega) hSf.out w5 (hoe.out.rd.fr HF5.out) (hou.out.rd.fr HF5.out) ((hrs.out.fr HF5.out).toR))
          clear hs HFIN
          go_wp2_with fail
          refine (cdSure_ok w5).mono ?_
          rintro _ w6 ⟨rfl, rfl⟩
          go_wp2_with fail
          refine OFC.out.mono ?_
          rintro _ w7 ⟨hf7, hor⟩
          rcases hor with ⟨hno, v, hv, rfl⟩ | ⟨hyes, x, rfl, hrun⟩
          · have HNO : Hid (getB b = none) := getB_no HFN.out (fun h9 => hno ⟨⟨by omega, by omega⟩, h9.2⟩)
            have HW7 : Hid (GetW w b r g w7 aj) := HW5.out.fr1 hf7
            clear hf7 hno
            go_wp2_with fail
            refine (cdMustR_no none v hv w7).mono ?_
            rintro _ w8 ⟨rfl, rfl⟩
            go_wp2_with fail
            exact cdGet_brk HW7.out.door HNO _ (by rfl) (by rfl)
          · have HYES : Hid (getB b = some (eps, E, Ss)) := getB_yes HFN.out ⟨⟨by have := hyes.1; omega, by have := hyes.1; omega⟩, hyes.2⟩
            have HW7 : Hid (GetW w b r g w7 aj) := HW5.out.fr1 hf7
            have HRUN := Lib.hid hrun
            have hs2 := blk_set HW7.out.c2 0 (.pointer (some ⟨x, 0, none⟩))
            have hs3 := blk_set_ne HW7.out.c3 (p := ⟨w.heap.size, 0, none⟩) (by show w.heap.size ≠ w.heap.size + 1; omega) (.pointer (some ⟨x, 0, none⟩))
            have z2 := blk_frozen HW7.out.c2 0
            have y2 : w7.cell? ⟨w.heap.size, 0, none⟩ = some (.pointer none) := cells1 HW7.out.c2
            have z3 := blk_frozen hs3 0
            have y3 := cells1 hs3
            have HT2 := Lib.hid (blk_set_ne hs2 (p := ⟨w.heap.size + 1, 0, none⟩) (by show w.heap.size + 1 ≠ w.heap.size; omega) (.int .i64 0))
            have HT3 := Lib.hid (blk_set hs3 0 (.int .i64 0))
            have HMT : Hid (Mv (fun k => k = w.heap.size ∨ k = w.heap.size + 1) w7 ((w7.setCell ⟨w.heap.size, 0, none⟩ (.pointer (some ⟨x, 0, none⟩))).setCell ⟨w.heap.size + 1, 0, none⟩ (.int .i64 0))) :=
              ((Mv.refl _ _).set (p := ⟨w.heap.size, 0, none⟩) (.inl (.inl rfl)) _).set (p := ⟨w.heap.size + 1, 0, none⟩) (.inl (.inr rfl)) _
            have HBS : Hid (w.heap.size + 2 ≤ w5.heap.size) := by have := HW5.out.lt; have := HW5.out.le; rw [Hid]; omega
            clear hf7 hyes hrun hs2 hs3
            go_wp2_with fail
            refine (cdMustR_ok (some ⟨x, 0, none⟩) w7).mono ?_
            rintro _ w8 ⟨rfl, rfl⟩
            go_wp2_with fail
            exact cdGet_end HYES HT2.out HT3.out (HW7.out.fr.mv HMT.out (fun k hk => by omega)) (by have := HBS.out; omega) (HRUN.out.low HMT.out (fun k hk => by have := HBS.out; omega)) _ (by rfl) (by rfl)
end Go.Proofs.YthjimnmgbcckjaaGreat
