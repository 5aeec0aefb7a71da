/- The faults of rows of operations and answers; their memory. -/
import Derived.Test.YtjannhphmemenaaRefL
namespace Go.Jud
/-- The plain map behind these operations. -/
def runs (most : Int) (L : List Pr) (os : List OpV) : List Pr := os.foldl (fun L o => (does most L o).2) L
/-- The faults of these answers, from place i on. -/
def fl (most : Int) : List Pr → List OpV → List AnsV → Int → List Pr
  | L, o :: os, a :: qs, i => (rules a (does most L o).1).map (fun r => (i, r)) ++ fl most (does most L o).2 os qs (i + 1)
  | _, _, _, _ => []
/-- What All tells. -/
def allF (most : Int) (os : List OpV) (qs : List AnsV) : List Pr :=
  fl most [] os qs 0 ++ (if os.length = qs.length then [] else [(((min os.length qs.length : Nat) : Int), (6 : Int))])
theorem runs_snoc (most : Int) (L : List Pr) (os : List OpV) (o : OpV) : runs most L (os ++ [o]) = (does most (runs most L os) o).2 := by simp [runs, List.foldl_append]
theorem runs_take {most : Int} {L : List Pr} {os : List OpV} {i : Nat} {o : OpV} (h : os[i]? = some o) : runs most L (os.take (i + 1)) = (does most (runs most L (os.take i)) o).2 := by
  rw [List.take_add_one, h]; exact runs_snoc _ _ _ _
theorem fl_snoc (most : Int) : ∀ (os : List OpV) (qs : List AnsV) (L : List Pr) (i : Int) (o : OpV) (a : AnsV), os.length = qs.length →
    fl most L (os ++ [o]) (qs ++ [a]) i = fl most L os qs i ++ (rules a (does most (runs most L os) o).1).map (fun r => (i + os.length, r))
  | [], [], L, i, o, a, _ => by simp [fl, runs]
  | o' :: os, a' :: qs, L, i, o, a, h => by
    have ih := fl_snoc most os qs (does most L o').2 (i + 1) o a (by simpa using h)
    rw [List.cons_append, List.cons_append, fl, fl, ih, List.append_assoc]
    have e : runs most (does most L o').2 os = runs most L (o' :: os) := rfl
    rw [e]
    congr 3
    funext r
    simp; omega
  | [], _ :: _, _, _, _, _, h => by simp at h
  | _ :: _, [], _, _, _, _, h => by simp at h
theorem fl_take {most : Int} {os : List OpV} {qs : List AnsV} {i : Nat} {o : OpV} {a : AnsV} (h1 : os[i]? = some o) (h2 : qs[i]? = some a) :
    fl most [] (os.take (i + 1)) (qs.take (i + 1)) 0 = fl most [] (os.take i) (qs.take i) 0 ++ (rules a (does most (runs most [] (os.take i)) o).1).map (fun r => ((i : Int), r)) := by
  have l1 := (List.getElem?_eq_some_iff.1 h1).1
  have l2 := (List.getElem?_eq_some_iff.1 h2).1
  rw [List.take_add_one, List.take_add_one, h1, h2]
  have := fl_snoc most (os.take i) (qs.take i) [] 0 o a (by simp; omega)
  rw [show (0 : Int) + ((os.take i).length : Nat) = i by simp; omega] at this
  exact this
theorem fl_short (most : Int) : ∀ (os : List OpV) (qs : List AnsV) (L : List Pr) (i : Int) (n : Nat), (n = os.length ∨ n = qs.length) → n ≤ os.length → n ≤ qs.length → fl most L (os.take n) (qs.take n) i = fl most L os qs i
  | [], qs, L, i, n, _, h1, _ => by cases n <;> simp_all [fl]
  | o :: os, [], L, i, n, _, _, h2 => by cases n <;> simp_all [fl]
  | o :: os, a :: qs, L, i, 0, h, _, _ => by simp at h
  | o :: os, a :: qs, L, i, n + 1, h, h1, h2 => by
    rw [List.take_succ_cons, List.take_succ_cons, fl, fl, fl_short most os qs _ _ n (by simpa using h) (by simpa using h1) (by simpa using h2)]
theorem rules_len (a w : AnsV) : (rules a w).length ≤ 5 := pick_len _ _
theorem fl_len (most : Int) : ∀ (os : List OpV) (qs : List AnsV) (L : List Pr) (i : Int), (fl most L os qs i).length ≤ 5 * os.length
  | o :: os, a :: qs, L, i => by
    have := fl_len most os qs (does most L o).2 (i + 1)
    have := rules_len a (does most L o).1
    rw [fl]; simp; omega
  | [], _, _, _ => by simp [fl]
  | _ :: _, [], _, _ => by simp [fl]
theorem runs_len (most : Int) : ∀ (os : List OpV) (L : List Pr), (runs most L os).length ≤ L.length + os.length
  | [], L => by simp [runs]
  | o :: os, L => by
    have := runs_len most os (does most L o).2
    have := len_does (most := most) (L := L) o
    have e : runs most L (o :: os) = runs most (does most L o).2 os := rfl
    rw [e]; simp; omega
theorem up_runs {most : Int} : ∀ (os : List OpV) {L : List Pr}, Up L → Up (runs most L os)
  | [], _, h => h
  | o :: os, L, h => up_runs os (up_does h o)
end Go.Jud

namespace Go.Proofs.Ytjannhphmemenaa
open Go.RowKit Go.Inc Go.Jud Go.Maps Go.Sort
/-- An answer in memory: its list lies at B, its capacity is c. -/
structure AnsC where (a : AnsV) (B : Option Addr) (c : Nat)
def ocells (o : OpV) : List Value := [.int .i64 o.kind, .int .u64 o.key, .int .u64 o.val]
theorem ocells_len (o : OpV) : (ocells o).length = 3 := rfl
def acells (x : AnsC) : List Value := [.int .i64 x.a.code, .bool x.a.is, .int .u64 x.a.key, .int .u64 x.a.val, .int .i64 x.a.num, .slice x.B x.a.list.length x.c]
theorem acells_len (x : AnsC) : (acells x).length = 6 := rfl
/-- Its list stands there. -/
def AnsOk (w : World) (x : AnsC) : Prop := RdC w x.B (x.a.list.flatMap pcells) ∧ x.a.list.length ≤ 1099511627776
theorem rows_at {α : Type} (f : α → List Value) (sz : Nat) (hsz : ∀ x, (f x).length = sz) (h0 : 0 < sz) {w : World} {A : Option Addr} {l : List α} (h : RdC w A (l.flatMap f)) (hne : 0 < l.length) : ∃ b off, A = some ⟨b, off, none⟩ ∧
    ∀ t x, l[t]? = some x → ∀ j v, (f x)[j]? = some v → w.cell? ⟨b, off + t * sz + j, none⟩ = some v := by
  obtain ⟨b, off, rfl, hc⟩ := h.at (by rw [flat_len f sz hsz]; exact Nat.mul_pos hne h0)
  refine ⟨b, off, rfl, fun t x hx j v hv => ?_⟩
  have hj : j < sz := by rw [← hsz x]; exact (List.getElem?_eq_some_iff.1 hv).1
  rw [Nat.add_assoc]
  exact hc _ _ (by rw [get_flat f sz hsz l t x j hx hj, hv])
/-- The cells of an operation, of an answer, as the walk wants them. -/
theorem op_at {w : World} {b s : Nat} {o : OpV} (h : ∀ j v, (ocells o)[j]? = some v → w.cell? ⟨b, s + j, none⟩ = some v) :
    w.cell? ⟨b, s, none⟩ = some (.int .i64 o.kind) ∧ w.cell? ⟨b, s + 1, none⟩ = some (.int .u64 o.key) ∧ w.cell? ⟨b, s + 2, none⟩ = some (.int .u64 o.val) := ⟨h 0 _ rfl, h 1 _ rfl, h 2 _ rfl⟩
theorem ans_at {w : World} {b s : Nat} {x : AnsC} (h : ∀ j v, (acells x)[j]? = some v → w.cell? ⟨b, s + j, none⟩ = some v) :
    w.cell? ⟨b, s, none⟩ = some (.int .i64 x.a.code) ∧ w.cell? ⟨b, s + 1, none⟩ = some (.bool x.a.is) ∧ w.cell? ⟨b, s + 2, none⟩ = some (.int .u64 x.a.key) ∧ w.cell? ⟨b, s + 3, none⟩ = some (.int .u64 x.a.val) ∧
    w.cell? ⟨b, s + 4, none⟩ = some (.int .i64 x.a.num) ∧ w.cell? ⟨b, s + 5, none⟩ = some (.slice x.B x.a.list.length x.c) := ⟨h 0 _ rfl, h 1 _ rfl, h 2 _ rfl, h 3 _ rfl, h 4 _ rfl, h 5 _ rfl⟩
theorem info_fault : (Try.prog.info? 61).map (fun i => (i.zero, i.size, i.bytes)) = some (some (.agg #[.int .i64 0, .int .i64 0]), 2, 16) := by kernel_rfl
end Go.Proofs.Ytjannhphmemenaa
