/- The faults of a beginning. Plain Lean. -/
import Derived.Test.YtjannhphmemenaaLawP
namespace Go.Jud
theorem fl_append (most : Int) : ∀ (os1 : List OpV) (qs1 : List AnsV) (os2 : List OpV) (qs2 : List AnsV) (L : List Pr) (i : Int), os1.length = qs1.length →
    fl most L (os1 ++ os2) (qs1 ++ qs2) i = fl most L os1 qs1 i ++ fl most (runs most L os1) os2 qs2 (i + os1.length)
  | [], [], os2, qs2, L, i, _ => by simp [fl, runs]
  | o :: os1, a :: qs1, os2, qs2, L, i, h => by
    have ih := fl_append most os1 qs1 os2 qs2 (does most L o).2 (i + 1) (by simpa using h)
    rw [List.cons_append, List.cons_append, fl, fl, ih, List.append_assoc]
    have e : runs most (does most L o).2 os1 = runs most L (o :: os1) := rfl
    have e2 : i + 1 + (os1.length : Int) = i + ((o :: os1).length : Int) := by simp; omega
    rw [e, e2]
  | [], _ :: _, _, _, _, _, h => by simp at h
  | _ :: _, [], _, _, _, _, h => by simp at h
theorem fl_at (most : Int) : ∀ (os : List OpV) (qs : List AnsV) (L : List Pr) (i : Int), ∀ p ∈ fl most L os qs i, i ≤ p.1
  | o :: os, a :: qs, L, i, p, hp => by
    rw [fl, List.mem_append] at hp
    rcases hp with hp | hp
    · obtain ⟨r, _, rfl⟩ := List.mem_map.1 hp
      exact Int.le_refl _
    · have := fl_at most os qs _ (i + 1) p hp
      omega
  | [], _, _, _, p, hp => by simp [fl] at hp
  | _ :: _, [], _, _, p, hp => by simp [fl] at hp
/-- The faults of a beginning are a beginning of the faults; what follows lies behind. -/
theorem fl_beg (most : Int) (os : List OpV) (qs : List AnsV) (k : Nat) (h : os.length = qs.length) : ∃ R, fl most [] os qs 0 = fl most [] (os.take k) (qs.take k) 0 ++ R ∧ ∀ p ∈ R, ((min k os.length : Nat) : Int) ≤ p.1 := by
  refine ⟨fl most (runs most [] (os.take k)) (os.drop k) (qs.drop k) ((min k os.length : Nat) : Int), ?_, fun p hp => fl_at _ _ _ _ _ p hp⟩
  have := fl_append most (os.take k) (qs.take k) (os.drop k) (qs.drop k) [] 0 (by simp [h])
  rw [List.take_append_drop, List.take_append_drop] at this
  rw [this]
  congr 2
  simp
theorem most_runs {most : Int} : ∀ (os : List OpV) {L : List Pr}, (L.length : Int) ≤ most → ((runs most L os).length : Int) ≤ most
  | [], _, h => h
  | o :: os, L, h => most_runs os (most_does h o)
theorem allF_same {most : Int} {os : List OpV} {qs : List AnsV} (h : os.length = qs.length) : allF most os qs = fl most [] os qs 0 := by
  unfold allF
  rw [if_pos h, List.append_nil]
end Go.Jud
