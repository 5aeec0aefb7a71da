/- Parts of this proof, one behind the other: Uniq. -/
import Derived.Test.YtelpbbkmkighfaaGreatQJ
namespace Go.Proofs.YtelpbbkmkighfaaGreat
open Go.RowKit Go.Inc Go.Run

theorem level_unique {e : Int} {L : List Int} (hR : Rise L) : ∀ {S S' : List Seg} {s : Nat}, LevelOf e L s S L.length → LevelOf e L s S' L.length → S = S'
  | [], [], _, _, _ => rfl
  | [], x :: S', s, h, h' => by
    have h1 : s = L.length := h
    obtain ⟨u, hc, _, _⟩ := h'
    have := hc.1; have := hc.2.1; omega
  | x :: S, [], s, h, h' => by
    have h1 : s = L.length := h'
    obtain ⟨u, hc, _, _⟩ := h
    have := hc.1; have := hc.2.1; omega
  | x :: S, y :: S', s, h, h' => by
    obtain ⟨u, hc, hs, h2⟩ := h
    obtain ⟨v, hc', hs', h2'⟩ := h'
    obtain rfl := hc.unique hR hc'
    obtain rfl := hs.unique (seg_rise hR _ _) hs'
    rw [level_unique hR h2 h2']
theorem levels_unique {e : Int} : ∀ {Ss Ss' : List (List Seg)} {K : List Int}, Rise K → KeysOk K → LevelsOf e K Ss → LevelsOf e K Ss' → Ss = Ss'
  | [], [], _, _, _, _, _ => rfl
  | [], S :: Ss', K, _, _, h, h' => by
    have h1 : K = [] := h
    have h2 := h'.1
    rw [h1] at h2; simp at h2
  | S :: Ss, [], K, _, _, h, h' => by
    have h1 : K = [] := h'
    have h2 := h.1
    rw [h1] at h2; simp at h2
  | S :: Ss, T :: Ss', K, hR, hK, h, h' => by
    obtain ⟨h0, hl, h1, h2⟩ := h
    obtain ⟨_, hl', h1', h2'⟩ := h'
    obtain rfl := level_unique hR hl hl'
    by_cases hS : S.length = 1
    · rw [h1 hS, h1' hS]
    · obtain ⟨f1, _, f3⟩ := level_first hR hK hl
      rw [levels_unique f1 f3 (h2 hS) (h2' hS)]
end Go.Proofs.YtelpbbkmkighfaaGreat
