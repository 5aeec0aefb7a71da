/- The plain map as a rising list of pairs: what it answers; the rules that an answer breaks. Plain Lean, no program in sight. -/
namespace Go.Jud

abbrev Pr := Int × Int
/-- Strictly rising keys. -/
def Up (L : List Pr) : Prop := L.Pairwise (fun p q => p.1 < q.1)
/-- How many keys are below one. -/
def rk : List Pr → Int → Nat
  | [], _ => 0
  | p :: l, k => if p.1 < k then rk l k + 1 else 0
theorem rk_le : ∀ (L : List Pr) (k : Int), rk L k ≤ L.length
  | [], _ => Nat.le_refl _
  | p :: l, k => by unfold rk; split; · have := rk_le l k; simp; omega
                    · simp
theorem rk_below : ∀ (L : List Pr) (k : Int) (i : Nat) (p : Pr), i < rk L k → L[i]? = some p → p.1 < k
  | [], _, _, _, h, _ => by simp [rk] at h
  | q :: l, k, i, p, h, hp => by
    unfold rk at h
    split at h
    · cases i with
      | zero => simp at hp; subst hp; assumption
      | succ i => exact rk_below l k i p (by omega) (by simpa using hp)
    · omega
theorem rk_at : ∀ (L : List Pr) (k : Int) (p : Pr), L[rk L k]? = some p → k ≤ p.1
  | [], _, _, h => by simp at h
  | q :: l, k, p, h => by
    unfold rk at h
    split at h
    · exact rk_at l k p (by simpa using h)
    · simp at h; subst h; omega
theorem up_get {L : List Pr} (h : Up L) {i j : Nat} {p q : Pr} (hij : i < j) (hp : L[i]? = some p) (hq : L[j]? = some q) : p.1 < q.1 := by
  obtain ⟨hi, rfl⟩ := List.getElem?_eq_some_iff.1 hp
  obtain ⟨hj, rfl⟩ := List.getElem?_eq_some_iff.1 hq
  exact List.pairwise_iff_getElem.1 h i j hi hj hij
theorem rk_above {L : List Pr} (h : Up L) {k : Int} {i : Nat} {p : Pr} (hi : rk L k ≤ i) (hp : L[i]? = some p) : k ≤ p.1 := by
  obtain ⟨hi', rfl⟩ := List.getElem?_eq_some_iff.1 hp
  have h0 := rk_at L k L[rk L k] (List.getElem?_eq_getElem (by omega))
  rcases Nat.lt_or_ge (rk L k) i with h1 | h1
  · have := up_get h h1 (List.getElem?_eq_getElem (by omega)) hp
    omega
  · have : rk L k = i := by omega
    simp only [this] at h0
    exact h0
theorem rk_unique {L : List Pr} {k : Int} {r : Nat} (hr : r ≤ L.length) (h1 : ∀ i p, i < r → L[i]? = some p → p.1 < k) (h2 : ∀ p, L[r]? = some p → k ≤ p.1) : rk L k = r := by
  rcases Nat.lt_trichotomy (rk L k) r with h | h | h
  · have hl : rk L k < L.length := by omega
    have a := h1 (rk L k) _ h (List.getElem?_eq_getElem hl)
    have b := rk_at L k _ (List.getElem?_eq_getElem hl)
    omega
  · exact h
  · have := rk_le L k
    have hl : r < L.length := by omega
    have a := rk_below L k r _ h (List.getElem?_eq_getElem hl)
    have b := h2 _ (List.getElem?_eq_getElem hl)
    omega
/-- Whether the key is there. -/
def isAt (L : List Pr) (k : Int) : Bool := match L[rk L k]? with
  | some p => p.1 == k
  | none => false
/-- What stands at it, or 0. -/
def valAt (L : List Pr) (k : Int) : Int := match L[rk L k]? with
  | some p => if p.1 = k then p.2 else 0
  | none => 0
theorem isAt_iff {L : List Pr} (h : Up L) (k : Int) : isAt L k = true ↔ ∃ v, (k, v) ∈ L := by
  unfold isAt
  constructor
  · intro h1
    cases h2 : L[rk L k]? with
    | none => rw [h2] at h1; cases h1
    | some p => rw [h2] at h1; simp at h1; subst h1; exact ⟨p.2, List.mem_of_getElem? h2⟩
  · rintro ⟨v, hv⟩
    obtain ⟨i, hi, he⟩ := List.getElem_of_mem hv
    have hp : L[i]? = some (k, v) := by rw [List.getElem?_eq_getElem hi, he]
    have e : rk L k = i := rk_unique (by omega) (fun j q hj hq => up_get h hj hq hp) (fun p hp' => by rw [hp] at hp'; cases hp'; exact Int.le_refl _)
    rw [e, hp]; simp
theorem valAt_mem {L : List Pr} (h : Up L) {k v : Int} (hv : (k, v) ∈ L) : valAt L k = v := by
  obtain ⟨i, hi, he⟩ := List.getElem_of_mem hv
  have hp : L[i]? = some (k, v) := by rw [List.getElem?_eq_getElem hi, he]
  have e : rk L k = i := rk_unique (by omega) (fun j q hj hq => up_get h hj hq hp) (fun p hp' => by rw [hp] at hp'; cases hp'; exact Int.le_refl _)
  unfold valAt
  rw [e, hp]; simp
theorem isAt_get {L : List Pr} {k : Int} (h : isAt L k = true) : ∃ v, L[rk L k]? = some (k, v) ∧ valAt L k = v := by
  unfold isAt at h
  cases h2 : L[rk L k]? with
  | none => rw [h2] at h; cases h
  | some p => rw [h2] at h; simp at h; subst h; exact ⟨p.2, rfl, by unfold valAt; rw [h2]; simp⟩
theorem isAt_lt {L : List Pr} {k : Int} (h : isAt L k = true) : rk L k < L.length := by
  obtain ⟨v, hv, _⟩ := isAt_get h
  exact (List.getElem?_eq_some_iff.1 hv).1
theorem valAt_not {L : List Pr} {k : Int} (h : isAt L k = false) : valAt L k = 0 := by
  unfold isAt at h; unfold valAt
  cases h2 : L[rk L k]? with
  | none => rfl
  | some p => rw [h2] at h; simp at h; simp [h]
theorem up_mem {L : List Pr} (h : Up L) {k v v' : Int} (h1 : (k, v) ∈ L) (h2 : (k, v') ∈ L) : v = v' := by rw [← valAt_mem h h1, valAt_mem h h2]

/-- The list behind a put of a key that is there; of one that is not. -/
def setL (L : List Pr) (k v : Int) : List Pr := L.set (rk L k) (k, v)
def insL (L : List Pr) (k v : Int) : List Pr := L.take (rk L k) ++ (k, v) :: L.drop (rk L k)
def delL (L : List Pr) (k : Int) : List Pr := if isAt L k then L.take (rk L k) ++ L.drop (rk L k + 1) else L
theorem up_split {L : List Pr} (n : Nat) : Up L ↔ Up (L.take n) ∧ Up (L.drop n) ∧ ∀ p ∈ L.take n, ∀ q ∈ L.drop n, p.1 < q.1 := by
  unfold Up
  conv => lhs; rw [← List.take_append_drop n L]
  exact List.pairwise_append
theorem mem_take_rk {L : List Pr} {k : Int} {p : Pr} (h : p ∈ L.take (rk L k)) : p.1 < k := by
  obtain ⟨i, hi, he⟩ := List.getElem_of_mem h
  rw [List.length_take] at hi
  rw [List.getElem_take] at he
  exact rk_below L k i p (by omega) (by rw [List.getElem?_eq_getElem (by omega), he])
theorem mem_drop_rk {L : List Pr} (hu : Up L) {k : Int} {j : Nat} (hj : rk L k ≤ j) {p : Pr} (h : p ∈ L.drop j) : k ≤ p.1 := by
  obtain ⟨i, hi, he⟩ := List.getElem_of_mem h
  rw [List.length_drop] at hi
  rw [List.getElem_drop] at he
  exact rk_above hu (i := j + i) (by omega) (by rw [List.getElem?_eq_getElem (by omega), he])
theorem up_ins {L : List Pr} (h : Up L) {k v : Int} (hn : isAt L k = false) : Up (insL L k v) := by
  obtain ⟨h1, h2, h3⟩ := (up_split (rk L k)).1 h
  have h4 : ∀ q ∈ L.drop (rk L k), k < q.1 := fun q hq => by
    have := mem_drop_rk h (Nat.le_refl _) hq
    rcases Int.lt_or_lt_of_ne (show k ≠ q.1 from fun e => by
      have hm : (k, q.2) ∈ L := by rw [e]; exact List.mem_of_mem_drop hq
      rw [(isAt_iff h k).2 ⟨_, hm⟩] at hn; cases hn) with h | h <;> omega
  refine List.pairwise_append.2 ⟨h1, List.pairwise_cons.2 ⟨fun q hq => h4 q hq, h2⟩, fun p hp q hq => ?_⟩
  have := mem_take_rk hp
  rcases List.mem_cons.1 hq with rfl | hq
  · exact this
  · have := h4 q hq; show p.1 < q.1; omega
theorem up_set {L : List Pr} (h : Up L) {k v : Int} (hn : isAt L k = true) : Up (setL L k v) := by
  obtain ⟨v0, hv, _⟩ := isAt_get hn
  refine List.pairwise_iff_getElem.2 fun i j hi hj hij => ?_
  unfold setL at *
  have key : ∀ t (ht : t < (L.set (rk L k) (k, v)).length), ((L.set (rk L k) (k, v))[t]'ht).1 = (L[t]'(by simpa using ht)).1 := fun t ht => by
    rw [List.getElem_set]
    split
    · rename_i e; subst e
      have := (List.getElem?_eq_some_iff.1 hv).2
      rw [this]
    · rfl
  rw [key, key]
  exact List.pairwise_iff_getElem.1 h i j (by simpa using hi) (by simpa using hj) hij
theorem up_del {L : List Pr} (h : Up L) (k : Int) : Up (delL L k) := by
  unfold delL
  split
  · obtain ⟨h1, h2, h3⟩ := (up_split (rk L k)).1 h
    refine List.pairwise_append.2 ⟨h1, ?_, fun p hp q hq => h3 p hp q ?_⟩
    · exact ((up_split (rk L k + 1)).1 h).2.1
    · rw [← List.drop_drop] at hq
      exact List.mem_of_mem_drop hq
  · exact h
theorem mem_ins {L : List Pr} (k v : Int) (p : Pr) : p ∈ insL L k v ↔ p = (k, v) ∨ p ∈ L := by
  unfold insL
  rw [List.mem_append, List.mem_cons]
  conv => rhs; rw [← List.take_append_drop (rk L k) L, List.mem_append]
  constructor
  · rintro (h | h | h)
    · exact .inr (.inl h)
    · exact .inl h
    · exact .inr (.inr h)
  · rintro (h | h | h)
    · exact .inr (.inl h)
    · exact .inl h
    · exact .inr (.inr h)
theorem len_ins (L : List Pr) (k v : Int) : (insL L k v).length = L.length + 1 := by
  unfold insL
  have := rk_le L k
  simp; omega
theorem len_set (L : List Pr) (k v : Int) : (setL L k v).length = L.length := by simp [setL]
theorem mem_set {L : List Pr} (h : Up L) {k v : Int} (hn : isAt L k = true) (p : Pr) : p ∈ setL L k v ↔ p = (k, v) ∨ (p.1 ≠ k ∧ p ∈ L) := by
  obtain ⟨v0, hv, _⟩ := isAt_get hn
  have hlt := isAt_lt hn
  constructor
  · intro hp
    obtain ⟨i, hi, he⟩ := List.getElem_of_mem hp
    unfold setL at hi he
    rw [List.getElem_set] at he
    split at he
    · exact .inl he.symm
    · rename_i hne
      have hi' : i < L.length := by simpa using hi
      refine .inr ⟨?_, he ▸ List.getElem_mem _⟩
      have hp : L[i]? = some p := by rw [List.getElem?_eq_getElem hi', he]
      rcases Nat.lt_or_ge i (rk L k) with h1 | h1
      · have := up_get h h1 hp hv; simp at this; omega
      · have := up_get h (show rk L k < i by omega) hv hp; simp at this; omega
  · rintro (rfl | ⟨h1, h2⟩)
    · unfold setL; exact List.mem_iff_getElem.2 ⟨rk L k, by simpa using hlt, by simp⟩
    · obtain ⟨i, hi, he⟩ := List.getElem_of_mem h2
      refine List.mem_iff_getElem.2 ⟨i, by simpa [setL] using hi, ?_⟩
      unfold setL
      rw [List.getElem_set]
      split
      · rename_i e; subst e
        have := (List.getElem?_eq_some_iff.1 hv).2
        rw [he] at this; exact absurd (by rw [this]) h1
      · exact he
theorem mem_del {L : List Pr} (h : Up L) (k : Int) (p : Pr) : p ∈ delL L k ↔ p.1 ≠ k ∧ p ∈ L := by
  unfold delL
  cases hn : isAt L k with
  | false =>
    simp only [Bool.false_eq_true, if_false]
    refine ⟨fun hp => ⟨fun e => ?_, hp⟩, fun h => h.2⟩
    have : (k, p.2) ∈ L := by rw [← e]; exact hp
    rw [(isAt_iff h k).2 ⟨_, this⟩] at hn; cases hn
  | true =>
    obtain ⟨v0, hv, _⟩ := isAt_get hn
    have hlt := isAt_lt hn
    simp only [if_true]
    rw [List.mem_append]
    have e2 : L.drop (rk L k) = (k, v0) :: L.drop (rk L k + 1) := by
      rw [List.drop_eq_getElem_cons hlt, (List.getElem?_eq_some_iff.1 hv).2]
    constructor
    · rintro (hp | hp)
      · have := mem_take_rk hp
        exact ⟨by omega, List.mem_of_mem_take hp⟩
      · have h3 := ((up_split (rk L k)).1 h).2.1
        rw [e2] at h3
        have := (List.pairwise_cons.1 h3).1 p hp
        exact ⟨by simp at this; omega, List.mem_of_mem_drop hp⟩
    · rintro ⟨h1, h2⟩
      rw [← List.take_append_drop (rk L k) L, List.mem_append] at h2
      rcases h2 with h2 | h2
      · exact .inl h2
      · rw [e2] at h2
        rcases List.mem_cons.1 h2 with rfl | h2
        · exact absurd rfl h1
        · exact .inr h2
theorem len_del (L : List Pr) (k : Int) : (delL L k).length + (if isAt L k then 1 else 0) = L.length := by
  unfold delL
  cases hn : isAt L k with
  | false => simp
  | true => have := isAt_lt hn; simp; omega

/-- An operation; an answer. -/
structure OpV where (kind key val : Int)
structure AnsV where (code : Int) (is : Bool) (key val num : Int) (list : List Pr)
deriving DecidableEq
def ans0 : AnsV := ⟨0, false, 0, 0, 0, []⟩
/-- The pairs from one key to another. -/
def span (L : List Pr) (lo hi : Int) : List Pr := (L.drop (rk L lo)).takeWhile (fun p => decide (p.1 ≤ hi))
/-- Floor or ceil: the pair at that place, if there is one. -/
def pairAt (L : List Pr) (n : Int) : AnsV := if 0 ≤ n ∧ n < L.length then (match L[n.toNat]? with | some p => ⟨0, true, p.1, p.2, 0, []⟩ | none => ans0) else ans0
/-- What the plain map answers, and what it is then. -/
def does (most : Int) (L : List Pr) (o : OpV) : AnsV × List Pr :=
  if o.kind = 1 then
    (if isAt L o.key then (ans0, setL L o.key o.val) else if (L.length : Int) ≥ most then ({ ans0 with code := 161 }, L) else (ans0, insL L o.key o.val))
  else if o.kind = 2 then ({ ans0 with is := isAt L o.key }, delL L o.key)
  else if o.kind = 3 then ({ ans0 with is := isAt L o.key, val := valAt L o.key }, L)
  else if o.kind = 4 then (pairAt L (if isAt L o.key then rk L o.key else (rk L o.key : Int) - 1), L)
  else if o.kind = 5 then (pairAt L (rk L o.key), L)
  else if o.kind = 6 then ({ ans0 with num := rk L o.key }, L)
  else if o.kind = 7 then ({ ans0 with list := span L o.key o.val }, L)
  else ({ ans0 with code := 1 }, L)
/-- The rules that an answer breaks. -/
def broken (a w : AnsV) : List Bool := [a.code != w.code, a.is != w.is, a.key != w.key || a.val != w.val, a.num != w.num, !(decide (a.list = w.list))]
def pick : List Bool → Int → List Int
  | [], _ => []
  | b :: l, i => (if b then [i] else []) ++ pick l (i + 1)
def rules (a w : AnsV) : List Int := pick (broken a w) 1

theorem pick_snoc : ∀ (l : List Bool) (b : Bool) (i : Int), pick (l ++ [b]) i = pick l i ++ (if b then [i + l.length] else [])
  | [], b, i => by simp [pick]
  | x :: l, b, i => by
    rw [List.cons_append, pick, pick, pick_snoc l b (i + 1), List.append_assoc, List.length_cons]
    congr 2
    split
    · congr 1; omega
    · rfl
theorem pick_len : ∀ (l : List Bool) (i : Int), (pick l i).length ≤ l.length
  | [], _ => by simp [pick]
  | x :: l, i => by have := pick_len l (i + 1); cases x <;> simp [pick] <;> omega
/-- In range. -/
def U (x : Int) : Prop := 0 ≤ x ∧ x < 18446744073709551616
def InU (L : List Pr) : Prop := ∀ p ∈ L, U p.1 ∧ U p.2
theorem up_does {most : Int} {L : List Pr} (h : Up L) (o : OpV) : Up (does most L o).2 := by
  unfold does
  repeat' split
  · exact up_set h (by assumption)
  · exact h
  · exact up_ins h (by simpa using ‹¬ isAt L o.key = true›)
  · exact up_del h _
  all_goals exact h
theorem in_does {most : Int} {L : List Pr} (hu : Up L) (h : InU L) (o : OpV) (hk : U o.key) (hv : U o.val) : InU (does most L o).2 := by
  unfold does
  repeat' split
  · intro p hp
    rcases (mem_set hu (by assumption) p).1 hp with rfl | ⟨_, hp⟩
    · exact ⟨hk, hv⟩
    · exact h p hp
  · exact h
  · intro p hp
    rcases (mem_ins _ _ p).1 hp with rfl | hp
    · exact ⟨hk, hv⟩
    · exact h p hp
  · intro p hp; exact h p ((mem_del hu _ p).1 hp).2
  all_goals exact h
theorem len_does {most : Int} {L : List Pr} (o : OpV) : (does most L o).2.length ≤ L.length + 1 := by
  unfold does
  repeat' split
  · rw [len_set]; omega
  · exact Nat.le_succ _
  · exact Nat.le_of_eq (len_ins _ _ _)
  · have := len_del L o.key; show (delL L o.key).length ≤ _; omega
  all_goals exact Nat.le_succ _
theorem most_does {most : Int} {L : List Pr} (h : (L.length : Int) ≤ most) (o : OpV) : ((does most L o).2.length : Int) ≤ most := by
  unfold does
  repeat' split
  · rw [len_set]; exact h
  · exact h
  · show ((insL L o.key o.val).length : Int) ≤ most
    rw [len_ins]; omega
  · have := len_del L o.key; show ((delL L o.key).length : Int) ≤ most; omega
  all_goals exact h
theorem same_does {most : Int} {L : List Pr} (o : OpV) (h1 : o.kind ≠ 1) (h2 : o.kind ≠ 2) : (does most L o).2 = L := by
  unfold does
  rw [if_neg h1, if_neg h2]
  repeat' split
  all_goals rfl

end Go.Jud
