/- Parts of this proof, one behind the other: Hull, HullW, HullB, HullC, HullD, HullE, Fit, HullF. -/
import Derived.Deep.RegionWith
import Derived.Deep.RegionHeld3
import Derived.Deep.DeepCutAuto
import Derived.Test.YthjimnmgbcckjaaGreatQA
namespace Go.Inc

structure Pt where
  x : Int
  y : Int

/-- How the slope from p to q stands to that from p to r (by its sign); also that from p to r to that from q to r. -/
def cross (p q r : Pt) : Int := (q.y - p.y) * (r.x - p.x) - (r.y - p.y) * (q.x - p.x)
theorem cross_steeper (p q r : Pt) : (r.y - p.y) * (r.x - q.x) - (r.y - q.y) * (r.x - p.x) = cross p q r := by unfold cross; grind

def lin (N D : Int) (q : Pt) : Int := D * q.y - N * q.x

theorem pos_of_mul {a b : Int} (ha : 0 < a) (h : 0 ≤ a * b) : 0 ≤ b := by
  rcases Int.lt_or_le b 0 with hb | hb
  · have := Int.mul_neg_of_pos_of_neg ha hb; omega
  · exact hb

/-- A chain, newest first: s is 1 or -1. -/
def laid (s : Int) : List Pt → Pt → List Pt
  | b :: a :: rest, p => if 0 ≤ s * cross a b p then laid s (a :: rest) p else p :: b :: a :: rest
  | l, p => p :: l

/-- x falls along the list (newest first), and it bends. -/
def Chain (s : Int) : List Pt → Prop
  | b :: a :: rest => a.x < b.x ∧ (∀ z, rest.head? = some z → s * cross z a b < 0) ∧ Chain s (a :: rest)
  | _ => True

theorem Chain.tail {s : Int} {a : Pt} {l : List Pt} (h : Chain s (a :: l)) : Chain s l := by
  cases l with
  | nil => trivial
  | cons b l => exact h.2.2

theorem laid_chain (s : Int) : ∀ (l : List Pt) (p : Pt), Chain s l → (∀ q ∈ l, q.x < p.x) → Chain s (laid s l p)
  | [], p, _, _ => by simp [laid, Chain]
  | [a], p, _, hx => by simp [laid, Chain]; exact hx a (by simp)
  | b :: a :: rest, p, h, hx => by
    unfold laid
    split
    · exact laid_chain s (a :: rest) p h.tail (fun q hq => hx q (by simp [hq]))
    · rename_i hc
      refine ⟨hx b (by simp), fun z hz => ?_, h⟩
      simp at hz
      subst hz
      omega
termination_by l => l.length

theorem laid_mem (s : Int) : ∀ (l : List Pt) (p q : Pt), q ∈ laid s l p → q = p ∨ q ∈ l
  | [], p, q, h => by simp [laid] at h; exact .inl h
  | [a], p, q, h => by simpa [laid] using h
  | b :: a :: rest, p, q, h => by
    unfold laid at h
    split at h
    · rcases laid_mem s (a :: rest) p q h with h | h
      · exact .inl h
      · exact .inr (by simp at h ⊢; exact .inr h)
    · simpa using h
termination_by l => l.length

theorem laid_self (s : Int) : ∀ (l : List Pt) (p : Pt), p ∈ laid s l p
  | [], p => by simp [laid]
  | [a], p => by simp [laid]
  | b :: a :: rest, p => by
    unfold laid
    split
    · exact laid_self s (a :: rest) p
    · simp
termination_by l => l.length

theorem sub_lin (N D : Int) (a b : Pt) : lin N D b - lin N D a = D * (b.y - a.y) - N * (b.x - a.x) := by unfold lin; grind

/-- What is taken out lies behind a chord. -/
theorem dom3 (s N D : Int) (a b p : Pt) (hD : 0 ≤ D) (hab : a.x < b.x) (hbp : b.x < p.x) (hc : 0 ≤ s * cross a b p) : s * lin N D a ≤ s * lin N D b ∨ s * lin N D p ≤ s * lin N D b := by
  have h1 : 0 ≤ D * (s * cross a b p) := Int.mul_nonneg hD hc
  have e : (p.x - a.x) * (s * lin N D b - s * lin N D a) = (b.x - a.x) * (s * lin N D p - s * lin N D a) + D * (s * cross a b p) := by
    unfold lin cross; grind
  rcases Int.lt_or_le (s * lin N D p) (s * lin N D a) with h | h
  · right
    have h2 : 0 ≤ (p.x - b.x) * (s * lin N D a - s * lin N D p) := Int.mul_nonneg (by omega) (by omega)
    have h3 : 0 ≤ (p.x - a.x) * (s * lin N D b - s * lin N D p) := by grind
    have := pos_of_mul (by omega) h3
    omega
  · left
    have h2 : 0 ≤ (b.x - a.x) * (s * lin N D p - s * lin N D a) := Int.mul_nonneg (by omega) (by omega)
    have h3 : 0 ≤ (p.x - a.x) * (s * lin N D b - s * lin N D a) := by omega
    have := pos_of_mul (by omega) h3
    omega

/-- All points of a list are dominated by those of a chain. -/
def Dom (s : Int) (l pts : List Pt) : Prop := ∀ N D : Int, 0 ≤ D → ∀ q ∈ pts, ∃ v ∈ l, s * lin N D v ≤ s * lin N D q

theorem laid_dom_chain (s : Int) : ∀ (l : List Pt) (p : Pt), Chain s l → (∀ q ∈ l, q.x < p.x) → Dom s (laid s l p) (p :: l)
  | [], p, _, _ => fun N D _ q hq => ⟨q, by simpa [laid] using hq, Int.le_refl _⟩
  | [a], p, _, _ => fun N D _ q hq => ⟨q, by simpa [laid] using hq, Int.le_refl _⟩
  | b :: a :: rest, p, h, hx => by
    intro N D hD q hq
    unfold laid
    split
    · rename_i hc
      have ih := laid_dom_chain s (a :: rest) p h.tail (fun q hq => hx q (by simp [hq]))
      by_cases hb : q = b
      · subst hb
        rcases dom3 s N D a q p hD h.1 (hx q (by simp)) hc with h1 | h1
        · obtain ⟨v, hv, hl⟩ := ih N D hD a (by simp)
          exact ⟨v, hv, Int.le_trans hl h1⟩
        · obtain ⟨v, hv, hl⟩ := ih N D hD p (by simp)
          exact ⟨v, hv, Int.le_trans hl h1⟩
      · exact ih N D hD q (by simp at hq ⊢; grind)
    · exact ⟨q, by simpa using hq, Int.le_refl _⟩
termination_by l => l.length

theorem laid_dom {s : Int} {l pts : List Pt} {p : Pt} (hc : Chain s l) (hx : ∀ q ∈ l, q.x < p.x) (hd : Dom s l pts) : Dom s (laid s l p) (p :: pts) := by
  intro N D hD q hq
  have h1 := laid_dom_chain s l p hc hx N D hD
  rcases List.mem_cons.1 hq with rfl | hq
  · exact h1 q (by simp)
  · obtain ⟨v, hv, hl⟩ := hd N D hD q hq
    obtain ⟨u, hu, hl2⟩ := h1 v (by simp [hv])
    exact ⟨u, hu, Int.le_trans hl2 hl⟩

/-! ### the touching point, in the order of the chain (oldest first) -/
/-- a/b against c/d, by cross products. -/
theorem frac_trans {a b c d e f : Int} (hd : 0 < d) (hb : 0 ≤ b) (hf : 0 ≤ f) (h1 : a * d ≤ c * b) (h2 : c * f ≤ e * d) : a * f ≤ e * b := by
  have h3 : a * d * f ≤ c * b * f := Int.mul_le_mul_of_nonneg_right h1 hf
  have h4 : c * f * b ≤ e * d * b := Int.mul_le_mul_of_nonneg_right h2 hb
  have h5 : d * (a * f) ≤ d * (e * b) := by grind
  exact Int.le_of_mul_le_mul_left h5 hd

/-- The slope from u to p is not above (s = 1) that from v to p. -/
def SlLe (s : Int) (p u v : Pt) : Prop := s * ((p.y - u.y) * (p.x - v.x)) ≤ s * ((p.y - v.y) * (p.x - u.x))
theorem SlLe.refl (s : Int) (p u : Pt) : SlLe s p u u := Int.le_refl _
theorem SlLe.trans {s : Int} {p u v w : Pt} (hu : u.x < p.x) (hv : v.x < p.x) (hw : w.x < p.x) (h1 : SlLe s p u v) (h2 : SlLe s p v w) : SlLe s p u w := by
  unfold SlLe at *
  have := frac_trans (a := s * (p.y - u.y)) (b := p.x - u.x) (c := s * (p.y - v.y)) (d := p.x - v.x) (e := s * (p.y - w.y)) (f := p.x - w.x) (by omega) (by omega) (by omega) (by grind) (by grind)
  grind
theorem slLe_cross (s : Int) (p u v : Pt) : SlLe s p v u ↔ 0 ≤ s * cross u v p := by
  unfold SlLe cross
  constructor <;> intro h <;> grind
theorem slLe_cross' (s : Int) (p u v : Pt) : SlLe s p u v ↔ s * cross u v p ≤ 0 := by
  unfold SlLe cross
  constructor <;> intro h <;> grind

/-- Behind a place where the slopes fall they go on falling. -/
theorem uni (s : Int) (a b d p : Pt) (hab : a.x < b.x) (hbd : b.x < d.x) (hdp : d.x < p.x) (hc : s * cross a b d < 0) (h : 0 ≤ s * cross a b p) : 0 ≤ s * cross b d p := by
  have e : (b.x - a.x) * (s * cross b d p) = (d.x - b.x) * (s * cross a b p) - (p.x - b.x) * (s * cross a b d) := by unfold cross; grind
  have h1 : 0 ≤ (d.x - b.x) * (s * cross a b p) := Int.mul_nonneg (by omega) h
  have h2 : (p.x - b.x) * (s * cross a b d) < 0 := Int.mul_neg_of_pos_of_neg (by omega) hc
  exact pos_of_mul (a := b.x - a.x) (by omega) (by omega)

/-- The chain, oldest first: x rises, and it bends. -/
structure Bent (s : Int) (c : List Pt) : Prop where
  rise : ∀ i, (h : i + 1 < c.length) → c[i].x < c[i + 1].x
  bend : ∀ i, (h : i + 2 < c.length) → s * cross c[i] c[i + 1] c[i + 2] < 0

theorem Bent.below {s : Int} {c : List Pt} (hb : Bent s c) {p : Pt} (hp : ∀ q ∈ c, q.x < p.x) (i : Nat) (h : i + 1 < c.length) (h1 : 0 ≤ s * cross c[i] c[i + 1] p) :
    ∀ k, (hk : i + k + 1 < c.length) → 0 ≤ s * cross c[i + k] c[i + k + 1] p := by
  intro k
  induction k with
  | zero => intro _; exact h1
  | succ k ih =>
    intro hk
    have := ih (by omega)
    exact uni s _ _ _ p (hb.rise (i + k) (by omega)) (hb.rise (i + k + 1) hk) (hp _ (List.getElem_mem _)) (hb.bend (i + k) hk) this

theorem touch_best {s : Int} {c : List Pt} (hb : Bent s c) {p : Pt} (hp : ∀ q ∈ c, q.x < p.x) (i : Nat) (hi : i < c.length)
    (h1 : (h : i + 1 < c.length) → 0 ≤ s * cross c[i] c[i + 1] p) (h2 : (h : 0 < i) → ¬ 0 ≤ s * cross (c[i - 1]'(by omega)) c[i] p) :
    ∀ j, (hj : j < c.length) → SlLe s p c[j] c[i] := by
  have hpp : ∀ j, (hj : j < c.length) → c[j].x < p.x := fun j hj => hp _ (List.getElem_mem hj)
  -- behind i
  have up : ∀ k, (hk : i + k < c.length) → SlLe s p c[i + k] c[i] := by
    intro k
    induction k with
    | zero => intro _; exact SlLe.refl _ _ _
    | succ k ih =>
      intro hk
      have h3 := hb.below hp i (by omega) (h1 (by omega)) k (by omega)
      exact SlLe.trans (hpp _ _) (hpp (i + k) (by omega)) (hpp _ _) ((slLe_cross s p _ _).2 h3) (ih (by omega))
  -- ahead of i
  have dn : ∀ k, (hk : k ≤ i) → SlLe s p (c[i - k]'(by omega)) c[i] := by
    intro k
    induction k with
    | zero => intro _; exact SlLe.refl _ _ _
    | succ k ih =>
      intro hk
      have h3 : ¬ 0 ≤ s * cross (c[i - (k + 1)]'(by omega)) (c[i - (k + 1) + 1]'(by omega)) p := by
        intro h
        have h4 := hb.below hp (i - (k + 1)) (by omega) h k (by omega)
        have e1 : i - (k + 1) + k = i - 1 := by omega
        have e2 : i - (k + 1) + k + 1 = i := by omega
        have := h2 (by omega)
        apply this
        have e3 : c[i - (k + 1) + k]'(by omega) = c[i - 1]'(by omega) := by simp only [e1]
        have e4 : c[i - (k + 1) + k + 1]'(by omega) = c[i] := by simp only [e2]
        rw [e3, e4] at h4
        exact h4
      have e : i - (k + 1) + 1 = i - k := by omega
      have h5 := (slLe_cross' s p (c[i - (k + 1)]'(by omega)) (c[i - (k + 1) + 1]'(by omega))).2 (by omega)
      simp only [e] at h5
      exact SlLe.trans (hpp _ _) (hpp (i - k) (by omega)) (hpp _ _) h5 (ih (by omega))
  intro j hj
  rcases Nat.lt_or_ge j i with h | h
  · have := dn (i - j) (by omega)
    have e : i - (i - j) = j := by omega
    simp only [e] at this
    exact this
  · have := up (j - i) (by omega)
    have e : i + (j - i) = j := by omega
    simp only [e] at this
    exact this

theorem chain_rise {s : Int} : ∀ {l : List Pt}, Chain s l → ∀ i, (h : i + 1 < l.length) → l[i + 1].x < l[i].x
  | [], _, i, h => by simp at h
  | [_], _, i, h => by simp at h
  | b :: a :: rest, hc, 0, h => hc.1
  | b :: a :: rest, hc, i + 1, h => chain_rise hc.tail i (by simpa using h)
theorem chain_bend {s : Int} : ∀ {l : List Pt}, Chain s l → ∀ i, (h : i + 2 < l.length) → s * cross l[i + 2] l[i + 1] l[i] < 0
  | [], _, i, h => by simp at h
  | [_], _, i, h => by simp at h
  | [_, _], _, i, h => by simp at h; omega
  | b :: a :: z :: rest, hc, 0, h => hc.2.1 z rfl
  | b :: a :: z :: rest, hc, i + 1, h => chain_bend hc.tail i (by simpa using h)
theorem chain_bent {s : Int} {l : List Pt} (h : Chain s l) : Bent s l.reverse := by
  constructor
  · intro i hi
    rw [List.length_reverse] at hi
    have := chain_rise h (l.length - 1 - (i + 1)) (by omega)
    rw [List.getElem_reverse, List.getElem_reverse]
    have e : l.length - 1 - (i + 1) + 1 = l.length - 1 - i := by omega
    simp only [e] at this
    exact this
  · intro i hi
    rw [List.length_reverse] at hi
    have := chain_bend h (l.length - 1 - (i + 2)) (by omega)
    rw [List.getElem_reverse, List.getElem_reverse, List.getElem_reverse]
    have e : l.length - 1 - (i + 2) + 1 = l.length - 1 - (i + 1) := by omega
    have e2 : l.length - 1 - (i + 2) + 2 = l.length - 1 - i := by omega
    simp only [e, e2] at this
    exact this

/-- What is best in the chain is best of all points that it dominates. -/
theorem best_all {s : Int} {l pts : List Pt} (hd : Dom s l pts) {p v : Pt} (hv : v.x < p.x) (hx : ∀ q ∈ pts, q.x < p.x) (hl : ∀ q ∈ l, q.x < p.x) (h : ∀ q ∈ l, SlLe s p q v) : ∀ q ∈ pts, SlLe s p q v := by
  intro q hq
  obtain ⟨u, hu, hle⟩ := hd (p.y - v.y) (p.x - v.x) (by omega) q hq
  have h1 := h u hu
  unfold SlLe lin at *
  have h2 := hl u hu
  have h3 := hx q hq
  grind

end Go.Inc
namespace Go.Proofs.YthjimnmgbcckjaaGreat
set_option maxRecDepth 100000
open Go.RowKit Go.Inc

def ptVal (p : Pt) : Value := .agg #[.int .u64 p.x, .int .i64 p.y]
/-- A point as it comes up: its key is a key, its height is small. -/
def PtOk (p : Pt) : Prop := 0 ≤ p.x ∧ p.x < 18446744073709551616 ∧ -1152921504606846976 ≤ p.y ∧ p.y ≤ 1152921504606846976
theorem alloc3 (w : World) (o1 o2 o3 : Obj) : (((w.alloc o1).alloc o2).alloc o3).heap[w.heap.size]? = some o1 ∧ (((w.alloc o1).alloc o2).alloc o3).heap[w.heap.size + 1]? = some o2 ∧ (((w.alloc o1).alloc o2).alloc o3).heap[w.heap.size + 2]? = some o3 := by
  have h1 := heap_alloc_new w o1
  have h2 := heap_alloc_new (w.alloc o1) o2
  have h3 := heap_alloc_new ((w.alloc o1).alloc o2) o3
  rw [World.size_alloc] at h2
  rw [World.size_alloc, World.size_alloc] at h3
  exact ⟨((Fr.refl _).alloc o3).blk (((Fr.refl _).alloc o2).blk h1), ((Fr.refl _).alloc o3).blk h2, h3⟩
theorem cells2 {w : World} {g : Nat} {x0 x1 : Value} {e : TypeId} (h : w.heap[g]? = some (.cells #[x0, x1] e (0, 0))) : w.cell? ⟨g, 0, none⟩ = some x0 ∧ w.cell? ⟨g, 1, none⟩ = some x1 := by
  rw [blk_cell h, blk_cell h]; exact ⟨rfl, rfl⟩

theorem wcmp_of (A B C : Int) (hC : A - B = C) (w : World) : Calls Tryz.prog 158 #[.agg #[.int .i64 (A / 18446744073709551616), .int .u64 (A % 18446744073709551616)], .agg #[.int .i64 (B / 18446744073709551616), .int .u64 (B % 18446744073709551616)]] w
    fun e w' => e = .returned (.int .i64 (sg C)) ∧ Fr w w' := by
  refine (wcmp_calls _ _ _ _ (by omega) (by omega) w).mono ?_
  rintro e w' ⟨rfl, hf⟩
  refine ⟨?_, hf⟩
  rw [Int.ediv_mul_add_emod, Int.ediv_mul_add_emod, hC]
set_option maxHeartbeats 2000000 in
theorem turn_calls (p q r : Pt) (hp : PtOk p) (hq : PtOk q) (hr : PtOk r) (h1 : p.x ≤ q.x) (h2 : p.x ≤ r.x) (w : World) :
    Calls Tryz.prog 160 #[ptVal p, ptVal q, ptVal r] w fun e w' => e = .returned (.int .i64 (sg (cross p q r))) ∧ Fr w w' := by
  obtain ⟨px, py⟩ := p
  obtain ⟨qx, qy⟩ := q
  obtain ⟨rx, ry⟩ := r
  simp only [PtOk] at hp hq hr h1 h2
  have w1 : IntKind.i64.wrap (qy - py) = qy - py := wrap_i64_in _ (by omega) (by omega)
  have w2 : IntKind.i64.wrap (ry - py) = ry - py := wrap_i64_in _ (by omega) (by omega)
  have w3 : IntKind.u64.wrap (rx - px) = rx - px := wrap_u64_in _ (by omega) (by omega)
  have w4 : IntKind.u64.wrap (qx - px) = qx - px := wrap_u64_in _ (by omega) (by omega)
  have b1 : Hid ((-9223372036854775808 ≤ qy - py ∧ qy - py ≤ 9223372036854775807) ∧ (-9223372036854775808 ≤ ry - py ∧ ry - py ≤ 9223372036854775807) ∧ (0 ≤ rx - px ∧ rx - px < 18446744073709551616) ∧ (0 ≤ qx - px ∧ qx - px < 18446744073709551616)) := by rw [Hid]; omega
  clear hp hq hr h1 h2
  unfold ptVal
  go_enter Tryz.func160, Tryz.ntmps160
  go_wp2_with fail
  obtain ⟨w0, hw0⟩ : ∃ w0, w0 = ((w.alloc (.cells #[.int .u64 px, .int .i64 py] 198)).alloc (.cells #[.int .u64 qx, .int .i64 qy] 198)).alloc (.cells #[.int .u64 rx, .int .i64 ry] 198) := ⟨_, rfl⟩
  have ha := alloc3 w (.cells #[.int .u64 px, .int .i64 py] 198) (.cells #[.int .u64 qx, .int .i64 qy] 198) (.cells #[.int .u64 rx, .int .i64 ry] 198)
  have hf0 := (((Fr.refl w).alloc (.cells #[.int .u64 px, .int .i64 py] 198)).alloc (.cells #[.int .u64 qx, .int .i64 qy] 198)).alloc (.cells #[.int .u64 rx, .int .i64 ry] 198)
  rw [← hw0] at ha hf0 ⊢
  clear hw0
  have HC : Hid (∀ w', Fr w0 w' → (w'.cell? ⟨w.heap.size, 0, none⟩ = some (.int .u64 px) ∧ w'.cell? ⟨w.heap.size, 1, none⟩ = some (.int .i64 py)) ∧ (w'.cell? ⟨w.heap.size + 1, 0, none⟩ = some (.int .u64 qx) ∧ w'.cell? ⟨w.heap.size + 1, 1, none⟩ = some (.int .i64 qy)) ∧ (w'.cell? ⟨w.heap.size + 2, 0, none⟩ = some (.int .u64 rx) ∧ w'.cell? ⟨w.heap.size + 2, 1, none⟩ = some (.int .i64 ry))) :=
    fun w' hf => ⟨cells2 (hf.blk ha.1), cells2 (hf.blk ha.2.1), cells2 (hf.blk ha.2.2)⟩
  have HF0 := Lib.hid hf0
  clear ha hf0
  obtain ⟨A, hA⟩ : ∃ A, A = (qy - py) * (rx - px) := ⟨_, rfl⟩
  obtain ⟨B, hB⟩ : ∃ B, B = (ry - py) * (qx - px) := ⟨_, rfl⟩
  have hAB : Hid (A - B = cross ⟨px, py⟩ ⟨qx, qy⟩ ⟨rx, ry⟩) := by
    rw [Hid, hA, hB]; rfl
  have HA := Lib.hid hA
  have HB := Lib.hid hB
  clear hA hB
  go_region_held3 (fun w' => (w'.cell? ⟨w.heap.size, 0, none⟩ = some (.int .u64 px) ∧ w'.cell? ⟨w.heap.size, 1, none⟩ = some (.int .i64 py)) ∧ (w'.cell? ⟨w.heap.size + 1, 0, none⟩ = some (.int .u64 qx) ∧ w'.cell? ⟨w.heap.size + 1, 1, none⟩ = some (.int .i64 qy)) ∧ (w'.cell? ⟨w.heap.size + 2, 0, none⟩ = some (.int .u64 rx) ∧ w'.cell? ⟨w.heap.size + 2, 1, none⟩ = some (.int .i64 ry)))
    (first | exact HC.out _ ((Fr.refl w0).drew) | exact HC.out _ hf1.out | exact HC.out _ hf2.out | exact HC.out _ hf3.out)
    (first
      | (go_at_call_of 159 (qy - py); refine (times_calls (qy - py) (rx - px) b1.out.1 b1.out.2.2.1 w0.drew).mono ?_; rintro e wa ⟨rfl, hq1⟩; rw [← HA.out]; have hf1 : Hid (Fr w0 wa) := ((Fr.refl w0).drew).trans hq1)
      | (go_at_call_of 159 (ry - py); refine (times_calls (ry - py) (qx - px) b1.out.2.1 b1.out.2.2.2 wa).mono ?_; rintro e wb ⟨rfl, hq2⟩; rw [← HB.out]; have hf2 : Hid (Fr w0 wb) := hf1.out.trans hq2)
      | (go_at_call 158; refine (wcmp_of A B _ hAB.out _).mono ?_; rintro e wc ⟨rfl, hq3⟩; have hf3 : Hid (Fr w0 wc) := hf2.out.trans hq3))
  go_wp2_with fail
  go_ret
  exact ⟨rfl, HF0.out.trans hf3.out⟩
set_option maxHeartbeats 2000000 in
theorem steeper_calls (p q r : Pt) (hp : PtOk p) (hq : PtOk q) (hr : PtOk r) (h1 : q.x ≤ r.x) (h2 : p.x ≤ r.x) (w : World) :
    Calls Tryz.prog 155 #[ptVal p, ptVal q, ptVal r] w fun e w' => e = .returned (.int .i64 (sg (cross p q r))) ∧ Fr w w' := by
  obtain ⟨px, py⟩ := p
  obtain ⟨qx, qy⟩ := q
  obtain ⟨rx, ry⟩ := r
  simp only [PtOk] at hp hq hr h1 h2
  have w1 : IntKind.i64.wrap (ry - py) = ry - py := wrap_i64_in _ (by omega) (by omega)
  have w2 : IntKind.i64.wrap (ry - qy) = ry - qy := wrap_i64_in _ (by omega) (by omega)
  have w3 : IntKind.u64.wrap (rx - px) = rx - px := wrap_u64_in _ (by omega) (by omega)
  have w4 : IntKind.u64.wrap (rx - qx) = rx - qx := wrap_u64_in _ (by omega) (by omega)
  have b1 : Hid ((-9223372036854775808 ≤ ry - py ∧ ry - py ≤ 9223372036854775807) ∧ (-9223372036854775808 ≤ ry - qy ∧ ry - qy ≤ 9223372036854775807) ∧ (0 ≤ rx - qx ∧ rx - qx < 18446744073709551616) ∧ (0 ≤ rx - px ∧ rx - px < 18446744073709551616)) := by rw [Hid]; omega
  clear hp hq hr h1 h2
  unfold ptVal
  go_enter Tryz.func155, Tryz.ntmps155
  go_wp2_with fail
  obtain ⟨w0, hw0⟩ : ∃ w0, w0 = ((w.alloc (.cells #[.int .u64 px, .int .i64 py] 198)).alloc (.cells #[.int .u64 qx, .int .i64 qy] 198)).alloc (.cells #[.int .u64 rx, .int .i64 ry] 198) := ⟨_, rfl⟩
  have ha := alloc3 w (.cells #[.int .u64 px, .int .i64 py] 198) (.cells #[.int .u64 qx, .int .i64 qy] 198) (.cells #[.int .u64 rx, .int .i64 ry] 198)
  have hf0 := (((Fr.refl w).alloc (.cells #[.int .u64 px, .int .i64 py] 198)).alloc (.cells #[.int .u64 qx, .int .i64 qy] 198)).alloc (.cells #[.int .u64 rx, .int .i64 ry] 198)
  rw [← hw0] at ha hf0 ⊢
  clear hw0
  have HC : Hid (∀ w', Fr w0 w' → (w'.cell? ⟨w.heap.size, 0, none⟩ = some (.int .u64 px) ∧ w'.cell? ⟨w.heap.size, 1, none⟩ = some (.int .i64 py)) ∧ (w'.cell? ⟨w.heap.size + 1, 0, none⟩ = some (.int .u64 qx) ∧ w'.cell? ⟨w.heap.size + 1, 1, none⟩ = some (.int .i64 qy)) ∧ (w'.cell? ⟨w.heap.size + 2, 0, none⟩ = some (.int .u64 rx) ∧ w'.cell? ⟨w.heap.size + 2, 1, none⟩ = some (.int .i64 ry))) :=
    fun w' hf => ⟨cells2 (hf.blk ha.1), cells2 (hf.blk ha.2.1), cells2 (hf.blk ha.2.2)⟩
  have HF0 := Lib.hid hf0
  clear ha hf0
  obtain ⟨A, hA⟩ : ∃ A, A = (ry - py) * (rx - qx) := ⟨_, rfl⟩
  obtain ⟨B, hB⟩ : ∃ B, B = (ry - qy) * (rx - px) := ⟨_, rfl⟩
  have hAB : Hid (A - B = cross ⟨px, py⟩ ⟨qx, qy⟩ ⟨rx, ry⟩) := by
    rw [Hid, hA, hB]; exact cross_steeper ⟨px, py⟩ ⟨qx, qy⟩ ⟨rx, ry⟩
  have HA := Lib.hid hA
  have HB := Lib.hid hB
  clear hA hB
  go_region_held3 (fun w' => (w'.cell? ⟨w.heap.size, 0, none⟩ = some (.int .u64 px) ∧ w'.cell? ⟨w.heap.size, 1, none⟩ = some (.int .i64 py)) ∧ (w'.cell? ⟨w.heap.size + 1, 0, none⟩ = some (.int .u64 qx) ∧ w'.cell? ⟨w.heap.size + 1, 1, none⟩ = some (.int .i64 qy)) ∧ (w'.cell? ⟨w.heap.size + 2, 0, none⟩ = some (.int .u64 rx) ∧ w'.cell? ⟨w.heap.size + 2, 1, none⟩ = some (.int .i64 ry)))
    (first | exact HC.out _ ((Fr.refl w0).drew) | exact HC.out _ hf1.out | exact HC.out _ hf2.out | exact HC.out _ hf3.out)
    (first
      | (go_at_call_of 159 (ry - py); refine (times_calls (ry - py) (rx - qx) b1.out.1 b1.out.2.2.1 w0.drew).mono ?_; rintro e wa ⟨rfl, hq1⟩; rw [← HA.out]; have hf1 : Hid (Fr w0 wa) := ((Fr.refl w0).drew).trans hq1)
      | (go_at_call_of 159 (ry - qy); refine (times_calls (ry - qy) (rx - px) b1.out.2.1 b1.out.2.2.2 wa).mono ?_; rintro e wb ⟨rfl, hq2⟩; rw [← HB.out]; have hf2 : Hid (Fr w0 wb) := hf1.out.trans hq2)
      | (go_at_call 158; refine (wcmp_of A B _ hAB.out _).mono ?_; rintro e wc ⟨rfl, hq3⟩; have hf3 : Hid (Fr w0 wc) := hf2.out.trans hq3))
  go_wp2_with fail
  go_ret
  exact ⟨rfl, HF0.out.trans hf3.out⟩
end Go.Proofs.YthjimnmgbcckjaaGreat
namespace Go.Proofs.YthjimnmgbcckjaaGreat
set_option maxRecDepth 100000
open Go.RowKit Go.Inc

theorem bend_low (w : World) : Calls Tryz.prog 156 #[.int .i64 0] w fun e w' => e = .returned (.int .i64 (-1)) ∧ w' = w := by
  go_enter Tryz.func156, Tryz.ntmps156
  go_wp2
  go_ret
  exact ⟨rfl, rfl⟩
theorem bend_up (w : World) : Calls Tryz.prog 156 #[.int .i64 1] w fun e w' => e = .returned (.int .i64 1) ∧ w' = w := by
  go_enter Tryz.func156, Tryz.ntmps156
  go_wp2
  go_ret
  exact ⟨rfl, rfl⟩
theorem results_row_tmp {P : Program} {fn : Func} {p u : Tmp} {ty : TypeId} (h : fn.results = #[.cell p ty, .tmp u]) (tmps : Array Value) (w : World) (g : Nat) (t : TypeId) (cs : Array Value) (fr : Nat × Nat) (d : TypeDesc)
    (hp : tmps.getD p undef = .pointer (some ⟨g, 0, none⟩)) (hg : w.heap[g]? = some (.cells cs t fr))
    (hu : P.underlying ty = some d) (hd : (match d with | .struct _ | .array _ _ => true | _ => false) = true) (hi : (P.info? ty).map (·.size) = some cs.size) (b : Value) (hb : tmps.getD u undef = b) :
    (results fn tmps).run P w = .ok (.tuple #[.agg cs, b]) w := by
  rw [results_cell_tmp h]
  subst hb
  simp [hp, asAddr, run_loadVar_row w g t ty cs fr d hg hu hd hi, Result.andThen]

theorem wrap_div (x b : Nat) (hx : x < 18446744073709551616) : IntKind.u64.wrap ((x : Int) / (b : Int)) = ((x / b : Nat) : Int) := by
  have h1 : ((x : Int) / (b : Int)) = ((x / b : Nat) : Int) := by simp
  have h2 := Nat.div_le_self x b
  have h3 : ((x / b : Nat) : Int) ≤ (x : Int) := by exact_mod_cast h2
  rw [h1]
  exact wrap_u64_in _ (Int.natCast_nonneg _) (by omega)
set_option maxHeartbeats 1000000 in
theorem lowest_calls (n d : Nat) (hn : n < 18446744073709551616) (hd : d < 18446744073709551616) (h0 : 0 < d) (w : World) :
    Calls Tryz.prog 157 #[.int .u64 (n : Nat), .int .u64 (d : Nat)] w fun e w' => e = .returned (.tuple #[.agg #[.int .u64 ((n / Nat.gcd n d : Nat) : Int), .int .u64 ((d / Nat.gcd n d : Nat) : Int)], .int .i64 0]) ∧ Fr w w' := by
  have hz : ((d : Int) == 0) = false := by simp; omega
  go_enter Tryz.func157, Tryz.ntmps157
  go_wp2_with fail
  obtain ⟨w0, hw0⟩ : ∃ w0, w0 = w.alloc (.cells #[.int .u64 0, .int .u64 0] 184) := ⟨_, rfl⟩
  have hb := heap_alloc_new w (.cells #[.int .u64 0, .int .u64 0] 184)
  have hf := (Fr.refl w).alloc (.cells #[.int .u64 0, .int .u64 0] 184)
  rw [← hw0] at hb hf ⊢
  clear hw0
  have HB := Lib.hid hb
  have HF := Lib.hid hf
  clear hb hf
  go_loopw [6, 7] (fun va vb wr => ∃ a b : Nat, va = .int .u64 a ∧ vb = .int .u64 b ∧ Hid (Nat.gcd a b = Nat.gcd n d) ∧ 0 < b ∧ a < 18446744073709551616 ∧ b < 18446744073709551616 ∧ wr = w0) (fun va _ _ => (intOf va).toNat)
  case atStart => exact ⟨n, d, rfl, rfl, rfl, h0, hn, hd, rfl⟩
  case round =>
    obtain ⟨a, b, rfl, rfl, hg, hb0, ha, hb, rfl⟩ := hrel
    by_cases ha0 : 0 < a
    · have hz1 : decide ((a : Int) > 0) = true := decide_eq_true (by omega)
      have hz2 : (0 : Int) < (a : Int) := by omega
      have hzz : decide (0 < a) = true := decide_eq_true ha0
      have hnz : ¬ (a = 0) := by omega
      have hm : Hid (b % a < a) := Nat.mod_lt _ ha0
      go_wp2_with fail
      exact ⟨⟨b % a, a, by simp, rfl, by rw [Hid, ← hg.out]; exact (Nat.gcd_rec a b).symm, ha0, by have := hm.out; omega, ha, trivial⟩, by simp only [intOf]; have := hm.out; omega⟩
    · obtain rfl : a = 0 := by omega
      have hbg : Hid (b = Nat.gcd n d) := by have := hg.out; rwa [Nat.gcd_zero_left] at this
      have hnz : ¬ (b = 0) := by omega
      have hnz2 : ¬ ((b : Int) = 0) := by omega
      have hge : (1 : Int) ≤ (b : Int) := by omega
      have hq1 : IntKind.u64.wrap (Int.tdiv (n : Int) (b : Int)) = (n : Int) / (b : Int) := IntWalk.u64_quo _ _ (by omega)
      have hq2 : IntKind.u64.wrap (Int.tdiv (d : Int) (b : Int)) = (d : Int) / (b : Int) := IntWalk.u64_quo _ _ (by omega)
      go_wp2_with fail
      refine wp_region_quiet_tail 7 (by kernel_rfl) (by kernel_rfl) ?_
      try simp only [List.take_succ_cons, List.take_zero, List.drop_succ_cons, List.drop_zero]
      try go_frame
      repeat (quiet_step (fail))
      refine wpQuiet_nil ?_
      intro _ hw'
      obtain ⟨q, rfl⟩ := hw'
      obtain ⟨w1, hw1⟩ : ∃ w1, w1 = wr.drewN q := ⟨_, rfl⟩
      rw [← hw1]
      have hf1 : Hid (Fr wr w1) := by rw [hw1]; exact fr_drewN _ _
      clear hw1
      have HB1 := Lib.hid (hf1.out.blk HB.out)
      obtain ⟨c0, c1⟩ := cells2 HB1.out
      have f0 := blk_frozen HB1.out 0
      have f1 := blk_frozen HB1.out 1
      have hqq : Hid (∀ x : Nat, x < 18446744073709551616 → IntKind.u64.wrap ((x : Int) / (b : Int)) = ((x / b : Nat) : Int)) := fun x hx => wrap_div x b hx
      go_wp2_with fail
      refine bodyPost_ret (results_row_tmp rfl _ _ w.heap.size _ _ (0, 0) _ rfl (blk_set (blk_set HB1.out 0 _) 1 _) Tryz.underlying184 rfl (by kernel_rfl) _ rfl) rfl ⟨?_, ((HF.out.trans hf1.out).set (p := ⟨w.heap.size, 0, none⟩) (Nat.le_refl _) _).set (p := ⟨w.heap.size, 1, none⟩) (Nat.le_refl _) _⟩
      rw [← hbg.out, hqq.out n hn, hqq.out d hd]
      rfl

/-- A slope: its value. -/
def slVal (n d : Int) : Value := .agg #[.int .u64 n, .int .u64 d]
set_option maxHeartbeats 1000000 in
theorem between_calls (p q : Pt) (hp : PtOk p) (hq : PtOk q) (hx : p.x < q.x) (hy : p.y ≤ q.y) (w : World) :
    Calls Tryz.prog 140 #[ptVal p, ptVal q] w fun e w' => e = .returned (slVal (((q.y - p.y).toNat / Nat.gcd (q.y - p.y).toNat (q.x - p.x).toNat : Nat) : Int) (((q.x - p.x).toNat / Nat.gcd (q.y - p.y).toNat (q.x - p.x).toNat : Nat) : Int)) ∧ Fr w w' := by
  obtain ⟨px, py⟩ := p
  obtain ⟨qx, qy⟩ := q
  simp only [PtOk] at hp hq hx hy ⊢
  obtain ⟨n, hn⟩ : ∃ n : Nat, qy - py = (n : Int) := ⟨(qy - py).toNat, by omega⟩
  obtain ⟨d, hd⟩ : ∃ d : Nat, qx - px = (d : Int) := ⟨(qx - px).toNat, by omega⟩
  have w1 : IntKind.i64.wrap (qy - py) = (n : Int) := by rw [wrap_i64_in _ (by omega) (by omega)]; exact hn
  have w2 : IntKind.u64.wrap (n : Int) = (n : Int) := wrap_u64_in _ (by omega) (by omega)
  have w3 : IntKind.u64.wrap (qx - px) = (d : Int) := by rw [wrap_u64_in _ (by omega) (by omega)]; exact hd
  have hb : Hid (n < 18446744073709551616 ∧ d < 18446744073709551616 ∧ 0 < d) := by rw [Hid]; omega
  rw [hn, hd, Int.toNat_natCast, Int.toNat_natCast]
  clear hp hq hx hy hn hd
  unfold ptVal
  go_enter Tryz.func140, Tryz.ntmps140
  go_wp2_with fail
  refine (lowest_calls n d hb.out.1 hb.out.2.1 hb.out.2.2 _).mono ?_
  rintro e w2 ⟨he, hf2⟩
  obtain ⟨N, hN⟩ : ∃ N, N = n / Nat.gcd n d := ⟨_, rfl⟩
  obtain ⟨D, hD⟩ : ∃ D, D = d / Nat.gcd n d := ⟨_, rfl⟩
  rw [← hN, ← hD] at he
  have HN := Lib.hid hN
  have HD := Lib.hid hD
  clear hN hD
  subst he
  have hb3 := hf2.blk (alloc3 w (.cells #[.int .u64 px, .int .i64 py] 198) (.cells #[.int .u64 qx, .int .i64 qy] 198) (.cells #[.int .u64 0, .int .u64 0] 184)).2.2
  have hff := (((Fr.refl w).alloc (.cells #[.int .u64 px, .int .i64 py] 198)).alloc (.cells #[.int .u64 qx, .int .i64 qy] 198)).alloc (.cells #[.int .u64 0, .int .u64 0] 184)
  have HFF : Hid (Fr w w2) := hff.trans hf2
  have HB : Hid (∀ o, (w2.alloc o).heap[w.heap.size + 1 + 1]? = some (.cells #[.int .u64 0, .int .u64 0] 184)) := fun o => ((Fr.refl w2).alloc o).blk hb3
  have c0 := fun o => (cells2 (HB.out o)).1
  have c1 := fun o => (cells2 (HB.out o)).2
  have f0 := fun o => blk_frozen (HB.out o) 0
  have f1 := fun o => blk_frozen (HB.out o) 1
  clear hb3 hff hf2
  go_wp2_with fail
  exact bodyPost_ret (results_cell_row rfl _ _ (w.heap.size + 1 + 1) _ _ (0, 0) _ rfl (blk_set (blk_set (HB.out _) 0 _) 1 _) Tryz.underlying184 rfl (by kernel_rfl)) rfl ⟨by rw [← HN.out, ← HD.out]; rfl, ((HFF.out.alloc _).set (p := ⟨w.heap.size + 1 + 1, 0, none⟩) (by show _ ≤ w.heap.size + 1 + 1; omega) _).set (p := ⟨w.heap.size + 1 + 1, 1, none⟩) (by show _ ≤ w.heap.size + 1 + 1; omega) _⟩

/-- Whether a slope is below another one. -/
def slBelow (n d n' d' : Int) : Bool := if d' = 0 then d != 0 else (d != 0 && decide (n * d' < n' * d))
set_option maxHeartbeats 2000000 in
theorem below_calls (n d n' d' : Int) (hn : 0 ≤ n ∧ n ≤ 9223372036854775807) (hd : 0 ≤ d ∧ d < 18446744073709551616) (hn' : 0 ≤ n' ∧ n' ≤ 9223372036854775807) (hd' : 0 ≤ d' ∧ d' < 18446744073709551616) (w : World) :
    Calls Tryz.prog 141 #[slVal n d, slVal n' d'] w fun e w' => e = .returned (.bool (slBelow n d n' d')) ∧ Fr w w' := by
  have hff := Lib.hid (((Fr.refl w).alloc (.cells #[.int .u64 n, .int .u64 d] 184)).alloc (.cells #[.int .u64 n', .int .u64 d'] 184))
  unfold slVal
  by_cases h0 : d' = 0
  · subst h0
    have hs : Hid (slBelow n d n' 0 = (d != 0)) := by rw [Hid, slBelow, if_pos rfl]
    have hz : ((0 : Int) == 0) = true := rfl
    go_enter Tryz.func141, Tryz.ntmps141
    go_wp2_with fail
    go_ret
    exact ⟨by rw [hs.out]; rfl, hff.out⟩
  · have hz : (d' == 0) = false := by simpa using h0
    by_cases h1 : d = 0
    · subst h1
      have hs : Hid (slBelow n 0 n' d' = false) := by rw [Hid, slBelow, if_neg h0]; rfl
      have hz2 : ((0 : Int) != 0) = false := rfl
      clear h0
      go_enter Tryz.func141, Tryz.ntmps141
      go_wp2_with fail
      go_quiet (fail)
      go_wp2_with fail
      go_ret
      exact ⟨by rw [hs.out]; rfl, hff.out.drewN _⟩
    · have hz2 : (d != 0) = true := by simpa using h1
      obtain ⟨A, hA⟩ : ∃ A, A = n * d' := ⟨_, rfl⟩
      obtain ⟨B, hB⟩ : ∃ B, B = n' * d := ⟨_, rfl⟩
      have hs : Hid (slBelow n d n' d' = decide (sg (A - B) < 0)) := by
        rw [Hid, slBelow, if_neg h0, hz2, ← hA, ← hB, Bool.true_and]
        rcases Int.lt_trichotomy A B with h | h | h
        · rw [sg_neg (by omega), decide_eq_true h]; rfl
        · rw [sg_zero (by omega), decide_eq_false (by omega)]; rfl
        · rw [sg_pos (by omega), decide_eq_false (by omega)]; rfl
      have w1 : IntKind.i64.wrap n = n := wrap_i64_in _ (by omega) (by omega)
      have w2 : IntKind.i64.wrap n' = n' := wrap_i64_in _ (by omega) (by omega)
      have HA := Lib.hid hA
      have HB := Lib.hid hB
      have hn2 : Hid ((-9223372036854775808 ≤ n ∧ n ≤ 9223372036854775807) ∧ (-9223372036854775808 ≤ n' ∧ n' ≤ 9223372036854775807)) := by rw [Hid]; omega
      clear hA hB h0 h1
      go_enter Tryz.func141, Tryz.ntmps141
      go_wp2_with fail
      obtain ⟨w0, hw0⟩ : ∃ w0, w0 = ((w.alloc (.cells #[.int .u64 n, .int .u64 d] 184)).alloc (.cells #[.int .u64 n', .int .u64 d'] 184)) := ⟨_, rfl⟩
      have ha := heap_alloc2_old w (.cells #[.int .u64 n, .int .u64 d] 184) (.cells #[.int .u64 n', .int .u64 d'] 184)
      have hb := heap_alloc2_new w (.cells #[.int .u64 n, .int .u64 d] 184) (.cells #[.int .u64 n', .int .u64 d'] 184)
      rw [← hw0] at ha hb hff ⊢
      clear hw0
      have HC : Hid (∀ w', Fr w0 w' → (w'.cell? ⟨w.heap.size, 0, none⟩ = some (.int .u64 n) ∧ w'.cell? ⟨w.heap.size, 1, none⟩ = some (.int .u64 d)) ∧ (w'.cell? ⟨w.heap.size + 1, 0, none⟩ = some (.int .u64 n') ∧ w'.cell? ⟨w.heap.size + 1, 1, none⟩ = some (.int .u64 d'))) :=
        fun w' hf => ⟨cells2 (hf.blk ha), cells2 (hf.blk hb)⟩
      clear ha hb
      go_region_held3 (fun w' => (w'.cell? ⟨w.heap.size, 0, none⟩ = some (.int .u64 n) ∧ w'.cell? ⟨w.heap.size, 1, none⟩ = some (.int .u64 d)) ∧ (w'.cell? ⟨w.heap.size + 1, 0, none⟩ = some (.int .u64 n') ∧ w'.cell? ⟨w.heap.size + 1, 1, none⟩ = some (.int .u64 d')))
        (first | exact HC.out _ ((Fr.refl w0).drew) | exact HC.out _ hf1.out | exact HC.out _ hf2.out | exact HC.out _ hf3.out)
        (first
          | (go_at_call_of 159 n; refine (times_calls n d' hn2.out.1 hd' w0.drew).mono ?_; rintro e wa ⟨rfl, hq1⟩; rw [← HA.out]; have hf1 : Hid (Fr w0 wa) := ((Fr.refl w0).drew).trans hq1)
          | (go_at_call_of 159 n'; refine (times_calls n' d hn2.out.2 hd wa).mono ?_; rintro e wb ⟨rfl, hq2⟩; rw [← HB.out]; have hf2 : Hid (Fr w0 wb) := hf1.out.trans hq2)
          | (go_at_call 158; refine (wcmp_of A B _ rfl _).mono ?_; rintro e wc ⟨rfl, hq3⟩; have hf3 : Hid (Fr w0 wc) := hf2.out.trans hq3))
      go_wp2_with fail
      go_ret
      exact ⟨by rw [hs.out]; rfl, hff.out.trans hf3.out⟩
end Go.Proofs.YthjimnmgbcckjaaGreat
namespace Go.Proofs.YthjimnmgbcckjaaGreat
set_option maxRecDepth 100000
open Go.RowKit Go.Inc

def ptcells (p : Pt) : List Value := [.int .u64 p.x, .int .i64 p.y]
theorem ptcells_len (p : Pt) : (ptcells p).length = 2 := rfl
theorem ptcells_one (l : List Pt) : ∀ v ∈ l.flatMap ptcells, v.oneCell' = true := by
  intro v hv
  obtain ⟨p, _, hp⟩ := List.mem_flatMap.1 hv
  simp [ptcells] at hp
  rcases hp with rfl | rfl <;> rfl
theorem pts_cells {w : World} {A : Option Addr} {l : List Pt} (h : RdC w A (l.flatMap ptcells)) (hne : 0 < l.length) : ∃ b off, A = some ⟨b, off, none⟩ ∧
    (∀ (t : Nat) (q : Pt), l[t]? = some q → w.cell? ⟨b, off + t * 2, none⟩ = some (.int .u64 q.x) ∧ w.cell? ⟨b, off + t * 2 + 1, none⟩ = some (.int .i64 q.y)) := by
  obtain ⟨b, off, rfl, hc⟩ := h.at (by rw [flat_len ptcells 2 ptcells_len]; omega)
  refine ⟨b, off, rfl, fun t q hq => ?_⟩
  have a := hc (t * 2) (.int .u64 q.x) (by have := get_flat ptcells 2 ptcells_len l t _ 0 hq (by omega); rw [Nat.add_zero] at this; rw [this]; rfl)
  have c := hc (t * 2 + 1) (.int .i64 q.y) (by have := get_flat ptcells 2 ptcells_len l t _ 1 hq (by omega); rw [this]; rfl)
  exact ⟨a, by rw [Nat.add_assoc]; exact c⟩
theorem info_point : (Tryz.prog.info? 198).map (fun i => (i.zero, i.size, i.bytes)) = some (some (.agg #[.int .u64 0, .int .i64 0]), 2, 16) := by kernel_rfl
theorem info_sz_point : (Tryz.prog.info? 198).map (·.size) = some 2 := by kernel_rfl

/-- A beginning of a slice of the call's own is one. -/
theorem own_take {w : World} {base : Nat} {e : TypeId} {size n c : Nat} {A : Option Addr} {xs : List Value} (h : Own w base e size A n c xs) {k : Nat} (hk : k ≤ n) : Own w base e size A k c (xs.take (k * size)) := by
  obtain ⟨h1, h2⟩ := h
  have hks : k * size ≤ n * size := Nat.mul_le_mul_right _ hk
  refine ⟨by rw [List.length_take, h1]; omega, ?_⟩
  rcases h2 with ⟨h2, h3⟩ | ⟨g, cap, cur, r1, r2, r3, r4, r5, r6, r7⟩
  · injection h2 with q1 q2 q3
    subst q1; subst q3
    exact .inl ⟨by rw [show k = 0 by omega], by omega⟩
  · injection r1 with q1 q2 q3
    subst q1; subst q3
    exact .inr ⟨g, _, cur, rfl, r2, r3, by omega, r5, r6, by rw [← r7, List.take_take, Nat.min_eq_left hks]⟩
theorem flat_rev_snoc (l : List Pt) (p : Pt) : ((p :: l).reverse.flatMap ptcells) = l.reverse.flatMap ptcells ++ ptcells p := by simp

theorem own_pts {w : World} {base n c : Nat} {A : Option Addr} {l : List Pt} (h : Own w base 198 2 A n c (l.flatMap ptcells)) (hne : 0 < l.length) : ∃ g, A = some ⟨g, 0, none⟩ ∧
    (∀ (t : Nat) (q : Pt), l[t]? = some q → w.cell? ⟨g, t * 2, none⟩ = some (.int .u64 q.x) ∧ w.cell? ⟨g, t * 2 + 1, none⟩ = some (.int .i64 q.y)) := by
  obtain ⟨b, off, rfl, hc⟩ := pts_cells h.rd hne
  rcases h.2 with ⟨h1, _⟩ | ⟨g, _, _, h1, _⟩
  · cases h1
  · injection h1 with h1
    injection h1 with h1
    injection h1 with h1 h2
    subst h2
    exact ⟨b, rfl, fun t q hq => by simpa using hc t q hq⟩
/-- s[:k] of a slice of the call's own. -/
theorem run_own_cut {w : World} {base : Nat} {size n c k : Nat} {A : Option Addr} {xs : List Value} (t e : TypeId) (ht : Tryz.prog.underlying t = some (.slice e)) (hs : (Tryz.prog.info? e).map (·.size) = some size) (h : Own w base e size A n c xs) (hk : k ≤ n) (i : Int) (hi : i = k) :
    ∀ w', (Instr.slice t (.slice A n c) none (some (.int .i64 i)) none).run Tryz.prog w' = .ok (.slice A k c) w' := by
  obtain ⟨A2, h1, h2, h3⟩ := run_cut_h (P := Tryz.prog) t e size ht hs A n c k i hi (by
    rcases h.2 with ⟨h1, h2⟩ | ⟨_, _, _, h1, _, _, h2, _⟩
    · omega
    · injection h1 with _ _ h1; omega) .i64
  subst hi
  obtain ⟨i0, hi0, _⟩ := Option.map_eq_some_iff.1 hs
  intro w'
  have hkc : k ≤ c := by
    rcases h.2 with ⟨h1, h2⟩ | ⟨_, _, _, h1, _, _, h2, _⟩
    · omega
    · injection h1 with _ _ h1; omega
  have hA : (if c = 0 then A else A.map (·.add (0 * size))) = A := by
    split
    · rfl
    · rcases h.2 with ⟨h1, h2⟩ | ⟨g, _, _, h1, _⟩
      · injection h1 with h1; subst h1; rfl
      · injection h1 with h1; subst h1; simp [add_plain]
  have : (Instr.slice t (.slice A n c) none (some (.int .i64 (k : Int))) none).run Tryz.prog w' = .ok (.slice (if c = 0 then A else A.map (·.add (0 * size))) k c) w' := by
    simp [Instr.slice, run_underlying ht, Instr.sliceBounds, run_sliceBound, sizeOf, typeInfo, hi0, hkc]
  rw [this, hA]

theorem sg_mul {s : Int} (hs : s = 1 ∨ s = -1) (x : Int) : 0 ≤ sg x * s ↔ 0 ≤ s * x := by
  unfold sg
  rcases hs with rfl | rfl
  · split
    · omega
    · split <;> omega
  · split
    · omega
    · split <;> omega
set_option maxHeartbeats 4000000 in
theorem laid_calls (l0 : List Pt) (p : Pt) (side s : Int) (hbend : ∀ w, Calls Tryz.prog 156 #[.int .i64 side] w fun e w' => e = .returned (.int .i64 s) ∧ w' = w) (hs : s = 1 ∨ s = -1) (A : Option Addr) (c base : Nat) (w : World)
    (ho : Own w base 198 2 A l0.length c (l0.reverse.flatMap ptcells)) (hl : l0.length ≤ 4294967296) (hp : PtOk p) (hq : ∀ q ∈ l0, PtOk q ∧ q.x < p.x) (hch : Chain s l0) (hbw : base ≤ w.heap.size) :
    Calls Tryz.prog 142 #[.slice A l0.length c, ptVal p, .int .i64 side] w fun e w' => ∃ A' c', e = .returned (.slice A' (laid s l0 p).length c') ∧ Own w' base 198 2 A' (laid s l0 p).length c' ((laid s l0 p).reverse.flatMap ptcells) ∧
      Mv (fun k => ablk A = some k) w w' ∧ (ablk A' = ablk A ∨ ∀ k, ablk A' = some k → w.heap.size ≤ k) := by
  have hbend := Lib.hid hbend
  have HP := Lib.hid hp
  have HQ := Lib.hid hq
  have HO := Lib.hid ho
  have HCH := Lib.hid hch
  have HS := Lib.hid hs
  clear hp hq ho hch hs
  unfold ptVal
  go_enter Tryz.func142, Tryz.ntmps142
  go_wp2_with fail
  obtain ⟨w0, hw0⟩ : ∃ w0, w0 = w.alloc (.cells #[.int .u64 p.x, .int .i64 p.y] 198) := ⟨_, rfl⟩
  have hb0 := heap_alloc_new w (.cells #[.int .u64 p.x, .int .i64 p.y] 198)
  have hf0 := (Fr.refl w).alloc (.cells #[.int .u64 p.x, .int .i64 p.y] 198)
  rw [← hw0] at hb0 hf0 ⊢
  clear hw0
  have HB0 := Lib.hid hb0
  have HF0 := Lib.hid hf0
  clear hb0 hf0
  go_loopw [0] (fun v0 wr => ∃ l1 : List Pt, v0 = .slice A l1.length c ∧ Hid (Own wr base 198 2 A l1.length c (l1.reverse.flatMap ptcells)) ∧ l1.length ≤ l0.length ∧ Hid (laid s l1 p = laid s l0 p) ∧ Hid (∀ q ∈ l1, q ∈ l0) ∧ Hid (Chain s l1) ∧ Hid (Fr w0 wr)) (fun v0 _ => match v0 with | .slice _ n _ => n | _ => 0)
  case atStart => exact ⟨l0, rfl, HO.out.fr HF0.out, Nat.le_refl _, rfl, fun q hq => hq, HCH.out, Fr.refl _⟩
  case round =>
    obtain ⟨l1, rfl, ho, hll, hla, hin, hch, hfr⟩ := hrel
    obtain ⟨b0, b1⟩ := cells2 (hfr.out.blk HB0.out)
    match l1, ho, hll, hla, hin, hch with
    | [], ho, hll, hla, hin, hch =>
      have hfin : Hid (laid s l0 p = [p]) := by rw [Hid, ← hla.out]; simp [laid]
      go_wp2_with fail
      go_quiet (fail)
      obtain ⟨w1, hw1⟩ : ∃ w1, w1 = wr.drewN nq := ⟨_, rfl⟩
      rw [← hw1]
      have hf1 : Hid (Fr wr w1) := by rw [hw1]; exact fr_drewN _ _
      clear hw1 b0 b1
      obtain ⟨b0, b1⟩ := cells2 ((hfr.out.trans hf1.out).blk HB0.out)
      have hbz : Hid (base ≤ w1.heap.size) := Nat.le_trans hbw (Nat.le_trans (HF0.out.trans (hfr.out.trans hf1.out)).size (Nat.le_refl _))
      go_wp2_with (at_builtin; refine gate ?_)
      refine gate_app rfl _ _ 193 rfl 198 (.agg #[.int .u64 0, .int .i64 0]) 2 16 Tryz.underlying193 info_point rfl (by omega) (by omega) base A 0 c _ (some ⟨w1.heap.size, 0, none⟩) 1 1 (ptcells p) (by rfl) (by rfl)
        ((ho.out.fr hf1.out).fr ((Fr.refl w1).alloc _)) rfl (RdC.blk (Blk.new w1 _ _)) (by simpa using ptcells_one [p]) (by have := hll; simp at this; omega) (by have := hbz.out; simp; omega) ?_
      intro A2 c2 w2 hown hgr hat
      have hfw := Lib.hid ((HF0.out.trans (hfr.out.trans hf1.out)).alloc (.cells (arr (ptcells p)) 198))
      have ho2 := hown
      have hm2 : Hid (Mv (fun k => ablk A = some k) w w2) := ((Mv.of_fr (HF0.out.trans (hfr.out.trans hf1.out))).alloc _).grown hgr.out (fun k hk => .inl hk)
      have ha2 : Hid (ablk A2 = ablk A ∨ ∀ k, ablk A2 = some k → w.heap.size ≤ k) := hat.out.imp id (fun h k hk => by rw [hk] at h; have h1 := Option.some.inj h; have h2 := (HF0.out.trans (hfr.out.trans hf1.out)).size; rw [World.size_alloc] at h1; omega)
      clear hown hgr hat
      go_wp2_with fail
      go_ret
      exact ⟨A2, c2, by rw [hfin.out]; rfl, by rw [hfin.out, flat_rev_snoc]; exact ho2.out, hm2.out, ha2.out⟩
    | [a], ho, hll, hla, hin, hch =>
      have hfin : Hid (laid s l0 p = [p, a]) := by rw [Hid, ← hla.out]; simp [laid]
      go_wp2_with fail
      go_quiet (fail)
      obtain ⟨w1, hw1⟩ : ∃ w1, w1 = wr.drewN nq := ⟨_, rfl⟩
      rw [← hw1]
      have hf1 : Hid (Fr wr w1) := by rw [hw1]; exact fr_drewN _ _
      clear hw1 b0 b1
      obtain ⟨b0, b1⟩ := cells2 ((hfr.out.trans hf1.out).blk HB0.out)
      have hbz : Hid (base ≤ w1.heap.size) := Nat.le_trans hbw (Nat.le_trans (HF0.out.trans (hfr.out.trans hf1.out)).size (Nat.le_refl _))
      go_wp2_with (at_builtin; refine gate ?_)
      refine gate_app rfl _ _ 193 rfl 198 (.agg #[.int .u64 0, .int .i64 0]) 2 16 Tryz.underlying193 info_point rfl (by omega) (by omega) base A 1 c _ (some ⟨w1.heap.size, 0, none⟩) 1 1 (ptcells p) (by rfl) (by rfl)
        ((ho.out.fr hf1.out).fr ((Fr.refl w1).alloc _)) rfl (RdC.blk (Blk.new w1 _ _)) (by simpa using ptcells_one [p]) (by have := hll; simp at this; omega) (by have := hbz.out; simp; omega) ?_
      intro A2 c2 w2 hown hgr hat
      have hfw := Lib.hid ((HF0.out.trans (hfr.out.trans hf1.out)).alloc (.cells (arr (ptcells p)) 198))
      have ho2 := hown
      have hm2 : Hid (Mv (fun k => ablk A = some k) w w2) := ((Mv.of_fr (HF0.out.trans (hfr.out.trans hf1.out))).alloc _).grown hgr.out (fun k hk => .inl hk)
      have ha2 : Hid (ablk A2 = ablk A ∨ ∀ k, ablk A2 = some k → w.heap.size ≤ k) := hat.out.imp id (fun h k hk => by rw [hk] at h; have h1 := Option.some.inj h; have h2 := (HF0.out.trans (hfr.out.trans hf1.out)).size; rw [World.size_alloc] at h1; omega)
      clear hown hgr hat
      go_wp2_with fail
      go_ret
      exact ⟨A2, c2, by rw [hfin.out]; rfl, by rw [hfin.out, flat_rev_snoc]; exact ho2.out, hm2.out, ha2.out⟩
    | b :: a :: rest, ho, hll, hla, hin, hch =>
      obtain ⟨gA, hAe, hcA⟩ := own_pts ho.out (by simp)
      subst hAe
      obtain ⟨r, hr⟩ : ∃ r, rest.length = r := ⟨_, rfl⟩
      obtain ⟨N, hN⟩ : ∃ N, (b :: a :: rest).length = N := ⟨_, rfl⟩
      have hNr : N = r + 2 := by rw [← hN, ← hr]; rfl
      obtain ⟨a0, a1⟩ := hcA r a (by simp [← hr])
      obtain ⟨e0, e1⟩ := hcA (r + 1) b (by simp [← hr])
      have hoka := HQ.out a (hin.out a (by simp))
      have hokb := HQ.out b (hin.out b (by simp))
      have hxab := hch.out.1
      rw [hN] at ho hll ⊢
      have hg1 : decide ((N : Int) > 1) = true := decide_eq_true (by omega)
      have hg2 : (1 : Int) < (N : Int) := by omega
      have hk1 : IntKind.i64.wrap ((N : Int) - 2) = (r : Int) := by rw [wrap_i64_in _ (by omega) (by omega)]; omega
      have hk2 : IntKind.i64.wrap ((N : Int) - 1) = (r : Int) + 1 := by rw [wrap_i64_in _ (by omega) (by omega)]; omega
      have hz1 : (r : Int) < (N : Int) := by omega
      have hz2 : (r : Int) + 1 < (N : Int) := by omega
      have hz3 : (0 : Int) ≤ (r : Int) := by omega
      have hz4 : (0 : Int) ≤ (r : Int) + 1 := by omega
      have HNR := Lib.hid hNr
      have HR := Lib.hid hr
      have HOK := Lib.hid (And.intro hoka (And.intro hokb hxab))
      clear hcA hr hN hNr hoka hokb hxab
      obtain ⟨G, hG⟩ : ∃ G, sg (cross a b p) = G := ⟨_, rfl⟩
      have hG3 : G = 1 ∨ G = 0 ∨ G = -1 := by
        rw [← hG]; unfold sg
        split
        · exact .inr (.inr rfl)
        · split
          · exact .inr (.inl rfl)
          · exact .inl rfl
      have hwG : IntKind.i64.wrap (G * s) = G * s := by
        rcases HS.out with h | h <;> rcases hG3 with h' | h' | h' <;> rw [h, h'] <;> rfl
      have hcond : Hid (0 ≤ G * s ↔ 0 ≤ s * cross a b p) := by
        rw [Hid, ← hG]; exact sg_mul HS.out _
      have HG := Lib.hid hG
      have HC : Hid (∀ w', Fr wr w' → (w'.cell? ⟨gA, r * 2, none⟩ = some (.int .u64 a.x) ∧ w'.cell? ⟨gA, r * 2 + 1, none⟩ = some (.int .i64 a.y)) ∧ (w'.cell? ⟨gA, (r + 1) * 2, none⟩ = some (.int .u64 b.x) ∧ w'.cell? ⟨gA, (r + 1) * 2 + 1, none⟩ = some (.int .i64 b.y)) ∧ (w'.cell? ⟨w.heap.size, 0, none⟩ = some (.int .u64 p.x) ∧ w'.cell? ⟨w.heap.size, 1, none⟩ = some (.int .i64 p.y))) :=
        fun w' hf => ⟨⟨hf.cell a0, hf.cell a1⟩, ⟨hf.cell e0, hf.cell e1⟩, hf.cell b0, hf.cell b1⟩
      clear hG hG3
      by_cases hc : 0 ≤ s * cross a b p
      · have hge : decide (G * s ≥ 0) = true := decide_eq_true (hcond.out.2 hc)
        have hge2 : (0 : Int) ≤ G * s := hcond.out.2 hc
        have hla2 : Hid (laid s (a :: rest) p = laid s l0 p) := by
          rw [Hid, ← hla.out]
          conv => rhs; unfold laid
          rw [if_pos hc]
        have hcut := run_own_cut (k := r + 1) 193 198 Tryz.underlying193 info_sz_point ho.out (by omega) ((r : Int) + 1) (by omega)
        have hot : Hid (Own wr base 198 2 (some ⟨gA, 0, none⟩) (r + 1) c ((a :: rest).reverse.flatMap ptcells)) := by
          have h1 := own_take ho.out (k := r + 1) (by omega)
          have h2 : ((a :: rest).reverse.flatMap ptcells).length = (r + 1) * 2 := by rw [flat_len ptcells 2 ptcells_len]; simp [HR.out]
          rw [flat_rev_snoc (a :: rest) b, ← h2, List.take_left'] at h1
          · exact h1
          · rfl
        have hin2 : Hid (∀ q ∈ a :: rest, q ∈ l0) := fun q hq => hin.out q (by simp at hq ⊢; exact .inr hq)
        have hch2 := Lib.hid hch.out.tail
        clear hc ho hla hin hch
        go_wp2_with fail
        go_region_held3 (fun w' => (w'.cell? ⟨gA, r * 2, none⟩ = some (.int .u64 a.x) ∧ w'.cell? ⟨gA, r * 2 + 1, none⟩ = some (.int .i64 a.y)) ∧ (w'.cell? ⟨gA, (r + 1) * 2, none⟩ = some (.int .u64 b.x) ∧ w'.cell? ⟨gA, (r + 1) * 2 + 1, none⟩ = some (.int .i64 b.y)) ∧ (w'.cell? ⟨w.heap.size, 0, none⟩ = some (.int .u64 p.x) ∧ w'.cell? ⟨w.heap.size, 1, none⟩ = some (.int .i64 p.y)))
          (first | exact HC.out _ ((Fr.refl wr).drew) | exact HC.out _ hfa.out)
          (first
            | (go_at_call 160; refine (turn_calls a b p HOK.out.1.1 HOK.out.2.1.1 HP.out (Int.le_of_lt HOK.out.2.2) (Int.le_of_lt HOK.out.1.2) _).mono ?_; rintro e wa ⟨rfl, hqa⟩; rw [HG.out]; have hfa : Hid (Fr wr wa) := ((Fr.refl wr).drew).trans hqa)
            | (go_at_call 156; refine (hbend.out _).mono ?_; rintro e wb ⟨rfl, rfl⟩))
        go_wp2_with fail
        exact ⟨⟨a :: rest, by simp [HR.out], by rw [show (a :: rest).length = r + 1 by simp [HR.out]]; exact hot.out.fr hfa.out, by simp; have := HR.out; have := HNR.out; omega, hla2, hin2, hch2, hfr.out.trans hfa.out⟩, by simp [HNR.out]⟩
      · have hge : decide (G * s ≥ 0) = false := decide_eq_false (fun h => hc (hcond.out.1 h))
        have hge2 : ¬ (0 : Int) ≤ G * s := fun h => hc (hcond.out.1 h)
        have hfin : Hid (laid s l0 p = p :: b :: a :: rest) := by
          rw [Hid, ← hla.out]
          unfold laid
          rw [if_neg hc]
        clear hc hla hin hch
        go_wp2_with fail
        go_region_held3 (fun w' => (w'.cell? ⟨gA, r * 2, none⟩ = some (.int .u64 a.x) ∧ w'.cell? ⟨gA, r * 2 + 1, none⟩ = some (.int .i64 a.y)) ∧ (w'.cell? ⟨gA, (r + 1) * 2, none⟩ = some (.int .u64 b.x) ∧ w'.cell? ⟨gA, (r + 1) * 2 + 1, none⟩ = some (.int .i64 b.y)) ∧ (w'.cell? ⟨w.heap.size, 0, none⟩ = some (.int .u64 p.x) ∧ w'.cell? ⟨w.heap.size, 1, none⟩ = some (.int .i64 p.y)))
          (first | exact HC.out _ ((Fr.refl wr).drew) | exact HC.out _ hfa.out)
          (first
            | (go_at_call 160; refine (turn_calls a b p HOK.out.1.1 HOK.out.2.1.1 HP.out (Int.le_of_lt HOK.out.2.2) (Int.le_of_lt HOK.out.1.2) _).mono ?_; rintro e wa ⟨rfl, hqa⟩; rw [HG.out]; have hfa : Hid (Fr wr wa) := ((Fr.refl wr).drew).trans hqa)
            | (go_at_call 156; refine (hbend.out _).mono ?_; rintro e wb ⟨rfl, rfl⟩))
        obtain ⟨w1, hw1⟩ : ∃ w1, w1 = wb := ⟨_, rfl⟩
        rw [← hw1]
        have hf1 : Hid (Fr wr w1) := by rw [hw1]; exact hfa.out
        clear hw1 b0 b1
        obtain ⟨b0, b1⟩ := cells2 ((hfr.out.trans hf1.out).blk HB0.out)
        have hbz : Hid (base ≤ w1.heap.size) := Nat.le_trans hbw (Nat.le_trans (HF0.out.trans (hfr.out.trans hf1.out)).size (Nat.le_refl _))
        go_wp2_with (at_builtin; refine gate ?_)
        refine gate_app rfl _ _ 193 rfl 198 (.agg #[.int .u64 0, .int .i64 0]) 2 16 Tryz.underlying193 info_point rfl (by omega) (by omega) base (some ⟨gA, 0, none⟩) N c _ (some ⟨w1.heap.size, 0, none⟩) 1 1 (ptcells p) (by rfl) (by rfl)
          ((ho.out.fr hf1.out).fr ((Fr.refl w1).alloc _)) rfl (RdC.blk (Blk.new w1 _ _)) (by simpa using ptcells_one [p]) (by omega) (by have := hbz.out; simp; omega) ?_
        intro A2 c2 w2 hown hgr hat
        have hfw := Lib.hid ((HF0.out.trans (hfr.out.trans hf1.out)).alloc (.cells (arr (ptcells p)) 198))
        have ho2 := hown
        have hm2 : Hid (Mv (fun k => ablk (some (⟨gA, 0, none⟩ : Addr)) = some k) w w2) := ((Mv.of_fr (HF0.out.trans (hfr.out.trans hf1.out))).alloc _).grown hgr.out (fun k hk => .inl hk)
        have ha2 : Hid (ablk A2 = ablk (some (⟨gA, 0, none⟩ : Addr)) ∨ ∀ k, ablk A2 = some k → w.heap.size ≤ k) := hat.out.imp id (fun h k hk => by rw [hk] at h; have h1 := Option.some.inj h; have h2 := (HF0.out.trans (hfr.out.trans hf1.out)).size; rw [World.size_alloc] at h1; omega)
        clear hown hgr hat
        go_wp2_with fail
        go_ret
        have hlen : (p :: b :: a :: rest).length = N + 1 := by have := HR.out; have := HNR.out; simp; omega
        exact ⟨A2, c2, by rw [hfin.out, hlen]; rfl, by rw [hfin.out, hlen, flat_rev_snoc]; exact ho2.out, hm2.out, ha2.out⟩
end Go.Proofs.YthjimnmgbcckjaaGreat
namespace Go.Proofs.YthjimnmgbcckjaaGreat
set_option maxRecDepth 100000
open Go.RowKit Go.Inc

set_option maxHeartbeats 4000000 in
/-- sort.Search over the closure of touching: a place where the test turns. -/
theorem ssearch_calls (n : Nat) (hn : n ≤ 4294967296) (v1 v2 v3 : Value) (p : Nat → Bool) (w : World)
    (hf : ∀ w' i, Fr w w' → i < n → Calls Tryz.prog 154 #[.int .i64 (i : Nat), v1, v2, v3] w' fun e w'' => e = .returned (.bool (p i)) ∧ Fr w' w'') :
    Calls Tryz.prog 153 #[.int .i64 (n : Nat), .func (.func 154) #[] #[v1, v2, v3]] w fun e w' => ∃ r : Nat, e = .returned (.int .i64 r) ∧ r ≤ n ∧ (0 < r → p (r - 1) = false) ∧ (r < n → p r = true) ∧ Fr w w' := by
  have HF := Lib.hid hf
  clear hf
  go_enter Tryz.func153, Tryz.ntmps153
  go_wp2_with fail
  go_loopw [5, 6] (fun va vb wr => ∃ lo hi : Nat, va = .int .i64 lo ∧ vb = .int .i64 hi ∧ lo ≤ hi ∧ hi ≤ n ∧ Hid (0 < lo → p (lo - 1) = false) ∧ Hid (hi < n → p hi = true) ∧ Hid (Fr w wr)) (fun va vb _ => (intOf vb).toNat - (intOf va).toNat)
  case atStart => exact ⟨0, n, rfl, rfl, by omega, by omega, fun h => by omega, fun h => by omega, Fr.refl _⟩
  case round =>
    obtain ⟨lo, hi, rfl, rfl, hle, hin, h1, h2, hfr⟩ := hrel
    by_cases hlt : lo < hi
    · have hz : decide (lo < hi) = true := decide_eq_true hlt
      have hz2 : (lo : Int) < (hi : Int) := by omega
      obtain ⟨m, hm⟩ : ∃ m, m = (lo + hi) / 2 := ⟨_, rfl⟩
      have hm1 : lo ≤ m ∧ m < hi := by omega
      have w1 : IntKind.i64.wrap ((lo : Int) + (hi : Int)) = (lo : Int) + (hi : Int) := wrap_i64_in _ (by omega) (by omega)
      have HM := Lib.hid hm
      have HM1 := Lib.hid hm1
      clear hm hm1
      have hmid : ((lo : Int) + (hi : Int)) / 2 = (m : Int) := by have := HM.out; omega
      have hml := Lib.hid (show m < n by have := HM1.out; omega)
      cases hp : p m
      · have HPm := Lib.hid hp
        clear hp
        go_wp2_with fail
        refine (HF.out wr m hfr.out hml.out).mono ?_
        rintro e w2 ⟨rfl, hf2⟩
        rw [HPm.out]
        go_wp2_with fail
        exact ⟨⟨m + 1, hi, by simp, rfl, by have := HM1.out; omega, hin, fun _ => HPm.out, h2, hfr.out.trans hf2⟩, by simp only [intOf]; have := HM1.out; omega⟩
      · have HPm := Lib.hid hp
        clear hp
        go_wp2_with fail
        refine (HF.out wr m hfr.out hml.out).mono ?_
        rintro e w2 ⟨rfl, hf2⟩
        rw [HPm.out]
        go_wp2_with fail
        exact ⟨⟨lo, m, rfl, rfl, by have := HM1.out; omega, by have := hml.out; omega, h1, fun _ => HPm.out, hfr.out.trans hf2⟩, by simp only [intOf]; have := HM1.out; omega⟩
    · obtain rfl : lo = hi := by omega
      have hz : decide (lo < lo) = false := by simp
      go_wp2_with fail
      go_ret
      exact ⟨lo, rfl, hin, h1.out, h2.out, hfr.out⟩

set_option maxHeartbeats 4000000 in
theorem touch1_calls (l : List Pt) (p : Pt) (side s : Int) (hbend : ∀ w, Calls Tryz.prog 156 #[.int .i64 side] w fun e w' => e = .returned (.int .i64 s) ∧ w' = w) (hs : s = 1 ∨ s = -1) (gA n c bc bp bs i : Nat) (hn : n = l.length) (hi : i + 1 < l.length) (hl : l.length ≤ 4294967296) (w : World)
    (hc : w.cell? ⟨bc, 0, none⟩ = some (.slice (some ⟨gA, 0, none⟩) n c)) (hp0 : w.cell? ⟨bp, 0, none⟩ = some (.int .u64 p.x)) (hp1 : w.cell? ⟨bp, 1, none⟩ = some (.int .i64 p.y)) (hsd : w.cell? ⟨bs, 0, none⟩ = some (.int .i64 side))
    (hcell : ∀ (t : Nat) (q : Pt), l[t]? = some q → w.cell? ⟨gA, t * 2, none⟩ = some (.int .u64 q.x) ∧ w.cell? ⟨gA, t * 2 + 1, none⟩ = some (.int .i64 q.y)) (hp : PtOk p) (hq : ∀ q ∈ l, PtOk q ∧ q.x < p.x) :
    Calls Tryz.prog 154 #[.int .i64 (i : Nat), .pointer (some ⟨bc, 0, none⟩), .pointer (some ⟨bp, 0, none⟩), .pointer (some ⟨bs, 0, none⟩)] w fun e w' => e = .returned (.bool (decide (0 ≤ s * cross (l[i]'(by omega)) (l[i + 1]'hi) p))) ∧ Fr w w' := by
  obtain ⟨a, ha⟩ : ∃ a, a = l[i]'(by omega) := ⟨_, rfl⟩
  obtain ⟨b, hb⟩ : ∃ b, b = l[i + 1]'hi := ⟨_, rfl⟩
  rw [← ha, ← hb]
  obtain ⟨a0, a1⟩ := hcell i a (by rw [ha]; exact List.getElem?_eq_getElem _)
  obtain ⟨e0, e1⟩ := hcell (i + 1) b (by rw [hb]; exact List.getElem?_eq_getElem _)
  have hoka := Lib.hid (hq a (by rw [ha]; exact List.getElem_mem _))
  have hokb := Lib.hid (hq b (by rw [hb]; exact List.getElem_mem _))
  have HP := Lib.hid hp
  have HBE := Lib.hid hbend
  have hz1 : (i : Int) < (n : Int) := by omega
  have hz2 : (i : Int) + 1 < (n : Int) := by omega
  have hz3 : (0 : Int) ≤ (i : Int) := by omega
  have hz4 : (0 : Int) ≤ (i : Int) + 1 := by omega
  have hwi : IntKind.i64.wrap ((i : Int) + 1) = (i : Int) + 1 := wrap_i64_in _ (by omega) (by omega)
  obtain ⟨G, hG⟩ : ∃ G, sg (cross a b p) = G := ⟨_, rfl⟩
  have hG3 : G = 1 ∨ G = 0 ∨ G = -1 := by
    rw [← hG]; unfold sg
    split
    · exact .inr (.inr rfl)
    · split
      · exact .inr (.inl rfl)
      · exact .inl rfl
  have hwG : IntKind.i64.wrap (G * s) = G * s := by
    rcases hs with h | h <;> rcases hG3 with h' | h' | h' <;> rw [h, h'] <;> rfl
  have hcond : Hid (decide (G * s ≥ 0) = decide (0 ≤ s * cross a b p)) := by
    rw [Hid, ← hG]
    exact decide_eq_decide.2 (sg_mul hs _)
  have HG := Lib.hid hG
  have HC : Hid (∀ w', Fr w w' → w'.cell? ⟨bc, 0, none⟩ = some (.slice (some ⟨gA, 0, none⟩) n c) ∧ (w'.cell? ⟨gA, i * 2, none⟩ = some (.int .u64 a.x) ∧ w'.cell? ⟨gA, i * 2 + 1, none⟩ = some (.int .i64 a.y)) ∧ (w'.cell? ⟨gA, (i + 1) * 2, none⟩ = some (.int .u64 b.x) ∧ w'.cell? ⟨gA, (i + 1) * 2 + 1, none⟩ = some (.int .i64 b.y)) ∧ (w'.cell? ⟨bp, 0, none⟩ = some (.int .u64 p.x) ∧ w'.cell? ⟨bp, 1, none⟩ = some (.int .i64 p.y)) ∧ w'.cell? ⟨bs, 0, none⟩ = some (.int .i64 side)) :=
    fun w' hf => ⟨hf.cell hc, ⟨hf.cell a0, hf.cell a1⟩, ⟨hf.cell e0, hf.cell e1⟩, ⟨hf.cell hp0, hf.cell hp1⟩, hf.cell hsd⟩
  have hab : Hid (a.x ≤ p.x ∧ b.x ≤ p.x) := by
    have h1 := hoka.out.2
    have h2 := hokb.out.2
    rw [Hid]; omega
  clear hG hG3 ha hb a0 a1 e0 e1 hc hp0 hp1 hsd hcell hp hq hbend hn hi hs
  go_enter Tryz.func154, Tryz.ntmps154
  go_wp2_with fail
  go_region_held3 (fun w' => w'.cell? ⟨bc, 0, none⟩ = some (.slice (some ⟨gA, 0, none⟩) n c) ∧ (w'.cell? ⟨gA, i * 2, none⟩ = some (.int .u64 a.x) ∧ w'.cell? ⟨gA, i * 2 + 1, none⟩ = some (.int .i64 a.y)) ∧ (w'.cell? ⟨gA, (i + 1) * 2, none⟩ = some (.int .u64 b.x) ∧ w'.cell? ⟨gA, (i + 1) * 2 + 1, none⟩ = some (.int .i64 b.y)) ∧ (w'.cell? ⟨bp, 0, none⟩ = some (.int .u64 p.x) ∧ w'.cell? ⟨bp, 1, none⟩ = some (.int .i64 p.y)) ∧ w'.cell? ⟨bs, 0, none⟩ = some (.int .i64 side))
    (first | exact HC.out _ ((Fr.refl w).drew) | exact HC.out _ hfa.out)
    (first
      | (go_at_call 155; refine (steeper_calls a b p hoka.out.1 hokb.out.1 HP.out hab.out.2 hab.out.1 _).mono ?_; rintro e wa ⟨rfl, hqa⟩; rw [HG.out]; have hfa : Hid (Fr w wa) := ((Fr.refl w).drew).trans hqa)
      | (go_at_call 156; refine (HBE.out _).mono ?_; rintro e wb ⟨rfl, rfl⟩))
  go_wp2_with fail
  go_ret
  exact ⟨by rw [← hcond.out]; rfl, hfa.out⟩
end Go.Proofs.YthjimnmgbcckjaaGreat
namespace Go.Proofs.YthjimnmgbcckjaaGreat
set_option maxRecDepth 100000
open Go.RowKit Go.Inc

set_option maxHeartbeats 4000000 in
theorem touch_low (l : List Pt) (p : Pt) (g gA n c : Nat) (hn : n = l.length) (h0 : 0 < l.length) (hl : l.length ≤ 4294967296) (w : World) (cells : Array Value) (hg : w.heap[g]? = some (.cells cells 196)) (hcc : cells[7]? = some (.slice (some ⟨gA, 0, none⟩) n c))
    (hcell : ∀ (t : Nat) (q : Pt), l[t]? = some q → w.cell? ⟨gA, t * 2, none⟩ = some (.int .u64 q.x) ∧ w.cell? ⟨gA, t * 2 + 1, none⟩ = some (.int .i64 q.y)) (hp : PtOk p) (hq : ∀ q ∈ l, PtOk q ∧ q.x < p.x) :
    Calls Tryz.prog 139 #[.pointer (some ⟨g, 0, none⟩), .int .i64 0, ptVal p] w fun e w' => ∃ (r : Nat) (hr : r < l.length), e = .returned (ptVal l[r]) ∧ (∀ h : r + 1 < l.length, 0 ≤ -1 * cross l[r] l[r + 1] p) ∧ (∀ h : 0 < r, ¬ 0 ≤ -1 * cross (l[r - 1]'(by omega)) l[r] p) ∧ Fr w w' := by
  have hcz : w.cell? ⟨g, 7, none⟩ = some (.slice (some ⟨gA, 0, none⟩) n c) := by rw [blk_cell hg]; exact hcc
  have HG := Lib.hid hg
  have HCELL := Lib.hid hcell
  have HP := Lib.hid hp
  have HQ := Lib.hid hq
  clear hg hcc hcell hp hq
  unfold ptVal
  go_enter Tryz.func139, Tryz.ntmps139
  go_wp2_with fail
  obtain ⟨w0, hw0⟩ : ∃ w0, w0 = ((w.alloc (.cells #[.int .i64 0] 3)).alloc (.cells #[.int .u64 p.x, .int .i64 p.y] 198)).alloc (.cells #[.int .u64 0, .int .i64 0] 198) := ⟨_, rfl⟩
  have ha := alloc3 w (.cells #[.int .i64 0] 3) (.cells #[.int .u64 p.x, .int .i64 p.y] 198) (.cells #[.int .u64 0, .int .i64 0] 198)
  have hf0 := (((Fr.refl w).alloc (.cells #[.int .i64 0] 3)).alloc (.cells #[.int .u64 p.x, .int .i64 p.y] 198)).alloc (.cells #[.int .u64 0, .int .i64 0] 198)
  rw [← hw0] at ha hf0 ⊢
  clear hw0
  have HA := Lib.hid ha
  have HF0 := Lib.hid hf0
  have s0 : w0.cell? ⟨w.heap.size, 0, none⟩ = some (.int .i64 0) := by rw [blk_cell ha.1]; rfl
  have s0a := fun o => ((Fr.refl w0).alloc o).cell s0
  have g7 := hf0.cell hcz
  have g7a := fun o => ((Fr.refl w0).alloc o).cell g7
  clear ha hf0
  obtain ⟨N1, hN1⟩ : ∃ N1, N1 = n - 1 := ⟨_, rfl⟩
  have hk1 : IntKind.i64.wrap ((n : Int) - 1) = (N1 : Int) := by rw [wrap_i64_in _ (by omega) (by omega)]; omega
  have HN := Lib.hid (And.intro hn hN1)
  clear hn hN1
  go_cut [7] (fun s7 wx => s7 = .pointer (some ⟨w0.heap.size, 0, none⟩) ∧ Hid (wx.heap[w0.heap.size]? = some (.cells #[.slice (some ⟨gA, 0, none⟩) n c] 193)) ∧ Hid (Fr w0 wx))
  case first =>
    go_region
    all_goals (go_wp2_with fail)
    all_goals go_meet
    all_goals exact ⟨rfl, by rw [Hid]; exact heap_alloc_new w0 _, ((Fr.refl w0).alloc _).drew⟩
  case rest =>
    obtain ⟨rfl, hbc, hfc⟩ := hcut
    have c0 : wc.cell? ⟨w0.heap.size, 0, none⟩ = some (.slice (some ⟨gA, 0, none⟩) n c) := by rw [blk_cell hbc.out]; rfl
    clear s0 s0a g7 g7a hcz
    go_wp2_with fail
    refine (ssearch_calls N1 (by have := HN.out; omega) _ _ _ (fun i => decide (0 ≤ -1 * cross (l.getD i ⟨0, 0⟩) (l.getD (i + 1) ⟨0, 0⟩) p)) wc (fun w' i hfi hi => ?_)).mono ?_
    · have hil : i + 1 < l.length := by have := HN.out; omega
      have hfw : Fr w w' := HF0.out.trans (hfc.out.trans hfi)
      refine (touch1_calls l p 0 (-1) bend_low (.inr rfl) gA n c w0.heap.size (w.heap.size + 1) w.heap.size i HN.out.1 hil hl w' (by rw [blk_cell (hfi.blk hbc.out)]; rfl) (by rw [blk_cell ((hfc.out.trans hfi).blk HA.out.2.1)]; rfl) (by rw [blk_cell ((hfc.out.trans hfi).blk HA.out.2.1)]; rfl) (by rw [blk_cell ((hfc.out.trans hfi).blk HA.out.1)]; rfl)
        (fun t q hq => ⟨hfw.cell (HCELL.out t q hq).1, hfw.cell (HCELL.out t q hq).2⟩) HP.out HQ.out).mono ?_
      rintro e w'' ⟨rfl, hf⟩
      refine ⟨?_, hf⟩
      have d1 : l.getD i ⟨0, 0⟩ = l[i]'(by omega) := by simp [show i < l.length by omega]
      have d2 : l.getD (i + 1) ⟨0, 0⟩ = l[i + 1]'hil := by simp [hil]
      rw [d1, d2]
    · rintro e wd ⟨r, rfl, hrn, hr1, hr2, hfd⟩
      have hrl : r < l.length := by have := HN.out; omega
      have hz : (r : Int) < (n : Int) := by have := HN.out; omega
      obtain ⟨q, hqr⟩ : ∃ q, l[r]? = some q := ⟨_, List.getElem?_eq_getElem hrl⟩
      have hfw : Hid (Fr w wd) := HF0.out.trans (hfc.out.trans hfd)
      have q0 := hfw.out.cell (HCELL.out r q hqr).1
      have q1 := hfw.out.cell (HCELL.out r q hqr).2
      have cc : wd.cell? ⟨w0.heap.size, 0, none⟩ = some (.slice (some ⟨gA, 0, none⟩) n c) := by rw [blk_cell (hfd.blk hbc.out)]; rfl
      have HR := Lib.hid ((hfc.out.trans hfd).blk HA.out.2.2)
      obtain ⟨r0, r1⟩ := cells2 HR.out
      have f0 := blk_frozen HR.out 0
      have f1 := blk_frozen HR.out 1
      have HQR : Hid (l[r] = q) := by have := List.getElem?_eq_getElem hrl; rw [hqr] at this; exact (Option.some.inj this).symm
      have H1 := Lib.hid hr1
      have H2 := Lib.hid hr2
      have HRN := Lib.hid hrn
      clear hr1 hr2 hqr c0 hfd hrn
      go_wp2_with fail
      refine bodyPost_ret (results_cell_row rfl _ _ (w.heap.size + 1 + 1) _ _ (0, 0) _ rfl (blk_set (blk_set HR.out 0 _) 1 _) Tryz.underlying198 rfl (by kernel_rfl)) rfl ⟨r, hrl, by rw [HQR.out]; rfl, fun h => ?_, fun h => ?_, (hfw.out.set (p := ⟨w.heap.size + 1 + 1, 0, none⟩) (by show _ ≤ w.heap.size + 1 + 1; omega) _).set (p := ⟨w.heap.size + 1 + 1, 1, none⟩) (by show _ ≤ w.heap.size + 1 + 1; omega) _⟩
      · have h1 := H2.out (by have := HN.out; omega)
        have d1 : l.getD r ⟨0, 0⟩ = l[r]'(by omega) := by simp [hrl]
        have d2 : l.getD (r + 1) ⟨0, 0⟩ = l[r + 1]'h := by simp [h]
        simp only [d1, d2] at h1
        have h2 := of_decide_eq_true h1
        omega
      · have h1 := H1.out h
        have d1 : l.getD (r - 1) ⟨0, 0⟩ = l[r - 1]'(by omega) := by simp [show r - 1 < l.length by omega]
        have d2 : l.getD (r - 1 + 1) ⟨0, 0⟩ = l[r] := by simp [show r - 1 + 1 = r by omega, hrl]
        simp only [d1, d2] at h1
        have h2 := of_decide_eq_false h1
        omega

set_option maxHeartbeats 4000000 in
theorem touch_up (l : List Pt) (p : Pt) (g gA n c : Nat) (hn : n = l.length) (h0 : 0 < l.length) (hl : l.length ≤ 4294967296) (w : World) (cells : Array Value) (hg : w.heap[g]? = some (.cells cells 196)) (hcc : cells[8]? = some (.slice (some ⟨gA, 0, none⟩) n c))
    (hcell : ∀ (t : Nat) (q : Pt), l[t]? = some q → w.cell? ⟨gA, t * 2, none⟩ = some (.int .u64 q.x) ∧ w.cell? ⟨gA, t * 2 + 1, none⟩ = some (.int .i64 q.y)) (hp : PtOk p) (hq : ∀ q ∈ l, PtOk q ∧ q.x < p.x) :
    Calls Tryz.prog 139 #[.pointer (some ⟨g, 0, none⟩), .int .i64 1, ptVal p] w fun e w' => ∃ (r : Nat) (hr : r < l.length), e = .returned (ptVal l[r]) ∧ (∀ h : r + 1 < l.length, 0 ≤ 1 * cross l[r] l[r + 1] p) ∧ (∀ h : 0 < r, ¬ 0 ≤ 1 * cross (l[r - 1]'(by omega)) l[r] p) ∧ Fr w w' := by
  have hcz : w.cell? ⟨g, 8, none⟩ = some (.slice (some ⟨gA, 0, none⟩) n c) := by rw [blk_cell hg]; exact hcc
  have HG := Lib.hid hg
  have HCELL := Lib.hid hcell
  have HP := Lib.hid hp
  have HQ := Lib.hid hq
  clear hg hcc hcell hp hq
  unfold ptVal
  go_enter Tryz.func139, Tryz.ntmps139
  go_wp2_with fail
  obtain ⟨w0, hw0⟩ : ∃ w0, w0 = ((w.alloc (.cells #[.int .i64 1] 3)).alloc (.cells #[.int .u64 p.x, .int .i64 p.y] 198)).alloc (.cells #[.int .u64 0, .int .i64 0] 198) := ⟨_, rfl⟩
  have ha := alloc3 w (.cells #[.int .i64 1] 3) (.cells #[.int .u64 p.x, .int .i64 p.y] 198) (.cells #[.int .u64 0, .int .i64 0] 198)
  have hf0 := (((Fr.refl w).alloc (.cells #[.int .i64 1] 3)).alloc (.cells #[.int .u64 p.x, .int .i64 p.y] 198)).alloc (.cells #[.int .u64 0, .int .i64 0] 198)
  rw [← hw0] at ha hf0 ⊢
  clear hw0
  have HA := Lib.hid ha
  have HF0 := Lib.hid hf0
  have s0 : w0.cell? ⟨w.heap.size, 0, none⟩ = some (.int .i64 1) := by rw [blk_cell ha.1]; rfl
  have s0a := fun o => ((Fr.refl w0).alloc o).cell s0
  have g7 := hf0.cell hcz
  have g7a := fun o => ((Fr.refl w0).alloc o).cell g7
  clear ha hf0
  obtain ⟨N1, hN1⟩ : ∃ N1, N1 = n - 1 := ⟨_, rfl⟩
  have hk1 : IntKind.i64.wrap ((n : Int) - 1) = (N1 : Int) := by rw [wrap_i64_in _ (by omega) (by omega)]; omega
  have HN := Lib.hid (And.intro hn hN1)
  clear hn hN1
  go_cut [7] (fun s7 wx => s7 = .pointer (some ⟨w0.heap.size, 0, none⟩) ∧ Hid (wx.heap[w0.heap.size]? = some (.cells #[.slice (some ⟨gA, 0, none⟩) n c] 193)) ∧ Hid (Fr w0 wx))
  case first =>
    go_region
    all_goals (go_wp2_with fail)
    all_goals go_meet
    all_goals exact ⟨rfl, by rw [Hid]; exact heap_alloc_new w0 _, ((Fr.refl w0).alloc _).drew⟩
  case rest =>
    obtain ⟨rfl, hbc, hfc⟩ := hcut
    have c0 : wc.cell? ⟨w0.heap.size, 0, none⟩ = some (.slice (some ⟨gA, 0, none⟩) n c) := by rw [blk_cell hbc.out]; rfl
    clear s0 s0a g7 g7a hcz
    go_wp2_with fail
    refine (ssearch_calls N1 (by have := HN.out; omega) _ _ _ (fun i => decide (0 ≤ 1 * cross (l.getD i ⟨0, 0⟩) (l.getD (i + 1) ⟨0, 0⟩) p)) wc (fun w' i hfi hi => ?_)).mono ?_
    · have hil : i + 1 < l.length := by have := HN.out; omega
      have hfw : Fr w w' := HF0.out.trans (hfc.out.trans hfi)
      refine (touch1_calls l p 1 1 bend_up (.inl rfl) gA n c w0.heap.size (w.heap.size + 1) w.heap.size i HN.out.1 hil hl w' (by rw [blk_cell (hfi.blk hbc.out)]; rfl) (by rw [blk_cell ((hfc.out.trans hfi).blk HA.out.2.1)]; rfl) (by rw [blk_cell ((hfc.out.trans hfi).blk HA.out.2.1)]; rfl) (by rw [blk_cell ((hfc.out.trans hfi).blk HA.out.1)]; rfl)
        (fun t q hq => ⟨hfw.cell (HCELL.out t q hq).1, hfw.cell (HCELL.out t q hq).2⟩) HP.out HQ.out).mono ?_
      rintro e w'' ⟨rfl, hf⟩
      refine ⟨?_, hf⟩
      have d1 : l.getD i ⟨0, 0⟩ = l[i]'(by omega) := by simp [show i < l.length by omega]
      have d2 : l.getD (i + 1) ⟨0, 0⟩ = l[i + 1]'hil := by simp [hil]
      rw [d1, d2]
    · rintro e wd ⟨r, rfl, hrn, hr1, hr2, hfd⟩
      have hrl : r < l.length := by have := HN.out; omega
      have hz : (r : Int) < (n : Int) := by have := HN.out; omega
      obtain ⟨q, hqr⟩ : ∃ q, l[r]? = some q := ⟨_, List.getElem?_eq_getElem hrl⟩
      have hfw : Hid (Fr w wd) := HF0.out.trans (hfc.out.trans hfd)
      have q0 := hfw.out.cell (HCELL.out r q hqr).1
      have q1 := hfw.out.cell (HCELL.out r q hqr).2
      have cc : wd.cell? ⟨w0.heap.size, 0, none⟩ = some (.slice (some ⟨gA, 0, none⟩) n c) := by rw [blk_cell (hfd.blk hbc.out)]; rfl
      have HR := Lib.hid ((hfc.out.trans hfd).blk HA.out.2.2)
      obtain ⟨r0, r1⟩ := cells2 HR.out
      have f0 := blk_frozen HR.out 0
      have f1 := blk_frozen HR.out 1
      have HQR : Hid (l[r] = q) := by have := List.getElem?_eq_getElem hrl; rw [hqr] at this; exact (Option.some.inj this).symm
      have H1 := Lib.hid hr1
      have H2 := Lib.hid hr2
      have HRN := Lib.hid hrn
      clear hr1 hr2 hqr c0 hfd hrn
      go_wp2_with fail
      refine bodyPost_ret (results_cell_row rfl _ _ (w.heap.size + 1 + 1) _ _ (0, 0) _ rfl (blk_set (blk_set HR.out 0 _) 1 _) Tryz.underlying198 rfl (by kernel_rfl)) rfl ⟨r, hrl, by rw [HQR.out]; rfl, fun h => ?_, fun h => ?_, (hfw.out.set (p := ⟨w.heap.size + 1 + 1, 0, none⟩) (by show _ ≤ w.heap.size + 1 + 1; omega) _).set (p := ⟨w.heap.size + 1 + 1, 1, none⟩) (by show _ ≤ w.heap.size + 1 + 1; omega) _⟩
      · have h1 := H2.out (by have := HN.out; omega)
        have d1 : l.getD r ⟨0, 0⟩ = l[r]'(by omega) := by simp [hrl]
        have d2 : l.getD (r + 1) ⟨0, 0⟩ = l[r + 1]'h := by simp [h]
        simp only [d1, d2] at h1
        have h2 := of_decide_eq_true h1
        omega
      · have h1 := H1.out h
        have d1 : l.getD (r - 1) ⟨0, 0⟩ = l[r - 1]'(by omega) := by simp [show r - 1 < l.length by omega]
        have d2 : l.getD (r - 1 + 1) ⟨0, 0⟩ = l[r] := by simp [show r - 1 + 1 = r by omega, hrl]
        simp only [d1, d2] at h1
        have h2 := of_decide_eq_false h1
        omega

end Go.Proofs.YthjimnmgbcckjaaGreat
namespace Go.Run

/-- The rank's key. -/
abbrev ky (L : List Int) (i : Nat) : Int := L.getD i 0
/-- Rising keys. -/
def Rise (L : List Int) : Prop := L.Pairwise (· < ·)
theorem rise_lt {L : List Int} (h : Rise L) {i j : Nat} (hij : i < j) (hj : j < L.length) : ky L i < ky L j := by
  have := List.pairwise_iff_getElem.1 h i j (by omega) hj hij
  simpa [ky, show i < L.length by omega, hj] using this
/-- n by d is the least slope that the pairs ask for. -/
structure IsLow (e : Int) (L : List Int) (n d : Int) : Prop where
  pos : 0 < d
  nn : 0 ≤ n
  low : Int.gcd n d = 1
  ge : ∀ i j, i < j → j < L.length → ((j : Int) - i - 2 * e) * d ≤ n * (ky L j - ky L i)
  at' : (n = 0 ∧ d = 1) ∨ ∃ i j, i < j ∧ j < L.length ∧ n * (ky L j - ky L i) = ((j : Int) - i - 2 * e) * d
/-- The greatest slope: 1 by 0, as long as there is no pair. -/
structure IsTop (e : Int) (L : List Int) (n d : Int) : Prop where
  none : L.length < 2 → n = 1 ∧ d = 0
  pos : 2 ≤ L.length → 0 < d
  nn : 0 ≤ n
  low : Int.gcd n d = 1
  le : ∀ i j, i < j → j < L.length → n * (ky L j - ky L i) ≤ ((j : Int) - i + 2 * e) * d
  at' : 2 ≤ L.length → ∃ i j, i < j ∧ j < L.length ∧ n * (ky L j - ky L i) = ((j : Int) - i + 2 * e) * d
/-- A slope is not above the other. -/
def notAbove (n d n' d' : Int) : Prop := n * d' ≤ n' * d

theorem frac_unique {n d n' d' : Int} (hd : 0 < d) (hd' : 0 < d') (hn : 0 ≤ n) (hn' : 0 ≤ n') (hg : Int.gcd n d = 1) (hg' : Int.gcd n' d' = 1) (h : n * d' = n' * d) : n = n' ∧ d = d' := by
  obtain ⟨a, rfl⟩ := Int.eq_ofNat_of_zero_le hn
  obtain ⟨b, rfl⟩ := Int.eq_ofNat_of_zero_le (Int.le_of_lt hd)
  obtain ⟨a', rfl⟩ := Int.eq_ofNat_of_zero_le hn'
  obtain ⟨b', rfl⟩ := Int.eq_ofNat_of_zero_le (Int.le_of_lt hd')
  have g1 : Nat.Coprime a b := hg
  have g2 : Nat.Coprime a' b' := hg'
  have h' : a * b' = a' * b := by exact_mod_cast h
  have h1 : b ∣ b' := g1.symm.dvd_of_dvd_mul_left (by rw [h']; exact Nat.dvd_mul_left _ _)
  have h2 : b' ∣ b := g2.symm.dvd_of_dvd_mul_left (by rw [← h']; exact Nat.dvd_mul_left _ _)
  have e : b = b' := Nat.dvd_antisymm h1 h2
  subst e
  have : a = a' := Nat.eq_of_mul_eq_mul_right (by omega) h'
  exact ⟨by rw [this], rfl⟩
theorem key1 {n d n' d' X C : Int} (hd : 0 ≤ d) (ha : n * X = C * d) (h1 : C * d' ≤ n' * X) (hX : 0 < X) : n * d' ≤ n' * d := by
  have h2 : d * (C * d') ≤ d * (n' * X) := Int.mul_le_mul_of_nonneg_left h1 hd
  have e0 : X * (n * d') = (n * X) * d' := by grind
  have e1 : X * (n * d') = d * (C * d') := by rw [e0, ha]; grind
  have e2 : X * (n' * d) = d * (n' * X) := by grind
  exact Int.le_of_mul_le_mul_left (by rw [e1, e2]; exact h2) hX
theorem key2 {n d n' d' X C : Int} (hd : 0 ≤ d) (ha : n * X = C * d) (h1 : n' * X ≤ C * d') (hX : 0 < X) : n' * d ≤ n * d' := by
  have h2 : d * (n' * X) ≤ d * (C * d') := Int.mul_le_mul_of_nonneg_left h1 hd
  have e0 : X * (n * d') = (n * X) * d' := by grind
  have e1 : X * (n * d') = d * (C * d') := by rw [e0, ha]; grind
  have e2 : X * (n' * d) = d * (n' * X) := by grind
  exact Int.le_of_mul_le_mul_left (by rw [e1, e2]; exact h2) hX

theorem IsLow.unique {e : Int} {L : List Int} (hL : Rise L) {n d n' d' : Int} (h : IsLow e L n d) (h' : IsLow e L n' d') : n = n' ∧ d = d' := by
  have key : ∀ {n d n' d' : Int}, IsLow e L n d → IsLow e L n' d' → n * d' ≤ n' * d := by
    intro n d n' d' h h'
    rcases h.at' with ⟨rfl, rfl⟩ | ⟨i, j, hij, hj, ha⟩
    · have := h'.nn; omega
    · have h1 := h'.ge i j hij hj
      have hx := rise_lt hL hij hj
      exact key1 (Int.le_of_lt h.pos) ha h1 (by omega)
  exact frac_unique h.pos h'.pos h.nn h'.nn h.low h'.low (Int.le_antisymm (key h h') (key h' h))
theorem IsTop.unique {e : Int} {L : List Int} (hL : Rise L) {n d n' d' : Int} (h : IsTop e L n d) (h' : IsTop e L n' d') : n = n' ∧ d = d' := by
  by_cases h2 : L.length < 2
  · have a := h.none h2; have b := h'.none h2
    exact ⟨by omega, by omega⟩
  · have h2 : 2 ≤ L.length := by omega
    have key : ∀ {n d n' d' : Int}, IsTop e L n d → IsTop e L n' d' → n' * d ≤ n * d' := by
      intro n d n' d' h h'
      obtain ⟨i, j, hij, hj, ha⟩ := h.at' h2
      have h1 := h'.le i j hij hj
      have hx := rise_lt hL hij hj
      exact key2 (Int.le_of_lt (h.pos h2)) ha h1 (by omega)
    exact frac_unique (h.pos h2) (h'.pos h2) h.nn h'.nn h.low h'.low (Int.le_antisymm (key h' h) (key h h'))

/-- Between the least and the greatest slope all pairs agree. -/
theorem agree {e : Int} {L : List Int} (he : 0 ≤ e) {n d nt dt : Int} (h : IsLow e L n d) (ht : IsTop e L nt dt) (hle : notAbove n d nt dt) : ∀ i j, i < L.length → j < L.length → ((i : Int) - j - 2 * e) * d ≤ n * (ky L i - ky L j) := by
  intro i j hi hj
  rcases Nat.lt_trichotomy i j with hij | rfl | hij
  · have h1 := ht.le i j hij hj
    have hp := ht.pos (by omega)
    have h2 : d * (nt * (ky L j - ky L i)) ≤ d * (((j : Int) - i + 2 * e) * dt) := Int.mul_le_mul_of_nonneg_left h1 (Int.le_of_lt h.pos)
    have hx : 0 ≤ ky L j - ky L i ∨ ky L j - ky L i < 0 := by omega
    rcases hx with hx | hx
    · have h3 : (ky L j - ky L i) * (n * dt) ≤ (ky L j - ky L i) * (nt * d) := Int.mul_le_mul_of_nonneg_left hle hx
      have h4 : dt * (n * (ky L j - ky L i)) ≤ dt * (((j : Int) - i + 2 * e) * d) := by grind
      have h5 := Int.le_of_mul_le_mul_left h4 hp
      grind
    · have h6 : n * (ky L j - ky L i) ≤ 0 := Int.mul_nonpos_of_nonneg_of_nonpos h.nn (by omega)
      have h7 : 0 ≤ ((j : Int) - i + 2 * e) * d := Int.mul_nonneg (by omega) (Int.le_of_lt h.pos)
      grind
  · have h7 : 0 ≤ (2 * e) * d := Int.mul_nonneg (by omega) (Int.le_of_lt h.pos)
    grind
  · exact h.ge j i hij hi

/-- The part of the slope, rounded down. -/
def part (n d : Int) (L : List Int) (i : Nat) : Int := n * (ky L i - ky L 0) / d
/-- B is the line's base. -/
def IsBase (e n d : Int) (L : List Int) (B : Int) : Prop := (∀ i, i < L.length → (i : Int) - e - part n d L i ≤ B) ∧ ∃ i, i < L.length ∧ B = (i : Int) - e - part n d L i
theorem IsBase.unique {e n d : Int} {L : List Int} {B B' : Int} (h : IsBase e n d L B) (h' : IsBase e n d L B') : B = B' := by
  obtain ⟨i, hi, rfl⟩ := h.2
  obtain ⟨j, hj, rfl⟩ := h'.2
  have a := h.1 j hj
  have b := h'.1 i hi
  omega
/-- The line stays near. -/
theorem near {e : Int} {L : List Int} (he : 0 ≤ e) {n d nt dt B : Int} (h : IsLow e L n d) (ht : IsTop e L nt dt) (hle : notAbove n d nt dt) (hB : IsBase e n d L B) (i : Nat) (hi : i < L.length) : (i : Int) - e ≤ part n d L i + B ∧ part n d L i + B ≤ (i : Int) + e := by
  constructor
  · have := hB.1 i hi; omega
  · obtain ⟨j, hj, rfl⟩ := hB.2
    have h1 := agree he h ht hle j i hj hi
    -- floors
    have hd := h.pos
    have hi1 : part n d L i * d ≤ n * (ky L i - ky L 0) := Int.ediv_mul_le _ (by omega)
    have hj1 : n * (ky L j - ky L 0) < (part n d L j + 1) * d := Int.lt_ediv_add_one_mul_self _ hd
    have h2 : ((j : Int) - i - 2 * e + part n d L i - part n d L j - 1) * d < 0 * d := by grind
    have h3 : (j : Int) - i - 2 * e + part n d L i - part n d L j - 1 < 0 := Int.lt_of_mul_lt_mul_right h2 (by omega)
    omega

/-- Few keys: the least slope is 0. -/
theorem low_few {e : Int} {L : List Int} (hL : Rise L) {n d : Int} (h : IsLow e L n d) (hf : (L.length : Int) ≤ 2 * e + 1) : n = 0 ∧ d = 1 := by
  rcases h.at' with h0 | ⟨i, j, hij, hj, ha⟩
  · exact h0
  · have hx := rise_lt hL hij hj
    have h1 : ((j : Int) - i - 2 * e) * d ≤ 0 := Int.mul_nonpos_of_nonpos_of_nonneg (by omega) (Int.le_of_lt h.pos)
    have h2 : 0 ≤ n * (ky L j - ky L i) := Int.mul_nonneg h.nn (by omega)
    have h3 : n * (ky L j - ky L i) = 0 := by omega
    rcases Int.mul_eq_zero.1 h3 with h4 | h4
    · subst h4
      have := h.low
      rw [Int.gcd_zero_left] at this
      have := h.pos
      exact ⟨rfl, by omega⟩
    · omega
/-- The slope is at most 1. -/
theorem low_one {e : Int} {L : List Int} (hL : Rise L) (he : 0 ≤ e) {n d : Int} (h : IsLow e L n d) : n ≤ d := by
  rcases h.at' with ⟨rfl, rfl⟩ | ⟨i, j, hij, hj, ha⟩
  · decide
  · have hstep : ∀ k, i + k < L.length → (k : Int) ≤ ky L (i + k) - ky L i := by
      intro k
      induction k with
      | zero => intro _; simp
      | succ k ih =>
        intro hk
        have h1 := ih (by omega)
        have h2 := rise_lt hL (show i + k < i + (k + 1) by omega) hk
        omega
    have h1 := hstep (j - i) (by omega)
    rw [show i + (j - i) = j by omega] at h1
    have hx := rise_lt hL hij hj
    have h2 : ((j : Int) - i - 2 * e) * d ≤ (ky L j - ky L i) * d := Int.mul_le_mul_of_nonneg_right (by omega) (Int.le_of_lt h.pos)
    have h3 : (ky L j - ky L i) * n ≤ (ky L j - ky L i) * d := by grind
    exact Int.le_of_mul_le_mul_left h3 (by omega)

/-! ### one key more -/
theorem ky_old {L : List Int} (k : Int) {i : Nat} (h : i < L.length) : ky (L ++ [k]) i = ky L i := by simp [ky, List.getElem?_append_left h, h]
theorem ky_new (L : List Int) (k : Int) : ky (L ++ [k]) L.length = k := by simp [ky]
theorem rise_old {L : List Int} {k : Int} (h : Rise (L ++ [k])) : Rise L := (List.pairwise_append.1 h).1
theorem rise_new {L : List Int} {k : Int} (h : Rise (L ++ [k])) {i : Nat} (hi : i < L.length) : ky L i < k := by
  have := rise_lt h (show i < L.length from hi) (by simp)
  rw [ky_old k hi, ky_new] at this
  exact this
/-- C by X is not above c by x, that is a by b. -/
theorem cand_le {C X c x a b : Int} (hx : 0 < x) (_hX : 0 < X) (hb : 0 < b) (hab : a * x = c * b) (h : C * x ≤ c * X) : C * b ≤ a * X := by
  have h1 : b * (C * x) ≤ b * (c * X) := Int.mul_le_mul_of_nonneg_left h (Int.le_of_lt hb)
  have e0 : x * (a * X) = (a * x) * X := by grind
  have e1 : x * (a * X) = b * (c * X) := by rw [e0, hab]; grind
  have e2 : x * (C * b) = b * (C * x) := by grind
  exact Int.le_of_mul_le_mul_left (by rw [e1, e2]; exact h1) hx
theorem cand_ge {C X c x a b : Int} (hx : 0 < x) (_hX : 0 < X) (hb : 0 < b) (hab : a * x = c * b) (h : c * X ≤ C * x) : a * X ≤ C * b := by
  have h1 : b * (c * X) ≤ b * (C * x) := Int.mul_le_mul_of_nonneg_left h (Int.le_of_lt hb)
  have e0 : x * (a * X) = (a * x) * X := by grind
  have e1 : x * (a * X) = b * (c * X) := by rw [e0, hab]; grind
  have e2 : x * (C * b) = b * (C * x) := by grind
  exact Int.le_of_mul_le_mul_left (by rw [e1, e2]; exact h1) hx
/-- C by X is not above n by d, that is not above a by b. -/
theorem up_le {C X n d a b : Int} (hd : 0 < d) (hb : 0 < b) (hX : 0 < X) (h : C * d ≤ n * X) (hle : n * b ≤ a * d) : C * b ≤ a * X := by
  have h1 : b * (C * d) ≤ b * (n * X) := Int.mul_le_mul_of_nonneg_left h (Int.le_of_lt hb)
  have h2 : X * (n * b) ≤ X * (a * d) := Int.mul_le_mul_of_nonneg_left hle (Int.le_of_lt hX)
  have e1 : b * (n * X) = X * (n * b) := by grind
  have e2 : b * (C * d) = d * (C * b) := by grind
  have e3 : X * (a * d) = d * (a * X) := by grind
  rw [e1, e2] at h1
  rw [e3] at h2
  exact Int.le_of_mul_le_mul_left (Int.le_trans h1 h2) hd
theorem dn_ge {C X n d a b : Int} (hd : 0 < d) (hb : 0 < b) (hX : 0 < X) (h : n * X ≤ C * d) (hle : a * d ≤ n * b) : a * X ≤ C * b := by
  have h1 : b * (n * X) ≤ b * (C * d) := Int.mul_le_mul_of_nonneg_left h (Int.le_of_lt hb)
  have h2 : X * (a * d) ≤ X * (n * b) := Int.mul_le_mul_of_nonneg_left hle (Int.le_of_lt hX)
  have e1 : b * (n * X) = X * (n * b) := by grind
  have e2 : b * (C * d) = d * (C * b) := by grind
  have e3 : X * (a * d) = d * (a * X) := by grind
  rw [e1, e2] at h1
  rw [e3] at h2
  exact Int.le_of_mul_le_mul_left (Int.le_trans h2 h1) hd

/-- The least slope of one key more: v is the place of the steepest pair. -/
theorem low_step {e : Int} {L : List Int} {k : Int} (hR : Rise (L ++ [k])) {n d : Int} (h : IsLow e L n d) {v : Nat} (hv : v < L.length)
    (hbest : ∀ i, i < L.length → ((L.length : Int) - i - 2 * e) * (k - ky L v) ≤ ((L.length : Int) - v - 2 * e) * (k - ky L i)) {a b : Int} (hb : 0 < b) (ha : 0 ≤ a) (hg : Int.gcd a b = 1) (hab : a * (k - ky L v) = ((L.length : Int) - v - 2 * e) * b) :
    (n * b < a * d → IsLow e (L ++ [k]) a b) ∧ (a * d ≤ n * b → IsLow e (L ++ [k]) n d) := by
  have hlen : (L ++ [k]).length = L.length + 1 := by simp
  have hxv := rise_new hR hv
  have new : ∀ i, i < L.length → ((L.length : Int) - i - 2 * e) * b ≤ a * (k - ky L i) := fun i hi => cand_le (by omega) (by have := rise_new hR hi; omega) hb hab (hbest i hi)
  constructor
  · intro hlt
    refine ⟨hb, ha, hg, fun i j hij hj => ?_, .inr ⟨v, L.length, hv, by omega, ?_⟩⟩
    · rw [hlen] at hj
      rcases Nat.lt_or_ge j L.length with hj' | hj'
      · rw [ky_old k hj', ky_old k (by omega)]
        have hx := rise_lt (rise_old hR) hij hj'
        exact up_le h.pos hb (by omega) (h.ge i j hij hj') (Int.le_of_lt hlt)
      · obtain rfl : j = L.length := by omega
        rw [ky_new, ky_old k hij]
        exact new i hij
    · rw [ky_new, ky_old k hv]; exact hab
  · intro hle
    refine ⟨h.pos, h.nn, h.low, fun i j hij hj => ?_, ?_⟩
    · rw [hlen] at hj
      rcases Nat.lt_or_ge j L.length with hj' | hj'
      · rw [ky_old k hj', ky_old k (by omega)]; exact h.ge i j hij hj'
      · obtain rfl : j = L.length := by omega
        rw [ky_new, ky_old k hij]
        exact up_le hb h.pos (by have := rise_new hR hij; omega) (new i hij) hle
    · rcases h.at' with h0 | ⟨i, j, hij, hj, ha⟩
      · exact .inl h0
      · exact .inr ⟨i, j, hij, by omega, by rw [ky_old k hj, ky_old k (by omega)]; exact ha⟩
/-- .. where that pair asks for nothing. -/
theorem low_step_none {e : Int} {L : List Int} {k : Int} (hR : Rise (L ++ [k])) {n d : Int} (h : IsLow e L n d) (hno : ∀ i, i < L.length → (L.length : Int) - i - 2 * e ≤ 0) : IsLow e (L ++ [k]) n d := by
  have hlen : (L ++ [k]).length = L.length + 1 := by simp
  refine ⟨h.pos, h.nn, h.low, fun i j hij hj => ?_, ?_⟩
  · rw [hlen] at hj
    rcases Nat.lt_or_ge j L.length with hj' | hj'
    · rw [ky_old k hj', ky_old k (by omega)]; exact h.ge i j hij hj'
    · obtain rfl : j = L.length := by omega
      rw [ky_new, ky_old k hij]
      have h1 : ((L.length : Int) - i - 2 * e) * d ≤ 0 := Int.mul_nonpos_of_nonpos_of_nonneg (hno i hij) (Int.le_of_lt h.pos)
      have h2 : 0 ≤ n * (k - ky L i) := Int.mul_nonneg h.nn (by have := rise_new hR hij; omega)
      omega
  · rcases h.at' with h0 | ⟨i, j, hij, hj, ha⟩
    · exact .inl h0
    · exact .inr ⟨i, j, hij, by omega, by rw [ky_old k hj, ky_old k (by omega)]; exact ha⟩
/-- The greatest slope of one key more. -/
theorem top_step {e : Int} {L : List Int} {k : Int} (hR : Rise (L ++ [k])) (h1 : 0 < L.length) {n d : Int} (h : IsTop e L n d) {v : Nat} (hv : v < L.length)
    (hbest : ∀ i, i < L.length → ((L.length : Int) - v + 2 * e) * (k - ky L i) ≤ ((L.length : Int) - i + 2 * e) * (k - ky L v)) {a b : Int} (hb : 0 < b) (ha : 0 ≤ a) (hg : Int.gcd a b = 1) (hab : a * (k - ky L v) = ((L.length : Int) - v + 2 * e) * b) :
    ((d = 0 ∨ a * d < n * b) → IsTop e (L ++ [k]) a b) ∧ (¬ (d = 0 ∨ a * d < n * b) → IsTop e (L ++ [k]) n d) := by
  have hlen : (L ++ [k]).length = L.length + 1 := by simp
  have hxv := rise_new hR hv
  have new : ∀ i, i < L.length → a * (k - ky L i) ≤ ((L.length : Int) - i + 2 * e) * b := fun i hi => cand_ge (by omega) (by have := rise_new hR hi; omega) hb hab (hbest i hi)
  constructor
  · intro hlt
    refine ⟨fun h2 => by omega, fun _ => hb, ha, hg, fun i j hij hj => ?_, fun _ => ⟨v, L.length, hv, by omega, ?_⟩⟩
    · rw [hlen] at hj
      rcases Nat.lt_or_ge j L.length with hj' | hj'
      · rw [ky_old k hj', ky_old k (by omega)]
        have hx := rise_lt (rise_old hR) hij hj'
        have hd := h.pos (by omega)
        rcases hlt with h0 | hlt
        · omega
        · exact dn_ge hd hb (by omega) (h.le i j hij hj') (Int.le_of_lt hlt)
      · obtain rfl : j = L.length := by omega
        rw [ky_new, ky_old k hij]
        exact new i hij
    · rw [ky_new, ky_old k hv]; exact hab
  · intro hle
    have h2 : 2 ≤ L.length := by
      rcases Nat.lt_or_ge L.length 2 with h3 | h3
      · exact absurd (.inl (h.none h3).2) hle
      · exact h3
    have hd := h.pos h2
    refine ⟨fun h3 => by omega, fun _ => hd, h.nn, h.low, fun i j hij hj => ?_, fun _ => ?_⟩
    · rw [hlen] at hj
      rcases Nat.lt_or_ge j L.length with hj' | hj'
      · rw [ky_old k hj', ky_old k (by omega)]; exact h.le i j hij hj'
      · obtain rfl : j = L.length := by omega
        rw [ky_new, ky_old k hij]
        exact dn_ge hb hd (by have := rise_new hR hij; omega) (new i hij) (by omega)
    · obtain ⟨i, j, hij, hj, ha⟩ := h.at' h2
      exact ⟨i, j, hij, by omega, by rw [ky_old k hj, ky_old k (by omega)]; exact ha⟩
theorem low_start (e : Int) : IsLow e [] 0 1 := ⟨by decide, by decide, by decide, fun i j _ hj => by simp at hj, .inl ⟨rfl, rfl⟩⟩
theorem top_start (e : Int) : IsTop e [] 1 0 := ⟨fun _ => ⟨rfl, rfl⟩, fun h => by simp at h, by decide, by decide, fun i j _ hj => by simp at hj, fun h => by simp at h⟩
theorem low_one_key (e k : Int) : IsLow e [k] 0 1 := ⟨by decide, by decide, by decide, fun i j hij hj => by simp at hj; omega, .inl ⟨rfl, rfl⟩⟩
theorem top_one_key (e k : Int) : IsTop e [k] 1 0 := ⟨fun _ => ⟨rfl, rfl⟩, fun h => by simp at h, by decide, by decide, fun i j hij hj => by simp at hj; omega, fun h => by simp at h⟩
end Go.Run
namespace Go.Proofs.YthjimnmgbcckjaaGreat
set_option maxRecDepth 100000
open Go.RowKit Go.Inc Go.Run

/-- A fit's block. -/
def fitCells (e : Int) (n : Nat) (last ln ld tn td : Int) (v0 v1 : Value) : Array Value := #[.int .i64 e, .int .i64 n, .int .u64 last, .int .u64 ln, .int .u64 ld, .int .u64 tn, .int .u64 td, v0, v1]
theorem fit_cells {w : World} {g : Nat} {e : Int} {n : Nat} {last ln ld tn td : Int} {v0 v1 : Value} (h : w.heap[g]? = some (.cells (fitCells e n last ln ld tn td v0 v1) 196 (0, 0))) :
    w.cell? ⟨g, 0, none⟩ = some (.int .i64 e) ∧ w.cell? ⟨g, 1, none⟩ = some (.int .i64 n) ∧ w.cell? ⟨g, 2, none⟩ = some (.int .u64 last) ∧ w.cell? ⟨g, 3, none⟩ = some (.int .u64 ln) ∧ w.cell? ⟨g, 4, none⟩ = some (.int .u64 ld) ∧
    w.cell? ⟨g, 5, none⟩ = some (.int .u64 tn) ∧ w.cell? ⟨g, 6, none⟩ = some (.int .u64 td) ∧ w.cell? ⟨g, 7, none⟩ = some v0 ∧ w.cell? ⟨g, 8, none⟩ = some v1 := by
  refine ⟨?_, ?_, ?_, ?_, ?_, ?_, ?_, ?_, ?_⟩ <;> (rw [blk_cell h]; rfl)

theorem hnew_calls (eps : Int) (h : 2 ≤ eps ∧ eps ≤ 64) (w : World) :
    Calls Tryz.prog 128 #[.int .i64 eps] w fun e w' => e = .returned (.tuple #[.pointer (some ⟨w.heap.size, 0, none⟩), .int .i64 0]) ∧ w' = w.alloc (.cells (fitCells (eps - 1) 0 0 0 1 1 0 (.slice none 0 0) (.slice none 0 0)) 196) := by
  have d1 : decide (eps < 2) = false := decide_eq_false (by omega)
  have d2 : decide (eps > 64) = false := decide_eq_false (by omega)
  have w1 : IntKind.i64.wrap (eps - 1) = eps - 1 := wrap_i64_in _ (by omega) (by omega)
  go_enter Tryz.func128, Tryz.ntmps128
  go_wp2_with fail
  go_ret2
  exact ⟨rfl, rfl⟩

/-- The slope between two points, in lowest terms. -/
def btw (p q : Pt) : Int × Int := ((((q.y - p.y).toNat / Nat.gcd (q.y - p.y).toNat (q.x - p.x).toNat : Nat) : Int), (((q.x - p.x).toNat / Nat.gcd (q.y - p.y).toNat (q.x - p.x).toNat : Nat) : Int))
def newLow (ln ld : Int) (u p : Pt) : Int × Int := if u.y < p.y then (if slBelow ln ld (btw u p).1 (btw u p).2 then btw u p else (ln, ld)) else (ln, ld)
def newTop (tn td : Int) (u p : Pt) : Int × Int := if slBelow (btw u p).1 (btw u p).2 tn td then btw u p else (tn, td)
/-- The touching point of a chain (oldest first), for s. -/
def Touch (s : Int) (l : List Pt) (p u : Pt) : Prop := ∃ (r : Nat) (hr : r < l.length), u = l[r] ∧ (∀ h : r + 1 < l.length, 0 ≤ s * cross l[r] l[r + 1] p) ∧ (∀ h : 0 < r, ¬ 0 ≤ s * cross (l[r - 1]'(by omega)) l[r] p)
/-- What the slopes are with one key more. -/
def Slopes (n : Nat) (l0 l1 : List Pt) (key YL YU ln ld tn td ln' ld' tn' td' : Int) : Prop :=
  (n = 0 → ln' = ln ∧ ld' = ld ∧ tn' = tn ∧ td' = td) ∧
  (0 < n → ∃ u v, Touch 1 l1 ⟨key, YL⟩ u ∧ Touch (-1) l0 ⟨key, YU⟩ v ∧ (ln', ld') = newLow ln ld u ⟨key, YL⟩ ∧ (tn', td') = newTop tn td v ⟨key, YU⟩)
theorem between_btw (p q : Pt) (hp : PtOk p) (hq : PtOk q) (hx : p.x < q.x) (hy : p.y ≤ q.y) (w : World) : Calls Tryz.prog 140 #[ptVal p, ptVal q] w fun e w' => e = .returned (slVal (btw p q).1 (btw p q).2) ∧ Fr w w' := between_calls p q hp hq hx hy w
theorem btw_ok {p q : Pt} (hp : PtOk p) (hq : PtOk q) (hx : p.x < q.x) (hy : p.y ≤ q.y) : (0 ≤ (btw p q).1 ∧ (btw p q).1 ≤ 9223372036854775807) ∧ (0 < (btw p q).2 ∧ (btw p q).2 < 18446744073709551616) ∧ Int.gcd (btw p q).1 (btw p q).2 = 1 ∧ (btw p q).1 * (q.x - p.x) = (q.y - p.y) * (btw p q).2 := by
  obtain ⟨p1, p2, p3, p4⟩ := hp
  obtain ⟨q1, q2, q3, q4⟩ := hq
  unfold btw
  obtain ⟨n, hn⟩ : ∃ n : Nat, q.y - p.y = (n : Int) := ⟨(q.y - p.y).toNat, by omega⟩
  obtain ⟨d, hd⟩ : ∃ d : Nat, q.x - p.x = (d : Int) := ⟨(q.x - p.x).toNat, by omega⟩
  rw [hn, hd, Int.toNat_natCast, Int.toNat_natCast]
  dsimp only
  have hd0 : 0 < d := by omega
  have hg : 0 < Nat.gcd n d := Nat.gcd_pos_of_pos_right _ hd0
  have h1 := Nat.div_le_self n (Nat.gcd n d)
  have h2 := Nat.div_le_self d (Nat.gcd n d)
  have h3 : 0 < d / Nat.gcd n d := Nat.div_pos (Nat.le_of_dvd hd0 (Nat.gcd_dvd_right n d)) hg
  have e1 := Nat.div_mul_cancel (Nat.gcd_dvd_left n d)
  have e2 := Nat.div_mul_cancel (Nat.gcd_dvd_right n d)
  refine ⟨⟨Int.natCast_nonneg _, by have : ((n / Nat.gcd n d : Nat) : Int) ≤ (n : Int) := by exact_mod_cast h1
                                    omega⟩, ⟨by exact_mod_cast h3, by have : ((d / Nat.gcd n d : Nat) : Int) ≤ (d : Int) := by exact_mod_cast h2
                                                                      omega⟩, ?_, ?_⟩
  · show Int.gcd ((n / Nat.gcd n d : Nat) : Int) ((d / Nat.gcd n d : Nat) : Int) = 1
    exact Nat.coprime_div_gcd_div_gcd hg
  · have : n / Nat.gcd n d * d = n * (d / Nat.gcd n d) := by
      generalize Nat.gcd n d = G at *
      generalize n / G = N at *
      generalize d / G = D at *
      rw [← e1, ← e2, Nat.mul_assoc N G D, Nat.mul_comm G D]
    show ((n / Nat.gcd n d : Nat) : Int) * (d : Int) = (n : Int) * ((d / Nat.gcd n d : Nat) : Int)
    exact_mod_cast this
theorem points4 {w : World} {g : Nat} {x0 x1 x2 x3 : Value} {e : TypeId} (h : w.heap[g]? = some (.cells #[x0, x1, x2, x3] e (0, 0))) : w.cell? ⟨g, 0, none⟩ = some x0 ∧ w.cell? ⟨g, 1, none⟩ = some x1 ∧ w.cell? ⟨g, 2, none⟩ = some x2 ∧ w.cell? ⟨g, 3, none⟩ = some x3 := by
  refine ⟨?_, ?_, ?_, ?_⟩ <;> (rw [blk_cell h]; rfl)

/-- A fit as it lies in memory: its block, and the two chains (newest first) of the call's own, apart. -/
def FitAt (w : World) (g base : Nat) (e : Int) (n : Nat) (last ln ld tn td : Int) (A0 : Option Addr) (c0 : Nat) (l0 : List Pt) (A1 : Option Addr) (c1 : Nat) (l1 : List Pt) : Prop :=
  w.heap[g]? = some (.cells (fitCells e n last ln ld tn td (.slice A0 l0.length c0) (.slice A1 l1.length c1)) 196 (0, 0)) ∧
  Own w base 198 2 A0 l0.length c0 (l0.reverse.flatMap ptcells) ∧ Own w base 198 2 A1 l1.length c1 (l1.reverse.flatMap ptcells) ∧
  ablk A0 ≠ some g ∧ ablk A1 ≠ some g ∧ (∀ k, ablk A0 = some k → ablk A1 ≠ some k)
theorem fit_blk {w : World} {g base : Nat} {e : Int} {n : Nat} {last ln ld tn td : Int} {A0 : Option Addr} {c0 : Nat} {l0 : List Pt} {A1 : Option Addr} {c1 : Nat} {l1 : List Pt} (h : FitAt w g base e n last ln ld tn td A0 c0 l0 A1 c1 l1) :
    w.heap[g]? = some (.cells (fitCells e n last ln ld tn td (.slice A0 l0.length c0) (.slice A1 l1.length c1)) 196 (0, 0)) := h.1
theorem fit_fr {w w' : World} {g base : Nat} {e : Int} {n : Nat} {last ln ld tn td : Int} {A0 : Option Addr} {c0 : Nat} {l0 : List Pt} {A1 : Option Addr} {c1 : Nat} {l1 : List Pt} (h : FitAt w g base e n last ln ld tn td A0 c0 l0 A1 c1 l1) (hf : Fr w w') : FitAt w' g base e n last ln ld tn td A0 c0 l0 A1 c1 l1 :=
  ⟨hf.blk h.1, h.2.1.fr hf, h.2.2.1.fr hf, h.2.2.2⟩
theorem fit_mv {S : Nat → Prop} {w w' : World} {g base : Nat} {e : Int} {n : Nat} {last ln ld tn td : Int} {A0 : Option Addr} {c0 : Nat} {l0 : List Pt} {A1 : Option Addr} {c1 : Nat} {l1 : List Pt} (h : FitAt w g base e n last ln ld tn td A0 c0 l0 A1 c1 l1) (hf : Mv S w w') (h0 : ¬ S g) (h1 : ∀ k, ablk A0 = some k → ¬ S k) (h2 : ∀ k, ablk A1 = some k → ¬ S k) : FitAt w' g base e n last ln ld tn td A0 c0 l0 A1 c1 l1 :=
  ⟨hf.blk h.1 h0, h.2.1.mv hf h1, h.2.2.1.mv hf h2, h.2.2.2⟩
theorem fit_set {w w' : World} {g base : Nat} {e : Int} {n n' : Nat} {last ln ld tn td last' ln' ld' tn' td' : Int} {A0 : Option Addr} {c0 : Nat} {l0 : List Pt} {A1 : Option Addr} {c1 : Nat} {l1 : List Pt} (h : FitAt w g base e n last ln ld tn td A0 c0 l0 A1 c1 l1) (hm : Mv (one1 g) w w')
    (hb : w'.heap[g]? = some (.cells (fitCells e n' last' ln' ld' tn' td' (.slice A0 l0.length c0) (.slice A1 l1.length c1)) 196 (0, 0))) : FitAt w' g base e n' last' ln' ld' tn' td' A0 c0 l0 A1 c1 l1 := by
  obtain ⟨_, h2, h3, h4, h5, h6⟩ := h
  exact ⟨hb, h2.mv hm (fun k hk e => h4 (by rw [hk, show k = g from e])), h3.mv hm (fun k hk e => h5 (by rw [hk, show k = g from e])), h4, h5, h6⟩
theorem fit_step0 {w w2 : World} {g base : Nat} {e : Int} {n : Nat} {last ln ld tn td : Int} {A0 : Option Addr} {c0 : Nat} {l0 : List Pt} {A1 : Option Addr} {c1 : Nat} {l1 : List Pt} (h : FitAt w g base e n last ln ld tn td A0 c0 l0 A1 c1 l1) {A2 : Option Addr} {c2 : Nat} {l2 : List Pt}
    (hm : Mv (fun k => ablk A0 = some k) w w2) (ho : Own w2 base 198 2 A2 l2.length c2 (l2.reverse.flatMap ptcells)) (ha : ablk A2 = ablk A0 ∨ ∀ k, ablk A2 = some k → w.heap.size ≤ k) :
    w2.heap[g]? = some (.cells (fitCells e n last ln ld tn td (.slice A0 l0.length c0) (.slice A1 l1.length c1)) 196 (0, 0)) ∧ FitAt (w2.setCell ⟨g, 7, none⟩ (.slice A2 l2.length c2)) g base e n last ln ld tn td A2 c2 l2 A1 c1 l1 ∧
      Mv (fun k => k = g ∨ ablk A0 = some k) w (w2.setCell ⟨g, 7, none⟩ (.slice A2 l2.length c2)) := by
  obtain ⟨h1, h2, h3, h4, h5, h6⟩ := h
  have hb := hm.blk h1 h4
  have hgl := blk_lt h1
  have a1 : ablk A2 ≠ some g := by
    intro h
    rcases ha with ha | ha
    · exact h4 (ha ▸ h)
    · have := ha g h; omega
  have hs : Mv (one1 g) w2 (w2.setCell ⟨g, 7, none⟩ (.slice A2 l2.length c2)) := Mv.set (S := one1 g) (p := ⟨g, 7, none⟩) (Mv.refl _ w2) (.inl rfl) _
  refine ⟨hb, ⟨by rw [blk_set hb]; rfl, ho.mv hs (fun k hk e => a1 (by rw [hk, show k = g from e])), (h3.mv hm (fun k hk h => h6 k h hk)).mv hs (fun k hk e => h5 (by rw [hk, show k = g from e])), a1, h5, ?_⟩, (hm.mono (fun i h => .inl (.inr h))).set (.inl (.inl rfl)) _⟩
  intro k hk hk1
  rcases ha with ha | ha
  · exact h6 k (by rw [← ha]; exact hk) hk1
  · have := ha k hk
    have := (h3.lt k hk1).2
    omega
theorem fit_step1 {w w2 : World} {g base : Nat} {e : Int} {n : Nat} {last ln ld tn td : Int} {A0 : Option Addr} {c0 : Nat} {l0 : List Pt} {A1 : Option Addr} {c1 : Nat} {l1 : List Pt} (h : FitAt w g base e n last ln ld tn td A0 c0 l0 A1 c1 l1) {A2 : Option Addr} {c2 : Nat} {l2 : List Pt}
    (hm : Mv (fun k => ablk A1 = some k) w w2) (ho : Own w2 base 198 2 A2 l2.length c2 (l2.reverse.flatMap ptcells)) (ha : ablk A2 = ablk A1 ∨ ∀ k, ablk A2 = some k → w.heap.size ≤ k) :
    w2.heap[g]? = some (.cells (fitCells e n last ln ld tn td (.slice A0 l0.length c0) (.slice A1 l1.length c1)) 196 (0, 0)) ∧ FitAt (w2.setCell ⟨g, 8, none⟩ (.slice A2 l2.length c2)) g base e n last ln ld tn td A0 c0 l0 A2 c2 l2 ∧
      Mv (fun k => k = g ∨ ablk A1 = some k) w (w2.setCell ⟨g, 8, none⟩ (.slice A2 l2.length c2)) := by
  obtain ⟨h1, h2, h3, h4, h5, h6⟩ := h
  have hb := hm.blk h1 h5
  have hgl := blk_lt h1
  have a1 : ablk A2 ≠ some g := by
    intro h
    rcases ha with ha | ha
    · exact h5 (ha ▸ h)
    · have := ha g h; omega
  have hs : Mv (one1 g) w2 (w2.setCell ⟨g, 8, none⟩ (.slice A2 l2.length c2)) := Mv.set (S := one1 g) (p := ⟨g, 8, none⟩) (Mv.refl _ w2) (.inl rfl) _
  refine ⟨hb, ⟨by rw [blk_set hb]; rfl, (h2.mv hm (fun k hk h => h6 k hk h)).mv hs (fun k hk e => h4 (by rw [hk, show k = g from e])), ho.mv hs (fun k hk e => a1 (by rw [hk, show k = g from e])), h4, a1, ?_⟩, (hm.mono (fun i h => .inl (.inr h))).set (.inl (.inl rfl)) _⟩
  intro k hk hk1
  rcases ha with ha | ha
  · exact h6 k hk (by rw [← ha]; exact hk1)
  · have := ha k hk1
    have := (h2.lt k hk).2
    omega
/-- The touching point of a chain (newest first). -/
def TouchR (s : Int) (l : List Pt) (p u : Pt) : Prop := Touch s l.reverse p u

end Go.Proofs.YthjimnmgbcckjaaGreat
