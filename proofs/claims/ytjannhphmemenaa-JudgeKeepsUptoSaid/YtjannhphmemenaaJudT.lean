/- An answer with one thing turned (printed by genturn.py). -/
import Derived.Test.YtjannhphmemenaaJudH
import Derived.Laws.ResultCell
namespace Go.Jud
def turnV (a : AnsV) (rule z : Int) : AnsV × Bool :=
  if rule = 1 then ({ a with code := a.code + (1 + z % 1000) }, true)
  else if rule = 2 then ({ a with is := !a.is }, true)
  else if rule = 3 then (if z % 2 = 0 then { a with key := (a.key + 1 + z / 2) % 18446744073709551616 } else { a with val := (a.val + 1 + z / 2) % 18446744073709551616 }, true)
  else if rule = 4 then ({ a with num := a.num + 1 + z % 1000 }, true)
  else if rule = 5 then (if a.list.length = 0 ∨ z % 3 = 0 then { a with list := a.list ++ [(z, z)] } else if z % 3 = 1 then { a with list := a.list.take (a.list.length - 1) } else
    { a with list := a.list.set (z / 3 % (a.list.length : Int)).toNat ((a.list.getD (z / 3 % (a.list.length : Int)).toNat (0, 0)).1, ((a.list.getD (z / 3 % (a.list.length : Int)).toNat (0, 0)).2 + 1) % 18446744073709551616) }, true)
  else (a, false)
theorem rules_same (a : AnsV) : rules a a = [] := by simp [rules, broken, pick]
theorem turn_rule {a : AnsV} {rule z : Int} (h : (turnV a rule z).2 = true) (hz : U z) (hk : U a.key) (hv : U a.val) (hl : InU a.list) : rules (turnV a rule z).1 a = [rule] := by
  obtain ⟨hz0, hz1⟩ := hz
  obtain ⟨hk0, hk1⟩ := hk
  obtain ⟨hv0, hv1⟩ := hv
  unfold turnV at *
  by_cases h1 : rule = 1
  · subst h1
    have : (a.code + (1 + z % 1000) != a.code) = true := by simp; omega
    simp [rules, broken, pick, this]
  · rw [if_neg h1] at h ⊢
    by_cases h2 : rule = 2
    · subst h2
      simp [rules, broken, pick]
    · rw [if_neg h2] at h ⊢
      by_cases h3 : rule = 3
      · subst h3
        rw [if_pos rfl]
        by_cases he : z % 2 = 0
        · have : ((a.key + 1 + z / 2) % 18446744073709551616 != a.key) = true := by simp; omega
          simp [rules, broken, pick, he, this]
        · have : ((a.val + 1 + z / 2) % 18446744073709551616 != a.val) = true := by simp; omega
          simp [rules, broken, pick, he, this]
      · rw [if_neg h3] at h ⊢
        by_cases h4 : rule = 4
        · subst h4
          have : (a.num + 1 + z % 1000 != a.num) = true := by simp; omega
          simp [rules, broken, pick, this]
        · rw [if_neg h4] at h ⊢
          by_cases h5 : rule = 5
          · subst h5
            rw [if_pos rfl]
            have key : ∀ l : List Pr, l ≠ a.list → rules { a with list := l } a = [5] := fun l hl => by
              have : decide (l = a.list) = false := decide_eq_false hl
              simp [rules, broken, pick, this]
            by_cases hn : a.list.length = 0 ∨ z % 3 = 0
            · rw [if_pos hn]
              exact key _ (fun e => by have := congrArg List.length e; simp at this)
            · rw [if_neg hn]
              by_cases hc : z % 3 = 1
              · rw [if_pos hc]
                exact key _ (fun e => by have := congrArg List.length e; simp at this; omega)
              · rw [if_neg hc]
                refine key _ (fun e => ?_)
                have hlen : (z / 3 % (a.list.length : Int)).toNat < a.list.length := by
                  have := Int.emod_lt_of_pos (z / 3) (show (0 : Int) < a.list.length by omega)
                  have := Int.emod_nonneg (z / 3) (show (a.list.length : Int) ≠ 0 by omega)
                  omega
                have e2 := congrArg (fun l => l[(z / 3 % (a.list.length : Int)).toNat]?) e
                simp [hlen] at e2
                have hu := (hl _ (List.getElem_mem hlen)).2
                have := congrArg Prod.snd e2
                simp at this
                obtain ⟨u0, u1⟩ := hu
                omega
          · rw [if_neg h5] at h
            cases h
theorem turn_not {a : AnsV} {rule z : Int} (h : (turnV a rule z).2 = false) : (turnV a rule z).1 = a := by
  unfold turnV at *
  repeat' split at h
  all_goals first | (cases h; done) | skip
  all_goals simp_all
theorem turn_len (a : AnsV) (rule z : Int) : (turnV a rule z).1.list.length ≤ a.list.length + 1 := by
  unfold turnV
  repeat' split
  all_goals first | exact Nat.le_succ _ | (simp; done) | (simp; omega)
end Go.Jud

namespace Go.Proofs.Ytjannhphmemenaa
set_option maxRecDepth 100000
open Go.RowKit Go.Inc Go.Jud Go.Maps Go.Sort

theorem results_row_tmp {P : Program} {fn : Func} {p u : Tmp} {ty : TypeId} (h : fn.results = #[.cell p ty, .tmp u]) (tmps : Array Value) (w : World) (g : Nat) (t : TypeId) (cs : Array Value) (fr : Nat × Nat) (d : TypeDesc)
    (hp : tmps.getD p undef = .pointer (some ⟨g, 0, none⟩)) (hg : w.heap[g]? = some (.cells cs t fr))
    (hu : P.underlying ty = some d) (hd : (match d with | .struct _ | .array _ _ => true | _ => false) = true) (hi : (P.info? ty).map (·.size) = some cs.size) (b : Value) (hb : tmps.getD u undef = b) :
    (results fn tmps).run P w = .ok (.tuple #[.agg cs, b]) w := by
  rw [results_cell_tmp h]
  subst hb
  simp [hp, asAddr, run_loadVar_row w g t ty cs fr d hg hu hd hi, Result.andThen]

theorem own_cap {w : World} {base : Nat} {e : TypeId} {size n c : Nat} {A : Option Addr} {xs : List Value} (h : Own w base e size A n c xs) : n ≤ c := by
  rcases h.2 with ⟨h1, h2⟩ | ⟨_, _, _, h1, _, _, h2, _⟩
  · omega
  · injection h1 with _ _ h1; omega
theorem own_frozen {w : World} {base gA : Nat} {e : TypeId} {size n c : Nat} {xs : List Value} (h : Own w base e size (some ⟨gA, 0, none⟩) n c xs) (j : Nat) : w.frozen? ⟨gA, j, none⟩ = false := by
  rcases h.2 with ⟨h2, _⟩ | ⟨g, cap, cur, r1, r2, r3, _⟩
  · cases h2
  · injection r1 with q1 q2 q3
    injection q1 with q1
    injection q1 with q1
    subst q1
    exact blk_frozen r3 _
theorem own_addr' {w : World} {base : Nat} {e : TypeId} {size n c : Nat} {A : Option Addr} {xs : List Value} (h : Own w base e size A n c xs) (hn : 0 < n) : ∃ gA, A = some ⟨gA, 0, none⟩ := by
  rcases h.2 with ⟨h2, h3⟩ | ⟨g, cap, cur, r1, _⟩
  · omega
  · injection r1 with q1 q2 q3
    exact ⟨g, q1⟩
/-- What comes out: the turned answer, its list the call's own. -/
def TurnPost (a : AnsV) (ok : Bool) (w : World) (e : Ending) (w' : World) : Prop :=
  ∃ A c, e = .returned (.tuple #[ansVal a A c, .bool ok]) ∧ RdC w' A (a.list.flatMap pcells) ∧ (∀ k, ablk A = some k → w.heap.size ≤ k) ∧ Fr w w'
theorem turn_end {w s : World} {A : Option Addr} {a : AnsV} {c n : Nat} {ok : Bool} (hn : n = a.list.length) (hr : RdC s A (a.list.flatMap pcells)) (hA : ∀ k, ablk A = some k → w.heap.size + 2 ≤ k) (hf : Fr w s) (y0 y1 y2 y3 y4 y5 : Value) :
    TurnPost a ok w (.returned (.tuple #[.agg #[.int .i64 a.code, .bool a.is, .int .u64 a.key, .int .u64 a.val, .int .i64 a.num, .slice A n c], .bool ok])) (set6 s (w.heap.size + 1) y0 y1 y2 y3 y4 y5) :=
  ⟨A, c, by rw [hn]; rfl, hr.mv (set6_mv1 _ _ _ _ _ _ _ _) (fun i hi e => by have h1 : i = w.heap.size + 1 := e; have := hA i hi; omega), fun k hk => by have := hA k hk; omega, set6_fr hf (by omega) _ _ _ _ _ _⟩

set_option maxHeartbeats 2000000 in
theorem turned_1 (a : AnsV) (B : Option Addr) (m cb : Nat) (rule z : Int) (w : World) (hm : m = a.list.length) (hrd : RdC w B (a.list.flatMap pcells)) (hl : a.list.length ≤ 1073741824) (hz : U z) (hk : U a.key) (hv : U a.val) (hc : 0 ≤ a.code ∧ a.code ≤ 1000) (hn : 0 ≤ a.num ∧ a.num ≤ 1099511627776) (hr1 : rule = 1) :
    Calls Try.prog 15 #[ansIn a B m cb, .int .i64 rule, .int .u64 z] w (TurnPost (turnV a rule z).1 (turnV a rule z).2 w) := by
  subst hm; subst hr1
  obtain ⟨hz0, hz1⟩ := hz
  obtain ⟨hk0, hk1⟩ := hk
  obtain ⟨hv0, hv1⟩ := hv
  have HR := Lib.hid hrd
  have HV : Hid (turnV a 1 z = ({ a with code := a.code + (1 + z % 1000) }, true)) := rfl
  have hwx : IntKind.i64.wrap (a.code + (1 + z % 1000)) = a.code + (1 + z % 1000) := wrap_i64_in _ (by omega) (by omega)
  clear hrd
  unfold ansIn
  go_enter Try.func15, Try.ntmps15
  go_wp2_with (at_builtin; refine gate ?_)
  obtain ⟨w3, hw3⟩ : ∃ w3, w3 = (w.alloc (.cells #[.int .i64 a.code, .bool a.is, .int .u64 a.key, .int .u64 a.val, .int .i64 a.num, .slice B a.list.length cb] 44)).alloc (.cells #[.int .i64 0, .bool false, .int .u64 0, .int .u64 0, .int .i64 0, .slice none 0 0] 44) := ⟨_, rfl⟩
  have ht := alloc2_fst w (.cells #[.int .i64 a.code, .bool a.is, .int .u64 a.key, .int .u64 a.val, .int .i64 a.num, .slice B a.list.length cb] 44) (.cells #[.int .i64 0, .bool false, .int .u64 0, .int .u64 0, .int .i64 0, .slice none 0 0] 44)
  have hr := alloc2_snd w (.cells #[.int .i64 a.code, .bool a.is, .int .u64 a.key, .int .u64 a.val, .int .i64 a.num, .slice B a.list.length cb] 44) (.cells #[.int .i64 0, .bool false, .int .u64 0, .int .u64 0, .int .i64 0, .slice none 0 0] 44)
  have hff := fr2 w (.cells #[.int .i64 a.code, .bool a.is, .int .u64 a.key, .int .u64 a.val, .int .i64 a.num, .slice B a.list.length cb] 44) (.cells #[.int .i64 0, .bool false, .int .u64 0, .int .u64 0, .int .i64 0, .slice none 0 0] 44)
  have hsz : w3.heap.size = w.heap.size + 1 + 1 := by rw [hw3]; simp
  rw [← hw3] at ht hr hff ⊢
  clear hw3
  have HT := Lib.hid ht
  have HZ := Lib.hid hr
  have HF := Lib.hid hff
  have HS := Lib.hid hsz
  clear ht hr hff hsz
  have hbn : Blk (w3.alloc (.cells (arr []) 55)) (w.heap.size + 1 + 1) [] 55 := by have := Blk.new w3 [] 55; rwa [HS.out] at this
  refine gate_app rfl _ _ 42 rfl 55 (.agg #[.int .u64 0, .int .u64 0]) 2 16 Try.underlying42 info_pair rfl (by omega) (by omega) w3.heap.size (some ⟨w.heap.size + 1 + 1, 0, none⟩) 0 0 [] B a.list.length cb (a.list.flatMap pcells) (by rfl) (by rfl)
    (Own.of_blk hbn (by rw [HS.out]; exact Nat.le_refl _) rfl (by omega)) (flat_len pcells 2 pcells_len _) ((HR.out.fr HF.out).fr ((Fr.refl w3).alloc _)) (pcells_one _) (by omega) (by simp) ?_
  intro A4 c4 w4 hown4 hgr4 hat4
  have hf4 : Hid (Fr w3 w4) := ((Fr.refl w3).alloc _).grown hgr4.out (fun k hk => by have := HS.out; simp [ablk] at hk; omega)
  have ho4 : Hid (Own w4 w3.heap.size 55 2 A4 a.list.length c4 (a.list.flatMap pcells)) := by simpa [Hid] using hown4.out
  clear hown4 hgr4 hat4
  rw [Nat.zero_add]
  have HT4 := Lib.hid (hf4.out.blk HT.out)
  have HZ4 := Lib.hid (hf4.out.blk HZ.out)
  have HFF : Hid (Fr w w4) := HF.out.trans hf4.out
  have hA4 : Hid (∀ k, ablk A4 = some k → w.heap.size + 2 ≤ k ∧ k < w4.heap.size) := fun k hk => ⟨by have := (ho4.out.lt k hk).1; have := HS.out; omega, (ho4.out.lt k hk).2⟩
  obtain ⟨t0, t1, t2, t3, t4, t5, u0, u1, u2, u3, u4, u5⟩ := ans_cells HT4.out
  obtain ⟨e0, e1, e2, e3, e4, e5, g0, g1, g2, g3, g4, g5⟩ := ans_cells HZ4.out
  go_wp2_with fail
  rw [HV.out]
  refine bodyPost_ret (results_row_tmp rfl _ _ (w.heap.size + 1) _ _ (0, 0) _ rfl (set6_heap (blk_set_ne (blk_set_ne HZ4.out (by simp) _) (by simp) _) _ _ _ _ _ _) Try.underlying44 rfl (by kernel_rfl) _ rfl) rfl ?_
  exact turn_end (a := { a with code := a.code + (1 + z % 1000) }) (ok := true) rfl (ho4.out.rd.mv (((Mv.refl (one1 w.heap.size) w4).set (p := ⟨w.heap.size, 5, none⟩) (.inl rfl) _).set (p := ⟨w.heap.size, 0, none⟩) (.inl rfl) _) (fun k hk e => by have h1 : k = w.heap.size := e; have := (hA4.out k hk).1; omega)) (fun k hk => (hA4.out k hk).1) ((HFF.out.set (p := ⟨w.heap.size, 5, none⟩) (Nat.le_refl _) _).set (p := ⟨w.heap.size, 0, none⟩) (Nat.le_refl _) _) _ _ _ _ _ _

set_option maxHeartbeats 2000000 in
theorem turned_2 (a : AnsV) (B : Option Addr) (m cb : Nat) (rule z : Int) (w : World) (hm : m = a.list.length) (hrd : RdC w B (a.list.flatMap pcells)) (hl : a.list.length ≤ 1073741824) (hz : U z) (hk : U a.key) (hv : U a.val) (hc : 0 ≤ a.code ∧ a.code ≤ 1000) (hn : 0 ≤ a.num ∧ a.num ≤ 1099511627776) (hr1 : rule = 2) :
    Calls Try.prog 15 #[ansIn a B m cb, .int .i64 rule, .int .u64 z] w (TurnPost (turnV a rule z).1 (turnV a rule z).2 w) := by
  subst hm; subst hr1
  obtain ⟨hz0, hz1⟩ := hz
  obtain ⟨hk0, hk1⟩ := hk
  obtain ⟨hv0, hv1⟩ := hv
  have HR := Lib.hid hrd
  have HV : Hid (turnV a 2 z = ({ a with is := !a.is }, true)) := rfl
  clear hrd
  unfold ansIn
  go_enter Try.func15, Try.ntmps15
  go_wp2_with (at_builtin; refine gate ?_)
  obtain ⟨w3, hw3⟩ : ∃ w3, w3 = (w.alloc (.cells #[.int .i64 a.code, .bool a.is, .int .u64 a.key, .int .u64 a.val, .int .i64 a.num, .slice B a.list.length cb] 44)).alloc (.cells #[.int .i64 0, .bool false, .int .u64 0, .int .u64 0, .int .i64 0, .slice none 0 0] 44) := ⟨_, rfl⟩
  have ht := alloc2_fst w (.cells #[.int .i64 a.code, .bool a.is, .int .u64 a.key, .int .u64 a.val, .int .i64 a.num, .slice B a.list.length cb] 44) (.cells #[.int .i64 0, .bool false, .int .u64 0, .int .u64 0, .int .i64 0, .slice none 0 0] 44)
  have hr := alloc2_snd w (.cells #[.int .i64 a.code, .bool a.is, .int .u64 a.key, .int .u64 a.val, .int .i64 a.num, .slice B a.list.length cb] 44) (.cells #[.int .i64 0, .bool false, .int .u64 0, .int .u64 0, .int .i64 0, .slice none 0 0] 44)
  have hff := fr2 w (.cells #[.int .i64 a.code, .bool a.is, .int .u64 a.key, .int .u64 a.val, .int .i64 a.num, .slice B a.list.length cb] 44) (.cells #[.int .i64 0, .bool false, .int .u64 0, .int .u64 0, .int .i64 0, .slice none 0 0] 44)
  have hsz : w3.heap.size = w.heap.size + 1 + 1 := by rw [hw3]; simp
  rw [← hw3] at ht hr hff ⊢
  clear hw3
  have HT := Lib.hid ht
  have HZ := Lib.hid hr
  have HF := Lib.hid hff
  have HS := Lib.hid hsz
  clear ht hr hff hsz
  have hbn : Blk (w3.alloc (.cells (arr []) 55)) (w.heap.size + 1 + 1) [] 55 := by have := Blk.new w3 [] 55; rwa [HS.out] at this
  refine gate_app rfl _ _ 42 rfl 55 (.agg #[.int .u64 0, .int .u64 0]) 2 16 Try.underlying42 info_pair rfl (by omega) (by omega) w3.heap.size (some ⟨w.heap.size + 1 + 1, 0, none⟩) 0 0 [] B a.list.length cb (a.list.flatMap pcells) (by rfl) (by rfl)
    (Own.of_blk hbn (by rw [HS.out]; exact Nat.le_refl _) rfl (by omega)) (flat_len pcells 2 pcells_len _) ((HR.out.fr HF.out).fr ((Fr.refl w3).alloc _)) (pcells_one _) (by omega) (by simp) ?_
  intro A4 c4 w4 hown4 hgr4 hat4
  have hf4 : Hid (Fr w3 w4) := ((Fr.refl w3).alloc _).grown hgr4.out (fun k hk => by have := HS.out; simp [ablk] at hk; omega)
  have ho4 : Hid (Own w4 w3.heap.size 55 2 A4 a.list.length c4 (a.list.flatMap pcells)) := by simpa [Hid] using hown4.out
  clear hown4 hgr4 hat4
  rw [Nat.zero_add]
  have HT4 := Lib.hid (hf4.out.blk HT.out)
  have HZ4 := Lib.hid (hf4.out.blk HZ.out)
  have HFF : Hid (Fr w w4) := HF.out.trans hf4.out
  have hA4 : Hid (∀ k, ablk A4 = some k → w.heap.size + 2 ≤ k ∧ k < w4.heap.size) := fun k hk => ⟨by have := (ho4.out.lt k hk).1; have := HS.out; omega, (ho4.out.lt k hk).2⟩
  obtain ⟨t0, t1, t2, t3, t4, t5, u0, u1, u2, u3, u4, u5⟩ := ans_cells HT4.out
  obtain ⟨e0, e1, e2, e3, e4, e5, g0, g1, g2, g3, g4, g5⟩ := ans_cells HZ4.out
  go_wp2_with fail
  rw [HV.out]
  refine bodyPost_ret (results_row_tmp rfl _ _ (w.heap.size + 1) _ _ (0, 0) _ rfl (set6_heap (blk_set_ne (blk_set_ne HZ4.out (by simp) _) (by simp) _) _ _ _ _ _ _) Try.underlying44 rfl (by kernel_rfl) _ rfl) rfl ?_
  exact turn_end (a := { a with is := !a.is }) (ok := true) rfl (ho4.out.rd.mv (((Mv.refl (one1 w.heap.size) w4).set (p := ⟨w.heap.size, 5, none⟩) (.inl rfl) _).set (p := ⟨w.heap.size, 1, none⟩) (.inl rfl) _) (fun k hk e => by have h1 : k = w.heap.size := e; have := (hA4.out k hk).1; omega)) (fun k hk => (hA4.out k hk).1) ((HFF.out.set (p := ⟨w.heap.size, 5, none⟩) (Nat.le_refl _) _).set (p := ⟨w.heap.size, 1, none⟩) (Nat.le_refl _) _) _ _ _ _ _ _

set_option maxHeartbeats 2000000 in
theorem turned_3e (a : AnsV) (B : Option Addr) (m cb : Nat) (rule z : Int) (w : World) (hm : m = a.list.length) (hrd : RdC w B (a.list.flatMap pcells)) (hl : a.list.length ≤ 1073741824) (hz : U z) (hk : U a.key) (hv : U a.val) (hc : 0 ≤ a.code ∧ a.code ≤ 1000) (hn : 0 ≤ a.num ∧ a.num ≤ 1099511627776) (hr1 : rule = 3) (he : z % 2 = 0) :
    Calls Try.prog 15 #[ansIn a B m cb, .int .i64 rule, .int .u64 z] w (TurnPost (turnV a rule z).1 (turnV a rule z).2 w) := by
  subst hm; subst hr1
  obtain ⟨hz0, hz1⟩ := hz
  obtain ⟨hk0, hk1⟩ := hk
  obtain ⟨hv0, hv1⟩ := hv
  have HR := Lib.hid hrd
  have HV : Hid (turnV a 3 z = ({ a with key := (a.key + 1 + z / 2) % 18446744073709551616 }, true)) := by unfold turnV; simp [he, Hid]
  have he2 : (z % 2 == 0) = true := by simp [he]
  have hwx : IntKind.u64.wrap (IntKind.u64.wrap (a.key + 1) + z / 2) = (a.key + 1 + z / 2) % 18446744073709551616 := by rw [wrap_u64, wrap_u64]; omega
  clear hrd
  unfold ansIn
  go_enter Try.func15, Try.ntmps15
  go_wp2_with (at_builtin; refine gate ?_)
  obtain ⟨w3, hw3⟩ : ∃ w3, w3 = (w.alloc (.cells #[.int .i64 a.code, .bool a.is, .int .u64 a.key, .int .u64 a.val, .int .i64 a.num, .slice B a.list.length cb] 44)).alloc (.cells #[.int .i64 0, .bool false, .int .u64 0, .int .u64 0, .int .i64 0, .slice none 0 0] 44) := ⟨_, rfl⟩
  have ht := alloc2_fst w (.cells #[.int .i64 a.code, .bool a.is, .int .u64 a.key, .int .u64 a.val, .int .i64 a.num, .slice B a.list.length cb] 44) (.cells #[.int .i64 0, .bool false, .int .u64 0, .int .u64 0, .int .i64 0, .slice none 0 0] 44)
  have hr := alloc2_snd w (.cells #[.int .i64 a.code, .bool a.is, .int .u64 a.key, .int .u64 a.val, .int .i64 a.num, .slice B a.list.length cb] 44) (.cells #[.int .i64 0, .bool false, .int .u64 0, .int .u64 0, .int .i64 0, .slice none 0 0] 44)
  have hff := fr2 w (.cells #[.int .i64 a.code, .bool a.is, .int .u64 a.key, .int .u64 a.val, .int .i64 a.num, .slice B a.list.length cb] 44) (.cells #[.int .i64 0, .bool false, .int .u64 0, .int .u64 0, .int .i64 0, .slice none 0 0] 44)
  have hsz : w3.heap.size = w.heap.size + 1 + 1 := by rw [hw3]; simp
  rw [← hw3] at ht hr hff ⊢
  clear hw3
  have HT := Lib.hid ht
  have HZ := Lib.hid hr
  have HF := Lib.hid hff
  have HS := Lib.hid hsz
  clear ht hr hff hsz
  have hbn : Blk (w3.alloc (.cells (arr []) 55)) (w.heap.size + 1 + 1) [] 55 := by have := Blk.new w3 [] 55; rwa [HS.out] at this
  refine gate_app rfl _ _ 42 rfl 55 (.agg #[.int .u64 0, .int .u64 0]) 2 16 Try.underlying42 info_pair rfl (by omega) (by omega) w3.heap.size (some ⟨w.heap.size + 1 + 1, 0, none⟩) 0 0 [] B a.list.length cb (a.list.flatMap pcells) (by rfl) (by rfl)
    (Own.of_blk hbn (by rw [HS.out]; exact Nat.le_refl _) rfl (by omega)) (flat_len pcells 2 pcells_len _) ((HR.out.fr HF.out).fr ((Fr.refl w3).alloc _)) (pcells_one _) (by omega) (by simp) ?_
  intro A4 c4 w4 hown4 hgr4 hat4
  have hf4 : Hid (Fr w3 w4) := ((Fr.refl w3).alloc _).grown hgr4.out (fun k hk => by have := HS.out; simp [ablk] at hk; omega)
  have ho4 : Hid (Own w4 w3.heap.size 55 2 A4 a.list.length c4 (a.list.flatMap pcells)) := by simpa [Hid] using hown4.out
  clear hown4 hgr4 hat4
  rw [Nat.zero_add]
  have HT4 := Lib.hid (hf4.out.blk HT.out)
  have HZ4 := Lib.hid (hf4.out.blk HZ.out)
  have HFF : Hid (Fr w w4) := HF.out.trans hf4.out
  have hA4 : Hid (∀ k, ablk A4 = some k → w.heap.size + 2 ≤ k ∧ k < w4.heap.size) := fun k hk => ⟨by have := (ho4.out.lt k hk).1; have := HS.out; omega, (ho4.out.lt k hk).2⟩
  obtain ⟨t0, t1, t2, t3, t4, t5, u0, u1, u2, u3, u4, u5⟩ := ans_cells HT4.out
  obtain ⟨e0, e1, e2, e3, e4, e5, g0, g1, g2, g3, g4, g5⟩ := ans_cells HZ4.out
  go_wp2_with fail
  rw [HV.out]
  refine bodyPost_ret (results_row_tmp rfl _ _ (w.heap.size + 1) _ _ (0, 0) _ rfl (set6_heap (blk_set_ne (blk_set_ne HZ4.out (by simp) _) (by simp) _) _ _ _ _ _ _) Try.underlying44 rfl (by kernel_rfl) _ rfl) rfl ?_
  exact turn_end (a := { a with key := (a.key + 1 + z / 2) % 18446744073709551616 }) (ok := true) rfl (ho4.out.rd.mv (((Mv.refl (one1 w.heap.size) w4).set (p := ⟨w.heap.size, 5, none⟩) (.inl rfl) _).set (p := ⟨w.heap.size, 2, none⟩) (.inl rfl) _) (fun k hk e => by have h1 : k = w.heap.size := e; have := (hA4.out k hk).1; omega)) (fun k hk => (hA4.out k hk).1) ((HFF.out.set (p := ⟨w.heap.size, 5, none⟩) (Nat.le_refl _) _).set (p := ⟨w.heap.size, 2, none⟩) (Nat.le_refl _) _) _ _ _ _ _ _

set_option maxHeartbeats 2000000 in
theorem turned_3o (a : AnsV) (B : Option Addr) (m cb : Nat) (rule z : Int) (w : World) (hm : m = a.list.length) (hrd : RdC w B (a.list.flatMap pcells)) (hl : a.list.length ≤ 1073741824) (hz : U z) (hk : U a.key) (hv : U a.val) (hc : 0 ≤ a.code ∧ a.code ≤ 1000) (hn : 0 ≤ a.num ∧ a.num ≤ 1099511627776) (hr1 : rule = 3) (he : z % 2 ≠ 0) :
    Calls Try.prog 15 #[ansIn a B m cb, .int .i64 rule, .int .u64 z] w (TurnPost (turnV a rule z).1 (turnV a rule z).2 w) := by
  subst hm; subst hr1
  obtain ⟨hz0, hz1⟩ := hz
  obtain ⟨hk0, hk1⟩ := hk
  obtain ⟨hv0, hv1⟩ := hv
  have HR := Lib.hid hrd
  have HV : Hid (turnV a 3 z = ({ a with val := (a.val + 1 + z / 2) % 18446744073709551616 }, true)) := by unfold turnV; simp [he, Hid]
  have he2 : (z % 2 == 0) = false := by simpa using he
  clear he
  have hwx : IntKind.u64.wrap (IntKind.u64.wrap (a.val + 1) + z / 2) = (a.val + 1 + z / 2) % 18446744073709551616 := by rw [wrap_u64, wrap_u64]; omega
  clear hrd
  unfold ansIn
  go_enter Try.func15, Try.ntmps15
  go_wp2_with (at_builtin; refine gate ?_)
  obtain ⟨w3, hw3⟩ : ∃ w3, w3 = (w.alloc (.cells #[.int .i64 a.code, .bool a.is, .int .u64 a.key, .int .u64 a.val, .int .i64 a.num, .slice B a.list.length cb] 44)).alloc (.cells #[.int .i64 0, .bool false, .int .u64 0, .int .u64 0, .int .i64 0, .slice none 0 0] 44) := ⟨_, rfl⟩
  have ht := alloc2_fst w (.cells #[.int .i64 a.code, .bool a.is, .int .u64 a.key, .int .u64 a.val, .int .i64 a.num, .slice B a.list.length cb] 44) (.cells #[.int .i64 0, .bool false, .int .u64 0, .int .u64 0, .int .i64 0, .slice none 0 0] 44)
  have hr := alloc2_snd w (.cells #[.int .i64 a.code, .bool a.is, .int .u64 a.key, .int .u64 a.val, .int .i64 a.num, .slice B a.list.length cb] 44) (.cells #[.int .i64 0, .bool false, .int .u64 0, .int .u64 0, .int .i64 0, .slice none 0 0] 44)
  have hff := fr2 w (.cells #[.int .i64 a.code, .bool a.is, .int .u64 a.key, .int .u64 a.val, .int .i64 a.num, .slice B a.list.length cb] 44) (.cells #[.int .i64 0, .bool false, .int .u64 0, .int .u64 0, .int .i64 0, .slice none 0 0] 44)
  have hsz : w3.heap.size = w.heap.size + 1 + 1 := by rw [hw3]; simp
  rw [← hw3] at ht hr hff ⊢
  clear hw3
  have HT := Lib.hid ht
  have HZ := Lib.hid hr
  have HF := Lib.hid hff
  have HS := Lib.hid hsz
  clear ht hr hff hsz
  have hbn : Blk (w3.alloc (.cells (arr []) 55)) (w.heap.size + 1 + 1) [] 55 := by have := Blk.new w3 [] 55; rwa [HS.out] at this
  refine gate_app rfl _ _ 42 rfl 55 (.agg #[.int .u64 0, .int .u64 0]) 2 16 Try.underlying42 info_pair rfl (by omega) (by omega) w3.heap.size (some ⟨w.heap.size + 1 + 1, 0, none⟩) 0 0 [] B a.list.length cb (a.list.flatMap pcells) (by rfl) (by rfl)
    (Own.of_blk hbn (by rw [HS.out]; exact Nat.le_refl _) rfl (by omega)) (flat_len pcells 2 pcells_len _) ((HR.out.fr HF.out).fr ((Fr.refl w3).alloc _)) (pcells_one _) (by omega) (by simp) ?_
  intro A4 c4 w4 hown4 hgr4 hat4
  have hf4 : Hid (Fr w3 w4) := ((Fr.refl w3).alloc _).grown hgr4.out (fun k hk => by have := HS.out; simp [ablk] at hk; omega)
  have ho4 : Hid (Own w4 w3.heap.size 55 2 A4 a.list.length c4 (a.list.flatMap pcells)) := by simpa [Hid] using hown4.out
  clear hown4 hgr4 hat4
  rw [Nat.zero_add]
  have HT4 := Lib.hid (hf4.out.blk HT.out)
  have HZ4 := Lib.hid (hf4.out.blk HZ.out)
  have HFF : Hid (Fr w w4) := HF.out.trans hf4.out
  have hA4 : Hid (∀ k, ablk A4 = some k → w.heap.size + 2 ≤ k ∧ k < w4.heap.size) := fun k hk => ⟨by have := (ho4.out.lt k hk).1; have := HS.out; omega, (ho4.out.lt k hk).2⟩
  obtain ⟨t0, t1, t2, t3, t4, t5, u0, u1, u2, u3, u4, u5⟩ := ans_cells HT4.out
  obtain ⟨e0, e1, e2, e3, e4, e5, g0, g1, g2, g3, g4, g5⟩ := ans_cells HZ4.out
  go_wp2_with fail
  rw [HV.out]
  refine bodyPost_ret (results_row_tmp rfl _ _ (w.heap.size + 1) _ _ (0, 0) _ rfl (set6_heap (blk_set_ne (blk_set_ne HZ4.out (by simp) _) (by simp) _) _ _ _ _ _ _) Try.underlying44 rfl (by kernel_rfl) _ rfl) rfl ?_
  exact turn_end (a := { a with val := (a.val + 1 + z / 2) % 18446744073709551616 }) (ok := true) rfl (ho4.out.rd.mv (((Mv.refl (one1 w.heap.size) w4).set (p := ⟨w.heap.size, 5, none⟩) (.inl rfl) _).set (p := ⟨w.heap.size, 3, none⟩) (.inl rfl) _) (fun k hk e => by have h1 : k = w.heap.size := e; have := (hA4.out k hk).1; omega)) (fun k hk => (hA4.out k hk).1) ((HFF.out.set (p := ⟨w.heap.size, 5, none⟩) (Nat.le_refl _) _).set (p := ⟨w.heap.size, 3, none⟩) (Nat.le_refl _) _) _ _ _ _ _ _

set_option maxHeartbeats 2000000 in
theorem turned_4 (a : AnsV) (B : Option Addr) (m cb : Nat) (rule z : Int) (w : World) (hm : m = a.list.length) (hrd : RdC w B (a.list.flatMap pcells)) (hl : a.list.length ≤ 1073741824) (hz : U z) (hk : U a.key) (hv : U a.val) (hc : 0 ≤ a.code ∧ a.code ≤ 1000) (hn : 0 ≤ a.num ∧ a.num ≤ 1099511627776) (hr1 : rule = 4) :
    Calls Try.prog 15 #[ansIn a B m cb, .int .i64 rule, .int .u64 z] w (TurnPost (turnV a rule z).1 (turnV a rule z).2 w) := by
  subst hm; subst hr1
  obtain ⟨hz0, hz1⟩ := hz
  obtain ⟨hk0, hk1⟩ := hk
  obtain ⟨hv0, hv1⟩ := hv
  have HR := Lib.hid hrd
  have HV : Hid (turnV a 4 z = ({ a with num := a.num + 1 + z % 1000 }, true)) := rfl
  have hwx : IntKind.i64.wrap (a.num + 1) = a.num + 1 := wrap_i64_in _ (by omega) (by omega)
  have hwy : IntKind.i64.wrap (a.num + 1 + z % 1000) = a.num + 1 + z % 1000 := wrap_i64_in _ (by omega) (by omega)
  clear hrd
  unfold ansIn
  go_enter Try.func15, Try.ntmps15
  go_wp2_with (at_builtin; refine gate ?_)
  obtain ⟨w3, hw3⟩ : ∃ w3, w3 = (w.alloc (.cells #[.int .i64 a.code, .bool a.is, .int .u64 a.key, .int .u64 a.val, .int .i64 a.num, .slice B a.list.length cb] 44)).alloc (.cells #[.int .i64 0, .bool false, .int .u64 0, .int .u64 0, .int .i64 0, .slice none 0 0] 44) := ⟨_, rfl⟩
  have ht := alloc2_fst w (.cells #[.int .i64 a.code, .bool a.is, .int .u64 a.key, .int .u64 a.val, .int .i64 a.num, .slice B a.list.length cb] 44) (.cells #[.int .i64 0, .bool false, .int .u64 0, .int .u64 0, .int .i64 0, .slice none 0 0] 44)
  have hr := alloc2_snd w (.cells #[.int .i64 a.code, .bool a.is, .int .u64 a.key, .int .u64 a.val, .int .i64 a.num, .slice B a.list.length cb] 44) (.cells #[.int .i64 0, .bool false, .int .u64 0, .int .u64 0, .int .i64 0, .slice none 0 0] 44)
  have hff := fr2 w (.cells #[.int .i64 a.code, .bool a.is, .int .u64 a.key, .int .u64 a.val, .int .i64 a.num, .slice B a.list.length cb] 44) (.cells #[.int .i64 0, .bool false, .int .u64 0, .int .u64 0, .int .i64 0, .slice none 0 0] 44)
  have hsz : w3.heap.size = w.heap.size + 1 + 1 := by rw [hw3]; simp
  rw [← hw3] at ht hr hff ⊢
  clear hw3
  have HT := Lib.hid ht
  have HZ := Lib.hid hr
  have HF := Lib.hid hff
  have HS := Lib.hid hsz
  clear ht hr hff hsz
  have hbn : Blk (w3.alloc (.cells (arr []) 55)) (w.heap.size + 1 + 1) [] 55 := by have := Blk.new w3 [] 55; rwa [HS.out] at this
  refine gate_app rfl _ _ 42 rfl 55 (.agg #[.int .u64 0, .int .u64 0]) 2 16 Try.underlying42 info_pair rfl (by omega) (by omega) w3.heap.size (some ⟨w.heap.size + 1 + 1, 0, none⟩) 0 0 [] B a.list.length cb (a.list.flatMap pcells) (by rfl) (by rfl)
    (Own.of_blk hbn (by rw [HS.out]; exact Nat.le_refl _) rfl (by omega)) (flat_len pcells 2 pcells_len _) ((HR.out.fr HF.out).fr ((Fr.refl w3).alloc _)) (pcells_one _) (by omega) (by simp) ?_
  intro A4 c4 w4 hown4 hgr4 hat4
  have hf4 : Hid (Fr w3 w4) := ((Fr.refl w3).alloc _).grown hgr4.out (fun k hk => by have := HS.out; simp [ablk] at hk; omega)
  have ho4 : Hid (Own w4 w3.heap.size 55 2 A4 a.list.length c4 (a.list.flatMap pcells)) := by simpa [Hid] using hown4.out
  clear hown4 hgr4 hat4
  rw [Nat.zero_add]
  have HT4 := Lib.hid (hf4.out.blk HT.out)
  have HZ4 := Lib.hid (hf4.out.blk HZ.out)
  have HFF : Hid (Fr w w4) := HF.out.trans hf4.out
  have hA4 : Hid (∀ k, ablk A4 = some k → w.heap.size + 2 ≤ k ∧ k < w4.heap.size) := fun k hk => ⟨by have := (ho4.out.lt k hk).1; have := HS.out; omega, (ho4.out.lt k hk).2⟩
  obtain ⟨t0, t1, t2, t3, t4, t5, u0, u1, u2, u3, u4, u5⟩ := ans_cells HT4.out
  obtain ⟨e0, e1, e2, e3, e4, e5, g0, g1, g2, g3, g4, g5⟩ := ans_cells HZ4.out
  go_wp2_with fail
  rw [HV.out]
  refine bodyPost_ret (results_row_tmp rfl _ _ (w.heap.size + 1) _ _ (0, 0) _ rfl (set6_heap (blk_set_ne (blk_set_ne HZ4.out (by simp) _) (by simp) _) _ _ _ _ _ _) Try.underlying44 rfl (by kernel_rfl) _ rfl) rfl ?_
  exact turn_end (a := { a with num := a.num + 1 + z % 1000 }) (ok := true) rfl (ho4.out.rd.mv (((Mv.refl (one1 w.heap.size) w4).set (p := ⟨w.heap.size, 5, none⟩) (.inl rfl) _).set (p := ⟨w.heap.size, 4, none⟩) (.inl rfl) _) (fun k hk e => by have h1 : k = w.heap.size := e; have := (hA4.out k hk).1; omega)) (fun k hk => (hA4.out k hk).1) ((HFF.out.set (p := ⟨w.heap.size, 5, none⟩) (Nat.le_refl _) _).set (p := ⟨w.heap.size, 4, none⟩) (Nat.le_refl _) _) _ _ _ _ _ _

set_option maxHeartbeats 2000000 in
theorem turned_no (a : AnsV) (B : Option Addr) (m cb : Nat) (rule z : Int) (w : World) (hm : m = a.list.length) (hrd : RdC w B (a.list.flatMap pcells)) (hl : a.list.length ≤ 1073741824) (hz : U z) (hk : U a.key) (hv : U a.val) (hc : 0 ≤ a.code ∧ a.code ≤ 1000) (hn : 0 ≤ a.num ∧ a.num ≤ 1099511627776) (h1 : rule ≠ 1) (h2 : rule ≠ 2) (h3 : rule ≠ 3) (h4 : rule ≠ 4) (h5 : rule ≠ 5) :
    Calls Try.prog 15 #[ansIn a B m cb, .int .i64 rule, .int .u64 z] w (TurnPost (turnV a rule z).1 (turnV a rule z).2 w) := by
  subst hm
  obtain ⟨hz0, hz1⟩ := hz
  obtain ⟨hk0, hk1⟩ := hk
  obtain ⟨hv0, hv1⟩ := hv
  have HR := Lib.hid hrd
  have HV : Hid (turnV a rule z = (a, false)) := by unfold turnV; simp [h1, h2, h3, h4, h5, Hid]
  have e1 : (rule == 1) = false := by simpa using h1
  have e2 : (rule == 2) = false := by simpa using h2
  have e3 : (rule == 3) = false := by simpa using h3
  have e4 : (rule == 4) = false := by simpa using h4
  have e5 : (rule == 5) = false := by simpa using h5
  clear h1 h2 h3 h4 h5
  clear hrd
  unfold ansIn
  go_enter Try.func15, Try.ntmps15
  go_wp2_with (at_builtin; refine gate ?_)
  obtain ⟨w3, hw3⟩ : ∃ w3, w3 = (w.alloc (.cells #[.int .i64 a.code, .bool a.is, .int .u64 a.key, .int .u64 a.val, .int .i64 a.num, .slice B a.list.length cb] 44)).alloc (.cells #[.int .i64 0, .bool false, .int .u64 0, .int .u64 0, .int .i64 0, .slice none 0 0] 44) := ⟨_, rfl⟩
  have ht := alloc2_fst w (.cells #[.int .i64 a.code, .bool a.is, .int .u64 a.key, .int .u64 a.val, .int .i64 a.num, .slice B a.list.length cb] 44) (.cells #[.int .i64 0, .bool false, .int .u64 0, .int .u64 0, .int .i64 0, .slice none 0 0] 44)
  have hr := alloc2_snd w (.cells #[.int .i64 a.code, .bool a.is, .int .u64 a.key, .int .u64 a.val, .int .i64 a.num, .slice B a.list.length cb] 44) (.cells #[.int .i64 0, .bool false, .int .u64 0, .int .u64 0, .int .i64 0, .slice none 0 0] 44)
  have hff := fr2 w (.cells #[.int .i64 a.code, .bool a.is, .int .u64 a.key, .int .u64 a.val, .int .i64 a.num, .slice B a.list.length cb] 44) (.cells #[.int .i64 0, .bool false, .int .u64 0, .int .u64 0, .int .i64 0, .slice none 0 0] 44)
  have hsz : w3.heap.size = w.heap.size + 1 + 1 := by rw [hw3]; simp
  rw [← hw3] at ht hr hff ⊢
  clear hw3
  have HT := Lib.hid ht
  have HZ := Lib.hid hr
  have HF := Lib.hid hff
  have HS := Lib.hid hsz
  clear ht hr hff hsz
  have hbn : Blk (w3.alloc (.cells (arr []) 55)) (w.heap.size + 1 + 1) [] 55 := by have := Blk.new w3 [] 55; rwa [HS.out] at this
  refine gate_app rfl _ _ 42 rfl 55 (.agg #[.int .u64 0, .int .u64 0]) 2 16 Try.underlying42 info_pair rfl (by omega) (by omega) w3.heap.size (some ⟨w.heap.size + 1 + 1, 0, none⟩) 0 0 [] B a.list.length cb (a.list.flatMap pcells) (by rfl) (by rfl)
    (Own.of_blk hbn (by rw [HS.out]; exact Nat.le_refl _) rfl (by omega)) (flat_len pcells 2 pcells_len _) ((HR.out.fr HF.out).fr ((Fr.refl w3).alloc _)) (pcells_one _) (by omega) (by simp) ?_
  intro A4 c4 w4 hown4 hgr4 hat4
  have hf4 : Hid (Fr w3 w4) := ((Fr.refl w3).alloc _).grown hgr4.out (fun k hk => by have := HS.out; simp [ablk] at hk; omega)
  have ho4 : Hid (Own w4 w3.heap.size 55 2 A4 a.list.length c4 (a.list.flatMap pcells)) := by simpa [Hid] using hown4.out
  clear hown4 hgr4 hat4
  rw [Nat.zero_add]
  have HT4 := Lib.hid (hf4.out.blk HT.out)
  have HZ4 := Lib.hid (hf4.out.blk HZ.out)
  have HFF : Hid (Fr w w4) := HF.out.trans hf4.out
  have hA4 : Hid (∀ k, ablk A4 = some k → w.heap.size + 2 ≤ k ∧ k < w4.heap.size) := fun k hk => ⟨by have := (ho4.out.lt k hk).1; have := HS.out; omega, (ho4.out.lt k hk).2⟩
  obtain ⟨t0, t1, t2, t3, t4, t5, u0, u1, u2, u3, u4, u5⟩ := ans_cells HT4.out
  obtain ⟨e0, e1, e2, e3, e4, e5, g0, g1, g2, g3, g4, g5⟩ := ans_cells HZ4.out
  go_wp2_with fail
  rw [HV.out]
  refine bodyPost_ret (results_row_tmp rfl _ _ (w.heap.size + 1) _ _ (0, 0) _ rfl (set6_heap (blk_set_ne HZ4.out (by simp) _) _ _ _ _ _ _) Try.underlying44 rfl (by kernel_rfl) _ rfl) rfl ?_
  exact turn_end (a := a) (ok := false) rfl (ho4.out.rd.mv ((Mv.refl (one1 w.heap.size) w4).set (p := ⟨w.heap.size, 5, none⟩) (.inl rfl) _) (fun k hk e => by have h1 : k = w.heap.size := e; have := (hA4.out k hk).1; omega)) (fun k hk => (hA4.out k hk).1) (HFF.out.set (p := ⟨w.heap.size, 5, none⟩) (Nat.le_refl _) _) _ _ _ _ _ _

set_option maxHeartbeats 2000000 in
theorem turned_5a (a : AnsV) (B : Option Addr) (m cb : Nat) (rule z : Int) (w : World) (hm : m = a.list.length) (hrd : RdC w B (a.list.flatMap pcells)) (hl : a.list.length ≤ 1073741824) (hz : U z) (hk : U a.key) (hv : U a.val) (hc : 0 ≤ a.code ∧ a.code ≤ 1000) (hn : 0 ≤ a.num ∧ a.num ≤ 1099511627776) (hr1 : rule = 5) (hn0 : a.list.length = 0) :
    Calls Try.prog 15 #[ansIn a B m cb, .int .i64 rule, .int .u64 z] w (TurnPost (turnV a rule z).1 (turnV a rule z).2 w) := by
  subst hm; subst hr1
  obtain ⟨hz0, hz1⟩ := hz
  obtain ⟨hk0, hk1⟩ := hk
  obtain ⟨hv0, hv1⟩ := hv
  have HR := Lib.hid hrd
  have HV : Hid (turnV a 5 z = ({ a with list := a.list ++ [(z, z)] }, true)) := by unfold turnV; simp [hn0, Hid]
  have hn1 : ((a.list.length : Int) == 0) = true := by simp [hn0]
  clear hn0
  clear hrd
  unfold ansIn
  go_enter Try.func15, Try.ntmps15
  go_wp2_with (at_builtin; refine gate ?_)
  obtain ⟨w3, hw3⟩ : ∃ w3, w3 = (w.alloc (.cells #[.int .i64 a.code, .bool a.is, .int .u64 a.key, .int .u64 a.val, .int .i64 a.num, .slice B a.list.length cb] 44)).alloc (.cells #[.int .i64 0, .bool false, .int .u64 0, .int .u64 0, .int .i64 0, .slice none 0 0] 44) := ⟨_, rfl⟩
  have ht := alloc2_fst w (.cells #[.int .i64 a.code, .bool a.is, .int .u64 a.key, .int .u64 a.val, .int .i64 a.num, .slice B a.list.length cb] 44) (.cells #[.int .i64 0, .bool false, .int .u64 0, .int .u64 0, .int .i64 0, .slice none 0 0] 44)
  have hr := alloc2_snd w (.cells #[.int .i64 a.code, .bool a.is, .int .u64 a.key, .int .u64 a.val, .int .i64 a.num, .slice B a.list.length cb] 44) (.cells #[.int .i64 0, .bool false, .int .u64 0, .int .u64 0, .int .i64 0, .slice none 0 0] 44)
  have hff := fr2 w (.cells #[.int .i64 a.code, .bool a.is, .int .u64 a.key, .int .u64 a.val, .int .i64 a.num, .slice B a.list.length cb] 44) (.cells #[.int .i64 0, .bool false, .int .u64 0, .int .u64 0, .int .i64 0, .slice none 0 0] 44)
  have hsz : w3.heap.size = w.heap.size + 1 + 1 := by rw [hw3]; simp
  rw [← hw3] at ht hr hff ⊢
  clear hw3
  have HT := Lib.hid ht
  have HZ := Lib.hid hr
  have HF := Lib.hid hff
  have HS := Lib.hid hsz
  clear ht hr hff hsz
  have hbn : Blk (w3.alloc (.cells (arr []) 55)) (w.heap.size + 1 + 1) [] 55 := by have := Blk.new w3 [] 55; rwa [HS.out] at this
  refine gate_app rfl _ _ 42 rfl 55 (.agg #[.int .u64 0, .int .u64 0]) 2 16 Try.underlying42 info_pair rfl (by omega) (by omega) w3.heap.size (some ⟨w.heap.size + 1 + 1, 0, none⟩) 0 0 [] B a.list.length cb (a.list.flatMap pcells) (by rfl) (by rfl)
    (Own.of_blk hbn (by rw [HS.out]; exact Nat.le_refl _) rfl (by omega)) (flat_len pcells 2 pcells_len _) ((HR.out.fr HF.out).fr ((Fr.refl w3).alloc _)) (pcells_one _) (by omega) (by simp) ?_
  intro A4 c4 w4 hown4 hgr4 hat4
  have hf4 : Hid (Fr w3 w4) := ((Fr.refl w3).alloc _).grown hgr4.out (fun k hk => by have := HS.out; simp [ablk] at hk; omega)
  have ho4 : Hid (Own w4 w3.heap.size 55 2 A4 a.list.length c4 (a.list.flatMap pcells)) := by simpa [Hid] using hown4.out
  clear hown4 hgr4 hat4
  rw [Nat.zero_add]
  have HT4 := Lib.hid (hf4.out.blk HT.out)
  have HZ4 := Lib.hid (hf4.out.blk HZ.out)
  have HFF : Hid (Fr w w4) := HF.out.trans hf4.out
  have hA4 : Hid (∀ k, ablk A4 = some k → w.heap.size + 2 ≤ k ∧ k < w4.heap.size) := fun k hk => ⟨by have := (ho4.out.lt k hk).1; have := HS.out; omega, (ho4.out.lt k hk).2⟩
  obtain ⟨t0, t1, t2, t3, t4, t5, u0, u1, u2, u3, u4, u5⟩ := ans_cells HT4.out
  obtain ⟨e0, e1, e2, e3, e4, e5, g0, g1, g2, g3, g4, g5⟩ := ans_cells HZ4.out
  go_upto_region 2 with fail
  obtain ⟨w5, hw5⟩ : ∃ w5, w5 = w4.setCell ⟨w.heap.size, 5, none⟩ (.slice A4 a.list.length c4) := ⟨_, rfl⟩
  have HT5 : Hid (w5.heap[w.heap.size]? = some (.cells #[.int .i64 a.code, .bool a.is, .int .u64 a.key, .int .u64 a.val, .int .i64 a.num, .slice A4 a.list.length c4] 44)) := by
    have := blk_set HT4.out 5 (.slice A4 a.list.length c4)
    rw [hw5]; simpa [Hid] using this
  have HZ5 : Hid (w5.heap[w.heap.size + 1]? = some (.cells #[.int .i64 0, .bool false, .int .u64 0, .int .u64 0, .int .i64 0, .slice none 0 0] 44)) := by rw [hw5]; exact blk_set_ne HZ4.out (by simp) _
  have ho5 : Hid (Own w5 (w.heap.size + 2) 55 2 A4 a.list.length c4 (a.list.flatMap pcells)) := by
    rw [hw5]; exact (ho4.out.mv ((Mv.refl (one1 w.heap.size) w4).set (p := ⟨w.heap.size, 5, none⟩) (.inl rfl) _) (fun k hk e => by have h1 : k = w.heap.size := e; have := (hA4.out k hk).1; omega)).base (fun k hk => (hA4.out k hk).1)
  have HF5 : Hid (Fr w w5) := by rw [hw5]; exact HFF.out.set (p := ⟨w.heap.size, 5, none⟩) (Nat.le_refl _) _
  rw [← hw5]
  clear hw5 t0 t1 t2 t3 t4 t5 u0 u1 u2 u3 u4 u5 e0 e1 e2 e3 e4 e5 g0 g1 g2 g3 g4 g5
  obtain ⟨t0, t1, t2, t3, t4, t5, u0, u1, u2, u3, u4, u5⟩ := ans_cells HT5.out
  obtain ⟨e0, e1, e2, e3, e4, e5, g0, g1, g2, g3, g4, g5⟩ := ans_cells HZ5.out
  go_wp2_with (at_builtin; refine gate ?_)
  refine gate_app rfl _ _ 42 rfl 55 (.agg #[.int .u64 0, .int .u64 0]) 2 16 Try.underlying42 info_pair rfl (by omega) (by omega) (w.heap.size + 2) A4 a.list.length c4 _ (some ⟨w5.heap.size, 0, none⟩) 1 1 (pcells (z, z)) (by rfl) (by rfl)
    (ho5.out.fr ((Fr.refl w5).alloc _)) rfl (RdC.blk (Blk.new w5 _ _)) (by simpa using pcells_one [(z, z)]) (by omega) (by have := HF.out.size; have := HS.out; have := hf4.out.size; have := (blk_lt HZ5.out); simp; omega) ?_
  intro A6 c6 w6 hown6 hgr6 hat6
  have m6 : Mv (fun k => ablk A4 = some k) w5 w6 := ((Mv.refl _ w5).alloc _).grown hgr6.out (fun k hk => .inl hk)
  have HT6 := Lib.hid (m6.blk HT5.out (fun e => by have := (hA4.out _ e).1; omega))
  have HZ6 := Lib.hid (m6.blk HZ5.out (fun e => by have := (hA4.out _ e).1; omega))
  have HF6 : Hid (Fr w w6) := (HF5.out.alloc _).grown hgr6.out (fun k hk => by have := (hA4.out k hk).1; omega)
  have hn6 : Hid (Own w6 (w.heap.size + 2) 55 2 A6 (a.list.length + 1) c6 ((a.list ++ [(z, z)]).flatMap pcells)) := by rw [Hid, List.flatMap_append]; simpa using hown6.out
  clear m6 hown6 hgr6 hat6 t0 t1 t2 t3 t4 t5 u0 u1 u2 u3 u4 u5 e0 e1 e2 e3 e4 e5 g0 g1 g2 g3 g4 g5
  obtain ⟨t0, t1, t2, t3, t4, t5, u0, u1, u2, u3, u4, u5⟩ := ans_cells HT6.out
  obtain ⟨e0, e1, e2, e3, e4, e5, g0, g1, g2, g3, g4, g5⟩ := ans_cells HZ6.out
  go_wp2_with fail
  rw [HV.out]
  refine bodyPost_ret (results_row_tmp rfl _ _ (w.heap.size + 1) _ _ (0, 0) _ rfl (set6_heap (blk_set_ne HZ6.out (by simp) _) _ _ _ _ _ _) Try.underlying44 rfl (by kernel_rfl) _ rfl) rfl ?_
  exact turn_end (a := { a with list := a.list ++ [(z, z)] }) (ok := true) (by simp) (hn6.out.rd.mv ((Mv.refl (one1 w.heap.size) w6).set (p := ⟨w.heap.size, 5, none⟩) (.inl rfl) _) (fun k hk e => by have h1 : k = w.heap.size := e; have := (hn6.out.lt k hk).1; omega)) (fun k hk => (hn6.out.lt k hk).1) (HF6.out.set (p := ⟨w.heap.size, 5, none⟩) (Nat.le_refl _) _) _ _ _ _ _ _

set_option maxHeartbeats 2000000 in
theorem turned_5b (a : AnsV) (B : Option Addr) (m cb : Nat) (rule z : Int) (w : World) (hm : m = a.list.length) (hrd : RdC w B (a.list.flatMap pcells)) (hl : a.list.length ≤ 1073741824) (hz : U z) (hk : U a.key) (hv : U a.val) (hc : 0 ≤ a.code ∧ a.code ≤ 1000) (hn : 0 ≤ a.num ∧ a.num ≤ 1099511627776) (hr1 : rule = 5) (hn0 : a.list.length ≠ 0) (h3 : z % 3 = 0) :
    Calls Try.prog 15 #[ansIn a B m cb, .int .i64 rule, .int .u64 z] w (TurnPost (turnV a rule z).1 (turnV a rule z).2 w) := by
  subst hm; subst hr1
  obtain ⟨hz0, hz1⟩ := hz
  obtain ⟨hk0, hk1⟩ := hk
  obtain ⟨hv0, hv1⟩ := hv
  have HR := Lib.hid hrd
  have HV : Hid (turnV a 5 z = ({ a with list := a.list ++ [(z, z)] }, true)) := by unfold turnV; simp [h3, Hid]
  have hn1 : ((a.list.length : Int) == 0) = false := beq_eq_false_iff_ne.2 (by omega)
  have h31 : (z % 3 == 0) = true := by simp [h3]
  clear hn0 h3
  clear hrd
  unfold ansIn
  go_enter Try.func15, Try.ntmps15
  go_wp2_with (at_builtin; refine gate ?_)
  obtain ⟨w3, hw3⟩ : ∃ w3, w3 = (w.alloc (.cells #[.int .i64 a.code, .bool a.is, .int .u64 a.key, .int .u64 a.val, .int .i64 a.num, .slice B a.list.length cb] 44)).alloc (.cells #[.int .i64 0, .bool false, .int .u64 0, .int .u64 0, .int .i64 0, .slice none 0 0] 44) := ⟨_, rfl⟩
  have ht := alloc2_fst w (.cells #[.int .i64 a.code, .bool a.is, .int .u64 a.key, .int .u64 a.val, .int .i64 a.num, .slice B a.list.length cb] 44) (.cells #[.int .i64 0, .bool false, .int .u64 0, .int .u64 0, .int .i64 0, .slice none 0 0] 44)
  have hr := alloc2_snd w (.cells #[.int .i64 a.code, .bool a.is, .int .u64 a.key, .int .u64 a.val, .int .i64 a.num, .slice B a.list.length cb] 44) (.cells #[.int .i64 0, .bool false, .int .u64 0, .int .u64 0, .int .i64 0, .slice none 0 0] 44)
  have hff := fr2 w (.cells #[.int .i64 a.code, .bool a.is, .int .u64 a.key, .int .u64 a.val, .int .i64 a.num, .slice B a.list.length cb] 44) (.cells #[.int .i64 0, .bool false, .int .u64 0, .int .u64 0, .int .i64 0, .slice none 0 0] 44)
  have hsz : w3.heap.size = w.heap.size + 1 + 1 := by rw [hw3]; simp
  rw [← hw3] at ht hr hff ⊢
  clear hw3
  have HT := Lib.hid ht
  have HZ := Lib.hid hr
  have HF := Lib.hid hff
  have HS := Lib.hid hsz
  clear ht hr hff hsz
  have hbn : Blk (w3.alloc (.cells (arr []) 55)) (w.heap.size + 1 + 1) [] 55 := by have := Blk.new w3 [] 55; rwa [HS.out] at this
  refine gate_app rfl _ _ 42 rfl 55 (.agg #[.int .u64 0, .int .u64 0]) 2 16 Try.underlying42 info_pair rfl (by omega) (by omega) w3.heap.size (some ⟨w.heap.size + 1 + 1, 0, none⟩) 0 0 [] B a.list.length cb (a.list.flatMap pcells) (by rfl) (by rfl)
    (Own.of_blk hbn (by rw [HS.out]; exact Nat.le_refl _) rfl (by omega)) (flat_len pcells 2 pcells_len _) ((HR.out.fr HF.out).fr ((Fr.refl w3).alloc _)) (pcells_one _) (by omega) (by simp) ?_
  intro A4 c4 w4 hown4 hgr4 hat4
  have hf4 : Hid (Fr w3 w4) := ((Fr.refl w3).alloc _).grown hgr4.out (fun k hk => by have := HS.out; simp [ablk] at hk; omega)
  have ho4 : Hid (Own w4 w3.heap.size 55 2 A4 a.list.length c4 (a.list.flatMap pcells)) := by simpa [Hid] using hown4.out
  clear hown4 hgr4 hat4
  rw [Nat.zero_add]
  have HT4 := Lib.hid (hf4.out.blk HT.out)
  have HZ4 := Lib.hid (hf4.out.blk HZ.out)
  have HFF : Hid (Fr w w4) := HF.out.trans hf4.out
  have hA4 : Hid (∀ k, ablk A4 = some k → w.heap.size + 2 ≤ k ∧ k < w4.heap.size) := fun k hk => ⟨by have := (ho4.out.lt k hk).1; have := HS.out; omega, (ho4.out.lt k hk).2⟩
  obtain ⟨t0, t1, t2, t3, t4, t5, u0, u1, u2, u3, u4, u5⟩ := ans_cells HT4.out
  obtain ⟨e0, e1, e2, e3, e4, e5, g0, g1, g2, g3, g4, g5⟩ := ans_cells HZ4.out
  go_upto_region 2 with fail
  obtain ⟨w5, hw5⟩ : ∃ w5, w5 = w4.setCell ⟨w.heap.size, 5, none⟩ (.slice A4 a.list.length c4) := ⟨_, rfl⟩
  have HT5 : Hid (w5.heap[w.heap.size]? = some (.cells #[.int .i64 a.code, .bool a.is, .int .u64 a.key, .int .u64 a.val, .int .i64 a.num, .slice A4 a.list.length c4] 44)) := by
    have := blk_set HT4.out 5 (.slice A4 a.list.length c4)
    rw [hw5]; simpa [Hid] using this
  have HZ5 : Hid (w5.heap[w.heap.size + 1]? = some (.cells #[.int .i64 0, .bool false, .int .u64 0, .int .u64 0, .int .i64 0, .slice none 0 0] 44)) := by rw [hw5]; exact blk_set_ne HZ4.out (by simp) _
  have ho5 : Hid (Own w5 (w.heap.size + 2) 55 2 A4 a.list.length c4 (a.list.flatMap pcells)) := by
    rw [hw5]; exact (ho4.out.mv ((Mv.refl (one1 w.heap.size) w4).set (p := ⟨w.heap.size, 5, none⟩) (.inl rfl) _) (fun k hk e => by have h1 : k = w.heap.size := e; have := (hA4.out k hk).1; omega)).base (fun k hk => (hA4.out k hk).1)
  have HF5 : Hid (Fr w w5) := by rw [hw5]; exact HFF.out.set (p := ⟨w.heap.size, 5, none⟩) (Nat.le_refl _) _
  rw [← hw5]
  clear hw5 t0 t1 t2 t3 t4 t5 u0 u1 u2 u3 u4 u5 e0 e1 e2 e3 e4 e5 g0 g1 g2 g3 g4 g5
  obtain ⟨t0, t1, t2, t3, t4, t5, u0, u1, u2, u3, u4, u5⟩ := ans_cells HT5.out
  obtain ⟨e0, e1, e2, e3, e4, e5, g0, g1, g2, g3, g4, g5⟩ := ans_cells HZ5.out
  go_wp2_with (at_builtin; refine gate ?_)
  refine gate_app rfl _ _ 42 rfl 55 (.agg #[.int .u64 0, .int .u64 0]) 2 16 Try.underlying42 info_pair rfl (by omega) (by omega) (w.heap.size + 2) A4 a.list.length c4 _ (some ⟨w5.heap.size, 0, none⟩) 1 1 (pcells (z, z)) (by rfl) (by rfl)
    (ho5.out.fr ((Fr.refl w5).alloc _)) rfl (RdC.blk (Blk.new w5 _ _)) (by simpa using pcells_one [(z, z)]) (by omega) (by have := HF.out.size; have := HS.out; have := hf4.out.size; have := (blk_lt HZ5.out); simp; omega) ?_
  intro A6 c6 w6 hown6 hgr6 hat6
  have m6 : Mv (fun k => ablk A4 = some k) w5 w6 := ((Mv.refl _ w5).alloc _).grown hgr6.out (fun k hk => .inl hk)
  have HT6 := Lib.hid (m6.blk HT5.out (fun e => by have := (hA4.out _ e).1; omega))
  have HZ6 := Lib.hid (m6.blk HZ5.out (fun e => by have := (hA4.out _ e).1; omega))
  have HF6 : Hid (Fr w w6) := (HF5.out.alloc _).grown hgr6.out (fun k hk => by have := (hA4.out k hk).1; omega)
  have hn6 : Hid (Own w6 (w.heap.size + 2) 55 2 A6 (a.list.length + 1) c6 ((a.list ++ [(z, z)]).flatMap pcells)) := by rw [Hid, List.flatMap_append]; simpa using hown6.out
  clear m6 hown6 hgr6 hat6 t0 t1 t2 t3 t4 t5 u0 u1 u2 u3 u4 u5 e0 e1 e2 e3 e4 e5 g0 g1 g2 g3 g4 g5
  obtain ⟨t0, t1, t2, t3, t4, t5, u0, u1, u2, u3, u4, u5⟩ := ans_cells HT6.out
  obtain ⟨e0, e1, e2, e3, e4, e5, g0, g1, g2, g3, g4, g5⟩ := ans_cells HZ6.out
  go_wp2_with fail
  rw [HV.out]
  refine bodyPost_ret (results_row_tmp rfl _ _ (w.heap.size + 1) _ _ (0, 0) _ rfl (set6_heap (blk_set_ne HZ6.out (by simp) _) _ _ _ _ _ _) Try.underlying44 rfl (by kernel_rfl) _ rfl) rfl ?_
  exact turn_end (a := { a with list := a.list ++ [(z, z)] }) (ok := true) (by simp) (hn6.out.rd.mv ((Mv.refl (one1 w.heap.size) w6).set (p := ⟨w.heap.size, 5, none⟩) (.inl rfl) _) (fun k hk e => by have h1 : k = w.heap.size := e; have := (hn6.out.lt k hk).1; omega)) (fun k hk => (hn6.out.lt k hk).1) (HF6.out.set (p := ⟨w.heap.size, 5, none⟩) (Nat.le_refl _) _) _ _ _ _ _ _

set_option maxHeartbeats 2000000 in
theorem turned_5c (a : AnsV) (B : Option Addr) (m cb : Nat) (rule z : Int) (w : World) (hm : m = a.list.length) (hrd : RdC w B (a.list.flatMap pcells)) (hl : a.list.length ≤ 1073741824) (hz : U z) (hk : U a.key) (hv : U a.val) (hc : 0 ≤ a.code ∧ a.code ≤ 1000) (hn : 0 ≤ a.num ∧ a.num ≤ 1099511627776) (hr1 : rule = 5) (hn0 : a.list.length ≠ 0) (h3 : z % 3 = 1) :
    Calls Try.prog 15 #[ansIn a B m cb, .int .i64 rule, .int .u64 z] w (TurnPost (turnV a rule z).1 (turnV a rule z).2 w) := by
  subst hm; subst hr1
  obtain ⟨hz0, hz1⟩ := hz
  obtain ⟨hk0, hk1⟩ := hk
  obtain ⟨hv0, hv1⟩ := hv
  have HR := Lib.hid hrd
  have HV : Hid (turnV a 5 z = ({ a with list := a.list.take (a.list.length - 1) }, true)) := by unfold turnV; simp [h3, hn0, Hid]
  have hn1 : ((a.list.length : Int) == 0) = false := beq_eq_false_iff_ne.2 (by omega)
  have h31 : (z % 3 == 0) = false := by simp [h3]
  have h32 : (z % 3 == 1) = true := by simp [h3]
  have hnp : Hid (0 < a.list.length) := by rw [Hid]; omega
  have hwn : IntKind.i64.wrap ((a.list.length : Int) - 1) = (a.list.length : Int) - 1 := wrap_i64_in _ (by omega) (by omega)
  clear hn0 h3
  clear hrd
  unfold ansIn
  go_enter Try.func15, Try.ntmps15
  go_wp2_with (at_builtin; refine gate ?_)
  obtain ⟨w3, hw3⟩ : ∃ w3, w3 = (w.alloc (.cells #[.int .i64 a.code, .bool a.is, .int .u64 a.key, .int .u64 a.val, .int .i64 a.num, .slice B a.list.length cb] 44)).alloc (.cells #[.int .i64 0, .bool false, .int .u64 0, .int .u64 0, .int .i64 0, .slice none 0 0] 44) := ⟨_, rfl⟩
  have ht := alloc2_fst w (.cells #[.int .i64 a.code, .bool a.is, .int .u64 a.key, .int .u64 a.val, .int .i64 a.num, .slice B a.list.length cb] 44) (.cells #[.int .i64 0, .bool false, .int .u64 0, .int .u64 0, .int .i64 0, .slice none 0 0] 44)
  have hr := alloc2_snd w (.cells #[.int .i64 a.code, .bool a.is, .int .u64 a.key, .int .u64 a.val, .int .i64 a.num, .slice B a.list.length cb] 44) (.cells #[.int .i64 0, .bool false, .int .u64 0, .int .u64 0, .int .i64 0, .slice none 0 0] 44)
  have hff := fr2 w (.cells #[.int .i64 a.code, .bool a.is, .int .u64 a.key, .int .u64 a.val, .int .i64 a.num, .slice B a.list.length cb] 44) (.cells #[.int .i64 0, .bool false, .int .u64 0, .int .u64 0, .int .i64 0, .slice none 0 0] 44)
  have hsz : w3.heap.size = w.heap.size + 1 + 1 := by rw [hw3]; simp
  rw [← hw3] at ht hr hff ⊢
  clear hw3
  have HT := Lib.hid ht
  have HZ := Lib.hid hr
  have HF := Lib.hid hff
  have HS := Lib.hid hsz
  clear ht hr hff hsz
  have hbn : Blk (w3.alloc (.cells (arr []) 55)) (w.heap.size + 1 + 1) [] 55 := by have := Blk.new w3 [] 55; rwa [HS.out] at this
  refine gate_app rfl _ _ 42 rfl 55 (.agg #[.int .u64 0, .int .u64 0]) 2 16 Try.underlying42 info_pair rfl (by omega) (by omega) w3.heap.size (some ⟨w.heap.size + 1 + 1, 0, none⟩) 0 0 [] B a.list.length cb (a.list.flatMap pcells) (by rfl) (by rfl)
    (Own.of_blk hbn (by rw [HS.out]; exact Nat.le_refl _) rfl (by omega)) (flat_len pcells 2 pcells_len _) ((HR.out.fr HF.out).fr ((Fr.refl w3).alloc _)) (pcells_one _) (by omega) (by simp) ?_
  intro A4 c4 w4 hown4 hgr4 hat4
  have hf4 : Hid (Fr w3 w4) := ((Fr.refl w3).alloc _).grown hgr4.out (fun k hk => by have := HS.out; simp [ablk] at hk; omega)
  have ho4 : Hid (Own w4 w3.heap.size 55 2 A4 a.list.length c4 (a.list.flatMap pcells)) := by simpa [Hid] using hown4.out
  clear hown4 hgr4 hat4
  rw [Nat.zero_add]
  have HT4 := Lib.hid (hf4.out.blk HT.out)
  have HZ4 := Lib.hid (hf4.out.blk HZ.out)
  have HFF : Hid (Fr w w4) := HF.out.trans hf4.out
  have hA4 : Hid (∀ k, ablk A4 = some k → w.heap.size + 2 ≤ k ∧ k < w4.heap.size) := fun k hk => ⟨by have := (ho4.out.lt k hk).1; have := HS.out; omega, (ho4.out.lt k hk).2⟩
  obtain ⟨t0, t1, t2, t3, t4, t5, u0, u1, u2, u3, u4, u5⟩ := ans_cells HT4.out
  obtain ⟨e0, e1, e2, e3, e4, e5, g0, g1, g2, g3, g4, g5⟩ := ans_cells HZ4.out
  go_upto_region 2 with fail
  obtain ⟨w5, hw5⟩ : ∃ w5, w5 = w4.setCell ⟨w.heap.size, 5, none⟩ (.slice A4 a.list.length c4) := ⟨_, rfl⟩
  have HT5 : Hid (w5.heap[w.heap.size]? = some (.cells #[.int .i64 a.code, .bool a.is, .int .u64 a.key, .int .u64 a.val, .int .i64 a.num, .slice A4 a.list.length c4] 44)) := by
    have := blk_set HT4.out 5 (.slice A4 a.list.length c4)
    rw [hw5]; simpa [Hid] using this
  have HZ5 : Hid (w5.heap[w.heap.size + 1]? = some (.cells #[.int .i64 0, .bool false, .int .u64 0, .int .u64 0, .int .i64 0, .slice none 0 0] 44)) := by rw [hw5]; exact blk_set_ne HZ4.out (by simp) _
  have ho5 : Hid (Own w5 (w.heap.size + 2) 55 2 A4 a.list.length c4 (a.list.flatMap pcells)) := by
    rw [hw5]; exact (ho4.out.mv ((Mv.refl (one1 w.heap.size) w4).set (p := ⟨w.heap.size, 5, none⟩) (.inl rfl) _) (fun k hk e => by have h1 : k = w.heap.size := e; have := (hA4.out k hk).1; omega)).base (fun k hk => (hA4.out k hk).1)
  have HF5 : Hid (Fr w w5) := by rw [hw5]; exact HFF.out.set (p := ⟨w.heap.size, 5, none⟩) (Nat.le_refl _) _
  rw [← hw5]
  clear hw5 t0 t1 t2 t3 t4 t5 u0 u1 u2 u3 u4 u5 e0 e1 e2 e3 e4 e5 g0 g1 g2 g3 g4 g5
  obtain ⟨t0, t1, t2, t3, t4, t5, u0, u1, u2, u3, u4, u5⟩ := ans_cells HT5.out
  obtain ⟨e0, e1, e2, e3, e4, e5, g0, g1, g2, g3, g4, g5⟩ := ans_cells HZ5.out
  obtain ⟨A6, hcut, hab, hrdc⟩ := run_cut_h (P := Try.prog) 42 55 2 Try.underlying42 info_sz_pair A4 a.list.length c4 (a.list.length - 1) ((a.list.length : Int) - 1) (by have := hnp.out; omega) (by have := own_cap ho5.out; omega) .i64
  have R6 : Hid (RdC w5 A6 ((a.list.take (a.list.length - 1)).flatMap pcells)) := by
    have := hrdc w5 _ (ho5.out.rd.take ((a.list.length - 1) * 2))
    rwa [flat_take _ (by omega)] at this
  have hab' := Lib.hid hab
  clear hrdc hab
  go_wp2_with fail
  rw [HV.out]
  refine bodyPost_ret (results_row_tmp rfl _ _ (w.heap.size + 1) _ _ (0, 0) _ rfl (set6_heap (blk_set_ne HZ5.out (by simp) _) _ _ _ _ _ _) Try.underlying44 rfl (by kernel_rfl) _ rfl) rfl ?_
  exact turn_end (a := { a with list := a.list.take (a.list.length - 1) }) (ok := true) (by simp) (R6.out.mv ((Mv.refl (one1 w.heap.size) w5).set (p := ⟨w.heap.size, 5, none⟩) (.inl rfl) _) (fun k hk e => by have h1 : k = w.heap.size := e; have := (hA4.out k (by rw [← hab'.out]; exact hk)).1; omega)) (fun k hk => (hA4.out k (by rw [← hab'.out]; exact hk)).1) (HF5.out.set (p := ⟨w.heap.size, 5, none⟩) (Nat.le_refl _) _) _ _ _ _ _ _

end Go.Proofs.Ytjannhphmemenaa
