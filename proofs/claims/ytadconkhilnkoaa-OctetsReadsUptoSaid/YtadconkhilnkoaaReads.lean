/- The walk of the law OctetsReads. -/
import Derived.Test.YtadconkhilnkoaaRefO
namespace Go.Proofs.Ytadconkhilnkoaa
open Go.RowKit Go.Inc

/-- A call of the script. -/
structure Op10 where
  kind : Int
  n : Int
  w : List UInt8
def Op10.cells (x : Op10) : List Value := [.int .i64 x.kind, .int .i64 x.n, .string (bstr x.w)]
def Op10.ok (x : Op10) : Prop := (-9223372036854775808 ≤ x.kind ∧ x.kind ≤ 9223372036854775807) ∧ (-9223372036854775808 ≤ x.n ∧ x.n ≤ 9223372036854775807) ∧ x.w.length ≤ 1048576

/-- The three readers stand as they should. -/
structure Rds (w0 w : World) (B0 gx gz gy : Nat) (b : ByteArray) (a : Nat) : Prop where
  fr : Fr w0 w
  x : IsR w gx b a
  z : IsR w gz b 0
  y : IsRR w B0 gy b a
section
variable {w0 w w' : World} {B0 gx gz gy : Nat} {b : ByteArray} {a : Nat}
theorem Rds.drewN (h : Rds w0 w B0 gx gz gy b a) (n : Nat) : Rds w0 (w.drewN n) B0 gx gz gy b a := ⟨h.fr.drewN n, h.x, h.z, h.y.grown (fr_drewN w n)⟩
theorem Rds.fr2 (h : Rds w0 w B0 gx gz gy b a) (hf : Fr w w') : Rds w0 w' B0 gx gz gy b a := ⟨h.fr.trans hf, h.x.below hf, h.z.below hf, h.y.grown hf⟩
end
theorem Rds.afterX {w0 w w3 : World} {B0 gx gz gy : Nat} {b : ByteArray} {a : Nat} (h : Rds w0 w B0 gx gz gy b a) (hg : w.grownBy w3 (some gx)) (h0 : w0.heap.size ≤ gx) (hxz : gx < gz) (hzy : gz < gy) (hxB : gx < B0) :
    Fr w0 w3 ∧ IsR w3 gz b 0 ∧ IsRR w3 B0 gy b a :=
  ⟨fr_of_grown h.fr hg h0, h.z.grown hg (by intro e; injection e with e; omega), h.y.other hg (by omega) hxB⟩
theorem Rds.afterY {w0 w3 w4 : World} {B0 gx gz gy : Nat} {b : ByteArray} {a' : Nat} (hf : Fr w0 w3) (hx : IsR w3 gx b a') (hz : IsR w3 gz b 0) (hy : IsRR w4 B0 gy b a') (hg : w3.grownBy w4 (some gy)) (h0 : w0.heap.size ≤ gy) (hxz : gx < gz) (hzy : gz < gy) :
    Rds w0 w4 B0 gx gz gy b a' :=
  ⟨fr_of_grown hf hg h0, hx.grown hg (by intro e; injection e with e; omega), hz.grown hg (by intro e; injection e with e; omega), hy⟩
theorem rd8_le (b : ByteArray) (a : Nat) (may : Nat → Bool) (h : a ≤ b.size) : (rd8 b a may).2.2 ≤ b.size := by
  unfold rd8
  split
  · exact h
  · split
    · show a + 8 ≤ _; omega
    · exact h
theorem rd1_le (b : ByteArray) (a m : Nat) (h : a ≤ b.size) : (rd1 b a m).2.2 ≤ b.size := by
  unfold rd1
  split
  · exact h
  · split
    · exact h
    · show a + 1 ≤ _; omega
theorem rdW_le (b : ByteArray) (a : Nat) (wd : List UInt8) (h : a ≤ b.size) : (rdW b a wd).2 ≤ b.size := by
  unfold rdW
  split
  · exact h
  · split
    · show a + wd.length ≤ _; omega
    · exact h

set_option maxRecDepth 100000 in
set_option maxHeartbeats 8000000 in
theorem reads_calls (A : Option Addr) (n c : Nat) (bs : List UInt8) (A1 : Option Addr) (n1 c1 : Nat) (xs : List Op10) (w : World) (hn : n = bs.length) (hn1 : n1 = xs.length) (hb : bs.length ≤ 1048576) (hb1 : xs.length ≤ 1048576)
    (hx : ∀ x ∈ xs, x.ok) (h : RdC w A (bs.map bv)) (h1 : RdC w A1 (xs.flatMap Op10.cells)) :
    Calls Try.prog 6 #[.slice A n c, .slice A1 n1 c1] w fun e w' => e = .returned (.bool true) ∧ Fr w w' := by
  subst hn
  subst hn1
  have H := Lib.hid h; clear h
  have H1 := Lib.hid h1; clear h1
  have HX := Lib.hid hx; clear hx
  have htb := tobits_run
  have hbs : Hid ((bstr bs).size = bs.length) := Lib.hid (bstr_size bs)
  have hmx : Hid ((bstr bs).size ≤ maxLen) := Lib.hid (by rw [hbs.out]; unfold maxLen; omega)
  go_enter Try.func6, Try.ntmps6
  go_wp2_with fail
  refine (shown_calls w).mono ?_
  rintro e w1 ⟨rfl, hf⟩
  have hf := Lib.hid hf
  go_wp2_with fail
  refine (lent_calls A bs.length c bs w1 rfl (by omega) (H.out.fr hf.out)).mono ?_
  rintro e w2 ⟨ga, rfl, hba, hga, hf2⟩
  have hba := Lib.hid hba
  have hga : Hid (w.heap.size ≤ ga) := Nat.le_trans hf.out.size hga
  have hf := Lib.hid (Fr.trans hf.out hf2)
  clear hf2
  have hrda : Hid (RdC w2 (some ⟨ga, 0, none⟩) (bs.map bv)) := by
    have := (RdC.blk hba.out).take bs.length
    have e : (marked bs).take bs.length = bs.map bv := by unfold marked; rw [List.take_left' (by simp)]
    rwa [e] at this
  go_wp2_with fail
  refine (octNew_calls (some ⟨ga, 0, none⟩) bs.length (bs.length + 9) bs w2 rfl hrda.out).mono ?_
  rintro e w3 ⟨gx, rfl, hrx, hgx, hf3⟩
  have hrx := Lib.hid hrx
  have hax : Hid (ga < gx) := Nat.lt_of_lt_of_le hba.out.lt hgx
  have hgx : Hid (w.heap.size ≤ gx) := Nat.le_trans hf.out.size hgx
  have hba := Lib.hid (hba.out.fr hf3)
  have hrda := Lib.hid (hrda.out.fr hf3)
  have hf := Lib.hid (Fr.trans hf.out hf3)
  clear hf3
  go_wp2_with fail
  refine (octNew_calls (some ⟨ga, 0, none⟩) bs.length (bs.length + 9) bs w3 rfl hrda.out).mono ?_
  rintro e w4 ⟨gz, rfl, hrz, hgz, hf4⟩
  have hrz := Lib.hid hrz
  have hxz : Hid (gx < gz) := Nat.lt_of_lt_of_le hrx.out.lt hgz
  have hgz : Hid (w.heap.size ≤ gz) := Nat.le_trans hf.out.size hgz
  have hba := Lib.hid (hba.out.fr hf4)
  have hrx := Lib.hid (hrx.out.below hf4)
  have hf := Lib.hid (Fr.trans hf.out hf4)
  clear hf4 hrda
  go_wp2_with fail
  refine (rnew_calls A bs.length c bs w4 rfl (by omega) (H.out.fr hf.out)).mono ?_
  rintro e w5 ⟨gy, rfl, hry, hgy0, hf5⟩
  have hry := Lib.hid hry
  have hzy : Hid (gz < gy) := Nat.lt_of_lt_of_le hrz.out.lt hgy0
  have hzB : Hid (gz < w4.heap.size) := hrz.out.lt
  have hgy : Hid (w.heap.size ≤ gy) := Nat.le_trans hf.out.size hgy0
  clear hgy0
  have hba := Lib.hid (hba.out.fr hf5)
  have hrx := Lib.hid (hrx.out.below hf5)
  have hrz := Lib.hid (hrz.out.below hf5)
  have hf := Lib.hid (Fr.trans hf.out hf5)
  clear hf5
  generalize hB0 : w4.heap.size = B0 at *
  clear hB0
  go_wp2
  go_loopw [10] (fun i wr => ∃ (k : Nat) (cs : List Value), k ≤ bs.length ∧ i = .int .i64 k ∧ Hid (cs.length = bs.length + 9) ∧ Hid (Blk wr ga cs 5) ∧ Hid (Rds w wr B0 gx gz gy (bstr bs) 0)) (fun i _ => bs.length - (intOf i).toNat)
  case atStart => exact ⟨0, _, by omega, rfl, Lib.hid (marked_length bs), hba, Lib.hid ⟨hf.out, hrx.out, hrz.out, hry.out⟩⟩
  case round =>
    obtain ⟨k, cs, hk, rfl, hlen, hba, hr⟩ := hrel
    by_cases hk8 : k < bs.length
    · have e4 := hba.out.frozen k
      obtain ⟨v, hv⟩ : ∃ v, cs[k]? = some v := ⟨_, List.getElem?_eq_getElem (by rw [hlen.out]; omega)⟩
      have e5 := hba.out.cell k v hv
      clear hv
      go_wp2
      have hg := grownBy_set wr ga k (.int .u8 99)
      have hxy : gx < B0 := Nat.lt_trans hxz.out hzB.out
      have hay : ga < B0 := Nat.lt_trans hax.out hxy
      refine ⟨⟨k + 1, cs.set k (.int .u8 99), by omega, by go_num, Lib.hid (by rw [List.length_set]; exact hlen.out), Lib.hid (hba.out.set k _), Lib.hid ⟨Fr.set hr.out.fr hga.out _, hr.out.x.grown hg ?_, hr.out.z.grown hg ?_, hr.out.y.other hg ?_ hay⟩⟩, by simp [intOf]; omega⟩
      · intro e; injection e with e; have := hax.out; omega
      · intro e; injection e with e; have := hax.out; have := hxz.out; omega
      · have := hax.out; have := hxz.out; have := hzy.out; omega
    · have hxB : Hid (gx < B0) := Nat.lt_trans hxz.out hzB.out
      clear hba hlen hrx hrz hry hf
      go_wp2
      go_loopw [11] (fun i wr => ∃ (k a : Nat), k ≤ xs.length ∧ i = .int .i64 k ∧ Hid (a ≤ (bstr bs).size) ∧ Hid (Rds w wr B0 gx gz gy (bstr bs) a)) (fun i _ => xs.length - (intOf i).toNat)
      case atStart => exact ⟨0, 0, by omega, rfl, Nat.zero_le _, hr⟩
      case round =>
        obtain ⟨k, a, hk, rfl, ha, hr⟩ := hrel
        by_cases hk8 : k < xs.length
        · obtain ⟨bk, off, rfl, hcell⟩ := H1.out.at (by rw [flat_len Op10.cells 3 (fun _ => rfl)]; omega)
          have hx0 : wr.cell? ⟨bk, off + k * 3, none⟩ = _ := hr.out.fr.cell (hcell (k * 3 + 0) _ (by rw [get_flat Op10.cells 3 (fun _ => rfl) xs k _ 0 (List.getElem?_eq_getElem hk8) (by omega)]; rfl))
          have hx1 : wr.cell? ⟨bk, off + k * 3 + 1, none⟩ = _ := hr.out.fr.cell (hcell (k * 3 + 1) _ (by rw [get_flat Op10.cells 3 (fun _ => rfl) xs k _ 1 (List.getElem?_eq_getElem hk8) (by omega)]; rfl))
          have hx2 : wr.cell? ⟨bk, off + k * 3 + 2, none⟩ = _ := hr.out.fr.cell (hcell (k * 3 + 2) _ (by rw [get_flat Op10.cells 3 (fun _ => rfl) xs k _ 2 (List.getElem?_eq_getElem hk8) (by omega)]; rfl))
          have hN := Lib.hid (HX.out xs[k] (List.getElem_mem hk8))
          generalize xs[k] = op at *
          obtain ⟨kd, nn, wd⟩ := op
          simp only at hx0 hx1 hx2
          clear hcell
          have hkr := kindOf_range kd
          have hlx := fun W a (ha : a ≤ (bstr bs).size) (h : IsR W gx (bstr bs) a) => left_calls gx (bstr bs) a W h ha hmx.out
          have hlz := fun W (h : IsR W gz (bstr bs) 0) => left_calls gz (bstr bs) 0 W h (Nat.zero_le _) hmx.out
          have hly := fun W a (h : IsRR W B0 gy (bstr bs) a) => rleft_calls B0 gy (bstr bs) a W h
          rw [show (((bstr bs).size : Int) - ((0 : Nat) : Int)) = (bs.length : Int) by rw [hbs.out]; omega] at hlz
          have hlx := Lib.hid hlx
          have hly := Lib.hid hly
          have hlz := Lib.hid hlz
          have hkd : Hid (∀ W, Calls Try.prog 23 #[.int .i64 kd] W fun e w' => e = .returned (.int .i64 (kindOf kd)) ∧ W = w') := Lib.hid (fun W => kind_calls kd hN.out.1 W)
          generalize kindOf kd = kk at *
          obtain ⟨hk0, hk6⟩ := hkr
          have hall : kk = 0 ∨ kk = 1 ∨ kk = 2 ∨ kk = 3 ∨ kk = 4 ∨ kk = 5 := by omega
          clear hk0 hk6
          rcases hall with rfl | rfl | rfl | rfl | rfl | rfl
          · go_wp2_with fail
            refine (hkd.out _).mono ?_
            rintro e w' ⟨rfl, rfl⟩
            have hr0 := hr
            have hr := Lib.hid (Rds.fr2 hr.out ((Fr.refl wr).alloc (.cells #[.int .i64 kd, .int .i64 nn, .string (bstr wd)] 53)))
            generalize hwr2 : wr.alloc (.cells #[.int .i64 kd, .int .i64 nn, .string (bstr wd)] 53) = wr2 at *
            have hc1 : wr2.cell? ⟨wr.heap.size, 1, none⟩ = some (.int .i64 nn) := by subst hwr2; simp
            have hc2 : wr2.cell? ⟨wr.heap.size, 2, none⟩ = some (.string (bstr wd)) := by subst hwr2; simp
            clear hwr2 hx0 hx1 hx2
            have hxn : Hid (gx < wr.heap.size) := Lib.hid (hr0.out.x.lt)
            clear hr0
            go_wp2_with fail
            refine (number_calls gx (bstr bs) a _ hr.out.x ha.out hmx.out).mono ?_
            rintro e w3 ⟨rfl, hx3, hg3⟩
            obtain ⟨hf3, hz3, hy3⟩ := hr.out.afterX hg3 hgx.out hxz.out hzy.out hxB.out
            have hx3 := Lib.hid hx3; have hf3 := Lib.hid hf3; have hz3 := Lib.hid hz3; have hy3 := Lib.hid hy3
            clear hg3
            go_wp2_with fail
            refine (rnumber_calls B0 gy (bstr bs) a _ hy3.out).mono ?_
            rintro e w4 ⟨rfl, hy4, hg4⟩
            have hr4 := Lib.hid (Rds.afterY hf3.out hx3.out hz3.out hy4 hg4 hgy.out hxz.out hzy.out)
            clear hx3 hf3 hz3 hy3 hy4 hg4
            go_wp2_with fail
            refine (hlx.out _ _ (rd8_le _ _ (fun _ => true) ha.out) hr4.out.x).mono ?_
            rintro e w6 ⟨rfl, m6, rfl⟩
            have hr4 := Lib.hid (hr4.out.drewN m6)
            go_wp2_with fail
            refine (hly.out _ _ hr4.out.y).mono ?_
            rintro e w' ⟨rfl, rfl⟩
            go_wp2_with fail
            refine (hlz.out _ hr4.out.z).mono ?_
            rintro e w7 ⟨rfl, m7, rfl⟩
            have hr4 := Lib.hid (hr4.out.drewN m7)
            go_wp2
            refine ⟨⟨k + 1, _, by omega, by go_num, Lib.hid (rd8_le _ _ (fun _ => true) ha.out), ?_⟩, by simp [intOf]; omega⟩
            first | exact hr4 | exact Lib.hid (by rw [← World.drewN_drewN]; exact hr4.out)
          · go_wp2_with fail
            refine (hkd.out _).mono ?_
            rintro e w' ⟨rfl, rfl⟩
            have hr0 := hr
            have hr := Lib.hid (Rds.fr2 hr.out ((Fr.refl wr).alloc (.cells #[.int .i64 kd, .int .i64 nn, .string (bstr wd)] 53)))
            generalize hwr2 : wr.alloc (.cells #[.int .i64 kd, .int .i64 nn, .string (bstr wd)] 53) = wr2 at *
            have hc1 : wr2.cell? ⟨wr.heap.size, 1, none⟩ = some (.int .i64 nn) := by subst hwr2; simp
            have hc2 : wr2.cell? ⟨wr.heap.size, 2, none⟩ = some (.string (bstr wd)) := by subst hwr2; simp
            clear hwr2 hx0 hx1 hx2
            have hxn : Hid (gx < wr.heap.size) := Lib.hid (hr0.out.x.lt)
            clear hr0
            go_wp2_with fail
            refine (count_calls gx (bstr bs) a nn hN.out.2.1 _ hr.out.x ha.out hmx.out).mono ?_
            rintro e w3 ⟨rfl, hx3, hg3⟩
            obtain ⟨hf3, hz3, hy3⟩ := hr.out.afterX hg3 hgx.out hxz.out hzy.out hxB.out
            have hx3 := Lib.hid hx3; have hf3 := Lib.hid hf3; have hz3 := Lib.hid hz3; have hy3 := Lib.hid hy3
            have hc1 := hg3.cell hc1 (fun e => Nat.ne_of_gt hxn.out (Option.some.inj e))
            clear hg3
            go_wp2_with fail
            refine (rcount_calls B0 gy (bstr bs) a nn hN.out.2.1 _ hy3.out).mono ?_
            rintro e w4 ⟨rfl, hy4, hg4⟩
            have hr4 := Lib.hid (Rds.afterY hf3.out hx3.out hz3.out hy4 hg4 hgy.out hxz.out hzy.out)
            clear hx3 hf3 hz3 hy3 hy4 hg4
            go_wp2_with fail
            refine (hlx.out _ _ (rd8_le _ _ (mayCount nn) ha.out) hr4.out.x).mono ?_
            rintro e w6 ⟨rfl, m6, rfl⟩
            have hr4 := Lib.hid (hr4.out.drewN m6)
            go_wp2_with fail
            refine (hly.out _ _ hr4.out.y).mono ?_
            rintro e w' ⟨rfl, rfl⟩
            go_wp2_with fail
            refine (hlz.out _ hr4.out.z).mono ?_
            rintro e w7 ⟨rfl, m7, rfl⟩
            have hr4 := Lib.hid (hr4.out.drewN m7)
            go_wp2
            refine ⟨⟨k + 1, _, by omega, by go_num, Lib.hid (rd8_le _ _ (mayCount nn) ha.out), ?_⟩, by simp [intOf]; omega⟩
            first | exact hr4 | exact Lib.hid (by rw [← World.drewN_drewN]; exact hr4.out)
          · go_wp2_with fail
            refine (hkd.out _).mono ?_
            rintro e w' ⟨rfl, rfl⟩
            have hr0 := hr
            have hr := Lib.hid (Rds.fr2 hr.out ((Fr.refl wr).alloc (.cells #[.int .i64 kd, .int .i64 nn, .string (bstr wd)] 53)))
            generalize hwr2 : wr.alloc (.cells #[.int .i64 kd, .int .i64 nn, .string (bstr wd)] 53) = wr2 at *
            have hc1 : wr2.cell? ⟨wr.heap.size, 1, none⟩ = some (.int .i64 nn) := by subst hwr2; simp
            have hc2 : wr2.cell? ⟨wr.heap.size, 2, none⟩ = some (.string (bstr wd)) := by subst hwr2; simp
            clear hwr2 hx0 hx1 hx2
            have hxn : Hid (gx < wr.heap.size) := Lib.hid (hr0.out.x.lt)
            clear hr0
            go_wp2_with fail
            refine (float_calls gx (bstr bs) a _ hr.out.x ha.out hmx.out).mono ?_
            rintro e w3 ⟨rfl, hx3, hg3⟩
            obtain ⟨hf3, hz3, hy3⟩ := hr.out.afterX hg3 hgx.out hxz.out hzy.out hxB.out
            have hx3 := Lib.hid hx3; have hf3 := Lib.hid hf3; have hz3 := Lib.hid hz3; have hy3 := Lib.hid hy3
            clear hg3
            go_wp2_with fail
            refine (rfloat_calls B0 gy (bstr bs) a _ hy3.out).mono ?_
            rintro e w4 ⟨rfl, hy4, hg4⟩
            have hr4 := Lib.hid (Rds.afterY hf3.out hx3.out hz3.out hy4 hg4 hgy.out hxz.out hzy.out)
            clear hx3 hf3 hz3 hy3 hy4 hg4
            go_wp2_with fail
            refine (hlx.out _ _ (rd8_le _ _ fin ha.out) hr4.out.x).mono ?_
            rintro e w6 ⟨rfl, m6, rfl⟩
            have hr4 := Lib.hid (hr4.out.drewN m6)
            go_wp2_with fail
            refine (hly.out _ _ hr4.out.y).mono ?_
            rintro e w' ⟨rfl, rfl⟩
            go_wp2_with fail
            refine (hlz.out _ hr4.out.z).mono ?_
            rintro e w7 ⟨rfl, m7, rfl⟩
            have hr4 := Lib.hid (hr4.out.drewN m7)
            go_wp2
            refine ⟨⟨k + 1, _, by omega, by go_num, Lib.hid (rd8_le _ _ fin ha.out), ?_⟩, by simp [intOf]; omega⟩
            first | exact hr4 | exact Lib.hid (by rw [← World.drewN_drewN]; exact hr4.out)
          · have hm : ((nn % 256).toNat : Int) = nn % 256 := by omega
            have hbx := fun W h => byte_calls gx (bstr bs) a (nn % 256).toNat W h ha.out hmx.out
            have hby := fun W h => rbyte_calls B0 gy (bstr bs) a (nn % 256).toNat W h
            rw [hm] at hbx hby
            have hbx := Lib.hid hbx; have hby := Lib.hid hby
            have hwr : IntKind.u8.wrap nn = nn % 256 := IntKind.wrap_u8 nn
            clear hm
            go_wp2_with fail
            refine (hkd.out _).mono ?_
            rintro e w' ⟨rfl, rfl⟩
            have hr0 := hr
            have hr := Lib.hid (Rds.fr2 hr.out ((Fr.refl wr).alloc (.cells #[.int .i64 kd, .int .i64 nn, .string (bstr wd)] 53)))
            generalize hwr2 : wr.alloc (.cells #[.int .i64 kd, .int .i64 nn, .string (bstr wd)] 53) = wr2 at *
            have hc1 : wr2.cell? ⟨wr.heap.size, 1, none⟩ = some (.int .i64 nn) := by subst hwr2; simp
            have hc2 : wr2.cell? ⟨wr.heap.size, 2, none⟩ = some (.string (bstr wd)) := by subst hwr2; simp
            clear hwr2 hx0 hx1 hx2
            have hxn : Hid (gx < wr.heap.size) := Lib.hid (hr0.out.x.lt)
            clear hr0
            go_wp2_with fail
            refine (hbx.out _ hr.out.x).mono ?_
            rintro e w3 ⟨rfl, hx3, hg3⟩
            obtain ⟨hf3, hz3, hy3⟩ := hr.out.afterX hg3 hgx.out hxz.out hzy.out hxB.out
            have hx3 := Lib.hid hx3; have hf3 := Lib.hid hf3; have hz3 := Lib.hid hz3; have hy3 := Lib.hid hy3
            have hc1 := hg3.cell hc1 (fun e => Nat.ne_of_gt hxn.out (Option.some.inj e))
            clear hg3
            go_wp2_with fail
            refine (hby.out _ hy3.out).mono ?_
            rintro e w4 ⟨rfl, hy4, hg4⟩
            have hr4 := Lib.hid (Rds.afterY hf3.out hx3.out hz3.out hy4 hg4 hgy.out hxz.out hzy.out)
            clear hx3 hf3 hz3 hy3 hy4 hg4
            go_wp2_with fail
            refine (hlx.out _ _ (rd1_le _ _ (nn % 256).toNat ha.out) hr4.out.x).mono ?_
            rintro e w6 ⟨rfl, m6, rfl⟩
            have hr4 := Lib.hid (hr4.out.drewN m6)
            go_wp2_with fail
            refine (hly.out _ _ hr4.out.y).mono ?_
            rintro e w' ⟨rfl, rfl⟩
            go_wp2_with fail
            refine (hlz.out _ hr4.out.z).mono ?_
            rintro e w7 ⟨rfl, m7, rfl⟩
            have hr4 := Lib.hid (hr4.out.drewN m7)
            go_wp2
            refine ⟨⟨k + 1, _, by omega, by go_num, Lib.hid (rd1_le _ _ (nn % 256).toNat ha.out), ?_⟩, by simp [intOf]; omega⟩
            first | exact hr4 | exact Lib.hid (by rw [← World.drewN_drewN]; exact hr4.out)
          · go_wp2_with fail
            refine (hkd.out _).mono ?_
            rintro e w' ⟨rfl, rfl⟩
            have hr0 := hr
            have hr := Lib.hid (Rds.fr2 hr.out ((Fr.refl wr).alloc (.cells #[.int .i64 kd, .int .i64 nn, .string (bstr wd)] 53)))
            generalize hwr2 : wr.alloc (.cells #[.int .i64 kd, .int .i64 nn, .string (bstr wd)] 53) = wr2 at *
            have hc1 : wr2.cell? ⟨wr.heap.size, 1, none⟩ = some (.int .i64 nn) := by subst hwr2; simp
            have hc2 : wr2.cell? ⟨wr.heap.size, 2, none⟩ = some (.string (bstr wd)) := by subst hwr2; simp
            clear hwr2 hx0 hx1 hx2
            have hxn : Hid (gx < wr.heap.size) := Lib.hid (hr0.out.x.lt)
            clear hr0
            go_wp2_with fail
            refine (word_calls gx (bstr bs) a wd _ hr.out.x ha.out hmx.out (Nat.le_trans hN.out.2.2 (by unfold maxLen; omega))).mono ?_
            rintro e w3 ⟨rfl, hx3, hg3⟩
            obtain ⟨hf3, hz3, hy3⟩ := hr.out.afterX hg3 hgx.out hxz.out hzy.out hxB.out
            have hx3 := Lib.hid hx3; have hf3 := Lib.hid hf3; have hz3 := Lib.hid hz3; have hy3 := Lib.hid hy3
            have hc2 := hg3.cell hc2 (fun e => Nat.ne_of_gt hxn.out (Option.some.inj e))
            clear hg3
            go_wp2_with fail
            refine (rword_calls B0 gy (bstr bs) a wd _ hy3.out hmx.out).mono ?_
            rintro e w4 ⟨rfl, hy4, hg4⟩
            have hr4 := Lib.hid (Rds.afterY hf3.out hx3.out hz3.out hy4 hg4 hgy.out hxz.out hzy.out)
            clear hx3 hf3 hz3 hy3 hy4 hg4
            go_wp2_with fail
            refine (hlx.out _ _ (rdW_le _ _ wd ha.out) hr4.out.x).mono ?_
            rintro e w6 ⟨rfl, m6, rfl⟩
            have hr4 := Lib.hid (hr4.out.drewN m6)
            go_wp2_with fail
            refine (hly.out _ _ hr4.out.y).mono ?_
            rintro e w' ⟨rfl, rfl⟩
            go_wp2_with fail
            refine (hlz.out _ hr4.out.z).mono ?_
            rintro e w7 ⟨rfl, m7, rfl⟩
            have hr4 := Lib.hid (hr4.out.drewN m7)
            go_wp2
            refine ⟨⟨k + 1, _, by omega, by go_num, Lib.hid (rdW_le _ _ wd ha.out), ?_⟩, by simp [intOf]; omega⟩
            first | exact hr4 | exact Lib.hid (by rw [← World.drewN_drewN]; exact hr4.out)
          · go_wp2_with fail
            refine (hkd.out _).mono ?_
            rintro e w' ⟨rfl, rfl⟩
            have hr0 := hr
            have hr := Lib.hid (Rds.fr2 hr.out ((Fr.refl wr).alloc (.cells #[.int .i64 kd, .int .i64 nn, .string (bstr wd)] 53)))
            generalize hwr2 : wr.alloc (.cells #[.int .i64 kd, .int .i64 nn, .string (bstr wd)] 53) = wr2 at *
            have hc1 : wr2.cell? ⟨wr.heap.size, 1, none⟩ = some (.int .i64 nn) := by subst hwr2; simp
            have hc2 : wr2.cell? ⟨wr.heap.size, 2, none⟩ = some (.string (bstr wd)) := by subst hwr2; simp
            clear hwr2 hx0 hx1 hx2
            have hxn : Hid (gx < wr.heap.size) := Lib.hid (hr0.out.x.lt)
            clear hr0
            have hr4 := hr
            go_wp2_with fail
            refine (hlx.out _ _ ha.out hr4.out.x).mono ?_
            rintro e w6 ⟨rfl, m6, rfl⟩
            have hr4 := Lib.hid (hr4.out.drewN m6)
            go_wp2_with fail
            refine (hly.out _ _ hr4.out.y).mono ?_
            rintro e w' ⟨rfl, rfl⟩
            go_wp2_with fail
            refine (hlz.out _ hr4.out.z).mono ?_
            rintro e w7 ⟨rfl, m7, rfl⟩
            have hr4 := Lib.hid (hr4.out.drewN m7)
            go_wp2
            refine ⟨⟨k + 1, _, by omega, by go_num, Lib.hid ha.out, ?_⟩, by simp [intOf]; omega⟩
            first | exact hr4 | exact Lib.hid (by rw [← World.drewN_drewN]; exact hr4.out)
        · go_wp2
          go_ret
          exact ⟨rfl, hr.out.fr⟩

end Go.Proofs.Ytadconkhilnkoaa
