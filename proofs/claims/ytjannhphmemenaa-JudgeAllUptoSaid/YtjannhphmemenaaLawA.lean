/- The law JudgeAll. -/
import Derived.Test.YtjannhphmemenaaJudH
namespace Go.Proofs.Ytjannhphmemenaa
set_option maxRecDepth 100000
open Go.RowKit Go.Inc Go.Jud Go.Maps Go.Sort

set_option maxHeartbeats 2000000 in
theorem judgeAll_calls (most : Int) (os : List OpV) (xs : List AnsC) (O X : Option Addr) (n c m c' : Nat) (w : World) (hr : -9223372036854775808 ≤ most ∧ most ≤ 9223372036854775807) (hn : n = os.length) (hm : m = xs.length) (hos : os.length ≤ 1073741823) (hxs : xs.length ≤ 1073741823)
    (hO : RdC w O (os.flatMap ocells)) (hX : RdC w X (xs.flatMap acells)) (hA : ∀ x ∈ xs, AnsOk w x) (hU : ∀ o ∈ os, U o.key ∧ U o.val) :
    Calls Try.prog 3 #[.int .i64 most, .slice O n c, .slice X m c'] w fun e w' => e = .returned (.bool true) ∧ Fr w w' := by
  have HO := Lib.hid hO
  have HX := Lib.hid hX
  have HA := Lib.hid hA
  have HU := Lib.hid hU
  have HN := Lib.hid hn
  have HM := Lib.hid hm
  clear hO hX hA hU hn hm
  have hfl : Hid ((allR most os (xs.map (·.a))).1.length ≤ 1099511627776) := by
    unfold allR
    split
    · have h1 := fl_len most os (xs.map (·.a)) [] 0
      show (allF most os (xs.map (·.a))).length ≤ _
      unfold allF
      rw [List.length_append]
      have h2 : (if os.length = (xs.map (·.a)).length then ([] : List Pr) else [(((min os.length (xs.map (·.a)).length : Nat) : Int), (6 : Int))]).length ≤ 1 := by split <;> simp
      omega
    · exact Nat.zero_le _
  go_enter Try.func3, Try.ntmps3
  go_wp2_with fail
  refine (shown23_calls w).mono ?_
  rintro e w1 ⟨rfl, hf1⟩
  have HF1 := Lib.hid hf1
  clear hf1
  go_wp2_with fail
  refine (jall_calls most os xs O X n c m c' w1 hr HN.out HM.out hos hxs (HO.out.fr HF1.out) (HX.out.fr HF1.out) (fun x hx => ⟨(HA.out x hx).1.fr HF1.out, (HA.out x hx).2⟩) HU.out).mono ?_
  rintro e w2 ⟨F, cf, rfl, ho, hf⟩
  have HF2 : Hid (Fr w w2) := HF1.out.trans hf
  have HR2 := Lib.hid ho.rd
  clear ho hf
  go_wp2_with fail
  refine (pall_calls most os xs O X n c m c' w2 hr HN.out HM.out hos hxs (HO.out.fr HF2.out) (HX.out.fr HF2.out) (fun x hx => ⟨(HA.out x hx).1.fr HF2.out, (HA.out x hx).2⟩) HU.out).mono ?_
  rintro e w3 ⟨F', cf', rfl, ho', hf'⟩
  have HF3 : Hid (Fr w w3) := HF2.out.trans hf'
  have HR3 := Lib.hid ho'.rd
  have HR2' : Hid (RdC w3 F ((allR most os (xs.map (·.a))).1.flatMap fcells)) := HR2.out.fr hf'
  clear ho' hf'
  go_wp2_with fail
  refine (lfaults_calls F F' _ cf _ cf' _ _ w3 rfl rfl hfl.out HR2'.out HR3.out).mono ?_
  rintro e w4 ⟨rfl, q, rfl⟩
  have hd : decide ((allR most os (xs.map (·.a))).1 = (allR most os (xs.map (·.a))).1) = true := decide_eq_true rfl
  rw [hd]
  go_wp2_with fail
  go_ret
  exact ⟨rfl, HF3.out.drewN q⟩
end Go.Proofs.Ytjannhphmemenaa
