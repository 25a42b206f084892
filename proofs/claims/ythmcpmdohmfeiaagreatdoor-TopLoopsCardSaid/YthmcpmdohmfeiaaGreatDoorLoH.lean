/- TopLoops: a guest's row of states, for any two numbers; the jobs. -/
import Derived.Test.YthmcpmdohmfeiaaGreatDoorLoG
namespace Go.Proofs.YthmcpmdohmfeiaaGreatDoor
open Go Go.Ev
set_option linter.unusedVariables false
set_option linter.unusedSimpArgs false
set_option maxRecDepth 100000
namespace Tp
noncomputable section
theorem valS_agree {ρ ρ' : Nat → Nat} {X : Sg} (h : ∀ p ∈ X, evW ρ p.2 = evW ρ' p.2) : valS ρ X = valS ρ' X := by
  funext i
  unfold valS
  cases hf : fdS X i with
  | none => rfl
  | some w => exact h (i, w) (fdS_some hf)
theorem loA_told (x b : Nat) (i : Nat) : Told (loASt x b i) := match i with
  | 0 => ⟨_, _, rfl⟩
  | 1 => ⟨_, _, rfl⟩
  | i + 2 => ⟨_, _, rfl⟩
theorem loA_look {x b n : Nat} (hx : x < 4294967296) (hb : b < 4294967296) (hn : n = b % 90) (i : Nat) (hi : i ≤ n) : Lk false (loASt x b i) := match i, hi with
  | 0, _ => loAk_l0 hx hb hn
  | 1, h => loAk_l1 hx hb hn h
  | i + 2, h => loAk_lG hx hb hn h
theorem loA_step {x b n : Nat} (hx : x < 4294967296) (hb : b < 4294967296) (hn : n = b % 90) (i : Nat) (hi : i < n) : Rn8 (loASt x b i) (loASt x b (i + 1)) := match i, hi with
  | 0, h => loAk_p0 hx hb hn h
  | 1, h => loAk_p1 hx hb hn h
  | i + 2, h => loAk_pg hx hb hn h
theorem loA_endM {x b n : Nat} (hx : x < 4294967296) (hb : b < 4294967296) (hn : n = b % 90) (hz : sm x n ≠ 0) : Rn8 (loASt x b n) (tbH loAM (loM x b n)) := by
  have hl := sm_lt x n
  match n, hn, hz, hl with
  | 0, hn, hz, hl =>
    exact absurd rfl hz
  | 1, hn, hz, hl =>
    rcases (by omega : sm x (1) / 1 % 256 ≠ 0 ∨ (sm x (1) / 1 % 256 = 0 ∧ sm x (1) / 256 % 256 ≠ 0) ∨ (sm x (1) / 1 % 256 = 0 ∧ sm x (1) / 256 % 256 = 0 ∧ sm x (1) / 65536 % 256 ≠ 0) ∨ (sm x (1) / 1 % 256 = 0 ∧ sm x (1) / 256 % 256 = 0 ∧ sm x (1) / 65536 % 256 = 0 ∧ sm x (1) / 16777216 % 256 ≠ 0)) with h0 | ⟨h0, h1⟩ | ⟨h0, h1, h2⟩ | ⟨h0, h1, h2, h3⟩
    · exact loAk_m10 hx hb hn rfl h0
    · exact loAk_m11 hx hb hn rfl h0 h1
    · exact loAk_m12 hx hb hn rfl h0 h1 h2
    · exact loAk_m13 hx hb hn rfl h0 h1 h2 h3
  | i + 2, hn, hz, hl =>
    rcases (by omega : sm x (i + 2) / 1 % 256 ≠ 0 ∨ (sm x (i + 2) / 1 % 256 = 0 ∧ sm x (i + 2) / 256 % 256 ≠ 0) ∨ (sm x (i + 2) / 1 % 256 = 0 ∧ sm x (i + 2) / 256 % 256 = 0 ∧ sm x (i + 2) / 65536 % 256 ≠ 0) ∨ (sm x (i + 2) / 1 % 256 = 0 ∧ sm x (i + 2) / 256 % 256 = 0 ∧ sm x (i + 2) / 65536 % 256 = 0 ∧ sm x (i + 2) / 16777216 % 256 ≠ 0)) with h0 | ⟨h0, h1⟩ | ⟨h0, h1, h2⟩ | ⟨h0, h1, h2, h3⟩
    · exact loAk_mG0 hx hb hn rfl h0
    · exact loAk_mG1 hx hb hn rfl h0 h1
    · exact loAk_mG2 hx hb hn rfl h0 h1 h2
    · exact loAk_mG3 hx hb hn rfl h0 h1 h2 h3
theorem loA_endZ {x b n : Nat} (hx : x < 4294967296) (hb : b < 4294967296) (hn : n = b % 90) (hz : sm x n = 0) : Rn8 (loASt x b n) (tbH loAZ (loZ x b n)) := by
  have hl := sm_lt x n
  match n, hn, hz, hl with
  | 0, hn, hz, hl =>
    exact loAk_z0 hx hb hn rfl
  | 1, hn, hz, hl =>
    exact loAk_z1 hx hb hn rfl hz
  | i + 2, hn, hz, hl =>
    exact loAk_zG hx hb hn rfl hz
theorem loB_told (x b : Nat) (i : Nat) : Told (loBSt x b i) := match i with
  | 0 => ⟨_, _, rfl⟩
  | i + 1 => ⟨_, _, rfl⟩
theorem loB_look {x b n : Nat} (hx : x < 4294967296) (hb : b < 4294967296) (hn : n = b % 90) (i : Nat) (hi : i ≤ n) : Lk false (loBSt x b i) := match i, hi with
  | 0, _ => loBk_l0 hx hb hn
  | i + 1, h => loBk_lG hx hb hn h
theorem loB_step {x b n : Nat} (hx : x < 4294967296) (hb : b < 4294967296) (hn : n = b % 90) (i : Nat) (hi : i < n) : Rn8 (loBSt x b i) (loBSt x b (i + 1)) := match i, hi with
  | 0, h => loBk_p0 hx hb hn h
  | i + 1, h => loBk_pg hx hb hn h
theorem loB_endM {x b n : Nat} (hx : x < 4294967296) (hb : b < 4294967296) (hn : n = b % 90) (hz : sm x n ≠ 0) : Rn8 (loBSt x b n) (tbH loBM (loM x b n)) := by
  have hl := sm_lt x n
  match n, hn, hz, hl with
  | 0, hn, hz, hl =>
    exact absurd rfl hz
  | i + 1, hn, hz, hl =>
    rcases (by omega : sm x (i + 1) / 1 % 256 ≠ 0 ∨ (sm x (i + 1) / 1 % 256 = 0 ∧ sm x (i + 1) / 256 % 256 ≠ 0) ∨ (sm x (i + 1) / 1 % 256 = 0 ∧ sm x (i + 1) / 256 % 256 = 0 ∧ sm x (i + 1) / 65536 % 256 ≠ 0) ∨ (sm x (i + 1) / 1 % 256 = 0 ∧ sm x (i + 1) / 256 % 256 = 0 ∧ sm x (i + 1) / 65536 % 256 = 0 ∧ sm x (i + 1) / 16777216 % 256 ≠ 0)) with h0 | ⟨h0, h1⟩ | ⟨h0, h1, h2⟩ | ⟨h0, h1, h2, h3⟩
    · exact loBk_mG0 hx hb hn rfl h0
    · exact loBk_mG1 hx hb hn rfl h0 h1
    · exact loBk_mG2 hx hb hn rfl h0 h1 h2
    · exact loBk_mG3 hx hb hn rfl h0 h1 h2 h3
theorem loB_endZ {x b n : Nat} (hx : x < 4294967296) (hb : b < 4294967296) (hn : n = b % 90) (hz : sm x n = 0) : Rn8 (loBSt x b n) (tbH loBZ (loZ x b n)) := by
  have hl := sm_lt x n
  match n, hn, hz, hl with
  | 0, hn, hz, hl =>
    exact loBk_z0 hx hb hn rfl
  | i + 1, hn, hz, hl =>
    exact loBk_zG hx hb hn rfl hz
theorem loA_xsM (x b n : Nat) : valS (loM x b n) loAXs = loAr x b 0 := valS_agree (all2 rfl (all2 rfl (all2 rfl (all2 rfl (all2 rfl (all2 rfl (all2 rfl (all2 rfl all0))))))))
theorem loA_famM {x b n : Nat} (hx : x < 4294967296) (hb : b < 4294967296) (hn : n = b % 90) (hz : sm x n ≠ 0) : Fam (seqX (loASt x b) (tbH loAM (loM x b n)) n) :=
  seq_fam (fun i _ => loA_told x b i) ⟨_, _, rfl⟩ (loA_look hx hb hn) (loAk_lM hn) (loA_step hx hb hn) (loA_endM hx hb hn hz)
def loAJM : Job := ⟨[.n .i64 400], loA0, loAXs, loAM⟩
theorem loA_simM : simB loAM = tt := by kernel_rfl
theorem loA_led : ledB loA0 = tt := by kernel_rfl
theorem loA_jobM [Bs] [Tz1] {x b n : Nat} (hx : x < 4294967296) (hb : b < 4294967296) (hn : n = b % 90) (hz : sm x n ≠ 0) : JobOk Tryz.prog 34 (loM x b n) loAJM :=
  job_ok (loA_famM hx hb hn hz) (n := 400) rfl (by omega) (r := n + 1) (.inl ⟨0, by omega, by omega, congrArg (tbH loA0) (loA_xsM x b n)⟩) (by omega)
    (fun S h => by
      rcases h with ⟨i, _, h, _⟩ | ⟨_, h⟩
      · omega
      · exact h) loA_led (by show List.length loA0 ≤ 32767; exact of_decide_eq_true (by kernel_rfl)) ⟨_, _, rfl⟩ loA_simM
theorem loB_xsM (x b n : Nat) : valS (loM x b n) loBXs = loBr x b 0 := valS_agree (all2 rfl (all2 rfl (all2 rfl (all2 rfl (all2 rfl (all2 rfl (all2 rfl (all2 rfl all0))))))))
theorem loB_famM {x b n : Nat} (hx : x < 4294967296) (hb : b < 4294967296) (hn : n = b % 90) (hz : sm x n ≠ 0) : Fam (seqX (loBSt x b) (tbH loBM (loM x b n)) n) :=
  seq_fam (fun i _ => loB_told x b i) ⟨_, _, rfl⟩ (loB_look hx hb hn) (loBk_lM hn) (loB_step hx hb hn) (loB_endM hx hb hn hz)
def loBJM : Job := ⟨[.n .i64 400], loB0, loBXs, loBM⟩
theorem loB_simM : simB loBM = tt := by kernel_rfl
theorem loB_led : ledB loB0 = tt := by kernel_rfl
theorem loB_jobM [Bs] [Tz1] {x b n : Nat} (hx : x < 4294967296) (hb : b < 4294967296) (hn : n = b % 90) (hz : sm x n ≠ 0) : JobOk Tryz.prog 34 (loM x b n) loBJM :=
  job_ok (loB_famM hx hb hn hz) (n := 400) rfl (by omega) (r := n + 1) (.inl ⟨0, by omega, by omega, congrArg (tbH loB0) (loB_xsM x b n)⟩) (by omega)
    (fun S h => by
      rcases h with ⟨i, _, h, _⟩ | ⟨_, h⟩
      · omega
      · exact h) loB_led (by show List.length loB0 ≤ 32767; exact of_decide_eq_true (by kernel_rfl)) ⟨_, _, rfl⟩ loB_simM
theorem loA_xsZ (x b n : Nat) : valS (loZ x b n) loAXs = loAr x b 0 := valS_agree (all2 rfl (all2 rfl (all2 rfl (all2 rfl (all2 rfl (all2 rfl (all2 rfl (all2 rfl all0))))))))
theorem loA_famZ {x b n : Nat} (hx : x < 4294967296) (hb : b < 4294967296) (hn : n = b % 90) (hz : sm x n = 0) : Fam (seqX (loASt x b) (tbH loAZ (loZ x b n)) n) :=
  seq_fam (fun i _ => loA_told x b i) ⟨_, _, rfl⟩ (loA_look hx hb hn) (loAk_lZ hn) (loA_step hx hb hn) (loA_endZ hx hb hn hz)
def loAJZ : Job := ⟨[.n .i64 400], loA0, loAXs, loAZ⟩
theorem loA_simZ : simB loAZ = tt := by kernel_rfl
theorem loA_jobZ [Bs] [Tz1] {x b n : Nat} (hx : x < 4294967296) (hb : b < 4294967296) (hn : n = b % 90) (hz : sm x n = 0) : JobOk Tryz.prog 34 (loZ x b n) loAJZ :=
  job_ok (loA_famZ hx hb hn hz) (n := 400) rfl (by omega) (r := n + 1) (.inl ⟨0, by omega, by omega, congrArg (tbH loA0) (loA_xsZ x b n)⟩) (by omega)
    (fun S h => by
      rcases h with ⟨i, _, h, _⟩ | ⟨_, h⟩
      · omega
      · exact h) loA_led (by show List.length loA0 ≤ 32767; exact of_decide_eq_true (by kernel_rfl)) ⟨_, _, rfl⟩ loA_simZ
theorem loB_xsZ (x b n : Nat) : valS (loZ x b n) loBXs = loBr x b 0 := valS_agree (all2 rfl (all2 rfl (all2 rfl (all2 rfl (all2 rfl (all2 rfl (all2 rfl (all2 rfl all0))))))))
theorem loB_famZ {x b n : Nat} (hx : x < 4294967296) (hb : b < 4294967296) (hn : n = b % 90) (hz : sm x n = 0) : Fam (seqX (loBSt x b) (tbH loBZ (loZ x b n)) n) :=
  seq_fam (fun i _ => loB_told x b i) ⟨_, _, rfl⟩ (loB_look hx hb hn) (loBk_lZ hn) (loB_step hx hb hn) (loB_endZ hx hb hn hz)
def loBJZ : Job := ⟨[.n .i64 400], loB0, loBXs, loBZ⟩
theorem loB_simZ : simB loBZ = tt := by kernel_rfl
theorem loB_jobZ [Bs] [Tz1] {x b n : Nat} (hx : x < 4294967296) (hb : b < 4294967296) (hn : n = b % 90) (hz : sm x n = 0) : JobOk Tryz.prog 34 (loZ x b n) loBJZ :=
  job_ok (loB_famZ hx hb hn hz) (n := 400) rfl (by omega) (r := n + 1) (.inl ⟨0, by omega, by omega, congrArg (tbH loB0) (loB_xsZ x b n)⟩) (by omega)
    (fun S h => by
      rcases h with ⟨i, _, h, _⟩ | ⟨_, h⟩
      · omega
      · exact h) loB_led (by show List.length loB0 ≤ 32767; exact of_decide_eq_true (by kernel_rfl)) ⟨_, _, rfl⟩ loB_simZ
end
end Tp
end Go.Proofs.YthmcpmdohmfeiaaGreatDoor
