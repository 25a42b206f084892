/- HmachStands: the regions. -/
import Derived.Test.YtjhijpfbokklcaaHd
namespace Go.Proofs.Ytjhijpfbokklcaa
open Go Go.Ev Go.RowKit
set_option linter.unusedVariables false
set_option linter.unusedSimpArgs false
set_option maxRecDepth 100000
def isByte (x : Int) : Prop := 0 ≤ x ∧ x < 256
def imF (a b c d : Int) : Int := bits .or .u32 (bits .or .u32 (bits .or .u32 a (b * 256)) (c * 65536)) (d * 16777216)
theorem u32_join (x y : Int) (i : Nat) (hi : i ≤ 32) (h0 : 0 ≤ x) (h1 : x < 4294967296) (hx : x % 2 ^ i = 0) (h2 : 0 ≤ y) (h3 : y < 2 ^ i) (h4 : y < 4294967296) : bits .or .u32 x y = x + y :=
  bits_join .u32 32 (by decide) (fun n h0 h1 => by rw [IntKind.wrap_u32]; omega) i x y h0 hx (by omega) h2 h3 (by omega)
theorem or_comm (x y : Int) : bits .or .u32 x y = bits .or .u32 y x := by
  show IntKind.u32.wrap ((BitVec.ofInt 32 x ||| BitVec.ofInt 32 y).toNat : Int) = IntKind.u32.wrap ((BitVec.ofInt 32 y ||| BitVec.ofInt 32 x).toNat : Int)
  rw [BitVec.or_comm]
theorem imF_eq (a b c d : Int) (ha : isByte a) (hb : isByte b) (hc : isByte c) (hd : isByte d) : imF a b c d = a + b * 256 + c * 65536 + d * 16777216 := by
  obtain ⟨a0, a1⟩ := ha
  obtain ⟨b0, b1⟩ := hb
  obtain ⟨c0, c1⟩ := hc
  obtain ⟨d0, d1⟩ := hd
  unfold imF
  rw [or_comm a, u32_join (b * 256) a 8 (by omega) (by omega) (by omega) (by omega) (by omega) (by omega) (by omega),
    or_comm _ (c * 65536), u32_join (c * 65536) (b * 256 + a) 16 (by omega) (by omega) (by omega) (by omega) (by omega) (by omega) (by omega),
    or_comm _ (d * 16777216), u32_join (d * 16777216) _ 24 (by omega) (by omega) (by omega) (by omega) (by omega) (by omega) (by omega)]
  omega

namespace Hs
def KnowsL (s : St) : List (Nat × Value) → Prop
  | [] => True
  | (i, v) :: r => (s.tm.get i).getD undef = v ∧ KnowsL s r
theorem knows {s : St} : ∀ {L : List (Nat × Value)}, KnowsL s L → Knows s L := by
  intro L
  induction L with
  | nil => intro _ p hp; cases hp
  | cons q r ih =>
    intro h p hp
    rcases List.mem_cons.1 hp with rfl | hp
    · exact h.1
    · exact ih h.2 p hp
abbrev A4 (c : Code) (Q : Xt → St → Prop) (L : List (Nat × Value)) (d : Nat → Value) (H : Heap) : Prop := Aw Try.prog T4 102 c Q ⟨tK L d, H⟩
theorem kget {s : St} {L : List (Nat × Value)} {i : Nat} {v : Value} (hk : Knows s L) (hm : (i, v) ∈ L) : aeval s.tm (.tmp i) = some v := congrArg some (hk (i, v) hm)
theorem step {w0 : World} {c : Code} {Q : Xt → St → Prop} {s : St} {L : List (Nat × Value)} (hok : codeOk T4 c = true) (hk : Knows s L) (h : ∀ d, A4 c Q L d s.H) : Tw Try.prog 102 w0 c Q s :=
  tw_form L (by omega) hk fun d => tw_aw progOk4 hok (h d)
/-- The number, put together again from its bytes. -/
def byt (imm : Int) (i : Nat) : Int := IntKind.u32.wrap (IntKind.u8.wrap (imm.fdiv (2 ^ i)))
def u32or (x y : Int) : Int := IntKind.u32.wrap ((BitVec.ofInt IntKind.u32.bits x ||| BitVec.ofInt IntKind.u32.bits y).toNat : Int)
def Eim (imm : Int) : Int := u32or (u32or (u32or (IntKind.u32.wrap (IntKind.u8.wrap imm)) (IntKind.u32.wrap (byt imm 8 * 2 ^ 8))) (IntKind.u32.wrap (byt imm 16 * 2 ^ 16))) (IntKind.u32.wrap (byt imm 24 * 2 ^ 24))
abbrev H0 (t0 : Option Ob) : Heap := ⟨.nd .lf t0 .lf, 1⟩
theorem lt_of {K : Heap} {M : Nat} (h : K.n = 12) (hM : M < 12) : M < K.n := by omega
abbrev zeros16 : List Value := [.int .u64 0, .int .u64 0, .int .u64 0, .int .u64 0, .int .u64 0, .int .u64 0, .int .u64 0, .int .u64 0, .int .u64 0, .int .u64 0, .int .u64 0, .int .u64 0, .int .u64 0, .int .u64 0, .int .u64 0, .int .u64 0]
abbrev zeros4 : List Value := [.int .u32 0, .int .u32 0, .int .u32 0, .int .u32 0]
abbrev ICell (op imm : Int) : Ob := ⟨[.int .i64 op, .int .i64 0, .int .i64 0, .int .i64 0, .int .u32 imm], 48, false⟩
abbrev Sl (a : Option Addr) (len cap : Nat) : Value := .slice a len cap
def NQ (F : St → Prop) : Xt → St → Prop := fun x s => x = .normal ∧ F s
theorem tw_nq {w0 : World} {a b : Code} {Q : Xt → St → Prop} {s : St} {F : St → Prop} (hok : codeOk T4 a = true) (h : Aw Try.prog T4 102 a (NQ F) s) (hF : ∀ s, F s → Tw Try.prog 102 w0 b Q s) : Tw Try.prog 102 w0 (.seq a b) Q s :=
  tw_seq (tw_aw progOk4 hok (h.mono fun x s' ⟨e, hf⟩ => by subst e; exact then_normal (hF s' hf)))
/-- Behind the set-up. -/
def Behind (a : Option Addr) (len cap : Nat) (imm : Int) (t0 : Option Ob) (op : Int) (s : St) : Prop :=
  Knows s [(1, Sl a len cap), (2, .int .u32 imm), (7, Pm 2), (9, Pm 4)] ∧ MH s.H 2 1 11 zeros16 zeros4 op (Eim imm) 0 ∧ s.H.get 4 = some (ICell op imm) ∧ s.H.get 0 = t0 ∧ s.H.n = 12
section
variable {Q : Xt → St → Prop} {t0 : Option Ob} {a : Option Addr} {len cap : Nat} {n imm : Int} {d : Nat → Value}
theorem pre14 (hi : inB n 0 3 = true) (hj : 0 + n % (3 - 0 + 1) = 0) :
    Aw Try.prog T4 102 f5r0 (NQ fun s => Aw Try.prog T4 102 f5r1 (NQ fun s => Aw Try.prog T4 102 f5r2 (NQ fun s => Aw Try.prog T4 102 f5n4 (NQ (Behind a len cap imm t0 14)) s) s) s) ⟨initTm 0 #[.int .i64 n, Sl a len cap, .int .u32 imm], H0 t0⟩ := by
  rw [f5r0_eq]
  refine aw_reg ?_
  refine aops_go 1 60 (by kernel_rfl) ?_
  refine aops_end (by kernel_rfl) ⟨rfl, ?_⟩
  rw [f5r1_eq]
  refine aw_reg ?_
  refine aops_go 6 60 (by kernel_rfl) ?_
  refine aops_end (by kernel_rfl) ⟨rfl, ?_⟩
  rw [f5r2_eq]
  refine aw_reg ?_
  refine aops_go 2 60 (by kernel_rfl) ?_
  refine aops_ask 20 (.int .i64 0) 12 #[.int .i64 n, .int .i64 0, .int .i64 3] (by kernel_rfl) (by kernel_rfl) (by kernel_rfl) (by kernel_rfl) ((orc12 n 0 3 hi).trans (by rw [hj])) ?_
  refine aops_go 6 60 (by kernel_rfl) ?_
  refine aops_end (by kernel_rfl) ⟨rfl, ?_⟩
  rw [f5n4_eq]
  refine aw_then ?_
  rw [f5r3_eq]
  refine aw_reg ?_
  refine aops_go 13 60 (by kernel_rfl) ?_
  refine aops_end (by kernel_rfl) (then_normal ?_)
  rw [f5n5_eq]
  refine aw_cond (t := false) (by kernel_rfl) (aw_skip ⟨rfl, ?_⟩)
  exact ⟨(knows ⟨by kernel_rfl, by kernel_rfl, by kernel_rfl, by kernel_rfl, True.intro⟩), ⟨by kernel_rfl, rfl, by kernel_rfl, rfl, by kernel_rfl, by omega, by omega, by omega, lt_of (by kernel_rfl) (by omega), lt_of (by kernel_rfl) (by omega), lt_of (by kernel_rfl) (by omega)⟩, (by kernel_rfl), (by kernel_rfl), (by kernel_rfl)⟩
theorem pre15 (hi : inB n 0 3 = true) (hj : 0 + n % (3 - 0 + 1) = 1) :
    Aw Try.prog T4 102 f5r0 (NQ fun s => Aw Try.prog T4 102 f5r1 (NQ fun s => Aw Try.prog T4 102 f5r2 (NQ fun s => Aw Try.prog T4 102 f5n4 (NQ (Behind a len cap imm t0 15)) s) s) s) ⟨initTm 0 #[.int .i64 n, Sl a len cap, .int .u32 imm], H0 t0⟩ := by
  rw [f5r0_eq]
  refine aw_reg ?_
  refine aops_go 1 60 (by kernel_rfl) ?_
  refine aops_end (by kernel_rfl) ⟨rfl, ?_⟩
  rw [f5r1_eq]
  refine aw_reg ?_
  refine aops_go 6 60 (by kernel_rfl) ?_
  refine aops_end (by kernel_rfl) ⟨rfl, ?_⟩
  rw [f5r2_eq]
  refine aw_reg ?_
  refine aops_go 2 60 (by kernel_rfl) ?_
  refine aops_ask 20 (.int .i64 1) 12 #[.int .i64 n, .int .i64 0, .int .i64 3] (by kernel_rfl) (by kernel_rfl) (by kernel_rfl) (by kernel_rfl) ((orc12 n 0 3 hi).trans (by rw [hj])) ?_
  refine aops_go 6 60 (by kernel_rfl) ?_
  refine aops_end (by kernel_rfl) ⟨rfl, ?_⟩
  rw [f5n4_eq]
  refine aw_then ?_
  rw [f5r3_eq]
  refine aw_reg ?_
  refine aops_go 13 60 (by kernel_rfl) ?_
  refine aops_end (by kernel_rfl) (then_normal ?_)
  rw [f5n5_eq]
  refine aw_cond (t := false) (by kernel_rfl) (aw_skip ⟨rfl, ?_⟩)
  exact ⟨(knows ⟨by kernel_rfl, by kernel_rfl, by kernel_rfl, by kernel_rfl, True.intro⟩), ⟨by kernel_rfl, rfl, by kernel_rfl, rfl, by kernel_rfl, by omega, by omega, by omega, lt_of (by kernel_rfl) (by omega), lt_of (by kernel_rfl) (by omega), lt_of (by kernel_rfl) (by omega)⟩, (by kernel_rfl), (by kernel_rfl), (by kernel_rfl)⟩
theorem pre19 (hi : inB n 0 3 = true) (hj : 0 + n % (3 - 0 + 1) = 2) :
    Aw Try.prog T4 102 f5r0 (NQ fun s => Aw Try.prog T4 102 f5r1 (NQ fun s => Aw Try.prog T4 102 f5r2 (NQ fun s => Aw Try.prog T4 102 f5n4 (NQ (Behind a len cap imm t0 19)) s) s) s) ⟨initTm 0 #[.int .i64 n, Sl a len cap, .int .u32 imm], H0 t0⟩ := by
  rw [f5r0_eq]
  refine aw_reg ?_
  refine aops_go 1 60 (by kernel_rfl) ?_
  refine aops_end (by kernel_rfl) ⟨rfl, ?_⟩
  rw [f5r1_eq]
  refine aw_reg ?_
  refine aops_go 6 60 (by kernel_rfl) ?_
  refine aops_end (by kernel_rfl) ⟨rfl, ?_⟩
  rw [f5r2_eq]
  refine aw_reg ?_
  refine aops_go 2 60 (by kernel_rfl) ?_
  refine aops_ask 20 (.int .i64 2) 12 #[.int .i64 n, .int .i64 0, .int .i64 3] (by kernel_rfl) (by kernel_rfl) (by kernel_rfl) (by kernel_rfl) ((orc12 n 0 3 hi).trans (by rw [hj])) ?_
  refine aops_go 6 60 (by kernel_rfl) ?_
  refine aops_end (by kernel_rfl) ⟨rfl, ?_⟩
  rw [f5n4_eq]
  refine aw_then ?_
  rw [f5r3_eq]
  refine aw_reg ?_
  refine aops_go 13 60 (by kernel_rfl) ?_
  refine aops_end (by kernel_rfl) (then_normal ?_)
  rw [f5n5_eq]
  refine aw_cond (t := false) (by kernel_rfl) (aw_skip ⟨rfl, ?_⟩)
  exact ⟨(knows ⟨by kernel_rfl, by kernel_rfl, by kernel_rfl, by kernel_rfl, True.intro⟩), ⟨by kernel_rfl, rfl, by kernel_rfl, rfl, by kernel_rfl, by omega, by omega, by omega, lt_of (by kernel_rfl) (by omega), lt_of (by kernel_rfl) (by omega), lt_of (by kernel_rfl) (by omega)⟩, (by kernel_rfl), (by kernel_rfl), (by kernel_rfl)⟩
theorem pre18 (hi : inB n 0 3 = true) (hj : 0 + n % (3 - 0 + 1) = 3) :
    Aw Try.prog T4 102 f5r0 (NQ fun s => Aw Try.prog T4 102 f5r1 (NQ fun s => Aw Try.prog T4 102 f5r2 (NQ fun s => Aw Try.prog T4 102 f5n4 (NQ (Behind a len cap imm t0 18)) s) s) s) ⟨initTm 0 #[.int .i64 n, Sl a len cap, .int .u32 imm], H0 t0⟩ := by
  rw [f5r0_eq]
  refine aw_reg ?_
  refine aops_go 1 60 (by kernel_rfl) ?_
  refine aops_end (by kernel_rfl) ⟨rfl, ?_⟩
  rw [f5r1_eq]
  refine aw_reg ?_
  refine aops_go 6 60 (by kernel_rfl) ?_
  refine aops_end (by kernel_rfl) ⟨rfl, ?_⟩
  rw [f5r2_eq]
  refine aw_reg ?_
  refine aops_go 2 60 (by kernel_rfl) ?_
  refine aops_ask 20 (.int .i64 3) 12 #[.int .i64 n, .int .i64 0, .int .i64 3] (by kernel_rfl) (by kernel_rfl) (by kernel_rfl) (by kernel_rfl) ((orc12 n 0 3 hi).trans (by rw [hj])) ?_
  refine aops_go 6 60 (by kernel_rfl) ?_
  refine aops_end (by kernel_rfl) ⟨rfl, ?_⟩
  rw [f5n4_eq]
  refine aw_then ?_
  rw [f5r3_eq]
  refine aw_reg ?_
  refine aops_go 13 60 (by kernel_rfl) ?_
  refine aops_end (by kernel_rfl) (then_normal ?_)
  rw [f5n5_eq]
  refine aw_cond (t := false) (by kernel_rfl) (aw_skip ⟨rfl, ?_⟩)
  exact ⟨(knows ⟨by kernel_rfl, by kernel_rfl, by kernel_rfl, by kernel_rfl, True.intro⟩), ⟨by kernel_rfl, rfl, by kernel_rfl, rfl, by kernel_rfl, by omega, by omega, by omega, lt_of (by kernel_rfl) (by omega), lt_of (by kernel_rfl) (by omega), lt_of (by kernel_rfl) (by omega)⟩, (by kernel_rfl), (by kernel_rfl), (by kernel_rfl)⟩
end
end Hs
end Go.Proofs.Ytjhijpfbokklcaa
