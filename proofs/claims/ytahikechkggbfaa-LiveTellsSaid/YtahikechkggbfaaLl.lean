/- Chapter 20: what is made is right. -/
import Derived.Test.YtahikechkggbfaaLk
import Derived.Test.YtahikechkggbfaaLb
namespace Go.Proofs.Ytahikechkggbfaa
open Go Go.Ev Go.RowKit
set_option linter.unusedVariables false
set_option linter.unusedSimpArgs false
set_option maxRecDepth 100000
namespace Lm
theorem NumsA.up {H H' : Heap} {kd : IntKind} {v : Value} {l : List Int} (h : NumsA H kd v l) (u : Up H.n H H') : NumsA H' kd v l := by
  refine ⟨?_⟩
  rcases h.at_ with h | ⟨A, off, cap, cells, e, ro, h1, h2, h3, h4⟩
  · exact .inl h
  · exact .inr ⟨A, off, cap, cells, e, ro, h1, by rw [u.get A h3]; exact h2, Nat.lt_of_lt_of_le h3 u.n, h4⟩
theorem made_ok (ops az bs outs : List Int) (fl : Int) : PgOk (mkC ops az bs (mkN ops az bs)) (mkO outs (mkN ops az bs) (mkM outs (mkN ops az bs))) (mkF fl (mkN ops az bs)) := by
  generalize hN : mkN ops az bs = N
  have hN30 : N ≤ 30 := by unfold mkN at hN; omega
  refine ⟨by rw [mkC_len]; exact hN30, ?_, ?_, ?_, ?_⟩
  · intro k i hk
    unfold mkC at hk
    rw [List.getElem?_map] at hk
    cases hr : (List.range N)[k]? with
    | none => rw [hr] at hk; cases hk
    | some q =>
      rw [hr] at hk
      have hq := (List.getElem?_eq_some_iff.1 hr).2
      simp at hq
      subst hq
      have := Option.some.inj hk
      rw [← this]
      unfold mkI
      split
      · rename_i h
        refine .inr ⟨3 + ops.getD k 0 % 2, az.getD k 0 % (k : Int), bs.getD k 0 % (k : Int), by omega, Int.emod_nonneg _ (by omega), Int.emod_lt_of_pos _ (by omega), Int.emod_nonneg _ (by omega), Int.emod_lt_of_pos _ (by omega), rfl⟩
      · exact .inl rfl
  · intro j x hj
    rw [mkC_len]
    unfold mkM at hj
    split at hj
    · unfold mkO at hj; rw [List.take_zero] at hj; cases hj
    · unfold mkO at hj
      rw [List.getElem?_map] at hj
      cases hr : (outs.take (min outs.length 6))[j]? with
      | none => rw [hr] at hj; cases hj
      | some q =>
        rw [hr] at hj
        have := Option.some.inj hj
        rw [← this]
        exact ⟨Int.emod_nonneg _ (by omega), Int.emod_lt_of_pos _ (by omega)⟩
  · unfold mkO mkM; simp; split <;> omega
  · rw [mkC_len]
    unfold mkF
    split
    · rename_i h
      exact .inr ⟨Int.emod_nonneg _ (by omega), Int.emod_lt_of_pos _ (by omega)⟩
    · exact .inl rfl
theorem same_any [Bs] {H : Heap} {c : List II} {o : List Int} {fl : Int} {pc po : Option Addr} {cc co lo vs : Nat} (hvs : vs = c.length ∨ vs = c.length + 1) (hok : PgOk c o fl) (hgc : Gr H lo 50 5 (.slice pc c.length cc) c.length (iis c)) (hgo : Gr H lo 3 1 (.slice po o.length co) o.length (o.map (Value.int .i64))) : ACall Try.prog T2 8 #[.agg #[(.slice pc c.length cc), .int .i64 0, .int .i64 0, .int .i64 0, .int .i64 0, (.slice po o.length co), .slice none 0 0, .int .i64 fl, .int .u32 0, .int .i64 (-1), .int .i64 0, .int .u32 0, .int .i64 1, .int .i64 ((vs : Nat) : Int)]] H fun r H' => r = .bool true ∧ Up H.n H H' := by
  rcases hvs with rfl | rfl
  · exact same_ok hok hgc hgo
  · exact same_no hok hgc hgo
theorem made_run [Bs] {H : Heap} {ops az bs outs : List Int} {pt1 pt2 pt3 pt4 : Option Addr} {cap1 cap2 cap3 cap4 : Nat} {fl : Int} {wr : Bool} {c : List II} {o : List Int} {f : Int} {vs : Nat} (hc : c = mkC ops az bs (mkN ops az bs)) (ho : o = mkO outs (mkN ops az bs) (mkM outs (mkN ops az bs))) (hf' : f = mkF fl (mkN ops az bs)) (hv : mkW wr (mkN ops az bs) = (vs : Int)) (hN1 : NumsA H .i64 (.slice pt1 ops.length cap1) ops) (hr1 : ∀ x ∈ ops, i64B x = true) (hN2 : NumsA H .i64 (.slice pt2 az.length cap2) az) (hr2 : ∀ x ∈ az, i64B x = true) (hN3 : NumsA H .i64 (.slice pt3 bs.length cap3) bs) (hr3 : ∀ x ∈ bs, i64B x = true) (hN4 : NumsA H .i64 (.slice pt4 outs.length cap4) outs) (hr4 : ∀ x ∈ outs, i64B x = true) (hf : i64B fl = true) : ACall Try.prog T2 9 #[.agg #[(.slice pt1 ops.length cap1), (.slice pt2 az.length cap2), (.slice pt3 bs.length cap3), (.slice pt4 outs.length cap4), .int .i64 fl, .bool wr]] H fun r H' => ∃ pc cc po co, r = .agg #[(.slice pc c.length cc), .int .i64 0, .int .i64 0, .int .i64 0, .int .i64 0, (.slice po o.length co), .slice none 0 0, .int .i64 f, .int .u32 0, .int .i64 (-1), .int .i64 0, .int .u32 0, .int .i64 1, .int .i64 ((vs : Nat) : Int)] ∧ Gr H' H.n 50 5 (.slice pc c.length cc) c.length (iis c) ∧ Gr H' H.n 3 1 (.slice po o.length co) o.length (o.map (Value.int .i64)) ∧ Up H.n H H' := by
  subst hc ho hf'
  rw [← hv]
  exact made_at hN1 hr1 hN2 hr2 hN3 hr3 hN4 hr4 hf
/-- Rows of two numbers that came in. -/
structure SpansA (H : Heap) (v : Value) (l : List (Int × Int)) : Prop where
  at_ : (∃ cap, v = .slice none 0 cap ∧ l = []) ∨ ∃ A off cap cells e ro, v = .slice (some ⟨A, off, none⟩) l.length cap ∧ H.get A = some ⟨cells, e, ro⟩ ∧ A < H.n ∧ ∀ k (h : k < l.length), cells[off + k * 2]? = some (.int .i64 l[k].1) ∧ cells[off + k * 2 + 1]? = some (.int .i64 l[k].2)
def spI (sp : List (Int × Int)) (k : Nat) : IV := ((k : Int), (sp.getD k (0, 0)).1 % 41, (sp.getD k (0, 0)).1 % 41 + (sp.getD k (0, 0)).2 % 10)
def spL (sp : List (Int × Int)) (n : Nat) : List IV := (List.range n).map (spI sp)
theorem spL_succ (sp : List (Int × Int)) (n : Nat) : spL sp (n + 1) = spL sp n ++ [spI sp n] := by simp [spL, List.range_succ]
theorem spL_len (sp : List (Int × Int)) (n : Nat) : (spL sp n).length = n := by simp [spL]
end Lm
end Go.Proofs.Ytahikechkggbfaa
