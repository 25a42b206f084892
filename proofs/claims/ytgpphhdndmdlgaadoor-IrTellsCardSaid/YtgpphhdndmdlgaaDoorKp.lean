/- Chapter 19: what is left on a stack. -/
import Derived.Test.YtgpphhdndmdlgaaDoorKo
namespace Go.Proofs.YtgpphhdndmdlgaaDoor
open Go Go.Ev Go.RowKit
set_option linter.unusedVariables false
set_option linter.unusedSimpArgs false
set_option maxRecDepth 100000
namespace Ls
def CapK (k n : Nat) : Prop := k = unk + 1 ∨ (n ≤ k ∧ k < unk)
theorem aslice_hiK {T : Tab} {t e : TypeId} {b off n h ka : Nat} {kk : IntKind} (hT : T.under t = some (.slice e)) (hz : T.size e = some 1) (hh : h ≤ n) (hk : CapK ka n) : aslice T t (.slice (some ⟨b, off, none⟩) n ka) none (some (.int kk (h : Int))) none = some (.slice (some ⟨b, off, none⟩) h ka) := by
 rcases hk with rfl | ⟨h1, h2⟩
 ·exact aslice_hi hT hz hh
 ·unfold aslice
  have e1 : Nat.ble 0 h = true := Nat.ble_eq_true_of_le (Nat.zero_le _)
  have e2 : Nat.ble unk ka = false := by rw [ble_dec]; simp; exact h2
  have e3 : Nat.ble h ka = true := Nat.ble_eq_true_of_le (by omega)
  simp only [hT, hz, show (h : Int) = Int.ofNat h from rfl, e1, e2, e3, cond_true, cond_false, Nat.sub_zero, Nat.zero_mul]
  cases ka.beq 0 <;> rfl
theorem sd_slk {P : Program} {T : Tab} {X : Cx} {Q : Xt → St → Prop} {c : Cf} (t : Nat) (ty e : TypeId) (b off n h ka : Nat) (kk : IntKind) (ho : okOp c t = true) (hs : strictC c = true) (hA : slOf c.s.tm (opC c).op = some (ty, .slice (some ⟨b, off, none⟩) n ka, none, some (.int kk (h : Int)))) (hT : T.under ty = some (.slice e)) (hz : T.size e = some 1) (hh : h ≤ n) (hk : CapK ka n)
    (hd : SD P T X Q (c.put t (.slice (some ⟨b, off, none⟩) h ka) c.s.H)) : SD P T X Q c :=
 sd_val t _ c.s.H ho hs (aop_slice hA (aslice_hiK hT hz hh hk)) hd
noncomputable def f54b : Code := Tryd.f54.body.getD .skip
theorem f54_body : Tryd.f54.body = some f54b := by kernel_rfl
theorem f54_fn : T20.fn 54 = some Tryd.f54 := by kernel_rfl
theorem put_s {l lj out V : List Int} {need vm ka : Nat} {ro : Bool} (hn : need ≤ l.length) (hll : l.length < 100000) (hol : out.length < 100000) (ho : ∀ x ∈ out, 0 ≤ x ∧ x < (V.length : Int)) (hl : V.length < 1000) (hvm : vm = V.length) (hka : CapK ka l.length) : SCall Tryd.prog T20 54 #[.slice (some ⟨0, 0, none⟩) l.length ka, .int .i64 (need : Int), (s1 1 out.length), .func (.func 28) #[] #[.pointer (some ⟨2, 0, none⟩)]] (hq [(uCo (l ++ lj) ro), (inCo out false), some ⟨[Value.slice (some ⟨3, 0, none⟩) vm vm], 23, false⟩, (uCo V false)]) fun v h => v = (s1 4 ((putL V l need out).length)) ∧ h = hq [(uCo (l ++ lj) ro), (inCo out false), some ⟨[Value.slice (some ⟨3, 0, none⟩) vm vm], 23, false⟩, (uCo V false), (uCo (putL V l need out) false)] := by
 refine scall_sd 32 _ 4 kr f54_fn f54_body rfl rfl rfl fun X hX => ?_
 refine sd_run 12 (sd_see 15 (.int .i64 (((l.length - need) : Nat) : Int)) (see_int (x := (IntKind.i64.wrap ((l.length : Int) - (need : Int)))) kr (i64w (by omega) (by omega) (by omega))) (sd_slk 16 23 24 0 0 l.length (l.length - need) ka .i64 kr kr kr kr kr (by first | omega | (simp; done) | (simp; omega)) hka (sd_firstN 17 23 23 24 0 3 (l.length - need) 4 (.slice (some ⟨0, 0, none⟩) (l.length - need) ka) (tab uC (l.take (l.length - need))) (tab uC (l.take (l.length - need))) kr kr kr kr (asrc_ptake (a := l) (b_ := lj) (e := 24) (ro := ro) uC_len kr (by omega)) (by omega) kr rfl (sd_run 12 (sd_see 0 (s1 4 ((putL V l need (out.take 0)).length)) (see_len (n := (l.length - need)) kr (by rw [List.take_zero, ← putL_nil, List.length_take]; omega)) ?_)))))
 refine sd_loop 32 (cl (cl (cr (cl (cr (cr f54b)))))) [.blk 0, .next (cr (cr (cr f54b)))] kr kr kr (fun m9 s9 => ∃ (k : Nat), m9 = out.length - k ∧ (k ≤ out.length) ∧ s9 = ⟨tmL [(0, (s1 4 ((putL V l need (out.take k)).length))), (3, .func (.func 28) #[] #[.pointer (some ⟨2, 0, none⟩)]), (18, (s1 1 out.length)), (19, .int .i64 (out.length : Int)), (20, .int .i64 (k : Int))], hq [(uCo (l ++ lj) ro), (inCo out false), some ⟨[Value.slice (some ⟨3, 0, none⟩) vm vm], 23, false⟩, (uCo V false), (uCo (putL V l need (out.take k)) false)]⟩) (out.length - 0) _ e5_ hX ⟨0, rfl, (by omega), rfl⟩ ⟨sub_of kr kr ⟨uC_b, inC_b, brn, uC_b, bk_flat (tab uC (l.take (l.length - need))) kr (tab_plain uC_pl _) (congrArg (tab uC) (putL_nil V l need)), ⟨⟩⟩, te_of kr kr⟩ kr ?_
 rintro m9 s9 ⟨k, rfl, i1_0, rfl⟩ R1_ hR1_
 have hpl : (putL V l need (out.take k)).length ≤ l.length + k := by unfold putL; rw [List.length_append, List.length_take, List.length_map, List.length_take]; omega
 by_cases hlt : k < out.length
 ·skip
  obtain ⟨a1, ha1⟩ : ∃ x_, (out)[k]? = some x_ := ⟨_, List.getElem?_eq_getElem (by omega)⟩
  obtain ⟨qa1, qa2⟩ := ho _ (List.mem_of_getElem? ha1)
  obtain ⟨X, hX2⟩ := Int.eq_ofNat_of_zero_le qa1
  refine sd_run 3 (sdT 21 ((k : Int) < (out.length : Int)) (by omega) kr (sd_run 10 (sd_ix 22 (.pointer (some ⟨1, 0 + k * 1, none⟩)) k out.length kr kr kr (by omega) (sd_ld 23 (.int .i64 a1) 3 (.pointer (some ⟨1, 0 + k * 1, none⟩)) kr kr kr (ld_cell (l := out) (e := 3) (ro := false) (k := k) (j := 0) inC_len kr kr kr ha1 rfl) (sd_run 7 (sd_see 26 (.int .i64 (X : Int)) (see_int (x := a1) kr hX2) (sdCp 27 28 #[.int .i64 (X : Int), .pointer (some ⟨2, 0, none⟩)] (@get_s V X vm (by omega) hl hvm) [some 2, some 3] ⟨brn, uC_b, ⟨⟩⟩ ?_)))))))
  rintro v9 k9 ⟨rfl, rfl⟩
  refine ⟨rfl, .int .u32 (V.getD X 0), kr, ?_⟩
  refine sd_run 1 (sd_grow 29 23 23 24 0 3 4 ((putL V l need (out.take k)).length) 1 6 (.slice (some ⟨5, 0, none⟩) 1 1) (tab uC (putL V l need (out.take k))) [Value.int .u32 (V.getD X 0)] (tab uC (putL V l need (out.take k) ++ [(V.getD X 0)])) kr kr kr kr kr ((tab_len uC_len _).trans (by first | rfl | (simp only [List.length_append, List.length_cons, List.length_nil, List.length_set] at *; done))) kr kr (by decide) kr (by omega) kr (tab_snoc (putL V l need (out.take k)) (V.getD X 0)) (sd_see 29 (s1 6 ((putL V l need (out.take k) ++ [(V.getD X 0)]).length)) (see_len (n := ((putL V l need (out.take k)).length + 1)) kr (by simp)) (sd_run 6 (sd_see 30 (.int .i64 ((k + 1 : Nat) : Int)) (see_int (x := (IntKind.i64.wrap ((k : Int) + 1))) kr (w64 (by omega) (by omega) (by omega))) (sd_run 2 (sd_see 0 (s1 6 ((putL V l need (out.take (k + 1))).length)) (see_len (n := (putL V l need (out.take k) ++ [(V.getD X 0)]).length) kr (by rw [← putL_succ ha1]; simp)) ?_))))))
  refine sd_inv R1_ kr (hR1_ _ (out.length - (k + 1)) _ (emOf [some 0, some 1, some 2, some 3, some 6]) (by omega) ⟨k + 1, rfl, (by omega), rfl⟩ ⟨sub_of kr kr ⟨uC_b, inC_b, brn, uC_b, bk_flat (tab uC (putL V l need (out.take k) ++ [(V.getD X 0)])) kr (tab_plain uC_pl _) (congrArg (tab uC) (by rw [← putL_succ ha1, show (a1).toNat = X by omega])), ⟨⟩⟩, te_of kr kr⟩ kr)
 ·skip
  obtain rfl : k = out.length := by omega
  refine sd_run 3 (sdF 21 ((out.length : Int) < (out.length : Int)) (by omega) kr (sd_run 16 (sd_see 8 (s1 4 ((putL V l need out).length)) (see_len (n := (putL V l need (out.take out.length)).length) kr (by rw [List.take_length])) ?_)))
  refine sdY (s1 4 ((putL V l need out).length)) hX [(uCo (l ++ lj) ro), (inCo out false), some ⟨[Value.slice (some ⟨3, 0, none⟩) vm vm], 23, false⟩, (uCo V false), (uCo (putL V l need out) false)] i5_ ⟨uC_b, inC_b, brn, uC_b, bk_flat (tab uC (putL V l need (out.take out.length))) kr (tab_plain uC_pl _) (congrArg (tab uC) (by rw [List.take_length])), ⟨⟩⟩ ⟨rfl, rfl⟩
end Ls
end Go.Proofs.YtgpphhdndmdlgaaDoor
