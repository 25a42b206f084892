/- Chapter 20: values that are not used go. -/
import Derived.Test.YtahikechkggbfaaSm
namespace Go.Proofs.Ytahikechkggbfaa
open Go Go.Ev Go.RowKit
set_option linter.unusedVariables false
set_option linter.unusedSimpArgs false
set_option maxRecDepth 100000
namespace Ls
/-- Values are marked. -/
def mark (u : List Bool) (x : Int) : List Bool := if x = -1 then u else u.set x.toNat true
def outS (u : List Bool) (xs : List Int) : List Bool := xs.foldl mark u
def bkStep (v : List Bool) (i : Nat) (x : II) : List Bool := if v.getD i false = true ∧ (x.1 = 3 ∨ x.1 = 4) then outS v [x.2.2.1, x.2.2.2.1] else v
/-- What they are made of, from the last one back: j of them. -/
def bkU (c : List II) (u : List Bool) : Nat → List Bool
  | 0 => u
  | j + 1 => match c[c.length - (j + 1)]? with | some x => bkStep (bkU c u j) (c.length - (j + 1)) x | none => bkU c u j
def plX (P : List Int) (n : Int) (x : II) : II := if x.1 = 3 ∨ x.1 = 4 then (x.1, n, P.getD x.2.2.1.toNat 0, P.getD x.2.2.2.1.toNat 0, x.2.2.2.2) else (x.1, n, x.2.2.1, x.2.2.2.1, x.2.2.2.2)
/-- Where the values go, and the values that stay. -/
def plS (c : List II) (u : List Bool) : Nat → List Int × List II
  | 0 => (List.replicate c.length 0, [])
  | k + 1 => match c[k]? with
    | some x => if u.getD k false = true then ((plS c u k).1.set k (((plS c u k).2.length : Nat) : Int), (plS c u k).2 ++ [plX ((plS c u k).1.set k (((plS c u k).2.length : Nat) : Int)) (((plS c u k).2.length : Nat) : Int) x]) else plS c u k
    | none => plS c u k
def movI (P : List Int) (x : Int) : Int := P.getD x.toNat 0
def movL (P : List Int) (l : List Int) : List Int := l.map (movI P)
def movO (P : List Int) (x : Int) : Int := if x = -1 then -1 else movI P x
def swU (c : List II) (od rd : List Int) (fl tg : Int) : List Bool := bkU c (outS (outS (outS (List.replicate c.length false) od) rd) [fl, tg]) c.length
def swP (c : List II) (od rd : List Int) (fl tg : Int) : List Int := (plS c (swU c od rd fl tg) c.length).1
def swC (c : List II) (od rd : List Int) (fl tg : Int) : List II := (plS c (swU c od rd fl tg) c.length).2
@[simp] theorem mark_len (u : List Bool) (x : Int) : (mark u x).length = u.length := by unfold mark; split <;> simp
@[simp] theorem outS_len : ∀ (xs : List Int) (u : List Bool), (outS u xs).length = u.length
  | [], u => rfl
  | x :: xs, u => by show (outS (mark u x) xs).length = _; rw [outS_len xs]; simp
@[simp] theorem bkU_len (c : List II) (u : List Bool) : ∀ k, (bkU c u k).length = u.length
  | 0 => rfl
  | k + 1 => by unfold bkU; split; (unfold bkStep; split <;> simp [bkU_len c u k]); exact bkU_len c u k
@[simp] theorem plS_len (c : List II) (u : List Bool) : ∀ k, (plS c u k).1.length = c.length
  | 0 => by simp [plS]
  | k + 1 => by unfold plS; split; (split <;> simp [plS_len c u k]); exact plS_len c u k
theorem plS_le (c : List II) (u : List Bool) : ∀ k, (plS c u k).2.length ≤ k
  | 0 => by simp [plS]
  | k + 1 => by
    have := plS_le c u k
    unfold plS; split
    · split
      · simp; exact this
      · omega
    · omega
@[simp] theorem movL_len (P l : List Int) : (movL P l).length = l.length := by simp [movL]
theorem outS_succ {u : List Bool} {xs : List Int} {j : Nat} {x : Int} (h : xs[j]? = some x) : outS u (xs.take (j + 1)) = mark (outS u (xs.take j)) x := by unfold outS; rw [List.take_add_one, h]; simp
theorem mark_at (u : List Bool) (n : Nat) : mark u (n : Int) = u.set n true := by unfold mark; rw [if_neg (by omega)]; simp
theorem bkU_step {c : List II} {u : List Bool} {i : Nat} {x : II} (h : c[i]? = some x) : bkU c u (c.length - i) = bkStep (bkU c u (c.length - (i + 1))) i x := by
  have hi := (List.getElem?_eq_some_iff.1 h).1
  obtain ⟨j, hj⟩ : ∃ j, c.length - (i + 1) = j := ⟨_, rfl⟩
  rw [hj, show c.length - i = j + 1 by omega]
  show (match c[c.length - (j + 1)]? with | some x => _ | none => _) = _
  rw [show c.length - (j + 1) = i by omega, h]
theorem bkStep_yes {v : List Bool} {i : Nat} {x : II} (h : v[i]? = some true) (hx : x.1 = 3 ∨ x.1 = 4) : bkStep v i x = outS v [x.2.2.1, x.2.2.2.1] := if_pos ⟨by rw [List.getD_eq_getElem?_getD, h]; rfl, hx⟩
theorem bkStep_no {v : List Bool} {i : Nat} {x : II} (hx : ¬ (x.1 = 3 ∨ x.1 = 4)) : bkStep v i x = v := if_neg fun h => hx h.2
theorem bkStep_off {v : List Bool} {i : Nat} {x : II} (h : v[i]? = some false) : bkStep v i x = v := if_neg fun q => by rw [List.getD_eq_getElem?_getD, h] at q; cases q.1
theorem plS_no {c : List II} {u : List Bool} {k : Nat} {x : II} (h : c[k]? = some x) (hu : u[k]? = some false) : plS c u (k + 1) = plS c u k := by
  show (match c[k]? with | some x => _ | none => _) = _
  rw [h]; exact if_neg (by rw [List.getD_eq_getElem?_getD, hu]; exact Bool.false_ne_true)
theorem plS_yes {c : List II} {u : List Bool} {k : Nat} {x : II} (h : c[k]? = some x) (hu : u[k]? = some true) : plS c u (k + 1) = ((plS c u k).1.set k (((plS c u k).2.length : Nat) : Int), (plS c u k).2 ++ [plX ((plS c u k).1.set k (((plS c u k).2.length : Nat) : Int)) (((plS c u k).2.length : Nat) : Int) x]) := by
  show (match c[k]? with | some x => _ | none => _) = _
  rw [h]; exact if_pos (by rw [List.getD_eq_getElem?_getD, hu]; rfl)
theorem movL_snoc {P l : List Int} {k : Nat} {x y : Int} {X : Nat} (h : l[k]? = some x) (hx : x = (X : Int)) (hy : P[X]? = some y) : movL P (l.take k) ++ [y] = movL P (l.take (k + 1)) := by
  subst hx
  unfold movL; rw [List.take_add_one, h]; simp [movI, hy]
theorem plX_yes {P : List Int} {n b1 b2 : Int} {x : II} {A B : Nat} (hx : x.1 = 3 ∨ x.1 = 4) (hA : x.2.2.1 = (A : Int)) (hB : x.2.2.2.1 = (B : Int)) (h1 : P[A]? = some b1) (h2 : P[B]? = some b2) : plX P n x = (x.1, n, b1, b2, x.2.2.2.2) := by
  unfold plX; rw [if_pos hx, hA, hB]; simp [List.getD_eq_getElem?_getD, h1, h2]
theorem plX_no {P : List Int} {n : Int} {x : II} (hx : ¬ (x.1 = 3 ∨ x.1 = 4)) : plX P n x = (x.1, n, x.2.2.1, x.2.2.2.1, x.2.2.2.2) := if_neg hx
theorem movO_at {P : List Int} {x y : Int} {F : Nat} (h : x = (F : Int)) (hy : P[F]? = some y) : y = movO P x := by
  unfold movO; rw [if_neg (by omega), h]; simp [movI, List.getD_eq_getElem?_getD, hy]
theorem movO_no {P : List Int} {x : Int} (h : x = -1) : x = movO P x := by unfold movO; rw [if_pos h]; exact h
noncomputable def f39b : Code := Try.f39.body.getD .skip
theorem f39_body : Try.f39.body = some f39b := by kernel_rfl
theorem f39_fn : T8.fn 39 = some Try.f39 := by kernel_rfl
theorem mark_s {u : List Bool} {l j : List Int} {m kc : Nat} (hm : m = u.length) (hml : m < 100000) (hll : l.length < 100000) (hl : ∀ x ∈ l, x = -1 ∨ (0 ≤ x ∧ x < (m : Int))) : SCall Try.prog T8 39 #[.slice (some ⟨2, 0, none⟩) l.length kc, .pointer (some ⟨0, 0, none⟩)] (hq [some ⟨[Value.slice (some ⟨1, 0, none⟩) m m], 48, false⟩, some ⟨(tab boC u), 4, false⟩, some ⟨(tab inC (l ++ j)), 3, false⟩]) fun v h => v = .tuple #[] ∧ h = hq [some ⟨[Value.slice (some ⟨1, 0, none⟩) m m], 48, false⟩, some ⟨(tab boC (outS u l)), 4, false⟩, some ⟨(tab inC (l ++ j)), 3, false⟩] := by
  refine scall_sd 17 _ 3 kr f39_fn f39_body rfl rfl rfl fun X hX => ?_
  refine sd_run 8 ?_
  refine sd_loop 17 (cl (cl (cr f39b))) [.blk 0] kr kr kr (fun m9 s9 => ∃ (k : Nat), m9 = l.length - k ∧ (k ≤ l.length) ∧ s9 = ⟨tmL [(1, .pointer (some ⟨0, 0, none⟩)), (5, .slice (some ⟨2, 0, none⟩) l.length kc), (6, .int .i64 ((l.length : Nat) : Int)), (7, .int .i64 ((k : Nat) : Int))], hq [some ⟨[Value.slice (some ⟨1, 0, none⟩) m m], 48, false⟩, some ⟨(tab boC (outS u (l.take k))), 4, false⟩, some ⟨(tab inC (l ++ j)), 3, false⟩]⟩) (l.length - 0) _ (emOf [some 0, some 1, some 2]) hX ⟨0, rfl, (by omega), rfl⟩ ⟨sub_of kr kr ⟨bk_ren kr kr, bk_flat (tab boC u) kr (tab_plain boC_pl _) (congrArg (tab boC) (by rfl)), bk_flat (tab inC (l ++ j)) kr (tab_plain inC_pl _) rfl, True.intro⟩, te_of kr kr⟩ kr ?_
  rintro m9 s9 ⟨k, rfl, i1_0, rfl⟩ R1_ hR1_
  by_cases hlt : k < l.length
  · skip
    obtain ⟨a1, ha1⟩ : ∃ x_, (l)[k]? = some x_ := ⟨_, List.getElem?_eq_getElem (by omega)⟩
    rcases hl _ (List.mem_of_getElem? ha1) with hx1 | ⟨qa1, qa2⟩
    · skip
      refine sd_run 3 ?_
      refine sd_see 8 (.bool true) (see_bool kr ((decide_eq_true (by omega)) : ((decide (((k : Nat) : Int) < ((l.length : Nat) : Int)))) = true)) ?_
      refine sd_run 10 ?_
      refine sd_ix 9 (.pointer (some ⟨2, 0 + k * 1, none⟩)) k l.length kr kr kr (by omega) ?_
      refine sd_ld 10 (.int .i64 a1) 3 (.pointer (some ⟨2, 0 + k * 1, none⟩)) kr kr kr (ld_cell (l := l ++ j) (e := 3) (ro := false) (k := k) (j := 0) inC_len kr kr kr (app_at ha1) rfl) ?_
      refine sd_see 10 (.int .i64 (-1)) (see_int (x := a1) kr hx1) ?_
      refine sd_run 15 ?_
      refine sd_see 16 (.int .i64 ((k + 1 : Nat) : Int)) (see_int (x := (IntKind.i64.wrap (((k : Nat) : Int) + 1))) kr (w64 (by omega) (by omega) (by omega))) ?_
      refine sd_run 2 ?_
      refine sd_inv R1_ kr (hR1_ _ (l.length - (k + 1)) _ (emOf [some 0, some 1, some 2]) (by omega) ⟨k + 1, rfl, (by omega), rfl⟩ ⟨sub_of kr kr ⟨bk_ren kr kr, bk_flat (tab boC (outS u (l.take k))) kr (tab_plain boC_pl _) (congrArg (tab boC) (by rw [outS_succ ha1, hx1]; rfl)), bk_flat (tab inC (l ++ j)) kr (tab_plain inC_pl _) rfl, True.intro⟩, te_of kr kr⟩ kr)
    · skip
      obtain ⟨A, hA⟩ := Int.eq_ofNat_of_zero_le qa1
      refine sd_run 3 ?_
      refine sd_see 8 (.bool true) (see_bool kr ((decide_eq_true (by omega)) : ((decide (((k : Nat) : Int) < ((l.length : Nat) : Int)))) = true)) ?_
      refine sd_run 10 ?_
      refine sd_ix 9 (.pointer (some ⟨2, 0 + k * 1, none⟩)) k l.length kr kr kr (by omega) ?_
      refine sd_ld 10 (.int .i64 a1) 3 (.pointer (some ⟨2, 0 + k * 1, none⟩)) kr kr kr (ld_cell (l := l ++ j) (e := 3) (ro := false) (k := k) (j := 0) inC_len kr kr kr (app_at ha1) rfl) ?_
      refine sd_see 10 (.int .i64 ((A : Nat) : Int)) (see_int (x := a1) kr hA) ?_
      refine sd_run 7 ?_
      refine sd_see 12 (.bool true) (see_bool kr ((bne_iff_ne.2 (by omega)) : ((((A : Nat) : Int) != (-1))) = true)) ?_
      refine sd_run 6 ?_
      refine sd_ix 15 (.pointer (some ⟨1, 0 + A * 1, none⟩)) A m kr kr kr (by omega) ?_
      obtain ⟨a2, ha2⟩ : ∃ x_, (outS u (l.take k))[A]? = some x_ := ⟨_, List.getElem?_eq_getElem (by simp; omega)⟩
      refine sd_st 4 1 (0 + A * 1) (.bool true) (tab boC ((outS u (l.take k)).set A true)) (cells := tab boC (outS u (l.take k))) (e := 4) kr kr kr kr (st_cell (k := A) (j := 0) (a' := true) boC_len kr kr ha2 kr rfl) ?_
      refine sd_run 5 ?_
      refine sd_see 16 (.int .i64 ((k + 1 : Nat) : Int)) (see_int (x := (IntKind.i64.wrap (((k : Nat) : Int) + 1))) kr (w64 (by omega) (by omega) (by omega))) ?_
      refine sd_run 2 ?_
      refine sd_inv R1_ kr (hR1_ _ (l.length - (k + 1)) _ (emOf [some 0, some 1, some 2]) (by omega) ⟨k + 1, rfl, (by omega), rfl⟩ ⟨sub_of kr kr ⟨bk_ren kr kr, bk_flat (tab boC ((outS u (l.take k)).set A true)) kr (tab_plain boC_pl _) (congrArg (tab boC) (by rw [outS_succ ha1, hA, mark_at])), bk_flat (tab inC (l ++ j)) kr (tab_plain inC_pl _) rfl, True.intro⟩, te_of kr kr⟩ kr)
  · skip
    obtain rfl : k = l.length := by omega
    refine sd_run 3 ?_
    refine sd_see 8 (.bool false) (see_bool kr ((decide_eq_false (by omega)) : ((decide (((l.length : Nat) : Int) < ((l.length : Nat) : Int)))) = false)) ?_
    refine sd_run 8 ?_
    refine sd_end (.tuple #[]) hX kr kr kr (.tuple #[]) (hq [some ⟨[Value.slice (some ⟨1, 0, none⟩) m m], 48, false⟩, some ⟨(tab boC (outS u l)), 4, false⟩, some ⟨(tab inC (l ++ j)), 3, false⟩]) (emOf [some 0, some 1, some 2]) (sub_of kr kr ⟨bk_ren kr kr, bk_flat (tab boC (outS u (l.take l.length))) kr (tab_plain boC_pl _) (congrArg (tab boC) (by rw [List.take_length])), bk_flat (tab inC (l ++ j)) kr (tab_plain inC_pl _) rfl, True.intro⟩) (rn2_sound _ _ kr) ⟨rfl, rfl⟩
noncomputable def f40b : Code := Try.f40.body.getD .skip
theorem f40_body : Try.f40.body = some f40b := by kernel_rfl
theorem f40_fn : T8.fn 40 = some Try.f40 := by kernel_rfl
theorem moved_s {P l j : List Int} {m : Nat} (hm : m = P.length) (hml : m < 100000) (hll : l.length < 100000) (hl : ∀ x ∈ l, 0 ≤ x ∧ x < (m : Int)) : SCall Try.prog T8 40 #[.slice (some ⟨2, 0, none⟩) l.length (unk + 1), .pointer (some ⟨0, 0, none⟩)] (hq [some ⟨[Value.slice (some ⟨1, 0, none⟩) m m], 22, false⟩, some ⟨(tab inC P), 3, false⟩, some ⟨(tab inC (l ++ j)), 3, false⟩]) fun v h => v = .slice (some ⟨3, 0, none⟩) ((movL P l).length) (unk + 1) ∧ h = hq [some ⟨[Value.slice (some ⟨1, 0, none⟩) m m], 22, false⟩, some ⟨(tab inC P), 3, false⟩, some ⟨(tab inC (l ++ j)), 3, false⟩, some ⟨(tab inC (movL P l)), 3, false⟩] := by
  refine scall_sd 22 _ 3 kr f40_fn f40_body rfl rfl rfl fun X hX => ?_
  refine sd_run 19 ?_
  refine sd_loop 22 (cl (cl (cr (cl (cr (cr f40b)))))) [.blk 0, .next (cr (cr (cr f40b)))] kr kr kr (fun m9 s9 => ∃ (k : Nat), m9 = l.length - k ∧ (k ≤ l.length) ∧ s9 = ⟨tmL [(1, .pointer (some ⟨0, 0, none⟩)), (4, .slice (some ⟨3, 0, none⟩) k (unk + 1)), (7, .slice (some ⟨2, 0, none⟩) l.length (unk + 1)), (8, .int .i64 ((l.length : Nat) : Int)), (9, .int .i64 ((k : Nat) : Int))], hq [some ⟨[Value.slice (some ⟨1, 0, none⟩) m m], 22, false⟩, some ⟨(tab inC P), 3, false⟩, some ⟨(tab inC (l ++ j)), 3, false⟩, some ⟨(tab inC (movL P (l.take k))), 3, false⟩]⟩) (l.length - 0) _ (emOf [some 0, some 1, some 2, none]) hX ⟨0, rfl, (by omega), rfl⟩ ⟨sub_of kr kr ⟨bk_ren kr kr, bk_flat (tab inC P) kr (tab_plain inC_pl _) rfl, bk_flat (tab inC (l ++ j)) kr (tab_plain inC_pl _) rfl, rfl, True.intro⟩, te_of kr kr⟩ kr ?_
  rintro m9 s9 ⟨k, rfl, i1_0, rfl⟩ R1_ hR1_
  by_cases hlt : k < l.length
  · skip
    obtain ⟨a1, ha1⟩ : ∃ x_, (l)[k]? = some x_ := ⟨_, List.getElem?_eq_getElem (by omega)⟩
    obtain ⟨qa1, qa2⟩ := hl _ (List.mem_of_getElem? ha1)
    obtain ⟨A, hA⟩ := Int.eq_ofNat_of_zero_le qa1
    obtain ⟨a2, ha2⟩ : ∃ x_, (P)[A]? = some x_ := ⟨_, List.getElem?_eq_getElem (by omega)⟩
    refine sd_run 3 ?_
    refine sd_see 10 (.bool true) (see_bool kr ((decide_eq_true (by omega)) : ((decide (((k : Nat) : Int) < ((l.length : Nat) : Int)))) = true)) ?_
    refine sd_run 10 ?_
    refine sd_ix 11 (.pointer (some ⟨2, 0 + k * 1, none⟩)) k l.length kr kr kr (by omega) ?_
    refine sd_ld 12 (.int .i64 a1) 3 (.pointer (some ⟨2, 0 + k * 1, none⟩)) kr kr kr (ld_cell (l := l ++ j) (e := 3) (ro := false) (k := k) (j := 0) inC_len kr kr kr (app_at ha1) rfl) ?_
    refine sd_see 12 (.int .i64 ((A : Nat) : Int)) (see_int (x := a1) kr hA) ?_
    refine sd_run 7 ?_
    refine sd_ix 16 (.pointer (some ⟨1, 0 + A * 1, none⟩)) A m kr kr kr (by omega) ?_
    refine sd_ld 17 (.int .i64 a2) 3 (.pointer (some ⟨1, 0 + A * 1, none⟩)) kr kr kr (ld_cell (l := P) (e := 3) (ro := false) (k := A) (j := 0) inC_len kr kr kr ha2 rfl) ?_
    refine sd_run 1 ?_
    refine sd_grow 19 22 22 3 0 7 3 k 1 5 (.slice (some ⟨4, 0, none⟩) 1 1) (tab inC (movL P (l.take k))) [Value.int .i64 a2] (tab inC (movL P (l.take k) ++ [a2])) kr kr kr kr kr ((tab_len inC_len _).trans (by rw [movL_len, List.length_take, Nat.min_eq_left (by omega)])) kr kr (by decide) kr (by omega) kr (tab_snoc (movL P (l.take k)) a2) ?_
    refine sd_run 6 ?_
    refine sd_see 20 (.int .i64 ((k + 1 : Nat) : Int)) (see_int (x := (IntKind.i64.wrap (((k : Nat) : Int) + 1))) kr (w64 (by omega) (by omega) (by omega))) ?_
    refine sd_run 2 ?_
    refine sd_inv R1_ kr (hR1_ _ (l.length - (k + 1)) _ (emOf [some 0, some 1, some 2, some 5]) (by omega) ⟨k + 1, rfl, (by omega), rfl⟩ ⟨sub_of kr kr ⟨bk_ren kr kr, bk_flat (tab inC P) kr (tab_plain inC_pl _) rfl, bk_flat (tab inC (l ++ j)) kr (tab_plain inC_pl _) rfl, bk_flat (tab inC (movL P (l.take k) ++ [a2])) kr (tab_plain inC_pl _) (congrArg (tab inC) (movL_snoc ha1 hA ha2)), True.intro⟩, te_of kr kr⟩ kr)
  · skip
    obtain rfl : k = l.length := by omega
    refine sd_run 3 ?_
    refine sd_see 10 (.bool false) (see_bool kr ((decide_eq_false (by omega)) : ((decide (((l.length : Nat) : Int) < ((l.length : Nat) : Int)))) = false)) ?_
    refine sd_run 16 ?_
    refine sd_see 3 (.slice (some ⟨3, 0, none⟩) ((movL P l).length) (unk + 1)) (see_len (n := l.length) kr (by rw [movL_len])) ?_
    refine sd_end (.slice (some ⟨3, 0, none⟩) ((movL P l).length) (unk + 1)) hX kr kr kr (.slice (some ⟨3, 0, none⟩) ((movL P l).length) (unk + 1)) (hq [some ⟨[Value.slice (some ⟨1, 0, none⟩) m m], 22, false⟩, some ⟨(tab inC P), 3, false⟩, some ⟨(tab inC (l ++ j)), 3, false⟩, some ⟨(tab inC (movL P l)), 3, false⟩]) (emOf [some 0, some 1, some 2, some 3]) (sub_of kr kr ⟨bk_ren kr kr, bk_flat (tab inC P) kr (tab_plain inC_pl _) rfl, bk_flat (tab inC (l ++ j)) kr (tab_plain inC_pl _) rfl, bk_flat (tab inC (movL P (l.take l.length))) kr (tab_plain inC_pl _) (congrArg (tab inC) (by rw [List.take_length])), True.intro⟩) (rn2_sound _ _ kr) ⟨rfl, rfl⟩
end Ls
end Go.Proofs.Ytahikechkggbfaa
