/- Chapter 21: an operation; values are put, by a plan. -/
import Derived.Test.YtegjicaoemhhlaaJt
import Derived.Test.YtegjicaoemhhlaaJi
namespace Go.Proofs.Ytegjicaoemhhlaa
open Go Go.Ev Go.RowKit
set_option linter.unusedVariables false
set_option linter.unusedSimpArgs false
set_option maxRecDepth 100000
namespace Ls
noncomputable def f35b : Code := Try.f35.body.getD .skip
theorem f35_body : Try.f35.body = some f35b := by kernel_rfl
theorem f35_fn : T16.fn 35 = some Try.f35 := by kernel_rfl
set_option maxHeartbeats 1000000 in
theorem make_s {o dst a b im : Int} {q : Sx} {d dj r rj V : List Int} {ro : Bool} {vm ka kb : Nat} {rg sl : List Int} {mh mk : List (Int × Int)} {slots : Int} {kc kd : Nat} (ho : o = 0 ∨ (o = 1 ∧ im < (d.length : Int)) ∨ (o = 2 ∧ im < (r.length : Int)) ∨ ((o = 3 ∨ o = 4) ∧ (0 ≤ a ∧ a < (V.length : Int)) ∧ (0 ≤ b ∧ b < (V.length : Int)))) (hi : 0 ≤ im ∧ im < 4294967296) (hV : V32 V) (hl : V.length < 1000) (hdl : d.length ≤ 16) (hrl : r.length ≤ 16) (hvm : GP V rg sl mh mk vm) : SCall Try.prog T16 35 #[.agg #[.int .i64 o, .int .i64 dst, .int .i64 a, .int .i64 b, .int .u32 im], (stq q q.pc (.slice (some ⟨0, 0, none⟩) d.length ka) (.slice (some ⟨1, 0, none⟩) r.length kb) q.fl q.cnt), .func (.func 34) #[] #[.pointer (some ⟨2, 0, none⟩), .pointer (some ⟨5, 0, none⟩), .pointer (some ⟨6, 0, none⟩)]] (hq [(uCo (d ++ dj) ro), (uCo (r ++ rj) ro), some ⟨[Value.slice (some ⟨3, 0, none⟩) vm kc, .slice (some ⟨4, 0, none⟩) vm kd, .int .i64 slots], 38, false⟩, (inCo rg false), (inCo sl false), some ⟨[Value.map (some 7)], 75, false⟩, some ⟨[Value.map (some 8)], 75, false⟩, (mmCo mh false), (mmCo mk false)]) fun v h => v = .int .u32 (mkV d r V (o, dst, a, b, im)) ∧ h = hq [(uCo (d ++ dj) ro), (uCo (r ++ rj) ro), some ⟨[Value.slice (some ⟨3, 0, none⟩) vm kc, .slice (some ⟨4, 0, none⟩) vm kd, .int .i64 slots], 38, false⟩, (inCo rg false), (inCo sl false), some ⟨[Value.map (some 7)], 75, false⟩, some ⟨[Value.map (some 8)], 75, false⟩, (mmCo mh false), (mmCo mk false)] := by
 rcases ho with ho0 | ⟨ho1, ho2⟩ | ⟨ho1, ho2⟩ | ⟨ho1 | ho1, ⟨ha1, ha2⟩, hb1, hb2⟩
 ·skip
  refine scall_sd 78 _ 9 kr f35_fn f35_body rfl rfl rfl fun X hX => ?_
  refine sd_run 23 (sdE 11 (o : Int) 0 (by omega) kr (sd_run 14 ?_))
  refine sdY (.int .u32 im) hX [(uCo (d ++ dj) ro), (uCo (r ++ rj) ro), some ⟨[Value.slice (some ⟨3, 0, none⟩) vm kc, .slice (some ⟨4, 0, none⟩) vm kd, .int .i64 slots], 38, false⟩, (inCo rg false), (inCo sl false), some ⟨[Value.map (some 7)], 75, false⟩, some ⟨[Value.map (some 8)], 75, false⟩, (mmCo mh false), (mmCo mk false)] i9_ ⟨uC_b, uC_b, brn, inC_b, inC_b, brn, brn, mmC_b, mmC_b, ⟨⟩⟩ ⟨(by congr 1; unfold mkV; rw [if_pos ho0]), rfl⟩
 ·skip
  obtain ⟨A, hA⟩ := Int.eq_ofNat_of_zero_le hi.1
  refine scall_sd 78 _ 9 kr f35_fn f35_body rfl rfl rfl fun X hX => ?_
  refine sd_run 23 (sdN 11 (o : Int) 0 (by omega) kr (sd_run 7 (sdE 15 (o : Int) 1 (by omega) kr (sd_run 12 (sd_see 21 (.int .i64 ((d.length : Int) - 1)) (see_int (x := (IntKind.i64.wrap ((d.length : Int) - 1))) kr (i64w (by omega) (by omega) (by omega))) (sd_run 3 (sd_see 24 (.int .i64 im) (see_int (x := IntKind.i64.wrap im) kr (w64 rfl (by omega) (by omega))) ?_)))))))
  refine sd_run 1 (sd_see 25 (.int .i64 (((d.length - 1 - A) : Nat) : Int)) (see_int (x := (IntKind.i64.wrap (((d.length : Int) - 1) - im))) kr (i64w (by omega) (by omega) (by omega))) (sd_ix 26 (.pointer (some ⟨0, 0 + (d.length - 1 - A) * 1, none⟩)) (d.length - 1 - A) d.length kr kr kr (by first | omega | (simp; done) | (simp; omega)) ?_))
  obtain ⟨a1, ha1⟩ : ∃ x_, (d)[d.length - 1 - A]? = some x_ := ⟨_, List.getElem?_eq_getElem (by omega)⟩
  refine sd_ld 27 (.int .u32 a1) 27 (.pointer (some ⟨0, 0 + (d.length - 1 - A) * 1, none⟩)) kr kr kr (ld_cell (l := d ++ dj) (e := 27) (ro := ro) (k := d.length - 1 - A) (j := 0) uC_len kr kr kr (app_at ha1) rfl) (sd_run 6 ?_)
  refine sdY (.int .u32 a1) hX [(uCo (d ++ dj) ro), (uCo (r ++ rj) ro), some ⟨[Value.slice (some ⟨3, 0, none⟩) vm kc, .slice (some ⟨4, 0, none⟩) vm kd, .int .i64 slots], 38, false⟩, (inCo rg false), (inCo sl false), some ⟨[Value.map (some 7)], 75, false⟩, some ⟨[Value.map (some 8)], 75, false⟩, (mmCo mh false), (mmCo mk false)] i9_ ⟨uC_b, uC_b, brn, inC_b, inC_b, brn, brn, mmC_b, mmC_b, ⟨⟩⟩ ⟨(by congr 1; unfold mkV argD; rw [if_neg (by omega), if_pos ho1, show im.toNat = A by omega, List.getD_eq_getElem?_getD, ha1]; rfl), rfl⟩
 ·skip
  obtain ⟨A, hA⟩ := Int.eq_ofNat_of_zero_le hi.1
  refine scall_sd 78 _ 9 kr f35_fn f35_body rfl rfl rfl fun X hX => ?_
  refine sd_run 23 (sdN 11 (o : Int) 0 (by omega) kr (sd_run 7 (sdN 15 (o : Int) 1 (by omega) kr (sd_run 7 (sdE 29 (o : Int) 2 (by omega) kr (sd_run 12 (sd_see 35 (.int .i64 ((r.length : Int) - 1)) (see_int (x := (IntKind.i64.wrap ((r.length : Int) - 1))) kr (i64w (by omega) (by omega) (by omega))) ?_)))))))
  refine sd_run 3 (sd_see 38 (.int .i64 im) (see_int (x := IntKind.i64.wrap im) kr (w64 rfl (by omega) (by omega))) (sd_run 1 (sd_see 39 (.int .i64 (((r.length - 1 - A) : Nat) : Int)) (see_int (x := (IntKind.i64.wrap (((r.length : Int) - 1) - im))) kr (i64w (by omega) (by omega) (by omega))) (sd_ix 40 (.pointer (some ⟨1, 0 + (r.length - 1 - A) * 1, none⟩)) (r.length - 1 - A) r.length kr kr kr (by first | omega | (simp; done) | (simp; omega)) ?_))))
  obtain ⟨a2, ha2⟩ : ∃ x_, (r)[r.length - 1 - A]? = some x_ := ⟨_, List.getElem?_eq_getElem (by omega)⟩
  refine sd_ld 41 (.int .u32 a2) 27 (.pointer (some ⟨1, 0 + (r.length - 1 - A) * 1, none⟩)) kr kr kr (ld_cell (l := r ++ rj) (e := 27) (ro := ro) (k := r.length - 1 - A) (j := 0) uC_len kr kr kr (app_at ha2) rfl) (sd_run 6 ?_)
  refine sdY (.int .u32 a2) hX [(uCo (d ++ dj) ro), (uCo (r ++ rj) ro), some ⟨[Value.slice (some ⟨3, 0, none⟩) vm kc, .slice (some ⟨4, 0, none⟩) vm kd, .int .i64 slots], 38, false⟩, (inCo rg false), (inCo sl false), some ⟨[Value.map (some 7)], 75, false⟩, some ⟨[Value.map (some 8)], 75, false⟩, (mmCo mh false), (mmCo mk false)] i9_ ⟨uC_b, uC_b, brn, inC_b, inC_b, brn, brn, mmC_b, mmC_b, ⟨⟩⟩ ⟨(by congr 1; unfold mkV argD; rw [if_neg (by omega), if_neg (by omega), if_pos ho1, show im.toNat = A by omega, List.getD_eq_getElem?_getD, ha2]; rfl), rfl⟩
 ·skip
  obtain ⟨A, hA⟩ := Int.eq_ofNat_of_zero_le ha1
  obtain ⟨B, hB⟩ := Int.eq_ofNat_of_zero_le hb1
  refine scall_sd 78 _ 9 kr f35_fn f35_body rfl rfl rfl fun X hX => ?_
  refine sd_run 23 (sdN 11 (o : Int) 0 (by omega) kr (sd_run 7 (sdN 15 (o : Int) 1 (by omega) kr (sd_run 7 (sdN 29 (o : Int) 2 (by omega) kr (sd_run 7 (sdE 43 (o : Int) 3 (by omega) kr ?_)))))))
  refine sd_run 4 (sd_drawP kr ?_)
  refine svp_go 1 ?_
  refine svp_line ?_
  refine sv_rd 46 (.int .u32 im) 27 9 4 kr kr kr kr (veq_int _ _) kr ?_
  refine sv_run 1 ?_
  refine sv_see 47 (.int .i64 im) (see_int (x := IntKind.i64.wrap im) kr (w64 rfl (by omega) (by omega))) ?_
  refine sv_run 3 ?_
  refine sv_see 50 (.int .i64 (A : Int)) (see_int (x := a) kr hA) ?_
  refine sv_callp 51 34 #[.int .i64 (A : Int), .pointer (some ⟨2, 0, none⟩), .pointer (some ⟨5, 0, none⟩), .pointer (some ⟨6, 0, none⟩)] (get_s (n := A) (vm := vm) (kc := kc) (rg := rg) (kd := kd) (sl := sl) (slots := slots) (mh := mh) (mk := mk) (by omega) hl hvm) [some 2, some 3, some 4, some 5, some 6, some 7, some 8] kr kr kr (hn_of 0 kr ⟨brn, inC_b, inC_b, brn, brn, mmC_b, mmC_b, ⟨⟩⟩) kr kr ?_
  rintro v9 k9 ⟨rfl, rfl⟩
  refine ⟨rfl, .int .u32 (V.getD A 0), kr, ?_⟩
  refine sv_run 2 ?_
  refine sv_rd 54 (.int .i64 b) 3 9 3 kr kr kr kr (veq_int _ _) kr ?_
  refine sv_see 54 (.int .i64 (B : Int)) (see_int (x := b) kr hB) ?_
  refine sv_callp 55 34 #[.int .i64 (B : Int), .pointer (some ⟨2, 0, none⟩), .pointer (some ⟨5, 0, none⟩), .pointer (some ⟨6, 0, none⟩)] (get_s (n := B) (vm := vm) (kc := kc) (rg := rg) (kd := kd) (sl := sl) (slots := slots) (mh := mh) (mk := mk) (by omega) hl hvm) [some 2, some 3, some 4, some 5, some 6, some 7, some 8] kr kr kr (hn_of 0 kr ⟨brn, inC_b, inC_b, brn, brn, mmC_b, mmC_b, ⟨⟩⟩) kr kr ?_
  rintro v9 k9 ⟨rfl, rfl⟩
  refine ⟨rfl, .int .u32 (V.getD B 0), kr, ?_⟩
  refine sv_ask 56 (.tuple #[.int .u32 (doR im (V.getD A 0) (V.getD B 0)), .int .u32 (doF im (V.getD A 0) (V.getD B 0)), .bool (doK im (V.getD B 0))]) 52 #[.int .i64 im, .int .u32 (V.getD A 0), .int .u32 (V.getD B 0)] kr kr kr (orc52 im (V.getD A 0) (V.getD B 0) (u32B2 (hV.getD _) (hV.getD _))) ?_
  refine sv_run 5 ?_
  refine sv_end kr ?_
  refine sd_run 9 ?_
  refine sdY (.int .u32 (doR im (V.getD A 0) (V.getD B 0))) hX [(uCo (d ++ dj) ro), (uCo (r ++ rj) ro), some ⟨[Value.slice (some ⟨3, 0, none⟩) vm kc, .slice (some ⟨4, 0, none⟩) vm kd, .int .i64 slots], 38, false⟩, (inCo rg false), (inCo sl false), some ⟨[Value.map (some 7)], 75, false⟩, some ⟨[Value.map (some 8)], 75, false⟩, (mmCo mh false), (mmCo mk false)] i9_ ⟨uC_b, uC_b, brn, inC_b, inC_b, brn, brn, mmC_b, mmC_b, ⟨⟩⟩ ⟨(by congr 1; unfold mkV; rw [if_neg (by omega), if_neg (by omega), if_neg (by omega), if_pos ho1, show a.toNat = A by omega, show b.toNat = B by omega]), rfl⟩
 ·skip
  obtain ⟨A, hA⟩ := Int.eq_ofNat_of_zero_le ha1
  obtain ⟨B, hB⟩ := Int.eq_ofNat_of_zero_le hb1
  refine scall_sd 78 _ 9 kr f35_fn f35_body rfl rfl rfl fun X hX => ?_
  refine sd_run 23 (sdN 11 (o : Int) 0 (by omega) kr (sd_run 7 (sdN 15 (o : Int) 1 (by omega) kr (sd_run 7 (sdN 29 (o : Int) 2 (by omega) kr (sd_run 7 (sdN 43 (o : Int) 3 (by omega) kr ?_)))))))
  refine sd_run 7 (sdE 61 (o : Int) 4 (by omega) kr (sd_run 4 (sd_drawP kr ?_)))
  refine svp_go 1 ?_
  refine svp_line ?_
  refine sv_rd 64 (.int .u32 im) 27 9 4 kr kr kr kr (veq_int _ _) kr ?_
  refine sv_run 1 ?_
  refine sv_see 65 (.int .i64 im) (see_int (x := IntKind.i64.wrap im) kr (w64 rfl (by omega) (by omega))) ?_
  refine sv_run 3 ?_
  refine sv_see 68 (.int .i64 (A : Int)) (see_int (x := a) kr hA) ?_
  refine sv_callp 69 34 #[.int .i64 (A : Int), .pointer (some ⟨2, 0, none⟩), .pointer (some ⟨5, 0, none⟩), .pointer (some ⟨6, 0, none⟩)] (get_s (n := A) (vm := vm) (kc := kc) (rg := rg) (kd := kd) (sl := sl) (slots := slots) (mh := mh) (mk := mk) (by omega) hl hvm) [some 2, some 3, some 4, some 5, some 6, some 7, some 8] kr kr kr (hn_of 0 kr ⟨brn, inC_b, inC_b, brn, brn, mmC_b, mmC_b, ⟨⟩⟩) kr kr ?_
  rintro v9 k9 ⟨rfl, rfl⟩
  refine ⟨rfl, .int .u32 (V.getD A 0), kr, ?_⟩
  refine sv_run 2 ?_
  refine sv_rd 72 (.int .i64 b) 3 9 3 kr kr kr kr (veq_int _ _) kr ?_
  refine sv_see 72 (.int .i64 (B : Int)) (see_int (x := b) kr hB) ?_
  refine sv_callp 73 34 #[.int .i64 (B : Int), .pointer (some ⟨2, 0, none⟩), .pointer (some ⟨5, 0, none⟩), .pointer (some ⟨6, 0, none⟩)] (get_s (n := B) (vm := vm) (kc := kc) (rg := rg) (kd := kd) (sl := sl) (slots := slots) (mh := mh) (mk := mk) (by omega) hl hvm) [some 2, some 3, some 4, some 5, some 6, some 7, some 8] kr kr kr (hn_of 0 kr ⟨brn, inC_b, inC_b, brn, brn, mmC_b, mmC_b, ⟨⟩⟩) kr kr ?_
  rintro v9 k9 ⟨rfl, rfl⟩
  refine ⟨rfl, .int .u32 (V.getD B 0), kr, ?_⟩
  refine sv_ask 74 (.tuple #[.int .u32 (doF im (V.getD A 0) (V.getD B 0)), .bool (doK im (V.getD B 0))]) 53 #[.int .i64 im, .int .u32 (V.getD A 0), .int .u32 (V.getD B 0)] kr kr kr (orc53 im (V.getD A 0) (V.getD B 0) (u32B2 (hV.getD _) (hV.getD _))) ?_
  refine sv_run 4 ?_
  refine sv_end kr ?_
  refine sd_run 9 ?_
  refine sdY (.int .u32 (doF im (V.getD A 0) (V.getD B 0))) hX [(uCo (d ++ dj) ro), (uCo (r ++ rj) ro), some ⟨[Value.slice (some ⟨3, 0, none⟩) vm kc, .slice (some ⟨4, 0, none⟩) vm kd, .int .i64 slots], 38, false⟩, (inCo rg false), (inCo sl false), some ⟨[Value.map (some 7)], 75, false⟩, some ⟨[Value.map (some 8)], 75, false⟩, (mmCo mh false), (mmCo mk false)] i9_ ⟨uC_b, uC_b, brn, inC_b, inC_b, brn, brn, mmC_b, mmC_b, ⟨⟩⟩ ⟨(by congr 1; unfold mkV; rw [if_neg (by omega), if_neg (by omega), if_neg (by omega), if_neg (by omega), show a.toNat = A by omega, show b.toNat = B by omega]), rfl⟩
def CapK (k n : Nat) : Prop := k = unk + 1 ∨ (n ≤ k ∧ k < unk)
theorem aslice_hiK {T : Tab} {t e : TypeId} {b off n h ka : Nat} {kk : IntKind} (hT : T.under t = some (.slice e)) (hz : T.size e = some 1) (hh : h ≤ n) (hk : CapK ka n) : aslice T t (.slice (some ⟨b, off, none⟩) n ka) none (some (.int kk (h : Int))) none = some (.slice (some ⟨b, off, none⟩) h ka) := by
 rcases hk with rfl | ⟨h1, h2⟩
 ·exact aslice_hi hT hz hh
 ·unfold aslice
  have e1 : Nat.ble 0 h = true := Nat.ble_eq_true_of_le (Nat.zero_le _)
  have e2 : Nat.ble unk ka = false := by rw [ble_dec]; simp; exact h2
  have e3 : Nat.ble h ka = true := Nat.ble_eq_true_of_le (by omega)
  simp only [hT, hz, show (h : Int) = Int.ofNat h from rfl, e1, e2, e3, cond_true, cond_false, Nat.sub_zero, Nat.zero_mul]
  cases ka.beq 0 <;> rfl
theorem sd_slk {P : Program} {T : Tab} {X : Cx} {Q : Xt → St → Prop} {c : Cf} (t : Nat) (ty e : TypeId) (b off n h ka : Nat) (kk : IntKind) (ho : okOp c t = true) (hs : strictC c = true) (hA : slOf c.s.tm (opC c).op = some (ty, .slice (some ⟨b, off, none⟩) n ka, none, some (.int kk (h : Int)))) (hT : T.under ty = some (.slice e)) (hz : T.size e = some 1) (hh : h ≤ n) (hk : CapK ka n)
    (hd : SD P T X Q (c.put t (.slice (some ⟨b, off, none⟩) h ka) c.s.H)) : SD P T X Q c :=
 sd_val t _ c.s.H ho hs (aop_slice hA (aslice_hiK hT hz hh hk)) hd
noncomputable def f54b : Code := Try.f54.body.getD .skip
theorem f54_body : Try.f54.body = some f54b := by kernel_rfl
theorem f54_fn : T16.fn 54 = some Try.f54 := by kernel_rfl
theorem put_s {l lj out V : List Int} {need vm ka : Nat} {ro : Bool} {rg sl : List Int} {mh mk : List (Int × Int)} {slots : Int} {kc kd : Nat} (hn : need ≤ l.length) (hll : l.length < 100000) (hol : out.length < 100000) (ho : ∀ x ∈ out, 0 ≤ x ∧ x < (V.length : Int)) (hl : V.length < 1000) (hvm : GP V rg sl mh mk vm) (hka : CapK ka l.length) : SCall Try.prog T16 54 #[.slice (some ⟨0, 0, none⟩) l.length ka, .int .i64 (need : Int), (s1 1 out.length), .func (.func 34) #[] #[.pointer (some ⟨2, 0, none⟩), .pointer (some ⟨5, 0, none⟩), .pointer (some ⟨6, 0, none⟩)]] (hq [(uCo (l ++ lj) ro), (inCo out false), some ⟨[Value.slice (some ⟨3, 0, none⟩) vm kc, .slice (some ⟨4, 0, none⟩) vm kd, .int .i64 slots], 38, false⟩, (inCo rg false), (inCo sl false), some ⟨[Value.map (some 7)], 75, false⟩, some ⟨[Value.map (some 8)], 75, false⟩, (mmCo mh false), (mmCo mk false)]) fun v h => v = (s1 9 ((putL V l need out).length)) ∧ h = hq [(uCo (l ++ lj) ro), (inCo out false), some ⟨[Value.slice (some ⟨3, 0, none⟩) vm kc, .slice (some ⟨4, 0, none⟩) vm kd, .int .i64 slots], 38, false⟩, (inCo rg false), (inCo sl false), some ⟨[Value.map (some 7)], 75, false⟩, some ⟨[Value.map (some 8)], 75, false⟩, (mmCo mh false), (mmCo mk false), (uCo (putL V l need out) false)] := by
 refine scall_sd 32 _ 9 kr f54_fn f54_body rfl rfl rfl fun X hX => ?_
 refine sd_run 12 (sd_see 15 (.int .i64 (((l.length - need) : Nat) : Int)) (see_int (x := (IntKind.i64.wrap ((l.length : Int) - (need : Int)))) kr (i64w (by omega) (by omega) (by omega))) (sd_slk 16 31 27 0 0 l.length (l.length - need) ka .i64 kr kr kr kr kr (by first | omega | (simp; done) | (simp; omega)) hka (sd_firstN 17 31 31 27 0 3 (l.length - need) 9 (.slice (some ⟨0, 0, none⟩) (l.length - need) ka) (tab uC (l.take (l.length - need))) (tab uC (l.take (l.length - need))) kr kr kr kr (asrc_ptake (a := l) (b_ := lj) (e := 27) (ro := ro) uC_len kr (by omega)) (by omega) kr rfl (sd_run 12 (sd_see 0 (s1 9 ((putL V l need (out.take 0)).length)) (see_len (n := (l.length - need)) kr (by rw [List.take_zero, ← putL_nil, List.length_take]; omega)) ?_)))))
 refine sd_loop 32 (cl (cl (cr (cl (cr (cr f54b)))))) [.blk 0, .next (cr (cr (cr f54b)))] kr kr kr (fun m9 s9 => ∃ (k : Nat), m9 = out.length - k ∧ (k ≤ out.length) ∧ s9 = ⟨tmL [(0, (s1 9 ((putL V l need (out.take k)).length))), (3, .func (.func 34) #[] #[.pointer (some ⟨2, 0, none⟩), .pointer (some ⟨5, 0, none⟩), .pointer (some ⟨6, 0, none⟩)]), (18, (s1 1 out.length)), (19, .int .i64 (out.length : Int)), (20, .int .i64 (k : Int))], hq [(uCo (l ++ lj) ro), (inCo out false), some ⟨[Value.slice (some ⟨3, 0, none⟩) vm kc, .slice (some ⟨4, 0, none⟩) vm kd, .int .i64 slots], 38, false⟩, (inCo rg false), (inCo sl false), some ⟨[Value.map (some 7)], 75, false⟩, some ⟨[Value.map (some 8)], 75, false⟩, (mmCo mh false), (mmCo mk false), (uCo (putL V l need (out.take k)) false)]⟩) (out.length - 0) _ e10_ hX ⟨0, rfl, (by omega), rfl⟩ ⟨sub_of kr kr ⟨uC_b, inC_b, brn, inC_b, inC_b, brn, brn, mmC_b, mmC_b, bk_flat (tab uC (l.take (l.length - need))) kr (tab_plain uC_pl _) (congrArg (tab uC) (putL_nil V l need)), ⟨⟩⟩, te_of kr kr⟩ kr ?_
 rintro m9 s9 ⟨k, rfl, i1_0, rfl⟩ R1_ hR1_
 have hpl : (putL V l need (out.take k)).length ≤ l.length + k := by unfold putL; rw [List.length_append, List.length_take, List.length_map, List.length_take]; omega
 by_cases hlt : k < out.length
 ·skip
  obtain ⟨a1, ha1⟩ : ∃ x_, (out)[k]? = some x_ := ⟨_, List.getElem?_eq_getElem (by omega)⟩
  obtain ⟨qa1, qa2⟩ := ho _ (List.mem_of_getElem? ha1)
  obtain ⟨X, hX2⟩ := Int.eq_ofNat_of_zero_le qa1
  refine sd_run 3 (sdT 21 ((k : Int) < (out.length : Int)) (by omega) kr (sd_run 10 (sd_ix 22 (.pointer (some ⟨1, 0 + k * 1, none⟩)) k out.length kr kr kr (by omega) (sd_ld 23 (.int .i64 a1) 3 (.pointer (some ⟨1, 0 + k * 1, none⟩)) kr kr kr (ld_cell (l := out) (e := 3) (ro := false) (k := k) (j := 0) inC_len kr kr kr ha1 rfl) (sd_run 7 (sd_see 26 (.int .i64 (X : Int)) (see_int (x := a1) kr hX2) (sdCp 27 34 #[.int .i64 (X : Int), .pointer (some ⟨2, 0, none⟩), .pointer (some ⟨5, 0, none⟩), .pointer (some ⟨6, 0, none⟩)] (get_s (n := X) (vm := vm) (kc := kc) (rg := rg) (kd := kd) (sl := sl) (slots := slots) (mh := mh) (mk := mk) (by omega) hl hvm) [some 2, some 3, some 4, some 5, some 6, some 7, some 8] ⟨brn, inC_b, inC_b, brn, brn, mmC_b, mmC_b, ⟨⟩⟩ ?_)))))))
  rintro v9 k9 ⟨rfl, rfl⟩
  refine ⟨rfl, .int .u32 (V.getD X 0), kr, ?_⟩
  refine sd_run 1 (sd_grow 29 31 31 27 0 3 9 ((putL V l need (out.take k)).length) 1 11 (.slice (some ⟨10, 0, none⟩) 1 1) (tab uC (putL V l need (out.take k))) [Value.int .u32 (V.getD X 0)] (tab uC (putL V l need (out.take k) ++ [(V.getD X 0)])) kr kr kr kr kr ((tab_len uC_len _).trans (by first | rfl | (simp only [List.length_append, List.length_cons, List.length_nil, List.length_set] at *; done))) kr kr (by decide) kr (by omega) kr (tab_snoc (putL V l need (out.take k)) (V.getD X 0)) (sd_see 29 (s1 11 ((putL V l need (out.take k) ++ [(V.getD X 0)]).length)) (see_len (n := ((putL V l need (out.take k)).length + 1)) kr (by simp)) (sd_run 6 (sd_see 30 (.int .i64 ((k + 1 : Nat) : Int)) (see_int (x := (IntKind.i64.wrap ((k : Int) + 1))) kr (w64 (by omega) (by omega) (by omega))) (sd_run 2 (sd_see 0 (s1 11 ((putL V l need (out.take (k + 1))).length)) (see_len (n := (putL V l need (out.take k) ++ [(V.getD X 0)]).length) kr (by rw [← putL_succ ha1]; simp)) ?_))))))
  refine sd_inv R1_ kr (hR1_ _ (out.length - (k + 1)) _ (emOf [some 0, some 1, some 2, some 3, some 4, some 5, some 6, some 7, some 8, some 11]) (by omega) ⟨k + 1, rfl, (by omega), rfl⟩ ⟨sub_of kr kr ⟨uC_b, inC_b, brn, inC_b, inC_b, brn, brn, mmC_b, mmC_b, bk_flat (tab uC (putL V l need (out.take k) ++ [(V.getD X 0)])) kr (tab_plain uC_pl _) (congrArg (tab uC) (by rw [← putL_succ ha1, show (a1).toNat = X by omega])), ⟨⟩⟩, te_of kr kr⟩ kr)
 ·skip
  obtain rfl : k = out.length := by omega
  refine sd_run 3 (sdF 21 ((out.length : Int) < (out.length : Int)) (by omega) kr (sd_run 16 (sd_see 8 (s1 9 ((putL V l need out).length)) (see_len (n := (putL V l need (out.take out.length)).length) kr (by rw [List.take_length])) ?_)))
  refine sdY (s1 9 ((putL V l need out).length)) hX [(uCo (l ++ lj) ro), (inCo out false), some ⟨[Value.slice (some ⟨3, 0, none⟩) vm kc, .slice (some ⟨4, 0, none⟩) vm kd, .int .i64 slots], 38, false⟩, (inCo rg false), (inCo sl false), some ⟨[Value.map (some 7)], 75, false⟩, some ⟨[Value.map (some 8)], 75, false⟩, (mmCo mh false), (mmCo mk false), (uCo (putL V l need out) false)] i10_ ⟨uC_b, inC_b, brn, inC_b, inC_b, brn, brn, mmC_b, mmC_b, bk_flat (tab uC (putL V l need (out.take out.length))) kr (tab_plain uC_pl _) (congrArg (tab uC) (by rw [List.take_length])), ⟨⟩⟩ ⟨rfl, rfl⟩
end Ls
end Go.Proofs.Ytegjicaoemhhlaa
