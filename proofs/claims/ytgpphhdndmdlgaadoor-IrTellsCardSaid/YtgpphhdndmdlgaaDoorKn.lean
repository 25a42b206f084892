/- Chapter 19: what fits. -/
import Derived.Test.YtgpphhdndmdlgaaDoorKm
import Derived.Test.YtgpphhdndmdlgaaDoorKd
namespace Go.Proofs.YtgpphhdndmdlgaaDoor
open Go Go.Ev Go.RowKit
set_option linter.unusedVariables false
set_option linter.unusedSimpArgs false
set_option maxRecDepth 100000
namespace Ls
def stOk (d r : List Int) (fl : Int) : Bool := decide (d.length ≤ 16) && (decide (r.length ≤ 16) && decide (fl ≤ 15))
def fitB (n : Nat) (need high : Int) : Bool := decide (need ≤ (n : Int)) && decide ((n : Int) ≤ 16 - high)
def fitsB (nd nr hd hr : Int) (d r : List Int) (fl : Int) : Bool := stOk d r fl && (fitB d.length nd hd && fitB r.length nr hr)
theorem i64w {x y : Int} (h : x = y) (h1 : -9223372036854775808 ≤ y) (h2 : y ≤ 9223372036854775807) : IntKind.i64.wrap x = y := by subst h; exact w64 rfl h1 h2
def argD (l : List Int) (k : Nat) : Int := l.getD (l.length - 1 - k) 0
def mkV (d r V : List Int) (x : II) : Int :=
 if x.1 = 0 then x.2.2.2.2 else if x.1 = 1 then argD d x.2.2.2.2.toNat else if x.1 = 2 then argD r x.2.2.2.2.toNat
 else if x.1 = 3 then doR x.2.2.2.2 (V.getD x.2.2.1.toNat 0) (V.getD x.2.2.2.1.toNat 0) else doF x.2.2.2.2 (V.getD x.2.2.1.toNat 0) (V.getD x.2.2.2.1.toNat 0)
def evV (c : List II) (d r : List Int) : Nat → List Int
 | 0 => List.replicate c.length 0
 | k + 1 => match c[k]? with | some x => (evV c d r k).set k (mkV d r (evV c d r k) x) | none => evV c d r k
@[simp] theorem evV_len (c : List II) (d r : List Int) : ∀ k, (evV c d r k).length = c.length
 | 0 => by simp [evV]
 | k + 1 => by unfold evV; split; (simp [evV_len c d r k]); exact evV_len c d r k
theorem evV_succ {c : List II} {d r : List Int} {k : Nat} {x : II} (h : c[k]? = some x) : evV c d r (k + 1) = (evV c d r k).set k (mkV d r (evV c d r k) x) := by show (match c[k]? with | some x => _ | none => _) = _; rw [h]
def putL (V l : List Int) (need : Nat) (out : List Int) : List Int := l.take (l.length - need) ++ out.map fun x => V.getD x.toNat 0
theorem putL_nil (V l : List Int) (need : Nat) : l.take (l.length - need) = putL V l need [] := by simp [putL]
theorem putL_succ {V l : List Int} {need : Nat} {out : List Int} {j : Nat} {x : Int} (h : out[j]? = some x) : putL V l need (out.take j) ++ [V.getD x.toNat 0] = putL V l need (out.take (j + 1)) := by unfold putL; rw [List.take_add_one, h]; simp
def leftF (V : List Int) (fl f0 : Int) : Int := if fl = -1 then f0 else V.getD fl.toNat 0 % 16
def leftP (V : List Int) (nx tg br tk F : Int) : Int := if hK br = true ∧ hB br F = true then tk else if tg = -1 then nx else V.getD tg.toNat 0
theorem and15 {x : Int} (h0 : 0 ≤ x) (h1 : x < 4294967296) : IntKind.u32.wrap (((BitVec.ofInt 32 x &&& BitVec.ofInt 32 15).toNat : Nat) : Int) = x % 16 := by
 obtain ⟨n, rfl⟩ := Int.eq_ofNat_of_zero_le h0
 have hn : n < 4294967296 := by omega
 have e1 : (BitVec.ofInt 32 (n : Int) &&& BitVec.ofInt 32 15).toNat = n % 16 := by
  rw [BitVec.toNat_and, BitVec.toNat_ofInt, BitVec.toNat_ofInt]
  have a1 : ((n : Int) % ((2 ^ 32 : Nat) : Int)).toNat = n := by omega
  have a2 : ((15 : Int) % ((2 ^ 32 : Nat) : Int)).toNat = 2 ^ 4 - 1 := by decide
  rw [a1, a2, Nat.and_two_pow_sub_one_eq_mod]
 rw [e1]
 exact wu32 (by omega) (by omega) (by omega)
theorem valB_iff2 {n k : Int} : valB n k = true ↔ 0 ≤ n ∧ n < k := by simp [valB]
def V32 (V : List Int) : Prop := ∀ x ∈ V, 0 ≤ x ∧ x < 4294967296
theorem V32.getD {V : List Int} (h : V32 V) (n : Nat) : 0 ≤ V.getD n 0 ∧ V.getD n 0 < 4294967296 := by
 rw [List.getD_eq_getElem?_getD]
 cases hn : V[n]? with
 | none => exact ⟨Int.le_refl _, by decide⟩
 | some x => exact h x (List.mem_of_getElem? hn)
theorem u32B_of {n : Int} (h : 0 ≤ n ∧ n < 4294967296) : u32B n = true := u32B_iff.2 h
theorem u32B2 {a b : Int} (h : 0 ≤ a ∧ a < 4294967296) (k : 0 ≤ b ∧ b < 4294967296) : (u32B a && u32B b) = true := by rw [u32B_of h, u32B_of k]; rfl
theorem doF_rng (op a b : Int) (h0 : 0 ≤ a) (h1 : a < 4294967296) (h2 : 0 ≤ b) (h3 : b < 4294967296) : 0 ≤ doF op a b ∧ doF op a b < 4294967296 := by
 unfold doF moreF lessF
 have p1 := pf_rng ((a + b) % 4294967296); have p2 := pf_rng ((a - b) % 4294967296); have p3 := pf_rng (doR op a b); have p4 := pf_rng (a / b)
 repeat' split
 all_goals omega
theorem mkV_rng {d r V : List Int} (hd : V32 d) (hr : V32 r) (hV : V32 V) {x : II} (hx : 0 ≤ x.2.2.2.2 ∧ x.2.2.2.2 < 4294967296) : 0 ≤ mkV d r V x ∧ mkV d r V x < 4294967296 := by
 unfold mkV
 split
 ·exact hx
 split
 ·exact hd.getD _
 split
 ·exact hr.getD _
 have a := hV.getD x.2.2.1.toNat
 have b := hV.getD x.2.2.2.1.toNat
 split
 ·exact doR_rng _ _ _ a.1 a.2 b.1 b.2
 ·exact doF_rng _ _ _ a.1 a.2 b.1 b.2
theorem evV_32 {c : List II} {d r : List Int} (hd : V32 d) (hr : V32 r) (hi : ∀ x ∈ c, 0 ≤ x.2.2.2.2 ∧ x.2.2.2.2 < 4294967296) : ∀ k, V32 (evV c d r k)
 | 0 => fun x hx => by simp [evV] at hx; omega
 | k + 1 => by
  unfold evV
  split
  ·rename_i x hx
   intro y hy
   rcases List.mem_or_eq_of_mem_set hy with h | h
   ·exact evV_32 hd hr hi k y h
   ·rw [h]; exact mkV_rng hd hr (evV_32 hd hr hi k) (hi x (List.mem_of_getElem? hx))
  ·exact evV_32 hd hr hi k
theorem made_ho {nd nr k : Int} {x : II} {d r : List Int} {n : Nat} (h : madeB nd nr x k = true) (hd : nd ≤ (d.length : Int)) (hr : nr ≤ (r.length : Int)) (hk : k ≤ (n : Int)) :
    x.1 = 0 ∨ (x.1 = 1 ∧ x.2.2.2.2 < (d.length : Int)) ∨ (x.1 = 2 ∧ x.2.2.2.2 < (r.length : Int)) ∨ ((x.1 = 3 ∨ x.1 = 4) ∧ (0 ≤ x.2.2.1 ∧ x.2.2.1 < (n : Int)) ∧ (0 ≤ x.2.2.2.1 ∧ x.2.2.2.1 < (n : Int))) := by
 unfold madeB at h
 by_cases e0 : x.1 = 0
 ·exact .inl e0
 rw [if_neg e0] at h
 by_cases e1 : x.1 = 1
 ·rw [if_pos e1] at h; simp at h; exact .inr (.inl ⟨e1, by omega⟩)
 rw [if_neg e1] at h
 by_cases e2 : x.1 = 2
 ·rw [if_pos e2] at h; simp at h; exact .inr (.inr (.inl ⟨e2, by omega⟩))
 rw [if_neg e2] at h
 by_cases e3 : x.1 = 3
 ·rw [if_pos e3] at h; simp [valB] at h; exact .inr (.inr (.inr ⟨.inl e3, by omega, by omega⟩))
 rw [if_neg e3] at h
 by_cases e4 : x.1 = 4
 ·rw [if_pos e4] at h; simp [valB] at h; exact .inr (.inr (.inr ⟨.inr e4, by omega, by omega⟩))
 rw [if_neg e4] at h
 simp at h
theorem fitsB_iff {nd nr hd hr : Int} {d r : List Int} {fl : Int} : fitsB nd nr hd hr d r fl = true ↔ (d.length ≤ 16 ∧ r.length ≤ 16 ∧ fl ≤ 15) ∧ (nd ≤ (d.length : Int) ∧ (d.length : Int) ≤ 16 - hd) ∧ nr ≤ (r.length : Int) ∧ (r.length : Int) ≤ 16 - hr := by simp [fitsB, stOk, fitB]
theorem V32.putL {V l : List Int} (hl : V32 l) (hV : V32 V) (n : Nat) (out : List Int) : V32 (putL V l n out) := fun x hx => by
 rcases List.mem_append.1 hx with h | h
 ·exact hl x (List.mem_of_mem_take h)
 ·obtain ⟨y, _, rfl⟩ := List.mem_map.1 h
  exact hV.getD _
noncomputable def f37b : Code := Tryd.f37.body.getD .skip
theorem f37_body : Tryd.f37.body = some f37b := by kernel_rfl
theorem f37_fn : T20.fn 37 = some Tryd.f37 := by kernel_rfl
theorem stright_s {q : Sx} {d dj r rj : List Int} {ka kb : Nat} {ro : Bool}  : SCall Tryd.prog T20 37 #[(stq q q.pc (.slice (some ⟨0, 0, none⟩) d.length ka) (.slice (some ⟨1, 0, none⟩) r.length kb) q.fl q.cnt)] (hq [(uCo (d ++ dj) ro), (uCo (r ++ rj) ro)]) fun v h => v = .bool (stOk d r q.fl) ∧ h = hq [(uCo (d ++ dj) ro), (uCo (r ++ rj) ro)] := by
 refine scall_sd 18 _ 2 kr f37_fn f37_body rfl rfl rfl fun X hX => ?_
 refine sd_run 13 ?_
 rcases Bool.eq_false_or_eq_true (decide ((d.length : Int) ≤ 16)) with hc1 | hc1
 ·skip
  refine sd_see 7 (.bool true) (see_bool kr hc1) (sd_run 6 ?_)
  rcases Bool.eq_false_or_eq_true (decide ((r.length : Int) ≤ 16)) with hc2 | hc2
  ·skip
   refine sd_see 13 (.bool true) (see_bool kr hc2) (sd_run 8 ?_)
   rcases Bool.eq_false_or_eq_true (decide ((q.fl : Int) ≤ 15)) with hc3 | hc3
   ·skip
    refine sd_see 2 (.bool true) (see_bool kr hc3) ?_
    simp only [bd] at hc1 hc2 hc3
    refine sdY (.bool true) hX [(uCo (d ++ dj) ro), (uCo (r ++ rj) ro)] i2_ ⟨uC_b, uC_b, ⟨⟩⟩ ⟨(by congr 1; unfold stOk; rw [Bool.eq_iff_iff]; simp; omega), rfl⟩
   ·skip
    refine sd_see 2 (.bool false) (see_bool kr hc3) ?_
    simp only [bd] at hc1 hc2 hc3
    refine sdY (.bool false) hX [(uCo (d ++ dj) ro), (uCo (r ++ rj) ro)] i2_ ⟨uC_b, uC_b, ⟨⟩⟩ ⟨(by congr 1; unfold stOk; rw [Bool.eq_iff_iff]; simp; omega), rfl⟩
  ·skip
   refine sd_see 13 (.bool false) (see_bool kr hc2) (sd_run 8 ?_)
   simp only [bd] at hc1 hc2
   refine sdY (.bool false) hX [(uCo (d ++ dj) ro), (uCo (r ++ rj) ro)] i2_ ⟨uC_b, uC_b, ⟨⟩⟩ ⟨(by congr 1; unfold stOk; rw [Bool.eq_iff_iff]; simp; omega), rfl⟩
 ·skip
  refine sd_see 7 (.bool false) (see_bool kr hc1) (sd_run 14 ?_)
  simp only [bd] at hc1
  refine sdY (.bool false) hX [(uCo (d ++ dj) ro), (uCo (r ++ rj) ro)] i2_ ⟨uC_b, uC_b, ⟨⟩⟩ ⟨(by congr 1; unfold stOk; rw [Bool.eq_iff_iff]; simp; omega), rfl⟩
noncomputable def f39b : Code := Tryd.f39.body.getD .skip
theorem f39_body : Tryd.f39.body = some f39b := by kernel_rfl
theorem f39_fn : T20.fn 39 = some Tryd.f39 := by kernel_rfl
theorem stright16_s {q : Sx} {d dj r rj : List Int} {ka kb : Nat} {ro : Bool}  : SCall Tryd.prog T20 39 #[(stq q q.pc (.slice (some ⟨0, 0, none⟩) d.length ka) (.slice (some ⟨1, 0, none⟩) r.length kb) q.fl q.cnt)] (hq [(uCo (d ++ dj) ro), (uCo (r ++ rj) ro)]) fun v h => v = .bool (stOk d r q.fl) ∧ h = hq [(uCo (d ++ dj) ro), (uCo (r ++ rj) ro)] := by
 refine scall_sd 18 _ 2 kr f39_fn f39_body rfl rfl rfl fun X hX => ?_
 refine sd_run 13 ?_
 rcases Bool.eq_false_or_eq_true (decide ((d.length : Int) ≤ 16)) with hc1 | hc1
 ·skip
  refine sd_see 7 (.bool true) (see_bool kr hc1) (sd_run 6 ?_)
  rcases Bool.eq_false_or_eq_true (decide ((r.length : Int) ≤ 16)) with hc2 | hc2
  ·skip
   refine sd_see 13 (.bool true) (see_bool kr hc2) (sd_run 8 ?_)
   rcases Bool.eq_false_or_eq_true (decide ((q.fl : Int) < 16)) with hc3 | hc3
   ·skip
    refine sd_see 2 (.bool true) (see_bool kr hc3) ?_
    simp only [bd] at hc1 hc2 hc3
    refine sdY (.bool true) hX [(uCo (d ++ dj) ro), (uCo (r ++ rj) ro)] i2_ ⟨uC_b, uC_b, ⟨⟩⟩ ⟨(by congr 1; unfold stOk; rw [Bool.eq_iff_iff]; simp; omega), rfl⟩
   ·skip
    refine sd_see 2 (.bool false) (see_bool kr hc3) ?_
    simp only [bd] at hc1 hc2 hc3
    refine sdY (.bool false) hX [(uCo (d ++ dj) ro), (uCo (r ++ rj) ro)] i2_ ⟨uC_b, uC_b, ⟨⟩⟩ ⟨(by congr 1; unfold stOk; rw [Bool.eq_iff_iff]; simp; omega), rfl⟩
  ·skip
   refine sd_see 13 (.bool false) (see_bool kr hc2) (sd_run 8 ?_)
   simp only [bd] at hc1 hc2
   refine sdY (.bool false) hX [(uCo (d ++ dj) ro), (uCo (r ++ rj) ro)] i2_ ⟨uC_b, uC_b, ⟨⟩⟩ ⟨(by congr 1; unfold stOk; rw [Bool.eq_iff_iff]; simp; omega), rfl⟩
 ·skip
  refine sd_see 7 (.bool false) (see_bool kr hc1) (sd_run 14 ?_)
  simp only [bd] at hc1
  refine sdY (.bool false) hX [(uCo (d ++ dj) ro), (uCo (r ++ rj) ro)] i2_ ⟨uC_b, uC_b, ⟨⟩⟩ ⟨(by congr 1; unfold stOk; rw [Bool.eq_iff_iff]; simp; omega), rfl⟩
noncomputable def f38b : Code := Tryd.f38.body.getD .skip
theorem f38_body : Tryd.f38.body = some f38b := by kernel_rfl
theorem f38_fn : T20.fn 38 = some Tryd.f38 := by kernel_rfl
theorem fit_s {l lj : List Int} {need high : Int} {ro : Bool} {kl : Nat} (hh : 0 ≤ high ∧ high ≤ 16) : SCall Tryd.prog T20 38 #[.slice (some ⟨0, 0, none⟩) l.length kl, .int .i64 need, .int .i64 high] (hq [(uCo (l ++ lj) ro)]) fun v h => v = .bool (fitB l.length need high) ∧ h = hq [(uCo (l ++ lj) ro)] := by
 refine scall_sd 18 _ 1 kr f38_fn f38_body rfl rfl rfl fun X hX => ?_
 refine sd_run 12 ?_
 rcases Bool.eq_false_or_eq_true (decide ((l.length : Int) ≥ need)) with hc1 | hc1
 ·skip
  refine sd_see 11 (.bool true) (see_bool kr hc1) (sd_run 4 (sd_see 15 (.int .i64 (16 - high)) (see_int (x := (IntKind.i64.wrap (16 - high))) kr (w64 (by omega) (by omega) (by omega))) (sd_run 6 ?_)))
  rcases Bool.eq_false_or_eq_true (decide ((l.length : Int) ≤ (16 - high))) with hc2 | hc2
  ·skip
   refine sd_see 6 (.bool true) (see_bool kr hc2) ?_
   simp only [bd] at hc1 hc2
   refine sdY (.bool true) hX [(uCo (l ++ lj) ro)] i1_ ⟨uC_b, ⟨⟩⟩ ⟨(by congr 1; unfold fitB; rw [Bool.eq_iff_iff]; simp; omega), rfl⟩
  ·skip
   refine sd_see 6 (.bool false) (see_bool kr hc2) ?_
   simp only [bd] at hc1 hc2
   refine sdY (.bool false) hX [(uCo (l ++ lj) ro)] i1_ ⟨uC_b, ⟨⟩⟩ ⟨(by congr 1; unfold fitB; rw [Bool.eq_iff_iff]; simp; omega), rfl⟩
 ·skip
  refine sd_see 11 (.bool false) (see_bool kr hc1) (sd_run 10 ?_)
  simp only [bd] at hc1
  refine sdY (.bool false) hX [(uCo (l ++ lj) ro)] i1_ ⟨uC_b, ⟨⟩⟩ ⟨(by congr 1; unfold fitB; rw [Bool.eq_iff_iff]; simp; omega), rfl⟩
noncomputable def f18b : Code := Tryd.f18.body.getD .skip
theorem f18_body : Tryd.f18.body = some f18b := by kernel_rfl
theorem f18_fn : T20.fn 18 = some Tryd.f18 := by kernel_rfl
theorem fits_s {c : List II} {od rd : List Int} {nd nr hd hr fl nx tg br tk ct vs : Int} {q : Sx} {d dj r rj : List Int} {ro : Bool} {ka kb : Nat} (hR : RightP c od rd nd nr hd hr fl tg br ct vs) (hol : od.length < 100000) (hrl : rd.length < 100000) (hi : ∀ x ∈ c, 0 ≤ x.2.2.2.2 ∧ x.2.2.2.2 < 4294967296) : SCall Tryd.prog T20 18 #[(pgV (s5 0 c.length) nd nr hd hr (s1 1 od.length) (s1 2 rd.length) fl nx tg br tk ct vs), (stq q q.pc (.slice (some ⟨3, 0, none⟩) d.length ka) (.slice (some ⟨4, 0, none⟩) r.length kb) q.fl q.cnt)] (hq [(iiCo c false), (inCo od false), (inCo rd false), (uCo (d ++ dj) ro), (uCo (r ++ rj) ro)]) fun v h => v = .bool (fitsB nd nr hd hr d r q.fl) ∧ h = hq [(iiCo c false), (inCo od false), (inCo rd false), (uCo (d ++ dj) ro), (uCo (r ++ rj) ro)] := by
 have hlen := hR.len; have q3 := hR.hd_; have q4 := hR.hr_
 refine scall_sd 29 _ 5 kr f18_fn f18_body rfl rfl rfl fun X hX => ?_
 refine sd_run 10 (sdCp 6 16 #[(pgV (s5 0 c.length) nd nr hd hr (s1 1 od.length) (s1 2 rd.length) fl nx tg br tk ct vs)] (@right_s c od rd nd nr hd hr fl nx tg br tk ct vs (by omega) (by omega) (by omega) hi) i3_ ⟨iiC_b, inC_b, inC_b, ⟨⟩⟩ ?_)
 rintro v9 k9 ⟨rfl, rfl⟩
 refine ⟨rfl, .bool (rightB c od rd nd nr hd hr fl tg br ct vs), kr, ?_⟩
 refine sd_see 6 (.bool true) (see_bool kr (rightB_yes hR)) (sd_run 2 (sdCp 9 37 #[(stq q q.pc (.slice (some ⟨3, 0, none⟩) d.length ka) (.slice (some ⟨4, 0, none⟩) r.length kb) q.fl q.cnt)] (@stright_s q d dj r rj ka kb ro ) [some 3, some 4] ⟨uC_b, uC_b, ⟨⟩⟩ ?_))
 rintro v9 k9 ⟨rfl, rfl⟩
 refine ⟨rfl, .bool (stOk d r q.fl), kr, ?_⟩
 refine sd_run 2 ?_
 rcases Bool.eq_false_or_eq_true (stOk d r q.fl) with hc1 | hc1
 ·skip
  refine sd_see 11 (.bool true) (see_bool kr hc1) (sd_run 6 (sdCp 18 38 #[.slice (some ⟨3, 0, none⟩) d.length ka, .int .i64 nd, .int .i64 hd] (@fit_s d dj nd hd ro ka (by omega)) [some 3] ⟨uC_b, ⟨⟩⟩ ?_))
  rintro v9 k9 ⟨rfl, rfl⟩
  refine ⟨rfl, .bool (fitB d.length nd hd), kr, ?_⟩
  refine sd_run 2 ?_
  rcases Bool.eq_false_or_eq_true (fitB d.length nd hd) with hc2 | hc2
  ·skip
   refine sd_see 20 (.bool true) (see_bool kr hc2) (sd_run 6 (sdCp 27 38 #[.slice (some ⟨4, 0, none⟩) r.length kb, .int .i64 nr, .int .i64 hr] (@fit_s r rj nr hr ro kb (by omega)) [some 4] ⟨uC_b, ⟨⟩⟩ ?_))
   rintro v9 k9 ⟨rfl, rfl⟩
   refine ⟨rfl, .bool (fitB r.length nr hr), kr, ?_⟩
   refine sd_run 5 ?_
   rcases Bool.eq_false_or_eq_true (fitB r.length nr hr) with hc3 | hc3
   ·skip
    refine sd_see 4 (.bool true) (see_bool kr hc3) ?_
    refine sdY (.bool true) hX [(iiCo c false), (inCo od false), (inCo rd false), (uCo (d ++ dj) ro), (uCo (r ++ rj) ro)] i5_ ⟨iiC_b, inC_b, inC_b, uC_b, uC_b, ⟨⟩⟩ ⟨(by congr 1; unfold fitsB; simp [*]), rfl⟩
   ·skip
    refine sd_see 4 (.bool false) (see_bool kr hc3) ?_
    refine sdY (.bool false) hX [(iiCo c false), (inCo od false), (inCo rd false), (uCo (d ++ dj) ro), (uCo (r ++ rj) ro)] i5_ ⟨iiC_b, inC_b, inC_b, uC_b, uC_b, ⟨⟩⟩ ⟨(by congr 1; unfold fitsB; simp [*]), rfl⟩
  ·skip
   refine sd_see 20 (.bool false) (see_bool kr hc2) (sd_run 12 ?_)
   refine sdY (.bool false) hX [(iiCo c false), (inCo od false), (inCo rd false), (uCo (d ++ dj) ro), (uCo (r ++ rj) ro)] i5_ ⟨iiC_b, inC_b, inC_b, uC_b, uC_b, ⟨⟩⟩ ⟨(by congr 1; unfold fitsB; simp [*]), rfl⟩
 ·skip
  refine sd_see 11 (.bool false) (see_bool kr hc1) (sd_run 21 ?_)
  refine sdY (.bool false) hX [(iiCo c false), (inCo od false), (inCo rd false), (uCo (d ++ dj) ro), (uCo (r ++ rj) ro)] i5_ ⟨iiC_b, inC_b, inC_b, uC_b, uC_b, ⟨⟩⟩ ⟨(by congr 1; unfold fitsB; simp [*]), rfl⟩
theorem fits_no {c : List II} {od rd : List Int} {nd nr hd hr fl nx tg br tk ct vs : Int} {q : Sx} {d dj r rj : List Int} {ro : Bool} {ka kb : Nat} (hno : rightB c od rd nd nr hd hr fl tg br ct vs = false) (hcl : c.length < 100000) (hol : od.length < 100000) (hrl : rd.length < 100000) (hi : ∀ x ∈ c, 0 ≤ x.2.2.2.2 ∧ x.2.2.2.2 < 4294967296) : SCall Tryd.prog T20 18 #[(pgV (s5 0 c.length) nd nr hd hr (s1 1 od.length) (s1 2 rd.length) fl nx tg br tk ct vs), (stq q q.pc (.slice (some ⟨3, 0, none⟩) d.length ka) (.slice (some ⟨4, 0, none⟩) r.length kb) q.fl q.cnt)] (hq [(iiCo c false), (inCo od false), (inCo rd false), (uCo (d ++ dj) ro), (uCo (r ++ rj) ro)]) fun v h => v = .bool false ∧ h = hq [(iiCo c false), (inCo od false), (inCo rd false), (uCo (d ++ dj) ro), (uCo (r ++ rj) ro)] := by
 refine scall_sd 29 _ 5 kr f18_fn f18_body rfl rfl rfl fun X hX => ?_
 refine sd_run 10 (sdCp 6 16 #[(pgV (s5 0 c.length) nd nr hd hr (s1 1 od.length) (s1 2 rd.length) fl nx tg br tk ct vs)] (@right_s c od rd nd nr hd hr fl nx tg br tk ct vs (by omega) (by omega) (by omega) hi) i3_ ⟨iiC_b, inC_b, inC_b, ⟨⟩⟩ ?_)
 rintro v9 k9 ⟨rfl, rfl⟩
 refine ⟨rfl, .bool (rightB c od rd nd nr hd hr fl tg br ct vs), kr, ?_⟩
 refine sd_see 6 (.bool false) (see_bool kr hno) (sd_run 26 ?_)
 refine sdY (.bool false) hX [(iiCo c false), (inCo od false), (inCo rd false), (uCo (d ++ dj) ro), (uCo (r ++ rj) ro)] i5_ ⟨iiC_b, inC_b, inC_b, uC_b, uC_b, ⟨⟩⟩ ⟨rfl, rfl⟩
end Ls
end Go.Proofs.YtgpphhdndmdlgaaDoor
