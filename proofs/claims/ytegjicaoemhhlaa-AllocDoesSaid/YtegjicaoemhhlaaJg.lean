/- Chapter 21: what fits. -/
import Derived.Test.YtegjicaoemhhlaaJf
import Derived.Test.YtegjicaoemhhlaaJd
set_option linter.unusedVariables false
set_option linter.unusedSimpArgs false
namespace Go.Proofs.Ytegjicaoemhhlaa
open Go Go.Ev Go.RowKit
set_option maxRecDepth 100000
namespace Ls
def stOk (d r : List Int) (fl : Int) : Bool := decide (d.length ≤ 16) && (decide (r.length ≤ 16) && decide (fl ≤ 15))
def fitB (n : Nat) (need high : Int) : Bool := decide (need ≤ (n : Int)) && decide ((n : Int) ≤ 16 - high)
def fitsB (nd nr hd hr : Int) (d r : List Int) (fl : Int) : Bool := stOk d r fl && (fitB d.length nd hd && fitB r.length nr hr)
def argD (l : List Int) (k : Nat) : Int := l.getD (l.length - 1 - k) 0
def mkV (d r V : List Int) (x : II) : Int :=
 if x.1 = 0 then x.2.2.2.2 else if x.1 = 1 then argD d x.2.2.2.2.toNat else if x.1 = 2 then argD r x.2.2.2.2.toNat
 else if x.1 = 3 then doR x.2.2.2.2 (V.getD x.2.2.1.toNat 0) (V.getD x.2.2.2.1.toNat 0) else doF x.2.2.2.2 (V.getD x.2.2.1.toNat 0) (V.getD x.2.2.2.1.toNat 0)
def evV (c : List II) (d r : List Int) : Nat → List Int
 | 0 => List.replicate c.length 0
 | k + 1 => match c[k]? with | some x => (evV c d r k).set k (mkV d r (evV c d r k) x) | none => evV c d r k
@[simp] theorem evV_len (c : List II) (d r : List Int) : ∀ k, (evV c d r k).length = c.length
 | 0 => by simp [evV]
 | k + 1 => by unfold evV; split; (simp [evV_len c d r k]); exact evV_len c d r k
theorem evV_succ {c : List II} {d r : List Int} {k : Nat} {x : II} (h : c[k]? = some x) : evV c d r (k + 1) = (evV c d r k).set k (mkV d r (evV c d r k) x) := by show (match c[k]? with | some x => _ | none => _) = _; rw [h]
def putL (V l : List Int) (need : Nat) (out : List Int) : List Int := l.take (l.length - need) ++ out.map fun x => V.getD x.toNat 0
theorem putL_nil (V l : List Int) (need : Nat) : l.take (l.length - need) = putL V l need [] := by simp [putL]
theorem putL_succ {V l : List Int} {need : Nat} {out : List Int} {j : Nat} {x : Int} (h : out[j]? = some x) : putL V l need (out.take j) ++ [V.getD x.toNat 0] = putL V l need (out.take (j + 1)) := by unfold putL; rw [List.take_add_one, h]; simp
def leftF (V : List Int) (fl f0 : Int) : Int := if fl = -1 then f0 else V.getD fl.toNat 0 % 16
def leftP (V : List Int) (nx tg br tk F : Int) : Int := if hK br = true ∧ hB br F = true then tk else if tg = -1 then nx else V.getD tg.toNat 0
theorem and15 {x : Int} (h0 : 0 ≤ x) (h1 : x < 4294967296) : IntKind.u32.wrap (((BitVec.ofInt 32 x &&& BitVec.ofInt 32 15).toNat : Nat) : Int) = x % 16 := by
 obtain ⟨n, rfl⟩ := Int.eq_ofNat_of_zero_le h0;have hn : n < 4294967296 := by omega
 have e1 : (BitVec.ofInt 32 (n : Int) &&& BitVec.ofInt 32 15).toNat = n % 16 := by
  rw [BitVec.toNat_and, BitVec.toNat_ofInt, BitVec.toNat_ofInt];have a1 : ((n : Int) % ((2 ^ 32 : Nat) : Int)).toNat = n := by omega
  have a2 : ((15 : Int) % ((2 ^ 32 : Nat) : Int)).toNat = 2 ^ 4 - 1 := by decide
  rw [a1, a2, Nat.and_two_pow_sub_one_eq_mod]
 rw [e1];exact wu32 (by omega) (by omega) (by omega)
theorem valB_iff2 {n k : Int} : valB n k = true ↔ 0 ≤ n ∧ n < k := by simp [valB]
def V32 (V : List Int) : Prop := ∀ x ∈ V, 0 ≤ x ∧ x < 4294967296
theorem V32.getD {V : List Int} (h : V32 V) (n : Nat) : 0 ≤ V.getD n 0 ∧ V.getD n 0 < 4294967296 := by
 rw [List.getD_eq_getElem?_getD];cases hn : V[n]? with
 | none => exact ⟨Int.le_refl _, by decide⟩
 | some x => exact h x (List.mem_of_getElem? hn)
theorem u32B_of {n : Int} (h : 0 ≤ n ∧ n < 4294967296) : u32B n = true := u32B_iff.2 h
theorem u32B2 {a b : Int} (h : 0 ≤ a ∧ a < 4294967296) (k : 0 ≤ b ∧ b < 4294967296) : (u32B a && u32B b) = true := by rw [u32B_of h, u32B_of k]; rfl
theorem doF_rng (op a b : Int) (h0 : 0 ≤ a) (h1 : a < 4294967296) (h2 : 0 ≤ b) (h3 : b < 4294967296) : 0 ≤ doF op a b ∧ doF op a b < 4294967296 := by
 unfold doF moreF lessF;have p1 := pf_rng ((a + b) % 4294967296); have p2 := pf_rng ((a - b) % 4294967296); have p3 := pf_rng (doR op a b); have p4 := pf_rng (a / b)
 repeat' split
 all_goals omega
theorem mkV_rng {d r V : List Int} (hd : V32 d) (hr : V32 r) (hV : V32 V) {x : II} (hx : 0 ≤ x.2.2.2.2 ∧ x.2.2.2.2 < 4294967296) : 0 ≤ mkV d r V x ∧ mkV d r V x < 4294967296 := by
 unfold mkV;split
 ·exact hx
 split
 ·exact hd.getD _
 split
 ·exact hr.getD _
 have a := hV.getD x.2.2.1.toNat
 have b := hV.getD x.2.2.2.1.toNat
 split
 ·exact doR_rng _ _ _ a.1 a.2 b.1 b.2
 ·exact doF_rng _ _ _ a.1 a.2 b.1 b.2
theorem evV_32 {c : List II} {d r : List Int} (hd : V32 d) (hr : V32 r) (hi : ∀ x ∈ c, 0 ≤ x.2.2.2.2 ∧ x.2.2.2.2 < 4294967296) : ∀ k, V32 (evV c d r k)
 | 0 => fun x hx => by simp [evV] at hx; omega
 | k + 1 => by
  unfold evV;split
  ·rename_i x hx;intro y hy;rcases List.mem_or_eq_of_mem_set hy with h | h
   ·exact evV_32 hd hr hi k y h
   ·rw [h]; exact mkV_rng hd hr (evV_32 hd hr hi k) (hi x (List.mem_of_getElem? hx))
  ·exact evV_32 hd hr hi k
theorem made_ho {nd nr k : Int} {x : II} {d r : List Int} {n : Nat} (h : madeB nd nr x k = true) (hd : nd ≤ (d.length : Int)) (hr : nr ≤ (r.length : Int)) (hk : k ≤ (n : Int)) :
    x.1 = 0 ∨ (x.1 = 1 ∧ x.2.2.2.2 < (d.length : Int)) ∨ (x.1 = 2 ∧ x.2.2.2.2 < (r.length : Int)) ∨ ((x.1 = 3 ∨ x.1 = 4) ∧ (0 ≤ x.2.2.1 ∧ x.2.2.1 < (n : Int)) ∧ (0 ≤ x.2.2.2.1 ∧ x.2.2.2.1 < (n : Int))) := by
 unfold madeB at h
 by_cases e0 : x.1 = 0
 ·exact .inl e0
 rw [if_neg e0] at h
 by_cases e1 : x.1 = 1
 ·rw [if_pos e1] at h; simp at h; exact .inr (.inl ⟨e1, by omega⟩)
 rw [if_neg e1] at h
 by_cases e2 : x.1 = 2
 ·rw [if_pos e2] at h; simp at h; exact .inr (.inr (.inl ⟨e2, by omega⟩))
 rw [if_neg e2] at h
 by_cases e3 : x.1 = 3
 ·rw [if_pos e3] at h; simp [valB] at h; exact .inr (.inr (.inr ⟨.inl e3, by omega, by omega⟩))
 rw [if_neg e3] at h
 by_cases e4 : x.1 = 4
 ·rw [if_pos e4] at h; simp [valB] at h; exact .inr (.inr (.inr ⟨.inr e4, by omega, by omega⟩))
 rw [if_neg e4] at h;simp at h
theorem fitsB_iff {nd nr hd hr : Int} {d r : List Int} {fl : Int} : fitsB nd nr hd hr d r fl = true ↔ (d.length ≤ 16 ∧ r.length ≤ 16 ∧ fl ≤ 15) ∧ (nd ≤ (d.length : Int) ∧ (d.length : Int) ≤ 16 - hd) ∧ nr ≤ (r.length : Int) ∧ (r.length : Int) ≤ 16 - hr := by simp [fitsB, stOk, fitB]
noncomputable def f49b : Code := Try.f49.body.getD .skip
theorem stright_s {q : Sx} {d dj r rj : List Int} {ka kb : Nat} {ro : Bool}  : SCall Try.prog T16 49 #[(stq q q.pc (sK 0 d.length ka) (sK 1 r.length kb) q.fl q.cnt)] (hq [(uCo (d ++ dj) ro), (uCo (r ++ rj) ro)]) fun v h => v = .bool (stOk d r q.fl) ∧ h = hq [(uCo (d ++ dj) ro), (uCo (r ++ rj) ro)] := by
 refine zS Try.f49 f49b 18 2 fun X hX => ?_
 refine zB 13 7 (decide ((d.length : Int) ≤ 16)) (fun hc1 => ?_) fun hc1 => ?_
 ·refine zB 6 13 (decide ((r.length : Int) ≤ 16)) (fun hc2 => ?_) fun hc2 => ?_
  ·refine zB 8 2 (decide ((q.fl : Int) ≤ 15)) (fun hc3 => ?_) fun hc3 => ?_
   ·simp only [bd] at hc1 hc2 hc3;refine zY (.bool true) hX i2_ ⟨(by congr 1; unfold stOk; rw [Bool.eq_iff_iff]; simp; omega), rfl⟩
   ·simp only [bd] at hc1 hc2 hc3;refine zY (.bool false) hX i2_ ⟨(by congr 1; unfold stOk; rw [Bool.eq_iff_iff]; simp; omega), rfl⟩
  ·refine sd_run 8 ?_;simp only [bd] at hc1 hc2;refine zY (.bool false) hX i2_ ⟨(by congr 1; unfold stOk; rw [Bool.eq_iff_iff]; simp; omega), rfl⟩
 ·refine sd_run 14 ?_;simp only [bd] at hc1;refine zY (.bool false) hX i2_ ⟨(by congr 1; unfold stOk; rw [Bool.eq_iff_iff]; simp; omega), rfl⟩
noncomputable def f67b : Code := Try.f67.body.getD .skip
theorem stright16_s {q : Sx} {d dj r rj : List Int} {ka kb : Nat} {ro : Bool}  : SCall Try.prog T16 67 #[(stq q q.pc (sK 0 d.length ka) (sK 1 r.length kb) q.fl q.cnt)] (hq [(uCo (d ++ dj) ro), (uCo (r ++ rj) ro)]) fun v h => v = .bool (stOk d r q.fl) ∧ h = hq [(uCo (d ++ dj) ro), (uCo (r ++ rj) ro)] := by
 refine zS Try.f67 f67b 18 2 fun X hX => ?_
 refine zB 13 7 (decide ((d.length : Int) ≤ 16)) (fun hc1 => ?_) fun hc1 => ?_
 ·refine zB 6 13 (decide ((r.length : Int) ≤ 16)) (fun hc2 => ?_) fun hc2 => ?_
  ·refine zB 8 2 (decide ((q.fl : Int) < 16)) (fun hc3 => ?_) fun hc3 => ?_
   ·simp only [bd] at hc1 hc2 hc3;refine zY (.bool true) hX i2_ ⟨(by congr 1; unfold stOk; rw [Bool.eq_iff_iff]; simp; omega), rfl⟩
   ·simp only [bd] at hc1 hc2 hc3;refine zY (.bool false) hX i2_ ⟨(by congr 1; unfold stOk; rw [Bool.eq_iff_iff]; simp; omega), rfl⟩
  ·refine sd_run 8 ?_;simp only [bd] at hc1 hc2;refine zY (.bool false) hX i2_ ⟨(by congr 1; unfold stOk; rw [Bool.eq_iff_iff]; simp; omega), rfl⟩
 ·refine sd_run 14 ?_;simp only [bd] at hc1;refine zY (.bool false) hX i2_ ⟨(by congr 1; unfold stOk; rw [Bool.eq_iff_iff]; simp; omega), rfl⟩
noncomputable def f50b : Code := Try.f50.body.getD .skip
theorem fit_s {l lj : List Int} {need high : Int} {ro : Bool} {kl : Nat} (hh : 0 ≤ high ∧ high ≤ 16) : SCall Try.prog T16 50 #[sK 0 l.length kl, jI need, jI high] (hq [(uCo (l ++ lj) ro)]) fun v h => v = .bool (fitB l.length need high) ∧ h = hq [(uCo (l ++ lj) ro)] := by
 refine zS Try.f50 f50b 18 1 fun X hX => ?_
 refine zB 12 11 (decide ((l.length : Int) ≥ need)) (fun hc1 => ?_) fun hc1 => ?_
 ·refine zI 4 15 .i64 (16 - high) (IntKind.i64.wrap (16 - high)) (sd_run 6 ?_);refine zB 0 6 (decide ((l.length : Int) ≤ (16 - high))) (fun hc2 => ?_) fun hc2 => ?_
  ·simp only [bd] at hc1 hc2;refine zY (.bool true) hX i1_ ⟨(by congr 1; unfold fitB; rw [Bool.eq_iff_iff]; simp; omega), rfl⟩
  ·simp only [bd] at hc1 hc2;refine zY (.bool false) hX i1_ ⟨(by congr 1; unfold fitB; rw [Bool.eq_iff_iff]; simp; omega), rfl⟩
 ·refine sd_run 10 ?_;simp only [bd] at hc1;refine zY (.bool false) hX i1_ ⟨(by congr 1; unfold fitB; rw [Bool.eq_iff_iff]; simp; omega), rfl⟩
noncomputable def f32b : Code := Try.f32.body.getD .skip
theorem fits_s {c : List II} {od rd : List Int} {nd nr hd hr fl nx tg br tk ct vs : Int} {q : Sx} {d dj r rj : List Int} {ro : Bool} {ka kb : Nat} (hR : RightP c od rd nd nr hd hr fl tg br ct vs) (hol : od.length < 100000) (hrl : rd.length < 100000) (hi : ∀ x ∈ c, 0 ≤ x.2.2.2.2 ∧ x.2.2.2.2 < 4294967296) : SCall Try.prog T16 32 #[(pgV (s5 0 c.length) nd nr hd hr (s1 1 od.length) (s1 2 rd.length) fl nx tg br tk ct vs), (stq q q.pc (sK 3 d.length ka) (sK 4 r.length kb) q.fl q.cnt)] (hq [(iiF c), (inF od), (inF rd), (uCo (d ++ dj) ro), (uCo (r ++ rj) ro)]) fun v h => v = .bool (fitsB nd nr hd hr d r q.fl) ∧ h = hq [(iiF c), (inF od), (inF rd), (uCo (d ++ dj) ro), (uCo (r ++ rj) ro)] := by
 have hlen := hR.len; have q3 := hR.hd_; have q4 := hR.hr_;refine zS Try.f32 f32b 29 5 fun X hX => ?_
 refine sd_run 10 (zG 6 23 #[(pgV (s5 0 c.length) nd nr hd hr (s1 1 od.length) (s1 2 rd.length) fl nx tg br tk ct vs)] (@right_s c od rd nd nr hd hr fl nx tg br tk ct vs zo zo zo hi) i3_ ?_);rintro v9 k9 ⟨rfl, rfl⟩;refine ⟨rfl, .bool (rightB c od rd nd nr hd hr fl tg br ct vs), kr, ?_⟩;refine sd_see 6 (.bool true) (see_bool kr (rightB_yes hR)) (sd_run 2 (zG 9 49 #[(stq q q.pc (sK 3 d.length ka) (sK 4 r.length kb) q.fl q.cnt)] (@stright_s q d dj r rj ka kb ro ) [some 3, some 4] ?_));rintro v9 k9 ⟨rfl, rfl⟩;refine ⟨rfl, .bool (stOk d r q.fl), kr, ?_⟩;refine zB 2 11 (stOk d r q.fl) (fun hc1 => ?_) fun hc1 => ?_
 ·refine sd_run 6 (zG 18 50 #[sK 3 d.length ka, jI nd, jI hd] (@fit_s d dj nd hd ro ka zo) [some 3] ?_);rintro v9 k9 ⟨rfl, rfl⟩;refine ⟨rfl, .bool (fitB d.length nd hd), kr, ?_⟩;refine zB 2 20 (fitB d.length nd hd) (fun hc2 => ?_) fun hc2 => ?_
  ·refine sd_run 6 (zG 27 50 #[sK 4 r.length kb, jI nr, jI hr] (@fit_s r rj nr hr ro kb zo) [some 4] ?_);rintro v9 k9 ⟨rfl, rfl⟩;refine ⟨rfl, .bool (fitB r.length nr hr), kr, ?_⟩;refine zB 5 4 (fitB r.length nr hr) (fun hc3 => ?_) fun hc3 => ?_
   ·refine zY (.bool true) hX i5_ ⟨(by congr 1; unfold fitsB; simp [*]), rfl⟩
   ·refine zY (.bool false) hX i5_ ⟨(by congr 1; unfold fitsB; simp [*]), rfl⟩
  ·refine sd_run 12 ?_;refine zY (.bool false) hX i5_ ⟨(by congr 1; unfold fitsB; simp [*]), rfl⟩
 ·refine sd_run 21 ?_;refine zY (.bool false) hX i5_ ⟨(by congr 1; unfold fitsB; simp [*]), rfl⟩
end Ls
end Go.Proofs.Ytegjicaoemhhlaa
