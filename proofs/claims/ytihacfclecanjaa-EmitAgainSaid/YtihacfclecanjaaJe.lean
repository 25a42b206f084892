/- Chapter 22: states are copied. -/
import Derived.Test.YtihacfclecanjaaJc
set_option linter.unusedVariables false
set_option linter.unusedSimpArgs false
namespace Go.Proofs.Ytihacfclecanjaa
open Go Go.Ev Go.RowKit
set_option maxRecDepth 100000
namespace Ls
theorem asrc_take {α : Type} {enc : α → List Value} {s b n cap : Nat} {l : List α} {H : Heap} {e : TypeId} {ro : Bool} (hs : ∀ a, (enc a).length = s) (g : H.get b = some ⟨tab enc l, e, ro⟩) (hn : n ≤ l.length) : asrc s (.slice (some ⟨b, 0, none⟩) n cap) H = some (n, tab enc (l.take n)) := by
 have e1 : (tab enc l).take (n * s) = tab enc (l.take n) := by
  conv => lhs; rw [show l = l.take n ++ l.drop n from (List.take_append_drop n l).symm]
  rw [tab_app, List.take_append_of_le_length (by rw [tab_len hs, List.length_take]; rw [Nat.min_eq_left hn]; exact Nat.le_refl _), List.take_of_length_le (by rw [tab_len hs, List.length_take, Nat.min_eq_left hn]; exact Nat.le_refl _)]
 exact asrc_blk g (by rw [List.drop_zero, e1]) (by rw [tab_len hs, List.length_take, Nat.min_eq_left hn])
theorem asrc_part {α : Type} {enc : α → List Value} {s b n cap : Nat} {a b_ : List α} {H : Heap} {e : TypeId} {ro : Bool} (hs : ∀ a, (enc a).length = s) (g : H.get b = some ⟨tab enc (a ++ b_), e, ro⟩) (hn : n = a.length) : asrc s (.slice (some ⟨b, 0, none⟩) n cap) H = some (n, tab enc a) := by
 rw [asrc_take hs g (by rw [List.length_append]; omega), hn, List.take_left]
noncomputable def f38b : Code := Try.f38.body.getD .skip
theorem copy16_s {q : Sx} {d dj r rj : List Int} {ka kb : Nat} {ro : Bool} (hd : d.length * 4 ≤ 140737488355328) (hr : r.length * 4 ≤ 140737488355328) : SCall Try.prog T15 38 #[(stq q q.pc (sK 0 d.length ka) (sK 1 r.length kb) q.fl q.cnt)] (hq [(uCo (d ++ dj) ro), (uCo (r ++ rj) ro)]) fun v h => v = (stq q q.pc (s1 2 d.length) (s1 3 r.length) q.fl q.cnt) ∧ h = hq [(uCo (d ++ dj) ro), (uCo (r ++ rj) ro), (uF d), (uF r)] := by
 refine zS Try.f38 f38b 14 2 fun X hX => ?_
 refine sd_run 11 (sd_first0N 6 32 32 22 0 3 4 d.length 5 (sK 0 d.length ka) (tab uC d) (tab uC d) kr kr kr kr kr (asrc_part (a := d) (b_ := dj) (e := 22) (ro := ro) uC_len kr rfl) kr zo kr rfl kr (sd_run 9 (sd_first0N 11 32 32 22 0 3 6 r.length 7 (sK 1 r.length kb) (tab uC r) (tab uC r) kr kr kr kr kr (asrc_part (a := r) (b_ := rj) (e := 22) (ro := ro) uC_len kr rfl) kr zo kr rfl kr (sd_run 11 ?_))));refine zZ (stq q q.pc (s1 5 d.length) (s1 7 r.length) q.fl q.cnt) hX (stq q q.pc (s1 2 d.length) (s1 3 r.length) q.fl q.cnt) (eM [1,2,6,8]) ⟨rfl, rfl⟩
noncomputable def f65b : Code := Try.f65.body.getD .skip
theorem clone_s {l lj : List Int} {ro : Bool} {ka : Nat} (hl : l.length * 4 ≤ 140737488355328) : SCall Try.prog T15 65 #[sK 0 l.length ka] (hq [(uCo (l ++ lj) ro)]) fun v h => v = (s1 1 l.length) ∧ h = hq [(uCo (l ++ lj) ro), (uF l)] := by
 refine zS Try.f65 f65b 8 1 fun X hX => ?_
 refine sd_run 9 (sd_eqnil 4 0 0 l.length ka 32 22 kr kr kr kr kr (fun hz => ?_) ?_)
 ·obtain rfl : l = [] := List.eq_nil_of_length_eq_zero hz;refine sd_run 10 ?_;refine zZ nS hX (s1 1 (([] : List Int).length)) [some 0, none] ⟨rfl, rfl⟩
 ·refine sd_run 9 (sd_first0N 7 32 32 22 0 3 1 l.length 2 (sK 0 l.length ka) (tab uC l) (tab uC l) kr kr kr kr kr (asrc_part (a := l) (b_ := lj) (e := 22) (ro := ro) uC_len kr rfl) kr zo kr rfl kr (sd_run 4 ?_));refine zZ (s1 2 l.length) hX (s1 1 l.length) [some 0, some 2] ⟨rfl, rfl⟩
noncomputable def f39b : Code := Try.f39.body.getD .skip
theorem copy_s {q : Sx} {d dj r rj : List Int} {ka kb : Nat} {ro : Bool} (hd : d.length * 4 ≤ 140737488355328) (hr : r.length * 4 ≤ 140737488355328) : SCall Try.prog T15 39 #[(stq q q.pc (sK 0 d.length ka) (sK 1 r.length kb) q.fl q.cnt)] (hq [(uCo (d ++ dj) ro), (uCo (r ++ rj) ro)]) fun v h => v = (stq q q.pc (s1 2 d.length) (s1 3 r.length) q.fl q.cnt) ∧ h = hq [(uCo (d ++ dj) ro), (uCo (r ++ rj) ro), (uF d), (uF r)] := by
 refine zS Try.f39 f39b 12 2 fun X hX => ?_
 refine sd_run 7 (sd_drawP kr ?_);refine svp_go 2 ?_;refine svp_line ?_;refine sv_call 5 65 #[sK 0 d.length ka] (@clone_s d dj ro ka hd) e1_ kr kr kr (hn_of 0 kr ⟨uC_b, ⟨⟩⟩) (rnG_sound rn2_sound _ _ kr) ?_;rintro v9 k9 ⟨rfl, rfl⟩;refine ⟨(s1 4 d.length), hq [(uCo (d ++ dj) ro), (uCo (r ++ rj) ro), oB 35 (slq q q.pc (sK 0 d.length ka) (sK 1 r.length kb) q.fl q.cnt), oB 35 (slw 0 nS nS 0 false false false 0 0 0 0 0 false false 0 false), (uF d)], glue_of kr kr ⟨cov_same 0 (hn_of 0 kr ⟨uC_b, ⟨⟩⟩) kr kr kr kr kr, cvo, cvo, cvo, uC_c 1, ⟨⟩⟩, rn2_sound _ _ kr, (fun _ => ⟨kr, keep_of (l1 := [(uCo (d ++ dj) ro), (uCo (r ++ rj) ro), oB 35 (slq q q.pc (sK 0 d.length ka) (sK 1 r.length kb) q.fl q.cnt), oB 35 (slw 0 nS nS 0 false false false 0 0 0 0 0 false false 0 false)]) kr kr⟩), ?_⟩;refine sv_run 1 ?_;refine sv_rd 7 (sK 1 r.length kb) 32 2 2 kr kr kr kr (veq_slice _ _ _) kr ?_;refine sv_call 8 65 #[sK 1 r.length kb] (@clone_s r rj ro kb hr) (emOf [some 1]) kr kr kr (hn_of 0 kr ⟨uC_b, ⟨⟩⟩) (rnG_sound rn2_sound _ _ kr) ?_;rintro v9 k9 ⟨rfl, rfl⟩;refine ⟨(s1 5 r.length), hq [(uCo (d ++ dj) ro), (uCo (r ++ rj) ro), oB 35 (slq q q.pc (sK 0 d.length ka) (sK 1 r.length kb) q.fl q.cnt), oB 35 (slw 0 nS nS 0 false false false 0 0 0 0 0 false false 0 false), (uF d), (uF r)], glue_of kr kr ⟨cvo, cov_same 0 (hn_of 0 kr ⟨uC_b, ⟨⟩⟩) kr kr kr kr kr, cvo, cvo, cvo, uC_c 1, ⟨⟩⟩, rn2_sound _ _ kr, (calm_no kr), ?_⟩;refine sv_run 4 ?_;refine sv_end kr ?_;refine sd_run 8 ?_
 refine zZ (stq q q.pc (s1 4 d.length) (s1 5 r.length) q.fl q.cnt) hX (stq q q.pc (s1 2 d.length) (s1 3 r.length) q.fl q.cnt) (eM [1,2,5,6]) ⟨rfl, rfl⟩
end Ls
end Go.Proofs.Ytihacfclecanjaa
