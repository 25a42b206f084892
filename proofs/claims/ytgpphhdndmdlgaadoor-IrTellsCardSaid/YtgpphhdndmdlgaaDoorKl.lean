/- Chapter 19: states are copied. -/
import Derived.Test.YtgpphhdndmdlgaaDoorMo
namespace Go.Proofs.YtgpphhdndmdlgaaDoor
open Go Go.Ev Go.RowKit
set_option linter.unusedVariables false
set_option linter.unusedSimpArgs false
set_option maxRecDepth 100000
namespace Ls
theorem asrc_take {α : Type} {enc : α → List Value} {s b n cap : Nat} {l : List α} {H : Heap} {e : TypeId} {ro : Bool} (hs : ∀ a, (enc a).length = s) (g : H.get b = some ⟨tab enc l, e, ro⟩) (hn : n ≤ l.length) : asrc s (.slice (some ⟨b, 0, none⟩) n cap) H = some (n, tab enc (l.take n)) := by
 have e1 : (tab enc l).take (n * s) = tab enc (l.take n) := by
  conv => lhs; rw [show l = l.take n ++ l.drop n from (List.take_append_drop n l).symm]
  rw [tab_app, List.take_append_of_le_length (by rw [tab_len hs, List.length_take]; rw [Nat.min_eq_left hn]; exact Nat.le_refl _), List.take_of_length_le (by rw [tab_len hs, List.length_take, Nat.min_eq_left hn]; exact Nat.le_refl _)]
 exact asrc_blk g (by rw [List.drop_zero, e1]) (by rw [tab_len hs, List.length_take, Nat.min_eq_left hn])
theorem asrc_part {α : Type} {enc : α → List Value} {s b n cap : Nat} {a b_ : List α} {H : Heap} {e : TypeId} {ro : Bool} (hs : ∀ a, (enc a).length = s) (g : H.get b = some ⟨tab enc (a ++ b_), e, ro⟩) (hn : n = a.length) : asrc s (.slice (some ⟨b, 0, none⟩) n cap) H = some (n, tab enc a) := by
 rw [asrc_take hs g (by rw [List.length_append]; omega), hn, List.take_left]
theorem asrc_ptake {α : Type} {enc : α → List Value} {s b n cap : Nat} {a b_ : List α} {H : Heap} {e : TypeId} {ro : Bool} (hs : ∀ a, (enc a).length = s) (g : H.get b = some ⟨tab enc (a ++ b_), e, ro⟩) (hn : n ≤ a.length) : asrc s (.slice (some ⟨b, 0, none⟩) n cap) H = some (n, tab enc (a.take n)) := by
 rw [asrc_take hs g (by rw [List.length_append]; omega), List.take_append_of_le_length hn]
noncomputable def f13b : Code := Tryd.f13.body.getD .skip
theorem f13_body : Tryd.f13.body = some f13b := by kernel_rfl
theorem f13_fn : T20.fn 13 = some Tryd.f13 := by kernel_rfl
theorem copy16_s {q : Sx} {d dj r rj : List Int} {ka kb : Nat} {ro : Bool} (hd : d.length * 4 ≤ 140737488355328) (hr : r.length * 4 ≤ 140737488355328) : SCall Tryd.prog T20 13 #[(stq q q.pc (.slice (some ⟨0, 0, none⟩) d.length ka) (.slice (some ⟨1, 0, none⟩) r.length kb) q.fl q.cnt)] (hq [(uCo (d ++ dj) ro), (uCo (r ++ rj) ro)]) fun v h => v = (stq q q.pc (s1 2 d.length) (s1 3 r.length) q.fl q.cnt) ∧ h = hq [(uCo (d ++ dj) ro), (uCo (r ++ rj) ro), (uCo d false), (uCo r false)] := by
 refine scall_sd 14 _ 2 kr f13_fn f13_body rfl rfl rfl fun X hX => ?_
 refine sd_run 11 (sd_first0N 6 23 23 24 0 3 4 d.length 5 (.slice (some ⟨0, 0, none⟩) d.length ka) (tab uC d) (tab uC d) kr kr kr kr kr (asrc_part (a := d) (b_ := dj) (e := 24) (ro := ro) uC_len kr rfl) kr (by omega) kr rfl kr (sd_run 9 (sd_first0N 11 23 23 24 0 3 6 r.length 7 (.slice (some ⟨1, 0, none⟩) r.length kb) (tab uC r) (tab uC r) kr kr kr kr kr (asrc_part (a := r) (b_ := rj) (e := 24) (ro := ro) uC_len kr rfl) kr (by omega) kr rfl kr (sd_run 11 ?_))))
 refine sdZ (stq q q.pc (s1 5 d.length) (s1 7 r.length) q.fl q.cnt) hX (stq q q.pc (s1 2 d.length) (s1 3 r.length) q.fl q.cnt) [(uCo (d ++ dj) ro), (uCo (r ++ rj) ro), (uCo d false), (uCo r false)] [some 0, some 1, some 5, some 7] ⟨uC_b, uC_b, uC_b, uC_b, ⟨⟩⟩ ⟨rfl, rfl⟩
noncomputable def f51b : Code := Tryd.f51.body.getD .skip
theorem f51_body : Tryd.f51.body = some f51b := by kernel_rfl
theorem f51_fn : T20.fn 51 = some Tryd.f51 := by kernel_rfl
theorem clone_s {l lj : List Int} {ro : Bool} {ka : Nat} (hl : l.length * 4 ≤ 140737488355328) : SCall Tryd.prog T20 51 #[.slice (some ⟨0, 0, none⟩) l.length ka] (hq [(uCo (l ++ lj) ro)]) fun v h => v = (s1 1 l.length) ∧ h = hq [(uCo (l ++ lj) ro), (uCo l false)] := by
 refine scall_sd 8 _ 1 kr f51_fn f51_body rfl rfl rfl fun X hX => ?_
 refine sd_run 9 (sd_eqnil 4 0 0 l.length ka 23 24 kr kr kr kr kr (fun hz => ?_) ?_)
 ·skip
  obtain rfl : l = [] := List.eq_nil_of_length_eq_zero hz
  refine sd_run 10 ?_
  refine sdZ (.slice none 0 0) hX (s1 1 (([] : List Int).length)) [(uCo (([] : List Int) ++ lj) ro), (uCo ([] : List Int) false)] [some 0, none] ⟨uC_b, rfl, ⟨⟩⟩ ⟨rfl, rfl⟩
 ·skip
  refine sd_run 9 (sd_first0N 7 23 23 24 0 3 1 l.length 2 (.slice (some ⟨0, 0, none⟩) l.length ka) (tab uC l) (tab uC l) kr kr kr kr kr (asrc_part (a := l) (b_ := lj) (e := 24) (ro := ro) uC_len kr rfl) kr (by omega) kr rfl kr (sd_run 4 ?_))
  refine sdZ (s1 2 l.length) hX (s1 1 l.length) [(uCo (l ++ lj) ro), (uCo l false)] [some 0, some 2] ⟨uC_b, uC_b, ⟨⟩⟩ ⟨rfl, rfl⟩
noncomputable def f27b : Code := Tryd.f27.body.getD .skip
theorem f27_body : Tryd.f27.body = some f27b := by kernel_rfl
theorem f27_fn : T20.fn 27 = some Tryd.f27 := by kernel_rfl
theorem copy_s {q : Sx} {d dj r rj : List Int} {ka kb : Nat} {ro : Bool} (hd : d.length * 4 ≤ 140737488355328) (hr : r.length * 4 ≤ 140737488355328) : SCall Tryd.prog T20 27 #[(stq q q.pc (.slice (some ⟨0, 0, none⟩) d.length ka) (.slice (some ⟨1, 0, none⟩) r.length kb) q.fl q.cnt)] (hq [(uCo (d ++ dj) ro), (uCo (r ++ rj) ro)]) fun v h => v = (stq q q.pc (s1 2 d.length) (s1 3 r.length) q.fl q.cnt) ∧ h = hq [(uCo (d ++ dj) ro), (uCo (r ++ rj) ro), (uCo d false), (uCo r false)] := by
 refine scall_sd 12 _ 2 kr f27_fn f27_body rfl rfl rfl fun X hX => ?_
 refine sd_run 7 (sd_drawP kr ?_)
 refine svp_go 2 ?_
 refine svp_line ?_
 refine sv_call 5 51 #[.slice (some ⟨0, 0, none⟩) d.length ka] (@clone_s d dj ro ka hd) e1_ kr kr kr (hn_of 0 kr ⟨uC_b, ⟨⟩⟩) (rnG_sound rn2_sound _ _ kr) ?_
 rintro v9 k9 ⟨rfl, rfl⟩
 refine ⟨(s1 4 d.length), hq [(uCo (d ++ dj) ro), (uCo (r ++ rj) ro), some ⟨(slq q q.pc (.slice (some ⟨0, 0, none⟩) d.length ka) (.slice (some ⟨1, 0, none⟩) r.length kb) q.fl q.cnt), 29, false⟩, some ⟨(slw 0 (.slice none 0 0) (.slice none 0 0) 0 false false false 0 0 0 0 0 false false 0 false), 29, false⟩, (uCo d false)], glue_of kr kr ⟨cov_same 0 (hn_of 0 kr ⟨uC_b, ⟨⟩⟩) kr kr kr kr kr, cvo, cvo, cvo, uC_c 1, ⟨⟩⟩, rn2_sound _ _ kr, (fun _ => ⟨kr, keep_of (l1 := [(uCo (d ++ dj) ro), (uCo (r ++ rj) ro), some ⟨(slq q q.pc (.slice (some ⟨0, 0, none⟩) d.length ka) (.slice (some ⟨1, 0, none⟩) r.length kb) q.fl q.cnt), 29, false⟩, some ⟨(slw 0 (.slice none 0 0) (.slice none 0 0) 0 false false false 0 0 0 0 0 false false 0 false), 29, false⟩]) kr kr⟩), ?_⟩
 refine sv_run 1 ?_
 refine sv_rd 7 (.slice (some ⟨1, 0, none⟩) r.length kb) 23 2 2 kr kr kr kr (veq_slice _ _ _) kr ?_
 refine sv_call 8 51 #[.slice (some ⟨1, 0, none⟩) r.length kb] (@clone_s r rj ro kb hr) (emOf [some 1]) kr kr kr (hn_of 0 kr ⟨uC_b, ⟨⟩⟩) (rnG_sound rn2_sound _ _ kr) ?_
 rintro v9 k9 ⟨rfl, rfl⟩
 refine ⟨(s1 5 r.length), hq [(uCo (d ++ dj) ro), (uCo (r ++ rj) ro), some ⟨(slq q q.pc (.slice (some ⟨0, 0, none⟩) d.length ka) (.slice (some ⟨1, 0, none⟩) r.length kb) q.fl q.cnt), 29, false⟩, some ⟨(slw 0 (.slice none 0 0) (.slice none 0 0) 0 false false false 0 0 0 0 0 false false 0 false), 29, false⟩, (uCo d false), (uCo r false)], glue_of kr kr ⟨cvo, cov_same 0 (hn_of 0 kr ⟨uC_b, ⟨⟩⟩) kr kr kr kr kr, cvo, cvo, cvo, uC_c 1, ⟨⟩⟩, rn2_sound _ _ kr, (calm_no kr), ?_⟩
 refine sv_run 4 ?_
 refine sv_end kr ?_
 refine sd_run 8 ?_
 refine sdZ (stq q q.pc (s1 4 d.length) (s1 5 r.length) q.fl q.cnt) hX (stq q q.pc (s1 2 d.length) (s1 3 r.length) q.fl q.cnt) [(uCo (d ++ dj) ro), (uCo (r ++ rj) ro), (uCo d false), (uCo r false)] [some 0, some 1, some 4, some 5] ⟨uC_b, uC_b, uC_b, uC_b, ⟨⟩⟩ ⟨rfl, rfl⟩
end Ls
end Go.Proofs.YtgpphhdndmdlgaaDoor
