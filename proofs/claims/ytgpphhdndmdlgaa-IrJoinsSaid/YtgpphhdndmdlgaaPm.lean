/- Chapter 19: two blocks and both in one: the plain law. -/
import Derived.Test.YtgpphhdndmdlgaaPk
import Derived.Test.YtgpphhdndmdlgaaKr
namespace Go.Proofs.Ytgpphhdndmdlgaa
open Go Go.Ev Go.RowKit
set_option linter.unusedVariables false
set_option linter.unusedSimpArgs false
set_option maxRecDepth 100000
namespace Ls
theorem jjC_ones : ∀ x, (jjC x).all Ev.one = true := fun _ => rfl
theorem mid_both {l m : List (Int × Int)} (h : Mid l) (k : Mid m) : Mid (l ++ m) := fun x hx => (List.mem_append.1 hx).elim (h x) (k x)
theorem see_to {α : Type} {g : Option α} {v w : α} (h : g = some v) (e : v = w) : g = some w := e ▸ h
theorem cnt_app (c : Int) (m m2 : List (Int × Int)) : IntKind.u64.wrap (c + ((m ++ m2).length : Int)) = IntKind.u64.wrap (IntKind.u64.wrap (c + (m.length : Int)) + (m2.length : Int)) := by
 simp only [IntKind.wrap_u64, List.length_append]; omega
theorem runM_pre (a b : List (Int × Int)) (s : Ms) : ∀ k, k ≤ a.length → runM (a ++ b) s k = runM a s k
 | 0, _ => rfl
 | k + 1, h => by
  have hx : a[k]? = some (a[k]'(by omega)) := List.getElem?_eq_getElem _
  rw [runM_succ hx, runM_succ (l := a ++ b) (by rw [List.getElem?_append_left (by omega)]; exact hx), runM_pre a b s k (by omega)]
theorem runM_app (a b : List (Int × Int)) (s : Ms) : ∀ k, k ≤ b.length → runM (a ++ b) s (a.length + k) = (runM a s a.length).bind fun t => runM b t k
 | 0, _ => by rw [Nat.add_zero, runM_pre a b s _ (Nat.le_refl _)]; cases runM a s a.length <;> rfl
 | k + 1, h => by
  have hx : b[k]? = some (b[k]'(by omega)) := List.getElem?_eq_getElem _
  rw [← Nat.add_assoc, runM_succ (l := a ++ b) (x := b[k]'(by omega)) (by rw [List.getElem?_append_right (by omega), Nat.add_sub_cancel_left]; exact hx), runM_app a b s k (by omega)]
  cases runM a s a.length with
  | none => rfl
  | some t => show (runM b t k).bind _ = runM b t (k + 1); rw [runM_succ hx]
theorem mid_pc {a : List (Int × Int)} (ha : Mid a) {d r : List Int} {fl pc : Int} : ∀ k, k ≤ a.length → ∀ t, runM a ⟨d, r, fl, pc⟩ k = some t → t.pc = lowPc a pc k
 | 0, _, t, h => by cases h; rfl
 | k + 1, hk, t, h => by
  have hx : a[k]? = some (a[k]'(by omega)) := List.getElem?_eq_getElem _
  generalize a[k]'(by omega) = x at hx
  rw [runM_succ hx] at h
  cases h0 : runM a ⟨d, r, fl, pc⟩ k with
  | none => rw [h0] at h; cases h
  | some t0 =>
   rw [h0] at h
   have h1 := mid_pc ha k (by omega) t0 h0
   replace h : stepM x t0 = some t := h
   unfold stepM at h
   split at h
   ·cases h
    obtain ⟨_, _, he, _⟩ := ha x (List.mem_of_getElem? hx)
    have := ends_no he
    rw [lowPc_succ hx, ← h1]
    show doPc x.1 x.2 _ t0.d t0.r t0.fl = _
    unfold doPc
    rw [if_neg (by omega), if_neg (by omega), hB_no (by omega), if_neg (by simp; omega)]
   ·cases h
theorem lowPc_pre (a b : List (Int × Int)) (pc : Int) : ∀ k, k ≤ a.length → lowPc (a ++ b) pc k = lowPc a pc k
 | 0, _ => rfl
 | k + 1, h => by
  have hx : a[k]? = some (a[k]'(by omega)) := List.getElem?_eq_getElem _
  rw [lowPc_succ hx, lowPc_succ (l := a ++ b) (by rw [List.getElem?_append_left (by omega)]; exact hx), lowPc_pre a b pc k (by omega)]
theorem mid_size {op : Int} (hp : plainB op = true) (he : endsB op = false) : sizeZ op = if op = 1 then 2 else if op = 2 then 5 else 1 := by
 have h1 := ends_no he
 have h2 := plain_in hp
 unfold sizeZ namedB
 by_cases a : op = 1
 ·rw [if_pos (by omega), if_pos a]
 ·by_cases b : op = 2
  ·rw [if_neg (by omega), if_pos b, if_neg a, if_pos b]
  ·rw [if_neg (by omega), if_neg b, if_pos (by simp; omega), if_neg a, if_neg b]
theorem sz_snoc {m : List (Int × Int)} {pc sz o n z : Int} (h : IntKind.u32.wrap (pc + sz) = lowPc m pc m.length) (hp : plainB o = true) (he : endsB o = false) (hz : IntKind.u32.wrap (pc + z) = IntKind.u32.wrap (pc + sz + (if o = 1 then 2 else if o = 2 then 5 else 1))) : IntKind.u32.wrap (pc + z) = lowPc (m ++ [(o, n)]) pc (m ++ [(o, n)]).length := by
 rw [List.length_append, List.length_singleton, lowPc_succ (x := (o, n)) (by simp), lowPc_pre m _ pc _ (Nat.le_refl _), ← h, hz, mid_size hp he, IntKind.wrap_u32, IntKind.wrap_u32, IntKind.wrap_u32]
 omega
theorem sz_1 (pc sz : Int) : IntKind.u32.wrap (pc + IntKind.u32.wrap (sz + 1)) = IntKind.u32.wrap (pc + sz + 1) := by simp only [IntKind.wrap_u32]; omega
theorem sz_2 (pc sz : Int) : IntKind.u32.wrap (pc + IntKind.u32.wrap (IntKind.u32.wrap (sz + 1) + 1)) = IntKind.u32.wrap (pc + sz + 2) := by simp only [IntKind.wrap_u32]; omega
theorem sz_5 (pc sz : Int) : IntKind.u32.wrap (pc + IntKind.u32.wrap (IntKind.u32.wrap (sz + 1) + 4)) = IntKind.u32.wrap (pc + sz + 5) := by simp only [IntKind.wrap_u32]; omega
theorem none_app {a b : List (Int × Int)} {s : Ms} (h : runM a s a.length = none) : runM (a ++ b) s (a ++ b).length = none := by
 rw [List.length_append, runM_app a b s _ (Nat.le_refl _), h]; rfl
theorem some_app {a b : List (Int × Int)} {s t : Ms} (h : runM a s a.length = some t) : runM (a ++ b) s (a ++ b).length = runM b t b.length := by
 rw [List.length_append, runM_app a b s _ (Nat.le_refl _), h]; rfl
theorem runM_in {l : List (Int × Int)} {pc : Int} (hl : Mid l) {d r : List Int} {f : Int} (hd : d.length ≤ 16) (hr : r.length ≤ 16) (hd32 : V32 d) (hr32 : V32 r) (hf : 0 ≤ f ∧ f ≤ 15) : ∀ k, k ≤ l.length → ∀ t, runM l ⟨d, r, f, pc⟩ k = some t → (t.d.length ≤ 16 ∧ t.r.length ≤ 16) ∧ (V32 t.d ∧ V32 t.r) ∧ (0 ≤ t.fl ∧ t.fl ≤ 15)
 | 0, _, t, h => by cases h; exact ⟨⟨hd, hr⟩, ⟨hd32, hr32⟩, hf⟩
 | k + 1, hk, t, h => by
  have hx : l[k]? = some (l[k]'(by omega)) := List.getElem?_eq_getElem _
  generalize l[k]'(by omega) = x at hx
  rw [runM_succ hx] at h
  cases h0 : runM l ⟨d, r, f, pc⟩ k with
  | none => rw [h0] at h; cases h
  | some t0 =>
   rw [h0] at h
   obtain ⟨⟨a1, a2⟩, ⟨a3, a4⟩, a5⟩ := runM_in hl hd hr hd32 hr32 hf k (by omega) t0 h0
   replace h : stepM x t0 = some t := h
   unfold stepM at h
   split at h
   ·rename_i hc
    cases h
    obtain ⟨_, hp, _, h1, h2⟩ := hl x (List.mem_of_getElem? hx)
    exact ⟨⟨(doD_len hp hc 0).1, (doD_len (n := 0) hp hc _).2⟩, ⟨doD_32 a3 a4 ⟨h1, h2⟩, doRs_32 a3 a4 (u32_wrap_in _)⟩, doFl_in a5⟩
   ·cases h
theorem eval_to {c : List II} {od rd : List Int} {nd nr hd hr fl nx tg br tk ct vs : Int} {q : Sx} {d dj r rj : List Int} {ro : Bool} {D R : List Int} {F P : Int} (hR : RightP c od rd nd nr hd hr fl tg br ct vs) (hol : od.length < 100000) (hrl : rd.length < 100000) (hi : ∀ x ∈ c, 0 ≤ x.2.2.2.2 ∧ x.2.2.2.2 < 4294967296) (hd32 : V32 d) (hr32 : V32 r) (hfq : 0 ≤ q.fl ∧ q.fl < 4294967296) (hf : fitsB nd nr hd hr d r q.fl = true) (hm : ¬ ((d.length : Int) - nd + (od.length : Int) > 16 ∨ (r.length : Int) - nr + (rd.length : Int) > 16)) (e1 : D = (putL (evV c d r c.length) d nd.toNat od)) (e2 : R = (putL (evV c d r c.length) r nr.toNat rd)) (e3 : F = leftF (evV c d r c.length) fl q.fl) (e4 : P = leftP (evV c d r c.length) nx tg br tk F) : SCall Try.prog T20 12 #[(pgV (s5 0 c.length) nd nr hd hr (s1 1 od.length) (s1 2 rd.length) fl nx tg br tk ct vs), (stq q q.pc (s1 3 d.length) (s1 4 r.length) q.fl q.cnt)] (hq [(iiCo c false), (inCo od false), (inCo rd false), (uCo (d ++ dj) ro), (uCo (r ++ rj) ro)]) fun v h => v = .tuple #[(stq q P (s1 5 D.length) (s1 6 R.length) F (IntKind.u64.wrap (q.cnt + ct))), .bool true] ∧ h = hq [(iiCo c false), (inCo od false), (inCo rd false), (uCo (d ++ dj) ro), (uCo (r ++ rj) ro), (uCo D false), (uCo R false)] := by
 subst e1 e2 e3 e4
 refine (eval_ok hR hol hrl hi hd32 hr32 hfq hf hm).mono fun v h ⟨f1, p1, h1, h2, h3, h4⟩ => ?_
 subst h1 h2
 exact ⟨h3, h4⟩
end Ls
end Go.Proofs.Ytgpphhdndmdlgaa
