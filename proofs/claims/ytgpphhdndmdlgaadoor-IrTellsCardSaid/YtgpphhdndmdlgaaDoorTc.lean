/- Chapter 19: the two texts of a block. -/
import Derived.Test.YtgpphhdndmdlgaaDoorKd
namespace Go.Proofs.YtgpphhdndmdlgaaDoor
open Go Go.Ev Go.RowKit
set_option linter.unusedVariables false
set_option linter.unusedSimpArgs false
set_option maxRecDepth 100000
namespace Ls
theorem rows5_tab (c : List I5) : rows5 (tab iiC c) = some c := by
 induction c with
 | nil => rfl
 | cons x c ih =>
  obtain ⟨o, d, a, b, i⟩ := x
  rw [tab_cons]
  show rows5 (.int .i64 o :: .int .i64 d :: .int .i64 a :: .int .i64 b :: .int .u32 i :: tab iiC c) = _
  rw [rows5, ih]; rfl
theorem ok5B_of {x : I5} (h : ok5 x) : ok5B x = true := by
 obtain ⟨⟨a, b⟩, ⟨c, d⟩, ⟨e, f⟩, ⟨g, h⟩, i, j⟩ := h
 simp only [ok5B, Bool.and_eq_true, decide_eq_true_eq]
 exact ⟨⟨⟨⟨⟨⟨⟨⟨⟨a, b⟩, c⟩, d⟩, e⟩, f⟩, g⟩, h⟩, i⟩, j⟩
theorem spM_small {e : Em} {h H : Heap} {c : List I5} {el : TypeId} {ro : Bool} {cap : Nat} {r l' : List Value} (hn : HN e h H) (hb : h.get 0 = some ⟨tab iiC c, el, ro⟩) (hr : r.length = 13) (hok : ∀ x ∈ c, ok5 x) (hl : c.length ≤ 100) (ha : RNs e [.agg ⟨.slice (some ⟨0, 0, none⟩) c.length cap :: r⟩] l') : spM l' H = some (.string ⟨⟨lines c⟩⟩) := by
 obtain ⟨y, hy, hv⟩ := ha.2 0 _ rfl
 obtain ⟨z, rfl⟩ := List.length_eq_one_iff.1 ha.1.symm
 cases hy
 cases hv with
 | same hp => cases hp
 | @agg xs ys hs hh =>
  obtain ⟨ys⟩ := ys
  have hs2 : ys.length = r.length + 1 := by simpa using hs.symm
  cases ys with
  | nil => simp at hs2
  | cons u' r' =>
   have hr' : r'.length = 13 := by simp at hs2; omega
   have hu : RN e (.slice (some ⟨0, 0, none⟩) c.length cap) u' := hh 0 (by simp) (by simp)
   generalize hk : c.length = k at hu
   cases hu with
   | same hp => cases hp
   | slice h1 =>
    obtain ⟨cs, g1, g2⟩ := hn.blk 0 _ _ hb h1
    have hcs : cs = tab iiC c := (g2.inj (RNs.of_plain (tab_plain iiC_pl c)))
    subst hcs
    have e1 : ((tab iiC c).drop 0).take (k * 5) = tab iiC c := by
     rw [List.drop_zero, List.take_of_length_le (by rw [tab_len iiC_len, hk]; exact Nat.le_refl _)]
    have e2 : (r'.length.beq 13 && k.ble 100) = true := by rw [hr']; simp; omega
    have e3 : (c.length.beq k && c.all ok5B) = true := by
     rw [hk]; simp only [Bool.and_eq_true, Nat.beq_eq, List.all_eq_true]; exact ⟨trivial, fun x hx => ok5B_of (hok x hx)⟩
    simp only [spM, e2, cond_true, g1, e1, rows5_tab, e3]
   | nils h1 hc =>
    have hc0 : c = [] := List.length_eq_zero_iff.1 hk
    subst hc0
    have e2 : r'.length.beq 13 = true := by rw [hr']; rfl
    simp only [spM, e2, cond_true]
theorem text_sc {F : FuncId} {args : Array Value} {h : Heap} {c : List I5} {el : TypeId} {ro : Bool} {cap : Nat} {r : List Value} (ho : T20.orc F args.toList = none) (hf : T20.fn F = none) (hm : ∀ l H, T20.mor F l H = spM l H) (hargs : args.toList = [.agg ⟨.slice (some ⟨0, 0, none⟩) c.length cap :: r⟩]) (hb : h.get 0 = some ⟨tab iiC c, el, ro⟩) (hr : r.length = 13) (hok : ∀ x ∈ c, ok5 x) (hl : c.length ≤ 100) : SCall Tryd.prog T20 F args h fun v h1 => v = .string ⟨⟨lines c⟩⟩ ∧ h1 = h := by
 intro e args' H hn ha
 refine acall_mor (by rw [OrcDat.rn inferInstance ha]; exact ho) hf ((hm _ _).trans (spM_small hn hb hr hok hl (by rw [← hargs]; exact ha))) ⟨_, h, e, ⟨rfl, rfl⟩, hn, Ex.refl _ _ _, RN.of_closed rfl⟩
theorem irText_s {c : List II} {od rd : List Int} {nd nr hd hr fl nx tg br tk ct vs : Int} (hok : ∀ x ∈ c, ok5 x) (hcl : c.length ≤ 100) : SCall Tryd.prog T20 7 #[(pgV (s5 0 c.length) nd nr hd hr (s1 1 od.length) (s1 2 rd.length) fl nx tg br tk ct vs)] (hq [(iiCo c false), (inCo od false), (inCo rd false)]) fun v h => v = .string (⟨⟨lines c⟩⟩ : ByteArray) ∧ h = hq [(iiCo c false), (inCo od false), (inCo rd false)] :=
 text_sc (kr) (kr) (fun _ _ => rfl) rfl (hq_get _ _) rfl hok hcl
theorem lawText_s {c : List II} {od rd : List Int} {nd nr hd hr fl nx tg br tk ct vs : Int} (hok : ∀ x ∈ c, ok5 x) (hcl : c.length ≤ 100) : SCall Tryd.prog T20 8 #[(pgV (s5 0 c.length) nd nr hd hr (s1 1 od.length) (s1 2 rd.length) fl nx tg br tk ct vs)] (hq [(iiCo c false), (inCo od false), (inCo rd false)]) fun v h => v = .string (⟨⟨lines c⟩⟩ : ByteArray) ∧ h = hq [(iiCo c false), (inCo od false), (inCo rd false)] :=
 text_sc (kr) (kr) (fun _ _ => rfl) rfl (hq_get _ _) rfl hok hcl
end Ls
end Go.Proofs.YtgpphhdndmdlgaaDoor
