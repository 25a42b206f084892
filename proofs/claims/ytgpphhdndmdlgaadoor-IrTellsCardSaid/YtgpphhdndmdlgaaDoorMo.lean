/- The two texts of a block as oracles over memory. -/
import Derived.Test.YtgpphhdndmdlgaaDoorTy
import Derived.Test.YtgpphhdndmdlgaaDoorKc
namespace Go.Proofs.YtgpphhdndmdlgaaDoor
open Go Go.Ev Go.RowKit
set_option linter.unusedVariables false
set_option linter.unusedSimpArgs false
set_option maxRecDepth 100000
namespace Ls
class Tb [Bs] : Prop where
 tab : ∀ w, OnBs w → Lib.TabIs Tryd.prog w "internal/strconv.uint64pow10" .u64 Lib.pow10Tab
set_option maxHeartbeats 1000000 in
theorem text_nil (x1 x2 x3 x4 x5 x6 x7 x8 x9 x10 x11 x12 x13 : Value) (w : World) :
    Calls Tryd.prog 8 #[.agg #[.slice none 0 0, x1, x2, x3, x4, x5, x6, x7, x8, x9, x10, x11, x12, x13]] w fun e w' => e = .returned (.string ⟨⟨lines []⟩⟩) ∧ Below w.heap.size w w' := by
 go_enter Tryd.func8, Tryd.ntmps8
 go_wp2_with fail
 go_loopw [3, 4] (fun s i wr => s = .string ⟨⟨[]⟩⟩ ∧ i = .int .i64 0 ∧ wr = w.alloc (.cells #[.slice none 0 0, x1, x2, x3, x4, x5, x6, x7, x8, x9, x10, x11, x12, x13] 32)) (fun _ _ _ => 0)
 case atStart => exact ⟨rfl, rfl, rfl⟩
 case round =>
  obtain ⟨rfl, rfl, rfl⟩ := hrel
  go_wp2_with fail
  go_ret
  exact ⟨rfl, (Below.refl w.heap.size w).alloc (Nat.le_refl _) _⟩
set_option maxHeartbeats 1000000 in
theorem Text_nil (x1 x2 x3 x4 x5 x6 x7 x8 x9 x10 x11 x12 x13 : Value) (w : World) :
    Calls Tryd.prog 7 #[.agg #[.slice none 0 0, x1, x2, x3, x4, x5, x6, x7, x8, x9, x10, x11, x12, x13]] w fun e w' => e = .returned (.string ⟨⟨lines []⟩⟩) ∧ Below w.heap.size w w' := by
 have hstart : Lib.IsBuilder 51 5 (w.heap.size + 1) (w.heap.size + 1) (Lib.byteCells []) ((w.alloc (.cells #[.slice none 0 0, x1, x2, x3, x4, x5, x6, x7, x8, x9, x10, x11, x12, x13] 32)).alloc (.cells #[.pointer none, .slice none 0 0] 51)) := by
  have := Lib.fresh_isBuilder 51 5 (w.alloc (.cells #[.slice none 0 0, x1, x2, x3, x4, x5, x6, x7, x8, x9, x10, x11, x12, x13] 32))
  rw [alloc_size] at this
  exact this
 have hB := ((Below.refl w.heap.size w).alloc (Nat.le_refl _) (.cells #[.slice none 0 0, x1, x2, x3, x4, x5, x6, x7, x8, x9, x10, x11, x12, x13] 32)).alloc (by rw [alloc_size]; omega) (.cells #[.pointer none, .slice none 0 0] 51)
 have hz : w.heap.size + 1 ≤ ((w.alloc (.cells #[.slice none 0 0, x1, x2, x3, x4, x5, x6, x7, x8, x9, x10, x11, x12, x13] 32)).alloc (.cells #[.pointer none, .slice none 0 0] 51)).heap.size := by rw [alloc_size, alloc_size]; omega
 have Hs := Lib.hid hstart
 have HB := Lib.hid hB
 have HZ := Lib.hid hz
 clear hstart hB hz
 go_enter Tryd.func7, Tryd.ntmps7
 go_wp2_with fail
 go_loopw [11] (fun i wr => i = .int .i64 0 ∧ wr = (w.alloc (.cells #[.slice none 0 0, x1, x2, x3, x4, x5, x6, x7, x8, x9, x10, x11, x12, x13] 32)).alloc (.cells #[.pointer none, .slice none 0 0] 51)) (fun _ _ => 0)
 case atStart => exact ⟨rfl, rfl⟩
 case round =>
  obtain ⟨rfl, rfl⟩ := hrel
  generalize (w.alloc (.cells #[.slice none 0 0, x1, x2, x3, x4, x5, x6, x7, x8, x9, x10, x11, x12, x13] 32)).alloc (.cells #[.pointer none, .slice none 0 0] 51) = wr at Hs HB HZ ⊢
  go_wp2_with fail
  refine (Tryd.Builder_String_any (w.heap.size + 1) (w.heap.size + 1) _ wr Hs.out HZ.out).mono ?_
  rintro e w5 ⟨rfl, hb5⟩
  have Hb5 := Lib.hid (HB.out.trans (hb5.mono (by omega)))
  clear hb5
  go_wp2
  go_ret
  exact ⟨rfl, Hb5.out⟩
def rows5 : List Value → Option (List I5)
 | [] => some []
 | .int .i64 o :: .int .i64 d :: .int .i64 a :: .int .i64 b :: .int .u32 i :: r => (rows5 r).map ((o, d, a, b, i) :: ·)
 | _ => none
def ok5B (x : I5) : Bool := decide (-4294967296 ≤ x.1) && decide (x.1 ≤ 4294967296) && decide (-4294967296 ≤ x.2.1) && decide (x.2.1 ≤ 4294967296) && decide (-4294967296 ≤ x.2.2.1) && decide (x.2.2.1 ≤ 4294967296) && decide (-4294967296 ≤ x.2.2.2.1) && decide (x.2.2.2.1 ≤ 4294967296) && decide (0 ≤ x.2.2.2.2) && decide (x.2.2.2.2 < 4294967296)
theorem ok5_of {x : I5} (h : ok5B x = true) : ok5 x := by
 simp only [ok5B, Bool.and_eq_true, decide_eq_true_eq] at h
 obtain ⟨⟨⟨⟨⟨⟨⟨⟨⟨a, b⟩, c⟩, d⟩, e⟩, f⟩, g⟩, h⟩, i⟩, j⟩ := h
 exact ⟨⟨a, b⟩, ⟨c, d⟩, ⟨e, f⟩, ⟨g, h⟩, i, j⟩
theorem rows5_at : ∀ (l : List Value) (c : List I5), rows5 l = some c → ∀ (i : Nat) (x : I5), c[i]? = some x → l[i * 5]? = some (.int .i64 x.1) ∧ l[i * 5 + 1]? = some (.int .i64 x.2.1) ∧ l[i * 5 + 2]? = some (.int .i64 x.2.2.1) ∧ l[i * 5 + 3]? = some (.int .i64 x.2.2.2.1) ∧ l[i * 5 + 4]? = some (.int .u32 x.2.2.2.2) := by
 intro l
 induction l using rows5.induct with
 | case1 => intro c h i x hx; simp [rows5] at h; subst h; simp at hx
 | case2 o d a b im r ih =>
  intro c h i x hx
  rw [rows5] at h
  obtain ⟨c', h1, rfl⟩ := Option.map_eq_some_iff.1 h
  cases i with
  | zero => simp at hx; subst hx; exact ⟨rfl, rfl, rfl, rfl, rfl⟩
  | succ i =>
   have := ih c' h1 i x (by simpa using hx)
   rw [show (i + 1) * 5 = i * 5 + 5 by omega]
   simpa using this
 | case3 l h1 h2 => intro c h; rw [rows5] at h; · cases h
                    ·exact h1
                    ·exact h2
def spM : List Value → Heap → Option Value
 | [.agg ⟨.slice (some ⟨b, off, none⟩) n cap :: r⟩], H => bif r.length.beq 13 && n.ble 100 then
     match H.get b with
     | some o => match rows5 ((o.cells.drop off).take (n * 5)) with
      | some c => bif c.length.beq n && c.all ok5B then some (.string ⟨⟨lines c⟩⟩) else none
      | none => none
     | none => none
  else none
 | [.agg ⟨.slice none 0 0 :: r⟩], H => bif r.length.beq 13 then some (.string ⟨⟨lines []⟩⟩) else none
 | _, _ => none
theorem arr13 {l : List Value} (h : l.length = 13) : ∃ x1 x2 x3 x4 x5 x6 x7 x8 x9 x10 x11 x12 x13, l = [x1, x2, x3, x4, x5, x6, x7, x8, x9, x10, x11, x12, x13] := by
 match l, h with
 | [x1, x2, x3, x4, x5, x6, x7, x8, x9, x10, x11, x12, x13], _ => exact ⟨_, _, _, _, _, _, _, _, _, _, _, _, _, rfl⟩
theorem spM_sound [Bs] (F : FuncId)
    (hw : ∀ (c : List I5) (b o cap : Nat) (x1 x2 x3 x4 x5 x6 x7 x8 x9 x10 x11 x12 x13 : Value) (w : World), OnBs w → b < w.heap.size → (∀ x ∈ c, ok5 x) → c.length ≤ 100 → Rows5 w b o c → Calls Tryd.prog F #[.agg #[.slice (some ⟨b, o, none⟩) c.length cap, x1, x2, x3, x4, x5, x6, x7, x8, x9, x10, x11, x12, x13]] w fun e w' => e = .returned (.string ⟨⟨lines c⟩⟩) ∧ Below w.heap.size w w')
    (hn : ∀ (x1 x2 x3 x4 x5 x6 x7 x8 x9 x10 x11 x12 x13 : Value) (w : World), Calls Tryd.prog F #[.agg #[.slice none 0 0, x1, x2, x3, x4, x5, x6, x7, x8, x9, x10, x11, x12, x13]] w fun e w' => e = .returned (.string ⟨⟨lines []⟩⟩) ∧ Below w.heap.size w w')
    (args : Array Value) (H : Heap) (v : Value) (h : spM args.toList H = some v) : closed v = true ∧ ∀ (m : Map) (w : World) (args' : Array Value), HWf H → Rep Tryd.prog m H w → VRs m args.toList args'.toList → Calls Tryd.prog F args' w fun e w' => e = .returned v ∧ Quiet w w' := by
 have tail : ∀ (m : Map) (u : Value) (r : List Value) (args' : Array Value), VRs m [.agg ⟨u :: r⟩] args'.toList → ∃ u' r', args' = #[.agg ⟨u' :: r'⟩] ∧ VR m u u' ∧ r'.length = r.length := by
  intro m u r args' ha
  obtain ⟨y, hy, hv⟩ := ha.2 0 _ rfl
  have hl : args'.toList.length = 1 := ha.1.symm
  obtain ⟨z, hz⟩ : ∃ z, args'.toList = [z] := List.length_eq_one_iff.1 hl
  rw [hz] at hy; cases hy
  cases hv with
  | same hp => simp [plain] at hp
  | @agg xs ys hs hh =>
   obtain ⟨ys⟩ := ys
   have hs2 : ys.length = r.length + 1 := by simpa using hs.symm
   cases ys with
   | nil => simp at hs2
   | cons u' r' =>
    refine ⟨u', r', ?_, hh 0 (by simp) (by simp), by simpa using hs2⟩
    rw [← Array.toList_inj, hz]
 unfold spM at h
 split at h
 ·rename_i b off n cap r he
  cases hb : (r.length.beq 13 && n.ble 100)
  ·rw [hb] at h; cases h
  rw [hb] at h
  simp only [cond_true] at h
  split at h
  ·rename_i o ho
   split at h
   ·rename_i c hc
    cases hd : (c.length.beq n && c.all ok5B)
    ·rw [hd] at h; cases h
    rw [hd] at h
    cases h
    simp only [Bool.and_eq_true, Nat.beq_eq, Nat.ble_eq, List.all_eq_true] at hb hd
    obtain ⟨hr, hn100⟩ := hb
    obtain ⟨rfl, hok⟩ := hd
    refine ⟨rfl, fun m w args' hwf hrep ha => ?_⟩
    rw [he] at ha
    obtain ⟨u', r', rfl, hu, hr'⟩ := tail m _ _ _ ha
    obtain ⟨x1, x2, x3, x4, x5, x6, x7, x8, x9, x10, x11, x12, x13, rfl⟩ := arr13 (hr'.trans hr)
    have key : ∀ (cb q cap' : Nat) (L : Ev.Loc), m b = some L → (c.length = 0 ∨ q = L.o + off) → cb = L.c → Calls Tryd.prog F #[.agg #[.slice (some ⟨cb, q, none⟩) c.length cap', x1, x2, x3, x4, x5, x6, x7, x8, x9, x10, x11, x12, x13]] w fun e w' => e = .returned (.string ⟨⟨lines c⟩⟩) ∧ Quiet w w' := by
     intro cb q cap' L hm hq hcb
     subst hcb
     have hbk := hrep.blk b L o hm ho
     obtain ⟨cs, e, fz, h1, h2, h3, h4⟩ := hbk
     have hlt : L.c < w.heap.size := (Array.getElem?_eq_some_iff.1 h1).1
     refine (hw c L.c q cap' x1 x2 x3 x4 x5 x6 x7 x8 x9 x10 x11 x12 x13 w hrep.bas.toOnBs hlt (fun x hx => ok5_of (hok x hx)) hn100 ?_).mono fun e w' he => ⟨he.1, Quiet.of_below he.2⟩
     intro i x hx
     have hi : i < c.length := (List.getElem?_eq_some_iff.1 hx).1
     rcases hq with hq | rfl
     ·omega
     have at5 := rows5_at _ _ hc i x hx
     have one : ∀ (j : Nat) (k : IntKind) (z : Int), ((o.cells.drop off).take (c.length * 5))[j]? = some (.int k z) → w.cell? ⟨L.c, L.o + off + j, none⟩ = some (.int k z) := by
      intro j k z hj
      rw [List.getElem?_take] at hj
      split at hj
      ·rw [List.getElem?_drop] at hj
       obtain ⟨y, hy, hv⟩ := h3 _ _ hj
       have := hv.plain_eq rfl
       subst this
       rw [Lib.cell_of_heap h1]
       rw [show L.o + off + j = L.o + (off + j) by omega]; exact hy
      ·cases hj
     exact ⟨one _ _ _ at5.1, one _ _ _ at5.2.1, one _ _ _ at5.2.2.1, one _ _ _ at5.2.2.2.1, one _ _ _ at5.2.2.2.2⟩
    cases hu with
    | same hp => simp [plain] at hp
    | @slice _ _ _ _ q cap' L hm hcq =>
     refine key L.c q cap' L hm ?_ rfl
     rcases hcq with ⟨_, _, hq⟩ | ⟨_, _, _, hq⟩
     ·exact .inr hq
     ·exact hq
   ·cases h
  ·cases h
 ·rename_i r he
  cases hb : r.length.beq 13
  ·rw [hb] at h; cases h
  rw [hb] at h
  cases h
  simp only [Nat.beq_eq] at hb
  refine ⟨rfl, fun m w args' hwf hrep ha => ?_⟩
  rw [he] at ha
  obtain ⟨u', r', rfl, hu, hr'⟩ := tail m _ _ _ ha
  obtain ⟨x1, x2, x3, x4, x5, x6, x7, x8, x9, x10, x11, x12, x13, rfl⟩ := arr13 (hr'.trans hb)
  obtain rfl := hu.closed_eq rfl
  exact (hn x1 x2 x3 x4 x5 x6 x7 x8 x9 x10 x11 x12 x13 w).mono fun e w' he => ⟨he.1, Quiet.of_below he.2⟩
 ·cases h
theorem onbs_below [Bs] {w w' : World} (h : OnBs w) (hb : Below w.heap.size w w') : OnBs w' := ⟨Nat.le_trans h.ksz hb.size, fun c hc => (hb.block c (Nat.lt_of_lt_of_le hc h.ksz)).trans (h.low c hc)⟩
noncomputable def T14 : Tab := { T13 with fn := fun f => bif Nat.beq f 7 then none else T13.fn f, mor := fun f l H => bif Nat.beq f 7 then spM l H else T13.mor f l H, has := fun f => bif Nat.beq f 7 then true else T13.has f }
theorem ok_T14 [Bs] [Tb] : ProgOk Tryd.prog T14 := ok_T13.withMor 7 (by kernel_rfl) spM (spM_sound 7 (fun c b o cap x1 x2 x3 x4 x5 x6 x7 x8 x9 x10 x11 x12 x13 w hw hb hc hn hr => Text_walk w (fun w' hb' => Tb.tab w' (onbs_below hw hb')) c b o cap x1 x2 x3 x4 x5 x6 x7 x8 x9 x10 x11 x12 x13 hb hc hn hr) Text_nil)
noncomputable def T20 : Tab := { T14 with fn := fun f => bif Nat.beq f 8 then none else T14.fn f, mor := fun f l H => bif Nat.beq f 8 then spM l H else T14.mor f l H, has := fun f => bif Nat.beq f 8 then true else T14.has f }
theorem ok_T20 [Bs] [Tb] : ProgOk Tryd.prog T20 := ok_T14.withMor 8 (by kernel_rfl) spM (spM_sound 8 (fun c b o cap x1 x2 x3 x4 x5 x6 x7 x8 x9 x10 x11 x12 x13 w hw hb hc hn hr => text_walk c b o cap x1 x2 x3 x4 x5 x6 x7 x8 x9 x10 x11 x12 x13 w hb hc hn hr) text_nil)
instance : OrcDat T20 := ⟨fun f l v h => (inferInstance : OrcDat T13).dat f l v h⟩
end Ls
end Go.Proofs.YtgpphhdndmdlgaaDoor
