/- The walks of Decode at other lengths, of Join where an instruction is not right, of All. -/
import Derived.Test.YtndjckfnggnddaaE
namespace Go.Proofs.Ytndjckfnggnddaa
open Go.RowKit
set_option linter.unusedVariables false
set_option linter.unusedSimpArgs false
set_option maxHeartbeats 400000 in
theorem decode_end (A : Option Addr) (n cap : Nat) (w : World) (hn : n ≠ 8) (hm : n ≤ 1000000) :
    Calls Try.prog 13 #[.slice A n cap] w fun e w' => e = .returned (.tuple #[.agg #[.int .i64 0, .int .i64 0, .int .i64 0, .int .i64 0, .int .u32 0], .int .i64 10]) ∧ Below w.heap.size w w' := by
  have hne : ((n : Int) != 8) = true := by rw [bne_iff_ne]; omega
  go_enter Try.func13, Try.ntmps13
  go_wp2
  refine bodyPost_ret (v := .tuple #[.agg #[.int .i64 0, .int .i64 0, .int .i64 0, .int .i64 0, .int .u32 0], .int .i64 10]) (by simp [results, Try.results13, go_sem]) rfl ⟨rfl, ?_⟩
  repeat (first | exact Below.refl _ _ | refine Below.drew ?_ | refine below_alloc ?_ _)

set_option maxRecDepth 100000 in
set_option maxHeartbeats 1000000 in
theorem join_bad (A : Option Addr) (cap : Nat) (l : List HI) (w : World) (hl : l.length ≤ 1000) (hA : InsAt w A l) (hf : ∀ i ∈ l, HI.fits i) (m : Nat) (hm : m < l.length) (hr : ∀ k (hk : k < m), HI.right (l[k]'(by omega)) = true) (hbad : HI.right l[m] = false) :
    Calls Try.prog 6 #[.slice A l.length cap] w fun e w' => e = .returned (.tuple #[.slice none 0 0, .int .i64 12]) ∧ Below w.heap.size w w' := by
  obtain ⟨i0, hi, hz0, hz1, hz2⟩ := info_parts Try.info5
  go_enter Try.func6, Try.ntmps6
  go_wp2
  go_loopw [4, 9] (fun v o wr => ∃ k : Nat, k ≤ m ∧ o = .int .i64 k ∧ wr.ownsRow w.heap.size 5 1 v (8 * k) ((encs (l.take k)).map (Value.int .u8)) ∧ Below w.heap.size w wr) (fun _ o _ => l.length - (intOf o).toNat)
  case atStart => exact ⟨0, Nat.zero_le _, rfl, World.ownsRow_nil _ _ _ _, Below.refl _ _⟩
  case round =>
    obtain ⟨k, hk, rfl, hown, hb⟩ := hrel
    have hlt : k < l.length := by omega
    obtain ⟨b, off, rfl, hblt, hc⟩ := (hA.below hb) (by omega)
    obtain ⟨c0, c1, c2, c3, c4⟩ := hc k l[k] (List.getElem?_eq_getElem hlt)
    clear hc
    by_cases hkm : k < m
    · have hrk : rightB l[k].op l[k].rd l[k].ra l[k].rb l[k].im = true := hr k hkm
      go_wp2_with (first | (go_at_call 12; refine (right_any _ _ _ _ _ _).mono ?_; rintro e w1 ⟨rfl, hb1⟩; obtain ⟨hc1, hf1⟩ := bcell hb1; have hz : wr.heap.size < w1.heap.size := (by have := hb1.size; simp at this; omega); have hown1 := own_below (hown.alloc _) hb1) |
        (at_builtin; refine wpList_append_own _ rfl _ _ 23 rfl w.heap.size 5 i0 (.int .u8 0) 1 1 Try.underlying23 hi hz0 hz1 hz2 rfl (by decide) _ _ _ rfl (hown1.alloc _) ⟨w1.heap.size, 0, none⟩ 8 8 ((HI.enc l[k]).map (Value.int .u8)) rfl rfl (new_cells w1 _ 5) (ints_oneCell _ _) (by unfold maxLen; omega) (by omega) (by have h1 := hb.size; have h2 := hb1.size; simp at h2 ⊢; omega) ?_; intro v' w2 hown2 hgrow _))
      have hbw : Below w.heap.size w w1 := hb.trans ((below_step hb1).mono hb.size)
      have hb2 := below_own hbw hown1 hgrow
      rw [← List.map_append, ← encs_snoc l k hlt, show 8 * k + 8 = 8 * (k + 1) from by omega] at hown2
      go_roundw
      case rel => exact ⟨k + 1, by omega, by go_num, hown2, hb2⟩
      case measure => simp [intOf]; omega
    · obtain rfl : k = m := by omega
      have hrk : rightB l[k].op l[k].rd l[k].ra l[k].rb l[k].im = false := hbad
      go_wp2_with (first | (go_at_call 12; refine (right_any _ _ _ _ _ _).mono ?_; rintro e w1 ⟨rfl, hb1⟩; obtain ⟨hc1, hf1⟩ := bcell hb1; have hz : wr.heap.size < w1.heap.size := (by have := hb1.size; simp at this; omega)))
      go_ret2
      exact ⟨rfl, hb.trans ((below_step hb1).mono hb.size)⟩

/-- A slice of bytes below block B, nil let in: what its cells hold. -/
def BytesIn (w : World) (B : Nat) (A : Option Addr) (bs : List Int) : Prop :=
  (∀ x ∈ bs, isByte x) ∧ (0 < bs.length → ∃ b off, A = some ⟨b, off, none⟩ ∧ b < B ∧ ∀ k x, bs[k]? = some x → w.cell? ⟨b, off + k, none⟩ = some (.int .u8 x))
theorem BytesIn.below {w w' : World} {B : Nat} {A : Option Addr} {l : List Int} (h : BytesIn w B A l) (hb : Below B w w') : BytesIn w' B A l := ⟨h.1, fun h0 => by
  obtain ⟨b, off, rfl, hlt, hc⟩ := h.2 h0
  exact ⟨b, off, rfl, hlt, fun k i hk => (hb.cell hlt).trans (hc k i hk)⟩⟩
theorem BytesIn.more {w : World} {B B' : Nat} {A : Option Addr} {l : List Int} (h : BytesIn w B A l) (hB : B ≤ B') : BytesIn w B' A l := ⟨h.1, fun h0 => by
  obtain ⟨b, off, rfl, hlt, hc⟩ := h.2 h0
  exact ⟨b, off, rfl, by omega, hc⟩⟩
theorem BytesIn.take {w : World} {B : Nat} {A : Option Addr} {l : List Int} (h : BytesIn w B A l) (n : Nat) : BytesIn w B A (l.take n) := ⟨fun x hx => h.1 x (List.mem_of_mem_take hx), fun h0 => by
  simp at h0
  obtain ⟨b, off, rfl, hlt, hc⟩ := h.2 (by omega)
  refine ⟨b, off, rfl, hlt, fun k x hk => hc k x ?_⟩
  rw [List.getElem?_take] at hk
  split at hk
  · exact hk
  · cases hk⟩
def byteAt (bs : List Int) (k : Nat) : Int := bs.getD k 0
/-- The j-th eight bytes, read. -/
def dec (bs : List Int) (j : Nat) : HI :=
  ⟨byteAt bs (8 * j), byteAt bs (8 * j + 1), byteAt bs (8 * j + 2), byteAt bs (8 * j + 3), imF (byteAt bs (8 * j + 4)) (byteAt bs (8 * j + 5)) (byteAt bs (8 * j + 6)) (byteAt bs (8 * j + 7))⟩
def decs (bs : List Int) (j : Nat) : List HI := (List.range j).map (dec bs)
/-- What All makes of bytes. -/
def AllRes (bs : List Int) (w : World) (e : Ending) (w' : World) : Prop :=
  Below w.heap.size w w' ∧
  ((bs.length % 8 = 0 ∧ (∀ j < bs.length / 8, HI.right (dec bs j) = true) ∧ ∃ v, e = .returned (.tuple #[v, .int .i64 0]) ∧ w'.ownsRow w.heap.size 26 5 v (bs.length / 8) ((decs bs (bs.length / 8)).flatMap HI.cells)) ∨
   ((∃ j < bs.length / 8, HI.right (dec bs j) = false) ∧ e = .returned (.tuple #[.slice none 0 0, .int .i64 12])) ∨
   (bs.length % 8 ≠ 0 ∧ (∀ j < bs.length / 8, HI.right (dec bs j) = true) ∧ e = .returned (.tuple #[.slice none 0 0, .int .i64 10])))
theorem new_cells2 (w : World) (o : Obj) (xs : List Value) (t : TypeId) : ∀ j u, xs[j]? = some u → ((w.alloc o).alloc (.cells xs.toArray t)).cell? ((⟨w.heap.size + 1, 0, none⟩ : Addr).add j) = some u := by
  have h := new_cells (w.alloc o) xs t
  rwa [World.size_alloc] at h
theorem decs_snoc (bs : List Int) (j : Nat) : (decs bs (j + 1)).flatMap HI.cells = (decs bs j).flatMap HI.cells ++ HI.cells (dec bs j) := by
  unfold decs
  rw [List.range_succ, List.map_append, List.flatMap_append]
  simp
theorem cells_one (i : HI) : ∀ u ∈ HI.cells i, u.oneCell' = true := by
  intro u hu
  unfold HI.cells at hu
  simp at hu
  rcases hu with rfl | rfl | rfl | rfl | rfl <;> rfl
theorem byteAt_ok {bs : List Int} (h : ∀ x ∈ bs, isByte x) (k : Nat) : isByte (byteAt bs k) := by
  unfold byteAt
  by_cases hk : k < bs.length
  · rw [List.getD_eq_getElem?_getD, List.getElem?_eq_getElem hk]; exact h _ (List.getElem_mem hk)
  · rw [List.getD_eq_getElem?_getD, List.getElem?_eq_none (by omega)]; exact ⟨by simp, by simp⟩
theorem drop_at {bs : List Int} {j k : Nat} (h : j + k < bs.length) : (bs.drop j)[k]? = some (byteAt bs (j + k)) := by
  unfold byteAt
  rw [List.getElem?_drop, List.getD_eq_getElem?_getD, List.getElem?_eq_getElem h]; rfl
theorem BytesIn.cut {w : World} {B b off : Nat} {bs : List Int} (h : BytesIn w B (some ⟨b, off, none⟩) bs) (k c : Nat) (hk : k ≤ bs.length) (hc : bs.length ≤ c) : BytesIn w B (if c = k then some ⟨b, off, none⟩ else some ⟨b, off + k, none⟩) (bs.drop k) := by
  refine ⟨fun x hx => h.1 x (List.mem_of_mem_drop hx), fun h0 => ?_⟩
  simp at h0
  obtain ⟨b', off', e, hlt, hcl⟩ := h.2 (by omega)
  injection e with e
  injection e with e1 e2
  subst e1 e2
  rw [if_neg (by omega)]
  refine ⟨_, _, rfl, hlt, fun i x hx => ?_⟩
  rw [List.getElem?_drop] at hx
  rw [Nat.add_assoc]
  exact hcl _ _ hx
theorem Try.info26 : (Try.prog.info? 26).map (fun i => (i.zero, i.size, i.bytes)) = some (some (.agg #[.int .i64 0, .int .i64 0, .int .i64 0, .int .i64 0, .int .u32 0]), 5, 40) := by kernel_rfl
set_option maxRecDepth 100000 in
set_option maxHeartbeats 1000000 in
theorem all_any (A : Option Addr) (cap : Nat) (bs : List Int) (w : World) (hl : bs.length ≤ 8000) (hcap : bs.length ≤ cap) (hcm : cap ≤ maxLen) (hA : BytesIn w w.heap.size A bs) :
    Calls Try.prog 7 #[.slice A bs.length cap] w (AllRes bs w) := by
  unfold maxLen at hcm
  obtain ⟨i0, hi, hz0, hz1, hz2⟩ := info_parts Try.info26
  go_enter Try.func7, Try.ntmps7
  go_wp2
  go_loopw [0, 4] (fun s v wr => ∃ (j : Nat) (A' : Option Addr) (c' : Nat), 8 * j ≤ bs.length ∧ s = .slice A' (bs.length - 8 * j) c' ∧ bs.length - 8 * j ≤ c' ∧ c' ≤ 9223372036854775807 ∧ BytesIn wr w.heap.size A' (bs.drop (8 * j)) ∧
    wr.ownsRow w.heap.size 26 5 v j ((decs bs j).flatMap HI.cells) ∧ (∀ i < j, HI.right (dec bs i) = true) ∧ Below w.heap.size w wr)
    (fun s _ _ => match s with | .slice _ n _ => n | _ => 0)
  case atStart => exact ⟨0, A, cap, by omega, rfl, by omega, hcm, hA, World.ownsRow_nil _ _ _ _, fun i hi => absurd hi (by omega), Below.refl _ _⟩
  case round =>
    obtain ⟨j, A', c', hj, rfl, hc1, hc2, hby, hown, hok, hb⟩ := hrel
    generalize hr : bs.length - 8 * j = r at *
    by_cases h0 : r = 0
    · subst h0
      go_wp2
      go_ret2
      have e8 : bs.length / 8 = j := by omega
      refine ⟨hb, .inl ⟨by omega, by rw [e8]; exact hok, _, rfl, by rw [e8]; exact hown⟩⟩
    · have hr0 : 0 < r := by omega
      obtain ⟨b, off, rfl, hbl, hc⟩ := hby.2 (by simp; omega)
      have hblt : b < wr.heap.size := Nat.lt_of_lt_of_le hbl hb.size
      by_cases h8 : r < 8
      · go_wp2_with (go_at_call 13; refine (decode_end _ _ _ _ (by omega) (by omega)).mono ?_; rintro e w1 ⟨rfl, hb1⟩; obtain ⟨hc1, hf1⟩ := bcell hb1; have hz := hb1.size)
        go_ret2
        refine ⟨?_, .inr (.inr ⟨by omega, ?_, rfl⟩)⟩
        · exact below_alloc (hb.trans (hb1.mono hb.size)) _
        · have e8 : bs.length / 8 = j := by omega
          rw [e8]; exact hok
      · have hl8 : 8 * j + 8 ≤ bs.length := by omega
        have he : Eight wr b off (byteAt bs (8 * j)) (byteAt bs (8 * j + 1)) (byteAt bs (8 * j + 2)) (byteAt bs (8 * j + 3)) (byteAt bs (8 * j + 4)) (byteAt bs (8 * j + 5)) (byteAt bs (8 * j + 6)) (byteAt bs (8 * j + 7)) :=
          ⟨hc 0 _ (drop_at (k := 0) (by omega)), hc 1 _ (drop_at (by omega)), hc 2 _ (drop_at (by omega)), hc 3 _ (drop_at (by omega)), hc 4 _ (drop_at (by omega)), hc 5 _ (drop_at (by omega)), hc 6 _ (drop_at (by omega)), hc 7 _ (drop_at (by omega))⟩
        have hbt := byteAt_ok hA.1
        have hcut := hby.cut 8 c' (by simp; omega) (by simp; omega)
        have HC := Lib.hid hc
        have HB := Lib.hid hbt
        have HU := Lib.hid hcut
        have HO := Lib.hid hok
        clear hc hbt hcut hok
        go_wp2_with (first | (go_at_call 13; refine (decode_eight b off _ _ _ _ _ _ _ _ _ _ (HB.out _) (HB.out _) (HB.out _) (HB.out _) (HB.out _) (HB.out _) (HB.out _) (HB.out _) hblt he).mono ?_; rintro e w1 ⟨hb1, ⟨hrt, rfl⟩ | ⟨hrt, rfl⟩⟩) |
          (at_builtin; refine wpList_append_own _ rfl _ _ 22 rfl w.heap.size 26 i0 (.agg #[.int .i64 0, .int .i64 0, .int .i64 0, .int .i64 0, .int .u32 0]) 5 40 Try.underlying22 hi hz0 hz1 hz2 rfl (by decide) _ _ _ rfl (((own_below hown hb1).alloc _).alloc _) ⟨w1.heap.size + 1, 0, none⟩ 1 1 (HI.cells (dec bs j)) rfl rfl (new_cells2 w1 _ _ 26) (cells_one _) (by unfold maxLen; omega) (by omega) (by have h1 := hb.size; have h2 := hb1.size; simp; omega) ?_; intro v' w2 hown2 hgrow _))
        · have hbw : Below w.heap.size w w1 := hb.trans (hb1.mono hb.size)
          have ho1 := own_below hown hb1
          have hwr : Below w.heap.size wr w2 := ((((hb1.mono hb.size).alloc hbw.size _).alloc (by have := hbw.size; simp; omega) _).grown hgrow (by have := hbw.size; simp; omega) (fun k hk => (ho1.lt k hk).1))
          have hU := (HU.out.below hwr)
          rw [List.drop_drop] at hU
          rw [← decs_snoc] at hown2
          have hok' : ∀ i < j + 1, HI.right (dec bs i) = true := fun i hi => by
            rcases Nat.lt_or_ge i j with h | h
            · exact HO.out i h
            · obtain rfl : i = j := by omega
              exact hrt
          have hr' : bs.length - 8 * (j + 1) = r - 8 := by omega
          go_roundw
          case rel => exact ⟨j + 1, _, c' - 8, by omega, by rw [hr'], by omega, by omega, hU, hown2, hok', hb.trans hwr⟩
          case measure => (show r - 8 < r; omega)
        · go_ret2
          exact ⟨below_alloc (hb.trans (hb1.mono hb.size)) _, .inr (.inl ⟨⟨j, by omega, hrt⟩, rfl⟩)⟩
end Go.Proofs.Ytndjckfnggnddaa
