/- Chapter 2: what is written is read again: what is drawn, and slices put behind others. -/
import Derived.Test.YtpfmmckbfejfnaaDoorGh
import Derived.Test.YtpfmmckbfejfnaaDoorGr
namespace Go.Proofs.YtpfmmckbfejfnaaDoor
open Go Go.Ev Go.RowKit
set_option linter.unusedVariables false
set_option linter.unusedSimpArgs false
set_option maxRecDepth 100000
namespace Gc
/-- A slice of one's own: with no room behind it, or with room that nobody knows. -/
structure Ow (H : Heap) (lo : Nat) (e : TypeId) (s : Nat) (v : Value) (len : Nat) (xs : List Value) : Prop where
  size : xs.length = len * s
  at_ : ∃ B c, v = .slice (some ⟨B, 0, none⟩) len c ∧ (c = unk + s ∨ c = len) ∧ H.get B = some ⟨xs, e, false⟩ ∧ B < H.n ∧ lo ≤ B
theorem splice_nil (l : List Value) (off : Nat) : splice l off [] = l := by
  unfold splice
  simp
theorem aappend_ow {T : Tab} {st xt e : TypeId} {xd : TypeDesc} {s0 by_ : Nat} {z : Value} (hu : T.under st = some (.slice e)) (hx : T.under xt = some xd) (hi : isIntD xd = false) (hs : T.size e = some (s0 + 1)) (hb : T.bytes e = some (by_ + 1)) (hz : T.zero e = some z)
    {H : Heap} {lo : Nat} {v x : Value} {len n : Nat} {xs new : List Value} (h : Ow H lo e (s0 + 1) v len xs) (hlo : lo ≤ H.n) (hsrc : asrc (s0 + 1) x H = some (n, new)) (hnew : new.length = n * (s0 + 1)) (hone : new.all one = true) (hne : ∀ B c, v = .slice (some ⟨B, 0, none⟩) len c → blockOf x ≠ some B)
    (hbig : (len + n) * (by_ + 1) ≤ 140737488355328) :
    ∃ v' H', aappend T st xt v x H = some (v', H') ∧ Ow H' lo e (s0 + 1) v' (len + n) (xs ++ new) ∧ Up lo H H' := by
  obtain ⟨B, c, rfl, hc, hg, hB, hlB⟩ := h.at_
  have hsz := h.size
  have hbl := hne B c rfl
  have e1 : (blockOf x == some B) = false := by simpa using hbl
  have hlen : len + n ≤ 140737488355328 := by
    have : len + n ≤ (len + n) * (by_ + 1) := Nat.le_mul_of_pos_right _ (by omega)
    omega
  rcases Nat.eq_zero_or_pos n with rfl | hn
  · have hnil : new = [] := List.length_eq_zero_iff.1 (by simpa using hnew)
    subst hnil
    rcases hc with rfl | rfl
    · refine ⟨_, H, ?_, ⟨by simpa using hsz, B, _, rfl, .inl rfl, by simpa using hg, hB, hlB⟩, Up.refl H⟩
      have e2 : unk.ble (unk + (s0 + 1)) = true := by rw [ble_dec]; simp
      unfold aappend
      simp only [hu, hx, hi, hs, hb, hz, hsrc, cond_false, e1, hg, e2, cond_true, Nat.beq_refl]
      rfl
    · refine ⟨_, H.put B ⟨xs, e, false⟩, ?_, ⟨by simpa using hsz, B, _, rfl, .inr rfl, by rw [Heap.get_put, if_pos rfl]; simp, hB, hlB⟩, (Up.refl H).put hlB _⟩
      have e2 : unk.ble c = false := by rw [ble_dec]; simp; unfold Go.Ev.unk; omega
      have e3 : (c + 0).ble c = true := by rw [ble_dec]; simp
      have e4 : aput B (0 + c * (s0 + 1)) [] H = some (H.put B ⟨xs, e, false⟩) := by
        unfold aput
        have : (0 + c * (s0 + 1) + ([] : List Value).length).ble xs.length = true := by rw [ble_dec]; simp [hsz]
        simp only [hg, Bool.not_false, List.all_nil, Bool.and_self, this, cond_true, splice_nil]
      unfold aappend
      simp only [hu, hx, hi, hs, hb, hz, hsrc, cond_false, e1, hg, e2, e3, cond_true, e4]
      rfl
  · rcases hc with rfl | rfl
    · refine ⟨_, _, aappend_grow hu hx hi hs hb hz hg hsz hsrc hone hn hbl hbig, ⟨by rw [List.length_append, hsz, hnew, Nat.add_mul], H.n, _, rfl, .inl rfl, by rw [Heap.get_push, Heap.n_kill, if_pos rfl], by rw [Heap.n_push, Heap.n_kill]; omega, hlo⟩, ((Up.refl H).kill hlB).push (by rw [Heap.n_kill]; exact hlo) _⟩
    · refine ⟨_, _, aappend_full hu hx hi hs hb hz hg hsz hsrc hn hbl (by omega) (by unfold Go.Ev.unk; omega) hbig, ⟨by rw [List.length_append, hsz, hnew, Nat.add_mul], H.n, _, rfl, .inl rfl, by rw [Heap.get_push, if_pos rfl], by rw [Heap.n_push]; omega, hlo⟩, (Up.refl H).push hlo _⟩
theorem asrc_byts {H : Heap} {v : Value} {l : List Int} (h : Byts H v l) : asrc (0 + 1) v H = some (l.length, l.map (Value.int .u8)) := by
  rcases h.at_ with ⟨c, rfl, rfl⟩ | ⟨A, off, c, cells, el, ro, rfl, g, hA, hb⟩
  · rfl
  · refine asrc_blk g ?_ (by simp)
    refine List.ext_getElem? fun j => ?_
    rcases Nat.lt_or_ge j l.length with hj | hj
    · rw [List.getElem?_take, if_pos (by omega), List.getElem?_drop, List.getElem?_map, List.getElem?_eq_getElem hj]
      have := (hb j hj).1
      rw [Nat.mul_one] at this
      rw [this]; rfl
    · rw [List.getElem?_eq_none (by simp; omega), List.getElem?_eq_none (by simpa using hj)]
theorem Ow.byts {H : Heap} {lo : Nat} {v : Value} {l : List Int} {len : Nat} (hll : l.length ≤ 1000000) (hb : ∀ x ∈ l, 0 ≤ x ∧ x < 256) (h : Ow H lo 5 1 v len (l.map (Value.int .u8))) : ∃ pt cap, v = .slice pt l.length cap ∧ Byts H (.slice pt l.length cap) l ∧ CapV pt l.length cap ∧ (∀ B, pt = some ⟨B, 0, none⟩ → lo ≤ B) := by
  obtain ⟨B, c, rfl, hc, hg, hB, hlB⟩ := h.at_
  have hs := h.size
  simp only [List.length_map, Nat.mul_one] at hs
  subst hs
  refine ⟨_, c, rfl, ⟨.inr ⟨B, 0, c, _, _, _, rfl, hg, hB, fun k hk => ⟨by rw [List.getElem?_map, show 0 + k * 1 = k by omega, List.getElem?_eq_getElem hk]; rfl, hb _ (List.getElem_mem hk)⟩⟩⟩, ⟨?_⟩, fun B' h => ?_⟩
  · rcases hc with rfl | rfl
    · exact .inr ⟨rfl, by simp⟩
    · exact .inl ⟨Nat.le_refl _, by unfold Go.Ev.unk; omega⟩
  · injection h with h; injection h with h _ _; omega
/-- What is drawn of numbers, and of places where there are none. -/
def vB (ns : List Int) (j : Nat) : Int := bif decide (j < ns.length) then ns.getD j 0 else (j : Int)
def backL (ls ns : List Int) (i : Nat) : List In := (List.range i).map fun j => (opOf (ls.getD j 0), numOf (opOf (ls.getD j 0)) (vB ns j))
theorem backL_len (ls ns : List Int) (i : Nat) : (backL ls ns i).length = i := by simp [backL]
theorem backL_succ (ls ns : List Int) (i : Nat) : backL ls ns (i + 1) = backL ls ns i ++ [(opOf (ls.getD i 0), numOf (opOf (ls.getD i 0)) (vB ns i))] := by simp [backL, List.range_succ]
theorem vB_ok {ns : List Int} (hn : ∀ x ∈ ns, u32B x = true) {j : Nat} (hj : j < 4294967296) : u32B (vB ns j) = true := by
  unfold vB
  by_cases h : j < ns.length
  · rw [decide_eq_true h]; exact getD_of (P := fun x => u32B x = true) hn rfl j
  · rw [decide_eq_false h]; simp [u32B]; omega
theorem backL_ok {ls ns : List Int} (hn : ∀ x ∈ ns, u32B x = true) {i : Nat} (hi : i ≤ 40) : ∀ p ∈ backL ls ns i, OkIn p := by
  intro p hp
  obtain ⟨j, hj, rfl⟩ := List.mem_map.1 hp
  rw [List.mem_range] at hj
  exact okIn _ _ (vB_ok hn (by omega))
def bkE (ls ns : List Int) (j : Nat) : Nat := (joinB (backL ls ns j)).length
theorem bkE_succ (ls ns : List Int) (j : Nat) : bkE ls ns (j + 1) = bkE ls ns j + (encB (opOf (ls.getD j 0)) (numOf (opOf (ls.getD j 0)) (vB ns j))).length := by
  unfold bkE
  rw [backL_succ, joinB_app, List.length_append]
  simp [joinB]
theorem bkE_le (ls ns : List Int) (j : Nat) : bkE ls ns j ≤ 5 * j := by
  have := joinB_le (backL ls ns j)
  rw [backL_len] at this
  exact this
theorem allR_ok {L : List In} (h : ∀ p ∈ L, OkIn p) : allR L = true := List.all_eq_true.2 fun p hp => (h p hp).rt
theorem Ow.keep {H H' : Heap} {lo : Nat} {e : TypeId} {s : Nat} {v : Value} {len : Nat} {xs : List Value} (h : Ow H lo e s v len xs) (hn : H.n ≤ H'.n) (hk : ∀ b, lo ≤ b → b < H.n → H'.get b = H.get b) : Ow H' lo e s v len xs := by
  obtain ⟨B, c, h1, h2, h3, h4, h5⟩ := h.at_
  exact ⟨h.size, B, c, h1, h2, by rw [hk B h5 h4]; exact h3, by omega, h5⟩
theorem Ow.ne {H : Heap} {lo : Nat} {e : TypeId} {s len n c2 : Nat} {v : Value} {xs : List Value} (h : Ow H lo e s v len xs) {B2 : Nat} (hB : H.n ≤ B2) (B c : Nat) (hv : v = .slice (some ⟨B, 0, none⟩) len c) : blockOf (.slice (some ⟨B2, 0, none⟩) n c2) ≠ some B := by
  intro h0
  simp only [blockOf, Option.some.injEq] at h0
  obtain ⟨B3, c3, h1, _, _, h4, _⟩ := h.at_
  rw [h1] at hv
  obtain ⟨hp, _, _⟩ := Value.slice.inj hv
  injection hp with hp; injection hp with hp _ _
  omega
theorem Byts.ne {H : Heap} {v : Value} {l : List Int} (h : Byts H v l) {B0 len c0 : Nat} (hB : H.n ≤ B0) (B c : Nat) (hv : Value.slice (some ⟨B0, 0, none⟩) len c0 = .slice (some ⟨B, 0, none⟩) len c) : blockOf v ≠ some B := by
  intro h0
  obtain ⟨hp, _, _⟩ := Value.slice.inj hv
  injection hp with hp; injection hp with hp _ _
  rcases h.at_ with ⟨c, rfl, rfl⟩ | ⟨A, off, c, cells, el, ro, rfl, g, hA, hb⟩
  · simp [blockOf] at h0
  · simp only [blockOf, Option.some.injEq] at h0; omega
/-- Bytes behind bytes: the source lies below the base's block. -/
theorem Ow.ne_byts {H H0 : Heap} {lo : Nat} {e : TypeId} {s len : Nat} {v v2 : Value} {xs : List Value} {l : List Int} (h : Ow H lo e s v len xs) (h2 : Byts H0 v2 l) (hl : H0.n ≤ lo) (B c : Nat) (hv : v = .slice (some ⟨B, 0, none⟩) len c) : blockOf v2 ≠ some B := by
  intro h0
  obtain ⟨B3, c3, h1, _, _, h4, h5⟩ := h.at_
  rw [h1] at hv
  obtain ⟨hp, _, _⟩ := Value.slice.inj hv
  injection hp with hp; injection hp with hp _ _
  rcases h2.at_ with ⟨c, rfl, rfl⟩ | ⟨A, off, c, cells, el, ro, rfl, g, hA, hb⟩
  · simp [blockOf] at h0
  · simp only [blockOf, Option.some.injEq] at h0; omega
theorem Ow.ne_gr {H H0 : Heap} {lo lo2 : Nat} {e e2 : TypeId} {s s2 len len2 : Nat} {v v2 : Value} {xs ys : List Value} (h : Ow H lo e s v len xs) (h2 : Gr H0 lo2 e2 s2 v2 len2 ys) (hl : H0.n ≤ lo) (B c : Nat) (hv : v = .slice (some ⟨B, 0, none⟩) len c) : blockOf v2 ≠ some B := by
  intro h0
  obtain ⟨B3, c3, h1, _, _, h4, h5⟩ := h.at_
  rw [h1] at hv
  obtain ⟨hp, _, _⟩ := Value.slice.inj hv
  injection hp with hp; injection hp with hp _ _
  rcases h2.at_ with ⟨rfl, _⟩ | ⟨A, rfl, g, hA, _⟩
  · simp [blockOf] at h0
  · simp only [blockOf, Option.some.injEq] at h0; omega
theorem asrc_gr {H : Heap} {lo : Nat} {e : TypeId} {s len : Nat} {v : Value} {xs : List Value} (h : Gr H lo e s v len xs) : asrc s v H = some (len, xs) := by
  have hs := h.size
  rcases h.at_ with ⟨rfl, rfl⟩ | ⟨B, rfl, g, hB, _⟩
  · have : xs = [] := by simpa using hs
    rw [this]; rfl
  · exact asrc_blk g (by rw [List.drop_zero, List.take_of_length_le (by omega)]) hs
theorem Ow.ins {H : Heap} {lo : Nat} {v : Value} {is : List In} {len : Nat} (h : Ow H lo 26 2 v len (insC is)) : Ins H v is := by
  obtain ⟨B, c, rfl, hc, hg, hB, hlB⟩ := h.at_
  have hs := h.size
  rw [insC_len] at hs
  obtain rfl : is.length = len := by omega
  exact ⟨.inr ⟨B, 0, c, _, _, _, rfl, hg, hB, insC_row is⟩⟩
theorem backL_take (ls ns : List Int) {i w : Nat} (h : w ≤ i) : (backL ls ns i).take w = backL ls ns w := by
  rw [backL, ← List.map_take, List.take_range, Nat.min_eq_left h]; rfl
theorem join_split {L : List In} {j : Nat} (h : j < L.length) : joinB L = joinB (L.take j) ++ (encB L[j].1 L[j].2 ++ joinB (L.drop (j + 1))) := by
  rw [← joinB_cons, ← List.drop_eq_getElem_cons, ← joinB_app, List.take_append_drop]
theorem bk_read {L : List In} (hL : ∀ p ∈ L, OkIn p) {j : Nat} (h : j < L.length) (rest : List Int) : readL ((joinB L).drop (joinB (L.take j)).length ++ rest) = (L[j].1, L[j].2, ((encB L[j].1 L[j].2).length : Int), 0) := by
  have hp : OkIn L[j] := hL _ (List.getElem_mem _)
  rw [join_split h, List.drop_left, List.append_assoc, read_encB hp, encB_len hp]
theorem bk_len {L : List In} {j : Nat} (h : j < L.length) : (joinB (L.take j)).length + (encB L[j].1 L[j].2).length ≤ (joinB L).length ∧ (joinB (L.take (j + 1))).length = (joinB (L.take j)).length + (encB L[j].1 L[j].2).length := by
  constructor
  · rw [join_split h]; simp only [List.length_append]; omega
  · rw [List.take_succ_eq_append_getElem h, joinB_app, List.length_append]; simp [joinB]
theorem insC_snoc (is : List In) (a N : Int) : insC (is ++ [(a, N)]) = insC is ++ [.int .i64 a, .int .u32 N] := by simp [insC, inC]
theorem read255 : (readL [255]).2.2.2 = 12 := by kernel_rfl
theorem right9 : rightV 9 0 = false := by kernel_rfl
theorem Nums.byts {H : Heap} {v : Value} {l : List Int} (h : Nums H .u8 v l) (hb : ∀ x ∈ l, 0 ≤ x ∧ x < 256) : Byts H v l := by
  rcases h.at_ with h | ⟨A, off, cap, cells, e, ro, h1, gA, hA, hc⟩
  · exact ⟨.inl h⟩
  · exact ⟨.inr ⟨A, off, cap, cells, e, ro, h1, gA, hA, fun k hk => ⟨hc k hk, hb _ (List.getElem_mem hk)⟩⟩⟩
end Gc
end Go.Proofs.YtpfmmckbfejfnaaDoor
