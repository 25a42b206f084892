/- Chapter 2: numbers that come in, offsets that grow, instructions drawn in a row. -/
import Derived.Test.YtpfmmckbfejfnaaDoorGn
import Derived.Test.YtpfmmckbfejfnaaDoorGs
namespace Go.Proofs.YtpfmmckbfejfnaaDoor
open Go Go.Ev Go.RowKit
set_option linter.unusedVariables false
set_option linter.unusedSimpArgs false
set_option maxRecDepth 100000
namespace Gc
/-- A slice of numbers that is read. -/
structure Nums (H : Heap) (kd : IntKind) (v : Value) (l : List Int) : Prop where
  at_ : (∃ cap, v = .slice none 0 cap ∧ l = []) ∨ ∃ A off cap cells e ro, v = .slice (some ⟨A, off, none⟩) l.length cap ∧ H.get A = some ⟨cells, e, ro⟩ ∧ A < H.n ∧ ∀ k (h : k < l.length), cells[off + k * 1]? = some (.int kd l[k])
theorem Nums.form {H : Heap} {kd : IntKind} {v : Value} {l : List Int} (h : Nums H kd v l) (hl : 0 < l.length) : ∃ A off cap cells e ro, v = .slice (some ⟨A, off, none⟩) l.length cap ∧ H.get A = some ⟨cells, e, ro⟩ ∧ A < H.n ∧ ∀ k (h : k < l.length), cells[off + k * 1]? = some (.int kd l[k]) := by
  rcases h.at_ with ⟨cap, _, rfl⟩ | h
  · simp at hl
  · exact h
theorem Gr.bytsC {H : Heap} {lo : Nat} {v : Value} {l : List Int} (hb : ∀ x ∈ l, 0 ≤ x ∧ x < 256) (h : Gr H lo 5 1 v l.length (l.map (Value.int .u8))) : ∃ pt cap, v = .slice pt l.length cap ∧ Byts H (.slice pt l.length cap) l ∧ CapV pt l.length cap := by
  have hB := Gr.byts hb h
  rcases h.at_ with ⟨rfl, h2⟩ | ⟨B, rfl, h2, h3, _⟩
  · exact ⟨none, 0, by rw [h2], by rw [h2]; exact hB, ⟨.inl ⟨by omega, by unfold Go.Ev.unk; omega⟩⟩⟩
  · exact ⟨some ⟨B, 0, none⟩, _, rfl, hB, ⟨.inr ⟨rfl, by simp⟩⟩⟩
theorem Gr.form {H : Heap} {lo : Nat} {e : TypeId} {s len : Nat} {v : Value} {xs : List Value} (h : Gr H lo e s v len xs) : ∃ pt cap, v = .slice pt len cap := by
  rcases h.at_ with ⟨rfl, rfl⟩ | ⟨B, rfl, _⟩
  · exact ⟨none, 0, rfl⟩
  · exact ⟨_, _, rfl⟩
/-- Something is put behind a slice that has no room, or that grows. -/
theorem aappend_en {T : Tab} {st xt e : TypeId} {xd : TypeDesc} {z : Value} (hu : T.under st = some (.slice e)) (hx : T.under xt = some xd) (hi : isIntD xd = false) (hs : T.size e = some 1) (hb : T.bytes e = some 8) (hz : T.zero e = some z)
    {H : Heap} {E len c B2 c2 : Nat} {y : Value} {xs : List Value} {e2 : TypeId} {ro : Bool} (hg : H.get E = some ⟨xs, e, false⟩) (hxs : xs.length = len) (hc : c = unk + 1 ∨ c = len) (hl : len ≤ 1000) (g2 : H.get B2 = some ⟨[y], e2, ro⟩) (hy : one y = true) (hne : B2 ≠ E) :
    ∃ H', aappend T st xt (.slice (some ⟨E, 0, none⟩) len c) (.slice (some ⟨B2, 0, none⟩) 1 c2) H = some (.slice (some ⟨H.n, 0, none⟩) (len + 1) (unk + 1), H') ∧ H'.get H.n = some ⟨xs ++ [y], e, false⟩ ∧ H'.n = H.n + 1 ∧ ∀ b, b < H.n → b ≠ E → H'.get b = H.get b := by
  have hsrc : asrc (0 + 1) (.slice (some ⟨B2, 0, none⟩) 1 c2) H = some (1, [y]) := asrc_blk g2 rfl rfl
  have hbl : blockOf (.slice (some ⟨B2, 0, none⟩) 1 c2) ≠ some E := by
    intro h; simp only [blockOf, Option.some.injEq] at h; exact hne h
  rcases hc with rfl | rfl
  · refine ⟨_, aappend_grow (s0 := 0) (by_ := 7) hu hx hi hs hb hz hg (by omega) hsrc (by simp [hy]) (by omega) hbl (by omega), ?_, ?_, ?_⟩
    · rw [Heap.get_push, Heap.n_kill, if_pos rfl]
    · rw [Heap.n_push, Heap.n_kill]
    · intro b hb hbe; rw [Heap.get_push, Heap.n_kill, if_neg (by omega), Heap.get_kill, if_neg hbe]
  · refine ⟨_, aappend_full (s0 := 0) (by_ := 7) hu hx hi hs hb hz hg (by omega) hsrc (by omega) hbl (by omega) (by unfold Go.Ev.unk; omega) (by omega), ?_, ?_, ?_⟩
    · rw [Heap.get_push, if_pos rfl]
    · rw [Heap.n_push]
    · intro b hb hbe; rw [Heap.get_push, if_neg (by omega)]
/-- What is drawn of numbers. -/
def cutL (ls ns : List Int) (i : Nat) : List In := (List.range i).map fun j => (opOf (ls.getD j 0), numOf (opOf (ls.getD j 0)) (ns.getD j 0))
theorem cutL_len (ls ns : List Int) (i : Nat) : (cutL ls ns i).length = i := by simp [cutL]
theorem cutL_succ (ls ns : List Int) (i : Nat) : cutL ls ns (i + 1) = cutL ls ns i ++ [(opOf (ls.getD i 0), numOf (opOf (ls.getD i 0)) (ns.getD i 0))] := by simp [cutL, List.range_succ]
theorem cutL_take (ls ns : List Int) {i w : Nat} (h : w ≤ i) : (cutL ls ns i).take w = cutL ls ns w := by
  rw [cutL, ← List.map_take, List.take_range, Nat.min_eq_left h]; rfl
theorem opOf_okSize (n : Int) : sizeV (opOf n) = 1 ∨ sizeV (opOf n) = 2 ∨ sizeV (opOf n) = 5 := by
  have g := good_of n
  simp only [good, Bool.and_eq_true, Bool.or_eq_true, Bool.not_eq_true', beq_iff_eq] at g
  obtain ⟨⟨⟨⟨⟨_, _⟩, h⟩, _⟩, _⟩, _⟩ := g
  omega
theorem okIn (n v : Int) (hv : u32B v = true) : OkIn (opOf n, numOf (opOf n) v) := by
  have h := List.all_eq_true.1 opT_ok _ (opOf_in n)
  simp only [Bool.and_eq_true, decide_eq_true_eq] at h
  obtain ⟨h1, h2⟩ := num_right (opOf n) v hv (opOf_okSize n)
  exact ⟨h.1, by show opOf n < 256; omega, opOf_okSize n, h1, h2⟩
theorem getD_of {l : List Int} {P : Int → Prop} (h : ∀ x ∈ l, P x) (h0 : P 0) (j : Nat) : P (l.getD j 0) := by
  rw [List.getD_eq_getElem?_getD]
  rcases Nat.lt_or_ge j l.length with hj | hj
  · rw [List.getElem?_eq_getElem hj]; exact h _ (List.getElem_mem hj)
  · rw [List.getElem?_eq_none hj]; exact h0
theorem cutL_ok {ls ns : List Int} (hn : ∀ x ∈ ns, u32B x = true) (i : Nat) : ∀ p ∈ cutL ls ns i, OkIn p := by
  intro p hp
  obtain ⟨j, _, rfl⟩ := List.mem_map.1 hp
  exact okIn _ _ (getD_of hn rfl j)
def endAt (ls ns : List Int) (j : Nat) : Nat := (joinB (cutL ls ns j)).length
theorem endAt_succ (ls ns : List Int) (j : Nat) : endAt ls ns (j + 1) = endAt ls ns j + (encB (opOf (ls.getD j 0)) (numOf (opOf (ls.getD j 0)) (ns.getD j 0))).length := by
  unfold endAt
  rw [cutL_succ, joinB_app, List.length_append]
  simp [joinB]
def endC (ls ns : List Int) (i : Nat) : List Value := (List.range (i + 1)).map fun j => .int .i64 ((endAt ls ns j : Nat) : Int)
theorem endC_len (ls ns : List Int) (i : Nat) : (endC ls ns i).length = i + 1 := by simp [endC]
theorem endC_succ (ls ns : List Int) (i : Nat) : endC ls ns (i + 1) = endC ls ns i ++ [.int .i64 ((endAt ls ns (i + 1) : Nat) : Int)] := by simp [endC, List.range_succ (n := i + 1)]
theorem endC_get (ls ns : List Int) {i j : Nat} (h : j ≤ i) : (endC ls ns i)[0 + j * 1]? = some (.int .i64 ((endAt ls ns j : Nat) : Int)) := by
  rw [show 0 + j * 1 = j by omega, endC, List.getElem?_map, List.getElem?_range (by omega)]; rfl
theorem endAt_le (ls ns : List Int) (j : Nat) : endAt ls ns j ≤ 5 * j := by
  have := joinB_le (cutL ls ns j)
  rw [cutL_len] at this
  exact this
end Gc
end Go.Proofs.YtpfmmckbfejfnaaDoor
