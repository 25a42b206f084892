/- Chapter 2: bytes read one instruction behind the other. -/
import Derived.Test.YtpfmmckbfejfnaaDoorGu
import Derived.Test.YtpfmmckbfejfnaaDoorGj
namespace Go.Proofs.YtpfmmckbfejfnaaDoor
open Go Go.Ev Go.RowKit
set_option linter.unusedVariables false
set_option linter.unusedSimpArgs false
set_option maxRecDepth 100000
namespace Gc
/-- How many there is room for. -/
structure CapV (pt : Option Addr) (len cap : Nat) : Prop where
  at_ : (len ≤ cap ∧ cap < unk) ∨ (cap = unk + 1 ∧ pt ≠ none)
def blk (p : Option Addr) : Option Nat := p.map (·.block)
theorem aslice_sl {T : Tab} {t e : TypeId} (hu : T.under t = some (.slice e)) (hs : T.size e = some 1) {a : Option Addr} {len cap : Nat} (lo hi : Nat) {vlo vhi : Option Value}
    (hlo : (vlo = none ∧ lo = 0) ∨ vlo = some (.int .i64 (Int.ofNat lo))) (hhi : (vhi = none ∧ hi = len) ∨ vhi = some (.int .i64 (Int.ofNat hi))) :
    aslice T t (.slice a len cap) vlo vhi none = (bif lo.ble hi then bif unk.ble cap then (match a with | some ⟨b, off, none⟩ => bif hi.ble len && cap.beq (unk + 1) then some (.slice (some ⟨b, off + lo * 1, none⟩) (hi - lo) (unk + 1)) else none | _ => none) else bif hi.ble cap then some (.slice (bif cap.beq lo then a else a.map (·.add (lo * 1))) (hi - lo) (cap - lo)) else none else none) := by
  rcases hlo with ⟨rfl, rfl⟩ | rfl <;> rcases hhi with ⟨rfl, rfl⟩ | rfl <;> (unfold aslice; simp only [hu, hs]; rfl)
theorem aslice_byts {T : Tab} {t e : TypeId} {H : Heap} {pt : Option Addr} {cap : Nat} {l : List Int} (hu : T.under t = some (.slice e)) (hs : T.size e = some 1) (h : Byts H (.slice pt l.length cap) l) (hc : CapV pt l.length cap) (lo hi : Nat) {vlo vhi : Option Value}
    (hlo : (vlo = none ∧ lo = 0) ∨ vlo = some (.int .i64 (Int.ofNat lo))) (hhi : (vhi = none ∧ hi = l.length) ∨ vhi = some (.int .i64 (Int.ofNat hi))) (h1 : lo ≤ hi) (h2 : hi ≤ l.length) :
    ∃ pt' cap', aslice T t (.slice pt l.length cap) vlo vhi none = some (.slice pt' (hi - lo) cap') ∧ Byts H (.slice pt' (hi - lo) cap') ((l.take hi).drop lo) ∧ CapV pt' (hi - lo) cap' ∧ blk pt' = blk pt := by
  have hlen : ((l.take hi).drop lo).length = hi - lo := by simp; omega
  have e1 : lo.ble hi = true := by rw [ble_dec]; simp [h1]
  have e2 : hi.ble l.length = true := by rw [ble_dec]; simp [h2]
  have sub : ∀ {A off c : Nat} {cells : List Value} {el : TypeId} {ro : Bool}, H.get A = some ⟨cells, el, ro⟩ → A < H.n → (∀ k (h : k < l.length), cells[off + k * 1]? = some (.int .u8 l[k]) ∧ 0 ≤ l[k] ∧ l[k] < 256) → ∀ o, (lo < hi → o = off + lo) → Byts H (.slice (some ⟨A, o, none⟩) (hi - lo) c) ((l.take hi).drop lo) := by
    intro A off c cells el ro g hA hb o ho
    rw [← hlen]
    refine ⟨.inr ⟨A, o, c, cells, el, ro, rfl, g, hA, fun k hk => ?_⟩⟩
    rw [hlen] at hk
    have := hb (lo + k) (by omega)
    rw [List.getElem_drop, List.getElem_take]
    rw [ho (by omega), show off + lo + k * 1 = off + (lo + k) * 1 by omega]
    exact this
  rcases h.at_ with ⟨c, he, rfl⟩ | ⟨A, off, c, cells, el, ro, he, g, hA, hb⟩
  · simp only [List.length_nil] at h2
    obtain rfl : hi = 0 := by omega
    obtain rfl : lo = 0 := by omega
    obtain rfl : pt = none := by injection he
    rcases hc.at_ with ⟨hc1, hc2⟩ | ⟨_, hn⟩
    · have e3 : unk.ble cap = false := by rw [ble_dec]; simp; omega
      have e4 : (0 : Nat).ble cap = true := by rw [ble_dec]; simp
      refine ⟨none, cap, ?_, ⟨.inl ⟨cap, rfl, rfl⟩⟩, ⟨.inl ⟨by omega, hc2⟩⟩, rfl⟩
      rw [aslice_sl hu hs 0 0 hlo hhi, e1, e3, e4]
      cases cap.beq 0 <;> rfl
    · exact absurd rfl hn
  · obtain ⟨rfl, rfl⟩ : pt = some ⟨A, off, none⟩ ∧ c = cap := by injection he with h1 h2 h3; exact ⟨h1, h3.symm⟩
    rcases hc.at_ with ⟨hc1, hc2⟩ | ⟨rfl, _⟩
    · have e3 : unk.ble c = false := by rw [ble_dec]; simp; omega
      have e4 : hi.ble c = true := by rw [ble_dec]; simp; omega
      by_cases hcl : c = lo
      · have e5 : c.beq lo = true := by rw [beq_dec]; simp [hcl]
        refine ⟨some ⟨A, off, none⟩, c - lo, ?_, sub g hA hb off (by omega), ⟨.inl ⟨by omega, by omega⟩⟩, rfl⟩
        rw [aslice_sl hu hs lo hi hlo hhi, e1, e3, e4, e5]; rfl
      · have e5 : c.beq lo = false := by rw [beq_dec]; simp [hcl]
        refine ⟨some ⟨A, off + lo, none⟩, c - lo, ?_, sub g hA hb (off + lo) (fun _ => rfl), ⟨.inl ⟨by omega, by omega⟩⟩, rfl⟩
        rw [aslice_sl hu hs lo hi hlo hhi, e1, e3, e4, e5]
        simp only [cond_true, cond_false, Option.map_some, Nat.mul_one]
        rw [Addr.add_lit]
    · have e3 : unk.ble (unk + 1) = true := by rw [ble_dec]; simp
      have e4 : (unk + 1).beq (unk + 1) = true := by rw [beq_dec]; simp
      refine ⟨some ⟨A, off + lo, none⟩, unk + 1, ?_, sub g hA hb (off + lo) (fun _ => rfl), ⟨.inr ⟨rfl, by simp⟩⟩, rfl⟩
      rw [aslice_sl hu hs lo hi hlo hhi, e1, e3]
      simp only [e2, e4, cond_true, Bool.and_self, Nat.mul_one]
theorem go_some (l : List Int) : ∀ s, (bytesOf.go (l.map (Value.int .u8)) s).isSome = true := by
  induction l with
  | nil => intro s; rfl
  | cons x l ih => intro s; exact ih _
theorem bytes_u8 (l : List Int) : bytesOf (l.map (Value.int .u8)) = some (bstr (l.map (Value.int .u8))) := by
  have h : (bytesOf (l.map (Value.int .u8))).isSome = true := go_some l _
  obtain ⟨r, hr⟩ := Option.isSome_iff_exists.1 h
  unfold bstr
  rw [hr]; rfl
/-- A slice of bytes as text. -/
theorem conv_byts {T : Tab} {s d e : TypeId} (hs : T.under s = some (.slice e)) (hd : T.under d = some .string) (he : isU8 (T.under e) = true) {H : Heap} {v : Value} {l : List Int} (h : Byts H v l) : aconvert T s d v H = some (.string (bstr (l.map (Value.int .u8)))) := by
  rcases h.at_ with ⟨c, rfl, rfl⟩ | ⟨A, off, c, cells, el, ro, rfl, g, hA, hb⟩
  · unfold aconvert
    simp only [hs, hd, he, cond_true]
    rfl
  · refine aconv_at hs hd he g (l := l.map (Value.int .u8)) ?_ (by simp) (bytes_u8 l)
    refine List.ext_getElem? fun j => ?_
    rcases Nat.lt_or_ge j l.length with hj | hj
    · rw [List.getElem?_take, if_pos hj, List.getElem?_drop, List.getElem?_map, List.getElem?_eq_getElem hj]
      have := (hb j hj).1
      rw [Nat.mul_one] at this
      rw [this]; rfl
    · rw [List.getElem?_eq_none (by simp; omega), List.getElem?_eq_none (by simpa using hj)]
theorem wrap_byte {x : Int} (h0 : 0 ≤ x) (h1 : x < 256) : IntKind.u8.wrap x = x := by rw [IntKind.wrap_u8]; omega
/-- What is read is written as it stood. -/
theorem read_enc {l : List Int} (hb : ∀ x ∈ l, 0 ≤ x ∧ x < 256) {a N s : Int} (h : readL l = (a, N, s, 0)) : ∃ k : Nat, s = k ∧ 0 < k ∧ k ≤ l.length ∧ encL a N = (l.take k).map (Value.int .u8) ∧ rightV a N = true ∧ u32B N = true ∧ sizeV a = s := by
  cases l with
  | nil => simp [readL] at h
  | cons x r =>
    obtain ⟨x0, x1⟩ := hb x (by simp)
    have hx : by0 x = .int .u8 x := by unfold by0; rw [wrap_byte x0 x1]
    rcases sizeV_in x with hz | hz | hz | hz
    · simp [readL, hz] at h
    · have h1 : ¬ ((1 : Int) > ((r.length + 1 : Nat) : Int)) := by omega
      have e : readL (x :: r) = (x, 0, 1, 0) := by simp only [readL, hz, decide_eq_false h1]; rfl
      rw [e] at h
      simp only [Prod.mk.injEq] at h
      obtain ⟨rfl, rfl, rfl, _⟩ := h
      exact ⟨1, rfl, by omega, by simp, by simp [encL, hz, hx], by simp [rightV, hz], by simp [u32B], hz⟩
    · rcases r with _ | ⟨b1, r⟩
      · simp [readL, hz] at h
      · obtain ⟨l1, m1⟩ := hb b1 (by simp)
        have h1 : ¬ ((2 : Int) > (((b1 :: r).length + 1 : Nat) : Int)) := by simp only [List.length_cons]; omega
        have e : readL (x :: b1 :: r) = (x, b1, 2, 0) := by simp only [readL, hz, decide_eq_false h1]; rfl
        rw [e] at h
        simp only [Prod.mk.injEq] at h
        obtain ⟨rfl, rfl, rfl, _⟩ := h
        have hb1 : byN b1 1 = .int .u8 b1 := by unfold byN; rw [show Int.fdiv b1 1 = b1 by simp, wrap_byte l1 m1]
        exact ⟨2, rfl, by omega, by simp, by simp [encL, hz, hx, hb1], by simp [rightV, hz]; omega, by simp [u32B]; omega, hz⟩
    · rcases Nat.lt_or_ge (x :: r).length 5 with h5 | h5
      · have : ((5 : Int) > ((r.length + 1 : Nat) : Int)) := by simp only [List.length_cons] at h5; omega
        have e : readL (x :: r) = (0, 0, 0, 10) := by simp only [readL, hz, decide_eq_true this]; rfl
        rw [e] at h; simp at h
      · rcases r with _ | ⟨b1, _ | ⟨b2, _ | ⟨b3, _ | ⟨b4, r⟩⟩⟩⟩
        · simp at h5
        · simp at h5
        · simp at h5
        · simp at h5
        obtain ⟨l1, m1⟩ := hb b1 (by simp)
        obtain ⟨l2, m2⟩ := hb b2 (by simp)
        obtain ⟨l3, m3⟩ := hb b3 (by simp)
        obtain ⟨l4, m4⟩ := hb b4 (by simp)
        have h1 : ¬ ((5 : Int) > (((b1 :: b2 :: b3 :: b4 :: r).length + 1 : Nat) : Int)) := by simp only [List.length_cons]; omega
        have e : readL (x :: b1 :: b2 :: b3 :: b4 :: r) = (x, num4 b1 b2 b3 b4, 5, 0) := by simp only [readL, hz, decide_eq_false h1]; rfl
        rw [e] at h
        simp only [Prod.mk.injEq] at h
        obtain ⟨rfl, rfl, rfl, _⟩ := h
        have hn : ∀ k : Int, 0 < k → Int.fdiv (num4 b1 b2 b3 b4) k = num4 b1 b2 b3 b4 / k := fun k hk => Int.fdiv_eq_ediv_of_nonneg _ (by omega)
        have e1 : byN (num4 b1 b2 b3 b4) 1 = .int .u8 b1 := by unfold byN; rw [hn 1 (by omega), IntKind.wrap_u8]; unfold num4; congr 1; omega
        have e2 : byN (num4 b1 b2 b3 b4) 256 = .int .u8 b2 := by unfold byN; rw [hn 256 (by omega), IntKind.wrap_u8]; unfold num4; congr 1; omega
        have e3 : byN (num4 b1 b2 b3 b4) 65536 = .int .u8 b3 := by unfold byN; rw [hn 65536 (by omega), IntKind.wrap_u8]; unfold num4; congr 1; omega
        have e4 : byN (num4 b1 b2 b3 b4) 16777216 = .int .u8 b4 := by unfold byN; rw [hn 16777216 (by omega), IntKind.wrap_u8]; unfold num4; congr 1; omega
        exact ⟨5, rfl, by omega, h5, by simp [encL, hz, hx, e1, e2, e3, e4], by simp [rightV, hz], by unfold u32B num4; simp only [Bool.and_eq_true, decide_eq_true_eq]; exact ⟨by omega, by omega⟩, hz⟩
/-- Bytes read one instruction behind the other: which, how far. -/
inductive Dec (l : List Int) : List In → Nat → Prop where
  | nil : Dec l [] 0
  | snoc {is : List In} {e : Nat} {a N : Int} {k : Nat} (h : Dec l is e) (hd : readL (l.drop e) = (a, N, (k : Int), 0)) (hk : 0 < k) : Dec l (is ++ [(a, N)]) (e + k)
theorem Dec.le {l : List Int} {is : List In} {e : Nat} (hb : ∀ x ∈ l, 0 ≤ x ∧ x < 256) (h : Dec l is e) : e ≤ l.length := by
  cases h with
  | nil => omega
  | snoc h hd hk =>
    obtain ⟨k', e1, _, h2, _⟩ := read_enc (fun x hx => hb x (List.mem_of_mem_drop hx)) hd
    simp only [List.length_drop] at h2
    omega
theorem Dec.join {l : List Int} {is : List In} {e : Nat} (hb : ∀ x ∈ l, 0 ≤ x ∧ x < 256) (h : Dec l is e) : joinL is = (l.take e).map (Value.int .u8) ∧ allR is = true ∧ (∀ p ∈ is, u32B p.2 = true) ∧ is.length ≤ e := by
  induction h with
  | nil => exact ⟨rfl, rfl, fun p hp => (by cases hp), by simp⟩
  | @snoc is e a N k h hd hk ih =>
    obtain ⟨i1, i2, i3, i4⟩ := ih
    obtain ⟨k', e1, _, h2, h3, h4, h5, _⟩ := read_enc (fun x hx => hb x (List.mem_of_mem_drop hx)) hd
    obtain rfl : k = k' := by omega
    have hle := h.le hb
    refine ⟨?_, ?_, ?_, ?_⟩
    · unfold joinL at i1 ⊢
      rw [List.flatMap_append, i1]
      simp only [List.flatMap_cons, List.flatMap_nil, List.append_nil]
      rw [h3, ← List.map_append, List.take_add]
    · simp only [allR, List.all_append, List.all_cons, List.all_nil, Bool.and_true, Bool.and_eq_true] at i2 ⊢
      exact ⟨i2, h4⟩
    · intro p hp
      rcases List.mem_append.1 hp with hp | hp
      · exact i3 p hp
      · simp only [List.mem_singleton] at hp
        rw [hp]; exact h5
    · simp only [List.length_append, List.length_cons, List.length_nil]; omega
def insC (is : List In) : List Value := is.flatMap inC
theorem insC_len (is : List In) : (insC is).length = is.length * 2 := by
  induction is with
  | nil => rfl
  | cons p is ih => simp only [insC, List.flatMap_cons, List.length_append, List.length_cons] at ih ⊢; rw [ih]; simp [inC]; omega
theorem insC_row : ∀ (is : List In) (k : Nat) (h : k < is.length), ((insC is).drop (0 + k * 2)).take 2 = inC is[k] := by
  intro is
  induction is with
  | nil => intro k h; simp at h
  | cons p is ih =>
    intro k h
    cases k with
    | zero => simp [insC, inC]
    | succ k =>
      have := ih k (by simpa using h)
      simp only [insC, List.flatMap_cons] at this ⊢
      rw [show 0 + (k + 1) * 2 = 2 + (0 + k * 2) by omega, ← List.drop_drop]
      exact this
theorem Gr.ins {H : Heap} {lo : Nat} {v : Value} {is : List In} (h : Gr H lo 26 2 v is.length (insC is)) : Ins H v is := by
  rcases h.at_ with ⟨h1, h2⟩ | ⟨B, h1, h2, h3, _⟩
  · exact ⟨.inl ⟨h1, List.length_eq_zero_iff.1 h2⟩⟩
  · exact ⟨.inr ⟨B, 0, _, _, _, _, h1, h2, h3, insC_row is⟩⟩
theorem Gr.byts {H : Heap} {lo : Nat} {v : Value} {l : List Int} (hb : ∀ x ∈ l, 0 ≤ x ∧ x < 256) (h : Gr H lo 5 1 v l.length (l.map (Value.int .u8))) : Byts H v l := by
  rcases h.at_ with ⟨h1, h2⟩ | ⟨B, h1, h2, h3, _⟩
  · exact ⟨.inl ⟨0, h1, List.length_eq_zero_iff.1 h2⟩⟩
  · exact ⟨.inr ⟨B, 0, _, _, _, _, h1, h2, h3, fun k hk => ⟨by rw [List.getElem?_map, show 0 + k * 1 = k by omega, List.getElem?_eq_getElem hk]; rfl, hb _ (List.getElem_mem hk)⟩⟩⟩
theorem Gr.ne {H : Heap} {lo : Nat} {e : TypeId} {s len n c : Nat} {v : Value} {xs : List Value} (h : Gr H lo e s v len xs) {B2 : Nat} (hB : H.n ≤ B2) (B : Nat) (hv : v = .slice (some ⟨B, 0, none⟩) len (unk + s)) : blockOf (.slice (some ⟨B2, 0, none⟩) n c) ≠ some B := by
  intro h0
  simp only [blockOf, Option.some.injEq] at h0
  rcases h.at_ with ⟨h1, _⟩ | ⟨B3, h1, _, h3, _⟩
  · rw [h1] at hv; cases hv
  · rw [h1] at hv
    injection hv with hv _ _
    injection hv with hv
    injection hv with hv _ _
    omega
end Gc
end Go.Proofs.YtpfmmckbfejfnaaDoor
