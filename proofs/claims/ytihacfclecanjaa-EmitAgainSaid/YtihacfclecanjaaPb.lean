/- Chapter 22: the code of a block: its pieces. -/
import Derived.Test.YtihacfclecanjaaJg
set_option linter.unusedVariables false
set_option linter.unusedSimpArgs false
namespace Go.Proofs.Ytihacfclecanjaa
open Go Go.Ev Go.RowKit
set_option maxRecDepth 100000
namespace Ls
def hI (op a b : Int) : Int :=
 if op = 2 then a else if op = 3 then (a + b) % 18446744073709551616 else if op = 4 then (a - b) % 18446744073709551616
 else if op = 5 then ((a.toNat &&& b.toNat : Nat) : Int) else if op = 6 then ((a.toNat ||| b.toNat : Nat) : Int) else if op = 7 then ((a.toNat ^^^ b.toNat : Nat) : Int)
 else if op = 8 then a * 2 ^ min b.toNat 64 % 18446744073709551616 else if op = 9 then a / 2 ^ min b.toNat 64 else if op = 10 then a * b % 18446744073709551616
 else if op = 11 then (if b = 0 then 0 else a / b) else if op = 12 then (if a < b then 1 else 0) else (if a = b then 1 else 0)
def u32P (x : Int) : Prop := 0 ≤ x ∧ x < 4294967296
def hostO (op : Int) : Int := if op = 16 then 3 else if op = 18 then 5 else if op = 19 then 6 else if op = 20 then 7 else if op = 21 then 8 else if op = 22 then 9 else if op = 23 then 10 else 4
def lowO (op : Int) : Bool := decide (op = 18 ∨ op = 19 ∨ op = 20 ∨ op = 22)
def aluI (op a b : Int) : Int := if lowO op then hI (hostO op) a b else hI 5 (hI (hostO op) a b) 4294967295
theorem h5_mask {x : Int} (h : 0 ≤ x) : hI 5 x 4294967295 = x % 4294967296 := by
 obtain ⟨n, rfl⟩ := Int.eq_ofNat_of_zero_le h;show (((n : Int).toNat &&& (4294967295 : Int).toNat : Nat) : Int) = _;rw [Int.toNat_natCast, show (4294967295 : Int).toNat = 2 ^ 32 - 1 by decide, Nat.and_two_pow_sub_one_eq_mod];omega
theorem bits_u32 {a b : Int} (ha : u32P a) (hb : u32P b) : hI 5 a b = bits .and .u32 a b ∧ hI 6 a b = bits .or .u32 a b ∧ hI 7 a b = bits .xor .u32 a b := by
 obtain ⟨n, rfl⟩ := Int.eq_ofNat_of_zero_le ha.1;obtain ⟨m, rfl⟩ := Int.eq_ofNat_of_zero_le hb.1;have h1 := ha.2; have h2 := hb.2;rw [u32_and n m (by omega) (by omega), u32_or n m (by omega) (by omega), u32_xor n m (by omega) (by omega)];exact ⟨rfl, rfl, rfl⟩
theorem pow_split {b : Nat} (h : 32 ≤ b) (x : Int) : x * 2 ^ b % 4294967296 = 0 := by
 have e : (2 : Int) ^ b = 4294967296 * 2 ^ (b - 32) := by
  rw [show b = 32 + (b - 32) by omega, Int.pow_add, show 32 + (b - 32) - 32 = b - 32 by omega]; rfl
 rw [e, ← Int.mul_assoc, Int.mul_comm x, Int.mul_assoc];exact Int.mul_emod_right _ _
theorem mod_mod (x : Int) : x % 18446744073709551616 % 4294967296 = x % 4294967296 := Int.emod_emod_of_dvd x ⟨4294967296, by decide⟩
theorem alu_do {op a b : Int} (ha : u32P a) (hb : u32P b) (ho : (16 ≤ op ∧ op ≤ 23) ∨ op = 25) : aluI op a b = if op = 25 then (a - b) % 4294967296 else doR op a b := by
 obtain ⟨b1, b2, b3⟩ := bits_u32 ha hb;have g0 := ha.1; have g1 := ha.2; have g2 := hb.1; have g3 := hb.2;rcases (by omega : op = 16 ∨ op = 17 ∨ op = 18 ∨ op = 19 ∨ op = 20 ∨ op = 21 ∨ op = 22 ∨ op = 23 ∨ op = 25) with rfl | rfl | rfl | rfl | rfl | rfl | rfl | rfl | rfl
 ·show hI 5 ((a + b) % 18446744073709551616) 4294967295 = (a + b) % 4294967296;rw [h5_mask (by omega), mod_mod]
 ·show hI 5 ((a - b) % 18446744073709551616) 4294967295 = (a - b) % 4294967296;rw [h5_mask (by omega), mod_mod]
 ·exact b1
 ·exact b2
 ·exact b3
 ·show hI 5 (a * 2 ^ min b.toNat 64 % 18446744073709551616) 4294967295 = mvF a b true;rw [h5_mask (Int.emod_nonneg _ (by decide)), mod_mod];unfold mvF
  by_cases h : 32 ≤ b
  ·rw [if_pos h, pow_split (by omega)]
  ·rw [if_neg h, if_pos rfl, Nat.min_eq_left (by omega)]
 ·show a / 2 ^ min b.toNat 64 = mvF a b false;unfold mvF
  by_cases h : 32 ≤ b
  ·rw [if_pos h];refine Int.ediv_eq_zero_of_lt g0 (Int.lt_of_lt_of_le g1 ?_)
   have : (2 : Int) ^ 32 ≤ 2 ^ min b.toNat 64 := by
    have := Nat.pow_le_pow_right (n := 2) (by decide) (show 32 ≤ min b.toNat 64 by omega)
    exact_mod_cast this
   omega
  ·rw [if_neg h, if_neg (by simp), Nat.min_eq_left (by omega)]
 ·show hI 5 (a * b % 18446744073709551616) 4294967295 = a * b % 4294967296;rw [h5_mask (Int.emod_nonneg _ (by decide)), mod_mod]
 ·show hI 5 ((a - b) % 18446744073709551616) 4294967295 = (a - b) % 4294967296;rw [h5_mask (by omega), mod_mod]
theorem mod_u32 (x : Int) : u32P (x % 4294967296) := ⟨by omega, by omega⟩
theorem hI_and_le {a b : Int} (hb : u32P b) : u32P (hI 5 a b) := by
 have : (a.toNat &&& b.toNat : Nat) ≤ b.toNat := Nat.and_le_right;have h := hb.1; have h2 := hb.2;show u32P ((a.toNat &&& b.toNat : Nat) : Int);unfold u32P; omega
theorem sign_of {x : Int} (h : u32P x) : hI 9 x 31 = if 2147483648 ≤ x then 1 else 0 := by
 show x / 2 ^ min (31 : Int).toNat 64 = _;rw [show (2 : Int) ^ min (31 : Int).toNat 64 = 2147483648 by decide];have h1 := h.1; have h2 := h.2;split <;> omega
theorem eq0 (x : Int) : hI 13 x 0 = if x = 0 then 1 else 0 := rfl
def bitI (s r up : Int) : Int := hI 6 s (hI 8 r up)
theorem bit1 (p q : Prop) [Decidable p] [Decidable q] : bitI (if p then 1 else 0) (if q then 1 else 0) 1 = (if p then 1 else 0) + (if q then 2 else 0) := by
 split <;> split <;> decide
theorem bit2 (s : Int) (hs : 0 ≤ s ∧ s ≤ 3) (q : Prop) [Decidable q] : bitI s (if q then 1 else 0) 2 = s + (if q then 4 else 0) := by
 rcases (by omega : s = 0 ∨ s = 1 ∨ s = 2 ∨ s = 3) with rfl | rfl | rfl | rfl <;> split <;> decide
theorem bit3 (s : Int) (hs : 0 ≤ s ∧ s ≤ 7) (q : Prop) [Decidable q] : bitI s (if q then 1 else 0) 3 = s + (if q then 8 else 0) := by
 rcases (by omega : s = 0 ∨ s = 1 ∨ s = 2 ∨ s = 3 ∨ s = 4 ∨ s = 5 ∨ s = 6 ∨ s = 7) with rfl | rfl | rfl | rfl | rfl | rfl | rfl | rfl <;> split <;> decide
def pfI (r : Int) : Int := bitI (hI 13 r 0) (hI 9 r 31) 1
theorem pfI_eq {r : Int} (h : u32P r) : pfI r = pf r := by
 unfold pfI; rw [sign_of h, eq0, bit1]; rfl
def flagI (op a b : Int) : Int :=
 let r := aluI op a b
 if op = 16 then bitI (bitI (pfI r) (hI 12 r a) 2) (hI 9 (hI 5 (hI 7 a r) (hI 7 b r)) 31) 3
 else if op = 17 ∨ op = 25 then bitI (bitI (pfI r) (hI 12 a b) 2) (hI 9 (hI 5 (hI 7 a b) (hI 7 a r)) 31) 3
 else pfI r
theorem top_ne {x : Int} (h : u32P x) : (bits .and .u32 x 2147483648 != 0) = decide (2147483648 ≤ x) := by
 rw [top_and x h.1 h.2]
 by_cases q : 2147483648 ≤ x <;> simp [q]
theorem xor_u32 {a b : Int} (ha : u32P a) (hb : u32P b) : u32P (hI 7 a b) := by
 obtain ⟨n, rfl⟩ := Int.eq_ofNat_of_zero_le ha.1;obtain ⟨m, rfl⟩ := Int.eq_ofNat_of_zero_le hb.1;have h1 := ha.2; have h2 := hb.2;have hx : n ^^^ m < 2 ^ 32 := Nat.xor_lt_two_pow (by omega) (by omega);show u32P ((n ^^^ m : Nat) : Int);unfold u32P; omega
theorem flag_do {op a b : Int} (ha : u32P a) (hb : u32P b) (ho : (16 ≤ op ∧ op ≤ 23) ∨ op = 25) : flagI op a b = doF op a b := by
 have hr := alu_do ha hb ho;rcases (by omega : op = 16 ∨ op = 17 ∨ op = 25 ∨ (18 ≤ op ∧ op ≤ 23)) with rfl | rfl | rfl | h
 ·rw [if_neg (by decide)] at hr;have hr2 : aluI 16 a b = (a + b) % 4294967296 := hr;have h32 := mod_u32 (a + b);show bitI (bitI (pfI (aluI 16 a b)) (hI 12 (aluI 16 a b) a) 2) (hI 9 (hI 5 (hI 7 a (aluI 16 a b)) (hI 7 b (aluI 16 a b))) 31) 3 = moreF a b;rw [hr2, pfI_eq h32, sign_of (hI_and_le (xor_u32 hb h32))];have hp := pf_rng ((a + b) % 4294967296);rw [show hI 12 ((a + b) % 4294967296) a = if (a + b) % 4294967296 < a then 1 else 0 from rfl, bit2 _ hp, bit3 _ (by split <;> omega)];unfold moreF ova;rw [← (bits_u32 ha h32).2.2, ← (bits_u32 hb h32).2.2, ← (bits_u32 (xor_u32 ha h32) (xor_u32 hb h32)).1, top_ne (hI_and_le (xor_u32 hb h32))];simp only [decide_eq_true_eq]
 ·rw [if_neg (by decide)] at hr;have hr2 : aluI 17 a b = (a - b) % 4294967296 := hr;have h32 := mod_u32 (a - b);show bitI (bitI (pfI (aluI 17 a b)) (hI 12 a b) 2) (hI 9 (hI 5 (hI 7 a b) (hI 7 a (aluI 17 a b))) 31) 3 = lessF a b;rw [hr2, pfI_eq h32, sign_of (hI_and_le (xor_u32 ha h32))];have hp := pf_rng ((a - b) % 4294967296);rw [show hI 12 a b = if a < b then 1 else 0 from rfl, bit2 _ hp, bit3 _ (by split <;> omega)];unfold lessF ovs;rw [← (bits_u32 ha h32).2.2, ← (bits_u32 ha hb).2.2, ← (bits_u32 (xor_u32 ha hb) (xor_u32 ha h32)).1, top_ne (hI_and_le (xor_u32 ha h32))];simp only [decide_eq_true_eq]
 ·rw [if_pos rfl] at hr;have h32 := mod_u32 (a - b);show bitI (bitI (pfI (aluI 25 a b)) (hI 12 a b) 2) (hI 9 (hI 5 (hI 7 a b) (hI 7 a (aluI 25 a b))) 31) 3 = lessF a b;rw [hr, pfI_eq h32, sign_of (hI_and_le (xor_u32 ha h32))];have hp := pf_rng ((a - b) % 4294967296);rw [show hI 12 a b = if a < b then 1 else 0 from rfl, bit2 _ hp, bit3 _ (by split <;> omega)];unfold lessF ovs;rw [← (bits_u32 ha h32).2.2, ← (bits_u32 ha hb).2.2, ← (bits_u32 (xor_u32 ha hb) (xor_u32 ha h32)).1, top_ne (hI_and_le (xor_u32 ha h32))];simp only [decide_eq_true_eq]
 ·rw [if_neg (by omega)] at hr;have e1 : flagI op a b = pfI (aluI op a b) := by unfold flagI; simp only; rw [if_neg (by omega), if_neg (by omega)]
  have e2 : doF op a b = pf (doR op a b) := by unfold doF; rw [if_neg (by omega), if_neg (by omega), if_neg (by omega), if_pos h]
  rw [e1, hr, e2];exact pfI_eq (doR_rng _ _ _ ha.1 ha.2 hb.1 hb.2)
structure MS where
 R : Int → Int
 M : Int → Int
def up (f : Int → Int) (k v : Int) : Int → Int := fun i => if i = k then v else f i
theorem up_at (f : Int → Int) (k v : Int) : up f k v k = v := if_pos rfl
theorem up_ne (f : Int → Int) {k i : Int} (v : Int) (h : i ≠ k) : up f k v i = f i := if_neg h
def atI (x : II) (s : MS) : Int := s.R x.2.2.1 + x.2.2.2.2
def ex1 (x : II) (s : MS) : MS :=
 if x.1 = 1 then ⟨up s.R x.2.1 x.2.2.2.2, s.M⟩
 else if x.1 = 14 then ⟨up s.R x.2.1 (s.M (atI x s)), s.M⟩
 else if x.1 = 15 then ⟨s.R, up s.M (atI x s) (s.R x.2.2.2.1 % 4294967296)⟩
 else ⟨up s.R x.2.1 (hI x.1 (s.R x.2.2.1) (s.R x.2.2.2.1)), s.M⟩
def exL : List II → MS → MS
 | [], s => s
 | x :: l, s => exL l (ex1 x s)
theorem exL_app : ∀ (a b : List II) (s : MS), exL (a ++ b) s = exL b (exL a s)
 | [], _, _ => rfl
 | x :: a, b, s => exL_app a b (ex1 x s)
def ok1 (x : II) (s : MS) : Prop := (1 ≤ x.1 ∧ x.1 ≤ 15) ∧ (x.1 = 14 ∨ x.1 = 15 → 0 ≤ atI x s ∧ atI x s < 256)
def okL : List II → MS → Prop
 | [], _ => True
 | x :: l, s => ok1 x s ∧ okL l (ex1 x s)
theorem okL_app : ∀ (a b : List II) (s : MS), okL a s → okL b (exL a s) → okL (a ++ b) s
 | [], _, _, _, h => h
 | x :: a, b, s, h, k => ⟨h.1, okL_app a b (ex1 x s) h.2 k⟩
def stp (code : List II) (s : MS) (k : Nat) : Option (MS × Nat) := match code[k]? with
 | none => none
 | some x =>
  if 1 ≤ x.1 ∧ x.1 ≤ 15 then (if x.1 = 14 ∨ x.1 = 15 then (if 0 ≤ atI x s ∧ atI x s < 256 then some (ex1 x s, k + 1) else none) else some (ex1 x s, k + 1))
  else if x.1 = 16 ∨ x.1 = 17 then (if decide (s.R x.2.2.1 = 0) = decide (x.1 = 16) then some (s, x.2.2.2.2.toNat) else some (s, k + 1))
  else if x.1 = 18 then some (s, x.2.2.2.2.toNat) else if x.1 = 0 then some (s, k + 1) else none
def Steps (code : List II) : Nat → MS → Nat → MS → Nat → Prop
 | 0, s, k, t, j => s = t ∧ k = j
 | n + 1, s, k, t, j => ∃ s1 k1, stp code s k = some (s1, k1) ∧ Steps code n s1 k1 t j
theorem Steps.app {code : List II} : ∀ {n m : Nat} {s t u : MS} {k j i : Nat}, Steps code n s k t j → Steps code m t j u i → Steps code (n + m) s k u i
 | 0, m, s, t, u, k, j, i, ⟨h1, h2⟩, h => by subst h1 h2; rw [Nat.zero_add]; exact h
 | n + 1, m, s, t, u, k, j, i, ⟨s1, k1, h1, h2⟩, h => by
  rw [show n + 1 + m = (n + m) + 1 by omega];exact ⟨s1, k1, h1, h2.app h⟩
theorem steps_line {code : List II} : ∀ (l : List II) (s : MS) (k : Nat), (∀ i x, l[i]? = some x → code[k + i]? = some x) → okL l s → Steps code l.length s k (exL l s) (k + l.length)
 | [], s, k, _, _ => ⟨rfl, rfl⟩
 | x :: l, s, k, hc, ho => by
  have h0 := hc 0 x rfl;rw [Nat.add_zero] at h0;obtain ⟨⟨h1, h2⟩, h3⟩ := ho;refine ⟨ex1 x s, k + 1, ?_, ?_⟩
  ·unfold stp;rw [h0];simp only;rw [if_pos h1]
   by_cases h : x.1 = 14 ∨ x.1 = 15
   ·rw [if_pos h, if_pos (h2 h)]
   ·rw [if_neg h]
  ·have := steps_line l (ex1 x s) (k + 1) (fun i y hy => by rw [show k + 1 + i = k + (i + 1) by omega]; exact hc (i + 1) y hy) h3;rw [show k + (x :: l).length = k + 1 + l.length by simp; omega];exact this
def liI (rd v : Int) : II := (1, rd, 0, 0, v)
def opI (op rd ra rb : Int) : II := (op, rd, ra, rb, 0)
def ldI (rd ra at_ : Int) : II := (14, rd, ra, 0, at_)
def stI (ra at_ rb : Int) : II := (15, 0, ra, rb, at_)
def lowC (r : Int) : List II := [liI 12 4294967295, opI 5 r r 12]
def aluC (op rd a b : Int) : List II := opI (hostO op) rd a b :: (if lowO op then [] else lowC rd)
def bitC (r upb : Int) : List II := [liI 12 upb, opI 8 r r 12, opI 6 10 10 r]
def signC (rd r : Int) : List II := [liI 12 31, opI 9 rd r 12]
def ovC : List II := opI 5 11 11 12 :: (signC 11 11 ++ bitC 11 3)
def flagC (op a b : Int) : List II := aluC op 9 a b ++ (opI 13 10 9 15 :: (signC 11 9 ++ (bitC 11 1 ++
 (if op = 16 then opI 12 11 9 a :: (bitC 11 2 ++ (opI 7 11 a 9 :: opI 7 12 b 9 :: ovC))
  else if op = 17 ∨ op = 25 then opI 12 11 a b :: (bitC 11 2 ++ (opI 7 11 a b :: opI 7 12 a 9 :: ovC)) else []))))
def gR (rg : List Int) (n into : Int) : Int := if 0 ≤ rg.getD n.toNat 0 then rg.getD n.toNat 0 else into
def gC (rg sl : List Int) (n into : Int) : List II := if 0 ≤ rg.getD n.toNat 0 then [] else [ldI into 15 (64 + sl.getD n.toNat 0)]
def kC (rg sl : List Int) (n r : Int) : List II := if rg.getD n.toNat 0 < 0 then [stI 15 (64 + sl.getD n.toNat 0) r] else []
def valC (rg sl : List Int) (nd nr : Int) (rd : Int) (x : II) : List II :=
 if x.1 = 0 then [liI rd x.2.2.2.2] else if x.1 = 1 then [ldI rd 14 (4 + nd - 1 - x.2.2.2.2)] else if x.1 = 2 then [ldI rd 13 (20 + nr - 1 - x.2.2.2.2)]
 else if x.1 = 3 then gC rg sl x.2.2.1 7 ++ (gC rg sl x.2.2.2.1 8 ++ aluC x.2.2.2.2 rd (gR rg x.2.2.1 7) (gR rg x.2.2.2.1 8))
 else gC rg sl x.2.2.1 7 ++ (gC rg sl x.2.2.2.1 8 ++ (flagC x.2.2.2.2 (gR rg x.2.2.1 7) (gR rg x.2.2.2.1 8) ++ [(2, rd, 10, 0, 0)]))
def oneC (rg sl : List Int) (nd nr : Int) (n : Nat) (x : II) : List II := valC rg sl nd nr (gR rg n 9) x ++ kC rg sl n (gR rg n 9)
def bodyC (rg sl : List Int) (nd nr : Int) (c : List II) : Nat → List II
 | 0 => []
 | k + 1 => match c[k]? with | some x => bodyC rg sl nd nr c k ++ oneC rg sl nd nr k x | none => bodyC rg sl nd nr c k
def outC (rg sl : List Int) (base frm : Int) : List Int → Int → List II
 | [], _ => []
 | n :: l, k => gC rg sl n 7 ++ (stI base (frm + k) (gR rg n 7) :: outC rg sl base frm l (k + 1))
def stackC (rg sl : List Int) (base frm word : Int) (out : List Int) : List II := outC rg sl base frm out 0 ++ [liI 11 (out.length : Int), opI 3 11 11 base, stI 15 word 11]
def roomC (base word need most : Int) (E : Int) : List II := [ldI base 15 word, liI 11 need, opI 12 12 base 11, (17, 0, 12, 0, E), liI 12 most, opI 12 12 12 base, (17, 0, 12, 0, E), opI 4 base base 11]
def mostO (need high out : Int) : Int := min (16 - high) (16 + need - out)
theorem ex_li (rd v : Int) (s : MS) : ex1 (liI rd v) s = ⟨up s.R rd v, s.M⟩ := rfl
theorem ex_op {op : Int} (rd ra rb : Int) (s : MS) (h : 2 ≤ op ∧ op ≤ 13) : ex1 (opI op rd ra rb) s = ⟨up s.R rd (hI op (s.R ra) (s.R rb)), s.M⟩ := by
 unfold ex1 opI; simp only; rw [if_neg (by omega), if_neg (by omega), if_neg (by omega)]
theorem ex_ld (rd ra a : Int) (s : MS) : ex1 (ldI rd ra a) s = ⟨up s.R rd (s.M (s.R ra + a)), s.M⟩ := rfl
theorem ex_st (ra a rb : Int) (s : MS) : ex1 (stI ra a rb) s = ⟨s.R, up s.M (s.R ra + a) (s.R rb % 4294967296)⟩ := rfl
theorem ok_li (rd v : Int) (s : MS) : ok1 (liI rd v) s := ⟨⟨Int.le_refl 1, (by decide : (1 : Int) ≤ 15)⟩, fun h => by rcases h with h | h <;> cases h⟩
theorem ok_op {op : Int} (rd ra rb : Int) (s : MS) (h : 2 ≤ op ∧ op ≤ 13) : ok1 (opI op rd ra rb) s := ⟨⟨by simp only [opI]; omega, by simp only [opI]; omega⟩, fun q => by simp only [opI] at q; omega⟩
theorem ok_ld (rd ra a : Int) (s : MS) (h : 0 ≤ s.R ra + a ∧ s.R ra + a < 256) : ok1 (ldI rd ra a) s := ⟨⟨by simp only [ldI]; omega, by simp only [ldI]; omega⟩, fun _ => h⟩
theorem ok_st (ra a rb : Int) (s : MS) (h : 0 ≤ s.R ra + a ∧ s.R ra + a < 256) : ok1 (stI ra a rb) s := ⟨⟨by simp only [stI]; omega, by simp only [stI]; omega⟩, fun _ => h⟩
structure Does (l : List II) (s : MS) (rd : Int) (v : Int) (scr : Int → Prop) : Prop where
 ok : okL l s
 val : (exL l s).R rd = v
 keep : ∀ i, i ≠ rd → ¬ scr i → (exL l s).R i = s.R i
 mem : (exL l s).M = s.M
end Ls
end Go.Proofs.Ytihacfclecanjaa
