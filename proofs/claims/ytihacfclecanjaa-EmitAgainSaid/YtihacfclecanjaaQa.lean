/- Chapter 22: the code of a block, whole. -/
import Derived.Test.YtihacfclecanjaaPk
import Derived.Test.YtihacfclecanjaaPi
import Derived.Test.YtihacfclecanjaaPg
set_option linter.unusedVariables false
set_option linter.unusedSimpArgs false
namespace Go.Proofs.Ytihacfclecanjaa
open Go Go.Ev Go.RowKit
set_option maxRecDepth 100000
namespace Ls
def headC (nd nr md mr E : Int) : List II := liI 15 0 :: (roomC 14 2 nd md E ++ roomC 13 3 nr mr E)
def midC (rg sl : List Int) (nd nr fl nx : Int) (c : List II) (od rd : List Int) : List II := bodyC rg sl nd nr c c.length ++ (stackC rg sl 14 4 2 od ++ (stackC rg sl 13 20 3 rd ++ (flC rg sl fl ++ [liI 9 nx])))
def tailC (rg sl : List Int) (tg ct : Int) : List II := tgC rg sl tg ++ (finC ct ++ [(19, 0, 0, 0, 1)])
def fullC (rg sl : List Int) (nd nr hd hr fl nx tg br tk ct : Int) (c : List II) (od rd : List Int) (E : Int) : List II :=
 headC nd nr (mostO nd hd (od.length : Int)) (mostO nr hr (rd.length : Int)) E ++ (midC rg sl nd nr fl nx c od rd ++ (brC br tk ((17 + (midC rg sl nd nr fl nx c od rd).length : Nat) + 3) ++ tailC rg sl tg ct))
def exitI (n : Int) : II := (19, 0, 0, 0, n)
def emitC (rg sl : List Int) (nd nr hd hr fl nx tg br tk ct : Int) (c : List II) (od rd : List Int) : List II :=
 if mostO nd hd (od.length : Int) < nd then [liI 15 0, exitI 2]
 else if mostO nr hr (rd.length : Int) < nr then liI 15 0 :: (roomC 14 2 nd (mostO nd hd (od.length : Int)) 9 ++ [exitI 2])
 else fullC rg sl nd nr hd hr fl nx tg br tk ct c od rd ((fullC rg sl nd nr hd hr fl nx tg br tk ct c od rd 0).length : Int) ++ [exitI 2]
def patch1 (E : Int) (l : List II) (a : Int) : List II := match l[a.toNat]? with | some x => l.set a.toNat (x.1, x.2.1, x.2.2.1, x.2.2.2.1, E) | none => l
def patchL (E : Int) (f : List Int) (l : List II) : List II := f.foldl (patch1 E) l
theorem patch1_len (E : Int) (l : List II) (a : Int) : (patch1 E l a).length = l.length := by unfold patch1; split <;> simp
theorem patchL_len (E : Int) : ∀ (f : List Int) (l : List II), (patchL E f l).length = l.length
 | [], _ => rfl
 | a :: f, l => by show (patchL E f (patch1 E l a)).length = _; rw [patchL_len E f, patch1_len]
theorem patchL_take {E : Int} {f : List Int} {l : List II} {k : Nat} {a : Int} (h : f[k]? = some a) : patchL E (f.take (k + 1)) l = patch1 E (patchL E (f.take k) l) a := by
 unfold patchL; rw [List.take_add_one, h, Option.toList_some, List.foldl_append]; rfl
theorem full_of {rg sl : List Int} {c : List II} {od rd : List Int} {nd nr hd hr fl nx tg br tk ct : Int} {l1 l2 l3 l4 l5 l6 : List II} (h1 : l1 = [(mkI 1 15 0 0 0)] ++ roomC 14 2 nd (mostO nd hd (od.length : Int)) 0) (h2 : l2 = l1 ++ roomC 13 3 nr (mostO nr hr (rd.length : Int)) 0) (h3 : l3 = l2 ++ bodyC rg sl nd nr c c.length) (h4 : l4 = l3 ++ stackC rg sl 14 4 2 od) (h5 : l5 = l4 ++ stackC rg sl 13 20 3 rd)
    (h6 : l6 = l5 ++ (flC rg sl fl ++ ([liI 9 nx] ++ (brC br tk (((l5.length + (flC rg sl fl).length + 1 : Nat) : Int) + 3) ++ (tgC rg sl tg ++ (finC ct ++ [(mkI 19 0 0 0 1)])))))) : l6 = fullC rg sl nd nr hd hr fl nx tg br tk ct c od rd 0 := by
 have hlen : (l5.length + (flC rg sl fl).length + 1 : Nat) = (17 + (midC rg sl nd nr fl nx c od rd).length : Nat) := by
  rw [h5, h4, h3, h2, h1]; simp [midC, roomC]; omega
 rw [h6, hlen, h5, h4, h3, h2, h1];simp [fullC, headC, midC, tailC, List.append_assoc, mkI, liI]
theorem code_full {rg sl : List Int} {c : List II} {od rd : List Int} {nd nr hd hr fl nx tg br tk ct : Int} {l6 : List II} (h : l6 = fullC rg sl nd nr hd hr fl nx tg br tk ct c od rd 0) (g1 : ¬ mostO nd hd (od.length : Int) < nd) (g2 : ¬ mostO nr hr (rd.length : Int) < nr) : patchL (l6.length : Int) [4, 7, 12, 15] l6 ++ [(mkI 19 0 0 0 2)] = emitC rg sl nd nr hd hr fl nx tg br tk ct c od rd := by
 unfold emitC;rw [if_neg g1, if_neg g2, h]
 congr 1
theorem code_no1 {rg sl : List Int} {c : List II} {od rd : List Int} {nd nr hd hr fl nx tg br tk ct : Int} (g1 : mostO nd hd (od.length : Int) < nd) (E : Int) : patchL E [] [(mkI 1 15 0 0 0)] ++ [(mkI 19 0 0 0 2)] = emitC rg sl nd nr hd hr fl nx tg br tk ct c od rd := by
 unfold emitC;rw [if_pos g1]; rfl
theorem code_no2 {rg sl : List Int} {c : List II} {od rd : List Int} {nd nr hd hr fl nx tg br tk ct : Int} {l1 : List II} (h : l1 = [(mkI 1 15 0 0 0)] ++ roomC 14 2 nd (mostO nd hd (od.length : Int)) 0) (g1 : ¬ mostO nd hd (od.length : Int) < nd) (g2 : mostO nr hr (rd.length : Int) < nr) : patchL (l1.length : Int) [4, 7] l1 ++ [(mkI 19 0 0 0 2)] = emitC rg sl nd nr hd hr fl nx tg br tk ct c od rd := by
 unfold emitC;rw [if_neg g1, if_pos g2, h]; rfl
end Ls
end Go.Proofs.Ytihacfclecanjaa
