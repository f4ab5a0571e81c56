/- The typed data of the abstract machine, and how they lie in the model's memory. -/
import Derived.Calls
import Derived.Orders
import Derived.Below
import Derived.Maps.AppendAt
import Derived.Laws.StructEq
import Derived.KernelRfl
namespace Go.Proofs.YtboikinjlmjgjaaGreat.Abs
open Go Go.RowKit
abbrev Str := List UInt8
inductive Tree where
 | mk (kind : Int) (text : Str) (leads : List Str) (kids : List Tree)
inductive Ty where
 | int (k : IntKind) | bool | str | slice (t : Ty) | unit | cons (a b : Ty) | tree
 deriving DecidableEq
abbrev Ty.den : Ty → Type
 | .int _ => Int
 | .bool => Bool
 | .str => Str
 | .slice t => List t.den
 | .unit => Unit
 | .cons a b => a.den × b.den
 | .tree => Tree
inductive D where
 | sc (v : Value) | nil | cons (a b : D) | sl (d : D)
def D.len : D → Nat
 | .cons _ b => b.len + 1
 | _ => 0
def bi {α : Type} (f : α → D) : List α → D
 | [] => .nil
 | x :: l => .cons (f x) (bi f l)
def ZY (s : Str) : D := .sc (.string ⟨s.toArray⟩)
mutual
def rP : Tree → D
 | .mk k t ls ks => .cons (.sc (.int .i64 k)) (.cons (ZY t) (.cons (.sl (bi ZY ls)) (.cons (.sl (wj ks)) .nil)))
def wj : List Tree → D
 | [] => .nil
 | t :: ts => .cons (rP t) (wj ts)
end
def toD : (t : Ty) → t.den → D
 | .int k, n => .sc (.int k n)
 | .bool, b => .sc (.bool b)
 | .str, s => ZY s
 | .slice t, l => .sl (bi (toD t) l)
 | .unit, _ => .nil
 | .cons a b, x => .cons (toD a x.1) (toD b x.2)
 | .tree, t => rP t
theorem f8 (l : List Tree) : wj l = bi rP l := by
 induction l with
 | nil => simp [wj, bi]
 | cons t ts ih => simp [wj, bi, ih]
theorem d6 {α : Type} (f : α → D) (l : List α) : (bi f l).len = l.length := by
 induction l with
 | nil => rfl
 | cons x l ih => simp [bi, D.len, ih]
def Ty.size : Ty → Nat
 | .unit => 0
 | .cons a b => a.size + b.size
 | .tree => 4
 | _ => 1
def Ty.isStruct : Ty → Bool
 | .unit | .cons _ _ | .tree => true
 | _ => false
def Rep (w : World) (St : Nat → Nat → Prop) : D → List Value → Prop
 | .sc v, cs => cs = [v] ∧ v.oneCell' = true
 | .nil, cs => cs = []
 | .cons a b, cs => ∃ c1 c2, cs = c1 ++ c2 ∧ Rep w St a c1 ∧ Rep w St b c2
 | .sl d, cs => ∃ A n c, cs = [.slice A n c] ∧ n = d.len ∧ n ≤ c ∧
   (n = 0 ∨ ∃ ad ds, A = some ad ∧ ad.spot = none ∧ Rep w St d ds ∧ ∀ j u, ds[j]? = some u → w.cell? (ad.add j) = some u ∧ St ad.block (ad.off + j))
theorem Rep.one {w : World} {St : Nat → Nat → Prop} : ∀ {d : D} {cs : List Value}, Rep w St d cs → ∀ u ∈ cs, u.oneCell' = true
 | .sc v, cs, h, u, hu => by obtain ⟨rfl, h1⟩ := h; simp at hu; rw [hu]; exact h1
 | .nil, cs, h, u, hu => by have h : cs = [] := h; subst h; simp at hu
 | .cons a b, cs, h, u, hu => by
  obtain ⟨c1, c2, rfl, ha, hb⟩ := h
  rcases List.mem_append.1 hu with h1 | h1
  ·exact ha.one u h1
  ·exact hb.one u h1
 | .sl d, cs, h, u, hu => by
  obtain ⟨A, n, c, rfl, _⟩ := h
  simp at hu; rw [hu]; rfl
theorem Rep.mono {w w' : World} {St St' : Nat → Nat → Prop} (hs : ∀ b o, St b o → St' b o)
  (hc : ∀ (a : Addr) v, St a.block a.off → a.spot = none → w.cell? a = some v → w'.cell? a = some v) :
  ∀ {d : D} {cs : List Value}, Rep w St d cs → Rep w' St' d cs
 | .sc _, _, h => h
 | .nil, _, h => h
 | .cons a b, cs, h => by
  obtain ⟨c1, c2, rfl, ha, hb⟩ := h
  exact ⟨c1, c2, rfl, ha.mono hs hc, hb.mono hs hc⟩
 | .sl d, cs, h => by
  obtain ⟨A, n, c, rfl, hn, hnc, h⟩ := h
  refine ⟨A, n, c, rfl, hn, hnc, ?_⟩
  rcases h with h | ⟨ad, ds, rfl, hsp, hd, hcell⟩
  ·exact .inl h
  ·refine .inr ⟨ad, ds, rfl, hsp, hd.mono hs hc, fun j u hu => ?_⟩
   obtain ⟨h1, h2⟩ := hcell j u hu
   have hb : (ad.add j).block = ad.block ∧ (ad.add j).off = ad.off + j ∧ (ad.add j).spot = none := by
    unfold Addr.add; split <;> simp_all
   exact ⟨hc _ _ (by rw [hb.1, hb.2.1]; exact h2) hb.2.2 h1, hs _ _ h2⟩
mutual
theorem Ns {w : World} {St : Nat → Nat → Prop} : ∀ {t : Tree} {cs : List Value}, Rep w St (rP t) cs → cs.length = 4
 | .mk k t ls ks, cs, h => by
  simp only [rP, ZY, Rep] at h
  obtain ⟨c1, c2, rfl, ⟨rfl, _⟩, c3, c4, rfl, ⟨rfl, _⟩, c5, c6, rfl, ⟨A, n, c, rfl, _⟩, c7, c8, rfl, ⟨A', n', c', rfl, _⟩, rfl⟩ := h
  rfl
end
theorem Rep.size {w : World} {St : Nat → Nat → Prop} : ∀ {t : Ty} {x : t.den} {cs : List Value}, Rep w St (toD t x) cs → cs.length = t.size
 | .int _, _, _, h => by obtain ⟨rfl, _⟩ := h; rfl
 | .bool, _, _, h => by obtain ⟨rfl, _⟩ := h; rfl
 | .str, _, _, h => by obtain ⟨rfl, _⟩ := h; rfl
 | .slice _, _, _, h => by obtain ⟨A, n, c, rfl, _⟩ := h; rfl
 | .unit, _, _, h => by have h : _ = [] := h; subst h; rfl
 | .cons a b, x, _, h => by
  obtain ⟨c1, c2, rfl, ha, hb⟩ := h
  simp [Ty.size, ha.size, hb.size]
 | .tree, _, _, h => Ns h
def cr (w : World) (St : Nat → Nat → Prop) (t : Ty) (x : t.den) (v : Value) : Prop :=
 if t.isStruct then ∃ cs, v = .agg cs.toArray ∧ Rep w St (toD t x) cs else Rep w St (toD t x) [v]
theorem cr.cells {w : World} {St : Nat → Nat → Prop} {t : Ty} {x : t.den} {v : Value} (h : cr w St t x v) : Rep w St (toD t x) v.cells.toList := by
 unfold cr at h
 split at h
 ·obtain ⟨cs, rfl, h⟩ := h
  simpa [Value.cells] using h
 ·have h1 := h.one v (by simp)
  have : v.cells = #[v] := by cases v <;> simp_all [Value.oneCell', Value.cells]
  rw [this]; exact h
theorem cr.mono {w w' : World} {St St' : Nat → Nat → Prop} (hs : ∀ b o, St b o → St' b o)
  (hc : ∀ (a : Addr) v, St a.block a.off → a.spot = none → w.cell? a = some v → w'.cell? a = some v) {t : Ty} {x : t.den} {v : Value} (h : cr w St t x v) : cr w' St' t x v := by
 unfold cr at *
 split
 ·rename_i ht
  simp only [ht, if_true] at h
  obtain ⟨cs, rfl, h⟩ := h
  exact ⟨cs, rfl, h.mono hs hc⟩
 ·rename_i ht
  simp only [ht] at h
  exact Rep.mono hs hc h
theorem eX {w : World} {St : Nat → Nat → Prop} {t : Ty} {l : List t.den} {cs : List Value} (h : Rep w St (toD (.slice t) l) cs) :
  ∃ A c, cs = [.slice A l.length c] ∧ l.length ≤ c ∧ (l.length = 0 ∨ ∃ ad ds, A = some ad ∧ ad.spot = none ∧ Rep w St (bi (toD t) l) ds ∧ ∀ j u, ds[j]? = some u → w.cell? (ad.add j) = some u ∧ St ad.block (ad.off + j)) := by
 simp only [toD, Rep, d6] at h
 obtain ⟨A, n, c, rfl, rfl, hc, h⟩ := h
 exact ⟨A, c, rfl, hc, h⟩
theorem vP {w : World} {St : Nat → Nat → Prop} {t : Ty} : ∀ {l : List t.den} {ds : List Value}, Rep w St (bi (toD t) l) ds → ∀ i (h : i < l.length),
  Rep w St (toD t l[i]) ((ds.drop (i * t.size)).take t.size)
 | [], _, _, i, h => absurd h (by simp)
 | x :: l, ds, hr, i, h => by
  obtain ⟨c1, c2, rfl, h1, h2⟩ := hr
  have hs := h1.size
  cases i with
  | zero => simp only [List.getElem_cons_zero, Nat.zero_mul, List.drop_zero]; rw [← hs, List.take_left]; exact h1
  | succ i =>
   have := vP h2 i (by simpa using h)
   rw [show (i + 1) * t.size = c1.length + i * t.size by rw [Nat.add_mul, hs]; omega, List.drop_length_add_append]
   simpa using this
theorem bk {w : World} {St : Nat → Nat → Prop} {t : Ty} : ∀ {l : List t.den} {ds : List Value}, Rep w St (bi (toD t) l) ds → ds.length = l.length * t.size
 | [], ds, h => by have h : ds = [] := h; subst h; simp
 | x :: l, ds, h => by
  obtain ⟨c1, c2, rfl, h1, h2⟩ := h
  simp [h1.size, bk h2, Nat.add_mul, Nat.add_comm]
theorem cD {w : World} {St : Nat → Nat → Prop} {t : Ty} : ∀ {l l' : List t.den} {ds ds' : List Value}, Rep w St (bi (toD t) l) ds → Rep w St (bi (toD t) l') ds' → Rep w St (bi (toD t) (l ++ l')) (ds ++ ds')
 | [], _, ds, _, h, h' => by have h : ds = [] := h; subst h; simpa using h'
 | x :: l, l', ds, ds', h, h' => by
  obtain ⟨c1, c2, rfl, h1, h2⟩ := h
  exact ⟨c1, c2 ++ ds', by simp, h1, cD h2 h'⟩
theorem gt {w : World} {St : Nat → Nat → Prop} {t : Ty} : ∀ {l : List t.den} {ds : List Value} (k : Nat), k ≤ l.length → Rep w St (bi (toD t) l) ds → Rep w St (bi (toD t) (l.drop k)) (ds.drop (k * t.size))
 | l, ds, 0, _, h => by simpa using h
 | [], ds, k + 1, hk, h => by simp at hk
 | x :: l, ds, k + 1, hk, h => by
  obtain ⟨c1, c2, rfl, h1, h2⟩ := h
  have := gt k (by simpa using hk) h2
  rw [show (k + 1) * t.size = c1.length + k * t.size by rw [Nat.add_mul, h1.size]; omega, List.drop_length_add_append]
  simpa using this
theorem dQ {w : World} {St : Nat → Nat → Prop} {t : Ty} : ∀ {l : List t.den} {ds : List Value} (k : Nat), k ≤ l.length → Rep w St (bi (toD t) l) ds → Rep w St (bi (toD t) (l.take k)) (ds.take (k * t.size))
 | l, ds, 0, _, h => by simp [bi, Rep]
 | [], ds, k + 1, hk, h => by simp at hk
 | x :: l, ds, k + 1, hk, h => by
  obtain ⟨c1, c2, rfl, h1, h2⟩ := h
  have := dQ k (by simpa using hk) h2
  rw [show (k + 1) * t.size = c1.length + k * t.size by rw [Nat.add_mul, h1.size]; omega]
  refine ⟨c1, c2.take (k * t.size), ?_, h1, this⟩
  rw [List.take_length_add_append]
end Go.Proofs.YtboikinjlmjgjaaGreat.Abs
