/- One operation, continued: fields, elements, numbers, comparisons, literals, slices, append, calls. -/
import Derived.Test.YtfeijnbommgigaaAbsE
namespace Go.Proofs.Ytfeijnbommgigaa.Abs
open Go Go.RowKit

def foff : List Ty → Nat → Nat
  | a :: r, i + 1 => a.size + foff r i
  | _, _ => 0

theorem FOk.at {ty : TypeId → Option Ty} : ∀ {fs : List Field} {as : List Ty} {off i : Nat} {b : Ty}, FOk ty fs as off → as[i]? = some b →
    ∃ f, fs[i]? = some f ∧ ty f.type = some b ∧ f.offset = off + foff as i ∧ 0 < b.size ∧ f.name ≠ "_"
  | [], [], _, _, _, _, h => by simp at h
  | f :: fs, x :: as, off, i, b, h, hi => by
    obtain ⟨h1, h2, h3, h4, h5⟩ := h
    cases i with
    | zero => simp at hi; subst hi; exact ⟨f, rfl, h1, by simpa [foff] using h2, h3, h4⟩
    | succ i =>
      simp at hi
      obtain ⟨g, g1, g2, g3, g4⟩ := FOk.at h5 hi
      exact ⟨g, by simpa using g1, g2, by rw [g3]; simp [foff]; omega, g4⟩

theorem proj_rep {w : World} {St : Nat → Nat → Prop} : ∀ {t : Ty} {x : t.den} {i : Nat} {t' : Ty} {y : t'.den} {ds : List Value}, proj t x i = some ⟨t', y⟩ → Rep w St (toD t x) ds →
    t.fields[i]? = some t' ∧ Rep w St (toD t' y) ((ds.drop (foff t.fields i)).take t'.size)
  | .cons a b, x, 0, t', y, ds, h, r => by
    simp only [proj] at h
    injection h with h
    injection h with h1 h2
    subst h1
    have h2 := eq_of_heq h2
    subst h2
    obtain ⟨c1, c2, rfl, r1, r2⟩ := r
    refine ⟨rfl, ?_⟩
    simp only [foff, Ty.fields, List.drop_zero]
    rw [← r1.size, List.take_left]
    exact r1
  | .cons a b, x, i + 1, t', y, ds, h, r => by
    simp only [proj] at h
    obtain ⟨c1, c2, rfl, r1, r2⟩ := r
    obtain ⟨h1, h2⟩ := proj_rep h r2
    refine ⟨by simpa [Ty.fields] using h1, ?_⟩
    simp only [foff, Ty.fields]
    rw [← r1.size, List.drop_length_add_append]
    exact h2
  | .tree, .mk k t ls ks, i, t', y, ds, h, r => by
    simp only [toD, treeD] at r
    obtain ⟨c1, c2, rfl, h1, c3, c4, rfl, h2, c5, c6, rfl, h3, c7, c8, rfl, h4, h5⟩ := r
    have h5 : c8 = [] := h5
    subst h5
    have h1' := h1
    obtain ⟨rfl, o1⟩ := h1
    have h2' := h2
    obtain ⟨rfl, o2⟩ := h2
    have h3' := h3
    obtain ⟨A, n, cp, rfl, _⟩ := h3
    have h4' := h4
    obtain ⟨A', n', cp', rfl, _⟩ := h4
    match i with
    | 0 => simp only [proj] at h; injection h with h; injection h with e1 e2; subst e1; have e2 := eq_of_heq e2; subst e2; exact ⟨rfl, h1'⟩
    | 1 => simp only [proj] at h; injection h with h; injection h with e1 e2; subst e1; have e2 := eq_of_heq e2; subst e2; exact ⟨rfl, h2'⟩
    | 2 => simp only [proj] at h; injection h with h; injection h with e1 e2; subst e1; have e2 := eq_of_heq e2; subst e2; exact ⟨rfl, h3'⟩
    | 3 => simp only [proj] at h; injection h with h; injection h with e1 e2; subst e1; have e2 := eq_of_heq e2; subst e2; rw [treesD_eq] at h4'; exact ⟨rfl, h4'⟩
    | i + 4 => simp [proj] at h
  | .int _, _, _, _, _, _, h, _ => by simp [proj] at h
  | .bool, _, _, _, _, _, h, _ => by simp [proj] at h
  | .str, _, _, _, _, _, h, _ => by simp [proj] at h
  | .slice _, _, _, _, _, _, h, _ => by simp [proj] at h
  | .unit, _, _, _, _, _, h, _ => by simp [proj] at h

theorem proj_struct {t : Ty} {x : t.den} {i : Nat} {y : (t' : Ty) × t'.den} (h : proj t x i = some y) : t.isStruct = true := by
  cases t <;> first | rfl | simp [proj] at h

section
variable {P : Program} {tab : Tab} {B : Nat} {w0 : World} {St0 : Nat → Nat → Prop} {c : Gh} {o : Oper} {a : Act}

theorem ok_fieldAddr_ref (hi : Inv B w0 St0 c) (tk : TabOk P tab) {s : TypeId} {x : Operand} {f : Nat} (ho : o.op = .fieldAddr s x f) {τ τ' : Ty} {z : τ.den} {y : τ'.den} (hx : RA c (.ref τ z) [a.eval x]) (ht : tab.ty s = some τ) (hp : proj τ z f = some ⟨τ', y⟩) :
    Ok P B w0 St0 o a c c.heap (.ref τ' y) := by
  obtain ⟨ad, ds, e, hs, hd, hc⟩ := hx
  obtain ⟨i, zz, _, _, _, _, _, _, hu⟩ := tk.ty s τ ht
  obtain ⟨fs, h1, _, _, hf⟩ := und_struct (proj_struct hp) hu
  obtain ⟨hfi, hrep⟩ := proj_rep hp hd
  obtain ⟨fl, h2, h3, h4, h5, _⟩ := hf.at hfi
  obtain ⟨j, _, hj, hjs, _⟩ := tk.ty fl.type τ' h3
  simp only [Nat.zero_add] at h4
  refine ok_pure hi (v := .pointer (some (ad.add fl.offset))) ?_ ⟨_, _, rfl, (add_facts ad hs _).2.2, hrep, fun k u hu => ?_⟩
  · unfold execOp
    simp at e
    have hz : ¬ τ'.size = 0 := by omega
    have h2 : fs[f]? = some fl := by simpa using h2
    simp [ho, e, Instr.fieldAt, run_underlying h1, h2, Instr.sureAddr, fieldPlace, sizeOf, typeInfo, hj, hjs, hz]
  · have hk : ds[foff τ.fields f + k]? = some u := by
      rw [List.getElem?_take] at hu
      split at hu
      · rwa [List.getElem?_drop] at hu
      · cases hu
    obtain ⟨g1, g2⟩ := hc _ _ hk
    obtain ⟨f1, f2, _⟩ := add_facts ad hs fl.offset
    rw [add_add, f1, f2, h4, Nat.add_assoc]
    exact ⟨g1, g2⟩

theorem run_part (tk : TabOk P tab) {t : TypeId} {τ : Ty} (ht : tab.ty t = some τ) (w : World) {St : Nat → Nat → Prop} {x : τ.den} (cs : Array Value) (off : Nat) (hr : Rep w St (toD τ x) ((cs.toList.drop off).take τ.size)) :
    ∃ v, (part t cs off).run P w = .ok v w ∧ RepV w St τ x v := by
  simp only [part, Sem.run_bind, run_isAgg tk ht, Result.andThen_ok]
  cases hs : τ.isStruct with
  | true =>
    simp only [if_true, Sem.run_bind, run_sizeOf tk ht, Result.andThen_ok]
    refine ⟨_, rfl, ?_⟩
    refine repV_of_cells hr ?_
    simp only [hs, if_true]
    congr 1
    apply Array.ext'
    simp
  | false =>
    have h1 := size_of_cell hs
    have hl := hr.size
    rw [h1] at hl hr
    have hlt : off < cs.size := by
      simp at hl; omega
    have e : (cs.toList.drop off).take 1 = [cs[off]] := by
      rw [List.drop_eq_getElem_cons (by simpa using hlt)]
      simp
    rw [e] at hr
    have hg : cs[off]? = some cs[off] := by simp [hlt]
    refine ⟨cs[off], ?_, (repv_cell hs).2 hr⟩
    simp [hg]

theorem ok_field (hi : Inv B w0 St0 c) (tk : TabOk P tab) {s : TypeId} {x : Operand} {f : Nat} (ho : o.op = .field s x f) {τ τ' : Ty} {z : τ.den} {y : τ'.den} (hx : RA c (.val τ z) [a.eval x]) (ht : tab.ty s = some τ) (hp : proj τ z f = some ⟨τ', y⟩) :
    Ok P B w0 St0 o a c c.heap (.val τ' y) := by
  have hv := hx.val_inv
  unfold RepV at hv
  rw [if_pos (proj_struct hp)] at hv
  obtain ⟨cs, e, hr⟩ := hv
  obtain ⟨i, zz, _, _, _, _, _, _, hu⟩ := tk.ty s τ ht
  obtain ⟨fs, h1, _, _, hf⟩ := und_struct (proj_struct hp) hu
  obtain ⟨hfi, hrep⟩ := proj_rep hp hr
  obtain ⟨fl, h2, h3, h4, h5, _⟩ := hf.at hfi
  simp only [Nat.zero_add] at h4
  obtain ⟨v, hrun, hv⟩ := run_part tk h3 c.w cs.toArray fl.offset (by rw [h4]; exact hrep)
  refine ok_pure hi (v := v) ?_ ⟨v, rfl, hv⟩
  unfold execOp
  have h2 : fs[f]? = some fl := by simpa using h2
  simp [ho, e, Instr.field, run_underlying h1, h2, asAgg, hrun]

theorem slOf_sound {tt : Option Ty} {s : AV} {v : Value} {τ : Ty} {l : List τ.den} (h : slOf tt s = some ⟨τ, l⟩) (r : RA c s [v]) : tt = some (.slice τ) ∧ RepV c.w c.St (.slice τ) l v := by
  unfold slOf at h
  split at h
  · rename_i t
    split at h
    · rename_i l' hl
      injection h with h
      injection h with h1 h2
      subst h1
      have h2 := eq_of_heq h2
      subst h2
      exact ⟨rfl, one?_sound hl r⟩
    · cases h
  · cases h

theorem strOf_sound {tt : Option Ty} {s : AV} {v : Value} {l : Str} (h : strOf tt s = some l) (r : RA c s [v]) : tt = some .str ∧ v = .string ⟨l.toArray⟩ := by
  unfold strOf at h
  split at h
  · exact ⟨rfl, rep_str (one?_sound h r)⟩
  · cases h

theorem ok_indexAddr (hi : Inv B w0 St0 c) (tk : TabOk P tab) {t : TypeId} {x y : Operand} (ho : o.op = .indexAddr t x y) {s : AV} {k : IntKind} {n : Int} (hx : RA c s [a.eval x]) (hy : RA c (.val (.int k) n) [a.eval y]) {τ : Ty} {l : List τ.den}
    (hl : slOf (tab.ty t) s = some ⟨τ, l⟩) (h0 : 0 ≤ n) (h1 : n < (l.length : Int)) : Ok P B w0 St0 o a c c.heap (.ref τ (l.getD n.toNat (zero τ))) := by
  obtain ⟨ht, hv⟩ := slOf_sound hl hx
  obtain ⟨i, z, _, _, _, _, _, _, hu⟩ := tk.ty t _ ht
  obtain ⟨e, he, hte, _, hpos⟩ := hu
  have hr := (repv_cell (t := .slice τ) rfl).1 hv
  obtain ⟨A, cp, ev, hcap, hds⟩ := rep_slice hr
  have hn : n.toNat < l.length := by omega
  obtain ⟨ad, ds, rfl, hsp, hrep, hcell⟩ := hds.resolve_left (by omega)
  have hei := chain_at hrep n.toNat hn
  have hget : l.getD n.toNat (zero τ) = l[n.toNat] := by simp [List.getD, List.getElem?_eq_getElem hn]
  refine ok_pure hi (v := .pointer (some (ad.add (n.toNat * τ.size)))) ?_ ⟨_, _, rfl, (add_facts ad hsp _).2.2, by rw [hget]; exact hei, fun j u hu => ?_⟩
  · unfold execOp
    have hyv := rep_int hy.val_inv
    simp at ev
    simp [ho, hyv, ev, Instr.indexAt, asIntOf, run_underlying he, h0, h1, run_sizeOf tk hte]
  · rw [List.getElem?_take] at hu
    split at hu
    · rw [List.getElem?_drop] at hu
      obtain ⟨g1, g2⟩ := hcell _ _ hu
      obtain ⟨f1, f2, _⟩ := add_facts ad hsp (n.toNat * τ.size)
      rw [add_add, f1, f2, Nat.add_assoc]
      exact ⟨g1, g2⟩
    · cases hu

theorem ok_index_str (hi : Inv B w0 St0 c) (tk : TabOk P tab) {t : TypeId} {x y : Operand} (ho : o.op = .index t x y) {s : AV} {k : IntKind} {n : Int} (hx : RA c s [a.eval x]) (hy : RA c (.val (.int k) n) [a.eval y]) {l : Str}
    (hl : strOf (tab.ty t) s = some l) (h0 : 0 ≤ n) (h1 : n < (l.length : Int)) : Ok P B w0 St0 o a c c.heap (.val (.int .u8) ((l.getD n.toNat 0).toNat : Int)) := by
  obtain ⟨ht, hv⟩ := strOf_sound hl hx
  obtain ⟨i, z, _, _, _, _, _, _, hu⟩ := tk.ty t _ ht
  have hu : P.underlying t = some .string := hu
  have hn : n.toNat < l.length := by omega
  have hget : l.getD n.toNat 0 = l[n.toNat] := by simp [List.getD, List.getElem?_eq_getElem hn]
  rw [hget]
  refine ok_pure hi (v := .int .u8 (l[n.toNat].toNat : Int)) ?_ (ra_int _ _)
  unfold execOp
  have hyv := rep_int hy.val_inv
  have hb : (⟨l.toArray⟩ : ByteArray)[n.toNat]? = some l[n.toNat] := by
    rw [getElem?_pos (⟨l.toArray⟩ : ByteArray) n.toNat (by simpa [ByteArray.size] using hn)]
    rfl
  simp [ho, hyv, hv, Instr.index, asIntOf, run_underlying hu, h0, hb]

theorem bytes_toList (l : Str) : (⟨l.toArray⟩ : ByteArray).toList = l := by
  rw [ByteArray.toList_eq]

theorem beq_dec (m n : Int) : (m == n) = decide (m = n) := by by_cases h : m = n <;> simp [h]

theorem ok_bin_int (hi : Inv B w0 St0 c) {op : BinOp} {tx ty : TypeId} {x y : Operand} (ho : o.op = .binOp op tx x y ty) {k : IntKind} {m n : Int} (hx : RA c (.val (.int k) m) [a.eval x]) (hy : RA c (.val (.int k) n) [a.eval y]) {v : AV}
    (h : intBin op k m n = some (true, v)) : Ok P B w0 St0 o a c c.heap v := by
  have hxv := rep_int hx.val_inv
  have hyv := rep_int hy.val_inv
  cases op <;> simp only [intBin] at h <;> first | (cases h; done) | skip
  all_goals (injection h with h; injection h with hc h; subst h)
  case quo =>
    have hc : ¬ n = 0 := by simpa using hc
    refine ok_pure hi ?_ (ra_int _ _)
    unfold execOp; simp [ho, hxv, hyv, eqGuard, binOp, Op.intDiv, hc]
  case rem =>
    have hc : ¬ n = 0 := by simpa using hc
    refine ok_pure hi ?_ (ra_int _ _)
    unfold execOp; simp [ho, hxv, hyv, eqGuard, binOp, Op.intDiv, hc]
  case add => refine ok_pure hi ?_ (ra_int _ _); unfold execOp; simp [ho, hxv, hyv, eqGuard, binOp, Op.intArith]
  case sub => refine ok_pure hi ?_ (ra_int _ _); unfold execOp; simp [ho, hxv, hyv, eqGuard, binOp, Op.intArith]
  case mul => refine ok_pure hi ?_ (ra_int _ _); unfold execOp; simp [ho, hxv, hyv, eqGuard, binOp, Op.intArith]
  case and => refine ok_pure hi ?_ (ra_int _ _); unfold execOp; simp [ho, hxv, hyv, eqGuard, binOp, Op.intBits, andI]
  case or => refine ok_pure hi ?_ (ra_int _ _); unfold execOp; simp [ho, hxv, hyv, eqGuard, binOp, Op.intBits, orI]
  case xor => refine ok_pure hi ?_ (ra_int _ _); unfold execOp; simp [ho, hxv, hyv, eqGuard, binOp, Op.intBits, xorI]
  case eql => refine ok_pure hi ?_ (ra_bool _); unfold execOp; simp [ho, hxv, hyv, eqGuard, binOp, Op.intCmp, beq_dec]
  case neq => refine ok_pure hi ?_ (ra_bool _); unfold execOp; simp [ho, hxv, hyv, eqGuard, binOp, Op.intCmp, bne, beq_dec]
  case lss => refine ok_pure hi ?_ (ra_bool _); unfold execOp; simp [ho, hxv, hyv, eqGuard, binOp, Op.intCmp]
  case leq => refine ok_pure hi ?_ (ra_bool _); unfold execOp; simp [ho, hxv, hyv, eqGuard, binOp, Op.intCmp]
  case gtr => refine ok_pure hi ?_ (ra_bool _); unfold execOp; simp [ho, hxv, hyv, eqGuard, binOp, Op.intCmp]
  case geq => refine ok_pure hi ?_ (ra_bool _); unfold execOp; simp [ho, hxv, hyv, eqGuard, binOp, Op.intCmp]

theorem ok_shift (hi : Inv B w0 St0 c) {op : BinOp} {tx ty : TypeId} {x y : Operand} (ho : o.op = .binOp op tx x y ty) {k k' : IntKind} {m n : Int} (hx : RA c (.val (.int k) m) [a.eval x]) (hy : RA c (.val (.int k') n) [a.eval y]) (hn : 0 ≤ n) :
    (op = .shl → Ok P B w0 St0 o a c c.heap (.val (.int k) (shlI k m n))) ∧ (op = .shr → Ok P B w0 St0 o a c c.heap (.val (.int k) (shrI k m n))) := by
  have hxv := rep_int hx.val_inv
  have hyv := rep_int hy.val_inv
  have hn : ¬ n < 0 := by omega
  refine ⟨fun e => ?_, fun e => ?_⟩
  · subst e
    refine ok_pure hi ?_ (ra_int _ _)
    unfold execOp
    simp [ho, hxv, hyv, eqGuard, binOp, Op.shift, hn, shlI]
  · subst e
    refine ok_pure hi ?_ (ra_int _ _)
    unfold execOp
    simp [ho, hxv, hyv, eqGuard, binOp, Op.shift, hn, shrI]

theorem ok_neg (hi : Inv B w0 St0 c) {t : TypeId} {x : Operand} (ho : o.op = .unOp .neg t x) {k : IntKind} {n : Int} (hx : RA c (.val (.int k) n) [a.eval x]) : Ok P B w0 St0 o a c c.heap (.val (.int k) (k.wrap (0 - n))) := by
  have hxv := rep_int hx.val_inv
  refine ok_pure hi ?_ (ra_int _ _)
  unfold execOp
  simp [ho, hxv, Op.unary, Op.intArith]

theorem ok_conv_int (hi : Inv B w0 St0 c) (tk : TabOk P tab) {s t : TypeId} {x : Operand} (ho : o.op = .convert s t x) {k k' : IntKind} {n : Int} (hx : RA c (.val (.int k') n) [a.eval x]) (ht : tab.ty t = some (.int k)) (hs : ∃ d, P.underlying s = some d) :
    Ok P B w0 St0 o a c c.heap (.val (.int k) (k.wrap n)) := by
  have hxv := rep_int hx.val_inv
  obtain ⟨i, z, _, _, _, _, _, _, hu⟩ := tk.ty t _ ht
  have hu : P.underlying t = some (.int k) := hu
  obtain ⟨d, hd⟩ := hs
  refine ok_pure hi ?_ (ra_int _ _)
  unfold execOp
  simp [ho, hxv, convert, run_underlying hu, run_underlying hd, Conv.intToInt]

theorem ok_not (hi : Inv B w0 St0 c) {t : TypeId} {x : Operand} (ho : o.op = .unOp .not t x) {b : Bool} (hx : RA c (.val .bool b) [a.eval x]) : Ok P B w0 St0 o a c c.heap (.val .bool (!b)) := by
  have hxv := rep_bool hx.val_inv
  refine ok_pure hi ?_ (ra_bool _)
  unfold execOp
  simp [ho, hxv, Op.unary]

theorem ok_len (hi : Inv B w0 St0 c) (tk : TabOk P tab) {cl : Call} {x : Operand} {t : TypeId} (ho : o.op = .call cl) (hcl : cl.callee = .builtin .len) (hargs : cl.args = #[x]) (hty : cl.argTypes[0]? = some t) {s : AV} (hx : RA c s [a.eval x]) {τ : Ty} {l : List τ.den}
    (hl : slOf (tab.ty t) s = some ⟨τ, l⟩) : Ok P B w0 St0 o a c c.heap (.val (.int .i64) (l.length : Int)) := by
  obtain ⟨ht, hv⟩ := slOf_sound hl hx
  obtain ⟨i, z, _, _, _, _, _, _, hu⟩ := tk.ty t _ ht
  obtain ⟨e, he, _⟩ := hu
  obtain ⟨A, cp, ev, _⟩ := rep_slice ((repv_cell (t := .slice τ) rfl).1 hv)
  refine ok_pure hi ?_ (ra_int _ _)
  unfold execOp
  simp at ev
  simp [ho, resolve, hcl, hargs, invoke, builtin, Builtin.len_, hty, ev, run_underlying he, goInt]

theorem ok_len_str (hi : Inv B w0 St0 c) (tk : TabOk P tab) {cl : Call} {x : Operand} {t : TypeId} (ho : o.op = .call cl) (hcl : cl.callee = .builtin .len) (hargs : cl.args = #[x]) (hty : cl.argTypes[0]? = some t) {s : AV} (hx : RA c s [a.eval x]) {l : Str}
    (hl : strOf (tab.ty t) s = some l) : Ok P B w0 St0 o a c c.heap (.val (.int .i64) (l.length : Int)) := by
  obtain ⟨ht, hv⟩ := strOf_sound hl hx
  obtain ⟨i, z, _, _, _, _, _, _, hu⟩ := tk.ty t _ ht
  have hu : P.underlying t = some .string := hu
  refine ok_pure hi ?_ (ra_int _ _)
  unfold execOp
  have hsz : (⟨l.toArray⟩ : ByteArray).size = l.length := by simp [ByteArray.size]
  simp [ho, resolve, hcl, hargs, invoke, builtin, Builtin.len_, hty, hv, run_underlying hu, goInt, hsz]

end
end Go.Proofs.Ytfeijnbommgigaa.Abs
