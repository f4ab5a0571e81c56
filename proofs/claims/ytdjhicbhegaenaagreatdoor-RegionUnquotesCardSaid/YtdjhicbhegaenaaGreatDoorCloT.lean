/- Closed runs: literals, rows made, copies, views of bytes, functions of the library that the model answers itself. Closed runs: copies, views of bytes, functions of the library that the model answers itself. Closed runs: every operation is sound. -/
import Derived.Test.YtdjhicbhegaenaaGreatDoorCloQ
import Derived.Lib.MakeNoZero
import Derived.Lib.UnsafeStr
import Derived.Laws.Externs
import Derived.Lib.Bytealg
import Derived.KernelRfl
namespace Go.Proofs.YtdjhicbhegaenaaGreatDoor.Clo
open Go Go.RowKit

section
variable {P : Program} {B : Nat} {w0 : W0} {φ : Gx} {h : Pos → EO} {w : World} {o : Oper} {a : Act}

theorem litB_sound {s : Nat} : ∀ {idx : List Nat} {vals : List TV} {i : Nat} {l : List (List CV)} {vs : List Value}, litB s i idx vals = some l → RTs φ vals vs → idx = List.range' i vs.length ∧ l.length = vs.length ∧ (∀ v ∈ vs, v.cells.size = s) ∧ dens φ l.flatten = some (vs.map fun v => v.cells.toList).flatten ∧ ∀ a ∈ l, a.length = s
  | [], [], i, l, vs, h, hr => by
    simp only [litB, Option.some.injEq] at h
    subst h
    rw [hr.nil]
    exact ⟨rfl, rfl, (fun v hv => by cases hv), rfl, fun a ha => by cases ha⟩
  | j :: js, .pv p :: vals, i, l, vs, h, hr => by
    obtain ⟨v, ws, rfl, h1, h2⟩ := hr.cons
    simp only [litB] at h
    cases hc : (Nat.beq i j && Nat.beq p.cells.length s) with
    | false => rw [hc] at h; cases h
    | true =>
      rw [hc, cond_true] at h
      simp only [Bool.and_eq_true, beq_t] at hc
      obtain ⟨rfl, c2⟩ := hc
      split at h
      · rename_i l' hl
        simp only [Option.some.injEq] at h
        subst h
        obtain ⟨q1, q2, q3, q4, q5⟩ := litB_sound hl h2
        have hd := denP_cells (φ := φ) (p := p) (v := v) h1
        refine ⟨by rw [q1, List.length_cons, List.range'_succ], by simp [q2], fun u hu => ?_, ?_, fun b hb => ?_⟩
        · rcases List.mem_cons.1 hu with rfl | hu
          · rw [← Array.length_toList, dens_len hd, c2]
          · exact q3 u hu
        · rw [List.flatten_cons, List.map_cons, List.flatten_cons]
          exact dens_append hd q4
        · rcases List.mem_cons.1 hb with rfl | hb
          · exact c2
          · exact q5 b hb
      · cases h
  | [], _ :: _, _, _, _, h, _ => by simp [litB] at h
  | _ :: _, [], _, _, _, h, _ => by simp [litB] at h
  | _ :: _, .unk :: _, _, _, _, h, _ => by simp [litB] at h
  | _ :: _, .tup _ :: _, _, _, _, h, _ => by simp [litB] at h

theorem zip_parts (f : Operand → Value) : ∀ (l : List (Nat × Operand)) (i : Nat), l.map (·.1) = List.range' i (l.map fun p => f p.2).length → l.map (fun p => (p.1, f p.2)) = (List.range' i (l.map fun p => f p.2).length).zip (l.map fun p => f p.2)
  | [], i, _ => rfl
  | p :: l, i, h => by
    simp only [List.map_cons, List.length_cons, List.range'_succ, List.cons.injEq] at h
    simp only [List.map_cons, List.length_cons, List.range'_succ, List.zip_cons_cons, List.cons.injEq, Prod.mk.injEq, and_true]
    exact ⟨h.1, zip_parts f l (i + 1) h.2⟩

/-- The value of a new slice. -/
theorem sl_new {f : Pos} {b N s n : Nat} {cap : Option Nat} (hN : capF cap n N 0 = true) : RT (φ.add f ⟨b, N, s⟩) (.pv (.one (.sl f 0 0 n cap))) (.slice (some ⟨b, 0, none⟩) n (capD cap N 0)) := by
  show den _ (.sl f 0 0 n cap) = _
  simp only [den, Gx.add_self, Nat.zero_div, hN, if_true]

theorem ok_lit (hI : Inv B w0 φ h w) {t e : TypeId} {len : Nat} {parts : Array (Nat × Operand)} (ho : o.op = .buildSlice t len parts) (hu : P.underlying t = some (.slice e)) {z : PV} (hz : zeroOf P e = some z) (hzs : z.cells.length = szOf P e) (hs0 : szOf P e ≠ 0) {f : Pos} (hf : h f = .none) {vals : List TV} (hv : RTs φ vals ((parts.toList.map (·.2)).map a.eval)) {out : TV} {wr : Option (Pos × EO)}
    (hq : (eLit e (szOf P e) len z.cells (parts.toList.map (·.1)) vals f).run h = some (out, wr)) : OkX P B w0 φ h w o a out wr := by
  unfold eLit at hq
  split at hq
  · rename_i l hl
    cases hc : (Nat.ble l.length len && Nat.ble (len * szOf P e) 16777216) with
    | false => rw [hc] at hq; cases hq
    | true =>
      rw [hc, cond_true] at hq
      simp only [Bool.and_eq_true, ble_t] at hc
      obtain ⟨c1, c2⟩ := hc
      simp only [Q.run, Option.some.injEq, Prod.mk.injEq] at hq
      obtain ⟨rfl, rfl⟩ := hq
      have hv' : RTs φ vals (parts.toList.map fun p => a.eval p.2) := by simpa [List.map_map, Function.comp_def] using hv
      obtain ⟨q1, q2, q3, q4, q5⟩ := litB_sound hl hv'
      obtain ⟨i, zv, h1, h2, h3⟩ := zero_info hz
      have hzd := denP_cells (h3 φ)
      have hzv : zv.cells.size = szOf P e := by rw [← Array.length_toList, dens_len hzd, hzs]
      have hzl : zv.cells.toList.length = szOf P e := by rw [Array.length_toList]; exact hzv
      have his : i.size = szOf P e := by simp [szOf, h1]
      have hzf := zeros_flat zv.cells len (by omega)
      have hzz : ((Array.range (len * zv.cells.size)).map (zv.cells[· % zv.cells.size]!)).size = len * szOf P e := by simp [hzv]
      obtain ⟨arr', e1, e2⟩ := fill_row (szOf P e) (parts.toList.map fun p => a.eval p.2) 0 ((Array.range (len * zv.cells.size)).map (zv.cells[· % zv.cells.size]!)) q3 (by rw [hzz, Nat.zero_add, ← q2]; exact Nat.mul_le_mul_right _ c1)
      rw [← zip_parts a.eval parts.toList 0 q1] at e1
      rw [hzf, Nat.zero_mul, List.take_zero, List.nil_append, Nat.zero_add, ← q2, drop_rep hzl _ _ c1] at e2
      have hall : ∀ b ∈ l ++ List.replicate (len - l.length) z.cells, b.length = szOf P e := fun b hb => by
        rcases List.mem_append.1 hb with hb | hb
        · exact q5 b hb
        · rw [List.eq_of_mem_replicate hb, hzs]
      have hd : dens φ (l ++ List.replicate (len - l.length) z.cells).flatten = some arr'.toList := by
        rw [List.flatten_append, e2]
        exact dens_append q4 (dens_rep hzd _)
      have hll : (l ++ List.replicate (len - l.length) z.cells).length = len := by simp; omega
      have hsz : arr'.size = len * szOf P e := by rw [← Array.length_toList, dens_len hd, flat_len hall, hll]
      have hlen : len ≤ 16777216 := Nat.le_trans (Nat.le_mul_of_pos_right len (by omega)) c2
      obtain ⟨p1, p2⟩ := hI.newR hf (e := e) (s := szOf P e) (N := len) (l := l ++ List.replicate (len - l.length) z.cells) (vs := arr'.toList) (arr := arr') (fr := (0, 0)) (fz := .no) (by omega) hall hd (fun j u hu => by simpa using hu) hsz (by omega) (by omega) rfl
      rw [hll] at p2
      refine ok_to (v := .slice (some ⟨w.heap.size, 0, none⟩) len len) ?_ p1 p2 (sl_new (cap := some len) rfl)
      have hne : len * szOf P e = 0 ∨ len * szOf P e ≠ 0 := by omega
      have hbig : ¬ len * i.size > 2 ^ 24 := by rw [his]; omega
      have hparts : (parts.map fun p => (p.1, a.eval p.2)).toList = parts.toList.map fun p => (p.1, a.eval p.2) := by simp
      unfold execOp
      by_cases h0 : len * szOf P e = 0
      · have hrow : ((Array.range (len * szOf P e)).map ((#[] : Array Value)[· % (#[] : Array Value).size]!)) = ((Array.range (len * zv.cells.size)).map (zv.cells[· % zv.cells.size]!)) := by
          rw [hzv, h0]
          exact Array.ext (by simp) fun j hj _ => by simp at hj
        simp only [ho, Instr.buildSlice, Sem.run_bind, run_underlying hu, Result.andThen_ok, run_sizeOf hs0]
        rw [if_neg (by omega)]
        simp only [h0, if_true, Sem.run_bind, Sem.run_pure, Result.andThen_ok]
        rw [h0] at hrow
        rw [hrow, hparts, e1]
        simp [Go.newRow]
      · simp only [ho, Instr.buildSlice, Sem.run_bind, run_underlying hu, Result.andThen_ok, run_sizeOf hs0]
        rw [if_neg (by omega)]
        have hzr : (zeroValue e).run P w = .ok zv w := by simp [zeroValue, typeInfo, h1, h2]
        simp only [h0, if_false, Sem.run_bind, Sem.run_pure, Result.andThen_ok, hzr]
        rw [hzv] at e1
        rw [hzv, hparts, e1]
        simp [Go.newRow]
  · cases hq

theorem ok_mks (hI : Inv B w0 φ h w) {t e : TypeId} {x y : Operand} (ho : o.op = .makeSlice t x y) (hu : P.underlying t = some (.slice e)) {z : PV} (hz : zeroOf P e = some z) (hzs : z.cells.length = szOf P e) (hs0 : szOf P e ≠ 0) {f : Pos} (hf : h f = .none) {vals : List TV} (hv : RTs φ vals [a.eval x, a.eval y]) {out : TV} {wr : Option (Pos × EO)}
    (hq : (eMks e (szOf P e) (byOf P e) z.cells vals f).run h = some (out, wr)) : OkX P B w0 φ h w o a out wr := by
  unfold eMks at hq
  split at hq
  · obtain ⟨v1, ws, e1, hr1, hr2⟩ := hv.cons
    obtain ⟨v2, e2, hr3⟩ := hr2.one
    subst e2
    simp only [List.cons.injEq, and_true] at e1
    obtain ⟨e1, e2⟩ := e1
    subst e1; subst e2
    split at hq
    · rename_i k1 n k2 c
      cases hc : (Nat.ble n c && Nat.ble c 16777216 && Nat.ble (c * byOf P e) 16777216) with
      | false => rw [hc] at hq; cases hq
      | true =>
        rw [hc, cond_true] at hq
        simp only [Bool.and_eq_true, ble_t] at hc
        obtain ⟨⟨c1, c2⟩, c3⟩ := hc
        simp only [Q.run, Option.some.injEq, Prod.mk.injEq] at hq
        obtain ⟨rfl, rfl⟩ := hq
        obtain ⟨i, zv, h1, h2, h3⟩ := zero_info hz
        have hzd := denP_cells (h3 φ)
        have hzv : zv.cells.size = szOf P e := by rw [← Array.length_toList, dens_len hzd, hzs]
        have his : i.size = szOf P e := by simp [szOf, h1]
        have hib : i.bytes = byOf P e := by simp [byOf, h1]
        have hzf := zeros_flat zv.cells c (by omega)
        have hd := dens_rep hzd c
        have hall : ∀ b ∈ List.replicate c z.cells, b.length = szOf P e := fun b hb => by rw [List.eq_of_mem_replicate hb, hzs]
        obtain ⟨p1, p2⟩ := hI.newR hf (e := e) (s := szOf P e) (N := c) (l := List.replicate c z.cells) (vs := (List.replicate c zv.cells.toList).flatten) (arr := madeCells zv.cells (c * i.size)) (fr := (0, 0)) (fz := .no) (by omega) hall hd (fun j u hu => by
          rw [his, ← hzv, ← Array.getElem?_toList, madeCells, hzf]
          exact hu) (by rw [size_madeCells, his]) (by simp) (by simp; omega) rfl
        rw [List.length_replicate] at p2
        refine ok_to (v := .slice (some ⟨w.heap.size, 0, none⟩) n c) ?_ p1 p2 (sl_new (cap := some c) rfl)
        have hx : a.eval x = .int k1 (n : Int) := rt_int hr1
        have hy : a.eval y = .int k2 (c : Int) := rt_int hr3
        have hb' : (i.bytes : Int) * (c : Int) ≤ 281474976710656 := by
          have h : ((c * byOf P e : Nat) : Int) ≤ 16777216 := by omega
          rw [Int.natCast_mul, Int.mul_comm] at h
          rw [hib]
          omega
        have := run_make (P := P) w t e i zv hu h1 h2 k1 k2 n c (by omega) (by omega) hb' (by omega)
        unfold execOp
        simp only [ho, hx, hy, Sem.run_bind, this, Result.andThen_ok, Int.toNat_natCast, Sem.run_pure]
    · cases hq
  · cases hq

end
end Go.Proofs.YtdjhicbhegaenaaGreatDoor.Clo
namespace Go.Proofs.YtdjhicbhegaenaaGreatDoor.Clo
open Go Go.RowKit

section
variable {P : Program} {B : Nat} {w0 : W0} {φ : Gx} {h : Pos → EO} {w : World} {o : Oper} {a : Act}

theorem run_copyL {t tx ty e : TypeId} (hu : P.underlying t = some (.slice e)) (hs0 : szOf P e ≠ 0) {ad ax : Addr} {n c m c' : Nat} {vs : List Value} {w' : World} (hfc : (loadCells ax (Nat.min m n * szOf P e)).run P w = .ok vs.toArray w) (hst : (storeCells ad vs).run P w = .ok () w') :
    (Builtin.copy_ #[t, tx] ty #[.slice (some ad) n c, .slice (some ax) m c']).run P w = .ok (.int .i64 (Int.ofNat (Nat.min m n))) w' := by
  have hdef : Builtin.copy_ #[t, tx] ty #[.slice (some ad) n c, .slice (some ax) m c'] = (do
      let .slice elem ← underlying t | stuck "copy: slice type expected"
      let cells ← loadCells ax (Nat.min m n * (← sizeOf elem))
      storeCells ad cells.toList
      pure (goInt (Nat.min m n))) := rfl
  rw [hdef]
  simp only [Sem.run_bind, run_underlying hu, Result.andThen_ok, run_sizeOf hs0, hfc, hst, Sem.run_pure]
  rfl

theorem ok_cpy (hI : Inv B w0 φ h w) {cl : Call} {s x : Operand} {t tx e e2 : TypeId} (ho : o.op = .call cl) (hcl : cl.callee = .builtin .copy) (hargs : cl.args = #[s, x]) (hty : cl.argTypes = #[t, tx]) (hu : P.underlying t = some (.slice e)) (hs0 : szOf P e ≠ 0) (_hu2 : P.underlying tx = some (.slice e2)) {f : Pos} {vals : List TV} (hv : RTs φ vals [a.eval s, a.eval x]) {out : TV} {wr : Option (Pos × EO)} (hq : (eCpy (szOf P e) false vals f).run h = some (out, wr)) : OkX P B w0 φ h w o a out wr := by
  have hex : ∀ {v w'}, (Builtin.copy_ #[t, tx] o.type #[a.eval s, a.eval x]).run P w = .ok v w' → (execOp a.eval o).run P w = .ok (.value v) w' := fun hr => by
    unfold execOp
    simp [ho, resolve, hcl, hargs, hty, invoke, builtin, hr]
  unfold eCpy at hq
  split at hq
  · obtain ⟨v1, ws, e1, hr1, hr2⟩ := hv.cons
    obtain ⟨v2, e2, hr3⟩ := hr2.one
    subst e2
    simp only [List.cons.injEq, and_true] at e1
    obtain ⟨e1, e2⟩ := e1
    subst e1; subst e2
    split at hq
    · rename_i k g off n cap
      obtain ⟨lc, hl, ev⟩ := rt_sl hr1
      split at hq
      · rw [cond_false, run_retI] at hq
        simp only [Option.some.injEq, Prod.mk.injEq] at hq
        obtain ⟨rfl, rfl⟩ := hq
        refine ok_ret hI (v := .int .i64 0) (hex ?_) (mk_int _ _)
        rw [ev, rt_nils hr3]
        simp [Builtin.copy_, run_underlying hu, Builtin.lenOf, Builtin.firstCells, run_sizeOf hs0, storeCells, goInt]
      · rename_i j g' off' m cap'
        obtain ⟨lx, hlx, ex⟩ := rt_sl hr3
        simp only [cond_false, Q.run] at hq
        split at hq
        · rename_i l hl2
          obtain ⟨q1, q2, vs, q3, q4⟩ := hI.rds hlx hl2
          have hvl : vs.length = Nat.min m n * szOf P e := by rw [dens_len q3, flat_len q2, q1]
          have hload := run_loadCells_list (P := P) w ⟨lx.b, off', none⟩ vs q4
          rw [hvl] at hload
          split at hq
          · rw [run_retI] at hq
            simp only [Option.some.injEq, Prod.mk.injEq] at hq
            obtain ⟨rfl, rfl⟩ := hq
            have q1 : 0 = Nat.min m n := q1
            have : vs = [] := by
              apply List.eq_nil_of_length_eq_zero
              rw [hvl, ← q1, Nat.zero_mul]
            subst this
            refine ok_ret hI (v := .int .i64 0) (hex ?_) (mk_int _ _)
            rw [ev, ex]
            have := run_copyL (P := P) (w := w) (tx := tx) (ty := o.type) hu hs0 (ad := ⟨lc.b, off, none⟩) (ax := ⟨lx.b, off', none⟩) (n := n) (m := m) (c := capD cap lc.n (off / lc.s)) (c' := capD cap' lx.n (off' / lx.s)) (vs := []) hload (w' := w) (by simp [storeCells])
            rw [this, ← q1]
            rfl
          · rename_i a0 l0
            simp only [Q.run] at hq
            split at hq
            · rename_i o' hw
              rw [nfI_eq] at hq
              simp only [Q.run, Option.some.injEq, Prod.mk.injEq] at hq
              obtain ⟨rfl, rfl⟩ := hq
              obtain ⟨arr, e', z1, z2, z3⟩ := hI.wrs hw q2 hl q3
              refine ok_to (v := .int .i64 (Int.ofNat (Nat.min m n))) (hex ?_) (Gx.le.refl φ) z3 (mk_int _ _) (wrRows_noRes hw)
              rw [ev, ex]
              have hst := run_storeCells_at P lc.b off e' vs 0 arr w z1 (by simpa using z2) (dens_one q3)
              simp only [Nat.add_zero] at hst
              exact run_copyL (P := P) (w := w) hu hs0 hload hst
            · cases hq
        · cases hq
      · cases hq
    · cases hq
  · cases hq

theorem ext_f1 : (Extern.allGenericRows.lookup "internal/abi.NoEscape").isNone = true := by kernel_rfl
theorem ext_f2 : (Extern.allTypedRows.lookup "internal/abi.NoEscape").isNone = true := by kernel_rfl
theorem ext_f3 : Extern.allRows.lookup "internal/abi.NoEscape" = some Extern.AbiNoEscape.same := by kernel_rfl
theorem find_noEscape {fn : Func} (h : fn.name = "internal/abi.NoEscape") : Extern.find fn = some Extern.AbiNoEscape.same := by
  simp only [Extern.find, h, Option.isNone_iff_eq_none.1 ext_f1, Option.isNone_iff_eq_none.1 ext_f2, ext_f3]
  rfl
theorem ext_f4 : (Extern.allGenericRows.lookup "internal/bytealg.MakeNoZero").isNone = true := by kernel_rfl
theorem ext_f5 : Extern.allTypedRows.lookup "internal/bytealg.MakeNoZero" = some Extern.BytealgMakeNoZero.makeNoZero := by kernel_rfl
theorem find_makeNoZero {fn : Func} (h : fn.name = "internal/bytealg.MakeNoZero") : Extern.find fn = some (Extern.BytealgMakeNoZero.makeNoZero fn.params fn.resultTypes) := by
  simp only [Extern.find, h, Option.isNone_iff_eq_none.1 ext_f4, ext_f5]
  rfl
theorem ext_f6 : (Extern.allGenericRows.lookup "internal/bytealg.IndexByteString").isNone = true := by kernel_rfl
theorem ext_f7 : (Extern.allTypedRows.lookup "internal/bytealg.IndexByteString").isNone = true := by kernel_rfl
theorem ext_f8 : Extern.allRows.lookup "internal/bytealg.IndexByteString" = some Extern.BytealgIndexByte.indexByte := by kernel_rfl
theorem find_indexByte {fn : Func} (h : fn.name = "internal/bytealg.IndexByteString") : Extern.find fn = some Extern.BytealgIndexByte.indexByte := by
  simp only [Extern.find, h, Option.isNone_iff_eq_none.1 ext_f6, Option.isNone_iff_eq_none.1 ext_f7, ext_f8]
  rfl

/-- A function that the model answers itself. -/
theorem exec_ext {cl : Call} {f : FuncId} {fn : Func} {e : Array Value → Sem Value} (ho : o.op = .call cl) (hcl : cl.callee = .value (.func f)) (hf : P.funcs[f]? = some fn) (hb : fn.body = none) (hname : fn.name ≠ "runtime.NumGoroutine") (hn : Extern.findNext fn = none) (he : Extern.find fn = some e) {v : Value} {w' : World} (hr : (e (cl.args.map a.eval)).run P w = .ok v w') : (execOp a.eval o).run P w = .ok (.value v) w' := by
  have hc := run_callFunc_extern (P := P) hf (by simpa using hname) (by simp [hb]) hn he (cl.args.map a.eval) w
  unfold execOp
  simp [ho, resolve, hcl, Act.eval, Deferred.ofValue, invoke, hc, hr]

theorem ok_noEscape (hI : Inv B w0 φ h w) {cl : Call} {f : FuncId} {fn : Func} (ho : o.op = .call cl) (hcl : cl.callee = .value (.func f)) (hf : P.funcs[f]? = some fn) (hb : fn.body = none) (hn : Extern.findNext fn = none) (he : fn.name = "internal/abi.NoEscape") {vals : List TV} (hv : RTs φ vals (cl.args.toList.map a.eval)) {fr : Pos} {out : TV} {wr : Option (Pos × EO)} (hq : (eMov vals fr).run h = some (out, wr)) : OkX P B w0 φ h w o a out wr := by
  unfold eMov at hq
  split at hq
  · simp only [Q.run, Option.some.injEq, Prod.mk.injEq] at hq
    obtain ⟨rfl, rfl⟩ := hq
    obtain ⟨v, e1, hr⟩ := hv.one
    have e2 : cl.args.map a.eval = #[v] := by
      apply Array.ext'
      rw [Array.toList_map, e1]
    exact ok_ret hI (exec_ext ho hcl hf hb (by rw [he]; decide) hn (find_noEscape he) (by rw [e2]; rfl)) hr
  · cases hq

theorem idxB_spec (c : Nat) (hc : c < 256) : ∀ (l : List Nat) (i : Nat), okStr l = true → idxB c l i = if Lib.indexByte (l.map UInt8.ofNat) (UInt8.ofNat c) = -1 then -1 else Lib.indexByte (l.map UInt8.ofNat) (UInt8.ofNat c) + (i : Int)
  | [], i, _ => rfl
  | b :: l, i, h => by
    obtain ⟨h1, h2⟩ := okStr_cons h
    simp only [idxB, List.map_cons, Lib.indexByte]
    cases hb : Nat.beq b c with
    | true =>
      rw [beq_t.1 hb]
      simp
    | false =>
      have hne : (UInt8.ofNat b == UInt8.ofNat c) = false := by
        have := Nat.ne_of_beq_eq_false hb
        rw [beq_eq_false_iff_ne]
        exact fun e => this (ofNat_inj h1 hc e)
      rw [hne, cond_false, idxB_spec c hc l (i + 1) h2]
      have hge := Lib.indexByte_ge (l.map UInt8.ofNat) (UInt8.ofNat c)
      generalize Lib.indexByte (l.map UInt8.ofNat) (UInt8.ofNat c) = x at hge ⊢
      by_cases hx : x = -1
      · subst hx
        rfl
      · have hx1 : (x == -1) = false := by rw [beq_eq_false_iff_ne]; exact hx
        simp only [hx, hx1, if_false, Bool.false_eq_true]
        rw [if_neg (by omega)]
        omega

theorem ok_ibs (hI : Inv B w0 φ h w) {cl : Call} {f : FuncId} {fn : Func} (ho : o.op = .call cl) (hcl : cl.callee = .value (.func f)) (hf : P.funcs[f]? = some fn) (hb : fn.body = none) (hn : Extern.findNext fn = none) (he : fn.name = "internal/bytealg.IndexByteString") {vals : List TV} (hv : RTs φ vals (cl.args.toList.map a.eval)) {fr : Pos} {out : TV} {wr : Option (Pos × EO)} (hq : (eIbs vals fr).run h = some (out, wr)) : OkX P B w0 φ h w o a out wr := by
  unfold eIbs at hq
  split at hq
  · obtain ⟨v1, ws, e1, hr1, hr2⟩ := hv.cons
    obtain ⟨v2, e2, hr3⟩ := hr2.one
    subst e2
    split at hq
    · rename_i b c
      cases hc : Nat.blt c 256 with
      | false => rw [hc] at hq; cases hq
      | true =>
        rw [hc, cond_true, run_retI] at hq
        have hc := blt_t.1 hc
        simp only [Option.some.injEq, Prod.mk.injEq] at hq
        obtain ⟨rfl, rfl⟩ := hq
        obtain ⟨h1, h2⟩ := rt_str hr1
        have h3 : v2 = .int .u8 (c : Int) := rt_int hr3
        have e2 : cl.args.map a.eval = #[v1, v2] := by
          apply Array.ext'
          rw [Array.toList_map, e1]
        refine ok_ret hI (v := .int .i64 (idxB c b 0)) (exec_ext ho hcl hf hb (by rw [he]; decide) hn (find_indexByte he) ?_) (mk_int _ _)
        rw [e2, h2, h3]
        unfold strV
        rw [Lib.run_indexByteString]
        have hs := idxB_spec c hc b 0 h1
        have hcc : ((c : Int).toNat).toUInt8 = UInt8.ofNat c := rfl
        rw [hs, hcc]
        by_cases hx : Lib.indexByte (b.map UInt8.ofNat) (UInt8.ofNat c) = -1
        · rw [if_pos hx, hx]
        · rw [if_neg hx]
          simp
    · cases hq
  · cases hq

theorem ok_mknz (hI : Inv B w0 φ h w) {cl : Call} {f : FuncId} {fn : Func} (ho : o.op = .call cl) (hcl : cl.callee = .value (.func f)) (hf : P.funcs[f]? = some fn) (hb : fn.body = none) (hn : Extern.findNext fn = none) (he : fn.name = "internal/bytealg.MakeNoZero") {t e : TypeId} (ht : fn.resultTypes.toList = [t]) (hu : P.underlying t = some (.slice e)) (_hs : szOf P e = 1) {vals : List TV} (hv : RTs φ vals (cl.args.toList.map a.eval)) {fr : Pos} (hfr : h fr = .none) {out : TV} {wr : Option (Pos × EO)} (hq : (eMknz e vals fr).run h = some (out, wr)) : OkX P B w0 φ h w o a out wr := by
  unfold eMknz at hq
  split at hq
  · obtain ⟨v1, e1, hr1⟩ := hv.one
    split at hq
    · rename_i n
      cases hc : Nat.ble n 16777216 with
      | false => rw [hc] at hq; cases hq
      | true =>
        rw [hc, cond_true] at hq
        have hc := ble_t.1 hc
        simp only [Q.run, Option.some.injEq, Prod.mk.injEq] at hq
        obtain ⟨rfl, rfl⟩ := hq
        have h1 : v1 = .int .i64 (n : Int) := rt_int hr1
        have e2 : cl.args.map a.eval = #[v1] := by
          apply Array.ext'
          rw [Array.toList_map, e1]
        have e3 : fn.resultTypes = #[t] := Array.ext' ht
        obtain ⟨cs, q1, q2, _⟩ := Lib.run_makeNoZero (P := P) w fn.params t e hu n (by omega)
        obtain ⟨p1, p2⟩ := hI.drew.drew.newR hfr (e := e) (s := 1) (N := cs.size) (l := []) (vs := []) (arr := cs) (fr := (0, 0)) (fz := .no) (by omega) (fun a ha => by cases ha) rfl (fun j u hu => by simp at hu) (by simp) (by simp) (by simp) rfl
        refine ok_to (v := .slice (some ⟨w.heap.size, 0, none⟩) n cs.size) (exec_ext ho hcl hf hb (by rw [he]; decide) hn (find_makeNoZero he) (by rw [e2, e3, h1]; exact q1)) p1 p2 ?_
        have := sl_new (φ := φ) (f := fr) (b := w.heap.size) (N := cs.size) (s := 1) (n := n) (cap := none) (by simp only [capF, Nat.zero_add]; exact ble_t.2 q2)
        exact this
    · cases hq
  · cases hq

theorem ok_usd (hI : Inv B w0 φ h w) {cl : Call} {x : Operand} (ho : o.op = .call cl) (hcl : cl.callee = .builtin .unsafeSliceData) (hargs : cl.args = #[x]) {vals : List TV} (hv : RTs φ vals [a.eval x]) {fr : Pos} {out : TV} {wr : Option (Pos × EO)} (hq : (eUsd vals fr).run h = some (out, wr)) : OkX P B w0 φ h w o a out wr := by
  have hex : ∀ {v w'}, (Builtin.unsafeSliceData_ cl.argTypes o.type #[a.eval x]).run P w = .ok v w' → (execOp a.eval o).run P w = .ok (.value v) w' := fun hr => by
    unfold execOp
    simp [ho, resolve, hcl, hargs, invoke, builtin, hr]
  unfold eUsd at hq
  split at hq
  · obtain ⟨v, e, hr⟩ := hv.one
    simp only [List.cons.injEq, and_true] at e
    subst e
    split at hq
    · simp only [retV, Q.run, Option.some.injEq, Prod.mk.injEq] at hq
      obtain ⟨rfl, rfl⟩ := hq
      exact ok_ret hI (v := .pointer none) (hex (by rw [rt_nils hr]; rfl)) rfl
    · rename_i k g off n cap
      obtain ⟨lc, hl, ev, hcf⟩ := rt_slF hr
      have hc : capD cap lc.n (off / lc.s) ≠ 0 ∧ out = .pv (.one (.ptr k g off)) ∧ wr = none := by
        cases cap with
        | some c =>
          simp only at hq
          cases hb : Nat.blt 0 c with
          | false => rw [hb] at hq; cases hq
          | true =>
            rw [hb] at hq
            simp only [cond_true, retV, Q.run, Option.some.injEq, Prod.mk.injEq] at hq
            have := blt_t.1 hb
            exact ⟨by simp only [capD]; omega, hq.1.symm, hq.2.symm⟩
        | none =>
          simp only [cond_true, retV, Q.run, Option.some.injEq, Prod.mk.injEq] at hq
          have := ble_t.1 hcf
          exact ⟨by simp only [capD]; omega, hq.1.symm, hq.2.symm⟩
      obtain ⟨h1, rfl, rfl⟩ := hc
      refine ok_ret hI (v := .pointer (some ⟨lc.b, off, none⟩)) (hex ?_) ?_
      · rw [ev]
        exact Lib.run_unsafeSliceData_row w _ _ _ _ _ h1
      · show den φ (.ptr k g off) = _
        simp only [den, hl]
    · cases hq
  · cases hq

theorem rowAt_mono {fits : TypeId → Bool} : ∀ (d : Nat) (e : TypeId) {c c' : Nat} (off n : Nat), c ≤ c' → rowAt P fits d e c off n = true → rowAt P fits d e c' off n = true
  | 0, _, _, _, _, _, _, h => by simp [rowAt] at h
  | d + 1, e, c, c', off, n, hc, h => by
    unfold rowAt at h ⊢
    by_cases h0 : P.cellsOf e = 0
    · simp [h0] at h
    · simp only [h0, if_false] at h ⊢
      simp only [Bool.or_eq_true, Bool.and_eq_true, decide_eq_true_eq] at h ⊢
      rcases h with ⟨⟨h1, h2⟩, h3⟩ | ⟨h1, h2⟩
      · exact .inl ⟨⟨h1, by omega⟩, h3⟩
      · exact .inr ⟨by omega, h2⟩
theorem liesAt_mono : ∀ (d : Nat) (e : TypeId) {c c' : Nat} (off : Nat) (u : TypeId) (n : Nat), c ≤ c' → liesAt P d e c off u n = true → liesAt P d e c' off u n = true
  | 0, _, _, _, _, _, _, _, h => by simp [liesAt] at h
  | d + 1, e, c, c', off, u, n, hc, h => by
    unfold liesAt at h ⊢
    simp only [Bool.or_eq_true] at h ⊢
    rcases h with h | h
    · exact .inl (rowAt_mono _ e off n hc h)
    · right
      cases hu : P.underlying u with
      | none => rw [hu] at h; exact h
      | some d' =>
        rw [hu] at h
        cases d' <;> first | exact h | exact liesAt_mono d e off _ _ hc h

theorem run_shape {b : Nat} {arr : Array Value} {e : TypeId} {fr : Nat × Nat} (hb : w.heap[b]? = some (.cells arr e fr)) : (shape b).run P w = .ok (some (e, arr.size)) w := by
  simp [shape, Sem.run, World.shape?, hb]

theorem run_seenAt {a : Addr} {arr : Array Value} {e : TypeId} {fr : Nat × Nat} (hb : w.heap[a.block]? = some (.cells arr e fr)) : (Conv.seenAt a).run P w = .ok a w := by
  simp [Conv.seenAt, viewAt, run_shape hb]
theorem row_blk (hI : Inv B w0 φ h w) {k : Pos} {e : TypeId} {s : Nat} {el : PT Ch} {len gen : Nat} {fz : Fz} (hk : h k = .row e s el len gen fz) {g : Nat} {l : Loc} (hl : φ.loc k g = some l) : ∃ arr fr, w.heap[l.b]? = some (.cells arr e fr) ∧ arr.size = l.n * s ∧ (g = gen → len ≤ l.n) ∧ l.s = s ∧ 0 < s := by
  have ho := hI.obj k
  rw [hk] at ho
  obtain ⟨h0, _, _, h2, h3⟩ := ho
  rcases Nat.lt_or_ge gen g with hg | hg
  · rw [h2 g hg] at hl; cases hl
  · obtain ⟨l', q1, ⟨q2, q3, arr, fr, q4, q5, q6, q7⟩, q8⟩ := h3 g hg
    rw [q1] at hl
    injection hl with hl
    subst hl
    exact ⟨arr, fr, q4, q5, q8, q3, h0⟩
theorem mk_nilp : RT φ (.pv (.one .nilp)) (.pointer none) := rfl

theorem ok_p2u (hI : Inv B w0 φ h w) {s t e : TypeId} {x : Operand} (ho : o.op = .convert s t x) (hs : P.underlying s = some (.pointer e)) (ht : P.underlying t = some .unsafePointer) (hz : szOf P e ≠ 0) {vals : List TV} (hv : RTs φ vals [a.eval x]) {fr : Pos} {out : TV} {wr : Option (Pos × EO)} (hq : (eP2u vals fr).run h = some (out, wr)) : OkX P B w0 φ h w o a out wr := by
  have hex : ∀ {v w'}, (Conv.unsafePointer s t (a.eval x)).run P w = .ok v w' → (execOp a.eval o).run P w = .ok (.value v) w' := fun hr => by
    unfold execOp
    simp [ho, convert, run_underlying hs, run_underlying ht, hr]
  unfold eP2u at hq
  split at hq
  · obtain ⟨v, e1, hr⟩ := hv.one
    simp only [List.cons.injEq, and_true] at e1
    subst e1
    split at hq
    · rename_i k g off
      simp only [Q.run] at hq
      split at hq
      · rename_i cs hcs
        simp only [Q.run, Option.some.injEq, Prod.mk.injEq] at hq
        obtain ⟨rfl, rfl⟩ := hq
        obtain ⟨l, hl, ev⟩ := rt_ptr hr
        refine ok_ret hI (v := .pointer (some ⟨l.b, off, none⟩)) (hex ?_) (by rw [← ev]; exact hr)
        obtain ⟨vs, q1, q2, q3, e', len, gen, fz, s', el, hk, _, _⟩ := hI.rd hcs hl
        have hvl : vs.length = 1 := by rw [dens_len q1, q2]
        obtain ⟨u, rfl⟩ : ∃ u, vs = [u] := by
          match vs, hvl with
          | [u], _ => exact ⟨u, rfl⟩
        have hc := q3 0 u rfl
        rw [add_at, Nat.add_zero] at hc
        obtain ⟨arr, fr', z1, z2, _⟩ := row_blk hI hk hl
        rw [cell_of_row w l.b off arr e' fr' z1] at hc
        have hlt := (Array.getElem?_eq_some_iff.1 hc).1
        have hno : ¬ arr.size ≤ off := by omega
        have hsee := run_seenAt (P := P) (a := ⟨l.b, off, none⟩) z1
        have hsh : w.shape? l.b = some (e', arr.size) := by simp [World.shape?, z1]
        rw [ev]
        simp [Conv.unsafePointer, run_underlying hs, run_underlying ht, hsee, cellsIn, hsh, run_sizeOf hz, hz, hno]
      · cases hq
    · simp only [Q.run, Option.some.injEq, Prod.mk.injEq] at hq
      obtain ⟨rfl, rfl⟩ := hq
      have ev := rt_nilp hr
      refine ok_ret hI (v := .pointer none) (hex ?_) mk_nilp
      rw [ev]
      simp [Conv.unsafePointer, run_underlying hs, run_underlying ht]
    · cases hq
  · cases hq

theorem ok_u2p (hI : Inv B w0 φ h w) {s t u : TypeId} {x : Operand} (ho : o.op = .convert s t x) (hs : P.underlying s = some .unsafePointer) (ht : P.underlying t = some (.pointer u)) (hsz : szOf P u ≠ 0) {vals : List TV} (hv : RTs φ vals [a.eval x]) {fr : Pos} {out : TV} {wr : Option (Pos × EO)} (hq : (eU2p (u2pOk P u) vals fr).run h = some (out, wr)) : OkX P B w0 φ h w o a out wr := by
  have hex : ∀ {v w'}, (Conv.unsafePointer s t (a.eval x)).run P w = .ok v w' → (execOp a.eval o).run P w = .ok (.value v) w' := fun hr => by
    unfold execOp
    simp [ho, convert, run_underlying hs, run_underlying ht, hr]
  unfold eU2p at hq
  split at hq
  · obtain ⟨v, e1, hr⟩ := hv.one
    simp only [List.cons.injEq, and_true] at e1
    subst e1
    split at hq
    · rename_i k g off
      simp only [Q.run] at hq
      split at hq
      · rename_i e s' el hk
        cases hc : u2pOk P u e s' off with
        | false => rw [hc] at hq; cases hq
        | true =>
          rw [hc, cond_true] at hq
          simp only [Q.run, Option.some.injEq, Prod.mk.injEq] at hq
          obtain ⟨rfl, rfl⟩ := hq
          obtain ⟨l, hl, ev⟩ := rt_ptr hr
          refine ok_ret hI (v := .pointer (some ⟨l.b, off, none⟩)) (hex ?_) (by rw [← ev]; exact hr)
          obtain ⟨arr, fr', z1, z2, z3, _, z5⟩ := row_blk hI hk hl
          have hg0 : g = 0 := by
            have ho := hI.obj k
            rw [hk] at ho
            obtain ⟨_, _, _, h2, _⟩ := ho
            cases g with
            | zero => rfl
            | succ g => rw [h2 _ (by omega)] at hl; cases hl
          have hn := z3 hg0
          have hle : s' ≤ arr.size := by
            rw [z2]
            exact Nat.le_mul_of_pos_left _ hn
          have hlie : liesAt P P.depth e (arr.size / P.cellsOf e) off u 1 = true := liesAt_mono _ _ _ _ _ (Nat.div_le_div_right hle) hc
          have hsee := run_seenAt (P := P) (a := ⟨l.b, off, none⟩) z1
          have hsh : w.shape? l.b = some (e, arr.size) := by simp [World.shape?, z1]
          rw [ev]
          simp [Conv.unsafePointer, run_underlying hs, run_underlying ht, hsee, variablesAt, hsh, hlie, run_sizeOf hsz, hsz]
      · cases hq
    · simp only [Q.run, Option.some.injEq, Prod.mk.injEq] at hq
      obtain ⟨rfl, rfl⟩ := hq
      have ev := rt_nilp hr
      refine ok_ret hI (v := .pointer none) (hex ?_) mk_nilp
      rw [ev]
      simp [Conv.unsafePointer, run_underlying hs, run_underlying ht]
    · cases hq
  · cases hq

/-- Cells of a row are frozen. -/
theorem Inv.frz (hI : Inv B w0 φ h w) {k : Pos} {e : TypeId} {s : Nat} {el : PT Ch} {len gen : Nat} {fz : Fz} (hk : h k = .row e s el len gen fz) {g : Nat} {l : Loc} (hl : φ.loc k g = some l) (ad : Addr) (had : ad.block = l.b) (n : Nat) : Inv B w0 φ (upd h k (.row e s el len gen .yes)) (w.freeze ad n) := by
  have ho := hI.obj k
  rw [hk] at ho
  obtain ⟨h0, h1, hm, h2, h3⟩ := ho
  obtain ⟨arr0, fr0, y1, _⟩ := row_blk hI hk hl
  have hother : ∀ b, b ≠ l.b → (w.freeze ad n).heap[b]? = w.heap[b]? := fun b hb => by
    unfold World.freeze
    split
    · rfl
    · simp only [Array.getElem?_modify]
      rw [if_neg (by rw [had]; exact fun e => hb e.symm)]
  have hself : ∀ arr e fr, w.heap[l.b]? = some (.cells arr e fr) → ∃ fr', (w.freeze ad n).heap[l.b]? = some (.cells arr e fr') := fun arr e fr hb => by
    unfold World.freeze
    split
    · exact ⟨fr, hb⟩
    · simp only [Array.getElem?_modify]
      rw [if_pos had, hb]
      exact ⟨_, rfl⟩
  have hfs : (w.freeze ad n).os = w.os ∧ (w.freeze ad n).tape = w.tape ∧ (w.freeze ad n).output = w.output ∧ w.heap.size ≤ (w.freeze ad n).heap.size ∧ w.drawn ≤ (w.freeze ad n).drawn := by
    unfold World.freeze
    split
    · exact ⟨rfl, rfl, rfl, Nat.le_refl _, Nat.le_refl _⟩
    · exact ⟨rfl, rfl, rfl, by simp, Nat.le_refl _⟩
  obtain ⟨f1, f2, f3, f4, f5⟩ := hfs
  refine hI.turn (ψ := φ) (Gx.le.refl φ) (fun _ _ => ⟨fun _ => rfl, rfl, rfl⟩) (fun g1 l1 x => .inl ⟨g1, l1, x, rfl⟩) (fun b hb hne => hother b fun e => hne g l hl e.symm) (fun g1 l1 x ob z1 z2 => ?_) f1 f2 f3 f4 f5 ⟨h0, h1, hm, h2, fun g1 hg1 => ?_⟩
  · by_cases hb : l1.b = l.b
    · rw [hb, y1] at z1
      injection z1 with z1
      subst z1
      cases z2
    · rw [hother _ hb]; exact z1
  · obtain ⟨l1, q1, ⟨q2, q3, arr, fr, q4, q5, q6, q7⟩, q8⟩ := h3 g1 hg1
    refine ⟨l1, q1, ?_, q8⟩
    by_cases hb : l1.b = l.b
    · obtain ⟨fr', z⟩ := hself arr e fr (by rw [← hb]; exact q4)
      exact ⟨q2, q3, arr, fr', by rw [hb]; exact z, q5, trivial, q7⟩
    · exact ⟨q2, q3, arr, fr, by rw [hother _ hb]; exact q4, q5, trivial, q7⟩

theorem ok_ust (hI : Inv B w0 φ h w) {cl : Call} {x y : Operand} {t t2 e : TypeId} (ho : o.op = .call cl) (hcl : cl.callee = .builtin .unsafeString) (hargs : cl.args = #[x, y]) (hty : cl.argTypes = #[t, t2]) (hu : P.underlying t = some (.pointer e)) {vals : List TV} (hv : RTs φ vals [a.eval x, a.eval y]) {fr : Pos} {out : TV} {wr : Option (Pos × EO)} (hq : (eUst e (ustOk P) vals fr).run h = some (out, wr)) : OkX P B w0 φ h w o a out wr := by
  have hex : ∀ {v w'}, (Builtin.unsafeString_ #[t, t2] o.type #[a.eval x, a.eval y]).run P w = .ok v w' → (execOp a.eval o).run P w = .ok (.value v) w' := fun hr => by
    unfold execOp
    simp [ho, resolve, hcl, hargs, hty, invoke, builtin, hr]
  unfold eUst at hq
  split at hq
  · obtain ⟨v1, ws, e1, hr1, hr2⟩ := hv.cons
    obtain ⟨v2, e2, hr3⟩ := hr2.one
    subst e2
    simp only [List.cons.injEq, and_true] at e1
    obtain ⟨e1, e2⟩ := e1
    subst e1; subst e2
    split at hq
    · simp only [retV, Q.run, Option.some.injEq, Prod.mk.injEq] at hq
      obtain ⟨rfl, rfl⟩ := hq
      refine ok_ret hI (v := .string .empty) (hex ?_) (mk_str rfl)
      rw [rt_nilp hr1, show a.eval y = .int .i64 0 from rt_int hr3]
      exact Lib.run_unsafeString_none w t t2 o.type none
    · rename_i k g off n
      obtain ⟨l, hl, ev⟩ := rt_ptr hr1
      split at hq
      · simp only [retV, Q.run, Option.some.injEq, Prod.mk.injEq] at hq
        obtain ⟨rfl, rfl⟩ := hq
        refine ok_ret hI (v := .string .empty) (hex ?_) (mk_str rfl)
        rw [ev, show a.eval y = .int .i64 0 from rt_int hr3]
        exact Lib.run_unsafeString_none w t t2 o.type _
      · rename_i n
        simp only [Q.run] at hq
        split at hq
        · rename_i ls hls
          split at hq
          · rename_i b hb
            split at hq
            · rename_i e' el len gen fz hk
              cases hc : (Nat.beq e e' && Nat.beq off 0 && ustOk P e' len off (n + 1)) with
              | false => rw [hc] at hq; cases hq
              | true =>
                rw [hc, cond_true] at hq
                simp only [Bool.and_eq_true, beq_t] at hc
                obtain ⟨⟨rfl, rfl⟩, c3⟩ := hc
                simp only [Q.run, Option.some.injEq, Prod.mk.injEq] at hq
                obtain ⟨rfl, rfl⟩ := hq
                simp only [ustOk, Bool.and_eq_true, decide_eq_true_eq, ble_t] at c3
                obtain ⟨c3, c4⟩ := c3
                obtain ⟨q1, q2, vs, q3, q4⟩ := hI.rds hl hls
                obtain ⟨p1, p2⟩ := bytes_sound hb q3
                obtain ⟨arr, fr', z1, z2, z3, _, _⟩ := row_blk hI hk hl
                have hsh : w.shape? l.b = some (e, arr.size) := by simp [World.shape?, z1]
                have hbl : b.length = n + 1 := by
                  have : vs.length = (n + 1) * 1 := by rw [dens_len q3, flat_len q2, q1]
                  rw [p2] at this
                  simpa using this
                have hcell : ∀ (j : Nat) (x : UInt8), (b.map UInt8.ofNat)[j]? = some x → w.cell? ((⟨l.b, 0, none⟩ : Addr).add j) = some (.int .u8 x.toNat) := fun j x hj => by
                  rw [List.getElem?_map] at hj
                  simp only [Option.map_eq_some_iff] at hj
                  obtain ⟨c, hc, rfl⟩ := hj
                  have := q4 j (.int .u8 (Int.ofNat c)) (by rw [p2, List.getElem?_map, hc]; rfl)
                  rw [this]
                  have hcm : c < 256 := by
                    have := List.all_eq_true.1 p1 c (List.mem_of_getElem? hc)
                    exact blt_t.1 this
                  have : (UInt8.ofNat c).toNat = c := by simp; omega
                  rw [this]
                  rfl
                have hfit : n + 1 ≤ arr.size := by
                  have hlast : ∃ x, (b.map UInt8.ofNat)[n]? = some x := by
                    rw [List.getElem?_map]
                    exact ⟨UInt8.ofNat b[n], by rw [List.getElem?_eq_getElem (by omega)]; rfl⟩
                  obtain ⟨x, hx⟩ := hlast
                  have := hcell n x hx
                  rw [add_at, Nat.zero_add, cell_of_row w l.b n arr e fr' z1] at this
                  have := (Array.getElem?_eq_some_iff.1 this).1
                  omega
                have hl32 : len + 2 ≤ 2 ^ 32 := by
                  have ho := hI.obj k
                  rw [hk] at ho
                  exact ho.2.1
                have hrun := Lib.run_unsafeString_row (P := P) w t t2 o.type e hu c3 l.b arr.size hsh (b.map UInt8.ofNat) (by intro e0; rw [List.map_eq_nil_iff] at e0; rw [e0] at hbl; simp at hbl) (by simpa [hbl] using hfit) (by simp [hbl]; omega) hcell
                refine ok_to (v := strV b) (hex ?_) (Gx.le.refl φ) (hI.frz hk hl ⟨l.b, 0, none⟩ rfl (b.map UInt8.ofNat).length) (mk_str p1)
                rw [ev, show a.eval y = .int .i64 ((n + 1 : Nat) : Int) from rt_int hr3]
                rw [List.length_map, hbl] at hrun
                rw [List.length_map, hbl]
                exact hrun
            · cases hq
          · cases hq
        · cases hq
    · cases hq
  · cases hq

end
end Go.Proofs.YtdjhicbhegaenaaGreatDoor.Clo
namespace Go.Proofs.YtdjhicbhegaenaaGreatDoor.Clo
open Go Go.RowKit

section
variable {P : Program} {B : Nat} {w0 : W0} {φ : Gx} {h : Pos → EO} {w : World} {o : Oper} {a : Act}

theorem ok_bin (hI : Inv B w0 φ h w) {op : BinOp} {t ty : TypeId} {x y : Operand} (ho : o.op = .binOp op t x y ty) {vals : List TV} (hv : RTs φ vals [a.eval x, a.eval y]) {f : Pos} {out : TV} {wr : Option (Pos × EO)} (hq : (eBin op vals f).run h = some (out, wr)) : OkX P B w0 φ h w o a out wr := by
  unfold eBin at hq
  split at hq
  · obtain ⟨v1, ws, e1, hr1, hr2⟩ := hv.cons
    obtain ⟨v2, e2, hr3⟩ := hr2.one
    subst e2
    simp only [List.cons.injEq, and_true] at e1
    obtain ⟨e1, e2⟩ := e1
    subst e1; subst e2
    split at hq
    · split at hq
      · rename_i k m k' n
        have h1 := rt_int hr1
        have h2 := rt_int hr3
        split at hq
        · exact ok_shI hI ho h1 h2 hq
        · exact ok_shI hI ho h1 h2 hq
        · cases hk : kq k k' with
          | false => rw [hk] at hq; cases hq
          | true =>
            rw [hk, cond_true] at hq
            have := kq_eq hk
            subst this
            exact ok_binI hI ho h1 h2 hq
      · obtain ⟨q1, q2⟩ := rt_str hr1
        obtain ⟨q3, q4⟩ := rt_str hr3
        exact ok_binS hI ho q1 q3 q2 q4 hq
      · cases hq
    · cases hq
  · cases hq

theorem ok_movL (hI : Inv B w0 φ h w) {v : Value} (hr : (execOp a.eval o).run P w = .ok (.value v) w) {vals : List TV} (hv : RTs φ vals [v]) {f : Pos} {out : TV} {wr : Option (Pos × EO)} (hq : (eMov vals f).run h = some (out, wr)) : OkX P B w0 φ h w o a out wr := by
  unfold eMov at hq
  split at hq
  · simp only [Q.run, Option.some.injEq, Prod.mk.injEq] at hq
    obtain ⟨rfl, rfl⟩ := hq
    obtain ⟨u, e, h1⟩ := hv.one
    simp only [List.cons.injEq, and_true] at e
    subst e
    exact ok_ret hI hr h1
  · cases hq

theorem arr_two {α : Type} {l : Array α} {x y : α} (h : l.toList = [x, y]) : l = #[x, y] := Array.ext' h
theorem arr_one {α : Type} {l : Array α} {x : α} (h : l.toList = [x]) : l = #[x] := Array.ext' h

theorem ok_builtin (hI : Inv B w0 φ h w) {cl : Call} {b : Builtin} (ho : o.op = .call cl) (hcl : cl.callee = .builtin b) {k : K} {xs : List Operand} (hc : cBuiltin P cl b = some (k, xs)) {f : Pos} (hf : kAl k = true → h f = .none) {vals : List TV} (hv : RTs φ vals (xs.map a.eval)) {out : TV} {wr : Option (Pos × EO)} (hq : (effK k vals f).run h = some (out, wr)) : OkX P B w0 φ h w o a out wr := by
  unfold cBuiltin at hc
  split at hc
  · rename_i x t h1 h2
    have h1 := arr_one h1
    have h2 := arr_one h2
    split at hc
    · rename_i hu; simp only [Option.some.injEq, Prod.mk.injEq] at hc; obtain ⟨rfl, rfl⟩ := hc; exact ok_lens (f := f) hI ho hcl h1 h2 hu hv hq
    · rename_i hu; simp only [Option.some.injEq, Prod.mk.injEq] at hc; obtain ⟨rfl, rfl⟩ := hc; exact ok_lenl (f := f) hI ho hcl h1 h2 hu hv hq
    · rename_i hu; simp only [Option.some.injEq, Prod.mk.injEq] at hc; obtain ⟨rfl, rfl⟩ := hc; exact ok_lenm (f := f) hI ho hcl h1 h2 hu hv hq
    · rename_i hu; simp only [Option.some.injEq, Prod.mk.injEq] at hc; obtain ⟨rfl, rfl⟩ := hc; exact ok_lena (f := f) hI ho hcl h1 h2 hu hq
    · cases hc
  · rename_i x t h1 h2
    have h1 := arr_one h1
    have h2 := arr_one h2
    split at hc
    · rename_i hu; simp only [Option.some.injEq, Prod.mk.injEq] at hc; obtain ⟨rfl, rfl⟩ := hc; exact ok_capl (f := f) hI ho hcl h1 h2 hu hv hq
    · cases hc
  · rename_i s x t u h1 h2
    have h1 := arr_two h1
    have h2 := arr_two h2
    split at hc
    · rename_i e hu
      split at hc
      · rename_i z hz
        split at hc
        · cases hc
        · rename_i hn
          simp only [not_or, ne_eq, Decidable.not_not] at hn
          split at hc
          · rename_i e2 hu2; simp only [Option.some.injEq, Prod.mk.injEq] at hc; obtain ⟨rfl, rfl⟩ := hc; exact ok_app (f := f) hI ho hcl h1 h2 hu hz hn.2 hn.1 (.inl ⟨rfl, e2, hu2⟩) (hf rfl) hv hq
          · rename_i hu2
            split at hc
            · rename_i hs; simp only [Option.some.injEq, Prod.mk.injEq] at hc; obtain ⟨rfl, rfl⟩ := hc; exact ok_app (f := f) hI ho hcl h1 h2 hu hz hn.2 hn.1 (.inr ⟨rfl, hu2, hs⟩) (hf rfl) hv hq
            · cases hc
          · cases hc
      · cases hc
    · cases hc
  · rename_i s x t u h1 h2
    have h1 := arr_two h1
    have h2 := arr_two h2
    split at hc
    · rename_i e hu
      split at hc
      · cases hc
      · rename_i hn
        split at hc
        · rename_i e2 hu2; simp only [Option.some.injEq, Prod.mk.injEq] at hc; obtain ⟨rfl, rfl⟩ := hc; exact ok_cpy (f := f) hI ho hcl h1 h2 hu hn hu2 hv hq
        · cases hc
    · cases hc
  · rename_i x h1
    have h1 := arr_one h1
    simp only [Option.some.injEq, Prod.mk.injEq] at hc; obtain ⟨rfl, rfl⟩ := hc; exact ok_usd (fr := f) hI ho hcl h1 hv hq
  · rename_i x y t t2 h1 h2
    have h1 := arr_two h1
    have h2 := arr_two h2
    split at hc
    · rename_i e hu
      split at hc
      · simp only [Option.some.injEq, Prod.mk.injEq] at hc; obtain ⟨rfl, rfl⟩ := hc; exact ok_ust (fr := f) hI ho hcl h1 h2 hu hv hq
      · cases hc
    · cases hc
  · rename_i x y h1
    have h1 := arr_two h1
    simp only [Option.some.injEq, Prod.mk.injEq] at hc; obtain ⟨rfl, rfl⟩ := hc; exact ok_mx (big := true) (f := f) hI ho hcl h1 hv hq
  · rename_i x y h1
    have h1 := arr_two h1
    simp only [Option.some.injEq, Prod.mk.injEq] at hc; obtain ⟨rfl, rfl⟩ := hc; exact ok_mx (big := false) (f := f) hI ho hcl h1 hv hq
  · cases hc

theorem ok_ext_call (hI : Inv B w0 φ h w) {cl : Call} {fi : FuncId} {fn : Func} (ho : o.op = .call cl) (hcl : cl.callee = .value (.func fi)) (hfn : P.funcs[fi]? = some fn) (hb : fn.body = none) {k : K} (hc : cExt fn P = some k) {f : Pos} (hf : kAl k = true → h f = .none) {vals : List TV} (hv : RTs φ vals (cl.args.toList.map a.eval)) {out : TV} {wr : Option (Pos × EO)} (hq : (effK k vals f).run h = some (out, wr)) : OkX P B w0 φ h w o a out wr := by
  unfold cExt at hc
  split at hc
  · cases hc
  · rename_i hn
    have hn : Extern.findNext fn = none := by simpa using hn
    split at hc
    · rename_i he; simp only [Option.some.injEq] at hc; subst hc; exact ok_noEscape (fr := f) hI ho hcl hfn hb hn he hv hq
    · split at hc
      · rename_i he; simp only [Option.some.injEq] at hc; subst hc; exact ok_ibs (fr := f) hI ho hcl hfn hb hn he hv hq
      · split at hc
        · rename_i he
          split at hc
          · rename_i t ht
            split at hc
            · rename_i e hu
              split at hc
              · rename_i hs; simp only [Option.some.injEq] at hc; subst hc; exact ok_mknz (fr := f) hI ho hcl hfn hb hn he ht hu hs hv (hf rfl) hq
              · cases hc
            · cases hc
          · cases hc
        · cases hc

theorem isSome_none {α : Type} {o : Option α} (h : ¬ o.isSome = true) : o = none := by cases o <;> simp_all

theorem cK_sound {Gl : Nat → TypeId → Option Value} (hG : GlOk Gl P B w0) (hI : Inv B w0 φ h w) {k : K} {xs : List Operand} (hc : cK P Gl o.op = some (k, xs)) {f : Pos} (hf : kAl k = true → h f = .none) {vals : List TV} (hv : RTs φ vals (xs.map a.eval)) {out : TV} {wr : Option (Pos × EO)} (hq : (effK k vals f).run h = some (out, wr)) : OkX P B w0 φ h w o a out wr := by
  have inj : ∀ {k' : K} {xs' : List Operand}, some (k', xs') = some (k, xs) → k' = k ∧ xs' = xs := fun h => by
    simp only [Option.some.injEq, Prod.mk.injEq] at h
    exact h
  cases hop : o.op <;> rw [hop] at hc <;> simp only [cK] at hc <;> first | (cases hc; done) | skip
  case move x => obtain ⟨rfl, rfl⟩ := inj hc; exact ok_movL (f := f) hI (by unfold execOp; simp [hop]) hv hq
  case assign x => obtain ⟨rfl, rfl⟩ := inj hc; exact ok_movL (f := f) hI (by unfold execOp; simp [hop]) hv hq
  case pick c x y =>
    obtain ⟨rfl, rfl⟩ := inj hc
    simp only [effK, ePick] at hq
    split at hq
    · obtain ⟨v1, ws, e1, hr1, hr2⟩ := hv.cons
      obtain ⟨v2, ws2, e2, hr3, hr4⟩ := hr2.cons
      obtain ⟨v3, e3, hr5⟩ := hr4.one
      subst e3; subst e2
      simp only [List.map_cons, List.map_nil, List.cons.injEq, and_true] at e1
      obtain ⟨e1, e2, e3⟩ := e1
      subst e1; subst e2; subst e3
      split at hq
      · rename_i b
        simp only [Q.run, Option.some.injEq, Prod.mk.injEq] at hq
        obtain ⟨rfl, rfl⟩ := hq
        cases b <;> exact ok_pick (P := P) hI hop hr1 hr3 hr5
      · cases hq
    · cases hq
  case alloc e =>
    split at hc
    · rename_i z hz
      split at hc
      · cases hc
      · rename_i hs; obtain ⟨rfl, rfl⟩ := inj hc; exact ok_alloc (f := f) hI hop hz hs (hf rfl) hq
    · cases hc
  case box e x =>
    split at hc
    · cases hc
    · rename_i hs; obtain ⟨rfl, rfl⟩ := inj hc; exact ok_box (f := f) hI hop hs (hf rfl) hv hq
  case build t parts =>
    split at hc
    · rename_i z fs hz hu
      split at hc
      · rename_i ha
        split at hc
        · rename_i ps hp; obtain ⟨rfl, rfl⟩ := inj hc; exact ok_build (f := f) hI hop hz (.inl ⟨fs, hu, ha, hp⟩) hv hq
        · cases hc
      · cases hc
    · rename_i z n e hz hu
      split at hc
      · cases hc
      · rename_i hs; obtain ⟨rfl, rfl⟩ := inj hc; exact ok_build (f := f) hI hop hz (.inr ⟨n, e, hu, hs, rfl⟩) hv hq
    · cases hc
  case buildSlice t len parts =>
    split at hc
    · rename_i e hu
      split at hc
      · rename_i z hz
        split at hc
        · cases hc
        · rename_i hn
          simp only [not_or, ne_eq, Decidable.not_not] at hn
          obtain ⟨rfl, rfl⟩ := inj hc; exact ok_lit (f := f) hI hop hu hz hn.2 hn.1 (hf rfl) hv hq
      · cases hc
    · cases hc
  case insert t m kk x =>
    split at hc
    · rename_i kt e hu
      split at hc
      · rename_i q hk; obtain ⟨rfl, rfl⟩ := inj hc; exact ok_put (f := f) hI (.inr hop) hu hk hv hq
      · cases hc
    · cases hc
  case load t ad =>
    split at hc
    · rename_i g
      split at hc
      · rename_i v hg
        obtain ⟨rfl, rfl⟩ := inj hc
        refine ok_movL (f := f) hI (v := v) ?_ hv hq
        have := hG g t v hg w hI.below
        unfold execOp
        simp only [hop, Act.eval, Sem.run_bind, this, Result.andThen_ok, Sem.run_pure]
      · cases hc
    · split at hc
      · cases hc
      · rename_i hs
        split at hc
        · rename_i b hb; obtain ⟨rfl, rfl⟩ := inj hc; exact ok_load (f := f) hI hop hs hb hv hq
        · cases hc
  case store t ad x =>
    split at hc
    · cases hc
    · rename_i hs; obtain ⟨rfl, rfl⟩ := inj hc; exact ok_store (f := f) hI hop hs hv hq
  case nilCheck x => obtain ⟨rfl, rfl⟩ := inj hc; exact ok_nilchk (f := f) hI hop hv hq
  case binOp op t x y ty =>
    have eq : ∀ {neg : Bool}, o.op = .binOp (eqOp neg) t x y ty → (∀ k, P.underlying t ≠ some (.int k)) → P.underlying t ≠ some .string → (match eqkOf P t (isC x || isC y) with | some q => some (K.eql neg q, [x, y]) | none => none) = some (k, xs) → OkX P B w0 φ h w o a out wr := fun {neg} ho h1 h2 hc => by
      split at hc
      · rename_i q hq0; obtain ⟨rfl, rfl⟩ := inj hc; exact ok_eql (f := f) hI ho h1 h2 hq0 hv hq
      · cases hc
    split at hc
    · split at hc
      · obtain ⟨rfl, rfl⟩ := inj hc; exact ok_bin (f := f) hI hop hv hq
      · obtain ⟨rfl, rfl⟩ := inj hc; exact ok_bin (f := f) hI hop hv hq
      · rename_i h1 h2; exact eq (neg := false) hop (fun k e => h1 k e) h2 hc
    · split at hc
      · obtain ⟨rfl, rfl⟩ := inj hc; exact ok_bin (f := f) hI hop hv hq
      · obtain ⟨rfl, rfl⟩ := inj hc; exact ok_bin (f := f) hI hop hv hq
      · rename_i h1 h2; exact eq (neg := true) hop (fun k e => h1 k e) h2 hc
    · obtain ⟨rfl, rfl⟩ := inj hc; exact ok_bin (f := f) hI hop hv hq
  case unOp op t x => obtain ⟨rfl, rfl⟩ := inj hc; exact ok_un (f := f) hI hop hv hq
  case convert s t x =>
    split at hc
    · rename_i hs ht; obtain ⟨rfl, rfl⟩ := inj hc; exact ok_cint (f := f) hI hop hs ht hv hq
    · rename_i hs ht; obtain ⟨rfl, rfl⟩ := inj hc; exact ok_i2s (f := f) hI hop hs ht hv hq
    · rename_i hs ht; obtain ⟨rfl, rfl⟩ := inj hc; exact ok_same (f := f) hI hop hs ht hv hq
    · rename_i e hs ht
      split at hc
      · cases hc
      · rename_i hz; obtain ⟨rfl, rfl⟩ := inj hc; exact ok_p2u (fr := f) hI hop hs ht hz hv hq
    · rename_i u hs ht
      split at hc
      · cases hc
      · rename_i hz; obtain ⟨rfl, rfl⟩ := inj hc; exact ok_u2p (fr := f) hI hop hs ht hz hv hq
    · rename_i e hs ht
      split at hc
      · rename_i he
        rw [if_pos rfl] at hc
        obtain ⟨rfl, rfl⟩ := inj hc; exact ok_b2s (f := f) hI hop hs ht he hv hq
      · rw [if_neg (by decide)] at hc
        cases hc
    · cases hc
  case makeInterface t x =>
    split at hc
    · cases hc
    · rename_i d hn hd; obtain ⟨rfl, rfl⟩ := inj hc; exact ok_mki (f := f) hI hop hd (fun m e => hn m e) (hf rfl) hv hq
    · cases hc
  case makeFunc fn first caps => obtain ⟨rfl, rfl⟩ := inj hc; exact ok_mkf (f := f) hI hop (hf rfl) hv hq
  case makeMap t r =>
    split at hc
    · rename_i k e hu; obtain ⟨rfl, rfl⟩ := inj hc; exact ok_mkm (f := f) hI hop hu (hf rfl) hv hq
    · cases hc
  case makeSlice t l c =>
    split at hc
    · rename_i e hu
      split at hc
      · rename_i z hz
        split at hc
        · cases hc
        · rename_i hn
          simp only [not_or, ne_eq, Decidable.not_not] at hn
          obtain ⟨rfl, rfl⟩ := inj hc; exact ok_mks (f := f) hI hop hu hz hn.2 hn.1 (hf rfl) hv hq
      · cases hc
    · cases hc
  case slice t x lo hi mx =>
    split at hc
    · rename_i hu
      split at hc
      · cases hc
      · rename_i hm
        have := isSome_none hm
        subst this
        obtain ⟨rfl, rfl⟩ := inj hc; exact ok_subs (f := f) hI hop hu hv hq
    · rename_i e hu
      split at hc
      · cases hc
      · rename_i hz; obtain ⟨rfl, rfl⟩ := inj hc; exact ok_subl (f := f) hI hop hu hz (hf rfl) hv hq
    · rename_i n e hu
      split at hc
      · cases hc
      · rename_i hz; obtain ⟨rfl, rfl⟩ := inj hc; exact ok_suba (f := f) hI hop hu hz hv hq
    · cases hc
  case fieldAddr s x n =>
    split at hc
    · rename_i fs hu
      split at hc
      · rename_i fd hn
        split at hc
        · cases hc
        · rename_i hz; obtain ⟨rfl, rfl⟩ := inj hc; exact ok_fadr (f := f) hI hop hu hn hz hv hq
      · cases hc
    · cases hc
  case field s x n =>
    split at hc
    · rename_i fs hu
      split at hc
      · rename_i fd hn
        split at hc
        · cases hc
        · rename_i hz
          split at hc
          · rename_i b hb; obtain ⟨rfl, rfl⟩ := inj hc; exact ok_fld (f := f) hI hop hu hn hz hb hv hq
          · cases hc
      · cases hc
    · cases hc
  case indexAddr t x i =>
    split at hc
    · rename_i e hu
      split at hc
      · cases hc
      · rename_i hz; obtain ⟨rfl, rfl⟩ := inj hc; exact ok_idxl (f := f) hI hop hu hz hv hq
    · rename_i n e hu
      split at hc
      · cases hc
      · rename_i hz; obtain ⟨rfl, rfl⟩ := inj hc; exact ok_idxa (f := f) hI hop hu hz hv hq
    · cases hc
  case index t x i =>
    split at hc
    · rename_i hu; obtain ⟨rfl, rfl⟩ := inj hc; exact ok_idxs (f := f) hI hop hu hv hq
    · rename_i n e hu
      split at hc
      · cases hc
      · rename_i hz
        split at hc
        · rename_i b hb; obtain ⟨rfl, rfl⟩ := inj hc; exact ok_idxg (f := f) hI hop hu hz hb hv hq
        · cases hc
    · cases hc
  case lookup t x i ok =>
    split at hc
    · rename_i kt e hu
      split at hc
      · rename_i q z hk hz; obtain ⟨rfl, rfl⟩ := inj hc; exact ok_look (f := f) hI hop hu hk hz hv hq
      · cases hc
    · cases hc
  case mapUpdate t m kk x =>
    split at hc
    · rename_i kt e hu
      split at hc
      · rename_i q hk; obtain ⟨rfl, rfl⟩ := inj hc; exact ok_put (f := f) hI (.inl hop) hu hk hv hq
      · cases hc
    · cases hc
  case mapEntry t m kk =>
    split at hc
    · rename_i kt e hu
      split at hc
      · rename_i q z hk hz; obtain ⟨rfl, rfl⟩ := inj hc; exact ok_ment (f := f) hI hop hu hk hz hv hq
      · cases hc
    · cases hc
  case entryStore t m s x => obtain ⟨rfl, rfl⟩ := inj hc; exact ok_mest (f := f) hI hop hv hq
  case range t x =>
    split at hc
    · rename_i k e hu; obtain ⟨rfl, rfl⟩ := inj hc; exact ok_rngm (f := f) hI hop hu (hf rfl) hv hq
    · cases hc
  case entry it => obtain ⟨rfl, rfl⟩ := inj hc; exact ok_ent (f := f) hI hop hv hq
  case extract x i => obtain ⟨rfl, rfl⟩ := inj hc; exact ok_ext (f := f) hI hop hv hq
  case call c =>
    split at hc
    · rename_i b hcl; exact ok_builtin (f := f) hI hop hcl hc hf hv hq
    · rename_i fi hcl
      split at hc
      · rename_i fn hfn
        split at hc
        · cases hc
        · rename_i hb
          split at hc
          · rename_i k' hk; obtain ⟨rfl, rfl⟩ := inj hc; exact ok_ext_call (f := f) hI hop hcl hfn hb hk hf hv hq
          · cases hc
      · cases hc
    · cases hc

end
end Go.Proofs.YtdjhicbhegaenaaGreatDoor.Clo
