/- From the arguments' readings to typed data, and from a law's contract to its statement. -/
import Derived.Test.YtboikinjlmjgjaaGreatAbsW
import Derived.Carry
import Derived.ProofKit
import Derived.OpenShut
namespace Go.Proofs.YtboikinjlmjgjaaGreat.Abs
open Go Go.RowKit Go.ChangeShapes Go.WideShapes Go.ChangeAt
def D.ok:D→Prop
 | .sc (.int k n)=>(Lit.int k n).wf=true
 | .sc (.string s)=>s.size≤maxLen
 | .sc _=>True
 | .nil=>True
 | .cons a b=>a.ok∧b.ok
 | .sl d=>d.len≤maxLen∧d.ok
 | .jk _ _=>True
def Ty.good:Ty→Bool
 | .cons a b=>a.good&&b.good&&(match b with | .unit | .cons _ _=>true | _=>false)
 | .slice a=>a.good
 | .jsl _=>false
 | _=>true
theorem th : ∀ {t:Ty},t.good=true→t.nojk=true
 | .int _,_ | .bool,_ | .str,_ | .unit,_ | .tree,_=>rfl
 | .jsl _,h=>by cases h
 | .slice t,h=>th (t:=t) h
 | .cons a b,h=>by
  simp only [Ty.good,Bool.and_eq_true] at h
  simp only [Ty.nojk,th h.1.1,th h.1.2,Bool.and_self]
theorem rh : ∀ {t:Ty},t.good=true → ∀ a∈t.fields,a.nojk=true
 | .cons a b,h=>by
  simp only [Ty.good,Bool.and_eq_true] at h
  intro x hx
  rcases List.mem_cons.1 hx with rfl | hx
  ·exact th h.1.1
  ·exact rh h.1.2 x hx
 | .tree,_=>by simp [Ty.fields,Ty.nojk]
 | .int _,_ | .bool,_ | .str,_ | .unit,_ | .slice _,_ | .jsl _,_=>by simp [Ty.fields]
def qk:List Ty→Ty
 | [] => .unit
 | a::r => .cons a (qk r)
theorem wm : ∀ {τ:Ty},τ.good=true→(τ = .unit ∨ ∃ a b,τ = .cons a b)→qk τ.fields=τ
 | .unit,_,_=>rfl
 | .cons a b,h,_=>by
  simp only [Ty.good,Bool.and_eq_true] at h
  have hb:b = .unit ∨ ∃ a' b',b = .cons a' b':=by
   have:=h.2
   cases b <;> simp at this
   ·exact .inl rfl
   ·exact .inr ⟨_,_,rfl⟩
  show Ty.cons a (qk b.fields)=_
  rw [wm h.1.2 hb]
section
variable {H:Type} {enc:TypeId×Value→H} {P:Program} {tab:Tab} {W:World} {St:Sb} {sp:Nat→Bool}
theorem vd (tk:TabOk P tab) {t:TypeId} {τ:Ty} (h:tab.ty t=some τ):P.cellsOf t=τ.size:=by
 obtain ⟨i,z,hi,hs,_⟩:=tk.ty t τ h
 simp [Program.cellsOf,hi,hs]
theorem afX {a:Addr} {v:Value} (h:W.cell? a=some v):a.block<W.heap.size:=by
 have:=World.cells?_block (base:=0) (n:=1) (cs:=[v]) (cells?_one (Nat.zero_le _) h) (by omega)
 exact this
def SQ (enc:TypeId×Value→H) (P:Program) (tab:Tab) (W:World) (St:Sb) (sp:Nat→Bool) (fuel:Nat):Prop :=
 ∀ t τ cs x,tab.ty t=some τ→DataW.trod enc P W 0 sp true fuel t cs=some x → ∃ y:τ.den,Rep W St (toD τ y) cs∧(toD τ y).ok
theorem qS (tk:TabOk P tab) {fuel:Nat} (ih:SQ enc P tab W St sp fuel) {cs:List Value} : ∀ (as:List Ty) (fs:List Field) (off:Nat) (xs:List (DataW H×List MemPlace)),(∀ a∈as,a.nojk=true)→FOk tab.ty fs as off →
  fs.mapM (fun f=>DataW.trod enc P W 0 sp true fuel f.type ((cs.drop f.offset).take (P.cellsOf f.type)))=some xs→cs.length=off+(qk as).size →
  ∃ y:(qk as).den,Rep W St (toD (qk as) y) (cs.drop off)∧(toD (qk as) y).ok
 | [],[],off,_,_,_,_,hl=>⟨(),by simp [qk,Ty.size] at hl; simp [qk,toD,Rep]; omega,trivial⟩
 | a::as,f::fs,off,xs,hn,hf,hm,hl=>by
  obtain ⟨⟨ab,h1,_,_,hab⟩,h2,h3,h4,h5⟩:=hf
  rw [hab (hn a (List.mem_cons_self ..))] at h1
  rw [List.mapM_cons] at hm
  cases hx:DataW.trod enc P W 0 sp true fuel f.type ((cs.drop f.offset).take (P.cellsOf f.type)) with
  | none=>simp [hx] at hm
  | some x =>
   cases hr:fs.mapM (fun f=>DataW.trod enc P W 0 sp true fuel f.type ((cs.drop f.offset).take (P.cellsOf f.type))) with
   | none=>simp [hx,hr] at hm
   | some xs' =>
    obtain ⟨y,hy,oy⟩:=ih _ _ _ _ h1 hx
    obtain ⟨z,hz,oz⟩:=qS tk ih as fs (off+a.size) xs' (fun b hb=>hn b (List.mem_cons_of_mem _ hb)) h5 hr (by simp only [qk,Ty.size] at hl; omega)
    rw [h2,vd tk h1] at hy
    refine ⟨(y,z),⟨_,_, ?_,hy,hz⟩,oy,oz⟩
    rw [← List.drop_drop,List.take_append_drop]
 | [],_::_,_,_,_,h,_,_=>h.elim
 | _::_,[],_,_,_,h,_,_=>h.elim
theorem OJ {α:Type} {f:α→D} : ∀ {l l':List α},(bA f l).ok→(bA f l').ok→(bA f (l++l')).ok
 | [],_,_,h=>h
 | _::_,_,h,h'=>⟨h.1,OJ h.2 h'⟩
theorem CT (tk:TabOk P tab) (hSt : ∀ b o,b<W.heap.size→St b o) {fuel:Nat} (ih:SQ enc P tab W St sp fuel) {e:TypeId} {a:Ty} (he:tab.ty e=some a) (ha:0<a.size) {ad:Addr} {len:Nat}
  (h : ∀ i,i<len → ∃ x,(W.cells? 0 (ad.add (i * P.cellsOf e)) (P.cellsOf e)).bind (DataW.trod enc P W 0 sp true fuel e)=some x) : ∀ n,n≤len →
  ∃ (l:List a.den) (ds:List Value),l.length=n∧Rep W St (bA (toD a) l) ds∧(bA (toD a) l).ok∧(0<n→ad.spot=none) ∧ ∀ (j:Nat) u,ds[j]? = some u→W.cell? (ad.add j)=some u∧St ad.block (ad.off+j)
 | 0,_=>⟨[],[],rfl,rfl,trivial,fun h=>by omega,fun j u hj=>by simp at hj⟩
 | n+1,hn=>by
  obtain ⟨l,ds,hl,hr,ok,hs,hc⟩:=CT tk hSt ih he ha h n (by omega)
  obtain ⟨x,hx⟩:=h n (by omega)
  cases hcs:W.cells? 0 (ad.add (n * P.cellsOf e)) (P.cellsOf e) with
  | none=>simp [hcs] at hx
  | some cs =>
   rw [hcs] at hx
   obtain ⟨y,hy,oy⟩:=ih e a cs x he hx
   obtain ⟨_,hlen,hcell⟩:=World.cells?_some hcs
   rw [vd tk he] at hlen hcell
   have h0 : ∃ v,W.cell? (ad.add (n * a.size))=some v:=by
    have:=hcell 0 ha
    rw [add_zero] at this
    have g:cs[0]? = some cs[0]:=List.getElem?_eq_getElem (by omega)
    exact ⟨_,this.trans g⟩
   have spot:ad.spot=none:=by
    by_cases hn0:0<n
    ·exact hs hn0
    ·obtain ⟨v,hv⟩:=h0
     have hn0:n=0:=by omega
     rw [hn0,Nat.zero_mul,add_zero] at hv
     exact World.cell?_spot hv
   refine ⟨l++[y],ds++cs,by simp [hl],di hr ⟨cs,[],by simp,hy,rfl⟩,OJ ok ⟨oy,trivial⟩,fun _=>spot,fun j u hj => ?_⟩
   have hdl:=bG hr
   rw [hl] at hdl
   by_cases hjd:j<ds.length
   ·rw [List.getElem?_append_left hjd] at hj
    exact hc j u hj
   ·rw [List.getElem?_append_right (by omega)] at hj
    have hjc:j-ds.length<cs.length:=(List.getElem?_eq_some_iff.1 hj).1
    have:=hcell (j-ds.length) (by omega)
    rw [BG,hj,show n * a.size+(j-ds.length)=j by omega] at this
    refine ⟨this,hSt _ _ ?_⟩
    have:=afX this
    rw [(gi ad spot j).1] at this
    exact this
theorem MU (tk:TabOk P tab) (hg : ∀ t τ,tab.ty t=some τ→τ.good=true) (hSt : ∀ b o,b<W.heap.size→St b o) : ∀ fuel,SQ enc P tab W St sp fuel
 | 0=>fun t τ cs x _ h=>by simp [DataW.trod] at h
 | fuel+1=>fun t τ cs x ht h=>by
  have ih:=MU tk hg hSt fuel
  obtain ⟨i,z,hi,hs,_,_,_,_,hu⟩:=tk.ty t τ ht
  have hgood:=hg t τ ht
  have hstruct : ∀ fs,P.underlying t=some (.struct fs)→cs.length=τ.size ∧ ∃ xs,fs.toList.mapM (fun f=>DataW.trod enc P W 0 sp true fuel f.type ((cs.drop f.offset).take (P.cellsOf f.type)))=some xs:=fun fs hf=>by
   unfold DataW.trod at h
   rw [hf] at h
   simp only at h
   split at h
   ·rename_i hl
    rw [vd tk ht] at hl
    refine ⟨hl, ?_⟩
    cases hm:fs.toList.mapM (fun f=>DataW.trod enc P W 0 sp true fuel f.type ((cs.drop f.offset).take (P.cellsOf f.type))) with
    | none=>rw [hm] at h; cases h
    | some xs=>exact ⟨xs,rfl⟩
   ·cases h
  cases τ with
  | jsl e=>cases hgood
  | int k =>
   have hu:P.underlying t=some (.int k):=hu
   unfold DataW.trod at h
   rw [hu] at h
   split at h <;> try (first | (simp at *; done) | cases h)
   rename_i k0 k' n hk
   simp only [Option.some.injEq,TypeDesc.int.injEq] at hk
   subst hk
   split at h
   ·rename_i hw
    obtain ⟨rfl,hw⟩:=hw
    exact ⟨n,⟨rfl,rfl⟩,hw⟩
   ·cases h
  | bool =>
   have hu:P.underlying t=some .bool:=hu
   unfold DataW.trod at h
   rw [hu] at h
   split at h <;> try (first | (simp at *; done) | cases h)
   rename_i b _
   exact ⟨b,⟨rfl,rfl⟩,trivial⟩
  | str =>
   have hu:P.underlying t=some .string:=hu
   unfold DataW.trod at h
   rw [hu] at h
   split at h <;> try (first | (simp at *; done) | cases h)
   rename_i s _
   split at h
   ·rename_i hl
    refine ⟨s.data.toList,⟨rfl,rfl⟩, ?_⟩
    exact hl
   ·cases h
  | slice a =>
   obtain ⟨e,hu,he,_,ha⟩:=hu
   unfold DataW.trod at h
   rw [hu] at h
   split at h <;> try (first | (simp at *; done) | cases h)
   ·exact ⟨[],⟨none,0,0,rfl,rfl,Nat.le_refl _,.inl rfl⟩,Nat.zero_le _,trivial⟩
   ·rename_i e' ad len cap hk
    simp only [Option.some.injEq,TypeDesc.slice.injEq] at hk
    subst hk
    split at h
    ·rename_i hb
     dsimp only at h
     cases hm:(List.range len).mapM (fun i=>(W.cells? 0 (ad.add (i * P.cellsOf e)) (P.cellsOf e)).bind (DataW.trod enc P W 0 sp true fuel e)) with
     | none=>rw [hm] at h; cases h
     | some elems =>
      have hall : ∀ i,i<len → ∃ x,(W.cells? 0 (ad.add (i * P.cellsOf e)) (P.cellsOf e)).bind (DataW.trod enc P W 0 sp true fuel e)=some x:=fun i hi=>by
       have h1:=mapM_some_get hm i i (by simp [hi])
       have h2:=mapM_some_length hm
       have h4:i<elems.length:=by simp at h2; omega
       exact ⟨_,h1.trans (List.getElem?_eq_getElem h4)⟩
      obtain ⟨l,ds,hl,hr,ok,hsp,hc⟩:=CT tk hSt ih he ha hall len (Nat.le_refl _)
      refine ⟨l,⟨some ad,len,cap,rfl,by rw [e6,hl],hb.2.1, ?_⟩,by rw [e6,hl]; omega,ok⟩
      by_cases h0:len=0
      ·exact .inl h0
      ·exact .inr ⟨ad,ds,rfl,hsp (by omega),hr,hc⟩
    ·cases h
  | unit =>
   obtain ⟨fs,hf,_,_,hF⟩:=hu
   obtain ⟨hl,xs,hm⟩:=hstruct fs hf
   exact ⟨(),by simp [Ty.size] at hl; simp [toD,Rep,hl],trivial⟩
  | cons a b =>
   obtain ⟨fs,hf,_,_,hF⟩:=hu
   obtain ⟨hl,xs,hm⟩:=hstruct fs hf
   have e:=wm hgood (.inr ⟨a,b,rfl⟩)
   have:=qS tk ih _ _ 0 xs (rh hgood) hF hm (by rw [e,hl]; omega)
   rw [e] at this
   simpa using this
  | tree =>
   obtain ⟨fs,hf,_,_,hF⟩:=hu
   obtain ⟨hl,xs,hm⟩:=hstruct fs hf
   obtain ⟨⟨k,s,ls,ks,u⟩,hy,oy⟩:=qS tk ih _ _ 0 xs (rh hgood) hF hm (by rw [hl]; rfl)
   refine ⟨Tree.mk k s ls ks, ?_, ?_⟩
   ·simp only [toD,qj,g0]
    simpa [qk,Ty.fields,toD] using hy
   ·simp only [toD,qj,g0]
    simpa [qk,Ty.fields,toD] using oy
theorem W2 {v u:Value} (h:v.cells.toList=[u]) (ha : ∀ cs,v ≠ .agg cs):v=u:=by
 cases v <;> simp_all [Value.cells]
theorem Qg (tk:TabOk P tab) (hg : ∀ t τ,tab.ty t=some τ→τ.good=true) (hSt : ∀ b o,b<W.heap.size→St b o) {t:TypeId} {τ:Ty} {v:Value} {d:DataW H} {p:List MemPlace} {base:Nat} (ht:tab.ty t=some τ)
  (h:DataW.Trod enc P W 0 sp true t v d p) (hv:Value.okWide P W .any base t v) : ∃ y:τ.den,cE W St τ y v∧(toD τ y).ok:=by
 obtain ⟨fuel,h⟩:=h
 obtain ⟨y,hy,oy⟩:=MU tk hg hSt fuel t τ _ _ ht h
 refine ⟨y, ?_,oy⟩
 obtain ⟨i,z,_,_,_,_,_,_,hu⟩:=tk.ty t τ ht
 unfold cE
 split
 ·rename_i hs
  obtain ⟨fs,hf,_⟩:=fF hs hu
  obtain ⟨cs,rfl,_⟩:=okWide_struct hf hv
  exact ⟨cs.toList,by simp,by simpa [Value.cells] using hy⟩
 ·rename_i hs
  have hs:τ.isStruct=false:=by simpa using hs
  have hl:=hy.size
  rw [pl hs] at hl
  obtain ⟨u,hcs⟩:=List.length_eq_one_iff.1 hl
  have:v=u:=W2 hcs (fun cs e=>by
   subst e
   obtain ⟨d',hd,hp⟩:=B1 hs hu
   unfold Value.okWide at hv
   rw [hd] at hv
   cases d' <;> simp [qQ] at hp <;> simp [Cell.okWide,Cell.ok,hd] at hv)
  subst this
  rw [hcs] at hy
  exact hy
theorem Gk (tk:TabOk P tab) (hg : ∀ t τ,tab.ty t=some τ→τ.good=true) (hSt : ∀ b o,b<W.heap.size→St b o) {base:Nat} : ∀ (ts:List TypeId) (τs:List Ty) (vs:List Value) (ds:List (DataW H)) (ps:List MemPlace),
  ts.map tab.ty=τs.map some→DataW.TrodAll enc P W 0 sp true ts vs ds ps→(∀ (j:Nat) t v,ts[j]? = some t→vs[j]? = some v→Value.okWide P W .any base t v) →
  ∃ xs:List ((t:Ty)×t.den),xs.map (·.1)=τs∧x8 W St xs vs∧(∀ x∈xs,(toD x.1 x.2).ok)∧ds.length=xs.length
 | [],[],vs,ds,ps,_,h,_=>by
  obtain ⟨rfl,rfl,rfl⟩:=trodAll_nil h
  exact ⟨[],rfl,trivial,by simp,rfl⟩
 | t::ts,τ::τs,vs,ds,ps,hm,h,hv=>by
  obtain ⟨v,vs',d,ds',p,q,rfl,rfl,rfl,h1,h2⟩:=trodAll_cons h
  simp only [List.map_cons,List.cons.injEq] at hm
  obtain ⟨y,hy,oy⟩:=Qg (St:=St) tk hg hSt hm.1 h1 (hv 0 t v rfl rfl)
  obtain ⟨xs,e,hr,ok,hl⟩:=Gk tk hg hSt ts τs vs' ds' q hm.2 h2 (fun j t' v' a b=>hv (j+1) t' v' (by simpa using a) (by simpa using b))
  refine ⟨⟨τ,y⟩::xs,by simp [e],⟨hy,hr⟩,fun x hx => ?_,by simp [hl]⟩
  rcases List.mem_cons.1 hx with rfl | hx
  ·exact oy
  ·exact ok x hx
 | [],_::_,_,_,_,h,_,_=>by simp at h
 | _::_,[],_,_,_,h,_,_=>by simp at h
theorem uo (hl:laidOutB P=true) {W':World} (hb:Below W.heap.size W W') : ∀ (ts:List TypeId) (vs:List Value) (ds:List (DataW H)) (ps:List MemPlace),(∀ t∈ts,P.readableRec t=true∧t<P.types.size) →
  DataW.TrodAll enc P W 0 (fun _=>true) true ts vs ds ps→(∀ x∈ps,x.block<W.heap.size)→DataW.TrodAll enc P W' 0 (fun b=>decide (b<W.heap.size)) true ts vs ds ps
 | [],vs,ds,ps,_,h,_=>by
  obtain ⟨rfl,rfl,rfl⟩:=trodAll_nil h
  exact trodAll_mk0
 | t::ts,vs,ds,ps,hr,h,hlt=>by
  obtain ⟨v,vs',d,ds',p,q,rfl,rfl,rfl,h1,h2⟩:=trodAll_cons h
  exact trodAll_cons_mk (Below.trod hl (hr t (by simp)).1 (hr t (by simp)).2 h1 hb (fun x hx=>hlt x (List.mem_append_left _ hx)))
   (uo hl hb ts vs' ds' q (fun t' ht'=>hr t' (List.mem_cons_of_mem _ ht')) h2 (fun x hx=>hlt x (List.mem_append_right _ hx)))
structure LawOk (C:Checked) (tab:Tab) (f:FuncId) (fn:Func) (τs:List Ty) (tb:TypeId):Prop where
 own:ownKnob C.prog.godebug=none
 noInit:C.prog.inits.idxOf? f=none
 func:C.prog.funcs[f]? = some fn
 laid:laidOutB C.prog=true
 params:fn.params.toList.map tab.ty=τs.map some
 results:fn.resultTypes = #[tb]
 tbool:C.prog.underlying tb=some .bool
 read : ∀ t∈fn.params.toList,C.prog.readableRec t=true∧t<C.prog.types.size
 good : ∀ t τ,tab.ty t=some τ→τ.good=true
 tab:TabOk C.prog tab
theorem QJ {C:Checked} {tab:Tab} {f:FuncId} {fn:Func} {τs:List Ty} {tb:TypeId} (k:LawOk C tab f fn τs tb) {s:ChangeSpec} {conds:List PathCond} {EI:Bool} (hvars:s.vars=[]) (hspec : ∀ (H:Type) (ds:List (DataW H)),ds.length=τs.length→s.fn H ds={ results:=[.lit (.bool true)],args:=ds })
  (Gv : ∀ xs:List ((t:Ty)×t.den),xs.map (·.1)=τs→(∀ x∈xs,(toD x.1 x.2).ok)→nB C.prog f xs (.val .bool true))
  {os:Os} (started:os.Started) {H:Type} {enc:TypeId×Value→H} {a:Assume}
  (witness : ∃ (w:World) (tape:Tape) (i:Input),w.os=os∧(w.forCall tape i).Shaped C.prog∧i.vars=[]∧Input.okWide C.prog (w.forCall tape i) .any w.heap.size f i ∧
   s.pre6 enc C.prog fn conds EI (w.forCall tape i).memory i.args∧a.holds C.prog (lone (Frame.enter C.prog f i.args .normal) [] (w.forCall tape i))) {fresh handsOn:Bool} :
  ReturnsInHanded a C os f .any (s.pre6 enc C.prog fn conds EI) (s.post enc C.prog fn EI fresh handsOn false):=by
 refine returnsInHanded_of_change k.own started k.noInit k.func witness ?_
 intro W base args ds gs cn hval hW _ _
 have hW':=hW
 obtain ⟨p,q,hA,hV,rfl,hfz,hnd⟩:=hW
 rw [hvars] at hV
 obtain ⟨rfl,rfl⟩:=trodVars_none hV
 have hlt : ∀ x∈p,x.block<W.heap.size:=fun x hx=>by simpa using hW'.lt x (by simp [hx])
 obtain ⟨xs,e,hr,ok,hl⟩:=Gk (St:={ s:=fun b _=>b<W.heap.size }) k.tab k.good (fun _ _ h=>h) (base:=base) fn.params.toList τs args.toList ds p k.params hA
  (fun j t v a b=>hval j t v (by simpa using a) (by simpa using b))
 obtain ⟨_,hm⟩:=Gv xs e ok
 have hm:=hm W { s:=fun b _=>b<W.heap.size } (fun _ _ h=>h) args.toList hr
 rw [show args.toList.toArray=args by simp] at hm
 refine hm.mono fun e' W' ⟨v,St',he,hb,_,_,_,_,hv⟩ => ?_
 subst he
 have hv:v = .bool true:=by
  obtain ⟨v',e1,hv⟩:=hv
  simp only [List.cons.injEq,and_true] at e1
  subst e1
  exact eI hv
 subst hv
 have es:s.fn H (ds++[])={ results:=[.lit (.bool true)],args:=ds }:=by
  rw [List.append_nil]; exact hspec H ds (by rw [hl, ← e,List.length_map])
 refine ⟨_,rfl,ds,[],p++[],[],p,[],hW', ?_, ?_, ?_,hb.frame _,fun h=>by cases h⟩
 ·rw [es,k.results]
  exact trodAll_mk1 (shut_bool k.tbool true)
 ·rw [es]
  exact uo k.laid hb _ _ _ _ k.read hA hlt
 ·rw [hvars,es]; rfl
end
theorem jR {P:Program} {f:FuncId} {e:Ent} (h:ar P f e) {xs:List ((t:Ty)×t.den)} {res:AV} (he:e (xs.map fun d => .val d.1 d.2)=some (true,res)):nB P f xs res:=by
 obtain ⟨R,hR,h1,h2⟩:=h _ _ he
 exact ⟨h1,fun w St hb vs hr=>h2 w St hb vs (hR (bj w St) vs (vg hr))⟩
theorem adp {P:Program} {l:List TypeId} (h:(l.all fun t=>P.readableRec t&&decide (t<P.types.size))=true) : ∀ t∈l,P.readableRec t=true∧t<P.types.size:=fun t ht=>by
 have:=List.all_eq_true.1 h t ht
 simpa using this
end Go.Proofs.YtboikinjlmjgjaaGreat.Abs
