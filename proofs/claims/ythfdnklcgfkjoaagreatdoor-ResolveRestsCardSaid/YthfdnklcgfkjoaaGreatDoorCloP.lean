/- Closed runs. -/
import Derived.Test.YthfdnklcgfkjoaaGreatDoorCloO
import Derived.MapKept
set_option linter.all false
namespace Go.Proofs.YthfdnklcgfkjoaaGreatDoor.Clo
open Go Go.RowKit
variable [SymVal]
section
variable {P:Program}{B:Nat}{R:W0}{φ:Gx}{h:Pos→EO}{w:World}{o:Oper}{a:Act}
variable{C:List CK}{agg:Bool}{p q:PV}{t J:TypeId}{v:Value}{r:Option (Nat×ME)}{es:List ME}{vs:List MapEntry}{i:Nat}{e:ME}{m:MapEntry}{l:Loc}
def EN {r:Bool}(h:eqP C agg p q=some r):p.isAgg=agg∧q.isAgg=agg∧eqL C p.cells q.cells=some r:=by
 unfold eqP at h;split at h
 ·cases agg with
  |true=>cases h
  |false=>exact⟨rfl,rfl,h⟩
 ·cases agg with
  |true=>exact⟨rfl,rfl,h⟩
  |false=>cases h
 ·cases h
def Vi (R:i4 P 20 t=some C)(j:agg=pB (P.underlying t)){g f:Value}{r:Bool}(J:bg φ p=some g)(l:bg φ q=some f)(T:eqP C agg p q=some r):(Op.equal t g f).run P w = .ok r w:=by obtain⟨h1,h2,U⟩:=EN T;exact EM (P:=P) (w:=w) 20 9980 t C R p q g f r J l (h1.trans j) (h2.trans j) U
def Sl:∀{C:List CK} {l m:List CV},eqL C l m=some true→l=m
 |[],[],[],_=>rfl
 |k::C,a::l,b::m,h=>by
  simp[eqL]at h;split at h
  next x y h1 h2=>
   simp only[η]at h;cases x with
   |false=>cases h
   |true=>
    have h:y=true:=h;subst h;rw[Sl h2];congr 1;cases k <;> cases a <;> cases b <;> simp only[eqC]at h1 <;> first|(cases h1;done)|skip
    next a b=>cases a <;> cases b <;> simp_all
    ·rename_i k r a p b;cases f:(kq k r&&kq k p)with
     |false=>rw[f]at h1;cases h1
     |true =>rw[f]at h1;simp at f;have R:=KX f.1;have P:=KX f.2;subst R;subst P;simp at h1;rw[h1]
    ·rename_i a b;simp at h1;have:∀{a b:List Nat},xu a b=true→a=b:=by
      intro a;induction a with
      |nil=>intro b g;cases b with
       |nil=>rfl
       |cons _ _=>cases g
      |cons x a J=>intro b g;cases b with
       |nil=>cases g
       |cons y b=>
        simp only[xu]at g;cases j:Nat.beq x y with
        |false=>rw[j]at g;cases g
        |true=>rw[j]at g;rw[q0.1 j,J g]
     rw[this h1]
  ·cases h
 |[],_::_,_,h=>by simp[eqL]at h
 |[],[],_::_,h=>by simp[eqL]at h
 |_::_,[],_,h=>by simp[eqL]at h
 |_::_,_::_,[],h=>by simp[eqL]at h
def aeE (h:eqP C agg p q=some true):p=q:=by obtain⟨j,g,f⟩:=EN h;have:=Sl f;cases p <;> cases q <;> simp_all[PV.cells,PV.isAgg]
def Ta {k:CK}{c:CV}{r:Bool}(h:eqC k c c=some r)(f:den φ c=some v)(n:Nat):Instr.sameBits n v v=true:=by
 cases k <;> cases c <;> simp[eqC]at h <;> first|(cases h;done)|skip
 ·have f:some (Value.bool _)=some v:=f;cases f;simp[Instr.sameBits]
 ·have f:some (Value.int _ _)=some v:=f;cases f;simp[Instr.sameBits]
 ·obtain⟨_,e⟩:=mF (φ:=φ) (v:=v) f;rw[e];simp[Instr.sameBits,pw];exact(Go.MapKept.bytes_beq _ _).2 rfl
def LT {n:Nat}:∀{C:List CK} {l:List CV} {vs:List Value} {r:Bool},eqL C l l=some r→bq φ l=some vs→(vs.zip vs).all (λ(x,y)=>Instr.sameBits n x y)=true
 |[],[],vs,_,_,hd=>by cases hd;rfl
 |k::C,a::l,vs,r,h,hd=>by
  simp[eqL]at h;split at h
  next x y h1 h2=>obtain⟨v,ws,rfl,q1,q2⟩:=co hd;simp[Ta h1 q1,LT h2 q2]
  ·cases h
 |[],_::_,_,_,h,_=>by simp[eqL]at h
 |_::_,[],_,_,h,_=>by simp[eqL]at h
def LS {r:Bool}(h:eqP C agg p p=some r)(j:bg φ p=some v):(Instr.keyThatStays v v).run P w = .ok v w:=by
 obtain⟨_,_,f⟩:=EN h;have:Instr.sameBits 10000 v v=true:=by
  cases p with
  |one c=>
   simp[PV.cells]at f;cases C with
   |nil=>simp[eqL]at f
   |cons k C=>
    simp[eqL]at f;split at f
    next g _=>exact Ta g j 10000
    ·cases f
  |agg l =>obtain⟨vs,e,g⟩:=tO (φ:=φ) (v:=v) j;rw[e];simp[Instr.sameBits];have:=LT (n:=9999) f g;simpa using this
 simp[Instr.keyThatStays,this]
def Bw {d:Nat}{em:Bool}{f:TypeId→Option (List CK)}(ih:∀t C,f t=some C→∀(p:PV) v r,bg φ p=some v→p.isAgg=pB (P.underlying t)→eqL C p.cells p.cells=some r→(Instr.checkKey em d t v).run P w = .ok () w)
  (hk:∀t C,f t=some C→jj (P.underlying t)=some (pB (P.underlying t))∧(pB (P.underlying t)=false→C.length=1)) (xs:Array Value) (F:Field→PUnit→Sem (ForInStep PUnit)) (hF:∀(fd:Field) (v:Value),fd.name ≠ "_" → (part fd.type xs fd.offset).run P w = .ok v w→(Instr.checkKey em d fd.type v).run P w = .ok () w→(F fd PUnit.unit).run P w = .ok (.yield PUnit.unit) w) :
  ∀(fs:List Field) (off:Nat) (C:List CK) (l:List CV) (r:Bool),abl (ap P) f fs off=some C→bq φ l=some (xs.toList.drop off)→eqL C l l=some r→(forIn fs PUnit.unit F).run P w = .ok PUnit.unit w
 |[],off,C,l,r,hc,hx,he=>by simp
 |fd::fs,off,C,l,r,hc,hx,he=>by
  simp only[abl]at hc;split at hc
  next hn=>
   split at hc
   ·rename_i ka hka;split at hc
    ·rename_i hz;split at hc
     ·rename_i kb hkb;cases hc;obtain⟨r1,r2,e1,e2,rfl⟩:=yK he;obtain⟨hl1,_⟩:=N8 e1;have hsz:ap P fd.type≠0:=Ω
      obtain⟨hb,hk1⟩:=hk _ _ hka;have hd2:=lS ka.length hx;have hp:∃p v,p.cells=l.take ka.length∧p.isAgg=pB (P.underlying fd.type)∧bg φ p=some v∧(part fd.type xs fd.offset).run P w = .ok v w:=by
       cases hs:pB (P.underlying fd.type)with
       |true =>rw[hs]at hb;refine⟨.agg (l.take ka.length),.agg ((xs.toList.drop off).take ka.length).toArray,rfl,rfl,by simp[bg,hd2], ?_⟩;simp[part,ν,run_isAgg hb,aJ hsz,Z',hn.2,hz.1];congr 2;apply i_;simp
       |false=>
        rw[hs]at hb;have hone:ka.length=1:=hk1 hs;rw[hone]at hd2 hl1;match hlt:l.take 1,hl1 with
        |[c],_=>
         rw[hlt]at hd2;obtain⟨v,ws,e3,h1,h2⟩:=co hd2;have hg:xs[off]? = some v:=by
          have:((xs.toList.drop off).take 1)[0]? = some v:=by rw[e3];rfl
          rw[E']at this;split at this
          ·simpa[U']using this
          ·cases this
         refine⟨.one c,v,by rw[hone,hlt];rfl,rfl,h1, ?_⟩;simp[part,ν,run_isAgg hb,hn.2,hg]
      obtain⟨p,v,p1,p2,p3,p4⟩:=hp;have hA:=ih fd.type ka hka p v r1 p3 p2 (by rw[p1];exact e1);have hR:=Bw ih hk xs F hF fs (off+ka.length) kb (l.drop ka.length) r2 hkb (by rw[←List.drop_drop];exact jq _ hx) e2;simp[ν,hF fd v hn.1 p4 hA];exact hR
     ·cases hc
    ·cases hc
   ·cases hc
  ·cases hc
def IC {em:Bool}:∀(d:Nat) (D:Nat) (t:TypeId) (C:List CK),i4 P d t=some C→∀(p:PV) v r,bg φ p=some v→p.isAgg=pB (P.underlying t)→eqL C p.cells p.cells=some r→(Instr.checkKey em (D+d) t v).run P w = .ok () w
 |0,D,t,C,h,p,v,r,_,_,_=>by cases h
 |d+1,D,t,C,h,p,v,r,hx,hp,he=>by
  simp[i4]at h;rw[←Nat.add_assoc];split at h
  next hu=>simp only[Instr.checkKey,ν,ε hu,Θ];rfl
  next k hu=>simp only[Instr.checkKey,ν,ε hu,Θ];rfl
  next hu=>simp only[Instr.checkKey,ν,ε hu,Θ];rfl
  next fs hu=>
   split at h
   ·cases h
   ·rw[hu]at hp;cases p with
    |one c=>cases hp
    |agg l =>obtain⟨T,U,g⟩:=tO (φ:=φ) (v:=v) hx;subst U;rw[Instr.checkKey];simp only[ν,ε hu,Θ];rw[←Array.forIn_toList];rw[Bw (P:=P) (w:=w) (em:=em) (d:=D+d) (λt C f p v r=>IC d D t C f p v r) (λt C f=>S6 d t C f) T.toArray _ (λfd v R J j=>by simp[R,J,j]) fs.toList 0 C l r h (by simpa using g) he];rfl
  ·cases h
def kOk (P:Program)(J:TypeId)(C:List CK)(agg:Bool):Prop:=i4 P 20 J=some C∧agg=pB (P.underlying J)
def Cr {q:EqK}(h:AL P t=some q):∃C agg,q = .flat C agg∧kOk P t C agg:=by
 unfold AL at h;split at h
 next fs f=>
  split at h
  next C g=>simp at h;exact⟨C,true,h.symm,g,by rw[f];rfl⟩
  ·cases h
 next d hd f=>
  split at h
  next C g=>simp at h;refine⟨C,false,h.symm,g, ?_⟩;rw[f];cases d <;> first|rfl|(exact absurd rfl (hd _))
  ·cases h
 ·cases h
def je (g:kOk P J C agg)(j:bg φ p=some v)(f:xP C agg p=true)(em:Bool):(Instr.checkKey em 10000 J v).run P w = .ok () w:=by
 unfold xP at f;split at f
 next r hr=>obtain⟨R,_,l⟩:=EN hr;exact IC (P:=P) (w:=w) 20 9980 J C g.1 p v r j (R.trans g.2) l
 ·cases f
def Fnd (_:Gx)(es:List ME)(vs:List MapEntry)(i:Nat)(C:List CK)(agg:Bool)(k:PV)(r:Option (Nat×ME))(o:Option (Nat×Value)):Prop:=match r with
 |none=>o=none
 |some (n,e)=>∃j m,n=i+j∧o=some (n,m.val)∧es[j]? = some e∧vs[j]? = some m∧eqP C agg k e.key=some true
def Fnd.next {k:PV}{o:Option (Nat×Value)}(f:Fnd φ es vs (i+1) C agg k r o):Fnd φ (e::es) (m::vs) i C agg k r o:=by
 unfold Fnd at f⊢;split
 ·exact f
 ·obtain⟨j,m,P,J,p,l,g⟩:=f;exact⟨j+1,m,Ω,J,by simpa using p,by simpa using l,g⟩
def nA (C:iT φ (e::es) (m::vs)):bg φ e.key=some m.key∧bg φ e.val=some m.val∧m.born=e.born∧iT φ es vs:=by obtain⟨J,g⟩:=C;obtain⟨v,q1,q2,l,j⟩:=g 0 e rfl;cases q1;refine⟨q2,l,j,by simpa using J,λi P f=>?_⟩;obtain⟨v,r,p⟩:=g (i+1) P (by simpa using f);exact⟨v,by simpa using r,p⟩
def R8 {J:TypeId}{C:List CK}{agg:Bool}(f:kOk P J C agg){k:PV}{v:Value}(j:bg φ k=some v):∀{es:List ME} {vs:List MapEntry} {i:Nat} {r:Option (Nat×ME)},iT φ es vs→uP C agg k es i=some r→∃o,(Instr.findAsking J v vs i).run P w = .ok o w∧Fnd φ es vs i C agg k r o
 |[],[],i,r,_,hf=>by cases hf;exact⟨none,rfl,rfl⟩
 |[],_::_,i,r,hd,hf=>by have:=hd.1;simp at this
 |_::_,[],i,r,hd,hf=>by have:=hd.1;simp at this
 |e::es,m::vs,i,r,hd,hf=>by
  obtain⟨l,T,R,p⟩:=nA hd;simp[uP]at hf;split at hf
  next g=>cases hf;exact⟨some (i,m.val),by simp[Instr.findAsking,Vi f.1 f.2 j l g],0,m,rfl,rfl,rfl,rfl,g⟩
  next g=>obtain⟨o,q1,q2⟩:=R8 f j p hf;exact⟨o,by simp[Instr.findAsking,Vi f.1 f.2 j l g,q1],q2.next⟩
  ·cases hf
def P6 (T:kOk P J C agg){d:TypeDesc}(j:P.underlying J=some d){R l:Value}{r b:Bool}(hx:bg φ p=some R)(U:bg φ q=some l)(he:eqP C agg p q=some r)(g:Instr.sameNow d R l=some b):b=r:=by
 have f:=Vi (P:=P) (w:=default) T.1 T.2 hx U he;unfold Instr.sameNow at g;split at g
 next k a k' b'=>
  split at g
  next hkk=>subst hkk;simp at g;have:=ati (P:=P) default 9999 J k _ a b' j;rw[show Op.equal J (.int k a) (.int k b')=Op.equalIn (9999+1) J (.int k a) (.int k b') from rfl,this]at f;injection f with f _;rw[←f,←g]
  ·cases g
 next a b'=>simp at g;have:=as2 (P:=P) default 9999 J a b' j;rw[show Op.equal J (.string a) (.string b')=Op.equalIn (9999+1) J (.string a) (.string b') from rfl,this]at f;injection f with f _;rw[←f,←g,beq_toListBytes]
 next a b'=>simp at g;have:=atd (P:=P) default 9999 J a b' j;rw[show Op.equal J (.bool a) (.bool b')=Op.equalIn (9999+1) J (.bool a) (.bool b') from rfl,this]at f;injection f with f _;rw[←f,←g]
 ·cases g
def R7 {J:TypeId}{C:List CK}{agg:Bool}(l:kOk P J C agg){d:TypeDesc}(f:P.underlying J=some d){k:PV}{v:Value}(j:bg φ k=some v):∀{es:List ME} {vs:List MapEntry} {i:Nat} {r:Option (Nat×ME)} {o:Option (Nat×Value)},iT φ es vs→uP C agg k es i=some r→Instr.findNow d v vs i=some o→Fnd φ es vs i C agg k r o
 |[],[],i,r,o,_,hf,hn=>by simp[uP]at hf;simp[Instr.findNow]at hn;subst hf;subst hn;rfl
 |[],_::_,i,r,o,f,hf,_=>by have:=f.1;simp at this
 |_::_,[],i,r,o,f,hf,_=>by have:=f.1;simp at this
 |e::es,m::vs,i,r,o,hde,hf,hn=>by
  obtain⟨p,U,T,R⟩:=nA hde;simp[uP]at hf;simp[Instr.findNow]at hn;split at hn
  next hb=>
   cases hn;split at hf
   next g=>cases hf;exact⟨0,m,rfl,rfl,rfl,rfl,g⟩
   next g=>have:=P6 l f j p g hb;cases this
   ·cases hf
  next hb=>
   split at hf
   next g=>have:=P6 l f j p g hb;cases this
   ·exact(R7 l f j R hf hn).next
   ·cases hf
  ·cases hn
def qV (j:kOk P J C agg){k:PV}(l:bg φ k=some v)(R:iT φ es vs)(p:uP C agg k es 0=some r):∃o,(Instr.findKey J v vs).run P w = .ok o w∧Fnd φ es vs 0 C agg k r o:=by
 obtain⟨d,f⟩:∃d,P.underlying J=some d:=by
  cases f:P.underlying J with
  |some d=>exact⟨d,rfl⟩
  |none =>have:=j.1;simp[i4,f]at this
 cases g:Instr.findNow d v vs 0 with
 |some o=>exact⟨o,by simp[Instr.findKey,ε f,g],R7 j f l R p g⟩
 |none =>obtain⟨o,q1,q2⟩:=R8 (w:=w) j l R p;exact⟨o,by simp[Instr.findKey,ε f,g,q1],q2⟩
def P3 (f:ME→ME):∀(es:List ME) (i j:Nat),(B7 es i f)[j]? = if i=j then(es[j]?).map f else es[j]?
 |[],i,j=>by simp[B7]
 |e::es,0,0=>by simp[B7]
 |e::es,0,j+1=>by simp[B7]
 |e::es,i+1,0=>by simp[B7]
 |e::es,i+1,j+1=>by simp only[B7,arN,P3 f es i j];simp
def P2 (f:ME→ME):∀(es:List ME) (i:Nat),(B7 es i f).length=es.length
 |[],i=>rfl
 |e::es,0=>rfl
 |e::es,i+1=>by simp[B7,P2 f es i]
def CN {vs:Array MapEntry}(r:iT φ es vs.toList){f:ME→ME}{g:MapEntry→MapEntry}(p:∀e m,es[i]? = some e→vs[i]? = some m→bg φ e.key=some m.key→bg φ e.val=some m.val→m.born=e.born→bg φ (f e).key=some (g m).key∧bg φ (f e).val=some (g m).val∧(g m).born=(f e).born):iT φ (B7 es i f) (vs.modify i g).toList:=by
 refine⟨by simp[P2];simpa using r.1,λj e l=>?_⟩;rw[P3]at l;rw[l_,r?];split at l
 next hij=>subst hij;rw[β rfl];simp at l;obtain⟨J,C,rfl⟩:=l;obtain⟨m,q1,q2,R,P⟩:=r.2 i J C;rw[l_]at q1;exact⟨g m,by rw[q1];rfl,p J m C q1 q2 R P⟩
 next hij=>rw[ο hij];obtain⟨m,q1,q2⟩:=r.2 j e l;rw[l_]at q1;exact⟨m,q1,q2⟩
def Ij {vs:Array MapEntry}(l:iT φ es vs.toList)(C:bg φ e.key=some m.key)(r:bg φ e.val=some m.val)(p:m.born=e.born):iT φ (es++[e]) (vs.push m).toList:=by
 have g:vs.size=es.length:=by rw[←l.1,ρ]
 refine⟨by simp[g],λj x f=>?_⟩;rw[l_];obtain hj|hj:=T' j es.length
 ·rw[ω hj]at f;obtain⟨v,q1,q2⟩:=l.2 j x f;rw[l_]at q1;exact⟨v,by rw[Array.getElem?_push,ο Ω];exact q1,q2⟩
 ·rw[P' hj]at f;have:j=es.length:=by
   have:=(g_.1 f).1;simp at this;omega
  subst this;simp at f;subst f;exact⟨m,by rw[←g];simp,C,r,p⟩
def Inv.setO (hI:Inv B R φ h w){k:Pos}(hl:φ.loc k 0=some l)(p:∀g,0<g→φ.loc k g=none){ob j:Obj}(hb:w.heap[l.b]? = some ob)(P:acl ob=false){r:EO}(T:iZ φ { w with heap:=w.heap.setIfInBounds l.b j } B k r)(U:i5 r=false:=by rfl):Inv B R φ (upd h k r) { w with heap:=w.heap.setIfInBounds l.b j }:=by
 have only:∀g J,φ.loc k g=some J→J=l:=λg J f=>by
  cases g with
  |zero=>rw[hl]at f;exact(χ f).symm
  |succ g=>rw[p _ Ω]at f;cases f
 refine hI.turn (ψ:=φ) (Gx.le.refl φ) (λ_ _=>⟨λ_=>rfl,rfl,rfl⟩) (λg1 C x=>.inl ⟨g1,C,x,rfl⟩) (λb hb' hne=>?_) (λg1 C x ob1 h1 h2=>?_) rfl rfl rfl Ψ (δ _) T U
 ·simp[hne 0 l hl]
 ·rw[only g1 C x,hb]at h1;cases h1;rw[P]at h2;cases h2
def AH (P:Inv B R φ h w){m:Pos}{clock:Nat}(J:h m = .map es clock)(C:RT φ (.pv (.one (.mp m))) v):∃l vs,φ.loc m 0=some l∧(∀g,0<g→φ.loc m g=none)∧v = .map (some l.b)∧B≤l.b∧w.heap[l.b]? = some (.map vs clock)∧iT φ es vs.toList:=by obtain⟨l,j,T⟩:=WX C;have f:=P.obj m;rw[J]at f;obtain⟨U,l',vs,q1,q2,r,p⟩:=f;rw[j]at q1;cases q1;exact⟨l,vs,j,U,T,q2,r,p⟩
def Inv.setM (J:Inv B R φ h w){m:Pos}(p:φ.loc m 0=some l)(f:∀g,0<g→φ.loc m g=none)(P:B≤l.b){vs vs':Array MapEntry}{c c':Nat}(r:w.heap[l.b]? = some (.map vs c)){j:List ME}(C:iT φ j vs'.toList):Inv B R φ (upd h m (.map j c')) { w with heap:=w.heap.setIfInBounds l.b (.map vs' c') } :=
 J.setO p f r rfl ⟨f,l,vs',p,P,(Go.MapKept.heap_set r).1,C⟩
def OR {z:PV}(f:eQ P t=some z)(w:World):∃v,(zeroValue t).run P w = .ok v w∧∀φ,bg φ z=some v:=by obtain⟨i,v,l,j,g⟩:=gU f;exact⟨v,by simp[zeroValue,typeInfo,l,j],g⟩
def ai5 (hI:Inv B R φ h w){e:TypeId}{x y:Operand}{ok:Bool}(ho:o.op = .lookup t x y ok)(hu:P.underlying t=some (.map J e)){q:EqK}(hkey:AL P J=some q){z:PV}(hz:eQ P e=some z){vals:List TV}(hv:RTs φ vals [a.eval x,a.eval y]){f:Pos}{out:TV}{wr:Option (Pos×EO)}(g:(Sq q z ok vals f).run h=some (out,wr)):OkX P B R φ h w o a out wr:=by
 obtain⟨C,agg,rfl,hk⟩:=Cr hkey;unfold Sq at g;split at g
 ·obtain⟨v1,ws,e1,hr1,hr2⟩:=hv.cons;obtain⟨v2,e2,T⟩:=hr2.one;subst e2;simp at e1;obtain⟨e1,e2⟩:=e1;subst e1;subst e2;split at g
  next ks' agg' kv heq=>
   injection heq with h1 h2;subst h1;subst h2;have T:bg φ kv=some (a.eval y):=T;cases hok:xP C agg kv with
   |false=>rw[hok]at g;cases g
   |true=>
    rw[hok,ξ]at g;obtain⟨zv,hzr,hzd⟩:=OR hz w;have fin:∀{r:Option PV} {v:Option Value},(wD ok z r).run h=some (out,wr)→(match r,v with|none,none=>True|some p,some u=>bg φ p=some u|_,_=>False)→(execOp a.eval o).run P w = .ok (.value (match v with|some u=>(if ok then .tuple #[u,.bool true]else u)|none=>(if ok then .tuple #[zv,.bool false]else zv))) w→OkX P B R φ h w o a out wr:=by
     intro r v hl hm U;unfold wD at hl;cases ok with
     |true=>
      cases r with
      |none=>
       cases v with
       |some _=>cases hm
       |none =>cases hl;exact ay hI U ⟨[zv,.bool false],bU (hzd φ) rfl,rfl⟩
      |some p=>
       cases v with
       |none=>cases hm
       |some u =>cases hl;exact ay hI U ⟨[u,.bool true],bU hm rfl,rfl⟩
     |false=>
      cases r with
      |none=>
       cases v with
       |some _=>cases hm
       |none =>cases hl;exact ay hI U (hzd φ)
      |some p=>
       cases v with
       |none=>cases hm
       |some u =>cases hl;exact ay hI U hm
    split at g
    ·have ev:=rO hr1;refine fin (v:=none) g trivial ?_;unfold execOp;have hf:(Instr.findKey J (a.eval y) []).run P w = .ok none w:=by
      obtain⟨o',q1,q2⟩:=qV (w:=w) hk T (es:=[]) (vs:=[]) ⟨rfl,λi e he=>by simp at he⟩ rfl;rw[q1,show o'=none from q2]
     simp[ho,ev,Instr.lookup,ε hu,je hk T hok,hf,hzr]
    ·rename_i m;simp[Q.run]at g;split at g
     ·rename_i es clock hm;obtain⟨l,vs,q1,_,ev,_,q3,q4⟩:=AH hI hm hr1;split at g
      ·rename_i r hf;obtain⟨o',p1,p2⟩:=qV (w:=w) hk T q4 hf;refine fin (v:=o'.map (·.2)) g ?_ ?_
       ·unfold Fnd at p2;split at p2
        ·subst p2;trivial
        ·obtain⟨j,m',_,h2,h3,h4,_⟩:=p2;rw[h2];obtain⟨m2,z1,_,z3,_⟩:=q4.2 j _ h3;rw[h4]at z1;cases z1;exact z3
       ·unfold execOp;cases o' with
        |none=>simp[ho,ev,Instr.lookup,ε hu,getObj,Sem.run,q3,je hk T hok,p1,hzr,Result.andThen]
        |some pr=>simp[ho,ev,Instr.lookup,ε hu,getObj,Sem.run,q3,je hk T hok,p1,Result.andThen]
      ·cases g
     ·cases g
    ·cases g
  ·cases g
 ·cases g
end
