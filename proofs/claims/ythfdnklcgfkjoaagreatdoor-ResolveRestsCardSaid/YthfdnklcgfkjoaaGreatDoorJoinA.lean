/- What a closed run gives. -/
import Derived.Test.YthfdnklcgfkjoaaGreatDoorAbsK
import Derived.Test.YthfdnklcgfkjoaaGreatDoorTabC
set_option linter.all false
namespace Go.Proofs.YthfdnklcgfkjoaaGreatDoor.Clo
open Go Go.RowKit
open Go.Proofs.YthfdnklcgfkjoaaGreatDoor.Abs (Ty D Sb Rep RepV toD chain)
variable [SymVal]
def Ff:Ty→Nat
 |.unit=>0
 |.cons a b=>Ff a+Ff b
 |_=>1
def ak3 {j g:Type}(f:j→g→Bool):List j→List g→Bool
 |[],[]=>true
 |a::l,b::m=>f a b&&ak3 f l m
 |_,_=>false
def chk (h:Pos→EO):(t:Ty)→t.den→List CV→Bool
 |.int k,n,[.int k' m]=>decide (k'=k)&&decide (m=n)
 |.bool,b,[.bl c]=>c == b
 |.str,s,[.str l]=>cU l&&decide (l.map UInt8.ofNat=s)
 |.slice _,l,[.nils]=>l.isEmpty
 |.slice _,l,[.emp _]=>l.isEmpty
 |.slice t,l,[.sl k g off len cap]=>Nat.beq len l.length&&(match cap with|none=>true|some c=>Nat.ble len c)&&(match h k with
  |.row _ s _ _ _ _=>match rX (h k) g s len off with
   |some rows=>ak3 (chk h t) l rows
   |none=>false
  |_=>false)
 |.unit,_,[]=>true
 |.cons a b,x,f=>chk h a x.1 (f.take (Ff a))&&chk h b x.2 (f.drop (Ff a))
 |_,_,_=>false
theorem yM {g:Gx}:∀{l m:List CV} {f:List Value},bq g (l++m)=some f→∃a b,f=a++b∧bq g l=some a∧bq g m=some b
 |[],m,f,h=>⟨[],f,rfl,rfl,h⟩
 |c::l,m,f,h=>by obtain⟨v,ws,rfl,C,r⟩:=co (l:=l++m) h;obtain⟨a,b,rfl,p,j⟩:=yM r;exact⟨v::a,b,rfl,by simp[bq,C,p],j⟩
variable{φ:Gx}{B:Nat}{h:Pos→EO}{w:World}{St:Sb}
theorem aaZ {c:CV}{f:List Value}(h:bq φ [c]=some f):∃v,f=[v]∧den φ c=some v:=by obtain⟨v,ws,rfl,j,g⟩:=co h;simp[bq]at g;exact⟨v,by rw[←g],j⟩
theorem LO {φ:Gx}{h:Pos→EO}{w:World}{St:Sb}{t:Ty}(j:∀(x:t.den) (p:List CV) (f:List Value),chk h t x p=true→bq φ p=some f→Rep w St (toD t x) f) :
  ∀(l:List t.den) (rows:List (List CV)) (f:List Value),ak3 (chk h t) l rows=true→bq φ rows.flatten=some f→Rep w St (chain (toD t) l) f
 |[],[],f,_,hd=>by cases hd;rfl
 |x::l,r::rows,f,g,hd=>by simp[ak3]at g;rw[G_]at hd;obtain⟨a,b,rfl,J,C⟩:=yM hd;exact⟨a,b,rfl,j x r a g.1 J,LO j l rows b g.2 C⟩
 |[],_::_,_,g,_=>by cases g
 |_::_,[],_,g,_=>by cases g
theorem Ym {W:W0}(hI:Inv B W φ h w)(hSt:∀k g l,φ.loc k g=some l→∀o,St l.b o):∀(t:Ty) (x:t.den) (p:List CV) (J:List Value),chk h t x p=true→bq φ p=some J→Rep w St (toD t x) J:=by
 intro t;induction t with
 |int k=>
  intro x p J f C;obtain _|⟨c,_|⟨c2,r⟩⟩:=p
  ·cases f
  ·cases c <;> first|(cases f;done)|skip
   rename_i k' m;simp only[chk,ι,Δ]at f;obtain⟨rfl,rfl⟩:=f;obtain⟨v,rfl,q⟩:=aaZ C;cases q;exact⟨rfl,rfl⟩
  ·cases c <;> cases f
 |bool=>
  intro x p J f C;obtain _|⟨c,_|⟨c2,r⟩⟩:=p
  ·cases f
  ·cases c <;> first|(cases f;done)|skip
   simp only[chk,beq_iff_eq]at f;subst f;obtain⟨v,rfl,q⟩:=aaZ C;cases q;exact⟨rfl,rfl⟩
  ·cases c <;> cases f
 |str=>
  intro x p J f C;obtain _|⟨c,_|⟨c2,r⟩⟩:=p
  ·cases f
  ·cases c <;> first|(cases f;done)|skip
   simp[chk]at f;obtain⟨R,rfl⟩:=f;obtain⟨v,rfl,q⟩:=aaZ C;simp only[den,R,h?,η]at q;subst q;exact⟨rfl,rfl⟩
  ·cases c <;> cases f
 |unit=>
  intro x p J f C;obtain _|⟨c,r⟩:=p
  ·simp only[bq,η]at C;subst C;rfl
  ·cases f
 |cons a b iha ihb=>
  intro x p J f C;have f:chk h a x.1 (p.take (Ff a))=true∧chk h b x.2 (p.drop (Ff a))=true:=by unfold chk at f;simpa using f
  rw[←List.take_append_drop (Ff a) p]at C;obtain⟨u,v,rfl,R,h2⟩:=yM C;exact⟨u,v,rfl,iha _ _ _ f.1 R,ihb _ _ _ f.2 h2⟩
 |slice t ih=>
  intro x p J f C;obtain _|⟨c,_|⟨c2,r⟩⟩:=p
  ·cases f
  ·cases c <;> first|(cases f;done)|skip
   ·simp only[chk,List.isEmpty_iff]at f;subst f;obtain⟨v,rfl,q⟩:=aaZ C;simp only[den,η]at q;subst q;exact⟨none,0,0,rfl,rfl,δ _,.inl rfl⟩
   ·rename_i k g T len cap;simp only[chk,ι]at f;obtain⟨⟨R,h2⟩,h3⟩:=f;have R:=κ R;obtain⟨v,rfl,q⟩:=aaZ C;simp only[den]at q;split at q
    ·rename_i lc hl;split at q
     ·rename_i U;simp only[η]at q;subst q;split at h3
      ·rename_i e s el ln gn fz hk;split at h3
       ·rename_i rows P;obtain⟨r1,r2,ds,r3,r4⟩:=hI.rds hl P;refine⟨some ⟨lc.b,T,none⟩,len,_,rfl,R.trans (Abs.len_chain _ _).symm, ?_,.inr ⟨⟨lc.b,T,none⟩,ds,rfl,rfl,LO ih x rows ds h3 r3,λj u hu=>⟨r4 j u hu,hSt _ _ _ hl _⟩⟩⟩;cases cap with
        |none=>simp only[Bx,bD]at U;simp only[iq];omega
        |some c=>exact asz h2
       ·cases h3
      ·cases h3
     ·cases q
    ·cases q
   ·simp only[chk,List.isEmpty_iff]at f;subst f;obtain⟨v,rfl,q⟩:=aaZ C;simp only[den]at q;split at q
    next a c hv=>simp only[η]at q;subst q;exact⟨some a,0,c,rfl,rfl,s_ _,.inl rfl⟩
    ·cases q
  ·cases c <;> cases f
 |tree=>intro x p J f C;unfold chk at f;cases f
 |jsl e=>intro x p J f C;unfold chk at f;cases f
def Jz (h:Pos→EO)(t:Ty)(x:t.den):TV→Bool
 |.pv (.one c)=>bif t.isStruct then false else chk h t x [c]
 |.pv (.agg l)=>bif t.isStruct then chk h t x l else false
 |_=>false
theorem afB {W:W0}(R:Inv B W φ h w)(C:∀k g l,φ.loc k g=some l→∀o,St l.b o){t:Ty}{x:t.den}{r:TV}{v:Value}(f:Jz h t x r=true)(j:RT φ r v):RepV w St t x v:=by
 cases r with
 |unk=>cases f
 |tup l=>cases f
 |pv p=>
  cases p with
  |one c=>
   simp only[Jz,f?]at f;split at f
   ·cases f
   next P=>unfold RepV;rw[ο P];exact Ym R C t x [c] [v] f (by have:den φ c=some v:=j;simp[bq,this])
  |agg l=>
   simp only[Jz,f?]at f;split at f
   ·rename_i P;unfold RepV;rw[β P];have j:(match bq φ l with|some J=>some (.agg J.toArray)|none=>none)=some v:=j;split at j
    next J T=>cases j;exact⟨J,rfl,Ym R C t x l J f T⟩
    ·cases j
   ·cases f
def gl0:Glt:=λ_ _=>none
theorem NI {P:Program}(p:∀w,SymVal.fact w)(hm:P.follows .mixedOrders=true){tb:Tb}(htb:yX P gl0 tb){R dp:Nat}{f:FuncId}{as:List TV}{ds:List ((t:Ty)×t.den)}(hds:∀w St T,Abs.RepVs w St ds T→RTs φN as T){t:Ty}{x:t.den}{v:TV}{d':DM}{n':Pos}
  (r:mkR tb (fiOf P gl0) R dp noY .nil (.fn f) as .leaf .e = .ok v d' n') (C:Jz (HP.ov .nil d').get t x v=true) (hcb:Callable P f):Abs.MeetsD P f ds (.val t x):=by
 refine⟨hcb,λw St hSt T U=>?_⟩;obtain⟨_,hc⟩:=Jy hm htb (hds w St T U) r w ⟨λg t v h=>(by cases h),λw _=>p w⟩;refine hc.mono ?_;rintro e w' ⟨u,ψ,rfl,J,hr⟩;refine⟨u,⟨λb o=>St b o∨(w.heap.size≤b∧b<w'.heap.size),St.j⟩,rfl,J.below,J.kp.dr,⟨λ_ _ h=>.inl h,λ_ _ _ _ h=>h⟩,λ_ _ h=>h,λ_ _ _ _ h=>.inl h,u,rfl, ?_⟩;exact afB (St:=⟨λb o=>St b o∨(w.heap.size≤b∧b<w'.heap.size),St.j⟩) J (λk g l hl o=>Or.inr ⟨(J.blk hl).1,J.lt hl⟩) C hr
