/- The machines and the plain laws, part 5. -/
import Derived.Test.YtlfojfedfhpoiaaGreatDoorB4
import Derived.Test.YtlfojfedfhpoiaaGreatDoorB3
import Derived.ChangeArms
import Derived.ReadAgain
import Derived.ChangeSame
import Derived.Deep.DeepHandedRow
import Derived.Test.YtlfojfedfhpoiaaGreatDoorB1
import Derived.KernelRfl
import Derived.Shelf.Strings.OnBuilder
import Derived.Shelf.Strings.Split
import Derived.Shelf.Bytes.SlIndexWhole
import Derived.Shelf.Pu.ParseUintPublic10
import Derived.Shelf.Strings.Repeat
set_option linter.unusedVariables false
set_option linter.unusedSectionVars false
set_option linter.unusedSimpArgs false
set_option maxRecDepth 100000
namespace Go.Sx
open Go Go.Gx Go.Mx
variable [qG]
mutual
theorem zqP{ph:List PB}{h0:SH}:∀ (p:PV) {v:SV} {ls:List Lf},mV ph h0 p v=some ls->∀ r,∃ w,iV p (ls++r)=(w,r)
 |.drop,v,ls,h,r=>by simp [mV] at h;subst h;exact⟨_,rfl⟩
 |.bool,v,ls,h,r=>by
  cases v<;>first|(simp [mV] at h;done)|skip
  rename_i w;cases w<;>first|(simp [mV] at h;done)|skip
  simp [mV] at h;subst h;exact⟨_,rfl⟩
 |.int k,v,ls,h,r=>by
  cases v<;>first|(simp [mV] at h;done)|skip
  rename_i w;cases w<;>first|(simp [mV] at h;done)|skip
  simp [mV] at h;obtain⟨rfl,rfl⟩:=h;exact⟨_,rfl⟩
 |.u8,v,ls,h,r=>by
  cases v<;>first|(simp [mV] at h;done)|skip
  simp [mV] at h;subst h;exact⟨_,rfl⟩
 |.str,v,ls,h,r=>by
  cases v<;>first|(simp [mV] at h;done)|skip
  rename_i w;cases w<;>first|(simp [mV] at h;done)|skip
  simp [mV] at h;subst h;exact⟨_,rfl⟩
 |.cst c,v,ls,h,r=>by
  cases v<;>first|(simp [mV] at h;done)|skip
  simp only[mV] at h
  split at h
  ·cases h;exact⟨_,rfl⟩
  ·cases h
 |.isl u,v,ls,h,r=>by
  cases v<;>first|(simp [mV] at h;done)|skip
  simp only[mV] at h
  split at h
  ·cases h;exact⟨_,rfl⟩
  ·cases h
 |.ptr loc off lim,v,ls,h,r=>by
  cases v<;>first|(simp [mV] at h;done)|skip
  simp only[mV] at h
  split at h
  ·cases h;exact⟨_,rfl⟩
  ·cases h
 |.zfq g off lim,v,ls,h,r=>by
  cases v<;>first|(simp [mV] at h;done)|skip
  simp only[mV] at h
  split at h
  ·cases h;exact⟨_,rfl⟩
  ·cases h
 |.zjV loc n len,v,ls,h,r=>by
  cases v<;>first|(simp [mV] at h;done)|skip
  simp only[mV] at h
  split at h
  ·cases h;exact⟨_,rfl⟩
  ·cases h
 |.gs loc n,v,ls,h,r=>by
  cases v<;>first|(simp [mV] at h;done)|skip
  simp only[mV] at h
  split at h
  ·cases h;exact⟨_,rfl⟩
  ·cases h
 |.sl loc n c,v,ls,h,r=>by
  cases v<;>first|(simp [mV] at h;done)|skip
  simp only[mV] at h
  split at h
  ·cases h;exact⟨_,rfl⟩
  ·cases h
 |.zf1 loc n fo,v,ls,h,r=>by
  cases v<;>first|(simp [mV] at h;done)|skip
  simp only[mV] at h
  split at h
  ·cases h;exact⟨_,rfl⟩
  ·cases h
 |.map loc,v,ls,h,r=>by
  cases v<;>first|(simp [mV] at h;done)|skip
  simp only[mV] at h
  split at h
  ·cases h;exact⟨_,rfl⟩
  ·cases h
 |.yld loc,v,ls,h,r=>by
  cases v<;>first|(simp [mV] at h;done)|skip
  simp only[mV] at h
  split at h
  ·cases h;exact⟨_,rfl⟩
  ·cases h
 |.ze1 u fo,v,ls,h,r=>by
  cases v<;>first|(simp [mV] at h;done)|skip
  simp only[mV] at h
  split at h
  ·split at h
   ·cases h;exact⟨_,rfl⟩
   ·cases h
  ·cases h
 |.fn f a b,v,ls,h,r=>by
  cases v<;>first|(simp [mV] at h;done)|skip
  simp only[mV] at h
  split at h
  ·rename_i l1 l2 hf h1 h2
   cases h
   obtain⟨wa,e1⟩:=za6 a h1 (l2++r)
   obtain⟨wb,e2⟩:=za6 b h2 r
   exact⟨.fn f wa wb,by simp only[iV,List.append_assoc,e1,e2]⟩
  ·cases h
 |.ifc t p,v,ls,h,r=>by
  cases v<;>first|(simp [mV] at h;done)|skip
  simp only[mV] at h
  split at h
  ·obtain⟨w,e1⟩:=zqP p h r
   exact⟨.ifc t w,by simp only[iV,e1]⟩
  ·cases h
 |.agg l,v,ls,h,r=>by
  cases v<;>first|(simp [mV] at h;done)|skip
  simp only[mV] at h
  obtain⟨w,e1⟩:=za6 l h r
  exact⟨.agg w,by simp only[iV,e1]⟩
 |.tup l,v,ls,h,r=>by
  cases v<;>first|(simp [mV] at h;done)|skip
  simp only[mV] at h
  obtain⟨w,e1⟩:=za6 l h r
  exact⟨.tup w,by simp only[iV,e1]⟩
theorem za6{ph:List PB}{h0:SH}:∀ (p:List PV) {v:List SV} {ls:List Lf},mVs ph h0 p v=some ls->∀ r,∃ w,iVs p (ls++r)=(w,r)
 | [],v,ls,h,r=>by
  cases v with
  |nil=>simp [mVs] at h;subst h;exact⟨[],rfl⟩
  |cons=>simp [mVs] at h
 |p::l,v,ls,h,r=>by
  cases v with
  |nil=>simp [mVs] at h
  |cons v vs=>
   simp only[mVs] at h
   split at h
   ·rename_i l1 l2 h1 h2
    cases h
    obtain⟨wa,e1⟩:=zqP p h1 (l2++r)
    obtain⟨wb,e2⟩:=za6 l h2 r
    exact⟨wa::wb,by simp only[iVs,List.append_assoc,e1,e2]⟩
   ·cases h
end
theorem zlo{X Z:Gst}(hh:Z.h=X.h)(hΦ:Z.Φ=X.Φ):∀ (u:U) (x:El u) {ys:List AV},RVs X (enc u x) ys->RVs Z (enc u x) ys
 |.bool,_,_,q=>q
 |.int _,_,_,q=>q
 |.u8,_,_,q=>q
 |.str,_,_,q=>q
 |.sl u,l,_,⟨y,ys,e,q1,q2⟩=>⟨y,ys,e,by show RSl Z.h Z.Φ false u l y;rw[hh,hΦ];exact q1,q2⟩
 |.pair u v,x,_,q=>by
  rename_i ys
  have h1:=q.take (enc u x.1).length
  have h2:=q.drop (enc u x.1).length
  rw[show enc (.pair u v) x=enc u x.1++enc v x.2 from rfl] at h1 h2
  rw[List.take_left] at h1
  rw[List.drop_left] at h2
  have:=(zlo hh hΦ u x.1 h1).append (zlo hh hΦ v x.2 h2)
  rwa [List.take_append_drop] at this
 |.unit,_,_,q=>q
theorem zqk{X Z:Gst}(hh:Z.h=X.h)(hΦ:Z.Φ=X.Φ):∀ (u:U) (x:El u) {y:AV},RV X (zh1 u x) y->RV Z (zh1 u x) y
 |.bool,_,_,q=>q
 |.int _,_,_,q=>q
 |.u8,_,_,q=>q
 |.str,_,_,q=>q
 |.sl u,l,y,q=>by show RSl Z.h Z.Φ false u l y;rw[hh,hΦ];exact q
 |.pair u v,x,_,⟨ys,e,q⟩=>⟨ys,e,zlo hh hΦ (.pair u v) x q⟩
 |.unit,_,_,q=>q
theorem zpy{α:Type}{X Z:Gst}(hh:Z.h=X.h)(hΦ:Z.Φ=X.Φ)(u:U)(f:α->El u):∀ (l:List α) {ys:List AV},RVs X (l.map fun p=>zh1 u (f p)) ys->RVs Z (l.map fun p=>zh1 u (f p)) ys
 | [],_,q=>q
 |p::l,_,⟨y,ys,e,q1,q2⟩=>⟨y,ys,e,zqk hh hΦ u _ q1,zpy hh hΦ u f l q2⟩
def mB(ph:List PB)(h:SH):PB->SB->Option (List Lf)
 |.cells l md mk,.cells l' md' mk'=>match Nat.beq md md'&&mkB mk mk' with
  |true=>mVs ph h l l'
  |false=>none
 |.loop pe id md,.loop e id' md'=>match Nat.beq md md'&&Nat.beq id id' with
  |true=>mVs ph h pe e
  |false=>none
 |.seq u n md fx,.seq u' l k md'=>match Nat.beq md md'&&((!fx||Nat.beq k n)&&mkB (mkS n) (mkS k)),wK u' u l with
  |true,some l=>some [.l u l]
  |_,_=>none
 |.map ks vs md,.map ks' vs' md'=>match Nat.beq md md',mVs ph h ks ks',mVs ph h vs vs' with
  |true,some a,some b=>some (a++b)
  |_,_,_=>none
 |.kv u v md,b=>match b with
  |.kv u' v' l md'=>match Nat.beq md md',wK (.pair u' v') (.pair u v) l with
   |true,some l=>some [.l (.pair u v) l]
   |_,_=>none
  |.map ks vs md'=>match Nat.beq md md',ks,vs with
   |true,[],[]=>some [.l (.pair u v) []]
   |_,_,_=>none
  |_=>none
 |.gone,_=>some []
 |_,_=>none
def mBs(ph:List PB)(h:SH):List PB->List SB->Option (List Lf)
 | [],_=>some []
 |p::l,b::r=>match mB ph h p b,mBs ph h l r with
  |some x,some y=>some (x++y)
  |_,_=>none
 |_,_=>none
def iB:PB->List Lf->SB×List Lf
 |.cells l md mk,r=>(.cells (iVs l r).1 md mk,(iVs l r).2)
 |.seq u n md fx,.l u' x::r=>(.seq u' x n md,r)
 |.map ks vs md,r=>(.map (iVs ks r).1 (iVs vs (iVs ks r).2).1 md,(iVs vs (iVs ks r).2).2)
 |.kv u v md,.l (.pair u' v') x::r=>(.kv u' v' x md,r)
 |.loop pe id md,r=>(.loop (iVs pe r).1 id md,(iVs pe r).2)
 |_,r=>(.gone,r)
def iBs:List PB->List Lf->List SB×List Lf
 | [],r=>([],r)
 |p::l,r=>((iB p r).1::(iBs l (iB p r).2).1,(iBs l (iB p r).2).2)
structure PS where
 env:List PV
 h:List PB
def mS(p:PS)(st:SS):Option (List Lf):=match mVs p.h st.h p.env st.env,mBs p.h st.h p.h st.h with
 |some x,some y=>some (x++y)
 |_,_=>none
def iS(p:PS)(ls:List Lf):SS:=⟨(iVs p.env ls).1,(iBs p.h (iVs p.env ls).2).1⟩
def Lk(pb:PB)(b b':SB):Prop:=(pb=.gone/\b'=.gone) \/
 (∃ l l' md mk mk',mkB mk mk'=true/\b=.cells l md mk'/\b'=.cells l' md mk/\∃ pl,pb=.cells pl md mk)\/(∃ u l k n md,b=.seq u l k md/\b'=.seq u l n md/\∃ fx,pb=.seq u n md fx/\(fx=true->k=n)/\mkB (mkS n) (mkS k)=true)\/(∃ ks vs ks' vs' md,b=.map ks vs md/\b'=.map ks' vs' md/\∃ pk pv,pb=.map pk pv md)\/(∃ u v l md,((∃ l',b=.kv u v l' md)\/b=.map [] [] md)/\b'=.kv u v l md/\pb=.kv u v md)\/(∃ e e' id md,b=.loop e id md/\b'=.loop e' id md/\∃ pe,pb=.loop pe id md)
theorem zqO{ph:List PB}{h0:SH}{p:PB}{b:SB}{ls:List Lf}(h:mB ph h0 p b=some ls)(r:List Lf):∃ w,iB p (ls++r)=(w,r)/\Lk p b w:=by
 unfold mB at h
 split at h
 ·split at h
  ·rename_i l md mk l' md' mk' _ hb
   simp only[Bool.and_eq_true] at hb
   obtain⟨hb,hmk⟩:=hb
   have hb:=zd hb
   subst hb
   obtain⟨w,e⟩:=za6 _ h r
   exact⟨.cells w md mk,by simp only[iB,e],.inr (.inl ⟨_,_,_,_,_,hmk,rfl,rfl,_,rfl⟩)⟩
  ·cases h
 ·split at h
  ·rename_i pe id md e id' md' _ hb
   simp only[Bool.and_eq_true] at hb
   cases zd hb.1;cases zd hb.2
   obtain⟨w,e⟩:=za6 _ h r
   exact⟨.loop w id md,by simp only[iB,e],.inr (.inr (.inr (.inr (.inr ⟨_,_,_,_,rfl,rfl,_,rfl⟩))))⟩
  ·cases h
 ·split at h
  ·rename_i u n md fx u' l k md' _ _ l2 hb hc
   simp only[Bool.and_eq_true,Bool.or_eq_true,Bool.not_eq_true'] at hb
   obtain⟨hb,hfx,hmk⟩:=hb
   have hb:=zd hb
   subst hb
   obtain⟨e1,e2⟩:=zP hc
   subst e1;cases e2;cases h
   exact⟨.seq u' l n md,rfl,.inr (.inr (.inl ⟨_,_,_,_,_,rfl,rfl,_,rfl,fun e=>hfx.elim (fun h=>by rw[e] at h;cases h) zd,hmk⟩))⟩
  ·cases h
 ·split at h
  ·rename_i ks vs md ks' vs' md' _ _ _ a b' hb h1 h2
   have hb:=zd hb
   subst hb
   cases h
   obtain⟨w1,e1⟩:=za6 _ h1 (b'++r)
   obtain⟨w2,e2⟩:=za6 _ h2 r
   exact⟨.map w1 w2 md,by simp only[iB,List.append_assoc,e1,e2],.inr (.inr (.inr (.inl ⟨_,_,_,_,_,rfl,rfl,_,_,rfl⟩)))⟩
  ·cases h
 ·rename_i u v md
  split at h
  ·split at h
   ·rename_i u' v' l' md' _ _ l2 hb hc
    have hb:=zd hb
    subst hb
    obtain⟨e1,e2⟩:=zP hc
    cases e1;cases e2;cases h
    exact⟨.kv u v l' md,rfl,.inr (.inr (.inr (.inr (.inl ⟨_,_,_,_,.inl ⟨_,rfl⟩,rfl,rfl⟩))))⟩
   ·cases h
  ·split at h
   ·rename_i ks vs md' hb
    have hb:=zd hb
    subst hb
    cases h
    exact⟨.kv u v [] md,rfl,.inr (.inr (.inr (.inr (.inl ⟨_,_,_,_,.inr rfl,rfl,rfl⟩))))⟩
   ·cases h
  ·cases h
 ·cases h;exact⟨.gone,rfl,.inl ⟨rfl,rfl⟩⟩
 ·cases h
theorem zoK{ph:List PB}{h0:SH}:∀ {pl:List PB} {bl:List SB} {ls:List Lf},mBs ph h0 pl bl=some ls->∀ r,∃ zs,iBs pl (ls++r)=(zs,r)/\zs.length=pl.length/\pl.length<=bl.length/\∀ (i:Nat) (b':SB),zs[i]?=some b'->∃ pb b,pl[i]?=some pb/\bl[i]?=some b/\Lk pb b b'
 | [],bl,ls,h,r=>by simp [mBs] at h;subst h;exact⟨[],rfl,rfl,Nat.zero_le _,fun i b' h=>by simp at h⟩
 |p::pl,bl,ls,h,r=>by
  cases bl with
  |nil=>simp [mBs] at h
  |cons b bl=>
   simp only[mBs] at h
   split at h
   ·rename_i l1 l2 h1 h2
    cases h
    obtain⟨w,e1,k1⟩:=zqO h1 (l2++r)
    obtain⟨zs,e2,k2,k3,k4⟩:=zoK h2 r
    refine⟨w::zs,by simp only[iBs,List.append_assoc,e1,e2],by simp [k2],by simp [k3],fun i b' hi=>?_⟩
    cases i with
    |zero=>simp at hi;subst hi;exact⟨p,b,rfl,rfl,k1⟩
    |succ i=>simpa using k4 i b' (by simpa using hi)
   ·cases h
theorem znA{ph:List PB}{X Z:Gst}(hM:Mt ph X Z){p:PB}{b:SB}{ls:List Lf}(h:mB ph X.sh p b=some ls){o:Option (Nat×Nat)}(hB:RB X b o)(r:List Lf):RB Z (iB p (ls++r)).1 o:=by
 unfold mB at h
 split at h
 ·split at h
  ·rename_i hb
   simp only[Bool.and_eq_true] at hb
   obtain⟨m,l',tt,e,h1,h2⟩:=hB
   obtain⟨w,e1,q⟩:=jh hM _ h h2 r
   obtain⟨tt',htt⟩:=zl3 hb.2 tt
   simp only[iB,e1]
   exact⟨m,l',tt',e,by rw[hM.h,<- htt];exact h1,q⟩
  ·cases h
 ·split at h
  ·obtain⟨m,env',ps,asg,body,e,h1,h2,h3⟩:=hB
   rename_i hb
   simp only[Bool.and_eq_true] at hb
   cases zd hb.2
   obtain⟨w,e1,q⟩:=jh hM _ h h3 r
   simp only[iB,e1]
   exact⟨m,env',ps,asg,body,e,h1,by rw[hM.h];exact h2,q⟩
  ·cases h
 ·split at h
  ·rename_i u n md fx u' l k md' _ _ l2 hb hc
   obtain⟨e1,e2⟩:=zP hc
   subst e1;cases e2;cases h
   simp only[Bool.and_eq_true] at hb
   obtain⟨hb,_,hmk⟩:=hb
   have hb:=zd hb
   subst hb
   cases o with
   |none=>exact hB
   |some p=>
    obtain⟨m,ver⟩:=p
    obtain⟨cells,minv,tt,h1,h2,h3,h4⟩:=hB
    obtain⟨tt',htt⟩:=zl3 hmk tt
    refine⟨cells,minv,tt',by rw[hM.h,<- htt];exact h1,h2,by rw[hM.h,hM.Φ];exact h3,fun e=>by rw[hM.Φ];exact h4 e⟩
  ·cases h
 ·split at h
  ·rename_i ks vs md ks' vs' md' _ _ _ a b' hb h1 h2
   cases h
   obtain⟨m,es,e,q1,q2,q3⟩:=hB
   obtain⟨w1,e1,r1⟩:=jh hM _ h1 q2 (b'++r)
   obtain⟨w2,e2,r2⟩:=jh hM _ h2 q3 r
   simp only[iB,List.append_assoc,e1,e2]
   exact⟨m,es,e,by rw[hM.h];exact q1,r1,r2⟩
  ·cases h
 ·rename_i u v md
  split at h
  ·split at h
   ·rename_i u' v' l' md' _ _ l2 hb hc
    obtain⟨e1,e2⟩:=zP hc
    cases e1;cases e2;cases h
    have hb:=zd hb
    subst hb
    obtain⟨m,es,e,q1,q2,q3⟩:=hB
    exact⟨m,es,e,by rw[hM.h];exact q1,zpy hM.h hM.Φ _ _ _ q2,zpy hM.h hM.Φ _ _ _ q3⟩
   ·cases h
  ·split at h
   ·rename_i hb
    cases h
    obtain⟨m,es,e,q1,q2,q3⟩:=hB
    exact⟨m,es,e,by rw[hM.h];exact q1,q2,q3⟩
   ·cases h
  ·cases h
 ·trivial
 ·cases h
theorem zhh{ph:List PB}{X Z:Gst}(hM:Mt ph X Z):∀ {pl:List PB} {bl:List SB} {ls:List Lf},mBs ph X.sh pl bl=some ls->∀ (r:List Lf) (i:Nat) (b b':SB) (o:Option (Nat×Nat)),(iBs pl (ls++r)).1[i]?=some b'->bl[i]?=some b->RB X b o->RB Z b' o
 | [],bl,ls,h,r,i,b,b',o,hz,hb,hB=>by simp [iBs] at hz
 |p::pl,bl,ls,h,r,i,b,b',o,hz,hb,hB=>by
  cases bl with
  |nil=>simp [mBs] at h
  |cons b0 bl=>
   simp only[mBs] at h
   split at h
   ·rename_i l1 l2 h1 h2
    cases h
    obtain⟨w,e1,k1⟩:=zqO h1 (l2++r)
    cases i with
    |zero=>
     simp only[List.getElem?_cons_zero,Option.some.injEq] at hb
     subst hb
     simp only[iBs,List.getElem?_cons_zero,Option.some.injEq,List.append_assoc] at hz
     subst hz
     exact znA hM h1 hB _
    |succ i=>
     simp only[iBs,List.getElem?_cons_succ,List.append_assoc,e1] at hz
     exact zhh hM h2 r i b b' o hz (by simpa using hb) hB
   ·cases h
end Go.Sx
namespace Go.Sx
open Go Go.Gx Go.Mx
variable [qG]
theorem Dk.zuo{k:Nat×Option Nat}{X:Gst}{h:zb}{Φ:Nat->Prop}{σ:List (Option (Nat×Nat))}{sh:SH}{dl:List Dfd}{rnd:Option Nat}(q:Dk k X dl rnd)(hh:h=X.h)(hΦ:Φ=X.Φ)
  (hσ:∀ (i:Nat) (o:Option (Nat×Nat)),σ[i]?=some o->X.σ[i]?=some o) (hz:∀ (i m v:Nat) (b:SB),sh[i]?=some b->σ[i]?=some (some (m,v))->k.2=some m->Kp X m->b=.gone):Dk k ⟨h,Φ,σ,sh⟩ dl rnd:=by
 subst hh;subst hΦ
 exact⟨q.base,q.nd,fun d hd=>let⟨m,h1,h2,h3,h4,h5⟩:=q.dl d hd;⟨m,h1,h2,h3,⟨h4.lt,h4.phi,fun i v b hb ho=>absurd (hσ i _ ho) (h5 i v)⟩,fun i v e=>h5 i v (hσ i _ e)⟩,q.rnd,fun m hm=>let⟨h1,h2⟩:=q.lo m hm;⟨h1,h2.lt,h2.phi,fun i v b hb ho=>hz i m v b hb ho hm h2⟩⟩
theorem weaken{X0 Y:Gst}(hr0:RH X0)(hS:Stp X0 Y){q:PS}{st:SS}{ms:St}{k0:Nat×Option Nat}(hst:StR k0 Y st ms){os:List Lf}(hm:mS q st=some os)(hlen:X0.sh.length<=q.h.length)
  (hver:∀ (loc:Nat) (u:U) (n md:Nat) (fx:Bool),q.h[loc]?=some (.seq u n md fx)->loc<X0.sh.length->∃ u' l k md',X0.sh[loc]?=some (.seq u' l k md')/\(k<n\/(fx=true/\k=n)))
  (K:Nat->Bool) (hK:∀ i,K i=true->i<X0.sh.length/\Y.sh[i]?=some .gone/\Y.σ[i]?=X0.σ[i]? /\ ∀ m v,X0.σ[i]?=some (some (m,v))->Y.h[m]?=X0.h[m]? /\ (Y.Φ m->X0.Φ m))
  (hlo:∀ m,k0.2=some m->Kp X0 m) {zh:SH} (hzl:zh.length=(iS q os).h.length) (hz:∀ i,zh[i]?=if K i=true then X0.sh[i]? else(iS q os).h[i]?):
  ∃ Z,Stp X0 Z/\StR k0 Z ⟨(iS q os).env,zh⟩ ms/\Z.h=Y.h/\Z.Φ=Y.Φ/\Z.σ=Y.σ.take q.h.length/\∀ (i:Nat),q.h[i]?=some .gone->(iS q os).h[i]?=some .gone:=by
 unfold mS at hm
 split at hm
 ·rename_i l1 l2 h1 h2
  cases hm
  rw[<- hst.sh] at h1 h2
  obtain⟨we,e1⟩:=za6 q.env h1 l2
  obtain⟨zs,e2,k1,k2,k3⟩:=zoK h2 []
  rw[List.append_nil] at e2
  have hiS:iS q (l1++l2)=⟨we,zs⟩:=by unfold iS;rw[e1,e2]
  rw[hiS] at hz hzl |-
  have hzl:zh.length=zs.length:=hzl
  have hz:∀ (i:Nat),zh[i]?=if K i=true then X0.sh[i]? else zs[i]?:=hz
  have hσn:(Y.σ.take q.h.length).length=q.h.length:=by rw[List.length_take,hS.hr.len];omega
  have hσg:∀ (i:Nat),i<q.h.length->(Y.σ.take q.h.length)[i]?=Y.σ[i]?:=fun i hi=>by rw[List.getElem?_take,if_pos hi]
  have hσs:∀ (i:Nat) o,(Y.σ.take q.h.length)[i]?=some o->Y.σ[i]?=some o/\i<q.h.length:=fun i o h=>by
   rw[List.getElem?_take] at h;split at h
   ·rename_i hi;exact⟨h,hi⟩
   ·cases h
  have hzs:∀ (i:Nat),i<q.h.length->∃ b',zs[i]?=some b':=fun i hi=>⟨zs[i]'(by omega),List.getElem?_eq_getElem _⟩
  have hM:Mt q.h Y ⟨Y.h,Y.Φ,Y.σ.take q.h.length,zh⟩:=by
   refine⟨rfl,rfl,fun loc m ⟨v,h⟩ hl=>⟨v,(hσg loc hl).trans h⟩,fun loc u n md fx u' l k md' hp hb=>?_⟩
   have hl:=(List.getElem?_eq_some_iff.1 hp).1
   refine⟨?_,hσg loc hl⟩
   show zh[loc]?=_
   rw[hz,if_neg (fun hk=>by have:=(hK loc hk).2.1;rw[hb] at this;cases this)]
   obtain⟨b',hb'⟩:=hzs loc hl
   obtain⟨pb,b,h3,h4,h5⟩:=k3 loc b' hb'
   rw[hp] at h3;cases h3
   rw[hb] at h4;cases h4
   rw[hb']
   rcases h5 with⟨h,_⟩|⟨_,_,_,_,_,_,_,_,_,h⟩|⟨u3,l3,k4,n3,md3,h6,h7,fx3,h8,hfx3,_⟩|⟨_,_,_,_,_,_,_,_,_,h⟩|⟨_,_,_,_,_,_,h⟩|⟨_,_,_,_,_,_,_,h⟩
   ·cases h
   ·cases h
   ·cases h6;cases h8;rw[h7]
   ·cases h
   ·cases h
   ·cases h
  obtain⟨we',e3,hwe⟩:=jh hM q.env h1 hst.env l2
  rw[e1] at e3
  cases e3
  have hle:X0.le ⟨Y.h,Y.Φ,Y.σ.take q.h.length,zh⟩:=by
   refine⟨hS.le.h,hS.le.Φ,by show _<=(Y.σ.take q.h.length).length;rw[hσn,hr0.len];exact hlen,fun loc m v h=>?_,fun loc u l k md hl hs=>?_,hS.le.shl⟩
   ·obtain⟨v',h'⟩:=hS.le.at_ loc m v h
    have:=(List.getElem?_eq_some_iff.1 h).1
    exact⟨v',(hσg loc (by rw[hr0.len] at this;omega)).trans h'⟩
   ·have hs:zh[loc]?=some (.seq u l k md):=hs
    rw[hz] at hs
    split at hs
    ·rename_i hk
     exact⟨l,k,md,hs,Nat.le_refl _,fun _=>⟨rfl,(hσg loc (by omega)).trans (hK loc hk).2.2.1⟩⟩
    ·obtain⟨pb,b,h3,h4,h5⟩:=k3 loc _ hs
     rcases h5 with⟨_,h⟩|⟨_,_,_,_,_,_,_,h,_⟩|⟨u3,l3,k4,n3,md3,h6,h7,fx3,h8,hfx3,_⟩|⟨_,_,_,_,_,_,h,_⟩|⟨_,_,_,_,_,h,_⟩|⟨_,_,_,_,_,h,_⟩
     ·cases h
     ·cases h
     ·cases h7
      subst h6;subst h8
      obtain⟨u',l0,k0,md0,h9,h10⟩:=hver loc _ _ _ _ h3 hl
      obtain⟨l',k',md',h11,h12,h13⟩:=hS.le.seq loc _ _ _ _ hl h4
      rw[h9] at h11;cases h11
      rcases h10 with h10|⟨h10,h14⟩
      ·exact⟨_,_,_,h9,Nat.le_of_lt h10,fun e=>absurd e (by omega)⟩
      ·have hk:=hfx3 h10
       subst hk;subst h14
       obtain⟨q1,q2⟩:=h13 rfl
       exact⟨_,_,_,h9,Nat.le_refl _,fun _=>⟨q1,(hσg loc (by omega)).trans q2⟩⟩
     ·cases h
     ·cases h
     ·cases h
  refine⟨⟨Y.h,Y.Φ,Y.σ.take q.h.length,zh⟩,⟨hle,⟨?_,fun i j m v v' h3 h4=>?_,fun i m v h3=>?_,hS.hr.Φlt,fun i b o h3 h4=>?_,fun i m v b h3 h4 h5=>?_⟩,⟨hS.fm.len,hS.fm.h,fun i b hb hmd=>?_,fun i m v h3 hm=>?_,fun i h3=>?_,hS.fm.phi⟩⟩,⟨hwe,rfl,hst.h,hst.dk.zuo rfl rfl (fun i o e=>(hσs i o e).1) fun i m v b h3 h4 hkm hk=>?_⟩,rfl,rfl,rfl,fun i hi=>?_⟩
  ·show(Y.σ.take q.h.length).length=zh.length;rw[hσn,hzl,k1]
  ·exact hS.hr.inj _ _ _ _ _ (hσs _ _ h3).1 (hσs _ _ h4).1
  ·exact hS.hr.lt _ _ _ (hσs _ _ h3).1
  ·have h3:zh[i]?=some b:=h3
   obtain⟨h4,h5⟩:=hσs _ _ h4
   rw[hz] at h3
   split at h3
   ·rename_i hk
    obtain⟨q1,q2,q3,q4⟩:=hK i hk
    rw[q3] at h4
    exact(hr0.blk i b o h3 h4).le hle fun m v e=>(q4 m v (e ▸ h4)).1
   ·obtain⟨pb,b0,h6,h7,h8⟩:=k3 i _ h3
    have:=zhh hM h2 [] i b0 b o (by rw[List.append_nil,e2];exact h3) h7 (hS.hr.blk i b0 o h7 h4)
    exact this
  ·have h3:zh[i]?=some b:=h3
   obtain⟨h4,h6⟩:=hσs _ _ h4
   rw[hz] at h3
   split at h3
   ·rename_i hk
    obtain⟨q1,q2,q3,q4⟩:=hK i hk
    rw[q3] at h4
    exact hr0.own i m v b h3 h4 ((q4 m v h4).2 h5)
   ·obtain⟨pb,b0,h6,h7,h8⟩:=k3 i _ h3
    have ho:=hS.hr.own i m v b0 h7 h4 h5
    rcases h8 with⟨_,h⟩|⟨_,_,_,_,_,_,rfl,rfl,_⟩|⟨_,_,_,_,_,rfl,rfl,_⟩|⟨_,_,_,_,_,rfl,rfl,_⟩|⟨_,_,_,_,⟨_,rfl⟩|rfl,rfl,_⟩|⟨_,_,_,_,rfl,rfl,_⟩
    ·exact .inr h
    ·exact ho.imp id fun h=>by cases h
    ·exact ho.imp id fun h=>by cases h
    ·exact ho.imp id fun h=>by cases h
    ·exact ho.imp id fun h=>by cases h
    ·exact ho.imp id fun h=>by cases h
    ·exact ho.imp id fun h=>by cases h
  ·have hi:=(List.getElem?_eq_some_iff.1 hb).1
   show ∃ b',zh[i]?=some b'/\_
   rw[hz]
   split
   ·exact⟨b,hb,hmd⟩
   ·obtain⟨b',hb'⟩:=hzs i (by omega)
    obtain⟨pb,b0,h6,h7,h8⟩:=k3 i _ hb'
    obtain⟨b2,h9,h10⟩:=hS.fm.md i b hb hmd
    rw[h7] at h9;cases h9
    refine⟨b',hb',?_⟩
    rcases h8 with⟨_,rfl⟩|⟨_,_,_,_,_,_,rfl,rfl,_⟩|⟨_,_,_,_,_,rfl,rfl,_⟩|⟨_,_,_,_,_,rfl,rfl,_⟩|⟨_,_,_,_,⟨_,rfl⟩|rfl,rfl,_⟩|⟨_,_,_,_,rfl,rfl,_⟩
    ·simp [SB.md]
    ·exact h10
    ·exact h10
    ·exact h10
    ·exact h10
    ·exact h10
    ·exact h10
  ·exact hS.fm.new i m v (hσs _ _ h3).1 hm
  ·have hi:=(List.getElem?_eq_some_iff.1 h3).1
   obtain⟨h4,h5⟩:=hS.fm.gone i h3
   refine⟨?_,(hσg i (by omega)).trans h5⟩
   show zh[i]?=_
   rw[hz]
   split
   ·exact h3
   ·obtain⟨b',hb'⟩:=hzs i (by omega)
    obtain⟨pb,b0,h6,h7,h8⟩:=k3 i _ hb'
    rw[h4] at h7;cases h7
    rcases h8 with⟨_,rfl⟩|⟨_,_,_,_,_,_,h,_⟩|⟨_,_,_,_,_,h,_⟩|⟨_,_,_,_,_,h,_⟩|⟨_,_,_,_,⟨_,h⟩|h,_⟩|⟨_,_,_,_,h,_⟩
    ·exact hb'
    ·cases h
    ·cases h
    ·cases h
    ·cases h
    ·cases h
    ·cases h
  ·obtain⟨h4,h5⟩:=hσs _ _ h4
   have h3:zh[i]?=some b:=h3
   rw[hz] at h3
   split at h3
   ·rename_i hk2
    obtain⟨q1,q2,q3,q4⟩:=hK i hk2
    exact(hlo m hkm).gone i v b h3 (by rw[<- q3];exact h4)
   ·obtain⟨pb,b0,h6,h7,h8⟩:=k3 i _ h3
    have hg0:=hk.gone i v b0 h7 h4
    subst hg0
    rcases h8 with⟨_,h⟩|⟨_,_,_,_,_,_,h,_⟩|⟨_,_,_,_,_,h,_⟩|⟨_,_,_,_,_,h,_⟩|⟨_,_,_,_,⟨_,h⟩|h,_⟩|⟨_,_,_,_,h,_⟩
    ·exact h
    ·cases h
    ·cases h
    ·cases h
    ·cases h
    ·cases h
    ·cases h
  ·have hl:=(List.getElem?_eq_some_iff.1 hi).1
   obtain⟨b',hb'⟩:=hzs i hl
   obtain⟨pb,b0,h6,h7,h8⟩:=k3 i _ hb'
   rw[hi] at h6;cases h6
   rcases h8 with⟨_,rfl⟩|⟨_,_,_,_,_,_,_,_,_,h⟩|⟨_,_,_,_,_,_,_,_,h,_⟩|⟨_,_,_,_,_,_,_,_,_,h⟩|⟨_,_,_,_,_,_,h⟩|⟨_,_,_,_,_,_,_,h⟩
   ·exact hb'
   ·cases h
   ·cases h
   ·cases h
   ·cases h
   ·cases h
 ·cases hm
end Go.Sx
namespace Go.Sx
open Go Go.Gx Go.Mx
variable [qG]
def prN(t:Nat):Nat:=t/1099511627776*65536
def zjJ:List (Nat×U)->SS->SS
 | [],st=>st
 |(t,u)::l,st=>match t % 1099511627776/65536 with
  |0=>match st.env[t % 65536]? with
   |some (.a .qH)=>zjJ l ⟨st.env.set (t % 65536) (.gs st.h.length (prN t)),st.h++[.seq u [] (prN t) 0]⟩
   |_=>zjJ l st
  |loc+1=>match st.h[loc]? with
   |some (.cells cs 0 mk)=>match cs[t % 65536]? with
    |some (.a .qH)=>zjJ l ⟨st.env,(st.h++[SB.seq u [] (prN t) 0]).set loc (.cells (cs.set (t % 65536) (.gs st.h.length (prN t))) 0 mk)⟩
    |_=>zjJ l st
   |_=>zjJ l st
def zsq:SV->SV->Bool
 |.ifc t (.agg []),.ifc t' (.agg [])=>Nat.beq t t'
 |_,_=>false
theorem zpT{X Z:Gst}{v w:SV}{x:AV}(h:zsq v w=true)(hv:RV X w x):RV Z v x:=by
 unfold zsq at h
 split at h
 ·have:=zd h
  subst this
  obtain⟨y,rfl,l,rfl,hl⟩:=hv
  cases(show l=[] from hl)
  exact⟨_,rfl,[],rfl,rfl⟩
 ·cases h
def zrg:SX->SX->Bool
 |.ret,.ret=>true
 |.exit i,.exit j=>Nat.beq i j
 |.panic v,.panic w=>zsq v w
 |_,_=>false
def ziP(e:SX)(st:SS){R:Type}(out:Nat->List Lf->Option R):List (SX×PS)->Nat->Option R
 | [],_=>none
 |(x,q)::l,k=>match zrg x e with
  |true=>match mS q st with
   |some os=>out k os
   |none=>ziP e st out l (k+1)
  |false=>ziP e st out l (k+1)
def round(P:Program)(gl:GL)(ct:CT)(n:Nat)(pl:Pl)(p:PS)(outs:List (SX×PS))(c:Code){R:Type}(ls:List Lf)(rec_:List Lf->Option R)(out:Nat->List Lf->Option R):Option R:=
 xe P gl ct n pl c (iS p ls) fun e st'=>match e with
  |.normal=>match mS p st' with
   |some ls'=>rec_ ls'
   |none=>none
  |e=>ziP e st' out outs 0
abbrev LS:=(R:Type)->List Lf->(Nat->List Lf->Option R)->Option R
def znf:List PB->SH->Bool
 |.seq _ n _ fx::p,b::h=>(match b with
  |.seq _ _ k _=>Nat.blt k n||(fx&&Nat.beq k n)
  |_=>false)&&znf p h
 |_::p,_::h=>znf p h
 |_,_=>true
def back:SH->List PB->SH->SH
 |b0::h0,.gone::p,b::h=>(match b with
  |.gone=>b0
  |b=>b)::back h0 p h
 |_::h0,_::p,b::h=>b::back h0 p h
 |_,_,h=>h
def zhD(n:Nat)(h:SH):List (SX×PS)->Bool
 | []=>true
 |(_,q)::l=>Nat.ble n q.h.length&&znf q.h h&&zhD n h l
def zS(pre:List (Nat×U))(p:PS)(outs:List (SX×PS))(F:LS):LF:=fun R st K=>
 match mS p (zjJ pre st),Nat.beq p.h.length (zjJ pre st).h.length&&znf p.h (zjJ pre st).h&&zhD (zjJ pre st).h.length (zjJ pre st).h outs with
 |some ls,true=>F R ls fun k os=>match outs[k]? with
  |some (x,q)=>K x ⟨(iS q os).env,back (zjJ pre st).h p.h (iS q os).h⟩
  |none=>none
 |_,_=>none
theorem zcy:∀ {p:List PB} {h:SH},znf p h=true->∀ (loc:Nat) (u:U) (n md:Nat) (fx:Bool),p[loc]?=some (.seq u n md fx)->loc<h.length->∃ u' l k md',h[loc]?=some (.seq u' l k md')/\(k<n\/(fx=true/\k=n))
 | [],h,hv,loc,u,n,md,fx,hp,hl=>by simp at hp
 |q::p,[],hv,loc,u,n,md,fx,hp,hl=>by simp at hl
 |q::p,b::h,hv,loc,u,n,md,fx,hp,hl=>by
  cases loc with
  |zero=>
   simp at hp;subst hp
   simp only[znf,Bool.and_eq_true] at hv
   cases b with
   |seq u' l k md'=>
    simp only[Bool.or_eq_true,Bool.and_eq_true] at hv
    exact⟨u',l,k,md',rfl,hv.1.imp qN fun h=>⟨h.1,zd h.2⟩⟩
   |_=>simp at hv
  |succ loc=>
   have hv':znf p h=true:=by
    cases q<;>simp only[znf,Bool.and_eq_true] at hv<;>first|exact hv|exact hv.2
   simpa using zcy hv' loc u n md fx (by simpa using hp) (by simpa using hl)
theorem zeH{n:Nat}{h:SH}:∀ {outs:List (SX×PS)},zhD n h outs=true->∀ (k:Nat) (x:SX) (q:PS),outs[k]?=some (x,q)->n<=q.h.length/\znf q.h h=true
 | [],_,k,x,q,hk=>by simp at hk
 |(x0,q0)::l,ho,k,x,q,hk=>by
  simp only[zhD,Bool.and_eq_true] at ho
  cases k with
  |zero=>simp at hk;obtain⟨rfl,rfl⟩:=hk;exact⟨Nat.le_of_ble_eq_true ho.1.1,ho.1.2⟩
  |succ k=>exact zeH ho.2 k x q (by simpa using hk)
def kept(h0:SH)(p:List PB)(h:SH)(i:Nat):Bool:=match h0[i]?,p[i]?,h[i]? with
 |some _,some .gone,some .gone=>true
 |_,_,_=>false
theorem zjo:∀ {h0:SH} {p:List PB} {h:SH} (i:Nat),(back h0 p h)[i]?=if kept h0 p h i=true then h0[i]? else h[i]?
 | [],p,h,i=>by simp [back,kept]
 |b0::h0,[],h,i=>by simp [back,kept]
 |b0::h0,q::p,[],i=>by cases q<;>simp [back,kept]
 |b0::h0,q::p,b::h,i=>by
  cases i with
  |zero=>cases q<;>cases b<;>simp [back,kept]
  |succ i=>
   have:=zjo (h0:=h0) (p:=p) (h:=h) i
   cases q<;>simp only[back,List.getElem?_cons_succ,kept]<;>exact this
theorem zei:∀ {h0:SH} {p:List PB} {h:SH},(back h0 p h).length=h.length
 | [],p,h=>by simp [back]
 |b0::h0,[],h=>by simp [back]
 |b0::h0,q::p,[]=>by cases q<;>simp [back]
 |b0::h0,q::p,b::h=>by
  have:=zei (h0:=h0) (p:=p) (h:=h)
  cases q<;>simp only[back,List.length_cons,this]
section
variable {P:Program} {gl:GL} {ct:CT} {hk:qx}
theorem zpN{X:Gst}(hr:RH X)(u:U)(n:Nat):RV ⟨X.h,X.Φ,X.σ++[none],X.sh++[.seq u [] n 0]⟩ (.gs X.sh.length n) .qH:=by
 refine⟨rfl,none,?_,fun u' l' k' md' hb'=>?_⟩
 ·show(X.σ++[_])[X.sh.length]?=_
  rw[<- hr.len,List.getElem?_append_right (Nat.le_refl _),Nat.sub_self];rfl
 ·have hb':(X.sh++[SB.seq u [] n 0])[X.sh.length]?=some (.seq u' l' k' md'):=hb'
  rw[List.getElem?_append_right (Nat.le_refl _),Nat.sub_self] at hb'
  cases hb'
  exact⟨Nat.le_refl _,fun _=>⟨rfl,rfl⟩⟩
theorem wR{k:Nat×Option Nat}:∀ {pre:List (Nat×U)} {X:Gst} {st:SS} {ms:St},RH X->StR k X st ms->∃ Y,Stp X Y/\StR k Y (zjJ pre st) ms
 | [],X,st,ms,hr,hs=>⟨X,.refl hr,hs⟩
 |(t,u)::l,X,st,ms,hr,hs=>by
  have S1:=Stp.zq3 hr (b:=.seq u [] (prN t) 0) (by simp [SB.md]) (fun _=>rfl)
  have hgs:=zpN hr u (prN t)
  rw[hs.sh] at hgs
  simp only[zjJ]
  split
  ·split
   ·rename_i ht
    obtain⟨x,h1,h2⟩:=hs.env.get ht
    cases(show x=_ from h2)
    rw[hs.sh] at S1
    have henv:=(hs.env.le S1.le).set (t % 65536) hgs
    rw[qm h1] at henv
    obtain⟨Y,S2,hs2⟩:=wR (pre:=l) (st:=⟨st.env.set (t % 65536) (.gs st.h.length (prN t)),st.h++[.seq u [] (prN t) 0]⟩) S1.hr ⟨henv,rfl,hs.h,hs.dk.step hr S1⟩
    exact⟨Y,S1.trans S2,hs2⟩
   ·exact wR hr hs
  ·rename_i loc ht
   split
   ·rename_i cs mk hb
    split
    ·rename_i hc
     rw[hs.sh] at S1
     have hloc:=(List.getElem?_eq_some_iff.1 hb).1
     have hb1:(st.h++[SB.seq u [] (prN t) 0])[loc]?=some (.cells cs 0 mk):=by rw[List.getElem?_append_left hloc];exact hb
     have hso:loc<X.σ.length:=by rw[hr.len,hs.sh];exact hloc
     have ho1:(X.σ++[none])[loc]?=some X.σ[loc]:=by rw[List.getElem?_append_left hso];exact List.getElem?_eq_getElem hso
     obtain⟨m,l',tt,e1,e2,e3⟩:=S1.hr.blk _ _ _ hb1 ho1
     have S2:Stp ⟨X.h,X.Φ,X.σ++[none],st.h++[.seq u [] (prN t) 0]⟩ ⟨X.h,X.Φ,X.σ++[none],(st.h++[SB.seq u [] (prN t) 0]).set loc (.cells (cs.set (t % 65536) (.gs st.h.length (prN t))) 0 mk)⟩:=by
      refine Stp.turn S1.hr (o':=X.σ[loc]) (b':=.cells (cs.set (t % 65536) (.gs st.h.length (prN t))) 0 mk) hb1 ho1 (by simp) (fun _ _ _=>rfl) (fun _ _ _=>.inl rfl) (Nat.le_refl _) (fun m=>⟨.inl,fun h=>h.elim id fun h=>by cases h.1⟩) (qm ho1).symm rfl (fun m v h=>?_) (fun m v h=>⟨v,h⟩) (fun u l k md h=>by cases h) (fun h=>absurd rfl h) (fun h=>by rcases h with h|h<;>cases h) (fun hle=>?_)
      ·exact⟨S1.hr.lt _ _ _ (h ▸ ho1),.inl ⟨v,h⟩⟩
      ·have hset:=(e3.le hle).set (t % 65536) (hgs.le hle)
       obtain⟨x,q1,q2⟩:=e3.get hc
       cases(show x=_ from q2)
       rw[qm q1] at hset
       exact⟨m,l',tt,e1,e2,hset⟩
     obtain⟨Y,S3,hs3⟩:=wR (pre:=l) (st:=⟨st.env,(st.h++[SB.seq u [] (prN t) 0]).set loc (.cells (cs.set (t % 65536) (.gs st.h.length (prN t))) 0 mk)⟩) S2.hr ⟨hs.env.le (S1.trans S2).le,rfl,hs.h,hs.dk.step hr (S1.trans S2)⟩
     exact⟨Y,S1.trans (S2.trans S3),hs3⟩
    ·exact wR hr hs
   ·exact wR hr hs
structure Inv(X0:Gst)(p:PS)(Y:Gst):Prop where
 stp:Stp X0 Y
 kept:∀ (i:Nat),p.h[i]?=some .gone->i<X0.sh.length->Y.sh[i]?=some .gone/\Y.σ[i]?=X0.σ[i]? /\ ∀ m v,X0.σ[i]?=some (some (m,v))->Y.h[m]?=X0.h[m]? /\ (Y.Φ m->X0.Φ m)
theorem Inv.step{X0 Y Z:Gst}{p:PS}(h:Inv X0 p Y)(hr0:RH X0)(hS:Stp Y Z):Inv X0 p Z:=by
 refine⟨h.stp.trans hS,fun i hi hl=>?_⟩
 obtain⟨h1,h2,h3⟩:=h.kept i hi hl
 obtain⟨h4,h5⟩:=hS.fm.gone i h1
 refine⟨h4,h5.trans h2,fun m v hm=>?_⟩
 obtain⟨h6,h7⟩:=h3 m v hm
 have hmY:m<Y.h.length:=h.stp.hr.lt i m v (h2.trans hm)
 refine⟨(hS.fm.h m hmY fun i' v' b' hb' hs'=>?_).trans h6,fun hΦ=>?_⟩
 ·have:=h.stp.hr.inj _ _ _ _ _ hs' (h2.trans hm)
  subst this
  rw[h1] at hb';cases hb';simp [SB.md]
 ·rcases hS.fm.phi m hmY hΦ with h8|⟨i',v',b',h8,h9,h10⟩
  ·exact h7 h8
  ·have:=h.stp.hr.inj _ _ _ _ _ h9 (h2.trans hm)
   subst this
   rw[h1] at h8;cases h8;exact absurd rfl h10
theorem zcW{e:SX}{st:SS}{R:Type}{out:Nat->List Lf->Option R}{r:R}:∀ {outs:List (SX×PS)} {k:Nat},ziP e st out outs k=some r->∃ j x q os,outs[j]?=some (x,q)/\zrg x e=true/\mS q st=some os/\out (k+j) os=some r
 | [],k,h=>by simp [ziP] at h
 |(x,q)::l,k,h=>by
  simp only[ziP] at h
  split at h
  ·rename_i hx
   split at h
   ·rename_i os hos;exact⟨0,x,q,os,rfl,hx,hos,h⟩
   ·obtain⟨j,x',q',os,h1,h2,h3,h4⟩:=zcW h
    exact⟨j+1,x',q',os,h1,h2,h3,by rwa [Nat.add_right_comm] at h4⟩
  ·obtain⟨j,x',q',os,h1,h2,h3,h4⟩:=zcW h
   exact⟨j+1,x',q',os,h1,h2,h3,by rwa [Nat.add_right_comm] at h4⟩
theorem iter(hct:zkZ P gl ct hk){n:Nat}{pl:Pl}{c:Code}(hpl:jH P gl hk pl c){p:PS}{outs:List (SX×PS)}{X0:Gst}(hr0:RH X0)(hg0:RGl P gl X0)(hlen:p.h.length=X0.sh.length)(hver:znf p.h X0.sh=true)(hout:zhD X0.sh.length X0.sh outs=true)
  {O:Type} {G:Nat->List Lf->Option O} {od:Nat->List Lf->Option O} (h0:∀ ls,G 0 ls=none) (hs:∀ m ls o,G (m+1) ls=some o->round P gl ct n pl p outs c ls (G m) od=some o) {k0:Nat×Option Nat} (hlo:∀ m,k0.2=some m->Kp X0 m):
  ∀ (m:Nat) (ls:List Lf) (o:O),G m ls=some o->∀ (Y:Gst) (ms:St),Inv X0 p Y->StR k0 Y (iS p ls) ms ->
  ∃ k os x q Z me ms',od k os=some o/\outs[k]?=some (x,q)/\Stp X0 Z/\StR k0 Z ⟨(iS q os).env,back X0.sh p.h (iS q os).h⟩ ms'/\ExR Z x me/\Ev fun m=>ju P hk m (.loop c) ms=some (me,ms')
 |0,ls,o,h=>by rw[h0] at h;cases h
 |m+1,ls,o,h=>by
  intro Y ms hI hst
  have h:=hs m ls o h
  obtain⟨e,st',Y',me,ms',h1,S1,hs1,he1,ev1⟩:=(zc2 hct n).1 pl c hpl k0 _ _ _ _ Y ms h hst hI.stp.hr (hg0.le hI.stp.le)
  have hI':=hI.step hr0 S1
  have key:ziP e st' od outs 0=some o->(∀ m,ju P hk m c ms=some (me,ms')->ju P hk (m+1) (.loop c) ms=some (me,ms')) ->
    ∃ k os x q Z me ms',od k os=some o/\outs[k]?=some (x,q)/\Stp X0 Z/\StR k0 Z ⟨(iS q os).env,back X0.sh p.h (iS q os).h⟩ ms'/\ExR Z x me/\Ev fun m=>ju P hk m (.loop c) ms=some (me,ms'):=by
   intro h1 hrun
   obtain⟨j,x,q,os,h2,h3,h4,h5⟩:=zcW h1
   obtain⟨h6,h7⟩:=zeH hout j x q h2
   obtain⟨Z,S2,hs2,hh,hΦ,hσ,hg⟩:=weaken hr0 hI'.stp hs1 h4 h6 (zcy h7) (kept X0.sh p.h (iS q os).h) (fun i hi=>by
    unfold kept at hi
    split at hi
    ·rename_i a1 a2 a3
     have hl:=(List.getElem?_eq_some_iff.1 a1).1
     obtain⟨q1,q2,q3⟩:=hI'.kept i a2 hl
     exact⟨hl,q1,q2,q3⟩
    ·cases hi) hlo (zh:=back X0.sh p.h (iS q os).h) zei zjo
   refine⟨0+j,os,x,q,Z,me,ms',h5,by simpa using h2,S2,hs2,?_,Ev.succ (ev1.mono hrun)⟩
   cases x<;>cases e<;>first|cases h3|skip
   ·cases me<;>first|trivial|cases he1
   ·have:=zd h3
    subst this
    cases me<;>first|exact he1|cases he1
   ·cases me<;>first|exact zpT h3 he1|cases he1
  cases e with
  |normal=>
   cases me<;>first|cases he1|skip
   simp only at h1
   split at h1
   ·rename_i ls' hls
    obtain⟨Z,S2,hs2,hh,hΦ,hσ,hg⟩:=weaken hr0 hI'.stp hs1 hls (by omega) (zcy hver) (fun _=>false) (fun _ h=>by cases h) hlo (zh:=(iS p ls').h) rfl (fun i=>by simp)
    have hI2:Inv X0 p Z:=by
     refine⟨S2,fun i hi hl=>?_⟩
     obtain⟨q1,q2,q3⟩:=hI'.kept i hi hl
     refine⟨by rw[hs2.sh];exact hg i hi,?_,fun m v hm=>?_⟩
     ·rw[hσ,List.getElem?_take,if_pos (by omega)];exact q2
     ·rw[hh,hΦ];exact q3 m v hm
    obtain⟨k,os,x,q,Z',me2,ms2,h2,h2',S3,hs3,he3,ev2⟩:=iter hct hpl hr0 hg0 hlen hver hout h0 hs hlo m ls' o h1 Z ms' hI2 hs2
    exact⟨k,os,x,q,Z',me2,ms2,h2,h2',S3,hs3,he3,Ev.succ ((ev1.and ev2).mono fun n ⟨p,q⟩=>by simp only[ju,qa,p,q])⟩
   ·cases h1
  |ret=>
   cases me<;>first|cases he1|skip
   exact key h1 fun m p=>by simp only[ju,qa,p]
  |exit id=>
   cases me<;>first|cases he1|skip
   exact key h1 fun m p=>by simp only[ju,qa,p]
  |panic v=>
   cases me<;>first|cases he1|skip
   exact key h1 fun m p=>by simp only[ju,qa,p]
abbrev KC(O:Type):=(R:Type)->O->(Nat->List Lf->Option R)->Option R
theorem zkb(hct:zkZ P gl ct hk){n:Nat}{pl:Pl}{c:Code}(hpl:jH P gl hk pl c){pre:List (Nat×U)}{p:PS}{outs:List (SX×PS)}
  {O:Type} {G:Nat->List Lf->Option O} {od:Nat->List Lf->Option O} {kc:KC O} (h0:∀ ls,G 0 ls=none) (hs:∀ m ls o,G (m+1) ls=some o->round P gl ct n pl p outs c ls (G m) od=some o)
  (hk':∀ k os o,od k os=some o->∀ R κ,kc R o κ=κ k os) (N:Nat):zh8 P gl hk (.loop c) (zS pre p outs fun R ls κ=>(G N ls).bind fun o=>kc R o κ):=by
 intro k0 R st K r X ms h hst hr hg
 unfold zS at h
 obtain⟨X0,S0,hs0⟩:=wR (pre:=pre) hr hst
 generalize zjJ pre st=st0 at h hs0
 split at h
 ·rename_i ls hls hok
  simp only[Bool.and_eq_true] at hok
  obtain⟨⟨h1,h2⟩,h3⟩:=hok
  have h1:=zd h1
  rw[<- hs0.sh] at h1 h2 h3
  obtain⟨o,ho,h4⟩:=Option.bind_eq_some_iff.1 h
  obtain⟨Z,S2,hs2,hh,hΦ,hσ,hgn⟩:=weaken S0.hr (Stp.refl S0.hr) hs0 hls (by omega) (zcy h2) (fun _=>false) (fun _ h=>by cases h) (fun m e=>(hs0.dk.lo m e).2) (zh:=(iS p ls).h) rfl (fun i=>by simp)
  obtain⟨k,os,x,q,Z',me2,ms2,h5',h5,S3,hs3,he3,ev2⟩:=iter hct hpl S0.hr (hg.le S0.le) h1 h2 h3 h0 hs (fun m e=>(hs0.dk.lo m e).2) N ls o ho Z ms ⟨S2,fun i hi hl=>⟨by rw[hs2.sh];exact hgn i hi,by rw[hσ,List.getElem?_take,if_pos (by omega)],fun m v hm=>by rw[hh,hΦ];exact⟨rfl,id⟩⟩⟩ hs2
  rw[hk' k os o h5' R] at h4
  simp only[h5] at h4
  rw[hs0.sh] at hs3
  exact⟨x,_,Z',me2,ms2,h4,S0.trans S3,hs3,he3,ev2⟩
 ·cases h
end
end Go.Sx
namespace Go.Sx
open Go Go.Gx Go.Mx
variable [qG]
def ki:List U->U
 | []=>.unit
 |u::l=>.pair u (ki l)
def qg:(us:List U)->El (ki us)->List SV
 | [],_=>[]
 |u::l,x=>zh1 u x.1::qg l x.2
def qz:(us:List U)->List SV->SH->Option (El (ki us)×SH)
 | [],[],h=>some ((),h)
 |u::us,v::vs,h=>match ku u v,dec u v.cells h with
  |true,some (x,[],h1)=>match qz us vs h1 with
   |some (y,h2)=>some ((x,y),h2)
   |none=>none
  |_,_=>none
 |_,_,_=>none
def unS(rs:List U)(v:SV):Option (List SV):=match rs with
 | [_]=>some [v]
 |_=>match v with
  |.tup vs=>some vs
  |_=>none
def zbH(rs:List U):SC->Option (El (ki rs))
 |.ret v h=>match unS rs v with
  |some vs=>match qz rs vs h with
   |some (x,_)=>some x
   |none=>none
  |none=>none
 |.pan _ _=>none
def qp(us rs:List U)(F:El (ki us)->Option (El (ki rs))):CF:=fun R args h κ=>match qz us args h with
 |some (x,h')=>(F x).bind fun y=>κ (.ret (zkp (qg rs y)) h')
 |none=>none
theorem zfR{h:zb}{Φ:Nat->Prop}{Z:Gst}(hh:Z.h=h)(hΦ:Z.Φ=Φ){u:U}{x:El u}{cs:List AV}(q:RE h Φ u x cs):(u.agg=true->RV Z (zh1 u x) (.agg cs))/\(u.agg=false->∀ c,cs=[c]->RV Z (zh1 u x) c):=by
 subst hh;subst hΦ
 cases u with
 |bool=>exact⟨(fun h=>by cases h),fun _ c e=>by cases(show cs=_ from q);cases e;rfl⟩
 |int k=>exact⟨(fun h=>by cases h),fun _ c e=>by cases(show cs=_ from q);cases e;rfl⟩
 |u8=>exact⟨(fun h=>by cases h),fun _ c e=>by cases(show cs=_ from q);cases e;rfl⟩
 |str=>exact⟨(fun h=>by cases h),fun _ c e=>by cases(show cs=_ from q);cases e;rfl⟩
 |sl u=>exact⟨(fun h=>by cases h),fun _ c e=>by obtain⟨y,e2,q⟩:=zpc.1 q;rw[e] at e2;cases e2;exact q⟩
 |pair u v=>exact⟨fun _=>⟨cs,rfl,jI q⟩,fun h=>by cases h⟩
 |unit=>exact⟨fun _=>⟨cs,rfl,q⟩,fun h=>by cases h⟩
theorem qq:∀ (us:List U) {X:Gst} (hr:RH X) {vs:List SV} {xs:List AV} {x:El (ki us)} {h':SH},RVs X vs xs->qz us vs X.sh=some (x,h') ->
  ∃ Y,Stp X Y/\Y.h=X.h/\Y.sh=h'/\∀ Z:Gst,Z.h=Y.h->(∀ m,Y.Φ m->Z.Φ m)->RVs Z (qg us x) xs
 | [],X,hr,vs,xs,x,h',hv,hd=>by
  cases vs with
  |nil=>simp only[qz] at hd;cases hd;cases(show xs=[] from hv);exact⟨X,.refl hr,rfl,rfl,fun Z _ _=>rfl⟩
  |cons=>simp [qz] at hd
 |u::us,X,hr,vs,xs,x,h',hv,hd=>by
  cases vs with
  |nil=>simp [qz] at hd
  |cons v vs=>
   obtain⟨a,t,rfl,q1,q2⟩:=hv
   simp only[qz] at hd
   split at hd
   ·rename_i y h1 hag hd1
    split at hd
    ·rename_i z h2 hd2
     cases hd
     have hc:∃ cs,RVs X v.cells cs/\((u.agg=true/\a=.agg cs)\/(u.agg=false/\cs=[a])):=by
      unfold ku at hag
      split at hag
      ·obtain⟨l',rfl,q⟩:=q1;exact⟨l',q,.inl ⟨hag,rfl⟩⟩
      ·rename_i hn
       have e1:v.cells=[v]:=by cases v<;>first|rfl|exact absurd rfl (hn _)
       refine⟨[a],e1 ▸ .one q1,.inr ⟨by simpa using hag,rfl⟩⟩
     obtain⟨cs,hcs,hca⟩:=hc
     obtain⟨Y,c1,c2,S1,hh1,hs1,e1,hRE,hr2⟩:=ka u hr hcs hd1
     cases(show c2=[] from hr2)
     rw[List.append_nil] at e1
     subst e1
     rw[<- hs1] at hd2
     obtain⟨W,S2,hh2,hs2,hW⟩:=qq us S1.hr (q2.le S1.le) hd2
     refine⟨W,S1.trans S2,hh2.trans hh1,hs2,fun Z hZ hΦ=>?_⟩
     have hRE':RE Z.h Z.Φ u y cs:=hRE.le (fun m hm=>by rw[hZ,hh2]) (fun m hm=>hΦ m (S2.le.Φ m hm))
     obtain⟨k1,k2⟩:=zfR (Z:=Z) rfl rfl hRE'
     refine⟨a,t,rfl,?_,hW Z hZ hΦ⟩
     rcases hca with⟨hag,rfl⟩|⟨hag,rfl⟩
     ·exact k1 hag
     ·exact k2 hag a rfl
    ·cases hd
   ·cases hd
section
variable {P:Program} {gl:GL} {ct:CT} {hk:qx}
theorem zjY{f:FuncId}{us rs:List U}{F:El (ki us)->Option (El (ki rs))}{run:CF}(hrun:zec P gl hk f run)
  (hF:∀ (Y:Gst) (x:El (ki us)) (margs:List AV),RVs Y (qg us x) margs->∃ vs,RVs Y vs margs/\run _ vs [] (zbH rs)=F x):zec P gl hk f (qp us rs F):=by
 intro R args κ r X margs h hargs hr hg
 unfold qp at h
 split at h
 ·rename_i x h' hd
  obtain⟨Y,S1,hh1,hs1,hA⟩:=qq us hr hargs hd
  cases hFx:F x with
  |none=>rw[hFx] at h;cases h
  |some y=>
   rw[hFx] at h
   have hY:RH Y.base:=⟨rfl,fun i j m v v' h=>by simp [Gst.base] at h,fun i m v h=>by simp [Gst.base] at h,S1.hr.Φlt,fun i b o h=>by simp [Gst.base] at h,fun i m v b h=>by simp [Gst.base] at h⟩
   have hgY:RGl P gl Y.base:=fun g cs hg'=>(hg.le S1.le) g cs hg'
   obtain⟨vs0,hvs0,hF0⟩:=hF Y.base x margs (hA Y.base rfl fun _ h=>h)
   rw[<- hF0] at hFx
   obtain⟨q,Z,mq,h1,S2,hcr,ev⟩:=hrun _ _ _ _ Y.base margs hFx hvs0 hY hgY
   cases q with
   |pan v sh=>cases h1
   |ret v sh=>
    cases mq with
    |pan=>cases hcr
    |ret xv hv'=>
     obtain⟨e1,e2,hv⟩:=hcr
     simp only[zbH] at h1
     split at h1
     ·rename_i vs hvs
      split at h1
      ·rename_i z h2 hd2
       cases h1
       rw[<- e1] at hd2
       have hun:∃ xs,RVs Z vs xs/\∀ W,(RVs W (qg rs y) xs->RV W (zkp (qg rs y)) xv):=by
        unfold unS at hvs
        split at hvs
        ·cases hvs
         exact⟨[xv],.one hv,fun W ⟨a,t,e,q,ht⟩=>by cases e;exact q⟩
        ·rename_i hrs
         split at hvs
         ·cases hvs
          obtain⟨l',rfl,q⟩:=hv
          refine⟨l',q,fun W hW=>?_⟩
          have:zkp (qg rs y)=.tup (qg rs y):=by
           match rs,y,hrs with
           | [],_,_=>rfl
           | [u],_,hrs=>exact absurd rfl (hrs u)
           |_::_::_,_,_=>rfl
          rw[this];exact⟨l',rfl,hW⟩
         ·cases hvs
       obtain⟨xs,hxs,hone⟩:=hun
       obtain⟨Z2,S3,hh3,hs3,hA3⟩:=qq rs S2.hr hxs hd2
       have S4:=S2.trans S3
       have hsame:∀ m,m<Y.h.length->Z2.h[m]?=Y.h[m]?:=fun m hm=>S4.fm.h m hm fun i v b hb=>by simp [Gst.base] at hb
       have hphi:∀ m,m<Y.h.length->Z2.Φ m->Y.Φ m:=fun m hm hΦ=>(S4.fm.phi m hm hΦ).elim id fun⟨i,v,b,hb,_⟩=>by simp [Gst.base] at hb
       have hle:Y.le ⟨Z2.h,Z2.Φ,Y.σ,Y.sh⟩:=⟨fun m hm=>hsame m (S1.hr.Φlt m hm),S4.le.Φ,Nat.le_refl _,fun _ _ v h=>⟨v,h⟩,fun _ _ l k md _ h=>⟨l,k,md,h,Nat.le_refl _,fun _=>⟨rfl,rfl⟩⟩,S1.hr.len⟩
       have S5:Stp Y ⟨Z2.h,Z2.Φ,Y.σ,Y.sh⟩:=by
        refine⟨hle,⟨S1.hr.len,S1.hr.inj,fun i m v h=>Nat.lt_of_lt_of_le (S1.hr.lt i m v h) S4.fm.len,S4.hr.Φlt,fun i b o hb ho=>(S1.hr.blk i b o hb ho).le hle fun m v e=>hsame m (S1.hr.lt i m v (e ▸ ho)),fun i m v b hb ho hΦ=>S1.hr.own i m v b hb ho (hphi m (S1.hr.lt i m v ho) hΦ)⟩,
         ⟨S4.fm.len,fun m hm _=>hsame m hm,fun i b hb hm=>⟨b,hb,hm⟩,fun i m v h _=>⟨v,h⟩,fun i h=>⟨h,rfl⟩,fun m hm hΦ=>.inl (hphi m hm hΦ)⟩⟩
       refine⟨_,_,.ret xv hv',h,S1.trans S5,⟨hs1,?_,hone _ (hA3 _ rfl fun _ h=>h)⟩,?_⟩
       ·show Z2.h=hv';rw[hh3,e2]
       ·rw[<- hh1];exact ev
      ·cases h1
     ·cases h1
 ·cases h
theorem zfm(hct:zkZ P gl ct hk){n:Nat}{pl:Pl}{f:FuncId}{us rs:List U}{F:El (ki us)->Option (El (ki rs))}(hpl:∀ fn b,P.funcs[f]?=some fn->fn.body=some b->jH P gl hk pl b)
  (hF:∀ (Y:Gst) (x:El (ki us)) (margs:List AV),RVs Y (qg us x) margs->∃ vs,RVs Y vs margs/\jY P gl ct n pl f vs [] (zbH rs)=F x):zec P gl hk f (qp us rs F):=zjY (run:=fun R args h κ=>jY P gl ct (R:=R) n pl f args h κ) ((zc2 hct n).2.2.1 pl f hpl) hF
theorem zlg(hct:zkZ P gl ct hk){n:Nat}{pl:Pl}{f:FuncId}{us rs:List U}{F:El (ki us)->Option (El (ki rs))}(hpl:∀ fn b,P.funcs[f]?=some fn->fn.body=some b->jH P gl hk pl b)
  (hF:∀ x,jY P gl ct n pl f (qg us x) [] (zbH rs)=F x):zec P gl hk f (qp us rs F):=zfm hct hpl fun Y x margs h=>⟨_,h,hF x⟩
theorem zfX(hct:zkZ P gl ct hk){n:Nat}{pl:Pl}{f:FuncId}{u:U}{rs:List U}{F:List (El u)->Option (El (ki rs))}(hpl:∀ fn b,P.funcs[f]?=some fn->fn.body=some b->jH P gl hk pl b)
  (h1:∀ l,jY P gl ct n pl f [.nsl u l] [] (zbH rs)=F l) (h2:jY P gl ct n pl f [.a .qH] [] (zbH rs)=F []):zec P gl hk f (qp [.sl u] rs fun x=>F x.1):=zfm hct hpl fun Y x margs ⟨a,t,e,q,ht⟩=>by
 obtain⟨l,⟨⟩⟩:=x
 rcases(show RSl Y.h Y.Φ false u l a from q) with⟨rfl,rfl⟩|h
 ·exact⟨[.a .qH],⟨_,t,e,rfl,ht⟩,h2⟩
 ·exact⟨[.nsl u l],⟨_,t,e,h,ht⟩,h1 l⟩
end
end Go.Sx
namespace Go.Mx
open Go Go.Gx
def AV.zdS:AV->Bool
 |.bool _|.int _ _|.str _|.zdO|.qH|.zdN|.zgH|.zaY|.any|.opq=>true
 |_=>false
def AV.zrV:AV->Bool
 |.tup l=>l.all AV.zdS
 |v=>v.zdS
theorem V.zdS{G G':Gh}{v:AV}{u:Value}(hs:v.zdS=true)(h:V G v u):V G' v u:=by
 cases h<;>first|(cases hs;done)|constructor
theorem VL.zdS{G G':Gh}:∀ {l:List AV} {us:List Value},l.all AV.zdS=true->VL G l us->VL G' l us
 | [],us,_,h=>by cases h;exact .nil
 |x::l,us,hs,h=>by
  cases h with
  |cons h1 h2=>
   simp only[List.all_cons,Bool.and_eq_true] at hs
   exact .cons (V.zdS hs.1 h1) (VL.zdS hs.2 h2)
theorem V.zrV{G G':Gh}{v:AV}{u:Value}(hs:v.zrV=true)(h:V G v u):V G' v u:=by
 cases v with
 |tup l=>cases h with|tup h=>exact .tup (VL.zdS hs h)
 |_=>exact V.zdS hs h
structure Laid(P:Program)(hgl:zb)(Gg:Gh)(B:Nat)(W0:World):Prop where
 hr:HR Gg B hgl W0
 low:∀ loc v r,Gg.at loc v=some r->r.b<B
 g:∀ g,g<P.globals.size->∃ r,Gg.at g 0=some r/\r.b=g/\r.lo=0/\r.sh=0
def HOK(P:Program)(hgl:zb)(Gg:Gh)(hk:qx):Prop:=∀ B W0,Laid P hgl Gg B W0->zeb P B W0 hk
section
variable {P:Program} {hgl:zb} {Gg:Gh} {B:Nat} {W0 w:World}
theorem Laid.at(h:Laid P hgl Gg B W0)(hl:∀ b,b<B->w.heap[b]?=W0.heap[b]?)(hs:B<=w.heap.size){B':Nat}(hB:B<=B')(hs':B'<=w.heap.size):Laid P hgl Gg B' w:=by
 refine⟨⟨h.hr.len,fun loc b vs hb hg=>(h.hr.blk loc b vs hb hg).mono (Gh.le_refl _) fun v r hv=>hl _ (h.low loc v r (Gh.xX hg hv)),fun loc v r hat=>Nat.lt_of_lt_of_le (h.low loc v r hat) hs,fun loc v r b hat hb=>?_,fun l1 l2 v1 v2 r1 r2 h1 _ hB1 _=>?_,hs'⟩,fun loc v r hat=>Nat.lt_of_lt_of_le (h.low loc v r hat) hB,h.g⟩
 ·have h1:=h.hr.own loc v r b hat hb
  have h2:=h.low loc v r hat
  exact⟨fun e=>by have:=h1.1 e;omega,fun e=>by omega⟩
 ·have:=h.low l1 v1 r1 h1;omega
theorem zid(hmo:P.follows .mixedOrders=true)(hng:zkS P){hk:qx}(hh:HOK P hgl Gg hk)(hL:Laid P hgl Gg B W0){n f:Nat}{args:List AV}{h h':zb}{v:AV}
  (hc:ze9 P (ju P hk n) f args hgl=some (.ret v h')) (ha:args.all AV.zdS=true) (hs:v.zrV=true):zd7 P B W0 f args h (.ret v h):=by
 intro G us w hx hr hg
 left
 have hL':Laid P hgl Gg w.heap.size w:=hL.at hg.low hr.base hr.base (Nat.le_refl _)
 have hg':zcE P w.heap.size w Gg w:=⟨hL.g,fun _ _=>rfl⟩
 obtain⟨h1,h2⟩:=zbB hng (k9 hmo hng (hh _ _ hL') n).1 (k9 hmo hng (hh _ _ hL') n).2.2 hc (VL.zdS ha hx) hL'.hr hg'
 refine⟨h1.mono fun e w' hcr=>?_,h2⟩
 obtain⟨G',hS,u,hv,rfl⟩:=hcr
 refine⟨G,Step.grow hr hS.fr.size (fun b hb=>hS.fr.low b hb fun loc v r hat hB e=>?_) hS.fr.os hS.fr.tape hS.fr.output,u,V.zrV hs hv,rfl⟩
 have:=hL'.low _ _ _ hat;omega
theorem zlB(tab:List (FuncId×XK))(h:∀ f k,(f,k) ∈ tab->XFn P f k):HOK P hgl Gg (zke tab):=fun B W0 _=>zpI h B W0
def zC(hk:qx)(f:FuncId)(g:List AV->zb->Option CR):qx:=fun k=>match Nat.beq k f with
 |true=>some g
 |false=>hk k
theorem zcK{hk:qx}(hh:HOK P hgl Gg hk){f:FuncId}{g:List AV->zb->Option CR}(hg:∀ B W0,Laid P hgl Gg B W0->∀ args h r,g args h=some r->zd7 P B W0 f args h r):HOK P hgl Gg (zC hk f g):=by
 intro B W0 hL f' g' hg' args h r hr
 unfold zC at hg'
 cases hb:Nat.beq f' f with
 |true=>
  rw[hb] at hg'
  cases hg'
  have:=Nat.eq_of_beq_eq_true hb
  subst this
  exact hg B W0 hL args h r hr
 |false=>rw[hb] at hg';exact hh B W0 hL f' g' hg' args h r hr
end
section
variable {P:Program} {G:Gh} {B:Nat} {h:zb} {w:World}
theorem HR.zq2{blk:Blk}{r:Ver}(hr:HR G B h w)(ho:blk.own=false)(hlt:r.b<B)(hB:zkX (G++[[r]]) w blk [r]):HR (G++[[r]]) B (h++[blk]) w:=by
 have hone:∀ (v:Nat) (r':Ver),[r][v]?=some r'->r'=r:=by
  intro v r' hv
  cases v with
  |zero=>simp at hv;exact hv.symm
  |succ v=>simp at hv
 refine⟨by rw[Arr.zv,List.length_append,hr.len];rfl,?_,?_,?_,?_,hr.base⟩
 ·intro loc b vs' hl hg
  by_cases hlt:loc<h.length
  ·rw[Arr.qh hlt] at hl
   rw[List.getElem?_append_left (by rw[hr.len];exact hlt)] at hg
   exact(hr.blk loc b vs' hl hg).mono (Gh.zam _ _) fun v r hv=>rfl
  ·have hle:loc=h.length:=by
    have:=Arr.lt hl;rw[Arr.zv] at this;simp at this;omega
   subst hle
   rw[Arr.zp (by omega)] at hl
   rw[List.getElem?_append_right (by rw[hr.len];omega),hr.len] at hg
   simp at hl hg
   subst hl;subst hg;exact hB
 ·intro loc v r' hat
  rcases xz hat with hat|⟨_,hat⟩
  ·exact hr.lt _ _ _ hat
  ·rw[hone _ _ hat];exact Nat.lt_of_lt_of_le hlt hr.base
 ·intro loc v r' b hat hl
  rcases xz hat with hat|⟨hl',hat'⟩
  ·obtain⟨b',_,hb',_⟩:=hr.get hat
   have hlt:=Arr.lt hb'
   rw[Arr.qh hlt] at hl
   exact hr.own _ _ _ _ hat hl
  ·rw[hl',hr.len,Arr.zp (by omega)] at hl
   simp at hl;subst hl
   rw[ho,hone _ _ hat']
   exact Iff.intro (fun e=>by cases e) (fun e=>by omega)
 ·intro l1 l2 v1 v2 r1 r2 ha1 ha2 hB1 he
  rcases xz ha1 with h1|⟨e1,h1⟩<;>rcases xz ha2 with h2|⟨e2,h2⟩
  ·exact hr.apart _ _ _ _ _ _ h1 h2 hB1 he
  ·rw[hone _ _ h2] at he;omega
  ·rw[hone _ _ h1] at hB1;omega
  ·exact e1.trans e2.symm
theorem HR.zcY{xs:List AV}{cs:List Value}{a:Addr}{c:Array Value}{T:TypeId}{fr:Nat×Nat}(hr:HR G B h w)(hlt:a.block<B)(hc:w.heap[a.block]?=some (.cells c T fr))(hx:VL G xs cs)
  (hcs:∀ (j:Nat) (u:Value),cs[j]?=some u->c[j+a.off]?=some u) (hsz:xs.length+a.off<=c.size):
  HR (G++[[⟨a.block,0,xs.length,c.size,a.off⟩]]) B (h++[Blk.lay xs]) w:=by
 refine hr.zq2 rfl hlt (.inr ⟨_,rfl,rfl,rfl,c,T,fr,hc,rfl,hsz,fun p hp=>?_⟩)
 have hp':p<xs.length:=hp
 obtain⟨u,e1,e2⟩:=hx.get (List.getElem?_eq_getElem hp')
 exact⟨_,u,List.getElem?_eq_getElem hp',hcs p u e1,e2.le (Gh.zam _ _)⟩
end
def zfy{α:Type}(f:α->zb->Option (List AV×zb)):List α->zb->Option (List AV×zb)
 | [],h=>some ([],h)
 |d::l,h=>match f d h with
  |some (xs,h1)=>match zfy f l h1 with
   |some (ys,h2)=>some (xs++ys,h2)
   |none=>none
  |none=>none
def flush(P:Program):List Field->Nat->Nat->Bool
 | [],o,n=>Nat.beq o n
 |f::l,o,n=>Nat.beq f.offset o&&flush P l (o+P.cellsOf f.type) n
def zoI{H:Type}(P:Program):Nat->TypeId->DataW H->zb->Option (List AV×zb)
 |0,_,_,_=>none
 |n+1,t,d,h=>match P.underlying t,d with
  |some .bool,.lit (.bool b)=>some ([.bool b],h)
  |some (.int _),.lit (.int k m)=>some ([.int k m],h)
  |some .string,.lit (.string l)=>some ([.str l],h)
  |some (.pointer _),.nil=>some ([.zdO],h)
  |some (.pointer e),.ptr d=>match zoI P n e d h with
   |some (x::xs,h')=>some ([.ptr h'.length 0 0 (xs.length+1)],h'++[Blk.lay (x::xs)])
   |_=>none
  |some (.slice _),.nil=>some ([.qH],h)
  |some (.slice e),.slice (d::l) _=>match zfy (zoI P n e) (d::l) h with
   |some (x::xs,h')=>some ([.sl h'.length 0 (l.length+1) (P.cellsOf e) 0 false],h'++[Blk.lay (x::xs)])
   |_=>none
  |some (.slice e),.slice [] _=>if Nat.blt 0 (P.cellsOf e)=true then some ([.sl h.length 0 0 (P.cellsOf e) 0 false],h++[Blk.lay []]) else none
  |some (.struct fs),.agg ds=>if flush P fs.toList 0 (P.cellsOf t)=true/\ds.length=fs.size then zfy (fun p=>zoI P n p.1.type p.2) (fs.toList.zip ds) h else none
  |some (.array m e),.agg ds=>if m*P.cellsOf e=P.cellsOf t/\ds.length=m then zfy (zoI P n e) ds h else none
  |some (.interface _),.nil=>some ([.zaY],h)
  |some (.interface _),.iface _ _=>some ([.opq],h)
  |_,_=>none
section
variable {P:Program} {B:Nat} {w:World}
theorem mapM_some{α β:Type}{f:α->Option β}:∀ {l:List α} {r:List β},l.mapM f=some r->r.length=l.length/\∀ (i:Nat) (a:α),l[i]?=some a->∃ b,r[i]?=some b/\f a=some b
 | [],r,h=>by simp at h;subst h;simp
 |x::l,r,h=>by
  simp only[List.mapM_cons,Option.bind_eq_bind,Option.bind_eq_some_iff,Option.pure_def,Option.some.injEq] at h
  obtain⟨b,hb,r',hr',rfl⟩:=h
  obtain⟨h1,h2⟩:=mapM_some hr'
  refine⟨by simp [h1],fun i a ha=>?_⟩
  cases i with
  |zero=>simp at ha;subst ha;exact⟨b,rfl,hb⟩
  |succ i=>simpa using h2 i a (by simpa using ha)
theorem kQ{base n:Nat}{a:Addr}{cs:List Value}(h:w.cells? base a n=some cs):cs.length=n/\∀ (j:Nat) (u:Value),cs[j]?=some u->w.cell? (a.add j)=some u:=by
 unfold World.cells? at h
 split at h
 ·obtain⟨h1,h2⟩:=mapM_some h
  rw[List.length_range] at h1
  refine⟨h1,fun j u hu=>?_⟩
  have hj:j<n:=by rw[<- h1];exact(List.getElem?_eq_some_iff.1 hu).1
  obtain⟨b,e1,e2⟩:=h2 j j (by simp [hj])
  rw[hu] at e1;cases e1
  exact e2
 ·cases h
theorem zfl{a:Addr}{u:Value}(h:w.cell? a=some u):∃ c T fr,w.heap[a.block]?=some (.cells c T fr)/\a.spot=none/\c[a.off]?=some u:=by
 unfold World.cell? at h
 split at h
 ·rename_i c T fr hb
  split at h
  ·cases h
  ·rename_i hs
   exact⟨c,T,fr,hb,by cases hsp:a.spot<;>simp_all,h⟩
 ·cases h
theorem j5(a:Addr)(j:Nat):(a.add j).block=a.block/\(a.add j).off=a.off+j:=by
 unfold Addr.add
 split
 ·subst_vars;exact⟨rfl,rfl⟩
 ·exact⟨rfl,rfl⟩
theorem w9{base n:Nat}{a:Addr}{cs:List Value}(h:w.cells? base a n=some cs)(hn:0<n):∃ c T fr,w.heap[a.block]?=some (.cells c T fr)/\a.spot=none/\(∀ (j:Nat) (u:Value),cs[j]?=some u->c[j+a.off]?=some u)/\n+a.off<=c.size:=by
 obtain⟨h1,h2⟩:=kQ h
 have h0:=h2 0 _ (List.getElem?_eq_getElem (by omega))
 obtain⟨c,T,fr,e1,e2,e3⟩:=zfl h0
 have ha0:a.add 0=a:=by simp [Addr.add]
 rw[ha0] at e1 e2
 have hall:∀ (j:Nat) (u:Value),cs[j]?=some u->c[j+a.off]?=some u:=by
  intro j u hu
  obtain⟨c',T',fr',f1,_,f3⟩:=zfl (h2 j u hu)
  rw[(j5 a j).1,e1] at f1
  cases f1
  rw[(j5 a j).2,Nat.add_comm] at f3
  exact f3
 refine⟨c,T,fr,e1,e2,hall,?_⟩
 have hl:=hall (n-1) _ (List.getElem?_eq_getElem (by omega))
 have:=(Array.getElem?_eq_some_iff.1 hl).1
 omega
def Gh.ext(G G':Gh):Prop:=∃ E,G'=G++E
theorem Gh.z8(G:Gh):G.ext G:=⟨[],by simp⟩
theorem Gh.ext.trans{a b c:Gh}(h:a.ext b)(k:b.ext c):a.ext c:=by
 obtain⟨E,rfl⟩:=h
 obtain⟨F,rfl⟩:=k
 exact⟨E++F,by rw[List.append_assoc]⟩
theorem Gh.ext.le{a b:Gh}(h:a.ext b):a.le b:=by
 obtain⟨E,rfl⟩:=h
 intro loc v r hat
 unfold Gh.at at *
 cases hg:a[loc]? with
 |none=>rw[hg] at hat;cases hat
 |some vs=>rw[hg] at hat;rw[List.getElem?_append_left (List.getElem?_eq_some_iff.1 hg).1,hg];exact hat
theorem Gh.ext.get{a b:Gh}(h:a.ext b){loc:Nat}{vs:List Ver}(hg:a[loc]?=some vs):b[loc]?=some vs:=by
 obtain⟨E,rfl⟩:=h
 rw[List.getElem?_append_left (List.getElem?_eq_some_iff.1 hg).1];exact hg
theorem Gh.zaC(G:Gh)(vs:List Ver):G.ext (G++[vs]):=⟨[vs],rfl⟩
theorem ky{α:Type}{f:α->zb->Option (List AV×zb)}{Q:α->List Value->Prop}
  (hf:∀ d h xs h' G,HR G B h w->f d h=some (xs,h')->∀ cs,Q d cs->∃ G',HR G' B h' w/\G.ext G'/\VL G' xs cs):
  ∀ {ds:List α} {h h':zb} {xs:List AV} {G:Gh} {css:List (List Value)},HR G B h w->zfy f ds h=some (xs,h')->css.length=ds.length->(∀ (i:Nat) (d:α) (cs:List Value),ds[i]?=some d->css[i]?=some cs->Q d cs) ->
   ∃ G',HR G' B h' w/\G.ext G'/\VL G' xs css.flatten
 | [],h,h',xs,G,css,hr,hl,hlen,_=>by
  cases hl
  have:css=[]:=List.eq_nil_of_length_eq_zero hlen
  subst this
  exact⟨G,hr,Gh.z8 _,.nil⟩
 |d::ds,h,h',xs,G,css,hr,hl,hlen,hq=>by
  cases css with
  |nil=>simp at hlen
  |cons cs css=>
   unfold zfy at hl
   split at hl
   ·rename_i ys h1 h2
    split at hl
    ·rename_i zs h3 h4
     cases hl
     obtain⟨G1,r1,l1,v1⟩:=hf d h ys h1 G hr h2 cs (hq 0 d cs rfl rfl)
     obtain⟨G2,r2,l2,v2⟩:=ky hf (css:=css) r1 h4 (by simpa using hlen) (fun i d' cs' e1 e2=>hq (i+1) d' cs' (by simpa using e1) (by simpa using e2))
     exact⟨G2,r2,l1.trans l2,(v1.le l2.le).append v2⟩
    ·cases hl
   ·cases hl
theorem zio{c:Array Value}{sz:Nat}:∀ {css:List (List Value)} {o:Nat},(∀ (i:Nat) (cs:List Value),css[i]?=some cs->cs.length=sz/\∀ (k:Nat) (u:Value),cs[k]?=some u->c[k+(o+i*sz)]?=some u) ->
  css.flatten.length=css.length*sz/\∀ (j:Nat) (u:Value),css.flatten[j]?=some u->c[j+o]?=some u
 | [],o,_=>by simp
 |cs::css,o,h=>by
  obtain⟨h1,h2⟩:=h 0 cs rfl
  obtain⟨h3,h4⟩:=zio (css:=css) (o:=o+sz) (c:=c) (sz:=sz) (fun i cs' hi=>by
   obtain⟨q1,q2⟩:=h (i+1) cs' (by simpa using hi)
   refine⟨q1,fun k u hu=>?_⟩
   have:=q2 k u hu
   rwa [show o+(i+1)*sz=o+sz+i*sz from by rw[Nat.add_mul];omega] at this)
  refine⟨by simp only[List.flatten_cons,List.length_append,List.length_cons,h1,h3,Nat.add_mul];omega,fun j u hu=>?_⟩
  rw[List.flatten_cons,List.getElem?_append] at hu
  split at hu
  ·have:=h2 j u hu
   simpa using this
  ·rename_i hge
   have:=h4 _ u hu
   rwa [h1,show j-sz+(o+sz)=j+o from by omega] at this
theorem zcJ{cs:List Value}:∀ {l:List Field} {o n:Nat},flush P l o n=true->cs.length=n->o<=n->(l.map fun f=>(cs.drop f.offset).take (P.cellsOf f.type)).flatten=cs.drop o
 | [],o,n,h,hl,ho=>by
  have:=Nat.eq_of_beq_eq_true h
  simp;omega
 |f::l,o,n,h,hl,ho=>by
  simp only[flush,Bool.and_eq_true] at h
  have he:=Nat.eq_of_beq_eq_true h.1
  by_cases hle:o+P.cellsOf f.type<=n
  ·have ih:=zcJ (cs:=cs) h.2 hl hle
   simp only[List.map_cons,List.flatten_cons]
   rw[ih,he,<- List.drop_drop]
   exact List.take_append_drop _ _
  ·exfalso
   have:∀ (l:List Field) (o:Nat),flush P l o n=true->o<=n:=by
    intro l
    induction l with
    |nil=>intro o h;have:=Nat.eq_of_beq_eq_true h;omega
    |cons f l ih=>intro o h;simp only[flush,Bool.and_eq_true] at h;have:=ih _ h.2;omega
   exact hle (this l _ h.2)
theorem trod_array{H:Type}{enc:TypeId×Value->H}{base:Nat}{sp:Nat->Bool}{held:Bool}{fuel k:Nat}{t e:TypeId}{cs:List Value}{x:DataW H×List MemPlace}(ht:P.underlying t=some (.array k e))(h:DataW.trod enc P w base sp held fuel t cs=some x):
  ∃ (xs:List (DataW H×List MemPlace)) (n:Nat),fuel=n+1/\x.1=.agg (xs.map (·.1))/\cs.length=P.cellsOf t/\xs.length=k/\∀ i,i<k->DataW.trod enc P w base sp held n e ((cs.drop (i*P.cellsOf e)).take (P.cellsOf e))=xs[i]?:=by
 cases fuel with
 |zero=>simp [DataW.trod] at h
 |succ n=>
  unfold DataW.trod at h
  rw[ht] at h
  simp only at h
  split at h
  ·rename_i hlen
   obtain⟨xs,h1,h2⟩:=Option.map_eq_some_iff.1 h
   obtain⟨h3,h4⟩:=mapM_some h1
   rw[List.length_range] at h3
   subst h2
   refine⟨xs,n,rfl,rfl,hlen,h3,fun i hi=>?_⟩
   obtain⟨b,e1,e2⟩:=h4 i i (by simp [hi])
   rw[e2,e1]
  ·cases h
theorem zfi{H:Type}{enc:TypeId×Value->H}{base:Nat}{sp:Nat->Bool}{held:Bool}{fuel:Nat}{t:TypeId}{ms:Array (String×TypeId)}{cs:List Value}{p:List MemPlace}(ht:P.underlying t=some (.interface ms))(h:DataW.trod enc P w base sp held fuel t cs=some (.nil,p)):cs=[.nilIface]:=by
 cases fuel with
 |zero=>simp [DataW.trod] at h
 |succ n=>
  unfold DataW.trod at h
  rw[ht] at h
  split at h<;>first|(cases h;done)|skip
  all_goals first
   |rfl
   |(exfalso;simp_all;done)
   |(exfalso;split at h<;>simp_all;done)
theorem zeU{H:Type}{enc:TypeId×Value->H}{base:Nat}{sp:Nat->Bool}{held:Bool}{fuel:Nat}{t:TypeId}{ms:Array (String×TypeId)}{cs:List Value}{p:List MemPlace}{nm:String}{d:DataW H}(ht:P.underlying t=some (.interface ms))(h:DataW.trod enc P w base sp held fuel t cs=some (.iface nm d,p)):∃ u v,cs=[.iface u v]:=by
 cases fuel with
 |zero=>simp [DataW.trod] at h
 |succ n=>
  match cs with
  | []=>simp [DataW.trod,ht] at h
  |_::_::_=>simp [DataW.trod,ht] at h
  | [c]=>
   cases c<;>simp [DataW.trod,ht] at h
   exact⟨_,_,rfl⟩
theorem zfj{cs:List Value}{sz:Nat}:∀ {k o:Nat},cs.length=o+k*sz->((List.range k).map fun i=>(cs.drop (o+i*sz)).take sz).flatten=cs.drop o
 |0,o,h=>by simp;omega
 |k+1,o,h=>by
  have ih:=zfj (cs:=cs) (sz:=sz) (k:=k) (o:=o+sz) (by rw[h,Nat.add_mul];omega)
  rw[List.range_succ_eq_map,List.map_cons,List.flatten_cons,List.map_map]
  have e:((fun i=>(cs.drop (o+i*sz)).take sz) ∘ Nat.succ)=fun i=>(cs.drop (o+sz+i*sz)).take sz:=by
   funext i
   simp only[Function.comp]
   rw[show o+i.succ*sz=o+sz+i*sz from by rw[Nat.succ_eq_add_one,Nat.add_mul];omega]
  rw[e,ih,Nat.zero_mul,Nat.add_zero,<- List.drop_drop]
  exact List.take_append_drop _ _
theorem zhb{H:Type}{enc:TypeId×Value->H}{base:Nat}{held:Bool}(hB:B=w.heap.size)(hz:∃ (b0:Nat) (c:Array Value) (T:TypeId) (fr:Nat×Nat),w.heap[b0]?=some (.cells c T fr)):∀ (m:Nat) (t:TypeId) (d:DataW H) (h:zb) (xs:List AV) (h':zb) (G:Gh),HR G B h w->zoI P m t d h=some (xs,h') ->
  ∀ cs,(∃ n p,DataW.trod enc P w base (fun _=>true) held n t cs=some (d,p))->∃ G',HR G' B h' w/\G.ext G'/\VL G' xs cs
 |0,t,d,h,xs,h',G,hr,hl,cs,_=>by simp [zoI] at hl
 |m+1,t,d,h,xs,h',G,hr,hl,cs,⟨n,p,ht⟩=>by
  have ih:=fun t d h xs h' G=>zhb (enc:=enc) (base:=base) (held:=held) hB hz m t d h xs h' G
  unfold zoI at hl
  split at hl
  ·rename_i b hu
   cases hl
   obtain⟨b',rfl,e⟩:=DataW.trod_bool hu ht
   cases e
   exact⟨G,hr,Gh.z8 _,.cons (.bool _) .nil⟩
  ·rename_i k0 k z hu
   cases hl
   obtain⟨b',rfl,e,_⟩:=DataW.trod_int hu ht
   cases e
   exact⟨G,hr,Gh.z8 _,.cons (.int _ _) .nil⟩
  ·rename_i l hu
   cases hl
   obtain⟨b',rfl,e,_⟩:=DataW.trod_string hu ht
   cases e
   exact⟨G,hr,Gh.z8 _,.cons (.str b'.data.toList) .nil⟩
  ·rename_i e hu
   cases hl
   rcases DataW.trod_pointer hu ht with⟨rfl,_⟩|⟨a,cs',y,n',rfl,rfl,he,_⟩
   ·exact⟨G,hr,Gh.z8 _,.cons .zdO .nil⟩
   ·cases he
  ·rename_i e d' hu
   split at hl
   ·rename_i x xs h1 hl1
    cases hl
    rcases DataW.trod_pointer hu ht with⟨rfl,he⟩|⟨a,cs',y,n',rfl,rfl,he,hc,hy⟩
    ·cases he
    ·cases he
     obtain⟨G1,r1,l1,v1⟩:=ih e _ h _ _ G hr hl1 cs' ⟨n',_,hy⟩
     have hlen:=v1.length
     have hcl:=(kQ hc).1
     simp only[List.length_cons] at hlen
     obtain⟨c,T,fr,q1,q2,q3,q4⟩:=w9 hc (by omega)
     have hlt:a.block<B:=by rw[hB];exact(Array.getElem?_eq_some_iff.1 q1).1
     have hr2:=r1.zcY hlt q1 v1 q3 (by simp only[List.length_cons];omega)
     refine⟨_,hr2,l1.trans (Gh.zaC _ _),.cons ?_ .nil⟩
     have hV:=V.ptr (G:=G1++[[⟨a.block,0,(x::xs).length,c.size,a.off⟩]]) (loc:=h1.length) (off:=0) (ver:=0) (lim:=xs.length+1) (r:=⟨a.block,0,(x::xs).length,c.size,a.off⟩) (by rw[<- r1.len,w7];rfl) (Nat.le_refl _) (Nat.le_refl _)
     obtain⟨ab,ao,as1⟩:=a
     simp only at q2
     subst q2
     simpa using hV
   ·cases hl
  ·rename_i e hu
   cases hl
   rcases DataW.trod_slice hu ht with⟨rfl,_⟩|⟨a,len,cap,el,rs,n',rfl,rfl,he,_⟩
   ·exact⟨G,hr,Gh.z8 _,.cons .qH .nil⟩
   ·cases he
  ·rename_i e d0 l sp hu
   split at hl
   ·rename_i x xs h1 hl1
    cases hl
    rcases DataW.trod_slice hu ht with⟨rfl,he⟩|⟨a,len,cap,el,rs,n',rfl,rfl,he,hba,hlc,hcm,hel,hee,hsp,_⟩
    ·cases he
    ·simp only[Prod.mk.injEq,DataW.slice.injEq] at he
     obtain⟨⟨he1,he2⟩,_⟩:=he
     have hln:len=l.length+1:=by rw[<- hel,<- show(el.map (·.1)).length=el.length from List.length_map _,<- he1];rfl
     obtain⟨hrl,hrr⟩:=hsp rfl
     generalize hsz:P.cellsOf e=sz at *
     have hcell:∀ i,i<cap->∃ cs',w.cells? base (a.add (i*sz)) sz=some cs':=by
      intro i hi
      by_cases hil:i<len
      ·have h0:=hee i hil
       rw[List.getElem?_eq_getElem (by omega)] at h0
       obtain⟨cs',e1,_⟩:=Option.bind_eq_some_iff.1 h0
       exact⟨cs',e1⟩
      ·have h0:=hrr (i-len) (by omega)
       rw[List.getElem?_eq_getElem (by omega),show len+(i-len)=i from by omega] at h0
       obtain⟨cs',e1,_⟩:=Option.bind_eq_some_iff.1 h0
       exact⟨cs',e1⟩
     obtain⟨G1,r1,l1,v1⟩:=ky (Q:=fun(d:DataW H) cs=>∃ n q,DataW.trod enc P w base (fun _=>true) held n e cs=some (d,q)) (fun d h xs h' G hr hl cs hq=>ih e d h xs h' G hr hl cs hq) hr hl1
      (css:=(List.range len).map fun i=>(w.cells? base (a.add (i*sz)) sz).getD []) (by simp [hln]) (fun i d cs' e1 e2=>by
       rw[List.getElem?_map,Option.map_eq_some_iff] at e2
       obtain⟨j,e3,rfl⟩:=e2
       have hik:i<len:=by
        have:=(List.getElem?_eq_some_iff.1 e1).1
        simp only[List.length_cons] at this
        omega
       rw[List.getElem?_range hik] at e3
       cases e3
       rw[he1,List.getElem?_map,Option.map_eq_some_iff] at e1
       obtain⟨y,e6,e7⟩:=e1
       have h0:=hee i hik
       rw[e6] at h0
       obtain⟨cs2,f1,f2⟩:=Option.bind_eq_some_iff.1 h0
       rw[f1]
       exact⟨n',y.2,by rw[<- e7];exact f2⟩)
     have hvl:=v1.length
     have hpos:0<sz:=by
      rcases Nat.eq_zero_or_pos sz with h0|h0
      ·exfalso
       have:((List.range len).map fun i=>(w.cells? base (a.add (i*sz)) sz).getD []).flatten=[]:=by
        rw[List.flatten_eq_nil_iff]
        intro q hq
        obtain⟨i,hi,rfl⟩:=List.mem_map.1 hq
        obtain⟨cs',e1⟩:=hcell i (by have:=List.mem_range.1 hi;omega)
        rw[e1]
        have:=(kQ e1).1
        exact List.eq_nil_of_length_eq_zero (by show cs'.length=0;omega)
       rw[this] at hvl
       simp at hvl
      ·exact h0
     obtain⟨c0,ec0⟩:=hcell 0 (by omega)
     obtain⟨c,T,fr,q1,q2,_,_⟩:=w9 ec0 hpos
     rw[(j5 a _).1] at q1
     have ha0:a.add (0*sz)=a:=by simp [Addr.add]
     rw[ha0] at q2
     have hrow:∀ i,i<cap->∀ cs',w.cells? base (a.add (i*sz)) sz=some cs'->cs'.length=sz/\(∀ (k:Nat) (u:Value),cs'[k]?=some u->c[k+(a.off+i*sz)]?=some u)/\sz+(a.off+i*sz)<=c.size:=by
      intro i hi cs' ec
      obtain⟨c2,T2,fr2,g1,_,g3,g4⟩:=w9 ec hpos
      rw[(j5 a _).1,q1] at g1
      cases g1
      rw[(j5 a _).2] at g3 g4
      exact⟨(kQ ec).1,g3,g4⟩
     obtain⟨fl1,fl2⟩:=zio (c:=c) (sz:=sz) (o:=a.off) (css:=(List.range len).map fun i=>(w.cells? base (a.add (i*sz)) sz).getD []) (fun i cs' e2=>by
      rw[List.getElem?_map,Option.map_eq_some_iff] at e2
      obtain⟨j,e3,rfl⟩:=e2
      have hik:i<len:=by have:=(List.getElem?_eq_some_iff.1 e3).1;simpa using this
      rw[List.getElem?_range hik] at e3
      cases e3
      obtain⟨cs',ec⟩:=hcell i (by omega)
      rw[ec]
      obtain⟨k1,k2,_⟩:=hrow i (by omega) cs' ec
      exact⟨k1,k2⟩)
     rw[List.length_map,List.length_range] at fl1
     obtain⟨csl,ecl⟩:=hcell (cap-1) (by omega)
     obtain⟨_,_,hend⟩:=hrow (cap-1) (by omega) csl ecl
     have hcapsz:cap*sz=sz+(cap-1)*sz:=by
      obtain⟨k,rfl⟩:∃ k,cap=k+1:=⟨cap-1,by omega⟩
      rw[Nat.add_mul];simp;omega
     have hlensz:len*sz<=cap*sz:=Nat.mul_le_mul_right _ hlc
     have hlt:a.block<B:=by rw[hB];exact(Array.getElem?_eq_some_iff.1 q1).1
     have hxl:(x::xs).length=len*sz:=by rw[<- hvl,fl1]
     have hr2:=r1.zcY hlt q1 v1 fl2 (by omega)
     refine⟨_,hr2,l1.trans (Gh.zaC _ _),.cons ?_ .nil⟩
     have hV:=V.sl (G:=G1++[[⟨a.block,0,(x::xs).length,c.size,a.off⟩]]) (loc:=h1.length) (off:=0) (len:=len) (sz:=sz) (ver:=0) (cap:=cap) (clip:=false) (r:=⟨a.block,0,(x::xs).length,c.size,a.off⟩) (by rw[<- r1.len,w7];rfl) (Nat.le_refl _) (by show 0+len*sz<=(x::xs).length;omega) hlc
      (by show 0+a.off-0+cap*sz<=c.size;omega) (fun e=>by cases e) (fun _=>by show(x::xs).length<=0+cap*sz;omega) hcm hpos
     obtain⟨ab,ao,as1⟩:=a
     simp only at q2
     subst q2
     rw[<- hln]
     simpa using hV
   ·cases hl
  ·rename_i e rs0 hu
   split at hl
   ·rename_i hpos
    cases hl
    have hpos:0<P.cellsOf e:=by simpa [Nat.blt_eq] using hpos
    rcases DataW.trod_slice hu ht with⟨rfl,he⟩|⟨a,len,cap,el,rs,n',rfl,rfl,he,hba,hlc,hcm,hel,hee,hsp,_⟩
    ·cases he
    ·simp only[Prod.mk.injEq,DataW.slice.injEq] at he
     obtain⟨⟨he1,he2⟩,_⟩:=he
     have hln:len=0:=by rw[<- hel,<- show(el.map (·.1)).length=el.length from List.length_map _,<- he1];rfl
     subst hln
     obtain⟨hrl,hrr⟩:=hsp rfl
     rcases Nat.eq_zero_or_pos cap with h0|h0
     ·subst h0
      obtain⟨b0,c,T,fr,hb0⟩:=hz
      have hr2:=hr.zcY (a:=⟨b0,0,none⟩) (xs:=[]) (cs:=[]) (by show b0<B;rw[hB];exact(Array.getElem?_eq_some_iff.1 hb0).1) hb0 .nil (fun j u hu=>by simp at hu) (by simp)
      refine⟨_,hr2,Gh.zaC _ _,.cons ?_ .nil⟩
      exact V.sl0 (r:=⟨b0,0,0,c.size,0⟩) (by rw[<- hr.len,w7];rfl) (Nat.le_refl _) (Nat.le_refl _) (fun _=>Nat.le_refl _) hpos
     ·have hc:∀ i,i<cap->∃ cs',w.cells? base (a.add (i*P.cellsOf e)) (P.cellsOf e)=some cs':=by
       intro i hi
       have h0:=hrr i (by omega)
       rw[List.getElem?_eq_getElem (by omega),Nat.zero_add] at h0
       obtain⟨cs',e1,_⟩:=Option.bind_eq_some_iff.1 h0
       exact⟨cs',e1⟩
      obtain⟨c0,ec0⟩:=hc 0 h0
      obtain⟨c,T,fr,q1,q2,_,_⟩:=w9 ec0 hpos
      have ha0:a.add (0*P.cellsOf e)=a:=by simp [Addr.add]
      rw[ha0] at q1 q2
      obtain⟨csl,ecl⟩:=hc (cap-1) (by omega)
      obtain⟨c2,T2,fr2,g1,_,_,g4⟩:=w9 ecl hpos
      rw[(j5 a _).1,q1] at g1
      cases g1
      rw[(j5 a _).2] at g4
      have hcapsz:cap*P.cellsOf e=P.cellsOf e+(cap-1)*P.cellsOf e:=by
       obtain⟨k,rfl⟩:∃ k,cap=k+1:=⟨cap-1,by omega⟩
       rw[Nat.add_mul];simp;omega
      have hlt:a.block<B:=by rw[hB];exact(Array.getElem?_eq_some_iff.1 q1).1
      have hr2:=hr.zcY (a:=a) (xs:=[]) (cs:=[]) hlt q1 .nil (fun j u hu=>by simp at hu) (by simp only[List.length_nil];omega)
      refine⟨_,hr2,Gh.zaC _ _,.cons ?_ .nil⟩
      have hV:=V.sl (G:=G++[[⟨a.block,0,0,c.size,a.off⟩]]) (loc:=h.length) (off:=0) (len:=0) (sz:=P.cellsOf e) (ver:=0) (cap:=cap) (clip:=false) (r:=⟨a.block,0,0,c.size,a.off⟩) (by rw[<- hr.len,w7];rfl) (Nat.le_refl _) (by simp) hlc
       (by show 0+a.off-0+cap*P.cellsOf e<=c.size;omega) (fun e=>by cases e) (fun _=>Nat.zero_le _) hcm hpos
      obtain⟨ab,ao,as1⟩:=a
      simp only at q2
      subst q2
      simpa using hV
   ·cases hl
  ·rename_i fs ds hu
   split at hl
   ·rename_i hq
    obtain⟨ys,n',rfl,he,hlen,hyl,hy⟩:=DataW.trod_struct hu ht
    cases he
    have hfl:=zcJ (cs:=cs) hq.1 hlen (Nat.zero_le _)
    rw[List.drop_zero] at hfl
    obtain⟨G1,r1,l1,v1⟩:=ky (Q:=fun(p:Field×DataW H) cs=>∃ n q,DataW.trod enc P w base (fun _=>true) held n p.1.type cs=some (p.2,q)) (fun d h xs h' G hr hl cs hq=>ih d.1.type d.2 h xs h' G hr hl cs hq) hr hl
     (css:=fs.toList.map fun f=>(cs.drop f.offset).take (P.cellsOf f.type)) (by simp [hyl]) (fun i d cs' e1 e2=>by
      rw[List.getElem?_map,Option.map_eq_some_iff] at e2
      obtain⟨f,e3,rfl⟩:=e2
      rw[List.getElem?_zip_eq_some] at e1
      rw[e3] at e1
      obtain⟨e4,e5⟩:=e1
      cases e4
      rw[List.getElem?_map,Option.map_eq_some_iff] at e5
      obtain⟨y,e6,e7⟩:=e5
      have:=hy i d.1 (by simpa using e3)
      rw[e6] at this
      exact⟨n',y.2,by rw[this,<- e7]⟩)
    rw[hfl] at v1
    exact⟨G1,r1,l1,v1⟩
   ·cases hl
  ·rename_i k e ds hu
   split at hl
   ·rename_i hq
    obtain⟨ys,n',rfl,he,hlen,hyl,hy⟩:=trod_array hu ht
    simp only at he
    cases he
    have hfl:=zfj (cs:=cs) (sz:=P.cellsOf e) (k:=k) (o:=0) (by rw[hlen,hq.1];omega)
    simp only[Nat.zero_add,List.drop_zero] at hfl
    obtain⟨G1,r1,l1,v1⟩:=ky (Q:=fun(d:DataW H) cs=>∃ n q,DataW.trod enc P w base (fun _=>true) held n e cs=some (d,q)) (fun d h xs h' G hr hl cs hq=>ih e d h xs h' G hr hl cs hq) hr hl
     (css:=(List.range k).map fun i=>(cs.drop (i*P.cellsOf e)).take (P.cellsOf e)) (by simp [hyl]) (fun i d cs' e1 e2=>by
      rw[List.getElem?_map,Option.map_eq_some_iff] at e1 e2
      obtain⟨y,e6,e7⟩:=e1
      obtain⟨j,e3,rfl⟩:=e2
      have hik:i<k:=by rw[<- hyl];exact(List.getElem?_eq_some_iff.1 e6).1
      rw[List.getElem?_range hik] at e3
      cases e3
      have:=hy i hik
      rw[e6] at this
      exact⟨n',y.2,by rw[this,<- e7]⟩)
    rw[hfl] at v1
    exact⟨G1,r1,l1,v1⟩
   ·cases hl
  ·rename_i ms hu
   cases hl
   have:=zfi hu ht
   subst this
   exact⟨G,hr,Gh.z8 _,.cons .zaY .nil⟩
  ·rename_i ms nm d hu
   cases hl
   obtain⟨u,v,rfl⟩:=zeU hu ht
   exact⟨G,hr,Gh.z8 _,.cons (.opq u v) .nil⟩
  ·cases hl
theorem HR.zrj{G:Gh}{h:zb}{loc:Nat}{blk blk':Blk}{vs:List Ver}(hr:HR G B h w)(hl:h[loc]?=some blk)(ho:blk.own=false)(ho':blk'.own=false)(hg:G[loc]?=some vs)(hB:zkX G w blk' vs):HR G B (h.set loc blk') w:=by
 have hlt:=Arr.lt hl
 refine⟨by rw[Arr.length_set];exact hr.len,fun l b vs' h1 h2=>?_,hr.lt,fun l v r b hat h1=>?_,hr.apart,hr.base⟩
 ·rw[Arr.zt] at h1
  split at h1
  ·rename_i e
   subst e
   cases h1
   rw[hg] at h2;cases h2
   exact hB
  ·exact hr.blk l b vs' h1 h2
 ·rw[Arr.zt] at h1
  split at h1
  ·rename_i e
   subst e
   cases h1
   have:=hr.own _ _ _ _ hat hl
   rw[ho] at this
   rw[ho']
   exact this
  ·exact hr.own _ _ _ _ hat h1
end
def zcL(P:Program)(m:Nat):List (String×DataW Unit)->zb->Option zb
 | [],h=>some h
 |(n,d)::r,h=>match P.globalNamed n with
  |some g=>match P.globals[g]? with
   |some v=>match zoI P m v.type d h with
    |some (xs,h1)=>match h1[g]? with
     |some .dead=>if Nat.beq xs.length (P.cellsOf v.type)=true then zcL P m r (h1.set g (.lay xs)) else none
     |_=>none
    |none=>zcL P m r h
   |none=>none
  |none=>none
def zcx(P:Program):Gh:=(List.range P.globals.size).map fun g=>match P.globals[g]? with
 |some v=>[⟨g,0,P.cellsOf v.type,P.cellsOf v.type,0⟩]
 |none=>[]
section
variable {P:Program} {B:Nat} {w:World}
theorem xE(hB:B=w.heap.size)(hz:∃ (b0:Nat) (c:Array Value) (T:TypeId) (fr:Nat×Nat),w.heap[b0]?=some (.cells c T fr))(m:Nat):∀ {l:List (String×DataW Unit)} {ps:List MemPlace} {h h':zb} {G:Gh},DataW.LaidVars P w l ps->zcL P m l h=some h'->HR G B h w->(zcx P).ext G->∃ G',HR G' B h' w/\G.ext G'
 | [],ps,h,h',G,hp,hl,hr,hx=>by cases hl;exact⟨G,hr,Gh.z8 _⟩
 |(n,d)::l,ps,h,h',G,hp,hl,hr,hx=>by
  obtain⟨g,t,cs,fuel,p,q,e1,e2,e3,e4,e5,_⟩:=hp
  unfold zcL at hl
  rw[e1] at hl
  simp only at hl
  obtain⟨v,ev,rfl⟩:=Option.map_eq_some_iff.1 e2
  rw[ev] at hl
  simp only at hl
  split at hl
  ·rename_i xs h1 hd
   split at hl
   ·rename_i hdead
    split at hl
    ·rename_i hlen
     have hlen:=Nat.eq_of_beq_eq_true hlen
     obtain⟨G1,r1,x1,v1⟩:=zhb hB hz m v.type d h xs h1 G hr hd cs.toList ⟨fuel,p,e4⟩
     have hgl:g<P.globals.size:=(Array.getElem?_eq_some_iff.1 ev).1
     have hgv:(zcx P)[g]?=some [⟨g,0,P.cellsOf v.type,P.cellsOf v.type,0⟩]:=by
      unfold zcx
      rw[List.getElem?_map,List.getElem?_range hgl]
      simp only[Option.map_some,ev]
     have hgG:=(hx.trans x1).get hgv
     have hcl:=v1.length
     rw[Array.length_toList] at hcl
     obtain⟨c,T,fr,hw,hc⟩:∃ c T fr,w.heap[g]?=some (.cells c T fr)/\c=cs:=by
      unfold World.var? at e3
      rw[e1] at e3
      simp only[Option.bind_some] at e3
      split at e3
      ·rename_i c T fr hb;cases e3;exact⟨_,T,fr,hb,rfl⟩
      ·cases e3
     subst hc
     have hr2:=r1.zrj (blk':=.lay xs) hdead rfl rfl hgG (.inr ⟨_,rfl,rfl,hlen.symm,c,T,fr,hw,by show c.size=P.cellsOf v.type;omega,by show P.cellsOf v.type+0<=P.cellsOf v.type;omega,fun p' hp'=>by
      have hp2:p'<xs.length:=by rw[hlen];exact hp'
      obtain⟨u,f1,f2⟩:=v1.get (List.getElem?_eq_getElem hp2)
      exact⟨_,u,List.getElem?_eq_getElem hp2,by rw[<- Array.getElem?_toList];exact f1,f2⟩⟩)
     obtain⟨G2,r2,x2⟩:=xE hB hz m e5 hl hr2 (hx.trans x1)
     exact⟨G2,r2,x1.trans x2⟩
    ·cases hl
   ·cases hl
  ·exact xE hB hz m e5 hl hr hx
theorem zm6{g:Nat}{vs:List Ver}(h:(zcx P)[g]?=some vs):g<P.globals.size/\∃ v,P.globals[g]?=some v/\vs=[⟨g,0,P.cellsOf v.type,P.cellsOf v.type,0⟩]:=by
 have hg:g<P.globals.size:=by have:=(List.getElem?_eq_some_iff.1 h).1;simpa [zcx] using this
 have hv:P.globals[g]?=some P.globals[g]:=Array.getElem?_eq_getElem hg
 unfold zcx at h
 rw[List.getElem?_map,List.getElem?_range hg] at h
 simp only[Option.map_some,hv,Option.some.injEq] at h
 exact⟨hg,_,hv,h.symm⟩
theorem zgE{g v:Nat}{r:Ver}(h:(zcx P).at g v=some r):g<P.globals.size/\r.b=g:=by
 unfold Gh.at at h
 cases hg:(zcx P)[g]? with
 |none=>rw[hg] at h;cases h
 |some vs=>
  rw[hg] at h
  obtain⟨h1,x,_,rfl⟩:=zm6 hg
  refine⟨h1,?_⟩
  cases v with
  |zero=>simp at h;rw[<- h]
  |succ v=>simp at h
theorem zj8(hn:P.globals.size<=w.heap.size):HR (zcx P) w.heap.size (Arr.of (List.replicate P.globals.size .dead)) w:=by
 refine⟨by rw[Arr.zlP];simp [zcx],fun loc b vs hb hg=>?_,fun loc v r hat=>?_,fun loc v r b hat hb=>?_,fun l1 l2 v1 v2 r1 r2 h1 _ hB _=>?_,Nat.le_refl _⟩
 ·rw[Arr.zlw,List.getElem?_replicate] at hb
  split at hb
  ·cases hb;trivial
  ·cases hb
 ·have:=zgE hat;omega
 ·rw[Arr.zlw,List.getElem?_replicate] at hb
  have:=zgE hat
  split at hb
  ·cases hb
   exact Iff.intro (fun e=>by cases e) (fun e=>by omega)
  ·cases hb
 ·have:=zgE h1;omega
theorem zfv:∀ {laid:List (String×DataW Unit)} {ps:List MemPlace},DataW.LaidVars P w laid ps->laid.isEmpty=false->∃ (b0:Nat) (c:Array Value) (T:TypeId) (fr:Nat×Nat),w.heap[b0]?=some (.cells c T fr)
 | [],_,_,he=>by cases he
 |(n,d)::l,ps,hp,_=>by
  obtain⟨g,t,cs,fuel,p,q,e1,e2,e3,e4,e5,_⟩:=hp
  unfold World.var? at e3
  rw[e1] at e3
  simp only[Option.bind_some] at e3
  split at e3
  ·rename_i c T fr hb;exact⟨g,_,T,fr,hb⟩
  ·cases e3
end
structure zow(W W':World):Prop where
 os:W'.os=W.os
 output:W'.output=W.output
 size:W.heap.size<=W'.heap.size
 low:∀ b,b<W.heap.size->W'.heap[b]?=W.heap[b]?
theorem zow.kept{W W':World}(h:zow W W')(may:MemPlace->Prop):W.keptBut W' may:=by
 refine⟨h.os,h.output,fun i hi=>?_⟩
 rw[h.low i hi]
 cases W.heap[i]? with
 |none=>rfl
 |some o=>cases o<;>first|exact⟨rfl,rfl,rfl,fun _ _=>rfl⟩|exact .inr ⟨rfl,rfl⟩|rfl
theorem zow.same{W W':World}(h:zow W W')(p:MemPlace)(hp:p.block<W.heap.size):W.sameAt W' p:=by
 cases p with
 |cell b off=>show W'.cell? _=W.cell? _;unfold World.cell?;rw[h.low b hp]
 |map b=>exact h.low b hp
theorem zll{G:Gh}{B:Nat}{W W':World}{v:AV}{h':zb}{e:Ending}(hB:B=W.heap.size)(hr:∀ loc v r,G.at loc v=some r->r.b<B)(hc:zkY G B W (.ret v h') e W'):zow W W'/\∃ G' u,V G' v u/\e=.returned u:=by
 obtain⟨G',hS,u,hv,rfl⟩:=hc
 exact⟨⟨hS.fr.os,hS.fr.output,hS.fr.size,fun b hb=>hS.fr.low b hb fun loc v r hat hBr e=>by have:=hr _ _ _ hat;omega⟩,G',u,hv,rfl⟩
section
variable {H:Type} {enc:TypeId×Value->H} {P:Program}
theorem zdy{W W':World}(hg:zow W W'){base:Nat}{sp:Nat->Bool}{held:Bool}:∀ {ts:List TypeId} {vs:List Value} {ds:List (DataW H)} {ps:List MemPlace},
  DataW.TrodAll enc P W base sp held ts vs ds ps->(∀ p ∈ ps,p.block<W.heap.size)->DataW.TrodAll enc P W' base sp held ts vs ds ps
 | [],[],[],ps,h,_=>h
 |t::ts,v::vs,d::ds,ps,h,hp=>by
  obtain⟨p,q,⟨n,h1⟩,h2,rfl⟩:=h
  exact⟨p,q,⟨n,DataW.trod_carry n _ _ _ h1 fun x hx=>hg.same x (hp x (List.mem_append_left _ hx))⟩,zdy hg h2 (fun x hx=>hp x (List.mem_append_right _ hx)),rfl⟩
 | [],[],_::_,_,h,_=>h.elim
 | [],_::_,_,_,h,_=>h.elim
 |_::_,[],_,_,h,_=>h.elim
 |_::_,_::_,[],_,h,_=>h.elim
theorem zmi{fn:Func}{s:ChangeSpec}{W W':World}{args:Array Value}{ds gs:List (DataW H)}{before:List MemPlace}{tb:TypeId}
  (hlo:laidOutB P=true) (hmr:mapsRowed P=true) (hfull:((List.range P.types.size).all fun t=>match P.underlying t with|some (.slice e)=>decide (0<P.cellsOf e)|_=>true)=true)
  (hts:(fn.params.toList.all fun t=>decide (t<P.types.size))=true) (hr:fn.resultTypes=#[tb]) (hb:P.underlying tb=some .bool) (hv:s.vars=[]) (hs:s.fn H ds={ results:=[.lit (.bool true)],args:=ds })
  (hW:DataW.Whole enc P fn.params.toList s.vars false W args.toList ds gs before) (hg:zow W W'):
  s.post enc P fn false true false false W args (.bool true) W':=by
 have hW0:=hW
 have hlt:=hW.lt
 obtain⟨p,q,hA,hV,rfl,hz,hn⟩:=hW
 rw[hv] at hV
 obtain⟨rfl,rfl⟩:gs=[]/\q=[]:=by
  cases gs with
  |nil=>exact⟨rfl,hV⟩
  |cons=>exact hV.elim
 have hT:∀ t ∈ fn.params.toList,t<P.types.size:=fun t ht=>of_decide_eq_true (List.all_eq_true.1 hts t ht)
 have hA':DataW.TrodAll enc P W 0 (fun b=>decide (b<W.heap.size)) true fn.params.toList args.toList ds p:=
  DataW.TrodAll.respare (kids_rows hlo hmr) (slices_full_of P hfull) hT hA fun x hx=>by simpa using hlt x (List.mem_append_left _ hx)
 refine⟨ds,[],p++[],[],p,[],hW0,?_,?_,?_,hg.kept _,fun e=>by cases e⟩
 ·rw[List.append_nil,hs,hr]
  exact⟨[],[],⟨1,by simp [DataW.trod,hb,Value.cells]⟩,rfl,rfl⟩
 ·rw[List.append_nil,hs]
  exact zdy hg hA' fun x hx=>hlt x (List.mem_append_left _ hx)
 ·rw[List.append_nil,hs,hv];rfl
end
section
variable {P:Program} {hgl:zb} {Gg:Gh} {W0 w:World}
end
def zpW(v:Bool):Option CR->Bool
 |some (.ret (.bool b) _)=>b==v
 |_=>false
theorem zku{v:Bool}{o:Option CR}(h:zpW v o=true):∃ h',o=some (.ret (.bool v) h'):=by
 unfold zpW at h
 split at h
 ·rename_i b h';exact⟨h',by rw[eq_of_beq h]⟩
 ·cases h
section
variable {H:Type} {enc:TypeId×Value->H} {P:Program} {W:World}
theorem zkD{P:Program}{w:World}{g:Nat}{t:TypeId}{zero:Array Value}{k:IntKind}(h:w.ShapedOpen P)(hg:g<P.globals.size)
  (h0:((begin P (fun _ _=>0) default).world.heap[g]?).bind Obj.row?=some (zero,t)) (hz:zero.size=1)
  (hb:P.buildable t=true) (hc:P.cellTypes P.depth t=some [t]) (hu:P.underlying t=some (.int k)):
  ∃ m c T fr,w.heap[g]?=some (.cells c T fr)/\c.size=1/\c[0]?=some (.int k m)/\k.min<=m/\m<=k.max:=by
 obtain⟨cs,hh,hs,hr⟩:=h.1 g zero t hg h0
 obtain⟨ts,hts,_,hall⟩:=hr hb
 rw[hc] at hts
 cases hts
 have h1:0<cs.size:=by omega
 obtain⟨u,hu',hok⟩:=hall 0 cs[0] (by simp [h1])
 have:u=t:=by simpa using hu'.symm
 subst this
 unfold Cell.ok at hok
 rw[hu] at hok
 cases hv:cs[0]<;>rw[hv] at hok<;>simp at hok
 case int k' n=>
  obtain⟨rfl,h2,h3⟩:=hok
  exact⟨n,cs,_,_,hh,by omega,by rw[Array.getElem?_eq_getElem h1,hv],h2,h3⟩
theorem zi4{P:Program}{w:World}(h:w.ShapedOpen P)(h0:((((begin P (fun _ _=>0) default).world.heap[P.globals.size-1]?).bind Obj.row?).isSome&&decide (0<P.globals.size))=true):P.globals.size<=w.heap.size:=by
 simp only[Bool.and_eq_true,decide_eq_true_eq] at h0
 obtain⟨⟨zero,t⟩,h1⟩:=Option.isSome_iff_exists.1 h0.1
 obtain⟨cs,hh,_⟩:=h.1 (P.globals.size-1) zero t (by omega) h1
 have:=(Array.getElem?_eq_some_iff.1 hh).1
 omega
theorem zlK{P:Program}{w:World}{laid:List (String×DataW Unit)}{m:Nat}{hgl:zb}(hn:P.globals.size<=w.heap.size)(hm:laidMet P laid w)(hne:laid.isEmpty=false)(hl:zcL P m laid (Arr.of (List.replicate P.globals.size .dead))=some hgl)
  {g:Nat} {c:Array Value} {T:TypeId} {fr:Nat×Nat} {z lo hi:Int} (hd:hgl[g]?=some .dead) (hgt:((P.globals[g]?).map fun v=>P.cellsOf v.type)=some 1) (hc:w.heap[g]?=some (.cells c T fr)) (hcs:c.size=1) (hc0:c[0]?=some (.int .i64 z)) (h1:lo<=z) (h2:z<=hi):
  ∃ Gg,Laid P (hgl.set g (.lay [.iv lo hi])) Gg w.heap.size w:=by
 obtain⟨ps,hv,_⟩:=hm
 obtain⟨G,hr,hx⟩:=xE rfl (zfv hv hne) m hv hl (zj8 hn) (Gh.z8 _)
 obtain⟨v,ev,ecells⟩:=Option.map_eq_some_iff.1 hgt
 have hgl':g<P.globals.size:=(Array.getElem?_eq_some_iff.1 ev).1
 have hgv:(zcx P)[g]?=some [⟨g,0,P.cellsOf v.type,P.cellsOf v.type,0⟩]:=by
  unfold zcx
  rw[List.getElem?_map,List.getElem?_range hgl']
  simp only[Option.map_some,ev]
 have hr2:=hr.zrj (blk':=.lay [.iv lo hi]) hd rfl rfl (hx.get hgv) (.inr ⟨_,rfl,rfl,by simp [ecells],c,T,fr,hc,by simp [ecells,hcs],by simp [ecells],fun p hp=>by
  have hp0:p=0:=by
   have:p<P.cellsOf v.type:=hp
   omega
  subst hp0
  exact⟨_,_,rfl,by simpa using hc0,.iv h1 h2⟩⟩)
 refine⟨G,hr2,fun loc v r hat=>hr2.lt _ _ _ hat,fun g hg=>?_⟩
 have hv:P.globals[g]?=some P.globals[g]:=Array.getElem?_eq_getElem hg
 have hgv:(zcx P)[g]?=some [⟨g,0,P.cellsOf (P.globals[g]).type,P.cellsOf (P.globals[g]).type,0⟩]:=by
  unfold zcx
  rw[List.getElem?_map,List.getElem?_range hg]
  simp only[Option.map_some,hv]
 exact⟨_,Gh.xX (hx.get hgv) rfl,rfl,rfl,rfl⟩
theorem zpO{P:Program}{W:World}{r:Reach}{base:Nat}{t:TypeId}{cs:Array Value}(ha:zgF P t=some false)(h:Value.okWide P W r base t (.agg cs)):False:=by
 unfold Value.okWide at h
 unfold zgF at ha
 cases hu:P.underlying t with
 |none=>rw[hu] at ha;cases ha
 |some d=>
  rw[hu] at ha h
  cases d<;>first|(cases ha;done)|(simp [Cell.okWide,Cell.ok,hu] at h;done)
theorem zql{P:Program}{W:World}{r:Reach}{base:Nat}{t:TypeId}{v:Value}(ha:zgF P t=some true)(h:Value.okWide P W r base t v):∃ l:List Value,v=.agg (List.toArray l):=by
 unfold zgF at ha
 unfold Value.okWide at h
 cases hu:P.underlying t with
 |none=>rw[hu] at ha;cases ha
 |some d=>
  rw[hu] at ha h
  cases d<;>first|(cases ha;done)|(obtain⟨cs,rfl,_⟩:=h;exact⟨cs.toList,by simp⟩)
theorem val_one{P:Program}{W:World}{r:Reach}{base:Nat}{t:TypeId}{v x:Value}(ha:zgF P t=some false)(h:Value.okWide P W r base t v)(hc:v.cells.toList=[x]):v=x:=by
 cases v with
 |agg cs=>exact(zpO ha h).elim
 |_=>simpa [Value.cells] using hc
theorem zjS{t:TypeId}{ts:List TypeId}{vs:List Value}{ds:List (DataW H)}{ps:List MemPlace}(h:DataW.TrodAll enc P W 0 (fun _=>true) true (t::ts) vs ds ps):
  ∃ v vs' d ds' p q,vs=v::vs'/\ds=d::ds'/\(∃ n,DataW.trod enc P W 0 (fun _=>true) true n t v.cells.toList=some (d,p))/\DataW.TrodAll enc P W 0 (fun _=>true) true ts vs' ds' q:=by
 match vs,ds,h with
 |v::vs',d::ds',h=>obtain⟨p,q,h1,h2,_⟩:=h;exact⟨v,vs',d,ds',p,q,rfl,rfl,h1,h2⟩
theorem zjR{vs:List Value}{ds:List (DataW H)}{ps:List MemPlace}(h:DataW.TrodAll enc P W 0 (fun _=>true) true [] vs ds ps):vs=[]/\ds=[]:=by
 match vs,ds,h with
 | [],[],_=>exact⟨rfl,rfl⟩
end
end Go.Mx
namespace Go.Sx
open Go Go.Gx Go.Mx
variable [qG]
@[reducible] def zw{α β γ:Type}(o:α ⊕ β)(f:α->γ)(g:β->γ):γ:=match o with
 |.inl a=>f a
 |.inr b=>g b
def zud:Lf->Option Bool
 |.b x=>some x
 |_=>none
def zuf:Lf->Option Int
 |.i x=>some x
 |_=>none
def zue:Lf->Option UInt8
 |.c x=>some x
 |_=>none
def zui:Lf->Option (List UInt8)
 |.s x=>some x
 |_=>none
def zuh:Lf->Option Nat
 |.n x=>some x
 |_=>none
def zug(u:U):Lf->Option (List (El u))
 |.l v x=>wK v u x
 |_=>none
def zts(u:U):Lf->Option (El u)
 |.e v x=>if h:v=u then some (h ▸ x) else none
 |_=>none
inductive LK where
 |b|i|c|s|n|l (u:U)|e (u:U)
@[reducible] def LK.T:LK->Type
 |.b=>Bool|.i=>Int|.c=>UInt8|.s=>List UInt8|.n=>Nat|.l u=>List (El u)|.e u=>El u
def LK.g:(k:LK)->Lf->Option k.T
 |.b=>zud|.i=>zuf|.c=>zue|.s=>zui|.n=>zuh|.l u=>zug u|.e u=>zts u
def LK.m:(k:LK)->k.T->Lf
 |.b=>.b|.i=>.i|.c=>.c|.s=>.s|.n=>.n|.l u=>.l u|.e u=>.e u
@[reducible] def LTs:List LK->Type
 | []=>Unit
 |k::ks=>k.T×LTs ks
def eL:(ks:List LK)->LTs ks->List Lf
 | [],_=>[]
 |k::ks,(x,y)=>k.m x::eL ks y
def dL:(ks:List LK)->List Lf->Option (LTs ks)
 | [],[]=>some ()
 |k::ks,w::ws=>match k.g w,dL ks ws with
  |some a,some b=>some (a,b)
  |_,_=>none
 |_,_=>none
theorem LK.g_s:∀ {k:LK} {w:Lf} {x:k.T},k.g w=some x->w=k.m x
 |.b,w,x,h=>by cases w<;>first|(cases h;rfl)|cases h
 |.i,w,x,h=>by cases w<;>first|(cases h;rfl)|cases h
 |.c,w,x,h=>by cases w<;>first|(cases h;rfl)|cases h
 |.s,w,x,h=>by cases w<;>first|(cases h;rfl)|cases h
 |.n,w,x,h=>by cases w<;>first|(cases h;rfl)|cases h
 |.l u,w,x,h=>by
  cases w<;>first|(cases h;done)|skip
  obtain⟨e,h2⟩:=zP h
  subst e;cases h2;rfl
 |.e u,w,x,h=>by
  cases w<;>first|(cases h;done)|skip
  simp only[LK.g,zts] at h
  split at h
  ·rename_i e;subst e;cases h;rfl
  ·cases h
theorem zr6:∀ {ks:List LK} {ls:List Lf} {x:LTs ks},dL ks ls=some x->ls=eL ks x
 | [],[],x,h=>rfl
 | [],_::_,x,h=>by cases h
 |_::_,[],x,h=>by cases h
 |k::ks,w::ws,x,h=>by
  simp only[dL] at h
  split at h
  ·rename_i a b ha hb
   cases h
   rw[LK.g_s ha,zr6 hb];rfl
  ·cases h
@[reducible] def Cv(O:Type):List (List LK)->Type
 | []=>Unit
 |ks::r=>(LTs ks->O)×Cv O r
def dO{O:Type}:(oks:List (List LK))->Cv O oks->Nat->List Lf->Option O
 | [],_,_,_=>none
 |ks::_,(f,_),0,os=>(dL ks os).map f
 |_::r,(_,fs),k+1,os=>dO r fs k os
def zrN{O:Type}(kc:KC O):(oks:List (List LK))->Cv O oks->Nat->Prop
 | [],_,_=>True
 |ks::r,(f,fs),j=>(∀ x R κ,kc R (f x) κ=κ j (eL ks x))/\zrN kc r fs (j+1)
theorem ztr{O:Type}{kc:KC O}:∀ {oks:List (List LK)} {cv:Cv O oks} {j:Nat},zrN kc oks cv j->∀ k os o,dO oks cv k os=some o->∀ R κ,kc R o κ=κ (j+k) os
 | [],_,_,_,k,os,o,h=>by cases h
 |ks::r,(f,fs),j,⟨h1,h2⟩,0,os,o,h=>fun R κ=>by
  simp only[dO,Option.map_eq_some_iff] at h
  obtain⟨x,hx,rfl⟩:=h
  rw[h1,zr6 hx];rfl
 |ks::r,(f,fs),j,⟨h1,h2⟩,k+1,os,o,h=>fun R κ=>by
  rw[ztr h2 k os o h R κ,Nat.add_right_comm,Nat.add_assoc]
def lsT{O:Type}(ks:List LK)(F:LTs ks->Option O)(kc:KC O):LS:=fun R ls κ=>((dL ks ls).bind F).bind fun o=>kc R o κ
def zkJ:Code->List Nat->Code
 |c,[]=>c
 |.seq a _,0::p=>zkJ a p
 |.seq _ b,_::p=>zkJ b p
 |.cond _ a _,0::p=>zkJ a p
 |.cond _ _ b,_::p=>zkJ b p
 |.block _ c,_::p=>zkJ c p
 |.loop c,_::p=>zkJ c p
 |.rangeFunc _ _ a _,0::p=>zkJ a p
 |.rangeFunc _ _ _ b,_::p=>zkJ b p
 |_,_=>.skip
def roundOf(fn:Func)(p:List Nat):Code:=match fn.body with
 |some c=>match zkJ c p with
  |.loop b=>b
  |_=>.skip
 |none=>.skip
def zoB{α:Type 1}:Option (List α)->Option (List α)->Option (List α)
 |some a,some b=>some (a++b)
 |_,_=>none
def zD(P:Program):Pl->Code->Option (List (Code×LF))
 |.auto,_=>some []
 |.two a b,c=>match c with
  |.seq x y=>zoB (zD P a x) (zD P b y)
  |.cond _ x y=>zoB (zD P a x) (zD P b y)
  |.loop x=>zoB (zD P a x) (zD P b (.loop x))
  |_=>none
 |.one a,c=>match c with
  |.block _ x=>zD P a x
  |.loop x=>zD P a x
  |_=>none
 |.cal _ f a rest,c=>match P.funcs[f]? with
  |some fn=>match fn.body with
   |some b=>zoB (zD P a b) (zD P rest c)
   |none=>none
  |none=>none
 |.by_ g,c=>match c with
  |.loop x=>some [(.loop x,g)]
  |.region id ops true=>some [(.region id ops true,g)]
  |.rangeFunc f ps a b=>some [(.rangeFunc f ps a b,g)]
  |_=>none
 |.yl _ id a b rest,c=>match qG.at_ id with
  |some (_,asg,body)=>zoB (zD P a asg) (zoB (zD P b body) (zD P rest c))
  |none=>zD P rest c
section
variable {P:Program} {gl:GL} {hk:qx}
def xS(P:Program)(gl:GL)(hk:qx):List (Code×LF)->Prop
 | []=>True
 |(c,g)::l=>zh8 P gl hk c g/\xS P gl hk l
theorem xS.app:∀ {a b:List (Code×LF)},xS P gl hk (a++b)->xS P gl hk a/\xS P gl hk b
 | [],b,h=>⟨trivial,h⟩
 |_::_,b,⟨h1,h2⟩=>⟨⟨h1,(xS.app h2).1⟩,(xS.app h2).2⟩
theorem kP{α:Type 1}{a b:Option (List α)}{l:List α}(h:zoB a b=some l):∃ x y,a=some x/\b=some y/\l=x++y:=by
 unfold zoB at h
 split at h
 ·cases h;exact⟨_,_,rfl,rfl,rfl⟩
 ·cases h
theorem qS:∀ {pl:Pl} {c:Code} {ls:List (Code×LF)},zD P pl c=some ls->xS P gl hk ls->jH P gl hk pl c
 |.auto,_,_,_,_=>trivial
 |.two a b,c,ls,h,hs=>by
  unfold zD at h
  split at h
  ·obtain⟨x,y,h1,h2,rfl⟩:=kP h
   exact⟨qS h1 (xS.app hs).1,qS h2 (xS.app hs).2⟩
  ·obtain⟨x,y,h1,h2,rfl⟩:=kP h
   exact⟨qS h1 (xS.app hs).1,qS h2 (xS.app hs).2⟩
  ·obtain⟨x,y,h1,h2,rfl⟩:=kP h
   exact⟨qS h1 (xS.app hs).1,qS h2 (xS.app hs).2⟩
  ·cases h
 |.one a,c,ls,h,hs=>by
  unfold zD at h
  split at h
  ·exact qS (pl:=a) h hs
  ·exact qS (pl:=a) h hs
  ·cases h
 |.cal i f a rest,c,ls,h,hs=>by
  unfold zD at h
  split at h
  ·rename_i fn hf
   split at h
   ·rename_i b hb
    obtain⟨x,y,h1,h2,rfl⟩:=kP h
    refine⟨fun fn' b' hf' hb'=>?_,qS h2 (xS.app hs).2⟩
    rw[hf] at hf';cases hf'
    rw[hb] at hb';cases hb'
    exact qS h1 (xS.app hs).1
   ·cases h
  ·cases h
 |.by_ g,c,ls,h,hs=>by
  unfold zD at h
  split at h
  ·cases h;exact hs.1
  ·cases h;exact hs.1
  ·cases h;exact hs.1
  ·cases h
 |.yl _ id a b rest,c,ls,h,hs=>by
  unfold zD at h
  split at h
  ·rename_i ps asg body hc
   obtain⟨x,y,h1,h2,rfl⟩:=kP h
   obtain⟨y1,y2,h3,h4,rfl⟩:=kP h2
   refine⟨fun ps' asg' body' hc'=>?_,qS h4 (xS.app (xS.app hs).2).2⟩
   rw[hc] at hc';cases hc'
   exact⟨qS h1 (xS.app hs).1,qS h3 (xS.app (xS.app hs).2).1⟩
  ·rename_i hc
   exact⟨fun ps asg body hc'=>(by rw[hc] at hc';cases hc'),qS h hs⟩
theorem zeI{f:FuncId}{fn:Func}{pl:Pl}{ls:List (Code×LF)}(hf:P.funcs[f]?=some fn)(h:(match fn.body with|some b=>zD P pl b|none=>none)=some ls)(hs:xS P gl hk ls):∀ fn b,P.funcs[f]?=some fn->fn.body=some b->jH P gl hk pl b:=by
 intro fn' b hf' hb
 rw[hf] at hf';cases hf'
 rw[hb] at h
 exact qS h hs
theorem xS.nil:xS P gl hk []:=trivial
theorem xS.cons{c:Code}{g:LF}{l:List (Code×LF)}(h:zh8 P gl hk c g)(t:xS P gl hk l):xS P gl hk ((c,g)::l):=⟨h,t⟩
def zd4:List (FuncId×CF)->CT
 | [],_=>none
 |(f,g)::l,k=>match Nat.beq k f with
  |true=>some g
  |false=>zd4 l k
def zh5(P:Program)(gl:GL)(hk:qx):List (FuncId×CF)->Prop
 | []=>True
 |(f,g)::l=>zec P gl hk f g/\zh5 P gl hk l
theorem zfO:∀ {l:List (FuncId×CF)},zh5 P gl hk l->∀ f g,zd4 l f=some g->zec P gl hk f g
 | [],_,f,g,h=>by cases h
 |(f0,g0)::l,⟨h1,h2⟩,f,g,h=>by
  unfold zd4 at h
  split at h
  ·rename_i he
   cases h
   rw[Nat.eq_of_beq_eq_true he];exact h1
  ·exact zfO h2 f g h
def zkU:List (FuncId×CF)->FuncId->Bool
 | [],_=>false
 |(f,_)::l,k=>Nat.beq k f||zkU l k
theorem zg3:∀ {l:List (FuncId×CF)} {k:FuncId},zkU l k=true->∃ g,zd4 l k=some g
 | [],k,h=>by cases h
 |(f,g)::l,k,h=>by
  unfold zd4
  cases hb:Nat.beq k f with
  |true=>exact⟨g,rfl⟩
  |false=>simp only[zkU,hb,Bool.false_or] at h;exact zg3 h
structure zna(P:Program)(hk:qx)(al:List FuncId):Prop where
 h:∀ f g,hk f=some g->f ∉ al->(P.funcs[f]?).bind (·.body)=none
theorem zpk{l:List (FuncId×CF)}{al:List FuncId}(hh:zna P hk al)(ha:(al.all fun f=>zkU l f)=true)(hl:zh5 P gl hk l):zkZ P gl (zd4 l) hk:=
 ⟨zfO hl,fun f g hf hc=>hh.h f g hf fun hm=>by
  obtain⟨g',h⟩:=zg3 (List.all_eq_true.1 ha f hm)
  rw[hc] at h;cases h⟩
abbrev FT:=List (FuncId×CF)
section
variable {T:FT} {al:List FuncId} (hh:zna P hk al) (ha:(al.all fun f=>zkU T f)=true) (hT:zh5 P gl hk T)
include hh ha hT
theorem zsn{n:Nat}(pl:Pl){c:Code}{ls:List (Code×LF)}(h:zD P pl c=some ls)(hs:xS P gl hk ls){pre:List (Nat×U)}{p:PS}{outs:List (SX×PS)}{ks:List LK}{oks:List (List LK)}{O:Type}(G:Nat->LTs ks->Option O)(cv:Cv O oks){kc:KC O}
  (h0:∀ x,G 0 x=none) (hr:∀ m x,round P gl (zd4 T) n pl p outs c (eL ks x) (fun ls=>(dL ks ls).bind (G m)) (dO oks cv)=G (m+1) x) (ho:zrN kc oks cv 0) (N:Nat):zh8 P gl hk (.loop c) (zS pre p outs (lsT ks (G N) kc)):=
 zkb (zpk hh ha hT) (qS h hs) (G:=fun m ls=>(dL ks ls).bind (G m)) (od:=dO oks cv)
  (fun ls=>by cases dL ks ls with
   |none=>rfl
   |some x=>exact h0 x)
  (fun m ls o h=>by
   cases hd:dL ks ls with
   |none=>rw[hd] at h;cases h
   |some x=>
    rw[hd] at h
    rw[zr6 hd,hr];exact h)
  (fun k os o h R κ=>by rw[ztr ho k os o h R κ,Nat.zero_add]) N
theorem fnG{n:Nat}{f:FuncId}{us rs:List U}{F:El (ki us)->Option (El (ki rs))}(pl:Pl){fn:Func}(hf:P.funcs[f]?=some fn){ls:List (Code×LF)}(h:(match fn.body with|some b=>zD P pl b|none=>none)=some ls)(hs:xS P gl hk ls)
  (hF:∀ x,jY P gl (zd4 T) n pl f (qg us x) [] (zbH rs)=F x):zh5 P gl hk ((f,qp us rs F)::T):=⟨zlg (zpk hh ha hT) (zeI hf h hs) hF,hT⟩
theorem zuc{n:Nat}{f:FuncId}{u:U}{rs:List U}{F:List (El u)->Option (El (ki rs))}(pl:Pl){fn:Func}(hf:P.funcs[f]?=some fn){ls:List (Code×LF)}(h:(match fn.body with|some b=>zD P pl b|none=>none)=some ls)(hs:xS P gl hk ls)
  (h1:∀ l,jY P gl (zd4 T) n pl f [.nsl u l] [] (zbH rs)=F l) (h2:jY P gl (zd4 T) n pl f [.a .qH] [] (zbH rs)=F []):zh5 P gl hk ((f,qp [.sl u] rs fun x=>F x.1)::T):=⟨zfX (zpk hh ha hT) (zeI hf h hs) h1 h2,hT⟩
end
section
variable {al:List FuncId} (hh:zna P hk al) {T:FT} (hT:zh5 P gl hk T)
include hh hT
theorem jK(pl:Pl){c:Code}{ls:List (Code×LF)}(hs:xS P gl hk ls){pre:List (Nat×U)}{p:PS}{outs:List (SX×PS)}(ks:List LK)(oks:List (List LK)){O:Type}(G:Nat->LTs ks->Option O)(cv:Cv O oks){kc:KC O}(N:Nat)
  (ha:(al.all fun f=>zkU T f)=true:=by rfl) (n:Nat:=1500) (h:zD P pl c=some ls:=by kernel_rfl) (h0:∀ x,G 0 x=none:=by intro x;rfl) (hr:∀ m x,round P gl (zd4 T) n pl p outs c (eL ks x) (fun ls=>(dL ks ls).bind (G m)) (dO oks cv)=G (m+1) x:=by intro m x;kernel_rfl)
  (ho:zrN kc oks cv 0:=by repeat' (first|exact trivial|refine⟨fun _ _ _=>rfl,?_⟩)):zh8 P gl hk (.loop c) (zS pre p outs (lsT ks (G N) kc)):=zsn hh ha hT pl h hs G cv h0 hr ho N
theorem fnA{f:FuncId}{us rs:List U}{F:El (ki us)->Option (El (ki rs))}(pl:Pl){fn:Func}(hf:P.funcs[f]?=some fn){ls:List (Code×LF)}(hs:xS P gl hk ls)
  (ha:(al.all fun f=>zkU T f)=true:=by rfl) (n:Nat:=1500) (h:(match fn.body with|some b=>zD P pl b|none=>none)=some ls:=by kernel_rfl)
  (hF:∀ x,jY P gl (zd4 T) n pl f (qg us x) [] (zbH rs)=F x:=by intro x;kernel_rfl):zh5 P gl hk ((f,qp us rs F)::T):=fnG hh ha hT pl hf h hs hF
theorem zub{f:FuncId}{u:U}{rs:List U}{F:List (El u)->Option (El (ki rs))}(pl:Pl){fn:Func}(hf:P.funcs[f]?=some fn){ls:List (Code×LF)}(hs:xS P gl hk ls)
  (ha:(al.all fun f=>zkU T f)=true:=by rfl) (n:Nat:=1500) (h:(match fn.body with|some b=>zD P pl b|none=>none)=some ls:=by kernel_rfl)
  (h1:∀ l,jY P gl (zd4 T) n pl f [.nsl u l] [] (zbH rs)=F l:=by intro l;kernel_rfl) (h2:jY P gl (zd4 T) n pl f [.a .qH] [] (zbH rs)=F []:=by kernel_rfl):zh5 P gl hk ((f,qp [.sl u] rs fun x=>F x.1)::T):=zuc hh ha hT pl hf h hs h1 h2
end
def dr:Nat->List PV->List PV
 |0,l=>l
 |n+1,l=>.drop::dr n l
theorem kW{f:FuncId}{k:XK}:∀ {tab:List (FuncId×XK)},tab.lookup f=some k->(f,k) ∈ tab
 | [],h=>by cases h
 |(g,k')::l,h=>by
  unfold List.lookup at h
  split at h
  ·rename_i he
   cases h
   rw[eq_of_beq he];exact List.mem_cons_self
  ·exact List.mem_cons_of_mem _ (kW h)
theorem znr{tab:List (FuncId×XK)}(h:(tab.all fun p=>((P.funcs[p.1]?).bind (·.body)).isNone)=true):zna P (zke tab) []:=by
 refine⟨fun f g hf _=>?_⟩
 unfold zke at hf
 cases hl:tab.lookup f with
 |none=>rw[hl] at hf;cases hf
 |some k=>
  have:=List.all_eq_true.1 h _ (kW hl)
  simpa using this
theorem zaF{hk:qx}{al:List FuncId}(h:zna P hk al)(f:FuncId)(g:List AV->zb->Option CR):zna P (zC hk f g) (f::al):=by
 refine⟨fun k g' hk' hn=>?_⟩
 unfold zC at hk'
 simp only[List.mem_cons,not_or] at hn
 cases hb:Nat.beq k f with
 |true=>exact absurd (Nat.eq_of_beq_eq_true hb) hn.1
 |false=>rw[hb] at hk';exact h.h k g' hk' hn.2
def znh:List AV->zb->Option CR:=fun args h=>match args with
 | []=>some (.ret (.bool true) h)
 |_=>none
theorem zm9{hk:qx}{f:FuncId}(h:hk f=some znh):zec P gl hk f (qp [] [.bool] fun _=>some (true,())):=by
 intro R args κ r X margs hc hargs hr hg
 unfold qp at hc
 cases args with
 |nil=>
  simp only[qz,Option.bind] at hc
  cases(show margs=[] from hargs)
  refine⟨_,X,.ret (.bool true) X.h,hc,.refl hr,⟨rfl,rfl,rfl⟩,Ev.all fun n=>?_⟩
  simp only[qR,h,znh]
 |cons=>simp [qz] at hc
end
def Wf:(u:U)->El u->Prop
 |.bool,_=>True
 |.int k,n=>k.min<=n/\(n:Int)<=k.max
 |.u8,_=>True
 |.str,l=>(l:List UInt8).length<=maxLen
 |.sl u,l=>(l:List (El u)).length<=maxLen/\∀ x ∈ (l:List (El u)),Wf u x
 |.pair u v,x=>Wf u x.1/\Wf v x.2
 |.unit,_=>True
def zne(P:Program):Nat->TypeId->Bool
 |0,_=>false
 |d+1,t=>match P.underlying t with
  |some .bool=>Nat.beq (P.cellsOf t) 1
  |some (.int _)=>Nat.beq (P.cellsOf t) 1
  |some .string=>Nat.beq (P.cellsOf t) 1
  |some (.slice e)=>Nat.beq (P.cellsOf t) 1&&Nat.blt 0 (P.cellsOf e)&&zne P d e
  |some (.struct fs)=>flush P fs.toList 0 (P.cellsOf t)&&fs.toList.all fun f=>zne P d f.type
  |_=>false
theorem kG{α:Type}[Inhabited α]{a:Arr α}{l m:List α}:(a++l)++m=a++(l++m):=by
 induction l generalizing a with
 |nil=>rfl
 |cons x l ih=>exact ih (a:=a.push x)
section
variable {P:Program} {B:Nat} {w:World} {H:Type} {enc:TypeId×Value->H} {base:Nat} {held:Bool}
abbrev PhA(h:zb):Nat->Prop:=fun m=>m<h.length
theorem RE.app{h:zb}{u:U}{x:El u}{cs:List AV}(q:RE h (PhA h) u x cs)(E:List Blk):RE (h++E) (PhA (h++E)) u x cs:=
 q.le (fun m hm=>Arr.qh hm) fun m hm=>by show m<(h++E).length;rw[Arr.zv];have:m<h.length:=hm;omega
theorem VL.ext{G G':Gh}(h:G.ext G'){l:List AV}{us:List Value}(q:VL G l us):VL G' l us:=q.le h.le
def Lays(P:Program)(B:Nat)(w:World)(enc:TypeId×Value->H)(base:Nat)(held:Bool)(u:U)(Q:List Value->Prop):Prop:=
 ∀ (G:Gh) (h:zb) (cs:List Value),HR G B h w->Q cs->∃ (G':Gh) (E:List Blk) (x:El u) (avs:List AV),HR G' B (h++E) w/\G.ext G'/\VL G' avs cs/\RE (h++E) (PhA (h++E)) u x avs/\Wf u x
theorem zez{d:Nat}(ih:∀ (t:TypeId) (u:U),uOf P d t=some u->zne P d t=true->Lays P B w enc base held u fun cs=>∃ n d' p,DataW.trod enc P w base (fun _=>true) held n t cs=some (d',p)):
  ∀ (fs:List Field) (u:U),wu (uOf P d) fs=some u->(fs.all fun f=>zne P d f.type)=true->∀ (G:Gh) (h:zb) (css:List (List Value)),HR G B h w->css.length=fs.length ->
   (∀ (i:Nat) (f:Field) (cs:List Value),fs[i]?=some f->css[i]?=some cs->∃ n d' p,DataW.trod enc P w base (fun _=>true) held n f.type cs=some (d',p)) ->
   ∃ (G':Gh) (E:List Blk) (x:El u) (avs:List AV),HR G' B (h++E) w/\G.ext G'/\VL G' avs css.flatten/\RE (h++E) (PhA (h++E)) u x avs/\Wf u x
 | [],u,hu,hf,G,h,css,hr,hl,hc=>by
  cases hu
  have:css=[]:=List.length_eq_zero_iff.1 hl
  subst this
  exact⟨G,[],(),[],by rw[Arr.wz];exact hr,Gh.z8 _,.nil,rfl,trivial⟩
 | [f],u,hu,hf,G,h,css,hr,hl,hc=>by
  match css,hl with
  | [cs],_=>
   simp only[List.all_cons,List.all_nil,Bool.and_true] at hf
   unfold wu at hu
   split at hu
   ·cases hu
   ·obtain⟨G',E,x,avs,h1,h2,h3,h4,h5⟩:=ih _ _ hu hf G h cs hr (hc 0 f cs rfl rfl)
    exact⟨G',E,x,avs,h1,h2,by simpa using h3,h4,h5⟩
 |f::f2::fs,u,hu,hf,G,h,css,hr,hl,hc=>by
  match css,hl with
  |cs::css,hl=>
   simp only[List.all_cons,Bool.and_eq_true] at hf
   unfold wu at hu
   split at hu
   ·rename_i u1 u2 _ e1 e2
    cases hu
    obtain⟨G1,E1,x,avs,h1,h2,h3,h4,h5⟩:=ih _ _ e1 hf.1 G h cs hr (hc 0 f cs rfl rfl)
    obtain⟨G2,E2,y,bvs,k1,k2,k3,k4,k5⟩:=zez ih (f2::fs) u2 e2 (by simp only[List.all_cons,Bool.and_eq_true];exact hf.2) G1 (h++E1) css h1 (by simpa using hl) fun i f' cs' q1 q2=>hc (i+1) f' cs' (by simpa using q1) (by simpa using q2)
    refine⟨G2,E1++E2,(x,y),avs++bvs,?_,h2.trans k2,?_,?_,h5,k5⟩
    ·rw[<- kG];exact k1
    ·rw[List.flatten_cons];exact(VL.ext k2 h3).append k3
    ·rw[<- kG]
     exact⟨avs,bvs,rfl,RE.app h4 E2,k4⟩
   ·cases hu
theorem zhe{e:TypeId}{u:U}(hsz:0<u.sz)(ih:Lays P B w enc base held u fun cs=>∃ n d' p,DataW.trod enc P w base (fun _=>true) held n e cs=some (d',p)):
  ∀ (css:List (List Value)) (G:Gh) (h:zb),HR G B h w->(∀ (i:Nat) (cs:List Value),css[i]?=some cs->∃ n d' p,DataW.trod enc P w base (fun _=>true) held n e cs=some (d',p)) ->
   ∃ (G':Gh) (E:List Blk) (l:List (El u)) (avs:List AV),HR G' B (h++E) w/\G.ext G'/\VL G' avs css.flatten/\RCs (h++E) (PhA (h++E)) u l avs/\l.length=css.length/\∀ x ∈ l,Wf u x
 | [],G,h,hr,hc=>⟨G,[],[],[],by rw[Arr.wz];exact hr,Gh.z8 _,.nil,⟨by simp,fun i e hi=>by simp at hi⟩,rfl,by simp⟩
 |cs::css,G,h,hr,hc=>by
  obtain⟨G1,E1,x,avs,h1,h2,h3,h4,h5⟩:=ih G h cs hr (hc 0 cs rfl)
  obtain⟨G2,E2,l,bvs,k1,k2,k3,k4,k5,k6⟩:=zhe hsz ih css G1 (h++E1) h1 fun i cs' q=>hc (i+1) cs' (by simpa using q)
  have hal:=h4.length
  refine⟨G2,E1++E2,x::l,avs++bvs,by rw[<- kG];exact k1,h2.trans k2,by rw[List.flatten_cons];exact(VL.ext k2 h3).append k3,⟨?_,fun i e hi=>?_⟩,by simp [k5],fun y hy=>?_⟩
  ·rw[List.length_append,hal,k4.1,List.length_cons,Nat.add_mul];omega
  ·rw[<- kG]
   cases i with
   |zero=>
    simp at hi;subst hi
    have:part u.sz (avs++bvs) 0=avs:=by unfold part;rw[Nat.zero_mul,List.drop_zero,<- hal,List.take_left]
    rw[this];exact RE.app h4 E2
   |succ i=>
    have:part u.sz (avs++bvs) (i+1)=part u.sz bvs i:=by
     unfold part
     rw[show(i+1)*u.sz=avs.length+i*u.sz by rw[hal,Nat.add_mul];omega,<- List.drop_drop,List.drop_left]
    rw[this];exact k4.2 i e (by simpa using hi)
  ·rcases List.mem_cons.1 hy with rfl|hy
   ·exact h5
   ·exact k6 y hy
theorem zm2:∀ {d:Nat} {t:TypeId} {u:U},uOf P d t=some u->zne P d t=true->u.sz=P.cellsOf t
 |0,t,u,h,_=>by cases h
 |d+1,t,u,h,hf=>by
  unfold uOf at h
  unfold zne at hf
  split at h
  ·rename_i hu;rw[hu] at hf;cases h;exact(zd hf).symm
  ·rename_i hu;rw[hu] at hf;cases h;exact(zd hf).symm
  ·rename_i hu;rw[hu] at hf;cases h;exact(zd hf).symm
  ·rename_i hu;rw[hu] at hf;cases h;exact(zd hf).symm
  ·rename_i hu;rw[hu] at hf
   simp only[Bool.and_eq_true] at hf
   cases hq:uOf P d _ with
   |none=>rw[hq] at h;cases h
   |some v=>rw[hq] at h;cases h;exact(zd hf.1.1).symm
  ·rename_i fs hu;rw[hu] at hf
   simp only[Bool.and_eq_true] at hf
   have key:∀ (l:List Field) (u:U) (o n:Nat),wu (uOf P d) l=some u->(l.all fun f=>zne P d f.type)=true->flush P l o n=true->o+u.sz=n:=by
    intro l
    induction l with
    |nil=>intro u o n h1 h2 h3;cases h1;have:=Nat.eq_of_beq_eq_true h3;simpa [U.sz] using this
    |cons f l ih=>
     intro u o n h1 h2 h3
     simp only[List.all_cons,Bool.and_eq_true] at h2
     simp only[flush,Bool.and_eq_true] at h3
     cases l with
     |nil=>
      unfold wu at h1
      split at h1
      ·cases h1
      ·have e1:=zm2 h1 h2.1
       have:=Nat.eq_of_beq_eq_true h3.2
       omega
     |cons f2 l=>
      unfold wu at h1
      split at h1
      ·rename_i u1 u2 _ e1 e2
       cases h1
       have q1:=zm2 e1 h2.1
       have q2:=ih _ _ _ e2 h2.2 h3.2
       simp only[U.sz];omega
      ·cases h1
   have:=key _ _ _ _ h hf.2 hf.1
   omega
  ·cases h
theorem zew(hB:B=w.heap.size)(hz:∃ (b0:Nat) (c:Array Value) (T:TypeId) (fr:Nat×Nat),w.heap[b0]?=some (.cells c T fr)):∀ (m:Nat) (t:TypeId) (u:U),uOf P m t=some u->zne P m t=true ->
  Lays P B w enc base held u fun cs=>∃ n d' p,DataW.trod enc P w base (fun _=>true) held n t cs=some (d',p)
 |0,t,u,hu,_=>by cases hu
 |m+1,t,u,hu,hf=>by
  intro G h cs hr ⟨n,d,p,ht⟩
  unfold uOf at hu
  unfold zne at hf
  split at hu
  ·rename_i hund;rw[hund] at hf;cases hu
   obtain⟨b',rfl,e⟩:=DataW.trod_bool hund ht
   exact⟨G,[],b',[.bool b'],by rw[Arr.wz];exact hr,Gh.z8 _,.cons (.bool _) .nil,rfl,trivial⟩
  ·rename_i hund;rw[hund] at hf;cases hu
   obtain⟨b,rfl,_,hw⟩:=DataW.trod_int hund ht
   have hb:0<=b/\b<=255:=by simpa [Lit.wf,IntKind.min,IntKind.max,IntKind.signed,IntKind.bits] using hw
   refine⟨G,[],UInt8.ofNat b.toNat,[.int .u8 b],by rw[Arr.wz];exact hr,Gh.z8 _,.cons (.int _ _) .nil,?_,trivial⟩
   show[AV.int .u8 b]=[AV.int .u8 _]
   congr 2
   simp only[UInt8.toNat_ofNat']
   omega
  ·rename_i hund;rw[hund] at hf;cases hu
   obtain⟨b,rfl,_,hw⟩:=DataW.trod_int hund ht
   exact⟨G,[],b,[.int _ b],by rw[Arr.wz];exact hr,Gh.z8 _,.cons (.int _ _) .nil,rfl,show _/\_ by simpa [Lit.wf] using hw⟩
  ·rename_i hund;rw[hund] at hf;cases hu
   obtain⟨b,rfl,_,hw⟩:=DataW.trod_string hund ht
   exact⟨G,[],b.data.toList,[.str b.data.toList],by rw[Arr.wz];exact hr,Gh.z8 _,.cons (.str _) .nil,rfl,by show b.data.toList.length<=maxLen;rw[Array.length_toList];exact hw⟩
  ·rename_i e hund;rw[hund] at hf
   simp only[Bool.and_eq_true] at hf
   obtain⟨⟨_,hpos⟩,hfe⟩:=hf
   have hpos:=qN hpos
   cases hq:uOf P m e with
   |none=>rw[hq] at hu;cases hu
   |some v=>
    rw[hq] at hu;cases hu
    have hsz:=zm2 hq hfe
    have ih:=zew hB hz m e v hq hfe
    rcases DataW.trod_slice hund ht with⟨rfl,_⟩|⟨a,len,cap,el,rs,n',rfl,rfl,he,hba,hlc,hcm,hel,hee,hsp,_⟩
    ·exact⟨G,[],[],[.qH],by rw[Arr.wz];exact hr,Gh.z8 _,.cons .qH .nil,⟨_,rfl,.inl ⟨rfl,rfl⟩⟩,by show 0<=maxLen;omega,by simp⟩
    ·obtain⟨hrl,hrr⟩:=hsp rfl
     have hcell:∀ i,i<cap->∃ cs',w.cells? base (a.add (i*P.cellsOf e)) (P.cellsOf e)=some cs':=by
      intro i hi
      by_cases hil:i<len
      ·have h0:=hee i hil
       rw[List.getElem?_eq_getElem (by omega)] at h0
       obtain⟨cs',e1,_⟩:=Option.bind_eq_some_iff.1 h0
       exact⟨cs',e1⟩
      ·have h0:=hrr (i-len) (by omega)
       rw[List.getElem?_eq_getElem (by omega),show len+(i-len)=i from by omega] at h0
       obtain⟨cs',e1,_⟩:=Option.bind_eq_some_iff.1 h0
       exact⟨cs',e1⟩
     rcases Nat.eq_zero_or_pos cap with hc0|hc0
     ·have hl0:len=0:=by omega
      subst hc0;subst hl0
      obtain⟨b0,c,T,fr,hb0⟩:=hz
      have hr2:=hr.zcY (a:=⟨b0,0,none⟩) (xs:=[]) (cs:=[]) (by show b0<B;rw[hB];exact(Array.getElem?_eq_some_iff.1 hb0).1) hb0 .nil (fun j u hu=>by simp at hu) (by simp)
      refine⟨_,[.lay []],[],[.sl h.length 0 0 v.sz 0 false],hr2,Gh.zaC _ _,.cons ?_ .nil,⟨_,rfl,.inr ⟨h.length,0,0,false,[],rfl,.inl rfl,?_,?_,by simp,fun i e hi=>by simp at hi⟩⟩,by show 0<=maxLen;omega,by simp⟩
      ·exact V.sl0 (r:=⟨b0,0,0,c.size,0⟩) (by rw[<- hr.len,w7];rfl) (Nat.le_refl _) (Nat.le_refl _) (fun _=>Nat.le_refl _) (by omega)
      ·show h.length<(h++[Blk.lay []]).length;rw[Arr.zv];simp
      ·unfold rd
       rw[Arr.zp (Nat.le_refl _),Nat.sub_self]
       simp
     ·obtain⟨c0,ec0⟩:=hcell 0 hc0
      obtain⟨c,T,fr,q1,q2,_,_⟩:=w9 ec0 hpos
      rw[(j5 a _).1] at q1
      have ha0:a.add (0*P.cellsOf e)=a:=by simp [Addr.add]
      rw[ha0] at q2
      have hrow:∀ i,i<cap->∀ cs',w.cells? base (a.add (i*P.cellsOf e)) (P.cellsOf e)=some cs'->cs'.length=P.cellsOf e/\(∀ (k:Nat) (u:Value),cs'[k]?=some u->c[k+(a.off+i*P.cellsOf e)]?=some u)/\P.cellsOf e+(a.off+i*P.cellsOf e)<=c.size:=by
       intro i hi cs' ec
       obtain⟨c2,T2,fr2,g1,_,g3,g4⟩:=w9 ec hpos
       rw[(j5 a _).1,q1] at g1
       cases g1
       rw[(j5 a _).2] at g3 g4
       exact⟨(kQ ec).1,g3,g4⟩
      have hget:∀ (i:Nat) (cs':List Value),((List.range len).map fun i=>(w.cells? base (a.add (i*P.cellsOf e)) (P.cellsOf e)).getD [])[i]?=some cs'->i<len/\w.cells? base (a.add (i*P.cellsOf e)) (P.cellsOf e)=some cs':=by
       intro i cs' e2
       rw[List.getElem?_map,Option.map_eq_some_iff] at e2
       obtain⟨j,e3,rfl⟩:=e2
       have hik:i<len:=by have:=(List.getElem?_eq_some_iff.1 e3).1;simpa using this
       rw[List.getElem?_range hik] at e3
       cases e3
       obtain⟨cs',ec⟩:=hcell i (by omega)
       exact⟨hik,by rw[ec];rfl⟩
      obtain⟨G1,E1,l,avs,r1,l1,v1,c1,len1,wf1⟩:=zhe (by omega) ih ((List.range len).map fun i=>(w.cells? base (a.add (i*P.cellsOf e)) (P.cellsOf e)).getD []) G h hr fun i cs' e2=>by
       obtain⟨hik,ec⟩:=hget i cs' e2
       have h0:=hee i hik
       rw[ec,List.getElem?_eq_getElem (by omega)] at h0
       exact⟨n',_,_,h0⟩
      obtain⟨fl1,fl2⟩:=zio (c:=c) (sz:=P.cellsOf e) (o:=a.off) (css:=(List.range len).map fun i=>(w.cells? base (a.add (i*P.cellsOf e)) (P.cellsOf e)).getD []) fun i cs' e2=>by
       obtain⟨hik,ec⟩:=hget i cs' e2
       obtain⟨k1,k2,_⟩:=hrow i (by omega) cs' ec
       exact⟨k1,k2⟩
      have len1:l.length=len:=by rw[len1];simp
      rw[List.length_map,List.length_range] at fl1
      obtain⟨csl,ecl⟩:=hcell (cap-1) (by omega)
      obtain⟨_,_,hend⟩:=hrow (cap-1) (by omega) csl ecl
      have hcapsz:cap*P.cellsOf e=P.cellsOf e+(cap-1)*P.cellsOf e:=by
       obtain⟨k,rfl⟩:∃ k,cap=k+1:=⟨cap-1,by omega⟩
       rw[Nat.add_mul];simp;omega
      have hlensz:len*P.cellsOf e<=cap*P.cellsOf e:=Nat.mul_le_mul_right _ hlc
      have hlt:a.block<B:=by rw[hB];exact(Array.getElem?_eq_some_iff.1 q1).1
      have hxl:avs.length=len*P.cellsOf e:=by rw[<- v1.length,fl1]
      have hr2:=r1.zcY hlt q1 v1 fl2 (by omega)
      refine⟨_,E1++[.lay avs],l,[.sl (h++E1).length 0 len v.sz 0 false],by rw[<- kG];exact hr2,l1.trans (Gh.zaC _ _),.cons ?_ .nil,⟨_,rfl,.inr ⟨(h++E1).length,0,0,false,avs,by rw[len1],.inl rfl,?_,?_,?_,fun i e hi=>?_⟩⟩,by rw[len1];omega,wf1⟩
      ·have hV:=V.sl (G:=G1++[[⟨a.block,0,avs.length,c.size,a.off⟩]]) (loc:=(h++E1).length) (off:=0) (len:=len) (sz:=v.sz) (ver:=0) (cap:=cap) (clip:=false) (r:=⟨a.block,0,avs.length,c.size,a.off⟩) (by rw[<- r1.len,w7];rfl) (Nat.le_refl _) (by show 0+len*v.sz<=avs.length;rw[hsz];omega) hlc
        (by show 0+a.off-0+cap*v.sz<=c.size;rw[hsz];omega) (fun e=>by cases e) (fun _=>by show avs.length<=0+cap*v.sz;rw[hsz];omega) hcm (by omega)
       obtain⟨ab,ao,as1⟩:=a
       simp only at q2
       subst q2
       simpa using hV
      ·show(h++E1).length<(h++(E1++[Blk.lay avs])).length
       rw[<- kG,Arr.zv (a:=h++E1)];simp
      ·unfold rd
       rw[<- kG,Arr.zp (Nat.le_refl _),Nat.sub_self]
       have:l.length*v.sz=avs.length:=by rw[len1,hxl,hsz]
       simp [this]
      ·rw[len1,hsz,hxl]
      ·rw[<- kG];exact RE.app (c1.2 i e hi) _
  ·rename_i fs hund;rw[hund] at hf
   simp only[Bool.and_eq_true] at hf
   obtain⟨ys,n',rfl,he,hlen,hyl,hy⟩:=DataW.trod_struct hund ht
   have hflat:=zcJ (cs:=cs) hf.1 hlen (Nat.zero_le _)
   rw[List.drop_zero] at hflat
   have:=zez (fun t u h1 h2=>zew hB hz m t u h1 h2) fs.toList u hu hf.2 G h (fs.toList.map fun f=>(cs.drop f.offset).take (P.cellsOf f.type)) hr (by simp) fun i f cs' e1 e2=>by
    rw[List.getElem?_map,Option.map_eq_some_iff] at e2
    obtain⟨f2,g2,rfl⟩:=e2
    rw[e1] at g2;cases g2
    have h0:=hy i f (by simpa using e1)
    have hi:i<ys.length:=by rw[hyl];have:=(List.getElem?_eq_some_iff.1 e1).1;simpa using this
    rw[List.getElem?_eq_getElem hi] at h0
    exact⟨n',_,_,h0⟩
   rw[hflat] at this
   exact this
  ·cases hu
end
theorem zk6{P:Program}{W:World}{base:Nat}{t:TypeId}{v:Value}{u:U}{d:Nat}(hu:uOf P (d+1) t=some u)(ha:zgF P t=some u.agg)(hv:Value.okWide P W .any base t v){G:Gh}{avs:List AV}(hx:VL G avs v.cells.toList):
  (u.agg=true->V G (.agg avs) v)/\(u.agg=false->∀ x,avs=[x]->V G x v):=by
 refine⟨fun h=>?_,fun h x hxs=>?_⟩
 ·rw[h] at ha
  obtain⟨l,rfl⟩:=zql ha hv
  exact .agg (by simpa [Value.cells] using hx)
 ·rw[h] at ha
  subst hxs
  cases hc:v.cells.toList with
  |nil=>rw[hc] at hx;cases hx
  |cons y ys=>
   rw[hc] at hx
   cases hx with
   |cons h1 h2=>
    cases h2
    rw[val_one ha hv hc];exact h1
def zr9(n:Nat)(h:zb)(keep:List Nat):GL:=(List.range n).map fun g=>match keep.contains g with
 |true=>match h[g]? with
  |some (.lay cs)=>zoP cs
  |_=>none
 |false=>none
theorem zq6{P:Program}{gl:GL}{n:Nat}{hgl:zb}{keep:List Nat}(h:zr9 n hgl keep=gl)(hn:n<=P.globals.size)(E:List Blk):RGl P gl ⟨hgl++E,PhA (hgl++E),[],[]⟩:=by
 intro g cs hg
 rw[<- h] at hg
 unfold zr9 at hg
 rw[List.getElem?_map] at hg
 cases hr:(List.range n)[g]? with
 |none=>rw[hr] at hg;cases hg
 |some g'=>
  obtain⟨hlt,e⟩:=List.getElem?_eq_some_iff.1 hr
  rw[List.getElem_range] at e
  subst e
  rw[List.length_range] at hlt
  rw[hr] at hg
  simp only[Option.map_some,Option.some.injEq] at hg
  split at hg
  ·split at hg
   ·rename_i cells hrow
    have hl:=Arr.lt hrow
    refine⟨by omega,?_,cells,?_,zcV hg⟩
    ·show g<(hgl++E).length;rw[Arr.zv];omega
    ·exact(Arr.qh hl).trans hrow
   ·cases hg
  ·cases hg
def zjn(P:Program):List TypeId->List U->Bool
 | [],[]=>true
 |t::ts,u::us=>decide (uOf P 6 t=some u)&&zne P 6 t&&decide (zgF P t=some u.agg)&&zjn P ts us
 |_,_=>false
theorem U.zrG{u:U}(h:u.agg=false):u.sz=1:=by cases u<;>first|rfl|cases h
theorem zhd{P:Program}{B:Nat}{w:World}{H:Type}{enc:TypeId×Value->H}{base:Nat}(hB:B=w.heap.size)(hz:∃ (b0:Nat) (c:Array Value) (T:TypeId) (fr:Nat×Nat),w.heap[b0]?=some (.cells c T fr)):
  ∀ (ts:List TypeId) (us:List U),zjn P ts us=true->∀ (G:Gh) (h:zb) (vs:List Value) (ds:List (DataW H)) (ps:List MemPlace),HR G B h w->DataW.TrodAll enc P w 0 (fun _=>true) true ts vs ds ps ->
   (∀ (j:Nat) t v,ts[j]?=some t->vs[j]?=some v->Value.okWide P w .any base t v) ->
   ∃ (G':Gh) (E:List Blk) (x:El (ki us)) (margs:List AV),HR G' B (h++E) w/\G.ext G'/\VL G' margs vs/\RVs ⟨h++E,PhA (h++E),[],[]⟩ (qg us x) margs/\Wf (ki us) x
 | [],us,ha,G,h,vs,ds,ps,hr,ht,hv=>by
  cases us with
  |cons=>cases ha
  |nil=>
   obtain⟨rfl,rfl⟩:=zjR ht
   exact⟨G,[],(),[],by rw[Arr.wz];exact hr,Gh.z8 _,.nil,rfl,trivial⟩
 |t::ts,us,ha,G,h,vs,ds,ps,hr,ht,hv=>by
  cases us with
  |nil=>cases ha
  |cons u us=>
   simp only[zjn,Bool.and_eq_true,decide_eq_true_eq] at ha
   obtain⟨⟨⟨h1,h2⟩,h3⟩,h4⟩:=ha
   obtain⟨v,vs',d,ds',p,q,rfl,rfl,⟨n,h5⟩,h6⟩:=zjS ht
   obtain⟨G1,E1,x,avs,k1,k2,k3,k4,k5⟩:=zew (enc:=enc) (base:=0) (held:=true) hB hz 6 t u h1 h2 G h _ hr ⟨n,d,p,h5⟩
   obtain⟨a1,a2⟩:=zk6 h1 h3 (hv 0 t v rfl rfl) k3
   obtain⟨G2,E2,y,margs,m1,m2,m3,m4,m5⟩:=zhd hB hz ts us h4 G1 (h++E1) vs' ds' q k1 h6 fun j t' v' e1 e2=>hv (j+1) t' v' (by simpa using e1) (by simpa using e2)
   rw[kG] at m1 m4
   have k6:=RE.app k4 E2
   rw[kG] at k6
   obtain⟨b1,b2⟩:=zfR (Z:=⟨h++(E1++E2),PhA (h++(E1++E2)),[],[]⟩) rfl rfl k6
   cases hag:u.agg with
   |true=>exact⟨G2,E1++E2,(x,y),.agg avs::margs,m1,k2.trans m2,.cons ((a1 hag).le m2.le) m3,⟨_,_,rfl,b1 hag,m4⟩,k5,m5⟩
   |false=>
    have hl:=k4.length
    rw[U.zrG hag] at hl
    match avs,hl with
    | [a],_=>exact⟨G2,E1++E2,(x,y),a::margs,m1,k2.trans m2,.cons ((a2 hag a rfl).le m2.le) m3,⟨_,_,rfl,b2 hag a rfl,m4⟩,k5,m5⟩
theorem znv{P:Program}{gl:GL}{ct:Nat->CT}{hk:qx}{hgl:zb}{Gg:Gh}{W:World}(hmo:P.follows .mixedOrders=true)(hng:zkS P)(hh:HOK P hgl Gg hk)(hL:Laid P hgl Gg W.heap.size W)(hgl2:∀ E:List Blk,RGl P gl ⟨hgl++E,PhA (hgl++E),[],[]⟩)
  (hct:∀ N,zkZ P gl (ct N) hk) {n:Nat} {pl:Nat->Pl} {f:FuncId} {us:List U} {F:Nat->El (ki us)->Option (El (ki [.bool]))} (hpl:∀ N fn b,P.funcs[f]?=some fn->fn.body=some b->jH P gl hk (pl N) b) (hkf:hk f=none)
  (hF:∀ N x,jY P gl (ct N) n (pl N) f (qg us x) [] (zbH [.bool])=F N x) {ts:List TypeId} (ha:zjn P ts us=true) {H:Type} {enc:TypeId×Value->H} {base:Nat} {args:Array Value} {ds:List (DataW H)} {ps:List MemPlace}
  (ht:DataW.TrodAll enc P W 0 (fun _=>true) true ts args.toList ds ps) (hv:∀ (j:Nat) t v,ts[j]?=some t->args.toList[j]?=some v->Value.okWide P W .any base t v)
  (hz:∃ (b0:Nat) (c:Array Value) (T:TypeId) (fr:Nat×Nat),W.heap[b0]?=some (.cells c T fr)) (hlaw:∀ x,Wf (ki us) x->∃ N,F N x=some (true,())):
  Calls P f args W fun e W'=>e=.returned (.bool true)/\zow W W':=by
 obtain⟨G,E,x,margs,h1,h2,h3,h4,h5⟩:=zhd (B:=W.heap.size) rfl hz ts us ha Gg hgl args.toList ds ps hL.hr ht hv
 have hRH:RH ⟨hgl++E,PhA (hgl++E),[],[]⟩:=⟨rfl,fun i j m v v' h=>by simp at h,fun i m v h=>by simp at h,fun m h=>h,fun i b o h=>by simp at h,fun i m v b h=>by simp at h⟩
 obtain⟨N,hN⟩:=hlaw x h5
 obtain⟨q,Y,mq,k1,S,k2,n0,k3⟩:=(zc2 (hct N) n).2.2.1 (pl N) f (hpl N) _ _ _ _ ⟨hgl++E,PhA (hgl++E),[],[]⟩ margs ((hF N x).trans hN) h4 hRH (hgl2 E)
 have k3:=k3 n0 (Nat.le_refl _)
 cases q with
 |pan v sh=>cases k1
 |ret v sh=>
  cases mq with
  |pan=>cases k2
  |ret xv h'=>
   obtain⟨e1,e2,hv2⟩:=k2
   have hxv:xv=.bool true:=by
    simp only[zbH,unS] at k1
    cases v with
    |a w=>cases w with
     |bool b=>
      simp [qz,ku,U.agg,SV.cells,dec] at k1
      cases(show xv=_ from hv2)
      have e:=(Prod.mk.inj (Option.some.inj k1)).1
      rw[e]
     |_=>simp [qz,ku,U.agg,SV.cells,dec] at k1
    |agg=>simp [qz,ku,U.agg] at k1
    |_=>simp [qz,ku,U.agg,SV.cells,dec] at k1
   subst hxv
   simp only[qR,hkf] at k3
   have hG:zcE P W.heap.size W G W:=⟨fun g hg=>by
    obtain⟨r,q1,q2⟩:=hL.g g hg
    exact⟨r,h2.le _ _ _ q1,q2⟩,fun _ _=>rfl⟩
   refine(zgf (us:=args.toList) hmo hng (hh _ _ hL) k3 h3 h1 hG).mono fun e W' hcr=>?_
   obtain⟨g1,G',u,g2,g3⟩:=zll rfl (fun loc v r hat=>h1.lt _ _ _ hat) hcr
   cases g2
   exact⟨g3,g1⟩
end Go.Sx
namespace Go.Mx
open Go Go.Gx Go.Proofs Go.Shelf Go.RowKit
def zfQ:List AV->Option (List (List UInt8))
 | []=>some []
 |x::l=>match x,zfQ l with
  |.str s,some r=>some (s::r)
  |_,_=>none
def znL(h:zb):AV->Option (List (List UInt8))
 |.qH=>some []
 |.sl loc off len 1 ver _=>match rd h loc off ver (off+len) len with
  |some cs=>zfQ cs
  |none=>none
 |_=>none
theorem zay{G:Gh}:∀ {cs:List AV} {ls:List (List UInt8)} {us:List Value},zfQ cs=some ls->VL G cs us->us=ls.map zcz
 | [],ls,us,h,hv=>by cases h;cases hv;rfl
 |x::l,ls,us,h,hv=>by
  simp only[zfQ] at h
  split at h
  ·rename_i s r hr
   cases h
   cases hv with
   |cons h1 h2=>rw[zbq h1,zay hr h2];rfl
  ·cases h
theorem j7{G:Gh}{B:Nat}{h:zb}{w w':World}{v:AV}{u:Value}(hr:HR G B h w)(hb:Below w.heap.size w w')(hv:V G v u):zkY G B w (.ret v h) (.returned u) w':=
 ⟨G,Step.grow hr hb.size hb.block hb.os hb.tape hb.output,u,hv,rfl⟩
theorem zik(w:World)(n q:Nat):Below n w (w.drewN q):=⟨rfl,rfl,rfl,Nat.le_refl _,fun _ _=>rfl⟩
def jJ:Nat:=140737488355328
def zf8:List AV->zb->Option CR:=fun args h=>match args with
 | [x,.str sep]=>match znL h x with
  |some ls=>if(Lib.join ls sep).length<=jJ/\ls.length<=jJ then some (.ret (.str (Lib.join ls sep)) h) else none
  |none=>none
 |_=>none
section
variable {P:Program} {ρ:Ren} {hgl:zb} {Gg:Gh} {B:Nat} {W0:World}
theorem zns(L:Lays.n156 P ρ)(X:Builder.Extra P ρ){args:List AV}{h:zb}{r:CR}(hg:zf8 args h=some r):zd7 P B W0 (ρ.f 156) args h r:=by
 intro G us w hx hr hgl
 unfold zf8 at hg
 split at hg
 ·rename_i x sep
  split at hg
  ·rename_i ls hls
   split at hg
   ·rename_i hc
    obtain⟨c1,c2⟩:=hc
    cases hg
    cases hx with
    |cons h1 h2=>cases h2 with
     |cons h3 h4=>
      cases h4
      have hs:=zbq h3
      subst hs
      refine .inl ⟨?_,Go.Proofs.enters_of L.f156 (by kernel_rfl) rfl⟩
      have hmap:(ls.map fun l=>(⟨l.toArray⟩:ByteArray)).map (·.data.toList)=ls:=by
       rw[List.map_map];exact List.map_id _
      have main:∀ (b o c:Nat),ls.length<=c->b<w.heap.size->(∀ (j:Nat) (l:List UInt8),ls[j]?=some l->w.cell? ⟨b,o+j,none⟩=some (zcz l)) ->
        Calls P (ρ.f 156) #[.slice (some ⟨b,o,none⟩) ls.length c,zcz sep] w (zkY G B w (.ret (.str (Lib.join ls sep)) h)):=by
       intro b o c hlc hbw hcells
       have:=Any.strings_Join L X b o c (ls.map fun l=>(⟨l.toArray⟩:ByteArray)) ⟨sep.toArray⟩ w
        (fun j x hj=>by
         rw[List.getElem?_map,Option.map_eq_some_iff] at hj
         obtain⟨l,hl,rfl⟩:=hj
         exact hcells j l hl) hbw (by rw[List.length_map];exact c2) (by rw[List.length_map];exact hlc) (by rw[hmap];exact c1)
       rw[hmap,List.length_map] at this
       exact this.mono fun e w' ⟨he,hb⟩=>by subst he;exact j7 hr hb (.str _)
      unfold znL at hls
      split at hls
      ·cases hls
       cases h1
       exact(Any.strings_Join_none L X none 0 ⟨sep.toArray⟩ w).mono fun e w' ⟨he,hw⟩=>by subst he;subst hw;exact j7 hr (.refl _ _) (.str [])
      ·split at hls
       ·rename_i loc off len ver clip _ cs hrd
        cases h1 with
        | @sl _ _ _ _ _ cap _ r g1 g2 g3 g4 g5 g6 g7 g8 g9=>
         obtain⟨us,o1,o2,o3⟩:=zM hr hrd g1 g2 (by omega)
         have hub:=zay hls o1
         have hln:ls.length=len:=by rw[<- o2,hub];simp
         have:=main r.b (off+r.sh-r.lo) cap (by omega) (hr.lt _ _ _ g1) (fun j l hj=>o3 j _ (by rw[hub];simp [hj]))
         rw[hln] at this
         exact this
        | @sl0 _ _ _ _ a _ r g1 g2 g3 g6 g9=>
         obtain⟨us,o1,o2,o3⟩:=zM hr hrd g1 g2 (by omega)
         have hub:=zay hls o1
         have h0:us=[]:=List.eq_nil_of_length_eq_zero o2
         rw[h0] at hub
         obtain rfl:ls=[]:=by
          cases ls with
          |nil=>rfl
          |cons=>simp at hub
         exact(Any.strings_Join_none L X (some a) 0 ⟨sep.toArray⟩ w).mono fun e w' ⟨he,hw⟩=>by subst he;subst hw;exact j7 hr (.refl _ _) (.str [])
       ·cases hls
      ·cases hls
   ·cases hg
  ·cases hg
 ·cases hg
def zk1(B:Nat)(W0:World)(g:Nat):Prop:=∀ w:World,(∀ b,b<B->w.heap[b]?=W0.heap[b]?)->∃ m,w.cell? ⟨g,0,none⟩=some (.int .i64 m)
def zk0(B:Nat)(W0:World)(g:Nat):Prop:=∀ w:World,(∀ b,b<B->w.heap[b]?=W0.heap[b]?)->∃ ev,w.cell? ⟨g,0,none⟩=some ev/\(ev=.nilIface\/∃ te pe,ev=.iface te pe)
theorem Laid.cell(hL:Laid P hgl Gg B W0){g:Nat}(hg:g<P.globals.size){x:AV}(hb:hgl[g]?=some (.lay [x])):∃ u,V Gg x u/\∀ w:World,(∀ b,b<B->w.heap[b]?=W0.heap[b]?)->w.cell? ⟨g,0,none⟩=some u:=by
 obtain⟨r,e1,e2,e3,e4⟩:=hL.g g hg
 obtain⟨u,o1,hcell⟩:=zlN hL.hr hb e1
 rw[e2,e4] at hcell
 have hlt:g<B:=e2 ▸ hL.low _ _ _ e1
 exact⟨u,o1,fun w hw=>by rw[<- hcell];simp only[World.cell?];rw[hw g hlt]⟩
theorem Laid.iv(hL:Laid P hgl Gg B W0){g:Nat}(hg:g<P.globals.size){lo hi:Int}(hb:hgl[g]?=some (.lay [.iv lo hi])):zk1 B W0 g:=fun w hw=>by
 obtain⟨u,h1,h2⟩:=hL.cell hg hb
 cases h1
 exact⟨_,h2 w hw⟩
theorem Laid.opq(hL:Laid P hgl Gg B W0){g:Nat}(hg:g<P.globals.size)(hb:hgl[g]?=some (.lay [.opq])):zk0 B W0 g:=fun w hw=>by
 obtain⟨u,h1,h2⟩:=hL.cell hg hb
 cases h1
 exact⟨_,h2 w hw,.inr ⟨_,_,rfl⟩⟩
def mbs(h:zb):AV->Option (List UInt8)
 |.qH=>some []
 |.sl loc off len 1 ver _=>match rd h loc off ver (off+len) len with
  |some cs=>kh cs
  |none=>none
 |_=>none
theorem zek(l:List UInt8):Lib.bytesOf (l.map fun c=>(c.toNat:Int))=l:=by
 unfold Lib.bytesOf
 rw[List.map_map]
 conv=>rhs;rw[<- List.map_id l]
 exact List.map_congr_left fun c _=>by simp
theorem zhj{G:Gh}{h:zb}{w:World}{x:AV}{u:Value}{l:List UInt8}(hr:HR G B h w)(he:mbs h x=some l)(hx:V G x u):
  (u=.slice none 0 0/\l=[])\/∃ a c,u=.slice (some a) l.length c/\l.length<=c/\∀ i,i<l.length->w.cell? (a.add i)=some (.int .u8 ((l.map fun c=>(c.toNat:Int)).getD i 0)):=by
 unfold mbs at he
 split at he
 ·cases he;cases hx;exact .inl ⟨rfl,rfl⟩
 ·split at he
  ·rename_i loc off len ver clip _ cs hrd
   cases hx with
   | @sl _ _ _ _ _ cap _ r g1 g2 g3 g4 g5 g6 g7 g8 g9=>
    obtain⟨us,o1,o2,o3⟩:=zM hr hrd g1 g2 (by omega)
    have hub:=qj he o1
    have hln:l.length=len:=by rw[<- o2,hub];simp
    refine .inr ⟨⟨r.b,off+r.sh-r.lo,none⟩,cap,by rw[hln],by omega,fun i hi=>?_⟩
    rw[Addr.add_lit]
    refine o3 i _ ?_
    rw[hub,List.getElem?_map,List.getElem?_eq_getElem hi,List.getD_eq_getElem?_getD,List.getElem?_map,List.getElem?_eq_getElem hi]
    rfl
   | @sl0 _ _ _ _ o _ r g1 g2 g3 g6 g9=>
    obtain⟨us,o1,o2,o3⟩:=zM hr hrd g1 g2 (by omega)
    have hub:=qj he o1
    obtain rfl:l=[]:=by
     have:us=[]:=List.eq_nil_of_length_eq_zero o2
     rw[this] at hub
     cases l with
     |nil=>rfl
     |cons=>simp at hub
    exact .inr ⟨o,0,rfl,Nat.le_refl _,fun i hi=>by simp at hi⟩
  ·cases he
 ·cases he
def zdh:List AV->zb->Option CR:=fun args h=>match args with
 | [x,y]=>match mbs h x,mbs h y with
  |some a,some b=>if 0<b.length/\a.length<4294967281/\b.length<4294967281 then some (.ret (.int .i64 (Lib.index a b)) h) else none
  |_,_=>none
 |_=>none
theorem zlF(L:Lays.n185 P ρ)(hm:zk1 B W0 (ρ.g 1)){args:List AV}{h:zb}{r:CR}(hg:zdh args h=some r):zd7 P B W0 (ρ.f 185) args h r:=by
 intro G us w hx hr hgl
 unfold zdh at hg
 split at hg
 ·rename_i x y
  split at hg
  ·rename_i a b h1 h2
   split at hg
   ·rename_i hc
    obtain⟨c0,c1,c2⟩:=hc
    cases hg
    cases hx with
    |cons x1 x2=>cases x2 with
     |cons x3 x4=>
      cases x4
      refine .inl ⟨?_,Go.Proofs.enters_of L.f185 (by kernel_rfl) rfl⟩
      obtain⟨m,hcell⟩:=hm w hgl.low
      ·rcases zhj hr h2 x3 with⟨_,rfl⟩|⟨a2,k2,rfl,hk2,hcells2⟩
       ·simp at c0
       ·rcases zhj hr h1 x1 with⟨rfl,rfl⟩|⟨a1,k1,rfl,hk1,hcells1⟩
        ·refine(Any.bytes_Index_nil L (some a2) b.length k2 w (by omega) (fun e=>?_)).mono fun e w' ⟨he,hw⟩=>?_
         ·have h0:=hcells2 0 c0
          have e2:=Lib.plain_of_cell (by simpa [Addr.add] using h0)
          obtain⟨b2,o2,s2⟩:=a2
          simp only[Addr.mk.injEq,true_and] at e2
          subst e2
          exact⟨b2,o2,_,rfl,by simpa [Addr.add] using h0⟩
         ·subst hw
          rw[if_neg (by omega)] at he
          subst he
          have:Lib.index [] b=-1:=by
           cases b with
           |nil=>simp at c0
           |cons=>rfl
          rw[this]
          exact j7 hr (.refl _ _) (.int _ _)
        ·have:=Any.bytes_Index_at L a1 a2 a.length k1 b.length k2 (a.map fun c=>(c.toNat:Int)) (b.map fun c=>(c.toNat:Int)) m w (by simp) (by simp)
          (fun z hz=>by obtain⟨c,_,rfl⟩:=List.mem_map.1 hz;exact⟨by omega,by have:=c.toNat_lt;omega⟩)
          (fun z hz=>by obtain⟨c,_,rfl⟩:=List.mem_map.1 hz;exact⟨by omega,by have:=c.toNat_lt;omega⟩) hcells1 hcells2 hk1 c1 (by omega) hcell
         rw[zek,zek] at this
         exact this.mono fun e w' ⟨he,q,hw⟩=>by subst he;subst hw;exact j7 hr (zik _ _ _) (.int _ _)
   ·cases hg
  ·cases hg
 ·cases hg
def zoR:Lib.NumEnd Nat->AV
 |.ok u=>.tup [.int .u64 u,.zaY]
 |Go.Lib.NumEnd.syntax=>.tup [.int .u64 0,.opq]
 |.range=>.tup [.int .u64 4294967295,.opq]
def zfE:List AV->zb->Option CR:=fun args h=>match args with
 | [.str s,.int .i64 m,.int .i64 n]=>if m=10/\n=32/\s.length<=281474976710656 then some (.ret (zoR (Lib.parseUintB 32 s)) h) else none
 |_=>none
theorem zfW{G:Gh}{h:zb}{w w':World}{t:TypeId}{s:ByteArray}{v:AV}{u:Value}(hr:HR G B h w)(hw:w'=w\/w'=Lib.bytesWorld w t s)(hv:V G v u):zkY G B w (.ret v h) (.returned u) w':=by
 rcases hw with rfl|rfl
 ·exact j7 hr (.refl _ _) hv
 ·exact j7 hr (Lib.bytesWorld_below _ _ _) hv
theorem zmg(L:LaysPu.n14 P ρ)(hg0:zk0 B W0 (ρ.g 0))(hg1:zk0 B W0 (ρ.g 1)){args:List AV}{h:zb}{r:CR}(hg:zfE args h=some r):zd7 P B W0 (ρ.f 14) args h r:=by
 intro G us w hx hr hgl
 unfold zfE at hg
 split at hg
 ·rename_i s m n
  split at hg
  ·rename_i hc
   obtain⟨rfl,rfl,hs⟩:=hc
   cases hg
   cases hx with
   |cons x1 x2=>cases x2 with
    |cons x3 x4=>cases x4 with
     |cons x5 x6=>
      cases x6
      have k1:=zbq x1;have k2:=jx x3;have k3:=jx x5
      subst k1;subst k2;subst k3
      refine .inl ⟨?_,Go.Proofs.enters_of L.f14 (by kernel_rfl) rfl⟩
      rcases hp:Lib.parseUintB 32 s with u|_|_
      ·refine(Any.strconv_ParseUint_10_at32_ok L ⟨s.toArray⟩ (by show s.length<=_;omega) u hp w).mono fun e w' ⟨he,hw⟩=>?_
       subst he
       exact zfW hr hw (.tup (.cons (.int _ _) (.cons .zaY .nil)))
      ·obtain⟨ev,q1,q2⟩:=hg0 w hgl.low
       refine(Any.strconv_ParseUint_10_at32_syntax L ⟨s.toArray⟩ hs hp ev w q1 q2).mono fun e w' ⟨N,he,_,_,hw⟩=>?_
       subst he
       exact j7 hr hw (.tup (.cons (.int _ _) (.cons (.opq _ _) .nil)))
      ·obtain⟨ev,q1,q2⟩:=hg1 w hgl.low
       refine(Any.strconv_ParseUint_10_at32_range L ⟨s.toArray⟩ hs hp ev w q1 q2).mono fun e w' ⟨N,he,_,_,hw⟩=>?_
       subst he
       exact j7 hr hw (.tup (.cons (.int _ _) (.cons (.opq _ _) .nil)))
  ·cases hg
 ·cases hg
def jN(s sep:List UInt8):List (List UInt8):=(Lib.splitB ⟨sep.toArray⟩ 0 (Lib.countB ⟨s.toArray⟩ ⟨sep.toArray⟩) ⟨s.toArray⟩).map (·.data.toList)
def zeR(e:TypeId):List AV->zb->Option CR:=fun args h=>match args with
 | [.str s,.str sep]=>if 0<sep.length/\s.length<4294967281 then some (.ret (.sl h.length 0 (jN s sep).length 1 0 false) (zaq h ((jN s sep).map .str) e)) else none
 |_=>none
theorem zmO(L:Lays.n146 P ρ)(hi9:(P.info? (ρ.t 9)).map (fun i=>(i.zero,i.size,i.bytes))=some (some (.string ByteArray.empty),1,16))(hm:zk1 B W0 (ρ.g 1)){args:List AV}{h:zb}{r:CR}(hg:zeR (ρ.t 9) args h=some r):zd7 P B W0 (ρ.f 146) args h r:=by
 intro G us w hx hr hgl
 unfold zeR at hg
 split at hg
 ·rename_i s sep
  ·split at hg
   ·rename_i hc
    obtain⟨c0,c1⟩:=hc
    cases hg
    cases hx with
    |cons x1 x2=>cases x2 with
     |cons x3 x4=>
      cases x4
      have k1:=zbq x1;have k2:=zbq x3
      subst k1;subst k2
      refine .inl ⟨?_,Go.Proofs.enters_of L.f146 (by kernel_rfl) rfl⟩
      obtain⟨m,hcell⟩:=hm w hgl.low
      ·have h1:1<=(⟨sep.toArray⟩:ByteArray).size:=c0
       have hlen:=Lib.splitB_all ⟨sep.toArray⟩ h1 0 _ ⟨s.toArray⟩ rfl
       refine(Any.strings_Split L hi9 ⟨s.toArray⟩ ⟨sep.toArray⟩ m w (by show s.length<_;omega) hcell h1).mono fun e w' ⟨he,hw⟩=>?_
       subst he
       have hln:(jN s sep).length=Lib.countB ⟨s.toArray⟩ ⟨sep.toArray⟩+1:=by unfold jN;rw[List.length_map,hlen]
       have hcl:Lib.countB ⟨s.toArray⟩ ⟨sep.toArray⟩<=s.length:=Lib.countB_le ⟨sep.toArray⟩ h1 (⟨s.toArray⟩:ByteArray).size ⟨s.toArray⟩ (Nat.le_refl _)
       have hvs:(Lib.splitB ⟨sep.toArray⟩ 0 (Lib.countB ⟨s.toArray⟩ ⟨sep.toArray⟩) ⟨s.toArray⟩).map Value.string=(jN s sep).map zcz:=by
        unfold jN
        rw[List.map_map]
        exact List.map_congr_left fun b _=>rfl
       rw[hvs] at hw
       have hvl:∀ {G:Gh} (l:List (List UInt8)),VL G (l.map .str) (l.map zcz):=fun {G} l=>by
        induction l with
        |nil=>exact .nil
        |cons x l ih=>exact .cons (.str _) ih
       have hS:=Step.newRow (c:=((jN s sep).map zcz).toArray) (T:=ρ.t 9) (w':=w.alloc (.cells ((jN s sep).map zcz).toArray (ρ.t 9))) hr (hvl (jN s sep))
        (fun p hp=>by simp)
        (heap_alloc_new w _) (by simp) (fun b hb=>(zb0.alloc [] w _).block b hb (by simp)) rfl rfl rfl
       subst hw
       refine⟨_,hS,_,?_,rfl⟩
       rw[<- hr.len,<- hln]
       exact .sl (r:=⟨w.heap.size,0,((jN s sep).map AV.str).length,_,0⟩) (by rw[w7];rfl) (Nat.le_refl _) (by simp) (Nat.le_refl _) (by simp) (fun e=>by cases e) (fun _=>by simp) (by rw[hln];simp only[maxLen];omega) (by omega)
   ·cases hg
 ·cases hg
end
end Go.Mx
namespace Go.Sx
open Go Go.Gx Go.Mx
variable [qG]
def zjL(v:SV)(h:SH):Option (List UInt8):=match v with
 |.a (.str l)=>some l
 |v=>reads .u8 v h
theorem zdx(l:List UInt8):kh (l.map fun b=>AV.int .u8 (b.toNat:Int))=some l:=zbM l
theorem RCs.u8{h:zb}{Φ:Nat->Prop}:∀ {l:List UInt8} {cs:List AV},RCs h Φ .u8 l cs->cs=l.map fun b=>AV.int .u8 (b.toNat:Int):=by
 intro l cs q
 refine List.ext_getElem? fun i=>?_
 obtain⟨q1,q2⟩:=q
 have hl:cs.length=l.length:=by rw[q1];exact Nat.mul_one _
 rw[List.getElem?_map]
 cases hi:l[i]? with
 |none=>
  rw[List.getElem?_eq_none_iff] at hi
  rw[List.getElem?_eq_none_iff.2 (by omega)];rfl
 |some e=>
  have h1:=q2 i e hi
  have hlt:=(List.getElem?_eq_some_iff.1 hi).1
  have h2:part 1 cs i=[AV.int .u8 (e.toNat:Int)]:=h1
  rw[zV,Nat.mul_one,List.drop_eq_getElem_cons (by omega)] at h2
  simp only[List.take_succ_cons,List.take_zero,List.cons.injEq,and_true] at h2
  rw[List.getElem?_eq_getElem (by omega),h2];rfl
theorem zdn{X:Gst}(hr:RH X){v:SV}{x:AV}{l:List UInt8}(hv:RV X v x)(h:zjL v X.sh=some l):zdj X.h x=some l:=by
 unfold zjL at h
 split at h
 ·cases h;cases(show x=_ from hv);rfl
 ·rcases kf hr hv h with⟨rfl,rfl⟩|⟨m,off,ver,clip,cs,rfl,q1,q2⟩
  ·rfl
  ·have e:U.u8.sz=1:=rfl
   rw[e,Nat.mul_one] at q1
   rw[e]
   simp only[zdj,q1]
   rw[RCs.u8 q2]
   exact zdx l
def zjv:CF:=fun R args h κ=>match args with
 | [v,.u8 c]=>match zjL v h with
  |some l=>κ (.ret (.a (.int .i64 (zaj c l 0))) h)
  |none=>none
 |_=>none
def zlk:CF:=fun R args h κ=>match args with
 | [v,.u8 c]=>match zjL v h with
  |some l=>κ (.ret (.a (.int .i64 (Go.Lib.countByte l c))) h)
  |none=>none
 |_=>none
def zp8:CF:=fun R args h κ=>match args with
 | [.ptr loc off lim]=>κ (.ret (.ptr loc off lim) h)
 |_=>none
theorem zm1(c:UInt8):((c.toNat:Int).toNat).toUInt8=c:=by simp
section
variable {P:Program} {gl:GL} {hk:qx} {f:FuncId}
theorem zdd(h:hk f=some (mx .indexByte)):zec P gl hk f zjv:=by
 intro R args κ r X margs hc hargs hr hg
 unfold zjv at hc
 split at hc
 ·rename_i v c
  obtain⟨x,t,rfl,q1,y,t2,rfl,q2,q3⟩:=hargs
  cases(show t2=[] from q3)
  cases(show y=_ from q2)
  split at hc
  ·rename_i l hl
   refine⟨_,X,.ret (.int .i64 (zaj c l 0)) X.h,hc,.refl hr,⟨rfl,rfl,rfl⟩,Ev.all fun n=>?_⟩
   simp only[qR,h,mx,zdn hr q1 hl,zm1]
  ·cases hc
 ·cases hc
theorem ziX(h:hk f=some (mx .same)):zec P gl hk f zp8:=by
 intro R args κ r X margs hc hargs hr hg
 unfold zp8 at hc
 split at hc
 ·obtain⟨x,t,rfl,q1,q3⟩:=hargs
  cases(show t=[] from q3)
  refine⟨_,X,.ret x X.h,hc,.refl hr,⟨rfl,rfl,q1⟩,Ev.all fun n=>?_⟩
  simp only[qR,h,mx]
 ·cases hc
theorem zgT(h:hk f=some (mx .count)):zec P gl hk f zlk:=by
 intro R args κ r X margs hc hargs hr hg
 unfold zlk at hc
 split at hc
 ·rename_i v c
  obtain⟨x,t,rfl,q1,y,t2,rfl,q2,q3⟩:=hargs
  cases(show t2=[] from q3)
  cases(show y=_ from q2)
  split at hc
  ·rename_i l hl
   refine⟨_,X,.ret (.int .i64 (Go.Lib.countByte l c)) X.h,hc,.refl hr,⟨rfl,rfl,rfl⟩,Ev.all fun n=>?_⟩
   simp only[qR,h,mx,zdn hr q1 hl,zm1]
  ·cases hc
 ·cases hc
theorem RCs.strs{h:zb}{Φ:Nat->Prop}{l:List (List UInt8)}{cs:List AV}(q:RCs h Φ .str l cs):cs=l.map AV.str:=by
 refine List.ext_getElem? fun i=>?_
 obtain⟨q1,q2⟩:=q
 have hl:cs.length=l.length:=by rw[q1];exact Nat.mul_one _
 rw[List.getElem?_map]
 cases hi:l[i]? with
 |none=>
  rw[List.getElem?_eq_none_iff] at hi
  rw[List.getElem?_eq_none_iff.2 (by omega)];rfl
 |some e=>
  have h1:=q2 i e hi
  have hlt:=(List.getElem?_eq_some_iff.1 hi).1
  have h2:part 1 cs i=[AV.str e]:=h1
  rw[zV,Nat.mul_one,List.drop_eq_getElem_cons (by omega)] at h2
  simp only[List.take_succ_cons,List.take_zero,List.cons.injEq,and_true] at h2
  rw[List.getElem?_eq_getElem (by omega),h2];rfl
theorem zkM(l:List (List UInt8)):zfQ (l.map AV.str)=some l:=by
 induction l with
 |nil=>rfl
 |cons b l ih=>simp [zfQ,ih]
theorem znM{X:Gst}(hr:RH X){v:SV}{x:AV}{l:List (List UInt8)}(hv:RV X v x)(h:reads .str v X.sh=some l):znL X.h x=some l:=by
 rcases kf hr hv h with⟨rfl,rfl⟩|⟨m,off,ver,clip,cs,rfl,q1,q2⟩
 ·rfl
 ·have e:U.str.sz=1:=rfl
  rw[e,Nat.mul_one] at q1
  rw[e]
  simp only[znL,q1]
  rw[RCs.strs q2]
  exact zkM l
theorem zoL{X:Gst}(hr:RH X){v:SV}{x:AV}{l:List UInt8}(hv:RV X v x)(h:reads .u8 v X.sh=some l):mbs X.h x=some l:=by
 rcases kf hr hv h with⟨rfl,rfl⟩|⟨m,off,ver,clip,cs,rfl,q1,q2⟩
 ·rfl
 ·have e:U.u8.sz=1:=rfl
  rw[e,Nat.mul_one] at q1
  rw[e]
  simp only[mbs,q1]
  rw[RCs.u8 q2]
  exact zdx l
def zpx:CF:=fun R args h κ=>match args with
 | [v,.a (.str sep)]=>match reads .str v h with
  |some ls=>cond (Nat.ble (Go.Lib.join ls sep).length jJ&&Nat.ble ls.length jJ) (κ (.ret (.a (.str (Go.Lib.join ls sep))) h)) none
  |none=>none
 |_=>none
def zeA:Nat:=4294967280
def zlE:CF:=fun R args h κ=>match args with
 | [x,y]=>match reads .u8 x h,reads .u8 y h with
  |some a,some b=>cond (Nat.blt 0 b.length&&(Nat.ble a.length zeA&&Nat.ble b.length zeA)) (κ (.ret (.a (.int .i64 (Go.Lib.index a b))) h)) none
  |_,_=>none
 |_=>none
def zme{R:Type}(p:Go.Lib.NumEnd Nat)(a:Int->R)(b c:R):R:=match p with
 |.ok u=>a (u:Int)
 |Go.Lib.NumEnd.syntax=>b
 |.range=>c
def zj9:Nat:=281474976710656
def zmf:CF:=fun R args h κ=>match args with
 | [.a (.str s),.a (.int .i64 m),.a (.int .i64 n)]=>match decide (m=10),decide (n=32) with
  |true,true=>cond (Nat.ble s.length zj9) (zme (Go.Lib.parseUintB 32 s) (fun u=>κ (.ret (.tup [.a (.int .u64 u),.a .zaY]) h)) (κ (.ret (.tup [.a (.int .u64 0),.a .opq]) h)) (κ (.ret (.tup [.a (.int .u64 4294967295),.a .opq]) h))) none
  |_,_=>none
 |_=>none
def zmN:CF:=fun R args h κ=>match args with
 | [.a (.str s),.a (.str sep)]=>cond (Nat.blt 0 sep.length&&Nat.ble s.length zeA) (κ (.ret (.gs h.length 0) (h++[.seq .str (jN s sep) 0 0]))) none
 |_=>none
section
variable {g g0 g1:Nat} {cs:List AV}
theorem ziB(h:hk f=some zf8):zec P gl hk f zpx:=by
 intro R args κ r X margs hc hargs hr hg
 unfold zpx at hc
 split at hc
 ·rename_i v sep
  obtain⟨x,t,rfl,q1,y,t2,rfl,q2,q3⟩:=hargs
  cases(show t2=[] from q3)
  cases(show y=_ from q2)
  split at hc
  ·rename_i l hl
   cases hb:(Nat.ble (Go.Lib.join l sep).length jJ&&Nat.ble l.length jJ) with
   |false=>rw[hb] at hc;cases hc
   |true=>
    rw[hb] at hc
    rw[Bool.and_eq_true] at hb
    refine⟨_,X,.ret (.str (Go.Lib.join l sep)) X.h,hc,.refl hr,⟨rfl,rfl,rfl⟩,Ev.all fun n=>?_⟩
    simp only[qR,h,zf8,znM hr q1 hl]
    rw[if_pos ⟨Nat.le_of_ble_eq_true hb.1,Nat.le_of_ble_eq_true hb.2⟩]
  ·cases hc
 ·cases hc
theorem zg4(h:hk f=some zdh):zec P gl hk f zlE:=by
 intro R args κ r X margs hc hargs hr hg
 unfold zlE at hc
 split at hc
 ·rename_i v v2
  obtain⟨x,t,rfl,q1,y,t2,rfl,q2,q3⟩:=hargs
  cases(show t2=[] from q3)
  split at hc
  ·rename_i a b h1 h2
   cases hb:(Nat.blt 0 b.length&&(Nat.ble a.length zeA&&Nat.ble b.length zeA)) with
   |false=>rw[hb] at hc;cases hc
   |true=>
    rw[hb] at hc
    rw[Bool.and_eq_true,Bool.and_eq_true] at hb
    have k1:=Nat.le_of_ble_eq_true hb.1
    have k2:=Nat.le_of_ble_eq_true hb.2.1
    have k3:=Nat.le_of_ble_eq_true hb.2.2
    unfold zeA at k2 k3
    refine⟨_,X,.ret (.int .i64 (Go.Lib.index a b)) X.h,hc,.refl hr,⟨rfl,rfl,rfl⟩,Ev.all fun n=>?_⟩
    simp only[qR,h,zdh,zoL hr q1 h1,zoL hr q2 h2]
    rw[if_pos ⟨by omega,by omega,by omega⟩]
  ·cases hc
 ·cases hc
theorem zhE(h:hk f=some zfE):zec P gl hk f zmf:=by
 intro R args κ r X margs hc hargs hr hg
 unfold zmf at hc
 split at hc
 ·rename_i s m n
  obtain⟨x,t,rfl,q1,y,t2,rfl,q2,z,t3,rfl,q3,q4⟩:=hargs
  cases(show t3=[] from q4)
  cases(show x=_ from q1);cases(show y=_ from q2);cases(show z=_ from q3)
  split at hc
  ·rename_i e1 e2
   have e1:=of_decide_eq_true e1
   have e2:=of_decide_eq_true e2
   subst e1;subst e2
   cases hb:Nat.ble s.length zj9 with
   |false=>rw[hb] at hc;cases hc
   |true=>
    rw[hb] at hc
    have k1:=Nat.le_of_ble_eq_true hb
    unfold zj9 at k1
    have hm:∀ n,qR P hk (ju P hk n) (.f f) [.str s,.int .i64 10,.int .i64 32] X.h=some (.ret (zoR (Go.Lib.parseUintB 32 s)) X.h):=fun n=>by
     simp [qR,h,zfE,k1]
    simp only[cond_true] at hc
    rcases hp:Go.Lib.parseUintB 32 s with u|_|_
    ·rw[hp] at hc
     exact⟨_,X,.ret (.tup [.int .u64 (u:Int),.zaY]) X.h,hc,.refl hr,⟨rfl,rfl,_,rfl,_,_,rfl,rfl,_,_,rfl,rfl,rfl⟩,Ev.all fun n=>by rw[hm n,hp];rfl⟩
    ·rw[hp] at hc
     exact⟨_,X,.ret (.tup [.int .u64 0,.opq]) X.h,hc,.refl hr,⟨rfl,rfl,_,rfl,_,_,rfl,rfl,_,_,rfl,rfl,rfl⟩,Ev.all fun n=>by rw[hm n,hp];rfl⟩
    ·rw[hp] at hc
     exact⟨_,X,.ret (.tup [.int .u64 4294967295,.opq]) X.h,hc,.refl hr,⟨rfl,rfl,_,rfl,_,_,rfl,rfl,_,_,rfl,rfl,rfl⟩,Ev.all fun n=>by rw[hm n,hp];rfl⟩
  ·cases hc
 ·cases hc
theorem RCs.zpQ{h:zb}{Φ:Nat->Prop}(l:List (List UInt8)):RCs h Φ .str l (l.map AV.str):=by
 refine⟨by simp [U.sz],fun i e hi=>?_⟩
 have hi':(l.map AV.str)[i]?=some (AV.str e):=by rw[List.getElem?_map,hi];rfl
 obtain⟨hlt,e2⟩:=List.getElem?_eq_some_iff.1 hi'
 rw[zV,show i*U.str.sz=i from Nat.mul_one i,show U.str.sz=1 from rfl,List.drop_eq_getElem_cons hlt,e2];rfl
theorem zhT{e:TypeId}(h:hk f=some (zeR e)):zec P gl hk f zmN:=by
 intro R args κ r X margs hc hargs hr hg
 unfold zmN at hc
 split at hc
 ·rename_i s sep
  obtain⟨x,t,rfl,q1,y,t2,rfl,q2,q3⟩:=hargs
  cases(show t2=[] from q3)
  cases(show x=_ from q1);cases(show y=_ from q2)
  cases hb:(Nat.blt 0 sep.length&&Nat.ble s.length zeA) with
  |false=>rw[hb] at hc;cases hc
  |true=>
   rw[hb] at hc
   rw[Bool.and_eq_true] at hb
   have k1:=Nat.le_of_ble_eq_true hb.1
   have k2:=Nat.le_of_ble_eq_true hb.2
   unfold zeA at k2
   obtain⟨Y,h5,h6,h7,h8⟩:=zaK hr (u:=.str) (l:=jN s sep) (tt:=some e) (hc:=RCs.zpQ _)
   refine⟨_,Y,.ret (.sl X.h.length 0 (jN s sep).length 1 0 false) (zaq X.h ((jN s sep).map .str) e),hc,h5,⟨h6,h7,h8⟩,Ev.all fun n=>?_⟩
   simp only[qR,h,zeR]
   rw[if_pos ⟨by omega,by omega⟩]
 ·cases hc
end
end
end Go.Sx
namespace Go.Mx
open Go Go.Gx

end Go.Mx
namespace Go.Sx
open Go Go.Gx Go.Mx
variable [qG]
section
variable (P:Program) (gl:GL) (ct:CT) {R:Type}
end
section
variable {P:Program} {gl:GL} {ct:CT} {hk:qx} {q:FuncId->Bool} {l:List Oper} {env0:Arr AV} {X0 X:Gst} {recs:List Rec} {env:List SV} {h:SH} {me:Arr AV}
def zq5(fn:Func)(p:List Nat):Code:=match fn.body with
 |some c=>zkJ c p
 |none=>.skip
end
def zrY(P:Program)(gl:GL)(ct:CT)(n:Nat)(pl:Pl)(id:Nat)(g:Operand):LF:=fun R st K=>match sev gl st.env g with
 |some (.fn f first cap)=>match(P.funcs[f]?).bind (·.body) with
  |some _=>jY P gl ct n (pl.at 0 f) f (first++[.yld st.h.length]++cap) (st.h++[.loop st.env id 0]) fun r=>match r with
   |.ret _ h2=>match h2[st.h.length]? with
    |some (.loop _ _ 0)=>K .normal ⟨st.env,h2.set st.h.length .gone⟩
    |_=>none
   |.pan _ _=>none
  |none=>none
 |_=>none
section
variable {P:Program} {gl:GL} {ct:CT} {hk:qx}
theorem zjK(hct:zkZ P gl ct hk){n:Nat}{pl:Pl}{id:Nat}{ps:Array Tmp}{asg body:Code}(hc:qG.at_ id=some (ps,asg,body)){f:FuncId}(hpl:∀ fn b,P.funcs[f]?=some fn->fn.body=some b->jH P gl hk pl b)
  {k:Nat×Option Nat} {X:Gst} {st:SS} {env:Arr AV} {dl:List Dfd} {rnd:Option Nat} (henv:RVs X st.env env.toL) (hsh:X.sh=st.h) (hdk:Dk k X dl rnd) (hr:RH X) (hg:RGl P gl X) {first cap:List SV} {mf mc:List AV} (hf:RVs X first mf) (hcp:RVs X cap mc)
  {R:Type} {K:SX->SS->Option R} {r:R} (h:jY P gl ct n pl f (first++[.yld st.h.length]++cap) (st.h++[.loop st.env id 0]) (fun r=>match r with
   |.ret _ h2=>match h2[st.h.length]? with
    |some (.loop _ _ 0)=>K .normal ⟨st.env,h2.set st.h.length .gone⟩
    |_=>none
   |.pan _ _=>none)=some r):
  ∃ st' Y ms',K .normal st'=some r/\Stp X Y/\StR k Y st' ms'/\Ev fun m=>jL X.h.length env dl rnd (qR P hk (ju P hk m) (.f f) (mf++[.yld X.h.length]++mc) (X.h++[Blk.loop env ps asg body .ready none]))=some (.normal,ms'):=by
 have S1:=Stp.push hr (b:=.loop st.env id 0) (blk:=.loop env ps asg body .ready none) (by simp [SB.md]) (fun hle=>⟨X.h.length,env,ps,asg,body,rfl,hc,by
  show(X.h++[_])[X.h.length]?=_
  rw[Arr.zp (Nat.le_refl _),Nat.sub_self];rfl,henv.le hle⟩)
 generalize hX1:(⟨X.h++[Blk.loop env ps asg body .ready none],X.Φ,X.σ++[some (X.h.length,0)],X.sh++[.loop st.env id 0]⟩:Gst)=X1 at S1
 have hσ1:X1.σ[st.h.length]?=some (some (X.h.length,0)):=by
  rw[<- hX1,<- hsh,<- hr.len]
  show(X.σ++[_])[X.σ.length]?=_
  rw[List.getElem?_append_right (Nat.le_refl _),Nat.sub_self];rfl
 have hargs:RVs X1 (first++[.yld st.h.length]++cap) (mf++[.yld X.h.length]++mc):=((hf.le S1.le).append (.one (show RV X1 (.yld st.h.length) (.yld X.h.length) from⟨_,⟨0,hσ1⟩,rfl⟩))).append (hcp.le S1.le)
 have hsh1:X1.sh=st.h++[.loop st.env id 0]:=by rw[<- hX1,<- hsh]
 have hh1:X1.h=X.h++[Blk.loop env ps asg body .ready none]:=by rw[<- hX1]
 rw[<- hsh1] at h
 obtain⟨q,Y,mq,h1,S2,hcr,ev⟩:=(zc2 hct n).2.2.1 pl f hpl R _ _ r X1 _ h hargs S1.hr (hg.le S1.le)
 cases q with
 |pan v sh=>cases h1
 |ret v sh=>
  cases mq with
  |pan=>cases hcr
  |ret x h'=>
   obtain⟨e1,e2,hv⟩:=hcr
   simp only at h1
   split at h1
   ·rename_i env2 id2 hb
    rw[<- e1] at hb
    obtain⟨v',hσ2⟩:=S2.le.at_ _ _ _ hσ1
    obtain⟨m',env3,ps3,asg3,body3,e3,_,hrow,_⟩:=S2.hr.blk _ _ _ hb hσ2
    cases e3
    have hm:=S2.hr.lt _ _ _ hσ2
    have S3:Stp Y ⟨Y.h.set X.h.length (.loop env3 ps3 asg3 body3 .exhausted none),Y.Φ,Y.σ,Y.sh.set st.h.length .gone⟩:=
     Stp.turn S2.hr (b':=.gone) (o':=some (X.h.length,0)) hb hσ2 (by simp) (fun m hm' hne=>Arr.zn fun e=>hne 0 (e ▸ rfl)) (fun _ _ _=>.inr rfl) (by show _<=(Y.h.set _ _).length;rw[Arr.length_set];exact Nat.le_refl _) (fun m=>⟨.inl,fun h=>h.elim (fun h=>h) fun h=>by cases h.1⟩) (qm hσ2).symm rfl
      (fun _ _ e=>by cases e;exact⟨by show _<(Y.h.set _ _).length;rw[Arr.length_set];exact hm,.inl ⟨_,rfl⟩⟩) (fun m v e=>⟨v,e⟩) (fun _ _ _ _ e=>by cases e) (fun h=>absurd rfl h) (fun _=>.inr rfl) fun _=>trivial
    have S:=S1.trans (S2.trans S3)
    refine⟨_,_,⟨env,Y.h.set X.h.length (.loop env3 ps3 asg3 body3 .exhausted none),dl,rnd⟩,h1,S,⟨henv.le S.le,by rw[<- e1],rfl,hdk.step hr S⟩,ev.mono fun m p=>?_⟩
    rw[hh1] at p
    rw[p]
    simp only[jL,<- e2,hrow,zkg]
   ·cases h1
theorem zml(hct:zkZ P gl ct hk){n:Nat}{pl:Pl}{id:Nat}{g:Operand}{ps:Array Tmp}{asg body:Code}(hc:qG.at_ id=some (ps,asg,body))(hpl:∀ f fn b,P.funcs[f]?=some fn->fn.body=some b->jH P gl hk (pl.at 0 f) b):
  zh8 P gl hk (.rangeFunc g ps asg body) (zrY P gl ct n pl id g):=by
 intro k R st K r X ms h hst hr hg
 unfold zrY at h
 split at h
 ·rename_i f first cap hev
  split at h
  ·rename_i bd hbd
   obtain⟨x,q1,mf,mc,rfl,hf,hcp⟩:=zcv hst.env hg hev
   rw[hst.h] at q1
   have hsome:((P.funcs[f]?).bind (·.body)).isSome=true:=by rw[hbd];rfl
   cases hk2:ms.rnd with
   |none=>
    have S1:=Stp.grow hr [Blk.dfr]
    have hlen:(X.h++[Blk.dfr]).length=X.h.length+1:=by rw[Arr.zv];rfl
    have D0:=hst.dk.step hr S1
    have D1:Dk k ⟨X.h++[Blk.dfr],X.Φ,X.σ,X.sh⟩ (.mark X.h.length::ms.dl) ms.rnd:=by
     refine⟨D0.base,List.nodup_cons.2 ⟨fun hin=>?_,D0.nd⟩,fun d hd=>?_,D0.rnd,D0.lo⟩
     ·obtain⟨m,e,_,_,hk,_⟩:=hst.dk.dl _ hin
      cases e
      exact absurd hk.lt (Nat.lt_irrefl _)
     ·rcases List.mem_cons.1 hd with rfl|hd
      ·refine⟨X.h.length,rfl,hst.dk.base,by show(X.h++[_])[X.h.length]?=_;rw[Arr.zp (Nat.le_refl _),Nat.sub_self];rfl,⟨by show _<(X.h++[Blk.dfr]).length;rw[hlen];omega,fun e=>absurd (hr.Φlt _ e) (Nat.lt_irrefl _),fun i v b _ e=>absurd (hr.lt _ _ _ e) (Nat.lt_irrefl _)⟩,fun i v e=>absurd (hr.lt _ _ _ e) (Nat.lt_irrefl _)⟩
      ·exact D0.dl d hd
    obtain⟨st',Y,ms',h1,S2,hs2,ev⟩:=zjK hct hc (hpl f) (X:=⟨X.h++[Blk.dfr],X.Φ,X.σ,X.sh⟩) (hst.env.le S1.le) hst.sh D1 S1.hr (hg.le S1.le) (hf.le S1.le) (hcp.le S1.le) h
    refine⟨.normal,st',Y,.normal,ms',h1,S1.trans S2,hs2,trivial,Ev.succ (ev.mono fun m p=>?_)⟩
    simp only[ju,qa,zfC,q1,hk2]
    rw[if_pos hsome,<- hst.h]
    simp only[hlen,hk2] at p
    exact p
   |some lo=>
    have hk3:k.2=some lo:=by rw[<- hst.dk.rnd,hk2]
    obtain⟨⟨e5,ps5,a5,b5,s5,p5,hlo⟩,_⟩:=hst.dk.lo lo hk3
    obtain⟨st',Y,ms',h1,S2,hs2,ev⟩:=zjK hct hc (hpl f) hst.env hst.sh hst.dk hr hg hf hcp h
    refine⟨.normal,st',Y,.normal,ms',h1,S2,hs2,trivial,Ev.succ (ev.mono fun m p=>?_)⟩
    simp only[ju,qa,zfC,q1,hk2]
    rw[if_pos hsome,<- hst.h,hlo]
    simp only[hk2] at p
    exact p
  ·cases h
 ·cases h
end
def znU(fn:Func)(p:List Nat):Option (Array Tmp×Code×Code):=match fn.body with
 |some c=>match zkJ c p with
  |.rangeFunc _ ps asg body=>some (ps,asg,body)
  |_=>none
 |none=>none
def zpX(P:Program)(gl:GL)(ct:CT)(fn:Func)(p:List Nat)(id:Nat)(pl:Pl)(n:Nat:=1500):LF:=match fn.body with
 |some c=>match zkJ c p with
  |.rangeFunc g _ _ _=>zrY P gl ct n pl id g
  |_=>fun _ _ _=>none
 |none=>fun _ _ _=>none
section
variable {P:Program} {gl:GL} {hk:qx} {al:List FuncId} (hh:zna P hk al) {T:FT} (hT:zh5 P gl hk T)
include hh hT
theorem zum{n:Nat}{pl:Pl}{id:Nat}{g:Operand}{ps:Array Tmp}{asg body:Code}{ls:List (Code×LF)}(ha:(al.all fun f=>zkU T f)=true)(hs:xS P gl hk ls)(hc:qG.at_ id=some (ps,asg,body))(h:zD P pl .skip=some ls):
  zh8 P gl hk (.rangeFunc g ps asg body) (zrY P gl (zd4 T) n pl id g):=zml (zpk hh ha hT) hc fun f fn b hf hb=>jH.at_ hf hb (qS h hs)
theorem zul(fn:Func)(p:List Nat)(id:Nat)(pl:Pl){ls:List (Code×LF)}(hs:xS P gl hk ls)(n:Nat:=1500)
  (ha:(al.all fun f=>zkU T f)=true:=by rfl) (hc:qG.at_ id=znU fn p:=by rfl) (hr:(znU fn p).isSome=true:=by rfl) (h:zD P pl .skip=some ls:=by kernel_rfl):
  zh8 P gl hk (zq5 fn p) (zpX P gl (zd4 T) fn p id pl n):=by
 unfold znU at hc hr
 unfold zq5 zpX
 cases hb:fn.body with
 |none=>rw[hb] at hr;cases hr
 |some c=>
  rw[hb] at hc hr
  simp only at hc hr |-
  generalize zkJ c p=d at *
  cases d<;>first|(cases hr;done)|skip
  exact zum hh hT ha hs hc h
end
end Go.Sx
set_option linter.unusedVariables false
set_option linter.unusedSimpArgs false
set_option linter.unusedSectionVars false
namespace Go.Mx
open Go Go.Gx Go.Proofs Go.Shelf Go.RowKit
def kI:List AV->zb->Option CR:=fun args h=>match args with
 | [.str s,.int .i64 c]=>if(0<=c/\c<=140737488355328)/\s.length*c.toNat<=jJ then some (.ret (.str (Lib.repeatL s c.toNat)) h) else none
 |_=>none
section
variable {P:Program} {ρ:Ren} {hgl:zb} {Gg:Gh} {B:Nat} {W0:World}
theorem zkt(L:Lays.n105 P ρ)(X:Builder.Extra P ρ){args:List AV}{h:zb}{r:CR}(hg:kI args h=some r):zd7 P B W0 (ρ.f 105) args h r:=by
 intro G us w hx hr hgl
 unfold kI at hg
 split at hg
 ·rename_i s c
  split at hg
  ·rename_i hc
   obtain⟨⟨c1,c2⟩,c3⟩:=hc
   cases hg
   cases hx with
   |cons h1 h2=>cases h2 with
    |cons h3 h4=>
     cases h4
     have hs:=zbq h1
     have hi:=jx h3
     subst hs hi
     refine .inl ⟨?_,Go.Proofs.enters_of L.f105 (by kernel_rfl) rfl⟩
     obtain⟨n,rfl⟩:∃ n:Nat,c=(n:Int):=⟨c.toNat,by omega⟩
     have:=Any.strings_Repeat L X ⟨s.toArray⟩ n w (by omega) (by
      have e:(⟨s.toArray⟩:ByteArray).size=s.length:=rfl
      rw[e];unfold jJ at c3;rw[Int.toNat_natCast] at c3;exact c3)
     refine this.mono fun e w' he=>?_
     obtain⟨rfl,hb⟩:=he
     rw[Int.toNat_natCast]
     exact j7 hr hb (.str _)
  ·cases hg
 ·cases hg
end
end Go.Mx
namespace Go.Sx
open Go Go.Gx Go.Mx
def ziQ:CF:=fun R args h κ=>match args with
 | [.a (.str s),.a (.int .i64 n)]=>cond (decide (0<=n)&&(decide (n<=140737488355328)&&Nat.ble (s.length*n.toNat) jJ)) (κ (.ret (.a (.str (Go.Lib.repeatL s n.toNat))) h)) none
 |_=>none
section
variable [qG] {P:Program} {gl:GL} {hk:qx} {f:FuncId}
theorem zgp(h:hk f=some kI):zec P gl hk f ziQ:=by
 intro R args κ r X margs hc hargs hr hg
 unfold ziQ at hc
 split at hc
 ·rename_i s n
  obtain⟨x,t,rfl,q1,y,t2,rfl,q2,q3⟩:=hargs
  cases(show t2=[] from q3)
  cases(show x=_ from q1);cases(show y=_ from q2)
  cases hb:(decide (0<=n)&&(decide (n<=140737488355328)&&Nat.ble (s.length*n.toNat) jJ)) with
  |false=>rw[hb] at hc;cases hc
  |true=>
   rw[hb] at hc
   rw[Bool.and_eq_true,Bool.and_eq_true] at hb
   refine⟨_,X,.ret (.str (Go.Lib.repeatL s n.toNat)) X.h,hc,.refl hr,⟨rfl,rfl,rfl⟩,Ev.all fun k=>?_⟩
   simp only[qR,h,kI]
   rw[if_pos ⟨⟨of_decide_eq_true hb.1,of_decide_eq_true hb.2.1⟩,Nat.le_of_ble_eq_true hb.2.2⟩]
 ·cases hc
end
end Go.Sx
namespace Go.Sx
open Go Go.Gx Go.Mx
variable [qG]
section
variable (P:Program) (gl:GL) (ct:CT) {R:Type}
end
section
variable {P:Program} {gl:GL} {ct:CT} {hk:qx}
end
end Go.Sx
namespace Go.Proofs.Model
open Go Go.Gx Go.Mx Go.Sx
@[reducible] def uS2:U:=(.pair .str (.pair (.int .i64) (.pair .str (.pair (.sl (.pair (.int .u32) (.int .u32))) (.pair (.int .i64) (.pair (.int .i64) (.pair .bool (.pair .u8 (.sl .u8)))))))))
def znd:List UInt8:=[0,1,2,2,3,3,3,3,4,4,4,4,4,4,4,4,5,5,5,5,5,5,5,5,5,5,5,5,5,5,5,5,6,6,6,6,6,6,6,6,6,6,6,6,6,6,6,6,6,6,6,6,6,6,6,6,6,6,6,6,6,6,6,6,7,7,7,7,7,7,7,7,7,7,7,7,7,7,7,7,7,7,7,7,7,7,7,7,7,7,7,7,7,7,7,7,7,7,7,7,7,7,7,7,7,7,7,7,7,7,7,7,7,7,7,7,7,7,7,7,7,7,7,7,7,7,7,7,8,8,8,8,8,8,8,8,8,8,8,8,8,8,8,8,8,8,8,8,8,8,8,8,8,8,8,8,8,8,8,8,8,8,8,8,8,8,8,8,8,8,8,8,8,8,8,8,8,8,8,8,8,8,8,8,8,8,8,8,8,8,8,8,8,8,8,8,8,8,8,8,8,8,8,8,8,8,8,8,8,8,8,8,8,8,8,8,8,8,8,8,8,8,8,8,8,8,8,8,8,8,8,8,8,8,8,8,8,8,8,8,8,8,8,8,8,8,8,8,8,8,8,8,8,8,8,8]
def xY:List UInt8:=[48,48,48,49,48,50,48,51,48,52,48,53,48,54,48,55,48,56,48,57,49,48,49,49,49,50,49,51,49,52,49,53,49,54,49,55,49,56,49,57,50,48,50,49,50,50,50,51,50,52,50,53,50,54,50,55,50,56,50,57,51,48,51,49,51,50,51,51,51,52,51,53,51,54,51,55,51,56,51,57,52,48,52,49,52,50,52,51,52,52,52,53,52,54,52,55,52,56,52,57,53,48,53,49,53,50,53,51,53,52,53,53,53,54,53,55,53,56,53,57,54,48,54,49,54,50,54,51,54,52,54,53,54,54,54,55,54,56,54,57,55,48,55,49,55,50,55,51,55,52,55,53,55,54,55,55,55,56,55,57,56,48,56,49,56,50,56,51,56,52,56,53,56,54,56,55,56,56,56,57,57,48,57,49,57,50,57,51,57,52,57,53,57,54,57,55,57,56,57,57]
def xr(N:Nat)(p0:UInt8):Option (Bool×Unit):=
 (cond (decide (32<p0)) (cond (decide (p0<=126)) (cond (decide (((UInt8.toNat (zoc p0 6):Nat):Int)=0)) (cond (decide (0<=((UInt8.toNat (p0 &&& 63):Nat):Int))) (some ((!((xC .and .u64 (Int.fdiv 7851200217088 (2 ^ (min (Int.toNat ((UInt8.toNat (p0 &&& 63):Nat):Int)) (IntKind.bits .u64)))) 1)==1)),())) none) (cond (decide (((UInt8.toNat (zoc p0 6):Nat):Int)=1)) (cond (decide (0<=((UInt8.toNat (p0 &&& 63):Nat):Int))) (some ((!((xC .and .u64 (Int.fdiv 576460753108729856 (2 ^ (min (Int.toNat ((UInt8.toNat (p0 &&& 63):Nat):Int)) (IntKind.bits .u64)))) 1)==1)),())) none) (cond (decide (((UInt8.toNat (zoc p0 6):Nat):Int)=2)) (cond (decide (0<=((UInt8.toNat (p0 &&& 63):Nat):Int))) (some ((!((xC .and .u64 (Int.fdiv 0 (2 ^ (min (Int.toNat ((UInt8.toNat (p0 &&& 63):Nat):Int)) (IntKind.bits .u64)))) 1)==1)),())) none) (cond (decide (((UInt8.toNat (zoc p0 6):Nat):Int)=3)) (cond (decide (0<=((UInt8.toNat (p0 &&& 63):Nat):Int))) (some ((!((xC .and .u64 (Int.fdiv 0 (2 ^ (min (Int.toNat ((UInt8.toNat (p0 &&& 63):Nat):Int)) (IntKind.bits .u64)))) 1)==1)),())) none) none)))) (some (false,()))) (some (false,())))
def zaA(N:Nat)(p0:UInt8):Option (Bool×Unit):=
 (cond (p0==93) (some (true,())) (cond (p0 != 43) (Option.bind (xr N p0) fun y1=>(some (y1.1,()))) (some (false,()))))
def xq(N:Nat)(p0:UInt8):Option (Bool×Unit):=
 (cond (p0 != 0) (cond (decide (p0<128)) (cond (p0 != 13) (some ((p0 != 10),())) (some (false,()))) (some (false,()))) (some (false,())))
def jG(N:Nat)(p0:Int):Option ((List UInt8)×Unit):=
 (cond (decide (p0<10)) (cond (wm p0 (IntKind.wrap .i64 (p0+1)) 36) (some ((slice [48,49,50,51,52,53,54,55,56,57,97,98,99,100,101,102,103,104,105,106,107,108,109,110,111,112,113,114,115,116,117,118,119,120,121,122] (Int.toNat p0) (Int.toNat (IntKind.wrap .i64 (p0+1)))),())) none) (cond (wm (IntKind.wrap .i64 (p0*2)) (IntKind.wrap .i64 ((IntKind.wrap .i64 (p0*2))+2)) 200) (some ((slice [48,48,48,49,48,50,48,51,48,52,48,53,48,54,48,55,48,56,48,57,49,48,49,49,49,50,49,51,49,52,49,53,49,54,49,55,49,56,49,57,50,48,50,49,50,50,50,51,50,52,50,53,50,54,50,55,50,56,50,57,51,48,51,49,51,50,51,51,51,52,51,53,51,54,51,55,51,56,51,57,52,48,52,49,52,50,52,51,52,52,52,53,52,54,52,55,52,56,52,57,53,48,53,49,53,50,53,51,53,52,53,53,53,54,53,55,53,56,53,57,54,48,54,49,54,50,54,51,54,52,54,53,54,54,54,55,54,56,54,57,55,48,55,49,55,50,55,51,55,52,55,53,55,54,55,55,55,56,55,57,56,48,56,49,56,50,56,51,56,52,56,53,56,54,56,55,56,56,56,57,57,48,57,49,57,50,57,51,57,52,57,53,57,54,57,55,57,56,57,57] (Int.toNat (IntKind.wrap .i64 (p0*2))) (Int.toNat (IntKind.wrap .i64 ((IntKind.wrap .i64 (p0*2))+2)))),())) none))
def qU(N:Nat)(p0:Int):Option (Int×Unit):=
 (cond (decide (4294967296<=p0)) (cond (decide (65536<=(Int.fdiv p0 (2 ^ (min (Int.toNat 32) (IntKind.bits .u64)))))) (cond (decide (256<=(Int.fdiv (Int.fdiv p0 (2 ^ (min (Int.toNat 32) (IntKind.bits .u64)))) (2 ^ (min (Int.toNat 16) (IntKind.bits .u64)))))) (cond (inb ((UInt8.toNat (zcw (Int.fdiv (Int.fdiv (Int.fdiv p0 (2 ^ (min (Int.toNat 32) (IntKind.bits .u64)))) (2 ^ (min (Int.toNat 16) (IntKind.bits .u64)))) (2 ^ (min (Int.toNat 8) (IntKind.bits .u64))))):Nat):Int) 256) (some ((IntKind.wrap .i64 (56+(IntKind.wrap .i64 ((UInt8.toNat (nth .u8 znd (Int.toNat ((UInt8.toNat (zcw (Int.fdiv (Int.fdiv (Int.fdiv p0 (2 ^ (min (Int.toNat 32) (IntKind.bits .u64)))) (2 ^ (min (Int.toNat 16) (IntKind.bits .u64)))) (2 ^ (min (Int.toNat 8) (IntKind.bits .u64))))):Nat):Int))):Nat):Int)))),())) none) (cond (inb ((UInt8.toNat (zcw (Int.fdiv (Int.fdiv p0 (2 ^ (min (Int.toNat 32) (IntKind.bits .u64)))) (2 ^ (min (Int.toNat 16) (IntKind.bits .u64))))):Nat):Int) 256) (some ((IntKind.wrap .i64 (48+(IntKind.wrap .i64 ((UInt8.toNat (nth .u8 znd (Int.toNat ((UInt8.toNat (zcw (Int.fdiv (Int.fdiv p0 (2 ^ (min (Int.toNat 32) (IntKind.bits .u64)))) (2 ^ (min (Int.toNat 16) (IntKind.bits .u64))))):Nat):Int))):Nat):Int)))),())) none)) (cond (decide (256<=(Int.fdiv p0 (2 ^ (min (Int.toNat 32) (IntKind.bits .u64)))))) (cond (inb ((UInt8.toNat (zcw (Int.fdiv (Int.fdiv p0 (2 ^ (min (Int.toNat 32) (IntKind.bits .u64)))) (2 ^ (min (Int.toNat 8) (IntKind.bits .u64))))):Nat):Int) 256) (some ((IntKind.wrap .i64 (40+(IntKind.wrap .i64 ((UInt8.toNat (nth .u8 znd (Int.toNat ((UInt8.toNat (zcw (Int.fdiv (Int.fdiv p0 (2 ^ (min (Int.toNat 32) (IntKind.bits .u64)))) (2 ^ (min (Int.toNat 8) (IntKind.bits .u64))))):Nat):Int))):Nat):Int)))),())) none) (cond (inb ((UInt8.toNat (zcw (Int.fdiv p0 (2 ^ (min (Int.toNat 32) (IntKind.bits .u64))))):Nat):Int) 256) (some ((IntKind.wrap .i64 (32+(IntKind.wrap .i64 ((UInt8.toNat (nth .u8 znd (Int.toNat ((UInt8.toNat (zcw (Int.fdiv p0 (2 ^ (min (Int.toNat 32) (IntKind.bits .u64))))):Nat):Int))):Nat):Int)))),())) none))) (cond (decide (65536<=p0)) (cond (decide (256<=(Int.fdiv p0 (2 ^ (min (Int.toNat 16) (IntKind.bits .u64)))))) (cond (inb ((UInt8.toNat (zcw (Int.fdiv (Int.fdiv p0 (2 ^ (min (Int.toNat 16) (IntKind.bits .u64)))) (2 ^ (min (Int.toNat 8) (IntKind.bits .u64))))):Nat):Int) 256) (some ((IntKind.wrap .i64 (24+(IntKind.wrap .i64 ((UInt8.toNat (nth .u8 znd (Int.toNat ((UInt8.toNat (zcw (Int.fdiv (Int.fdiv p0 (2 ^ (min (Int.toNat 16) (IntKind.bits .u64)))) (2 ^ (min (Int.toNat 8) (IntKind.bits .u64))))):Nat):Int))):Nat):Int)))),())) none) (cond (inb ((UInt8.toNat (zcw (Int.fdiv p0 (2 ^ (min (Int.toNat 16) (IntKind.bits .u64))))):Nat):Int) 256) (some ((IntKind.wrap .i64 (16+(IntKind.wrap .i64 ((UInt8.toNat (nth .u8 znd (Int.toNat ((UInt8.toNat (zcw (Int.fdiv p0 (2 ^ (min (Int.toNat 16) (IntKind.bits .u64))))):Nat):Int))):Nat):Int)))),())) none)) (cond (decide (256<=p0)) (cond (inb ((UInt8.toNat (zcw (Int.fdiv p0 (2 ^ (min (Int.toNat 8) (IntKind.bits .u64))))):Nat):Int) 256) (some ((IntKind.wrap .i64 (8+(IntKind.wrap .i64 ((UInt8.toNat (nth .u8 znd (Int.toNat ((UInt8.toNat (zcw (Int.fdiv p0 (2 ^ (min (Int.toNat 8) (IntKind.bits .u64))))):Nat):Int))):Nat):Int)))),())) none) (cond (inb ((UInt8.toNat (zcw p0):Nat):Int) 256) (some ((IntKind.wrap .i64 (0+(IntKind.wrap .i64 ((UInt8.toNat (nth .u8 znd (Int.toNat ((UInt8.toNat (zcw p0):Nat):Int))):Nat):Int)))),())) none))))
def jq(N:Nat)(p0:Int):Option (Int×Unit):=
 (some ((Int.fdiv (IntKind.wrap .i64 (p0*78913)) (2 ^ (min (Int.toNat 18) (IntKind.bits .i64)))),()))
def jo(N:Nat)(p0:Bool):Option (Int×Unit):=
 (cond p0 (some (1,())) (some (0,())))
def zf(N:Nat)(p0:Int):Option (Int×Unit):=
 (Option.bind (qU N p0) fun y1=>(Option.bind (jq N y1.1) fun y2=>(cond ((inb y2.1 20)&&(inb y2.1 20)) (Option.bind (jo N (decide ((nth (.int .u64) ([1,10,100,1000,10000,100000,1000000,10000000,100000000,1000000000,10000000000,100000000000,1000000000000,10000000000000,100000000000000,1000000000000000,10000000000000000,100000000000000000,1000000000000000000,10000000000000000000]:List Int) (Int.toNat y2.1))<=p0))) fun y3=>(some ((IntKind.wrap .i64 (y2.1+y3.1)),()))) none)))
def zg(N:Nat){R:Type}(x3:Nat)(x4:Nat)(x5:Int)(x6:Int)(x7:List UInt8)(rec_:(Nat)->(Nat)->(Int)->(Int)->(List UInt8)->Option R)(o0:(Nat)->(Nat)->(Int)->(Int)->(List UInt8)->Option R):Option R:=
 (cond (decide (8<=x6)) (cond (inb (IntKind.wrap .u32 ((IntKind.wrap .u32 ((Int.tmod (Int.tmod (IntKind.wrap .u32 (Int.tmod x5 100000000)) 10000) 100)*2))+1)) 200) (cond (inb (IntKind.wrap .u32 ((Int.tmod (Int.tmod (IntKind.wrap .u32 (Int.tmod x5 100000000)) 10000) 100)*2)) 200) (cond (inb (IntKind.wrap .i64 (x6-1)) x4) (cond (inb (IntKind.wrap .i64 (x6-2)) x4) (cond (inb (IntKind.wrap .u32 ((IntKind.wrap .u32 ((IntKind.wrap .u32 (Int.tdiv (Int.tmod (IntKind.wrap .u32 (Int.tmod x5 100000000)) 10000) 100))*2))+1)) 200) (cond (inb (IntKind.wrap .u32 ((IntKind.wrap .u32 (Int.tdiv (Int.tmod (IntKind.wrap .u32 (Int.tmod x5 100000000)) 10000) 100))*2)) 200) (cond (inb (IntKind.wrap .i64 (x6-3)) x4) (cond (inb (IntKind.wrap .i64 (x6-4)) x4) (cond (inb (IntKind.wrap .u32 ((IntKind.wrap .u32 ((Int.tmod (IntKind.wrap .u32 (Int.tdiv (IntKind.wrap .u32 (Int.tmod x5 100000000)) 10000)) 100)*2))+1)) 200) (cond (inb (IntKind.wrap .u32 ((Int.tmod (IntKind.wrap .u32 (Int.tdiv (IntKind.wrap .u32 (Int.tmod x5 100000000)) 10000)) 100)*2)) 200) (cond (inb (IntKind.wrap .i64 (x6-5)) x4) (cond (inb (IntKind.wrap .i64 (x6-6)) x4) (cond (inb (IntKind.wrap .u32 ((IntKind.wrap .u32 ((IntKind.wrap .u32 (Int.tdiv (IntKind.wrap .u32 (Int.tdiv (IntKind.wrap .u32 (Int.tmod x5 100000000)) 10000)) 100))*2))+1)) 200) (cond (inb (IntKind.wrap .u32 ((IntKind.wrap .u32 (Int.tdiv (IntKind.wrap .u32 (Int.tdiv (IntKind.wrap .u32 (Int.tmod x5 100000000)) 10000)) 100))*2)) 200) (cond (inb (IntKind.wrap .i64 (x6-7)) x4) (cond (inb (IntKind.wrap .i64 (x6-8)) x4) (rec_ x3 x4 (IntKind.wrap .u64 (Int.tdiv x5 100000000)) (IntKind.wrap .i64 (x6-8)) (List.set (List.set (List.set (List.set (List.set (List.set (List.set (List.set x7 (x3+(Int.toNat (IntKind.wrap .i64 (x6-1)))) (nth .u8 xY (Int.toNat (IntKind.wrap .u32 ((IntKind.wrap .u32 ((Int.tmod (Int.tmod (IntKind.wrap .u32 (Int.tmod x5 100000000)) 10000) 100)*2))+1))))) (x3+(Int.toNat (IntKind.wrap .i64 (x6-2)))) (nth .u8 xY (Int.toNat (IntKind.wrap .u32 ((Int.tmod (Int.tmod (IntKind.wrap .u32 (Int.tmod x5 100000000)) 10000) 100)*2))))) (x3+(Int.toNat (IntKind.wrap .i64 (x6-3)))) (nth .u8 xY (Int.toNat (IntKind.wrap .u32 ((IntKind.wrap .u32 ((IntKind.wrap .u32 (Int.tdiv (Int.tmod (IntKind.wrap .u32 (Int.tmod x5 100000000)) 10000) 100))*2))+1))))) (x3+(Int.toNat (IntKind.wrap .i64 (x6-4)))) (nth .u8 xY (Int.toNat (IntKind.wrap .u32 ((IntKind.wrap .u32 (Int.tdiv (Int.tmod (IntKind.wrap .u32 (Int.tmod x5 100000000)) 10000) 100))*2))))) (x3+(Int.toNat (IntKind.wrap .i64 (x6-5)))) (nth .u8 xY (Int.toNat (IntKind.wrap .u32 ((IntKind.wrap .u32 ((Int.tmod (IntKind.wrap .u32 (Int.tdiv (IntKind.wrap .u32 (Int.tmod x5 100000000)) 10000)) 100)*2))+1))))) (x3+(Int.toNat (IntKind.wrap .i64 (x6-6)))) (nth .u8 xY (Int.toNat (IntKind.wrap .u32 ((Int.tmod (IntKind.wrap .u32 (Int.tdiv (IntKind.wrap .u32 (Int.tmod x5 100000000)) 10000)) 100)*2))))) (x3+(Int.toNat (IntKind.wrap .i64 (x6-7)))) (nth .u8 xY (Int.toNat (IntKind.wrap .u32 ((IntKind.wrap .u32 ((IntKind.wrap .u32 (Int.tdiv (IntKind.wrap .u32 (Int.tdiv (IntKind.wrap .u32 (Int.tmod x5 100000000)) 10000)) 100))*2))+1))))) (x3+(Int.toNat (IntKind.wrap .i64 (x6-8)))) (nth .u8 xY (Int.toNat (IntKind.wrap .u32 ((IntKind.wrap .u32 (Int.tdiv (IntKind.wrap .u32 (Int.tdiv (IntKind.wrap .u32 (Int.tmod x5 100000000)) 10000)) 100))*2)))))) none) none) none) none) none) none) none) none) none) none) none) none) none) none) none) none) (o0 x3 x4 x5 x6 x7))
def za(N:Nat):Nat->(Nat)->(Nat)->(Int)->(Int)->(List UInt8)->Option ((Nat)×(Nat)×(Int)×(Int)×(List UInt8))
 |0,_,_,_,_,_=>none
 |m+1,x3,x4,x5,x6,x7=>zg N x3 x4 x5 x6 x7 (za N m) (fun v0 v1 v2 v3 v4=>some (v0,v1,v2,v3,v4))
def ze(N:Nat)(p0:Int):Option ((List UInt8)×Unit):=
 (cond (decide ((IntKind.wrap .u64 p0)<100)) (Option.bind (jG N (IntKind.wrap .i64 (IntKind.wrap .u64 p0))) fun y1=>(some (y1.1,()))) (Option.bind (zf N (IntKind.wrap .u64 p0)) fun y2=>(cond (wm 0 y2.1 24) (Option.bind (za N N 0 ((Int.toNat y2.1)-0) (IntKind.wrap .u64 p0) ((((Int.toNat y2.1)-0):Nat):Int) [0,0,0,0,0,0,0,0,0,0,0,0,0,0,0,0,0,0,0,0,0,0,0,0]) fun o9=>(cond (decide (4<=o9.2.2.2.1)) (cond (inb (IntKind.wrap .u32 ((IntKind.wrap .u32 ((Int.tmod (Int.tmod (IntKind.wrap .u32 o9.2.2.1) 10000) 100)*2))+1)) 200) (cond (inb (IntKind.wrap .u32 ((Int.tmod (Int.tmod (IntKind.wrap .u32 o9.2.2.1) 10000) 100)*2)) 200) (cond (inb (IntKind.wrap .i64 (o9.2.2.2.1-1)) o9.2.1) (cond (inb (IntKind.wrap .i64 (o9.2.2.2.1-2)) o9.2.1) (cond (inb (IntKind.wrap .u32 ((IntKind.wrap .u32 ((IntKind.wrap .u32 (Int.tdiv (Int.tmod (IntKind.wrap .u32 o9.2.2.1) 10000) 100))*2))+1)) 200) (cond (inb (IntKind.wrap .u32 ((IntKind.wrap .u32 (Int.tdiv (Int.tmod (IntKind.wrap .u32 o9.2.2.1) 10000) 100))*2)) 200) (cond (inb (IntKind.wrap .i64 (o9.2.2.2.1-3)) o9.2.1) (cond (inb (IntKind.wrap .i64 (o9.2.2.2.1-4)) o9.2.1) (cond (decide (2<=(IntKind.wrap .i64 (o9.2.2.2.1-4)))) (cond (inb (IntKind.wrap .u32 ((IntKind.wrap .u32 ((Int.tmod (IntKind.wrap .u32 (Int.tdiv (IntKind.wrap .u32 o9.2.2.1) 10000)) 100)*2))+1)) 200) (cond (inb (IntKind.wrap .u32 ((Int.tmod (IntKind.wrap .u32 (Int.tdiv (IntKind.wrap .u32 o9.2.2.1) 10000)) 100)*2)) 200) (cond (inb (IntKind.wrap .i64 ((IntKind.wrap .i64 (o9.2.2.2.1-4))-1)) o9.2.1) (cond (inb (IntKind.wrap .i64 ((IntKind.wrap .i64 (o9.2.2.2.1-4))-2)) o9.2.1) (cond (decide (0<(IntKind.wrap .i64 ((IntKind.wrap .i64 (o9.2.2.2.1-4))-2)))) (cond (inb 0 o9.2.1) (cond (wm 0 y2.1 24) (some ((slice (List.set (List.set (List.set (List.set (List.set (List.set (List.set o9.2.2.2.2 (o9.1+(Int.toNat (IntKind.wrap .i64 (o9.2.2.2.1-1)))) (nth .u8 xY (Int.toNat (IntKind.wrap .u32 ((IntKind.wrap .u32 ((Int.tmod (Int.tmod (IntKind.wrap .u32 o9.2.2.1) 10000) 100)*2))+1))))) (o9.1+(Int.toNat (IntKind.wrap .i64 (o9.2.2.2.1-2)))) (nth .u8 xY (Int.toNat (IntKind.wrap .u32 ((Int.tmod (Int.tmod (IntKind.wrap .u32 o9.2.2.1) 10000) 100)*2))))) (o9.1+(Int.toNat (IntKind.wrap .i64 (o9.2.2.2.1-3)))) (nth .u8 xY (Int.toNat (IntKind.wrap .u32 ((IntKind.wrap .u32 ((IntKind.wrap .u32 (Int.tdiv (Int.tmod (IntKind.wrap .u32 o9.2.2.1) 10000) 100))*2))+1))))) (o9.1+(Int.toNat (IntKind.wrap .i64 (o9.2.2.2.1-4)))) (nth .u8 xY (Int.toNat (IntKind.wrap .u32 ((IntKind.wrap .u32 (Int.tdiv (Int.tmod (IntKind.wrap .u32 o9.2.2.1) 10000) 100))*2))))) (o9.1+(Int.toNat (IntKind.wrap .i64 ((IntKind.wrap .i64 (o9.2.2.2.1-4))-1)))) (nth .u8 xY (Int.toNat (IntKind.wrap .u32 ((IntKind.wrap .u32 ((Int.tmod (IntKind.wrap .u32 (Int.tdiv (IntKind.wrap .u32 o9.2.2.1) 10000)) 100)*2))+1))))) (o9.1+(Int.toNat (IntKind.wrap .i64 ((IntKind.wrap .i64 (o9.2.2.2.1-4))-2)))) (nth .u8 xY (Int.toNat (IntKind.wrap .u32 ((Int.tmod (IntKind.wrap .u32 (Int.tdiv (IntKind.wrap .u32 o9.2.2.1) 10000)) 100)*2))))) (o9.1+0) (zcw (IntKind.wrap .u32 (48+(IntKind.wrap .u32 (Int.tdiv (IntKind.wrap .u32 (Int.tdiv (IntKind.wrap .u32 o9.2.2.1) 10000)) 100)))))) 0 (0+((Int.toNat y2.1)-0))),())) none) none) (cond (wm 0 y2.1 24) (some ((slice (List.set (List.set (List.set (List.set (List.set (List.set o9.2.2.2.2 (o9.1+(Int.toNat (IntKind.wrap .i64 (o9.2.2.2.1-1)))) (nth .u8 xY (Int.toNat (IntKind.wrap .u32 ((IntKind.wrap .u32 ((Int.tmod (Int.tmod (IntKind.wrap .u32 o9.2.2.1) 10000) 100)*2))+1))))) (o9.1+(Int.toNat (IntKind.wrap .i64 (o9.2.2.2.1-2)))) (nth .u8 xY (Int.toNat (IntKind.wrap .u32 ((Int.tmod (Int.tmod (IntKind.wrap .u32 o9.2.2.1) 10000) 100)*2))))) (o9.1+(Int.toNat (IntKind.wrap .i64 (o9.2.2.2.1-3)))) (nth .u8 xY (Int.toNat (IntKind.wrap .u32 ((IntKind.wrap .u32 ((IntKind.wrap .u32 (Int.tdiv (Int.tmod (IntKind.wrap .u32 o9.2.2.1) 10000) 100))*2))+1))))) (o9.1+(Int.toNat (IntKind.wrap .i64 (o9.2.2.2.1-4)))) (nth .u8 xY (Int.toNat (IntKind.wrap .u32 ((IntKind.wrap .u32 (Int.tdiv (Int.tmod (IntKind.wrap .u32 o9.2.2.1) 10000) 100))*2))))) (o9.1+(Int.toNat (IntKind.wrap .i64 ((IntKind.wrap .i64 (o9.2.2.2.1-4))-1)))) (nth .u8 xY (Int.toNat (IntKind.wrap .u32 ((IntKind.wrap .u32 ((Int.tmod (IntKind.wrap .u32 (Int.tdiv (IntKind.wrap .u32 o9.2.2.1) 10000)) 100)*2))+1))))) (o9.1+(Int.toNat (IntKind.wrap .i64 ((IntKind.wrap .i64 (o9.2.2.2.1-4))-2)))) (nth .u8 xY (Int.toNat (IntKind.wrap .u32 ((Int.tmod (IntKind.wrap .u32 (Int.tdiv (IntKind.wrap .u32 o9.2.2.1) 10000)) 100)*2))))) 0 (0+((Int.toNat y2.1)-0))),())) none)) none) none) none) none) (cond (decide (0<(IntKind.wrap .i64 (o9.2.2.2.1-4)))) (cond (inb 0 o9.2.1) (cond (wm 0 y2.1 24) (some ((slice (List.set (List.set (List.set (List.set (List.set o9.2.2.2.2 (o9.1+(Int.toNat (IntKind.wrap .i64 (o9.2.2.2.1-1)))) (nth .u8 xY (Int.toNat (IntKind.wrap .u32 ((IntKind.wrap .u32 ((Int.tmod (Int.tmod (IntKind.wrap .u32 o9.2.2.1) 10000) 100)*2))+1))))) (o9.1+(Int.toNat (IntKind.wrap .i64 (o9.2.2.2.1-2)))) (nth .u8 xY (Int.toNat (IntKind.wrap .u32 ((Int.tmod (Int.tmod (IntKind.wrap .u32 o9.2.2.1) 10000) 100)*2))))) (o9.1+(Int.toNat (IntKind.wrap .i64 (o9.2.2.2.1-3)))) (nth .u8 xY (Int.toNat (IntKind.wrap .u32 ((IntKind.wrap .u32 ((IntKind.wrap .u32 (Int.tdiv (Int.tmod (IntKind.wrap .u32 o9.2.2.1) 10000) 100))*2))+1))))) (o9.1+(Int.toNat (IntKind.wrap .i64 (o9.2.2.2.1-4)))) (nth .u8 xY (Int.toNat (IntKind.wrap .u32 ((IntKind.wrap .u32 (Int.tdiv (Int.tmod (IntKind.wrap .u32 o9.2.2.1) 10000) 100))*2))))) (o9.1+0) (zcw (IntKind.wrap .u32 (48+(IntKind.wrap .u32 (Int.tdiv (IntKind.wrap .u32 o9.2.2.1) 10000)))))) 0 (0+((Int.toNat y2.1)-0))),())) none) none) (cond (wm 0 y2.1 24) (some ((slice (List.set (List.set (List.set (List.set o9.2.2.2.2 (o9.1+(Int.toNat (IntKind.wrap .i64 (o9.2.2.2.1-1)))) (nth .u8 xY (Int.toNat (IntKind.wrap .u32 ((IntKind.wrap .u32 ((Int.tmod (Int.tmod (IntKind.wrap .u32 o9.2.2.1) 10000) 100)*2))+1))))) (o9.1+(Int.toNat (IntKind.wrap .i64 (o9.2.2.2.1-2)))) (nth .u8 xY (Int.toNat (IntKind.wrap .u32 ((Int.tmod (Int.tmod (IntKind.wrap .u32 o9.2.2.1) 10000) 100)*2))))) (o9.1+(Int.toNat (IntKind.wrap .i64 (o9.2.2.2.1-3)))) (nth .u8 xY (Int.toNat (IntKind.wrap .u32 ((IntKind.wrap .u32 ((IntKind.wrap .u32 (Int.tdiv (Int.tmod (IntKind.wrap .u32 o9.2.2.1) 10000) 100))*2))+1))))) (o9.1+(Int.toNat (IntKind.wrap .i64 (o9.2.2.2.1-4)))) (nth .u8 xY (Int.toNat (IntKind.wrap .u32 ((IntKind.wrap .u32 (Int.tdiv (Int.tmod (IntKind.wrap .u32 o9.2.2.1) 10000) 100))*2))))) 0 (0+((Int.toNat y2.1)-0))),())) none))) none) none) none) none) none) none) none) none) (cond (decide (2<=o9.2.2.2.1)) (cond (inb (IntKind.wrap .u32 ((IntKind.wrap .u32 ((Int.tmod (IntKind.wrap .u32 o9.2.2.1) 100)*2))+1)) 200) (cond (inb (IntKind.wrap .u32 ((Int.tmod (IntKind.wrap .u32 o9.2.2.1) 100)*2)) 200) (cond (inb (IntKind.wrap .i64 (o9.2.2.2.1-1)) o9.2.1) (cond (inb (IntKind.wrap .i64 (o9.2.2.2.1-2)) o9.2.1) (cond (decide (0<(IntKind.wrap .i64 (o9.2.2.2.1-2)))) (cond (inb 0 o9.2.1) (cond (wm 0 y2.1 24) (some ((slice (List.set (List.set (List.set o9.2.2.2.2 (o9.1+(Int.toNat (IntKind.wrap .i64 (o9.2.2.2.1-1)))) (nth .u8 xY (Int.toNat (IntKind.wrap .u32 ((IntKind.wrap .u32 ((Int.tmod (IntKind.wrap .u32 o9.2.2.1) 100)*2))+1))))) (o9.1+(Int.toNat (IntKind.wrap .i64 (o9.2.2.2.1-2)))) (nth .u8 xY (Int.toNat (IntKind.wrap .u32 ((Int.tmod (IntKind.wrap .u32 o9.2.2.1) 100)*2))))) (o9.1+0) (zcw (IntKind.wrap .u32 (48+(IntKind.wrap .u32 (Int.tdiv (IntKind.wrap .u32 o9.2.2.1) 100)))))) 0 (0+((Int.toNat y2.1)-0))),())) none) none) (cond (wm 0 y2.1 24) (some ((slice (List.set (List.set o9.2.2.2.2 (o9.1+(Int.toNat (IntKind.wrap .i64 (o9.2.2.2.1-1)))) (nth .u8 xY (Int.toNat (IntKind.wrap .u32 ((IntKind.wrap .u32 ((Int.tmod (IntKind.wrap .u32 o9.2.2.1) 100)*2))+1))))) (o9.1+(Int.toNat (IntKind.wrap .i64 (o9.2.2.2.1-2)))) (nth .u8 xY (Int.toNat (IntKind.wrap .u32 ((Int.tmod (IntKind.wrap .u32 o9.2.2.1) 100)*2))))) 0 (0+((Int.toNat y2.1)-0))),())) none)) none) none) none) none) (cond (decide (0<o9.2.2.2.1)) (cond (inb 0 o9.2.1) (cond (wm 0 y2.1 24) (some ((slice (List.set o9.2.2.2.2 (o9.1+0) (zcw (IntKind.wrap .u32 (48+(IntKind.wrap .u32 o9.2.2.1))))) 0 (0+((Int.toNat y2.1)-0))),())) none) none) (cond (wm 0 y2.1 24) (some ((slice o9.2.2.2.2 0 (0+((Int.toNat y2.1)-0))),())) none))))) none)))
def wJ(N:Nat)(p0:(List UInt8)):Option (Int×Bool×Unit):=
 (cond (Nat.ble (List.length p0) zj9) (zme (Go.Lib.parseUintB 32 p0) (fun u1=>(Option.bind (ze N (IntKind.wrap .u32 u1)) fun y2=>(cond (y2.1 != p0) (some (0,false,())) (some ((IntKind.wrap .u32 u1),true,()))))) (some (0,false,())) (some (0,false,()))) none)
def zF(N:Nat)(p0:(List UInt8)):Option ((List UInt8)×Unit):=
 (cond (Nat.blt (0+(List.length p0)) zA) (some (([]++p0),())) none)
def zcB(N:Nat){R:Type}(x5:Int)(x6:Int)(x7:List UInt8)(rec_:(Int)->(Int)->(List UInt8)->Option R)(o0:(List UInt8)->Option R):Option R:=
 (cond (decide (x6<x5)) (cond (inb x6 (List.length x7)) (cond (decide (97<=(nth .u8 x7 (Int.toNat x6)))) (cond (decide ((nth .u8 x7 (Int.toNat x6))<=122)) (cond (inb x6 (List.length x7)) (rec_ x5 (IntKind.wrap .i64 (x6+1)) (List.set x7 (Int.toNat x6) ((nth .u8 x7 (Int.toNat x6)) &&& ~~~32))) none) (cond (inb x6 (List.length x7)) (rec_ x5 (IntKind.wrap .i64 (x6+1)) (List.set x7 (Int.toNat x6) (nth .u8 x7 (Int.toNat x6)))) none)) (cond (inb x6 (List.length x7)) (rec_ x5 (IntKind.wrap .i64 (x6+1)) (List.set x7 (Int.toNat x6) (nth .u8 x7 (Int.toNat x6)))) none)) none) (o0 x7))
def jz(N:Nat):Nat->(Int)->(Int)->(List UInt8)->Option ((List UInt8))
 |0,_,_,_=>none
 |m+1,x5,x6,x7=>zcB N x5 x6 x7 (jz N m) (fun v0=>some v0)
def zc7(N:Nat)(p0:(List UInt8)):Option ((List UInt8)×Unit):=
 (cond (Nat.blt (List.length p0) zA) (Option.bind (jz N N (((List.length p0):Nat):Int) 0 p0) fun o9=>(some (o9,()))) none)
def jF(N:Nat){R:Type}(x4:List (List UInt8))(x5:List UInt8)(x6:Int)(x7:Int)(rec_:(List (List UInt8))->(List UInt8)->(Int)->(Int)->Option R)(o0:(Int)->Option R)(o1:Unit->Option R):Option R:=
 (cond (decide (x7<x6)) (cond (inb x7 (List.length x4)) (cond (x5==(nth .str x4 (Int.toNat x7))) (o0 x7) (rec_ x4 x5 x6 (IntKind.wrap .i64 (x7+1)))) none) (o1 ()))
def zr(N:Nat):Nat->(List (List UInt8))->(List UInt8)->(Int)->(Int)->Option (((Int)) ⊕ (Unit))
 |0,_,_,_,_=>none
 |m+1,x4,x5,x6,x7=>jF N x4 x5 x6 x7 (zr N m) (fun v0=>some (Sum.inl v0)) (fun _=>some (Sum.inr ()))
def qE(N:Nat)(p0:(List (List UInt8)))(p1:(List UInt8)):Option (Int×Unit):=
 (Option.bind (zr N N p0 p1 (((List.length p0):Nat):Int) 0) fun o13=>(zw o13 (fun a14=>(some (a14,()))) (fun b15=>(some ((-1),())))))
def xo(N:Nat)(p0:UInt8):Option (Bool×Unit):=
 (Option.bind (xr N p0) fun y1=>(some (y1.1,())))
def zdB(N:Nat){R:Type}(x6:UInt8)(x7:Int)(x8:List UInt8)(rec_:(UInt8)->(Int)->(List UInt8)->Option R)(o0:(List UInt8)->Option R):Option R:=
 (cond (decide (x7<5)) (cond (decide (0<=x7)) (cond ((x6 &&& (zqu 1 x7)) != 0) (cond (Nat.blt ((List.length x8)+1) zA) (rec_ x6 (IntKind.wrap .i64 (x7+1)) (x8++([(x6 &&& (zqu 1 x7))]:List UInt8))) none) (rec_ x6 (IntKind.wrap .i64 (x7+1)) x8)) none) (o0 x8))
def j0(N:Nat):Nat->(UInt8)->(Int)->(List UInt8)->Option ((List UInt8))
 |0,_,_,_=>none
 |m+1,x6,x7,x8=>zdB N x6 x7 x8 (j0 N m) (fun v0=>some v0)
def zd8(N:Nat)(p0:UInt8):Option ((List UInt8)×Unit):=
 (Option.bind (j0 N N p0 0 []) fun o10=>(some (o10,())))
def zdD(N:Nat){R:Type}(x3:UInt8)(x4:Int)(x5:List (List UInt8))(rec_:(UInt8)->(Int)->(List (List UInt8))->Option R)(o0:(List UInt8)->(List (List UInt8))->Option R)(o1:(List (List UInt8))->Option R):Option R:=
 (cond (decide (x4<5)) (cond (inb x4 (List.length x5)) (cond (decide (0<=x4)) (cond (x3==(zqu 1 x4)) (o0 (nth .str x5 (Int.toNat x4)) x5) (rec_ x3 (IntKind.wrap .i64 (x4+1)) x5)) none) none) (o1 x5))
def j1(N:Nat):Nat->(UInt8)->(Int)->(List (List UInt8))->Option (((List UInt8)×(List (List UInt8))) ⊕ ((List (List UInt8))))
 |0,_,_,_=>none
 |m+1,x3,x4,x5=>zdD N x3 x4 x5 (j1 N m) (fun v0 v1=>some (Sum.inl (v0,v1))) (fun v0=>some (Sum.inr v0))
def zd9(N:Nat)(p0:UInt8):Option ((List UInt8)×Unit):=
 (Option.bind (j1 N N p0 0 ([[92,65,110,115,119,101,114,101,100],[92,70,108,97,103,103,101,100],[92,68,101,108,101,116,101,100],[92,83,101,101,110],[92,68,114,97,102,116]]:List (List UInt8))) fun o11=>(zw o11 (fun a12=>(some (a12.1,()))) (fun b13=>(some ([],())))))
def za1(N:Nat)(p0:(List UInt8)):Option (Int×Bool×Unit):=
 (Option.bind (zc7 N p0) fun y1=>(Option.bind (qE N ([[70,76,65,71,83],[85,73,68],[82,70,67,56,50,50,46,83,73,90,69],[66,79,68,89,46,80,69,69,75,91,93],[66,79,68,89,91,93]]:List (List UInt8)) y1.1) fun y2=>(cond (decide (y2.1<0)) (some (0,false,())) (cond (decide (0<=y2.1)) (some ((IntKind.wrap .i64 (1*(2 ^ (min (Int.toNat y2.1) (IntKind.bits .i64))))),true,())) none))))
def kk(N:Nat)(p0:UInt8):Option (Bool×Unit):=
 (cond (p0==40) (cond (p0==40) (some (false,())) (cond (decide (32<p0)) (some ((decide (p0<127)),())) (some (false,())))) (cond (p0==41) (cond (p0==41) (some (false,())) (cond (decide (32<p0)) (some ((decide (p0<127)),())) (some (false,())))) (cond (p0==123) (cond (p0==123) (some (false,())) (cond (decide (32<p0)) (some ((decide (p0<127)),())) (some (false,())))) (cond (p0==37) (cond (p0==37) (some (false,())) (cond (decide (32<p0)) (some ((decide (p0<127)),())) (some (false,())))) (cond (p0==42) (cond (p0==42) (some (false,())) (cond (decide (32<p0)) (some ((decide (p0<127)),())) (some (false,())))) (cond (p0==34) (cond (p0==34) (some (false,())) (cond (decide (32<p0)) (some ((decide (p0<127)),())) (some (false,())))) (cond (p0==92) (cond (p0==92) (some (false,())) (cond (decide (32<p0)) (some ((decide (p0<127)),())) (some (false,())))) (cond (p0==93) (some (false,())) (cond (decide (32<p0)) (some ((decide (p0<127)),())) (some (false,())))))))))))
def zbj(N:Nat)(p0:UInt8):Option (Bool×Unit):=
 (Option.bind (kk N p0) fun y1=>(cond y1.1 (cond (p0 != 43) (some (true,())) (some ((p0==93),()))) (some ((p0==93),()))))
def zab(N:Nat)(p0:UInt8):Option (Bool×Unit):=
 (cond (decide (0<p0)) (cond (decide (p0<128)) (cond (p0 != 10) (some ((p0 != 13),())) (some (false,()))) (some (false,()))) (some (false,())))
def zaU(N:Nat){R:Type}(x2:Int)(x3:List UInt8)(rec_:(Int)->(List UInt8)->Option R)(o0:(Int)->(List UInt8)->Option R):Option R:=
 (cond (decide ((10:Int)<=x2)) (cond (wm (Int.tmod x2 (10:Int)) (IntKind.wrap .u32 ((Int.tmod x2 (10:Int))+(1:Int))) 10) (cond (decide (List.length (slice ([48,49,50,51,52,53,54,55,56,57]:List UInt8) (Int.toNat (Int.tmod x2 (10:Int))) (Int.toNat (IntKind.wrap .u32 ((Int.tmod x2 (10:Int))+(1:Int)))))+List.length x3<4611686018427387904)) (rec_ (IntKind.wrap .u32 (Int.tdiv x2 (10:Int))) ((slice ([48,49,50,51,52,53,54,55,56,57]:List UInt8) (Int.toNat (Int.tmod x2 (10:Int))) (Int.toNat (IntKind.wrap .u32 ((Int.tmod x2 (10:Int))+(1:Int)))))++x3)) none) none) (o0 x2 x3))
def qC(N:Nat):Nat->(Int)->(List UInt8)->Option ((Int)×(List UInt8))
 |0,_,_=>none
 |m+1,x2,x3=>zaU N x2 x3 (qC N m) (fun v0 v1=>some (v0,v1))
def jC(N:Nat)(p0:Int):Option ((List UInt8)×Unit):=
 (Option.bind (qC N N p0 ([]:List UInt8)) fun o5=>(cond (wm o5.1 (IntKind.wrap .u32 (o5.1+1)) 10) (cond (decide (List.length (slice ([48,49,50,51,52,53,54,55,56,57]:List UInt8) (Int.toNat o5.1) (Int.toNat (IntKind.wrap .u32 (o5.1+1))))+List.length o5.2<4611686018427387904)) (some (((slice ([48,49,50,51,52,53,54,55,56,57]:List UInt8) (Int.toNat o5.1) (Int.toNat (IntKind.wrap .u32 (o5.1+1))))++o5.2),())) none) none))
def zbi(N:Nat){R:Type}(x2:List UInt8)(x3:Int)(x4:Int)(rec_:(List UInt8)->(Int)->(Int)->Option R)(o0:Unit->Option R)(o1:(List UInt8)->(Int)->Option R):Option R:=
 (cond (decide (x4<(((List.length x2):Nat):Int))) (cond (inb x4 (List.length x2)) (cond (decide ((nth .u8 x2 (Int.toNat x4))<48)) (o0 ()) (cond (inb x4 (List.length x2)) (cond (decide (57<(nth .u8 x2 (Int.toNat x4)))) (o0 ()) (cond (inb x4 (List.length x2)) (rec_ x2 (IntKind.wrap .u64 ((IntKind.wrap .u64 (10*x3))+(IntKind.wrap .u64 ((UInt8.toNat ((nth .u8 x2 (Int.toNat x4))-48):Nat):Int)))) (IntKind.wrap .i64 (x4+1))) none)) none)) none) (o1 x2 x3))
def qX(N:Nat):Nat->(List UInt8)->(Int)->(Int)->Option ((Unit) ⊕ ((List UInt8)×(Int)))
 |0,_,_,_=>none
 |m+1,x2,x3,x4=>zbi N x2 x3 x4 (qX N m) (fun _=>some (Sum.inl ())) (fun v0 v1=>some (Sum.inr (v0,v1)))
def za3(N:Nat)(p0:(List UInt8)):Option (Int×Bool×Unit):=
 (cond (decide (10<(((List.length p0):Nat):Int))) (some (0,false,())) (Option.bind (qX N N p0 0 0) fun o10=>(zw o10 (fun a11=>(some (0,false,()))) (fun b12=>(cond (decide (4294967295<b12.2)) (some (0,false,())) (Option.bind (jC N (IntKind.wrap .u32 b12.2)) fun y13=>(cond (y13.1 != b12.1) (some (0,false,())) (some ((IntKind.wrap .u32 b12.2),true,())))))))))
def wk(N:Nat)(p0:Int):Option ((List UInt8)×Unit):=
 (cond (decide (p0<1)) (some ([],())) (cond (decide (8<p0)) (some ([],())) (cond (inb (IntKind.wrap .i64 (p0-1)) 8) (some ((nth .str ([[78,79,79,80],[76,79,71,79,85,84],[67,76,79,83,69],[69,88,80,85,78,71,69],[83,69,76,69,67,84],[65,80,80,69,78,68],[70,69,84,67,72],[83,84,79,82,69]]:List (List UInt8)) (Int.toNat (IntKind.wrap .i64 (p0-1)))),())) none)))
def zad(N:Nat)(p0:Int):Option ((List UInt8)×Unit):=
 (cond (p0==1) (some ([92,65,110,115,119,101,114,101,100],())) (cond (p0==2) (some ([92,70,108,97,103,103,101,100],())) (cond (p0==4) (some ([92,68,101,108,101,116,101,100],())) (cond (p0==8) (some ([92,83,101,101,110],())) (cond (p0==16) (some ([92,68,114,97,102,116],())) (some ([],())))))))
def wv(N:Nat)(p0:Int):Option ((List UInt8)×Unit):=
 (cond (p0==1) (some ([70,76,65,71,83],())) (cond (p0==2) (some ([85,73,68],())) (cond (p0==4) (some ([82,70,67,56,50,50,46,83,73,90,69],())) (cond (p0==8) (some ([66,79,68,89,46,80,69,69,75,91,93],())) (cond (p0==16) (some ([66,79,68,89,91,93],())) (some ([],())))))))
def zbU(N:Nat){R:Type}(x19:Int)(x20:List UInt8)(x21:Int)(x22:List UInt8)(x23:List (Int×Int))(x24:Int)(x25:Int)(x26:Bool)(x27:UInt8)(x28:List UInt8)(x29:List UInt8)(x30:Int)(x31:List UInt8)(x32:List (Int×Int))(x33:Int)(x34:Int)(x35:Bool)(x36:UInt8)(x37:List UInt8)(rec_:(Int)->(List UInt8)->(Int)->(List UInt8)->(List (Int×Int))->(Int)->(Int)->(Bool)->(UInt8)->(List UInt8)->(List UInt8)->(Int)->(List UInt8)->(List (Int×Int))->(Int)->(Int)->(Bool)->(UInt8)->(List UInt8)->Option R)(o0:(List UInt8)->(Int)->(List UInt8)->(List (Int×Int))->(Int)->(Int)->(Bool)->(UInt8)->(List UInt8)->(List UInt8)->(Int)->(List UInt8)->(List (Int×Int))->(Int)->(Int)->(Bool)->(UInt8)->(List UInt8)->Option R)(o1:(List UInt8)->(Int)->(List UInt8)->(List (Int×Int))->(Int)->(Int)->(Bool)->(UInt8)->(List UInt8)->(List UInt8)->(Int)->(List UInt8)->(List (Int×Int))->(Int)->(Int)->(Bool)->(UInt8)->(List UInt8)->Option R):Option R:=
 (cond (decide (x19<(((List.length x23):Nat):Int))) (cond (inb x19 (List.length x23)) (cond (inb x19 (List.length x32)) (cond (!(((nth (.pair (.int .u32) (.int .u32)) x23 (Int.toNat x19)).1==(nth (.pair (.int .u32) (.int .u32)) x32 (Int.toNat x19)).1)&&(((nth (.pair (.int .u32) (.int .u32)) x23 (Int.toNat x19)).2==(nth (.pair (.int .u32) (.int .u32)) x32 (Int.toNat x19)).2)&&true))) (o0 x20 x21 x22 x23 x24 x25 x26 x27 x28 x29 x30 x31 x32 x33 x34 x35 x36 x37) (rec_ (IntKind.wrap .i64 (x19+1)) x20 x21 x22 x23 x24 x25 x26 x27 x28 x29 x30 x31 x32 x33 x34 x35 x36 x37)) none) none) (o1 x20 x21 x22 x23 x24 x25 x26 x27 x28 x29 x30 x31 x32 x33 x34 x35 x36 x37))
def jl(N:Nat):Nat->(Int)->(List UInt8)->(Int)->(List UInt8)->(List (Int×Int))->(Int)->(Int)->(Bool)->(UInt8)->(List UInt8)->(List UInt8)->(Int)->(List UInt8)->(List (Int×Int))->(Int)->(Int)->(Bool)->(UInt8)->(List UInt8)->Option (((List UInt8)×(Int)×(List UInt8)×(List (Int×Int))×(Int)×(Int)×(Bool)×(UInt8)×(List UInt8)×(List UInt8)×(Int)×(List UInt8)×(List (Int×Int))×(Int)×(Int)×(Bool)×(UInt8)×(List UInt8)) ⊕ ((List UInt8)×(Int)×(List UInt8)×(List (Int×Int))×(Int)×(Int)×(Bool)×(UInt8)×(List UInt8)×(List UInt8)×(Int)×(List UInt8)×(List (Int×Int))×(Int)×(Int)×(Bool)×(UInt8)×(List UInt8)))
 |0,_,_,_,_,_,_,_,_,_,_,_,_,_,_,_,_,_,_,_=>none
 |m+1,x19,x20,x21,x22,x23,x24,x25,x26,x27,x28,x29,x30,x31,x32,x33,x34,x35,x36,x37=>zbU N x19 x20 x21 x22 x23 x24 x25 x26 x27 x28 x29 x30 x31 x32 x33 x34 x35 x36 x37 (jl N m) (fun v0 v1 v2 v3 v4 v5 v6 v7 v8 v9 v10 v11 v12 v13 v14 v15 v16 v17=>some (Sum.inl (v0,v1,v2,v3,v4,v5,v6,v7,v8,v9,v10,v11,v12,v13,v14,v15,v16,v17))) (fun v0 v1 v2 v3 v4 v5 v6 v7 v8 v9 v10 v11 v12 v13 v14 v15 v16 v17=>some (Sum.inr (v0,v1,v2,v3,v4,v5,v6,v7,v8,v9,v10,v11,v12,v13,v14,v15,v16,v17)))
def jv(N:Nat)(p0:(El uS2))(p1:(El uS2)):Option (Bool×Unit):=
 (cond ((((List.length p0.2.2.2.1):Nat):Int) != (((List.length p1.2.2.2.1):Nat):Int)) (some (false,())) (cond (p0.2.2.2.2.2.2.2.2 != p1.2.2.2.2.2.2.2.2) (some (false,())) (Option.bind (jl N N 0 p0.1 p0.2.1 p0.2.2.1 p0.2.2.2.1 p0.2.2.2.2.1 p0.2.2.2.2.2.1 p0.2.2.2.2.2.2.1 p0.2.2.2.2.2.2.2.1 p0.2.2.2.2.2.2.2.2 p1.1 p1.2.1 p1.2.2.1 p1.2.2.2.1 p1.2.2.2.2.1 p1.2.2.2.2.2.1 p1.2.2.2.2.2.2.1 p1.2.2.2.2.2.2.2.1 p1.2.2.2.2.2.2.2.2) fun o43=>(zw o43 (fun a44=>(some (false,()))) (fun b45=>(cond (b45.1==b45.2.2.2.2.2.2.2.2.2.1) (cond (b45.2.1==b45.2.2.2.2.2.2.2.2.2.2.1) (cond (b45.2.2.1==b45.2.2.2.2.2.2.2.2.2.2.2.1) (cond (b45.2.2.2.2.1==b45.2.2.2.2.2.2.2.2.2.2.2.2.2.1) (cond (b45.2.2.2.2.2.1==b45.2.2.2.2.2.2.2.2.2.2.2.2.2.2.1) (cond (b45.2.2.2.2.2.2.1==b45.2.2.2.2.2.2.2.2.2.2.2.2.2.2.2.1) (some ((b45.2.2.2.2.2.2.2.1==b45.2.2.2.2.2.2.2.2.2.2.2.2.2.2.2.2.1),())) (some (false,()))) (some (false,()))) (some (false,()))) (some (false,()))) (some (false,()))) (some (false,()))))))))
def zL(N:Nat)(p0:Int):Option ((List UInt8)×Unit):=
 (cond (decide (1<=p0)) (cond (decide (p0<=8)) (cond (inb (IntKind.wrap .i64 (p0-1)) 8) (some ((nth .str ([[78,79,79,80],[76,79,71,79,85,84],[67,76,79,83,69],[69,88,80,85,78,71,69],[83,69,76,69,67,84],[65,80,80,69,78,68],[70,69,84,67,72],[83,84,79,82,69]]:List (List UInt8)) (Int.toNat (IntKind.wrap .i64 (p0-1)))),())) none) (some ([],()))) (some ([],())))
def qM(N:Nat){R:Type}(x4:List (Int×Int))(x5:List (Int×Int))(x6:Int)(x7:Int)(rec_:(List (Int×Int))->(List (Int×Int))->(Int)->(Int)->Option R)(o0:Unit->Option R)(o1:Unit->Option R):Option R:=
 (cond (decide (x7<x6)) (cond (inb x7 (List.length x4)) (cond (inb x7 (List.length x5)) (cond (!(((nth (.pair (.int .u32) (.int .u32)) x4 (Int.toNat x7)).1==(nth (.pair (.int .u32) (.int .u32)) x5 (Int.toNat x7)).1)&&(((nth (.pair (.int .u32) (.int .u32)) x4 (Int.toNat x7)).2==(nth (.pair (.int .u32) (.int .u32)) x5 (Int.toNat x7)).2)&&true))) (o0 ()) (rec_ x4 x5 x6 (IntKind.wrap .i64 (x7+1)))) none) none) (o1 ()))
def zj(N:Nat):Nat->(List (Int×Int))->(List (Int×Int))->(Int)->(Int)->Option ((Unit) ⊕ (Unit))
 |0,_,_,_,_=>none
 |m+1,x4,x5,x6,x7=>qM N x4 x5 x6 x7 (zj N m) (fun _=>some (Sum.inl ())) (fun _=>some (Sum.inr ()))
def zm(N:Nat)(p0:(List (Int×Int)))(p1:(List (Int×Int))):Option (Bool×Unit):=
 (cond ((((List.length p0):Nat):Int) != (((List.length p1):Nat):Int)) (some (false,())) (Option.bind (zj N N p0 p1 (((List.length p0):Nat):Int) 0) fun o13=>(zw o13 (fun a14=>(some (false,()))) (fun b15=>(some (true,()))))))
def zW(N:Nat)(p0:(El uS2))(p1:(El uS2)):Option (Bool×Unit):=
 (cond (p0.1==p1.1) (cond (p0.2.1==p1.2.1) (cond (p0.2.2.1==p1.2.2.1) (Option.bind (zm N p0.2.2.2.1 p1.2.2.2.1) fun y1=>(cond y1.1 (cond (p0.2.2.2.2.1==p1.2.2.2.2.1) (cond (p0.2.2.2.2.2.1==p1.2.2.2.2.2.1) (cond (p0.2.2.2.2.2.2.1==p1.2.2.2.2.2.2.1) (cond (p0.2.2.2.2.2.2.2.1==p1.2.2.2.2.2.2.2.1) (some ((p0.2.2.2.2.2.2.2.2==p1.2.2.2.2.2.2.2.2),())) (some (false,()))) (some (false,()))) (some (false,()))) (some (false,()))) (some (false,())))) (some (false,()))) (some (false,()))) (some (false,())))
def wg(N:Nat){R:Type}(x7:List UInt8)(x8:Int)(x9:Int)(rec_:(List UInt8)->(Int)->(Int)->Option R)(o0:Unit->Option R)(o1:Unit->Option R):Option R:=
 (cond (decide (x9<x8)) (cond (inb x9 (List.length x7)) (Option.bind (zaA N (nth .u8 x7 (Int.toNat x9))) fun y12=>(cond (!y12.1) (o0 ()) (rec_ x7 x8 (IntKind.wrap .i64 (x9+1))))) none) (o1 ()))
def zK(N:Nat):Nat->(List UInt8)->(Int)->(Int)->Option ((Unit) ⊕ (Unit))
 |0,_,_,_=>none
 |m+1,x7,x8,x9=>wg N x7 x8 x9 (zK N m) (fun _=>some (Sum.inl ())) (fun _=>some (Sum.inr ()))
def jA(N:Nat)(p0:(El uS2)):Option (Bool×Unit):=
 (cond (p0.1 != []) (Option.bind (zK N N p0.1 (((List.length p0.1):Nat):Int) 0) fun o17=>(zw o17 (fun a18=>(some (false,()))) (fun b19=>(Option.bind (zL N p0.2.1) fun y20=>(cond (y20.1==[]) (some (false,())) (cond (decide (31<p0.2.2.2.2.2.2.2.1)) (some (false,())) (cond (decide (65536<(if(((List.length p0.2.2.2.2.2.2.2.2):Nat):Int) > (((List.length p0.2.2.1):Nat):Int) then(((List.length p0.2.2.2.2.2.2.2.2):Nat):Int) else(((List.length p0.2.2.1):Nat):Int)))) (some (false,())) (cond (p0.2.1==5) (Option.bind (zW N ([],(0,([],p0.2.2.2))) ([],(0,([],([],(0,(0,(false,(0,[]))))))))) fun y21=>(some (y21.1,()))) (cond (p0.2.1==6) (Option.bind (zW N ([],(0,([],(p0.2.2.2.1,(p0.2.2.2.2.1,(p0.2.2.2.2.2.1,(p0.2.2.2.2.2.2.1,(0,[])))))))) ([],(0,([],([],(0,(0,(false,(0,[]))))))))) fun y22=>(some (y22.1,()))) (cond (p0.2.1==7) (cond ((((List.length p0.2.2.2.1):Nat):Int)==0) (some (false,())) (cond (decide (p0.2.2.2.2.1<1)) (some (false,())) (cond (decide (31<p0.2.2.2.2.1)) (some (false,())) (Option.bind (zW N ([],(0,(p0.2.2.1,([],(0,p0.2.2.2.2.2))))) ([],(0,([],([],(0,(0,(false,(0,[]))))))))) fun y23=>(some (y23.1,())))))) (cond (p0.2.1==8) (cond ((((List.length p0.2.2.2.1):Nat):Int)==0) (some (false,())) (cond (decide (p0.2.2.2.2.2.1<0)) (some (false,())) (cond (decide (2<p0.2.2.2.2.2.1)) (some (false,())) (Option.bind (zW N ([],(0,(p0.2.2.1,([],(p0.2.2.2.2.1,(0,(false,(0,p0.2.2.2.2.2.2.2.2)))))))) ([],(0,([],([],(0,(0,(false,(0,[]))))))))) fun y24=>(some (y24.1,())))))) (Option.bind (zW N ([],(0,p0.2.2)) ([],(0,([],([],(0,(0,(false,(0,[]))))))))) fun y25=>(some (y25.1,())))))))))))))) (some (false,())))
def zbQ(N:Nat){R:Type}(x3:List UInt8)(x4:Int)(rec_:(List UInt8)->(Int)->Option R)(o0:Unit->Option R)(o1:(List UInt8)->Option R):Option R:=
 (cond (decide (x4<(((List.length x3):Nat):Int))) (cond (inb x4 (List.length x3)) (Option.bind (zbj N (nth .u8 x3 (Int.toNat x4))) fun y7=>(cond (!y7.1) (o0 ()) (rec_ x3 (IntKind.wrap .i64 (x4+1))))) none) (o1 x3))
def jj(N:Nat):Nat->(List UInt8)->(Int)->Option ((Unit) ⊕ ((List UInt8)))
 |0,_,_=>none
 |m+1,x3,x4=>zbQ N x3 x4 (jj N m) (fun _=>some (Sum.inl ())) (fun v0=>some (Sum.inr v0))
def zbO(N:Nat)(p0:(List UInt8)):Option (Bool×Unit):=
 (Option.bind (jj N N p0 0) fun o12=>(zw o12 (fun a13=>(some (false,()))) (fun b14=>(some ((b14 != []),())))))
def zbV(N:Nat)(p0:(El uS2)):Option (Bool×Unit):=
 (Option.bind (zbO N p0.1) fun y1=>(cond (!y1.1) (some (false,())) (cond (decide (p0.2.1<1)) (some (false,())) (cond (decide (8<p0.2.1)) (some (false,())) (cond (p0.2.1==5) (cond (decide ((((List.length p0.2.2.1):Nat):Int)<=65536)) (Option.bind (jv N p0 (p0.1,(p0.2.1,(p0.2.2.1,([],(0,(0,(false,(0,[]))))))))) fun y2=>(some (y2.1,()))) (some (false,()))) (cond (p0.2.1==6) (cond (decide ((((List.length p0.2.2.1):Nat):Int)<=65536)) (cond (decide ((((List.length p0.2.2.2.2.2.2.2.2):Nat):Int)<=65536)) (cond (decide (p0.2.2.2.2.2.2.2.1<=31)) (Option.bind (jv N p0 (p0.1,(p0.2.1,(p0.2.2.1,([],(0,(0,(false,p0.2.2.2.2.2.2.2)))))))) fun y3=>(some (y3.1,()))) (some (false,()))) (some (false,()))) (some (false,()))) (cond (p0.2.1==7) (cond (decide (0<(((List.length p0.2.2.2.1):Nat):Int))) (cond (decide (1<=p0.2.2.2.2.1)) (cond (decide (p0.2.2.2.2.1<=31)) (Option.bind (jv N p0 (p0.1,(p0.2.1,([],(p0.2.2.2.1,(p0.2.2.2.2.1,(0,(false,(0,[]))))))))) fun y4=>(some (y4.1,()))) (some (false,()))) (some (false,()))) (some (false,()))) (cond (p0.2.1==8) (cond (decide (0<(((List.length p0.2.2.2.1):Nat):Int))) (cond (decide (0<=p0.2.2.2.2.2.1)) (cond (decide (p0.2.2.2.2.2.1<=2)) (cond (decide (p0.2.2.2.2.2.2.2.1<=31)) (Option.bind (jv N p0 (p0.1,(p0.2.1,([],(p0.2.2.2.1,(0,(p0.2.2.2.2.2.1,(p0.2.2.2.2.2.2.1,(p0.2.2.2.2.2.2.2.1,[]))))))))) fun y5=>(some (y5.1,()))) (some (false,()))) (some (false,()))) (some (false,()))) (some (false,()))) (Option.bind (jv N p0 (p0.1,(p0.2.1,([],([],(0,(0,(false,(0,[]))))))))) fun y6=>(some (y6.1,())))))))))))
def zh7(N:Nat)(p0:(El uS2)):Option (Bool×Unit):=
 (cond (decide ((((List.length p0.1):Nat):Int)<=100)) (cond (decide ((((List.length p0.2.2.1):Nat):Int)<=300)) (cond (decide ((((List.length p0.2.2.2.1):Nat):Int)<=60)) (some ((decide ((((List.length p0.2.2.2.2.2.2.2.2):Nat):Int)<=500)),())) (some (false,()))) (some (false,()))) (some (false,())))
def xn(N:Nat)(p0:(List UInt8))(p1:(List UInt8)):Option (Bool×Unit):=
 (some ((p0==p1),()))
def wy(N:Nat){R:Type}(x4:List UInt8)(x5:List UInt8)(x6:Int)(x7:Int)(rec_:(List UInt8)->(List UInt8)->(Int)->(Int)->Option R)(o0:Unit->Option R)(o1:Unit->Option R):Option R:=
 (cond (decide (x7<x6)) (cond (inb x7 (List.length x4)) (cond (inb x7 (List.length x5)) (cond ((nth .u8 x4 (Int.toNat x7)) != (nth .u8 x5 (Int.toNat x7))) (o0 ()) (rec_ x4 x5 x6 (IntKind.wrap .i64 (x7+(1:Int))))) none) none) (o1 ()))
def zH(N:Nat):Nat->(List UInt8)->(List UInt8)->(Int)->(Int)->Option ((Unit) ⊕ (Unit))
 |0,_,_,_,_=>none
 |m+1,x4,x5,x6,x7=>wy N x4 x5 x6 x7 (zH N m) (fun _=>some (Sum.inl ())) (fun _=>some (Sum.inr ()))
def kN(N:Nat)(p0:(List UInt8))(p1:(List UInt8)):Option (Bool×Unit):=
 (cond ((((List.length p0):Nat):Int) != (((List.length p1):Nat):Int)) (some (false,())) (Option.bind (zH N N p0 p1 (((List.length p0):Nat):Int) (0:Int)) fun o13=>(zw o13 (fun a14=>(some (false,()))) (fun b15=>(some (true,()))))))
def zcD(N:Nat){R:Type}(x13:List UInt8)(x14:Int)(x15:Int)(x16:List (List UInt8))(rec_:(List UInt8)->(Int)->(Int)->(List (List UInt8))->Option R)(o0:(List (List UInt8))->Option R):Option R:=
 (cond (decide (x15<x14)) (cond (inb x15 (List.length x13)) (Option.bind (zd9 N (nth .u8 x13 (Int.toNat x15))) fun y19=>(cond (Nat.blt ((List.length x16)+1) zA) (rec_ x13 x14 (IntKind.wrap .i64 (x15+(1:Int))) (x16++([y19.1]:List (List UInt8)))) none)) none) (o0 x16))
def jB(N:Nat):Nat->(List UInt8)->(Int)->(Int)->(List (List UInt8))->Option ((List (List UInt8)))
 |0,_,_,_,_=>none
 |m+1,x13,x14,x15,x16=>zcD N x13 x14 x15 x16 (jB N m) (fun v0=>some v0)
def xu(N:Nat)(p0:UInt8):Option ((List UInt8)×Unit):=
 (Option.bind (zd8 N p0) fun y1=>(Option.bind (jB N N y1.1 (((List.length y1.1):Nat):Int) (0:Int) ([]:List (List UInt8))) fun o20=>(cond ((Nat.ble (List.length (Go.Lib.join o20 ([32]:List UInt8))) jJ)&&(Nat.ble (List.length o20) 140737488355328)) (cond (decide (List.length ([40]:List UInt8)+List.length (Go.Lib.join o20 ([32]:List UInt8))<4611686018427387904)) (cond (decide (List.length (([40]:List UInt8)++(Go.Lib.join o20 ([32]:List UInt8)))+List.length ([41]:List UInt8)<4611686018427387904)) (some (((([40]:List UInt8)++(Go.Lib.join o20 ([32]:List UInt8)))++([41]:List UInt8)),())) none) none) none)))
def ql(N:Nat)(p0:(List UInt8)):Option ((List UInt8)×Unit):=
 (Option.bind (ze N (IntKind.wrap .u32 (((List.length p0):Nat):Int))) fun y1=>(cond (decide (List.length ([123]:List UInt8)+List.length y1.1<4611686018427387904)) (cond (decide (List.length (([123]:List UInt8)++y1.1)+List.length ([125]:List UInt8)<4611686018427387904)) (cond (decide (List.length ((([123]:List UInt8)++y1.1)++([125]:List UInt8))+List.length ([13,10]:List UInt8)<4611686018427387904)) (cond (((decide ((IntKind.wrap .i64 ((((List.length (((([123]:List UInt8)++y1.1)++([125]:List UInt8))++([13,10]:List UInt8))):Nat):Int)+(((List.length p0):Nat):Int)))<=(IntKind.wrap .i64 ((((List.length (((([123]:List UInt8)++y1.1)++([125]:List UInt8))++([13,10]:List UInt8))):Nat):Int)+(((List.length p0):Nat):Int)))))||((decide ((IntKind.wrap .i64 ((((List.length (((([123]:List UInt8)++y1.1)++([125]:List UInt8))++([13,10]:List UInt8))):Nat):Int)+(((List.length p0):Nat):Int)))<=(0:Int)))||(decide ((64:Int)<(IntKind.wrap .i64 ((((List.length (((([123]:List UInt8)++y1.1)++([125]:List UInt8))++([13,10]:List UInt8))):Nat):Int)+(((List.length p0):Nat):Int)))))))&&(((decide ((0:Int)<=(IntKind.wrap .i64 ((((List.length (((([123]:List UInt8)++y1.1)++([125]:List UInt8))++([13,10]:List UInt8))):Nat):Int)+(((List.length p0):Nat):Int)))))&&(decide ((IntKind.wrap .i64 ((((List.length (((([123]:List UInt8)++y1.1)++([125]:List UInt8))++([13,10]:List UInt8))):Nat):Int)+(((List.length p0):Nat):Int)))<=(IntKind.wrap .i64 ((((List.length (((([123]:List UInt8)++y1.1)++([125]:List UInt8))++([13,10]:List UInt8))):Nat):Int)+(((List.length p0):Nat):Int))))))&&(decide ((IntKind.wrap .i64 ((((List.length (((([123]:List UInt8)++y1.1)++([125]:List UInt8))++([13,10]:List UInt8))):Nat):Int)+(((List.length p0):Nat):Int)))<(549755813888:Int))))) (cond ((wm ((min (List.length (((([123]:List UInt8)++y1.1)++([125]:List UInt8))++([13,10]:List UInt8))) (List.length (List.replicate (Int.toNat (IntKind.wrap .i64 ((((List.length (((([123]:List UInt8)++y1.1)++([125]:List UInt8))++([13,10]:List UInt8))):Nat):Int)+(((List.length p0):Nat):Int)))) (0:UInt8))):Nat):Int) (((List.length (jZ (List.replicate (Int.toNat (IntKind.wrap .i64 ((((List.length (((([123]:List UInt8)++y1.1)++([125]:List UInt8))++([13,10]:List UInt8))):Nat):Int)+(((List.length p0):Nat):Int)))) (0:UInt8)) 0 (List.take (List.length (List.replicate (Int.toNat (IntKind.wrap .i64 ((((List.length (((([123]:List UInt8)++y1.1)++([125]:List UInt8))++([13,10]:List UInt8))):Nat):Int)+(((List.length p0):Nat):Int)))) (0:UInt8))) (((([123]:List UInt8)++y1.1)++([125]:List UInt8))++([13,10]:List UInt8))))):Nat):Int) (List.length (jZ (List.replicate (Int.toNat (IntKind.wrap .i64 ((((List.length (((([123]:List UInt8)++y1.1)++([125]:List UInt8))++([13,10]:List UInt8))):Nat):Int)+(((List.length p0):Nat):Int)))) (0:UInt8)) 0 (List.take (List.length (List.replicate (Int.toNat (IntKind.wrap .i64 ((((List.length (((([123]:List UInt8)++y1.1)++([125]:List UInt8))++([13,10]:List UInt8))):Nat):Int)+(((List.length p0):Nat):Int)))) (0:UInt8))) (((([123]:List UInt8)++y1.1)++([125]:List UInt8))++([13,10]:List UInt8))))))&&true) (some ((jZ (jZ (List.replicate (Int.toNat (IntKind.wrap .i64 ((((List.length (((([123]:List UInt8)++y1.1)++([125]:List UInt8))++([13,10]:List UInt8))):Nat):Int)+(((List.length p0):Nat):Int)))) (0:UInt8)) 0 (List.take (List.length (List.replicate (Int.toNat (IntKind.wrap .i64 ((((List.length (((([123]:List UInt8)++y1.1)++([125]:List UInt8))++([13,10]:List UInt8))):Nat):Int)+(((List.length p0):Nat):Int)))) (0:UInt8))) (((([123]:List UInt8)++y1.1)++([125]:List UInt8))++([13,10]:List UInt8)))) (Int.toNat ((min (List.length (((([123]:List UInt8)++y1.1)++([125]:List UInt8))++([13,10]:List UInt8))) (List.length (List.replicate (Int.toNat (IntKind.wrap .i64 ((((List.length (((([123]:List UInt8)++y1.1)++([125]:List UInt8))++([13,10]:List UInt8))):Nat):Int)+(((List.length p0):Nat):Int)))) (0:UInt8))):Nat):Int)) (List.take ((Int.toNat (((List.length (jZ (List.replicate (Int.toNat (IntKind.wrap .i64 ((((List.length (((([123]:List UInt8)++y1.1)++([125]:List UInt8))++([13,10]:List UInt8))):Nat):Int)+(((List.length p0):Nat):Int)))) (0:UInt8)) 0 (List.take (List.length (List.replicate (Int.toNat (IntKind.wrap .i64 ((((List.length (((([123]:List UInt8)++y1.1)++([125]:List UInt8))++([13,10]:List UInt8))):Nat):Int)+(((List.length p0):Nat):Int)))) (0:UInt8))) (((([123]:List UInt8)++y1.1)++([125]:List UInt8))++([13,10]:List UInt8))))):Nat):Int))-(Int.toNat ((min (List.length (((([123]:List UInt8)++y1.1)++([125]:List UInt8))++([13,10]:List UInt8))) (List.length (List.replicate (Int.toNat (IntKind.wrap .i64 ((((List.length (((([123]:List UInt8)++y1.1)++([125]:List UInt8))++([13,10]:List UInt8))):Nat):Int)+(((List.length p0):Nat):Int)))) (0:UInt8))):Nat):Int))) p0)),())) none) none) none) none) none))
def zbS(N:Nat){R:Type}(x6:Int)(x7:List UInt8)(x8:Int)(rec_:(Int)->(List UInt8)->(Int)->Option R)(o0:(List UInt8)->Option R):Option R:=
 (cond (decide (x8<=(16:Int))) (cond ((xC .and .i64 x6 x8)==(0:Int)) (rec_ x6 x7 (IntKind.wrap .i64 ((2:Int)*x8))) (cond (x7 != ([]:List UInt8)) (cond (decide (List.length x7+List.length ([32]:List UInt8)<4611686018427387904)) (Option.bind (zad N x8) fun y12=>(cond (decide (List.length (x7++([32]:List UInt8))+List.length y12.1<4611686018427387904)) (rec_ x6 ((x7++([32]:List UInt8))++y12.1) (IntKind.wrap .i64 ((2:Int)*x8))) none)) none) (Option.bind (zad N x8) fun y13=>(cond (decide (List.length x7+List.length y13.1<4611686018427387904)) (rec_ x6 (x7++y13.1) (IntKind.wrap .i64 ((2:Int)*x8))) none)))) (o0 x7))
def jk(N:Nat):Nat->(Int)->(List UInt8)->(Int)->Option ((List UInt8))
 |0,_,_,_=>none
 |m+1,x6,x7,x8=>zbS N x6 x7 x8 (jk N m) (fun v0=>some v0)
def zac(N:Nat)(p0:Int):Option ((List UInt8)×Unit):=
 (Option.bind (jk N N p0 ([]:List UInt8) (1:Int)) fun o14=>(cond (decide (List.length ([40]:List UInt8)+List.length o14<4611686018427387904)) (cond (decide (List.length (([40]:List UInt8)++o14)+List.length ([41]:List UInt8)<4611686018427387904)) (some (((([40]:List UInt8)++o14)++([41]:List UInt8)),())) none) none))
def jD(N:Nat)(p0:(List UInt8)):Option ((List UInt8)×Unit):=
 (Option.bind (jC N (IntKind.wrap .u32 (((List.length p0):Nat):Int))) fun y1=>(cond (decide (List.length ([123]:List UInt8)+List.length y1.1<4611686018427387904)) (cond (decide (List.length (([123]:List UInt8)++y1.1)+List.length ([125,13,10]:List UInt8)<4611686018427387904)) (cond (Nat.blt (List.length ((([123]:List UInt8)++y1.1)++([125,13,10]:List UInt8))) zA) (cond (Nat.blt ((List.length ((([123]:List UInt8)++y1.1)++([125,13,10]:List UInt8)))+(List.length p0)) zA) (some ((((([123]:List UInt8)++y1.1)++([125,13,10]:List UInt8))++p0),())) none) none) none) none))
@[reducible] def uK2:U:=(.pair .str (.pair (.int .i64) (.pair .str (.pair (.sl (.pair (.int .u32) (.int .u32))) (.pair (.int .i64) (.pair (.int .i64) (.pair .bool (.pair .u8 (.sl .u8)))))))))
@[reducible] def uK3:U:=(.pair (.sl .u8) (.pair (.int .i64) (.pair (.int .i64) (.int .i64))))
def zE(N:Nat)(p0:(El uK3)):Option ((El uK3)×Bool×Unit):=
 (cond (decide ((IntKind.wrap .i64 ((((List.length p0.1):Nat):Int)-p0.2.1))<p0.2.2.1)) (some (p0,false,())) (some ((p0.1,((IntKind.wrap .i64 (p0.2.1+p0.2.2.1)),((0:Int),(IntKind.wrap .i64 (p0.2.1+p0.2.2.1))))),true,())))
def qd(N:Nat)(p0:(El uK3)):Option ((El uK3)×Int×Bool×Unit):=
 (cond (zjX p0.2.2.2 p0.1&&true) (cond ((Nat.ble (List.length (zem p0.1 (Int.toNat p0.2.2.2))) zeA)&&true) (cond (decide ((Go.Lib.index (zem p0.1 (Int.toNat p0.2.2.2)) ([(13:UInt8),(10:UInt8)]:List UInt8))<(0:Int))) (some ((p0.1,(p0.2.1,(p0.2.2.1,(if(IntKind.wrap .i64 ((((List.length p0.1):Nat):Int)-(1:Int))) > p0.2.2.2 then(IntKind.wrap .i64 ((((List.length p0.1):Nat):Int)-(1:Int))) else p0.2.2.2)))),(0:Int),false,())) (some (p0,(IntKind.wrap .i64 (p0.2.2.2+(Go.Lib.index (zem p0.1 (Int.toNat p0.2.2.2)) ([(13:UInt8),(10:UInt8)]:List UInt8)))),true,()))) none) none)
def jT(N:Nat)(p0:(List UInt8))(p1:(List UInt8)):Option (Bool×Unit):=
 (cond (decide ((((List.length p1):Nat):Int)<=(((List.length p0):Nat):Int))) (cond (zjX (IntKind.wrap .i64 ((((List.length p0):Nat):Int)-(((List.length p1):Nat):Int))) p0&&true) (Option.bind (xn N (zem p0 (Int.toNat (IntKind.wrap .i64 ((((List.length p0):Nat):Int)-(((List.length p1):Nat):Int))))) p1) fun y1=>(some (y1.1,()))) none) (some (false,())))
def qT(N:Nat)(p0:(List UInt8))(p1:(List UInt8)):Option ((List UInt8)×Bool×Unit):=
 (Option.bind (jT N p0 p1) fun y1=>(cond (!y1.1) (some (p0,false,())) (cond ((wm (0:Int) (IntKind.wrap .i64 ((((List.length p0):Nat):Int)-(((List.length p1):Nat):Int))) (List.length p0))&&true) (some ((slice p0 0 (Int.toNat (IntKind.wrap .i64 ((((List.length p0):Nat):Int)-(((List.length p1):Nat):Int))))),true,())) none)))
def zT(N:Nat){R:Type}(x1:List UInt8)(x2:UInt8)(x3:Int)(rec_:(List UInt8)->(UInt8)->(Int)->Option R)(o0:(Int)->Option R)(o1:Unit->Option R):Option R:=
 (cond (decide ((0:Int)<=x3)) (cond (inb x3 (List.length x1)) (cond ((nth .u8 x1 (Int.toNat x3))==x2) (o0 x3) (rec_ x1 x2 (IntKind.wrap .i64 (x3-(1:Int))))) none) (o1 ()))
def zi(N:Nat):Nat->(List UInt8)->(UInt8)->(Int)->Option (((Int)) ⊕ (Unit))
 |0,_,_,_=>none
 |m+1,x1,x2,x3=>zT N x1 x2 x3 (zi N m) (fun v0=>some (Sum.inl v0)) (fun _=>some (Sum.inr ()))
def qn(N:Nat)(p0:(List UInt8))(p1:UInt8):Option (Int×Unit):=
 (Option.bind (zi N N p0 p1 (IntKind.wrap .i64 ((((List.length p0):Nat):Int)-(1:Int)))) fun o9=>(zw o9 (fun a10=>(some (a10,()))) (fun b11=>(some ((-1:Int),())))))
def qb(N:Nat)(p0:(List UInt8))(p1:UInt8):Option (Int×Unit):=
 (Option.bind (qn N p0 p1) fun y1=>(some (y1.1,())))
def qV(N:Nat)(p0:(List UInt8)):Option (Int×Bool×Unit):=
 (Option.bind (qT N p0 ([(125:UInt8)]:List UInt8)) fun y1=>(cond (!y1.2.1) (some ((0:Int),false,())) (Option.bind (qb N y1.1 (123:UInt8)) fun y2=>(cond (decide (y2.1<(0:Int))) (some ((0:Int),false,())) (cond (zjX (IntKind.wrap .i64 (y2.1+(1:Int))) y1.1&&true) (Option.bind (wJ N (zem y1.1 (Int.toNat (IntKind.wrap .i64 (y2.1+(1:Int)))))) fun y3=>(some ((IntKind.wrap .i64 y3.1),y3.2.1,()))) none)))))
def zq(N:Nat)(p0:(El uK3))(p1:Int)(p2:(List UInt8))(p3:Int):Option ((El uK3)×(Int×(List UInt8))×Bool×Unit):=
 (Option.bind (zF N p2) fun y1=>(cond (zjX p3 p0.1&&true) (Option.bind (zF N (zem p0.1 (Int.toNat p3))) fun y2=>(some ((y2.1,((0:Int),((0:Int),(0:Int)))),(p1,y1.1),true,()))) none))
def zk(N:Nat)(p0:(El uK3)):Option ((El uK3)×(Int×(List UInt8))×Bool×Unit):=
 (Option.bind (zE N p0) fun y1=>(cond (!y1.2.1) (some (y1.1,((0:Int),([]:List UInt8)),false,())) (Option.bind (qd N y1.1) fun y2=>(cond (!y2.2.2.1) (some (y2.1,((0:Int),([]:List UInt8)),false,())) (cond ((wm y2.1.2.1 y2.2.1 (List.length y2.1.1))&&true) (Option.bind (qV N (slice y2.1.1 (Int.toNat y2.1.2.1) (Int.toNat y2.2.1))) fun y3=>(cond (decide ((8192:Int)<(((List.length (slice y2.1.1 (Int.toNat y2.1.2.1) (Int.toNat y2.2.1))):Nat):Int))) (cond ((wm (0:Int) (8192:Int) (List.length (slice y2.1.1 (Int.toNat y2.1.2.1) (Int.toNat y2.2.1))))&&true) (Option.bind (zq N y2.1 (3:Int) (slice (slice y2.1.1 (Int.toNat y2.1.2.1) (Int.toNat y2.2.1)) 0 8192) (IntKind.wrap .i64 (y2.2.1+(2:Int)))) fun y4=>(some (y4.1,y4.2.1,y4.2.2.1,()))) none) (cond (!y3.2.1) (cond ((wm (0:Int) y2.2.1 (List.length y2.1.1))&&true) (Option.bind (zq N y2.1 (1:Int) (slice y2.1.1 0 (Int.toNat y2.2.1)) (IntKind.wrap .i64 (y2.2.1+(2:Int)))) fun y5=>(some (y5.1,y5.2.1,y5.2.2.1,()))) none) (cond (decide ((65536:Int)<y3.1)) (cond ((wm (0:Int) y2.2.1 (List.length y2.1.1))&&true) (Option.bind (zq N y2.1 (4:Int) (slice y2.1.1 0 (Int.toNat y2.2.1)) (IntKind.wrap .i64 (y2.2.1+(2:Int)))) fun y6=>(some (y6.1,y6.2.1,y6.2.2.1,()))) none) (some ((y2.1.1,((IntKind.wrap .i64 (y2.2.1+(2:Int))),(y3.1,y2.1.2.2.2))),((2:Int),([]:List UInt8)),true,())))))) none)))))
def qc(N:Nat)(p0:(El uK3)):Option ((El uK3)×Int×Unit):=
 (some (p0,(((List.length p0.1):Nat):Int),()))
def wW(N:Nat){R:Type}(x12:List UInt8)(x13:Int)(x14:Int)(x15:Int)(x16:List (Int×(List UInt8)))(rec_:(List UInt8)->(Int)->(Int)->(Int)->(List (Int×(List UInt8)))->Option R)(o0:(List UInt8)->(Int)->(Int)->(Int)->(List (Int×(List UInt8)))->Option R):Option R:=
 (Option.bind (zk N (x12,(x13,(x14,x15)))) fun y19=>(cond (!y19.2.2.1) (o0 y19.1.1 y19.1.2.1 y19.1.2.2.1 y19.1.2.2.2 x16) (cond (Nat.blt ((List.length x16)+1) zA) (rec_ y19.1.1 y19.1.2.1 y19.1.2.2.1 y19.1.2.2.2 (x16++([y19.2.1]:List (Int×(List UInt8))))) none)))
def zY(N:Nat):Nat->(List UInt8)->(Int)->(Int)->(Int)->(List (Int×(List UInt8)))->Option ((List UInt8)×(Int)×(Int)×(Int)×(List (Int×(List UInt8))))
 |0,_,_,_,_,_=>none
 |m+1,x12,x13,x14,x15,x16=>wW N x12 x13 x14 x15 x16 (zY N m) (fun v0 v1 v2 v3 v4=>some (v0,v1,v2,v3,v4))
def zB(N:Nat)(p0:(List UInt8)):Option ((List (Int×(List UInt8)))×Int×Unit):=
 (cond (Nat.blt (List.length p0) zA) (Option.bind (zk N (p0,((0:Int),((0:Int),(0:Int))))) fun y2=>(cond (!y2.2.2.1) (Option.bind (qc N y2.1) fun y3=>(some (([]:List (Int×(List UInt8))),y3.2.1,()))) (Option.bind (zY N N y2.1.1 y2.1.2.1 y2.1.2.2.1 y2.1.2.2.2 ([y2.2.1]:List (Int×(List UInt8)))) fun o20=>(Option.bind (qc N (o20.1,(o20.2.1,(o20.2.2.1,o20.2.2.2.1)))) fun y21=>(some (o20.2.2.2.2,y21.2.1,())))))) none)
def zdF(N:Nat){R:Type}(x1:List UInt8)(x2:Int)(rec_:(List UInt8)->(Int)->Option R)(o0:(Int)->Option R)(o1:Unit->Option R):Option R:=
 (cond (decide ((IntKind.wrap .i64 (x2+(1:Int)))<(((List.length x1):Nat):Int))) (cond (inb x2 (List.length x1)) (cond ((nth .u8 x1 (Int.toNat x2))==(13:UInt8)) (cond (inb (IntKind.wrap .i64 (x2+(1:Int))) (List.length x1)) (cond ((nth .u8 x1 (Int.toNat (IntKind.wrap .i64 (x2+(1:Int)))))==(10:UInt8)) (o0 x2) (rec_ x1 (IntKind.wrap .i64 (x2+(1:Int))))) none) (rec_ x1 (IntKind.wrap .i64 (x2+(1:Int))))) none) (o1 ()))
def j3(N:Nat):Nat->(List UInt8)->(Int)->Option (((Int)) ⊕ (Unit))
 |0,_,_=>none
 |m+1,x1,x2=>zdF N x1 x2 (j3 N m) (fun v0=>some (Sum.inl v0)) (fun _=>some (Sum.inr ()))
def zea(N:Nat)(p0:(List UInt8))(p1:Int):Option (Int×Unit):=
 (Option.bind (j3 N N p0 p1) fun o8=>(zw o8 (fun a9=>(some (a9,()))) (fun b10=>(some ((-1:Int),())))))
def xW(N:Nat){R:Type}(x1:List UInt8)(x2:Int)(x3:Int)(rec_:(List UInt8)->(Int)->(Int)->Option R)(o0:(List UInt8)->(Int)->(Int)->Option R):Option R:=
 (cond (decide ((0:Int)<x3)) (cond (inb (IntKind.wrap .i64 (x3-(1:Int))) (List.length x1)) (cond (decide ((48:UInt8)<=(nth .u8 x1 (Int.toNat (IntKind.wrap .i64 (x3-(1:Int))))))) (cond (inb (IntKind.wrap .i64 (x3-(1:Int))) (List.length x1)) (cond (decide ((nth .u8 x1 (Int.toNat (IntKind.wrap .i64 (x3-(1:Int)))))<=(57:UInt8))) (rec_ x1 x2 (IntKind.wrap .i64 (x3-(1:Int)))) (o0 x1 x2 x3)) none) (o0 x1 x2 x3)) none) (o0 x1 x2 x3))
def qk(N:Nat):Nat->(List UInt8)->(Int)->(Int)->Option ((List UInt8)×(Int)×(Int))
 |0,_,_,_=>none
 |m+1,x1,x2,x3=>xW N x1 x2 x3 (qk N m) (fun v0 v1 v2=>some (v0,v1,v2))
def kM(N:Nat)(p0:(List UInt8)):Option (Int×Bool×Unit):=
 (cond (decide ((IntKind.wrap .i64 ((((List.length p0):Nat):Int)-(1:Int)))<(0:Int))) (some ((0:Int),false,())) (cond (inb (IntKind.wrap .i64 ((((List.length p0):Nat):Int)-(1:Int))) (List.length p0)) (cond ((nth .u8 p0 (Int.toNat (IntKind.wrap .i64 ((((List.length p0):Nat):Int)-(1:Int))))) != (125:UInt8)) (some ((0:Int),false,())) (Option.bind (qk N N p0 (IntKind.wrap .i64 ((((List.length p0):Nat):Int)-(1:Int))) (IntKind.wrap .i64 ((((List.length p0):Nat):Int)-(1:Int)))) fun o5=>(cond ((wm o5.2.2 o5.2.1 (List.length o5.1))&&true) (Option.bind (za3 N (slice o5.1 (Int.toNat o5.2.2) (Int.toNat o5.2.1))) fun y6=>(cond (!y6.2.1) (some ((0:Int),false,())) (cond (o5.2.2==(0:Int)) (some ((0:Int),false,())) (cond (inb (IntKind.wrap .i64 (o5.2.2-(1:Int))) (List.length o5.1)) (cond ((nth .u8 o5.1 (Int.toNat (IntKind.wrap .i64 (o5.2.2-(1:Int))))) != (123:UInt8)) (some ((0:Int),false,())) (some ((IntKind.wrap .i64 y6.1),true,()))) none)))) none))) none))
def zag(N:Nat){R:Type}(x12:List UInt8)(x13:Int)(x14:List (Int×(List UInt8)))(rec_:(List UInt8)->(Int)->(List (Int×(List UInt8)))->Option R)(o0:(Int)->(List (Int×(List UInt8)))->Option R)(o1:(List (Int×(List UInt8)))->Option R):Option R:=
 (cond (decide (x13<=(((List.length x12):Nat):Int))) (Option.bind (zea N x12 x13) fun y18=>(cond (decide (y18.1<(0:Int))) (o0 (-1:Int) x14) (cond ((wm x13 y18.1 (List.length x12))&&true) (cond (decide ((8192:Int)<(((List.length (slice x12 (Int.toNat x13) (Int.toNat y18.1))):Nat):Int))) (cond ((wm (0:Int) (8192:Int) (List.length (slice x12 (Int.toNat x13) (Int.toNat y18.1))))&&true) (cond (Nat.blt (0+(List.length (slice (slice x12 (Int.toNat x13) (Int.toNat y18.1)) 0 8192))) zA) (cond (Nat.blt ((List.length x14)+1) zA) (o0 (IntKind.wrap .i64 (y18.1+(2:Int))) (x14++([((3:Int),(([]:List UInt8)++(slice (slice x12 (Int.toNat x13) (Int.toNat y18.1)) 0 8192)))]:List (Int×(List UInt8))))) none) none) none) (Option.bind (kM N (slice x12 (Int.toNat x13) (Int.toNat y18.1))) fun y19=>(cond (!y19.2.1) (cond ((wm (0:Int) y18.1 (List.length x12))&&true) (cond (Nat.blt (0+(List.length (slice x12 0 (Int.toNat y18.1)))) zA) (cond (Nat.blt ((List.length x14)+1) zA) (o0 (IntKind.wrap .i64 (y18.1+(2:Int))) (x14++([((1:Int),(([]:List UInt8)++(slice x12 0 (Int.toNat y18.1))))]:List (Int×(List UInt8))))) none) none) none) (cond (decide ((65536:Int)<y19.1)) (cond ((wm (0:Int) y18.1 (List.length x12))&&true) (cond (Nat.blt (0+(List.length (slice x12 0 (Int.toNat y18.1)))) zA) (cond (Nat.blt ((List.length x14)+1) zA) (o0 (IntKind.wrap .i64 (y18.1+(2:Int))) (x14++([((4:Int),(([]:List UInt8)++(slice x12 0 (Int.toNat y18.1))))]:List (Int×(List UInt8))))) none) none) none) (cond (Nat.blt ((List.length x14)+1) zA) (rec_ x12 (IntKind.wrap .i64 ((IntKind.wrap .i64 (y18.1+(2:Int)))+y19.1)) (x14++([((2:Int),([]:List UInt8))]:List (Int×(List UInt8))))) none))))) none))) (o1 x14))
def qo(N:Nat):Nat->(List UInt8)->(Int)->(List (Int×(List UInt8)))->Option (((Int)×(List (Int×(List UInt8)))) ⊕ ((List (Int×(List UInt8)))))
 |0,_,_,_=>none
 |m+1,x12,x13,x14=>zag N x12 x13 x14 (qo N m) (fun v0 v1=>some (Sum.inl (v0,v1))) (fun v0=>some (Sum.inr v0))
def zae(N:Nat)(p0:(List UInt8)):Option ((List (Int×(List UInt8)))×Int×Unit):=
 (Option.bind (qo N N p0 (0:Int) ([]:List (Int×(List UInt8)))) fun o24=>(zw o24 (fun a25=>(some (a25.2,a25.1,()))) (fun b26=>(some (b26,(-1:Int),())))))
def zbp(N:Nat){R:Type}(x7:List UInt8)(x8:List (Int×(List UInt8)))(rec_:(List UInt8)->(List (Int×(List UInt8)))->Option R)(o0:(Int)->(List (Int×(List UInt8)))->Option R):Option R:=
 (Option.bind (zae N x7) fun y11=>(cond (Nat.blt ((List.length x8)+(List.length y11.1)) zA) (cond (decide (y11.2.1<(0:Int))) (o0 (((List.length x7):Nat):Int) (x8++y11.1)) (cond (zjX y11.2.1 x7&&true) (rec_ (zem x7 (Int.toNat y11.2.1)) (x8++y11.1)) none)) none))
def ja(N:Nat):Nat->(List UInt8)->(List (Int×(List UInt8)))->Option ((Int)×(List (Int×(List UInt8))))
 |0,_,_=>none
 |m+1,x7,x8=>zbp N x7 x8 (ja N m) (fun v0 v1=>some (v0,v1))
def xx(N:Nat)(p0:(List UInt8)):Option ((List (Int×(List UInt8)))×Int×Unit):=
 (Option.bind (ja N N p0 ([]:List (Int×(List UInt8)))) fun o12=>(some (o12.2,o12.1,())))
def wC(N:Nat){R:Type}(x12:List UInt8)(x13:Int)(x14:Int)(x15:List UInt8)(rec_:(List UInt8)->(Int)->(Int)->(List UInt8)->Option R)(o0:(List UInt8)->Option R)(o1:(List UInt8)->Option R):Option R:=
 (cond (decide (x14<x13)) (cond (inb x14 (List.length x12)) (Option.bind (xq N (nth .u8 x12 (Int.toNat x14))) fun y18=>(cond (!y18.1) (o0 x15) (cond ((nth .u8 x12 (Int.toNat x14))==(34:UInt8)) (cond (Nat.blt ((List.length x15)+1) zA) (cond (Nat.blt ((List.length (x15++([(92:UInt8)]:List UInt8)))+1) zA) (rec_ x12 x13 (IntKind.wrap .i64 (x14+(1:Int))) ((x15++([(92:UInt8)]:List UInt8))++([(nth .u8 x12 (Int.toNat x14))]:List UInt8))) none) none) (cond ((nth .u8 x12 (Int.toNat x14))==(92:UInt8)) (cond (Nat.blt ((List.length x15)+1) zA) (cond (Nat.blt ((List.length (x15++([(92:UInt8)]:List UInt8)))+1) zA) (rec_ x12 x13 (IntKind.wrap .i64 (x14+(1:Int))) ((x15++([(92:UInt8)]:List UInt8))++([(nth .u8 x12 (Int.toNat x14))]:List UInt8))) none) none) (cond (Nat.blt ((List.length x15)+1) zA) (rec_ x12 x13 (IntKind.wrap .i64 (x14+(1:Int))) (x15++([(nth .u8 x12 (Int.toNat x14))]:List UInt8))) none))))) none) (o1 x15))
def zO(N:Nat):Nat->(List UInt8)->(Int)->(Int)->(List UInt8)->Option (((List UInt8)) ⊕ ((List UInt8)))
 |0,_,_,_,_=>none
 |m+1,x12,x13,x14,x15=>wC N x12 x13 x14 x15 (zO N m) (fun v0=>some (Sum.inl v0)) (fun v0=>some (Sum.inr v0))
def j2(N:Nat)(p0:(List UInt8)):Option ((List UInt8)×Bool×Unit):=
 (Option.bind (zO N N p0 (((List.length p0):Nat):Int) (0:Int) ([(34:UInt8)]:List UInt8)) fun o23=>(zw o23 (fun a24=>(some (([]:List UInt8),false,()))) (fun b25=>(cond (Nat.blt ((List.length b25)+1) zA) (cond (Nat.blt 0 (List.length (b25++([(34:UInt8)]:List UInt8)))) (cond (decide ((((List.length (b25++([(34:UInt8)]:List UInt8))):Nat):Int)=(((List.length (b25++([(34:UInt8)]:List UInt8))):Nat):Int))&&(Nat.blt 0 (List.length (b25++([(34:UInt8)]:List UInt8)))&&Nat.blt (List.length (b25++([(34:UInt8)]:List UInt8))) zA)) (some ((b25++([(34:UInt8)]:List UInt8)),true,())) none) none) none))))
def wh(N:Nat)(p0:(List UInt8)):Option ((List UInt8)×Unit):=
 (Option.bind (j2 N p0) fun y1=>(cond y1.2.1 (cond (Nat.blt (List.length y1.1) zA) (some (y1.1,())) none) (Option.bind (ql N p0) fun y2=>(some (y2.1,())))))
def jR(N:Nat){R:Type}(x7:List UInt8)(x8:Int)(x9:Int)(rec_:(List UInt8)->(Int)->(Int)->Option R)(o0:Unit->Option R)(o1:Unit->Option R):Option R:=
 (cond (decide (x9<x8)) (cond (inb x9 (List.length x7)) (Option.bind (xo N (nth .u8 x7 (Int.toNat x9))) fun y12=>(cond (!y12.1) (o0 ()) (rec_ x7 x8 (IntKind.wrap .i64 (x9+(1:Int)))))) none) (o1 ()))
def zJ(N:Nat):Nat->(List UInt8)->(Int)->(Int)->Option ((Unit) ⊕ (Unit))
 |0,_,_,_=>none
 |m+1,x7,x8,x9=>jR N x7 x8 x9 (zJ N m) (fun _=>some (Sum.inl ())) (fun _=>some (Sum.inr ()))
def qv(N:Nat)(p0:(List UInt8)):Option ((List UInt8)×Unit):=
 (cond (p0 != ([]:List UInt8)) (Option.bind (zJ N N p0 (((List.length p0):Nat):Int) (0:Int)) fun o17=>(zw o17 (fun a18=>(cond (Nat.blt (List.length p0) zA) (Option.bind (wh N p0) fun y20=>(some (y20.1,()))) none)) (fun b19=>(some (p0,()))))) (cond (Nat.blt (List.length p0) zA) (Option.bind (wh N p0) fun y21=>(some (y21.1,()))) none))
def xy(N:Nat)(p0:Int):Option ((List UInt8)×Unit):=
 (cond (p0==(0:Int)) (some (([42]:List UInt8),())) (Option.bind (ze N p0) fun y1=>(some (y1.1,()))))
def zaW(N:Nat){R:Type}(x15:List (Int×Int))(x16:Int)(x17:Int)(x18:List (List UInt8))(rec_:(List (Int×Int))->(Int)->(Int)->(List (List UInt8))->Option R)(o0:(List (List UInt8))->Option R):Option R:=
 (cond (decide (x17<x16)) (cond (inb x17 (List.length x15)) (Option.bind (xy N (nth (.pair (.int .u32) (.int .u32)) x15 (Int.toNat x17)).1) fun y22=>(cond (!(((nth (.pair (.int .u32) (.int .u32)) x15 (Int.toNat x17)).1==(nth (.pair (.int .u32) (.int .u32)) x15 (Int.toNat x17)).1)&&(((nth (.pair (.int .u32) (.int .u32)) x15 (Int.toNat x17)).2==(nth (.pair (.int .u32) (.int .u32)) x15 (Int.toNat x17)).1)&&true))) (Option.bind (xy N (nth (.pair (.int .u32) (.int .u32)) x15 (Int.toNat x17)).2) fun y23=>(cond (decide (List.length ([58]:List UInt8)+List.length y23.1<4611686018427387904)) (cond (decide (List.length y22.1+List.length (([58]:List UInt8)++y23.1)<4611686018427387904)) (cond (Nat.blt ((List.length x18)+1) zA) (rec_ x15 x16 (IntKind.wrap .i64 (x17+(1:Int))) (x18++([(y22.1++(([58]:List UInt8)++y23.1))]:List (List UInt8)))) none) none) none)) (cond (Nat.blt ((List.length x18)+1) zA) (rec_ x15 x16 (IntKind.wrap .i64 (x17+(1:Int))) (x18++([y22.1]:List (List UInt8)))) none))) none) (o0 x18))
def qD(N:Nat):Nat->(List (Int×Int))->(Int)->(Int)->(List (List UInt8))->Option ((List (List UInt8)))
 |0,_,_,_,_=>none
 |m+1,x15,x16,x17,x18=>zaW N x15 x16 x17 x18 (qD N m) (fun v0=>some v0)
def j4(N:Nat)(p0:(List (Int×Int))):Option ((List UInt8)×Unit):=
 (Option.bind (qD N N p0 (((List.length p0):Nat):Int) (0:Int) ([]:List (List UInt8))) fun o24=>(cond ((Nat.ble (List.length (Go.Lib.join o24 ([44]:List UInt8))) jJ)&&(Nat.ble (List.length o24) 140737488355328)) (some ((Go.Lib.join o24 ([44]:List UInt8)),())) none))
def zaP(N:Nat){R:Type}(x13:Int)(x14:Int)(x15:List (List UInt8))(x16:List (List UInt8))(rec_:(Int)->(Int)->(List (List UInt8))->(List (List UInt8))->Option R)(o0:(List (List UInt8))->(List (List UInt8))->Option R):Option R:=
 (cond (decide (x14<(5:Int))) (cond (inb x14 (List.length x15)) (Option.bind (za1 N (nth .str x15 (Int.toNat x14))) fun y19=>(cond ((xC .and .i64 x13 y19.1) != (0:Int)) (cond (Nat.blt ((List.length x16)+1) zA) (rec_ x13 (IntKind.wrap .i64 (x14+(1:Int))) x15 (x16++([(nth .str x15 (Int.toNat x14))]:List (List UInt8)))) none) (rec_ x13 (IntKind.wrap .i64 (x14+(1:Int))) x15 x16))) none) (o0 x15 x16))
def qB(N:Nat):Nat->(Int)->(Int)->(List (List UInt8))->(List (List UInt8))->Option ((List (List UInt8))×(List (List UInt8)))
 |0,_,_,_,_=>none
 |m+1,x13,x14,x15,x16=>zaP N x13 x14 x15 x16 (qB N m) (fun v0 v1=>some (v0,v1))
def za0(N:Nat)(p0:Int):Option ((List UInt8)×Unit):=
 (Option.bind (qB N N p0 (0:Int) ([([70,76,65,71,83]:List UInt8),([85,73,68]:List UInt8),([82,70,67,56,50,50,46,83,73,90,69]:List UInt8),([66,79,68,89,46,80,69,69,75,91,93]:List UInt8),([66,79,68,89,91,93]:List UInt8)]:List (List UInt8)) ([]:List (List UInt8))) fun o20=>(cond ((Nat.ble (List.length (Go.Lib.join o20.2 ([32]:List UInt8))) jJ)&&(Nat.ble (List.length o20.2) 140737488355328)) (cond (decide (List.length ([40]:List UInt8)+List.length (Go.Lib.join o20.2 ([32]:List UInt8))<4611686018427387904)) (cond (decide (List.length (([40]:List UInt8)++(Go.Lib.join o20.2 ([32]:List UInt8)))+List.length ([41]:List UInt8)<4611686018427387904)) (some (((([40]:List UInt8)++(Go.Lib.join o20.2 ([32]:List UInt8)))++([41]:List UInt8)),())) none) none) none))
def zG(N:Nat)(p0:(El uK2)):Option ((List UInt8)×Bool×Unit):=
 (Option.bind (jA N p0) fun y1=>(cond (!y1.1) (some (([]:List UInt8),false,())) (Option.bind (zL N p0.2.1) fun y2=>(cond (p0.2.1==(5:Int)) (Option.bind (qv N p0.2.2.1) fun y3=>(cond ((Nat.ble (List.length (Go.Lib.join ([p0.1,y2.1,y3.1]:List (List UInt8)) ([32]:List UInt8))) jJ)&&true) (cond (decide (List.length (Go.Lib.join ([p0.1,y2.1,y3.1]:List (List UInt8)) ([32]:List UInt8))+List.length ([13,10]:List UInt8)<4611686018427387904)) (cond (Nat.blt (List.length ((Go.Lib.join ([p0.1,y2.1,y3.1]:List (List UInt8)) ([32]:List UInt8))++([13,10]:List UInt8))) zA) (Option.bind (zB N ((Go.Lib.join ([p0.1,y2.1,y3.1]:List (List UInt8)) ([32]:List UInt8))++([13,10]:List UInt8))) fun y4=>(cond (decide ((0:Int)<y4.2.1)) (some (([]:List UInt8),false,())) (cond ((((List.length y4.1):Nat):Int)==(0:Int)) (some (([]:List UInt8),false,())) (cond (inb (IntKind.wrap .i64 ((((List.length y4.1):Nat):Int)-(1:Int))) (List.length y4.1)) (cond ((nth (.pair (.int .i64) (.sl .u8)) y4.1 (Int.toNat (IntKind.wrap .i64 ((((List.length y4.1):Nat):Int)-(1:Int))))).1 != (1:Int)) (some (([]:List UInt8),false,())) (cond ((nth (.pair (.int .i64) (.sl .u8)) y4.1 (Int.toNat (IntKind.wrap .i64 ((((List.length y4.1):Nat):Int)-(1:Int))))).2 != (Go.Lib.join ([p0.1,y2.1,y3.1]:List (List UInt8)) ([32]:List UInt8))) (some (([]:List UInt8),false,())) (some (((Go.Lib.join ([p0.1,y2.1,y3.1]:List (List UInt8)) ([32]:List UInt8))++([13,10]:List UInt8)),true,())))) none)))) none) none) none)) (cond (p0.2.1==(6:Int)) (Option.bind (qv N p0.2.2.1) fun y5=>(cond (p0.2.2.2.2.2.2.2.1 != (0:UInt8)) (Option.bind (xu N p0.2.2.2.2.2.2.2.1) fun y6=>(Option.bind (ql N p0.2.2.2.2.2.2.2.2) fun y7=>(cond ((Nat.ble (List.length (Go.Lib.join ([p0.1,y2.1,y5.1,y6.1,y7.1]:List (List UInt8)) ([32]:List UInt8))) jJ)&&true) (cond (decide (List.length (Go.Lib.join ([p0.1,y2.1,y5.1,y6.1,y7.1]:List (List UInt8)) ([32]:List UInt8))+List.length ([13,10]:List UInt8)<4611686018427387904)) (cond (Nat.blt (List.length ((Go.Lib.join ([p0.1,y2.1,y5.1,y6.1,y7.1]:List (List UInt8)) ([32]:List UInt8))++([13,10]:List UInt8))) zA) (Option.bind (zB N ((Go.Lib.join ([p0.1,y2.1,y5.1,y6.1,y7.1]:List (List UInt8)) ([32]:List UInt8))++([13,10]:List UInt8))) fun y8=>(cond (decide ((0:Int)<y8.2.1)) (some (([]:List UInt8),false,())) (cond ((((List.length y8.1):Nat):Int)==(0:Int)) (some (([]:List UInt8),false,())) (cond (inb (IntKind.wrap .i64 ((((List.length y8.1):Nat):Int)-(1:Int))) (List.length y8.1)) (cond ((nth (.pair (.int .i64) (.sl .u8)) y8.1 (Int.toNat (IntKind.wrap .i64 ((((List.length y8.1):Nat):Int)-(1:Int))))).1 != (1:Int)) (some (([]:List UInt8),false,())) (cond ((nth (.pair (.int .i64) (.sl .u8)) y8.1 (Int.toNat (IntKind.wrap .i64 ((((List.length y8.1):Nat):Int)-(1:Int))))).2 != (Go.Lib.join ([p0.1,y2.1,y5.1,y6.1,y7.1]:List (List UInt8)) ([32]:List UInt8))) (some (([]:List UInt8),false,())) (some (((Go.Lib.join ([p0.1,y2.1,y5.1,y6.1,y7.1]:List (List UInt8)) ([32]:List UInt8))++([13,10]:List UInt8)),true,())))) none)))) none) none) none))) (Option.bind (ql N p0.2.2.2.2.2.2.2.2) fun y9=>(cond ((Nat.ble (List.length (Go.Lib.join ([p0.1,y2.1,y5.1,y9.1]:List (List UInt8)) ([32]:List UInt8))) jJ)&&true) (cond (decide (List.length (Go.Lib.join ([p0.1,y2.1,y5.1,y9.1]:List (List UInt8)) ([32]:List UInt8))+List.length ([13,10]:List UInt8)<4611686018427387904)) (cond (Nat.blt (List.length ((Go.Lib.join ([p0.1,y2.1,y5.1,y9.1]:List (List UInt8)) ([32]:List UInt8))++([13,10]:List UInt8))) zA) (Option.bind (zB N ((Go.Lib.join ([p0.1,y2.1,y5.1,y9.1]:List (List UInt8)) ([32]:List UInt8))++([13,10]:List UInt8))) fun y10=>(cond (decide ((0:Int)<y10.2.1)) (some (([]:List UInt8),false,())) (cond ((((List.length y10.1):Nat):Int)==(0:Int)) (some (([]:List UInt8),false,())) (cond (inb (IntKind.wrap .i64 ((((List.length y10.1):Nat):Int)-(1:Int))) (List.length y10.1)) (cond ((nth (.pair (.int .i64) (.sl .u8)) y10.1 (Int.toNat (IntKind.wrap .i64 ((((List.length y10.1):Nat):Int)-(1:Int))))).1 != (1:Int)) (some (([]:List UInt8),false,())) (cond ((nth (.pair (.int .i64) (.sl .u8)) y10.1 (Int.toNat (IntKind.wrap .i64 ((((List.length y10.1):Nat):Int)-(1:Int))))).2 != (Go.Lib.join ([p0.1,y2.1,y5.1,y9.1]:List (List UInt8)) ([32]:List UInt8))) (some (([]:List UInt8),false,())) (some (((Go.Lib.join ([p0.1,y2.1,y5.1,y9.1]:List (List UInt8)) ([32]:List UInt8))++([13,10]:List UInt8)),true,())))) none)))) none) none) none)))) (cond (p0.2.1==(7:Int)) (Option.bind (j4 N p0.2.2.2.1) fun y11=>(Option.bind (za0 N p0.2.2.2.2.1) fun y12=>(cond ((Nat.ble (List.length (Go.Lib.join ([p0.1,y2.1,y11.1,y12.1]:List (List UInt8)) ([32]:List UInt8))) jJ)&&true) (cond (decide (List.length (Go.Lib.join ([p0.1,y2.1,y11.1,y12.1]:List (List UInt8)) ([32]:List UInt8))+List.length ([13,10]:List UInt8)<4611686018427387904)) (cond (Nat.blt (List.length ((Go.Lib.join ([p0.1,y2.1,y11.1,y12.1]:List (List UInt8)) ([32]:List UInt8))++([13,10]:List UInt8))) zA) (Option.bind (zB N ((Go.Lib.join ([p0.1,y2.1,y11.1,y12.1]:List (List UInt8)) ([32]:List UInt8))++([13,10]:List UInt8))) fun y13=>(cond (decide ((0:Int)<y13.2.1)) (some (([]:List UInt8),false,())) (cond ((((List.length y13.1):Nat):Int)==(0:Int)) (some (([]:List UInt8),false,())) (cond (inb (IntKind.wrap .i64 ((((List.length y13.1):Nat):Int)-(1:Int))) (List.length y13.1)) (cond ((nth (.pair (.int .i64) (.sl .u8)) y13.1 (Int.toNat (IntKind.wrap .i64 ((((List.length y13.1):Nat):Int)-(1:Int))))).1 != (1:Int)) (some (([]:List UInt8),false,())) (cond ((nth (.pair (.int .i64) (.sl .u8)) y13.1 (Int.toNat (IntKind.wrap .i64 ((((List.length y13.1):Nat):Int)-(1:Int))))).2 != (Go.Lib.join ([p0.1,y2.1,y11.1,y12.1]:List (List UInt8)) ([32]:List UInt8))) (some (([]:List UInt8),false,())) (some (((Go.Lib.join ([p0.1,y2.1,y11.1,y12.1]:List (List UInt8)) ([32]:List UInt8))++([13,10]:List UInt8)),true,())))) none)))) none) none) none))) (cond (p0.2.1==(8:Int)) (cond (inb p0.2.2.2.2.2.1 3) (cond p0.2.2.2.2.2.2.1 (cond (decide (List.length (nth .str ([([70,76,65,71,83]:List UInt8),([43,70,76,65,71,83]:List UInt8),([45,70,76,65,71,83]:List UInt8)]:List (List UInt8)) (Int.toNat p0.2.2.2.2.2.1))+List.length ([46,83,73,76,69,78,84]:List UInt8)<4611686018427387904)) (Option.bind (j4 N p0.2.2.2.1) fun y14=>(Option.bind (xu N p0.2.2.2.2.2.2.2.1) fun y15=>(cond ((Nat.ble (List.length (Go.Lib.join ([p0.1,y2.1,y14.1,((nth .str ([([70,76,65,71,83]:List UInt8),([43,70,76,65,71,83]:List UInt8),([45,70,76,65,71,83]:List UInt8)]:List (List UInt8)) (Int.toNat p0.2.2.2.2.2.1))++([46,83,73,76,69,78,84]:List UInt8)),y15.1]:List (List UInt8)) ([32]:List UInt8))) jJ)&&true) (cond (decide (List.length (Go.Lib.join ([p0.1,y2.1,y14.1,((nth .str ([([70,76,65,71,83]:List UInt8),([43,70,76,65,71,83]:List UInt8),([45,70,76,65,71,83]:List UInt8)]:List (List UInt8)) (Int.toNat p0.2.2.2.2.2.1))++([46,83,73,76,69,78,84]:List UInt8)),y15.1]:List (List UInt8)) ([32]:List UInt8))+List.length ([13,10]:List UInt8)<4611686018427387904)) (cond (Nat.blt (List.length ((Go.Lib.join ([p0.1,y2.1,y14.1,((nth .str ([([70,76,65,71,83]:List UInt8),([43,70,76,65,71,83]:List UInt8),([45,70,76,65,71,83]:List UInt8)]:List (List UInt8)) (Int.toNat p0.2.2.2.2.2.1))++([46,83,73,76,69,78,84]:List UInt8)),y15.1]:List (List UInt8)) ([32]:List UInt8))++([13,10]:List UInt8))) zA) (Option.bind (zB N ((Go.Lib.join ([p0.1,y2.1,y14.1,((nth .str ([([70,76,65,71,83]:List UInt8),([43,70,76,65,71,83]:List UInt8),([45,70,76,65,71,83]:List UInt8)]:List (List UInt8)) (Int.toNat p0.2.2.2.2.2.1))++([46,83,73,76,69,78,84]:List UInt8)),y15.1]:List (List UInt8)) ([32]:List UInt8))++([13,10]:List UInt8))) fun y16=>(cond (decide ((0:Int)<y16.2.1)) (some (([]:List UInt8),false,())) (cond ((((List.length y16.1):Nat):Int)==(0:Int)) (some (([]:List UInt8),false,())) (cond (inb (IntKind.wrap .i64 ((((List.length y16.1):Nat):Int)-(1:Int))) (List.length y16.1)) (cond ((nth (.pair (.int .i64) (.sl .u8)) y16.1 (Int.toNat (IntKind.wrap .i64 ((((List.length y16.1):Nat):Int)-(1:Int))))).1 != (1:Int)) (some (([]:List UInt8),false,())) (cond ((nth (.pair (.int .i64) (.sl .u8)) y16.1 (Int.toNat (IntKind.wrap .i64 ((((List.length y16.1):Nat):Int)-(1:Int))))).2 != (Go.Lib.join ([p0.1,y2.1,y14.1,((nth .str ([([70,76,65,71,83]:List UInt8),([43,70,76,65,71,83]:List UInt8),([45,70,76,65,71,83]:List UInt8)]:List (List UInt8)) (Int.toNat p0.2.2.2.2.2.1))++([46,83,73,76,69,78,84]:List UInt8)),y15.1]:List (List UInt8)) ([32]:List UInt8))) (some (([]:List UInt8),false,())) (some (((Go.Lib.join ([p0.1,y2.1,y14.1,((nth .str ([([70,76,65,71,83]:List UInt8),([43,70,76,65,71,83]:List UInt8),([45,70,76,65,71,83]:List UInt8)]:List (List UInt8)) (Int.toNat p0.2.2.2.2.2.1))++([46,83,73,76,69,78,84]:List UInt8)),y15.1]:List (List UInt8)) ([32]:List UInt8))++([13,10]:List UInt8)),true,())))) none)))) none) none) none))) none) (Option.bind (j4 N p0.2.2.2.1) fun y17=>(Option.bind (xu N p0.2.2.2.2.2.2.2.1) fun y18=>(cond ((Nat.ble (List.length (Go.Lib.join ([p0.1,y2.1,y17.1,(nth .str ([([70,76,65,71,83]:List UInt8),([43,70,76,65,71,83]:List UInt8),([45,70,76,65,71,83]:List UInt8)]:List (List UInt8)) (Int.toNat p0.2.2.2.2.2.1)),y18.1]:List (List UInt8)) ([32]:List UInt8))) jJ)&&true) (cond (decide (List.length (Go.Lib.join ([p0.1,y2.1,y17.1,(nth .str ([([70,76,65,71,83]:List UInt8),([43,70,76,65,71,83]:List UInt8),([45,70,76,65,71,83]:List UInt8)]:List (List UInt8)) (Int.toNat p0.2.2.2.2.2.1)),y18.1]:List (List UInt8)) ([32]:List UInt8))+List.length ([13,10]:List UInt8)<4611686018427387904)) (cond (Nat.blt (List.length ((Go.Lib.join ([p0.1,y2.1,y17.1,(nth .str ([([70,76,65,71,83]:List UInt8),([43,70,76,65,71,83]:List UInt8),([45,70,76,65,71,83]:List UInt8)]:List (List UInt8)) (Int.toNat p0.2.2.2.2.2.1)),y18.1]:List (List UInt8)) ([32]:List UInt8))++([13,10]:List UInt8))) zA) (Option.bind (zB N ((Go.Lib.join ([p0.1,y2.1,y17.1,(nth .str ([([70,76,65,71,83]:List UInt8),([43,70,76,65,71,83]:List UInt8),([45,70,76,65,71,83]:List UInt8)]:List (List UInt8)) (Int.toNat p0.2.2.2.2.2.1)),y18.1]:List (List UInt8)) ([32]:List UInt8))++([13,10]:List UInt8))) fun y19=>(cond (decide ((0:Int)<y19.2.1)) (some (([]:List UInt8),false,())) (cond ((((List.length y19.1):Nat):Int)==(0:Int)) (some (([]:List UInt8),false,())) (cond (inb (IntKind.wrap .i64 ((((List.length y19.1):Nat):Int)-(1:Int))) (List.length y19.1)) (cond ((nth (.pair (.int .i64) (.sl .u8)) y19.1 (Int.toNat (IntKind.wrap .i64 ((((List.length y19.1):Nat):Int)-(1:Int))))).1 != (1:Int)) (some (([]:List UInt8),false,())) (cond ((nth (.pair (.int .i64) (.sl .u8)) y19.1 (Int.toNat (IntKind.wrap .i64 ((((List.length y19.1):Nat):Int)-(1:Int))))).2 != (Go.Lib.join ([p0.1,y2.1,y17.1,(nth .str ([([70,76,65,71,83]:List UInt8),([43,70,76,65,71,83]:List UInt8),([45,70,76,65,71,83]:List UInt8)]:List (List UInt8)) (Int.toNat p0.2.2.2.2.2.1)),y18.1]:List (List UInt8)) ([32]:List UInt8))) (some (([]:List UInt8),false,())) (some (((Go.Lib.join ([p0.1,y2.1,y17.1,(nth .str ([([70,76,65,71,83]:List UInt8),([43,70,76,65,71,83]:List UInt8),([45,70,76,65,71,83]:List UInt8)]:List (List UInt8)) (Int.toNat p0.2.2.2.2.2.1)),y18.1]:List (List UInt8)) ([32]:List UInt8))++([13,10]:List UInt8)),true,())))) none)))) none) none) none)))) none) (cond ((Nat.ble (List.length (Go.Lib.join ([p0.1,y2.1]:List (List UInt8)) ([32]:List UInt8))) jJ)&&true) (cond (decide (List.length (Go.Lib.join ([p0.1,y2.1]:List (List UInt8)) ([32]:List UInt8))+List.length ([13,10]:List UInt8)<4611686018427387904)) (cond (Nat.blt (List.length ((Go.Lib.join ([p0.1,y2.1]:List (List UInt8)) ([32]:List UInt8))++([13,10]:List UInt8))) zA) (Option.bind (zB N ((Go.Lib.join ([p0.1,y2.1]:List (List UInt8)) ([32]:List UInt8))++([13,10]:List UInt8))) fun y20=>(cond (decide ((0:Int)<y20.2.1)) (some (([]:List UInt8),false,())) (cond ((((List.length y20.1):Nat):Int)==(0:Int)) (some (([]:List UInt8),false,())) (cond (inb (IntKind.wrap .i64 ((((List.length y20.1):Nat):Int)-(1:Int))) (List.length y20.1)) (cond ((nth (.pair (.int .i64) (.sl .u8)) y20.1 (Int.toNat (IntKind.wrap .i64 ((((List.length y20.1):Nat):Int)-(1:Int))))).1 != (1:Int)) (some (([]:List UInt8),false,())) (cond ((nth (.pair (.int .i64) (.sl .u8)) y20.1 (Int.toNat (IntKind.wrap .i64 ((((List.length y20.1):Nat):Int)-(1:Int))))).2 != (Go.Lib.join ([p0.1,y2.1]:List (List UInt8)) ([32]:List UInt8))) (some (([]:List UInt8),false,())) (some (((Go.Lib.join ([p0.1,y2.1]:List (List UInt8)) ([32]:List UInt8))++([13,10]:List UInt8)),true,())))) none)))) none) none) none))))))))
def zbg(N:Nat){R:Type}(x3:List UInt8)(x4:Int)(rec_:(List UInt8)->(Int)->Option R)(o0:Unit->Option R)(o1:(List UInt8)->Option R):Option R:=
 (cond (decide (x4<(((List.length x3):Nat):Int))) (cond (inb x4 (List.length x3)) (Option.bind (kk N (nth .u8 x3 (Int.toNat x4))) fun y7=>(cond (!y7.1) (o0 ()) (rec_ x3 (IntKind.wrap .i64 (x4+(1:Int)))))) none) (o1 x3))
def qW(N:Nat):Nat->(List UInt8)->(Int)->Option ((Unit) ⊕ ((List UInt8)))
 |0,_,_=>none
 |m+1,x3,x4=>zbg N x3 x4 (qW N m) (fun _=>some (Sum.inl ())) (fun v0=>some (Sum.inr v0))
def za2(N:Nat)(p0:(List UInt8)):Option (Bool×Unit):=
 (Option.bind (qW N N p0 (0:Int)) fun o12=>(zw o12 (fun a13=>(some (false,()))) (fun b14=>(some ((b14 != ([]:List UInt8)),())))))
def zbn(N:Nat){R:Type}(x3:List UInt8)(x4:List UInt8)(x5:Int)(rec_:(List UInt8)->(List UInt8)->(Int)->Option R)(o0:Unit->Option R)(o1:(List UInt8)->Option R):Option R:=
 (cond (decide (x5<(((List.length x3):Nat):Int))) (cond (inb x5 (List.length x3)) (Option.bind (zab N (nth .u8 x3 (Int.toNat x5))) fun y8=>(cond (!y8.1) (o0 ()) (cond (inb x5 (List.length x3)) (cond ((nth .u8 x3 (Int.toNat x5))==(34:UInt8)) (cond (decide (List.length x4+List.length ([92]:List UInt8)<4611686018427387904)) (cond ((wm x5 (IntKind.wrap .i64 (x5+(1:Int))) (List.length x3))&&true) (cond (decide (List.length (x4++([92]:List UInt8))+List.length (slice x3 (Int.toNat x5) (Int.toNat (IntKind.wrap .i64 (x5+(1:Int)))))<4611686018427387904)) (rec_ x3 ((x4++([92]:List UInt8))++(slice x3 (Int.toNat x5) (Int.toNat (IntKind.wrap .i64 (x5+(1:Int)))))) (IntKind.wrap .i64 (x5+(1:Int)))) none) none) none) (cond (inb x5 (List.length x3)) (cond ((nth .u8 x3 (Int.toNat x5))==(92:UInt8)) (cond (decide (List.length x4+List.length ([92]:List UInt8)<4611686018427387904)) (cond ((wm x5 (IntKind.wrap .i64 (x5+(1:Int))) (List.length x3))&&true) (cond (decide (List.length (x4++([92]:List UInt8))+List.length (slice x3 (Int.toNat x5) (Int.toNat (IntKind.wrap .i64 (x5+(1:Int)))))<4611686018427387904)) (rec_ x3 ((x4++([92]:List UInt8))++(slice x3 (Int.toNat x5) (Int.toNat (IntKind.wrap .i64 (x5+(1:Int)))))) (IntKind.wrap .i64 (x5+(1:Int)))) none) none) none) (cond ((wm x5 (IntKind.wrap .i64 (x5+(1:Int))) (List.length x3))&&true) (cond (decide (List.length x4+List.length (slice x3 (Int.toNat x5) (Int.toNat (IntKind.wrap .i64 (x5+(1:Int)))))<4611686018427387904)) (rec_ x3 (x4++(slice x3 (Int.toNat x5) (Int.toNat (IntKind.wrap .i64 (x5+(1:Int)))))) (IntKind.wrap .i64 (x5+(1:Int)))) none) none)) none)) none))) none) (o1 x4))
def qZ(N:Nat):Nat->(List UInt8)->(List UInt8)->(Int)->Option ((Unit) ⊕ ((List UInt8)))
 |0,_,_,_=>none
 |m+1,x3,x4,x5=>zbn N x3 x4 x5 (qZ N m) (fun _=>some (Sum.inl ())) (fun v0=>some (Sum.inr v0))
def za4(N:Nat)(p0:(List UInt8)):Option ((List UInt8)×Bool×Unit):=
 (Option.bind (qZ N N p0 ([34]:List UInt8) (0:Int)) fun o13=>(zw o13 (fun a14=>(some (([]:List UInt8),false,()))) (fun b15=>(cond (decide (List.length b15+List.length ([34]:List UInt8)<4611686018427387904)) (some ((b15++([34]:List UInt8)),true,())) none))))
def zc8(N:Nat)(p0:(List UInt8)):Option ((List UInt8)×Unit):=
 (Option.bind (za4 N p0) fun y1=>(cond y1.2.1 (cond (Nat.blt (List.length y1.1) zA) (some (y1.1,())) none) (Option.bind (jD N p0) fun y2=>(some (y2.1,())))))
def w6(N:Nat)(p0:(List UInt8)):Option ((List UInt8)×Unit):=
 (Option.bind (za2 N p0) fun y1=>(cond y1.1 (some (p0,())) (cond (Nat.blt (List.length p0) zA) (Option.bind (zc8 N p0) fun y2=>(some (y2.1,()))) none)))
def wi(N:Nat)(p0:Int):Option ((List UInt8)×Unit):=
 (cond (p0==(0:Int)) (some (([42]:List UInt8),())) (Option.bind (jC N p0) fun y1=>(some (y1.1,()))))
def zbl(N:Nat){R:Type}(x4:List (Int×Int))(x5:List UInt8)(x6:Int)(rec_:(List (Int×Int))->(List UInt8)->(Int)->Option R)(o0:(List UInt8)->Option R):Option R:=
 (cond (decide (x6<(((List.length x4):Nat):Int))) (cond (decide ((0:Int)<x6)) (cond (decide (List.length x5+List.length ([44]:List UInt8)<4611686018427387904)) (cond (inb x6 (List.length x4)) (Option.bind (wi N (nth (.pair (.int .u32) (.int .u32)) x4 (Int.toNat x6)).1) fun y12=>(cond (decide (List.length (x5++([44]:List UInt8))+List.length y12.1<4611686018427387904)) (cond (inb x6 (List.length x4)) (cond (inb x6 (List.length x4)) (cond ((nth (.pair (.int .u32) (.int .u32)) x4 (Int.toNat x6)).1 != (nth (.pair (.int .u32) (.int .u32)) x4 (Int.toNat x6)).2) (cond (decide (List.length ((x5++([44]:List UInt8))++y12.1)+List.length ([58]:List UInt8)<4611686018427387904)) (cond (inb x6 (List.length x4)) (Option.bind (wi N (nth (.pair (.int .u32) (.int .u32)) x4 (Int.toNat x6)).2) fun y13=>(cond (decide (List.length (((x5++([44]:List UInt8))++y12.1)++([58]:List UInt8))+List.length y13.1<4611686018427387904)) (rec_ x4 ((((x5++([44]:List UInt8))++y12.1)++([58]:List UInt8))++y13.1) (IntKind.wrap .i64 (x6+(1:Int)))) none)) none) none) (rec_ x4 ((x5++([44]:List UInt8))++y12.1) (IntKind.wrap .i64 (x6+(1:Int))))) none) none) none)) none) none) (cond (inb x6 (List.length x4)) (Option.bind (wi N (nth (.pair (.int .u32) (.int .u32)) x4 (Int.toNat x6)).1) fun y14=>(cond (decide (List.length x5+List.length y14.1<4611686018427387904)) (cond (inb x6 (List.length x4)) (cond (inb x6 (List.length x4)) (cond ((nth (.pair (.int .u32) (.int .u32)) x4 (Int.toNat x6)).1 != (nth (.pair (.int .u32) (.int .u32)) x4 (Int.toNat x6)).2) (cond (decide (List.length (x5++y14.1)+List.length ([58]:List UInt8)<4611686018427387904)) (cond (inb x6 (List.length x4)) (Option.bind (wi N (nth (.pair (.int .u32) (.int .u32)) x4 (Int.toNat x6)).2) fun y15=>(cond (decide (List.length ((x5++y14.1)++([58]:List UInt8))+List.length y15.1<4611686018427387904)) (rec_ x4 (((x5++y14.1)++([58]:List UInt8))++y15.1) (IntKind.wrap .i64 (x6+(1:Int)))) none)) none) none) (rec_ x4 (x5++y14.1) (IntKind.wrap .i64 (x6+(1:Int))))) none) none) none)) none)) (o0 x5))
def qY(N:Nat):Nat->(List (Int×Int))->(List UInt8)->(Int)->Option ((List UInt8))
 |0,_,_,_=>none
 |m+1,x4,x5,x6=>zbl N x4 x5 x6 (qY N m) (fun v0=>some v0)
def xw(N:Nat)(p0:(List (Int×Int))):Option ((List UInt8)×Unit):=
 (Option.bind (qY N N p0 ([]:List UInt8) (0:Int)) fun o16=>(some (o16,())))
def zbZ(N:Nat){R:Type}(x3:Int)(x4:List UInt8)(x5:Int)(rec_:(Int)->(List UInt8)->(Int)->Option R)(o0:(List UInt8)->Option R):Option R:=
 (cond (decide (x5<=(16:Int))) (cond ((xC .and .i64 x3 x5) != (0:Int)) (cond (x4 != ([]:List UInt8)) (cond (decide (List.length x4+List.length ([32]:List UInt8)<4611686018427387904)) (Option.bind (wv N x5) fun y9=>(cond (decide (List.length (x4++([32]:List UInt8))+List.length y9.1<4611686018427387904)) (rec_ x3 ((x4++([32]:List UInt8))++y9.1) (IntKind.wrap .i64 ((2:Int)*x5))) none)) none) (Option.bind (wv N x5) fun y10=>(cond (decide (List.length x4+List.length y10.1<4611686018427387904)) (rec_ x3 (x4++y10.1) (IntKind.wrap .i64 ((2:Int)*x5))) none))) (rec_ x3 x4 (IntKind.wrap .i64 ((2:Int)*x5)))) (o0 x4))
def jm(N:Nat):Nat->(Int)->(List UInt8)->(Int)->Option ((List UInt8))
 |0,_,_,_=>none
 |m+1,x3,x4,x5=>zbZ N x3 x4 x5 (jm N m) (fun v0=>some v0)
def zbX(N:Nat)(p0:Int):Option ((List UInt8)×Unit):=
 (Option.bind (jm N N p0 ([]:List UInt8) (1:Int)) fun o11=>(cond (decide (List.length ([40]:List UInt8)+List.length o11<4611686018427387904)) (cond (decide (List.length (([40]:List UInt8)++o11)+List.length ([41]:List UInt8)<4611686018427387904)) (some (((([40]:List UInt8)++o11)++([41]:List UInt8)),())) none) none))
def zc9(N:Nat)(p0:Int)(p1:Bool):Option ((List UInt8)×Unit):=
 (cond (inb p0 3) (cond p1 (cond (decide (List.length (nth .str ([([70,76,65,71,83]:List UInt8),([43,70,76,65,71,83]:List UInt8),([45,70,76,65,71,83]:List UInt8)]:List (List UInt8)) (Int.toNat p0))+List.length ([46,83,73,76,69,78,84]:List UInt8)<4611686018427387904)) (some (((nth .str ([([70,76,65,71,83]:List UInt8),([43,70,76,65,71,83]:List UInt8),([45,70,76,65,71,83]:List UInt8)]:List (List UInt8)) (Int.toNat p0))++([46,83,73,76,69,78,84]:List UInt8)),())) none) (some ((nth .str ([([70,76,65,71,83]:List UInt8),([43,70,76,65,71,83]:List UInt8),([45,70,76,65,71,83]:List UInt8)]:List (List UInt8)) (Int.toNat p0)),()))) none)
def zda(N:Nat)(p0:(El uK2)):Option ((List UInt8)×Unit):=
 (cond (decide (List.length p0.1+List.length ([32]:List UInt8)<4611686018427387904)) (Option.bind (wk N p0.2.1) fun y1=>(cond (decide (List.length (p0.1++([32]:List UInt8))+List.length y1.1<4611686018427387904)) (cond (p0.2.1==(5:Int)) (cond (decide (List.length ((p0.1++([32]:List UInt8))++y1.1)+List.length ([32]:List UInt8)<4611686018427387904)) (Option.bind (w6 N p0.2.2.1) fun y2=>(cond (decide (List.length (((p0.1++([32]:List UInt8))++y1.1)++([32]:List UInt8))+List.length y2.1<4611686018427387904)) (cond (Nat.blt (List.length ((((p0.1++([32]:List UInt8))++y1.1)++([32]:List UInt8))++y2.1)) zA) (some (((((p0.1++([32]:List UInt8))++y1.1)++([32]:List UInt8))++y2.1),())) none) none)) none) (cond (p0.2.1==(6:Int)) (cond (decide (List.length ((p0.1++([32]:List UInt8))++y1.1)+List.length ([32]:List UInt8)<4611686018427387904)) (Option.bind (w6 N p0.2.2.1) fun y3=>(cond (decide (List.length (((p0.1++([32]:List UInt8))++y1.1)++([32]:List UInt8))+List.length y3.1<4611686018427387904)) (cond (decide ((0:UInt8)<p0.2.2.2.2.2.2.2.1)) (cond (decide (List.length ((((p0.1++([32]:List UInt8))++y1.1)++([32]:List UInt8))++y3.1)+List.length ([32]:List UInt8)<4611686018427387904)) (Option.bind (zac N (IntKind.wrap .i64 ((UInt8.toNat p0.2.2.2.2.2.2.2.1:Nat):Int))) fun y4=>(cond (decide (List.length (((((p0.1++([32]:List UInt8))++y1.1)++([32]:List UInt8))++y3.1)++([32]:List UInt8))+List.length y4.1<4611686018427387904)) (cond (decide (List.length ((((((p0.1++([32]:List UInt8))++y1.1)++([32]:List UInt8))++y3.1)++([32]:List UInt8))++y4.1)+List.length ([32]:List UInt8)<4611686018427387904)) (Option.bind (jD N p0.2.2.2.2.2.2.2.2) fun y5=>(cond (decide (List.length (((((((p0.1++([32]:List UInt8))++y1.1)++([32]:List UInt8))++y3.1)++([32]:List UInt8))++y4.1)++([32]:List UInt8))+List.length y5.1<4611686018427387904)) (cond (Nat.blt (List.length ((((((((p0.1++([32]:List UInt8))++y1.1)++([32]:List UInt8))++y3.1)++([32]:List UInt8))++y4.1)++([32]:List UInt8))++y5.1)) zA) (some (((((((((p0.1++([32]:List UInt8))++y1.1)++([32]:List UInt8))++y3.1)++([32]:List UInt8))++y4.1)++([32]:List UInt8))++y5.1),())) none) none)) none) none)) none) (cond (decide (List.length ((((p0.1++([32]:List UInt8))++y1.1)++([32]:List UInt8))++y3.1)+List.length ([32]:List UInt8)<4611686018427387904)) (Option.bind (jD N p0.2.2.2.2.2.2.2.2) fun y6=>(cond (decide (List.length (((((p0.1++([32]:List UInt8))++y1.1)++([32]:List UInt8))++y3.1)++([32]:List UInt8))+List.length y6.1<4611686018427387904)) (cond (Nat.blt (List.length ((((((p0.1++([32]:List UInt8))++y1.1)++([32]:List UInt8))++y3.1)++([32]:List UInt8))++y6.1)) zA) (some (((((((p0.1++([32]:List UInt8))++y1.1)++([32]:List UInt8))++y3.1)++([32]:List UInt8))++y6.1),())) none) none)) none)) none)) none) (cond (p0.2.1==(7:Int)) (cond (decide (List.length ((p0.1++([32]:List UInt8))++y1.1)+List.length ([32]:List UInt8)<4611686018427387904)) (Option.bind (xw N p0.2.2.2.1) fun y7=>(cond (decide (List.length (((p0.1++([32]:List UInt8))++y1.1)++([32]:List UInt8))+List.length y7.1<4611686018427387904)) (cond (decide (List.length ((((p0.1++([32]:List UInt8))++y1.1)++([32]:List UInt8))++y7.1)+List.length ([32]:List UInt8)<4611686018427387904)) (Option.bind (zbX N p0.2.2.2.2.1) fun y8=>(cond (decide (List.length (((((p0.1++([32]:List UInt8))++y1.1)++([32]:List UInt8))++y7.1)++([32]:List UInt8))+List.length y8.1<4611686018427387904)) (cond (Nat.blt (List.length ((((((p0.1++([32]:List UInt8))++y1.1)++([32]:List UInt8))++y7.1)++([32]:List UInt8))++y8.1)) zA) (some (((((((p0.1++([32]:List UInt8))++y1.1)++([32]:List UInt8))++y7.1)++([32]:List UInt8))++y8.1),())) none) none)) none) none)) none) (cond (p0.2.1==(8:Int)) (cond (decide (List.length ((p0.1++([32]:List UInt8))++y1.1)+List.length ([32]:List UInt8)<4611686018427387904)) (Option.bind (xw N p0.2.2.2.1) fun y9=>(cond (decide (List.length (((p0.1++([32]:List UInt8))++y1.1)++([32]:List UInt8))+List.length y9.1<4611686018427387904)) (cond (decide (List.length ((((p0.1++([32]:List UInt8))++y1.1)++([32]:List UInt8))++y9.1)+List.length ([32]:List UInt8)<4611686018427387904)) (Option.bind (zc9 N p0.2.2.2.2.2.1 p0.2.2.2.2.2.2.1) fun y10=>(cond (decide (List.length (((((p0.1++([32]:List UInt8))++y1.1)++([32]:List UInt8))++y9.1)++([32]:List UInt8))+List.length y10.1<4611686018427387904)) (cond (decide (List.length ((((((p0.1++([32]:List UInt8))++y1.1)++([32]:List UInt8))++y9.1)++([32]:List UInt8))++y10.1)+List.length ([32]:List UInt8)<4611686018427387904)) (Option.bind (zac N (IntKind.wrap .i64 ((UInt8.toNat p0.2.2.2.2.2.2.2.1:Nat):Int))) fun y11=>(cond (decide (List.length (((((((p0.1++([32]:List UInt8))++y1.1)++([32]:List UInt8))++y9.1)++([32]:List UInt8))++y10.1)++([32]:List UInt8))+List.length y11.1<4611686018427387904)) (cond (Nat.blt (List.length ((((((((p0.1++([32]:List UInt8))++y1.1)++([32]:List UInt8))++y9.1)++([32]:List UInt8))++y10.1)++([32]:List UInt8))++y11.1)) zA) (some (((((((((p0.1++([32]:List UInt8))++y1.1)++([32]:List UInt8))++y9.1)++([32]:List UInt8))++y10.1)++([32]:List UInt8))++y11.1),())) none) none)) none) none)) none) none)) none) (cond (Nat.blt (List.length ((p0.1++([32]:List UInt8))++y1.1)) zA) (some (((p0.1++([32]:List UInt8))++y1.1),())) none))))) none)) none)
def zbW(N:Nat)(p0:(El uK2)):Option ((List UInt8)×Bool×Unit):=
 (Option.bind (zbV N p0) fun y1=>(cond (!y1.1) (some (([]:List UInt8),false,())) (Option.bind (zda N p0) fun y2=>(cond (Nat.blt ((List.length y2.1)+2) zA) (Option.bind (xx N (y2.1++([(13:UInt8),(10:UInt8)]:List UInt8))) fun y3=>(cond (decide ((0:Int)<y3.2.1)) (some (([]:List UInt8),false,())) (cond ((((List.length y3.1):Nat):Int)==(0:Int)) (some (([]:List UInt8),false,())) (cond (inb (IntKind.wrap .i64 ((((List.length y3.1):Nat):Int)-(1:Int))) (List.length y3.1)) (cond ((nth (.pair (.int .i64) (.sl .u8)) y3.1 (Int.toNat (IntKind.wrap .i64 ((((List.length y3.1):Nat):Int)-(1:Int))))).1 != (1:Int)) (some (([]:List UInt8),false,())) (cond (inb (IntKind.wrap .i64 ((((List.length y3.1):Nat):Int)-(1:Int))) (List.length y3.1)) (cond ((wm (0:Int) (IntKind.wrap .i64 ((((List.length (y2.1++([(13:UInt8),(10:UInt8)]:List UInt8))):Nat):Int)-(2:Int))) (List.length (y2.1++([(13:UInt8),(10:UInt8)]:List UInt8))))&&true) (cond ((nth (.pair (.int .i64) (.sl .u8)) y3.1 (Int.toNat (IntKind.wrap .i64 ((((List.length y3.1):Nat):Int)-(1:Int))))).2 != (slice (y2.1++([(13:UInt8),(10:UInt8)]:List UInt8)) 0 (0+((Int.toNat (IntKind.wrap .i64 ((((List.length (y2.1++([(13:UInt8),(10:UInt8)]:List UInt8))):Nat):Int)-(2:Int))))-0)))) (some (([]:List UInt8),false,())) (some ((y2.1++([(13:UInt8),(10:UInt8)]:List UInt8)),true,()))) none) none)) none)))) none))))
def jP(N:Nat){R:Type}(x5:Int)(x6:List (Int×(List UInt8)))(x7:Int)(x8:Int)(rec_:(Int)->(List (Int×(List UInt8)))->(Int)->(Int)->Option R)(o0:(Int)->Option R):Option R:=
 (cond (decide (x8<x7)) (cond (inb x8 (List.length x6)) (cond ((nth (.pair (.int .i64) (.sl .u8)) x6 (Int.toNat x8)).1==(2:Int)) (rec_ (IntKind.wrap .i64 (x5+(1:Int))) x6 x7 (IntKind.wrap .i64 (x8+(1:Int)))) (rec_ x5 x6 x7 (IntKind.wrap .i64 (x8+(1:Int))))) none) (o0 x5))
def zI(N:Nat):Nat->(Int)->(List (Int×(List UInt8)))->(Int)->(Int)->Option ((Int))
 |0,_,_,_,_=>none
 |m+1,x5,x6,x7,x8=>jP N x5 x6 x7 x8 (zI N m) (fun v0=>some v0)
def zX(N:Nat)(p0:(El uK2)):Option (Int×Unit):=
 (Option.bind (zG N p0) fun y1=>(cond (!y1.2.1) (some ((0:Int),())) (Option.bind (zB N y1.1) fun y2=>(Option.bind (zI N N (0:Int) y2.1 (((List.length y2.1):Nat):Int) (0:Int)) fun o10=>(some (o10,()))))))
def zdG(N:Nat)(p0:(El uK2)):Option (Int×Unit):=
 (Option.bind (zbW N p0) fun y1=>(cond (!y1.2.1) (some ((0:Int),())) (Option.bind (xx N y1.1) fun y2=>(some ((IntKind.wrap .i64 ((((List.length y2.1):Nat):Int)-(1:Int))),())))))
def qe(N:Nat)(p0:UInt8):Option (Bool×Unit):=
 (cond ((decide ((0:Int)<=(IntKind.wrap .i64 ((IntKind.wrap .i64 ((8191:Int)+(Int.tmod (IntKind.wrap .i64 ((UInt8.toNat p0:Nat):Int)) (3:Int))))-(9:Int)))))&&((decide ((IntKind.wrap .i64 ((IntKind.wrap .i64 ((8191:Int)+(Int.tmod (IntKind.wrap .i64 ((UInt8.toNat p0:Nat):Int)) (3:Int))))-(9:Int)))<=(140737488355328:Int)))&&(Nat.ble (List.length ([120]:List UInt8)*Int.toNat (IntKind.wrap .i64 ((IntKind.wrap .i64 ((8191:Int)+(Int.tmod (IntKind.wrap .i64 ((UInt8.toNat p0:Nat):Int)) (3:Int))))-(9:Int)))) jJ))) (Option.bind (zG N (([97]:List UInt8),((5:Int),((Go.Lib.repeatL ([120]:List UInt8) (Int.toNat (IntKind.wrap .i64 ((IntKind.wrap .i64 ((8191:Int)+(Int.tmod (IntKind.wrap .i64 ((UInt8.toNat p0:Nat):Int)) (3:Int))))-(9:Int))))),(([]:List (Int×Int)),((0:Int),((0:Int),(false,((0:UInt8),([]:List UInt8)))))))))) fun y1=>(cond ((decide ((0:Int)<=(IntKind.wrap .i64 ((8191:Int)+(Int.tmod (IntKind.wrap .i64 ((UInt8.toNat p0:Nat):Int)) (3:Int))))))&&((decide ((IntKind.wrap .i64 ((8191:Int)+(Int.tmod (IntKind.wrap .i64 ((UInt8.toNat p0:Nat):Int)) (3:Int))))<=(140737488355328:Int)))&&(Nat.ble (List.length ([0]:List UInt8)*Int.toNat (IntKind.wrap .i64 ((8191:Int)+(Int.tmod (IntKind.wrap .i64 ((UInt8.toNat p0:Nat):Int)) (3:Int))))) jJ))) (Option.bind (zG N (([97]:List UInt8),((5:Int),((Go.Lib.repeatL ([0]:List UInt8) (Int.toNat (IntKind.wrap .i64 ((8191:Int)+(Int.tmod (IntKind.wrap .i64 ((UInt8.toNat p0:Nat):Int)) (3:Int)))))),(([]:List (Int×Int)),((0:Int),((0:Int),(false,((0:UInt8),([]:List UInt8)))))))))) fun y2=>(Option.bind (some (true,())) fun y3=>(cond y3.1 (cond (y1.2.1==(decide ((IntKind.wrap .i64 ((8191:Int)+(Int.tmod (IntKind.wrap .i64 ((UInt8.toNat p0:Nat):Int)) (3:Int))))<=(8192:Int)))) (cond (!y1.2.1) (cond y2.2.1 (cond (decide ((IntKind.wrap .i64 ((8191:Int)+(Int.tmod (IntKind.wrap .i64 ((UInt8.toNat p0:Nat):Int)) (3:Int))))<(((List.length y2.1):Nat):Int))) (Option.bind (zX N (([97]:List UInt8),((5:Int),((Go.Lib.repeatL ([0]:List UInt8) (Int.toNat (IntKind.wrap .i64 ((8191:Int)+(Int.tmod (IntKind.wrap .i64 ((UInt8.toNat p0:Nat):Int)) (3:Int)))))),(([]:List (Int×Int)),((0:Int),((0:Int),(false,((0:UInt8),([]:List UInt8)))))))))) fun y4=>(some ((y4.1==(1:Int)),()))) (some (false,()))) (some (false,()))) (cond ((((List.length y1.1):Nat):Int)==(IntKind.wrap .i64 ((IntKind.wrap .i64 ((8191:Int)+(Int.tmod (IntKind.wrap .i64 ((UInt8.toNat p0:Nat):Int)) (3:Int))))+(2:Int)))) (cond y2.2.1 (cond (decide ((IntKind.wrap .i64 ((8191:Int)+(Int.tmod (IntKind.wrap .i64 ((UInt8.toNat p0:Nat):Int)) (3:Int))))<(((List.length y2.1):Nat):Int))) (Option.bind (zX N (([97]:List UInt8),((5:Int),((Go.Lib.repeatL ([0]:List UInt8) (Int.toNat (IntKind.wrap .i64 ((8191:Int)+(Int.tmod (IntKind.wrap .i64 ((UInt8.toNat p0:Nat):Int)) (3:Int)))))),(([]:List (Int×Int)),((0:Int),((0:Int),(false,((0:UInt8),([]:List UInt8)))))))))) fun y5=>(some ((y5.1==(1:Int)),()))) (some (false,()))) (some (false,()))) (some (false,())))) (some (false,()))) (some (false,()))))) none)) none)
end Go.Proofs.Model
